/- A program logic at the level of values: parts V27 to V29. -/
import Derived.Test.YtaackmiajgapoaaGreatDoorVB
/- A program logic at the level of values: an empty slice in a variable's field, as a chain that is to grow. -/
set_option linter.unusedVariables false
set_option linter.unusedSimpArgs false
namespace Go.Proofs.YtaackmiajgapoaaGreatDoor.V
open Go
section
variable {P : Program} {G : Nat → Option (List PV)} {st : VS}

theorem RepT.locs_some {gh : Gh} {locs locs' : Nat → Option (List PV)} {chs : Nat → Option Chain} {nx : Nat} (hl : ∀ d, (locs d).isSome = true → (locs' d).isSome = true) : ∀ {p : PV} {v : Value}, RepT gh locs chs nx p v → RepT gh locs' chs nx p v
  | .top, _, h => trivial
  | .gd true p, v, h => RepT.locs_some hl (p := p) h
  | .gd false _, v, h => h
  | .loc d off, v, h => ⟨hl d h.1, h.2⟩
  | .tsl _ _, _, h => h
  | .trow _ _ _ _, _, h => h
  | .val _, _, h => h
  | .agg _, _, h => h
  | .tup _, _, h => h
  | .nils, _, h => h
  | .slice _, _, h => h
  | .box _ _, _, h => h
  | .row _ _, _, h => h
  | .func _ _, _, h => h

/-- An empty slice in a variable's field, as a chain that is to grow. -/
theorem VWp_promoteL {c : Code} {Q : VExit → VS → Prop} (b j k : Nat) (e : TypeId) (sz : Nat) (cs : List PV) (hk : st.chs k = none) (hb : st.locs b = some cs) (hj : j < cs.length) (hi : cs[j] = .nils)
    (h : VWp P G c Q { st with locs := upd st.locs b (some (cs.set j (.tsl k 0))), chs := upd st.chs k (some ⟨[], e, sz, false⟩) }) : VWp P G c Q st := by
  intro w0 gh0 nx0 a w gh hs
  obtain ⟨gh', hs', hg, _, _⟩ := hs.nil_chain hk e sz false
  have hsome : ∀ d, (st.locs d).isSome = true → (upd st.locs b (some (cs.set j (.tsl k 0))) d).isSome = true := by
    intro d hd
    by_cases e' : d = b
    · subst e'; rw [upd_same]; rfl
    · rw [upd_ne _ _ _ _ e']; exact hd
  refine h w0 gh0 nx0 a w gh' ⟨hs'.sh, hs'.n, hs'.defers, fun i => (hs'.tmps i).locs_some hsome, fun d cs' e' => ?_, hs'.lown, hs'.chs, hs'.step⟩
  by_cases ed : d = b
  · subst ed
    have e2 : (upd st.locs d (some (cs.set j (.tsl k 0)))) d = some cs' := e'
    rw [upd_same] at e2
    obtain rfl := Option.some.inj e2
    obtain ⟨h1, cur, ty, h2, h3, h4⟩ := hs'.locs d cs hb
    refine ⟨h1, cur, ty, h2, by rw [List.length_set]; exact h3, fun i hi' => ?_⟩
    have hi2 : i < cs.length := by rw [List.length_set] at hi'; exact hi'
    obtain ⟨h5, h6⟩ := h4 i hi2
    refine ⟨?_, h6⟩
    rw [List.getElem_set]
    split
    · rename_i ej
      subst ej
      rw [hi] at h5
      have := h5.nils_inv
      refine ⟨⟨[], e, sz, false⟩, upd_same _ _ _, Nat.le_refl _, fun _ => ?_⟩
      rw [hg, this]
      rfl
    · exact h5.locs_some hsome
  · have e2 : (upd st.locs b (some (cs.set j (.tsl k 0)))) d = some cs' := e'
    rw [upd_ne _ _ _ _ ed] at e2
    obtain ⟨h1, cur, ty, h2, h3, h4⟩ := hs'.locs d cs' e2
    exact ⟨h1, cur, ty, h2, h3, fun i hi' => ⟨(h4 i hi').1.locs_some hsome, (h4 i hi').2⟩⟩
end
end Go.Proofs.YtaackmiajgapoaaGreatDoor.V

/- A program logic at the level of values: a region whose operations' order is drawn, and in which some operations read chains that those beside them don't change. -/
set_option linter.unusedVariables false
set_option linter.unusedSimpArgs false
namespace Go.Proofs.YtaackmiajgapoaaGreatDoor.V
open Go

/-- A value without what others may change, but for some chains. -/
def keepT (rc : List Nat) : PV → PV
  | .tsl k n => if rc.contains k = true then .tsl k n else .top
  | .trow k n i o => if rc.contains k = true then .trow k n i o else .top
  | .gd b p => .gd b (keepT rc p)
  | p => p
def bareC (rc : List Nat) (st : VS) : VS := { st with tmps := fun i => keepT rc (st.tmps i), locs := fun d => (st.locs d).map (List.map (keepT rc)), chs := fun k => if rc.contains k = true then st.chs k else none, sh := { st.sh with mem := fun _ => none } }
def viewC (rx rc : List Nat) (i : Nat) (st : VS) : VS := if rx.contains i = true then bareC rc st else bare st
def chSame (rc : List Nat) (st s : VS) : Prop := ∀ k, rc.contains k = true → s.chs k = st.chs k

theorem chSame_mem (rc : List Nat) (st s : VS) : chSame rc st s = ∀ k ∈ rc, s.chs k = st.chs k := by
  unfold chSame
  simp only [List.contains_eq_mem, decide_eq_true_eq]

def vDOpC (rx nd rc : List Nat) (P : Program) (G : Nat → Option (List PV)) (T : Tb) (p : Bool) (i : Nat) (g : Option Bool) (o : Oper) (st : VS) (K : VS → Prop) : Prop :=
  match p, isPop o.op with
  | true, _ => pureP g o.dst st (rOf P G (viewC rx rc i st) g o.op) K
  | false, true => pureK g o.dst st (rOf P G st g o.op) K
  | false, false => vOp P G T g o st (fun s => (nd.contains i = true → chSame rc st s) ∧ K s) noPan

def vDC (rx nd rc : List Nat) (P : Program) (G : Nat → Option (List PV)) (T : Tb) (ops : List Oper) (Q : VExit → VS → Prop) : List (Bool × Nat) → VS → Prop
  | [], st => Q .normal st
  | (p, i) :: r, st => match ops[i]? with
    | none => False
    | some o => match o.guard with
      | none => vDOpC rx nd rc P G T p i none o st (vDC rx nd rc P G T ops Q r)
      | some (j, want) => match guardOf ops j want st with
        | some b => vDOpC rx nd rc P G T p i (some b) o st (vDC rx nd rc P G T ops Q r)
        | none => False

section
variable {rx nd rc : List Nat} {P : Program} {G : Nat → Option (List PV)} {w0 : World} {gh0 : Gh} {nx0 : Nat} {st : VS} {a : Act} {w : World} {gh : Gh}

theorem keepT_rep {locs locs' : Nat → Option (List PV)} {chs : Nat → Option Chain} {nx : Nat} (hl : ∀ d, (locs d).isSome = true → (locs' d).isSome = true) : ∀ {p : PV} {v : Value}, RepT gh locs chs nx p v → RepT gh locs' (fun k => if rc.contains k = true then chs k else none) nx (keepT rc p) v
  | .tsl k n, v, h => by
    unfold keepT
    split
    · rename_i hk
      obtain ⟨c, e, h2⟩ := h
      exact ⟨c, by simp only; rw [if_pos hk]; exact e, h2⟩
    · trivial
  | .trow k n i o, v, h => by
    unfold keepT
    split
    · rename_i hk
      obtain ⟨c, e, h2⟩ := h
      exact ⟨c, by simp only; rw [if_pos hk]; exact e, h2⟩
    · trivial
  | .gd true p, v, h => keepT_rep (p := p) (v := v) hl h
  | .gd false p, v, h => h
  | .loc d _, v, h => ⟨hl d h.1, h.2⟩
  | .top, _, _ => trivial
  | .val _, _, h => h
  | .agg _, _, h => h
  | .tup _, _, h => h
  | .nils, _, h => h
  | .slice _, _, h => h
  | .box _ _, _, h => h
  | .row _ _, _, h => h
  | .func _ _, _, h => h
theorem Sim.bareC (h : Sim P G w0 gh0 nx0 st a w gh) : Sim P G w0 gh0 nx0 (V.bareC rc st) a w gh := by
  have hl : ∀ d, (st.locs d).isSome = true → ((V.bareC rc st).locs d).isSome = true := fun d hd => by
    show ((st.locs d).map _).isSome = true
    simpa using hd
  refine ⟨⟨h.sh.mem, h.sh.glob, (fun b cs e => by cases e), h.sh.nomem, h.sh.lt⟩, h.n, h.defers, fun i => keepT_rep hl (h.tmps i), fun d cs e => ?_, h.lown, (fun k c e => ?_), h.step⟩
  · have e' : (st.locs d).map (List.map (keepT rc)) = some cs := e
    obtain ⟨cs', e1, rfl⟩ := Option.map_eq_some_iff.1 e'
    obtain ⟨h1, cur, ty, h2, h3, h4⟩ := h.locs d cs' e1
    refine ⟨h1, cur, ty, h2, by simpa using h3, fun k hk => ?_⟩
    have hk' : k < cs'.length := by simpa using hk
    rw [List.getElem_map]
    exact ⟨keepT_rep hl (h4 k hk').1, (h4 k hk').2⟩
  · have e' : (if rc.contains k = true then st.chs k else none) = some c := e
    split at e'
    · exact h.chs k c e'
    · cases e'
theorem bareC_up {p : PV} {v : Value} (h : RepT gh (V.bareC rc st).locs (V.bareC rc st).chs (V.bareC rc st).sh.next p v) : RepT gh st.locs st.chs st.sh.next p v :=
  RepT.mono (MemLe.refl _) (fun _ _ => rfl) (Nat.le_refl _) (fun d hd => ⟨by
    have : ((st.locs d).map (List.map (keepT rc))).isSome = true := hd
    simpa using this, rfl⟩) (fun k c e => by
      have e' : (if rc.contains k = true then st.chs k else none) = some c := e
      split at e'
      · exact ⟨c, e', Nat.le_refl _, fun _ => ⟨rfl, rfl⟩⟩
      · cases e') h
theorem viewC_sound (h : Sim P G w0 gh0 nx0 st a w gh) {i : Nat} {g : Option Bool} (hg : onG g) {o : Oper} (hp : (rOf P G (viewC rx rc i st) g o.op).pre) : Sound P gh st a w o (rOf P G (viewC rx rc i st) g o.op) := by
  unfold viewC at *
  split
  · rename_i hi
    rw [if_pos hi] at hp
    obtain ⟨v, h1, h2, h3⟩ := rOf_sound (h.bareC (rc := rc)) hg hp
    exact ⟨v, h1, bareC_up h2, h3⟩
  · rename_i hi
    rw [if_neg hi] at hp
    exact bare_sound h hg hp
theorem bareC_put (st : VS) (y : Nat) (v : PV) : bareC rc (st.put (some y) v) = (bareC rc st).put (some y) (keepT rc v) := by
  unfold bareC VS.put
  congr 1
  funext i
  show keepT rc (upd st.tmps y v i) = upd (fun i => keepT rc (st.tmps i)) y (keepT rc v) i
  by_cases e : i = y
  · subst e; rw [upd_same, upd_same]
  · rw [upd_ne _ _ _ _ e, upd_ne _ _ _ _ e]
theorem viewC_put (i : Nat) (st : VS) (y : Nat) (v : PV) : ∃ v', viewC rx rc i (st.put (some y) v) = (viewC rx rc i st).put (some y) v' := by
  unfold viewC
  split
  · exact ⟨_, bareC_put st y v⟩
  · exact ⟨_, bare_put st y v⟩
theorem vDOp_monoC {T : Tb} {p : Bool} {i : Nat} {g : Option Bool} {o : Oper} {K K' : VS → Prop} (h : ∀ s, K s → K' s) (k : vDOpC rx nd rc P G T p i g o st K) : vDOpC rx nd rc P G T p i g o st K' := by
  unfold vDOpC at *
  split at k
  · exact pureP_mono h k
  · exact pureK_mono h k
  · exact vOp_mono (fun s x => ⟨x.1, h s x.2⟩) (fun _ _ x => x) k

theorem vDOp_soundC {T : Tb} (hT : TabOk P G T) (h : Sim P G w0 gh0 nx0 st a w gh) {p : Bool} {i : Nat} {g : Option Bool} (hg : onG g) {o : Oper} {K : VS → Prop} {Q : VExit → VS → Prop} {K' : Act → World → Prop}
    (hk : vDOpC rx nd rc P G T p i g o st K) (hK : ∀ st' a' w' gh', K st' → Sim P G w0 gh0 nx0 st' a' w' gh' → K' a' w') : o.wp P a w K' (WQ P G w0 gh0 nx0 Q) := by
  unfold vDOpC at hk
  split at hk
  · exact pureP_sound h hg (viewC_sound h hg) hk hK
  · exact pureK_sound h hg (rOf_sound h hg) hk hK
  · exact vOp_sound hT h hg (vOp_mono (fun _ x => x.2) (fun _ _ x => x.elim) hk) hK

theorem vDOp_skipC {T : Tb} (h : Sim P G w0 gh0 nx0 st a w gh) {p : Bool} {i : Nat} {o : Oper} {K : VS → Prop} (hk : vDOpC rx nd rc P G T p i (some false) o st K) : ∃ st' gh', K st' ∧ Sim P G w0 gh0 nx0 st' (a.put o.dst undef) w gh' := by
  unfold vDOpC at hk
  split at hk
  · obtain ⟨hd, _, hk⟩ := hk
    exact ⟨_, gh, hk, h.put hd rfl⟩
  · exact pureK_skip h hk
  · obtain ⟨st', gh', h1, h2⟩ := vOp_skip h hk
    exact ⟨st', gh', h1.2, h2⟩

def vDAtC (rx nd rc : List Nat) (P : Program) (G : Nat → Option (List PV)) (T : Tb) (ops : List Oper) (p : Bool) (i : Nat) (st : VS) (K : VS → Prop) : Prop :=
  match ops[i]? with
  | none => False
  | some o => match o.guard with
    | none => vDOpC rx nd rc P G T p i none o st K
    | some (j, want) => match guardOf ops j want st with
      | some b => vDOpC rx nd rc P G T p i (some b) o st K
      | none => False

theorem vD_consC {T : Tb} (ops : List Oper) (Q : VExit → VS → Prop) (p : Bool) (i : Nat) (r : List (Bool × Nat)) (st : VS) : vDC rx nd rc P G T ops Q ((p, i) :: r) st = vDAtC rx nd rc P G T ops p i st (vDC rx nd rc P G T ops Q r) := by
  unfold vDC vDAtC
  rfl

theorem vDAt_monoC {T : Tb} {ops : List Oper} {p : Bool} {i : Nat} {K K' : VS → Prop} (h : ∀ s, K s → K' s) (k : vDAtC rx nd rc P G T ops p i st K) : vDAtC rx nd rc P G T ops p i st K' := by
  unfold vDAtC at *
  split at k
  · exact k
  · split at k
    · exact vDOp_monoC h k
    · split at k
      · exact vDOp_monoC h k
      · exact k

theorem vDOp_frameC {T : Tb} {q : Bool} {i : Nat} {g : Option Bool} {o : Oper} {y : Nat} {v : PV} {K : VS → Prop} (hd : o.dst ≠ some y) (hy : Operand.tmp y ∉ o.op.operands.toList) (h : vDOpC rx nd rc P G T q i g o (st.put (some y) v) K) :
    vDOpC rx nd rc P G T q i g o st fun st2 => After o st st2 ∧ ((nd.contains i = true ∨ q = true) → chSame rc st st2) ∧ K (st2.put (some y) v) := by
  unfold vDOpC at *
  split at h
  · obtain ⟨v', hv'⟩ := viewC_put (rx := rx) (rc := rc) i st y v
    rw [hv', rOf_like (like_put (G := G) (viewC rx rc i st) (v := v') hy) g] at h
    cases g with
    | none => exact ⟨h.1, h.2.1, after_put o st _, (fun _ k _ => by cases o.dst <;> rfl), by rw [← put_swap st hd]; exact h.2.2⟩
    | some b => exact ⟨h.1, h.2.1, after_put o st _, (fun _ k _ => by cases o.dst <;> rfl), by rw [← put_swap st hd]; exact h.2.2⟩
  · have hh := pureK_frame (rOf_like (like_put (G := G) st (v := v) hy) g) hd h
    cases g with
    | none => exact ⟨hh.1, hh.2.1, fun f => ⟨(hh.2.2 f).1, (fun _ k _ => by cases o.dst <;> rfl), (hh.2.2 f).2⟩⟩
    | some b => exact ⟨hh.1, hh.2.1, fun f => ⟨(hh.2.2 f).1, (fun _ k _ => by cases o.dst <;> rfl), (hh.2.2 f).2⟩⟩
  · rename_i hp
    refine vOp_mono (fun s x => ?_) (fun _ _ x => x) (vOp_frame hp hd hy h)
    exact ⟨fun hn k hk => x.2.1 hn k hk, x.1, fun hn => hn.elim (fun hn k hk => x.2.1 hn k hk) (fun hq => by cases hq), x.2.2⟩

theorem swapC {T : Tb} {ops : Array Oper} {i j : Nat} {q : Bool} {x y : Oper} (hi : ops[i]? = some x) (hj : ops[j]? = some y) (hin : indep ops x y = true) (hnd : rx.contains i = true → nd.contains j = true ∨ q = true) {K : VS → Prop} (h : vDAtC rx nd rc P G T ops.toList true i st fun s => vDAtC rx nd rc P G T ops.toList q j s K) :
    vDAtC rx nd rc P G T ops.toList q j st fun s => vDAtC rx nd rc P G T ops.toList true i s K := by
  simp only [indep, Bool.and_eq_true, Bool.or_eq_true, Bool.not_eq_true'] at hin
  obtain ⟨⟨hap, hsome⟩, hmem⟩ := hin
  obtain ⟨d, hd⟩ := Option.isSome_iff_exists.1 hsome
  obtain ⟨a1, a2, a3⟩ := Oper.apart_spec hap
  have hi' : ops.toList[i]? = some x := by simpa using hi
  have hj' : ops.toList[j]? = some y := by simpa using hj
  -- the pure one, at a state that is like this one
  obtain ⟨gi, v, hv⟩ : ∃ (gi : Option Bool) (v : PV), vDAtC rx nd rc P G T ops.toList q j (st.put (some d) v) K ∧ ∀ s, After y st s → ((nd.contains j = true ∨ q = true) → chSame rc st s) → K (s.put (some d) v) → vDAtC rx nd rc P G T ops.toList true i s K := by
    have like : ∀ s, After y st s → ((nd.contains j = true ∨ q = true) → chSame rc st s) → Like G x.op (viewC rx rc i st) (viewC rx rc i s) := by
      intro s hs hro
      unfold viewC
      by_cases hrx : rx.contains i = true
      · rw [if_pos hrx, if_pos hrx]
        have hch := hro (hnd hrx)
        refine ⟨fun hl => ?_, ?_, rfl, fun z hz => ?_⟩
        · rcases hmem with hm | hm
          · show (fun d => (s.locs d).map _) = _
            rw [hs.locs hm]; rfl
          · rw [hm] at hl; cases hl
        · funext k
          show (if rc.contains k = true then s.chs k else none) = if rc.contains k = true then st.chs k else none
          by_cases hk : rc.contains k = true
          · rw [if_pos hk, if_pos hk, hch k hk]
          · rw [if_neg hk, if_neg hk]
        · cases z with
          | tmp t =>
            show keepT rc (s.tmps t) = keepT rc (st.tmps t)
            rw [hs.tmps t]
            intro ht
            exact looks_op (a3 t ht) hz
          | _ => rfl
      · rw [if_neg hrx, if_neg hrx]
        refine ⟨fun hl => ?_, rfl, rfl, fun z hz => ?_⟩
        · rcases hmem with hm | hm
          · show (fun d => (s.locs d).map _) = _
            rw [hs.locs hm]; rfl
          · rw [hm] at hl; cases hl
        · cases z with
          | tmp t =>
            show bareT (s.tmps t) = bareT (st.tmps t)
            rw [hs.tmps t]
            intro ht
            exact looks_op (a3 t ht) hz
          | _ => rfl
    unfold vDAtC at h
    rw [hi'] at h
    simp only at h
    split at h
    · rename_i hgd
      simp only [vDOpC] at h
      obtain ⟨h1, h2, h3⟩ := h
      rw [hd] at h3
      refine ⟨none, _, h3, fun s hs hro hk => ?_⟩
      unfold vDAtC
      rw [hi']
      simp only [hgd, vDOpC]
      rw [rOf_like (like s hs hro)]
      refine ⟨?_, h2, by rw [hd]; exact hk⟩
      rw [hd] at h1 ⊢
      show d < s.n
      rw [hs.n]; exact h1
    · rename_i jj want hgd
      split at h
      · rename_i b hb
        simp only [vDOpC] at h
        obtain ⟨h1, h2, h3⟩ := h
        rw [hd] at h3
        refine ⟨some b, _, h3, fun s hs hro hk => ?_⟩
        unfold vDAtC
        rw [hi']
        have hgs : guardOf ops.toList jj want s = some b := by
          rw [← hb]
          cases hyd : y.dst with
          | none =>
            have : s.tmps = st.tmps := by
              funext t
              exact hs.tmps t (by rw [hyd]; intro e; cases e)
            unfold guardOf
            rw [this]
          | some e =>
            exact guard_tmp (a3 e hyd) hgd st s fun t ht => hs.tmps t (by rw [hyd]; intro e'; injection e' with e'; exact ht e'.symm)
        simp only [hgd, hgs, vDOpC]
        rw [rOf_like (like s hs hro)]
        refine ⟨?_, h2, by rw [hd]; exact hk⟩
        rw [hd] at h1 ⊢
        show d < s.n
        rw [hs.n]; exact h1
      · exact h.elim
  obtain ⟨hv, hback⟩ := hv
  unfold vDAtC at hv ⊢
  rw [hj'] at hv ⊢
  simp only at hv ⊢
  have hyl := a1 d hd
  have hyd := a2 d hd
  have fr : ∀ g, vDOpC rx nd rc P G T q j g y (st.put (some d) v) K → vDOpC rx nd rc P G T q j g y st fun s => vDAtC rx nd rc P G T ops.toList true i s K := fun g hg =>
    vDOp_monoC (fun s hs => hback s hs.1 hs.2.1 hs.2.2) (vDOp_frameC hyd (looks_op hyl) hg)
  split at hv
  · exact fr _ hv
  · rename_i jj want hgd
    rw [guard_tmp hyl hgd st (st.put (some d) v) (fun t ht => upd_ne _ _ _ _ ht)] at hv
    split at hv
    · exact fr _ hv
    · exact hv.elim
/-- An operation that may come ahead of one that reads chains leaves them. -/
def ndP (cl : List (List Nat)) (ops : Array Oper) (rx nd : List Nat) (z : Bool × Nat) : Prop := z.1 = true ∨ nd.contains z.2 = true ∨ ∀ i x o, rx.contains i = true → ops[i]? = some x → ops[z.2]? = some o → (cl.getD z.2 []).contains i = true ∨ indep ops x o = false
def ndB (cl : List (List Nat)) (ops : Array Oper) (rx nd : List Nat) (z : Bool × Nat) : Bool := z.1 || nd.contains z.2 || rx.all fun i => (cl.getD z.2 []).contains i || match ops[i]?, ops[z.2]? with | some x, some o => !indep ops x o | _, _ => true
theorem ndB_P {cl : List (List Nat)} {ops : Array Oper} {rx nd : List Nat} {z : Bool × Nat} (h : ndB cl ops rx nd z = true) : ndP cl ops rx nd z := by
  simp only [ndB, Bool.or_eq_true, List.all_eq_true] at h
  rcases h with (h | h) | h
  · exact .inl h
  · exact .inr (.inl h)
  · refine .inr (.inr fun i x o hi hx ho => ?_)
    rcases h i (by simpa using hi) with this | this
    · exact .inl this
    · rw [hx, ho] at this
      exact .inr (by simpa using this)
theorem bubbleC {T : Tb} {ops : Array Oper} {Q : VExit → VS → Prop} {p : Bool} {i : Nat} {y : Oper} (hi : ops[i]? = some y) {post : List (Bool × Nat)} : ∀ (pre : List (Bool × Nat)) (st : VS),
    (∀ z ∈ pre, z.1 = true ∧ (rx.contains z.2 = true → nd.contains i = true ∨ p = true) ∧ ∃ x, ops[z.2]? = some x ∧ indep ops x y = true) → vDC rx nd rc P G T ops.toList Q (pre ++ (p, i) :: post) st → vDC rx nd rc P G T ops.toList Q ((p, i) :: (pre ++ post)) st
  | [], st, _, h => h
  | (q, j) :: pre, st, hz, h => by
    obtain ⟨rfl, hnd, x, hx, hin⟩ := hz (q, j) (by simp)
    rw [List.cons_append, vD_consC] at h
    rw [vD_consC]
    have h2 := vDAt_monoC (fun s hs => bubbleC hi pre s (fun z hz' => hz z (by simp [hz'])) hs) h
    simp only [vD_consC] at h2
    have h3 := swapC (P := P) (G := G) hx hi hin hnd h2
    refine vDAt_monoC (fun s hs => ?_) h3
    rw [List.cons_append, vD_consC]
    exact hs

theorem vDAt_soundC {T : Tb} (hT : TabOk P G T) (h : Sim P G w0 gh0 nx0 st a w gh) {ops : Array Oper} {p : Bool} {i : Nat} {K : VS → Prop} {Q : VExit → VS → Prop} {K' : Act → World → Prop} (hk : vDAtC rx nd rc P G T ops.toList p i st K)
    (hK : ∀ st' a' w' gh', K st' → Sim P G w0 gh0 nx0 st' a' w' gh' → K' a' w') : wpOp P ops (WQ P G w0 gh0 nx0 Q) i K' a w := by
  unfold vDAtC at hk
  unfold wpOp
  simp only [Array.getElem?_toList] at hk
  split at hk
  · exact hk.elim
  · rename_i o ho
    rw [ho]
    simp only
    split at hk
    · rename_i hgd
      have hw : Region.wanted o (yielded ops a.tmps) = true := by simp [Region.wanted, hgd]
      rw [if_pos hw]
      exact .inl (vDOp_soundC hT h (g := none) trivial hk hK)
    · rename_i j want hgd
      split at hk
      · rename_i b hb
        rw [guardOf_sound h hgd hb]
        cases b with
        | true => exact .inl (vDOp_soundC hT h (g := some true) rfl hk hK)
        | false =>
          obtain ⟨st', gh', hk', hs'⟩ := vDOp_skipC h hk
          exact hK _ _ _ _ hk' hs'
      · exact hk.elim

theorem vD_anyC {T : Tb} (hT : TabOk P G T) {md : Region.Mode} {ops : Array Oper} {Q : VExit → VS → Prop} {cl : List (List Nat)} (hcl : closOk md ops cl = true) : ∀ (n : Nat) (c : List (Bool × Nat)) (listed : Array Bool) (st : VS) (a : Act) (w : World) (gh : Gh), c.length = n →
    Sim P G w0 gh0 nx0 st a w gh → vDC rx nd rc P G T ops.toList Q c st → pairsOk md ops cl c = true → (∀ z ∈ c, z.2 < ops.size) → (∀ z ∈ c, ndP cl ops rx nd z) → nodupB (c.map Prod.snd) = true → listed.size = ops.size →
    (∀ i, i < ops.size → (listed.getD i false = false ↔ i ∈ c.map Prod.snd)) → (∀ i o, ops[i]? = some o → listed.getD i false = true → ∀ e ∈ o.after, Region.binds md e = true → listed.getD e.on false = true) →
    wpAny P md ops (WQ P G w0 gh0 nx0 Q) n listed a w
  | 0, c, listed, st, a, w, gh, hn, h, hv, hp, hlt, hN, hnd, hsz, hli, dc => by
    have hc : c = [] := List.length_eq_zero_iff.1 hn
    subst hc
    refine ⟨?_, st, gh, hv, h⟩
    unfold Region.ready
    refine List.filter_eq_nil_iff.2 fun i hi => ?_
    have hi' : i < ops.size := by simpa using hi
    have := (not_congr (hli i hi')).2 (by simp)
    have e : listed.getD i true = true := by
      have h1 : listed.getD i false = true := by simpa using this
      simp [hsz, hi'] at h1 ⊢
      exact h1
    simp [e]
  | n + 1, c, listed, st, a, w, gh, hn, h, hv, hp, hlt, hN, hnd, hsz, hli, dc => by
    refine ⟨?_, ?_⟩
    · intro hr
      exfalso
      obtain ⟨⟨p, i⟩, r, rfl⟩ : ∃ x r, c = x :: r := by
        cases c with
        | nil => simp at hn
        | cons x r => exact ⟨x, r, rfl⟩
      obtain ⟨o, ho, he⟩ := pairsOk_head hp
      have hi' : i < ops.size := hlt _ (List.mem_cons_self ..)
      have hun : listed.getD i false = false := (hli i hi').2 (by simp)
      have : i ∈ Region.ready md ops listed := by
        unfold Region.ready
        refine List.mem_filter.2 ⟨by simpa using hi', ?_⟩
        have e1 : listed.getD i true = false := by
          simp [hsz, hi'] at hun ⊢
          exact hun
        simp only [e1, ho, Bool.not_false, Bool.true_and, Option.map_some, Option.getD_some, Array.all_eq_true']
        intro e hm
        cases hb : Region.binds md e with
        | false => rfl
        | true =>
          obtain ⟨q1, q2, q3⟩ := he e hm hb
          have : listed.getD e.on false = true := by
            cases hx : listed.getD e.on false with
            | true => rfl
            | false =>
              have := (hli e.on q1).1 hx
              simp at this
              rcases this with h5 | h5
              · exact absurd h5 q2
              · exact absurd (by simpa using h5) q3
          simp [this]
      rw [hr] at this
      cases this
    · intro i hi
      unfold Region.ready at hi
      obtain ⟨h1, h2⟩ := List.mem_filter.1 hi
      have hi' : i < ops.size := by simpa using h1
      simp only [Bool.and_eq_true, Bool.not_eq_true'] at h2
      have hun : listed.getD i false = false := by
        have := h2.1
        simp [hsz, hi'] at this ⊢
        exact this
      obtain ⟨y, hy⟩ : ∃ y, ops[i]? = some y := ⟨ops[i], by simp [hi']⟩
      have hready : ∀ e ∈ y.after, Region.binds md e = true → listed.getD e.on false = true := by
        intro e he hb
        have h3 := h2.2
        rw [hy] at h3
        simp only [Option.map_some, Option.getD_some, Array.all_eq_true'] at h3
        have := h3 e he
        simpa [hb] using this
      obtain ⟨⟨p, i'⟩, hm, rfl⟩ := List.mem_map.1 ((hli i hi').1 hun)
      obtain ⟨pre, post, rfl⟩ := List.append_of_mem hm
      have hat := pairsOk_at hp
      have hb := bubbleC (P := P) (G := G) (Q := Q) hy pre st (fun z hz => by
        rcases hat z hz with h4 | ⟨h4, x, y', hx, hy', hin⟩
        · exfalso
          have h5 := clos_listed hcl dc (i' + 1) i' (by omega) y hy hready z.2 h4
          have hz2 := hlt z (by simp [hz])
          have h6 := (hli z.2 hz2).2 (List.mem_map.2 ⟨z, by simp [hz], rfl⟩)
          rw [h5] at h6; cases h6
        · rw [hy] at hy'
          cases hy'
          exact ⟨h4, fun hr => (hN (p, i') (by simp)).elim .inr (fun h => h.elim .inl fun h => (h _ _ _ hr hx hy).elim (fun h4 => by
            exfalso
            have h5 := clos_listed hcl dc (i' + 1) i' (by omega) y hy hready z.2 h4
            have hz2 := hlt z (by simp [hz])
            have h6 := (hli z.2 hz2).2 (List.mem_map.2 ⟨z, by simp [hz], rfl⟩)
            rw [h5] at h6; cases h6) (fun h => absurd hin (by rw [h]; simp))), x, hx, hin⟩) hv
      rw [vD_consC] at hb
      have hnd' := hnd
      rw [List.map_append, List.map_cons] at hnd'
      obtain ⟨n1, n2, n3⟩ := nodupB_drop hnd'
      refine vDAt_soundC hT h hb fun st' a' w' gh' hk hs => ?_
      refine vD_anyC hT hcl n (pre ++ post) _ st' a' w' gh' (by simp at hn ⊢; omega) hs hk (pairsOk_drop hp) (fun z hz => hlt z (by simp at hz ⊢; rcases hz with hz | hz <;> simp [hz])) (fun z hz => hN z (by simp at hz ⊢; rcases hz with hz | hz <;> simp [hz])) (by rw [List.map_append]; exact n1) (by simpa using hsz) ?_ ?_
      · intro j hj
        rw [getD_setB listed i' j (by rw [hsz]; exact hi')]
        by_cases e : j = i'
        · subst e
          simp only [if_true]
          constructor
          · intro h; cases h
          · intro h; rw [List.map_append, List.mem_append] at h; exact absurd h (by rintro (h | h); exact n2 h; exact n3 h)
        · rw [if_neg e, hli j hj]
          simp only [List.map_append, List.map_cons, List.mem_append, List.mem_cons]
          constructor
          · rintro (h | h | h)
            · exact .inl h
            · exact absurd h e
            · exact .inr h
          · rintro (h | h)
            · exact .inl h
            · exact .inr (.inr h)
      · intro j o ho hl e he hb'
        rw [getD_setB listed i' j (by rw [hsz]; exact hi')] at hl
        rw [getD_setB listed i' e.on (by rw [hsz]; exact hi')]
        by_cases ej : j = i'
        · subst ej
          rw [hy] at ho
          cases ho
          have := hready e he hb'
          rw [this]; simp
        · rw [if_neg ej] at hl
          have := dc j o ho hl e he hb'
          rw [this]; simp
where
  getD_setB (listed : Array Bool) (i j : Nat) (h : i < listed.size) : (listed.setIfInBounds i true).getD j false = if j = i then true else listed.getD j false := by
    simp only [Array.getD_eq_getD_getElem?]
    by_cases e : j = i
    · subst e; simp [h]
    · rw [Array.getElem?_setIfInBounds_ne (fun h => e h.symm)]; simp [e]

/-- A REGION WHOSE ORDER IS DRAWN. -/
theorem VWp_drawC {T : Tb} (hT : TabOk P G T) {id : Nat} {ops : Array Oper} {Q : VExit → VS → Prop} (hm : P.follows .mixedOrders = true) (c : List (Bool × Nat)) (hc : drawOk .any ops (clos .any ops) c = true) (hnB : c.all (ndB (clos .any ops) ops rx nd) = true) (h : vDC rx nd rc P G T ops.toList Q c st) : VWp P G (.region id ops true) Q st := by
  intro w0 gh0 nx0 a w gh hs
  simp only [drawOk, Bool.and_eq_true, beq_iff_eq, List.all_eq_true, List.contains_eq_mem, decide_eq_true_eq] at hc
  obtain ⟨⟨⟨⟨⟨h1, h2⟩, h3⟩, h4⟩, h5⟩, h6⟩ := hc
  refine wp_region_any hm ?_
  have hs' : Sim P G w0 gh0 nx0 st a { w with drawn := w.drawn + 1 } gh := ⟨⟨hs.sh.mem, hs.sh.glob, hs.sh.box, hs.sh.nomem, hs.sh.lt⟩, hs.n, hs.defers, hs.tmps, hs.locs, hs.lown, fun k c hk => ⟨(hs.chs k c hk).nil, (hs.chs k c hk).cons⟩, ⟨hs.step.os, hs.step.tape, hs.step.output, hs.step.size, hs.step.blk, hs.step.mle, hs.step.phi, hs.step.nx⟩⟩
  rw [← h3]
  have hf : ∀ i, (Array.replicate c.length false).getD i false = false := by
    intro i
    simp only [Array.getD_eq_getD_getElem?, Array.getElem?_replicate]
    split <;> rfl
  refine vD_anyC hT h1 c.length c _ st a _ gh rfl hs' h h2 (fun z hz => h5 z hz) (fun z hz => ndB_P (List.all_eq_true.1 hnB z hz)) h6 (by simp [h3]) (fun i hi => ⟨fun _ => h4 i (by simpa using hi), fun _ => hf i⟩) (fun i o ho hl => by rw [hf] at hl; cases hl)

theorem drawC_intro {T : Tb} (hT : TabOk P G T) {id : Nat} {ops : Array Oper} {Q : VExit → VS → Prop} {st : VS} (hm : P.follows .mixedOrders = true) (rx nd rc : List Nat) (c : List (Bool × Nat)) (hc : drawOk .any ops (clos .any ops) c = true) (hnB : c.all (ndB (clos .any ops) ops rx nd) = true) (h : vDC rx nd rc P G T ops.toList Q c st) : vDrawn P G id ops Q st := by
  unfold vDrawn; exact VWp_drawC (rx := rx) (nd := nd) (rc := rc) hT hm c hc hnB h
end
end Go.Proofs.YtaackmiajgapoaaGreatDoor.V

/- A program logic at the level of values: a region whose operations' order is drawn, with impure operations that stand beside each other: a tree of orders. -/
set_option linter.unusedVariables false
set_option linter.unusedSimpArgs false
namespace Go.Proofs.YtaackmiajgapoaaGreatDoor.V
open Go

/-- Orders: a pure operation, or an impure one and what else might come in its place. -/
inductive DT where
  | nil
  | pu (i : Nat) (r : DT)
  | im (i : Nat) (r a : DT)
def DT.ids : DT → List (Bool × Nat)
  | .nil => []
  | .pu i r => (true, i) :: r.ids
  | .im i r _ => (false, i) :: r.ids
def DT.isNil : DT → Bool
  | .nil => true
  | _ => false
def DT.heads : DT → List Nat
  | .im i _ a => i :: a.heads
  | _ => []
def DT.front (i : Nat) : DT → DT
  | .nil => .nil
  | .pu j r => if j = i then r else .pu j (r.front i)
  | .im j r a => if j = i then r else a.front i
def preB (md : Region.Mode) (ops : Array Oper) (done : List Nat) (i : Nat) : Bool :=
  match ops[i]? with
  | some o => o.after.toList.all fun e => !Region.binds md e || done.contains e.on
  | none => false
def isNew : Op → Bool
  | .alloc _ | .box _ _ => true
  | _ => false
/-- A load, and a new variable. -/
def indepN (ops : Array Oper) (x y : Oper) : Bool := x.apart ops y && x.dst.isSome && isLoad x.op && x.guard.isNone && isNew y.op
def mayB (ops : Array Oper) (rx nd : List Nat) (i : Nat) (y : Bool × Nat) : Bool :=
  (match ops[i]?, ops[y.2]? with | some x, some o => indep ops x o || (!y.1 && indepN ops x o) | _, _ => false) && (!rx.contains i || y.1 || nd.contains y.2)
def chkT (md : Region.Mode) (ops : Array Oper) (cl : List (List Nat)) (rx nd : List Nat) : Bool → List Nat → DT → Bool
  | _, _, .nil => true
  | _, done, .pu i r => preB md ops done i && r.ids.all (fun y => (cl.getD y.2 []).contains i || mayB ops rx nd i y) && chkT md ops cl rx nd false (i :: done) r
  | alt, done, .im i r a => (alt || ((false, i) :: r.ids).all fun y => (i :: a.heads).contains y.2 || ((false, i) :: r.ids).any fun z => (cl.getD y.2 []).contains z.2) &&
      preB md ops done i && chkT md ops cl rx nd false (i :: done) r && (a.isNil || (!a.heads.isEmpty && chkT md ops cl rx nd true done a && a.ids.isPerm ((false, i) :: r.ids)))
def vDT (rx nd rc : List Nat) (P : Program) (G : Nat → Option (List PV)) (T : Tb) (ops : List Oper) (Q : VExit → VS → Prop) : DT → VS → Prop
  | .nil, st => Q .normal st
  | .pu i r, st => vDAtC rx nd rc P G T ops true i st (vDT rx nd rc P G T ops Q r)
  | .im i r a, st => vDAtC rx nd rc P G T ops false i st (vDT rx nd rc P G T ops Q r) ∧ (a.isNil = false → vDT rx nd rc P G T ops Q a st)

section
variable {rx nd rc : List Nat} {P : Program} {G : Nat → Option (List PV)} {w0 : World} {gh0 : Gh} {nx0 : Nat} {st : VS} {a : Act} {w : World} {gh : Gh}

theorem preB_mono {md : Region.Mode} {ops : Array Oper} {done done' : List Nat} {i : Nat} (hd : ∀ x ∈ done, x ∈ done') (h : preB md ops done i = true) : preB md ops done' i = true := by
  unfold preB at *
  split at h
  · rw [List.all_eq_true] at h ⊢
    intro e he
    have := h e he
    simp only [Bool.or_eq_true, Bool.not_eq_true', List.contains_eq_mem, decide_eq_true_eq] at this ⊢
    exact this.imp_right (hd _)
  · cases h
theorem chkT_mono {md : Region.Mode} {ops : Array Oper} {cl : List (List Nat)} : ∀ (t : DT) (alt : Bool) (done done' : List Nat), (∀ x ∈ done, x ∈ done') → chkT md ops cl rx nd alt done t = true → chkT md ops cl rx nd alt done' t = true
  | .nil, _, _, _, _, _ => rfl
  | .pu i r, alt, done, done', hd, h => by
    simp only [chkT, Bool.and_eq_true] at h ⊢
    exact ⟨⟨preB_mono hd h.1.1, h.1.2⟩, chkT_mono r false _ _ (fun x hx => by
      rcases List.mem_cons.1 hx with rfl | hx
      · simp
      · simp [hd x hx]) h.2⟩
  | .im i r a, alt, done, done', hd, h => by
    simp only [chkT, Bool.and_eq_true] at h ⊢
    refine ⟨⟨⟨h.1.1.1, preB_mono hd h.1.1.2⟩, chkT_mono r false _ _ (fun x hx => by
      rcases List.mem_cons.1 hx with rfl | hx
      · simp
      · simp [hd x hx]) h.1.2⟩, ?_⟩
    have h4 := h.2
    simp only [Bool.or_eq_true, Bool.and_eq_true] at h4 ⊢
    exact h4.imp_right fun h5 => ⟨⟨h5.1.1, chkT_mono a true _ _ hd h5.1.2⟩, h5.2⟩

/-! ### A load, and a new variable -/
theorem newVar_locs {st : VS} {d : Nat} {cs : List PV} (h : st.shr.contains d = false → st.locs d = none) : ∀ x c, st.locs x = some c → (newVar st d cs).locs x = some c := by
  intro x c hx
  unfold newVar
  split
  · exact hx
  · rename_i hs
    show upd st.locs d (some cs) x = some c
    have hd : st.locs d = none := h (by simpa using hs)
    have : x ≠ d := by rintro rfl; rw [hd] at hx; cases hx
    rw [upd_ne _ _ _ _ this]; exact hx
theorem isNew_cases {o : Op} (h : isNew o = true) : (∃ e, o = .alloc e) ∨ ∃ e x, o = .box e x := by
  cases o <;> first | exact .inl ⟨_, rfl⟩ | exact .inr ⟨_, _, rfl⟩ | (simp [isNew] at h)
theorem new_locs {T : Tb} {g : Option Bool} {o : Oper} (ho : isNew o.op = true) {K : VS → Prop} (h : vOp P G T g o st K noPan) : vOp P G T g o st (fun s => (∀ d cs, st.locs d = some cs → s.locs d = some cs) ∧ K s) noPan := by
  unfold vOp at *
  rcases isNew_cases ho with ⟨e, he⟩ | ⟨e, x, he⟩
  · simp only [he] at h ⊢
    cases g with
    | some b => exact h
    | none =>
      refine ⟨h.1, ?_, h.2⟩
      have h1 := h.1
      unfold vAlloc at h1 ⊢
      cases hd : o.dst with
      | none => rw [hd] at h1; exact h1.elim
      | some d =>
        cases hz : zeroPV P e with
        | none => rw [hd, hz] at h1; exact h1.elim
        | some cs =>
          rw [hd, hz] at h1
          exact newVar_locs h1.2
  · simp only [he] at h ⊢
    cases g with
    | some b => exact h
    | none =>
      refine ⟨h.1, ?_, h.2⟩
      have h1 := h.1
      unfold vBox at h1 ⊢
      cases hd : o.dst with
      | none => rw [hd] at h1; exact h1.elim
      | some d =>
        rw [hd] at h1
        simp only at h1 ⊢
        split at h1
        · rename_i hs
          rw [if_pos hs]
          exact newVar_locs (st := { st with chs := (cv st.chs (st.ev G x)).chs }) (fun hf => by rw [hs] at hf; cases hf)
        · rename_i hs
          rw [if_neg hs]
          exact newVar_locs fun _ => h1.2.1
theorem rowCells_le {a b : VS} (hl : ∀ d cs, a.locs d = some cs → b.locs d = some cs) (hc : b.chs = a.chs) (hm : b.sh.mem = a.sh.mem) {p : PV} (hp : (rowCells a p).1) : rowCells b p = rowCells a p := by
  unfold rowCells at *
  split at hp
  · rfl
  · rename_i d off
    split at hp
    · rename_i cs hcs
      simp only [hl d cs hcs, hcs]
    · exact hp.elim
  · simp only [hm]
  · simp only [hc]
  · rfl
theorem vLoad_le {a b : VS} (hl : ∀ d cs, a.locs d = some cs → b.locs d = some cs) (hc : b.chs = a.chs) (hm : b.sh.mem = a.sh.mem) {x : Operand} (he : b.ev G x = a.ev G x) {t : TypeId} {g : Option Bool} (hp : (vLoad P G a g t x).pre) : vLoad P G b g t x = vLoad P G a g t x := by
  unfold vLoad look at *
  rw [he]
  obtain ⟨_, hp⟩ := hp
  have key : ∀ q, (match tAgg P t, tSize P t with
    | some true, some n => (⟨(rowCells a q).1 ∧ (rowCells a q).2.2 + n ≤ (rowCells a q).2.1.length ∧ (((rowCells a q).2.1.drop (rowCells a q).2.2).take n).all isPlain = true, True,
        .agg (((rowCells a q).2.1.drop (rowCells a q).2.2).take n)⟩ : VR)
    | some false, _ => ⟨(rowCells a q).1 ∧ (rowCells a q).2.2 < (rowCells a q).2.1.length, True, (rowCells a q).2.1.getD (rowCells a q).2.2 .top⟩
    | _, _ => .bad).pre → rowCells b q = rowCells a q := by
    intro q hq
    split at hq
    · exact rowCells_le hl hc hm hq.1
    · exact rowCells_le hl hc hm hq.1
    · exact absurd hq (by simp [VR.bad])
  unfold under at *
  split at hp
  · simp only [key _ hp.2]
  · simp only [key _ hp]
theorem swapN {T : Tb} {ops : Array Oper} {i j : Nat} {x y : Oper} (hi : ops[i]? = some x) (hj : ops[j]? = some y) (hin : indepN ops x y = true) (hnd : rx.contains i = true → nd.contains j = true) {K : VS → Prop} (h : vDAtC rx nd rc P G T ops.toList true i st fun s => vDAtC rx nd rc P G T ops.toList false j s K) :
    vDAtC rx nd rc P G T ops.toList false j st fun s => vDAtC rx nd rc P G T ops.toList true i s K := by
  simp only [indepN, Bool.and_eq_true, Option.isNone_iff_eq_none] at hin
  obtain ⟨⟨⟨⟨hap, hsome⟩, hld⟩, hgx⟩, hnew⟩ := hin
  obtain ⟨d, hd⟩ := Option.isSome_iff_exists.1 hsome
  obtain ⟨a1, a2, a3⟩ := Oper.apart_spec hap
  have hi' : ops.toList[i]? = some x := by simpa using hi
  have hj' : ops.toList[j]? = some y := by simpa using hj
  have hpop : isPop y.op = false := by rcases isNew_cases hnew with ⟨e, he⟩ | ⟨e, x, he⟩ <;> rw [he] <;> rfl
  obtain ⟨t, z, hop⟩ : ∃ t z, x.op = .load t z := by
    cases hx : x.op with
    | load t z => exact ⟨_, _, rfl⟩
    | _ => rw [hx] at hld; simp [isLoad] at hld
  unfold vDAtC at h
  rw [hi'] at h
  simp only [hgx, vDOpC] at h
  obtain ⟨h1, h2, h3⟩ := h
  rw [hd] at h3
  have h3 : vDAtC rx nd rc P G T ops.toList false j (st.put (some d) (rOf P G (viewC rx rc i st) none x.op).v) K := h3
  have hback : ∀ s, (∀ d cs, st.locs d = some cs → s.locs d = some cs) → After y st s → (nd.contains j = true → chSame rc st s) → K (s.put (some d) (rOf P G (viewC rx rc i st) none x.op).v) → vDAtC rx nd rc P G T ops.toList true i s K := by
    intro s hl hs hro hk
    unfold vDAtC
    rw [hi']
    simp only [hgx, vDOpC]
    have hev : ∀ (f : PV → PV), (∀ t, Operand.tmp t ∈ x.op.operands.toList → f (s.tmps t) = f (st.tmps t)) := by
      intro f t ht
      rw [hs.tmps t]
      intro e
      exact looks_op (a3 t e) ht
    have hz : z ∈ x.op.operands.toList := by rw [hop]; simp [Op.operands]
    have heq : rOf P G (viewC rx rc i s) none x.op = rOf P G (viewC rx rc i st) none x.op := by
      have h2' := h2
      rw [hop] at h2' ⊢
      by_cases hrx : rx.contains i = true
      · have e1 : ∀ s, viewC rx rc i s = bareC rc s := fun s => if_pos hrx
        rw [e1] at h2'
        rw [e1, e1]
        have hch := hro (hnd hrx)
        refine vLoad_le (a := bareC rc st) (b := bareC rc s) (fun dd cs e => ?_) ?_ rfl ?_ h2'
        · have e' : (st.locs dd).map (List.map (keepT rc)) = some cs := e
          obtain ⟨cs0, e1, rfl⟩ := Option.map_eq_some_iff.1 e'
          show (s.locs dd).map _ = _
          rw [hl dd cs0 e1]; rfl
        · funext k
          show (if rc.contains k = true then s.chs k else none) = if rc.contains k = true then st.chs k else none
          by_cases hk : rc.contains k = true
          · rw [if_pos hk, if_pos hk, hch k hk]
          · rw [if_neg hk, if_neg hk]
        · cases z with
          | tmp t => exact hev (keepT rc) t hz
          | _ => rfl
      · have e1 : ∀ s, viewC rx rc i s = bare s := fun s => if_neg hrx
        rw [e1] at h2'
        rw [e1, e1]
        refine vLoad_le (a := bare st) (b := bare s) (fun dd cs e => ?_) rfl rfl ?_ h2'
        · have e' : (st.locs dd).map (List.map bareT) = some cs := e
          obtain ⟨cs0, e1, rfl⟩ := Option.map_eq_some_iff.1 e'
          show (s.locs dd).map _ = _
          rw [hl dd cs0 e1]; rfl
        · cases z with
          | tmp t => exact hev bareT t hz
          | _ => rfl
    rw [heq]
    refine ⟨?_, h2, by rw [hd]; exact hk⟩
    rw [hd] at h1 ⊢
    show d < s.n
    rw [hs.n]; exact h1
  unfold vDAtC at h3 ⊢
  rw [hj'] at h3 ⊢
  simp only at h3 ⊢
  have hyl := a1 d hd
  have hyd := a2 d hd
  have fr : ∀ g, vDOpC rx nd rc P G T false j g y (st.put (some d) (rOf P G (viewC rx rc i st) none x.op).v) K → vDOpC rx nd rc P G T false j g y st fun s => vDAtC rx nd rc P G T ops.toList true i s K := by
    intro g hg
    have hf := vDOp_frameC hyd (looks_op hyl) hg
    unfold vDOpC at hf ⊢
    rw [hpop] at hf ⊢
    simp only at hf ⊢
    refine vOp_mono (fun s hs => ⟨hs.2.1, hback s hs.1 hs.2.2.1 (fun hn => hs.2.2.2.1 (.inl hn)) hs.2.2.2.2⟩) (fun _ _ x => x) (new_locs hnew hf)
  split at h3
  · exact fr _ h3
  · rename_i jj want hgd
    rw [guard_tmp hyl hgd st (st.put (some d) _) (fun t ht => upd_ne _ _ _ _ ht)] at h3
    split at h3
    · exact fr _ h3
    · exact h3.elim

/-- An alternative is taken. -/
theorem alt_sound {T : Tb} {md : Region.Mode} {ops : Array Oper} {Q : VExit → VS → Prop} {cl : List (List Nat)} {i : Nat} : ∀ (t : DT) (alt : Bool) (done : List Nat) (st : VS), chkT md ops cl rx nd alt done t = true → i ∈ t.heads → vDT rx nd rc P G T ops.toList Q t st →
    vDAtC rx nd rc P G T ops.toList false i st (vDT rx nd rc P G T ops.toList Q (t.front i)) ∧ chkT md ops cl rx nd false (i :: done) (t.front i) = true ∧ t.ids.Perm ((false, i) :: (t.front i).ids)
  | .nil, _, _, _, _, hi, _ => by simp [DT.heads] at hi
  | .pu j r, _, _, _, _, hi, _ => by simp [DT.heads] at hi
  | .im j r a, alt, done, st, hc, hi, h => by
    simp only [chkT, Bool.and_eq_true] at hc
    by_cases e : j = i
    · subst e
      have hf : (DT.im j r a).front j = r := by simp [DT.front]
      rw [hf]
      exact ⟨h.1, hc.1.2, List.Perm.refl _⟩
    · have hf : (DT.im j r a).front i = a.front i := by simp [DT.front, e]
      rw [hf]
      have hia : i ∈ a.heads := by
        simp only [DT.heads, List.mem_cons] at hi
        exact hi.resolve_left fun h => e h.symm
      have hn : a.isNil = false := by
        cases a with
        | nil => simp [DT.heads] at hia
        | _ => rfl
      have h4 := hc.2
      rw [hn] at h4
      simp only [Bool.false_or, Bool.and_eq_true] at h4
      obtain ⟨h5, h6, h7⟩ := alt_sound a true done st h4.1.2 hia (h.2 hn)
      exact ⟨h5, h6, (List.isPerm_iff.1 h4.2).symm.trans h7⟩

/-- A READY OPERATION COMES FIRST. -/
theorem front_sound {T : Tb} {md : Region.Mode} {ops : Array Oper} {Q : VExit → VS → Prop} {cl : List (List Nat)} {p : Bool} {i : Nat} {y : Oper} (hy : ops[i]? = some y) : ∀ (t : DT) (done : List Nat) (st : VS), chkT md ops cl rx nd false done t = true → (p, i) ∈ t.ids → (t.ids.map Prod.snd).Nodup →
    (∀ z ∈ t.ids, (cl.getD i []).contains z.2 = false) → vDT rx nd rc P G T ops.toList Q t st →
    vDAtC rx nd rc P G T ops.toList p i st (vDT rx nd rc P G T ops.toList Q (t.front i)) ∧ chkT md ops cl rx nd false (i :: done) (t.front i) = true ∧ t.ids.Perm ((p, i) :: (t.front i).ids)
  | .nil, _, _, _, hi, _, _, _ => by simp [DT.ids] at hi
  | .pu j r, done, st, hc, hi, hnd, hr, h => by
    simp only [chkT, Bool.and_eq_true] at hc
    by_cases e : j = i
    · subst e
      have hf : (DT.pu j r).front j = r := by simp [DT.front]
      rw [hf]
      have hp : p = true := by
        simp only [DT.ids, List.mem_cons, Prod.mk.injEq] at hi
        rcases hi with hi | hi
        · exact hi.1
        · simp only [DT.ids, List.map_cons, List.nodup_cons] at hnd
          exact absurd (List.mem_map.2 ⟨_, hi, rfl⟩) hnd.1
      subst hp
      exact ⟨h, hc.2, List.Perm.refl _⟩
    · have hf : (DT.pu j r).front i = .pu j (r.front i) := by simp [DT.front, e]
      rw [hf]
      have hir : (p, i) ∈ r.ids := by
        simp only [DT.ids, List.mem_cons, Prod.mk.injEq] at hi
        exact hi.resolve_left fun h => e h.2.symm
      have hnd2 : (r.ids.map Prod.snd).Nodup := by
        simp only [DT.ids, List.map_cons, List.nodup_cons] at hnd
        exact hnd.2
      have hr2 : ∀ z ∈ r.ids, (cl.getD i []).contains z.2 = false := fun z hz => hr z (by simp [DT.ids, hz])
      have ih : ∀ s, vDT rx nd rc P G T ops.toList Q r s → _ := fun s hs => front_sound hy r (j :: done) s hc.2 hir hnd2 hr2 hs
      have hmay := List.all_eq_true.1 hc.1.2 _ hir
      rw [hr (true, j) (by simp [DT.ids])] at hmay
      simp only [Bool.false_or, mayB, Bool.and_eq_true] at hmay
      obtain ⟨hm1, hm2⟩ := hmay
      cases hx : ops[j]? with
      | none => rw [hx] at hm1; cases hm1
      | some x =>
        rw [hx, hy] at hm1
        simp only [Bool.or_eq_true, Bool.and_eq_true, Bool.not_eq_true'] at hm1
        have h2 : vDAtC rx nd rc P G T ops.toList true j st fun s => vDAtC rx nd rc P G T ops.toList p i s (vDT rx nd rc P G T ops.toList Q (r.front i)) := vDAt_monoC (fun s hs => (ih s hs).1) h
        have hnd3 : rx.contains j = true → nd.contains i = true ∨ p = true := fun hrx => by
          simp only [Bool.or_eq_true, Bool.not_eq_true'] at hm2
          rcases hm2 with (hm2 | hm2) | hm2
          · rw [hm2] at hrx; cases hrx
          · exact .inr hm2
          · exact .inl hm2
        have h3 : vDAtC rx nd rc P G T ops.toList p i st fun s => vDAtC rx nd rc P G T ops.toList true j s (vDT rx nd rc P G T ops.toList Q (r.front i)) := by
          rcases hm1 with hm1 | ⟨hp0, hm1⟩
          · exact swapC (P := P) (G := G) hx hy hm1 hnd3 h2
          · subst hp0
            exact swapN (P := P) (G := G) hx hy hm1 (fun hrx => (hnd3 hrx).resolve_right (by simp)) h2
        -- what the rest is made of doesn't hang on the state
        have key : chkT md ops cl rx nd false (i :: j :: done) (r.front i) = true ∧ r.ids.Perm ((p, i) :: (r.front i).ids) := front_chk r (j :: done) hc.2 hir hnd2 hr2
        refine ⟨h3, ?_, ?_⟩
        · simp only [chkT, Bool.and_eq_true]
          refine ⟨⟨preB_mono (fun x hx => by simp [hx]) hc.1.1, ?_⟩, chkT_mono _ _ _ _ (fun x hx => by
            simp only [List.mem_cons] at hx ⊢
            rcases hx with h | h | h
            · exact .inr (.inl h)
            · exact .inl h
            · exact .inr (.inr h)) key.1⟩
          rw [List.all_eq_true]
          intro z hz
          exact List.all_eq_true.1 hc.1.2 z (key.2.mem_iff.2 (by simp [hz]))
        · exact (key.2.cons _).trans (List.Perm.swap _ _ _)
  | .im j r a, done, st, hc, hi, hnd, hr, h => by
    have hc' := hc
    simp only [chkT, Bool.and_eq_true, Bool.false_or] at hc
    have hh := List.all_eq_true.1 hc.1.1.1 _ hi
    have hnone : (((false, j) :: r.ids).any fun z => (cl.getD (p, i).2 []).contains z.2) = false := by
      rw [List.any_eq_false]
      intro z hz
      rw [hr z hz]
      simp
    rw [hnone, Bool.or_false] at hh
    have hih : i ∈ (DT.im j r a).heads := by simpa [DT.heads] using hh
    obtain ⟨h1, h2, h3⟩ := alt_sound _ _ _ _ hc' hih h
    have hp : p = false := by
      have h4 := (h3.mem_iff).1 hi
      simp only [List.mem_cons, Prod.mk.injEq] at h4
      rcases h4 with h4 | h4
      · exact h4.1
      · have h5 := (h3.map Prod.snd).nodup_iff.1 hnd
        simp only [List.map_cons, List.nodup_cons] at h5
        exact absurd (List.mem_map.2 ⟨_, h4, rfl⟩) h5.1
    subst hp
    exact ⟨h1, h2, h3⟩
where
  front_chk {md : Region.Mode} {ops : Array Oper} {cl : List (List Nat)} {p : Bool} {i : Nat} : ∀ (t : DT) (done : List Nat), chkT md ops cl rx nd false done t = true → (p, i) ∈ t.ids → (t.ids.map Prod.snd).Nodup →
    (∀ z ∈ t.ids, (cl.getD i []).contains z.2 = false) → chkT md ops cl rx nd false (i :: done) (t.front i) = true ∧ t.ids.Perm ((p, i) :: (t.front i).ids)
  | .nil, _, _, hi, _, _ => by simp [DT.ids] at hi
  | .pu j r, done, hc, hi, hnd, hr => by
    simp only [chkT, Bool.and_eq_true] at hc
    by_cases e : j = i
    · subst e
      have hf : (DT.pu j r).front j = r := by simp [DT.front]
      rw [hf]
      have hp : p = true := by
        simp only [DT.ids, List.mem_cons, Prod.mk.injEq] at hi
        rcases hi with hi | hi
        · exact hi.1
        · simp only [DT.ids, List.map_cons, List.nodup_cons] at hnd
          exact absurd (List.mem_map.2 ⟨_, hi, rfl⟩) hnd.1
      subst hp
      exact ⟨hc.2, List.Perm.refl _⟩
    · have hf : (DT.pu j r).front i = .pu j (r.front i) := by simp [DT.front, e]
      rw [hf]
      have hir : (p, i) ∈ r.ids := by
        simp only [DT.ids, List.mem_cons, Prod.mk.injEq] at hi
        exact hi.resolve_left fun h => e h.2.symm
      have hnd2 : (r.ids.map Prod.snd).Nodup := by
        simp only [DT.ids, List.map_cons, List.nodup_cons] at hnd
        exact hnd.2
      have key := front_chk r (j :: done) hc.2 hir hnd2 (fun z hz => hr z (by simp [DT.ids, hz]))
      refine ⟨?_, (key.2.cons _).trans (List.Perm.swap _ _ _)⟩
      simp only [chkT, Bool.and_eq_true]
      refine ⟨⟨preB_mono (fun x hx => by simp [hx]) hc.1.1, ?_⟩, chkT_mono _ _ _ _ (fun x hx => by
        simp only [List.mem_cons] at hx ⊢
        rcases hx with h | h | h
        · exact .inr (.inl h)
        · exact .inl h
        · exact .inr (.inr h)) key.1⟩
      rw [List.all_eq_true]
      intro z hz
      exact List.all_eq_true.1 hc.1.2 z (key.2.mem_iff.2 (by simp [hz]))
  | .im j r a, done, hc, hi, hnd, hr => by
    have hc' := hc
    simp only [chkT, Bool.and_eq_true, Bool.false_or] at hc
    have hh := List.all_eq_true.1 hc.1.1.1 _ hi
    have hnone : (((false, j) :: r.ids).any fun z => (cl.getD (p, i).2 []).contains z.2) = false := by
      rw [List.any_eq_false]
      intro z hz
      rw [hr z hz]
      simp
    rw [hnone, Bool.or_false] at hh
    have hih : i ∈ (DT.im j r a).heads := by simpa [DT.heads] using hh
    obtain ⟨h2, h3⟩ := alt_chk _ _ _ hc' hih
    have hp : p = false := by
      have h4 := (h3.mem_iff).1 hi
      simp only [List.mem_cons, Prod.mk.injEq] at h4
      rcases h4 with h4 | h4
      · exact h4.1
      · have h5 := (h3.map Prod.snd).nodup_iff.1 hnd
        simp only [List.map_cons, List.nodup_cons] at h5
        exact absurd (List.mem_map.2 ⟨_, h4, rfl⟩) h5.1
    subst hp
    exact ⟨h2, h3⟩
  alt_chk {md : Region.Mode} {ops : Array Oper} {cl : List (List Nat)} {i : Nat} : ∀ (t : DT) (alt : Bool) (done : List Nat), chkT md ops cl rx nd alt done t = true → i ∈ t.heads →
    chkT md ops cl rx nd false (i :: done) (t.front i) = true ∧ t.ids.Perm ((false, i) :: (t.front i).ids)
  | .nil, _, _, _, hi => by simp [DT.heads] at hi
  | .pu j r, _, _, _, hi => by simp [DT.heads] at hi
  | .im j r a, alt, done, hc, hi => by
    simp only [chkT, Bool.and_eq_true] at hc
    by_cases e : j = i
    · subst e
      have hf : (DT.im j r a).front j = r := by simp [DT.front]
      rw [hf]
      exact ⟨hc.1.2, List.Perm.refl _⟩
    · have hf : (DT.im j r a).front i = a.front i := by simp [DT.front, e]
      rw [hf]
      have hia : i ∈ a.heads := by
        simp only [DT.heads, List.mem_cons] at hi
        exact hi.resolve_left fun h => e h.symm
      have hn : a.isNil = false := by
        cases a with
        | nil => simp [DT.heads] at hia
        | _ => rfl
      have h4 := hc.2
      rw [hn] at h4
      simp only [Bool.false_or, Bool.and_eq_true] at h4
      obtain ⟨h6, h7⟩ := alt_chk a true done h4.1.2 hia
      exact ⟨h6, (List.isPerm_iff.1 h4.2).symm.trans h7⟩

theorem head_pre {md : Region.Mode} {ops : Array Oper} {cl : List (List Nat)} {done : List Nat} : ∀ (t : DT), chkT md ops cl rx nd false done t = true → t.ids ≠ [] → ∃ y ∈ t.ids, preB md ops done y.2 = true
  | .nil, _, h => absurd rfl h
  | .pu i r, hc, _ => by
    simp only [chkT, Bool.and_eq_true] at hc
    exact ⟨(true, i), by simp [DT.ids], hc.1.1⟩
  | .im i r a, hc, _ => by
    simp only [chkT, Bool.and_eq_true] at hc
    exact ⟨(false, i), by simp [DT.ids], hc.1.1.2⟩

theorem vD_anyT {T : Tb} (hT : TabOk P G T) {md : Region.Mode} {ops : Array Oper} {Q : VExit → VS → Prop} {cl : List (List Nat)} (hcl : closOk md ops cl = true) : ∀ (n : Nat) (t : DT) (done : List Nat) (listed : Array Bool) (st : VS) (a : Act) (w : World) (gh : Gh), t.ids.length = n →
    Sim P G w0 gh0 nx0 st a w gh → vDT rx nd rc P G T ops.toList Q t st → chkT md ops cl rx nd false done t = true → (∀ z ∈ t.ids, z.2 < ops.size) → (t.ids.map Prod.snd).Nodup → listed.size = ops.size →
    (∀ i, i < ops.size → (listed.getD i false = false ↔ i ∈ t.ids.map Prod.snd)) → (∀ x ∈ done, listed.getD x false = true) → (∀ i o, ops[i]? = some o → listed.getD i false = true → ∀ e ∈ o.after, Region.binds md e = true → listed.getD e.on false = true) →
    wpAny P md ops (WQ P G w0 gh0 nx0 Q) n listed a w
  | 0, t, done, listed, st, a, w, gh, hn, h, hv, hp, hlt, hnd, hsz, hli, hdn, dc => by
    have ht : t = .nil := by
      cases t with
      | nil => rfl
      | _ => simp [DT.ids] at hn
    subst ht
    refine ⟨?_, st, gh, hv, h⟩
    unfold Region.ready
    refine List.filter_eq_nil_iff.2 fun i hi => ?_
    have hi' : i < ops.size := by simpa using hi
    have := (not_congr (hli i hi')).2 (by simp [DT.ids])
    have e : listed.getD i true = true := by
      have h1 : listed.getD i false = true := by simpa using this
      simp [hsz, hi'] at h1 ⊢
      exact h1
    simp [e]
  | n + 1, t, done, listed, st, a, w, gh, hn, h, hv, hp, hlt, hnd, hsz, hli, hdn, dc => by
    refine ⟨?_, ?_⟩
    · intro hr
      exfalso
      obtain ⟨⟨p, i⟩, him, hpre⟩ := head_pre t hp (fun e => by rw [e] at hn; cases hn)
      have hi' : i < ops.size := hlt _ him
      have hun : listed.getD i false = false := (hli i hi').2 (List.mem_map.2 ⟨_, him, rfl⟩)
      unfold preB at hpre
      split at hpre
      · rename_i o ho
        have : i ∈ Region.ready md ops listed := by
          unfold Region.ready
          refine List.mem_filter.2 ⟨by simpa using hi', ?_⟩
          have e1 : listed.getD i true = false := by
            simp [hsz, hi'] at hun ⊢
            exact hun
          have ho' : ops[i]? = some o := ho
          simp only [e1, ho', Bool.not_false, Bool.true_and, Option.map_some, Option.getD_some, Array.all_eq_true']
          intro e hm
          have h2 := List.all_eq_true.1 hpre e (by simpa using hm)
          cases hb : Region.binds md e with
          | false => rfl
          | true =>
            rw [hb] at h2
            have h3 := hdn e.on (by simpa using h2)
            simp [h3]
        rw [hr] at this
        cases this
      · cases hpre
    · intro i hi
      unfold Region.ready at hi
      obtain ⟨h1, h2⟩ := List.mem_filter.1 hi
      have hi' : i < ops.size := by simpa using h1
      simp only [Bool.and_eq_true, Bool.not_eq_true'] at h2
      have hun : listed.getD i false = false := by
        have := h2.1
        simp [hsz, hi'] at this ⊢
        exact this
      obtain ⟨y, hy⟩ : ∃ y, ops[i]? = some y := ⟨ops[i], by simp [hi']⟩
      have hready : ∀ e ∈ y.after, Region.binds md e = true → listed.getD e.on false = true := by
        intro e he hb
        have h3 := h2.2
        rw [hy] at h3
        simp only [Option.map_some, Option.getD_some, Array.all_eq_true'] at h3
        have := h3 e he
        simpa [hb] using this
      obtain ⟨⟨p, i'⟩, hm, rfl⟩ := List.mem_map.1 ((hli i hi').1 hun)
      have hcls : ∀ z ∈ t.ids, (cl.getD i' []).contains z.2 = false := by
        intro z hz
        cases hb : (cl.getD i' []).contains z.2 with
        | false => rfl
        | true =>
          exfalso
          have h5 := clos_listed hcl dc (i' + 1) i' (by omega) y hy hready z.2 hb
          have h6 := (hli z.2 (hlt z hz)).2 (List.mem_map.2 ⟨z, hz, rfl⟩)
          rw [h5] at h6; cases h6
      obtain ⟨f1, f2, f3⟩ := front_sound (P := P) (G := G) (T := T) (Q := Q) hy t done st hp hm hnd hcls hv
      have hnd2 := (f3.map Prod.snd).nodup_iff.1 hnd
      simp only [List.map_cons, List.nodup_cons] at hnd2
      refine vDAt_soundC hT h f1 fun st' a' w' gh' hk hs => ?_
      refine vD_anyT hT hcl n (t.front i') (i' :: done) _ st' a' w' gh' (by have := f3.length_eq; rw [hn] at this; simpa using this.symm) hs hk f2 (fun z hz => hlt z (f3.mem_iff.2 (by simp [hz]))) hnd2.2 (by simpa using hsz) ?_ ?_ ?_
      · intro j hj
        rw [getD_setB listed i' j (by rw [hsz]; exact hi')]
        have hmem : j ∈ t.ids.map Prod.snd ↔ j = i' ∨ j ∈ (t.front i').ids.map Prod.snd := by
          rw [(f3.map Prod.snd).mem_iff]; simp
        by_cases e : j = i'
        · subst e
          simp only [if_true]
          constructor
          · intro h; cases h
          · intro h; exact absurd h hnd2.1
        · rw [if_neg e, hli j hj, hmem]
          exact ⟨fun h => h.resolve_left e, .inr⟩
      · intro x hx
        rw [getD_setB listed i' x (by rw [hsz]; exact hi')]
        rcases List.mem_cons.1 hx with rfl | hx
        · simp
        · rw [hdn x hx]; simp
      · intro j o ho hl e he hb'
        rw [getD_setB listed i' j (by rw [hsz]; exact hi')] at hl
        rw [getD_setB listed i' e.on (by rw [hsz]; exact hi')]
        by_cases ej : j = i'
        · subst ej
          rw [hy] at ho
          cases ho
          have := hready e he hb'
          rw [this]; simp
        · rw [if_neg ej] at hl
          have := dc j o ho hl e he hb'
          rw [this]; simp
where
  getD_setB (listed : Array Bool) (i j : Nat) (h : i < listed.size) : (listed.setIfInBounds i true).getD j false = if j = i then true else listed.getD j false := by
    simp only [Array.getD_eq_getD_getElem?]
    by_cases e : j = i
    · subst e; simp [h]
    · rw [Array.getElem?_setIfInBounds_ne (fun h => e h.symm)]; simp [e]

theorem nodupB_iff : ∀ {l : List Nat}, nodupB l = true → l.Nodup
  | [], _ => List.nodup_nil
  | x :: r, h => by
    simp only [nodupB, Bool.and_eq_true, Bool.not_eq_true', List.contains_eq_mem, decide_eq_false_iff_not] at h
    exact List.nodup_cons.2 ⟨h.1, nodupB_iff h.2⟩

/-- The tree may be taken for the drawn orders. -/
def treeOk (md : Region.Mode) (ops : Array Oper) (rx nd : List Nat) (t : DT) : Bool :=
  closOk md ops (clos md ops) && chkT md ops (clos md ops) rx nd false [] t && t.ids.length == ops.size && (List.range ops.size).all (fun i => (t.ids.map Prod.snd).contains i) && t.ids.all (fun y => decide (y.2 < ops.size)) && nodupB (t.ids.map Prod.snd)

theorem VWp_drawT {T : Tb} (hT : TabOk P G T) {id : Nat} {ops : Array Oper} {Q : VExit → VS → Prop} (hm : P.follows .mixedOrders = true) (t : DT) (hc : treeOk .any ops rx nd t = true) (h : vDT rx nd rc P G T ops.toList Q t st) : VWp P G (.region id ops true) Q st := by
  intro w0 gh0 nx0 a w gh hs
  simp only [treeOk, Bool.and_eq_true, beq_iff_eq, List.all_eq_true, List.contains_eq_mem, decide_eq_true_eq] at hc
  obtain ⟨⟨⟨⟨⟨h1, h2⟩, h3⟩, h4⟩, h5⟩, h6⟩ := hc
  refine wp_region_any hm ?_
  have hs' : Sim P G w0 gh0 nx0 st a { w with drawn := w.drawn + 1 } gh := ⟨⟨hs.sh.mem, hs.sh.glob, hs.sh.box, hs.sh.nomem, hs.sh.lt⟩, hs.n, hs.defers, hs.tmps, hs.locs, hs.lown, fun k c hk => ⟨(hs.chs k c hk).nil, (hs.chs k c hk).cons⟩, ⟨hs.step.os, hs.step.tape, hs.step.output, hs.step.size, hs.step.blk, hs.step.mle, hs.step.phi, hs.step.nx⟩⟩
  rw [← h3]
  have hf : ∀ i, (Array.replicate t.ids.length false).getD i false = false := by
    intro i
    simp only [Array.getD_eq_getD_getElem?, Array.getElem?_replicate]
    split <;> rfl
  refine vD_anyT (rc := rc) hT h1 t.ids.length t [] _ st a _ gh rfl hs' h h2 (fun z hz => h5 z hz) (nodupB_iff h6) (by simp [h3]) (fun i hi => ⟨fun _ => h4 i (by simpa using hi), fun _ => hf i⟩) (fun x hx => by simp at hx) (fun i o ho hl => by rw [hf] at hl; cases hl)

theorem drawT_intro {T : Tb} (hT : TabOk P G T) {id : Nat} {ops : Array Oper} {Q : VExit → VS → Prop} {st : VS} (hm : P.follows .mixedOrders = true) (rx nd rc : List Nat) (t : DT) (hc : treeOk .any ops rx nd t = true) (h : vDT rx nd rc P G T ops.toList Q t st) : vDrawn P G id ops Q st := by
  unfold vDrawn; exact VWp_drawT (rx := rx) (nd := nd) (rc := rc) hT hm t hc h
end
end Go.Proofs.YtaackmiajgapoaaGreatDoor.V
