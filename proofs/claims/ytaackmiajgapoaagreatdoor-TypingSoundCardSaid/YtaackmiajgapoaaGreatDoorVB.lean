/- A program logic at the level of values: parts V13 to V26. -/
import Derived.Test.YtaackmiajgapoaaGreatDoorVA
import Derived.Deep.LoopGhost
/- A program logic at the level of values: from a body to a call; shared boxes that are forgotten. -/
set_option linter.unusedVariables false
set_option linter.unusedSimpArgs false
namespace Go.Proofs.YtaackmiajgapoaaGreatDoor.V
open Go

section
variable {P : Program} {G : Nat → Option (List PV)} {w0 : World} {gh0 : Gh} {nx0 : Nat} {st : VS} {a : Act} {w : World} {gh : Gh}

/-! ### results -/
def cellsOk (P : Program) (G : Nat → Option (List PV)) : List ResultVar → VS → (VS → Prop) → Prop
  | [], st, K => K st
  | .tmp _ :: r, st, K => cellsOk P G r st K
  | .cell a t :: r, st, K => match tAgg P t with
    | some true => (settle G st (.tmp a)).1 ∧ cellsOk P G r (settle G st (.tmp a)).2 K
    | _ => cellsOk P G r st K

def resVR (P : Program) (G : Nat → Option (List PV)) (st : VS) : ResultVar → VR
  | .tmp t => VR.ok (st.tmps t)
  | .cell a t => vLoad P G st none t (.tmp a)

def resPre (P : Program) (G : Nat → Option (List PV)) (st : VS) : List ResultVar → Prop
  | [] => True
  | r :: l => (resVR P G st r).pre ∧ resPre P G st l
def resPVs (P : Program) (G : Nat → Option (List PV)) (st : VS) : List ResultVar → List PV
  | [] => []
  | r :: l => (resVR P G st r).v :: resPVs P G st l

def onePV : List PV → PV
  | [p] => p
  | l => .tup l

/-- What stands at a body's end. -/
def retK (P : Program) (G : Nat → Option (List PV)) (rs : List ResultVar) (R : VEnd → Sh → Prop) (st : VS) : Prop :=
  cellsOk P G rs st fun st => resPre P G st rs ∧ (cvs st.chs (resPVs P G st rs)).pre ∧ R (.ret (onePV (cvs st.chs (resPVs P G st rs)).vs)) st.sh

def bodyQ (P : Program) (G : Nat → Option (List PV)) (rs : List ResultVar) (R : VEnd → Sh → Prop) : VExit → VS → Prop
  | .normal, st => retK P G rs R st
  | .ret, st => retK P G rs R st
  | .pan t p, st => R (.pan t p) st.sh
  | .exit _, _ => False

def initVS (n : Nat) (shr : List Nat) (args : List PV) (sh : Sh) : VS :=
  { n := n, shr := shr, tmps := fun i => args.getD i .top, locs := fun _ => none, chs := fun _ => none, sh := sh }

theorem cellsOk_sound : ∀ (rs : List ResultVar) (st : VS) (gh : Gh) (K : VS → Prop), Sim P G w0 gh0 nx0 st a w gh → cellsOk P G rs st K → ∃ st' gh', K st' ∧ Sim P G w0 gh0 nx0 st' a w gh'
  | [], st, gh, K, h, hk => ⟨st, gh, hk, h⟩
  | .tmp _ :: r, st, gh, K, h, hk => cellsOk_sound r st gh K h hk
  | .cell b t :: r, st, gh, K, h, hk => by
    unfold cellsOk at hk
    split at hk
    · obtain ⟨gh', hs⟩ := settle_sound h (.tmp b) hk.1
      exact cellsOk_sound r _ gh' K hs hk.2
    · exact cellsOk_sound r st gh K h hk

theorem res_sound (h : Sim P G w0 gh0 nx0 st a w gh) (r : ResultVar) (hp : (resVR P G st r).pre) :
    ∃ v, (match r with | .tmp t => (pure (a.tmps.getD t undef) : Sem Value) | .cell b t => do loadVar t (← asAddr (a.tmps.getD b undef))).run P w = .ok v w ∧ RepT gh st.locs st.chs st.sh.next (resVR P G st r).v v := by
  cases r with
  | tmp t => exact ⟨_, by simp, h.tmps t⟩
  | cell b t =>
    obtain ⟨v, h1, h2, _⟩ := load_sound h (g := none) trivial (o := { (default : Oper) with op := .load t (.tmp b) }) rfl hp
    refine ⟨v, ?_, h2⟩
    simp only [Gives, execOp, Instr.loadAt, Sem.run_bind, Act.eval] at h1
    simp only [Sem.run_bind]
    generalize a.tmps.getD b undef = x at *
    unfold Instr.sureAddr at h1
    split at h1
    · simp only [asAddr, Sem.run_pure, Result.andThen_ok] at h1 ⊢
      generalize Sem.run P (loadVar t _) w = res at *
      cases res with
      | ok v' w' =>
        simp only [Result.andThen_ok, Result.ok.injEq, Next.value.injEq] at h1
        obtain ⟨rfl, rfl⟩ := h1
        rfl
      | halt e w' => simp at h1
    · simp [stuck] at h1

theorem resAll_sound (h : Sim P G w0 gh0 nx0 st a w gh) (f : ResultVar → Sem Value) (hf : ∀ r, f r = match r with | .tmp t => (pure (a.tmps.getD t undef) : Sem Value) | .cell b t => do loadVar t (← asAddr (a.tmps.getD b undef))) : ∀ (rs : List ResultVar), resPre P G st rs →
    ∃ vs : List Value, (rs.mapM f).run P w = .ok vs w ∧ vs.length = (resPVs P G st rs).length ∧ ∀ i (hi : i < (resPVs P G st rs).length), RepT gh st.locs st.chs st.sh.next ((resPVs P G st rs)[i]) (vs.getD i undef)
  | [], _ => ⟨[], by simp, rfl, fun i hi => absurd hi (by simp [resPVs])⟩
  | r :: l, hp => by
    obtain ⟨v, h1, h2⟩ := res_sound h r hp.1
    obtain ⟨vs, h3, h4, h5⟩ := resAll_sound h f hf l hp.2
    refine ⟨v :: vs, ?_, by simp [resPVs, h4], ?_⟩
    · rw [List.mapM_cons]
      rw [← hf r] at h1
      simp only [Sem.run_bind, h1, Result.andThen_ok, h3, Sem.run_pure]
    · intro i hi
      cases i with
      | zero => exact h2
      | succ i => exact h5 i (by simpa [resPVs] using hi)

/-- At the end only the shared boxes stand. -/
theorem Sim.close (h : Sim P G w0 gh0 nx0 st a w gh) : ShSim P G st.sh { gh with own := fun g => onlyB (gh.own g) } w ∧ OnlyBox { gh with own := fun g => onlyB (gh.own g) } ∧ Step w0 gh0 nx0 w { gh with own := fun g => onlyB (gh.own g) } st.sh.next := by
  have hob : ∀ {g b}, onlyB (gh.own g) = .box b → gh.own g = .box b := by
    intro g b e
    cases ho : gh.own g with
    | box b' => rw [ho] at e; exact e
    | _ => rw [ho] at e; cases e
  refine ⟨⟨h.sh.mem, h.sh.glob, ?_, ?_, ?_⟩, ?_, ⟨h.step.os, h.step.tape, h.step.output, h.step.size, ?_, h.step.mle, h.step.phi, h.step.nx⟩⟩
  · intro b cs hb
    obtain ⟨h1, h2, h3⟩ := h.sh.box b cs hb
    exact ⟨h1, by show onlyB _ = _; rw [h2]; rfl, h3⟩
  · intro g b e
    exact h.sh.nomem g b (hob e)
  · intro g e
    refine h.sh.lt g fun e' => e ?_
    show onlyB _ = _
    rw [e']; rfl
  · intro g
    cases ho : gh.own g with
    | box b => exact .inr ⟨b, by show onlyB _ = _; rw [ho]; rfl⟩
    | _ => exact .inl (by show onlyB _ = _; rw [ho]; rfl)
  · intro g hg ho
    obtain ⟨k1, k2, k3⟩ := h.step.blk g hg ho
    exact ⟨k1, by show onlyB _ = _; rw [k2]; rfl, k3⟩

theorem retK_sound (h : Sim P G w0 gh0 nx0 st a w gh) {fn : Func} {R : VEnd → Sh → Prop} (hk : retK P G fn.results.toList R st) :
    ∃ v r sh' gh', (results fn a.tmps).run P w = .ok v w ∧ R r sh' ∧ RepE gh' sh'.next r (.returned v) ∧ ShSim P G sh' gh' w ∧ OnlyBox gh' ∧ Step w0 gh0 nx0 w gh' sh'.next := by
  obtain ⟨st1, gh1, ⟨h1, h2, h3⟩, hs⟩ := cellsOk_sound _ _ _ _ h hk
  obtain ⟨vs, k1, k2, k3⟩ := resAll_sound hs (fun r => match r with | .tmp t => (pure (a.tmps.getD t undef) : Sem Value) | .cell b t => do loadVar t (← asAddr (a.tmps.getD b undef))) (fun r => rfl) _ h1
  obtain ⟨gh2, hs2, hsame, _, hl, hr⟩ := cvs_sound _ st1 gh1 (fun i => vs.getD i undef) hs k3 h2
  obtain ⟨c1, c2, c3⟩ := hs2.close
  have hlen : (cvs st1.chs (resPVs P G st1 fn.results.toList)).vs.length = vs.length := by rw [hl, k2]
  refine ⟨if h : vs.toArray.size = 1 then vs.toArray[0] else .tuple vs.toArray, _, _, _, ?_, h3, ?_, c1, c2, c3⟩
  · unfold results
    rw [Array.mapM_eq_mapM_toList]
    simp only [Sem.run_bind, Sem.run_map]
    have k1' := k1
    simp only [Sem.run_pure]
    erw [k1']
    simp only [Result.andThen_ok]
  · refine ⟨_, rfl, ?_⟩
    generalize (cvs st1.chs (resPVs P G st1 fn.results.toList)).vs = ps at *
    by_cases h1 : vs.length = 1
    · have hsz : vs.toArray.size = 1 := by simpa using h1
      rw [dif_pos hsz]
      obtain ⟨p, rfl⟩ := List.length_eq_one_iff.1 (hlen.trans h1)
      obtain ⟨v, rfl⟩ := List.length_eq_one_iff.1 h1
      exact hr 0 (by simp)
    · have hsz : ¬ vs.toArray.size = 1 := by simpa using h1
      rw [dif_neg hsz]
      have : onePV ps = .tup ps := by
        unfold onePV
        split
        · simp at hlen; omega
        · rfl
      rw [this]
      refine .tup ps vs.toArray (by simpa using hlen) fun i hi => ?_
      have := hr i hi
      simpa [Array.getD_eq_getD_getElem?, List.getD_eq_getElem?_getD] using this

/-- FROM A BODY TO A CALL. -/
theorem VCalls_enter {f : FuncId} {fn : Func} {c : Code} {args : List PV} {sh : Sh} {R : VEnd → Sh → Prop} (shr : List Nat) (hf : P.funcs[f]? = some fn) (hb : fn.body = some c) (hn : args.length ≤ fn.ntmps)
    (h : VWp P G c (bodyQ P G fn.results.toList R) (initVS fn.ntmps shr args sh)) : VCalls P G f args sh R := by
  intro w gh vs hS hO hl hr
  have hsim : Sim P G w gh sh.next (initVS fn.ntmps shr args sh) { tmps := vs ++ Array.replicate (fn.ntmps - vs.size) undef, defers := [] } w gh := by
    refine ⟨hS, ?_, rfl, ?_, fun d cs e => by simp [initVS] at e, ?_, fun k c e => by simp [initVS] at e, Step.refl _ _ _⟩
    · simp only [Array.size_append, Array.size_replicate, initVS]; omega
    · intro i
      show RepT _ _ _ _ (args.getD i .top) _
      by_cases hi : i < args.length
      · have e1 : args.getD i .top = args[i] := by simp [List.getD_eq_getElem?_getD, hi]
        rw [e1, getD_append, if_pos (by omega)]
        exact RepT.of_s (hr i hi)
      · have e1 : args.getD i .top = .top := by simp [List.getD_eq_getElem?_getD, Nat.le_of_not_lt hi]
        rw [e1]; trivial
    · intro g d e
      rcases hO g with e' | ⟨b, e'⟩
      · rw [e'] at e; cases e
      · rw [e'] at e; cases e
  refine calls_of_wp hf hb (Code.wp_mono ?_ (h w gh sh.next _ w gh hsim))
  intro e a' w' he
  cases e with
  | normal =>
    obtain ⟨st', gh', hk, hs⟩ := he
    obtain ⟨v, r, sh', gh2, hv, hR, hE, hrest⟩ := retK_sound hs hk
    exact ⟨hs.defers, v, hv, r, sh', gh2, hR, hE, hrest⟩
  | ret =>
    obtain ⟨st', gh', hk, hs⟩ := he
    obtain ⟨v, r, sh', gh2, hv, hR, hE, hrest⟩ := retK_sound hs hk
    exact ⟨hs.defers, v, hv, r, sh', gh2, hR, hE, hrest⟩
  | panic ch =>
    obtain ⟨st', gh', t, p, v, rfl, hk, hp, hs⟩ := he
    exact ⟨hs.defers, .pan t p, st'.sh, { gh' with own := fun g => onlyB (gh'.own g) }, hk, ⟨v, rfl, hp⟩, hs.close⟩
  | exit id =>
    obtain ⟨st', gh', hk, hs⟩ := he
    exact hk.elim
  | goto l => exact he.elim
  | outgrown => exact he.elim

/-! ### Boxes that are forgotten -/
theorem RepS.renx {m m' : Mem} {phi phi' : Nat → Nat} {nx nx' : Nat} {p : PV} {v0 : Value} (h : RepS m phi nx p v0) : ∀ {v : Value}, RepS m' phi' nx' p v → RepS m' phi' nx p v := by
  induction h with
  | pure h =>
    intro v r
    cases h <;> cases r <;> exact .pure (by assumption)
  | agg cs vs hl h1 _ ih =>
    intro v r
    cases r with
    | pure h => cases h
    | agg _ vs' hl' h1' h' => exact .agg cs vs' hl' h1' fun i hi => ih i hi (h' i hi)
  | tup cs vs hl _ ih =>
    intro v r
    cases r with
    | pure h => cases h
    | tup _ vs' hl' h' => exact .tup cs vs' hl' fun i hi => ih i hi (h' i hi)
  | box b off hb =>
    intro v r
    cases r with
    | pure h => cases h
    | box _ _ _ => exact .box b off hb
  | row e g o off u hu hr =>
    intro v r
    cases r with
    | pure h => cases h
    | row _ g' o' _ u' hu' hr' => exact .row e g' o' off u' hu' hr'
  | func f cs vs hl _ ih =>
    intro v r
    cases r with
    | pure h => cases h
    | func _ _ vs' hl' h' => exact .func f cs vs' hl' fun i hi => ih i hi (h' i hi)

/-- Values that point to no shared box. -/
inductive Tree : PV → Prop
  | val (v : Value) : Tree (.val v)
  | nils : Tree .nils
  | slice (es : List (List PV)) : Tree (.slice es)
  | row (e : List PV) (off : Nat) : Tree (.row e off)
  | agg (cs : List PV) (h : ∀ p ∈ cs, Tree p) : Tree (.agg cs)
  | tup (cs : List PV) (h : ∀ p ∈ cs, Tree p) : Tree (.tup cs)

theorem Tree.renx {m : Mem} {phi : Nat → Nat} {nx nx' : Nat} {p : PV} (h : Tree p) : ∀ {v : Value}, RepS m phi nx' p v → RepS m phi nx p v := by
  induction h with
  | val u => intro v r; cases r; exact .pure (by assumption)
  | nils => intro v r; cases r; exact .pure (by assumption)
  | slice es => intro v r; cases r; exact .pure (by assumption)
  | row e off =>
    intro v r
    cases r with
    | pure h => cases h
    | row _ g' o' _ u' hu' hr' => exact .row e g' o' off u' hu' hr'
  | agg cs _ ih =>
    intro v r
    cases r with
    | pure h => cases h
    | agg _ vs' hl' h1' h' => exact .agg cs vs' hl' h1' fun i hi => ih _ (List.getElem_mem hi) (h' i hi)
  | tup cs _ ih =>
    intro v r
    cases r with
    | pure h => cases h
    | tup _ vs' hl' h' => exact .tup cs vs' hl' fun i hi => ih _ (List.getElem_mem hi) (h' i hi)

def treeE : VEnd → Prop
  | .ret p => Tree p
  | .pan _ p => Tree p

theorem VCalls.gc {f : FuncId} {args : List PV} {sh : Sh} {R R' : VEnd → Sh → Prop} (h : VCalls P G f args sh R)
    (hR : ∀ r sh', R r sh' → treeE r ∧ (∀ b, b < sh.next → sh'.mem b = sh.mem b) ∧ R' r sh) : VCalls P G f args sh R' := by
  intro w gh vs hS hO hl hr
  refine (h w gh vs hS hO hl hr).mono ?_
  rintro e w' ⟨r, sh', gh', h1, h2, h3, h4, h5⟩
  obtain ⟨t1, t2, t3⟩ := hR _ _ h1
  have lower : ∀ {b : Nat}, b < sh.next → sh.mem b ≠ none → gh'.own (gh'.phi b) = .box b := by
    intro b hb hn
    rcases hm : sh'.mem b with _ | cs
    · rw [t2 b hb] at hm; exact absurd hm hn
    · exact (h3.box b cs hm).2.1
  let own' : Nat → Owner := fun g => match gh'.own g with | .box b => if b < sh.next then .box b else .none | _ => .none
  have ho1 : ∀ {g b}, own' g = .box b → gh'.own g = .box b ∧ b < sh.next := by
    intro g b e
    simp only [own'] at e
    split at e
    · rename_i b' hb'
      split at e
      · rename_i hlt; cases e; exact ⟨hb', hlt⟩
      · cases e
    · cases e
  refine ⟨r, sh, { gh' with own := own' }, t3, ?_, ⟨h3.mem, h3.glob, ?_, ?_, ?_⟩, ?_, ⟨h5.os, h5.tape, h5.output, h5.size, ?_, h5.mle, h5.phi, Nat.le_refl _⟩⟩
  · cases r with
    | ret p => obtain ⟨v, e, hv⟩ := h2; exact ⟨v, e, t1.renx hv⟩
    | pan t p => obtain ⟨v, e, hv⟩ := h2; exact ⟨v, e, t1.renx hv⟩
  · intro b cs hb
    obtain ⟨q1, q2, cur0, ty0, q3, q4, q5⟩ := hS.box b cs hb
    obtain ⟨p1, p2, cur, ty, p3, p4, p5⟩ := h3.box b cs (by rw [t2 b q1]; exact hb)
    refine ⟨q1, ?_, cur, ty, p3, p4, fun k hk => ⟨(q5 k hk).1.renx (p5 k hk).1, (p5 k hk).2⟩⟩
    show own' _ = _
    simp only [own', p2, if_pos q1]
  · intro g b e
    exact h3.nomem g b (ho1 e).1
  · intro g e
    refine h3.lt g fun e' => e ?_
    show own' g = _
    simp only [own', e']
  · intro g
    show own' g = _ ∨ _
    cases ho : own' g with
    | none => exact .inl rfl
    | box b => exact .inr ⟨b, ho⟩
    | loc d =>
      exfalso
      simp only [own'] at ho
      split at ho
      · split at ho <;> cases ho
      · cases ho
    | chain k =>
      exfalso
      simp only [own'] at ho
      split at ho
      · split at ho <;> cases ho
      · cases ho
  · intro g hg ho
    obtain ⟨k1, k2, k3⟩ := h5.blk g hg ho
    refine ⟨k1, ?_, k3⟩
    show own' g = _
    simp only [own', k2]

/-- A FUNCTION THAT ONLY ANSWERS. -/
def VPure (P : Program) (G : Nat → Option (List PV)) (f : FuncId) (args : List PV) (r : PV) : Prop := ∀ sh, VCalls P G f args sh fun e sh' => e = .ret r ∧ sh' = sh

theorem VPure.of {f : FuncId} {args : List PV} {r : PV} (ht : Tree r) (h : ∀ sh, VCalls P G f args sh fun e sh' => e = .ret r ∧ ∀ b, b < sh.next → sh'.mem b = sh.mem b) : VPure P G f args r :=
  fun sh => (h sh).gc fun e sh' ⟨h1, h2⟩ => ⟨by rw [h1]; exact ht, h2, h1, rfl⟩
end
end Go.Proofs.YtaackmiajgapoaaGreatDoor.V

/- A program logic at the level of values: what may be forgotten; loops. -/
set_option linter.unusedVariables false
set_option linter.unusedSimpArgs false
namespace Go.Proofs.YtaackmiajgapoaaGreatDoor.V
open Go

/-- What points into the frame's own memory points to something that stands. -/
def Refs (locs : Nat → Option (List PV)) (chs : Nat → Option Chain) : PV → Prop
  | .gd b p => b = true → Refs locs chs p
  | .loc d _ => (locs d).isSome = true
  | .tsl k _ => (chs k).isSome = true
  | .trow k _ _ _ => (chs k).isSome = true
  | _ => True

def WF (st : VS) : Prop := (∀ i, Refs st.locs st.chs (st.tmps i)) ∧ ∀ d cs, st.locs d = some cs → ∀ p ∈ cs, Refs st.locs st.chs p

def LeVS (P : Program) (G : Nat → Option (List PV)) (st st' : VS) : Prop := ∀ w0 gh0 nx0 a w gh, Sim P G w0 gh0 nx0 st a w gh → ∃ gh', Sim P G w0 gh0 nx0 st' a w gh'

section
variable {P : Program} {G : Nat → Option (List PV)} {w0 : World} {gh0 : Gh} {nx0 : Nat} {st : VS} {a : Act} {w : World} {gh : Gh}

theorem LeVS.refl (st : VS) : LeVS P G st st := fun _ _ _ _ _ gh h => ⟨gh, h⟩
theorem LeVS.trans {a b c : VS} (h : LeVS P G a b) (k : LeVS P G b c) : LeVS P G a c := fun w0 gh0 nx0 x w gh hs => by
  obtain ⟨gh', h'⟩ := h w0 gh0 nx0 x w gh hs
  exact k w0 gh0 nx0 x w gh' h'

theorem RepT.refs {nx : Nat} {locs : Nat → Option (List PV)} {chs : Nat → Option Chain} : ∀ {p : PV} {v : Value}, RepT gh locs chs nx p v → Refs locs chs p
  | .loc d _, v, h => h.1
  | .tsl k _, v, h => by obtain ⟨c, e, _⟩ := h; show (chs k).isSome = true; rw [e]; rfl
  | .trow k _ _ _, v, h => by obtain ⟨c, e, _⟩ := h; show (chs k).isSome = true; rw [e]; rfl
  | .gd true p, v, h => fun _ => RepT.refs (p := p) (v := v) h
  | .gd false p, v, h => fun e => by cases e
  | .top, _, _ => trivial
  | .val _, _, _ => trivial
  | .agg _, _, _ => trivial
  | .tup _, _, _ => trivial
  | .nils, _, _ => trivial
  | .slice _, _, _ => trivial
  | .box _ _, _, _ => trivial
  | .row _ _, _, _ => trivial
  | .func _ _, _, _ => trivial

theorem Sim.wf (h : Sim P G w0 gh0 nx0 st a w gh) : WF st := by
  refine ⟨fun i => (h.tmps i).refs, fun d cs hd p hp => ?_⟩
  obtain ⟨_, cur, ty, _, _, h4⟩ := h.locs d cs hd
  obtain ⟨k, hk, rfl⟩ := List.getElem_of_mem hp
  exact (h4 k hk).1.refs

theorem RepT.weaken {nx : Nat} {locs locs' : Nat → Option (List PV)} {chs chs' : Nat → Option Chain} (hl : ∀ d, (locs' d).isSome = true → (locs d).isSome = true) (hc : ∀ k c, chs' k = some c → chs k = some c) :
    ∀ {p : PV} {v : Value}, RepT gh locs chs nx p v → Refs locs' chs' p → RepT gh locs' chs' nx p v
  | .loc d _, v, h, r => ⟨r, h.2⟩
  | .tsl k _, v, h, r => by
    obtain ⟨c, e, h2⟩ := h
    obtain ⟨c', e'⟩ := Option.isSome_iff_exists.1 r
    have := hc k c' e'
    rw [e] at this
    cases this
    exact ⟨c, e', h2⟩
  | .trow k _ _ _, v, h, r => by
    obtain ⟨c, e, h2⟩ := h
    obtain ⟨c', e'⟩ := Option.isSome_iff_exists.1 r
    have := hc k c' e'
    rw [e] at this
    cases this
    exact ⟨c, e', h2⟩
  | .gd true p, v, h, r => RepT.weaken (p := p) (v := v) hl hc h (r rfl)
  | .gd false p, v, h, r => h
  | .top, _, _, _ => trivial
  | .val _, _, h, _ => h
  | .agg _, _, h, _ => h
  | .tup _, _, h, _ => h
  | .nils, _, h, _ => h
  | .slice _, _, h, _ => h
  | .box _ _, _, h, _ => h
  | .row _ _, _, h, _ => h
  | .func _ _, _, h, _ => h

/-- FORGETTING. -/
theorem LeVS.weaken {st st' : VS} (hn : st'.n = st.n) (hsh : st'.sh = st.sh) (ht : ∀ i, st'.tmps i = .top ∨ st'.tmps i = st.tmps i) (hl : ∀ d cs, st'.locs d = some cs → st.locs d = some cs) (hc : ∀ k c, st'.chs k = some c → st.chs k = some c)
    (hw : WF st') : LeVS P G st st' := by
  intro w0 gh0 nx0 a w gh h
  have hl' : ∀ d, (st'.locs d).isSome = true → (st.locs d).isSome = true := fun d hd => by
    obtain ⟨cs, e⟩ := Option.isSome_iff_exists.1 hd
    rw [hl d cs e]; rfl
  refine ⟨gh, by rw [hsh]; exact h.sh, by rw [hn]; exact h.n, h.defers, fun i => ?_, fun d cs hd => ?_, h.lown, fun k c hk => h.chs k c (hc k c hk), by rw [hsh]; exact h.step⟩
  · rw [hsh]
    rcases ht i with e | e
    · rw [e]; trivial
    · have := hw.1 i
      rw [e] at this ⊢
      exact RepT.weaken hl' hc (h.tmps i) this
  · rw [hsh]
    obtain ⟨h1, cur, ty, h2, h3, h4⟩ := h.locs d cs (hl d cs hd)
    exact ⟨h1, cur, ty, h2, h3, fun k hk => ⟨RepT.weaken hl' hc (h4 k hk).1 (hw.2 d cs hd _ (List.getElem_mem hk)), (h4 k hk).2⟩⟩

theorem VWp_le {c : Code} {Q : VExit → VS → Prop} {st st' : VS} (h : LeVS P G st st') (k : VWp P G c Q st') : VWp P G c Q st := fun w0 gh0 nx0 a w gh hs => by
  obtain ⟨gh', hs'⟩ := h w0 gh0 nx0 a w gh hs
  exact k w0 gh0 nx0 a w gh' hs'

theorem VWp_wf {c : Code} {Q : VExit → VS → Prop} {st : VS} (h : WF st → VWp P G c Q st) : VWp P G c Q st := fun w0 gh0 nx0 a w gh hs => h hs.wf w0 gh0 nx0 a w gh hs

theorem WQ_mono {Q Q' : VExit → VS → Prop} (h : ∀ e st, Q e st → Q' e st) : ∀ e a w, WQ P G w0 gh0 nx0 Q e a w → WQ P G w0 gh0 nx0 Q' e a w := by
  intro e a w he
  cases e with
  | normal => obtain ⟨st, gh, q, s⟩ := he; exact ⟨st, gh, h _ _ q, s⟩
  | exit id => obtain ⟨st, gh, q, s⟩ := he; exact ⟨st, gh, h _ _ q, s⟩
  | ret => obtain ⟨st, gh, q, s⟩ := he; exact ⟨st, gh, h _ _ q, s⟩
  | panic ch => obtain ⟨st, gh, t, p, v, e, q, s⟩ := he; exact ⟨st, gh, t, p, v, e, h _ _ q, s⟩
  | goto l => exact he
  | outgrown => exact he

theorem VWp_mono {c : Code} {Q Q' : VExit → VS → Prop} {st : VS} (h : ∀ e st, Q e st → Q' e st) (k : VWp P G c Q st) : VWp P G c Q' st := fun w0 gh0 nx0 a w gh hs => Code.wp_mono (WQ_mono h) (k w0 gh0 nx0 a w gh hs)

/-- LOOPS. -/
theorem VWp_loop {ι : Type} {c : Code} {Q : VExit → VS → Prop} (hd : ι → VS) (inv : ι → Prop) (μ : ι → Nat) (x0 : ι) (hi : inv x0) (hle : LeVS P G st (hd x0))
    (round : ∀ x, inv x → VWp P G c (thenQ (fun st' => ∃ x', inv x' ∧ μ x' < μ x ∧ LeVS P G st' (hd x')) Q) (hd x)) : VWp P G (.loop c) Q st := by
  intro w0 gh0 nx0 a w gh hs
  obtain ⟨gh1, hs1⟩ := hle _ _ _ _ _ _ hs
  refine wp_loop_ghost (fun n a w => ∃ x gh, μ x = n ∧ inv x ∧ Sim P G w0 gh0 nx0 (hd x) a w gh) (μ x0) ⟨x0, gh1, rfl, hi, hs1⟩ ?_
  rintro n a w ⟨x, gh, rfl, hix, hsx⟩
  refine Code.wp_mono ?_ (round x hix w0 gh0 nx0 a w gh hsx)
  intro e a' w' he
  cases e with
  | normal =>
    obtain ⟨st', gh', ⟨x', h1, h2, h3⟩, hs'⟩ := he
    obtain ⟨gh2, hs2⟩ := h3 _ _ _ _ _ _ hs'
    exact ⟨μ x', h2, x', gh2, rfl, h1, hs2⟩
  | exit id => exact he
  | ret => exact he
  | panic ch => exact he
  | goto l => exact he
  | outgrown => exact he
end
end Go.Proofs.YtaackmiajgapoaaGreatDoor.V

/- A program logic at the level of values: a loop's head, in writing. -/
set_option linter.unusedVariables false
set_option linter.unusedSimpArgs false
namespace Go.Proofs.YtaackmiajgapoaaGreatDoor.V
open Go

/-- 's' over the places 'W', elsewhere 'f'. -/
def overF {α : Type} (W : List Nat) (s : List (Nat × α)) (z : α) (f : Nat → α) : Nat → α := fun i => if W.contains i = true then (s.lookup i).getD z else f i

def AgreeOff {α : Type} (W : List Nat) (f g : Nat → α) : Prop := ∀ i, W.contains i = false → f i = g i

theorem AgreeOff.refl {α : Type} (W : List Nat) (f : Nat → α) : AgreeOff W f f := fun _ _ => rfl
theorem AgreeOff.upd {α : Type} {W : List Nat} {f g : Nat → α} {d : Nat} {x : α} (hd : W.contains d = true) (h : AgreeOff W f g) : AgreeOff W (V.upd f d x) g := fun i hi => by
  rw [upd_ne _ _ _ _ (by rintro rfl; rw [hd] at hi; cases hi)]; exact h i hi
theorem AgreeOff.over {α : Type} {W W' : List Nat} {s : List (Nat × α)} {z : α} {f g : Nat → α} (hd : W'.all (fun d => W.contains d) = true) (h : AgreeOff W f g) : AgreeOff W (overF W' s z f) g := fun i hi => by
  unfold overF
  rw [if_neg]
  · exact h i hi
  · intro hc
    have := List.all_eq_true.1 hd i (by simpa using hc)
    rw [hi] at this; cases this

def hdVS (st : VS) (W : List Nat) (s : List (Nat × PV)) (WL : List Nat) (ls : List (Nat × Option (List PV))) (WC : List Nat) (cs : List (Nat × Option Chain)) (sh : Sh) : VS :=
  { n := st.n, shr := st.shr, tmps := overF W s .top st.tmps, locs := overF WL ls none st.locs, chs := overF WC cs none st.chs, sh := sh }

def slotsEq {α : Type} (f : Nat → α) : List (Nat × α) → Prop
  | [] => True
  | (i, p) :: r => f i = p ∧ slotsEq f r
def slotsRef (locs : Nat → Option (List PV)) (chs : Nat → Option Chain) : List (Nat × PV) → Prop
  | [] => True
  | (_, p) :: r => Refs locs chs p ∧ slotsRef locs chs r
def listRef (locs : Nat → Option (List PV)) (chs : Nat → Option Chain) : List PV → Prop
  | [] => True
  | p :: r => Refs locs chs p ∧ listRef locs chs r
def locsRef (locs : Nat → Option (List PV)) (chs : Nat → Option Chain) : List (Nat × Option (List PV)) → Prop
  | [] => True
  | (_, some cs) :: r => listRef locs chs cs ∧ locsRef locs chs r
  | (_, none) :: r => locsRef locs chs r
/-- What is forgotten wasn't there ahead of the loop. -/
def gone {α : Type} (f : Nat → Option α) (ls : List (Nat × Option α)) : List Nat → Prop
  | [] => True
  | d :: r => (((ls.lookup d).getD none).isSome = true ∨ f d = none) ∧ gone f ls r

theorem slotsEq_lookup {α : Type} {f : Nat → α} {i : Nat} {p : α} : ∀ {s : List (Nat × α)}, slotsEq f s → s.lookup i = some p → f i = p
  | (j, q) :: r, h, hl => by
    rw [List.lookup_cons] at hl
    split at hl
    · rename_i e
      have e : i = j := by simpa using e
      subst e
      injection hl with hl
      rw [← hl]; exact h.1
    · exact slotsEq_lookup h.2 hl
theorem slotsRef_lookup {locs : Nat → Option (List PV)} {chs : Nat → Option Chain} {i : Nat} {p : PV} : ∀ {s : List (Nat × PV)}, slotsRef locs chs s → s.lookup i = some p → Refs locs chs p
  | (j, q) :: r, h, hl => by
    rw [List.lookup_cons] at hl
    split at hl
    · injection hl with hl
      rw [← hl]; exact h.1
    · exact slotsRef_lookup h.2 hl
theorem listRef_mem {locs : Nat → Option (List PV)} {chs : Nat → Option Chain} {p : PV} : ∀ {s : List PV}, listRef locs chs s → p ∈ s → Refs locs chs p
  | q :: r, h, hl => by
    rcases List.mem_cons.1 hl with rfl | hl
    · exact h.1
    · exact listRef_mem h.2 hl
theorem locsRef_lookup {locs : Nat → Option (List PV)} {chs : Nat → Option Chain} {i : Nat} {cs : List PV} : ∀ {s : List (Nat × Option (List PV))}, locsRef locs chs s → s.lookup i = some (some cs) → listRef locs chs cs
  | (j, q) :: r, h, hl => by
    rw [List.lookup_cons] at hl
    split at hl
    · injection hl with hl
      subst hl
      exact h.1
    · cases q with
      | none => exact locsRef_lookup (show locsRef locs chs r from h) hl
      | some q => exact locsRef_lookup (show locsRef locs chs r from h.2) hl
theorem gone_mem {α : Type} {f : Nat → Option α} {ls : List (Nat × Option α)} {d : Nat} : ∀ {W : List Nat}, gone f ls W → d ∈ W → ((ls.lookup d).getD none).isSome = true ∨ f d = none
  | e :: r, h, hd => by
    rcases List.mem_cons.1 hd with rfl | hd
    · exact h.1
    · exact gone_mem h.2 hd

theorem overF_some {α : Type} {W : List Nat} {ls : List (Nat × Option α)} {f : Nat → Option α} (hg : gone f ls W) {d : Nat} (h : (f d).isSome = true) : (overF W ls none f d).isSome = true := by
  unfold overF
  split
  · rename_i hc
    rcases gone_mem hg (by simpa using hc) with e | e
    · exact e
    · rw [e] at h; cases h
  · exact h

theorem Refs.mono {locs locs' : Nat → Option (List PV)} {chs chs' : Nat → Option Chain} (hl : ∀ d, (locs d).isSome = true → (locs' d).isSome = true) (hc : ∀ d, (chs d).isSome = true → (chs' d).isSome = true) : ∀ {p : PV}, Refs locs chs p → Refs locs' chs' p
  | .loc d _, h => hl d h
  | .tsl k _, h => hc k h
  | .trow k _ _ _, h => hc k h
  | .gd b p, h => fun e => Refs.mono (p := p) hl hc (h e)
  | .top, _ => trivial
  | .val _, _ => trivial
  | .agg _, _ => trivial
  | .tup _, _ => trivial
  | .nils, _ => trivial
  | .slice _, _ => trivial
  | .box _ _, _ => trivial
  | .row _ _, _ => trivial
  | .func _ _, _ => trivial

section
variable {P : Program} {G : Nat → Option (List PV)}

/-- TO A LOOP'S HEAD. -/
theorem LeVS.head {st st0 : VS} {W WL WC : List Nat} {s : List (Nat × PV)} {ls : List (Nat × Option (List PV))} {cs : List (Nat × Option Chain)} {sh : Sh} (hw : WF st0) (hn : st.n = st0.n) (hsh : st.sh = sh)
    (ht : AgreeOff W st.tmps st0.tmps) (hl : AgreeOff WL st.locs st0.locs) (hc : AgreeOff WC st.chs st0.chs)
    (et : slotsEq st.tmps s) (el : slotsEq st.locs ls) (ec : slotsEq st.chs cs) (gl : gone st0.locs ls WL) (gc : gone st0.chs cs WC)
    (rt : slotsRef (overF WL ls none st0.locs) (overF WC cs none st0.chs) s) (rl : locsRef (overF WL ls none st0.locs) (overF WC cs none st0.chs) ls) :
    LeVS P G st (hdVS st0 W s WL ls WC cs sh) := by
  have mono : ∀ {p : PV}, Refs st0.locs st0.chs p → Refs (overF WL ls none st0.locs) (overF WC cs none st0.chs) p := fun h => Refs.mono (fun d hd => overF_some gl hd) (fun d hd => overF_some gc hd) h
  refine LeVS.weaken hn.symm hsh.symm ?_ ?_ ?_ ⟨?_, ?_⟩
  · intro i
    show overF W s .top st0.tmps i = .top ∨ overF W s .top st0.tmps i = st.tmps i
    unfold overF
    split
    · cases hlk : s.lookup i with
      | none => exact .inl rfl
      | some p => exact .inr (slotsEq_lookup et hlk).symm
    · rename_i hc'
      exact .inr (ht i (by simpa using hc')).symm
  · intro d c hd
    have hd' : overF WL ls none st0.locs d = some c := hd
    unfold overF at hd'
    split at hd'
    · cases hlk : ls.lookup d with
      | none => rw [hlk] at hd'; cases hd'
      | some p =>
        rw [hlk] at hd'
        have := slotsEq_lookup el hlk
        rw [this]; exact hd'
    · rename_i hc'
      rw [hl d (by simpa using hc')]; exact hd'
  · intro d c hd
    have hd' : overF WC cs none st0.chs d = some c := hd
    unfold overF at hd'
    split at hd'
    · cases hlk : cs.lookup d with
      | none => rw [hlk] at hd'; cases hd'
      | some p =>
        rw [hlk] at hd'
        have := slotsEq_lookup ec hlk
        rw [this]; exact hd'
    · rename_i hc'
      rw [hc d (by simpa using hc')]; exact hd'
  · intro i
    show Refs _ _ (overF W s .top st0.tmps i)
    generalize hp : overF W s .top st0.tmps i = p
    unfold overF at hp
    split at hp
    · cases hlk : s.lookup i with
      | none => rw [hlk] at hp; rw [← hp]; trivial
      | some q => rw [hlk] at hp; rw [← hp]; exact slotsRef_lookup rt hlk
    · rw [← hp]; exact mono (hw.1 i)
  · intro d c hd p hp
    have hd' : overF WL ls none st0.locs d = some c := hd
    unfold overF at hd'
    split at hd'
    · cases hlk : ls.lookup d with
      | none => rw [hlk] at hd'; cases hd'
      | some q =>
        rw [hlk] at hd'
        have : q = some c := hd'
        subst this
        exact listRef_mem (locsRef_lookup rl hlk) hp
    · exact mono (hw.2 d c hd' p hp)
end
end Go.Proofs.YtaackmiajgapoaaGreatDoor.V

/- A program logic at the level of values: pure operations as one function; what they read. -/
set_option linter.unusedVariables false
set_option linter.unusedSimpArgs false
namespace Go.Proofs.YtaackmiajgapoaaGreatDoor.V
open Go

/-- A pure operation's meaning. -/
def rOf (P : Program) (G : Nat → Option (List PV)) (st : VS) (g : Option Bool) (o : Op) : VR :=
  match o with
  | .move x => vMove G st g x
  | .assign x => vMove G st g x
  | .pick c x y => vPick G st g c x y
  | .binOp op t x y _ => vBin P G st g t op x y
  | .unOp op _ x => vUn G st g op x
  | .convert s d x => vConv P G st g s d x
  | .nilCheck x => vNil G st g x
  | .fieldAddr s x f => vFieldAddr P G st g s x f
  | .indexAddr t x i => vIndexAddr P G st g t x i
  | .load t x => vLoad P G st g t x
  | .field t x f => vField P G st g t x f
  | .index t x i => vIndex P G st g t x i
  | .extract x i => vExtract G st g x i
  | .slice t x lo hi none => vSlice P G st g t x lo hi
  | .call c => match c.callee, c.args.toList, c.argTypes.toList with
    | .builtin .len, [x], [t] => vLen P G st g t x
    | _, _, _ => .bad
  | _ => .bad

section
variable {P : Program} {G : Nat → Option (List PV)} {w0 : World} {gh0 : Gh} {nx0 : Nat} {st : VS} {a : Act} {w : World} {gh : Gh}

theorem rOf_sound (h : Sim P G w0 gh0 nx0 st a w gh) {g : Option Bool} (hg : onG g) {o : Oper} (hp : (rOf P G st g o.op).pre) : Sound P gh st a w o (rOf P G st g o.op) := by
  unfold rOf at *
  split at hp
  case h_1 x ho => exact move_sound h hg (.inl ho) hp
  case h_2 x ho => exact move_sound h hg (.inr ho) hp
  case h_3 c x y ho => exact pick_sound h hg ho hp
  case h_4 op t x y t' ho => exact bin_sound h hg ho hp
  case h_5 op t x ho => exact un_sound h hg ho hp
  case h_6 s d x ho => exact conv_sound h hg ho hp
  case h_7 x ho => exact nil_sound h hg ho hp
  case h_8 s x f ho => exact fieldAddr_sound h hg ho hp
  case h_9 t x i ho => exact indexAddr_sound h hg ho hp
  case h_10 t x ho => exact load_sound h hg ho hp
  case h_11 t x f ho => exact field_sound h hg ho hp
  case h_12 t x i ho => exact index_sound h hg ho hp
  case h_13 x i ho => exact extract_sound h hg ho hp
  case h_14 t x lo hi ho => exact slice_sound h hg ho hp
  case h_15 c ho =>
    split at hp
    · rename_i x t hc ha ht
      have hcc : c = { callee := .builtin .len, args := #[x], argTypes := #[t] } := by
        cases c with | mk cc aa tt =>
        simp only at hc ha ht
        subst hc
        congr
        · exact Array.toList_inj.1 (by simpa using ha)
        · exact Array.toList_inj.1 (by simpa using ht)
      exact len_sound h hg (by rw [ho, hcc]) hp
    · exact hp.elim
  case h_16 => exact hp.elim

/-! ### A state without what others may change -/
def bareT : PV → PV
  | .tsl _ _ => .top
  | .trow _ _ _ _ => .top
  | .gd b p => .gd b (bareT p)
  | p => p

def bare (st : VS) : VS := { st with tmps := fun i => bareT (st.tmps i), locs := fun d => (st.locs d).map (List.map bareT), chs := fun _ => none, sh := { st.sh with mem := fun _ => none } }

theorem bareT_rep {locs locs' : Nat → Option (List PV)} {chs : Nat → Option Chain} {nx : Nat} (hl : ∀ d, (locs d).isSome = true → (locs' d).isSome = true) : ∀ {p : PV} {v : Value}, RepT gh locs chs nx p v → RepT gh locs' (fun _ => none) nx (bareT p) v
  | .tsl _ _, v, h => trivial
  | .trow _ _ _ _, v, h => trivial
  | .gd true p, v, h => bareT_rep (p := p) (v := v) hl h
  | .gd false p, v, h => h
  | .loc d _, v, h => ⟨hl d h.1, h.2⟩
  | .top, _, _ => trivial
  | .val _, _, h => h
  | .agg _, _, h => h
  | .tup _, _, h => h
  | .nils, _, h => h
  | .slice _, _, h => h
  | .box _ _, _, h => h
  | .row _ _, _, h => h
  | .func _ _, _, h => h

theorem Sim.bare (h : Sim P G w0 gh0 nx0 st a w gh) : Sim P G w0 gh0 nx0 (V.bare st) a w gh := by
  have hl : ∀ d, (st.locs d).isSome = true → ((V.bare st).locs d).isSome = true := fun d hd => by
    show ((st.locs d).map _).isSome = true
    simpa using hd
  refine ⟨⟨h.sh.mem, h.sh.glob, (fun b cs e => by cases e), h.sh.nomem, h.sh.lt⟩, h.n, h.defers, fun i => bareT_rep hl (h.tmps i), fun d cs e => ?_, h.lown, (fun k c e => by cases e), h.step⟩
  have e' : (st.locs d).map (List.map bareT) = some cs := e
  obtain ⟨cs', e1, rfl⟩ := Option.map_eq_some_iff.1 e'
  obtain ⟨h1, cur, ty, h2, h3, h4⟩ := h.locs d cs' e1
  refine ⟨h1, cur, ty, h2, by simpa using h3, fun k hk => ?_⟩
  have hk' : k < cs'.length := by simpa using hk
  rw [List.getElem_map]
  exact ⟨bareT_rep hl (h4 k hk').1, (h4 k hk').2⟩

theorem bare_up {p : PV} {v : Value} (h : RepT gh (V.bare st).locs (V.bare st).chs (V.bare st).sh.next p v) : RepT gh st.locs st.chs st.sh.next p v :=
  RepT.mono (MemLe.refl _) (fun _ _ => rfl) (Nat.le_refl _) (fun d hd => ⟨by
    have : ((st.locs d).map (List.map bareT)).isSome = true := hd
    simpa using this, rfl⟩) (fun k c e => by cases e) h

theorem bare_sound (h : Sim P G w0 gh0 nx0 st a w gh) {g : Option Bool} (hg : onG g) {o : Oper} (hp : (rOf P G (V.bare st) g o.op).pre) : Sound P gh st a w o (rOf P G (V.bare st) g o.op) := by
  obtain ⟨v, h1, h2, h3⟩ := rOf_sound h.bare hg hp
  exact ⟨v, h1, bare_up h2, h3⟩

/-! ### What a meaning reads -/
def isLoad : Op → Bool
  | .load _ _ => true
  | _ => false

/-- Two states that an operation can't tell apart. -/
structure Like (G : Nat → Option (List PV)) (o : Op) (st st' : VS) : Prop where
  locs : isLoad o = true → st'.locs = st.locs
  chs : st'.chs = st.chs
  mem : st'.sh.mem = st.sh.mem
  ev : ∀ x ∈ o.operands.toList, st'.ev G x = st.ev G x

theorem look_like {st st' : VS} {o : Op} (l : Like G o st st') {x : Operand} (hx : x ∈ o.operands.toList) {g : Option Bool} {k k' : PV → VR} (hk : ∀ p, k' p = k p) : look G st' g x k' = look G st g x k := by
  have : k' = k := funext hk
  subst this
  unfold look
  rw [l.ev x hx]

theorem rowCells_like {st st' : VS} (hl : st'.locs = st.locs) (hc : st'.chs = st.chs) (hs : st'.sh.mem = st.sh.mem) (p : PV) : rowCells st' p = rowCells st p := by
  unfold rowCells
  rw [hl, hc, hs]

theorem bnd_like {st st' : VS} {o : Op} (l : Like G o st st') {x : Option Operand} (hx : ∀ y, x = some y → y ∈ o.operands.toList) {g : Option Bool} {k k' : Option Int → VR} (hk : ∀ p, k' p = k p) : bnd G st' g x k' = bnd G st g x k := by
  have : k' = k := funext hk
  subst this
  unfold bnd
  cases x with
  | none => rfl
  | some y => exact look_like l (hx y rfl) fun p => rfl

theorem rOf_like {st st' : VS} {o : Op} (l : Like G o st st') (g : Option Bool) : rOf P G st' g o = rOf P G st g o := by
  cases o with
  | move x => exact look_like l (by simp [Op.operands]) fun p => rfl
  | assign x => exact look_like l (by simp [Op.operands]) fun p => rfl
  | pick c x y =>
    refine look_like l (by simp [Op.operands]) fun p => ?_
    have h1 : ∀ g, look G st' g x VR.ok = look G st g x VR.ok := fun g => look_like l (by simp [Op.operands]) fun p => rfl
    have h2 : ∀ g, look G st' g y VR.ok = look G st g y VR.ok := fun g => look_like l (by simp [Op.operands]) fun p => rfl
    simp only [h1, h2]
  | binOp op t x y t' => exact look_like l (by simp [Op.operands]) fun p => look_like l (by simp [Op.operands]) fun q => rfl
  | unOp op t x => exact look_like l (by simp [Op.operands]) fun p => rfl
  | convert s d x => exact look_like l (by simp [Op.operands]) fun p => rfl
  | nilCheck x => exact look_like l (by simp [Op.operands]) fun p => rfl
  | fieldAddr s x f =>
    refine look_like l (by simp [Op.operands]) fun p => ?_
    simp only [l.chs]
  | indexAddr t x i =>
    refine look_like l (by simp [Op.operands]) fun p => look_like l (by simp [Op.operands]) fun q => ?_
    simp only [l.chs]
  | load t x =>
    refine look_like l (by simp [Op.operands]) fun p => ?_
    simp only [rowCells_like (l.locs rfl) l.chs l.mem]
  | field t x f => exact look_like l (by simp [Op.operands]) fun p => rfl
  | index t x i => exact look_like l (by simp [Op.operands]) fun p => look_like l (by simp [Op.operands]) fun q => rfl
  | extract x i => exact look_like l (by simp [Op.operands]) fun p => rfl
  | slice t x lo hi mx =>
    cases mx with
    | none =>
      refine look_like l (by simp [Op.operands]) fun p => bnd_like l (fun y hy => by subst hy; simp [Op.operands]) fun q => bnd_like l (fun y hy => by subst hy; simp [Op.operands]) fun r => rfl
    | some m => rfl
  | call c =>
    unfold rOf
    simp only
    split
    · rename_i x t hc ha ht
      have hx : x ∈ (Op.call c).operands.toList := by
        simp only [Op.operands, Call.operands, hc]
        have : x ∈ c.args.toList := by rw [ha]; simp
        simpa using this
      refine look_like l hx fun p => ?_
      simp only [l.chs]
    · rfl
  | _ => rfl
end
end Go.Proofs.YtaackmiajgapoaaGreatDoor.V

/- A program logic at the level of values: a region whose operations' order is drawn. -/
set_option linter.unusedVariables false
set_option linter.unusedSimpArgs false
namespace Go.Proofs.YtaackmiajgapoaaGreatDoor.V
open Go

def noPan : VExit → VS → Prop := fun _ _ => False

/-- Operations that only compute and read. -/
def isPop : Op → Bool
  | .move _ | .assign _ | .pick .. | .binOp .. | .unOp .. | .convert .. | .nilCheck _ | .fieldAddr .. | .indexAddr .. | .load .. | .field .. | .index .. | .extract .. | .slice _ _ _ _ none => true
  | .call c => match c.callee, c.args.toList, c.argTypes.toList with
    | .builtin .len, [_], [_] => true
    | _, _, _ => false
  | _ => false

/-- A pure operation, whose facts aren't asked for. -/
def pureP (g : Option Bool) (d : Option Tmp) (st : VS) (r : VR) (K : VS → Prop) : Prop :=
  match g with
  | none => okDst st d ∧ r.pre ∧ K (st.put d r.v)
  | some b => okDst st d ∧ (b = true → r.pre) ∧ K (st.put d (.gd b r.v))

/-- An operation in such a region; 'p': it reads nothing that another one may change. -/
def vDOp (P : Program) (G : Nat → Option (List PV)) (T : Tb) (p : Bool) (g : Option Bool) (o : Oper) (st : VS) (K : VS → Prop) : Prop :=
  match p, isPop o.op with
  | true, _ => pureP g o.dst st (rOf P G (bare st) g o.op) K
  | false, true => pureK g o.dst st (rOf P G st g o.op) K
  | false, false => vOp P G T g o st K noPan

def vD (P : Program) (G : Nat → Option (List PV)) (T : Tb) (ops : List Oper) (Q : VExit → VS → Prop) : List (Bool × Nat) → VS → Prop
  | [], st => Q .normal st
  | (p, i) :: r, st => match ops[i]? with
    | none => False
    | some o => match o.guard with
      | none => vDOp P G T p none o st (vD P G T ops Q r)
      | some (j, want) => match guardOf ops j want st with
        | some b => vDOp P G T p (some b) o st (vD P G T ops Q r)
        | none => False

/-- Operations that change the frame's own variables. -/
def isMem : Op → Bool
  | .alloc _ | .box _ _ | .store _ _ _ => true
  | _ => false

/-- What another operation has left as it was. -/
structure After (o : Oper) (st st2 : VS) : Prop where
  n : st2.n = st.n
  tmps : ∀ i, o.dst ≠ some i → st2.tmps i = st.tmps i
  locs : isMem o.op = false → st2.locs = st.locs

section
variable {P : Program} {G : Nat → Option (List PV)} {w0 : World} {gh0 : Gh} {nx0 : Nat} {st : VS} {a : Act} {w : World} {gh : Gh}

theorem put_swap (st : VS) {d : Option Tmp} {y : Nat} (h : d ≠ some y) (u v : PV) : (st.put (some y) v).put d u = (st.put d u).put (some y) v := by
  cases d with
  | none => rfl
  | some d =>
    have hne : d ≠ y := fun e => h (by rw [e])
    simp only [VS.put]
    congr 1
    funext i
    simp only [upd]
    by_cases h1 : i = d
    · subst h1; simp [hne]
    · simp [h1]

theorem swap_of {stA stB : VS} {d : Option Tmp} {y : Nat} {v : PV} (e : stA = stB.put (some y) v) (h : d ≠ some y) (u : PV) : stA.put d u = (stB.put d u).put (some y) v := by
  rw [e]; exact put_swap stB h u v

theorem swap_chs (st : VS) (c : Nat → Option Chain) {d : Option Tmp} {y : Nat} {v : PV} (h : d ≠ some y) (u : PV) : ({ st.put (some y) v with chs := c } : VS).put d u = (({ st with chs := c } : VS).put d u).put (some y) v :=
  swap_of (stA := { st.put (some y) v with chs := c }) (stB := { st with chs := c }) rfl h u

theorem like_put (st : VS) {y : Nat} {v : PV} {o : Op} (h : Operand.tmp y ∉ o.operands.toList) : Like G o st (st.put (some y) v) := by
  refine ⟨fun _ => rfl, rfl, rfl, fun x hx => ?_⟩
  cases x with
  | tmp t =>
    show upd st.tmps y v t = st.tmps t
    exact upd_ne _ _ _ _ (by rintro rfl; exact h hx)
  | _ => rfl

theorem after_put (o : Oper) (st : VS) (v : PV) : After o st (st.put o.dst v) := by
  cases h : o.dst with
  | none => exact ⟨rfl, fun i _ => rfl, fun _ => rfl⟩
  | some d =>
    refine ⟨rfl, fun i hi => ?_, fun _ => rfl⟩
    show upd st.tmps d v i = _
    exact upd_ne _ _ _ _ (by rintro rfl; exact hi h)

theorem pureK_frame {g : Option Bool} {o : Oper} {y : Nat} {v : PV} {r r' : VR} {K : VS → Prop} (hr : r' = r) (hd : o.dst ≠ some y) (h : pureK g o.dst (st.put (some y) v) r' K) :
    pureK g o.dst st r fun st2 => After o st st2 ∧ K (st2.put (some y) v) := by
  subst hr
  unfold pureK at *
  have hok : ∀ {d}, okDst (st.put (some y) v) d → okDst st d := fun h => h
  cases g with
  | none =>
    obtain ⟨h1, h2, h3⟩ := h
    exact ⟨hok h1, h2, fun hf => ⟨after_put o st _, by rw [← put_swap st hd]; exact h3 hf⟩⟩
  | some b =>
    obtain ⟨h1, h2, h3⟩ := h
    exact ⟨hok h1, h2, fun hf => ⟨after_put o st _, by rw [← put_swap st hd]; exact h3 hf⟩⟩

theorem changeK_frame {g : Option Bool} {o : Oper} {y : Nat} {v : PV} {x x' : Prop × VS} {K : VS → Prop} (hx : x'.1 → x.1 ∧ x'.2 = x.2.put (some y) v ∧ After o st x.2) (h : changeK g x' K) :
    changeK g x fun st2 => After o st st2 ∧ K (st2.put (some y) v) := by
  cases g with
  | none =>
    obtain ⟨h1, h2, h3⟩ := hx h.1
    exact ⟨h1, h3, by rw [← h2]; exact h.2⟩
  | some b => exact h.elim

theorem bare_put (st : VS) (y : Nat) (v : PV) : bare (st.put (some y) v) = (bare st).put (some y) (bareT v) := by
  unfold bare VS.put
  simp only
  congr 1
  funext i
  simp only [upd]
  split <;> rfl

theorem newVar_frame {d y : Nat} {v : PV} {cs : List PV} (h : d ≠ y) : newVar (st.put (some y) v) d cs = (newVar st d cs).put (some y) v := by
  have hd : (some d : Option Tmp) ≠ some y := fun e => h (by injection e)
  unfold newVar
  show (if st.shr.contains d = true then _ else _) = _
  by_cases hc : st.shr.contains d = true
  · rw [if_pos hc, if_pos hc]
    exact put_swap { st with sh := { next := st.sh.next + 1, mem := upd st.sh.mem st.sh.next (some cs) } } hd _ _
  · rw [if_neg hc, if_neg hc]
    exact put_swap { st with locs := upd st.locs d (some cs) } hd _ _

theorem newVar_after {o : Oper} {d : Nat} {cs : List PV} {st' : VS} (hd : o.dst = some d) (hm : isMem o.op = true) (hn : st'.n = st.n) (ht : st'.tmps = st.tmps) : After o st (newVar st' d cs) := by
  unfold newVar
  split
  · refine ⟨hn, fun i hi => ?_, fun h => by rw [hm] at h; cases h⟩
    show upd st'.tmps d _ i = _
    rw [upd_ne _ _ _ _ (by rintro rfl; exact hi hd), ht]
  · refine ⟨hn, fun i hi => ?_, fun h => by rw [hm] at h; cases h⟩
    show upd st'.tmps d _ i = _
    rw [upd_ne _ _ _ _ (by rintro rfl; exact hi hd), ht]

/-- EVERY OPERATION, BEHIND A PURE ONE THAT HAS NOTHING TO DO WITH IT. -/
theorem vOp_frame {T : Tb} {g : Option Bool} {o : Oper} {y : Nat} {v : PV} {K : VS → Prop} (hp : isPop o.op = false) (hd : o.dst ≠ some y) (hy : Operand.tmp y ∉ o.op.operands.toList) (h : vOp P G T g o (st.put (some y) v) K noPan) :
    vOp P G T g o st (fun st2 => After o st st2 ∧ K (st2.put (some y) v)) noPan := by
  have lk := like_put (G := G) st (v := v) hy
  cases hop : o.op with
  | alloc e =>
    simp only [vOp, hop] at h ⊢
    refine changeK_frame ?_ h
    intro hx
    unfold vAlloc at *
    split at hx
    · rename_i d cs hd' hz
      have hne : d ≠ y := fun e => hd (by rw [hd', e])
      exact ⟨hx, newVar_frame hne, newVar_after hd' (by rw [hop]; rfl) rfl rfl⟩
    · exact hx.elim
  | box e x =>
    simp only [vOp, hop] at h ⊢
    refine changeK_frame ?_ h
    intro hx
    unfold vBox at *
    rw [lk.ev x (by simp [hop, Op.operands])] at hx ⊢
    split at hx
    · rename_i d hd'
      have hne : d ≠ y := fun e => hd (by rw [hd', e])
      have hsh : (st.put (some y) v).shr = st.shr := rfl
      have hch : (st.put (some y) v).chs = st.chs := rfl
      have hlo : (st.put (some y) v).locs = st.locs := rfl
      rw [hsh, hch] at hx ⊢
      by_cases hc : st.shr.contains d = true
      · simp only [hc, if_true] at hx ⊢
        exact ⟨hx, newVar_frame (st := { st with chs := (cv st.chs (st.ev G x)).chs }) hne, newVar_after hd' (by rw [hop]; rfl) rfl rfl⟩
      · simp only [hc] at hx ⊢
        exact ⟨hx, newVar_frame hne, newVar_after hd' (by rw [hop]; rfl) rfl rfl⟩
    · exact hx.elim
  | store t x z =>
    simp only [vOp, hop] at h ⊢
    refine ⟨h.1, changeK_frame ?_ h.2⟩
    intro hx
    unfold vStore at *
    rw [lk.ev x (by simp [hop, Op.operands]), lk.ev z (by simp [hop, Op.operands])] at hx ⊢
    have hch : (st.put (some y) v).chs = st.chs := rfl
    have hlo : (st.put (some y) v).locs = st.locs := rfl
    have hsh : (st.put (some y) v).sh = st.sh := rfl
    rw [hlo, hsh, hch] at hx ⊢
    split at hx
    · rename_i d off hx'
      split at hx
      · exact ⟨hx, rfl, ⟨rfl, fun _ _ => rfl, fun h => absurd h (by rw [hop]; simp [isMem])⟩⟩
      · exact hx.elim
    · rename_i b off hx'
      split at hx
      · exact ⟨hx, rfl, ⟨rfl, fun _ _ => rfl, fun h => absurd h (by rw [hop]; simp [isMem])⟩⟩
      · exact hx.elim
    · rename_i k n i off hx'
      split at hx
      · exact ⟨hx, rfl, ⟨rfl, fun _ _ => rfl, fun h => absurd h (by rw [hop]; simp [isMem])⟩⟩
      · exact hx.elim
    · exact hx.elim
  | build t parts =>
    simp only [vOp, hop] at h ⊢
    refine changeK_frame ?_ h
    intro hx
    have hpp : partsPV G (st.put (some y) v) parts.toList = partsPV G st parts.toList := by
      unfold partsPV
      refine List.map_congr_left fun p hp' => lk.ev _ ?_
      simp only [hop, Op.operands, List.mem_map]
      exact ⟨p, hp', rfl⟩
    unfold vBuild okParts at *
    rw [hpp] at hx ⊢
    have hch : (st.put (some y) v).chs = st.chs := rfl
    rw [hch] at hx ⊢
    split at hx
    · split at hx
      · refine ⟨hx, by dsimp only; exact swap_chs st _ hd _, ?_⟩
        have := after_put o { st with chs := (cvs st.chs (partsPV G st parts.toList)).chs } (.agg (by assumption))
        exact ⟨this.n, this.tmps, this.locs⟩
      · exact hx.elim
    · exact hx.elim
  | buildSlice t n parts =>
    simp only [vOp, hop] at h ⊢
    refine changeK_frame ?_ h
    intro hx
    have hpp : partsPV G (st.put (some y) v) parts.toList = partsPV G st parts.toList := by
      unfold partsPV
      refine List.map_congr_left fun p hp' => lk.ev _ ?_
      simp only [hop, Op.operands, List.mem_map]
      exact ⟨p, hp', rfl⟩
    unfold vBuildSlice okParts at *
    rw [hpp] at hx ⊢
    have hch : (st.put (some y) v).chs = st.chs := rfl
    rw [hch] at hx ⊢
    split at hx
    · rename_i d e hd' he
      split at hx
      · split at hx
        · rw [hd'] at hd
          refine ⟨hx, by dsimp only; exact swap_chs st _ hd _, rfl, fun i hi => ?_, fun _ => rfl⟩
          exact upd_ne _ _ _ _ (by rintro rfl; exact hi hd')
        · exact hx.elim
      · exact hx.elim
    · exact hx.elim
  | makeFunc f first caps =>
    cases f with
    | func f =>
      simp only [vOp, hop] at h ⊢
      refine ⟨h.1, changeK_frame ?_ h.2⟩
      intro hx
      have hpp : caps.toList.map ((st.put (some y) v).ev G) = caps.toList.map (st.ev G) := by
        refine List.map_congr_left fun p hp' => lk.ev _ ?_
        rw [hop]
        show p ∈ (first ++ caps).toList
        rw [Array.toList_append, h.1]
        exact hp'
      unfold vMakeFunc at *
      rw [hpp] at hx ⊢
      exact ⟨hx, put_swap st hd _ _, after_put o st _⟩
    | _ => simp only [vOp, hop] at h
  | call c =>
    simp only [vOp, hop] at h ⊢
    split at h
    · rename_i x t hc ha ht
      simp [isPop, hop, hc, ha, ht] at hp
    · rename_i x z t t' hc ha ht
      have m1 : x ∈ o.op.operands.toList := by
        simp only [hop, Op.operands, Call.operands, hc]
        have : x ∈ c.args.toList := by rw [ha]; simp
        simpa using this
      have m2 : z ∈ o.op.operands.toList := by
        simp only [hop, Op.operands, Call.operands, hc]
        have : z ∈ c.args.toList := by rw [ha]; simp
        simpa using this
      refine ⟨h.1, h.2.1, changeK_frame ?_ h.2.2⟩
      intro hx
      unfold vAppend at *
      rw [lk.ev x m1, lk.ev z m2] at hx ⊢
      have hch : (st.put (some y) v).chs = st.chs := rfl
      rw [hch] at hx ⊢
      split at hx
      · split at hx
        · refine ⟨hx, by dsimp only; exact swap_chs st _ hd _, ?_⟩
          cases hdd : o.dst with
          | none => exact ⟨rfl, fun i hi => rfl, fun _ => rfl⟩
          | some d => exact ⟨rfl, fun i hi => upd_ne _ _ _ _ (by rintro rfl; exact hi hdd), fun _ => rfl⟩
        · exact hx.elim
      · split at hx
        · rename_i d s hd' hs
          rw [hd'] at hd
          refine ⟨hx, by dsimp only; exact swap_chs st _ hd _, rfl, fun i hi => ?_, fun _ => rfl⟩
          exact upd_ne _ _ _ _ (by rintro rfl; exact hi hd')
        · exact hx.elim
      · exact hx.elim
    · rename_i f hc
      have m1 : f ∈ o.op.operands.toList := by simp [hop, Op.operands, Call.operands, hc]
      have m2 : ∀ x ∈ c.args.toList, (st.put (some y) v).ev G x = st.ev G x := fun x hx => lk.ev x (by
        simp only [hop, Op.operands, Call.operands, hc]
        simp only [Array.toList_append, List.mem_append]
        exact .inr hx)
      refine ⟨h.1, h.2.1, ?_⟩
      have h3 := h.2.2
      unfold vCallOp at *
      rw [lk.ev f m1] at h3
      have e1 : c.args.toList.map ((st.put (some y) v).ev G) = c.args.toList.map (st.ev G) := List.map_congr_left m2
      have e2 : (c.args.toList.map fun x => (ung g ((st.put (some y) v).ev G x)).2) = c.args.toList.map fun x => (ung g (st.ev G x)).2 := List.map_congr_left fun x hx => by rw [m2 x hx]
      split at h3
      · split at h3
        · obtain ⟨h4, h5, h6, h7, h8⟩ := h3
          rw [e1] at h7 h8
          refine ⟨h4, h5, h6, h7, ?_⟩
          have fin : ∀ p sh', K (({ st.put (some y) v with chs := (cvs st.chs (c.args.toList.map (st.ev G))).chs, sh := sh' } : VS).put o.dst p) →
              After o st (({ st with chs := (cvs st.chs (c.args.toList.map (st.ev G))).chs, sh := sh' } : VS).put o.dst p) ∧ K ((({ st with chs := (cvs st.chs (c.args.toList.map (st.ev G))).chs, sh := sh' } : VS).put o.dst p).put (some y) v) := by
            intro p sh' hk
            refine ⟨?_, ?_⟩
            · have := after_put o { st with chs := (cvs st.chs (c.args.toList.map (st.ev G))).chs, sh := sh' } p
              exact ⟨this.n, this.tmps, this.locs⟩
            · have := put_swap { st with chs := (cvs st.chs (c.args.toList.map (st.ev G))).chs, sh := sh' } hd p v
              rw [← this]; exact hk
          have hch : (st.put (some y) v).chs = st.chs := rfl
          rw [hch] at h8
          unfold vCallN at *
          change (match T _ _ st.sh with | some (r, sh') => _ | none => Ask _ _ _ _ st.sh _) at h8
          split at h8
          · rename_i r sh' ht
            simp only [ht]
            exact fin _ _ h8
          · rename_i ht
            simp only [ht]
            refine h8.mono ?_
            intro r sh' hr
            cases r with
            | ret p => exact fin _ _ hr
            | pan t p => exact hr.elim
        · rename_i b _
          obtain ⟨h4, h5, h6, h7, h8⟩ := h3
          rw [e2] at h7 h8
          refine ⟨h4, h5, fun x hx => ?_, h7, ?_⟩
          · have := h6 x hx
            rw [m2 x hx] at this
            exact this
          have fin : ∀ p, K ((st.put (some y) v).put o.dst (.gd b p)) → After o st (st.put o.dst (.gd b p)) ∧ K ((st.put o.dst (.gd b p)).put (some y) v) := by
            intro p hk
            refine ⟨after_put o st _, ?_⟩
            have := put_swap st hd (.gd b p) v
            rw [← this]; exact hk
          unfold vCallG at *
          change (match T _ _ st.sh with | some (r, sh') => sh' = st.sh ∧ _ | none => ∃ p, (b = true → VCalls _ _ _ _ st.sh fun r sh' => r = .ret p ∧ sh' = st.sh) ∧ _) at h8
          split at h8
          · rename_i r sh' ht
            simp only [ht]
            exact ⟨h8.1, fin _ h8.2⟩
          · rename_i ht
            simp only [ht]
            obtain ⟨p, h9, h10⟩ := h8
            exact ⟨p, h9, fin _ h10⟩
      · exact h3.elim
    · exact h.elim
  | slice t x lo hi mx =>
    cases mx with
    | none => simp [isPop, hop] at hp
    | some m => simp only [vOp, hop] at h
  | _ => first | (simp [isPop, hop] at hp; done) | (simp only [vOp, hop] at h; done)
end
end Go.Proofs.YtaackmiajgapoaaGreatDoor.V

/- A program logic at the level of values: a region whose operations' order is drawn: soundness. -/
set_option linter.unusedVariables false
set_option linter.unusedSimpArgs false
namespace Go.Proofs.YtaackmiajgapoaaGreatDoor.V
open Go

section
variable {P : Program} {G : Nat → Option (List PV)} {w0 : World} {gh0 : Gh} {nx0 : Nat} {st : VS} {a : Act} {w : World} {gh : Gh}

theorem pureK_mono {g : Option Bool} {d : Option Tmp} {r : VR} {K K' : VS → Prop} (h : ∀ s, K s → K' s) (k : pureK g d st r K) : pureK g d st r K' := by
  cases g with
  | none => exact ⟨k.1, k.2.1, fun f => h _ (k.2.2 f)⟩
  | some b => exact ⟨k.1, k.2.1, fun f => h _ (k.2.2 f)⟩
theorem pureP_mono {g : Option Bool} {d : Option Tmp} {r : VR} {K K' : VS → Prop} (h : ∀ s, K s → K' s) (k : pureP g d st r K) : pureP g d st r K' := by
  cases g with
  | none => exact ⟨k.1, k.2.1, h _ k.2.2⟩
  | some b => exact ⟨k.1, k.2.1, h _ k.2.2⟩
theorem changeK_mono {g : Option Bool} {x : Prop × VS} {K K' : VS → Prop} (h : ∀ s, K s → K' s) (k : changeK g x K) : changeK g x K' := by
  cases g with
  | none => exact ⟨k.1, h _ k.2⟩
  | some b => exact k.elim

theorem vOp_mono {T : Tb} {g : Option Bool} {o : Oper} {K K' : VS → Prop} {Q Q' : VExit → VS → Prop} (h : ∀ s, K s → K' s) (hQ : ∀ e s, Q e s → Q' e s) (k : vOp P G T g o st K Q) : vOp P G T g o st K' Q' := by
  unfold vOp at *
  split at k
  case h_10 =>
    unfold vLoadOp at *
    split at k
    · exact ⟨k.1, pureK_mono h k.2⟩
    · rename_i hne
      exact pureK_mono h k
  case h_15 => exact changeK_mono h k
  case h_16 => exact changeK_mono h k
  case h_17 => exact ⟨k.1, changeK_mono h k.2⟩
  case h_18 => exact changeK_mono h k
  case h_19 => exact changeK_mono h k
  case h_20 => exact ⟨k.1, changeK_mono h k.2⟩
  case h_21 =>
    split at k
    · exact pureK_mono h k
    · exact ⟨k.1, k.2.1, changeK_mono h k.2.2⟩
    · refine ⟨k.1, k.2.1, ?_⟩
      have k3 := k.2.2
      unfold vCallOp at *
      split at k3
      · split at k3
        · obtain ⟨h1, h2, h3, h4, h5⟩ := k3
          refine ⟨h1, h2, h3, h4, ?_⟩
          unfold vCallN at *
          split at h5
          · rename_i ht; exact h _ h5
          · rename_i ht
            refine h5.mono fun r s hr => ?_
            cases r with
            | ret p => exact h _ hr
            | pan t p => exact hQ _ _ hr
        · obtain ⟨h1, h2, h3, h4, h5⟩ := k3
          refine ⟨h1, h2, h3, h4, ?_⟩
          unfold vCallG at *
          split at h5
          · rename_i ht; exact ⟨h5.1, h _ h5.2⟩
          · rename_i ht
            obtain ⟨p, h6, h7⟩ := h5
            exact ⟨p, h6, h _ h7⟩
      · exact k3.elim
    · exact k.elim
  case h_22 => exact k.elim
  all_goals exact pureK_mono h k

theorem vDOp_mono {T : Tb} {p : Bool} {g : Option Bool} {o : Oper} {K K' : VS → Prop} (h : ∀ s, K s → K' s) (k : vDOp P G T p g o st K) : vDOp P G T p g o st K' := by
  unfold vDOp at *
  split at k
  · exact pureP_mono h k
  · exact pureK_mono h k
  · exact vOp_mono h (fun _ _ x => x) k

theorem pureP_sound (h : Sim P G w0 gh0 nx0 st a w gh) {g : Option Bool} {o : Oper} {r : VR} {K : VS → Prop} {K' : Act → World → Prop} {Q : Exit → Act → World → Prop} (hg : onG g)
    (hr : r.pre → Sound P gh st a w o r) (hk : pureP g o.dst st r K) (hK : ∀ st' a' w' gh', K st' → Sim P G w0 gh0 nx0 st' a' w' gh' → K' a' w') : o.wp P a w K' Q :=
  pureK_sound h hg hr (K := K) (by
    cases g with
    | none => exact ⟨hk.1, hk.2.1, fun _ => hk.2.2⟩
    | some b => exact ⟨hk.1, hk.2.1, fun _ => hk.2.2⟩) hK

theorem vDOp_sound {T : Tb} (hT : TabOk P G T) (h : Sim P G w0 gh0 nx0 st a w gh) {p : Bool} {g : Option Bool} (hg : onG g) {o : Oper} {K : VS → Prop} {Q : VExit → VS → Prop} {K' : Act → World → Prop}
    (hk : vDOp P G T p g o st K) (hK : ∀ st' a' w' gh', K st' → Sim P G w0 gh0 nx0 st' a' w' gh' → K' a' w') : o.wp P a w K' (WQ P G w0 gh0 nx0 Q) := by
  unfold vDOp at hk
  split at hk
  · exact pureP_sound h hg (bare_sound h hg) hk hK
  · exact pureK_sound h hg (rOf_sound h hg) hk hK
  · exact vOp_sound hT h hg (vOp_mono (fun _ x => x) (fun _ _ x => x.elim) hk) hK

theorem vDOp_skip {T : Tb} (h : Sim P G w0 gh0 nx0 st a w gh) {p : Bool} {o : Oper} {K : VS → Prop} (hk : vDOp P G T p (some false) o st K) : ∃ st' gh', K st' ∧ Sim P G w0 gh0 nx0 st' (a.put o.dst undef) w gh' := by
  unfold vDOp at hk
  split at hk
  · obtain ⟨hd, _, hk⟩ := hk
    exact ⟨_, gh, hk, h.put hd rfl⟩
  · exact pureK_skip h hk
  · exact vOp_skip h hk

/-! ### Swapping -/
def vDAt (P : Program) (G : Nat → Option (List PV)) (T : Tb) (ops : List Oper) (p : Bool) (i : Nat) (st : VS) (K : VS → Prop) : Prop :=
  match ops[i]? with
  | none => False
  | some o => match o.guard with
    | none => vDOp P G T p none o st K
    | some (j, want) => match guardOf ops j want st with
      | some b => vDOp P G T p (some b) o st K
      | none => False

theorem vD_cons {T : Tb} (ops : List Oper) (Q : VExit → VS → Prop) (p : Bool) (i : Nat) (r : List (Bool × Nat)) (st : VS) : vD P G T ops Q ((p, i) :: r) st = vDAt P G T ops p i st (vD P G T ops Q r) := by
  unfold vD vDAt
  rfl

theorem vDAt_mono {T : Tb} {ops : List Oper} {p : Bool} {i : Nat} {K K' : VS → Prop} (h : ∀ s, K s → K' s) (k : vDAt P G T ops p i st K) : vDAt P G T ops p i st K' := by
  unfold vDAt at *
  split at k
  · exact k
  · split at k
    · exact vDOp_mono h k
    · split at k
      · exact vDOp_mono h k
      · exact k

/-- What stands in the way of a pure operation being done later: nothing. -/
def indep (ops : Array Oper) (x y : Oper) : Bool := x.apart ops y && x.dst.isSome && (!isMem y.op || !isLoad x.op)

theorem looks_op {ops : Array Oper} {o : Oper} {d : Nat} (h : d ∉ o.looksAt ops) : Operand.tmp d ∉ o.op.operands.toList := by
  intro hm
  refine h ?_
  unfold Oper.looksAt
  refine List.mem_append_left _ (List.mem_filterMap.2 ⟨.tmp d, hm, rfl⟩)

theorem guard_tmp {ops : Array Oper} {o : Oper} {d j : Nat} {want : Bool} (h : d ∉ o.looksAt ops) (hg : o.guard = some (j, want)) (st st' : VS) (he : ∀ i, i ≠ d → st'.tmps i = st.tmps i) : guardOf ops.toList j want st' = guardOf ops.toList j want st := by
  unfold guardOf
  cases hb : (ops.toList[j]?).bind (·.dst) with
  | none => rfl
  | some t =>
    have hne : t ≠ d := by
      rintro rfl
      refine h ?_
      unfold Oper.looksAt
      refine List.mem_append_right _ ?_
      rw [hg]
      simp only [Array.getElem?_toList] at hb
      simp [hb]
    simp only [he t hne]

theorem vDOp_frame {T : Tb} {q : Bool} {g : Option Bool} {o : Oper} {y : Nat} {v : PV} {K : VS → Prop} (hd : o.dst ≠ some y) (hy : Operand.tmp y ∉ o.op.operands.toList) (h : vDOp P G T q g o (st.put (some y) v) K) :
    vDOp P G T q g o st fun st2 => After o st st2 ∧ K (st2.put (some y) v) := by
  unfold vDOp at *
  split at h
  · rw [bare_put, rOf_like (like_put (G := G) (bare st) (v := bareT v) hy) g] at h
    cases g with
    | none => exact ⟨h.1, h.2.1, after_put o st _, by rw [← put_swap st hd]; exact h.2.2⟩
    | some b => exact ⟨h.1, h.2.1, after_put o st _, by rw [← put_swap st hd]; exact h.2.2⟩
  · exact pureK_frame (rOf_like (like_put (G := G) st (v := v) hy) g) hd h
  · rename_i hp
    exact vOp_frame hp hd hy h

theorem swap {T : Tb} {ops : Array Oper} {i j : Nat} {q : Bool} {x y : Oper} (hi : ops[i]? = some x) (hj : ops[j]? = some y) (hin : indep ops x y = true) {K : VS → Prop} (h : vDAt P G T ops.toList true i st fun s => vDAt P G T ops.toList q j s K) :
    vDAt P G T ops.toList q j st fun s => vDAt P G T ops.toList true i s K := by
  simp only [indep, Bool.and_eq_true, Bool.or_eq_true, Bool.not_eq_true'] at hin
  obtain ⟨⟨hap, hsome⟩, hmem⟩ := hin
  obtain ⟨d, hd⟩ := Option.isSome_iff_exists.1 hsome
  obtain ⟨a1, a2, a3⟩ := Oper.apart_spec hap
  have hi' : ops.toList[i]? = some x := by simpa using hi
  have hj' : ops.toList[j]? = some y := by simpa using hj
  -- the pure one, at a state that is like this one
  obtain ⟨gi, v, hv⟩ : ∃ (gi : Option Bool) (v : PV), vDAt P G T ops.toList q j (st.put (some d) v) K ∧ ∀ s, After y st s → K (s.put (some d) v) → vDAt P G T ops.toList true i s K := by
    have like : ∀ s, After y st s → Like G x.op (bare st) (bare s) := by
      intro s hs
      refine ⟨fun hl => ?_, rfl, rfl, fun z hz => ?_⟩
      · rcases hmem with hm | hm
        · show (fun d => (s.locs d).map _) = _
          rw [hs.locs hm]; rfl
        · rw [hm] at hl; cases hl
      · cases z with
        | tmp t =>
          show bareT (s.tmps t) = bareT (st.tmps t)
          rw [hs.tmps t]
          intro ht
          exact looks_op (a3 t ht) hz
        | _ => rfl
    unfold vDAt at h
    rw [hi'] at h
    simp only at h
    split at h
    · rename_i hgd
      simp only [vDOp] at h
      obtain ⟨h1, h2, h3⟩ := h
      rw [hd] at h3
      refine ⟨none, _, h3, fun s hs hk => ?_⟩
      unfold vDAt
      rw [hi']
      simp only [hgd, vDOp]
      rw [rOf_like (like s hs)]
      refine ⟨?_, h2, by rw [hd]; exact hk⟩
      rw [hd] at h1 ⊢
      show d < s.n
      rw [hs.n]; exact h1
    · rename_i jj want hgd
      split at h
      · rename_i b hb
        simp only [vDOp] at h
        obtain ⟨h1, h2, h3⟩ := h
        rw [hd] at h3
        refine ⟨some b, _, h3, fun s hs hk => ?_⟩
        unfold vDAt
        rw [hi']
        have hgs : guardOf ops.toList jj want s = some b := by
          rw [← hb]
          cases hyd : y.dst with
          | none =>
            have : s.tmps = st.tmps := by
              funext t
              exact hs.tmps t (by rw [hyd]; intro e; cases e)
            unfold guardOf
            rw [this]
          | some e =>
            exact guard_tmp (a3 e hyd) hgd st s fun t ht => hs.tmps t (by rw [hyd]; intro e'; injection e' with e'; exact ht e'.symm)
        simp only [hgd, hgs, vDOp]
        rw [rOf_like (like s hs)]
        refine ⟨?_, h2, by rw [hd]; exact hk⟩
        rw [hd] at h1 ⊢
        show d < s.n
        rw [hs.n]; exact h1
      · exact h.elim
  obtain ⟨hv, hback⟩ := hv
  unfold vDAt at hv ⊢
  rw [hj'] at hv ⊢
  simp only at hv ⊢
  have hyl := a1 d hd
  have hyd := a2 d hd
  have fr : ∀ g, vDOp P G T q g y (st.put (some d) v) K → vDOp P G T q g y st fun s => vDAt P G T ops.toList true i s K := fun g hg =>
    vDOp_mono (fun s hs => hback s hs.1 hs.2) (vDOp_frame hyd (looks_op hyl) hg)
  split at hv
  · exact fr _ hv
  · rename_i jj want hgd
    rw [guard_tmp hyl hgd st (st.put (some d) v) (fun t ht => upd_ne _ _ _ _ ht)] at hv
    split at hv
    · exact fr _ hv
    · exact hv.elim
end
end Go.Proofs.YtaackmiajgapoaaGreatDoor.V

/- A program logic at the level of values: a region whose operations' order is drawn: the rule. -/
set_option linter.unusedVariables false
set_option linter.unusedSimpArgs false
namespace Go.Proofs.YtaackmiajgapoaaGreatDoor.V
open Go

/-- Which operations stand ahead of each, through others: by edges. -/
def closGo (md : Region.Mode) : List Oper → List (List Nat) → List (List Nat)
  | [], acc => acc
  | o :: r, acc => closGo md r (acc ++ [((o.after.toList.filter (Region.binds md)).flatMap fun e => e.on :: acc.getD e.on []).eraseDups])
def clos (md : Region.Mode) (ops : Array Oper) : List (List Nat) := closGo md ops.toList []

def closOk (md : Region.Mode) (ops : Array Oper) (cl : List (List Nat)) : Bool :=
  (List.range ops.size).all fun i => match ops[i]? with
    | none => false
    | some o => (cl.getD i []).all fun x => o.after.toList.any fun e => Region.binds md e && decide (e.on < i) && (e.on == x || (cl.getD e.on []).contains x)

def pairsOk (md : Region.Mode) (ops : Array Oper) (cl : List (List Nat)) : List (Bool × Nat) → Bool
  | [] => true
  | (p, i) :: r => (match ops[i]? with
      | none => false
      | some o => o.after.toList.all (fun e => !Region.binds md e || (decide (e.on < ops.size) && e.on != i && !(r.map Prod.snd).contains e.on)) &&
          r.all fun y => (cl.getD y.2 []).contains i || (p && match ops[y.2]? with | some o' => indep ops o o' | none => false)) && pairsOk md ops cl r

def nodupB : List Nat → Bool
  | [] => true
  | x :: r => !r.contains x && nodupB r

/-- The order may be taken for the drawn ones. -/
def drawOk (md : Region.Mode) (ops : Array Oper) (cl : List (List Nat)) (c : List (Bool × Nat)) : Bool :=
  closOk md ops cl && pairsOk md ops cl c && c.length == ops.size && (List.range ops.size).all (fun i => (c.map Prod.snd).contains i) && c.all (fun y => decide (y.2 < ops.size)) && nodupB (c.map Prod.snd)

section
variable {P : Program} {G : Nat → Option (List PV)} {w0 : World} {gh0 : Gh} {nx0 : Nat} {st : VS} {a : Act} {w : World} {gh : Gh}

theorem bubble {T : Tb} {ops : Array Oper} {Q : VExit → VS → Prop} {p : Bool} {i : Nat} {y : Oper} (hi : ops[i]? = some y) {post : List (Bool × Nat)} : ∀ (pre : List (Bool × Nat)) (st : VS),
    (∀ z ∈ pre, z.1 = true ∧ ∃ x, ops[z.2]? = some x ∧ indep ops x y = true) → vD P G T ops.toList Q (pre ++ (p, i) :: post) st → vD P G T ops.toList Q ((p, i) :: (pre ++ post)) st
  | [], st, _, h => h
  | (q, j) :: pre, st, hz, h => by
    obtain ⟨rfl, x, hx, hin⟩ := hz (q, j) (by simp)
    rw [List.cons_append, vD_cons] at h
    rw [vD_cons]
    have h2 := vDAt_mono (fun s hs => bubble hi pre s (fun z hz' => hz z (by simp [hz'])) hs) h
    simp only [vD_cons] at h2
    have h3 := swap (P := P) (G := G) hx hi hin h2
    refine vDAt_mono (fun s hs => ?_) h3
    rw [List.cons_append, vD_cons]
    exact hs

theorem vDAt_sound {T : Tb} (hT : TabOk P G T) (h : Sim P G w0 gh0 nx0 st a w gh) {ops : Array Oper} {p : Bool} {i : Nat} {K : VS → Prop} {Q : VExit → VS → Prop} {K' : Act → World → Prop} (hk : vDAt P G T ops.toList p i st K)
    (hK : ∀ st' a' w' gh', K st' → Sim P G w0 gh0 nx0 st' a' w' gh' → K' a' w') : wpOp P ops (WQ P G w0 gh0 nx0 Q) i K' a w := by
  unfold vDAt at hk
  unfold wpOp
  simp only [Array.getElem?_toList] at hk
  split at hk
  · exact hk.elim
  · rename_i o ho
    rw [ho]
    simp only
    split at hk
    · rename_i hgd
      have hw : Region.wanted o (yielded ops a.tmps) = true := by simp [Region.wanted, hgd]
      rw [if_pos hw]
      exact .inl (vDOp_sound hT h (g := none) trivial hk hK)
    · rename_i j want hgd
      split at hk
      · rename_i b hb
        rw [guardOf_sound h hgd hb]
        cases b with
        | true => exact .inl (vDOp_sound hT h (g := some true) rfl hk hK)
        | false =>
          obtain ⟨st', gh', hk', hs'⟩ := vDOp_skip h hk
          exact hK _ _ _ _ hk' hs'
      · exact hk.elim

theorem pairsOk_drop {md : Region.Mode} {ops : Array Oper} {cl : List (List Nat)} {x : Bool × Nat} {post : List (Bool × Nat)} : ∀ {pre : List (Bool × Nat)}, pairsOk md ops cl (pre ++ x :: post) = true → pairsOk md ops cl (pre ++ post) = true
  | [], h => by
    simp only [List.nil_append, pairsOk, Bool.and_eq_true] at h
    exact h.2
  | (p, i) :: pre, h => by
    simp only [List.cons_append, pairsOk, Bool.and_eq_true] at h ⊢
    refine ⟨?_, pairsOk_drop h.2⟩
    have h1 := h.1
    split at h1
    · exact h1
    · simp only [Bool.and_eq_true, List.all_eq_true, Bool.or_eq_true, Bool.not_eq_true'] at h1 ⊢
      refine ⟨fun e he => ?_, fun y hy => h1.2 y (by simp at hy ⊢; rcases hy with hy | hy <;> simp [hy])⟩
      rcases h1.1 e he with h2 | h2
      · exact .inl h2
      · refine .inr ⟨h2.1, ?_⟩
        have h3 := h2.2
        simp only [List.map_append, List.map_cons, List.contains_eq_mem, List.mem_append, List.mem_cons, decide_eq_false_iff_not] at h3 ⊢
        exact fun h4 => h3 (h4.elim .inl fun h5 => .inr (.inr h5))

theorem pairsOk_at {md : Region.Mode} {ops : Array Oper} {cl : List (List Nat)} {p : Bool} {i : Nat} {post : List (Bool × Nat)} : ∀ {pre : List (Bool × Nat)}, pairsOk md ops cl (pre ++ (p, i) :: post) = true → ∀ z ∈ pre,
    (cl.getD i []).contains z.2 = true ∨ (z.1 = true ∧ ∃ x y, ops[z.2]? = some x ∧ ops[i]? = some y ∧ indep ops x y = true)
  | (q, j) :: pre, h, z, hz => by
    simp only [List.cons_append, pairsOk, Bool.and_eq_true] at h
    rcases List.mem_cons.1 hz with rfl | hz
    · have h1 := h.1
      split at h1
      · cases h1
      · rename_i x hx
        simp only [Bool.and_eq_true, List.all_eq_true] at h1
        have := h1.2 (p, i) (by simp)
        simp only [Bool.or_eq_true, Bool.and_eq_true] at this
        rcases this with h2 | ⟨h2, h3⟩
        · exact .inl h2
        · split at h3
          · rename_i y hy
            exact .inr ⟨h2, x, y, hx, hy, h3⟩
          · cases h3
    · exact pairsOk_at h.2 z hz

theorem pairsOk_head {md : Region.Mode} {ops : Array Oper} {cl : List (List Nat)} {p : Bool} {i : Nat} {r : List (Bool × Nat)} (h : pairsOk md ops cl ((p, i) :: r) = true) :
    ∃ o, ops[i]? = some o ∧ ∀ e ∈ o.after, Region.binds md e = true → e.on < ops.size ∧ e.on ≠ i ∧ e.on ∉ r.map Prod.snd := by
  simp only [pairsOk, Bool.and_eq_true] at h
  have h1 := h.1
  split at h1
  · cases h1
  · rename_i o ho
    refine ⟨o, ho, fun e he hb => ?_⟩
    simp only [Bool.and_eq_true, List.all_eq_true] at h1
    have := h1.1 e (by simpa using he)
    simp only [hb, Bool.not_true, Bool.false_or, Bool.and_eq_true, decide_eq_true_eq, bne_iff_ne, Bool.not_eq_true', List.contains_eq_mem, decide_eq_false_iff_not] at this
    exact ⟨this.1.1, this.1.2, this.2⟩

theorem nodupB_drop {x : Nat} {post : List Nat} : ∀ {pre : List Nat}, nodupB (pre ++ x :: post) = true → nodupB (pre ++ post) = true ∧ x ∉ pre ∧ x ∉ post
  | [], h => by
    simp only [List.nil_append, nodupB, Bool.and_eq_true, Bool.not_eq_true', List.contains_eq_mem, decide_eq_false_iff_not] at h
    exact ⟨h.2, by simp, h.1⟩
  | y :: pre, h => by
    simp only [List.cons_append, nodupB, Bool.and_eq_true, Bool.not_eq_true', List.contains_eq_mem, decide_eq_false_iff_not] at h ⊢
    obtain ⟨h1, h2, h3⟩ := nodupB_drop h.2
    refine ⟨⟨fun h4 => h.1 ?_, h1⟩, ?_, h3⟩
    · simp at h4 ⊢; rcases h4 with h4 | h4 <;> simp [h4]
    · intro h4
      rcases List.mem_cons.1 h4 with rfl | h4
      · exact h.1 (by simp)
      · exact h2 h4

theorem clos_listed {md : Region.Mode} {ops : Array Oper} {cl : List (List Nat)} (hcl : closOk md ops cl = true) {listed : Array Bool} (dc : ∀ i o, ops[i]? = some o → listed.getD i false = true → ∀ e ∈ o.after, Region.binds md e = true → listed.getD e.on false = true) :
    ∀ (n i : Nat), i < n → ∀ o, ops[i]? = some o → (∀ e ∈ o.after, Region.binds md e = true → listed.getD e.on false = true) → ∀ x, (cl.getD i []).contains x = true → listed.getD x false = true
  | 0, i, h, _, _, _, _, _ => by omega
  | n + 1, i, h, o, ho, hr, x, hx => by
    have h1 := List.all_eq_true.1 hcl i (by simp; exact (Array.getElem?_eq_some_iff.1 ho).1)
    simp only [ho] at h1
    have h2 := List.all_eq_true.1 h1 x (by simpa using hx)
    obtain ⟨e, he, h3⟩ := List.any_eq_true.1 h2
    simp only [Bool.and_eq_true, decide_eq_true_eq, Bool.or_eq_true, beq_iff_eq] at h3
    have hl := hr e (by simpa using he) h3.1.1
    rcases h3.2 with h4 | h4
    · rw [← h4]; exact hl
    · have hlt : e.on < ops.size := Nat.lt_trans h3.1.2 (Array.getElem?_eq_some_iff.1 ho).1
      exact clos_listed hcl dc n e.on (by omega) ops[e.on] (by simp [hlt]) (dc e.on _ (by simp [hlt]) hl) x h4

theorem vD_any {T : Tb} (hT : TabOk P G T) {md : Region.Mode} {ops : Array Oper} {Q : VExit → VS → Prop} {cl : List (List Nat)} (hcl : closOk md ops cl = true) : ∀ (n : Nat) (c : List (Bool × Nat)) (listed : Array Bool) (st : VS) (a : Act) (w : World) (gh : Gh), c.length = n →
    Sim P G w0 gh0 nx0 st a w gh → vD P G T ops.toList Q c st → pairsOk md ops cl c = true → (∀ z ∈ c, z.2 < ops.size) → nodupB (c.map Prod.snd) = true → listed.size = ops.size →
    (∀ i, i < ops.size → (listed.getD i false = false ↔ i ∈ c.map Prod.snd)) → (∀ i o, ops[i]? = some o → listed.getD i false = true → ∀ e ∈ o.after, Region.binds md e = true → listed.getD e.on false = true) →
    wpAny P md ops (WQ P G w0 gh0 nx0 Q) n listed a w
  | 0, c, listed, st, a, w, gh, hn, h, hv, hp, hlt, hnd, hsz, hli, dc => by
    have hc : c = [] := List.length_eq_zero_iff.1 hn
    subst hc
    refine ⟨?_, st, gh, hv, h⟩
    unfold Region.ready
    refine List.filter_eq_nil_iff.2 fun i hi => ?_
    have hi' : i < ops.size := by simpa using hi
    have := (not_congr (hli i hi')).2 (by simp)
    have e : listed.getD i true = true := by
      have h1 : listed.getD i false = true := by simpa using this
      simp [hsz, hi'] at h1 ⊢
      exact h1
    simp [e]
  | n + 1, c, listed, st, a, w, gh, hn, h, hv, hp, hlt, hnd, hsz, hli, dc => by
    refine ⟨?_, ?_⟩
    · intro hr
      exfalso
      obtain ⟨⟨p, i⟩, r, rfl⟩ : ∃ x r, c = x :: r := by
        cases c with
        | nil => simp at hn
        | cons x r => exact ⟨x, r, rfl⟩
      obtain ⟨o, ho, he⟩ := pairsOk_head hp
      have hi' : i < ops.size := hlt _ (List.mem_cons_self ..)
      have hun : listed.getD i false = false := (hli i hi').2 (by simp)
      have : i ∈ Region.ready md ops listed := by
        unfold Region.ready
        refine List.mem_filter.2 ⟨by simpa using hi', ?_⟩
        have e1 : listed.getD i true = false := by
          simp [hsz, hi'] at hun ⊢
          exact hun
        simp only [e1, ho, Bool.not_false, Bool.true_and, Option.map_some, Option.getD_some, Array.all_eq_true']
        intro e hm
        cases hb : Region.binds md e with
        | false => rfl
        | true =>
          obtain ⟨q1, q2, q3⟩ := he e hm hb
          have : listed.getD e.on false = true := by
            cases hx : listed.getD e.on false with
            | true => rfl
            | false =>
              have := (hli e.on q1).1 hx
              simp at this
              rcases this with h5 | h5
              · exact absurd h5 q2
              · exact absurd (by simpa using h5) q3
          simp [this]
      rw [hr] at this
      cases this
    · intro i hi
      unfold Region.ready at hi
      obtain ⟨h1, h2⟩ := List.mem_filter.1 hi
      have hi' : i < ops.size := by simpa using h1
      simp only [Bool.and_eq_true, Bool.not_eq_true'] at h2
      have hun : listed.getD i false = false := by
        have := h2.1
        simp [hsz, hi'] at this ⊢
        exact this
      obtain ⟨y, hy⟩ : ∃ y, ops[i]? = some y := ⟨ops[i], by simp [hi']⟩
      have hready : ∀ e ∈ y.after, Region.binds md e = true → listed.getD e.on false = true := by
        intro e he hb
        have h3 := h2.2
        rw [hy] at h3
        simp only [Option.map_some, Option.getD_some, Array.all_eq_true'] at h3
        have := h3 e he
        simpa [hb] using this
      obtain ⟨⟨p, i'⟩, hm, rfl⟩ := List.mem_map.1 ((hli i hi').1 hun)
      obtain ⟨pre, post, rfl⟩ := List.append_of_mem hm
      have hat := pairsOk_at hp
      have hb := bubble (P := P) (G := G) (Q := Q) hy pre st (fun z hz => by
        rcases hat z hz with h4 | ⟨h4, x, y', hx, hy', hin⟩
        · exfalso
          have h5 := clos_listed hcl dc (i' + 1) i' (by omega) y hy hready z.2 h4
          have hz2 := hlt z (by simp [hz])
          have h6 := (hli z.2 hz2).2 (List.mem_map.2 ⟨z, by simp [hz], rfl⟩)
          rw [h5] at h6; cases h6
        · rw [hy] at hy'
          cases hy'
          exact ⟨h4, x, hx, hin⟩) hv
      rw [vD_cons] at hb
      have hnd' := hnd
      rw [List.map_append, List.map_cons] at hnd'
      obtain ⟨n1, n2, n3⟩ := nodupB_drop hnd'
      refine vDAt_sound hT h hb fun st' a' w' gh' hk hs => ?_
      refine vD_any hT hcl n (pre ++ post) _ st' a' w' gh' (by simp at hn ⊢; omega) hs hk (pairsOk_drop hp) (fun z hz => hlt z (by simp at hz ⊢; rcases hz with hz | hz <;> simp [hz])) (by rw [List.map_append]; exact n1) (by simpa using hsz) ?_ ?_
      · intro j hj
        rw [getD_setB listed i' j (by rw [hsz]; exact hi')]
        by_cases e : j = i'
        · subst e
          simp only [if_true]
          constructor
          · intro h; cases h
          · intro h; rw [List.map_append, List.mem_append] at h; exact absurd h (by rintro (h | h); exact n2 h; exact n3 h)
        · rw [if_neg e, hli j hj]
          simp only [List.map_append, List.map_cons, List.mem_append, List.mem_cons]
          constructor
          · rintro (h | h | h)
            · exact .inl h
            · exact absurd h e
            · exact .inr h
          · rintro (h | h)
            · exact .inl h
            · exact .inr (.inr h)
      · intro j o ho hl e he hb'
        rw [getD_setB listed i' j (by rw [hsz]; exact hi')] at hl
        rw [getD_setB listed i' e.on (by rw [hsz]; exact hi')]
        by_cases ej : j = i'
        · subst ej
          rw [hy] at ho
          cases ho
          have := hready e he hb'
          rw [this]; simp
        · rw [if_neg ej] at hl
          have := dc j o ho hl e he hb'
          rw [this]; simp
where
  getD_setB (listed : Array Bool) (i j : Nat) (h : i < listed.size) : (listed.setIfInBounds i true).getD j false = if j = i then true else listed.getD j false := by
    simp only [Array.getD_eq_getD_getElem?]
    by_cases e : j = i
    · subst e; simp [h]
    · rw [Array.getElem?_setIfInBounds_ne (fun h => e h.symm)]; simp [e]

/-- A REGION WHOSE ORDER IS DRAWN. -/
theorem VWp_draw {T : Tb} (hT : TabOk P G T) {id : Nat} {ops : Array Oper} {Q : VExit → VS → Prop} (hm : P.follows .mixedOrders = true) (c : List (Bool × Nat)) (hc : drawOk .any ops (clos .any ops) c = true) (h : vD P G T ops.toList Q c st) : VWp P G (.region id ops true) Q st := by
  intro w0 gh0 nx0 a w gh hs
  simp only [drawOk, Bool.and_eq_true, beq_iff_eq, List.all_eq_true, List.contains_eq_mem, decide_eq_true_eq] at hc
  obtain ⟨⟨⟨⟨⟨h1, h2⟩, h3⟩, h4⟩, h5⟩, h6⟩ := hc
  refine wp_region_any hm ?_
  have hs' : Sim P G w0 gh0 nx0 st a { w with drawn := w.drawn + 1 } gh := ⟨⟨hs.sh.mem, hs.sh.glob, hs.sh.box, hs.sh.nomem, hs.sh.lt⟩, hs.n, hs.defers, hs.tmps, hs.locs, hs.lown, fun k c hk => ⟨(hs.chs k c hk).nil, (hs.chs k c hk).cons⟩, ⟨hs.step.os, hs.step.tape, hs.step.output, hs.step.size, hs.step.blk, hs.step.mle, hs.step.phi, hs.step.nx⟩⟩
  rw [← h3]
  have hf : ∀ i, (Array.replicate c.length false).getD i false = false := by
    intro i
    simp only [Array.getD_eq_getD_getElem?, Array.getElem?_replicate]
    split <;> rfl
  refine vD_any hT h1 c.length c _ st a _ gh rfl hs' h h2 (fun z hz => h5 z hz) h6 (by simp [h3]) (fun i hi => ⟨fun _ => h4 i (by simpa using hi), fun _ => hf i⟩) (fun i o ho hl => by rw [hf] at hl; cases hl)
end
end Go.Proofs.YtaackmiajgapoaaGreatDoor.V

/- A program logic at the level of values: loops, as they are used; the arithmetic of counters; empty slices as chains. -/
set_option linter.unusedVariables false
set_option linter.unusedSimpArgs false
namespace Go.Proofs.YtaackmiajgapoaaGreatDoor.V
open Go

structure HeadOk (st st0 : VS) (W : List Nat) (s : List (Nat × PV)) (WL : List Nat) (ls : List (Nat × Option (List PV))) (WC : List Nat) (cs : List (Nat × Option Chain)) (sh : Sh) : Prop where
  n : st.n = st0.n
  shr : st.shr = st0.shr
  sh : st.sh = sh
  ht : AgreeOff W st.tmps st0.tmps
  hl : AgreeOff WL st.locs st0.locs
  hc : AgreeOff WC st.chs st0.chs
  et : slotsEq st.tmps s
  el : slotsEq st.locs ls
  ec : slotsEq st.chs cs
  gl : gone st0.locs ls WL
  gc : gone st0.chs cs WC
  rt : slotsRef (overF WL ls none st0.locs) (overF WC cs none st0.chs) s
  rl : locsRef (overF WL ls none st0.locs) (overF WC cs none st0.chs) ls

section
variable {P : Program} {G : Nat → Option (List PV)} {st : VS}

theorem HeadOk.le {st st0 : VS} {W WL WC : List Nat} {s : List (Nat × PV)} {ls : List (Nat × Option (List PV))} {cs : List (Nat × Option Chain)} {sh : Sh} (hw : WF st0) (h : HeadOk st st0 W s WL ls WC cs sh) : LeVS P G st (hdVS st0 W s WL ls WC cs sh) :=
  LeVS.head hw h.n h.sh h.ht h.hl h.hc h.et h.el h.ec h.gl h.gc h.rt h.rl

/-- A LOOP, as it is used. -/
theorem VWp_for {ι : Type} {c : Code} {Q : VExit → VS → Prop} (W : List Nat) (s : ι → List (Nat × PV)) (WL : List Nat) (ls : ι → List (Nat × Option (List PV))) (WC : List Nat) (cs : ι → List (Nat × Option Chain)) (sh : ι → Sh)
    (inv : ι → Prop) (μ : ι → Nat) (x0 : ι) (hi : inv x0) (h0 : HeadOk st st W (s x0) WL (ls x0) WC (cs x0) (sh x0))
    (round : ∀ x, inv x → VWp P G c (thenQ (fun st' => ∃ x', inv x' ∧ μ x' < μ x ∧ HeadOk st' st W (s x') WL (ls x') WC (cs x') (sh x')) Q) (hdVS st W (s x) WL (ls x) WC (cs x) (sh x))) : VWp P G (.loop c) Q st :=
  VWp_wf fun hw => VWp_loop (fun x => hdVS st W (s x) WL (ls x) WC (cs x) (sh x)) inv μ x0 hi (h0.le hw) fun x hx => VWp_mono (fun e st' hq => by
    cases e with
    | normal => obtain ⟨x', a, b, c⟩ := hq; exact ⟨x', a, b, c.le hw⟩
    | exit id => exact hq
    | ret => exact hq
    | pan t p => exact hq) (round x hx)

/-- An empty slice, as a chain that is to grow. -/
theorem VWp_promote {c : Code} {Q : VExit → VS → Prop} (i k : Nat) (e : TypeId) (sz : Nat) (hk : st.chs k = none) (hi : st.tmps i = .nils)
    (h : VWp P G c Q { st with tmps := upd st.tmps i (.tsl k 0), chs := upd st.chs k (some ⟨[], e, sz, false⟩) }) : VWp P G c Q st := by
  intro w0 gh0 nx0 a w gh hs
  obtain ⟨gh', hs', hg, _, _⟩ := hs.nil_chain hk e sz false
  refine h w0 gh0 nx0 a w gh' ⟨hs'.sh, hs'.n, hs'.defers, fun j => ?_, hs'.locs, hs'.lown, hs'.chs, hs'.step⟩
  show RepT gh' st.locs _ st.sh.next (upd st.tmps i (.tsl k 0) j) _
  by_cases e' : j = i
  · subst e'
    rw [upd_same]
    have h1 := hs'.tmps j
    have h2 : RepT gh' st.locs (upd st.chs k (some ⟨[], e, sz, false⟩)) st.sh.next (st.tmps j) (a.tmps.getD j undef) := h1
    rw [hi] at h2
    have := h2.nils_inv
    refine ⟨⟨[], e, sz, false⟩, upd_same _ _ _, Nat.le_refl _, fun _ => ?_⟩
    rw [hg, this]
    rfl
  · rw [upd_ne _ _ _ _ e']
    exact hs'.tmps j

theorem wrap64_id {n : Int} (h0 : -9223372036854775808 ≤ n) (h1 : n < 9223372036854775808) : IntKind.i64.wrap n = n := by
  rw [IntKind.wrap_i64]; omega
theorem maxLen_eq : maxLen = 9223372036854775807 := rfl
end
end Go.Proofs.YtaackmiajgapoaaGreatDoor.V

/- A program logic at the level of values: tables of what is known of calls; boxes that are forgotten where others are changed. -/
set_option linter.unusedVariables false
set_option linter.unusedSimpArgs false
namespace Go.Proofs.YtaackmiajgapoaaGreatDoor.V
open Go

structure Rule (P : Program) (G : Nat → Option (List PV)) where
  f : FuncId
  ι : Type
  A : ι → List PV
  dom : ι → Sh → Prop
  res : ι → Sh → PV
  sh' : ι → Sh → Sh
  inj : ∀ x y sh, A x = A y → dom x sh → dom y sh → res x sh = res y sh ∧ sh' x sh = sh' y sh
  ok : ∀ x sh, dom x sh → VCalls P G f (A x) sh fun e s => e = .ret (res x sh) ∧ s = sh' x sh

theorem size_mk (a : Array UInt8) : (ByteArray.mk a).size = a.size := rfl
/-! ### Literals: numbers of things are compared as such -/
theorem lit_eq_0 (n : Nat) : ((n : Int) = 0) = (n = 0) := propext (by omega)
theorem lit_lt_0 (n : Nat) : ((n : Int) < 0) = (n < 0) := propext (by omega)
theorem lit_gt_0 (n : Nat) : (0 < (n : Int)) = (0 < n) := propext (by omega)
theorem lit_le_0 (n : Nat) : ((n : Int) ≤ 0) = (n ≤ 0) := propext (by omega)
theorem lit_ge_0 (n : Nat) : (0 ≤ (n : Int)) = (0 ≤ n) := propext (by omega)
theorem lit_eq_1 (n : Nat) : ((n : Int) = 1) = (n = 1) := propext (by omega)
theorem lit_lt_1 (n : Nat) : ((n : Int) < 1) = (n < 1) := propext (by omega)
theorem lit_gt_1 (n : Nat) : (1 < (n : Int)) = (1 < n) := propext (by omega)
theorem lit_le_1 (n : Nat) : ((n : Int) ≤ 1) = (n ≤ 1) := propext (by omega)
theorem lit_ge_1 (n : Nat) : (1 ≤ (n : Int)) = (1 ≤ n) := propext (by omega)
theorem lit_eq_2 (n : Nat) : ((n : Int) = 2) = (n = 2) := propext (by omega)
theorem lit_lt_2 (n : Nat) : ((n : Int) < 2) = (n < 2) := propext (by omega)
theorem lit_gt_2 (n : Nat) : (2 < (n : Int)) = (2 < n) := propext (by omega)
theorem lit_le_2 (n : Nat) : ((n : Int) ≤ 2) = (n ≤ 2) := propext (by omega)
theorem lit_ge_2 (n : Nat) : (2 ≤ (n : Int)) = (2 ≤ n) := propext (by omega)
theorem lit_eq_3 (n : Nat) : ((n : Int) = 3) = (n = 3) := propext (by omega)
theorem lit_lt_3 (n : Nat) : ((n : Int) < 3) = (n < 3) := propext (by omega)
theorem lit_gt_3 (n : Nat) : (3 < (n : Int)) = (3 < n) := propext (by omega)
theorem lit_le_3 (n : Nat) : ((n : Int) ≤ 3) = (n ≤ 3) := propext (by omega)
theorem lit_ge_3 (n : Nat) : (3 ≤ (n : Int)) = (3 ≤ n) := propext (by omega)
theorem lit_eq_4 (n : Nat) : ((n : Int) = 4) = (n = 4) := propext (by omega)
theorem lit_lt_4 (n : Nat) : ((n : Int) < 4) = (n < 4) := propext (by omega)
theorem lit_gt_4 (n : Nat) : (4 < (n : Int)) = (4 < n) := propext (by omega)
theorem lit_le_4 (n : Nat) : ((n : Int) ≤ 4) = (n ≤ 4) := propext (by omega)
theorem lit_ge_4 (n : Nat) : (4 ≤ (n : Int)) = (4 ≤ n) := propext (by omega)
theorem lit_eq_5 (n : Nat) : ((n : Int) = 5) = (n = 5) := propext (by omega)
theorem lit_lt_5 (n : Nat) : ((n : Int) < 5) = (n < 5) := propext (by omega)
theorem lit_gt_5 (n : Nat) : (5 < (n : Int)) = (5 < n) := propext (by omega)
theorem lit_le_5 (n : Nat) : ((n : Int) ≤ 5) = (n ≤ 5) := propext (by omega)
theorem lit_ge_5 (n : Nat) : (5 ≤ (n : Int)) = (5 ≤ n) := propext (by omega)
theorem lit_eq_6 (n : Nat) : ((n : Int) = 6) = (n = 6) := propext (by omega)
theorem lit_lt_6 (n : Nat) : ((n : Int) < 6) = (n < 6) := propext (by omega)
theorem lit_gt_6 (n : Nat) : (6 < (n : Int)) = (6 < n) := propext (by omega)
theorem lit_le_6 (n : Nat) : ((n : Int) ≤ 6) = (n ≤ 6) := propext (by omega)
theorem lit_ge_6 (n : Nat) : (6 ≤ (n : Int)) = (6 ≤ n) := propext (by omega)
theorem lit_eq_15 (n : Nat) : ((n : Int) = 15) = (n = 15) := propext (by omega)
theorem lit_lt_15 (n : Nat) : ((n : Int) < 15) = (n < 15) := propext (by omega)
theorem lit_gt_15 (n : Nat) : (15 < (n : Int)) = (15 < n) := propext (by omega)
theorem lit_le_15 (n : Nat) : ((n : Int) ≤ 15) = (n ≤ 15) := propext (by omega)
theorem lit_ge_15 (n : Nat) : (15 ≤ (n : Int)) = (15 ≤ n) := propext (by omega)
theorem lit_eq_20 (n : Nat) : ((n : Int) = 20) = (n = 20) := propext (by omega)
theorem lit_lt_20 (n : Nat) : ((n : Int) < 20) = (n < 20) := propext (by omega)
theorem lit_gt_20 (n : Nat) : (20 < (n : Int)) = (20 < n) := propext (by omega)
theorem lit_le_20 (n : Nat) : ((n : Int) ≤ 20) = (n ≤ 20) := propext (by omega)
theorem lit_ge_20 (n : Nat) : (20 ≤ (n : Int)) = (20 ≤ n) := propext (by omega)
theorem lit_eq_24 (n : Nat) : ((n : Int) = 24) = (n = 24) := propext (by omega)
theorem lit_lt_24 (n : Nat) : ((n : Int) < 24) = (n < 24) := propext (by omega)
theorem lit_gt_24 (n : Nat) : (24 < (n : Int)) = (24 < n) := propext (by omega)
theorem lit_le_24 (n : Nat) : ((n : Int) ≤ 24) = (n ≤ 24) := propext (by omega)
theorem lit_ge_24 (n : Nat) : (24 ≤ (n : Int)) = (24 ≤ n) := propext (by omega)
theorem lit_eq_30 (n : Nat) : ((n : Int) = 30) = (n = 30) := propext (by omega)
theorem lit_lt_30 (n : Nat) : ((n : Int) < 30) = (n < 30) := propext (by omega)
theorem lit_gt_30 (n : Nat) : (30 < (n : Int)) = (30 < n) := propext (by omega)
theorem lit_le_30 (n : Nat) : ((n : Int) ≤ 30) = (n ≤ 30) := propext (by omega)
theorem lit_ge_30 (n : Nat) : (30 ≤ (n : Int)) = (30 ≤ n) := propext (by omega)
theorem lit_eq_60 (n : Nat) : ((n : Int) = 60) = (n = 60) := propext (by omega)
theorem lit_lt_60 (n : Nat) : ((n : Int) < 60) = (n < 60) := propext (by omega)
theorem lit_gt_60 (n : Nat) : (60 < (n : Int)) = (60 < n) := propext (by omega)
theorem lit_le_60 (n : Nat) : ((n : Int) ≤ 60) = (n ≤ 60) := propext (by omega)
theorem lit_ge_60 (n : Nat) : (60 ≤ (n : Int)) = (60 ≤ n) := propext (by omega)
theorem lit_eq_64 (n : Nat) : ((n : Int) = 64) = (n = 64) := propext (by omega)
theorem lit_lt_64 (n : Nat) : ((n : Int) < 64) = (n < 64) := propext (by omega)
theorem lit_gt_64 (n : Nat) : (64 < (n : Int)) = (64 < n) := propext (by omega)
theorem lit_le_64 (n : Nat) : ((n : Int) ≤ 64) = (n ≤ 64) := propext (by omega)
theorem lit_ge_64 (n : Nat) : (64 ≤ (n : Int)) = (64 ≤ n) := propext (by omega)
theorem lit_eq_70 (n : Nat) : ((n : Int) = 70) = (n = 70) := propext (by omega)
theorem lit_lt_70 (n : Nat) : ((n : Int) < 70) = (n < 70) := propext (by omega)
theorem lit_gt_70 (n : Nat) : (70 < (n : Int)) = (70 < n) := propext (by omega)
theorem lit_le_70 (n : Nat) : ((n : Int) ≤ 70) = (n ≤ 70) := propext (by omega)
theorem lit_ge_70 (n : Nat) : (70 ≤ (n : Int)) = (70 ≤ n) := propext (by omega)
theorem lit_eq_95 (n : Nat) : ((n : Int) = 95) = (n = 95) := propext (by omega)
theorem lit_lt_95 (n : Nat) : ((n : Int) < 95) = (n < 95) := propext (by omega)
theorem lit_gt_95 (n : Nat) : (95 < (n : Int)) = (95 < n) := propext (by omega)
theorem lit_le_95 (n : Nat) : ((n : Int) ≤ 95) = (n ≤ 95) := propext (by omega)
theorem lit_ge_95 (n : Nat) : (95 ≤ (n : Int)) = (95 ≤ n) := propext (by omega)
theorem lit_eq_200 (n : Nat) : ((n : Int) = 200) = (n = 200) := propext (by omega)
theorem lit_lt_200 (n : Nat) : ((n : Int) < 200) = (n < 200) := propext (by omega)
theorem lit_gt_200 (n : Nat) : (200 < (n : Int)) = (200 < n) := propext (by omega)
theorem lit_le_200 (n : Nat) : ((n : Int) ≤ 200) = (n ≤ 200) := propext (by omega)
theorem lit_ge_200 (n : Nat) : (200 ≤ (n : Int)) = (200 ≤ n) := propext (by omega)
theorem lt_not (n m : Nat) : decide (m < n) = !decide (n ≤ m) := by
  by_cases h : n ≤ m
  · rw [decide_eq_true h, decide_eq_false (by omega)]; rfl
  · rw [decide_eq_false h, decide_eq_true (by omega)]; rfl
theorem pickPV_t (p q : PV) : pickPV true p q = p := by
  unfold pickPV
  split <;> rfl
theorem pickPV_f (p q : PV) : pickPV false p q = q := by
  unfold pickPV
  split <;> rfl
theorem pickPV_b (b x y : Bool) : pickPV b (.val (.bool x)) (.val (.bool y)) = .val (.bool (cond b x y)) := rfl
/-! ### Short ranges -/
theorem range_0 : List.range 0 = [] := rfl
theorem range_1 : List.range 1 = [0] := rfl
theorem range_2 : List.range 2 = [0, 1] := rfl
theorem range_3 : List.range 3 = [0, 1, 2] := rfl
theorem range_4 : List.range 4 = [0, 1, 2, 3] := rfl
theorem range_5 : List.range 5 = [0, 1, 2, 3, 4] := rfl
theorem range_6 : List.range 6 = [0, 1, 2, 3, 4, 5] := rfl
theorem range_7 : List.range 7 = [0, 1, 2, 3, 4, 5, 6] := rfl
theorem range_8 : List.range 8 = [0, 1, 2, 3, 4, 5, 6, 7] := rfl
theorem range_9 : List.range 9 = [0, 1, 2, 3, 4, 5, 6, 7, 8] := rfl
theorem range_10 : List.range 10 = [0, 1, 2, 3, 4, 5, 6, 7, 8, 9] := rfl
theorem range_11 : List.range 11 = [0, 1, 2, 3, 4, 5, 6, 7, 8, 9, 10] := rfl
theorem range_12 : List.range 12 = [0, 1, 2, 3, 4, 5, 6, 7, 8, 9, 10, 11] := rfl
theorem range_13 : List.range 13 = [0, 1, 2, 3, 4, 5, 6, 7, 8, 9, 10, 11, 12] := rfl
theorem range_14 : List.range 14 = [0, 1, 2, 3, 4, 5, 6, 7, 8, 9, 10, 11, 12, 13] := rfl
theorem range_15 : List.range 15 = [0, 1, 2, 3, 4, 5, 6, 7, 8, 9, 10, 11, 12, 13, 14] := rfl
theorem range_16 : List.range 16 = [0, 1, 2, 3, 4, 5, 6, 7, 8, 9, 10, 11, 12, 13, 14, 15] := rfl
theorem range_17 : List.range 17 = [0, 1, 2, 3, 4, 5, 6, 7, 8, 9, 10, 11, 12, 13, 14, 15, 16] := rfl
theorem range_18 : List.range 18 = [0, 1, 2, 3, 4, 5, 6, 7, 8, 9, 10, 11, 12, 13, 14, 15, 16, 17] := rfl
theorem range_19 : List.range 19 = [0, 1, 2, 3, 4, 5, 6, 7, 8, 9, 10, 11, 12, 13, 14, 15, 16, 17, 18] := rfl
theorem range_20 : List.range 20 = [0, 1, 2, 3, 4, 5, 6, 7, 8, 9, 10, 11, 12, 13, 14, 15, 16, 17, 18, 19] := rfl
theorem range_21 : List.range 21 = [0, 1, 2, 3, 4, 5, 6, 7, 8, 9, 10, 11, 12, 13, 14, 15, 16, 17, 18, 19, 20] := rfl
theorem range_22 : List.range 22 = [0, 1, 2, 3, 4, 5, 6, 7, 8, 9, 10, 11, 12, 13, 14, 15, 16, 17, 18, 19, 20, 21] := rfl
theorem range_23 : List.range 23 = [0, 1, 2, 3, 4, 5, 6, 7, 8, 9, 10, 11, 12, 13, 14, 15, 16, 17, 18, 19, 20, 21, 22] := rfl
theorem range_24 : List.range 24 = [0, 1, 2, 3, 4, 5, 6, 7, 8, 9, 10, 11, 12, 13, 14, 15, 16, 17, 18, 19, 20, 21, 22, 23] := rfl
theorem range_25 : List.range 25 = [0, 1, 2, 3, 4, 5, 6, 7, 8, 9, 10, 11, 12, 13, 14, 15, 16, 17, 18, 19, 20, 21, 22, 23, 24] := rfl

section
variable {P : Program} {G : Nat → Option (List PV)}

open Classical in
noncomputable def tab : List (Rule P G) → Tb
  | [] => fun _ _ _ => none
  | R :: l => fun f args sh => if h : f = R.f ∧ ∃ x, R.A x = args ∧ R.dom x sh then some (R.res h.2.choose sh, R.sh' h.2.choose sh) else tab l f args sh

theorem tab_nil (f : FuncId) (args : List PV) (sh : Sh) : tab ([] : List (Rule P G)) f args sh = none := rfl

theorem tab_ok : ∀ l : List (Rule P G), TabOk P G (tab l)
  | [], f, args, sh, r, sh', h => by cases h
  | R :: l, f, args, sh, r, sh', h => by
    unfold tab at h
    split at h
    · rename_i hx
      obtain ⟨rfl, hx⟩ := hx
      simp only [Option.some.injEq, Prod.mk.injEq] at h
      obtain ⟨rfl, rfl⟩ := h
      have hs := hx.choose_spec
      have := R.ok hx.choose sh hs.2
      rw [hs.1] at this
      exact this
    · exact tab_ok l f args sh r sh' h

theorem tab_at (R : Rule P G) (l : List (Rule P G)) (x : R.ι) (sh : Sh) (h : R.dom x sh) : tab (R :: l) R.f (R.A x) sh = some (R.res x sh, R.sh' x sh) := by
  unfold tab
  have hx : R.f = R.f ∧ ∃ y, R.A y = R.A x ∧ R.dom y sh := ⟨rfl, x, rfl, h⟩
  rw [dif_pos hx]
  have hs := hx.2.choose_spec
  obtain ⟨e1, e2⟩ := R.inj _ x sh hs.1 hs.2 h
  rw [e1, e2]

theorem tab_skip (R : Rule P G) (l : List (Rule P G)) (f : FuncId) (args : List PV) (sh : Sh) (h : f ≠ R.f) : tab (R :: l) f args sh = tab l f args sh := by
  have hn : ¬ (f = R.f ∧ ∃ x, R.A x = args ∧ R.dom x sh) := fun hx => h hx.1
  simp only [tab]
  exact dif_neg hn

/-- A rule for a function that only answers. -/
def Rule.pure (f : FuncId) (ι : Type) (A : ι → List PV) (res : ι → PV) (inj : ∀ x y, A x = A y → res x = res y) (ok : ∀ x, VPure P G f (A x) (res x)) : Rule P G :=
  { f, ι, A, dom := fun _ _ => True, res := fun x _ => res x, sh' := fun _ sh => sh, inj := fun x y _ h _ _ => ⟨inj x y h, rfl⟩, ok := fun x sh _ => ok x sh }

theorem tab_pure {f : FuncId} {ι : Type} {A : ι → List PV} {res : ι → PV} {inj : ∀ x y, A x = A y → res x = res y} {ok : ∀ x, VPure P G f (A x) (res x)} (l : List (Rule P G)) (x : ι) (sh : Sh) :
    tab (Rule.pure f ι A res inj ok :: l) f (A x) sh = some (res x, sh) := tab_at (Rule.pure f ι A res inj ok) l x sh trivial

/-- A rule that holds of some arguments. -/
theorem mkRule (f : FuncId) (ι : Type) (A : ι → List PV) (res : ι → PV) (D : ι → Prop) (inj : ∀ x y, A x = A y → res x = res y) (ok : ∀ x, D x → VPure P G f (A x) (res x)) :
    ∃ R : Rule P G, (∀ tl x sh, D x → tab (R :: tl) f (A x) sh = some (res x, sh)) ∧ ∀ tl g args sh, g ≠ f → tab (R :: tl) g args sh = tab tl g args sh :=
  ⟨{ f, ι, A, dom := fun x _ => D x, res := fun x _ => res x, sh' := fun _ sh => sh, inj := fun x y _ h _ _ => ⟨inj x y h, rfl⟩, ok := fun x sh h => ok x h sh },
    fun tl x sh h => tab_at { f, ι, A, dom := fun x _ => D x, res := fun x _ => res x, sh' := fun _ sh => sh, inj := fun x y _ h _ _ => ⟨inj x y h, rfl⟩, ok := fun x sh h => ok x h sh } tl x sh h,
    fun tl g args sh h => tab_skip _ tl g args sh h⟩

/-! ### Code, bit by bit: a branch is a halt -/
theorem vCode_skip {T : Tb} {Q : VExit → VS → Prop} {st : VS} : vCode P G T .skip Q st = Q .normal st := rfl
theorem vCode_region {T : Tb} {Q : VExit → VS → Prop} {st : VS} {id : Nat} {ops : Array Oper} : vCode P G T (.region id ops false) Q st = vList P G T ops.toList Q ops.toList st := rfl
theorem vCode_seq {T : Tb} {Q : VExit → VS → Prop} {st : VS} {x y : Code} : vCode P G T (.seq x y) Q st = vCode P G T x (thenQ (vCode P G T y Q) Q) st := rfl
theorem vCode_block {T : Tb} {Q : VExit → VS → Prop} {st : VS} {id : Nat} {c : Code} : vCode P G T (.block id c) Q st = vCode P G T c (blockQ id Q) st := rfl
theorem vCode_exit {T : Tb} {Q : VExit → VS → Prop} {st : VS} {id : Nat} : vCode P G T (.exit id) Q st = Q (.exit id) st := rfl
theorem vCode_ret {T : Tb} {Q : VExit → VS → Prop} {st : VS} : vCode P G T .ret Q st = Q .ret st := rfl
@[irreducible] def vIf (P : Program) (G : Nat → Option (List PV)) (T : Tb) (c : Operand) (x y : Code) (Q : VExit → VS → Prop) (st : VS) : Prop := vCode P G T (.cond c x y) Q st
@[irreducible] def vLoop (P : Program) (G : Nat → Option (List PV)) (c : Code) (Q : VExit → VS → Prop) (st : VS) : Prop := VWp P G (.loop c) Q st
@[irreducible] def vDrawn (P : Program) (G : Nat → Option (List PV)) (id : Nat) (ops : Array Oper) (Q : VExit → VS → Prop) (st : VS) : Prop := VWp P G (.region id ops true) Q st
theorem vCode_cond {T : Tb} {Q : VExit → VS → Prop} {st : VS} {c : Operand} {x y : Code} : vCode P G T (.cond c x y) Q st = vIf P G T c x y Q st := by unfold vIf; rfl
theorem vCode_loop {T : Tb} {Q : VExit → VS → Prop} {st : VS} {c : Code} : vCode P G T (.loop c) Q st = vLoop P G c Q st := by unfold vLoop; rfl
theorem vCode_draw {T : Tb} {Q : VExit → VS → Prop} {st : VS} {id : Nat} {ops : Array Oper} : vCode P G T (.region id ops true) Q st = vDrawn P G id ops Q st := by unfold vDrawn; rfl
theorem if_intro {T : Tb} {Q : VExit → VS → Prop} {st : VS} {c : Operand} {x y : Code} (b : Bool) (hc : st.ev G c = .val (.bool b)) (ho : okOp c) (h1 : b = true → vCode P G T x Q st) (h2 : b = false → vCode P G T y Q st) : vIf P G T c x y Q st := by
  unfold vIf vCode
  rw [hc]
  exact ⟨ho, h1, h2⟩
theorem vIf_true {T : Tb} {Q : VExit → VS → Prop} {st : VS} {t : Tmp} {x y : Code} (h : st.tmps t = .val (.bool true)) : vIf P G T (.tmp t) x y Q st = vCode P G T x Q st := by
  have e : st.ev G (.tmp t) = .val (.bool true) := h
  unfold vIf
  rw [vCode, e]
  simp [okOp]
theorem vIf_false {T : Tb} {Q : VExit → VS → Prop} {st : VS} {t : Tmp} {x y : Code} (h : st.tmps t = .val (.bool false)) : vIf P G T (.tmp t) x y Q st = vCode P G T y Q st := by
  have e : st.ev G (.tmp t) = .val (.bool false) := h
  unfold vIf
  rw [vCode, e]
  simp [okOp]
theorem loop_intro {Q : VExit → VS → Prop} {st : VS} {c : Code} (h : VWp P G (.loop c) Q st) : vLoop P G c Q st := by unfold vLoop; exact h
theorem draw_intro {T : Tb} (hT : TabOk P G T) {id : Nat} {ops : Array Oper} {Q : VExit → VS → Prop} {st : VS} (hm : P.follows .mixedOrders = true) (c : List (Bool × Nat)) (hc : drawOk .any ops (clos .any ops) c = true) (h : vD P G T ops.toList Q c st) : vDrawn P G id ops Q st := by
  unfold vDrawn; exact VWp_draw hT hm c hc h

/-! ### Boxes of a call are forgotten, the older ones may have changed -/
/-- Cells that point to no new box. -/
inductive BoxLt (nx : Nat) : PV → Prop
  | val (v : Value) : BoxLt nx (.val v)
  | nils : BoxLt nx .nils
  | slice (es : List (List PV)) : BoxLt nx (.slice es)
  | row (e : List PV) (off : Nat) : BoxLt nx (.row e off)
  | box (b off : Nat) (h : b < nx) : BoxLt nx (.box b off)
  | agg (cs : List PV) (h : ∀ p ∈ cs, BoxLt nx p) : BoxLt nx (.agg cs)
  | tup (cs : List PV) (h : ∀ p ∈ cs, BoxLt nx p) : BoxLt nx (.tup cs)

theorem BoxLt.renx {m : Mem} {phi : Nat → Nat} {nx nx' : Nat} {p : PV} (h : BoxLt nx p) : ∀ {v : Value}, RepS m phi nx' p v → RepS m phi nx p v := by
  induction h with
  | val u => intro v r; cases r; exact .pure (by assumption)
  | nils => intro v r; cases r; exact .pure (by assumption)
  | slice es => intro v r; cases r; exact .pure (by assumption)
  | row e off =>
    intro v r
    cases r with
    | pure h => cases h
    | row _ g' o' _ u' hu' hr' => exact .row e g' o' off u' hu' hr'
  | box b off hb =>
    intro v r
    cases r with
    | pure h => cases h
    | box _ _ _ => exact .box b off hb
  | agg cs _ ih =>
    intro v r
    cases r with
    | pure h => cases h
    | agg _ vs' hl' h1' h' => exact .agg cs vs' hl' h1' fun i hi => ih _ (List.getElem_mem hi) (h' i hi)
  | tup cs _ ih =>
    intro v r
    cases r with
    | pure h => cases h
    | tup _ vs' hl' h' => exact .tup cs vs' hl' fun i hi => ih _ (List.getElem_mem hi) (h' i hi)

def ltE (nx : Nat) : VEnd → Prop
  | .ret p => BoxLt nx p
  | .pan _ p => BoxLt nx p

/-- What stands of the shared boxes when the new ones are forgotten. -/
theorem VCalls.gc2 {f : FuncId} {args : List PV} {sh : Sh} {R R' : VEnd → Sh → Prop} (h : VCalls P G f args sh R)
    (hR : ∀ r sh', R r sh' → ltE sh.next r ∧ ∃ s : Sh, s.next = sh.next ∧ (∀ b cs, s.mem b = some cs → (sh.next ≤ b → sh.mem b = some cs) ∧ (b < sh.next → sh'.mem b = some cs ∧ (sh.mem b = some cs ∨ ∀ p ∈ cs, BoxLt sh.next p))) ∧ R' r s) : VCalls P G f args sh R' := by
  intro w gh vs hS hO hl hr
  refine (h w gh vs hS hO hl hr).mono ?_
  rintro e w' ⟨r, sh', gh', h1, h2, h3, h4, h5⟩
  obtain ⟨t1, s, t0, t2, t3⟩ := hR _ _ h1
  let own' : Nat → Owner := fun g => match gh'.own g with | .box b => if b < sh.next then .box b else .none | _ => .none
  have ho1 : ∀ {g b}, own' g = .box b → gh'.own g = .box b ∧ b < sh.next := by
    intro g b e
    simp only [own'] at e
    split at e
    · rename_i b' hb'
      split at e
      · rename_i hlt; cases e; exact ⟨hb', hlt⟩
      · cases e
    · cases e
  refine ⟨r, s, { gh' with own := own' }, t3, ?_, ⟨h3.mem, h3.glob, ?_, ?_, ?_⟩, ?_, ⟨h5.os, h5.tape, h5.output, h5.size, ?_, h5.mle, h5.phi, by rw [t0]; exact Nat.le_refl _⟩⟩
  · rw [t0]
    cases r with
    | ret p => obtain ⟨v, e, hv⟩ := h2; exact ⟨v, e, t1.renx hv⟩
    | pan t p => obtain ⟨v, e, hv⟩ := h2; exact ⟨v, e, t1.renx hv⟩
  · intro b cs hb
    obtain ⟨u0, u12⟩ := t2 b cs hb
    have hlt : b < sh.next := by
      rcases Nat.lt_or_ge b sh.next with hlt | hge
      · exact hlt
      · exact (hS.box b cs (u0 hge)).1
    obtain ⟨u1, u2⟩ := u12 hlt
    obtain ⟨p1, p2, cur, ty, p3, p4, p5⟩ := h3.box b cs u1
    rw [t0]
    refine ⟨hlt, ?_, cur, ty, p3, p4, fun k hk => ⟨?_, (p5 k hk).2⟩⟩
    · show own' _ = _
      simp only [own', p2, if_pos hlt]
    · rcases u2 with u2 | u2
      · obtain ⟨q1, q2, cur0, ty0, q3, q4, q5⟩ := hS.box b cs u2
        exact (q5 k hk).1.renx (p5 k hk).1
      · exact (u2 _ (List.getElem_mem hk)).renx (p5 k hk).1
  · intro g b e
    exact h3.nomem g b (ho1 e).1
  · intro g e
    refine h3.lt g fun e' => e ?_
    show own' g = _
    simp only [own', e']
  · intro g
    show own' g = _ ∨ _
    cases ho : own' g with
    | none => exact .inl rfl
    | box b => exact .inr ⟨b, ho⟩
    | loc d =>
      exfalso
      simp only [own'] at ho
      split at ho
      · split at ho <;> cases ho
      · cases ho
    | chain k =>
      exfalso
      simp only [own'] at ho
      split at ho
      · split at ho <;> cases ho
      · cases ho
  · intro g hg ho
    obtain ⟨k1, k2, k3⟩ := h5.blk g hg ho
    refine ⟨k1, ?_, k3⟩
    show own' g = _
    simp only [own', k2]
end
end Go.Proofs.YtaackmiajgapoaaGreatDoor.V

/- A program logic at the level of values: rules for single calls. -/
set_option linter.unusedVariables false
set_option linter.unusedSimpArgs false
namespace Go.Proofs.YtaackmiajgapoaaGreatDoor.V
open Go
section
variable {P : Program} {G : Nat → Option (List PV)}

/-- One call, known. -/
theorem oneRule {f : FuncId} {args : List PV} {sh : Sh} {r : PV} {sh' : Sh} (h : VCalls P G f args sh fun e s => e = .ret r ∧ s = sh') :
    ∃ R : Rule P G, (∀ tl, tab (R :: tl) f args sh = some (r, sh')) ∧ ∀ tl g args sh, g ≠ f → tab (R :: tl) g args sh = tab tl g args sh :=
  ⟨{ f := f, ι := Unit, A := fun _ => args, dom := fun _ s => s = sh, res := fun _ _ => r, sh' := fun _ _ => sh', inj := fun _ _ _ _ _ _ => ⟨rfl, rfl⟩, ok := (by rintro _ s rfl; exact h) },
    fun tl => tab_at { f := f, ι := Unit, A := fun _ => args, dom := fun _ s => s = sh, res := fun _ _ => r, sh' := fun _ _ => sh', inj := fun _ _ _ _ _ _ => ⟨rfl, rfl⟩, ok := (by rintro _ s rfl; exact h) } tl () sh rfl,
    fun tl g args sh h => tab_skip _ tl g args sh h⟩

/-- A call that only answers, known. -/
theorem pureRule {f : FuncId} {args : List PV} {r : PV} (h : VPure P G f args r) :
    ∃ R : Rule P G, (∀ tl sh, tab (R :: tl) f args sh = some (r, sh)) ∧ ∀ tl g args sh, g ≠ f → tab (R :: tl) g args sh = tab tl g args sh :=
  ⟨Rule.pure f Unit (fun _ => args) (fun _ => r) (fun _ _ _ => rfl) (fun _ => h), fun tl sh => tab_pure tl () sh, fun tl g args sh h => tab_skip _ tl g args sh h⟩
end
end Go.Proofs.YtaackmiajgapoaaGreatDoor.V

/- A program logic at the level of values: calls that hand back a slice of their own, to be appended to. -/
set_option linter.unusedVariables false
set_option linter.unusedSimpArgs false
namespace Go.Proofs.YtaackmiajgapoaaGreatDoor.V
open Go

/-- A call, and whatever is known behind it. -/
def VCallsX (P : Program) (G : Nat → Option (List PV)) (f : FuncId) (args : List PV) (sh : Sh) (X : World → Ending → World → Gh → Sh → Prop) : Prop :=
  ∀ (w : World) (gh : Gh) (vs : Array Value), ShSim P G sh gh w → OnlyBox gh → args.length = vs.size → (∀ i (h : i < args.length), RepS gh.m gh.phi sh.next (args[i]) (vs.getD i undef)) →
    Calls P f vs w fun e w' => ∃ sh' gh', X w e w' gh' sh' ∧ ShSim P G sh' gh' w' ∧ OnlyBox gh' ∧ Step w gh sh.next w' gh' sh'.next

/-- A row that is new, and no one else's. -/
structure FreshC (P : Program) (w w' : World) (gh' : Gh) (gam : Option (Nat × Nat)) (es : List (List PV)) (e : TypeId) (sz : Nat) : Prop where
  nil : gam = none → es = []
  cons : ∀ g cap, gam = some (g, cap) → w.heap.size ≤ g ∧ g < w'.heap.size ∧ gh'.own g = .none ∧ (∀ o, gh'.m g o = none) ∧ 0 < sz ∧ es.length ≤ cap ∧ cap ≤ maxLen ∧ (P.info? e).map (·.size) = some sz ∧
    (∀ i (h : i < es.length), (es[i]).length = sz) ∧ ∃ cur, w'.heap[g]? = some (.cells cur e (0, 0)) ∧ cur.size = cap * sz ∧
      (∀ i (h : i < es.length) j (hj : j < (es[i]).length), RepV gh'.m ((es[i])[j]) (cur.getD (i * sz + j) undef))

/-- A CALL THAT HANDS BACK A SLICE OF ITS OWN. -/
def VOwn (P : Program) (G : Nat → Option (List PV)) (f : FuncId) (args : List PV) (sh : Sh) (es : List (List PV)) (e : TypeId) (sz : Nat) : Prop :=
  VCallsX P G f args sh fun w en w' gh' sh' => ∃ gam, en = .returned (chVal gam es.length) ∧ sh' = sh ∧ FreshC P w w' gh' gam es e sz

section
variable {P : Program} {G : Nat → Option (List PV)} {w0 : World} {gh0 : Gh} {nx0 : Nat} {st : VS} {a : Act} {w : World} {gh : Gh}

theorem callx_sound (h : Sim P G w0 gh0 nx0 st a w gh) {f : FuncId} {ps : List PV} {vs : Array Value} {X : World → Ending → World → Gh → Sh → Prop} (hv : VCallsX P G f ps st.sh X) (hl : ps.length = vs.size)
    (hr : ∀ i (h : i < ps.length), RepS gh.m gh.phi st.sh.next (ps[i]) (vs.getD i undef)) :
    Calls P f vs w fun e w' => ∃ sh' gh1 gh', X w e w' gh1 sh' ∧ gh'.m = gh1.m ∧ gh'.phi = gh1.phi ∧ gh'.gam = gh.gam ∧ (∀ g, w.heap.size ≤ g → gh'.own g = gh1.own g) ∧ Sim P G w0 gh0 nx0 { st with sh := sh' } a w' gh' := by
  have hob : ∀ {g b}, onlyB (gh.own g) = .box b → gh.own g = .box b := by
    intro g b e
    cases ho : gh.own g with
    | box b' => rw [ho] at e; exact e
    | _ => rw [ho] at e; cases e
  refine (hv w { gh with own := fun g => onlyB (gh.own g) } vs ⟨h.sh.mem, h.sh.glob, ?_, ?_, ?_⟩ ?_ hl hr).mono ?_
  · intro b cs hb
    obtain ⟨h1, h2, h3⟩ := h.sh.box b cs hb
    exact ⟨h1, by show onlyB _ = _; rw [h2]; rfl, h3⟩
  · intro g b e
    exact h.sh.nomem g b (hob e)
  · intro g e
    refine h.sh.lt g fun e' => e ?_
    show onlyB _ = _
    rw [e']; rfl
  · intro g
    cases ho : gh.own g with
    | box b => exact .inr ⟨b, by show onlyB _ = _; rw [ho]; rfl⟩
    | _ => exact .inl (by show onlyB _ = _; rw [ho]; rfl)
  · rintro e w' ⟨sh', gh1, hX, hS, hO, hstep⟩
    have hnb : ∀ {g}, (∀ b, gh.own g ≠ .box b) → onlyB (gh.own g) = .none := by
      intro g hg
      cases ho : gh.own g with
      | box b => exact absurd ho (hg b)
      | _ => rfl
    have hkeep : ∀ {g}, (∀ b, gh.own g ≠ .box b) → gh.own g ≠ .none → w'.heap[g]? = w.heap[g]? ∧ gh1.own g = .none ∧ ∀ o, gh1.m g o = gh.m g o := by
      intro g hg hn
      exact hstep.blk g (h.sh.lt g hn) (hnb hg)
    let own' : Nat → Owner := fun g => match gh.own g with | .loc d => .loc d | .chain k => .chain k | _ => gh1.own g
    have ho1 : ∀ {g b}, own' g = .box b → gh1.own g = .box b := by
      intro g b e
      simp only [own'] at e
      split at e
      · cases e
      · cases e
      · exact e
    have ho2 : ∀ {g b}, gh1.own g = .box b → own' g = .box b := by
      intro g b e
      simp only [own']
      split
      · rename_i d ho
        have := (hkeep (g := g) (by rw [ho]; intro _ e; cases e) (by rw [ho]; intro e; cases e)).2.1
        rw [this] at e; cases e
      · rename_i d ho
        have := (hkeep (g := g) (by rw [ho]; intro _ e; cases e) (by rw [ho]; intro e; cases e)).2.1
        rw [this] at e; cases e
      · exact e
    refine ⟨sh', gh1, { gh1 with own := own', lam := gh.lam, gam := gh.gam }, hX, rfl, rfl, rfl, ?_, h.share (gh' := { gh1 with own := own', lam := gh.lam, gam := gh.gam }) ⟨hS.mem, hS.glob, ?_, ?_, ?_⟩ hstep.mle hstep.phi hstep.nx rfl rfl ⟨hstep.os, hstep.tape, hstep.output, hstep.size, ?_, hstep.mle, hstep.phi, hstep.nx⟩ ?_ ?_ ?_⟩
    · intro g hg
      show own' g = _
      have hn : gh.own g = .none := by
        cases ho : gh.own g with
        | none => rfl
        | _ =>
          have := h.sh.lt g (by rw [ho]; intro e; cases e)
          omega
      simp only [own', hn]
    · intro b cs hb
      obtain ⟨h1, h2, h3⟩ := hS.box b cs hb
      exact ⟨h1, ho2 h2, h3⟩
    · intro g b e
      exact hS.nomem g b (ho1 e)
    · intro g e
      by_cases hg : gh1.own g = .none
      · have e' : own' g ≠ .none := e
        simp only [own'] at e'
        split at e'
        · rename_i d ho
          exact Nat.lt_of_lt_of_le (h.sh.lt g (by rw [ho]; intro e; cases e)) hstep.size
        · rename_i d ho
          exact Nat.lt_of_lt_of_le (h.sh.lt g (by rw [ho]; intro e; cases e)) hstep.size
        · exact absurd hg e'
      · exact hS.lt g hg
    · intro g hg ho
      obtain ⟨k1, k2, k3⟩ := hstep.blk g hg (by show onlyB _ = _; rw [ho]; rfl)
      refine ⟨k1, ?_, k3⟩
      show own' g = _
      simp only [own', ho]
      exact k2
    · intro g d ho
      have := hkeep (g := g) (by rw [ho]; intro _ e; cases e) (by rw [ho]; intro e; cases e)
      exact ⟨by show own' g = _; simp only [own', ho], this.1⟩
    · intro g d ho o
      have ho' : own' g = .loc d := ho
      simp only [own'] at ho'
      split at ho'
      · rename_i d' hod
        cases ho'
        have := hkeep (g := g) (by rw [hod]; intro _ e; cases e) (by rw [hod]; intro e; cases e)
        show gh1.m g o = none
        rw [this.2.2 o]
        exact h.lown g d hod o
      · cases ho'
      · rcases hO g with e | ⟨b, e⟩
        · rw [e] at ho'; cases ho'
        · rw [e] at ho'; cases ho'
    · intro g k ho
      have := hkeep (g := g) (by rw [ho]; intro _ e; cases e) (by rw [ho]; intro e; cases e)
      exact ⟨by show own' g = _; simp only [own', ho], this.1, this.2.2⟩

/-- A new row becomes a chain of the frame's. -/
theorem Sim.own_chain (h : Sim P G w0 gh0 nx0 st a w gh) {k : Nat} (hk : st.chs k = none) {wc : World} {ghc : Gh} {gam : Option (Nat × Nat)} {es : List (List PV)} {e : TypeId} {sz : Nat} (hf : FreshC P wc w ghc gam es e sz)
    (hm : gh.m = ghc.m) (ho : ∀ g, wc.heap.size ≤ g → gh.own g = ghc.own g) (h0 : w0.heap.size ≤ wc.heap.size) :
    ∃ gh', Sim P G w0 gh0 nx0 { st with chs := upd st.chs k (some ⟨es, e, sz, false⟩) } a w gh' ∧ gh'.gam k = gam := by
  have hne : ∀ {k' c}, st.chs k' = some c → k' ≠ k := by rintro k' c hc rfl; rw [hk] at hc; cases hc
  cases hg : gam with
  | none =>
    obtain ⟨gh', hs, h1, _, _⟩ := h.nil_chain hk e sz false
    have := hf.nil hg
    subst this
    exact ⟨gh', hs, h1⟩
  | some gc =>
    obtain ⟨g, cap⟩ := gc
    obtain ⟨c0, c1, c2, c3, c4, c5, c6, c7, c8, cur, c9, c10, c11⟩ := hf.cons g cap hg
    have hfree : gh.own g = .none := by rw [ho g c0]; exact c2
    have hmg : ∀ o, gh.m g o = none := by rw [hm]; exact c3
    have ow : ∀ g', g' ≠ g → upd gh.own g (.chain k) g' = gh.own g' := fun g' hg' => upd_ne _ _ _ _ hg'
    have nb : ∀ {g' x}, gh.own g' = x → x ≠ .none → g' ≠ g := by rintro g' x hx hn rfl; rw [hfree] at hx; exact hn hx.symm
    have rt : ∀ {p : PV} {v : Value}, RepT gh st.locs st.chs st.sh.next p v → RepT { gh with own := upd gh.own g (.chain k), gam := upd gh.gam k (some (g, cap)) } st.locs (upd st.chs k (some ⟨es, e, sz, false⟩)) st.sh.next p v := fun h =>
      RepT.mono (gh := gh) (gh' := { gh with own := upd gh.own g (.chain k), gam := upd gh.gam k (some (g, cap)) }) (locs := st.locs) (locs' := st.locs) (chs := st.chs) (chs' := upd st.chs k (some ⟨es, e, sz, false⟩)) (MemLe.refl _) (fun _ _ => rfl) (Nat.le_refl _) (fun d hd => ⟨hd, rfl⟩)
        (fun k' c hc => ⟨c, by rw [upd_ne _ _ _ _ (hne hc)]; exact hc, Nat.le_refl _, fun _ => ⟨upd_ne _ _ _ _ (hne hc), rfl⟩⟩) h
    refine ⟨{ gh with own := upd gh.own g (.chain k), gam := upd gh.gam k (some (g, cap)) }, ⟨⟨h.sh.mem, h.sh.glob, ?_, ?_, ?_⟩, h.n, h.defers, fun i => rt (h.tmps i), ?_, ?_, ?_, ⟨h.step.os, h.step.tape, h.step.output, h.step.size, ?_, h.step.mle, h.step.phi, h.step.nx⟩⟩, upd_same _ _ _⟩
    · intro b cs hb
      obtain ⟨h1, h2, h3⟩ := h.sh.box b cs hb
      exact ⟨h1, by show upd _ _ _ _ = _; rw [ow _ (nb h2 (by intro e; cases e))]; exact h2, h3⟩
    · intro g' b e' o
      have e2 : upd gh.own g (.chain k) g' = .box b := e'
      by_cases e3 : g' = g
      · subst e3; rw [upd_same] at e2; cases e2
      · rw [ow _ e3] at e2; exact h.sh.nomem g' b e2 o
    · intro g' e'
      have e2 : upd gh.own g (.chain k) g' ≠ .none := e'
      by_cases e3 : g' = g
      · subst e3; exact c1
      · rw [ow _ e3] at e2; exact h.sh.lt g' e2
    · intro d cs hd
      obtain ⟨h1, cur', ty, h2, h3, h4⟩ := h.locs d cs hd
      exact ⟨by show upd _ _ _ _ = _; rw [ow _ (nb h1 (by intro e; cases e))]; exact h1, cur', ty, h2, h3, fun j hj => ⟨rt (h4 j hj).1, (h4 j hj).2⟩⟩
    · intro g' d e' o
      have e2 : upd gh.own g (.chain k) g' = .loc d := e'
      by_cases e3 : g' = g
      · subst e3; rw [upd_same] at e2; cases e2
      · rw [ow _ e3] at e2; exact h.lown g' d e2 o
    · intro k' c hc
      by_cases e3 : k' = k
      · subst e3
        have hc' : upd st.chs k' (some ⟨es, e, sz, false⟩) k' = some c := hc
        rw [upd_same] at hc'
        obtain rfl := Option.some.inj hc'
        refine ⟨fun e4 => ?_, fun g' cap' e4 => ?_⟩
        · have e5 : upd gh.gam k' (some (g, cap)) k' = none := e4
          rw [upd_same] at e5; cases e5
        · have e5 : upd gh.gam k' (some (g, cap)) k' = some (g', cap') := e4
          rw [upd_same] at e5
          simp only [Option.some.injEq, Prod.mk.injEq] at e5
          obtain ⟨rfl, rfl⟩ := e5
          refine ⟨upd_same _ _ _, c4, c5, c6, c7, c8, cur, c9, c10, fun i hi j hj => ?_, fun o v hv => ?_, fun hf' => by cases hf'⟩
          · show RepV gh.m _ _
            rw [hm]; exact c11 i hi j hj
          · have : gh.m g o = some v := hv
            rw [hmg] at this; cases this
      · have hc' : st.chs k' = some c := by
          have hc2 : upd st.chs k (some ⟨es, e, sz, false⟩) k' = some c := hc
          rwa [upd_ne _ _ _ _ e3] at hc2
        have hcs := h.chs k' c hc'
        refine ⟨fun e4 => hcs.nil ?_, fun g' cap' e4 => ?_⟩
        · have e5 : upd gh.gam k (some (g, cap)) k' = none := e4
          rwa [upd_ne _ _ _ _ e3] at e5
        · have e5 : upd gh.gam k (some (g, cap)) k' = some (g', cap') := e4
          rw [upd_ne _ _ _ _ e3] at e5
          obtain ⟨k1, k2⟩ := hcs.cons g' cap' e5
          exact ⟨by show upd _ _ _ _ = _; rw [ow _ (nb k1 (by intro e; cases e))]; exact k1, k2⟩
    · intro g' hg' ho'
      obtain ⟨k1, k2, k3⟩ := h.step.blk g' hg' ho'
      refine ⟨k1, ?_, k3⟩
      show upd _ _ _ _ = _
      rw [ow _ (by omega)]; exact k2

theorem oper_mono2 {o : Oper} {a : Act} {w : World} {K K' : Act → World → Prop} {Q1 Q2 : Exit → Act → World → Prop} (hk : ∀ a w, K a w → K' a w) (hq : ∀ ch a w, Q1 (.panic ch) a w → Q2 (.panic ch) a w) (ho : LetsOut Q1 → LetsOut Q2)
    (hh : o.wp P a w K Q1) : o.wp P a w K' Q2 := by
  unfold Oper.wp at *
  generalize (execOp a.eval o).run P w = r at *
  cases r with
  | ok n w' =>
    cases n <;> simp only [Oper.upon] at hh ⊢ <;>
      first
        | exact hk _ _ hh
        | exact Calls.mono hh (fun e w'' he => by cases e <;> first | exact hk _ _ he | exact hq _ _ _ he | exact ho he)
        | exact Rows.mono hh (fun _ _ he => hk _ _ he)
  | halt x w' => cases x <;> simp only [Oper.upon] at hh ⊢ <;> first | exact hq _ _ _ hh | exact hh

theorem wpList_append {ops : Array Oper} {Q1 Q2 : Exit → Act → World → Prop} {rest : List Oper} (hn : ∀ a w, Q1 .normal a w → wpList P ops Q2 rest a w) (hq : ∀ ch a w, Q1 (.panic ch) a w → Q2 (.panic ch) a w) (ho : LetsOut Q1 → LetsOut Q2) :
    ∀ (l : List Oper) (a : Act) (w : World), wpList P ops Q1 l a w → wpList P ops Q2 (l ++ rest) a w
  | [], a, w, h => hn a w h
  | o :: l, a, w, h => by
    show wpList P ops Q2 (o :: (l ++ rest)) a w
    unfold wpList at h ⊢
    split at h
    · rename_i hw
      rw [if_pos hw]
      rcases h with h | ⟨h1, h2⟩
      · exact .inl (oper_mono2 (fun a w h => wpList_append hn hq ho l a w h) hq ho h)
      · exact .inr ⟨h1, ho h2⟩
    · rename_i hw
      rw [if_neg hw]
      exact wpList_append hn hq ho l _ w h

/-- What stands ahead of a call that hands back a slice of its own. -/
def ownK (P : Program) (G : Nat → Option (List PV)) (T : Tb) (ops : List Oper) (Q : VExit → VS → Prop) (f : FuncId) (args : List Operand) (d : Tmp) (es : List (List PV)) (e : TypeId) (sz : Nat) (post : List Oper) (st : VS) : Prop :=
  d < st.n ∧ (∀ x ∈ args, okOp x) ∧ (cvs st.chs (args.map (st.ev G))).pre ∧ (cvs st.chs (args.map (st.ev G))).chs d = none ∧ VOwn P G f (cvs st.chs (args.map (st.ev G))).vs st.sh es e sz ∧
    vList P G T ops Q post ({ st with chs := upd (cvs st.chs (args.map (st.ev G))).chs d (some ⟨es, e, sz, false⟩) }.put (some d) (.tsl d es.length))

/-- A REGION WITH A CALL THAT HANDS BACK A SLICE OF ITS OWN. -/
theorem VWp_own {T : Tb} (hT : TabOk P G T) {id : Nat} {ops : Array Oper} {Q : VExit → VS → Prop} (i : Nat) {o : Oper} {c : Call} {f : FuncId} {d : Tmp} (hi : ops.toList = ops.toList.take i ++ o :: ops.toList.drop (i + 1)) (ho : o.op = .call c) (hcal : c.callee = .value (.func f)) (hd : o.dst = some d)
    (hg : o.guard = none) (hcan : canCall P f = true) (es : List (List PV)) (e : TypeId) (sz : Nat)
    (h : vList P G T ops.toList (thenQ (ownK P G T ops.toList Q f c.args.toList d es e sz (ops.toList.drop (i + 1))) Q) (ops.toList.take i) st) : VWp P G (.region id ops false) Q st := by
  intro w0 gh0 nx0 a w gh hs
  refine wp_region_list ?_
  rw [hi]
  refine wpList_append ?_ ?_ ?_ _ a w (vList_sound hT _ st a w gh hs h)
  · rintro a1 w1 ⟨st1, gh1, ⟨k1, k2, k3, k4, k5, k6⟩, hs1⟩
    unfold wpList
    rw [if_pos (by simp [Region.wanted, hg])]
    refine .inl ?_
    obtain ⟨gh2, hs2, hsame, _, hl, hr⟩ := cvs_sound (P := P) (G := G) (w0 := w0) (gh0 := gh0) (nx0 := nx0) (a := a1) (w := w1) (c.args.toList.map (st1.ev G)) st1 gh1 (fun i => (c.args.map a1.eval).getD i undef) hs1
      (fun i hi => by
        have hi' : i < c.args.size := by simpa using hi
        have := ev_sound hs1 (c.args[i]) (k2 _ (by simp))
        simpa [hi'] using this) k3
    have hcall := callx_sound hs2 k5 (vs := c.args.map a1.eval) (by rw [hl]; simp) hr
    have hrun : (execOp a1.eval o).run P w1 = .ok (.enter f (c.args.map a1.eval)) w1 := by
      simp only [execOp, ho, resolve, hcal, Act.eval, Deferred.ofValue, Sem.run_bind, Sem.run_pure, Result.andThen_ok, invoke, Array.empty_append, Array.append_empty]
      exact run_enter hcan
    unfold Oper.wp
    rw [hrun]
    refine hcall.mono fun en w2 he => ?_
    obtain ⟨sh', gh3, gh4, ⟨gam, rfl, rfl, hfr⟩, hm, _, _, how, hs4⟩ := he
    obtain ⟨gh5, hs5, hgam⟩ := Sim.own_chain hs4 k4 hfr hm how hs2.step.size
    have hput := hs5.put (d := some d) k1 (p := .tsl d es.length) (v := chVal gam es.length) ⟨⟨es, e, sz, false⟩, upd_same _ _ _, Nat.le_refl _, fun _ => by rw [hgam]⟩
    show wpList P ops (WQ P G w0 gh0 nx0 Q) (ops.toList.drop (i + 1)) (a1.put o.dst (chVal gam es.length)) w2
    rw [hd]
    exact vList_sound hT _ _ _ w2 gh5 hput k6
  · rintro ch a1 w1 ⟨st1, gh1, t, p, v, e1, hq, hrep, hs1⟩
    exact ⟨st1, gh1, t, p, v, e1, hq, hrep, hs1⟩
  · rintro ⟨a1, w1, h1⟩
    exact h1.elim
theorem VWp_seq {x y : Code} {Q : VExit → VS → Prop} (h : VWp P G x (thenQ (VWp P G y Q) Q) st) : VWp P G (.seq x y) Q st := by
  intro w0 gh0 nx0 a w gh hs
  refine wp_seq (Code.wp_mono ?_ (h w0 gh0 nx0 a w gh hs))
  intro e a' w' he
  cases e with
  | normal =>
    obtain ⟨st', gh', hq, hs'⟩ := he
    exact hq w0 gh0 nx0 a' w' gh' hs'
  | exit id => exact he
  | ret => exact he
  | panic ch => exact he
  | goto l => exact he
  | outgrown => exact he
end
end Go.Proofs.YtaackmiajgapoaaGreatDoor.V

/- A program logic at the level of values: a region whose operations' order is drawn, and that reads shared boxes which nothing in it changes. -/
set_option linter.unusedVariables false
set_option linter.unusedSimpArgs false
namespace Go.Proofs.YtaackmiajgapoaaGreatDoor.V
open Go

/-- A state without what others may change, but for some boxes. -/
def bareR (ro : List Nat) (st : VS) : VS := { bare st with sh := { st.sh with mem := fun b => if ro.contains b = true then st.sh.mem b else none } }
def roSame (ro : List Nat) (st s : VS) : Prop := ∀ b, ro.contains b = true → s.sh.mem b = st.sh.mem b

def vDOpR (ro : List Nat) (P : Program) (G : Nat → Option (List PV)) (T : Tb) (p : Bool) (g : Option Bool) (o : Oper) (st : VS) (K : VS → Prop) : Prop :=
  match p, isPop o.op with
  | true, _ => pureP g o.dst st (rOf P G (bareR ro st) g o.op) K
  | false, true => pureK g o.dst st (rOf P G st g o.op) K
  | false, false => vOp P G T g o st (fun s => roSame ro st s ∧ K s) noPan

def vDR (ro : List Nat) (P : Program) (G : Nat → Option (List PV)) (T : Tb) (ops : List Oper) (Q : VExit → VS → Prop) : List (Bool × Nat) → VS → Prop
  | [], st => Q .normal st
  | (p, i) :: r, st => match ops[i]? with
    | none => False
    | some o => match o.guard with
      | none => vDOpR ro P G T p none o st (vDR ro P G T ops Q r)
      | some (j, want) => match guardOf ops j want st with
        | some b => vDOpR ro P G T p (some b) o st (vDR ro P G T ops Q r)
        | none => False

section
variable {ro : List Nat} {P : Program} {G : Nat → Option (List PV)} {w0 : World} {gh0 : Gh} {nx0 : Nat} {st : VS} {a : Act} {w : World} {gh : Gh}

theorem roSame.of_sh {st s : VS} (h : s.sh.mem = st.sh.mem) : roSame ro st s := fun b _ => by rw [h]
theorem Sim.bareR (h : Sim P G w0 gh0 nx0 st a w gh) : Sim P G w0 gh0 nx0 (V.bareR ro st) a w gh := by
  have h2 := h.bare
  refine ⟨⟨h.sh.mem, h.sh.glob, fun b cs e => ?_, h.sh.nomem, h.sh.lt⟩, h2.n, h2.defers, h2.tmps, h2.locs, h2.lown, h2.chs, h2.step⟩
  have e' : (if ro.contains b = true then st.sh.mem b else none) = some cs := e
  split at e'
  · exact h.sh.box b cs e'
  · cases e'
theorem bareR_up {p : PV} {v : Value} (h : RepT gh (V.bareR ro st).locs (V.bareR ro st).chs (V.bareR ro st).sh.next p v) : RepT gh st.locs st.chs st.sh.next p v := bare_up h
theorem bareR_sound (h : Sim P G w0 gh0 nx0 st a w gh) {g : Option Bool} (hg : onG g) {o : Oper} (hp : (rOf P G (V.bareR ro st) g o.op).pre) : Sound P gh st a w o (rOf P G (V.bareR ro st) g o.op) := by
  obtain ⟨v, h1, h2, h3⟩ := rOf_sound (h.bareR (ro := ro)) hg hp
  exact ⟨v, h1, bareR_up h2, h3⟩
theorem bareR_put (st : VS) (y : Nat) (v : PV) : bareR ro (st.put (some y) v) = (bareR ro st).put (some y) (bareT v) := by
  unfold bareR
  rw [bare_put]
  rfl
theorem vDOp_monoR {T : Tb} {p : Bool} {g : Option Bool} {o : Oper} {K K' : VS → Prop} (h : ∀ s, K s → K' s) (k : vDOpR ro P G T p g o st K) : vDOpR ro P G T p g o st K' := by
  unfold vDOpR at *
  split at k
  · exact pureP_mono h k
  · exact pureK_mono h k
  · exact vOp_mono (fun s x => ⟨x.1, h s x.2⟩) (fun _ _ x => x) k

theorem vDOp_soundR {T : Tb} (hT : TabOk P G T) (h : Sim P G w0 gh0 nx0 st a w gh) {p : Bool} {g : Option Bool} (hg : onG g) {o : Oper} {K : VS → Prop} {Q : VExit → VS → Prop} {K' : Act → World → Prop}
    (hk : vDOpR ro P G T p g o st K) (hK : ∀ st' a' w' gh', K st' → Sim P G w0 gh0 nx0 st' a' w' gh' → K' a' w') : o.wp P a w K' (WQ P G w0 gh0 nx0 Q) := by
  unfold vDOpR at hk
  split at hk
  · exact pureP_sound h hg (bareR_sound h hg) hk hK
  · exact pureK_sound h hg (rOf_sound h hg) hk hK
  · exact vOp_sound hT h hg (vOp_mono (fun _ x => x.2) (fun _ _ x => x.elim) hk) hK

theorem vDOp_skipR {T : Tb} (h : Sim P G w0 gh0 nx0 st a w gh) {p : Bool} {o : Oper} {K : VS → Prop} (hk : vDOpR ro P G T p (some false) o st K) : ∃ st' gh', K st' ∧ Sim P G w0 gh0 nx0 st' (a.put o.dst undef) w gh' := by
  unfold vDOpR at hk
  split at hk
  · obtain ⟨hd, _, hk⟩ := hk
    exact ⟨_, gh, hk, h.put hd rfl⟩
  · exact pureK_skip h hk
  · obtain ⟨st', gh', h1, h2⟩ := vOp_skip h hk
    exact ⟨st', gh', h1.2, h2⟩

def vDAtR (ro : List Nat) (P : Program) (G : Nat → Option (List PV)) (T : Tb) (ops : List Oper) (p : Bool) (i : Nat) (st : VS) (K : VS → Prop) : Prop :=
  match ops[i]? with
  | none => False
  | some o => match o.guard with
    | none => vDOpR ro P G T p none o st K
    | some (j, want) => match guardOf ops j want st with
      | some b => vDOpR ro P G T p (some b) o st K
      | none => False

theorem vD_consR {T : Tb} (ops : List Oper) (Q : VExit → VS → Prop) (p : Bool) (i : Nat) (r : List (Bool × Nat)) (st : VS) : vDR ro P G T ops Q ((p, i) :: r) st = vDAtR ro P G T ops p i st (vDR ro P G T ops Q r) := by
  unfold vDR vDAtR
  rfl

theorem vDAt_monoR {T : Tb} {ops : List Oper} {p : Bool} {i : Nat} {K K' : VS → Prop} (h : ∀ s, K s → K' s) (k : vDAtR ro P G T ops p i st K) : vDAtR ro P G T ops p i st K' := by
  unfold vDAtR at *
  split at k
  · exact k
  · split at k
    · exact vDOp_monoR h k
    · split at k
      · exact vDOp_monoR h k
      · exact k

theorem vDOp_frameR {T : Tb} {q : Bool} {g : Option Bool} {o : Oper} {y : Nat} {v : PV} {K : VS → Prop} (hd : o.dst ≠ some y) (hy : Operand.tmp y ∉ o.op.operands.toList) (h : vDOpR ro P G T q g o (st.put (some y) v) K) :
    vDOpR ro P G T q g o st fun st2 => After o st st2 ∧ roSame ro st st2 ∧ K (st2.put (some y) v) := by
  unfold vDOpR at *
  split at h
  · rw [bareR_put, rOf_like (like_put (G := G) (bareR ro st) (v := bareT v) hy) g] at h
    cases g with
    | none => exact ⟨h.1, h.2.1, after_put o st _, .of_sh (by cases o.dst <;> rfl), by rw [← put_swap st hd]; exact h.2.2⟩
    | some b => exact ⟨h.1, h.2.1, after_put o st _, .of_sh (by cases o.dst <;> rfl), by rw [← put_swap st hd]; exact h.2.2⟩
  · have hh := pureK_frame (rOf_like (like_put (G := G) st (v := v) hy) g) hd h
    cases g with
    | none => exact ⟨hh.1, hh.2.1, fun f => ⟨(hh.2.2 f).1, .of_sh (by cases o.dst <;> rfl), (hh.2.2 f).2⟩⟩
    | some b => exact ⟨hh.1, hh.2.1, fun f => ⟨(hh.2.2 f).1, .of_sh (by cases o.dst <;> rfl), (hh.2.2 f).2⟩⟩
  · rename_i hp
    refine vOp_mono (fun s x => ?_) (fun _ _ x => x) (vOp_frame hp hd hy h)
    exact ⟨fun b hb => x.2.1 b hb, x.1, fun b hb => x.2.1 b hb, x.2.2⟩

theorem swapR {T : Tb} {ops : Array Oper} {i j : Nat} {q : Bool} {x y : Oper} (hi : ops[i]? = some x) (hj : ops[j]? = some y) (hin : indep ops x y = true) {K : VS → Prop} (h : vDAtR ro P G T ops.toList true i st fun s => vDAtR ro P G T ops.toList q j s K) :
    vDAtR ro P G T ops.toList q j st fun s => vDAtR ro P G T ops.toList true i s K := by
  simp only [indep, Bool.and_eq_true, Bool.or_eq_true, Bool.not_eq_true'] at hin
  obtain ⟨⟨hap, hsome⟩, hmem⟩ := hin
  obtain ⟨d, hd⟩ := Option.isSome_iff_exists.1 hsome
  obtain ⟨a1, a2, a3⟩ := Oper.apart_spec hap
  have hi' : ops.toList[i]? = some x := by simpa using hi
  have hj' : ops.toList[j]? = some y := by simpa using hj
  -- the pure one, at a state that is like this one
  obtain ⟨gi, v, hv⟩ : ∃ (gi : Option Bool) (v : PV), vDAtR ro P G T ops.toList q j (st.put (some d) v) K ∧ ∀ s, After y st s → roSame ro st s → K (s.put (some d) v) → vDAtR ro P G T ops.toList true i s K := by
    have like : ∀ s, After y st s → roSame ro st s → Like G x.op (bareR ro st) (bareR ro s) := by
      intro s hs hro
      refine ⟨fun hl => ?_, rfl, ?_, fun z hz => ?_⟩
      · rcases hmem with hm | hm
        · show (fun d => (s.locs d).map _) = _
          rw [hs.locs hm]; rfl
        · rw [hm] at hl; cases hl
      · funext b
        show (if ro.contains b = true then s.sh.mem b else none) = if ro.contains b = true then st.sh.mem b else none
        by_cases hb : ro.contains b = true
        · rw [if_pos hb, if_pos hb, hro b hb]
        · rw [if_neg hb, if_neg hb]
      · cases z with
        | tmp t =>
          show bareT (s.tmps t) = bareT (st.tmps t)
          rw [hs.tmps t]
          intro ht
          exact looks_op (a3 t ht) hz
        | _ => rfl
    unfold vDAtR at h
    rw [hi'] at h
    simp only at h
    split at h
    · rename_i hgd
      simp only [vDOpR] at h
      obtain ⟨h1, h2, h3⟩ := h
      rw [hd] at h3
      refine ⟨none, _, h3, fun s hs hro hk => ?_⟩
      unfold vDAtR
      rw [hi']
      simp only [hgd, vDOpR]
      rw [rOf_like (like s hs hro)]
      refine ⟨?_, h2, by rw [hd]; exact hk⟩
      rw [hd] at h1 ⊢
      show d < s.n
      rw [hs.n]; exact h1
    · rename_i jj want hgd
      split at h
      · rename_i b hb
        simp only [vDOpR] at h
        obtain ⟨h1, h2, h3⟩ := h
        rw [hd] at h3
        refine ⟨some b, _, h3, fun s hs hro hk => ?_⟩
        unfold vDAtR
        rw [hi']
        have hgs : guardOf ops.toList jj want s = some b := by
          rw [← hb]
          cases hyd : y.dst with
          | none =>
            have : s.tmps = st.tmps := by
              funext t
              exact hs.tmps t (by rw [hyd]; intro e; cases e)
            unfold guardOf
            rw [this]
          | some e =>
            exact guard_tmp (a3 e hyd) hgd st s fun t ht => hs.tmps t (by rw [hyd]; intro e'; injection e' with e'; exact ht e'.symm)
        simp only [hgd, hgs, vDOpR]
        rw [rOf_like (like s hs hro)]
        refine ⟨?_, h2, by rw [hd]; exact hk⟩
        rw [hd] at h1 ⊢
        show d < s.n
        rw [hs.n]; exact h1
      · exact h.elim
  obtain ⟨hv, hback⟩ := hv
  unfold vDAtR at hv ⊢
  rw [hj'] at hv ⊢
  simp only at hv ⊢
  have hyl := a1 d hd
  have hyd := a2 d hd
  have fr : ∀ g, vDOpR ro P G T q g y (st.put (some d) v) K → vDOpR ro P G T q g y st fun s => vDAtR ro P G T ops.toList true i s K := fun g hg =>
    vDOp_monoR (fun s hs => hback s hs.1 hs.2.1 hs.2.2) (vDOp_frameR hyd (looks_op hyl) hg)
  split at hv
  · exact fr _ hv
  · rename_i jj want hgd
    rw [guard_tmp hyl hgd st (st.put (some d) v) (fun t ht => upd_ne _ _ _ _ ht)] at hv
    split at hv
    · exact fr _ hv
    · exact hv.elim
theorem bubbleR {T : Tb} {ops : Array Oper} {Q : VExit → VS → Prop} {p : Bool} {i : Nat} {y : Oper} (hi : ops[i]? = some y) {post : List (Bool × Nat)} : ∀ (pre : List (Bool × Nat)) (st : VS),
    (∀ z ∈ pre, z.1 = true ∧ ∃ x, ops[z.2]? = some x ∧ indep ops x y = true) → vDR ro P G T ops.toList Q (pre ++ (p, i) :: post) st → vDR ro P G T ops.toList Q ((p, i) :: (pre ++ post)) st
  | [], st, _, h => h
  | (q, j) :: pre, st, hz, h => by
    obtain ⟨rfl, x, hx, hin⟩ := hz (q, j) (by simp)
    rw [List.cons_append, vD_consR] at h
    rw [vD_consR]
    have h2 := vDAt_monoR (fun s hs => bubbleR hi pre s (fun z hz' => hz z (by simp [hz'])) hs) h
    simp only [vD_consR] at h2
    have h3 := swapR (P := P) (G := G) hx hi hin h2
    refine vDAt_monoR (fun s hs => ?_) h3
    rw [List.cons_append, vD_consR]
    exact hs

theorem vDAt_soundR {T : Tb} (hT : TabOk P G T) (h : Sim P G w0 gh0 nx0 st a w gh) {ops : Array Oper} {p : Bool} {i : Nat} {K : VS → Prop} {Q : VExit → VS → Prop} {K' : Act → World → Prop} (hk : vDAtR ro P G T ops.toList p i st K)
    (hK : ∀ st' a' w' gh', K st' → Sim P G w0 gh0 nx0 st' a' w' gh' → K' a' w') : wpOp P ops (WQ P G w0 gh0 nx0 Q) i K' a w := by
  unfold vDAtR at hk
  unfold wpOp
  simp only [Array.getElem?_toList] at hk
  split at hk
  · exact hk.elim
  · rename_i o ho
    rw [ho]
    simp only
    split at hk
    · rename_i hgd
      have hw : Region.wanted o (yielded ops a.tmps) = true := by simp [Region.wanted, hgd]
      rw [if_pos hw]
      exact .inl (vDOp_soundR hT h (g := none) trivial hk hK)
    · rename_i j want hgd
      split at hk
      · rename_i b hb
        rw [guardOf_sound h hgd hb]
        cases b with
        | true => exact .inl (vDOp_soundR hT h (g := some true) rfl hk hK)
        | false =>
          obtain ⟨st', gh', hk', hs'⟩ := vDOp_skipR h hk
          exact hK _ _ _ _ hk' hs'
      · exact hk.elim

theorem vD_anyR {T : Tb} (hT : TabOk P G T) {md : Region.Mode} {ops : Array Oper} {Q : VExit → VS → Prop} {cl : List (List Nat)} (hcl : closOk md ops cl = true) : ∀ (n : Nat) (c : List (Bool × Nat)) (listed : Array Bool) (st : VS) (a : Act) (w : World) (gh : Gh), c.length = n →
    Sim P G w0 gh0 nx0 st a w gh → vDR ro P G T ops.toList Q c st → pairsOk md ops cl c = true → (∀ z ∈ c, z.2 < ops.size) → nodupB (c.map Prod.snd) = true → listed.size = ops.size →
    (∀ i, i < ops.size → (listed.getD i false = false ↔ i ∈ c.map Prod.snd)) → (∀ i o, ops[i]? = some o → listed.getD i false = true → ∀ e ∈ o.after, Region.binds md e = true → listed.getD e.on false = true) →
    wpAny P md ops (WQ P G w0 gh0 nx0 Q) n listed a w
  | 0, c, listed, st, a, w, gh, hn, h, hv, hp, hlt, hnd, hsz, hli, dc => by
    have hc : c = [] := List.length_eq_zero_iff.1 hn
    subst hc
    refine ⟨?_, st, gh, hv, h⟩
    unfold Region.ready
    refine List.filter_eq_nil_iff.2 fun i hi => ?_
    have hi' : i < ops.size := by simpa using hi
    have := (not_congr (hli i hi')).2 (by simp)
    have e : listed.getD i true = true := by
      have h1 : listed.getD i false = true := by simpa using this
      simp [hsz, hi'] at h1 ⊢
      exact h1
    simp [e]
  | n + 1, c, listed, st, a, w, gh, hn, h, hv, hp, hlt, hnd, hsz, hli, dc => by
    refine ⟨?_, ?_⟩
    · intro hr
      exfalso
      obtain ⟨⟨p, i⟩, r, rfl⟩ : ∃ x r, c = x :: r := by
        cases c with
        | nil => simp at hn
        | cons x r => exact ⟨x, r, rfl⟩
      obtain ⟨o, ho, he⟩ := pairsOk_head hp
      have hi' : i < ops.size := hlt _ (List.mem_cons_self ..)
      have hun : listed.getD i false = false := (hli i hi').2 (by simp)
      have : i ∈ Region.ready md ops listed := by
        unfold Region.ready
        refine List.mem_filter.2 ⟨by simpa using hi', ?_⟩
        have e1 : listed.getD i true = false := by
          simp [hsz, hi'] at hun ⊢
          exact hun
        simp only [e1, ho, Bool.not_false, Bool.true_and, Option.map_some, Option.getD_some, Array.all_eq_true']
        intro e hm
        cases hb : Region.binds md e with
        | false => rfl
        | true =>
          obtain ⟨q1, q2, q3⟩ := he e hm hb
          have : listed.getD e.on false = true := by
            cases hx : listed.getD e.on false with
            | true => rfl
            | false =>
              have := (hli e.on q1).1 hx
              simp at this
              rcases this with h5 | h5
              · exact absurd h5 q2
              · exact absurd (by simpa using h5) q3
          simp [this]
      rw [hr] at this
      cases this
    · intro i hi
      unfold Region.ready at hi
      obtain ⟨h1, h2⟩ := List.mem_filter.1 hi
      have hi' : i < ops.size := by simpa using h1
      simp only [Bool.and_eq_true, Bool.not_eq_true'] at h2
      have hun : listed.getD i false = false := by
        have := h2.1
        simp [hsz, hi'] at this ⊢
        exact this
      obtain ⟨y, hy⟩ : ∃ y, ops[i]? = some y := ⟨ops[i], by simp [hi']⟩
      have hready : ∀ e ∈ y.after, Region.binds md e = true → listed.getD e.on false = true := by
        intro e he hb
        have h3 := h2.2
        rw [hy] at h3
        simp only [Option.map_some, Option.getD_some, Array.all_eq_true'] at h3
        have := h3 e he
        simpa [hb] using this
      obtain ⟨⟨p, i'⟩, hm, rfl⟩ := List.mem_map.1 ((hli i hi').1 hun)
      obtain ⟨pre, post, rfl⟩ := List.append_of_mem hm
      have hat := pairsOk_at hp
      have hb := bubbleR (P := P) (G := G) (Q := Q) hy pre st (fun z hz => by
        rcases hat z hz with h4 | ⟨h4, x, y', hx, hy', hin⟩
        · exfalso
          have h5 := clos_listed hcl dc (i' + 1) i' (by omega) y hy hready z.2 h4
          have hz2 := hlt z (by simp [hz])
          have h6 := (hli z.2 hz2).2 (List.mem_map.2 ⟨z, by simp [hz], rfl⟩)
          rw [h5] at h6; cases h6
        · rw [hy] at hy'
          cases hy'
          exact ⟨h4, x, hx, hin⟩) hv
      rw [vD_consR] at hb
      have hnd' := hnd
      rw [List.map_append, List.map_cons] at hnd'
      obtain ⟨n1, n2, n3⟩ := nodupB_drop hnd'
      refine vDAt_soundR hT h hb fun st' a' w' gh' hk hs => ?_
      refine vD_anyR hT hcl n (pre ++ post) _ st' a' w' gh' (by simp at hn ⊢; omega) hs hk (pairsOk_drop hp) (fun z hz => hlt z (by simp at hz ⊢; rcases hz with hz | hz <;> simp [hz])) (by rw [List.map_append]; exact n1) (by simpa using hsz) ?_ ?_
      · intro j hj
        rw [getD_setB listed i' j (by rw [hsz]; exact hi')]
        by_cases e : j = i'
        · subst e
          simp only [if_true]
          constructor
          · intro h; cases h
          · intro h; rw [List.map_append, List.mem_append] at h; exact absurd h (by rintro (h | h); exact n2 h; exact n3 h)
        · rw [if_neg e, hli j hj]
          simp only [List.map_append, List.map_cons, List.mem_append, List.mem_cons]
          constructor
          · rintro (h | h | h)
            · exact .inl h
            · exact absurd h e
            · exact .inr h
          · rintro (h | h)
            · exact .inl h
            · exact .inr (.inr h)
      · intro j o ho hl e he hb'
        rw [getD_setB listed i' j (by rw [hsz]; exact hi')] at hl
        rw [getD_setB listed i' e.on (by rw [hsz]; exact hi')]
        by_cases ej : j = i'
        · subst ej
          rw [hy] at ho
          cases ho
          have := hready e he hb'
          rw [this]; simp
        · rw [if_neg ej] at hl
          have := dc j o ho hl e he hb'
          rw [this]; simp
where
  getD_setB (listed : Array Bool) (i j : Nat) (h : i < listed.size) : (listed.setIfInBounds i true).getD j false = if j = i then true else listed.getD j false := by
    simp only [Array.getD_eq_getD_getElem?]
    by_cases e : j = i
    · subst e; simp [h]
    · rw [Array.getElem?_setIfInBounds_ne (fun h => e h.symm)]; simp [e]

/-- A REGION WHOSE ORDER IS DRAWN. -/
theorem VWp_drawR {T : Tb} (hT : TabOk P G T) {id : Nat} {ops : Array Oper} {Q : VExit → VS → Prop} (hm : P.follows .mixedOrders = true) (c : List (Bool × Nat)) (hc : drawOk .any ops (clos .any ops) c = true) (h : vDR ro P G T ops.toList Q c st) : VWp P G (.region id ops true) Q st := by
  intro w0 gh0 nx0 a w gh hs
  simp only [drawOk, Bool.and_eq_true, beq_iff_eq, List.all_eq_true, List.contains_eq_mem, decide_eq_true_eq] at hc
  obtain ⟨⟨⟨⟨⟨h1, h2⟩, h3⟩, h4⟩, h5⟩, h6⟩ := hc
  refine wp_region_any hm ?_
  have hs' : Sim P G w0 gh0 nx0 st a { w with drawn := w.drawn + 1 } gh := ⟨⟨hs.sh.mem, hs.sh.glob, hs.sh.box, hs.sh.nomem, hs.sh.lt⟩, hs.n, hs.defers, hs.tmps, hs.locs, hs.lown, fun k c hk => ⟨(hs.chs k c hk).nil, (hs.chs k c hk).cons⟩, ⟨hs.step.os, hs.step.tape, hs.step.output, hs.step.size, hs.step.blk, hs.step.mle, hs.step.phi, hs.step.nx⟩⟩
  rw [← h3]
  have hf : ∀ i, (Array.replicate c.length false).getD i false = false := by
    intro i
    simp only [Array.getD_eq_getD_getElem?, Array.getElem?_replicate]
    split <;> rfl
  refine vD_anyR hT h1 c.length c _ st a _ gh rfl hs' h h2 (fun z hz => h5 z hz) h6 (by simp [h3]) (fun i hi => ⟨fun _ => h4 i (by simpa using hi), fun _ => hf i⟩) (fun i o ho hl => by rw [hf] at hl; cases hl)

theorem drawR_intro {T : Tb} (hT : TabOk P G T) {id : Nat} {ops : Array Oper} {Q : VExit → VS → Prop} {st : VS} (hm : P.follows .mixedOrders = true) (ro : List Nat) (c : List (Bool × Nat)) (hc : drawOk .any ops (clos .any ops) c = true) (h : vDR ro P G T ops.toList Q c st) : vDrawn P G id ops Q st := by
  unfold vDrawn; exact VWp_drawR (ro := ro) hT hm c hc h
end
end Go.Proofs.YtaackmiajgapoaaGreatDoor.V

/- A program logic at the level of values: a nil slice stands for an empty one. -/
set_option linter.unusedVariables false
set_option linter.unusedSimpArgs false
namespace Go.Proofs.YtaackmiajgapoaaGreatDoor.V
open Go

mutual
def nf : PV → PV
  | .nils => .slice []
  | .slice es => .slice (nfLL es)
  | .agg cs => .agg (nfL cs)
  | p => p
def nfL : List PV → List PV
  | [] => []
  | p :: r => nf p :: nfL r
def nfLL : List (List PV) → List (List PV)
  | [] => []
  | l :: r => nfL l :: nfLL r
end
theorem nfL_map : ∀ l : List PV, nfL l = l.map nf
  | [] => rfl
  | p :: r => by rw [nfL, nfL_map r]; rfl
theorem nfLL_map : ∀ l : List (List PV), nfLL l = l.map nfL
  | [] => rfl
  | p :: r => by rw [nfLL, nfLL_map r]; rfl

theorem RepV.nf {m : Mem} {p : PV} {v : Value} (h : RepV m p v) : RepV m (nf p) v := by
  induction h with
  | val v h => exact .val v h
  | nils => exact .nil0 _ _ (Nat.zero_le _)
  | nil0 A cap h => exact .nil0 A cap h
  | slice es g o cap sz u hc hm hs hu hr ih =>
    show RepV m (.slice (nfLL es)) _
    have hl : (nfLL es).length = es.length := by rw [nfLL_map, List.length_map]
    have hi : ∀ i (h : i < es.length), (nfLL es)[i]'(by rw [hl]; exact h) = nfL es[i] := by
      intro i h
      simp only [nfLL_map, List.getElem_map]
    rw [← hl]
    refine .slice (nfLL es) g o cap sz u (by rw [hl]; exact hc) hm (fun i h => ?_) (fun i k h hk => hu i k (by rw [hl] at h; exact h) hk) (fun i h k hk => ?_)
    · rw [hl] at h
      rw [hi i h, nfL_map, List.length_map]
      exact hs i h
    · rw [hl] at h
      have hk' : k < (es[i]).length := by rw [hi i h, nfL_map, List.length_map] at hk; exact hk
      have := ih i h k hk'
      simp only [hi i h, nfL_map, List.getElem_map]
      exact this
theorem RepS.nf {m : Mem} {phi : Nat → Nat} {nx : Nat} {p : PV} {v : Value} (h : RepS m phi nx p v) : RepS m phi nx (nf p) v := by
  induction h with
  | pure h => exact .pure h.nf
  | agg cs vs hl h1 h ih =>
    show RepS m phi nx (.agg (nfL cs)) _
    have hl' : (nfL cs).length = cs.length := by rw [nfL_map, List.length_map]
    refine .agg (nfL cs) vs (by rw [hl']; exact hl) h1 (fun i hi => ?_)
    rw [hl'] at hi
    have := ih i hi
    simp only [nfL_map, List.getElem_map]
    exact this
  | tup cs vs hl h ih => exact .tup cs vs hl h
  | box b off h => exact .box b off h
  | row e g o off u hu hr => exact .row e g o off u hu hr
  | func f cs vs hl h ih => exact .func f cs vs hl h

theorem VCalls.nf {P : Program} {G : Nat → Option (List PV)} {f : FuncId} {args : List PV} {sh : Sh} {R : VEnd → Sh → Prop} (h : VCalls P G f (nfL args) sh R) : VCalls P G f args sh R := by
  intro w gh vs h1 h2 h3 h4
  have hl' : (nfL args).length = args.length := by rw [nfL_map, List.length_map]
  refine h w gh vs h1 h2 (by rw [hl']; exact h3) fun i hi => ?_
  rw [hl'] at hi
  have := (h4 i hi).nf
  simp only [nfL_map, List.getElem_map]
  exact this
theorem VPure.nf {P : Program} {G : Nat → Option (List PV)} {f : FuncId} {args args' : List PV} {r : PV} (h : VPure P G f args' r) (e : nfL args = args') : VPure P G f args r := fun sh => VCalls.nf (by rw [e]; exact h sh)
end Go.Proofs.YtaackmiajgapoaaGreatDoor.V

/- A program logic at the level of values: a region whose guards are known. -/
set_option linter.unusedVariables false
set_option linter.unusedSimpArgs false
namespace Go.Proofs.YtaackmiajgapoaaGreatDoor.V
open Go

def vListK (P : Program) (G : Nat → Option (List PV)) (T : Tb) (ops : List Oper) (Q : VExit → VS → Prop) : List Oper → VS → Prop
  | [], st => Q .normal st
  | o :: rest, st => match o.guard with
    | none => vOp P G T none o st (vListK P G T ops Q rest) Q
    | some (j, want) => match guardOf ops j want st with
      | some true => vOp P G T none o st (vListK P G T ops Q rest) Q
      | some false => okDst st o.dst ∧ vListK P G T ops Q rest (st.put o.dst .top)
      | none => False

section
variable {P : Program} {G : Nat → Option (List PV)} {w0 : World} {gh0 : Gh} {nx0 : Nat} {st : VS}
theorem vListK_sound {T : Tb} (hT : TabOk P G T) {ops : Array Oper} {Q : VExit → VS → Prop} : ∀ (l : List Oper) (st : VS) (a : Act) (w : World) (gh : Gh), Sim P G w0 gh0 nx0 st a w gh → vListK P G T ops.toList Q l st → wpList P ops (WQ P G w0 gh0 nx0 Q) l a w
  | [], st, a, w, gh, h, hk => ⟨st, gh, hk, h⟩
  | o :: rest, st, a, w, gh, h, hk => by
    unfold vListK at hk
    unfold wpList
    split at hk
    · rename_i hgd
      have hw : Region.wanted o (yielded ops a.tmps) = true := by simp [Region.wanted, hgd]
      rw [if_pos hw]
      exact .inl (vOp_sound hT h (g := none) trivial hk fun st' a' w' gh' hk' hs' => vListK_sound hT rest st' a' w' gh' hs' hk')
    · rename_i j want hgd
      split at hk
      · rename_i hb
        have hw := guardOf_sound h hgd hb
        rw [hw]
        exact .inl (vOp_sound hT h (g := none) trivial hk fun st' a' w' gh' hk' hs' => vListK_sound hT rest st' a' w' gh' hs' hk')
      · rename_i hb
        have hw := guardOf_sound h hgd hb
        rw [hw]
        exact vListK_sound hT rest _ _ w gh (h.put hk.1 (p := .top) (by first | exact .top _ | exact .top | trivial)) hk.2
      · exact hk.elim

/-- A REGION WHOSE GUARDS ARE KNOWN. -/
theorem VWp_known {T : Tb} (hT : TabOk P G T) {id : Nat} {ops : Array Oper} {Q : VExit → VS → Prop} (h : vListK P G T ops.toList Q ops.toList st) : VWp P G (.region id ops false) Q st :=
  fun w0 gh0 nx0 a w gh hs => wp_region_list (vListK_sound hT _ st a w gh hs h)
end
end Go.Proofs.YtaackmiajgapoaaGreatDoor.V
