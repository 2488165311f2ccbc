/- Texts D9 to D15, joined. -/
import Derived.Test.YtaackmiajgapoaaGreatDoorD8
import Derived.Test.YtaackmiajgapoaaGreatDoorVB
/- Types, by the document (seedcornref17). -/
set_option maxHeartbeats 16000000
set_option maxRecDepth 100000
set_option linter.unusedSimpArgs false
set_option linter.unusedVariables false
namespace Go.Proofs.YtaackmiajgapoaaGreatDoor.V
open Go
variable {G : Nat → Option (List PV)}

/-- The first function of a name: its number, or -1. -/
def fnIdx (l : List Fn) (s : ByteArray) : Int := match l.findIdx? (fun f => decide (f.name = s)) with | some i => (i : Int) | none => -1
theorem fnIdx_at {l : List Fn} {s : ByteArray} {i : Nat} (h : i < l.length) (h1 : ∀ j, j < i → (elm l j).name ≠ s) (h2 : (elm l i).name = s) : fnIdx l s = i := by
  unfold fnIdx
  rw [List.findIdx?_eq_some_iff_getElem.2 ⟨h, by rw [← elm_eq h]; simpa using h2, fun j hj => by rw [← elm_eq (by omega)]; simpa using h1 j hj⟩]
theorem fnIdx_none {l : List Fn} {s : ByteArray} (h1 : ∀ j, j < l.length → (elm l j).name ≠ s) : fnIdx l s = -1 := by
  unfold fnIdx
  rw [List.findIdx?_eq_none_iff.2 fun x hx => by
    obtain ⟨j, hj, rfl⟩ := List.getElem_of_mem hx
    rw [← elm_eq hj]; simpa using h1 j hj]
theorem fnIdx_cases (l : List Fn) (s : ByteArray) : fnIdx l s = -1 ∨ ∃ i, i < l.length ∧ fnIdx l s = (i : Int) := by
  unfold fnIdx
  split
  · rename_i i h
    exact .inr ⟨i, (List.findIdx?_eq_some_iff_getElem.1 h).1, rfl⟩
  · exact .inl rfl

theorem function_c (p : Pg) (s : ByteArray) : VPure Tryz.prog G 106 [.agg (encP p), .val (.string s)] (.val (.int .i64 (fnIdx p.funcs s))) := by
  refine VPure.of (.val _) fun sh => ?_
  refine VCalls_enter [] Tryz.func106 rfl (show 2 ≤ 22 by decide) ?_
  refine vCode_sound (tab_ok []) _ _ _ ?_
  simp only [encP]
  simp only [Tryz.f106, go_sem, Nat.reduceEqDiff, Nat.reduceLT, Nat.reduceLeDiff, Nat.reduceAdd, Nat.reduceSub, Nat.reduceMul, Nat.reduceBEq, Nat.reduceBNe, Int.reduceEq, Int.reduceToNat, Int.reduceNeg, ↓reduceIte, reduceCtorEq, Nat.reduceDiv, Nat.reduceMod, Int.reduceLE, Int.reduceLT, Int.reduceSub, Int.reduceAdd]
  refine loop_intro (VWp_for [6, 7, 8, 9, 10, 13, 14, 15, 16, 17, 18, 19, 20, 21, 4, 11, 12, 5] (fun i : Nat => [(5, .val (.int .i64 i))]) [] (fun _ => []) [] (fun _ => []) (fun _ => sh)
    (fun i => i ≤ p.funcs.length ∧ ∀ j, j < i → (elm p.funcs j).name ≠ s) (fun i => p.funcs.length - i) 0 ⟨Nat.zero_le _, fun j h => by omega⟩ (by refine ⟨rfl, rfl, rfl, .refl _ _, .refl _ _, .refl _ _, by repeat (first | trivial | rfl | refine ⟨?_, ?_⟩), by repeat (first | trivial | rfl | refine ⟨?_, ?_⟩), by repeat (first | trivial | rfl | refine ⟨?_, ?_⟩), by repeat (first | trivial | exact .inr rfl | exact .inl rfl | refine ⟨?_, ?_⟩), by repeat (first | trivial | exact .inr rfl | exact .inl rfl | refine ⟨?_, ?_⟩), by repeat (first | trivial | exact .inr rfl | exact .inl rfl | refine ⟨?_, ?_⟩), by repeat (first | trivial | exact .inr rfl | exact .inl rfl | refine ⟨?_, ?_⟩)⟩) ?_)
  rintro i ⟨hi, hne⟩
  refine vCode_sound (tab_ok []) _ _ _ ?_
  simp only [Tryz.f106, go_sem, Nat.reduceEqDiff, Nat.reduceLT, Nat.reduceLeDiff, Nat.reduceAdd, Nat.reduceSub, Nat.reduceMul, Nat.reduceBEq, Nat.reduceBNe, Int.reduceEq, Int.reduceToNat, Int.reduceNeg, ↓reduceIte, reduceCtorEq, Nat.reduceDiv, Nat.reduceMod, Int.reduceLE, Int.reduceLT, Int.reduceSub, Int.reduceAdd]
  repeat (first | intro _ | refine And.intro (by (intros; first | omega | (simp only [Bool.or_eq_false_iff, Bool.or_eq_true, decide_eq_false_iff_not, beq_iff_eq, Bool.and_eq_true, decide_eq_true_eq, Bool.not_eq_true'] at *; omega) | simp_all)) ?_)
  refine if_intro _ rfl trivial (fun h => ?_) (fun h => ?_)
  · simp only [decide_eq_true_eq, Int.ofNat_lt] at h
    have hw : IntKind.i64.wrap ((i : Int) + 1) = ((i + 1 : Nat) : Int) := by rw [wrap64_id (by omega) (by omega)]; rfl
    simp only [Tryz.f106, go_sem, Nat.reduceEqDiff, Nat.reduceLT, Nat.reduceLeDiff, Nat.reduceAdd, Nat.reduceSub, Nat.reduceMul, Nat.reduceBEq, Nat.reduceBNe, Int.reduceEq, Int.reduceToNat, Int.reduceNeg, ↓reduceIte, reduceCtorEq, Nat.reduceDiv, Nat.reduceMod, Int.reduceLE, Int.reduceLT, Int.reduceSub, Int.reduceAdd, h]
    repeat (first | intro _ | refine And.intro (by (intros; first | omega | (simp only [Bool.or_eq_false_iff, Bool.or_eq_true, decide_eq_false_iff_not, beq_iff_eq, Bool.and_eq_true, decide_eq_true_eq, Bool.not_eq_true'] at *; omega) | simp_all)) ?_)
    refine if_intro _ rfl trivial (fun h2 => ?_) (fun h2 => ?_)
    · simp only [decide_eq_true_eq] at h2
      simp only [Tryz.f106, go_sem, Nat.reduceEqDiff, Nat.reduceLT, Nat.reduceLeDiff, Nat.reduceAdd, Nat.reduceSub, Nat.reduceMul, Nat.reduceBEq, Nat.reduceBNe, Int.reduceEq, Int.reduceToNat, Int.reduceNeg, ↓reduceIte, reduceCtorEq, Nat.reduceDiv, Nat.reduceMod, Int.reduceLE, Int.reduceLT, Int.reduceSub, Int.reduceAdd]
      exact (fnIdx_at h hne h2).symm
    · simp only [decide_eq_false_iff_not] at h2
      simp only [Tryz.f106, go_sem, Nat.reduceEqDiff, Nat.reduceLT, Nat.reduceLeDiff, Nat.reduceAdd, Nat.reduceSub, Nat.reduceMul, Nat.reduceBEq, Nat.reduceBNe, Int.reduceEq, Int.reduceToNat, Int.reduceNeg, ↓reduceIte, reduceCtorEq, Nat.reduceDiv, Nat.reduceMod, Int.reduceLE, Int.reduceLT, Int.reduceSub, Int.reduceAdd, hw]
      refine ⟨i + 1, ⟨h, fun j hj => ?_⟩, by omega, ?_⟩
      · by_cases e : j = i
        · subst e; exact h2
        · exact hne j (by omega)
      · refine ⟨rfl, rfl, rfl, by repeat (first | exact AgreeOff.refl _ _ | refine AgreeOff.upd rfl ?_ | refine AgreeOff.over rfl ?_), by repeat (first | exact AgreeOff.refl _ _ | refine AgreeOff.upd rfl ?_ | refine AgreeOff.over rfl ?_), by repeat (first | exact AgreeOff.refl _ _ | refine AgreeOff.upd rfl ?_ | refine AgreeOff.over rfl ?_), ?_, by repeat (first | trivial | exact .inr rfl | exact .inl rfl | refine ⟨?_, ?_⟩), by repeat (first | trivial | exact .inr rfl | exact .inl rfl | refine ⟨?_, ?_⟩), by repeat (first | trivial | exact .inr rfl | exact .inl rfl | refine ⟨?_, ?_⟩), by repeat (first | trivial | exact .inr rfl | exact .inl rfl | refine ⟨?_, ?_⟩), by repeat (first | trivial | exact .inr rfl | exact .inl rfl | refine ⟨?_, ?_⟩), by repeat (first | trivial | exact .inr rfl | exact .inl rfl | refine ⟨?_, ?_⟩)⟩
        exact ⟨rfl, trivial⟩
  · simp only [decide_eq_false_iff_not, Int.ofNat_lt] at h
    simp only [Tryz.f106, go_sem, Nat.reduceEqDiff, Nat.reduceLT, Nat.reduceLeDiff, Nat.reduceAdd, Nat.reduceSub, Nat.reduceMul, Nat.reduceBEq, Nat.reduceBNe, Int.reduceEq, Int.reduceToNat, Int.reduceNeg, ↓reduceIte, reduceCtorEq, Nat.reduceDiv, Nat.reduceMod, Int.reduceLE, Int.reduceLT, Int.reduceSub, Int.reduceAdd]
    exact (fnIdx_none fun j hj => hne j (by omega)).symm
noncomputable def r65 : Rule Tryz.prog G := Rule.pure 106 ((Pg) × (ByteArray)) (fun x => match x with | (p, s) => [.agg (encP p), .val (.string s)]) (fun x => match x with | (p, s) => .val (.int .i64 (fnIdx p.funcs s))) (by rintro ⟨p1, s1⟩ ⟨p2, s2⟩ h; simp only [List.cons.injEq, PV.agg.injEq, PV.val.injEq, PV.slice.injEq, Value.int.injEq, Value.bool.injEq, Value.string.injEq, encE_iff, encEs_iff, encS_iff, encSs_iff, encT_iff, encF_iff, encP_iff, Int.natCast_inj, true_and, and_true] at h; simp only [h]) (fun ⟨p, s⟩ => function_c p s)
theorem r65_at (tl : List (Rule Tryz.prog G)) (p : Pg) (s : ByteArray) (sh : Sh) : tab (r65 :: tl) 106 [.agg [.slice (encT p.vars), .slice (p.arrays.map encA), .slice (p.funcs.map encF)], .val (.string s)] sh = some (.val (.int .i64 (fnIdx p.funcs s)), sh) := by
  have this : tab (r65 :: tl) 106 [.agg (encP p), .val (.string s)] sh = some (.val (.int .i64 (fnIdx p.funcs s)), sh) := tab_pure tl ((p, s) : (Pg) × (ByteArray)) sh
  simpa only [encE_eq, encS_eq, encF, encP] using this
theorem r65_skip (tl : List (Rule Tryz.prog G)) (f : FuncId) (args : List PV) (sh : Sh) (h : f ≠ 106) : tab (r65 :: tl) f args sh = tab tl f args sh := tab_skip _ tl f args sh h
end Go.Proofs.YtaackmiajgapoaaGreatDoor.V

/- Types, by the document (seedcornref17): expressions. -/
set_option maxHeartbeats 16000000
set_option maxRecDepth 100000
set_option linter.unusedSimpArgs false
set_option linter.unusedVariables false
namespace Go.Proofs.YtaackmiajgapoaaGreatDoor.V
open Go
variable {G : Nat → Option (List PV)}

def fnWord (l : List Fn) (s : ByteArray) : Bool := decide (0 ≤ fnIdx l s) && (elm l (fnIdx l s).toNat).word
mutual
def tyE (p : Pg) : Ex → Int
  | .mk k o _ s l =>
    if k = 1 ∨ k = 2 ∨ k = 5 then 1
    else if k = 3 then (if tyAll p 1 l then 1 else 0)
    else if k = 4 then (if fnWord p.funcs s && tyAll p 1 l then 1 else 0)
    else if k = 6 then (if tyAll p 1 l then (if o = 14 ∨ o = 15 then 2 else 1) else 0)
    else if k = 7 ∨ k = 8 ∨ k = 9 then (if tyAll p 2 l then 2 else 0) else 0
def tyAll (p : Pg) (t : Int) : List Ex → Bool
  | [] => true
  | e :: r => decide (tyE p e = t) && tyAll p t r
end
theorem tyAll_all (p : Pg) (t : Int) : ∀ l : List Ex, tyAll p t l = l.all fun e => decide (tyE p e = t)
  | [] => rfl
  | e :: r => by rw [tyAll, tyAll_all p t r]; rfl
theorem tyE_eq (p : Pg) (e : Ex) : tyE p e =
    if e.kind = 1 ∨ e.kind = 2 ∨ e.kind = 5 then 1
    else if e.kind = 3 then (if (e.kids.all fun e => decide (tyE p e = 1)) then 1 else 0)
    else if e.kind = 4 then (if fnWord p.funcs e.name && (e.kids.all fun e => decide (tyE p e = 1)) then 1 else 0)
    else if e.kind = 6 then (if (e.kids.all fun e => decide (tyE p e = 1)) then (if e.op = 14 ∨ e.op = 15 then 2 else 1) else 0)
    else if e.kind = 7 ∨ e.kind = 8 ∨ e.kind = 9 then (if (e.kids.all fun e => decide (tyE p e = 2)) then 2 else 0) else 0 := by
  cases e with | mk k o n s l => rw [tyE, tyAll_all, tyAll_all]; rfl

theorem words_step (p : Pg) (n : Nat) (IH : ∀ e : Ex, szE e < n → VPure Tryz.prog G 146 [.agg (encP p), .agg (encE e)] (.val (.int .i64 (tyE p e)))) (l : List Ex) (hl : ∀ i, i < l.length → szE (elm l i) < n) :
    VPure Tryz.prog G 109 [.agg (encP p), .slice (l.map encE)] (.val (.bool (l.all fun e => decide (tyE p e = 1)))) := by
  obtain ⟨R, hR0, hs⟩ := mkRule (P := Tryz.prog) (G := G) 146 Ex (fun x => [.agg (encP p), .agg (encE x)]) (fun x => .val (.int .i64 (tyE p x))) (fun x => szE x < n)
    (by rintro a b h; simp only [List.cons.injEq, PV.agg.injEq, encE_iff, true_and, and_true] at h; simp only [h]) (fun x h => IH x h)
  have hR : ∀ tl (i : Nat) sh, i < l.length → tab (R :: tl) 146 [.agg [.slice (encT p.vars), .slice (p.arrays.map encA), .slice (p.funcs.map encF)], .agg [.val (.int .i64 (elm l i).kind), .val (.int .i64 (elm l i).op), .val (.int .u32 (elm l i).num), .val (.string (elm l i).name), .slice ((elm l i).kids.map encE)]] sh = some (.val (.int .i64 (tyE p (elm l i))), sh) := by
    intro tl i sh h
    have := hR0 tl (elm l i) sh (hl i h)
    simpa only [encE_eq, encP] using this
  clear hR0
  refine VPure.of (.val _) fun sh => ?_
  refine VCalls_enter [] Tryz.func109 rfl (show 2 ≤ 19 by decide) ?_
  refine vCode_sound (tab_ok [R]) _ _ _ ?_
  simp only [encP]
  simp only [Tryz.f109, go_sem, Nat.reduceEqDiff, Nat.reduceLT, Nat.reduceLeDiff, Nat.reduceAdd, Nat.reduceSub, Nat.reduceMul, Nat.reduceBEq, Nat.reduceBNe, Int.reduceEq, Int.reduceToNat, Int.reduceNeg, ↓reduceIte, reduceCtorEq, Nat.reduceDiv, Nat.reduceMod, Int.reduceLE, Int.reduceLT, Int.reduceSub, Int.reduceAdd]
  refine loop_intro (VWp_for [6, 7, 8, 9, 12, 13, 14, 15, 16, 17, 18, 4, 10, 11, 5] (fun i : Nat => [(5, .val (.int .i64 i))]) [] (fun _ => []) [] (fun _ => []) (fun _ => sh)
    (fun i => i ≤ l.length ∧ ∀ j, j < i → tyE p (elm l j) = 1) (fun i => l.length - i) 0 ⟨Nat.zero_le _, fun j h => by omega⟩ (by refine ⟨rfl, rfl, rfl, .refl _ _, .refl _ _, .refl _ _, by repeat (first | trivial | rfl | refine ⟨?_, ?_⟩), by repeat (first | trivial | rfl | refine ⟨?_, ?_⟩), by repeat (first | trivial | rfl | refine ⟨?_, ?_⟩), by repeat (first | trivial | exact .inr rfl | exact .inl rfl | refine ⟨?_, ?_⟩), by repeat (first | trivial | exact .inr rfl | exact .inl rfl | refine ⟨?_, ?_⟩), by repeat (first | trivial | exact .inr rfl | exact .inl rfl | refine ⟨?_, ?_⟩), by repeat (first | trivial | exact .inr rfl | exact .inl rfl | refine ⟨?_, ?_⟩)⟩) ?_)
  rintro i ⟨hi, hne⟩
  refine vCode_sound (tab_ok [R]) _ _ _ ?_
  simp only [Tryz.f109, go_sem, Nat.reduceEqDiff, Nat.reduceLT, Nat.reduceLeDiff, Nat.reduceAdd, Nat.reduceSub, Nat.reduceMul, Nat.reduceBEq, Nat.reduceBNe, Int.reduceEq, Int.reduceToNat, Int.reduceNeg, ↓reduceIte, reduceCtorEq, Nat.reduceDiv, Nat.reduceMod, Int.reduceLE, Int.reduceLT, Int.reduceSub, Int.reduceAdd]
  repeat (first | intro _ | refine And.intro (by (intros; first | omega | (simp only [Bool.or_eq_false_iff, Bool.or_eq_true, decide_eq_false_iff_not, beq_iff_eq, Bool.and_eq_true, decide_eq_true_eq, Bool.not_eq_true'] at *; omega) | simp_all)) ?_)
  refine if_intro _ rfl trivial (fun h => ?_) (fun h => ?_)
  · simp only [decide_eq_true_eq, Int.ofNat_lt] at h
    have hw : IntKind.i64.wrap ((i : Int) + 1) = ((i + 1 : Nat) : Int) := by rw [wrap64_id (by omega) (by omega)]; rfl
    simp only [Tryz.f109, go_sem, Nat.reduceEqDiff, Nat.reduceLT, Nat.reduceLeDiff, Nat.reduceAdd, Nat.reduceSub, Nat.reduceMul, Nat.reduceBEq, Nat.reduceBNe, Int.reduceEq, Int.reduceToNat, Int.reduceNeg, ↓reduceIte, reduceCtorEq, Nat.reduceDiv, Nat.reduceMod, Int.reduceLE, Int.reduceLT, Int.reduceSub, Int.reduceAdd, h]
    refine draw_intro (tab_ok [R]) mixed [(true, 0), (true, 1), (true, 2), (true, 3), (true, 4), (false, 5), (true, 6)] rfl ?_
    simp only [Tryz.f109, go_sem, Nat.reduceEqDiff, Nat.reduceLT, Nat.reduceLeDiff, Nat.reduceAdd, Nat.reduceSub, Nat.reduceMul, Nat.reduceBEq, Nat.reduceBNe, Int.reduceEq, Int.reduceToNat, Int.reduceNeg, ↓reduceIte, reduceCtorEq, Nat.reduceDiv, Nat.reduceMod, Int.reduceLE, Int.reduceLT, Int.reduceSub, Int.reduceAdd, h, hR, hs]
    repeat (first | intro _ | refine And.intro (by (intros; first | omega | (simp only [Bool.or_eq_false_iff, Bool.or_eq_true, decide_eq_false_iff_not, beq_iff_eq, Bool.and_eq_true, decide_eq_true_eq, Bool.not_eq_true'] at *; omega) | simp_all)) ?_)
    refine if_intro _ rfl trivial (fun h2 => ?_) (fun h2 => ?_)
    · simp only [Tryz.f109, go_sem, Nat.reduceEqDiff, Nat.reduceLT, Nat.reduceLeDiff, Nat.reduceAdd, Nat.reduceSub, Nat.reduceMul, Nat.reduceBEq, Nat.reduceBNe, Int.reduceEq, Int.reduceToNat, Int.reduceNeg, ↓reduceIte, reduceCtorEq, Nat.reduceDiv, Nat.reduceMod, Int.reduceLE, Int.reduceLT, Int.reduceSub, Int.reduceAdd]
      exact (all_at h (by simpa using h2)).symm
    · simp only [Tryz.f109, go_sem, Nat.reduceEqDiff, Nat.reduceLT, Nat.reduceLeDiff, Nat.reduceAdd, Nat.reduceSub, Nat.reduceMul, Nat.reduceBEq, Nat.reduceBNe, Int.reduceEq, Int.reduceToNat, Int.reduceNeg, ↓reduceIte, reduceCtorEq, Nat.reduceDiv, Nat.reduceMod, Int.reduceLE, Int.reduceLT, Int.reduceSub, Int.reduceAdd, hw]
      refine ⟨i + 1, ⟨h, fun j hj => ?_⟩, by omega, ?_⟩
      · by_cases e : j = i
        · subst e; simpa using h2
        · exact hne j (by omega)
      · refine ⟨rfl, rfl, rfl, by repeat (first | exact AgreeOff.refl _ _ | refine AgreeOff.upd rfl ?_ | refine AgreeOff.over rfl ?_), by repeat (first | exact AgreeOff.refl _ _ | refine AgreeOff.upd rfl ?_ | refine AgreeOff.over rfl ?_), by repeat (first | exact AgreeOff.refl _ _ | refine AgreeOff.upd rfl ?_ | refine AgreeOff.over rfl ?_), ?_, by repeat (first | trivial | exact .inr rfl | exact .inl rfl | refine ⟨?_, ?_⟩), by repeat (first | trivial | exact .inr rfl | exact .inl rfl | refine ⟨?_, ?_⟩), by repeat (first | trivial | exact .inr rfl | exact .inl rfl | refine ⟨?_, ?_⟩), by repeat (first | trivial | exact .inr rfl | exact .inl rfl | refine ⟨?_, ?_⟩), by repeat (first | trivial | exact .inr rfl | exact .inl rfl | refine ⟨?_, ?_⟩), by repeat (first | trivial | exact .inr rfl | exact .inl rfl | refine ⟨?_, ?_⟩)⟩
        exact ⟨rfl, trivial⟩
  · simp only [decide_eq_false_iff_not, Int.ofNat_lt] at h
    simp only [Tryz.f109, go_sem, Nat.reduceEqDiff, Nat.reduceLT, Nat.reduceLeDiff, Nat.reduceAdd, Nat.reduceSub, Nat.reduceMul, Nat.reduceBEq, Nat.reduceBNe, Int.reduceEq, Int.reduceToNat, Int.reduceNeg, ↓reduceIte, reduceCtorEq, Nat.reduceDiv, Nat.reduceMod, Int.reduceLE, Int.reduceLT, Int.reduceSub, Int.reduceAdd]
    exact (all_of fun j hj => by simpa using hne j (by omega)).symm

theorem bools_step (p : Pg) (n : Nat) (IH : ∀ e : Ex, szE e < n → VPure Tryz.prog G 146 [.agg (encP p), .agg (encE e)] (.val (.int .i64 (tyE p e)))) (l : List Ex) (hl : ∀ i, i < l.length → szE (elm l i) < n) :
    VPure Tryz.prog G 108 [.agg (encP p), .slice (l.map encE)] (.val (.bool (l.all fun e => decide (tyE p e = 2)))) := by
  obtain ⟨R, hR0, hs⟩ := mkRule (P := Tryz.prog) (G := G) 146 Ex (fun x => [.agg (encP p), .agg (encE x)]) (fun x => .val (.int .i64 (tyE p x))) (fun x => szE x < n)
    (by rintro a b h; simp only [List.cons.injEq, PV.agg.injEq, encE_iff, true_and, and_true] at h; simp only [h]) (fun x h => IH x h)
  have hR : ∀ tl (i : Nat) sh, i < l.length → tab (R :: tl) 146 [.agg [.slice (encT p.vars), .slice (p.arrays.map encA), .slice (p.funcs.map encF)], .agg [.val (.int .i64 (elm l i).kind), .val (.int .i64 (elm l i).op), .val (.int .u32 (elm l i).num), .val (.string (elm l i).name), .slice ((elm l i).kids.map encE)]] sh = some (.val (.int .i64 (tyE p (elm l i))), sh) := by
    intro tl i sh h
    have := hR0 tl (elm l i) sh (hl i h)
    simpa only [encE_eq, encP] using this
  clear hR0
  refine VPure.of (.val _) fun sh => ?_
  refine VCalls_enter [] Tryz.func108 rfl (show 2 ≤ 19 by decide) ?_
  refine vCode_sound (tab_ok [R]) _ _ _ ?_
  simp only [encP]
  simp only [Tryz.f108, go_sem, Nat.reduceEqDiff, Nat.reduceLT, Nat.reduceLeDiff, Nat.reduceAdd, Nat.reduceSub, Nat.reduceMul, Nat.reduceBEq, Nat.reduceBNe, Int.reduceEq, Int.reduceToNat, Int.reduceNeg, ↓reduceIte, reduceCtorEq, Nat.reduceDiv, Nat.reduceMod, Int.reduceLE, Int.reduceLT, Int.reduceSub, Int.reduceAdd]
  refine loop_intro (VWp_for [6, 7, 8, 9, 12, 13, 14, 15, 16, 17, 18, 4, 10, 11, 5] (fun i : Nat => [(5, .val (.int .i64 i))]) [] (fun _ => []) [] (fun _ => []) (fun _ => sh)
    (fun i => i ≤ l.length ∧ ∀ j, j < i → tyE p (elm l j) = 2) (fun i => l.length - i) 0 ⟨Nat.zero_le _, fun j h => by omega⟩ (by refine ⟨rfl, rfl, rfl, .refl _ _, .refl _ _, .refl _ _, by repeat (first | trivial | rfl | refine ⟨?_, ?_⟩), by repeat (first | trivial | rfl | refine ⟨?_, ?_⟩), by repeat (first | trivial | rfl | refine ⟨?_, ?_⟩), by repeat (first | trivial | exact .inr rfl | exact .inl rfl | refine ⟨?_, ?_⟩), by repeat (first | trivial | exact .inr rfl | exact .inl rfl | refine ⟨?_, ?_⟩), by repeat (first | trivial | exact .inr rfl | exact .inl rfl | refine ⟨?_, ?_⟩), by repeat (first | trivial | exact .inr rfl | exact .inl rfl | refine ⟨?_, ?_⟩)⟩) ?_)
  rintro i ⟨hi, hne⟩
  refine vCode_sound (tab_ok [R]) _ _ _ ?_
  simp only [Tryz.f108, go_sem, Nat.reduceEqDiff, Nat.reduceLT, Nat.reduceLeDiff, Nat.reduceAdd, Nat.reduceSub, Nat.reduceMul, Nat.reduceBEq, Nat.reduceBNe, Int.reduceEq, Int.reduceToNat, Int.reduceNeg, ↓reduceIte, reduceCtorEq, Nat.reduceDiv, Nat.reduceMod, Int.reduceLE, Int.reduceLT, Int.reduceSub, Int.reduceAdd]
  repeat (first | intro _ | refine And.intro (by (intros; first | omega | (simp only [Bool.or_eq_false_iff, Bool.or_eq_true, decide_eq_false_iff_not, beq_iff_eq, Bool.and_eq_true, decide_eq_true_eq, Bool.not_eq_true'] at *; omega) | simp_all)) ?_)
  refine if_intro _ rfl trivial (fun h => ?_) (fun h => ?_)
  · simp only [decide_eq_true_eq, Int.ofNat_lt] at h
    have hw : IntKind.i64.wrap ((i : Int) + 1) = ((i + 1 : Nat) : Int) := by rw [wrap64_id (by omega) (by omega)]; rfl
    simp only [Tryz.f108, go_sem, Nat.reduceEqDiff, Nat.reduceLT, Nat.reduceLeDiff, Nat.reduceAdd, Nat.reduceSub, Nat.reduceMul, Nat.reduceBEq, Nat.reduceBNe, Int.reduceEq, Int.reduceToNat, Int.reduceNeg, ↓reduceIte, reduceCtorEq, Nat.reduceDiv, Nat.reduceMod, Int.reduceLE, Int.reduceLT, Int.reduceSub, Int.reduceAdd, h]
    refine draw_intro (tab_ok [R]) mixed [(true, 0), (true, 1), (true, 2), (true, 3), (true, 4), (false, 5), (true, 6)] rfl ?_
    simp only [Tryz.f108, go_sem, Nat.reduceEqDiff, Nat.reduceLT, Nat.reduceLeDiff, Nat.reduceAdd, Nat.reduceSub, Nat.reduceMul, Nat.reduceBEq, Nat.reduceBNe, Int.reduceEq, Int.reduceToNat, Int.reduceNeg, ↓reduceIte, reduceCtorEq, Nat.reduceDiv, Nat.reduceMod, Int.reduceLE, Int.reduceLT, Int.reduceSub, Int.reduceAdd, h, hR, hs]
    repeat (first | intro _ | refine And.intro (by (intros; first | omega | (simp only [Bool.or_eq_false_iff, Bool.or_eq_true, decide_eq_false_iff_not, beq_iff_eq, Bool.and_eq_true, decide_eq_true_eq, Bool.not_eq_true'] at *; omega) | simp_all)) ?_)
    refine if_intro _ rfl trivial (fun h2 => ?_) (fun h2 => ?_)
    · simp only [Tryz.f108, go_sem, Nat.reduceEqDiff, Nat.reduceLT, Nat.reduceLeDiff, Nat.reduceAdd, Nat.reduceSub, Nat.reduceMul, Nat.reduceBEq, Nat.reduceBNe, Int.reduceEq, Int.reduceToNat, Int.reduceNeg, ↓reduceIte, reduceCtorEq, Nat.reduceDiv, Nat.reduceMod, Int.reduceLE, Int.reduceLT, Int.reduceSub, Int.reduceAdd]
      exact (all_at h (by simpa using h2)).symm
    · simp only [Tryz.f108, go_sem, Nat.reduceEqDiff, Nat.reduceLT, Nat.reduceLeDiff, Nat.reduceAdd, Nat.reduceSub, Nat.reduceMul, Nat.reduceBEq, Nat.reduceBNe, Int.reduceEq, Int.reduceToNat, Int.reduceNeg, ↓reduceIte, reduceCtorEq, Nat.reduceDiv, Nat.reduceMod, Int.reduceLE, Int.reduceLT, Int.reduceSub, Int.reduceAdd, hw]
      refine ⟨i + 1, ⟨h, fun j hj => ?_⟩, by omega, ?_⟩
      · by_cases e : j = i
        · subst e; simpa using h2
        · exact hne j (by omega)
      · refine ⟨rfl, rfl, rfl, by repeat (first | exact AgreeOff.refl _ _ | refine AgreeOff.upd rfl ?_ | refine AgreeOff.over rfl ?_), by repeat (first | exact AgreeOff.refl _ _ | refine AgreeOff.upd rfl ?_ | refine AgreeOff.over rfl ?_), by repeat (first | exact AgreeOff.refl _ _ | refine AgreeOff.upd rfl ?_ | refine AgreeOff.over rfl ?_), ?_, by repeat (first | trivial | exact .inr rfl | exact .inl rfl | refine ⟨?_, ?_⟩), by repeat (first | trivial | exact .inr rfl | exact .inl rfl | refine ⟨?_, ?_⟩), by repeat (first | trivial | exact .inr rfl | exact .inl rfl | refine ⟨?_, ?_⟩), by repeat (first | trivial | exact .inr rfl | exact .inl rfl | refine ⟨?_, ?_⟩), by repeat (first | trivial | exact .inr rfl | exact .inl rfl | refine ⟨?_, ?_⟩), by repeat (first | trivial | exact .inr rfl | exact .inl rfl | refine ⟨?_, ?_⟩)⟩
        exact ⟨rfl, trivial⟩
  · simp only [decide_eq_false_iff_not, Int.ofNat_lt] at h
    simp only [Tryz.f108, go_sem, Nat.reduceEqDiff, Nat.reduceLT, Nat.reduceLeDiff, Nat.reduceAdd, Nat.reduceSub, Nat.reduceMul, Nat.reduceBEq, Nat.reduceBNe, Int.reduceEq, Int.reduceToNat, Int.reduceNeg, ↓reduceIte, reduceCtorEq, Nat.reduceDiv, Nat.reduceMod, Int.reduceLE, Int.reduceLT, Int.reduceSub, Int.reduceAdd]
    exact (all_of fun j hj => by simpa using hne j (by omega)).symm

end Go.Proofs.YtaackmiajgapoaaGreatDoor.V

/- Types, by the document (seedcornref17): an expression's. -/
set_option maxHeartbeats 16000000
set_option maxRecDepth 100000
set_option linter.unusedSimpArgs false
set_option linter.unusedVariables false
namespace Go.Proofs.YtaackmiajgapoaaGreatDoor.V
open Go
variable {G : Nat → Option (List PV)}

theorem type_step (p : Pg) (n : Nat) (IH : ∀ e : Ex, szE e < n → VPure Tryz.prog G 146 [.agg (encP p), .agg (encE e)] (.val (.int .i64 (tyE p e)))) (e : Ex) (he : szE e ≤ n) :
    VPure Tryz.prog G 146 [.agg (encP p), .agg (encE e)] (.val (.int .i64 (tyE p e))) := by
  have hk : ∀ i, i < e.kids.length → szE (elm e.kids i) < n := fun i h => Nat.lt_of_lt_of_le (szE_kids e i h) he
  obtain ⟨R, hR0, hs⟩ := mkRule (P := Tryz.prog) (G := G) 109 (List Ex) (fun x => [.agg (encP p), .slice (x.map encE)]) (fun x => .val (.bool (x.all fun e => decide (tyE p e = 1)))) (fun x => ∀ i, i < x.length → szE (elm x i) < n)
    (by rintro a b h; simp only [List.cons.injEq, PV.slice.injEq, encEs_iff, true_and, and_true] at h; simp only [h]) (fun x h => words_step p n IH x h)
  obtain ⟨S, hS0, hs2⟩ := mkRule (P := Tryz.prog) (G := G) 108 (List Ex) (fun x => [.agg (encP p), .slice (x.map encE)]) (fun x => .val (.bool (x.all fun e => decide (tyE p e = 2)))) (fun x => ∀ i, i < x.length → szE (elm x i) < n)
    (by rintro a b h; simp only [List.cons.injEq, PV.slice.injEq, encEs_iff, true_and, and_true] at h; simp only [h]) (fun x h => bools_step p n IH x h)
  have hR : ∀ tl sh, tab (R :: tl) 109 [.agg [.slice (encT p.vars), .slice (p.arrays.map encA), .slice (p.funcs.map encF)], .slice (e.kids.map encE)] sh = some (.val (.bool (e.kids.all fun e => decide (tyE p e = 1))), sh) := by
    intro tl sh
    have := hR0 tl e.kids sh hk
    simpa only [encP] using this
  have hS : ∀ tl sh, tab (S :: tl) 108 [.agg [.slice (encT p.vars), .slice (p.arrays.map encA), .slice (p.funcs.map encF)], .slice (e.kids.map encE)] sh = some (.val (.bool (e.kids.all fun e => decide (tyE p e = 2))), sh) := by
    intro tl sh
    have := hS0 tl e.kids sh hk
    simpa only [encP] using this
  clear hR0 hS0
  refine VPure.of (.val _) fun sh => ?_
  refine VCalls_enter [] Tryz.func146 rfl (show 2 ≤ 63 by decide) ?_
  refine vCode_sound (tab_ok [r65, R, S]) _ _ _ ?_
  rw [tyE_eq]
  generalize (e.kids.all fun e => decide (tyE p e = 1)) = bw at hR ⊢
  generalize (e.kids.all fun e => decide (tyE p e = 2)) = bb at hS ⊢
  simp only [encP]
  have hkind : e.kind = 1 ∨ e.kind = 2 ∨ e.kind = 3 ∨ e.kind = 4 ∨ e.kind = 5 ∨ e.kind = 6 ∨ e.kind = 7 ∨ e.kind = 8 ∨ e.kind = 9 ∨ (¬ e.kind = 1 ∧ ¬ e.kind = 2 ∧ ¬ e.kind = 3 ∧ ¬ e.kind = 4 ∧ ¬ e.kind = 5 ∧ ¬ e.kind = 6 ∧ ¬ e.kind = 7 ∧ ¬ e.kind = 8 ∧ ¬ e.kind = 9) := by omega
  rcases hkind with hk | hk | hk | hk | hk | hk | hk | hk | hk | ⟨k1, k2, k3, k4, k5, k6, k7, k8, k9⟩
  · simp only [Tryz.f146, go_sem, Nat.reduceEqDiff, Nat.reduceLT, Nat.reduceLeDiff, Nat.reduceAdd, Nat.reduceSub, Nat.reduceMul, Nat.reduceBEq, Nat.reduceBNe, Int.reduceEq, Int.reduceToNat, Int.reduceNeg, ↓reduceIte, reduceCtorEq, Nat.reduceDiv, Nat.reduceMod, Int.reduceLE, Int.reduceLT, Int.reduceSub, Int.reduceAdd, hk, or_self]
  · simp only [Tryz.f146, go_sem, Nat.reduceEqDiff, Nat.reduceLT, Nat.reduceLeDiff, Nat.reduceAdd, Nat.reduceSub, Nat.reduceMul, Nat.reduceBEq, Nat.reduceBNe, Int.reduceEq, Int.reduceToNat, Int.reduceNeg, ↓reduceIte, reduceCtorEq, Nat.reduceDiv, Nat.reduceMod, Int.reduceLE, Int.reduceLT, Int.reduceSub, Int.reduceAdd, hk, or_self]
  · simp only [Tryz.f146, go_sem, Nat.reduceEqDiff, Nat.reduceLT, Nat.reduceLeDiff, Nat.reduceAdd, Nat.reduceSub, Nat.reduceMul, Nat.reduceBEq, Nat.reduceBNe, Int.reduceEq, Int.reduceToNat, Int.reduceNeg, ↓reduceIte, reduceCtorEq, Nat.reduceDiv, Nat.reduceMod, Int.reduceLE, Int.reduceLT, Int.reduceSub, Int.reduceAdd, r65_at, r65_skip, hk, hR, hs, or_self]
    cases bw <;> simp only [Tryz.f146, go_sem, Nat.reduceEqDiff, Nat.reduceLT, Nat.reduceLeDiff, Nat.reduceAdd, Nat.reduceSub, Nat.reduceMul, Nat.reduceBEq, Nat.reduceBNe, Int.reduceEq, Int.reduceToNat, Int.reduceNeg, ↓reduceIte, reduceCtorEq, Nat.reduceDiv, Nat.reduceMod, Int.reduceLE, Int.reduceLT, Int.reduceSub, Int.reduceAdd]
  · simp only [Tryz.f146, go_sem, Nat.reduceEqDiff, Nat.reduceLT, Nat.reduceLeDiff, Nat.reduceAdd, Nat.reduceSub, Nat.reduceMul, Nat.reduceBEq, Nat.reduceBNe, Int.reduceEq, Int.reduceToNat, Int.reduceNeg, ↓reduceIte, reduceCtorEq, Nat.reduceDiv, Nat.reduceMod, Int.reduceLE, Int.reduceLT, Int.reduceSub, Int.reduceAdd, r65_at, r65_skip, hk, hR, hs, or_self]
    unfold fnWord
    rcases fnIdx_cases p.funcs e.name with hf | ⟨i, hi, hf⟩
    · rw [hf]
      simp only [Tryz.f146, go_sem, Nat.reduceEqDiff, Nat.reduceLT, Nat.reduceLeDiff, Nat.reduceAdd, Nat.reduceSub, Nat.reduceMul, Nat.reduceBEq, Nat.reduceBNe, Int.reduceEq, Int.reduceToNat, Int.reduceNeg, ↓reduceIte, reduceCtorEq, Nat.reduceDiv, Nat.reduceMod, Int.reduceLE, Int.reduceLT, Int.reduceSub, Int.reduceAdd, r65_at, r65_skip, hR, hs]
      refine if_intro _ rfl trivial (fun h2 => ?_) (fun h2 => ?_)
      · exact absurd h2 (by simp)
      · simp only [Tryz.f146, go_sem, Nat.reduceEqDiff, Nat.reduceLT, Nat.reduceLeDiff, Nat.reduceAdd, Nat.reduceSub, Nat.reduceMul, Nat.reduceBEq, Nat.reduceBNe, Int.reduceEq, Int.reduceToNat, Int.reduceNeg, ↓reduceIte, reduceCtorEq, Nat.reduceDiv, Nat.reduceMod, Int.reduceLE, Int.reduceLT, Int.reduceSub, Int.reduceAdd]
        try simp
    · rw [hf]
      simp only [Tryz.f146, go_sem, Nat.reduceEqDiff, Nat.reduceLT, Nat.reduceLeDiff, Nat.reduceAdd, Nat.reduceSub, Nat.reduceMul, Nat.reduceBEq, Nat.reduceBNe, Int.reduceEq, Int.reduceToNat, Int.reduceNeg, ↓reduceIte, reduceCtorEq, Nat.reduceDiv, Nat.reduceMod, Int.reduceLE, Int.reduceLT, Int.reduceSub, Int.reduceAdd, r65_at, r65_skip, hi, hR, hs]
      repeat (first | intro _ | refine And.intro (by (intros; first | omega | (simp only [Bool.or_eq_false_iff, Bool.or_eq_true, decide_eq_false_iff_not, beq_iff_eq, Bool.and_eq_true, decide_eq_true_eq, Bool.not_eq_true'] at *; omega) | simp_all)) ?_)
      refine if_intro _ rfl trivial (fun h2 => ?_) (fun h2 => ?_)
      · simp only [Tryz.f146, go_sem, Nat.reduceEqDiff, Nat.reduceLT, Nat.reduceLeDiff, Nat.reduceAdd, Nat.reduceSub, Nat.reduceMul, Nat.reduceBEq, Nat.reduceBNe, Int.reduceEq, Int.reduceToNat, Int.reduceNeg, ↓reduceIte, reduceCtorEq, Nat.reduceDiv, Nat.reduceMod, Int.reduceLE, Int.reduceLT, Int.reduceSub, Int.reduceAdd]
        simp only [Bool.and_eq_true, decide_eq_true_eq] at h2
        simp [h2]
      · simp only [Tryz.f146, go_sem, Nat.reduceEqDiff, Nat.reduceLT, Nat.reduceLeDiff, Nat.reduceAdd, Nat.reduceSub, Nat.reduceMul, Nat.reduceBEq, Nat.reduceBNe, Int.reduceEq, Int.reduceToNat, Int.reduceNeg, ↓reduceIte, reduceCtorEq, Nat.reduceDiv, Nat.reduceMod, Int.reduceLE, Int.reduceLT, Int.reduceSub, Int.reduceAdd]
        rw [if_neg]
        intro hc
        simp at hc
        simp [hc] at h2
  · simp only [Tryz.f146, go_sem, Nat.reduceEqDiff, Nat.reduceLT, Nat.reduceLeDiff, Nat.reduceAdd, Nat.reduceSub, Nat.reduceMul, Nat.reduceBEq, Nat.reduceBNe, Int.reduceEq, Int.reduceToNat, Int.reduceNeg, ↓reduceIte, reduceCtorEq, Nat.reduceDiv, Nat.reduceMod, Int.reduceLE, Int.reduceLT, Int.reduceSub, Int.reduceAdd, hk, or_self]
  · simp only [Tryz.f146, go_sem, Nat.reduceEqDiff, Nat.reduceLT, Nat.reduceLeDiff, Nat.reduceAdd, Nat.reduceSub, Nat.reduceMul, Nat.reduceBEq, Nat.reduceBNe, Int.reduceEq, Int.reduceToNat, Int.reduceNeg, ↓reduceIte, reduceCtorEq, Nat.reduceDiv, Nat.reduceMod, Int.reduceLE, Int.reduceLT, Int.reduceSub, Int.reduceAdd, r65_at, r65_skip, hk, hR, hs, or_self]
    cases bw <;> simp only [Tryz.f146, go_sem, Nat.reduceEqDiff, Nat.reduceLT, Nat.reduceLeDiff, Nat.reduceAdd, Nat.reduceSub, Nat.reduceMul, Nat.reduceBEq, Nat.reduceBNe, Int.reduceEq, Int.reduceToNat, Int.reduceNeg, ↓reduceIte, reduceCtorEq, Nat.reduceDiv, Nat.reduceMod, Int.reduceLE, Int.reduceLT, Int.reduceSub, Int.reduceAdd]
    refine if_intro _ rfl trivial (fun h2 => ?_) (fun h2 => ?_)
    · simp only [Tryz.f146, go_sem, Nat.reduceEqDiff, Nat.reduceLT, Nat.reduceLeDiff, Nat.reduceAdd, Nat.reduceSub, Nat.reduceMul, Nat.reduceBEq, Nat.reduceBNe, Int.reduceEq, Int.reduceToNat, Int.reduceNeg, ↓reduceIte, reduceCtorEq, Nat.reduceDiv, Nat.reduceMod, Int.reduceLE, Int.reduceLT, Int.reduceSub, Int.reduceAdd]
      rw [if_pos (by simpa using h2)]
    · simp only [Tryz.f146, go_sem, Nat.reduceEqDiff, Nat.reduceLT, Nat.reduceLeDiff, Nat.reduceAdd, Nat.reduceSub, Nat.reduceMul, Nat.reduceBEq, Nat.reduceBNe, Int.reduceEq, Int.reduceToNat, Int.reduceNeg, ↓reduceIte, reduceCtorEq, Nat.reduceDiv, Nat.reduceMod, Int.reduceLE, Int.reduceLT, Int.reduceSub, Int.reduceAdd]
      rw [if_neg (by simpa using h2)]
  · simp only [Tryz.f146, go_sem, Nat.reduceEqDiff, Nat.reduceLT, Nat.reduceLeDiff, Nat.reduceAdd, Nat.reduceSub, Nat.reduceMul, Nat.reduceBEq, Nat.reduceBNe, Int.reduceEq, Int.reduceToNat, Int.reduceNeg, ↓reduceIte, reduceCtorEq, Nat.reduceDiv, Nat.reduceMod, Int.reduceLE, Int.reduceLT, Int.reduceSub, Int.reduceAdd, r65_at, r65_skip, hk, hR, hS, hs, hs2, or_self]
    cases bb <;> simp only [Tryz.f146, go_sem, Nat.reduceEqDiff, Nat.reduceLT, Nat.reduceLeDiff, Nat.reduceAdd, Nat.reduceSub, Nat.reduceMul, Nat.reduceBEq, Nat.reduceBNe, Int.reduceEq, Int.reduceToNat, Int.reduceNeg, ↓reduceIte, reduceCtorEq, Nat.reduceDiv, Nat.reduceMod, Int.reduceLE, Int.reduceLT, Int.reduceSub, Int.reduceAdd]
  · simp only [Tryz.f146, go_sem, Nat.reduceEqDiff, Nat.reduceLT, Nat.reduceLeDiff, Nat.reduceAdd, Nat.reduceSub, Nat.reduceMul, Nat.reduceBEq, Nat.reduceBNe, Int.reduceEq, Int.reduceToNat, Int.reduceNeg, ↓reduceIte, reduceCtorEq, Nat.reduceDiv, Nat.reduceMod, Int.reduceLE, Int.reduceLT, Int.reduceSub, Int.reduceAdd, r65_at, r65_skip, hk, hR, hS, hs, hs2, or_self]
    cases bb <;> simp only [Tryz.f146, go_sem, Nat.reduceEqDiff, Nat.reduceLT, Nat.reduceLeDiff, Nat.reduceAdd, Nat.reduceSub, Nat.reduceMul, Nat.reduceBEq, Nat.reduceBNe, Int.reduceEq, Int.reduceToNat, Int.reduceNeg, ↓reduceIte, reduceCtorEq, Nat.reduceDiv, Nat.reduceMod, Int.reduceLE, Int.reduceLT, Int.reduceSub, Int.reduceAdd]
  · simp only [Tryz.f146, go_sem, Nat.reduceEqDiff, Nat.reduceLT, Nat.reduceLeDiff, Nat.reduceAdd, Nat.reduceSub, Nat.reduceMul, Nat.reduceBEq, Nat.reduceBNe, Int.reduceEq, Int.reduceToNat, Int.reduceNeg, ↓reduceIte, reduceCtorEq, Nat.reduceDiv, Nat.reduceMod, Int.reduceLE, Int.reduceLT, Int.reduceSub, Int.reduceAdd, r65_at, r65_skip, hk, hR, hS, hs, hs2, or_self]
    cases bb <;> simp only [Tryz.f146, go_sem, Nat.reduceEqDiff, Nat.reduceLT, Nat.reduceLeDiff, Nat.reduceAdd, Nat.reduceSub, Nat.reduceMul, Nat.reduceBEq, Nat.reduceBNe, Int.reduceEq, Int.reduceToNat, Int.reduceNeg, ↓reduceIte, reduceCtorEq, Nat.reduceDiv, Nat.reduceMod, Int.reduceLE, Int.reduceLT, Int.reduceSub, Int.reduceAdd]
  · simp only [Tryz.f146, go_sem, Nat.reduceEqDiff, Nat.reduceLT, Nat.reduceLeDiff, Nat.reduceAdd, Nat.reduceSub, Nat.reduceMul, Nat.reduceBEq, Nat.reduceBNe, Int.reduceEq, Int.reduceToNat, Int.reduceNeg, ↓reduceIte, reduceCtorEq, Nat.reduceDiv, Nat.reduceMod, Int.reduceLE, Int.reduceLT, Int.reduceSub, Int.reduceAdd, r65_at, r65_skip, k1, k2, k3, k4, k5, k6, k7, k8, k9, or_self]

theorem type_ind (p : Pg) : ∀ (n : Nat) (e : Ex), szE e < n → VPure Tryz.prog G 146 [.agg (encP p), .agg (encE e)] (.val (.int .i64 (tyE p e)))
  | 0, _, h => by omega
  | n + 1, e, h => type_step p n (fun e h => type_ind p n e h) e (by omega)
theorem type_c (p : Pg) (e : Ex) : VPure Tryz.prog G 146 [.agg (encP p), .agg (encE e)] (.val (.int .i64 (tyE p e))) := type_ind p (szE e + 1) e (by omega)
theorem words_c2 (p : Pg) (l : List Ex) : VPure Tryz.prog G 109 [.agg (encP p), .slice (l.map encE)] (.val (.bool (l.all fun e => decide (tyE p e = 1)))) :=
  words_step p (szEs l + 1) (fun e _ => type_c p e) l fun i hi => by have := szEs_elm l i hi; omega
theorem bools_c2 (p : Pg) (l : List Ex) : VPure Tryz.prog G 108 [.agg (encP p), .slice (l.map encE)] (.val (.bool (l.all fun e => decide (tyE p e = 2)))) :=
  bools_step p (szEs l + 1) (fun e _ => type_c p e) l fun i hi => by have := szEs_elm l i hi; omega
noncomputable def r37 : Rule Tryz.prog G := Rule.pure 146 ((Pg) × (Ex)) (fun x => match x with | (p, e) => [.agg (encP p), .agg (encE e)]) (fun x => match x with | (p, e) => .val (.int .i64 (tyE p e))) (by rintro ⟨p1, e1⟩ ⟨p2, e2⟩ h; simp only [List.cons.injEq, PV.agg.injEq, PV.val.injEq, PV.slice.injEq, Value.int.injEq, Value.bool.injEq, Value.string.injEq, encE_iff, encEs_iff, encS_iff, encSs_iff, encT_iff, encF_iff, encP_iff, Int.natCast_inj, true_and, and_true] at h; simp only [h]) (fun ⟨p, e⟩ => type_c p e)
theorem r37_at (tl : List (Rule Tryz.prog G)) (p : Pg) (e : Ex) (sh : Sh) : tab (r37 :: tl) 146 [.agg [.slice (encT p.vars), .slice (p.arrays.map encA), .slice (p.funcs.map encF)], .agg [.val (.int .i64 e.kind), .val (.int .i64 e.op), .val (.int .u32 e.num), .val (.string e.name), .slice (e.kids.map encE)]] sh = some (.val (.int .i64 (tyE p e)), sh) := by
  have this : tab (r37 :: tl) 146 [.agg (encP p), .agg (encE e)] sh = some (.val (.int .i64 (tyE p e)), sh) := tab_pure tl ((p, e) : (Pg) × (Ex)) sh
  simpa only [encE_eq, encS_eq, encF, encP] using this
theorem r37_skip (tl : List (Rule Tryz.prog G)) (f : FuncId) (args : List PV) (sh : Sh) (h : f ≠ 146) : tab (r37 :: tl) f args sh = tab tl f args sh := tab_skip _ tl f args sh h
noncomputable def r66 : Rule Tryz.prog G := Rule.pure 109 ((Pg) × (List Ex)) (fun x => match x with | (p, l) => [.agg (encP p), .slice (l.map encE)]) (fun x => match x with | (p, l) => .val (.bool (l.all fun e => decide (tyE p e = 1)))) (by rintro ⟨p1, l1⟩ ⟨p2, l2⟩ h; simp only [List.cons.injEq, PV.agg.injEq, PV.val.injEq, PV.slice.injEq, Value.int.injEq, Value.bool.injEq, Value.string.injEq, encE_iff, encEs_iff, encS_iff, encSs_iff, encT_iff, encF_iff, encP_iff, Int.natCast_inj, true_and, and_true] at h; simp only [h]) (fun ⟨p, l⟩ => words_c2 p l)
theorem r66_at (tl : List (Rule Tryz.prog G)) (p : Pg) (l : List Ex) (sh : Sh) : tab (r66 :: tl) 109 [.agg [.slice (encT p.vars), .slice (p.arrays.map encA), .slice (p.funcs.map encF)], .slice (l.map encE)] sh = some (.val (.bool (l.all fun e => decide (tyE p e = 1))), sh) := by
  have this : tab (r66 :: tl) 109 [.agg (encP p), .slice (l.map encE)] sh = some (.val (.bool (l.all fun e => decide (tyE p e = 1))), sh) := tab_pure tl ((p, l) : (Pg) × (List Ex)) sh
  simpa only [encE_eq, encS_eq, encF, encP] using this
theorem r66_skip (tl : List (Rule Tryz.prog G)) (f : FuncId) (args : List PV) (sh : Sh) (h : f ≠ 109) : tab (r66 :: tl) f args sh = tab tl f args sh := tab_skip _ tl f args sh h
noncomputable def r67 : Rule Tryz.prog G := Rule.pure 108 ((Pg) × (List Ex)) (fun x => match x with | (p, l) => [.agg (encP p), .slice (l.map encE)]) (fun x => match x with | (p, l) => .val (.bool (l.all fun e => decide (tyE p e = 2)))) (by rintro ⟨p1, l1⟩ ⟨p2, l2⟩ h; simp only [List.cons.injEq, PV.agg.injEq, PV.val.injEq, PV.slice.injEq, Value.int.injEq, Value.bool.injEq, Value.string.injEq, encE_iff, encEs_iff, encS_iff, encSs_iff, encT_iff, encF_iff, encP_iff, Int.natCast_inj, true_and, and_true] at h; simp only [h]) (fun ⟨p, l⟩ => bools_c2 p l)
theorem r67_at (tl : List (Rule Tryz.prog G)) (p : Pg) (l : List Ex) (sh : Sh) : tab (r67 :: tl) 108 [.agg [.slice (encT p.vars), .slice (p.arrays.map encA), .slice (p.funcs.map encF)], .slice (l.map encE)] sh = some (.val (.bool (l.all fun e => decide (tyE p e = 2))), sh) := by
  have this : tab (r67 :: tl) 108 [.agg (encP p), .slice (l.map encE)] sh = some (.val (.bool (l.all fun e => decide (tyE p e = 2))), sh) := tab_pure tl ((p, l) : (Pg) × (List Ex)) sh
  simpa only [encE_eq, encS_eq, encF, encP] using this
theorem r67_skip (tl : List (Rule Tryz.prog G)) (f : FuncId) (args : List PV) (sh : Sh) (h : f ≠ 108) : tab (r67 :: tl) f args sh = tab tl f args sh := tab_skip _ tl f args sh h
end Go.Proofs.YtaackmiajgapoaaGreatDoor.V

/- Known functions, and an expression's type with its error, by the document (seedcornref17). -/
set_option maxHeartbeats 16000000
set_option maxRecDepth 100000
set_option linter.unusedSimpArgs false
set_option linter.unusedVariables false
namespace Go.Proofs.YtaackmiajgapoaaGreatDoor.V
open Go
variable {G : Nat → Option (List PV)}

mutual
def knE (p : Pg) : Ex → Bool
  | .mk k _ _ s l => !(decide (k = 4) && decide (fnIdx p.funcs s < 0)) && knEs p l
def knEs (p : Pg) : List Ex → Bool
  | [] => true
  | e :: r => knE p e && knEs p r
end
theorem knEs_all (p : Pg) : ∀ l : List Ex, knEs p l = l.all (knE p)
  | [] => rfl
  | e :: r => by rw [knEs, knEs_all p r]; rfl
theorem knE_eq (p : Pg) (e : Ex) : knE p e = (!(decide (e.kind = 4) && decide (fnIdx p.funcs e.name < 0)) && e.kids.all (knE p)) := by
  cases e with | mk k o n s l => rw [knE, knEs_all]; rfl

theorem known_step (p : Pg) (n : Nat) (IH : ∀ l : List Ex, szEs l < n → VPure Tryz.prog G 107 [.agg (encP p), .slice (l.map encE)] (.val (.bool (l.all (knE p))))) (l : List Ex) (hl : szEs l ≤ n) :
    VPure Tryz.prog G 107 [.agg (encP p), .slice (l.map encE)] (.val (.bool (l.all (knE p)))) := by
  obtain ⟨R, hR0, hs⟩ := mkRule (P := Tryz.prog) (G := G) 107 (List Ex) (fun x => [.agg (encP p), .slice (x.map encE)]) (fun x => .val (.bool (x.all (knE p)))) (fun x => szEs x < n)
    (by rintro a b h; simp only [List.cons.injEq, PV.slice.injEq, encEs_iff, true_and, and_true] at h; simp only [h]) (fun x h => IH x h)
  have hR : ∀ tl (i : Nat) sh, i < l.length → tab (R :: tl) 107 [.agg [.slice (encT p.vars), .slice (p.arrays.map encA), .slice (p.funcs.map encF)], .slice ((elm l i).kids.map encE)] sh = some (.val (.bool ((elm l i).kids.all (knE p))), sh) := by
    intro tl i sh h
    have := hR0 tl (elm l i).kids sh (Nat.lt_of_lt_of_le (szE_elm_kids l i h) hl)
    simpa only [encP] using this
  clear hR0
  refine VPure.of (.val _) fun sh => ?_
  refine VCalls_enter [] Tryz.func107 rfl (show 2 ≤ 38 by decide) ?_
  refine vCode_sound (tab_ok [r65, R]) _ _ _ ?_
  simp only [encP]
  simp only [Tryz.f107, go_sem, Nat.reduceEqDiff, Nat.reduceLT, Nat.reduceLeDiff, Nat.reduceAdd, Nat.reduceSub, Nat.reduceMul, Nat.reduceBEq, Nat.reduceBNe, Int.reduceEq, Int.reduceToNat, Int.reduceNeg, ↓reduceIte, reduceCtorEq, Nat.reduceDiv, Nat.reduceMod, Int.reduceLE, Int.reduceLT, Int.reduceSub, Int.reduceAdd]
  refine loop_intro (VWp_for [6, 7, 8, 9, 12, 13, 14, 15, 16, 17, 18, 19, 20, 21, 22, 23, 24, 25, 26, 27, 28, 29, 30, 31, 32, 33, 34, 35, 36, 37, 4, 10, 11, 5] (fun i : Nat => [(5, .val (.int .i64 i))]) [] (fun _ => []) [] (fun _ => []) (fun _ => sh)
    (fun i => i ≤ l.length ∧ ∀ j, j < i → knE p (elm l j) = true) (fun i => l.length - i) 0 ⟨Nat.zero_le _, fun j h => by omega⟩ (by refine ⟨rfl, rfl, rfl, .refl _ _, .refl _ _, .refl _ _, by repeat (first | trivial | rfl | refine ⟨?_, ?_⟩), by repeat (first | trivial | rfl | refine ⟨?_, ?_⟩), by repeat (first | trivial | rfl | refine ⟨?_, ?_⟩), by repeat (first | trivial | exact .inr rfl | exact .inl rfl | refine ⟨?_, ?_⟩), by repeat (first | trivial | exact .inr rfl | exact .inl rfl | refine ⟨?_, ?_⟩), by repeat (first | trivial | exact .inr rfl | exact .inl rfl | refine ⟨?_, ?_⟩), by repeat (first | trivial | exact .inr rfl | exact .inl rfl | refine ⟨?_, ?_⟩)⟩) ?_)
  rintro i ⟨hi, hne⟩
  refine vCode_sound (tab_ok [r65, R]) _ _ _ ?_
  simp only [Tryz.f107, go_sem, Nat.reduceEqDiff, Nat.reduceLT, Nat.reduceLeDiff, Nat.reduceAdd, Nat.reduceSub, Nat.reduceMul, Nat.reduceBEq, Nat.reduceBNe, Int.reduceEq, Int.reduceToNat, Int.reduceNeg, ↓reduceIte, reduceCtorEq, Nat.reduceDiv, Nat.reduceMod, Int.reduceLE, Int.reduceLT, Int.reduceSub, Int.reduceAdd]
  repeat (first | intro _ | refine And.intro (by (intros; first | omega | (simp only [Bool.or_eq_false_iff, Bool.or_eq_true, decide_eq_false_iff_not, beq_iff_eq, Bool.and_eq_true, decide_eq_true_eq, Bool.not_eq_true'] at *; omega) | simp_all)) ?_)
  refine if_intro _ rfl trivial (fun h => ?_) (fun h => ?_)
  · simp only [decide_eq_true_eq, Int.ofNat_lt] at h
    have hw : IntKind.i64.wrap ((i : Int) + 1) = ((i + 1 : Nat) : Int) := by rw [wrap64_id (by omega) (by omega)]; rfl
    simp only [Tryz.f107, go_sem, Nat.reduceEqDiff, Nat.reduceLT, Nat.reduceLeDiff, Nat.reduceAdd, Nat.reduceSub, Nat.reduceMul, Nat.reduceBEq, Nat.reduceBNe, Int.reduceEq, Int.reduceToNat, Int.reduceNeg, ↓reduceIte, reduceCtorEq, Nat.reduceDiv, Nat.reduceMod, Int.reduceLE, Int.reduceLT, Int.reduceSub, Int.reduceAdd, h]
    refine draw_intro (tab_ok [r65, R]) mixed [(true, 0), (true, 1), (true, 2), (true, 3), (true, 4), (true, 5), (true, 6), (true, 7), (true, 8), (true, 9), (true, 10), (true, 11), (true, 12), (false, 13), (true, 14), (true, 15), (true, 16), (true, 17), (true, 18), (true, 19), (true, 20), (true, 21), (true, 22), (false, 23), (true, 24), (true, 25)] rfl ?_
    simp only [Tryz.f107, go_sem, Nat.reduceEqDiff, Nat.reduceLT, Nat.reduceLeDiff, Nat.reduceAdd, Nat.reduceSub, Nat.reduceMul, Nat.reduceBEq, Nat.reduceBNe, Int.reduceEq, Int.reduceToNat, Int.reduceNeg, ↓reduceIte, reduceCtorEq, Nat.reduceDiv, Nat.reduceMod, Int.reduceLE, Int.reduceLT, Int.reduceSub, Int.reduceAdd, r65_at, r65_skip, h, hR, hs]
    repeat (first | intro _ | refine And.intro (by (intros; first | omega | (simp only [Bool.or_eq_false_iff, Bool.or_eq_true, decide_eq_false_iff_not, beq_iff_eq, Bool.and_eq_true, decide_eq_true_eq, Bool.not_eq_true'] at *; omega) | simp_all)) ?_)
    refine if_intro _ rfl trivial (fun h2 => ?_) (fun h2 => ?_)
    · simp only [Tryz.f107, go_sem, Nat.reduceEqDiff, Nat.reduceLT, Nat.reduceLeDiff, Nat.reduceAdd, Nat.reduceSub, Nat.reduceMul, Nat.reduceBEq, Nat.reduceBNe, Int.reduceEq, Int.reduceToNat, Int.reduceNeg, ↓reduceIte, reduceCtorEq, Nat.reduceDiv, Nat.reduceMod, Int.reduceLE, Int.reduceLT, Int.reduceSub, Int.reduceAdd]
      refine (all_at h ?_).symm
      rw [knE_eq]
      revert h2
      generalize decide ((elm l i).kind = 4) = x1
      generalize decide (fnIdx p.funcs (elm l i).name < 0) = x2
      generalize (elm l i).kids.all (knE p) = x3
      revert x1 x2 x3
      decide
    · simp only [Tryz.f107, go_sem, Nat.reduceEqDiff, Nat.reduceLT, Nat.reduceLeDiff, Nat.reduceAdd, Nat.reduceSub, Nat.reduceMul, Nat.reduceBEq, Nat.reduceBNe, Int.reduceEq, Int.reduceToNat, Int.reduceNeg, ↓reduceIte, reduceCtorEq, Nat.reduceDiv, Nat.reduceMod, Int.reduceLE, Int.reduceLT, Int.reduceSub, Int.reduceAdd, hw]
      have hf : knE p (elm l i) = true := by
        rw [knE_eq]
        revert h2
        generalize decide ((elm l i).kind = 4) = x1
        generalize decide (fnIdx p.funcs (elm l i).name < 0) = x2
        generalize (elm l i).kids.all (knE p) = x3
        revert x1 x2 x3
        decide
      refine ⟨i + 1, ⟨h, fun j hj => ?_⟩, by omega, ?_⟩
      · by_cases e : j = i
        · subst e; exact hf
        · exact hne j (by omega)
      · refine ⟨rfl, rfl, rfl, by repeat (first | exact AgreeOff.refl _ _ | refine AgreeOff.upd rfl ?_ | refine AgreeOff.over rfl ?_), by repeat (first | exact AgreeOff.refl _ _ | refine AgreeOff.upd rfl ?_ | refine AgreeOff.over rfl ?_), by repeat (first | exact AgreeOff.refl _ _ | refine AgreeOff.upd rfl ?_ | refine AgreeOff.over rfl ?_), ?_, by repeat (first | trivial | exact .inr rfl | exact .inl rfl | refine ⟨?_, ?_⟩), by repeat (first | trivial | exact .inr rfl | exact .inl rfl | refine ⟨?_, ?_⟩), by repeat (first | trivial | exact .inr rfl | exact .inl rfl | refine ⟨?_, ?_⟩), by repeat (first | trivial | exact .inr rfl | exact .inl rfl | refine ⟨?_, ?_⟩), by repeat (first | trivial | exact .inr rfl | exact .inl rfl | refine ⟨?_, ?_⟩), by repeat (first | trivial | exact .inr rfl | exact .inl rfl | refine ⟨?_, ?_⟩)⟩
        exact ⟨rfl, trivial⟩
  · simp only [decide_eq_false_iff_not, Int.ofNat_lt] at h
    simp only [Tryz.f107, go_sem, Nat.reduceEqDiff, Nat.reduceLT, Nat.reduceLeDiff, Nat.reduceAdd, Nat.reduceSub, Nat.reduceMul, Nat.reduceBEq, Nat.reduceBNe, Int.reduceEq, Int.reduceToNat, Int.reduceNeg, ↓reduceIte, reduceCtorEq, Nat.reduceDiv, Nat.reduceMod, Int.reduceLE, Int.reduceLT, Int.reduceSub, Int.reduceAdd]
    exact (all_of fun j hj => hne j (by omega)).symm
theorem known_ind (p : Pg) : ∀ (n : Nat) (l : List Ex), szEs l < n → VPure Tryz.prog G 107 [.agg (encP p), .slice (l.map encE)] (.val (.bool (l.all (knE p))))
  | 0, _, h => by omega
  | n + 1, l, h => known_step p n (fun l h => known_ind p n l h) l (by omega)
theorem known_c (p : Pg) (l : List Ex) : VPure Tryz.prog G 107 [.agg (encP p), .slice (l.map encE)] (.val (.bool (l.all (knE p)))) := known_ind p (szEs l + 1) l (by omega)
noncomputable def r36 : Rule Tryz.prog G := Rule.pure 107 ((Pg) × (List Ex)) (fun x => match x with | (p, l) => [.agg (encP p), .slice (l.map encE)]) (fun x => match x with | (p, l) => .val (.bool (l.all (knE p)))) (by rintro ⟨p1, l1⟩ ⟨p2, l2⟩ h; simp only [List.cons.injEq, PV.agg.injEq, PV.val.injEq, PV.slice.injEq, Value.int.injEq, Value.bool.injEq, Value.string.injEq, encE_iff, encEs_iff, encS_iff, encSs_iff, encT_iff, encF_iff, encP_iff, Int.natCast_inj, true_and, and_true] at h; simp only [h]) (fun ⟨p, l⟩ => known_c p l)
theorem r36_at (tl : List (Rule Tryz.prog G)) (p : Pg) (l : List Ex) (sh : Sh) : tab (r36 :: tl) 107 [.agg [.slice (encT p.vars), .slice (p.arrays.map encA), .slice (p.funcs.map encF)], .slice (l.map encE)] sh = some (.val (.bool (l.all (knE p))), sh) := by
  have this : tab (r36 :: tl) 107 [.agg (encP p), .slice (l.map encE)] sh = some (.val (.bool (l.all (knE p))), sh) := tab_pure tl ((p, l) : (Pg) × (List Ex)) sh
  simpa only [encE_eq, encS_eq, encF, encP] using this
theorem r36_skip (tl : List (Rule Tryz.prog G)) (f : FuncId) (args : List PV) (sh : Sh) (h : f ≠ 107) : tab (r36 :: tl) f args sh = tab tl f args sh := tab_skip _ tl f args sh h
theorem r36_at1 (tl : List (Rule Tryz.prog G)) (p : Pg) (e : Ex) (sh : Sh) : tab (r36 :: tl) 107 [.agg [.slice (encT p.vars), .slice (p.arrays.map encA), .slice (p.funcs.map encF)], .slice [[.val (.int .i64 e.kind), .val (.int .i64 e.op), .val (.int .u32 e.num), .val (.string e.name), .slice (e.kids.map encE)]]] sh = some (.val (.bool (knE p e)), sh) := by
  have := r36_at tl p [e] sh
  simpa only [List.map_cons, List.map_nil, encE_eq, List.all_cons, List.all_nil, Bool.and_true] using this

/-- An expression's type and the error, by the document. -/
def refE (p : Pg) (e : Ex) : Int × Int := if knE p e = true then (if tyE p e = 0 then (0, 5) else (tyE p e, 0)) else (0, 4)
end Go.Proofs.YtaackmiajgapoaaGreatDoor.V

/- The checker (typing): functions by name. -/
set_option maxHeartbeats 16000000
set_option maxRecDepth 100000
set_option linter.unusedSimpArgs false
set_option linter.unusedVariables false
namespace Go.Proofs.YtaackmiajgapoaaGreatDoor.V
open Go
variable {G : Nat → Option (List PV)}

theorem only_c (k : Int) (b : Bool) : VPure Tryz.prog G 118 [.val (.int .i64 k), .val (.bool b)] (.val (.int .i64 (cond b k 0))) := by
  refine VPure.of (.val _) fun sh => ?_
  refine VCalls_enter [] Tryz.func118 rfl (show 2 ≤ 7 by decide) ?_
  refine vCode_sound (tab_ok []) _ _ _ ?_
  simp only [Tryz.f118, go_sem, Nat.reduceEqDiff, Nat.reduceLT, Nat.reduceLeDiff, Nat.reduceAdd, Nat.reduceSub, Nat.reduceMul, Nat.reduceBEq, Nat.reduceBNe, Int.reduceEq, Int.reduceToNat, Int.reduceNeg, ↓reduceIte, reduceCtorEq, Nat.reduceDiv, Nat.reduceMod, Int.reduceLE, Int.reduceLT, Int.reduceSub, Int.reduceAdd]
  refine if_intro _ rfl trivial (fun h => ?_) (fun h => ?_)
  · subst h
    simp only [Tryz.f118, go_sem, Nat.reduceEqDiff, Nat.reduceLT, Nat.reduceLeDiff, Nat.reduceAdd, Nat.reduceSub, Nat.reduceMul, Nat.reduceBEq, Nat.reduceBNe, Int.reduceEq, Int.reduceToNat, Int.reduceNeg, ↓reduceIte, reduceCtorEq, Nat.reduceDiv, Nat.reduceMod, Int.reduceLE, Int.reduceLT, Int.reduceSub, Int.reduceAdd]
  · subst h
    simp only [Tryz.f118, go_sem, Nat.reduceEqDiff, Nat.reduceLT, Nat.reduceLeDiff, Nat.reduceAdd, Nat.reduceSub, Nat.reduceMul, Nat.reduceBEq, Nat.reduceBNe, Int.reduceEq, Int.reduceToNat, Int.reduceNeg, ↓reduceIte, reduceCtorEq, Nat.reduceDiv, Nat.reduceMod, Int.reduceLE, Int.reduceLT, Int.reduceSub, Int.reduceAdd]
noncomputable def r103 : Rule Tryz.prog G := Rule.pure 118 ((Int) × (Bool)) (fun x => match x with | (k, b) => [.val (.int .i64 k), .val (.bool b)]) (fun x => match x with | (k, b) => .val (.int .i64 (cond b k 0))) (by rintro ⟨k1, b1⟩ ⟨k2, b2⟩ h; simp only [List.cons.injEq, PV.agg.injEq, PV.val.injEq, PV.slice.injEq, Value.int.injEq, Value.bool.injEq, Value.string.injEq, encE_iff, encEs_iff, encS_iff, encSs_iff, encT_iff, encF_iff, encP_iff, Int.natCast_inj, true_and, and_true] at h; simp only [h]) (fun ⟨k, b⟩ => only_c k b)
theorem r103_at (tl : List (Rule Tryz.prog G)) (k : Int) (b : Bool) (sh : Sh) : tab (r103 :: tl) 118 [.val (.int .i64 k), .val (.bool b)] sh = some (.val (.int .i64 (cond b k 0)), sh) := by
  have this : tab (r103 :: tl) 118 [.val (.int .i64 k), .val (.bool b)] sh = some (.val (.int .i64 (cond b k 0)), sh) := tab_pure tl ((k, b) : (Int) × (Bool)) sh
  exact this
theorem r103_skip (tl : List (Rule Tryz.prog G)) (f : FuncId) (args : List PV) (sh : Sh) (h : f ≠ 118) : tab (r103 :: tl) f args sh = tab tl f args sh := tab_skip _ tl f args sh h

/-- Is this a function of the name that a box holds? -/
theorem named_c (f : Fn) (nb : Nat) (s : ByteArray) (sh : Sh) (hb : sh.mem nb = some [.val (.string s)]) : VCalls Tryz.prog G 154 [.agg (encF f), .box nb 0] sh fun e s' => e = .ret (.val (.bool (decide (f.name = s)))) ∧ s' = sh := by
  refine VCalls_enter [] Tryz.func154 rfl (show 2 ≤ 8 by decide) ?_
  refine vCode_sound (tab_ok []) _ _ _ ?_
  simp only [Tryz.f154, go_sem, Nat.reduceEqDiff, Nat.reduceLT, Nat.reduceLeDiff, Nat.reduceAdd, Nat.reduceSub, Nat.reduceMul, Nat.reduceBEq, Nat.reduceBNe, Int.reduceEq, Int.reduceToNat, Int.reduceNeg, ↓reduceIte, reduceCtorEq, Nat.reduceDiv, Nat.reduceMod, Int.reduceLE, Int.reduceLT, Int.reduceSub, Int.reduceAdd, hb]
noncomputable def r132 : Rule Tryz.prog G where
  f := 154
  ι := Fn × Nat × ByteArray
  A := fun x => [.agg (encF x.1), .box x.2.1 0]
  dom := fun x sh => sh.mem x.2.1 = some [.val (.string x.2.2)]
  res := fun x _ => .val (.bool (decide (x.1.name = x.2.2)))
  sh' := fun _ sh => sh
  inj := by
    rintro ⟨f, b, s⟩ ⟨f', b', s'⟩ sh h h1 h2
    simp only [List.cons.injEq, PV.agg.injEq, PV.box.injEq, encF_iff, and_true] at h
    obtain ⟨rfl, rfl⟩ := h
    simp only at h1 h2
    rw [h1] at h2
    simp only [Option.some.injEq, List.cons.injEq, PV.val.injEq, Value.string.injEq, and_true] at h2
    subst h2
    exact ⟨rfl, rfl⟩
  ok := fun x sh h => named_c x.1 x.2.1 x.2.2 sh h
theorem r132_at (tl : List (Rule Tryz.prog G)) (f : Fn) (nb : Nat) (s : ByteArray) (sh : Sh) (hb : sh.mem nb = some [.val (.string s)]) :
    tab (r132 :: tl) 154 [.agg [.val (.string f.name), .slice (encT f.params), .slice (encT f.locals), .val (.bool f.word), .slice (f.body.map encS)], .box nb 0] sh = some (.val (.bool (decide (f.name = s))), sh) :=
  tab_at r132 tl (f, nb, s) sh hb
theorem r132_skip (tl : List (Rule Tryz.prog G)) (f : FuncId) (args : List PV) (sh : Sh) (h : f ≠ 154) : tab (r132 :: tl) f args sh = tab tl f args sh := tab_skip _ tl f args sh h

theorem indexFn_c (l : List Fn) (nb : Nat) (s : ByteArray) (sh : Sh) (hb : sh.mem nb = some [.val (.string s)]) : VCalls Tryz.prog G 137 [.slice (l.map encF), .func 154 [.box nb 0]] sh fun e s' => e = .ret (.val (.int .i64 (fnIdx l s))) ∧ s' = sh := by
  refine VCalls_enter [] Tryz.func137 rfl (show 2 ≤ 19 by decide) ?_
  refine vCode_sound (tab_ok [r132]) _ _ _ ?_
  have hat := fun tl f => r132_at (G := G) tl f nb s sh hb
  simp only [Tryz.f137, go_sem, Nat.reduceEqDiff, Nat.reduceLT, Nat.reduceLeDiff, Nat.reduceAdd, Nat.reduceSub, Nat.reduceMul, Nat.reduceBEq, Nat.reduceBNe, Int.reduceEq, Int.reduceToNat, Int.reduceNeg, ↓reduceIte, reduceCtorEq, Nat.reduceDiv, Nat.reduceMod, Int.reduceLE, Int.reduceLT, Int.reduceSub, Int.reduceAdd]
  repeat (first | intro _ | refine And.intro (by (intros; first | omega | (simp only [Bool.or_eq_false_iff, Bool.or_eq_true, decide_eq_false_iff_not, beq_iff_eq, Bool.and_eq_true, decide_eq_true_eq, Bool.not_eq_true'] at *; omega) | simp_all)) ?_)
  refine loop_intro (VWp_for [9, 10, 5, 11, 12, 13, 14, 15, 16, 17, 4, 18, 8] (fun i : Nat => [(8, .val (.int .i64 i))]) [] (fun _ => []) [] (fun _ => []) (fun _ => sh)
    (fun i => i ≤ l.length ∧ ∀ j, j < i → (elm l j).name ≠ s) (fun i => l.length - i) 0 ⟨Nat.zero_le _, fun j h => by omega⟩ (by refine ⟨rfl, rfl, rfl, .refl _ _, .refl _ _, .refl _ _, by repeat (first | trivial | rfl | refine ⟨?_, ?_⟩), by repeat (first | trivial | rfl | refine ⟨?_, ?_⟩), by repeat (first | trivial | rfl | refine ⟨?_, ?_⟩), by repeat (first | trivial | exact .inr rfl | exact .inl rfl | refine ⟨?_, ?_⟩), by repeat (first | trivial | exact .inr rfl | exact .inl rfl | refine ⟨?_, ?_⟩), by repeat (first | trivial | exact .inr rfl | exact .inl rfl | refine ⟨?_, ?_⟩), by repeat (first | trivial | exact .inr rfl | exact .inl rfl | refine ⟨?_, ?_⟩)⟩) ?_)
  rintro i ⟨hi, hne⟩
  refine vCode_sound (tab_ok [r132]) _ _ _ ?_
  simp only [Tryz.f137, go_sem, Nat.reduceEqDiff, Nat.reduceLT, Nat.reduceLeDiff, Nat.reduceAdd, Nat.reduceSub, Nat.reduceMul, Nat.reduceBEq, Nat.reduceBNe, Int.reduceEq, Int.reduceToNat, Int.reduceNeg, ↓reduceIte, reduceCtorEq, Nat.reduceDiv, Nat.reduceMod, Int.reduceLE, Int.reduceLT, Int.reduceSub, Int.reduceAdd]
  repeat (first | intro _ | refine And.intro (by (intros; first | omega | (simp only [Bool.or_eq_false_iff, Bool.or_eq_true, decide_eq_false_iff_not, beq_iff_eq, Bool.and_eq_true, decide_eq_true_eq, Bool.not_eq_true'] at *; omega) | simp_all)) ?_)
  refine if_intro _ rfl trivial (fun h => ?_) (fun h => ?_)
  · simp only [decide_eq_true_eq, Int.ofNat_lt] at h
    have hw : IntKind.i64.wrap ((i : Int) + 1) = ((i + 1 : Nat) : Int) := by rw [wrap64_id (by omega) (by omega)]; rfl
    simp only [Tryz.f137, go_sem, Nat.reduceEqDiff, Nat.reduceLT, Nat.reduceLeDiff, Nat.reduceAdd, Nat.reduceSub, Nat.reduceMul, Nat.reduceBEq, Nat.reduceBNe, Int.reduceEq, Int.reduceToNat, Int.reduceNeg, ↓reduceIte, reduceCtorEq, Nat.reduceDiv, Nat.reduceMod, Int.reduceLE, Int.reduceLT, Int.reduceSub, Int.reduceAdd, h, hat, canCall_154]
    repeat (first | intro _ | refine And.intro (by (intros; first | omega | (simp only [Bool.or_eq_false_iff, Bool.or_eq_true, decide_eq_false_iff_not, beq_iff_eq, Bool.and_eq_true, decide_eq_true_eq, Bool.not_eq_true'] at *; omega) | simp_all)) ?_)
    refine if_intro _ rfl trivial (fun h2 => ?_) (fun h2 => ?_)
    · simp only [decide_eq_true_eq] at h2
      simp only [Tryz.f137, go_sem, Nat.reduceEqDiff, Nat.reduceLT, Nat.reduceLeDiff, Nat.reduceAdd, Nat.reduceSub, Nat.reduceMul, Nat.reduceBEq, Nat.reduceBNe, Int.reduceEq, Int.reduceToNat, Int.reduceNeg, ↓reduceIte, reduceCtorEq, Nat.reduceDiv, Nat.reduceMod, Int.reduceLE, Int.reduceLT, Int.reduceSub, Int.reduceAdd]
      exact (fnIdx_at h hne h2).symm
    · simp only [decide_eq_false_iff_not] at h2
      simp only [Tryz.f137, go_sem, Nat.reduceEqDiff, Nat.reduceLT, Nat.reduceLeDiff, Nat.reduceAdd, Nat.reduceSub, Nat.reduceMul, Nat.reduceBEq, Nat.reduceBNe, Int.reduceEq, Int.reduceToNat, Int.reduceNeg, ↓reduceIte, reduceCtorEq, Nat.reduceDiv, Nat.reduceMod, Int.reduceLE, Int.reduceLT, Int.reduceSub, Int.reduceAdd, hw]
      refine ⟨i + 1, ⟨h, fun j hj => ?_⟩, by omega, ?_⟩
      · by_cases e : j = i
        · subst e; exact h2
        · exact hne j (by omega)
      · refine ⟨rfl, rfl, rfl, by repeat (first | exact AgreeOff.refl _ _ | refine AgreeOff.upd rfl ?_ | refine AgreeOff.over rfl ?_), by repeat (first | exact AgreeOff.refl _ _ | refine AgreeOff.upd rfl ?_ | refine AgreeOff.over rfl ?_), by repeat (first | exact AgreeOff.refl _ _ | refine AgreeOff.upd rfl ?_ | refine AgreeOff.over rfl ?_), ?_, by repeat (first | trivial | exact .inr rfl | exact .inl rfl | refine ⟨?_, ?_⟩), by repeat (first | trivial | exact .inr rfl | exact .inl rfl | refine ⟨?_, ?_⟩), by repeat (first | trivial | exact .inr rfl | exact .inl rfl | refine ⟨?_, ?_⟩), by repeat (first | trivial | exact .inr rfl | exact .inl rfl | refine ⟨?_, ?_⟩), by repeat (first | trivial | exact .inr rfl | exact .inl rfl | refine ⟨?_, ?_⟩), by repeat (first | trivial | exact .inr rfl | exact .inl rfl | refine ⟨?_, ?_⟩)⟩
        exact ⟨rfl, trivial⟩
  · simp only [decide_eq_false_iff_not, Int.ofNat_lt] at h
    simp only [Tryz.f137, go_sem, Nat.reduceEqDiff, Nat.reduceLT, Nat.reduceLeDiff, Nat.reduceAdd, Nat.reduceSub, Nat.reduceMul, Nat.reduceBEq, Nat.reduceBNe, Int.reduceEq, Int.reduceToNat, Int.reduceNeg, ↓reduceIte, reduceCtorEq, Nat.reduceDiv, Nat.reduceMod, Int.reduceLE, Int.reduceLT, Int.reduceSub, Int.reduceAdd]
    exact (fnIdx_none fun j hj => hne j (by omega)).symm
end Go.Proofs.YtaackmiajgapoaaGreatDoor.V

/- The checker (typing): the function of a name. -/
set_option maxHeartbeats 16000000
set_option maxRecDepth 100000
set_option linter.unusedSimpArgs false
set_option linter.unusedVariables false
namespace Go.Proofs.YtaackmiajgapoaaGreatDoor.V
open Go
variable {G : Nat → Option (List PV)}

theorem map_encF_iff (a b : List Fn) : a.map encF = b.map encF ↔ a = b := ⟨map_inj encF_inj a b, fun h => by rw [h]⟩
noncomputable def r131 : Rule Tryz.prog G where
  f := 137
  ι := List Fn × Nat × ByteArray
  A := fun x => [.slice (x.1.map encF), .func 154 [.box x.2.1 0]]
  dom := fun x sh => sh.mem x.2.1 = some [.val (.string x.2.2)]
  res := fun x _ => .val (.int .i64 (fnIdx x.1 x.2.2))
  sh' := fun _ sh => sh
  inj := by
    rintro ⟨f, b, s⟩ ⟨f', b', s'⟩ sh h h1 h2
    simp only [List.cons.injEq, PV.slice.injEq, PV.func.injEq, PV.box.injEq, map_encF_iff, and_true, true_and] at h
    obtain ⟨rfl, rfl⟩ := h
    simp only at h1 h2
    rw [h1] at h2
    simp only [Option.some.injEq, List.cons.injEq, PV.val.injEq, Value.string.injEq, and_true] at h2
    subst h2
    exact ⟨rfl, rfl⟩
  ok := fun x sh h => indexFn_c x.1 x.2.1 x.2.2 sh h
theorem r131_at (tl : List (Rule Tryz.prog G)) (l : List Fn) (nb : Nat) (s : ByteArray) (sh : Sh) (hb : sh.mem nb = some [.val (.string s)]) :
    tab (r131 :: tl) 137 [.slice (l.map encF), .func 154 [.box nb 0]] sh = some (.val (.int .i64 (fnIdx l s)), sh) :=
  tab_at r131 tl (l, nb, s) sh hb
theorem r131_skip (tl : List (Rule Tryz.prog G)) (f : FuncId) (args : List PV) (sh : Sh) (h : f ≠ 137) : tab (r131 :: tl) f args sh = tab tl f args sh := tab_skip _ tl f args sh h

/-- The checker's cells. -/
def ck (p : Pg) (lost : Bool) : List PV := [.slice (encT p.vars), .slice (p.arrays.map encA), .slice (p.funcs.map encF), .val (.bool lost)]
def setLost (sh : Sh) (b : Nat) (p : Pg) (lost : Bool) : Sh := { sh with mem := upd sh.mem b (some (ck p lost)) }
/-- What 'fun' answers. -/
def funRes (p : Pg) (s : ByteArray) : PV :=
  if 0 ≤ fnIdx p.funcs s then .tup [.agg (encF (elm p.funcs (fnIdx p.funcs s).toNat)), .val (.bool true)]
  else .tup [.agg [.val (.string ByteArray.empty), .nils, .nils, .val (.bool false), .nils], .val (.bool false)]
def funSh (sh : Sh) (b : Nat) (p : Pg) (s : ByteArray) : Sh := if 0 ≤ fnIdx p.funcs s then sh else setLost sh b p true

theorem upd_comm {α : Type} {f : Nat → α} {a b : Nat} {x y : α} (h : a ≠ b) : upd (upd f a x) b y = upd (upd f b y) a x := by
  funext i
  simp only [upd]
  by_cases h1 : i = b
  · subst h1
    simp only [if_true]
    exact (if_neg fun e => h e.symm).symm
  · simp [h1]
theorem fun_c (p : Pg) (lost : Bool) (b : Nat) (s : ByteArray) (sh : Sh) (hn : b < sh.next) (hb : sh.mem b = some (ck p lost)) :
    VCalls Tryz.prog G 122 [.box b 0, .val (.string s)] sh fun e s' => e = .ret (funRes p s) ∧ s' = funSh sh b p s := by
  refine VCalls.gc2 (R := fun e s' => e = .ret (funRes p s) ∧ s' = { next := sh.next + 1, mem := upd (funSh sh b p s).mem sh.next (some [.val (.string s)]) }) ?_ ?_
  · refine VCalls_enter [3] Tryz.func122 rfl (show 2 ≤ 28 by decide) ?_
    refine vCode_sound (tab_ok [r131]) _ _ _ ?_
    have hne : (b = sh.next) = False := by simp; omega
    simp only [ck] at hb
    have hat : ∀ tl l, tab (r131 (G := G) :: tl) 137 [.slice (l.map encF), .func 154 [.box sh.next 0]] { next := sh.next + 1, mem := upd sh.mem sh.next (some [.val (.string s)]) } = some (.val (.int .i64 (fnIdx l s)), { next := sh.next + 1, mem := upd sh.mem sh.next (some [.val (.string s)]) }) := fun tl l => r131_at tl l sh.next s _ (upd_same _ _ _)
    simp only [Tryz.f122, go_sem, Nat.reduceEqDiff, Nat.reduceLT, Nat.reduceLeDiff, Nat.reduceAdd, Nat.reduceSub, Nat.reduceMul, Nat.reduceBEq, Nat.reduceBNe, Int.reduceEq, Int.reduceToNat, Int.reduceNeg, ↓reduceIte, reduceCtorEq, Nat.reduceDiv, Nat.reduceMod, Int.reduceLE, Int.reduceLT, Int.reduceSub, Int.reduceAdd, hb, hne, hat]
    refine if_intro _ rfl trivial (fun h => ?_) (fun h => ?_)
    · have hf : ¬ 0 ≤ fnIdx p.funcs s := by simp only [decide_eq_true_eq] at h; omega
      simp only [Tryz.f122, go_sem, Nat.reduceEqDiff, Nat.reduceLT, Nat.reduceLeDiff, Nat.reduceAdd, Nat.reduceSub, Nat.reduceMul, Nat.reduceBEq, Nat.reduceBNe, Int.reduceEq, Int.reduceToNat, Int.reduceNeg, ↓reduceIte, reduceCtorEq, Nat.reduceDiv, Nat.reduceMod, Int.reduceLE, Int.reduceLT, Int.reduceSub, Int.reduceAdd, hb, hne, hat]
      refine ⟨by simp [funRes, hf], ?_⟩
      rw [funSh, if_neg hf, setLost, upd_comm (by omega)]
      rfl
    · rcases fnIdx_cases p.funcs s with hf | ⟨i, hi, hf⟩
      · rw [hf] at h; simp at h
      · simp only [Tryz.f122, go_sem, Nat.reduceEqDiff, Nat.reduceLT, Nat.reduceLeDiff, Nat.reduceAdd, Nat.reduceSub, Nat.reduceMul, Nat.reduceBEq, Nat.reduceBNe, Int.reduceEq, Int.reduceToNat, Int.reduceNeg, ↓reduceIte, reduceCtorEq, Nat.reduceDiv, Nat.reduceMod, Int.reduceLE, Int.reduceLT, Int.reduceSub, Int.reduceAdd, hb, hne, hat, hf, hi]
        have hf' : 0 ≤ fnIdx p.funcs s := by omega
        refine ⟨?_, ?_⟩
        · rw [funRes, if_pos hf', hf]; rfl
        · rw [funSh, if_pos hf']
  · rintro r sh' ⟨rfl, rfl⟩
    refine ⟨?_, funSh sh b p s, ?_, ?_, rfl, rfl⟩
    · unfold funRes
      split
      · refine .tup _ fun q hq => ?_
        simp only [List.mem_cons, List.not_mem_nil, or_false] at hq
        rcases hq with rfl | rfl
        · refine .agg _ fun q hq => ?_
          simp only [encF, List.mem_cons, List.not_mem_nil, or_false] at hq
          rcases hq with rfl | rfl | rfl | rfl | rfl <;> constructor
        · exact .val _
      · refine .tup _ fun q hq => ?_
        simp only [List.mem_cons, List.not_mem_nil, or_false] at hq
        rcases hq with rfl | rfl
        · refine .agg _ fun q hq => ?_
          simp only [List.mem_cons, List.not_mem_nil, or_false] at hq
          rcases hq with rfl | rfl | rfl | rfl | rfl <;> constructor
        · exact .val _
    · unfold funSh
      split <;> rfl
    · intro d cs hd
      have key : sh.mem d = some cs ∨ (d = b ∧ cs = ck p true) := by
        unfold funSh at hd
        split at hd
        · exact .inl hd
        · have hd' : upd sh.mem b (some (ck p true)) d = some cs := hd
          by_cases e : d = b
          · subst e
            rw [upd_same] at hd'
            exact .inr ⟨rfl, (Option.some.inj hd').symm⟩
          · rw [upd_ne _ _ _ _ e] at hd'
            exact .inl hd'
      refine ⟨fun hge => ?_, fun hlt => ⟨?_, ?_⟩⟩
      · rcases key with k | ⟨k, _⟩
        · exact k
        · omega
      · show upd _ _ _ d = _
        rw [upd_ne _ _ _ _ (by omega)]; exact hd
      · rcases key with k | ⟨_, k⟩
        · exact .inl k
        · refine .inr fun q hq => ?_
          subst k
          simp only [ck, List.mem_cons, List.not_mem_nil, or_false] at hq
          rcases hq with rfl | rfl | rfl | rfl <;> constructor
end Go.Proofs.YtaackmiajgapoaaGreatDoor.V

/- The checker (typing): its rules, closures. -/
set_option maxHeartbeats 16000000
set_option maxRecDepth 100000
set_option linter.unusedSimpArgs false
set_option linter.unusedVariables false
namespace Go.Proofs.YtaackmiajgapoaaGreatDoor.V
open Go
variable {G : Nat → Option (List PV)}

theorem setLost_next (sh : Sh) (b : Nat) (p : Pg) (l : Bool) : (setLost sh b p l).next = sh.next := rfl
theorem setLost_b (sh : Sh) (b : Nat) (p : Pg) (l : Bool) : (setLost sh b p l).mem b = some (ck p l) := upd_same _ _ _
theorem setLost_ne (sh : Sh) (b : Nat) (p : Pg) (l : Bool) {d : Nat} (h : d ≠ b) : (setLost sh b p l).mem d = sh.mem d := upd_ne _ _ _ _ h
theorem setLost_same {sh : Sh} {b : Nat} {p : Pg} {l : Bool} (h : sh.mem b = some (ck p l)) : setLost sh b p l = sh := by
  unfold setLost
  have : upd sh.mem b (some (ck p l)) = sh.mem := by
    funext d
    unfold upd
    split
    · rename_i e; rw [e, h]
    · rfl
  rw [this]
theorem setLost_twice (sh : Sh) (b : Nat) (p : Pg) (l l' : Bool) : setLost (setLost sh b p l) b p l' = setLost sh b p l' := by
  unfold setLost
  congr 1
  funext d
  simp only [upd]
  split <;> rfl
theorem ck_inj {p : Pg} {l l' : Bool} (h : ck p l = ck p l') : l = l' := by
  simp only [ck, List.cons.injEq, PV.val.injEq, Value.bool.injEq, true_and, and_true] at h
  exact h

/-- A rule for what the checker does. -/
theorem ckRule {ι : Type} (p : Pg) (f : FuncId) (A : Nat → ι → List PV) (res : ι → PV) (lo : ι → Bool) (D : ι → Prop) (inj : ∀ b x b' x', A b x = A b' x' → b = b' ∧ x = x')
    (ok : ∀ b x lost sh, b < sh.next → sh.mem b = some (ck p lost) → D x → VCalls Tryz.prog G f (A b x) sh fun e s' => e = .ret (res x) ∧ s' = setLost sh b p (lost || lo x)) :
    ∃ R : Rule Tryz.prog G, (∀ tl b x lost sh, b < sh.next → sh.mem b = some (ck p lost) → D x → tab (R :: tl) f (A b x) sh = some (res x, setLost sh b p (lost || lo x))) ∧ ∀ tl g args sh, g ≠ f → tab (R :: tl) g args sh = tab tl g args sh := by
  let R : Rule Tryz.prog G :=
    { f, ι := Bool × Nat × ι, A := fun x => A x.2.1 x.2.2, dom := fun x sh => x.2.1 < sh.next ∧ sh.mem x.2.1 = some (ck p x.1) ∧ D x.2.2, res := fun x _ => res x.2.2, sh' := fun x sh => setLost sh x.2.1 p (x.1 || lo x.2.2),
      inj := by
        rintro ⟨l, b, x⟩ ⟨l', b', x'⟩ sh h ⟨_, h1, _⟩ ⟨_, h2, _⟩
        obtain ⟨rfl, rfl⟩ := inj b x b' x' h
        simp only at h1 h2
        rw [h1] at h2
        obtain rfl := ck_inj (Option.some.inj h2)
        exact ⟨rfl, rfl⟩
      ok := fun x sh h => ok x.2.1 x.2.2 x.1 sh h.1 h.2.1 h.2.2 }
  exact ⟨R, fun tl b x lost sh h1 h2 h3 => tab_at R tl (lost, b, x) sh ⟨h1, h2, h3⟩, fun tl g args sh h => tab_skip R tl g args sh h⟩

theorem fun2_c (p : Pg) (b : Nat) (s : ByteArray) (lost : Bool) (sh : Sh) (hn : b < sh.next) (hb : sh.mem b = some (ck p lost)) :
    VCalls Tryz.prog G 122 [.box b 0, .val (.string s)] sh fun e s' => e = .ret (funRes p s) ∧ s' = setLost sh b p (lost || decide (fnIdx p.funcs s < 0)) := by
  refine (fun_c p lost b s sh hn hb).mono ?_
  rintro e s' ⟨rfl, rfl⟩
  refine ⟨rfl, ?_⟩
  unfold funSh
  split
  · rename_i h
    rw [decide_eq_false (by omega), Bool.or_false, setLost_same hb]
  · rename_i h
    rw [decide_eq_true (by omega), Bool.or_true]

/-- The rules, made. -/
def rulesPV (nb : Nat) : List PV := [.val .nilFunc, .func 116 [], .func 116 [], .func 120 [.box nb 0], .func 121 [.box nb 0], .func 116 [], .func 123 [.box nb 0], .func 117 [.box nb 0], .func 117 [.box nb 0], .func 117 [.box nb 0]]
def rulesSh (sh : Sh) (b : Nat) : Sh := { next := sh.next + 1, mem := upd sh.mem sh.next (some [.box b 0]) }
theorem rules_c (b : Nat) (sh : Sh) (hn : b < sh.next) : VCalls Tryz.prog G 84 [.box b 0] sh fun e s' => e = .ret (.agg (rulesPV sh.next)) ∧ s' = rulesSh sh b := by
  refine VCalls_enter [1] Tryz.func84 rfl (show 1 ≤ 16 by decide) ?_
  refine vCode_sound (tab_ok []) _ _ _ ?_
  simp only [Tryz.f84, go_sem, Nat.reduceEqDiff, Nat.reduceLT, Nat.reduceLeDiff, Nat.reduceAdd, Nat.reduceSub, Nat.reduceMul, Nat.reduceBEq, Nat.reduceBNe, Int.reduceEq, Int.reduceToNat, Int.reduceNeg, ↓reduceIte, reduceCtorEq, Nat.reduceDiv, Nat.reduceMod, Int.reduceLE, Int.reduceLT, Int.reduceSub, Int.reduceAdd]
  exact ⟨rfl, rfl⟩
end Go.Proofs.YtaackmiajgapoaaGreatDoor.V
