/- Types, by the document (seedcornref17). -/
import Derived.Test.YtaackmiajgapoaaDoorD8
set_option maxHeartbeats 16000000
set_option maxRecDepth 100000
set_option linter.unusedSimpArgs false
set_option linter.unusedVariables false
namespace Go.Proofs.YtaackmiajgapoaaDoor.V
open Go
variable {G : Nat → Option (List PV)}

/-- The first function of a name: its number, or -1. -/
def fnIdx (l : List Fn) (s : ByteArray) : Int := match l.findIdx? (fun f => decide (f.name = s)) with | some i => (i : Int) | none => -1
theorem fnIdx_at {l : List Fn} {s : ByteArray} {i : Nat} (h : i < l.length) (h1 : ∀ j, j < i → (elm l j).name ≠ s) (h2 : (elm l i).name = s) : fnIdx l s = i := by
  unfold fnIdx
  rw [List.findIdx?_eq_some_iff_getElem.2 ⟨h, by rw [← elm_eq h]; simpa using h2, fun j hj => by rw [← elm_eq (by omega)]; simpa using h1 j hj⟩]
theorem fnIdx_none {l : List Fn} {s : ByteArray} (h1 : ∀ j, j < l.length → (elm l j).name ≠ s) : fnIdx l s = -1 := by
  unfold fnIdx
  rw [List.findIdx?_eq_none_iff.2 fun x hx => by
    obtain ⟨j, hj, rfl⟩ := List.getElem_of_mem hx
    rw [← elm_eq hj]; simpa using h1 j hj]
theorem fnIdx_cases (l : List Fn) (s : ByteArray) : fnIdx l s = -1 ∨ ∃ i, i < l.length ∧ fnIdx l s = (i : Int) := by
  unfold fnIdx
  split
  · rename_i i h
    exact .inr ⟨i, (List.findIdx?_eq_some_iff_getElem.1 h).1, rfl⟩
  · exact .inl rfl

theorem function_c (p : Pg) (s : ByteArray) : VPure Tryd.prog G 65 [.agg (encP p), .val (.string s)] (.val (.int .i64 (fnIdx p.funcs s))) := by
  refine VPure.of (.val _) fun sh => ?_
  refine VCalls_enter [] Tryd.func65 rfl (show 2 ≤ 22 by decide) ?_
  refine vCode_sound (tab_ok []) _ _ _ ?_
  simp only [encP]
  simp only [Tryd.f65, go_sem, Nat.reduceEqDiff, Nat.reduceLT, Nat.reduceLeDiff, Nat.reduceAdd, Nat.reduceSub, Nat.reduceMul, Nat.reduceBEq, Nat.reduceBNe, Int.reduceEq, Int.reduceToNat, Int.reduceNeg, ↓reduceIte, reduceCtorEq, Nat.reduceDiv, Nat.reduceMod, Int.reduceLE, Int.reduceLT, Int.reduceSub, Int.reduceAdd]
  refine loop_intro (VWp_for [6, 7, 8, 9, 10, 13, 14, 15, 16, 17, 18, 19, 20, 21, 4, 11, 12, 5] (fun i : Nat => [(5, .val (.int .i64 i))]) [] (fun _ => []) [] (fun _ => []) (fun _ => sh)
    (fun i => i ≤ p.funcs.length ∧ ∀ j, j < i → (elm p.funcs j).name ≠ s) (fun i => p.funcs.length - i) 0 ⟨Nat.zero_le _, fun j h => by omega⟩ (by refine ⟨rfl, rfl, rfl, .refl _ _, .refl _ _, .refl _ _, by repeat (first | trivial | rfl | refine ⟨?_, ?_⟩), by repeat (first | trivial | rfl | refine ⟨?_, ?_⟩), by repeat (first | trivial | rfl | refine ⟨?_, ?_⟩), by repeat (first | trivial | exact .inr rfl | exact .inl rfl | refine ⟨?_, ?_⟩), by repeat (first | trivial | exact .inr rfl | exact .inl rfl | refine ⟨?_, ?_⟩), by repeat (first | trivial | exact .inr rfl | exact .inl rfl | refine ⟨?_, ?_⟩), by repeat (first | trivial | exact .inr rfl | exact .inl rfl | refine ⟨?_, ?_⟩)⟩) ?_)
  rintro i ⟨hi, hne⟩
  refine vCode_sound (tab_ok []) _ _ _ ?_
  simp only [Tryd.f65, go_sem, Nat.reduceEqDiff, Nat.reduceLT, Nat.reduceLeDiff, Nat.reduceAdd, Nat.reduceSub, Nat.reduceMul, Nat.reduceBEq, Nat.reduceBNe, Int.reduceEq, Int.reduceToNat, Int.reduceNeg, ↓reduceIte, reduceCtorEq, Nat.reduceDiv, Nat.reduceMod, Int.reduceLE, Int.reduceLT, Int.reduceSub, Int.reduceAdd]
  repeat (first | intro _ | refine And.intro (by (intros; first | omega | (simp only [Bool.or_eq_false_iff, Bool.or_eq_true, decide_eq_false_iff_not, beq_iff_eq, Bool.and_eq_true, decide_eq_true_eq, Bool.not_eq_true'] at *; omega) | simp_all)) ?_)
  refine if_intro _ rfl trivial (fun h => ?_) (fun h => ?_)
  · simp only [decide_eq_true_eq, Int.ofNat_lt] at h
    have hw : IntKind.i64.wrap ((i : Int) + 1) = ((i + 1 : Nat) : Int) := by rw [wrap64_id (by omega) (by omega)]; rfl
    simp only [Tryd.f65, go_sem, Nat.reduceEqDiff, Nat.reduceLT, Nat.reduceLeDiff, Nat.reduceAdd, Nat.reduceSub, Nat.reduceMul, Nat.reduceBEq, Nat.reduceBNe, Int.reduceEq, Int.reduceToNat, Int.reduceNeg, ↓reduceIte, reduceCtorEq, Nat.reduceDiv, Nat.reduceMod, Int.reduceLE, Int.reduceLT, Int.reduceSub, Int.reduceAdd, h]
    repeat (first | intro _ | refine And.intro (by (intros; first | omega | (simp only [Bool.or_eq_false_iff, Bool.or_eq_true, decide_eq_false_iff_not, beq_iff_eq, Bool.and_eq_true, decide_eq_true_eq, Bool.not_eq_true'] at *; omega) | simp_all)) ?_)
    refine if_intro _ rfl trivial (fun h2 => ?_) (fun h2 => ?_)
    · simp only [decide_eq_true_eq] at h2
      simp only [Tryd.f65, go_sem, Nat.reduceEqDiff, Nat.reduceLT, Nat.reduceLeDiff, Nat.reduceAdd, Nat.reduceSub, Nat.reduceMul, Nat.reduceBEq, Nat.reduceBNe, Int.reduceEq, Int.reduceToNat, Int.reduceNeg, ↓reduceIte, reduceCtorEq, Nat.reduceDiv, Nat.reduceMod, Int.reduceLE, Int.reduceLT, Int.reduceSub, Int.reduceAdd]
      exact (fnIdx_at h hne h2).symm
    · simp only [decide_eq_false_iff_not] at h2
      simp only [Tryd.f65, go_sem, Nat.reduceEqDiff, Nat.reduceLT, Nat.reduceLeDiff, Nat.reduceAdd, Nat.reduceSub, Nat.reduceMul, Nat.reduceBEq, Nat.reduceBNe, Int.reduceEq, Int.reduceToNat, Int.reduceNeg, ↓reduceIte, reduceCtorEq, Nat.reduceDiv, Nat.reduceMod, Int.reduceLE, Int.reduceLT, Int.reduceSub, Int.reduceAdd, hw]
      refine ⟨i + 1, ⟨h, fun j hj => ?_⟩, by omega, ?_⟩
      · by_cases e : j = i
        · subst e; exact h2
        · exact hne j (by omega)
      · refine ⟨rfl, rfl, rfl, by repeat (first | exact AgreeOff.refl _ _ | refine AgreeOff.upd rfl ?_ | refine AgreeOff.over rfl ?_), by repeat (first | exact AgreeOff.refl _ _ | refine AgreeOff.upd rfl ?_ | refine AgreeOff.over rfl ?_), by repeat (first | exact AgreeOff.refl _ _ | refine AgreeOff.upd rfl ?_ | refine AgreeOff.over rfl ?_), ?_, by repeat (first | trivial | exact .inr rfl | exact .inl rfl | refine ⟨?_, ?_⟩), by repeat (first | trivial | exact .inr rfl | exact .inl rfl | refine ⟨?_, ?_⟩), by repeat (first | trivial | exact .inr rfl | exact .inl rfl | refine ⟨?_, ?_⟩), by repeat (first | trivial | exact .inr rfl | exact .inl rfl | refine ⟨?_, ?_⟩), by repeat (first | trivial | exact .inr rfl | exact .inl rfl | refine ⟨?_, ?_⟩), by repeat (first | trivial | exact .inr rfl | exact .inl rfl | refine ⟨?_, ?_⟩)⟩
        exact ⟨rfl, trivial⟩
  · simp only [decide_eq_false_iff_not, Int.ofNat_lt] at h
    simp only [Tryd.f65, go_sem, Nat.reduceEqDiff, Nat.reduceLT, Nat.reduceLeDiff, Nat.reduceAdd, Nat.reduceSub, Nat.reduceMul, Nat.reduceBEq, Nat.reduceBNe, Int.reduceEq, Int.reduceToNat, Int.reduceNeg, ↓reduceIte, reduceCtorEq, Nat.reduceDiv, Nat.reduceMod, Int.reduceLE, Int.reduceLT, Int.reduceSub, Int.reduceAdd]
    exact (fnIdx_none fun j hj => hne j (by omega)).symm
noncomputable def r65 : Rule Tryd.prog G := Rule.pure 65 ((Pg) × (ByteArray)) (fun x => match x with | (p, s) => [.agg (encP p), .val (.string s)]) (fun x => match x with | (p, s) => .val (.int .i64 (fnIdx p.funcs s))) (by rintro ⟨p1, s1⟩ ⟨p2, s2⟩ h; simp only [List.cons.injEq, PV.agg.injEq, PV.val.injEq, PV.slice.injEq, Value.int.injEq, Value.bool.injEq, Value.string.injEq, encE_iff, encEs_iff, encS_iff, encSs_iff, encT_iff, encF_iff, encP_iff, Int.natCast_inj, true_and, and_true] at h; simp only [h]) (fun ⟨p, s⟩ => function_c p s)
theorem r65_at (tl : List (Rule Tryd.prog G)) (p : Pg) (s : ByteArray) (sh : Sh) : tab (r65 :: tl) 65 [.agg [.slice (encT p.vars), .slice (p.arrays.map encA), .slice (p.funcs.map encF)], .val (.string s)] sh = some (.val (.int .i64 (fnIdx p.funcs s)), sh) := by
  have this : tab (r65 :: tl) 65 [.agg (encP p), .val (.string s)] sh = some (.val (.int .i64 (fnIdx p.funcs s)), sh) := tab_pure tl ((p, s) : (Pg) × (ByteArray)) sh
  simpa only [encE_eq, encS_eq, encF, encP] using this
theorem r65_skip (tl : List (Rule Tryd.prog G)) (f : FuncId) (args : List PV) (sh : Sh) (h : f ≠ 65) : tab (r65 :: tl) f args sh = tab tl f args sh := tab_skip _ tl f args sh h
end Go.Proofs.YtaackmiajgapoaaDoor.V
