/- A function's own names (scope). -/
import Derived.Test.YtaackmiajgapoaaGreatDoorD26
set_option maxRecDepth 100000
set_option maxHeartbeats 16000000
set_option linter.unusedSimpArgs false
set_option linter.unusedVariables false
namespace Go.Proofs.YtaackmiajgapoaaGreatDoor.V
open Go
variable {G : Nat → Option (List PV)}

def encL (l : List ByteArray) : List PV := [.slice (encT l)]
/-- How many there are in the first lists. -/
def sumL (ll : List (List ByteArray)) (i : Nat) : Nat := (ll.take i).flatten.length
theorem flat_succ {ll : List (List ByteArray)} {i : Nat} (h : i < ll.length) : (ll.take (i + 1)).flatten = (ll.take i).flatten ++ elm ll i := by
  rw [List.take_add_one, List.getElem?_eq_getElem h, elm_eq h]
  show (ll.take i ++ [ll[i]]).flatten = _
  rw [List.flatten_append]
  simp
theorem sumL_succ {ll : List (List ByteArray)} {i : Nat} (h : i < ll.length) : sumL ll (i + 1) = sumL ll i + (elm ll i).length := by
  unfold sumL
  rw [flat_succ h, List.length_append]
theorem sumL_le {ll : List (List ByteArray)} {i : Nat} (h : i ≤ ll.length) : sumL ll i ≤ ll.flatten.length := by
  unfold sumL
  have h2 : ll.flatten = (ll.take i).flatten ++ (ll.drop i).flatten := by
    rw [← List.flatten_append, List.take_append_drop]
  rw [h2, List.length_append]
  omega
theorem concat_c (ll : List (List ByteArray)) (hl : ll.flatten.length * 16 ≤ 140737488355328) : VPure Tryz.prog G 132 [.slice (ll.map encL)] (.slice (encT ll.flatten)) := by
  refine VPure.of (.slice _) fun sh => ?_
  refine VCalls_enter [] Tryz.func132 rfl (show 1 ≤ 36 by decide) ?_
  refine VWp_seq (vCode_sound (tab_ok []) _ _ _ ?_)
  simp only [Tryz.f132, go_sem, Nat.reduceEqDiff, Nat.reduceLT, Nat.reduceLeDiff, Nat.reduceAdd, Nat.reduceSub, Nat.reduceMul, Nat.reduceBEq, Nat.reduceBNe, Int.reduceEq, Int.reduceToNat, Int.reduceNeg, ↓reduceIte, reduceCtorEq, Nat.reduceDiv, Nat.reduceMod, Int.reduceLE, Int.reduceLT, Int.reduceSub, Int.reduceAdd]
  refine VWp_seq (vCode_sound (tab_ok []) _ _ _ ?_)
  simp only [Tryz.f132, go_sem, Nat.reduceEqDiff, Nat.reduceLT, Nat.reduceLeDiff, Nat.reduceAdd, Nat.reduceSub, Nat.reduceMul, Nat.reduceBEq, Nat.reduceBNe, Int.reduceEq, Int.reduceToNat, Int.reduceNeg, ↓reduceIte, reduceCtorEq, Nat.reduceDiv, Nat.reduceMod, Int.reduceLE, Int.reduceLT, Int.reduceSub, Int.reduceAdd]
  refine VWp_seq (vCode_sound (tab_ok []) _ _ _ ?_)
  simp only [Tryz.f132, go_sem, Nat.reduceEqDiff, Nat.reduceLT, Nat.reduceLeDiff, Nat.reduceAdd, Nat.reduceSub, Nat.reduceMul, Nat.reduceBEq, Nat.reduceBNe, Int.reduceEq, Int.reduceToNat, Int.reduceNeg, ↓reduceIte, reduceCtorEq, Nat.reduceDiv, Nat.reduceMod, Int.reduceLE, Int.reduceLT, Int.reduceSub, Int.reduceAdd]
  repeat (first | intro _ | refine And.intro (by (intros; first | omega | (simp only [Bool.or_eq_false_iff, Bool.or_eq_true, decide_eq_false_iff_not, beq_iff_eq, Bool.and_eq_true, decide_eq_true_eq, Bool.not_eq_true'] at *; omega) | simp_all)) ?_)
  refine loop_intro (VWp_for [12, 13, 14, 5, 15, 16, 17, 18, 3, 19, 20, 21, 22, 11] (fun i : Nat => [(11, .val (.int .i64 i)), (3, .val (.int .i64 (sumL ll i)))]) [] (fun _ => []) [] (fun _ => []) (fun _ => sh)
    (fun i => i ≤ ll.length) (fun i => ll.length - i) 0 (Nat.zero_le _) (by refine ⟨rfl, rfl, rfl, .refl _ _, .refl _ _, .refl _ _, by repeat (first | trivial | rfl | refine ⟨?_, ?_⟩), by repeat (first | trivial | rfl | refine ⟨?_, ?_⟩), by repeat (first | trivial | rfl | refine ⟨?_, ?_⟩), by repeat (first | trivial | exact .inr rfl | exact .inl rfl | refine ⟨?_, ?_⟩), by repeat (first | trivial | exact .inr rfl | exact .inl rfl | refine ⟨?_, ?_⟩), by repeat (first | trivial | exact .inr rfl | exact .inl rfl | refine ⟨?_, ?_⟩), by repeat (first | trivial | exact .inr rfl | exact .inl rfl | refine ⟨?_, ?_⟩)⟩) ?_)
  rintro i hi
  have hsum := sumL_le hi
  refine vCode_sound (tab_ok []) _ _ _ ?_
  simp only [Tryz.f132, go_sem, Nat.reduceEqDiff, Nat.reduceLT, Nat.reduceLeDiff, Nat.reduceAdd, Nat.reduceSub, Nat.reduceMul, Nat.reduceBEq, Nat.reduceBNe, Int.reduceEq, Int.reduceToNat, Int.reduceNeg, ↓reduceIte, reduceCtorEq, Nat.reduceDiv, Nat.reduceMod, Int.reduceLE, Int.reduceLT, Int.reduceSub, Int.reduceAdd]
  repeat (first | intro _ | refine And.intro (by (intros; first | omega | (simp only [Bool.or_eq_false_iff, Bool.or_eq_true, decide_eq_false_iff_not, beq_iff_eq, Bool.and_eq_true, decide_eq_true_eq, Bool.not_eq_true'] at *; omega) | simp_all)) ?_)
  refine if_intro _ rfl trivial (fun h => ?_) (fun h => ?_)
  · simp only [decide_eq_true_eq, Int.ofNat_lt] at h
    have hw : IntKind.i64.wrap ((i : Int) + 1) = ((i + 1 : Nat) : Int) := by rw [wrap64_id (by omega) (by omega)]; rfl
    have hsum2 := sumL_le (show i + 1 ≤ ll.length by omega)
    have hws : IntKind.i64.wrap ((sumL ll i : Nat) + ((elm ll i).length : Nat) : Int) = ((sumL ll (i + 1) : Nat) : Int) := by rw [sumL_succ h] at hsum2 ⊢; rw [wrap64_id (by omega) (by omega)]; omega
    simp only [Tryz.f132, go_sem, Nat.reduceEqDiff, Nat.reduceLT, Nat.reduceLeDiff, Nat.reduceAdd, Nat.reduceSub, Nat.reduceMul, Nat.reduceBEq, Nat.reduceBNe, Int.reduceEq, Int.reduceToNat, Int.reduceNeg, ↓reduceIte, reduceCtorEq, Nat.reduceDiv, Nat.reduceMod, Int.reduceLE, Int.reduceLT, Int.reduceSub, Int.reduceAdd, h, encL, hws]
    repeat (first | intro _ | refine And.intro (by (intros; first | omega | (simp only [Bool.or_eq_false_iff, Bool.or_eq_true, decide_eq_false_iff_not, beq_iff_eq, Bool.and_eq_true, decide_eq_true_eq, Bool.not_eq_true'] at *; omega) | simp_all)) ?_)
    refine if_intro _ rfl trivial (fun h2 => ?_) (fun h2 => ?_)
    · simp only [decide_eq_true_eq] at h2
      omega
    · simp only [Tryz.f132, go_sem, Nat.reduceEqDiff, Nat.reduceLT, Nat.reduceLeDiff, Nat.reduceAdd, Nat.reduceSub, Nat.reduceMul, Nat.reduceBEq, Nat.reduceBNe, Int.reduceEq, Int.reduceToNat, Int.reduceNeg, ↓reduceIte, reduceCtorEq, Nat.reduceDiv, Nat.reduceMod, Int.reduceLE, Int.reduceLT, Int.reduceSub, Int.reduceAdd, hw]
      refine ⟨i + 1, h, by omega, ?_⟩
      refine ⟨rfl, rfl, rfl, by repeat (first | exact AgreeOff.refl _ _ | refine AgreeOff.upd rfl ?_ | refine AgreeOff.over rfl ?_), by repeat (first | exact AgreeOff.refl _ _ | refine AgreeOff.upd rfl ?_ | refine AgreeOff.over rfl ?_), by repeat (first | exact AgreeOff.refl _ _ | refine AgreeOff.upd rfl ?_ | refine AgreeOff.over rfl ?_), ?_, by repeat (first | trivial | exact .inr rfl | exact .inl rfl | refine ⟨?_, ?_⟩), by repeat (first | trivial | exact .inr rfl | exact .inl rfl | refine ⟨?_, ?_⟩), by repeat (first | trivial | exact .inr rfl | exact .inl rfl | refine ⟨?_, ?_⟩), by repeat (first | trivial | exact .inr rfl | exact .inl rfl | refine ⟨?_, ?_⟩), by repeat (first | trivial | exact .inr rfl | exact .inl rfl | refine ⟨?_, ?_⟩), by repeat (first | trivial | exact .inr rfl | exact .inl rfl | refine ⟨?_, ?_⟩)⟩
      exact ⟨rfl, rfl, trivial⟩
  simp only [decide_eq_false_iff_not, Int.ofNat_lt] at h
  simp only [Tryz.f132, go_sem, Nat.reduceEqDiff, Nat.reduceLT, Nat.reduceLeDiff, Nat.reduceAdd, Nat.reduceSub, Nat.reduceMul, Nat.reduceBEq, Nat.reduceBNe, Int.reduceEq, Int.reduceToNat, Int.reduceNeg, ↓reduceIte, reduceCtorEq, Nat.reduceDiv, Nat.reduceMod, Int.reduceLE, Int.reduceLT, Int.reduceSub, Int.reduceAdd]
  have hi' : i = ll.length := by omega
  have hall : sumL ll i = ll.flatten.length := by rw [hi']; unfold sumL; rw [List.take_length]
  rw [hall]
  have hgrow := grow_own (G := G) ll.flatten.length sh hl
  refine VWp_seq (VWp_own (tab_ok []) 1 rfl rfl rfl rfl rfl rfl [] 9 1 ?_)
  simp only [Tryz.f132, go_sem, Nat.reduceEqDiff, Nat.reduceLT, Nat.reduceLeDiff, Nat.reduceAdd, Nat.reduceSub, Nat.reduceMul, Nat.reduceBEq, Nat.reduceBNe, Int.reduceEq, Int.reduceToNat, Int.reduceNeg, ↓reduceIte, reduceCtorEq, Nat.reduceDiv, Nat.reduceMod, Int.reduceLE, Int.reduceLT, Int.reduceSub, Int.reduceAdd, ownK, hgrow]
  refine vCode_sound (tab_ok []) _ _ _ ?_
  simp only [Tryz.f132, go_sem, Nat.reduceEqDiff, Nat.reduceLT, Nat.reduceLeDiff, Nat.reduceAdd, Nat.reduceSub, Nat.reduceMul, Nat.reduceBEq, Nat.reduceBNe, Int.reduceEq, Int.reduceToNat, Int.reduceNeg, ↓reduceIte, reduceCtorEq, Nat.reduceDiv, Nat.reduceMod, Int.reduceLE, Int.reduceLT, Int.reduceSub, Int.reduceAdd]
  repeat (first | intro _ | refine And.intro (by (intros; first | omega | (simp only [Bool.or_eq_false_iff, Bool.or_eq_true, decide_eq_false_iff_not, beq_iff_eq, Bool.and_eq_true, decide_eq_true_eq, Bool.not_eq_true'] at *; omega) | simp_all)) ?_)
  clear hsum h hi' hall hi
  refine loop_intro (VWp_for [28, 29, 30, 8, 31, 32, 33, 6, 34, 27] (fun i : Nat => [(27, .val (.int .i64 i)), (6, .tsl 24 (sumL ll i))]) [] (fun _ => []) [24] (fun i => [(24, some ⟨encT (ll.take i).flatten, 9, 1, false⟩)]) (fun _ => sh)
    (fun i => i ≤ ll.length) (fun i => ll.length - i) 0 (Nat.zero_le _) (by refine ⟨rfl, rfl, rfl, .refl _ _, .refl _ _, .refl _ _, by repeat (first | trivial | rfl | refine ⟨?_, ?_⟩), by repeat (first | trivial | rfl | refine ⟨?_, ?_⟩), by repeat (first | trivial | rfl | refine ⟨?_, ?_⟩), by repeat (first | trivial | exact .inr rfl | exact .inl rfl | refine ⟨?_, ?_⟩), by repeat (first | trivial | exact .inr rfl | exact .inl rfl | refine ⟨?_, ?_⟩), by repeat (first | trivial | exact .inr rfl | exact .inl rfl | refine ⟨?_, ?_⟩), by repeat (first | trivial | exact .inr rfl | exact .inl rfl | refine ⟨?_, ?_⟩)⟩) ?_)
  rintro i hi
  have hsum := sumL_le hi
  have hel : (encT (ll.take i).flatten).length = sumL ll i := encT_length _
  refine vCode_sound (tab_ok []) _ _ _ ?_
  simp only [Tryz.f132, go_sem, Nat.reduceEqDiff, Nat.reduceLT, Nat.reduceLeDiff, Nat.reduceAdd, Nat.reduceSub, Nat.reduceMul, Nat.reduceBEq, Nat.reduceBNe, Int.reduceEq, Int.reduceToNat, Int.reduceNeg, ↓reduceIte, reduceCtorEq, Nat.reduceDiv, Nat.reduceMod, Int.reduceLE, Int.reduceLT, Int.reduceSub, Int.reduceAdd]
  repeat (first | intro _ | refine And.intro (by (intros; first | omega | (simp only [Bool.or_eq_false_iff, Bool.or_eq_true, decide_eq_false_iff_not, beq_iff_eq, Bool.and_eq_true, decide_eq_true_eq, Bool.not_eq_true'] at *; omega) | simp_all)) ?_)
  refine if_intro _ rfl trivial (fun h => ?_) (fun h => ?_)
  · simp only [decide_eq_true_eq, Int.ofNat_lt] at h
    have hw : IntKind.i64.wrap ((i : Int) + 1) = ((i + 1 : Nat) : Int) := by rw [wrap64_id (by omega) (by omega)]; rfl
    have hsum2 := sumL_le (show i + 1 ≤ ll.length by omega)
    rw [sumL_succ h] at hsum2
    have hone : ∀ e ∈ encT (elm ll i), e.length = 1 := by
      intro e he
      obtain ⟨s, _, rfl⟩ := List.mem_map.1 he
      rfl
    have hb1 : (sumL ll i + (elm ll i).length) * 16 ≤ 140737488355328 := by omega
    have hb2 : sumL ll i + (elm ll i).length ≤ 9223372036854775807 := by omega
    simp only [Tryz.f132, go_sem, Nat.reduceEqDiff, Nat.reduceLT, Nat.reduceLeDiff, Nat.reduceAdd, Nat.reduceSub, Nat.reduceMul, Nat.reduceBEq, Nat.reduceBNe, Int.reduceEq, Int.reduceToNat, Int.reduceNeg, ↓reduceIte, reduceCtorEq, Nat.reduceDiv, Nat.reduceMod, Int.reduceLE, Int.reduceLT, Int.reduceSub, Int.reduceAdd, h, encL, hw, vAppend, cv, asSlice, appendPre, hel, encT_length]
    repeat (first | intro _ | refine And.intro (by (intros; first | omega | (simp only [Bool.or_eq_false_iff, Bool.or_eq_true, decide_eq_false_iff_not, beq_iff_eq, Bool.and_eq_true, decide_eq_true_eq, Bool.not_eq_true'] at *; omega) | simp_all)) ?_)
    refine ⟨i + 1, h, by omega, ?_⟩
    refine ⟨rfl, rfl, rfl, by repeat (first | exact AgreeOff.refl _ _ | refine AgreeOff.upd rfl ?_ | refine AgreeOff.over rfl ?_), by repeat (first | exact AgreeOff.refl _ _ | refine AgreeOff.upd rfl ?_ | refine AgreeOff.over rfl ?_), by repeat (first | exact AgreeOff.refl _ _ | refine AgreeOff.upd rfl ?_ | refine AgreeOff.over rfl ?_), ?_, by repeat (first | trivial | exact .inr rfl | exact .inl rfl | refine ⟨?_, ?_⟩), ?_, by repeat (first | trivial | exact .inr rfl | exact .inl rfl | refine ⟨?_, ?_⟩), by repeat (first | trivial | exact .inr rfl | exact .inl rfl | refine ⟨?_, ?_⟩), by repeat (first | trivial | exact .inr rfl | exact .inl rfl | refine ⟨?_, ?_⟩), by repeat (first | trivial | exact .inr rfl | exact .inl rfl | refine ⟨?_, ?_⟩)⟩
    · refine ⟨rfl, ?_, trivial⟩
      rw [sumL_succ h]
      rfl
    · refine ⟨?_, trivial⟩
      rw [flat_succ h]
      show some (Chain.mk (encT (ll.take i).flatten ++ encT (elm ll i)) 9 1 false) = _
      unfold encT
      rw [List.map_append]
  simp only [decide_eq_false_iff_not, Int.ofNat_lt] at h
  simp only [Tryz.f132, go_sem, Nat.reduceEqDiff, Nat.reduceLT, Nat.reduceLeDiff, Nat.reduceAdd, Nat.reduceSub, Nat.reduceMul, Nat.reduceBEq, Nat.reduceBNe, Int.reduceEq, Int.reduceToNat, Int.reduceNeg, ↓reduceIte, reduceCtorEq, Nat.reduceDiv, Nat.reduceMod, Int.reduceLE, Int.reduceLT, Int.reduceSub, Int.reduceAdd]
  have hi' : i = ll.length := by omega
  rw [hi', List.take_length]
  exact ⟨by unfold sumL; rw [List.take_length], rfl⟩

theorem own_c (f : Fn) (hl : (f.params.length + f.locals.length) * 16 ≤ 140737488355328) : VPure Tryz.prog G 92 [.agg (encF f)] (.slice (encT (f.params ++ f.locals))) := by
  obtain ⟨R, hR, hs⟩ := pureRule (concat_c (G := G) [f.params, f.locals] (by simpa using hl))
  refine VPure.of (.slice _) fun sh => ?_
  refine VCalls_enter [] Tryz.func92 rfl (show 1 ≤ 9 by decide) ?_
  refine vCode_sound (tab_ok [R]) _ _ _ ?_
  have e1 : [f.params, f.locals].flatten = f.params ++ f.locals := by simp
  rw [e1] at hR
  simp only [List.map_cons, List.map_nil, encL] at hR
  simp only [Tryz.f92, go_sem, Nat.reduceEqDiff, Nat.reduceLT, Nat.reduceLeDiff, Nat.reduceAdd, Nat.reduceSub, Nat.reduceMul, Nat.reduceBEq, Nat.reduceBNe, Int.reduceEq, Int.reduceToNat, Int.reduceNeg, ↓reduceIte, reduceCtorEq, Nat.reduceDiv, Nat.reduceMod, Int.reduceLE, Int.reduceLT, Int.reduceSub, Int.reduceAdd, hR]
end Go.Proofs.YtaackmiajgapoaaGreatDoor.V
