/- Which expressions may be, by the program (syntax). -/
import Derived.Test.YtaackmiajgapoaaGreatDoorD22
set_option maxRecDepth 100000
set_option maxHeartbeats 16000000
set_option linter.unusedSimpArgs false
set_option linter.unusedVariables false
namespace Go.Proofs.YtaackmiajgapoaaGreatDoor.V
open Go
variable {G : Nat → Option (List PV)}

theorem nameB_empty (s : ByteArray) : decide (s = ⟨#[]⟩) = true → nameB s = false := by
  intro h
  have := (empty_iff s).1 (of_decide_eq_true h)
  unfold nameB
  rw [decide_eq_false (by omega)]; rfl
theorem exprForm_c (hG : GOk G) (e : Ex) : VPure Tryz.prog G 129 [.agg (encE e)] (.val (.bool (formE e.kind e.op e.num e.name e.kids.length))) := by
  obtain ⟨R, hR, hs⟩ := pureRule (name_c hG e.name)
  have hE := nameB_empty e.name
  refine VPure.of (.val _) fun sh => ?_
  refine VCalls_enter [] Tryz.func129 rfl (show 1 ≤ 91 by decide) ?_
  refine vCode_sound (tab_ok [R]) _ _ _ ?_
  have hkind : e.kind = 1 ∨ e.kind = 2 ∨ e.kind = 3 ∨ e.kind = 4 ∨ e.kind = 5 ∨ e.kind = 6 ∨ e.kind = 7 ∨ e.kind = 8 ∨ e.kind = 9 ∨ (¬ e.kind = 1 ∧ ¬ e.kind = 2 ∧ ¬ e.kind = 3 ∧ ¬ e.kind = 4 ∧ ¬ e.kind = 5 ∧ ¬ e.kind = 6 ∧ ¬ e.kind = 7 ∧ ¬ e.kind = 8 ∧ ¬ e.kind = 9) := by omega
  rcases hkind with hk | hk | hk | hk | hk | hk | hk | hk | hk | ⟨k1, k2, k3, k4, k5, k6, k7, k8, k9⟩
  · rw [hk]
    unfold formE namedE arityE
    simp only [Tryz.f129, go_sem, Nat.reduceEqDiff, Nat.reduceLT, Nat.reduceLeDiff, Nat.reduceAdd, Nat.reduceSub, Nat.reduceMul, Nat.reduceBEq, Nat.reduceBNe, Int.reduceEq, Int.reduceToNat, Int.reduceNeg, ↓reduceIte, reduceCtorEq, Nat.reduceDiv, Nat.reduceMod, Int.reduceLE, Int.reduceLT, Int.reduceSub, Int.reduceAdd, hk, hR]
    repeat (first | intro _ | refine And.intro (by (intros; first | omega | (simp only [Bool.or_eq_false_iff, Bool.or_eq_true, decide_eq_false_iff_not, beq_iff_eq, Bool.and_eq_true, decide_eq_true_eq, Bool.not_eq_true'] at *; omega) | simp_all)) ?_)
    refine if_intro _ rfl trivial (fun h1 => ?_) (fun h1 => ?_)
    · simp only [Tryz.f129, go_sem, Nat.reduceEqDiff, Nat.reduceLT, Nat.reduceLeDiff, Nat.reduceAdd, Nat.reduceSub, Nat.reduceMul, Nat.reduceBEq, Nat.reduceBNe, Int.reduceEq, Int.reduceToNat, Int.reduceNeg, ↓reduceIte, reduceCtorEq, Nat.reduceDiv, Nat.reduceMod, Int.reduceLE, Int.reduceLT, Int.reduceSub, Int.reduceAdd, hk]
      revert h1 hE
      generalize decide (e.op = 0) = y0
      generalize decide (e.num = 0) = y1
      generalize decide (e.name = ⟨#[]⟩) = y2
      generalize nameB e.name = y3
      generalize decide (e.kids.length = 0) = y4
      revert y0 y1 y2 y3 y4
      decide
    simp only [Tryz.f129, go_sem, Nat.reduceEqDiff, Nat.reduceLT, Nat.reduceLeDiff, Nat.reduceAdd, Nat.reduceSub, Nat.reduceMul, Nat.reduceBEq, Nat.reduceBNe, Int.reduceEq, Int.reduceToNat, Int.reduceNeg, ↓reduceIte, reduceCtorEq, Nat.reduceDiv, Nat.reduceMod, Int.reduceLE, Int.reduceLT, Int.reduceSub, Int.reduceAdd, hk, hR]
    repeat (first | intro _ | refine And.intro (by (intros; first | omega | (simp only [Bool.or_eq_false_iff, Bool.or_eq_true, decide_eq_false_iff_not, beq_iff_eq, Bool.and_eq_true, decide_eq_true_eq, Bool.not_eq_true'] at *; omega) | simp_all)) ?_)
    refine if_intro _ rfl trivial (fun h2 => ?_) (fun h2 => ?_)
    · simp only [Tryz.f129, go_sem, Nat.reduceEqDiff, Nat.reduceLT, Nat.reduceLeDiff, Nat.reduceAdd, Nat.reduceSub, Nat.reduceMul, Nat.reduceBEq, Nat.reduceBNe, Int.reduceEq, Int.reduceToNat, Int.reduceNeg, ↓reduceIte, reduceCtorEq, Nat.reduceDiv, Nat.reduceMod, Int.reduceLE, Int.reduceLT, Int.reduceSub, Int.reduceAdd, hk]
      revert h1 h2 hE
      generalize decide (e.op = 0) = y0
      generalize decide (e.num = 0) = y1
      generalize decide (e.name = ⟨#[]⟩) = y2
      generalize nameB e.name = y3
      generalize decide (e.kids.length = 0) = y4
      revert y0 y1 y2 y3 y4
      decide
    simp only [Tryz.f129, go_sem, Nat.reduceEqDiff, Nat.reduceLT, Nat.reduceLeDiff, Nat.reduceAdd, Nat.reduceSub, Nat.reduceMul, Nat.reduceBEq, Nat.reduceBNe, Int.reduceEq, Int.reduceToNat, Int.reduceNeg, ↓reduceIte, reduceCtorEq, Nat.reduceDiv, Nat.reduceMod, Int.reduceLE, Int.reduceLT, Int.reduceSub, Int.reduceAdd, hk, hR]
    repeat (first | intro _ | refine And.intro (by (intros; first | omega | (simp only [Bool.or_eq_false_iff, Bool.or_eq_true, decide_eq_false_iff_not, beq_iff_eq, Bool.and_eq_true, decide_eq_true_eq, Bool.not_eq_true'] at *; omega) | simp_all)) ?_)
    revert h1 h2 hE
    generalize decide (e.op = 0) = y0
    generalize decide (e.num = 0) = y1
    generalize decide (e.name = ⟨#[]⟩) = y2
    generalize nameB e.name = y3
    generalize decide (e.kids.length = 0) = y4
    revert y0 y1 y2 y3 y4
    decide
  · rw [hk]
    unfold formE namedE arityE
    simp only [Tryz.f129, go_sem, Nat.reduceEqDiff, Nat.reduceLT, Nat.reduceLeDiff, Nat.reduceAdd, Nat.reduceSub, Nat.reduceMul, Nat.reduceBEq, Nat.reduceBNe, Int.reduceEq, Int.reduceToNat, Int.reduceNeg, ↓reduceIte, reduceCtorEq, Nat.reduceDiv, Nat.reduceMod, Int.reduceLE, Int.reduceLT, Int.reduceSub, Int.reduceAdd, hk, hR]
    repeat (first | intro _ | refine And.intro (by (intros; first | omega | (simp only [Bool.or_eq_false_iff, Bool.or_eq_true, decide_eq_false_iff_not, beq_iff_eq, Bool.and_eq_true, decide_eq_true_eq, Bool.not_eq_true'] at *; omega) | simp_all)) ?_)
    refine if_intro _ rfl trivial (fun h1 => ?_) (fun h1 => ?_)
    · simp only [Tryz.f129, go_sem, Nat.reduceEqDiff, Nat.reduceLT, Nat.reduceLeDiff, Nat.reduceAdd, Nat.reduceSub, Nat.reduceMul, Nat.reduceBEq, Nat.reduceBNe, Int.reduceEq, Int.reduceToNat, Int.reduceNeg, ↓reduceIte, reduceCtorEq, Nat.reduceDiv, Nat.reduceMod, Int.reduceLE, Int.reduceLT, Int.reduceSub, Int.reduceAdd, hk]
      revert h1 hE
      generalize decide (e.op = 0) = y0
      generalize decide (e.num = 0) = y1
      generalize decide (e.name = ⟨#[]⟩) = y2
      generalize nameB e.name = y3
      generalize decide (e.kids.length = 0) = y4
      revert y0 y1 y2 y3 y4
      decide
    simp only [Tryz.f129, go_sem, Nat.reduceEqDiff, Nat.reduceLT, Nat.reduceLeDiff, Nat.reduceAdd, Nat.reduceSub, Nat.reduceMul, Nat.reduceBEq, Nat.reduceBNe, Int.reduceEq, Int.reduceToNat, Int.reduceNeg, ↓reduceIte, reduceCtorEq, Nat.reduceDiv, Nat.reduceMod, Int.reduceLE, Int.reduceLT, Int.reduceSub, Int.reduceAdd, hk, hR]
    repeat (first | intro _ | refine And.intro (by (intros; first | omega | (simp only [Bool.or_eq_false_iff, Bool.or_eq_true, decide_eq_false_iff_not, beq_iff_eq, Bool.and_eq_true, decide_eq_true_eq, Bool.not_eq_true'] at *; omega) | simp_all)) ?_)
    refine if_intro _ rfl trivial (fun h2 => ?_) (fun h2 => ?_)
    · simp only [Tryz.f129, go_sem, Nat.reduceEqDiff, Nat.reduceLT, Nat.reduceLeDiff, Nat.reduceAdd, Nat.reduceSub, Nat.reduceMul, Nat.reduceBEq, Nat.reduceBNe, Int.reduceEq, Int.reduceToNat, Int.reduceNeg, ↓reduceIte, reduceCtorEq, Nat.reduceDiv, Nat.reduceMod, Int.reduceLE, Int.reduceLT, Int.reduceSub, Int.reduceAdd, hk]
      revert h1 h2 hE
      generalize decide (e.op = 0) = y0
      generalize decide (e.num = 0) = y1
      generalize decide (e.name = ⟨#[]⟩) = y2
      generalize nameB e.name = y3
      generalize decide (e.kids.length = 0) = y4
      revert y0 y1 y2 y3 y4
      decide
    simp only [Tryz.f129, go_sem, Nat.reduceEqDiff, Nat.reduceLT, Nat.reduceLeDiff, Nat.reduceAdd, Nat.reduceSub, Nat.reduceMul, Nat.reduceBEq, Nat.reduceBNe, Int.reduceEq, Int.reduceToNat, Int.reduceNeg, ↓reduceIte, reduceCtorEq, Nat.reduceDiv, Nat.reduceMod, Int.reduceLE, Int.reduceLT, Int.reduceSub, Int.reduceAdd, hk, hR]
    repeat (first | intro _ | refine And.intro (by (intros; first | omega | (simp only [Bool.or_eq_false_iff, Bool.or_eq_true, decide_eq_false_iff_not, beq_iff_eq, Bool.and_eq_true, decide_eq_true_eq, Bool.not_eq_true'] at *; omega) | simp_all)) ?_)
    revert h1 h2 hE
    generalize decide (e.op = 0) = y0
    generalize decide (e.num = 0) = y1
    generalize decide (e.name = ⟨#[]⟩) = y2
    generalize nameB e.name = y3
    generalize decide (e.kids.length = 0) = y4
    revert y0 y1 y2 y3 y4
    decide
  · rw [hk]
    unfold formE namedE arityE
    simp only [Tryz.f129, go_sem, Nat.reduceEqDiff, Nat.reduceLT, Nat.reduceLeDiff, Nat.reduceAdd, Nat.reduceSub, Nat.reduceMul, Nat.reduceBEq, Nat.reduceBNe, Int.reduceEq, Int.reduceToNat, Int.reduceNeg, ↓reduceIte, reduceCtorEq, Nat.reduceDiv, Nat.reduceMod, Int.reduceLE, Int.reduceLT, Int.reduceSub, Int.reduceAdd, hk, hR]
    repeat (first | intro _ | refine And.intro (by (intros; first | omega | (simp only [Bool.or_eq_false_iff, Bool.or_eq_true, decide_eq_false_iff_not, beq_iff_eq, Bool.and_eq_true, decide_eq_true_eq, Bool.not_eq_true'] at *; omega) | simp_all)) ?_)
    refine if_intro _ rfl trivial (fun h1 => ?_) (fun h1 => ?_)
    · simp only [Tryz.f129, go_sem, Nat.reduceEqDiff, Nat.reduceLT, Nat.reduceLeDiff, Nat.reduceAdd, Nat.reduceSub, Nat.reduceMul, Nat.reduceBEq, Nat.reduceBNe, Int.reduceEq, Int.reduceToNat, Int.reduceNeg, ↓reduceIte, reduceCtorEq, Nat.reduceDiv, Nat.reduceMod, Int.reduceLE, Int.reduceLT, Int.reduceSub, Int.reduceAdd, hk]
      revert h1 hE
      generalize decide (e.op = 0) = y0
      generalize decide (e.num = 0) = y1
      generalize decide (e.name = ⟨#[]⟩) = y2
      generalize nameB e.name = y3
      generalize decide (e.kids.length = 1) = y4
      revert y0 y1 y2 y3 y4
      decide
    simp only [Tryz.f129, go_sem, Nat.reduceEqDiff, Nat.reduceLT, Nat.reduceLeDiff, Nat.reduceAdd, Nat.reduceSub, Nat.reduceMul, Nat.reduceBEq, Nat.reduceBNe, Int.reduceEq, Int.reduceToNat, Int.reduceNeg, ↓reduceIte, reduceCtorEq, Nat.reduceDiv, Nat.reduceMod, Int.reduceLE, Int.reduceLT, Int.reduceSub, Int.reduceAdd, hk, hR]
    repeat (first | intro _ | refine And.intro (by (intros; first | omega | (simp only [Bool.or_eq_false_iff, Bool.or_eq_true, decide_eq_false_iff_not, beq_iff_eq, Bool.and_eq_true, decide_eq_true_eq, Bool.not_eq_true'] at *; omega) | simp_all)) ?_)
    refine if_intro _ rfl trivial (fun h2 => ?_) (fun h2 => ?_)
    · simp only [Tryz.f129, go_sem, Nat.reduceEqDiff, Nat.reduceLT, Nat.reduceLeDiff, Nat.reduceAdd, Nat.reduceSub, Nat.reduceMul, Nat.reduceBEq, Nat.reduceBNe, Int.reduceEq, Int.reduceToNat, Int.reduceNeg, ↓reduceIte, reduceCtorEq, Nat.reduceDiv, Nat.reduceMod, Int.reduceLE, Int.reduceLT, Int.reduceSub, Int.reduceAdd, hk]
      revert h1 h2 hE
      generalize decide (e.op = 0) = y0
      generalize decide (e.num = 0) = y1
      generalize decide (e.name = ⟨#[]⟩) = y2
      generalize nameB e.name = y3
      generalize decide (e.kids.length = 1) = y4
      revert y0 y1 y2 y3 y4
      decide
    simp only [Tryz.f129, go_sem, Nat.reduceEqDiff, Nat.reduceLT, Nat.reduceLeDiff, Nat.reduceAdd, Nat.reduceSub, Nat.reduceMul, Nat.reduceBEq, Nat.reduceBNe, Int.reduceEq, Int.reduceToNat, Int.reduceNeg, ↓reduceIte, reduceCtorEq, Nat.reduceDiv, Nat.reduceMod, Int.reduceLE, Int.reduceLT, Int.reduceSub, Int.reduceAdd, hk, hR]
    repeat (first | intro _ | refine And.intro (by (intros; first | omega | (simp only [Bool.or_eq_false_iff, Bool.or_eq_true, decide_eq_false_iff_not, beq_iff_eq, Bool.and_eq_true, decide_eq_true_eq, Bool.not_eq_true'] at *; omega) | simp_all)) ?_)
    revert h1 h2 hE
    generalize decide (e.op = 0) = y0
    generalize decide (e.num = 0) = y1
    generalize decide (e.name = ⟨#[]⟩) = y2
    generalize nameB e.name = y3
    generalize decide (e.kids.length = 1) = y4
    revert y0 y1 y2 y3 y4
    decide
  · rw [hk]
    unfold formE namedE arityE
    simp only [Tryz.f129, go_sem, Nat.reduceEqDiff, Nat.reduceLT, Nat.reduceLeDiff, Nat.reduceAdd, Nat.reduceSub, Nat.reduceMul, Nat.reduceBEq, Nat.reduceBNe, Int.reduceEq, Int.reduceToNat, Int.reduceNeg, ↓reduceIte, reduceCtorEq, Nat.reduceDiv, Nat.reduceMod, Int.reduceLE, Int.reduceLT, Int.reduceSub, Int.reduceAdd, hk, hR]
    repeat (first | intro _ | refine And.intro (by (intros; first | omega | (simp only [Bool.or_eq_false_iff, Bool.or_eq_true, decide_eq_false_iff_not, beq_iff_eq, Bool.and_eq_true, decide_eq_true_eq, Bool.not_eq_true'] at *; omega) | simp_all)) ?_)
    refine if_intro _ rfl trivial (fun h1 => ?_) (fun h1 => ?_)
    · simp only [Tryz.f129, go_sem, Nat.reduceEqDiff, Nat.reduceLT, Nat.reduceLeDiff, Nat.reduceAdd, Nat.reduceSub, Nat.reduceMul, Nat.reduceBEq, Nat.reduceBNe, Int.reduceEq, Int.reduceToNat, Int.reduceNeg, ↓reduceIte, reduceCtorEq, Nat.reduceDiv, Nat.reduceMod, Int.reduceLE, Int.reduceLT, Int.reduceSub, Int.reduceAdd, hk]
      revert h1 hE
      generalize decide (e.op = 0) = y0
      generalize decide (e.num = 0) = y1
      generalize decide (e.name = ⟨#[]⟩) = y2
      generalize nameB e.name = y3
      generalize decide (e.kids.length ≤ 6) = y4
      revert y0 y1 y2 y3 y4
      decide
    simp only [Tryz.f129, go_sem, Nat.reduceEqDiff, Nat.reduceLT, Nat.reduceLeDiff, Nat.reduceAdd, Nat.reduceSub, Nat.reduceMul, Nat.reduceBEq, Nat.reduceBNe, Int.reduceEq, Int.reduceToNat, Int.reduceNeg, ↓reduceIte, reduceCtorEq, Nat.reduceDiv, Nat.reduceMod, Int.reduceLE, Int.reduceLT, Int.reduceSub, Int.reduceAdd, hk, hR]
    repeat (first | intro _ | refine And.intro (by (intros; first | omega | (simp only [Bool.or_eq_false_iff, Bool.or_eq_true, decide_eq_false_iff_not, beq_iff_eq, Bool.and_eq_true, decide_eq_true_eq, Bool.not_eq_true'] at *; omega) | simp_all)) ?_)
    refine if_intro _ rfl trivial (fun h2 => ?_) (fun h2 => ?_)
    · simp only [Tryz.f129, go_sem, Nat.reduceEqDiff, Nat.reduceLT, Nat.reduceLeDiff, Nat.reduceAdd, Nat.reduceSub, Nat.reduceMul, Nat.reduceBEq, Nat.reduceBNe, Int.reduceEq, Int.reduceToNat, Int.reduceNeg, ↓reduceIte, reduceCtorEq, Nat.reduceDiv, Nat.reduceMod, Int.reduceLE, Int.reduceLT, Int.reduceSub, Int.reduceAdd, hk]
      revert h1 h2 hE
      generalize decide (e.op = 0) = y0
      generalize decide (e.num = 0) = y1
      generalize decide (e.name = ⟨#[]⟩) = y2
      generalize nameB e.name = y3
      generalize decide (e.kids.length ≤ 6) = y4
      revert y0 y1 y2 y3 y4
      decide
    simp only [Tryz.f129, go_sem, Nat.reduceEqDiff, Nat.reduceLT, Nat.reduceLeDiff, Nat.reduceAdd, Nat.reduceSub, Nat.reduceMul, Nat.reduceBEq, Nat.reduceBNe, Int.reduceEq, Int.reduceToNat, Int.reduceNeg, ↓reduceIte, reduceCtorEq, Nat.reduceDiv, Nat.reduceMod, Int.reduceLE, Int.reduceLT, Int.reduceSub, Int.reduceAdd, hk, hR]
    repeat (first | intro _ | refine And.intro (by (intros; first | omega | (simp only [Bool.or_eq_false_iff, Bool.or_eq_true, decide_eq_false_iff_not, beq_iff_eq, Bool.and_eq_true, decide_eq_true_eq, Bool.not_eq_true'] at *; omega) | simp_all)) ?_)
    revert h1 h2 hE
    generalize decide (e.op = 0) = y0
    generalize decide (e.num = 0) = y1
    generalize decide (e.name = ⟨#[]⟩) = y2
    generalize nameB e.name = y3
    generalize decide (e.kids.length ≤ 6) = y4
    revert y0 y1 y2 y3 y4
    decide
  · rw [hk]
    unfold formE namedE arityE
    simp only [Tryz.f129, go_sem, Nat.reduceEqDiff, Nat.reduceLT, Nat.reduceLeDiff, Nat.reduceAdd, Nat.reduceSub, Nat.reduceMul, Nat.reduceBEq, Nat.reduceBNe, Int.reduceEq, Int.reduceToNat, Int.reduceNeg, ↓reduceIte, reduceCtorEq, Nat.reduceDiv, Nat.reduceMod, Int.reduceLE, Int.reduceLT, Int.reduceSub, Int.reduceAdd, hk, hR]
    repeat (first | intro _ | refine And.intro (by (intros; first | omega | (simp only [Bool.or_eq_false_iff, Bool.or_eq_true, decide_eq_false_iff_not, beq_iff_eq, Bool.and_eq_true, decide_eq_true_eq, Bool.not_eq_true'] at *; omega) | simp_all)) ?_)
    refine if_intro _ rfl trivial (fun h1 => ?_) (fun h1 => ?_)
    · simp only [Tryz.f129, go_sem, Nat.reduceEqDiff, Nat.reduceLT, Nat.reduceLeDiff, Nat.reduceAdd, Nat.reduceSub, Nat.reduceMul, Nat.reduceBEq, Nat.reduceBNe, Int.reduceEq, Int.reduceToNat, Int.reduceNeg, ↓reduceIte, reduceCtorEq, Nat.reduceDiv, Nat.reduceMod, Int.reduceLE, Int.reduceLT, Int.reduceSub, Int.reduceAdd, hk]
      revert h1 hE
      generalize decide (e.op = 0) = y0
      generalize decide (e.num = 0) = y1
      generalize decide (e.name = ⟨#[]⟩) = y2
      generalize nameB e.name = y3
      generalize decide (e.kids.length = 0) = y4
      revert y0 y1 y2 y3 y4
      decide
    simp only [Tryz.f129, go_sem, Nat.reduceEqDiff, Nat.reduceLT, Nat.reduceLeDiff, Nat.reduceAdd, Nat.reduceSub, Nat.reduceMul, Nat.reduceBEq, Nat.reduceBNe, Int.reduceEq, Int.reduceToNat, Int.reduceNeg, ↓reduceIte, reduceCtorEq, Nat.reduceDiv, Nat.reduceMod, Int.reduceLE, Int.reduceLT, Int.reduceSub, Int.reduceAdd, hk, hR]
    repeat (first | intro _ | refine And.intro (by (intros; first | omega | (simp only [Bool.or_eq_false_iff, Bool.or_eq_true, decide_eq_false_iff_not, beq_iff_eq, Bool.and_eq_true, decide_eq_true_eq, Bool.not_eq_true'] at *; omega) | simp_all)) ?_)
    refine if_intro _ rfl trivial (fun h2 => ?_) (fun h2 => ?_)
    · simp only [Tryz.f129, go_sem, Nat.reduceEqDiff, Nat.reduceLT, Nat.reduceLeDiff, Nat.reduceAdd, Nat.reduceSub, Nat.reduceMul, Nat.reduceBEq, Nat.reduceBNe, Int.reduceEq, Int.reduceToNat, Int.reduceNeg, ↓reduceIte, reduceCtorEq, Nat.reduceDiv, Nat.reduceMod, Int.reduceLE, Int.reduceLT, Int.reduceSub, Int.reduceAdd, hk]
      revert h1 h2 hE
      generalize decide (e.op = 0) = y0
      generalize decide (e.num = 0) = y1
      generalize decide (e.name = ⟨#[]⟩) = y2
      generalize nameB e.name = y3
      generalize decide (e.kids.length = 0) = y4
      revert y0 y1 y2 y3 y4
      decide
    simp only [Tryz.f129, go_sem, Nat.reduceEqDiff, Nat.reduceLT, Nat.reduceLeDiff, Nat.reduceAdd, Nat.reduceSub, Nat.reduceMul, Nat.reduceBEq, Nat.reduceBNe, Int.reduceEq, Int.reduceToNat, Int.reduceNeg, ↓reduceIte, reduceCtorEq, Nat.reduceDiv, Nat.reduceMod, Int.reduceLE, Int.reduceLT, Int.reduceSub, Int.reduceAdd, hk, hR]
    repeat (first | intro _ | refine And.intro (by (intros; first | omega | (simp only [Bool.or_eq_false_iff, Bool.or_eq_true, decide_eq_false_iff_not, beq_iff_eq, Bool.and_eq_true, decide_eq_true_eq, Bool.not_eq_true'] at *; omega) | simp_all)) ?_)
    revert h1 h2 hE
    generalize decide (e.op = 0) = y0
    generalize decide (e.num = 0) = y1
    generalize decide (e.name = ⟨#[]⟩) = y2
    generalize nameB e.name = y3
    generalize decide (e.kids.length = 0) = y4
    revert y0 y1 y2 y3 y4
    decide
  · rw [hk]
    unfold formE namedE arityE
    simp only [Tryz.f129, go_sem, Nat.reduceEqDiff, Nat.reduceLT, Nat.reduceLeDiff, Nat.reduceAdd, Nat.reduceSub, Nat.reduceMul, Nat.reduceBEq, Nat.reduceBNe, Int.reduceEq, Int.reduceToNat, Int.reduceNeg, ↓reduceIte, reduceCtorEq, Nat.reduceDiv, Nat.reduceMod, Int.reduceLE, Int.reduceLT, Int.reduceSub, Int.reduceAdd, hk, hR]
    repeat (first | intro _ | refine And.intro (by (intros; first | omega | (simp only [Bool.or_eq_false_iff, Bool.or_eq_true, decide_eq_false_iff_not, beq_iff_eq, Bool.and_eq_true, decide_eq_true_eq, Bool.not_eq_true'] at *; omega) | simp_all)) ?_)
    refine if_intro _ rfl trivial (fun h1 => ?_) (fun h1 => ?_)
    · simp only [Tryz.f129, go_sem, Nat.reduceEqDiff, Nat.reduceLT, Nat.reduceLeDiff, Nat.reduceAdd, Nat.reduceSub, Nat.reduceMul, Nat.reduceBEq, Nat.reduceBNe, Int.reduceEq, Int.reduceToNat, Int.reduceNeg, ↓reduceIte, reduceCtorEq, Nat.reduceDiv, Nat.reduceMod, Int.reduceLE, Int.reduceLT, Int.reduceSub, Int.reduceAdd, hk]
      revert h1 hE
      generalize decide (e.op = 0) = y0
      generalize decide (e.num = 0) = y1
      generalize decide (e.name = ⟨#[]⟩) = y2
      generalize nameB e.name = y3
      generalize decide (e.kids.length = 2) = y4
      generalize decide (4 ≤ e.op) = y5
      generalize decide (e.op ≤ 15) = y6
      revert y0 y1 y2 y3 y4 y5 y6
      decide
    simp only [Tryz.f129, go_sem, Nat.reduceEqDiff, Nat.reduceLT, Nat.reduceLeDiff, Nat.reduceAdd, Nat.reduceSub, Nat.reduceMul, Nat.reduceBEq, Nat.reduceBNe, Int.reduceEq, Int.reduceToNat, Int.reduceNeg, ↓reduceIte, reduceCtorEq, Nat.reduceDiv, Nat.reduceMod, Int.reduceLE, Int.reduceLT, Int.reduceSub, Int.reduceAdd, hk, hR]
    repeat (first | intro _ | refine And.intro (by (intros; first | omega | (simp only [Bool.or_eq_false_iff, Bool.or_eq_true, decide_eq_false_iff_not, beq_iff_eq, Bool.and_eq_true, decide_eq_true_eq, Bool.not_eq_true'] at *; omega) | simp_all)) ?_)
    refine if_intro _ rfl trivial (fun h2 => ?_) (fun h2 => ?_)
    · simp only [Tryz.f129, go_sem, Nat.reduceEqDiff, Nat.reduceLT, Nat.reduceLeDiff, Nat.reduceAdd, Nat.reduceSub, Nat.reduceMul, Nat.reduceBEq, Nat.reduceBNe, Int.reduceEq, Int.reduceToNat, Int.reduceNeg, ↓reduceIte, reduceCtorEq, Nat.reduceDiv, Nat.reduceMod, Int.reduceLE, Int.reduceLT, Int.reduceSub, Int.reduceAdd, hk]
      revert h1 h2 hE
      generalize decide (e.op = 0) = y0
      generalize decide (e.num = 0) = y1
      generalize decide (e.name = ⟨#[]⟩) = y2
      generalize nameB e.name = y3
      generalize decide (e.kids.length = 2) = y4
      generalize decide (4 ≤ e.op) = y5
      generalize decide (e.op ≤ 15) = y6
      revert y0 y1 y2 y3 y4 y5 y6
      decide
    simp only [Tryz.f129, go_sem, Nat.reduceEqDiff, Nat.reduceLT, Nat.reduceLeDiff, Nat.reduceAdd, Nat.reduceSub, Nat.reduceMul, Nat.reduceBEq, Nat.reduceBNe, Int.reduceEq, Int.reduceToNat, Int.reduceNeg, ↓reduceIte, reduceCtorEq, Nat.reduceDiv, Nat.reduceMod, Int.reduceLE, Int.reduceLT, Int.reduceSub, Int.reduceAdd, hk, hR]
    repeat (first | intro _ | refine And.intro (by (intros; first | omega | (simp only [Bool.or_eq_false_iff, Bool.or_eq_true, decide_eq_false_iff_not, beq_iff_eq, Bool.and_eq_true, decide_eq_true_eq, Bool.not_eq_true'] at *; omega) | simp_all)) ?_)
    revert h1 h2 hE
    generalize decide (e.op = 0) = y0
    generalize decide (e.num = 0) = y1
    generalize decide (e.name = ⟨#[]⟩) = y2
    generalize nameB e.name = y3
    generalize decide (e.kids.length = 2) = y4
    generalize decide (4 ≤ e.op) = y5
    generalize decide (e.op ≤ 15) = y6
    revert y0 y1 y2 y3 y4 y5 y6
    decide
  · rw [hk]
    unfold formE namedE arityE
    simp only [Tryz.f129, go_sem, Nat.reduceEqDiff, Nat.reduceLT, Nat.reduceLeDiff, Nat.reduceAdd, Nat.reduceSub, Nat.reduceMul, Nat.reduceBEq, Nat.reduceBNe, Int.reduceEq, Int.reduceToNat, Int.reduceNeg, ↓reduceIte, reduceCtorEq, Nat.reduceDiv, Nat.reduceMod, Int.reduceLE, Int.reduceLT, Int.reduceSub, Int.reduceAdd, hk, hR]
    repeat (first | intro _ | refine And.intro (by (intros; first | omega | (simp only [Bool.or_eq_false_iff, Bool.or_eq_true, decide_eq_false_iff_not, beq_iff_eq, Bool.and_eq_true, decide_eq_true_eq, Bool.not_eq_true'] at *; omega) | simp_all)) ?_)
    refine if_intro _ rfl trivial (fun h1 => ?_) (fun h1 => ?_)
    · simp only [Tryz.f129, go_sem, Nat.reduceEqDiff, Nat.reduceLT, Nat.reduceLeDiff, Nat.reduceAdd, Nat.reduceSub, Nat.reduceMul, Nat.reduceBEq, Nat.reduceBNe, Int.reduceEq, Int.reduceToNat, Int.reduceNeg, ↓reduceIte, reduceCtorEq, Nat.reduceDiv, Nat.reduceMod, Int.reduceLE, Int.reduceLT, Int.reduceSub, Int.reduceAdd, hk]
      revert h1 hE
      generalize decide (e.op = 0) = y0
      generalize decide (e.num = 0) = y1
      generalize decide (e.name = ⟨#[]⟩) = y2
      generalize nameB e.name = y3
      generalize decide (e.kids.length = 1) = y4
      revert y0 y1 y2 y3 y4
      decide
    simp only [Tryz.f129, go_sem, Nat.reduceEqDiff, Nat.reduceLT, Nat.reduceLeDiff, Nat.reduceAdd, Nat.reduceSub, Nat.reduceMul, Nat.reduceBEq, Nat.reduceBNe, Int.reduceEq, Int.reduceToNat, Int.reduceNeg, ↓reduceIte, reduceCtorEq, Nat.reduceDiv, Nat.reduceMod, Int.reduceLE, Int.reduceLT, Int.reduceSub, Int.reduceAdd, hk, hR]
    repeat (first | intro _ | refine And.intro (by (intros; first | omega | (simp only [Bool.or_eq_false_iff, Bool.or_eq_true, decide_eq_false_iff_not, beq_iff_eq, Bool.and_eq_true, decide_eq_true_eq, Bool.not_eq_true'] at *; omega) | simp_all)) ?_)
    refine if_intro _ rfl trivial (fun h2 => ?_) (fun h2 => ?_)
    · simp only [Tryz.f129, go_sem, Nat.reduceEqDiff, Nat.reduceLT, Nat.reduceLeDiff, Nat.reduceAdd, Nat.reduceSub, Nat.reduceMul, Nat.reduceBEq, Nat.reduceBNe, Int.reduceEq, Int.reduceToNat, Int.reduceNeg, ↓reduceIte, reduceCtorEq, Nat.reduceDiv, Nat.reduceMod, Int.reduceLE, Int.reduceLT, Int.reduceSub, Int.reduceAdd, hk]
      revert h1 h2 hE
      generalize decide (e.op = 0) = y0
      generalize decide (e.num = 0) = y1
      generalize decide (e.name = ⟨#[]⟩) = y2
      generalize nameB e.name = y3
      generalize decide (e.kids.length = 1) = y4
      revert y0 y1 y2 y3 y4
      decide
    simp only [Tryz.f129, go_sem, Nat.reduceEqDiff, Nat.reduceLT, Nat.reduceLeDiff, Nat.reduceAdd, Nat.reduceSub, Nat.reduceMul, Nat.reduceBEq, Nat.reduceBNe, Int.reduceEq, Int.reduceToNat, Int.reduceNeg, ↓reduceIte, reduceCtorEq, Nat.reduceDiv, Nat.reduceMod, Int.reduceLE, Int.reduceLT, Int.reduceSub, Int.reduceAdd, hk, hR]
    repeat (first | intro _ | refine And.intro (by (intros; first | omega | (simp only [Bool.or_eq_false_iff, Bool.or_eq_true, decide_eq_false_iff_not, beq_iff_eq, Bool.and_eq_true, decide_eq_true_eq, Bool.not_eq_true'] at *; omega) | simp_all)) ?_)
    revert h1 h2 hE
    generalize decide (e.op = 0) = y0
    generalize decide (e.num = 0) = y1
    generalize decide (e.name = ⟨#[]⟩) = y2
    generalize nameB e.name = y3
    generalize decide (e.kids.length = 1) = y4
    revert y0 y1 y2 y3 y4
    decide
  · rw [hk]
    unfold formE namedE arityE
    simp only [Tryz.f129, go_sem, Nat.reduceEqDiff, Nat.reduceLT, Nat.reduceLeDiff, Nat.reduceAdd, Nat.reduceSub, Nat.reduceMul, Nat.reduceBEq, Nat.reduceBNe, Int.reduceEq, Int.reduceToNat, Int.reduceNeg, ↓reduceIte, reduceCtorEq, Nat.reduceDiv, Nat.reduceMod, Int.reduceLE, Int.reduceLT, Int.reduceSub, Int.reduceAdd, hk, hR]
    repeat (first | intro _ | refine And.intro (by (intros; first | omega | (simp only [Bool.or_eq_false_iff, Bool.or_eq_true, decide_eq_false_iff_not, beq_iff_eq, Bool.and_eq_true, decide_eq_true_eq, Bool.not_eq_true'] at *; omega) | simp_all)) ?_)
    refine if_intro _ rfl trivial (fun h1 => ?_) (fun h1 => ?_)
    · simp only [Tryz.f129, go_sem, Nat.reduceEqDiff, Nat.reduceLT, Nat.reduceLeDiff, Nat.reduceAdd, Nat.reduceSub, Nat.reduceMul, Nat.reduceBEq, Nat.reduceBNe, Int.reduceEq, Int.reduceToNat, Int.reduceNeg, ↓reduceIte, reduceCtorEq, Nat.reduceDiv, Nat.reduceMod, Int.reduceLE, Int.reduceLT, Int.reduceSub, Int.reduceAdd, hk]
      revert h1 hE
      generalize decide (e.op = 0) = y0
      generalize decide (e.num = 0) = y1
      generalize decide (e.name = ⟨#[]⟩) = y2
      generalize nameB e.name = y3
      generalize decide (e.kids.length = 2) = y4
      revert y0 y1 y2 y3 y4
      decide
    simp only [Tryz.f129, go_sem, Nat.reduceEqDiff, Nat.reduceLT, Nat.reduceLeDiff, Nat.reduceAdd, Nat.reduceSub, Nat.reduceMul, Nat.reduceBEq, Nat.reduceBNe, Int.reduceEq, Int.reduceToNat, Int.reduceNeg, ↓reduceIte, reduceCtorEq, Nat.reduceDiv, Nat.reduceMod, Int.reduceLE, Int.reduceLT, Int.reduceSub, Int.reduceAdd, hk, hR]
    repeat (first | intro _ | refine And.intro (by (intros; first | omega | (simp only [Bool.or_eq_false_iff, Bool.or_eq_true, decide_eq_false_iff_not, beq_iff_eq, Bool.and_eq_true, decide_eq_true_eq, Bool.not_eq_true'] at *; omega) | simp_all)) ?_)
    refine if_intro _ rfl trivial (fun h2 => ?_) (fun h2 => ?_)
    · simp only [Tryz.f129, go_sem, Nat.reduceEqDiff, Nat.reduceLT, Nat.reduceLeDiff, Nat.reduceAdd, Nat.reduceSub, Nat.reduceMul, Nat.reduceBEq, Nat.reduceBNe, Int.reduceEq, Int.reduceToNat, Int.reduceNeg, ↓reduceIte, reduceCtorEq, Nat.reduceDiv, Nat.reduceMod, Int.reduceLE, Int.reduceLT, Int.reduceSub, Int.reduceAdd, hk]
      revert h1 h2 hE
      generalize decide (e.op = 0) = y0
      generalize decide (e.num = 0) = y1
      generalize decide (e.name = ⟨#[]⟩) = y2
      generalize nameB e.name = y3
      generalize decide (e.kids.length = 2) = y4
      revert y0 y1 y2 y3 y4
      decide
    simp only [Tryz.f129, go_sem, Nat.reduceEqDiff, Nat.reduceLT, Nat.reduceLeDiff, Nat.reduceAdd, Nat.reduceSub, Nat.reduceMul, Nat.reduceBEq, Nat.reduceBNe, Int.reduceEq, Int.reduceToNat, Int.reduceNeg, ↓reduceIte, reduceCtorEq, Nat.reduceDiv, Nat.reduceMod, Int.reduceLE, Int.reduceLT, Int.reduceSub, Int.reduceAdd, hk, hR]
    repeat (first | intro _ | refine And.intro (by (intros; first | omega | (simp only [Bool.or_eq_false_iff, Bool.or_eq_true, decide_eq_false_iff_not, beq_iff_eq, Bool.and_eq_true, decide_eq_true_eq, Bool.not_eq_true'] at *; omega) | simp_all)) ?_)
    revert h1 h2 hE
    generalize decide (e.op = 0) = y0
    generalize decide (e.num = 0) = y1
    generalize decide (e.name = ⟨#[]⟩) = y2
    generalize nameB e.name = y3
    generalize decide (e.kids.length = 2) = y4
    revert y0 y1 y2 y3 y4
    decide
  · rw [hk]
    unfold formE namedE arityE
    simp only [Tryz.f129, go_sem, Nat.reduceEqDiff, Nat.reduceLT, Nat.reduceLeDiff, Nat.reduceAdd, Nat.reduceSub, Nat.reduceMul, Nat.reduceBEq, Nat.reduceBNe, Int.reduceEq, Int.reduceToNat, Int.reduceNeg, ↓reduceIte, reduceCtorEq, Nat.reduceDiv, Nat.reduceMod, Int.reduceLE, Int.reduceLT, Int.reduceSub, Int.reduceAdd, hk, hR]
    repeat (first | intro _ | refine And.intro (by (intros; first | omega | (simp only [Bool.or_eq_false_iff, Bool.or_eq_true, decide_eq_false_iff_not, beq_iff_eq, Bool.and_eq_true, decide_eq_true_eq, Bool.not_eq_true'] at *; omega) | simp_all)) ?_)
    refine if_intro _ rfl trivial (fun h1 => ?_) (fun h1 => ?_)
    · simp only [Tryz.f129, go_sem, Nat.reduceEqDiff, Nat.reduceLT, Nat.reduceLeDiff, Nat.reduceAdd, Nat.reduceSub, Nat.reduceMul, Nat.reduceBEq, Nat.reduceBNe, Int.reduceEq, Int.reduceToNat, Int.reduceNeg, ↓reduceIte, reduceCtorEq, Nat.reduceDiv, Nat.reduceMod, Int.reduceLE, Int.reduceLT, Int.reduceSub, Int.reduceAdd, hk]
      revert h1 hE
      generalize decide (e.op = 0) = y0
      generalize decide (e.num = 0) = y1
      generalize decide (e.name = ⟨#[]⟩) = y2
      generalize nameB e.name = y3
      generalize decide (e.kids.length = 2) = y4
      revert y0 y1 y2 y3 y4
      decide
    simp only [Tryz.f129, go_sem, Nat.reduceEqDiff, Nat.reduceLT, Nat.reduceLeDiff, Nat.reduceAdd, Nat.reduceSub, Nat.reduceMul, Nat.reduceBEq, Nat.reduceBNe, Int.reduceEq, Int.reduceToNat, Int.reduceNeg, ↓reduceIte, reduceCtorEq, Nat.reduceDiv, Nat.reduceMod, Int.reduceLE, Int.reduceLT, Int.reduceSub, Int.reduceAdd, hk, hR]
    repeat (first | intro _ | refine And.intro (by (intros; first | omega | (simp only [Bool.or_eq_false_iff, Bool.or_eq_true, decide_eq_false_iff_not, beq_iff_eq, Bool.and_eq_true, decide_eq_true_eq, Bool.not_eq_true'] at *; omega) | simp_all)) ?_)
    refine if_intro _ rfl trivial (fun h2 => ?_) (fun h2 => ?_)
    · simp only [Tryz.f129, go_sem, Nat.reduceEqDiff, Nat.reduceLT, Nat.reduceLeDiff, Nat.reduceAdd, Nat.reduceSub, Nat.reduceMul, Nat.reduceBEq, Nat.reduceBNe, Int.reduceEq, Int.reduceToNat, Int.reduceNeg, ↓reduceIte, reduceCtorEq, Nat.reduceDiv, Nat.reduceMod, Int.reduceLE, Int.reduceLT, Int.reduceSub, Int.reduceAdd, hk]
      revert h1 h2 hE
      generalize decide (e.op = 0) = y0
      generalize decide (e.num = 0) = y1
      generalize decide (e.name = ⟨#[]⟩) = y2
      generalize nameB e.name = y3
      generalize decide (e.kids.length = 2) = y4
      revert y0 y1 y2 y3 y4
      decide
    simp only [Tryz.f129, go_sem, Nat.reduceEqDiff, Nat.reduceLT, Nat.reduceLeDiff, Nat.reduceAdd, Nat.reduceSub, Nat.reduceMul, Nat.reduceBEq, Nat.reduceBNe, Int.reduceEq, Int.reduceToNat, Int.reduceNeg, ↓reduceIte, reduceCtorEq, Nat.reduceDiv, Nat.reduceMod, Int.reduceLE, Int.reduceLT, Int.reduceSub, Int.reduceAdd, hk, hR]
    repeat (first | intro _ | refine And.intro (by (intros; first | omega | (simp only [Bool.or_eq_false_iff, Bool.or_eq_true, decide_eq_false_iff_not, beq_iff_eq, Bool.and_eq_true, decide_eq_true_eq, Bool.not_eq_true'] at *; omega) | simp_all)) ?_)
    revert h1 h2 hE
    generalize decide (e.op = 0) = y0
    generalize decide (e.num = 0) = y1
    generalize decide (e.name = ⟨#[]⟩) = y2
    generalize nameB e.name = y3
    generalize decide (e.kids.length = 2) = y4
    revert y0 y1 y2 y3 y4
    decide
  · unfold formE namedE arityE
    simp only [k1, k2, k3, k4, k5, k6, k7, k8, k9, decide_false, or_self, if_false]
    simp only [Tryz.f129, go_sem, Nat.reduceEqDiff, Nat.reduceLT, Nat.reduceLeDiff, Nat.reduceAdd, Nat.reduceSub, Nat.reduceMul, Nat.reduceBEq, Nat.reduceBNe, Int.reduceEq, Int.reduceToNat, Int.reduceNeg, ↓reduceIte, reduceCtorEq, Nat.reduceDiv, Nat.reduceMod, Int.reduceLE, Int.reduceLT, Int.reduceSub, Int.reduceAdd, k1, k2, k3, k4, k5, k6, k7, k8, k9, or_self, hR]
    repeat (first | intro _ | refine And.intro (by (intros; first | omega | (simp only [Bool.or_eq_false_iff, Bool.or_eq_true, decide_eq_false_iff_not, beq_iff_eq, Bool.and_eq_true, decide_eq_true_eq, Bool.not_eq_true'] at *; omega) | simp_all)) ?_)
    refine if_intro _ rfl trivial (fun h1 => ?_) (fun h1 => ?_)
    · simp only [Tryz.f129, go_sem, Nat.reduceEqDiff, Nat.reduceLT, Nat.reduceLeDiff, Nat.reduceAdd, Nat.reduceSub, Nat.reduceMul, Nat.reduceBEq, Nat.reduceBNe, Int.reduceEq, Int.reduceToNat, Int.reduceNeg, ↓reduceIte, reduceCtorEq, Nat.reduceDiv, Nat.reduceMod, Int.reduceLE, Int.reduceLT, Int.reduceSub, Int.reduceAdd, k1, k2, k3, k4, k5, k6, k7, k8, k9, or_self]
      revert h1 hE
      generalize decide (e.op = 0) = y0
      generalize decide (e.num = 0) = y1
      generalize decide (e.name = ⟨#[]⟩) = y2
      generalize nameB e.name = y3
      revert y0 y1 y2 y3
      decide
    simp only [Tryz.f129, go_sem, Nat.reduceEqDiff, Nat.reduceLT, Nat.reduceLeDiff, Nat.reduceAdd, Nat.reduceSub, Nat.reduceMul, Nat.reduceBEq, Nat.reduceBNe, Int.reduceEq, Int.reduceToNat, Int.reduceNeg, ↓reduceIte, reduceCtorEq, Nat.reduceDiv, Nat.reduceMod, Int.reduceLE, Int.reduceLT, Int.reduceSub, Int.reduceAdd, k1, k2, k3, k4, k5, k6, k7, k8, k9, or_self, hR]
    repeat (first | intro _ | refine And.intro (by (intros; first | omega | (simp only [Bool.or_eq_false_iff, Bool.or_eq_true, decide_eq_false_iff_not, beq_iff_eq, Bool.and_eq_true, decide_eq_true_eq, Bool.not_eq_true'] at *; omega) | simp_all)) ?_)
    refine if_intro _ rfl trivial (fun h2 => ?_) (fun h2 => ?_)
    · simp only [Tryz.f129, go_sem, Nat.reduceEqDiff, Nat.reduceLT, Nat.reduceLeDiff, Nat.reduceAdd, Nat.reduceSub, Nat.reduceMul, Nat.reduceBEq, Nat.reduceBNe, Int.reduceEq, Int.reduceToNat, Int.reduceNeg, ↓reduceIte, reduceCtorEq, Nat.reduceDiv, Nat.reduceMod, Int.reduceLE, Int.reduceLT, Int.reduceSub, Int.reduceAdd, k1, k2, k3, k4, k5, k6, k7, k8, k9, or_self]
      revert h1 h2 hE
      generalize decide (e.op = 0) = y0
      generalize decide (e.num = 0) = y1
      generalize decide (e.name = ⟨#[]⟩) = y2
      generalize nameB e.name = y3
      revert y0 y1 y2 y3
      decide
    simp only [Tryz.f129, go_sem, Nat.reduceEqDiff, Nat.reduceLT, Nat.reduceLeDiff, Nat.reduceAdd, Nat.reduceSub, Nat.reduceMul, Nat.reduceBEq, Nat.reduceBNe, Int.reduceEq, Int.reduceToNat, Int.reduceNeg, ↓reduceIte, reduceCtorEq, Nat.reduceDiv, Nat.reduceMod, Int.reduceLE, Int.reduceLT, Int.reduceSub, Int.reduceAdd, k1, k2, k3, k4, k5, k6, k7, k8, k9, or_self, hR]
    repeat (first | intro _ | refine And.intro (by (intros; first | omega | (simp only [Bool.or_eq_false_iff, Bool.or_eq_true, decide_eq_false_iff_not, beq_iff_eq, Bool.and_eq_true, decide_eq_true_eq, Bool.not_eq_true'] at *; omega) | simp_all)) ?_)
    revert h1 h2 hE
    generalize decide (e.op = 0) = y0
    generalize decide (e.num = 0) = y1
    generalize decide (e.name = ⟨#[]⟩) = y2
    generalize nameB e.name = y3
    revert y0 y1 y2 y3
    decide
end Go.Proofs.YtaackmiajgapoaaGreatDoor.V
