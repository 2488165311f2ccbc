/- The law of expressions' types. -/
import Derived.Test.YtaackmiajgapoaaDoorD35
set_option maxRecDepth 100000
set_option maxHeartbeats 16000000
set_option linter.unusedSimpArgs false
set_option linter.unusedVariables false
namespace Go.Proofs.YtaackmiajgapoaaDoor.V
open Go
variable {G : Nat → Option (List PV)}

theorem lawExpr_c (hG : GOk G) (p : Pg) (e : Ex) : VPure Tryd.prog G 3 [.agg (encP p), .agg (encE e)] (.val (.bool true)) := by
  refine VPure.of (.val _) fun sh => ?_
  refine VCalls_enter [] Tryd.func3 rfl (show 2 ≤ 50 by decide) ?_
  obtain ⟨W, hW, hsW⟩ := pureRule (awake_c hG)
  obtain ⟨F, hF, hsF⟩ := pureRule (few_c (G := G) p 200)
  obtain ⟨R, hR, hsR⟩ := pureRule (right_c (G := G) p)
  obtain ⟨L, hL, hsL⟩ := pureRule (leftExprs_c (G := G) [e] 200 30)
  obtain ⟨E, hE, hsE⟩ := pureRule (show VPure Tryd.prog G 14 [.agg (encE e), .val (.int .i64 1)] (.val (.bool (rightE 1 e))) from rightExpr_c e 1)
  simp only [encP, encE_eq, List.map_cons, List.map_nil, List.append_nil] at hF hR hL hE
  simp only [encP]
  refine VWp_seq (vCode_sound (tab_ok [W, F, R, L, E]) _ _ _ ?_)
  simp only [Tryd.f3, go_sem, Nat.reduceEqDiff, Nat.reduceLT, Nat.reduceLeDiff, Nat.reduceAdd, Nat.reduceSub, Nat.reduceMul, Nat.reduceBEq, Nat.reduceBNe, Int.reduceEq, Int.reduceToNat, Int.reduceNeg, ↓reduceIte, reduceCtorEq, Nat.reduceDiv, Nat.reduceMod, Int.reduceLE, Int.reduceLT, Int.reduceSub, Int.reduceAdd]
  refine VWp_seq (vCode_sound (tab_ok [W, F, R, L, E]) _ _ _ ?_)
  simp only [Tryd.f3, go_sem, Nat.reduceEqDiff, Nat.reduceLT, Nat.reduceLeDiff, Nat.reduceAdd, Nat.reduceSub, Nat.reduceMul, Nat.reduceBEq, Nat.reduceBNe, Int.reduceEq, Int.reduceToNat, Int.reduceNeg, ↓reduceIte, reduceCtorEq, Nat.reduceDiv, Nat.reduceMod, Int.reduceLE, Int.reduceLT, Int.reduceSub, Int.reduceAdd, hW, hsW]
  refine VWp_seq (VWp_seq (VWp_known (tab_ok [W, F, R, L, E]) ?_))
  by_cases h1 : fewP p 200 = false
  · skip
    simp only [Tryd.f3, go_sem, Nat.reduceEqDiff, Nat.reduceLT, Nat.reduceLeDiff, Nat.reduceAdd, Nat.reduceSub, Nat.reduceMul, Nat.reduceBEq, Nat.reduceBNe, Int.reduceEq, Int.reduceToNat, Int.reduceNeg, ↓reduceIte, reduceCtorEq, Nat.reduceDiv, Nat.reduceMod, Int.reduceLE, Int.reduceLT, Int.reduceSub, Int.reduceAdd, vListK, hF, h1, hsW, hsF, hsR, hsL, hsE]
    refine vCode_sound (tab_ok [W]) _ _ _ ?_
    simp only [Tryd.f3, go_sem, Nat.reduceEqDiff, Nat.reduceLT, Nat.reduceLeDiff, Nat.reduceAdd, Nat.reduceSub, Nat.reduceMul, Nat.reduceBEq, Nat.reduceBNe, Int.reduceEq, Int.reduceToNat, Int.reduceNeg, ↓reduceIte, reduceCtorEq, Nat.reduceDiv, Nat.reduceMod, Int.reduceLE, Int.reduceLT, Int.reduceSub, Int.reduceAdd]
  rw [Bool.not_eq_false] at h1
  by_cases h2 : rightP p = false
  · skip
    simp only [Tryd.f3, go_sem, Nat.reduceEqDiff, Nat.reduceLT, Nat.reduceLeDiff, Nat.reduceAdd, Nat.reduceSub, Nat.reduceMul, Nat.reduceBEq, Nat.reduceBNe, Int.reduceEq, Int.reduceToNat, Int.reduceNeg, ↓reduceIte, reduceCtorEq, Nat.reduceDiv, Nat.reduceMod, Int.reduceLE, Int.reduceLT, Int.reduceSub, Int.reduceAdd, vListK, hF, h1, hR, h2, hsW, hsF, hsR, hsL, hsE]
    refine vCode_sound (tab_ok [W]) _ _ _ ?_
    simp only [Tryd.f3, go_sem, Nat.reduceEqDiff, Nat.reduceLT, Nat.reduceLeDiff, Nat.reduceAdd, Nat.reduceSub, Nat.reduceMul, Nat.reduceBEq, Nat.reduceBNe, Int.reduceEq, Int.reduceToNat, Int.reduceNeg, ↓reduceIte, reduceCtorEq, Nat.reduceDiv, Nat.reduceMod, Int.reduceLE, Int.reduceLT, Int.reduceSub, Int.reduceAdd]
  rw [Bool.not_eq_false] at h2
  by_cases h3 : leftEs [e] 200 30 < 0
  · simp only [Tryd.f3, go_sem, Nat.reduceEqDiff, Nat.reduceLT, Nat.reduceLeDiff, Nat.reduceAdd, Nat.reduceSub, Nat.reduceMul, Nat.reduceBEq, Nat.reduceBNe, Int.reduceEq, Int.reduceToNat, Int.reduceNeg, ↓reduceIte, reduceCtorEq, Nat.reduceDiv, Nat.reduceMod, Int.reduceLE, Int.reduceLT, Int.reduceSub, Int.reduceAdd, vListK, hF, h1, hR, h2, hL, h3, hsW, hsF, hsR, hsL, hsE]
    refine vCode_sound (tab_ok [W]) _ _ _ ?_
    simp only [Tryd.f3, go_sem, Nat.reduceEqDiff, Nat.reduceLT, Nat.reduceLeDiff, Nat.reduceAdd, Nat.reduceSub, Nat.reduceMul, Nat.reduceBEq, Nat.reduceBNe, Int.reduceEq, Int.reduceToNat, Int.reduceNeg, ↓reduceIte, reduceCtorEq, Nat.reduceDiv, Nat.reduceMod, Int.reduceLE, Int.reduceLT, Int.reduceSub, Int.reduceAdd]
  by_cases h4 : rightE 1 e = false
  · skip
    simp only [Tryd.f3, go_sem, Nat.reduceEqDiff, Nat.reduceLT, Nat.reduceLeDiff, Nat.reduceAdd, Nat.reduceSub, Nat.reduceMul, Nat.reduceBEq, Nat.reduceBNe, Int.reduceEq, Int.reduceToNat, Int.reduceNeg, ↓reduceIte, reduceCtorEq, Nat.reduceDiv, Nat.reduceMod, Int.reduceLE, Int.reduceLT, Int.reduceSub, Int.reduceAdd, vListK, hF, h1, hR, h2, hL, h3, hE, h4, hsW, hsF, hsR, hsL, hsE]
    refine vCode_sound (tab_ok [W]) _ _ _ ?_
    simp only [Tryd.f3, go_sem, Nat.reduceEqDiff, Nat.reduceLT, Nat.reduceLeDiff, Nat.reduceAdd, Nat.reduceSub, Nat.reduceMul, Nat.reduceBEq, Nat.reduceBNe, Int.reduceEq, Int.reduceToNat, Int.reduceNeg, ↓reduceIte, reduceCtorEq, Nat.reduceDiv, Nat.reduceMod, Int.reduceLE, Int.reduceLT, Int.reduceSub, Int.reduceAdd]
  rw [Bool.not_eq_false] at h4
  simp only [Tryd.f3, go_sem, Nat.reduceEqDiff, Nat.reduceLT, Nat.reduceLeDiff, Nat.reduceAdd, Nat.reduceSub, Nat.reduceMul, Nat.reduceBEq, Nat.reduceBNe, Int.reduceEq, Int.reduceToNat, Int.reduceNeg, ↓reduceIte, reduceCtorEq, Nat.reduceDiv, Nat.reduceMod, Int.reduceLE, Int.reduceLT, Int.reduceSub, Int.reduceAdd, vListK, hF, h1, hR, h2, hL, h3, hE, h4, hsW, hsF, hsR, hsL, hsE]
  obtain ⟨T, hT, hsT⟩ := pureRule (typExpr_c (G := G) p e (rightE_kd e 1 h4))
  obtain ⟨S, hS, hsS⟩ := pureRule (refExpr_c (G := G) p e)
  simp only [encP, encE_eq] at hT hS
  clear hF hR hL hE hsF hsR hsL hsE
  refine vCode_sound (tab_ok [T, S]) _ _ _ ?_
  simp only [Tryd.f3, go_sem, Nat.reduceEqDiff, Nat.reduceLT, Nat.reduceLeDiff, Nat.reduceAdd, Nat.reduceSub, Nat.reduceMul, Nat.reduceBEq, Nat.reduceBNe, Int.reduceEq, Int.reduceToNat, Int.reduceNeg, ↓reduceIte, reduceCtorEq, Nat.reduceDiv, Nat.reduceMod, Int.reduceLE, Int.reduceLT, Int.reduceSub, Int.reduceAdd]
  refine vCode_sound (tab_ok [T, S]) _ _ _ ?_
  simp only [Tryd.f3, go_sem, Nat.reduceEqDiff, Nat.reduceLT, Nat.reduceLeDiff, Nat.reduceAdd, Nat.reduceSub, Nat.reduceMul, Nat.reduceBEq, Nat.reduceBNe, Int.reduceEq, Int.reduceToNat, Int.reduceNeg, ↓reduceIte, reduceCtorEq, Nat.reduceDiv, Nat.reduceMod, Int.reduceLE, Int.reduceLT, Int.reduceSub, Int.reduceAdd, hT, hS, hsT, hsS]
  repeat (first | intro _ | refine And.intro (by (intros; first | omega | (simp only [Bool.or_eq_false_iff, Bool.or_eq_true, decide_eq_false_iff_not, beq_iff_eq, Bool.and_eq_true, decide_eq_true_eq, Bool.not_eq_true'] at *; omega) | simp_all)) ?_)
  done
end Go.Proofs.YtaackmiajgapoaaDoor.V
