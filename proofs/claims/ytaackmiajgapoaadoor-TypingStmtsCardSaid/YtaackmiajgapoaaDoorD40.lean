/- The law of names, walked. -/
import Derived.Test.YtaackmiajgapoaaDoorD39
set_option maxRecDepth 100000
set_option maxHeartbeats 16000000
set_option linter.unusedSimpArgs false
set_option linter.unusedVariables false
namespace Go.Proofs.YtaackmiajgapoaaDoor.V
open Go
variable {G : Nat → Option (List PV)}

theorem lawNames_c (hG : GOk G) (p : Pg) (e : Ex) : VPure Tryd.prog G 7 [.agg (encP p), .agg (encE e)] (.val (.bool true)) := by
  refine VPure.of (.val _) fun sh => ?_
  refine VCalls_enter [] Tryd.func7 rfl (show 2 ≤ 51 by decide) ?_
  obtain ⟨W, hW, hsW⟩ := pureRule (awake_c hG)
  obtain ⟨F, hF, hsF⟩ := pureRule (few_c (G := G) p 100)
  obtain ⟨R, hR, hsR⟩ := pureRule (right_c (G := G) p)
  obtain ⟨L, hL, hsL⟩ := pureRule (leftExprs_c (G := G) [e] 100 20)
  obtain ⟨E, hE, hsE⟩ := pureRule (show VPure Tryd.prog G 14 [.agg (encE e), .val (.int .i64 1)] (.val (.bool (rightE 1 e))) from rightExpr_c e 1)
  simp only [encP, encE_eq, List.map_cons, List.map_nil] at hF hR hL hE
  simp only [encP]
  refine VWp_seq (vCode_sound (tab_ok [W, F, R, L, E]) _ _ _ ?_)
  simp only [Tryd.f7, go_sem, Nat.reduceEqDiff, Nat.reduceLT, Nat.reduceLeDiff, Nat.reduceAdd, Nat.reduceSub, Nat.reduceMul, Nat.reduceBEq, Nat.reduceBNe, Int.reduceEq, Int.reduceToNat, Int.reduceNeg, ↓reduceIte, reduceCtorEq, Nat.reduceDiv, Nat.reduceMod, Int.reduceLE, Int.reduceLT, Int.reduceSub, Int.reduceAdd]
  refine VWp_seq (vCode_sound (tab_ok [W, F, R, L, E]) _ _ _ ?_)
  simp only [Tryd.f7, go_sem, Nat.reduceEqDiff, Nat.reduceLT, Nat.reduceLeDiff, Nat.reduceAdd, Nat.reduceSub, Nat.reduceMul, Nat.reduceBEq, Nat.reduceBNe, Int.reduceEq, Int.reduceToNat, Int.reduceNeg, ↓reduceIte, reduceCtorEq, Nat.reduceDiv, Nat.reduceMod, Int.reduceLE, Int.reduceLT, Int.reduceSub, Int.reduceAdd, hW, hsW]
  refine VWp_seq (VWp_seq (VWp_known (tab_ok [W, F, R, L, E]) ?_))
  by_cases h1 : fewP p 100 = false
  · simp only [Tryd.f7, go_sem, Nat.reduceEqDiff, Nat.reduceLT, Nat.reduceLeDiff, Nat.reduceAdd, Nat.reduceSub, Nat.reduceMul, Nat.reduceBEq, Nat.reduceBNe, Int.reduceEq, Int.reduceToNat, Int.reduceNeg, ↓reduceIte, reduceCtorEq, Nat.reduceDiv, Nat.reduceMod, Int.reduceLE, Int.reduceLT, Int.reduceSub, Int.reduceAdd, vListK, hF, h1, hsW, hsF, hsR, hsL, hsE]
    refine vCode_sound (tab_ok [W]) _ _ _ ?_
    simp only [Tryd.f7, go_sem, Nat.reduceEqDiff, Nat.reduceLT, Nat.reduceLeDiff, Nat.reduceAdd, Nat.reduceSub, Nat.reduceMul, Nat.reduceBEq, Nat.reduceBNe, Int.reduceEq, Int.reduceToNat, Int.reduceNeg, ↓reduceIte, reduceCtorEq, Nat.reduceDiv, Nat.reduceMod, Int.reduceLE, Int.reduceLT, Int.reduceSub, Int.reduceAdd]
  rw [Bool.not_eq_false] at h1
  by_cases h2 : rightP p = false
  · simp only [Tryd.f7, go_sem, Nat.reduceEqDiff, Nat.reduceLT, Nat.reduceLeDiff, Nat.reduceAdd, Nat.reduceSub, Nat.reduceMul, Nat.reduceBEq, Nat.reduceBNe, Int.reduceEq, Int.reduceToNat, Int.reduceNeg, ↓reduceIte, reduceCtorEq, Nat.reduceDiv, Nat.reduceMod, Int.reduceLE, Int.reduceLT, Int.reduceSub, Int.reduceAdd, vListK, hF, h1, hR, h2, hsW, hsF, hsR, hsL, hsE]
    refine vCode_sound (tab_ok [W]) _ _ _ ?_
    simp only [Tryd.f7, go_sem, Nat.reduceEqDiff, Nat.reduceLT, Nat.reduceLeDiff, Nat.reduceAdd, Nat.reduceSub, Nat.reduceMul, Nat.reduceBEq, Nat.reduceBNe, Int.reduceEq, Int.reduceToNat, Int.reduceNeg, ↓reduceIte, reduceCtorEq, Nat.reduceDiv, Nat.reduceMod, Int.reduceLE, Int.reduceLT, Int.reduceSub, Int.reduceAdd]
  rw [Bool.not_eq_false] at h2
  by_cases h3 : leftEs [e] 100 20 < 0
  · simp only [Tryd.f7, go_sem, Nat.reduceEqDiff, Nat.reduceLT, Nat.reduceLeDiff, Nat.reduceAdd, Nat.reduceSub, Nat.reduceMul, Nat.reduceBEq, Nat.reduceBNe, Int.reduceEq, Int.reduceToNat, Int.reduceNeg, ↓reduceIte, reduceCtorEq, Nat.reduceDiv, Nat.reduceMod, Int.reduceLE, Int.reduceLT, Int.reduceSub, Int.reduceAdd, vListK, hF, h1, hR, h2, hL, h3, hsW, hsF, hsR, hsL, hsE]
    refine vCode_sound (tab_ok [W]) _ _ _ ?_
    simp only [Tryd.f7, go_sem, Nat.reduceEqDiff, Nat.reduceLT, Nat.reduceLeDiff, Nat.reduceAdd, Nat.reduceSub, Nat.reduceMul, Nat.reduceBEq, Nat.reduceBNe, Int.reduceEq, Int.reduceToNat, Int.reduceNeg, ↓reduceIte, reduceCtorEq, Nat.reduceDiv, Nat.reduceMod, Int.reduceLE, Int.reduceLT, Int.reduceSub, Int.reduceAdd]
  by_cases h4 : rightE 1 e = false
  · simp only [Tryd.f7, go_sem, Nat.reduceEqDiff, Nat.reduceLT, Nat.reduceLeDiff, Nat.reduceAdd, Nat.reduceSub, Nat.reduceMul, Nat.reduceBEq, Nat.reduceBNe, Int.reduceEq, Int.reduceToNat, Int.reduceNeg, ↓reduceIte, reduceCtorEq, Nat.reduceDiv, Nat.reduceMod, Int.reduceLE, Int.reduceLT, Int.reduceSub, Int.reduceAdd, vListK, hF, h1, hR, h2, hL, h3, hE, h4, hsW, hsF, hsR, hsL, hsE]
    refine vCode_sound (tab_ok [W]) _ _ _ ?_
    simp only [Tryd.f7, go_sem, Nat.reduceEqDiff, Nat.reduceLT, Nat.reduceLeDiff, Nat.reduceAdd, Nat.reduceSub, Nat.reduceMul, Nat.reduceBEq, Nat.reduceBNe, Int.reduceEq, Int.reduceToNat, Int.reduceNeg, ↓reduceIte, reduceCtorEq, Nat.reduceDiv, Nat.reduceMod, Int.reduceLE, Int.reduceLT, Int.reduceSub, Int.reduceAdd]
  rw [Bool.not_eq_false] at h4
  simp only [Tryd.f7, go_sem, Nat.reduceEqDiff, Nat.reduceLT, Nat.reduceLeDiff, Nat.reduceAdd, Nat.reduceSub, Nat.reduceMul, Nat.reduceBEq, Nat.reduceBNe, Int.reduceEq, Int.reduceToNat, Int.reduceNeg, ↓reduceIte, reduceCtorEq, Nat.reduceDiv, Nat.reduceMod, Int.reduceLE, Int.reduceLT, Int.reduceSub, Int.reduceAdd, vListK, hF, h1, hR, h2, hL, h3, hE, h4, hsW, hsF, hsR, hsL, hsE]
  clear hF hR hL hE hsF hsR hsL hsE
  refine vCode_sound (tab_ok [W]) _ _ _ ?_
  simp only [Tryd.f7, go_sem, Nat.reduceEqDiff, Nat.reduceLT, Nat.reduceLeDiff, Nat.reduceAdd, Nat.reduceSub, Nat.reduceMul, Nat.reduceBEq, Nat.reduceBNe, Int.reduceEq, Int.reduceToNat, Int.reduceNeg, ↓reduceIte, reduceCtorEq, Nat.reduceDiv, Nat.reduceMod, Int.reduceLE, Int.reduceLT, Int.reduceSub, Int.reduceAdd]
  have hkd := rightE_kd e 1 h4
  obtain ⟨B, hB, hsB⟩ := pureRule (renamed_c (G := G) e ⟨#[122, 122]⟩ 1 h4)
  obtain ⟨T, hT, hsT⟩ := typRule2 (G := G) p
  obtain ⟨x4, hx4⟩ : ∃ x, x = encE (renE ⟨#[122, 122]⟩ e) := ⟨_, rfl⟩
  have t0 := fun tl sh => hT tl e sh hkd
  have t4 : ∀ tl sh, tab (T :: tl) 15 [.agg (encP p), .agg x4] sh = some (.tup [.val (.int .i64 (refE p e).1), .val (.int .i64 (refE p e).2)], sh) := fun tl sh => by
    have := hT tl (renE ⟨#[122, 122]⟩ e) sh (by rw [renE_kd]; exact hkd)
    rw [renE_ref] at this
    rw [hx4]
    exact this
  rw [← hx4] at hB
  clear hT hx4
  simp only [encP, encE_eq] at hB t0 t4
  refine vCode_sound (tab_ok [B, T]) _ _ _ ?_
  simp only [Tryd.f7, go_sem, Nat.reduceEqDiff, Nat.reduceLT, Nat.reduceLeDiff, Nat.reduceAdd, Nat.reduceSub, Nat.reduceMul, Nat.reduceBEq, Nat.reduceBNe, Int.reduceEq, Int.reduceToNat, Int.reduceNeg, ↓reduceIte, reduceCtorEq, Nat.reduceDiv, Nat.reduceMod, Int.reduceLE, Int.reduceLT, Int.reduceSub, Int.reduceAdd, t0, t4, hB, hsB, hsT]
  refine draw_intro (tab_ok [B, T]) mixed [(true, 0), (true, 1), (false, 2), (false, 3), (true, 4), (true, 5), (true, 6), (true, 7), (true, 8)] rfl ?_
  simp only [Tryd.f7, go_sem, Nat.reduceEqDiff, Nat.reduceLT, Nat.reduceLeDiff, Nat.reduceAdd, Nat.reduceSub, Nat.reduceMul, Nat.reduceBEq, Nat.reduceBNe, Int.reduceEq, Int.reduceToNat, Int.reduceNeg, ↓reduceIte, reduceCtorEq, Nat.reduceDiv, Nat.reduceMod, Int.reduceLE, Int.reduceLT, Int.reduceSub, Int.reduceAdd, t0, t4, hB, hsB, hsT]
end Go.Proofs.YtaackmiajgapoaaDoor.V
