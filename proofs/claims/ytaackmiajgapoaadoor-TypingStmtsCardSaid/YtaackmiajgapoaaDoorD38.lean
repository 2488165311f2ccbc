/- The law of kinds. -/
import Derived.Test.YtaackmiajgapoaaDoorD37
set_option maxRecDepth 100000
set_option maxHeartbeats 16000000
set_option linter.unusedSimpArgs false
set_option linter.unusedVariables false
namespace Go.Proofs.YtaackmiajgapoaaDoor.V
open Go
variable {G : Nat → Option (List PV)}

theorem tyE_cases (p : Pg) (e : Ex) : tyE p e = 0 ∨ tyE p e = 1 ∨ tyE p e = 2 := by
  rw [tyE_eq]
  repeat' split
  all_goals simp
theorem knE_both (p : Pg) (k o : Int) (e : Ex) (hk : k ≠ 4) : knE p (bothE k o e e) = knE p e := by
  simp [bothE, knE, knEs, hk]
theorem knE_not (p : Pg) (e : Ex) : knE p (notE e) = knE p e := by
  simp [notE, knE, knEs]
theorem tyE_both6 (p : Pg) (o : Int) (e : Ex) : tyE p (bothE 6 o e e) = if tyE p e = 1 then (if o = 14 ∨ o = 15 then 2 else 1) else 0 := by
  simp [bothE, tyE, tyAll]
theorem tyE_both8 (p : Pg) (e : Ex) : tyE p (bothE 8 0 e e) = if tyE p e = 2 then 2 else 0 := by
  simp [bothE, tyE, tyAll]
theorem tyE_not (p : Pg) (e : Ex) : tyE p (notE e) = if tyE p e = 2 then 2 else 0 := by
  simp [notE, tyE, tyAll]
theorem kinds_vals (p : Pg) (e : Ex) :
    (∃ c : Int, c ≠ 0 ∧ refE p e = (0, c) ∧ refE p (bothE 6 4 e e) = (0, c) ∧ refE p (notE e) = (0, c)) ∨
    (refE p e = (1, 0) ∧ refE p (bothE 6 4 e e) = (1, 0) ∧ refE p (bothE 6 14 e e) = (2, 0) ∧ refE p (notE e) = (0, 5) ∧ refE p (bothE 8 0 e e) = (0, 5)) ∨
    (refE p e = (2, 0) ∧ refE p (bothE 6 4 e e) = (0, 5) ∧ refE p (bothE 6 14 e e) = (0, 5) ∧ refE p (notE e) = (2, 0) ∧ refE p (bothE 8 0 e e) = (2, 0)) := by
  unfold refE
  rw [knE_both p 6 4 e (by decide), knE_both p 6 14 e (by decide), knE_both p 8 0 e (by decide), knE_not, tyE_both6, tyE_both6, tyE_both8, tyE_not]
  by_cases hk : knE p e = true
  · simp only [hk, if_true]
    rcases tyE_cases p e with h | h | h
    · refine .inl ⟨5, by decide, ?_⟩
      simp [h]
    · refine .inr (.inl ?_)
      simp [h]
    · refine .inr (.inr ?_)
      simp [h]
  · rw [Bool.not_eq_true] at hk
    exact .inl ⟨4, by decide, by simp [hk], by simp [hk], by simp [hk]⟩
theorem kd_both {k o : Int} {e : Ex} (hk : kdK k 2 = true) (h : kdE e = true) : kdE (bothE k o e e) = true := by
  simp [bothE, kdE, kdEs, h, hk]
theorem kd_not {e : Ex} (h : kdE e = true) : kdE (notE e) = true := by
  simp [notE, kdE, kdEs, h, kdK]

theorem bothRule2 : ∃ R : Rule Tryd.prog G, (∀ tl k o a b sh, tab (R :: tl) 19 [.val (.int .i64 k), .val (.int .i64 o), .agg (encE a), .agg (encE b)] sh = some (.agg (encE (bothE k o a b)), sh)) ∧ ∀ tl g args sh, g ≠ 19 → tab (R :: tl) g args sh = tab tl g args sh := by
  obtain ⟨R, h1, h2⟩ := mkRule (P := Tryd.prog) (G := G) 19 (Int × Int × Ex × Ex) (fun x => [.val (.int .i64 x.1), .val (.int .i64 x.2.1), .agg (encE x.2.2.1), .agg (encE x.2.2.2)]) (fun x => .agg (encE (bothE x.1 x.2.1 x.2.2.1 x.2.2.2))) (fun _ => True)
    (by rintro ⟨a, b, c, d⟩ ⟨a', b', c', d'⟩ h; simp only [List.cons.injEq, PV.agg.injEq, PV.val.injEq, Value.int.injEq, encE_iff, true_and, and_true] at h; obtain ⟨rfl, rfl, rfl, rfl⟩ := h; rfl)
    (fun x _ => both_c _ _ _ _)
  exact ⟨R, fun tl k o a b sh => h1 tl (k, o, a, b) sh trivial, h2⟩
theorem typRule2 (p : Pg) : ∃ R : Rule Tryd.prog G, (∀ tl e sh, kdE e = true → tab (R :: tl) 15 [.agg (encP p), .agg (encE e)] sh = some (.tup [.val (.int .i64 (refE p e).1), .val (.int .i64 (refE p e).2)], sh)) ∧ ∀ tl g args sh, g ≠ 15 → tab (R :: tl) g args sh = tab tl g args sh := by
  obtain ⟨R, h1, h2⟩ := mkRule (P := Tryd.prog) (G := G) 15 Ex (fun x => [.agg (encP p), .agg (encE x)]) (fun x => .tup [.val (.int .i64 (refE p x).1), .val (.int .i64 (refE p x).2)]) (fun x => kdE x = true)
    (by intro a b h; simp only [List.cons.injEq, PV.agg.injEq, encE_iff, true_and, and_true] at h; rw [h])
    (fun x h => typExpr_c _ _ h)
  exact ⟨R, fun tl e sh h => h1 tl e sh h, h2⟩

theorem lawKinds_c (hG : GOk G) (p : Pg) (e : Ex) : VPure Tryd.prog G 5 [.agg (encP p), .agg (encE e)] (.val (.bool true)) := by
  refine VPure.of (.val _) fun sh => ?_
  refine VCalls_enter [] Tryd.func5 rfl (show 2 ≤ 160 by decide) ?_
  obtain ⟨W, hW, hsW⟩ := pureRule (awake_c hG)
  obtain ⟨F, hF, hsF⟩ := pureRule (few_c (G := G) p 100)
  obtain ⟨R, hR, hsR⟩ := pureRule (right_c (G := G) p)
  obtain ⟨L, hL, hsL⟩ := pureRule (leftExprs_c (G := G) [e] 100 20)
  obtain ⟨E, hE, hsE⟩ := pureRule (show VPure Tryd.prog G 14 [.agg (encE e), .val (.int .i64 4)] (.val (.bool (rightE 4 e))) from rightExpr_c e 4)
  simp only [encP, encE_eq, List.map_cons, List.map_nil] at hF hR hL hE
  simp only [encP]
  refine VWp_seq (vCode_sound (tab_ok [W, F, R, L, E]) _ _ _ ?_)
  simp only [Tryd.f5, go_sem, Nat.reduceEqDiff, Nat.reduceLT, Nat.reduceLeDiff, Nat.reduceAdd, Nat.reduceSub, Nat.reduceMul, Nat.reduceBEq, Nat.reduceBNe, Int.reduceEq, Int.reduceToNat, Int.reduceNeg, ↓reduceIte, reduceCtorEq, Nat.reduceDiv, Nat.reduceMod, Int.reduceLE, Int.reduceLT, Int.reduceSub, Int.reduceAdd]
  refine VWp_seq (vCode_sound (tab_ok [W, F, R, L, E]) _ _ _ ?_)
  simp only [Tryd.f5, go_sem, Nat.reduceEqDiff, Nat.reduceLT, Nat.reduceLeDiff, Nat.reduceAdd, Nat.reduceSub, Nat.reduceMul, Nat.reduceBEq, Nat.reduceBNe, Int.reduceEq, Int.reduceToNat, Int.reduceNeg, ↓reduceIte, reduceCtorEq, Nat.reduceDiv, Nat.reduceMod, Int.reduceLE, Int.reduceLT, Int.reduceSub, Int.reduceAdd, hW, hsW]
  refine VWp_seq (VWp_seq (VWp_known (tab_ok [W, F, R, L, E]) ?_))
  by_cases h1 : fewP p 100 = false
  · simp only [Tryd.f5, go_sem, Nat.reduceEqDiff, Nat.reduceLT, Nat.reduceLeDiff, Nat.reduceAdd, Nat.reduceSub, Nat.reduceMul, Nat.reduceBEq, Nat.reduceBNe, Int.reduceEq, Int.reduceToNat, Int.reduceNeg, ↓reduceIte, reduceCtorEq, Nat.reduceDiv, Nat.reduceMod, Int.reduceLE, Int.reduceLT, Int.reduceSub, Int.reduceAdd, vListK, hF, h1, hsW, hsF, hsR, hsL, hsE]
    refine vCode_sound (tab_ok [W]) _ _ _ ?_
    simp only [Tryd.f5, go_sem, Nat.reduceEqDiff, Nat.reduceLT, Nat.reduceLeDiff, Nat.reduceAdd, Nat.reduceSub, Nat.reduceMul, Nat.reduceBEq, Nat.reduceBNe, Int.reduceEq, Int.reduceToNat, Int.reduceNeg, ↓reduceIte, reduceCtorEq, Nat.reduceDiv, Nat.reduceMod, Int.reduceLE, Int.reduceLT, Int.reduceSub, Int.reduceAdd]
  rw [Bool.not_eq_false] at h1
  by_cases h2 : rightP p = false
  · simp only [Tryd.f5, go_sem, Nat.reduceEqDiff, Nat.reduceLT, Nat.reduceLeDiff, Nat.reduceAdd, Nat.reduceSub, Nat.reduceMul, Nat.reduceBEq, Nat.reduceBNe, Int.reduceEq, Int.reduceToNat, Int.reduceNeg, ↓reduceIte, reduceCtorEq, Nat.reduceDiv, Nat.reduceMod, Int.reduceLE, Int.reduceLT, Int.reduceSub, Int.reduceAdd, vListK, hF, h1, hR, h2, hsW, hsF, hsR, hsL, hsE]
    refine vCode_sound (tab_ok [W]) _ _ _ ?_
    simp only [Tryd.f5, go_sem, Nat.reduceEqDiff, Nat.reduceLT, Nat.reduceLeDiff, Nat.reduceAdd, Nat.reduceSub, Nat.reduceMul, Nat.reduceBEq, Nat.reduceBNe, Int.reduceEq, Int.reduceToNat, Int.reduceNeg, ↓reduceIte, reduceCtorEq, Nat.reduceDiv, Nat.reduceMod, Int.reduceLE, Int.reduceLT, Int.reduceSub, Int.reduceAdd]
  rw [Bool.not_eq_false] at h2
  by_cases h3 : leftEs [e] 100 20 < 0
  · simp only [Tryd.f5, go_sem, Nat.reduceEqDiff, Nat.reduceLT, Nat.reduceLeDiff, Nat.reduceAdd, Nat.reduceSub, Nat.reduceMul, Nat.reduceBEq, Nat.reduceBNe, Int.reduceEq, Int.reduceToNat, Int.reduceNeg, ↓reduceIte, reduceCtorEq, Nat.reduceDiv, Nat.reduceMod, Int.reduceLE, Int.reduceLT, Int.reduceSub, Int.reduceAdd, vListK, hF, h1, hR, h2, hL, h3, hsW, hsF, hsR, hsL, hsE]
    refine vCode_sound (tab_ok [W]) _ _ _ ?_
    simp only [Tryd.f5, go_sem, Nat.reduceEqDiff, Nat.reduceLT, Nat.reduceLeDiff, Nat.reduceAdd, Nat.reduceSub, Nat.reduceMul, Nat.reduceBEq, Nat.reduceBNe, Int.reduceEq, Int.reduceToNat, Int.reduceNeg, ↓reduceIte, reduceCtorEq, Nat.reduceDiv, Nat.reduceMod, Int.reduceLE, Int.reduceLT, Int.reduceSub, Int.reduceAdd]
  by_cases h4 : rightE 4 e = false
  · simp only [Tryd.f5, go_sem, Nat.reduceEqDiff, Nat.reduceLT, Nat.reduceLeDiff, Nat.reduceAdd, Nat.reduceSub, Nat.reduceMul, Nat.reduceBEq, Nat.reduceBNe, Int.reduceEq, Int.reduceToNat, Int.reduceNeg, ↓reduceIte, reduceCtorEq, Nat.reduceDiv, Nat.reduceMod, Int.reduceLE, Int.reduceLT, Int.reduceSub, Int.reduceAdd, vListK, hF, h1, hR, h2, hL, h3, hE, h4, hsW, hsF, hsR, hsL, hsE]
    refine vCode_sound (tab_ok [W]) _ _ _ ?_
    simp only [Tryd.f5, go_sem, Nat.reduceEqDiff, Nat.reduceLT, Nat.reduceLeDiff, Nat.reduceAdd, Nat.reduceSub, Nat.reduceMul, Nat.reduceBEq, Nat.reduceBNe, Int.reduceEq, Int.reduceToNat, Int.reduceNeg, ↓reduceIte, reduceCtorEq, Nat.reduceDiv, Nat.reduceMod, Int.reduceLE, Int.reduceLT, Int.reduceSub, Int.reduceAdd]
  rw [Bool.not_eq_false] at h4
  simp only [Tryd.f5, go_sem, Nat.reduceEqDiff, Nat.reduceLT, Nat.reduceLeDiff, Nat.reduceAdd, Nat.reduceSub, Nat.reduceMul, Nat.reduceBEq, Nat.reduceBNe, Int.reduceEq, Int.reduceToNat, Int.reduceNeg, ↓reduceIte, reduceCtorEq, Nat.reduceDiv, Nat.reduceMod, Int.reduceLE, Int.reduceLT, Int.reduceSub, Int.reduceAdd, vListK, hF, h1, hR, h2, hL, h3, hE, h4, hsW, hsF, hsR, hsL, hsE]
  clear hF hR hL hE hsF hsR hsL hsE
  refine vCode_sound (tab_ok [W]) _ _ _ ?_
  simp only [Tryd.f5, go_sem, Nat.reduceEqDiff, Nat.reduceLT, Nat.reduceLeDiff, Nat.reduceAdd, Nat.reduceSub, Nat.reduceMul, Nat.reduceBEq, Nat.reduceBNe, Int.reduceEq, Int.reduceToNat, Int.reduceNeg, ↓reduceIte, reduceCtorEq, Nat.reduceDiv, Nat.reduceMod, Int.reduceLE, Int.reduceLT, Int.reduceSub, Int.reduceAdd]
  have hkd := rightE_kd e 4 h4
  obtain ⟨B, hB, hsB⟩ := bothRule2 (G := G)
  obtain ⟨T, hT, hsT⟩ := typRule2 (G := G) p
  obtain ⟨x4, hx4⟩ : ∃ x, x = encE (bothE 6 4 e e) := ⟨_, rfl⟩
  obtain ⟨x14, hx14⟩ : ∃ x, x = encE (bothE 6 14 e e) := ⟨_, rfl⟩
  obtain ⟨x8, hx8⟩ : ∃ x, x = encE (bothE 8 0 e e) := ⟨_, rfl⟩
  have b4 : ∀ tl sh, tab (B :: tl) 19 [.val (.int .i64 6), .val (.int .i64 4), .agg (encE e), .agg (encE e)] sh = some (.agg x4, sh) := fun tl sh => hx4 ▸ hB tl 6 4 e e sh
  have b14 : ∀ tl sh, tab (B :: tl) 19 [.val (.int .i64 6), .val (.int .i64 14), .agg (encE e), .agg (encE e)] sh = some (.agg x14, sh) := fun tl sh => hx14 ▸ hB tl 6 14 e e sh
  have b8 : ∀ tl sh, tab (B :: tl) 19 [.val (.int .i64 8), .val (.int .i64 0), .agg (encE e), .agg (encE e)] sh = some (.agg x8, sh) := fun tl sh => hx8 ▸ hB tl 8 0 e e sh
  have t0 := fun tl sh => hT tl e sh hkd
  have t4 : ∀ tl sh, tab (T :: tl) 15 [.agg (encP p), .agg x4] sh = some (.tup [.val (.int .i64 (refE p (bothE 6 4 e e)).1), .val (.int .i64 (refE p (bothE 6 4 e e)).2)], sh) := fun tl sh => hx4 ▸ hT tl (bothE 6 4 e e) sh (kd_both (by decide) hkd)
  have t14 : ∀ tl sh, tab (T :: tl) 15 [.agg (encP p), .agg x14] sh = some (.tup [.val (.int .i64 (refE p (bothE 6 14 e e)).1), .val (.int .i64 (refE p (bothE 6 14 e e)).2)], sh) := fun tl sh => hx14 ▸ hT tl (bothE 6 14 e e) sh (kd_both (by decide) hkd)
  have t8 : ∀ tl sh, tab (T :: tl) 15 [.agg (encP p), .agg x8] sh = some (.tup [.val (.int .i64 (refE p (bothE 8 0 e e)).1), .val (.int .i64 (refE p (bothE 8 0 e e)).2)], sh) := fun tl sh => hx8 ▸ hT tl (bothE 8 0 e e) sh (kd_both (by decide) hkd)
  have tn : ∀ tl sh, tab (T :: tl) 15 [.agg (encP p), .agg [.val (.int .i64 7), .val (.int .i64 0), .val (.int .u32 0), .val (.string ByteArray.empty), .slice [encE e]]] sh = some (.tup [.val (.int .i64 (refE p (notE e)).1), .val (.int .i64 (refE p (notE e)).2)], sh) := fun tl sh => hT tl (notE e) sh (kd_not hkd)
  clear hB hT hx4 hx14 hx8
  simp only [encP, encE_eq] at b4 b14 b8 t0 t4 t14 t8 tn
  refine vCode_sound (tab_ok [B, T]) _ _ _ ?_
  rcases kinds_vals p e with ⟨c, hc, v0, v4, vn⟩ | ⟨v0, v4, v14, vn, v8⟩ | ⟨v0, v4, v14, vn, v8⟩
  · simp only [v0, v4, vn] at t0 t4 tn
    simp only [Tryd.f5, go_sem, Nat.reduceEqDiff, Nat.reduceLT, Nat.reduceLeDiff, Nat.reduceAdd, Nat.reduceSub, Nat.reduceMul, Nat.reduceBEq, Nat.reduceBNe, Int.reduceEq, Int.reduceToNat, Int.reduceNeg, ↓reduceIte, reduceCtorEq, Nat.reduceDiv, Nat.reduceMod, Int.reduceLE, Int.reduceLT, Int.reduceSub, Int.reduceAdd, t0, t4, tn, b4, hsB, hsT, hc]
    refine draw_intro (tab_ok [B, T]) mixed [(true, 0), (true, 1), (true, 2), (false, 3), (false, 4), (true, 5), (true, 6), (true, 7), (true, 8), (true, 9)] rfl ?_
    simp only [Tryd.f5, go_sem, Nat.reduceEqDiff, Nat.reduceLT, Nat.reduceLeDiff, Nat.reduceAdd, Nat.reduceSub, Nat.reduceMul, Nat.reduceBEq, Nat.reduceBNe, Int.reduceEq, Int.reduceToNat, Int.reduceNeg, ↓reduceIte, reduceCtorEq, Nat.reduceDiv, Nat.reduceMod, Int.reduceLE, Int.reduceLT, Int.reduceSub, Int.reduceAdd, t0, t4, tn, b4, hsB, hsT, hc]
  · simp only [v0, v4, v14, vn, v8] at t0 t4 t14 tn t8
    simp only [Tryd.f5, go_sem, Nat.reduceEqDiff, Nat.reduceLT, Nat.reduceLeDiff, Nat.reduceAdd, Nat.reduceSub, Nat.reduceMul, Nat.reduceBEq, Nat.reduceBNe, Int.reduceEq, Int.reduceToNat, Int.reduceNeg, ↓reduceIte, reduceCtorEq, Nat.reduceDiv, Nat.reduceMod, Int.reduceLE, Int.reduceLT, Int.reduceSub, Int.reduceAdd, t0, t4, tn, t14, t8, b4, b14, b8, hsB, hsT]
    refine draw_intro (tab_ok [B, T]) mixed [(true, 0), (true, 1), (true, 2), (false, 3), (false, 4), (true, 5), (true, 6), (true, 7), (true, 8), (true, 9)] rfl ?_
    simp only [Tryd.f5, go_sem, Nat.reduceEqDiff, Nat.reduceLT, Nat.reduceLeDiff, Nat.reduceAdd, Nat.reduceSub, Nat.reduceMul, Nat.reduceBEq, Nat.reduceBNe, Int.reduceEq, Int.reduceToNat, Int.reduceNeg, ↓reduceIte, reduceCtorEq, Nat.reduceDiv, Nat.reduceMod, Int.reduceLE, Int.reduceLT, Int.reduceSub, Int.reduceAdd, t0, t4, tn, t14, t8, b4, b14, b8, hsB, hsT]
    refine draw_intro (tab_ok [B, T]) mixed [(true, 0), (true, 1), (true, 2), (false, 3), (false, 4), (true, 5), (true, 6), (true, 7), (true, 8), (true, 9)] rfl ?_
    simp only [Tryd.f5, go_sem, Nat.reduceEqDiff, Nat.reduceLT, Nat.reduceLeDiff, Nat.reduceAdd, Nat.reduceSub, Nat.reduceMul, Nat.reduceBEq, Nat.reduceBNe, Int.reduceEq, Int.reduceToNat, Int.reduceNeg, ↓reduceIte, reduceCtorEq, Nat.reduceDiv, Nat.reduceMod, Int.reduceLE, Int.reduceLT, Int.reduceSub, Int.reduceAdd, t0, t4, tn, t14, t8, b4, b14, b8, hsB, hsT]
    refine draw_intro (tab_ok [B, T]) mixed [(true, 0), (true, 1), (true, 2), (false, 3), (false, 4), (true, 5), (true, 6), (true, 7), (true, 8), (true, 9)] rfl ?_
    simp only [Tryd.f5, go_sem, Nat.reduceEqDiff, Nat.reduceLT, Nat.reduceLeDiff, Nat.reduceAdd, Nat.reduceSub, Nat.reduceMul, Nat.reduceBEq, Nat.reduceBNe, Int.reduceEq, Int.reduceToNat, Int.reduceNeg, ↓reduceIte, reduceCtorEq, Nat.reduceDiv, Nat.reduceMod, Int.reduceLE, Int.reduceLT, Int.reduceSub, Int.reduceAdd, t0, t4, tn, t14, t8, b4, b14, b8, hsB, hsT]
  · simp only [v0, v4, v14, vn, v8] at t0 t4 t14 tn t8
    simp only [Tryd.f5, go_sem, Nat.reduceEqDiff, Nat.reduceLT, Nat.reduceLeDiff, Nat.reduceAdd, Nat.reduceSub, Nat.reduceMul, Nat.reduceBEq, Nat.reduceBNe, Int.reduceEq, Int.reduceToNat, Int.reduceNeg, ↓reduceIte, reduceCtorEq, Nat.reduceDiv, Nat.reduceMod, Int.reduceLE, Int.reduceLT, Int.reduceSub, Int.reduceAdd, t0, t4, tn, t14, t8, b4, b14, b8, hsB, hsT]
    refine draw_intro (tab_ok [B, T]) mixed [(true, 0), (true, 1), (true, 2), (false, 3), (false, 4), (true, 5), (true, 6), (true, 7), (true, 8), (true, 9)] rfl ?_
    simp only [Tryd.f5, go_sem, Nat.reduceEqDiff, Nat.reduceLT, Nat.reduceLeDiff, Nat.reduceAdd, Nat.reduceSub, Nat.reduceMul, Nat.reduceBEq, Nat.reduceBNe, Int.reduceEq, Int.reduceToNat, Int.reduceNeg, ↓reduceIte, reduceCtorEq, Nat.reduceDiv, Nat.reduceMod, Int.reduceLE, Int.reduceLT, Int.reduceSub, Int.reduceAdd, t0, t4, tn, t14, t8, b4, b14, b8, hsB, hsT]
    refine draw_intro (tab_ok [B, T]) mixed [(true, 0), (true, 1), (true, 2), (false, 3), (false, 4), (true, 5), (true, 6), (true, 7), (true, 8), (true, 9)] rfl ?_
    simp only [Tryd.f5, go_sem, Nat.reduceEqDiff, Nat.reduceLT, Nat.reduceLeDiff, Nat.reduceAdd, Nat.reduceSub, Nat.reduceMul, Nat.reduceBEq, Nat.reduceBNe, Int.reduceEq, Int.reduceToNat, Int.reduceNeg, ↓reduceIte, reduceCtorEq, Nat.reduceDiv, Nat.reduceMod, Int.reduceLE, Int.reduceLT, Int.reduceSub, Int.reduceAdd, t0, t4, tn, t14, t8, b4, b14, b8, hsB, hsT]
    refine draw_intro (tab_ok [B, T]) mixed [(true, 0), (true, 1), (true, 2), (false, 3), (false, 4), (true, 5), (true, 6), (true, 7), (true, 8), (true, 9)] rfl ?_
    simp only [Tryd.f5, go_sem, Nat.reduceEqDiff, Nat.reduceLT, Nat.reduceLeDiff, Nat.reduceAdd, Nat.reduceSub, Nat.reduceMul, Nat.reduceBEq, Nat.reduceBNe, Int.reduceEq, Int.reduceToNat, Int.reduceNeg, ↓reduceIte, reduceCtorEq, Nat.reduceDiv, Nat.reduceMod, Int.reduceLE, Int.reduceLT, Int.reduceSub, Int.reduceAdd, t0, t4, tn, t14, t8, b4, b14, b8, hsB, hsT]
end Go.Proofs.YtaackmiajgapoaaDoor.V
