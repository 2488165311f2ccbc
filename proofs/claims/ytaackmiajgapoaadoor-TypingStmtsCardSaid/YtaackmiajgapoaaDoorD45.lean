/- The law of statements. -/
import Derived.Test.YtaackmiajgapoaaDoorD44
set_option maxRecDepth 100000
set_option maxHeartbeats 16000000
set_option linter.unusedSimpArgs false
set_option linter.unusedVariables false
namespace Go.Proofs.YtaackmiajgapoaaDoor.V
open Go
variable {G : Nat → Option (List PV)}

theorem stmts_vals (p : Pg) (e : Ex) (h0 : 0 < p.funcs.length) (h : refC p = 0) (hw : (lastF p).word = false) :
    (∃ c : Int, c ≠ 0 ∧ refE p e = (0, c) ∧ refC (moreP p (stE 3 [e])) = c ∧ refC (moreP p (stE 5 [e])) = c ∧ refC (moreP p (stE 7 [e])) = c) ∨
    (refE p e = (1, 0) ∧ refC (moreP p (stE 3 [e])) = 0 ∧ refC (moreP p (stE 5 [e])) = 5 ∧ refC (moreP p (stE 7 [e])) = 5) ∨
    (refE p e = (2, 0) ∧ refC (moreP p (stE 3 [e])) = 5 ∧ refC (moreP p (stE 5 [e])) = 0 ∧ refC (moreP p (stE 7 [e])) = 5) := by
  rw [more3 p e h0 h, more5 p e h0 h, more7 p e h0 h hw]
  unfold refE
  by_cases hk : knE p e = true
  · simp only [hk, if_true]
    rcases tyE_cases p e with h | h | h
    · refine .inl ⟨5, by decide, ?_⟩
      simp [h]
    · refine .inr (.inl ?_)
      simp [h]
    · refine .inr (.inr ?_)
      simp [h]
  · rw [Bool.not_eq_true] at hk
    exact .inl ⟨4, by decide, by simp [hk], by simp [hk], by simp [hk]⟩
theorem kd_more {p : Pg} (s : St) (h0 : 0 < p.funcs.length) (h : p.funcs.all kdF = true) (hs : kdS s = true) : (moreP p s).funcs.all kdF = true := by
  have hi : p.funcs.length - 1 < p.funcs.length := by omega
  show (p.funcs.set _ _).all kdF = true
  rw [all_set _ _ _ _ hi h]
  show ((lastF p).body ++ [s]).all kdS = true
  have hl : kdF (lastF p) = true := by
    refine List.all_eq_true.1 h _ ?_
    unfold lastF
    rw [elm_eq hi]
    exact List.getElem_mem hi
  rw [List.all_append, show (lastF p).body.all kdS = true from hl]
  simp [hs]
theorem nf_stE (k : Int) (e : Ex) (p : Pg) : nfL [.agg (encP p), .agg [.val (.int .i64 k), .val (.string ByteArray.empty), .slice [encE e], .nils, .nils]] = [.agg (encP p), .agg (encS (stE k [e]))] := by
  rw [nfL_map, List.map_cons, List.map_singleton, nfP, encS_eq]
  show [_, PV.agg [_, _, PV.slice [nfL (encE e)], _, _]] = _
  rw [nfE]
  rfl
theorem nf_stN (k : Int) (s : ByteArray) (p : Pg) : nfL [.agg (encP p), .agg [.val (.int .i64 k), .val (.string s), .nils, .nils, .nils]] = [.agg (encP p), .agg (encS (.mk k s [] [] []))] := by
  rw [nfL_map, List.map_cons, List.map_singleton, nfP, encS_eq]
  rfl

theorem moreRule (p : Pg) (h0 : 0 < p.funcs.length) (hf : p.funcs.length ≤ 70) (hb : (lastF p).body.length ≤ 1000) :
    ∃ R : Rule Tryd.prog G, (∀ tl (s : St) args sh, True → nfL args = [.agg (encP p), .agg (encS s)] → tab (R :: tl) 21 args sh = some (.agg (encP (moreP p s)), sh)) ∧ ∀ tl g args sh, g ≠ 21 → tab (R :: tl) g args sh = tab tl g args sh :=
  nfRule 21 (fun s : St => [.agg (encP p), .agg (encS s)]) (fun s => .agg (encP (moreP p s))) (fun _ => True)
    (by intro a b h; simp only [List.cons.injEq, PV.agg.injEq, encS_iff, true_and, and_true] at h; exact h)
    (fun s _ => more_c p s h0 hf hb)
theorem checkRule : ∃ R : Rule Tryd.prog G, (∀ tl (q : Pg) sh, q.funcs.all kdF = true → tab (R :: tl) 17 [.agg (encP q)] sh = some (.val (.int .i64 (refC q)), sh)) ∧ ∀ tl g args sh, g ≠ 17 → tab (R :: tl) g args sh = tab tl g args sh :=
  mkRule (P := Tryd.prog) (G := G) 17 Pg (fun q => [.agg (encP q)]) (fun q => .val (.int .i64 (refC q))) (fun q => q.funcs.all kdF = true)
    (by intro a b h; simp only [List.cons.injEq, PV.agg.injEq, encP_iff, true_and, and_true] at h; rw [h])
    (fun q h => typCheck_c q h)

theorem lawStmts_c (hG : GOk G) (p : Pg) (e : Ex) (w : Int) (hw0 : 0 ≤ w) (hw1 : w < 256) : VPure Tryd.prog G 6 [.agg (encP p), .agg (encE e), .val (.int .u8 w)] (.val (.bool true)) := by
  refine VPure.of (.val _) fun sh => ?_
  refine VCalls_enter [] Tryd.func6 rfl (show 3 ≤ 129 by decide) ?_
  obtain ⟨W, hW, hsW⟩ := pureRule (awake_c hG)
  obtain ⟨F, hF, hsF⟩ := pureRule (few_c (G := G) p 100)
  obtain ⟨L, hL, hsL⟩ := pureRule (leftExprs_c (G := G) [e] 100 20)
  obtain ⟨E, hE, hsE⟩ := pureRule (show VPure Tryd.prog G 14 [.agg (encE e), .val (.int .i64 2)] (.val (.bool (rightE 2 e))) from rightExpr_c e 2)
  simp only [encP, encE_eq, List.map_cons, List.map_nil] at hF hL hE
  simp only [encP]
  refine VWp_seq (vCode_sound (tab_ok [W, F, L, E]) _ _ _ ?_)
  simp only [Tryd.f6, go_sem, Nat.reduceEqDiff, Nat.reduceLT, Nat.reduceLeDiff, Nat.reduceAdd, Nat.reduceSub, Nat.reduceMul, Nat.reduceBEq, Nat.reduceBNe, Int.reduceEq, Int.reduceToNat, Int.reduceNeg, ↓reduceIte, reduceCtorEq, Nat.reduceDiv, Nat.reduceMod, Int.reduceLE, Int.reduceLT, Int.reduceSub, Int.reduceAdd]
  refine VWp_seq (vCode_sound (tab_ok [W, F, L, E]) _ _ _ ?_)
  simp only [Tryd.f6, go_sem, Nat.reduceEqDiff, Nat.reduceLT, Nat.reduceLeDiff, Nat.reduceAdd, Nat.reduceSub, Nat.reduceMul, Nat.reduceBEq, Nat.reduceBNe, Int.reduceEq, Int.reduceToNat, Int.reduceNeg, ↓reduceIte, reduceCtorEq, Nat.reduceDiv, Nat.reduceMod, Int.reduceLE, Int.reduceLT, Int.reduceSub, Int.reduceAdd, hW, hsW]
  by_cases h1 : fewP p 100 = false
  · refine VWp_seq (VWp_seq (VWp_known (tab_ok [W, F, L, E]) ?_))
    simp only [Tryd.f6, go_sem, Nat.reduceEqDiff, Nat.reduceLT, Nat.reduceLeDiff, Nat.reduceAdd, Nat.reduceSub, Nat.reduceMul, Nat.reduceBEq, Nat.reduceBNe, Int.reduceEq, Int.reduceToNat, Int.reduceNeg, ↓reduceIte, reduceCtorEq, Nat.reduceDiv, Nat.reduceMod, Int.reduceLE, Int.reduceLT, Int.reduceSub, Int.reduceAdd, vListK, hF, h1, hsW, hsF, hsL, hsE]
    refine vCode_sound (tab_ok [W]) _ _ _ ?_
    simp only [Tryd.f6, go_sem, Nat.reduceEqDiff, Nat.reduceLT, Nat.reduceLeDiff, Nat.reduceAdd, Nat.reduceSub, Nat.reduceMul, Nat.reduceBEq, Nat.reduceBNe, Int.reduceEq, Int.reduceToNat, Int.reduceNeg, ↓reduceIte, reduceCtorEq, Nat.reduceDiv, Nat.reduceMod, Int.reduceLE, Int.reduceLT, Int.reduceSub, Int.reduceAdd]
  rw [Bool.not_eq_false] at h1
  obtain ⟨R, hR, hsR⟩ := pureRule (sound_c hG p (fewP_nm h1))
  simp only [encP] at hR
  refine VWp_seq (VWp_seq (VWp_known (tab_ok [W, F, L, E, R]) ?_))
  by_cases h3 : leftEs [e] 100 20 < 0
  · simp only [Tryd.f6, go_sem, Nat.reduceEqDiff, Nat.reduceLT, Nat.reduceLeDiff, Nat.reduceAdd, Nat.reduceSub, Nat.reduceMul, Nat.reduceBEq, Nat.reduceBNe, Int.reduceEq, Int.reduceToNat, Int.reduceNeg, ↓reduceIte, reduceCtorEq, Nat.reduceDiv, Nat.reduceMod, Int.reduceLE, Int.reduceLT, Int.reduceSub, Int.reduceAdd, vListK, hF, h1, hR, hL, h3, hsW, hsF, hsR, hsL, hsE]
    refine vCode_sound (tab_ok [W]) _ _ _ ?_
    simp only [Tryd.f6, go_sem, Nat.reduceEqDiff, Nat.reduceLT, Nat.reduceLeDiff, Nat.reduceAdd, Nat.reduceSub, Nat.reduceMul, Nat.reduceBEq, Nat.reduceBNe, Int.reduceEq, Int.reduceToNat, Int.reduceNeg, ↓reduceIte, reduceCtorEq, Nat.reduceDiv, Nat.reduceMod, Int.reduceLE, Int.reduceLT, Int.reduceSub, Int.reduceAdd]
  by_cases h4 : rightE 2 e = false
  · simp only [Tryd.f6, go_sem, Nat.reduceEqDiff, Nat.reduceLT, Nat.reduceLeDiff, Nat.reduceAdd, Nat.reduceSub, Nat.reduceMul, Nat.reduceBEq, Nat.reduceBNe, Int.reduceEq, Int.reduceToNat, Int.reduceNeg, ↓reduceIte, reduceCtorEq, Nat.reduceDiv, Nat.reduceMod, Int.reduceLE, Int.reduceLT, Int.reduceSub, Int.reduceAdd, vListK, hF, h1, hR, hL, h3, hE, h4, hsW, hsF, hsR, hsL, hsE]
    refine vCode_sound (tab_ok [W]) _ _ _ ?_
    simp only [Tryd.f6, go_sem, Nat.reduceEqDiff, Nat.reduceLT, Nat.reduceLeDiff, Nat.reduceAdd, Nat.reduceSub, Nat.reduceMul, Nat.reduceBEq, Nat.reduceBNe, Int.reduceEq, Int.reduceToNat, Int.reduceNeg, ↓reduceIte, reduceCtorEq, Nat.reduceDiv, Nat.reduceMod, Int.reduceLE, Int.reduceLT, Int.reduceSub, Int.reduceAdd]
  rw [Bool.not_eq_false] at h4
  by_cases h5 : soundP p = 0
  · simp only [Tryd.f6, go_sem, Nat.reduceEqDiff, Nat.reduceLT, Nat.reduceLeDiff, Nat.reduceAdd, Nat.reduceSub, Nat.reduceMul, Nat.reduceBEq, Nat.reduceBNe, Int.reduceEq, Int.reduceToNat, Int.reduceNeg, ↓reduceIte, reduceCtorEq, Nat.reduceDiv, Nat.reduceMod, Int.reduceLE, Int.reduceLT, Int.reduceSub, Int.reduceAdd, vListK, hF, h1, hR, hL, h3, hE, h4, h5, hsW, hsF, hsR, hsL, hsE]
    clear hF hR hL hE hsF hsR hsL hsE
    refine vCode_sound (tab_ok [W]) _ _ _ ?_
    simp only [Tryd.f6, go_sem, Nat.reduceEqDiff, Nat.reduceLT, Nat.reduceLeDiff, Nat.reduceAdd, Nat.reduceSub, Nat.reduceMul, Nat.reduceBEq, Nat.reduceBNe, Int.reduceEq, Int.reduceToNat, Int.reduceNeg, ↓reduceIte, reduceCtorEq, Nat.reduceDiv, Nat.reduceMod, Int.reduceLE, Int.reduceLT, Int.reduceSub, Int.reduceAdd]
    have hkd := rightE_kd e 2 h4
    obtain ⟨s1, s2, s3, s4⟩ := sound_facts h5
    obtain ⟨s5, s6⟩ := rightP_kd s1
    have hword : (lastF p).word = false := by
      simp only [countedP, Bool.and_eq_true, Bool.not_eq_true'] at s3
      exact s3.2
    obtain ⟨b1, b2⟩ := few_bodies (by decide) (by decide) h1
    have hi : p.funcs.length - 1 < p.funcs.length := by omega
    have hlast : lastF p ∈ p.funcs := by unfold lastF; rw [elm_eq hi]; exact List.getElem_mem hi
    obtain ⟨M, hM, hsM⟩ := moreRule (G := G) p s6 b1 (b2 _ hlast)
    obtain ⟨C, hC, hsC⟩ := checkRule (G := G)
    obtain ⟨T, hT, hsT⟩ := typRule2 (G := G) p
    have t0 := fun tl sh => hT tl e sh hkd
    obtain ⟨i, hi2, hrem⟩ : ∃ i : Nat, i < p.funcs.length ∧ w.tmod (p.funcs.length : Int) = (i : Int) := by
      refine ⟨w.toNat % p.funcs.length, Nat.mod_lt _ s6, ?_⟩
      rw [Int.tmod_eq_emod_of_nonneg hw0, Int.natCast_emod, Int.toNat_of_nonneg hw0]
    have hwrap : IntKind.i64.wrap w = w := wrap64_id (by omega) (by omega)
    obtain ⟨x3, hx3⟩ : ∃ x, x = encP (moreP p (stE 3 [e])) := ⟨_, rfl⟩
    obtain ⟨x5, hx5⟩ : ∃ x, x = encP (moreP p (stE 5 [e])) := ⟨_, rfl⟩
    obtain ⟨x7, hx7⟩ : ∃ x, x = encP (moreP p (stE 7 [e])) := ⟨_, rfl⟩
    obtain ⟨x6, hx6⟩ : ∃ x, x = encP (moreP p (callS (elm p.funcs i).name)) := ⟨_, rfl⟩
    obtain ⟨x0, hx0⟩ : ∃ x, x = encP (moreP p (stE 7 [])) := ⟨_, rfl⟩
    have m3 : ∀ tl sh, tab (M :: tl) 21 [.agg (encP p), .agg [.val (.int .i64 3), .val (.string ByteArray.empty), .slice [encE e], .nils, .nils]] sh = some (.agg x3, sh) := fun tl sh => hx3 ▸ hM tl _ _ sh trivial (nf_stE 3 e p)
    have m5 : ∀ tl sh, tab (M :: tl) 21 [.agg (encP p), .agg [.val (.int .i64 5), .val (.string ByteArray.empty), .slice [encE e], .nils, .nils]] sh = some (.agg x5, sh) := fun tl sh => hx5 ▸ hM tl _ _ sh trivial (nf_stE 5 e p)
    have m7 : ∀ tl sh, tab (M :: tl) 21 [.agg (encP p), .agg [.val (.int .i64 7), .val (.string ByteArray.empty), .slice [encE e], .nils, .nils]] sh = some (.agg x7, sh) := fun tl sh => hx7 ▸ hM tl _ _ sh trivial (nf_stE 7 e p)
    have m6 : ∀ tl sh, tab (M :: tl) 21 [.agg (encP p), .agg [.val (.int .i64 6), .val (.string (elm p.funcs i).name), .nils, .nils, .nils]] sh = some (.agg x6, sh) := fun tl sh => hx6 ▸ hM tl _ _ sh trivial (nf_stN 6 _ p)
    have m0 : ∀ tl sh, tab (M :: tl) 21 [.agg (encP p), .agg [.val (.int .i64 7), .val (.string ByteArray.empty), .nils, .nils, .nils]] sh = some (.agg x0, sh) := fun tl sh => hx0 ▸ hM tl _ _ sh trivial (nf_stN 7 _ p)
    have hkdE : [e].all kdE = true := by simp [hkd]
    have c3 : ∀ tl sh, tab (C :: tl) 17 [.agg x3] sh = some (.val (.int .i64 (refC (moreP p (stE 3 [e])))), sh) := fun tl sh => hx3 ▸ hC tl _ sh (kd_more _ s6 s5 (by simp [stE, kdS, kdSs, hkd]))
    have c5 : ∀ tl sh, tab (C :: tl) 17 [.agg x5] sh = some (.val (.int .i64 (refC (moreP p (stE 5 [e])))), sh) := fun tl sh => hx5 ▸ hC tl _ sh (kd_more _ s6 s5 (by simp [stE, kdS, kdSs, hkd]))
    have c7 : ∀ tl sh, tab (C :: tl) 17 [.agg x7] sh = some (.val (.int .i64 (refC (moreP p (stE 7 [e])))), sh) := fun tl sh => hx7 ▸ hC tl _ sh (kd_more _ s6 s5 (by simp [stE, kdS, kdSs, hkd]))
    have c6 : ∀ tl sh, tab (C :: tl) 17 [.agg x6] sh = some (.val (.int .i64 (refC (moreP p (callS (elm p.funcs i).name)))), sh) := fun tl sh => hx6 ▸ hC tl _ sh (kd_more _ s6 s5 (by simp [callS, kdS, kdSs]))
    have c0 : ∀ tl sh, tab (C :: tl) 17 [.agg x0] sh = some (.val (.int .i64 (refC (moreP p (stE 7 [])))), sh) := fun tl sh => hx0 ▸ hC tl _ sh (kd_more _ s6 s5 (by simp [stE, kdS, kdSs]))
    have v0 := more70 p s6 s4
    have v6 := more6 p i hi2 s4 s2
    simp only [v0] at c0
    obtain ⟨y6, hy6⟩ : ∃ y, y = refC (moreP p (callS (elm p.funcs i).name)) := ⟨_, rfl⟩
    rw [← hy6] at c6 v6
    clear hT hM hC hx3 hx5 hx7 hx6 hx0 hy6
    simp only [encP, encE_eq] at m3 m5 m7 m6 m0 t0
    refine vCode_sound (tab_ok [M, C, T]) _ _ _ ?_
    rcases stmts_vals p e s6 s4 hword with ⟨c, hc, e0, e3, e5, e7⟩ | ⟨e0, e3, e5, e7⟩ | ⟨e0, e3, e5, e7⟩
    · simp only [e0] at t0
      simp only [e3] at c3
      simp only [e5] at c5
      simp only [e7] at c7
      simp only [Tryd.f6, go_sem, Nat.reduceEqDiff, Nat.reduceLT, Nat.reduceLeDiff, Nat.reduceAdd, Nat.reduceSub, Nat.reduceMul, Nat.reduceBEq, Nat.reduceBNe, Int.reduceEq, Int.reduceToNat, Int.reduceNeg, ↓reduceIte, reduceCtorEq, Nat.reduceDiv, Nat.reduceMod, Int.reduceLE, Int.reduceLT, Int.reduceSub, Int.reduceAdd, t0, m3, m5, m7, c3, c5, c7, hsM, hsC, hsT, hc]
      refine drawT_intro (tab_ok [M, C, T]) mixed [] [] [] (.pu 0 (.pu 1 (.pu 2 (.pu 3 (.pu 4 (.pu 5 (.pu 6 (.pu 7 (.pu 8 (.pu 9 (.im 10 (.im 11 .nil .nil) .nil))))))))))) rfl ?_
      simp only [Tryd.f6, go_sem, Nat.reduceEqDiff, Nat.reduceLT, Nat.reduceLeDiff, Nat.reduceAdd, Nat.reduceSub, Nat.reduceMul, Nat.reduceBEq, Nat.reduceBNe, Int.reduceEq, Int.reduceToNat, Int.reduceNeg, ↓reduceIte, reduceCtorEq, Nat.reduceDiv, Nat.reduceMod, Int.reduceLE, Int.reduceLT, Int.reduceSub, Int.reduceAdd, vDT, vDAtC, DT.isNil, vDOpC, viewC, m6, m0, c6, c0, hsM, hsC, hsT, hc, hwrap, hrem, hi2]
      exact ⟨by omega, by rw [v6]; simp⟩
    · simp only [e0] at t0
      simp only [e3] at c3
      simp only [e5] at c5
      simp only [e7] at c7
      simp only [Tryd.f6, go_sem, Nat.reduceEqDiff, Nat.reduceLT, Nat.reduceLeDiff, Nat.reduceAdd, Nat.reduceSub, Nat.reduceMul, Nat.reduceBEq, Nat.reduceBNe, Int.reduceEq, Int.reduceToNat, Int.reduceNeg, ↓reduceIte, reduceCtorEq, Nat.reduceDiv, Nat.reduceMod, Int.reduceLE, Int.reduceLT, Int.reduceSub, Int.reduceAdd, t0, m3, m5, m7, c3, c5, c7, hsM, hsC, hsT]
      refine drawT_intro (tab_ok [M, C, T]) mixed [] [] [] (.pu 0 (.pu 1 (.pu 2 (.pu 3 (.pu 4 (.pu 5 (.pu 6 (.pu 7 (.pu 8 (.pu 9 (.im 10 (.im 11 .nil .nil) .nil))))))))))) rfl ?_
      simp only [Tryd.f6, go_sem, Nat.reduceEqDiff, Nat.reduceLT, Nat.reduceLeDiff, Nat.reduceAdd, Nat.reduceSub, Nat.reduceMul, Nat.reduceBEq, Nat.reduceBNe, Int.reduceEq, Int.reduceToNat, Int.reduceNeg, ↓reduceIte, reduceCtorEq, Nat.reduceDiv, Nat.reduceMod, Int.reduceLE, Int.reduceLT, Int.reduceSub, Int.reduceAdd, vDT, vDAtC, DT.isNil, vDOpC, viewC, m6, m0, c6, c0, hsM, hsC, hsT, hwrap, hrem, hi2]
      exact ⟨by omega, by rw [v6]; simp⟩
    · simp only [e0] at t0
      simp only [e3] at c3
      simp only [e5] at c5
      simp only [e7] at c7
      simp only [Tryd.f6, go_sem, Nat.reduceEqDiff, Nat.reduceLT, Nat.reduceLeDiff, Nat.reduceAdd, Nat.reduceSub, Nat.reduceMul, Nat.reduceBEq, Nat.reduceBNe, Int.reduceEq, Int.reduceToNat, Int.reduceNeg, ↓reduceIte, reduceCtorEq, Nat.reduceDiv, Nat.reduceMod, Int.reduceLE, Int.reduceLT, Int.reduceSub, Int.reduceAdd, t0, m3, m5, m7, c3, c5, c7, hsM, hsC, hsT]
      refine drawT_intro (tab_ok [M, C, T]) mixed [] [] [] (.pu 0 (.pu 1 (.pu 2 (.pu 3 (.pu 4 (.pu 5 (.pu 6 (.pu 7 (.pu 8 (.pu 9 (.im 10 (.im 11 .nil .nil) .nil))))))))))) rfl ?_
      simp only [Tryd.f6, go_sem, Nat.reduceEqDiff, Nat.reduceLT, Nat.reduceLeDiff, Nat.reduceAdd, Nat.reduceSub, Nat.reduceMul, Nat.reduceBEq, Nat.reduceBNe, Int.reduceEq, Int.reduceToNat, Int.reduceNeg, ↓reduceIte, reduceCtorEq, Nat.reduceDiv, Nat.reduceMod, Int.reduceLE, Int.reduceLT, Int.reduceSub, Int.reduceAdd, vDT, vDAtC, DT.isNil, vDOpC, viewC, m6, m0, c6, c0, hsM, hsC, hsT, hwrap, hrem, hi2]
      exact ⟨by omega, by rw [v6]; simp⟩
  · simp only [Tryd.f6, go_sem, Nat.reduceEqDiff, Nat.reduceLT, Nat.reduceLeDiff, Nat.reduceAdd, Nat.reduceSub, Nat.reduceMul, Nat.reduceBEq, Nat.reduceBNe, Int.reduceEq, Int.reduceToNat, Int.reduceNeg, ↓reduceIte, reduceCtorEq, Nat.reduceDiv, Nat.reduceMod, Int.reduceLE, Int.reduceLT, Int.reduceSub, Int.reduceAdd, vListK, hF, h1, hR, hL, h3, hE, h4, h5, hsW, hsF, hsR, hsL, hsE]
    refine vCode_sound (tab_ok [W]) _ _ _ ?_
    simp only [Tryd.f6, go_sem, Nat.reduceEqDiff, Nat.reduceLT, Nat.reduceLeDiff, Nat.reduceAdd, Nat.reduceSub, Nat.reduceMul, Nat.reduceBEq, Nat.reduceBNe, Int.reduceEq, Int.reduceToNat, Int.reduceNeg, ↓reduceIte, reduceCtorEq, Nat.reduceDiv, Nat.reduceMod, Int.reduceLE, Int.reduceLT, Int.reduceSub, Int.reduceAdd]
end Go.Proofs.YtaackmiajgapoaaDoor.V
