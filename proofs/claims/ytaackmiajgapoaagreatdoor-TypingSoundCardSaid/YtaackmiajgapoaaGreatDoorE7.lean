/- Are numbers right, by the document (seedcornref16); soundness, by the document (seedcornref17); the law. -/
import Derived.Test.YtaackmiajgapoaaGreatDoorE6
set_option maxRecDepth 100000
set_option maxHeartbeats 16000000
set_option linter.unusedSimpArgs false
set_option linter.unusedVariables false
namespace Go.Proofs.YtaackmiajgapoaaGreatDoor.V
open Go
variable {G : Nat → Option (List PV)}

theorem okC_iff (p : Pg) (n : Nat) : okC p n = true ↔ ∀ i, i < n → (usesSs (elm p.funcs i).body).all (countG p i) = true := by
  unfold okC
  simp only [List.all_eq_true, List.mem_range]

theorem numbers16_c (p : Pg) (hp : nmOk p) (hz : ∀ f ∈ p.funcs, szSs f.body ≤ 1000) (hn : namedP p = true) (h0 : 0 < p.funcs.length) : VPure Tryz.prog G 65 [.agg (encP p)] (.val (.bool (countedP p))) := by
  obtain ⟨F, hF, hsF⟩ := findRule (G := G) p hp
  obtain ⟨U, hU, hsU⟩ := usesRule (G := G) p hz
  simp only [encP] at hF
  refine VPure.of (.val _) fun sh => ?_
  refine VCalls_enter [] Tryz.func65 rfl (show 1 ≤ 81 by decide) ?_
  simp only [encP]
  refine vCode_sound (tab_ok []) _ _ _ ?_
  simp only [Tryz.f65, go_sem, Nat.reduceEqDiff, Nat.reduceLT, Nat.reduceLeDiff, Nat.reduceAdd, Nat.reduceSub, Nat.reduceMul, Nat.reduceBEq, Nat.reduceBNe, Int.reduceEq, Int.reduceToNat, Int.reduceNeg, ↓reduceIte, reduceCtorEq, Nat.reduceDiv, Nat.reduceMod, Int.reduceLE, Int.reduceLT, Int.reduceSub, Int.reduceAdd]
  refine loop_intro (VWp_for [9, 10, 11, 12, 13, 16, 17, 18, 19, 20, 21, 22, 4, 5, 23, 24, 25, 26, 29, 30, 31, 32, 33, 34, 36, 37, 38, 39, 40, 41, 42, 43, 35, 44, 45, 6, 7, 46, 47, 48, 49, 50, 51, 52, 53, 54, 55, 56, 57, 58, 2, 27, 28, 14, 15, 3] (fun i : Nat => [(3, .val (.int .i64 i))]) [] (fun _ => []) [] (fun _ => []) (fun _ => sh)
    (fun i => i ≤ p.funcs.length ∧ ∀ j, j < i → (usesSs (elm p.funcs j).body).all (countG p j) = true) (fun i => p.funcs.length - i) 0 ⟨Nat.zero_le _, fun j h => by omega⟩ (by refine ⟨rfl, rfl, rfl, .refl _ _, .refl _ _, .refl _ _, by repeat (first | trivial | rfl | refine ⟨?_, ?_⟩), by repeat (first | trivial | rfl | refine ⟨?_, ?_⟩), by repeat (first | trivial | rfl | refine ⟨?_, ?_⟩), by repeat (first | trivial | exact .inr rfl | exact .inl rfl | refine ⟨?_, ?_⟩), by repeat (first | trivial | exact .inr rfl | exact .inl rfl | refine ⟨?_, ?_⟩), by repeat (first | trivial | exact .inr rfl | exact .inl rfl | refine ⟨?_, ?_⟩), by repeat (first | trivial | exact .inr rfl | exact .inl rfl | refine ⟨?_, ?_⟩)⟩) ?_)
  rintro i ⟨hi, hne⟩
  refine vCode_sound (tab_ok [F, U]) _ _ _ ?_
  simp only [Tryz.f65, go_sem, Nat.reduceEqDiff, Nat.reduceLT, Nat.reduceLeDiff, Nat.reduceAdd, Nat.reduceSub, Nat.reduceMul, Nat.reduceBEq, Nat.reduceBNe, Int.reduceEq, Int.reduceToNat, Int.reduceNeg, ↓reduceIte, reduceCtorEq, Nat.reduceDiv, Nat.reduceMod, Int.reduceLE, Int.reduceLT, Int.reduceSub, Int.reduceAdd]
  repeat (first | intro _ | refine And.intro (by (intros; first | omega | (simp only [Bool.or_eq_false_iff, Bool.or_eq_true, decide_eq_false_iff_not, beq_iff_eq, Bool.and_eq_true, decide_eq_true_eq, Bool.not_eq_true'] at *; omega) | simp_all)) ?_)
  refine if_intro _ rfl trivial (fun h => ?_) (fun h => ?_)
  · simp only [decide_eq_true_eq, Int.ofNat_lt] at h
    have hw : IntKind.i64.wrap ((i : Int) + 1) = ((i + 1 : Nat) : Int) := by rw [wrap64_id (by omega) (by omega)]; rfl
    simp only [Tryz.f65, go_sem, Nat.reduceEqDiff, Nat.reduceLT, Nat.reduceLeDiff, Nat.reduceAdd, Nat.reduceSub, Nat.reduceMul, Nat.reduceBEq, Nat.reduceBNe, Int.reduceEq, Int.reduceToNat, Int.reduceNeg, ↓reduceIte, reduceCtorEq, Nat.reduceDiv, Nat.reduceMod, Int.reduceLE, Int.reduceLT, Int.reduceSub, Int.reduceAdd, h, hU, hsU, hsF]
    obtain ⟨us, hus⟩ : ∃ us, us = usesSs (elm p.funcs i).body := ⟨_, rfl⟩
    have hkk : ∀ k, k < us.length → useK (elm us k) ∧ countU p i (elm us k) := by
      intro k hk
      subst hus
      have hm : elm (usesSs (elm p.funcs i).body) k ∈ usesSs (elm p.funcs i).body := by rw [elm_eq hk]; exact List.getElem_mem hk
      exact ⟨useK_Ss _ _ hm, named_countU p hn i h _ hm⟩
    rw [← hus]
    refine loop_intro (VWp_for [23, 24, 25, 26, 29, 30, 31, 32, 33, 34, 36, 37, 38, 39, 40, 41, 42, 43, 35, 44, 45, 6, 7, 46, 47, 48, 49, 50, 51, 52, 53, 54, 55, 56, 57, 58, 2, 27, 28, 5] (fun k : Nat => [(5, .val (.int .i64 k))]) [] (fun _ => []) [] (fun _ => []) (fun _ => sh)
      (fun k => k ≤ us.length ∧ ∀ j, j < k → countG p i (elm us j) = true) (fun k => us.length - k) 0 ⟨Nat.zero_le _, fun j h => by omega⟩ (by refine ⟨rfl, rfl, rfl, .refl _ _, .refl _ _, .refl _ _, by repeat (first | trivial | rfl | refine ⟨?_, ?_⟩), by repeat (first | trivial | rfl | refine ⟨?_, ?_⟩), by repeat (first | trivial | rfl | refine ⟨?_, ?_⟩), by repeat (first | trivial | exact .inr rfl | exact .inl rfl | refine ⟨?_, ?_⟩), by repeat (first | trivial | exact .inr rfl | exact .inl rfl | refine ⟨?_, ?_⟩), by repeat (first | trivial | exact .inr rfl | exact .inl rfl | refine ⟨?_, ?_⟩), by repeat (first | trivial | exact .inr rfl | exact .inl rfl | refine ⟨?_, ?_⟩)⟩) ?_)
    rintro k ⟨hk, hnk⟩
    refine vCode_sound (tab_ok [F, U]) _ _ _ ?_
    simp only [Tryz.f65, go_sem, Nat.reduceEqDiff, Nat.reduceLT, Nat.reduceLeDiff, Nat.reduceAdd, Nat.reduceSub, Nat.reduceMul, Nat.reduceBEq, Nat.reduceBNe, Int.reduceEq, Int.reduceToNat, Int.reduceNeg, ↓reduceIte, reduceCtorEq, Nat.reduceDiv, Nat.reduceMod, Int.reduceLE, Int.reduceLT, Int.reduceSub, Int.reduceAdd]
    repeat (first | intro _ | refine And.intro (by (intros; first | omega | (simp only [Bool.or_eq_false_iff, Bool.or_eq_true, decide_eq_false_iff_not, beq_iff_eq, Bool.and_eq_true, decide_eq_true_eq, Bool.not_eq_true'] at *; omega) | simp_all)) ?_)
    refine if_intro _ rfl trivial (fun g => ?_) (fun g => ?_)
    · simp only [decide_eq_true_eq, Int.ofNat_lt] at g
      have hwk : IntKind.i64.wrap ((k : Int) + 1) = ((k + 1 : Nat) : Int) := by rw [wrap64_id (by omega) (by omega)]; rfl
      obtain ⟨hkd0, hcu⟩ := hkk k g
      have hnext : (elm us k).kind ≠ 4 → ∀ j, j < k + 1 → countG p i (elm us j) = true := by
        intro hne4 j hj
        by_cases e : j = k
        · subst e
          unfold countG
          rw [if_neg hne4]
        · exact hnk j (by omega)
      rcases hkd0 with hkd | hkd | hkd
      · simp only [Tryz.f65, go_sem, Nat.reduceEqDiff, Nat.reduceLT, Nat.reduceLeDiff, Nat.reduceAdd, Nat.reduceSub, Nat.reduceMul, Nat.reduceBEq, Nat.reduceBNe, Int.reduceEq, Int.reduceToNat, Int.reduceNeg, ↓reduceIte, reduceCtorEq, Nat.reduceDiv, Nat.reduceMod, Int.reduceLE, Int.reduceLT, Int.reduceSub, Int.reduceAdd, g, ruse, hkd, hsF, hsU, hwk]
        refine ⟨k + 1, ⟨g, hnext (by omega)⟩, by omega, ?_⟩
        refine ⟨rfl, rfl, rfl, by repeat (first | exact AgreeOff.refl _ _ | refine AgreeOff.upd rfl ?_ | refine AgreeOff.over rfl ?_), by repeat (first | exact AgreeOff.refl _ _ | refine AgreeOff.upd rfl ?_ | refine AgreeOff.over rfl ?_), by repeat (first | exact AgreeOff.refl _ _ | refine AgreeOff.upd rfl ?_ | refine AgreeOff.over rfl ?_), ?_, by repeat (first | trivial | exact .inr rfl | exact .inl rfl | refine ⟨?_, ?_⟩), by repeat (first | trivial | exact .inr rfl | exact .inl rfl | refine ⟨?_, ?_⟩), by repeat (first | trivial | exact .inr rfl | exact .inl rfl | refine ⟨?_, ?_⟩), by repeat (first | trivial | exact .inr rfl | exact .inl rfl | refine ⟨?_, ?_⟩), by repeat (first | trivial | exact .inr rfl | exact .inl rfl | refine ⟨?_, ?_⟩), by repeat (first | trivial | exact .inr rfl | exact .inl rfl | refine ⟨?_, ?_⟩)⟩
        exact ⟨rfl, trivial⟩
      · simp only [Tryz.f65, go_sem, Nat.reduceEqDiff, Nat.reduceLT, Nat.reduceLeDiff, Nat.reduceAdd, Nat.reduceSub, Nat.reduceMul, Nat.reduceBEq, Nat.reduceBNe, Int.reduceEq, Int.reduceToNat, Int.reduceNeg, ↓reduceIte, reduceCtorEq, Nat.reduceDiv, Nat.reduceMod, Int.reduceLE, Int.reduceLT, Int.reduceSub, Int.reduceAdd, g, ruse, hkd, hsF, hsU, hwk]
        refine ⟨k + 1, ⟨g, hnext (by omega)⟩, by omega, ?_⟩
        refine ⟨rfl, rfl, rfl, by repeat (first | exact AgreeOff.refl _ _ | refine AgreeOff.upd rfl ?_ | refine AgreeOff.over rfl ?_), by repeat (first | exact AgreeOff.refl _ _ | refine AgreeOff.upd rfl ?_ | refine AgreeOff.over rfl ?_), by repeat (first | exact AgreeOff.refl _ _ | refine AgreeOff.upd rfl ?_ | refine AgreeOff.over rfl ?_), ?_, by repeat (first | trivial | exact .inr rfl | exact .inl rfl | refine ⟨?_, ?_⟩), by repeat (first | trivial | exact .inr rfl | exact .inl rfl | refine ⟨?_, ?_⟩), by repeat (first | trivial | exact .inr rfl | exact .inl rfl | refine ⟨?_, ?_⟩), by repeat (first | trivial | exact .inr rfl | exact .inl rfl | refine ⟨?_, ?_⟩), by repeat (first | trivial | exact .inr rfl | exact .inl rfl | refine ⟨?_, ?_⟩), by repeat (first | trivial | exact .inr rfl | exact .inl rfl | refine ⟨?_, ?_⟩)⟩
        exact ⟨rfl, trivial⟩
      · obtain ⟨q0, q1⟩ := hcu hkd
        have q2 : (findP p i (elm us k).name).2.toNat < p.funcs.length := by omega
        simp only [Tryz.f65, go_sem, Nat.reduceEqDiff, Nat.reduceLT, Nat.reduceLeDiff, Nat.reduceAdd, Nat.reduceSub, Nat.reduceMul, Nat.reduceBEq, Nat.reduceBNe, Int.reduceEq, Int.reduceToNat, Int.reduceNeg, ↓reduceIte, reduceCtorEq, Nat.reduceDiv, Nat.reduceMod, Int.reduceLE, Int.reduceLT, Int.reduceSub, Int.reduceAdd, g, ruse, hkd, hsF, hsU]
        refine draw_intro (tab_ok [F, U]) mixed [(true, 0), (true, 1), (true, 2), (true, 3), (true, 4), (true, 5), (true, 6), (false, 7), (true, 8), (true, 9), (true, 10), (true, 11), (true, 12)] rfl ?_
        simp only [Tryz.f65, go_sem, Nat.reduceEqDiff, Nat.reduceLT, Nat.reduceLeDiff, Nat.reduceAdd, Nat.reduceSub, Nat.reduceMul, Nat.reduceBEq, Nat.reduceBNe, Int.reduceEq, Int.reduceToNat, Int.reduceNeg, ↓reduceIte, reduceCtorEq, Nat.reduceDiv, Nat.reduceMod, Int.reduceLE, Int.reduceLT, Int.reduceSub, Int.reduceAdd, g, ruse, hkd, hF, hsF, hsU]
        refine draw_intro (tab_ok [F, U]) mixed [(true, 0), (true, 1), (true, 2), (true, 3), (true, 4), (true, 5), (true, 6), (true, 7), (true, 8), (true, 9), (true, 10), (true, 11), (true, 12)] rfl ?_
        simp only [Tryz.f65, go_sem, Nat.reduceEqDiff, Nat.reduceLT, Nat.reduceLeDiff, Nat.reduceAdd, Nat.reduceSub, Nat.reduceMul, Nat.reduceBEq, Nat.reduceBNe, Int.reduceEq, Int.reduceToNat, Int.reduceNeg, ↓reduceIte, reduceCtorEq, Nat.reduceDiv, Nat.reduceMod, Int.reduceLE, Int.reduceLT, Int.reduceSub, Int.reduceAdd, g, ruse, hkd, q0, q1, q2, hF, hsF, hsU]
        repeat (first | intro _ | refine And.intro (by (intros; first | omega | (simp only [Bool.or_eq_false_iff, Bool.or_eq_true, decide_eq_false_iff_not, beq_iff_eq, Bool.and_eq_true, decide_eq_true_eq, Bool.not_eq_true'] at *; omega) | simp_all)) ?_)
        refine if_intro _ rfl trivial (fun g2 => ?_) (fun g2 => ?_)
        · simp only [Tryz.f65, go_sem, Nat.reduceEqDiff, Nat.reduceLT, Nat.reduceLeDiff, Nat.reduceAdd, Nat.reduceSub, Nat.reduceMul, Nat.reduceBEq, Nat.reduceBNe, Int.reduceEq, Int.reduceToNat, Int.reduceNeg, ↓reduceIte, reduceCtorEq, Nat.reduceDiv, Nat.reduceMod, Int.reduceLE, Int.reduceLT, Int.reduceSub, Int.reduceAdd]
          have hbad : countG p i (elm us k) = false := by
            unfold countG
            rw [if_pos hkd]
            simpa using g2
          symm
          rw [Bool.eq_false_iff]
          intro hc
          simp only [countedP, Bool.and_eq_true] at hc
          have h4 := (okC_iff p _).1 hc.1.1.1 i h
          rw [← hus, all_at g hbad] at h4
          cases h4
        · simp only [Tryz.f65, go_sem, Nat.reduceEqDiff, Nat.reduceLT, Nat.reduceLeDiff, Nat.reduceAdd, Nat.reduceSub, Nat.reduceMul, Nat.reduceBEq, Nat.reduceBNe, Int.reduceEq, Int.reduceToNat, Int.reduceNeg, ↓reduceIte, reduceCtorEq, Nat.reduceDiv, Nat.reduceMod, Int.reduceLE, Int.reduceLT, Int.reduceSub, Int.reduceAdd, hwk]
          have hgood : countG p i (elm us k) = true := by
            unfold countG
            rw [if_pos hkd]
            simpa using g2
          refine ⟨k + 1, ⟨g, fun j hj => ?_⟩, by omega, ?_⟩
          · by_cases e : j = k
            · subst e; exact hgood
            · exact hnk j (by omega)
          · refine ⟨rfl, rfl, rfl, by repeat (first | exact AgreeOff.refl _ _ | refine AgreeOff.upd rfl ?_ | refine AgreeOff.over rfl ?_), by repeat (first | exact AgreeOff.refl _ _ | refine AgreeOff.upd rfl ?_ | refine AgreeOff.over rfl ?_), by repeat (first | exact AgreeOff.refl _ _ | refine AgreeOff.upd rfl ?_ | refine AgreeOff.over rfl ?_), ?_, by repeat (first | trivial | exact .inr rfl | exact .inl rfl | refine ⟨?_, ?_⟩), by repeat (first | trivial | exact .inr rfl | exact .inl rfl | refine ⟨?_, ?_⟩), by repeat (first | trivial | exact .inr rfl | exact .inl rfl | refine ⟨?_, ?_⟩), by repeat (first | trivial | exact .inr rfl | exact .inl rfl | refine ⟨?_, ?_⟩), by repeat (first | trivial | exact .inr rfl | exact .inl rfl | refine ⟨?_, ?_⟩), by repeat (first | trivial | exact .inr rfl | exact .inl rfl | refine ⟨?_, ?_⟩)⟩
            exact ⟨rfl, trivial⟩
    · simp only [decide_eq_false_iff_not, Int.ofNat_lt] at g
      simp only [Tryz.f65, go_sem, Nat.reduceEqDiff, Nat.reduceLT, Nat.reduceLeDiff, Nat.reduceAdd, Nat.reduceSub, Nat.reduceMul, Nat.reduceBEq, Nat.reduceBNe, Int.reduceEq, Int.reduceToNat, Int.reduceNeg, ↓reduceIte, reduceCtorEq, Nat.reduceDiv, Nat.reduceMod, Int.reduceLE, Int.reduceLT, Int.reduceSub, Int.reduceAdd, hw]
      have hall : us.all (countG p i) = true := all_of fun j hj => hnk j (by omega)
      refine ⟨i + 1, ⟨h, fun j hj => ?_⟩, by omega, ?_⟩
      · by_cases e : j = i
        · subst e
          rw [← hus, hall]
        · exact hne j (by omega)
      · refine ⟨rfl, rfl, rfl, by repeat (first | exact AgreeOff.refl _ _ | refine AgreeOff.upd rfl ?_ | refine AgreeOff.over rfl ?_), by repeat (first | exact AgreeOff.refl _ _ | refine AgreeOff.upd rfl ?_ | refine AgreeOff.over rfl ?_), by repeat (first | exact AgreeOff.refl _ _ | refine AgreeOff.upd rfl ?_ | refine AgreeOff.over rfl ?_), ?_, by repeat (first | trivial | exact .inr rfl | exact .inl rfl | refine ⟨?_, ?_⟩), by repeat (first | trivial | exact .inr rfl | exact .inl rfl | refine ⟨?_, ?_⟩), by repeat (first | trivial | exact .inr rfl | exact .inl rfl | refine ⟨?_, ?_⟩), by repeat (first | trivial | exact .inr rfl | exact .inl rfl | refine ⟨?_, ?_⟩), by repeat (first | trivial | exact .inr rfl | exact .inl rfl | refine ⟨?_, ?_⟩), by repeat (first | trivial | exact .inr rfl | exact .inl rfl | refine ⟨?_, ?_⟩)⟩
        exact ⟨rfl, trivial⟩
  · simp only [decide_eq_false_iff_not, Int.ofNat_lt] at h
    have hok : okC p p.funcs.length = true := (okC_iff p _).2 fun j hj => hne j (by omega)
    have hl : p.funcs.length - 1 < p.funcs.length := by omega
    have hw : IntKind.i64.wrap ((p.funcs.length : Int) - 1) = ((p.funcs.length - 1 : Nat) : Int) := by rw [wrap64_id (by omega) (by omega)]; omega
    simp only [Tryz.f65, go_sem, Nat.reduceEqDiff, Nat.reduceLT, Nat.reduceLeDiff, Nat.reduceAdd, Nat.reduceSub, Nat.reduceMul, Nat.reduceBEq, Nat.reduceBNe, Int.reduceEq, Int.reduceToNat, Int.reduceNeg, ↓reduceIte, reduceCtorEq, Nat.reduceDiv, Nat.reduceMod, Int.reduceLE, Int.reduceLT, Int.reduceSub, Int.reduceAdd, hw, hl]
    repeat (first | intro _ | refine And.intro (by (intros; first | omega | (simp only [Bool.or_eq_false_iff, Bool.or_eq_true, decide_eq_false_iff_not, beq_iff_eq, Bool.and_eq_true, decide_eq_true_eq, Bool.not_eq_true'] at *; omega) | simp_all)) ?_)
    simp only [countedP, hok, lastF, mainS, Bool.true_and]
    rfl

theorem check16_c (p : Pg) (hp : nmOk p) (hz : ∀ f ∈ p.funcs, szSs f.body ≤ 1000) (h0 : 0 < p.funcs.length) : VPure Tryz.prog G 35 [.agg (encP p)] (.val (.int .i64 (checkP p))) := by
  obtain ⟨N, hN, hsN⟩ := pureRule (names16P_c (G := G) p hp hz)
  refine VPure.of (.val _) fun sh => ?_
  refine VCalls_enter [] Tryz.func35 rfl (show 1 ≤ 9 by decide) ?_
  simp only [encP] at hN
  simp only [encP]
  by_cases hn : namedP p = true
  · obtain ⟨C, hC, hsC⟩ := pureRule (numbers16_c (G := G) p hp hz hn h0)
    simp only [encP] at hC
    refine vCode_sound (tab_ok [N, C]) _ _ _ ?_
    simp only [hn] at hN
    cases hc : countedP p with
    | true =>
      simp only [hc] at hC
      simp only [Tryz.f35, go_sem, Nat.reduceEqDiff, Nat.reduceLT, Nat.reduceLeDiff, Nat.reduceAdd, Nat.reduceSub, Nat.reduceMul, Nat.reduceBEq, Nat.reduceBNe, Int.reduceEq, Int.reduceToNat, Int.reduceNeg, ↓reduceIte, reduceCtorEq, Nat.reduceDiv, Nat.reduceMod, Int.reduceLE, Int.reduceLT, Int.reduceSub, Int.reduceAdd, hN, hsN, hC, hsC]
      simp [checkP, hn, hc]
    | false =>
      simp only [hc] at hC
      simp only [Tryz.f35, go_sem, Nat.reduceEqDiff, Nat.reduceLT, Nat.reduceLeDiff, Nat.reduceAdd, Nat.reduceSub, Nat.reduceMul, Nat.reduceBEq, Nat.reduceBNe, Int.reduceEq, Int.reduceToNat, Int.reduceNeg, ↓reduceIte, reduceCtorEq, Nat.reduceDiv, Nat.reduceMod, Int.reduceLE, Int.reduceLT, Int.reduceSub, Int.reduceAdd, hN, hsN, hC, hsC]
      simp [checkP, hn, hc]
  · rw [Bool.not_eq_true] at hn
    simp only [hn] at hN
    refine vCode_sound (tab_ok [N]) _ _ _ ?_
    simp only [Tryz.f35, go_sem, Nat.reduceEqDiff, Nat.reduceLT, Nat.reduceLeDiff, Nat.reduceAdd, Nat.reduceSub, Nat.reduceMul, Nat.reduceBEq, Nat.reduceBNe, Int.reduceEq, Int.reduceToNat, Int.reduceNeg, ↓reduceIte, reduceCtorEq, Nat.reduceDiv, Nat.reduceMod, Int.reduceLE, Int.reduceLT, Int.reduceSub, Int.reduceAdd, hN, hsN]
    simp [checkP, hn]

theorem sound17_c (p : Pg) (hp : nmOk p) (hz : ∀ f ∈ p.funcs, szSs f.body ≤ 1000) : VPure Tryz.prog G 11 [.agg (encP p)] (.val (.int .i64 (soundP p))) := by
  obtain ⟨R, hR, hsR⟩ := pureRule (right_c (G := G) p)
  refine VPure.of (.val _) fun sh => ?_
  refine VCalls_enter [] Tryz.func11 rfl (show 1 ≤ 14 by decide) ?_
  simp only [encP] at hR
  simp only [encP]
  by_cases hr : rightP p = true
  · obtain ⟨N, hN, hsN⟩ := pureRule (check16_c (G := G) p hp hz (rightP_kd hr).2)
    obtain ⟨C, hC, hsC⟩ := pureRule (refCheck_c (G := G) p)
    simp only [encP] at hN hC
    simp only [hr] at hR
    refine vCode_sound (tab_ok [R, N, C]) _ _ _ ?_
    simp only [Tryz.f11, go_sem, Nat.reduceEqDiff, Nat.reduceLT, Nat.reduceLeDiff, Nat.reduceAdd, Nat.reduceSub, Nat.reduceMul, Nat.reduceBEq, Nat.reduceBNe, Int.reduceEq, Int.reduceToNat, Int.reduceNeg, ↓reduceIte, reduceCtorEq, Nat.reduceDiv, Nat.reduceMod, Int.reduceLE, Int.reduceLT, Int.reduceSub, Int.reduceAdd, hR, hsR, hN, hsN, hC, hsC]
    refine if_intro _ rfl trivial (fun h => ?_) (fun h => ?_)
    · simp only [Tryz.f11, go_sem, Nat.reduceEqDiff, Nat.reduceLT, Nat.reduceLeDiff, Nat.reduceAdd, Nat.reduceSub, Nat.reduceMul, Nat.reduceBEq, Nat.reduceBNe, Int.reduceEq, Int.reduceToNat, Int.reduceNeg, ↓reduceIte, reduceCtorEq, Nat.reduceDiv, Nat.reduceMod, Int.reduceLE, Int.reduceLT, Int.reduceSub, Int.reduceAdd]
      have h1 : ¬ checkP p = 0 := by simpa using h
      simp [soundP, hr, h1]
    · have h1 : checkP p = 0 := by simpa using h
      simp only [Tryz.f11, go_sem, Nat.reduceEqDiff, Nat.reduceLT, Nat.reduceLeDiff, Nat.reduceAdd, Nat.reduceSub, Nat.reduceMul, Nat.reduceBEq, Nat.reduceBNe, Int.reduceEq, Int.reduceToNat, Int.reduceNeg, ↓reduceIte, reduceCtorEq, Nat.reduceDiv, Nat.reduceMod, Int.reduceLE, Int.reduceLT, Int.reduceSub, Int.reduceAdd, hR, hsR, hN, hsN, hC, hsC]
      simp [soundP, hr, h1]
  · rw [Bool.not_eq_true] at hr
    simp only [hr] at hR
    refine vCode_sound (tab_ok [R]) _ _ _ ?_
    simp only [Tryz.f11, go_sem, Nat.reduceEqDiff, Nat.reduceLT, Nat.reduceLeDiff, Nat.reduceAdd, Nat.reduceSub, Nat.reduceMul, Nat.reduceBEq, Nat.reduceBNe, Int.reduceEq, Int.reduceToNat, Int.reduceNeg, ↓reduceIte, reduceCtorEq, Nat.reduceDiv, Nat.reduceMod, Int.reduceLE, Int.reduceLT, Int.reduceSub, Int.reduceAdd, hR, hsR]
    simp [soundP, hr]

theorem lawSound_c (hG : GOk G) (p : Pg) : VPure Tryz.prog G 3 [.agg (encP p)] (.val (.bool true)) := by
  refine VPure.of (.val _) fun sh => ?_
  refine VCalls_enter [] Tryz.func3 rfl (show 1 ≤ 13 by decide) ?_
  obtain ⟨W, hW, hsW⟩ := pureRule (awake_c hG)
  obtain ⟨F, hF, hsF⟩ := pureRule (few_c (G := G) p 300)
  simp only [encP] at hF
  simp only [encP]
  by_cases h1 : fewP p 300 = true
  · obtain ⟨S, hS, hsS⟩ := pureRule (sound_c hG p (fewP_nm h1))
    obtain ⟨D, hD, hsD⟩ := pureRule (sound17_c (G := G) p (fewP_nm h1) (few_sizes (by decide) (by decide) h1))
    simp only [encP] at hS hD
    simp only [h1] at hF
    refine vCode_sound (tab_ok [W, F, S, D]) _ _ _ ?_
    simp only [Tryz.f3, go_sem, Nat.reduceEqDiff, Nat.reduceLT, Nat.reduceLeDiff, Nat.reduceAdd, Nat.reduceSub, Nat.reduceMul, Nat.reduceBEq, Nat.reduceBNe, Int.reduceEq, Int.reduceToNat, Int.reduceNeg, ↓reduceIte, reduceCtorEq, Nat.reduceDiv, Nat.reduceMod, Int.reduceLE, Int.reduceLT, Int.reduceSub, Int.reduceAdd, hW, hsW, hF, hsF]
    refine draw_intro (tab_ok [W, F, S, D]) mixed [(true, 0), (true, 2), (false, 1), (false, 3), (true, 4), (true, 5)] rfl ?_
    simp only [Tryz.f3, go_sem, Nat.reduceEqDiff, Nat.reduceLT, Nat.reduceLeDiff, Nat.reduceAdd, Nat.reduceSub, Nat.reduceMul, Nat.reduceBEq, Nat.reduceBNe, Int.reduceEq, Int.reduceToNat, Int.reduceNeg, ↓reduceIte, reduceCtorEq, Nat.reduceDiv, Nat.reduceMod, Int.reduceLE, Int.reduceLT, Int.reduceSub, Int.reduceAdd, hS, hsS, hD, hsD, hsW, hsF]
  · rw [Bool.not_eq_true] at h1
    simp only [h1] at hF
    refine vCode_sound (tab_ok [W, F]) _ _ _ ?_
    simp only [Tryz.f3, go_sem, Nat.reduceEqDiff, Nat.reduceLT, Nat.reduceLeDiff, Nat.reduceAdd, Nat.reduceSub, Nat.reduceMul, Nat.reduceBEq, Nat.reduceBNe, Int.reduceEq, Int.reduceToNat, Int.reduceNeg, ↓reduceIte, reduceCtorEq, Nat.reduceDiv, Nat.reduceMod, Int.reduceLE, Int.reduceLT, Int.reduceSub, Int.reduceAdd, hW, hsW, hF, hsF]
end Go.Proofs.YtaackmiajgapoaaGreatDoor.V
