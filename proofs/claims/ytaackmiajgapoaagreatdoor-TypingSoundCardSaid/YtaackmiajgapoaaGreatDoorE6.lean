/- Are names right, by the document (seedcornref16). -/
import Derived.Test.YtaackmiajgapoaaGreatDoorE5
set_option maxRecDepth 100000
set_option maxHeartbeats 16000000
set_option linter.unusedSimpArgs false
set_option linter.unusedVariables false
namespace Go.Proofs.YtaackmiajgapoaaGreatDoor.V
open Go
variable {G : Nat → Option (List PV)}

def body16 (p : Pg) (i : Nat) : Bool := lone (elm p.funcs i) && (usesSs (elm p.funcs i).body).all (nameG p i)
theorem named_iff (p : Pg) : namedP p = true ↔ (allN p).Nodup ∧ ∀ i, i < p.funcs.length → body16 p i = true := by
  unfold namedP okN body16
  simp only [Bool.and_eq_true, List.all_eq_true, decide_eq_true_eq, List.mem_range]
  constructor
  · rintro ⟨h1, h2, h3⟩
    exact ⟨h2, fun i hi => ⟨h1 _ (by rw [elm_eq hi]; exact List.getElem_mem hi), h3 i hi⟩⟩
  · rintro ⟨h1, h2⟩
    refine ⟨fun f hf => ?_, h1, fun i hi => (h2 i hi).2⟩
    obtain ⟨i, hi, rfl⟩ := List.getElem_of_mem hf
    rw [← elm_eq hi]
    exact (h2 i hi).1

theorem findRule (p : Pg) (hp : nmOk p) : ∃ R : Rule Tryz.prog G, (∀ tl (f : Int) (s : ByteArray) sh, tab (R :: tl) 105 [.agg (encP p), .val (.int .i64 f), .val (.string s)] sh = some (.tup [.val (.int .i64 (findP p f s).1), .val (.int .i64 (findP p f s).2)], sh)) ∧ ∀ tl g args sh, g ≠ 105 → tab (R :: tl) g args sh = tab tl g args sh := by
  obtain ⟨R, h1, h2⟩ := mkRule (P := Tryz.prog) (G := G) 105 (Int × ByteArray) (fun x => [.agg (encP p), .val (.int .i64 x.1), .val (.string x.2)]) (fun x => .tup [.val (.int .i64 (findP p x.1 x.2).1), .val (.int .i64 (findP p x.1 x.2).2)]) (fun _ => True)
    (by rintro ⟨a, b⟩ ⟨c, d⟩ h; simp only [List.cons.injEq, PV.val.injEq, Value.string.injEq, Value.int.injEq, true_and, and_true] at h; rw [h.1, h.2]) (fun x _ => find16_c p hp x.1 x.2)
  exact ⟨R, fun tl f s sh => h1 tl (f, s) sh trivial, h2⟩
theorem usesRule (p : Pg) (hz : ∀ f ∈ p.funcs, szSs f.body ≤ 1000) : ∃ R : Rule Tryz.prog G, (∀ tl i sh, i < p.funcs.length → tab (R :: tl) 104 [.slice ((elm p.funcs i).body.map encS)] sh = some (.slice ((usesSs (elm p.funcs i).body).map ruse), sh)) ∧ ∀ tl g args sh, g ≠ 104 → tab (R :: tl) g args sh = tab tl g args sh := by
  obtain ⟨R, h1, h2⟩ := mkRule (P := Tryz.prog) (G := G) 104 (List St) (fun x => [.slice (x.map encS)]) (fun x => .slice ((usesSs x).map ruse)) (fun x => szSs x ≤ 1000000)
    (by rintro a b h; simp only [List.cons.injEq, PV.slice.injEq, encSs_iff, and_true] at h; rw [h]) (fun x h => uses16_c x h)
  exact ⟨R, fun tl i sh hi => h1 tl _ sh (by have := hz (elm p.funcs i) (by rw [elm_eq hi]; exact List.getElem_mem hi); omega), h2⟩

theorem names16P_c (p : Pg) (hp : nmOk p) (hz : ∀ f ∈ p.funcs, szSs f.body ≤ 1000) : VPure Tryz.prog G 64 [.agg (encP p)] (.val (.bool (namedP p))) := by
  obtain ⟨M, hM, hsM⟩ := pureRule (globals_c (G := G) p hp.all)
  obtain ⟨L, hL0, hsL⟩ := mkRule (P := Tryz.prog) (G := G) 101 (List ByteArray) (fun x => [.slice (encT x)]) (fun x => .val (.bool (decide x.Nodup))) (fun _ => True)
    (by rintro a b h; simp only [List.cons.injEq, PV.slice.injEq, encT_iff, and_true] at h; rw [h]) (fun x _ => unlike16_c x)
  have hL : ∀ tl l sh, tab (L :: tl) 101 [.slice (encT l)] sh = some (.val (.bool (decide l.Nodup)), sh) := fun tl l sh => hL0 tl l sh trivial
  obtain ⟨O, hO0, hsO⟩ := mkRule (P := Tryz.prog) (G := G) 103 Fn (fun f => [.agg (encF f)]) (fun f => .slice (encT (ownN f))) (fun f => (f.params.length + f.locals.length) * 16 ≤ 140737488355328)
    (by intro x y h; simp only [List.cons.injEq, PV.agg.injEq, encF_iff, and_true] at h; rw [h]) (fun f h => names16_c f h)
  have hown : ∀ i, i < p.funcs.length → ((elm p.funcs i).params.length + (elm p.funcs i).locals.length) * 16 ≤ 140737488355328 := by
    intro i hi
    have := hp.own (elm p.funcs i) (by rw [elm_eq hi]; exact List.getElem_mem hi)
    simpa [ownN] using this
  have hO : ∀ tl sh i, i < p.funcs.length → tab (O :: tl) 103 [.agg [.val (.string (elm p.funcs i).name), .slice (encT (elm p.funcs i).params), .slice (encT (elm p.funcs i).locals), .val (.bool (elm p.funcs i).word), .slice ((elm p.funcs i).body.map encS)]] sh = some (.slice (encT (ownN (elm p.funcs i))), sh) := fun tl sh i hi => hO0 tl (elm p.funcs i) sh (hown i hi)
  obtain ⟨F, hF, hsF⟩ := findRule (G := G) p hp
  obtain ⟨U, hU, hsU⟩ := usesRule (G := G) p hz
  clear hL0 hO0
  simp only [encP] at hM hF
  refine VPure.of (.val _) fun sh => ?_
  refine VCalls_enter [] Tryz.func64 rfl (show 1 ≤ 94 by decide) ?_
  simp only [encP]
  refine vCode_sound (tab_ok [M, L]) _ _ _ ?_
  simp only [Tryz.f64, go_sem, Nat.reduceEqDiff, Nat.reduceLT, Nat.reduceLeDiff, Nat.reduceAdd, Nat.reduceSub, Nat.reduceMul, Nat.reduceBEq, Nat.reduceBNe, Int.reduceEq, Int.reduceToNat, Int.reduceNeg, ↓reduceIte, reduceCtorEq, Nat.reduceDiv, Nat.reduceMod, Int.reduceLE, Int.reduceLT, Int.reduceSub, Int.reduceAdd, hM, hsM, hL, hsL]
  refine if_intro _ rfl trivial (fun k0 => ?_) (fun k0 => ?_)
  · simp only [Tryz.f64, go_sem, Nat.reduceEqDiff, Nat.reduceLT, Nat.reduceLeDiff, Nat.reduceAdd, Nat.reduceSub, Nat.reduceMul, Nat.reduceBEq, Nat.reduceBNe, Int.reduceEq, Int.reduceToNat, Int.reduceNeg, ↓reduceIte, reduceCtorEq, Nat.reduceDiv, Nat.reduceMod, Int.reduceLE, Int.reduceLT, Int.reduceSub, Int.reduceAdd]
    have h0 : ¬ (allN p).Nodup := by simpa using k0
    symm
    rw [Bool.eq_false_iff]
    intro h
    exact h0 ((named_iff p).1 h).1
  have h0 : (allN p).Nodup := by simpa using k0
  clear hM hsM
  simp only [Tryz.f64, go_sem, Nat.reduceEqDiff, Nat.reduceLT, Nat.reduceLeDiff, Nat.reduceAdd, Nat.reduceSub, Nat.reduceMul, Nat.reduceBEq, Nat.reduceBNe, Int.reduceEq, Int.reduceToNat, Int.reduceNeg, ↓reduceIte, reduceCtorEq, Nat.reduceDiv, Nat.reduceMod, Int.reduceLE, Int.reduceLT, Int.reduceSub, Int.reduceAdd]
  refine loop_intro (VWp_for [12, 13, 14, 15, 16, 19, 20, 21, 22, 23, 24, 25, 26, 2, 27, 28, 29, 30, 31, 32, 33, 4, 5, 34, 35, 36, 37, 41, 42, 43, 44, 45, 46, 47, 48, 40, 49, 50, 6, 7, 51, 52, 53, 54, 55, 56, 57, 58, 59, 60, 61, 62, 63, 64, 65, 66, 67, 68, 69, 70, 71, 72, 73, 74, 75, 76, 77, 78, 79, 80, 81, 82, 83, 84, 85, 86, 87, 88, 89, 90, 91, 92, 93, 38, 39, 17, 18, 3] (fun i : Nat => [(3, .val (.int .i64 i))]) [] (fun _ => []) [] (fun _ => []) (fun _ => sh)
    (fun i => i ≤ p.funcs.length ∧ ∀ j, j < i → body16 p j = true) (fun i => p.funcs.length - i) 0 ⟨Nat.zero_le _, fun j h => by omega⟩ (by refine ⟨rfl, rfl, rfl, .refl _ _, .refl _ _, .refl _ _, by repeat (first | trivial | rfl | refine ⟨?_, ?_⟩), by repeat (first | trivial | rfl | refine ⟨?_, ?_⟩), by repeat (first | trivial | rfl | refine ⟨?_, ?_⟩), by repeat (first | trivial | exact .inr rfl | exact .inl rfl | refine ⟨?_, ?_⟩), by repeat (first | trivial | exact .inr rfl | exact .inl rfl | refine ⟨?_, ?_⟩), by repeat (first | trivial | exact .inr rfl | exact .inl rfl | refine ⟨?_, ?_⟩), by repeat (first | trivial | exact .inr rfl | exact .inl rfl | refine ⟨?_, ?_⟩)⟩) ?_)
  rintro i ⟨hi, hne⟩
  refine vCode_sound (tab_ok [L, O, F, U]) _ _ _ ?_
  simp only [Tryz.f64, go_sem, Nat.reduceEqDiff, Nat.reduceLT, Nat.reduceLeDiff, Nat.reduceAdd, Nat.reduceSub, Nat.reduceMul, Nat.reduceBEq, Nat.reduceBNe, Int.reduceEq, Int.reduceToNat, Int.reduceNeg, ↓reduceIte, reduceCtorEq, Nat.reduceDiv, Nat.reduceMod, Int.reduceLE, Int.reduceLT, Int.reduceSub, Int.reduceAdd]
  repeat (first | intro _ | refine And.intro (by (intros; first | omega | (simp only [Bool.or_eq_false_iff, Bool.or_eq_true, decide_eq_false_iff_not, beq_iff_eq, Bool.and_eq_true, decide_eq_true_eq, Bool.not_eq_true'] at *; omega) | simp_all)) ?_)
  refine if_intro _ rfl trivial (fun h => ?_) (fun h => ?_)
  · simp only [decide_eq_true_eq, Int.ofNat_lt] at h
    have hw : IntKind.i64.wrap ((i : Int) + 1) = ((i + 1 : Nat) : Int) := by rw [wrap64_id (by omega) (by omega)]; rfl
    simp only [Tryz.f64, go_sem, Nat.reduceEqDiff, Nat.reduceLT, Nat.reduceLeDiff, Nat.reduceAdd, Nat.reduceSub, Nat.reduceMul, Nat.reduceBEq, Nat.reduceBNe, Int.reduceEq, Int.reduceToNat, Int.reduceNeg, ↓reduceIte, reduceCtorEq, Nat.reduceDiv, Nat.reduceMod, Int.reduceLE, Int.reduceLT, Int.reduceSub, Int.reduceAdd, h, hL, hsL, hO, hsO]
    refine if_intro _ rfl trivial (fun h2 => ?_) (fun h2 => ?_)
    · simp only [Tryz.f64, go_sem, Nat.reduceEqDiff, Nat.reduceLT, Nat.reduceLeDiff, Nat.reduceAdd, Nat.reduceSub, Nat.reduceMul, Nat.reduceBEq, Nat.reduceBNe, Int.reduceEq, Int.reduceToNat, Int.reduceNeg, ↓reduceIte, reduceCtorEq, Nat.reduceDiv, Nat.reduceMod, Int.reduceLE, Int.reduceLT, Int.reduceSub, Int.reduceAdd]
      have h3 : lone (elm p.funcs i) = false := by simpa [lone] using h2
      symm
      rw [Bool.eq_false_iff]
      intro hn
      have := ((named_iff p).1 hn).2 i h
      unfold body16 at this
      rw [h3] at this
      cases this
    have hlone : lone (elm p.funcs i) = true := by simpa [lone] using h2
    simp only [Tryz.f64, go_sem, Nat.reduceEqDiff, Nat.reduceLT, Nat.reduceLeDiff, Nat.reduceAdd, Nat.reduceSub, Nat.reduceMul, Nat.reduceBEq, Nat.reduceBNe, Int.reduceEq, Int.reduceToNat, Int.reduceNeg, ↓reduceIte, reduceCtorEq, Nat.reduceDiv, Nat.reduceMod, Int.reduceLE, Int.reduceLT, Int.reduceSub, Int.reduceAdd, h, hU, hsU, hsL, hsO, hsF]
    obtain ⟨us, hus⟩ : ∃ us, us = usesSs (elm p.funcs i).body := ⟨_, rfl⟩
    have hkk : ∀ k, k < us.length → useK (elm us k) := by
      intro k hk
      subst hus
      exact useK_Ss _ _ (by rw [elm_eq hk]; exact List.getElem_mem hk)
    rw [← hus]
    refine loop_intro (VWp_for [34, 35, 36, 37, 41, 42, 43, 44, 45, 46, 47, 48, 40, 49, 50, 6, 7, 51, 52, 53, 54, 55, 56, 57, 58, 59, 60, 61, 62, 63, 64, 65, 66, 67, 68, 69, 70, 71, 72, 73, 74, 75, 76, 77, 78, 79, 80, 81, 82, 83, 84, 85, 86, 87, 88, 89, 90, 91, 92, 93, 2, 38, 39, 5] (fun k : Nat => [(5, .val (.int .i64 k))]) [] (fun _ => []) [] (fun _ => []) (fun _ => sh)
      (fun k => k ≤ us.length ∧ ∀ j, j < k → nameG p i (elm us j) = true) (fun k => us.length - k) 0 ⟨Nat.zero_le _, fun j h => by omega⟩ (by refine ⟨rfl, rfl, rfl, .refl _ _, .refl _ _, .refl _ _, by repeat (first | trivial | rfl | refine ⟨?_, ?_⟩), by repeat (first | trivial | rfl | refine ⟨?_, ?_⟩), by repeat (first | trivial | rfl | refine ⟨?_, ?_⟩), by repeat (first | trivial | exact .inr rfl | exact .inl rfl | refine ⟨?_, ?_⟩), by repeat (first | trivial | exact .inr rfl | exact .inl rfl | refine ⟨?_, ?_⟩), by repeat (first | trivial | exact .inr rfl | exact .inl rfl | refine ⟨?_, ?_⟩), by repeat (first | trivial | exact .inr rfl | exact .inl rfl | refine ⟨?_, ?_⟩)⟩) ?_)
    rintro k ⟨hk, hnk⟩
    refine vCode_sound (tab_ok [L, O, F, U]) _ _ _ ?_
    simp only [Tryz.f64, go_sem, Nat.reduceEqDiff, Nat.reduceLT, Nat.reduceLeDiff, Nat.reduceAdd, Nat.reduceSub, Nat.reduceMul, Nat.reduceBEq, Nat.reduceBNe, Int.reduceEq, Int.reduceToNat, Int.reduceNeg, ↓reduceIte, reduceCtorEq, Nat.reduceDiv, Nat.reduceMod, Int.reduceLE, Int.reduceLT, Int.reduceSub, Int.reduceAdd]
    repeat (first | intro _ | refine And.intro (by (intros; first | omega | (simp only [Bool.or_eq_false_iff, Bool.or_eq_true, decide_eq_false_iff_not, beq_iff_eq, Bool.and_eq_true, decide_eq_true_eq, Bool.not_eq_true'] at *; omega) | simp_all)) ?_)
    refine if_intro _ rfl trivial (fun g => ?_) (fun g => ?_)
    · simp only [decide_eq_true_eq, Int.ofNat_lt] at g
      have hwk : IntKind.i64.wrap ((k : Int) + 1) = ((k + 1 : Nat) : Int) := by rw [wrap64_id (by omega) (by omega)]; rfl
      simp only [Tryz.f64, go_sem, Nat.reduceEqDiff, Nat.reduceLT, Nat.reduceLeDiff, Nat.reduceAdd, Nat.reduceSub, Nat.reduceMul, Nat.reduceBEq, Nat.reduceBNe, Int.reduceEq, Int.reduceToNat, Int.reduceNeg, ↓reduceIte, reduceCtorEq, Nat.reduceDiv, Nat.reduceMod, Int.reduceLE, Int.reduceLT, Int.reduceSub, Int.reduceAdd, g]
      refine draw_intro (tab_ok [L, O, F, U]) mixed [(true, 0), (true, 1), (true, 2), (true, 3), (true, 4), (true, 5), (true, 6), (false, 7), (true, 8), (true, 9), (true, 10), (true, 11), (true, 12)] rfl ?_
      rcases hkk k g with hkd | hkd | hkd
      · simp only [Tryz.f64, go_sem, Nat.reduceEqDiff, Nat.reduceLT, Nat.reduceLeDiff, Nat.reduceAdd, Nat.reduceSub, Nat.reduceMul, Nat.reduceBEq, Nat.reduceBNe, Int.reduceEq, Int.reduceToNat, Int.reduceNeg, ↓reduceIte, reduceCtorEq, Nat.reduceDiv, Nat.reduceMod, Int.reduceLE, Int.reduceLT, Int.reduceSub, Int.reduceAdd, g, ruse, hkd, hF, hsL, hsO, hsF, hsU]
        repeat (first | intro _ | refine And.intro (by (intros; first | omega | (simp only [Bool.or_eq_false_iff, Bool.or_eq_true, decide_eq_false_iff_not, beq_iff_eq, Bool.and_eq_true, decide_eq_true_eq, Bool.not_eq_true'] at *; omega) | simp_all)) ?_)
        refine if_intro _ rfl trivial (fun g2 => ?_) (fun g2 => ?_)
        · simp only [Tryz.f64, go_sem, Nat.reduceEqDiff, Nat.reduceLT, Nat.reduceLeDiff, Nat.reduceAdd, Nat.reduceSub, Nat.reduceMul, Nat.reduceBEq, Nat.reduceBNe, Int.reduceEq, Int.reduceToNat, Int.reduceNeg, ↓reduceIte, reduceCtorEq, Nat.reduceDiv, Nat.reduceMod, Int.reduceLE, Int.reduceLT, Int.reduceSub, Int.reduceAdd]
          have hbad : nameG p i (elm us k) = false := by
            unfold nameG
            simp [hkd] at g2 ⊢; omega
          symm
          rw [Bool.eq_false_iff]
          intro hn
          have h4 := ((named_iff p).1 hn).2 i h
          unfold body16 at h4
          rw [← hus, all_at g hbad, Bool.and_false] at h4
          cases h4
        · simp only [Tryz.f64, go_sem, Nat.reduceEqDiff, Nat.reduceLT, Nat.reduceLeDiff, Nat.reduceAdd, Nat.reduceSub, Nat.reduceMul, Nat.reduceBEq, Nat.reduceBNe, Int.reduceEq, Int.reduceToNat, Int.reduceNeg, ↓reduceIte, reduceCtorEq, Nat.reduceDiv, Nat.reduceMod, Int.reduceLE, Int.reduceLT, Int.reduceSub, Int.reduceAdd, hwk]
          have hgood : nameG p i (elm us k) = true := by
            unfold nameG
            simp [hkd] at g2 ⊢; omega
          refine ⟨k + 1, ⟨g, fun j hj => ?_⟩, by omega, ?_⟩
          · by_cases e : j = k
            · subst e; exact hgood
            · exact hnk j (by omega)
          · refine ⟨rfl, rfl, rfl, by repeat (first | exact AgreeOff.refl _ _ | refine AgreeOff.upd rfl ?_ | refine AgreeOff.over rfl ?_), by repeat (first | exact AgreeOff.refl _ _ | refine AgreeOff.upd rfl ?_ | refine AgreeOff.over rfl ?_), by repeat (first | exact AgreeOff.refl _ _ | refine AgreeOff.upd rfl ?_ | refine AgreeOff.over rfl ?_), ?_, by repeat (first | trivial | exact .inr rfl | exact .inl rfl | refine ⟨?_, ?_⟩), by repeat (first | trivial | exact .inr rfl | exact .inl rfl | refine ⟨?_, ?_⟩), by repeat (first | trivial | exact .inr rfl | exact .inl rfl | refine ⟨?_, ?_⟩), by repeat (first | trivial | exact .inr rfl | exact .inl rfl | refine ⟨?_, ?_⟩), by repeat (first | trivial | exact .inr rfl | exact .inl rfl | refine ⟨?_, ?_⟩), by repeat (first | trivial | exact .inr rfl | exact .inl rfl | refine ⟨?_, ?_⟩)⟩
            exact ⟨rfl, trivial⟩
      · simp only [Tryz.f64, go_sem, Nat.reduceEqDiff, Nat.reduceLT, Nat.reduceLeDiff, Nat.reduceAdd, Nat.reduceSub, Nat.reduceMul, Nat.reduceBEq, Nat.reduceBNe, Int.reduceEq, Int.reduceToNat, Int.reduceNeg, ↓reduceIte, reduceCtorEq, Nat.reduceDiv, Nat.reduceMod, Int.reduceLE, Int.reduceLT, Int.reduceSub, Int.reduceAdd, g, ruse, hkd, hF, hsL, hsO, hsF, hsU]
        repeat (first | intro _ | refine And.intro (by (intros; first | omega | (simp only [Bool.or_eq_false_iff, Bool.or_eq_true, decide_eq_false_iff_not, beq_iff_eq, Bool.and_eq_true, decide_eq_true_eq, Bool.not_eq_true'] at *; omega) | simp_all)) ?_)
        refine if_intro _ rfl trivial (fun g2 => ?_) (fun g2 => ?_)
        · simp only [Tryz.f64, go_sem, Nat.reduceEqDiff, Nat.reduceLT, Nat.reduceLeDiff, Nat.reduceAdd, Nat.reduceSub, Nat.reduceMul, Nat.reduceBEq, Nat.reduceBNe, Int.reduceEq, Int.reduceToNat, Int.reduceNeg, ↓reduceIte, reduceCtorEq, Nat.reduceDiv, Nat.reduceMod, Int.reduceLE, Int.reduceLT, Int.reduceSub, Int.reduceAdd]
          have hbad : nameG p i (elm us k) = false := by
            unfold nameG
            simp [hkd] at g2 ⊢; omega
          symm
          rw [Bool.eq_false_iff]
          intro hn
          have h4 := ((named_iff p).1 hn).2 i h
          unfold body16 at h4
          rw [← hus, all_at g hbad, Bool.and_false] at h4
          cases h4
        · simp only [Tryz.f64, go_sem, Nat.reduceEqDiff, Nat.reduceLT, Nat.reduceLeDiff, Nat.reduceAdd, Nat.reduceSub, Nat.reduceMul, Nat.reduceBEq, Nat.reduceBNe, Int.reduceEq, Int.reduceToNat, Int.reduceNeg, ↓reduceIte, reduceCtorEq, Nat.reduceDiv, Nat.reduceMod, Int.reduceLE, Int.reduceLT, Int.reduceSub, Int.reduceAdd, hwk]
          have hgood : nameG p i (elm us k) = true := by
            unfold nameG
            simp [hkd] at g2 ⊢; omega
          refine ⟨k + 1, ⟨g, fun j hj => ?_⟩, by omega, ?_⟩
          · by_cases e : j = k
            · subst e; exact hgood
            · exact hnk j (by omega)
          · refine ⟨rfl, rfl, rfl, by repeat (first | exact AgreeOff.refl _ _ | refine AgreeOff.upd rfl ?_ | refine AgreeOff.over rfl ?_), by repeat (first | exact AgreeOff.refl _ _ | refine AgreeOff.upd rfl ?_ | refine AgreeOff.over rfl ?_), by repeat (first | exact AgreeOff.refl _ _ | refine AgreeOff.upd rfl ?_ | refine AgreeOff.over rfl ?_), ?_, by repeat (first | trivial | exact .inr rfl | exact .inl rfl | refine ⟨?_, ?_⟩), by repeat (first | trivial | exact .inr rfl | exact .inl rfl | refine ⟨?_, ?_⟩), by repeat (first | trivial | exact .inr rfl | exact .inl rfl | refine ⟨?_, ?_⟩), by repeat (first | trivial | exact .inr rfl | exact .inl rfl | refine ⟨?_, ?_⟩), by repeat (first | trivial | exact .inr rfl | exact .inl rfl | refine ⟨?_, ?_⟩), by repeat (first | trivial | exact .inr rfl | exact .inl rfl | refine ⟨?_, ?_⟩)⟩
            exact ⟨rfl, trivial⟩
      · simp only [Tryz.f64, go_sem, Nat.reduceEqDiff, Nat.reduceLT, Nat.reduceLeDiff, Nat.reduceAdd, Nat.reduceSub, Nat.reduceMul, Nat.reduceBEq, Nat.reduceBNe, Int.reduceEq, Int.reduceToNat, Int.reduceNeg, ↓reduceIte, reduceCtorEq, Nat.reduceDiv, Nat.reduceMod, Int.reduceLE, Int.reduceLT, Int.reduceSub, Int.reduceAdd, g, ruse, hkd, hF, hsL, hsO, hsF, hsU]
        repeat (first | intro _ | refine And.intro (by (intros; first | omega | (simp only [Bool.or_eq_false_iff, Bool.or_eq_true, decide_eq_false_iff_not, beq_iff_eq, Bool.and_eq_true, decide_eq_true_eq, Bool.not_eq_true'] at *; omega) | simp_all)) ?_)
        refine if_intro _ rfl trivial (fun g2 => ?_) (fun g2 => ?_)
        · simp only [Tryz.f64, go_sem, Nat.reduceEqDiff, Nat.reduceLT, Nat.reduceLeDiff, Nat.reduceAdd, Nat.reduceSub, Nat.reduceMul, Nat.reduceBEq, Nat.reduceBNe, Int.reduceEq, Int.reduceToNat, Int.reduceNeg, ↓reduceIte, reduceCtorEq, Nat.reduceDiv, Nat.reduceMod, Int.reduceLE, Int.reduceLT, Int.reduceSub, Int.reduceAdd]
          have hbad : nameG p i (elm us k) = false := by
            unfold nameG
            simp [hkd] at g2 ⊢; omega
          symm
          rw [Bool.eq_false_iff]
          intro hn
          have h4 := ((named_iff p).1 hn).2 i h
          unfold body16 at h4
          rw [← hus, all_at g hbad, Bool.and_false] at h4
          cases h4
        · simp only [Tryz.f64, go_sem, Nat.reduceEqDiff, Nat.reduceLT, Nat.reduceLeDiff, Nat.reduceAdd, Nat.reduceSub, Nat.reduceMul, Nat.reduceBEq, Nat.reduceBNe, Int.reduceEq, Int.reduceToNat, Int.reduceNeg, ↓reduceIte, reduceCtorEq, Nat.reduceDiv, Nat.reduceMod, Int.reduceLE, Int.reduceLT, Int.reduceSub, Int.reduceAdd, hwk]
          have hgood : nameG p i (elm us k) = true := by
            unfold nameG
            simp [hkd] at g2 ⊢; omega
          refine ⟨k + 1, ⟨g, fun j hj => ?_⟩, by omega, ?_⟩
          · by_cases e : j = k
            · subst e; exact hgood
            · exact hnk j (by omega)
          · refine ⟨rfl, rfl, rfl, by repeat (first | exact AgreeOff.refl _ _ | refine AgreeOff.upd rfl ?_ | refine AgreeOff.over rfl ?_), by repeat (first | exact AgreeOff.refl _ _ | refine AgreeOff.upd rfl ?_ | refine AgreeOff.over rfl ?_), by repeat (first | exact AgreeOff.refl _ _ | refine AgreeOff.upd rfl ?_ | refine AgreeOff.over rfl ?_), ?_, by repeat (first | trivial | exact .inr rfl | exact .inl rfl | refine ⟨?_, ?_⟩), by repeat (first | trivial | exact .inr rfl | exact .inl rfl | refine ⟨?_, ?_⟩), by repeat (first | trivial | exact .inr rfl | exact .inl rfl | refine ⟨?_, ?_⟩), by repeat (first | trivial | exact .inr rfl | exact .inl rfl | refine ⟨?_, ?_⟩), by repeat (first | trivial | exact .inr rfl | exact .inl rfl | refine ⟨?_, ?_⟩), by repeat (first | trivial | exact .inr rfl | exact .inl rfl | refine ⟨?_, ?_⟩)⟩
            exact ⟨rfl, trivial⟩
    · simp only [decide_eq_false_iff_not, Int.ofNat_lt] at g
      simp only [Tryz.f64, go_sem, Nat.reduceEqDiff, Nat.reduceLT, Nat.reduceLeDiff, Nat.reduceAdd, Nat.reduceSub, Nat.reduceMul, Nat.reduceBEq, Nat.reduceBNe, Int.reduceEq, Int.reduceToNat, Int.reduceNeg, ↓reduceIte, reduceCtorEq, Nat.reduceDiv, Nat.reduceMod, Int.reduceLE, Int.reduceLT, Int.reduceSub, Int.reduceAdd, hw]
      have hall : us.all (nameG p i) = true := all_of fun j hj => hnk j (by omega)
      refine ⟨i + 1, ⟨h, fun j hj => ?_⟩, by omega, ?_⟩
      · by_cases e : j = i
        · subst e
          unfold body16
          rw [hlone, ← hus, hall]
          rfl
        · exact hne j (by omega)
      · refine ⟨rfl, rfl, rfl, by repeat (first | exact AgreeOff.refl _ _ | refine AgreeOff.upd rfl ?_ | refine AgreeOff.over rfl ?_), by repeat (first | exact AgreeOff.refl _ _ | refine AgreeOff.upd rfl ?_ | refine AgreeOff.over rfl ?_), by repeat (first | exact AgreeOff.refl _ _ | refine AgreeOff.upd rfl ?_ | refine AgreeOff.over rfl ?_), ?_, by repeat (first | trivial | exact .inr rfl | exact .inl rfl | refine ⟨?_, ?_⟩), by repeat (first | trivial | exact .inr rfl | exact .inl rfl | refine ⟨?_, ?_⟩), by repeat (first | trivial | exact .inr rfl | exact .inl rfl | refine ⟨?_, ?_⟩), by repeat (first | trivial | exact .inr rfl | exact .inl rfl | refine ⟨?_, ?_⟩), by repeat (first | trivial | exact .inr rfl | exact .inl rfl | refine ⟨?_, ?_⟩), by repeat (first | trivial | exact .inr rfl | exact .inl rfl | refine ⟨?_, ?_⟩)⟩
        exact ⟨rfl, trivial⟩
  · simp only [decide_eq_false_iff_not, Int.ofNat_lt] at h
    simp only [Tryz.f64, go_sem, Nat.reduceEqDiff, Nat.reduceLT, Nat.reduceLeDiff, Nat.reduceAdd, Nat.reduceSub, Nat.reduceMul, Nat.reduceBEq, Nat.reduceBNe, Int.reduceEq, Int.reduceToNat, Int.reduceNeg, ↓reduceIte, reduceCtorEq, Nat.reduceDiv, Nat.reduceMod, Int.reduceLE, Int.reduceLT, Int.reduceSub, Int.reduceAdd]
    exact ((named_iff p).2 ⟨h0, fun j hj => hne j (by omega)⟩).symm
end Go.Proofs.YtaackmiajgapoaaGreatDoor.V
