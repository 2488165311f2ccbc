/- Which expressions may be, by the program (syntax): with their parts. -/
import Derived.Test.YtaackmiajgapoaaGreatDoorD23
set_option maxRecDepth 100000
set_option maxHeartbeats 16000000
set_option linter.unusedSimpArgs false
set_option linter.unusedVariables false
namespace Go.Proofs.YtaackmiajgapoaaGreatDoor.V
open Go
variable {G : Nat → Option (List PV)}

theorem lt_notI (n m : Int) : decide (m < n) = !decide (n ≤ m) := by
  by_cases h : n ≤ m
  · rw [decide_eq_true h, decide_eq_false (by omega)]; rfl
  · rw [decide_eq_false h, decide_eq_true (by omega)]; rfl
mutual
def rightI : Int → Ex → Bool
  | lev, .mk k o n s l => decide (lev ≤ 24) && formE k o n s l.length && rightIs (IntKind.i64.wrap (lev + 1)) l
def rightIs : Int → List Ex → Bool
  | _, [] => true
  | lev, e :: r => rightI lev e && rightIs lev r
end
theorem rightIs_all (lev : Int) : ∀ l : List Ex, rightIs lev l = l.all (rightI lev)
  | [] => rfl
  | e :: r => by rw [rightIs, rightIs_all lev r]; rfl
theorem rightI_eq (lev : Int) (e : Ex) : rightI lev e = (decide (lev ≤ 24) && formE e.kind e.op e.num e.name e.kids.length && e.kids.all (rightI (IntKind.i64.wrap (lev + 1)))) := by
  cases e with | mk k o n s l => rw [rightI, rightIs_all]; rfl
theorem wrap_lev {lev : Nat} (h : lev ≤ 25) : IntKind.i64.wrap ((lev : Int) + 1) = ((lev + 1 : Nat) : Int) := by rw [wrap64_id (by omega) (by omega)]; rfl
theorem dec_lev (lev : Nat) : decide ((lev : Int) ≤ 24) = decide (lev ≤ 24) := by
  by_cases h : lev ≤ 24
  · rw [decide_eq_true h, decide_eq_true (by omega)]
  · rw [decide_eq_false h, decide_eq_false (by omega)]
mutual
theorem rightI_nat : ∀ (e : Ex) (lev : Nat), lev ≤ 25 → rightI lev e = rightE lev e
  | .mk k o n s l, lev, h => by
    rw [rightI, rightE, dec_lev]
    by_cases h2 : lev ≤ 24
    · rw [wrap_lev h, rightIs_nat l (lev + 1) (by omega)]
    · rw [decide_eq_false h2]; rfl
theorem rightIs_nat : ∀ (l : List Ex) (lev : Nat), lev ≤ 25 → rightIs lev l = rightEs lev l
  | [], _, _ => rfl
  | e :: r, lev, h => by rw [rightIs, rightEs, rightI_nat e lev h, rightIs_nat r lev h]
end
theorem synExpr_step (hG : GOk G) (n : Nat) (IH : ∀ (e : Ex) (lev : Int), szE e < n → VPure Tryz.prog G 89 [.agg (encE e), .val (.int .i64 lev)] (.val (.bool (rightI lev e)))) (e : Ex) (lev : Int) (hl : szE e ≤ n) :
    VPure Tryz.prog G 89 [.agg (encE e), .val (.int .i64 lev)] (.val (.bool (rightI lev e))) := by
  have hk : ∀ i, i < e.kids.length → szE (elm e.kids i) < n := fun i h => Nat.lt_of_lt_of_le (szE_kids e i h) hl
  obtain ⟨R, hR0, hs⟩ := mkRule (P := Tryz.prog) (G := G) 89 (Ex × Int) (fun x => [.agg (encE x.1), .val (.int .i64 x.2)]) (fun x => .val (.bool (rightI x.2 x.1))) (fun x => szE x.1 < n)
    (by rintro ⟨a, b⟩ ⟨c, d⟩ h; simp only [List.cons.injEq, PV.agg.injEq, PV.val.injEq, Value.int.injEq, encE_iff, true_and, and_true] at h; simp only [h]) (fun x h => IH x.1 x.2 h)
  have hR : ∀ tl (i : Nat) (lev : Int) sh, i < e.kids.length → tab (R :: tl) 89 [.agg [.val (.int .i64 (elm e.kids i).kind), .val (.int .i64 (elm e.kids i).op), .val (.int .u32 (elm e.kids i).num), .val (.string (elm e.kids i).name), .slice ((elm e.kids i).kids.map encE)], .val (.int .i64 lev)] sh = some (.val (.bool (rightI lev (elm e.kids i))), sh) := by
    intro tl i lev sh h
    have := hR0 tl (elm e.kids i, lev) sh (hk i h)
    simpa only [encE_eq] using this
  clear hR0
  obtain ⟨F, hF, hs2⟩ := pureRule (exprForm_c hG e)
  rw [encE_eq] at hF
  refine VPure.of (.val _) fun sh => ?_
  refine VCalls_enter [] Tryz.func89 rfl (show 2 ≤ 27 by decide) ?_
  refine vCode_sound (tab_ok [F, R]) _ _ _ ?_
  rw [rightI_eq]
  simp only [Tryz.f89, go_sem, Nat.reduceEqDiff, Nat.reduceLT, Nat.reduceLeDiff, Nat.reduceAdd, Nat.reduceSub, Nat.reduceMul, Nat.reduceBEq, Nat.reduceBNe, Int.reduceEq, Int.reduceToNat, Int.reduceNeg, ↓reduceIte, reduceCtorEq, Nat.reduceDiv, Nat.reduceMod, Int.reduceLE, Int.reduceLT, Int.reduceSub, Int.reduceAdd, hF]
  refine if_intro _ rfl trivial (fun h1 => ?_) (fun h1 => ?_)
  · simp only [Tryz.f89, go_sem, Nat.reduceEqDiff, Nat.reduceLT, Nat.reduceLeDiff, Nat.reduceAdd, Nat.reduceSub, Nat.reduceMul, Nat.reduceBEq, Nat.reduceBNe, Int.reduceEq, Int.reduceToNat, Int.reduceNeg, ↓reduceIte, reduceCtorEq, Nat.reduceDiv, Nat.reduceMod, Int.reduceLE, Int.reduceLT, Int.reduceSub, Int.reduceAdd]
    revert h1
    rw [show decide (24 < lev) = !decide (lev ≤ 24) from lt_notI _ _]
    generalize decide (lev ≤ 24) = y0
    generalize formE e.kind e.op e.num e.name e.kids.length = y1
    revert y0 y1
    cases e.kids.all (rightI (IntKind.i64.wrap (lev + 1))) <;> decide
  · have h3 : lev ≤ 24 ∧ formE e.kind e.op e.num e.name e.kids.length = true := by
      simp only [Bool.or_eq_false_iff, decide_eq_false_iff_not, Bool.not_eq_false'] at h1
      exact ⟨by omega, h1.2⟩
    rw [decide_eq_true h3.1, h3.2, Bool.true_and, Bool.true_and]
    simp only [Tryz.f89, go_sem, Nat.reduceEqDiff, Nat.reduceLT, Nat.reduceLeDiff, Nat.reduceAdd, Nat.reduceSub, Nat.reduceMul, Nat.reduceBEq, Nat.reduceBNe, Int.reduceEq, Int.reduceToNat, Int.reduceNeg, ↓reduceIte, reduceCtorEq, Nat.reduceDiv, Nat.reduceMod, Int.reduceLE, Int.reduceLT, Int.reduceSub, Int.reduceAdd]
    repeat (first | intro _ | refine And.intro (by (intros; first | omega | (simp only [Bool.or_eq_false_iff, Bool.or_eq_true, decide_eq_false_iff_not, beq_iff_eq, Bool.and_eq_true, decide_eq_true_eq, Bool.not_eq_true'] at *; omega) | simp_all)) ?_)
    refine loop_intro (VWp_for [18, 19, 20, 6, 21, 22, 23, 24, 25, 4, 26, 17] (fun i : Nat => [(17, .val (.int .i64 i))]) [6] (fun _ => []) [] (fun _ => []) (fun _ => sh)
      (fun i => i ≤ e.kids.length ∧ ∀ j, j < i → rightI (IntKind.i64.wrap (lev + 1)) (elm e.kids j) = true) (fun i => e.kids.length - i) 0 ⟨Nat.zero_le _, fun j h => by omega⟩ (by refine ⟨rfl, rfl, rfl, .refl _ _, .refl _ _, .refl _ _, by repeat (first | trivial | rfl | refine ⟨?_, ?_⟩), by repeat (first | trivial | rfl | refine ⟨?_, ?_⟩), by repeat (first | trivial | rfl | refine ⟨?_, ?_⟩), by repeat (first | trivial | exact .inr rfl | exact .inl rfl | refine ⟨?_, ?_⟩), by repeat (first | trivial | exact .inr rfl | exact .inl rfl | refine ⟨?_, ?_⟩), by repeat (first | trivial | exact .inr rfl | exact .inl rfl | refine ⟨?_, ?_⟩), by repeat (first | trivial | exact .inr rfl | exact .inl rfl | refine ⟨?_, ?_⟩)⟩) ?_)
    rintro i ⟨hi, hne⟩
    refine vCode_sound (tab_ok [F, R]) _ _ _ ?_
    simp only [Tryz.f89, go_sem, Nat.reduceEqDiff, Nat.reduceLT, Nat.reduceLeDiff, Nat.reduceAdd, Nat.reduceSub, Nat.reduceMul, Nat.reduceBEq, Nat.reduceBNe, Int.reduceEq, Int.reduceToNat, Int.reduceNeg, ↓reduceIte, reduceCtorEq, Nat.reduceDiv, Nat.reduceMod, Int.reduceLE, Int.reduceLT, Int.reduceSub, Int.reduceAdd]
    repeat (first | intro _ | refine And.intro (by (intros; first | omega | (simp only [Bool.or_eq_false_iff, Bool.or_eq_true, decide_eq_false_iff_not, beq_iff_eq, Bool.and_eq_true, decide_eq_true_eq, Bool.not_eq_true'] at *; omega) | simp_all)) ?_)
    refine if_intro _ rfl trivial (fun h => ?_) (fun h => ?_)
    · simp only [decide_eq_true_eq, Int.ofNat_lt] at h
      have hw : IntKind.i64.wrap ((i : Int) + 1) = ((i + 1 : Nat) : Int) := by rw [wrap64_id (by omega) (by omega)]; rfl
      simp only [Tryz.f89, go_sem, Nat.reduceEqDiff, Nat.reduceLT, Nat.reduceLeDiff, Nat.reduceAdd, Nat.reduceSub, Nat.reduceMul, Nat.reduceBEq, Nat.reduceBNe, Int.reduceEq, Int.reduceToNat, Int.reduceNeg, ↓reduceIte, reduceCtorEq, Nat.reduceDiv, Nat.reduceMod, Int.reduceLE, Int.reduceLT, Int.reduceSub, Int.reduceAdd, h, hR, hs2]
      repeat (first | intro _ | refine And.intro (by (intros; first | omega | (simp only [Bool.or_eq_false_iff, Bool.or_eq_true, decide_eq_false_iff_not, beq_iff_eq, Bool.and_eq_true, decide_eq_true_eq, Bool.not_eq_true'] at *; omega) | simp_all)) ?_)
      refine if_intro _ rfl trivial (fun h2 => ?_) (fun h2 => ?_)
      · simp only [Tryz.f89, go_sem, Nat.reduceEqDiff, Nat.reduceLT, Nat.reduceLeDiff, Nat.reduceAdd, Nat.reduceSub, Nat.reduceMul, Nat.reduceBEq, Nat.reduceBNe, Int.reduceEq, Int.reduceToNat, Int.reduceNeg, ↓reduceIte, reduceCtorEq, Nat.reduceDiv, Nat.reduceMod, Int.reduceLE, Int.reduceLT, Int.reduceSub, Int.reduceAdd]
        exact (all_at h (by simpa using h2)).symm
      · simp only [Tryz.f89, go_sem, Nat.reduceEqDiff, Nat.reduceLT, Nat.reduceLeDiff, Nat.reduceAdd, Nat.reduceSub, Nat.reduceMul, Nat.reduceBEq, Nat.reduceBNe, Int.reduceEq, Int.reduceToNat, Int.reduceNeg, ↓reduceIte, reduceCtorEq, Nat.reduceDiv, Nat.reduceMod, Int.reduceLE, Int.reduceLT, Int.reduceSub, Int.reduceAdd, hw]
        refine ⟨i + 1, ⟨h, fun j hj => ?_⟩, by omega, ?_⟩
        · by_cases e' : j = i
          · subst e'; simpa using h2
          · exact hne j (by omega)
        · refine ⟨rfl, rfl, rfl, by repeat (first | exact AgreeOff.refl _ _ | refine AgreeOff.upd rfl ?_ | refine AgreeOff.over rfl ?_), by repeat (first | exact AgreeOff.refl _ _ | refine AgreeOff.upd rfl ?_ | refine AgreeOff.over rfl ?_), by repeat (first | exact AgreeOff.refl _ _ | refine AgreeOff.upd rfl ?_ | refine AgreeOff.over rfl ?_), ?_, by repeat (first | trivial | exact .inr rfl | exact .inl rfl | refine ⟨?_, ?_⟩), by repeat (first | trivial | exact .inr rfl | exact .inl rfl | refine ⟨?_, ?_⟩), by repeat (first | trivial | exact .inr rfl | exact .inl rfl | refine ⟨?_, ?_⟩), by repeat (first | trivial | exact .inr rfl | exact .inl rfl | refine ⟨?_, ?_⟩), by repeat (first | trivial | exact .inr rfl | exact .inl rfl | refine ⟨?_, ?_⟩), by repeat (first | trivial | exact .inr rfl | exact .inl rfl | refine ⟨?_, ?_⟩)⟩
          exact ⟨rfl, trivial⟩
    · simp only [decide_eq_false_iff_not, Int.ofNat_lt] at h
      simp only [Tryz.f89, go_sem, Nat.reduceEqDiff, Nat.reduceLT, Nat.reduceLeDiff, Nat.reduceAdd, Nat.reduceSub, Nat.reduceMul, Nat.reduceBEq, Nat.reduceBNe, Int.reduceEq, Int.reduceToNat, Int.reduceNeg, ↓reduceIte, reduceCtorEq, Nat.reduceDiv, Nat.reduceMod, Int.reduceLE, Int.reduceLT, Int.reduceSub, Int.reduceAdd]
      exact (all_of fun j hj => hne j (by omega)).symm
theorem synExpr_ind (hG : GOk G) : ∀ (n : Nat) (e : Ex) (lev : Int), szE e < n → VPure Tryz.prog G 89 [.agg (encE e), .val (.int .i64 lev)] (.val (.bool (rightI lev e)))
  | 0, _, _, h => by omega
  | n + 1, e, lev, h => synExpr_step hG n (fun e lev h => synExpr_ind hG n e lev h) e lev (by omega)
theorem synExpr_c (hG : GOk G) (e : Ex) (lev : Int) : VPure Tryz.prog G 89 [.agg (encE e), .val (.int .i64 lev)] (.val (.bool (rightI lev e))) := synExpr_ind hG (szE e + 1) e lev (by omega)

theorem stmtForm_c (hG : GOk G) (e : St) : VPure Tryz.prog G 88 [.agg (encS e)] (.val (.bool (formS e.kind e.name e.e.length e.thn.length e.els.length))) := by
  obtain ⟨R, hR, hs⟩ := pureRule (name_c hG e.name)
  have hE := nameB_empty e.name
  refine VPure.of (.val _) fun sh => ?_
  refine VCalls_enter [] Tryz.func88 rfl (show 1 ≤ 83 by decide) ?_
  refine vCode_sound (tab_ok [R]) _ _ _ ?_
  have hkind : e.kind = 1 ∨ e.kind = 2 ∨ e.kind = 3 ∨ e.kind = 4 ∨ e.kind = 5 ∨ e.kind = 6 ∨ e.kind = 7 ∨ (¬ e.kind = 1 ∧ ¬ e.kind = 2 ∧ ¬ e.kind = 3 ∧ ¬ e.kind = 4 ∧ ¬ e.kind = 5 ∧ ¬ e.kind = 6 ∧ ¬ e.kind = 7) := by omega
  rcases hkind with hk | hk | hk | hk | hk | hk | hk | ⟨k1, k2, k3, k4, k5, k6, k7⟩
  · rw [hk]
    unfold formS namedS aritySt
    simp only [Tryz.f88, go_sem, Nat.reduceEqDiff, Nat.reduceLT, Nat.reduceLeDiff, Nat.reduceAdd, Nat.reduceSub, Nat.reduceMul, Nat.reduceBEq, Nat.reduceBNe, Int.reduceEq, Int.reduceToNat, Int.reduceNeg, ↓reduceIte, reduceCtorEq, Nat.reduceDiv, Nat.reduceMod, Int.reduceLE, Int.reduceLT, Int.reduceSub, Int.reduceAdd, hk, hR]
    repeat (first | intro _ | refine And.intro (by (intros; first | omega | (simp only [Bool.or_eq_false_iff, Bool.or_eq_true, decide_eq_false_iff_not, beq_iff_eq, Bool.and_eq_true, decide_eq_true_eq, Bool.not_eq_true'] at *; omega) | simp_all)) ?_)
    refine if_intro _ rfl trivial (fun h1 => ?_) (fun h1 => ?_)
    · simp only [Tryz.f88, go_sem, Nat.reduceEqDiff, Nat.reduceLT, Nat.reduceLeDiff, Nat.reduceAdd, Nat.reduceSub, Nat.reduceMul, Nat.reduceBEq, Nat.reduceBNe, Int.reduceEq, Int.reduceToNat, Int.reduceNeg, ↓reduceIte, reduceCtorEq, Nat.reduceDiv, Nat.reduceMod, Int.reduceLE, Int.reduceLT, Int.reduceSub, Int.reduceAdd, hk]
      revert h1 hE
      try simp only [lt_not]
      generalize decide (e.name = ⟨#[]⟩) = y0
      generalize nameB e.name = y1
      generalize decide (e.els.length ≤ 0) = y2
      generalize decide (e.thn.length ≤ 0) = y3
      generalize decide (e.e.length = 1) = y4
      revert y0 y1 y2 y3 y4
      decide
    simp only [Tryz.f88, go_sem, Nat.reduceEqDiff, Nat.reduceLT, Nat.reduceLeDiff, Nat.reduceAdd, Nat.reduceSub, Nat.reduceMul, Nat.reduceBEq, Nat.reduceBNe, Int.reduceEq, Int.reduceToNat, Int.reduceNeg, ↓reduceIte, reduceCtorEq, Nat.reduceDiv, Nat.reduceMod, Int.reduceLE, Int.reduceLT, Int.reduceSub, Int.reduceAdd, hk, hR]
    repeat (first | intro _ | refine And.intro (by (intros; first | omega | (simp only [Bool.or_eq_false_iff, Bool.or_eq_true, decide_eq_false_iff_not, beq_iff_eq, Bool.and_eq_true, decide_eq_true_eq, Bool.not_eq_true'] at *; omega) | simp_all)) ?_)
    refine if_intro _ rfl trivial (fun h2 => ?_) (fun h2 => ?_)
    · simp only [Tryz.f88, go_sem, Nat.reduceEqDiff, Nat.reduceLT, Nat.reduceLeDiff, Nat.reduceAdd, Nat.reduceSub, Nat.reduceMul, Nat.reduceBEq, Nat.reduceBNe, Int.reduceEq, Int.reduceToNat, Int.reduceNeg, ↓reduceIte, reduceCtorEq, Nat.reduceDiv, Nat.reduceMod, Int.reduceLE, Int.reduceLT, Int.reduceSub, Int.reduceAdd, hk]
      revert h1 h2 hE
      try simp only [lt_not]
      generalize decide (e.name = ⟨#[]⟩) = y0
      generalize nameB e.name = y1
      generalize decide (e.els.length ≤ 0) = y2
      generalize decide (e.thn.length ≤ 0) = y3
      generalize decide (e.e.length = 1) = y4
      revert y0 y1 y2 y3 y4
      decide
    simp only [Tryz.f88, go_sem, Nat.reduceEqDiff, Nat.reduceLT, Nat.reduceLeDiff, Nat.reduceAdd, Nat.reduceSub, Nat.reduceMul, Nat.reduceBEq, Nat.reduceBNe, Int.reduceEq, Int.reduceToNat, Int.reduceNeg, ↓reduceIte, reduceCtorEq, Nat.reduceDiv, Nat.reduceMod, Int.reduceLE, Int.reduceLT, Int.reduceSub, Int.reduceAdd, hk, hR]
    repeat (first | intro _ | refine And.intro (by (intros; first | omega | (simp only [Bool.or_eq_false_iff, Bool.or_eq_true, decide_eq_false_iff_not, beq_iff_eq, Bool.and_eq_true, decide_eq_true_eq, Bool.not_eq_true'] at *; omega) | simp_all)) ?_)
    revert h1 h2 hE
    try simp only [lt_not]
    generalize decide (e.name = ⟨#[]⟩) = y0
    generalize nameB e.name = y1
    generalize decide (e.els.length ≤ 0) = y2
    generalize decide (e.thn.length ≤ 0) = y3
    generalize decide (e.e.length = 1) = y4
    revert y0 y1 y2 y3 y4
    decide
  · rw [hk]
    unfold formS namedS aritySt
    simp only [Tryz.f88, go_sem, Nat.reduceEqDiff, Nat.reduceLT, Nat.reduceLeDiff, Nat.reduceAdd, Nat.reduceSub, Nat.reduceMul, Nat.reduceBEq, Nat.reduceBNe, Int.reduceEq, Int.reduceToNat, Int.reduceNeg, ↓reduceIte, reduceCtorEq, Nat.reduceDiv, Nat.reduceMod, Int.reduceLE, Int.reduceLT, Int.reduceSub, Int.reduceAdd, hk, hR]
    repeat (first | intro _ | refine And.intro (by (intros; first | omega | (simp only [Bool.or_eq_false_iff, Bool.or_eq_true, decide_eq_false_iff_not, beq_iff_eq, Bool.and_eq_true, decide_eq_true_eq, Bool.not_eq_true'] at *; omega) | simp_all)) ?_)
    refine if_intro _ rfl trivial (fun h1 => ?_) (fun h1 => ?_)
    · simp only [Tryz.f88, go_sem, Nat.reduceEqDiff, Nat.reduceLT, Nat.reduceLeDiff, Nat.reduceAdd, Nat.reduceSub, Nat.reduceMul, Nat.reduceBEq, Nat.reduceBNe, Int.reduceEq, Int.reduceToNat, Int.reduceNeg, ↓reduceIte, reduceCtorEq, Nat.reduceDiv, Nat.reduceMod, Int.reduceLE, Int.reduceLT, Int.reduceSub, Int.reduceAdd, hk]
      revert h1 hE
      try simp only [lt_not]
      generalize decide (e.name = ⟨#[]⟩) = y0
      generalize nameB e.name = y1
      generalize decide (e.els.length ≤ 0) = y2
      generalize decide (e.thn.length ≤ 0) = y3
      generalize decide (e.e.length = 2) = y4
      revert y0 y1 y2 y3 y4
      decide
    simp only [Tryz.f88, go_sem, Nat.reduceEqDiff, Nat.reduceLT, Nat.reduceLeDiff, Nat.reduceAdd, Nat.reduceSub, Nat.reduceMul, Nat.reduceBEq, Nat.reduceBNe, Int.reduceEq, Int.reduceToNat, Int.reduceNeg, ↓reduceIte, reduceCtorEq, Nat.reduceDiv, Nat.reduceMod, Int.reduceLE, Int.reduceLT, Int.reduceSub, Int.reduceAdd, hk, hR]
    repeat (first | intro _ | refine And.intro (by (intros; first | omega | (simp only [Bool.or_eq_false_iff, Bool.or_eq_true, decide_eq_false_iff_not, beq_iff_eq, Bool.and_eq_true, decide_eq_true_eq, Bool.not_eq_true'] at *; omega) | simp_all)) ?_)
    refine if_intro _ rfl trivial (fun h2 => ?_) (fun h2 => ?_)
    · simp only [Tryz.f88, go_sem, Nat.reduceEqDiff, Nat.reduceLT, Nat.reduceLeDiff, Nat.reduceAdd, Nat.reduceSub, Nat.reduceMul, Nat.reduceBEq, Nat.reduceBNe, Int.reduceEq, Int.reduceToNat, Int.reduceNeg, ↓reduceIte, reduceCtorEq, Nat.reduceDiv, Nat.reduceMod, Int.reduceLE, Int.reduceLT, Int.reduceSub, Int.reduceAdd, hk]
      revert h1 h2 hE
      try simp only [lt_not]
      generalize decide (e.name = ⟨#[]⟩) = y0
      generalize nameB e.name = y1
      generalize decide (e.els.length ≤ 0) = y2
      generalize decide (e.thn.length ≤ 0) = y3
      generalize decide (e.e.length = 2) = y4
      revert y0 y1 y2 y3 y4
      decide
    simp only [Tryz.f88, go_sem, Nat.reduceEqDiff, Nat.reduceLT, Nat.reduceLeDiff, Nat.reduceAdd, Nat.reduceSub, Nat.reduceMul, Nat.reduceBEq, Nat.reduceBNe, Int.reduceEq, Int.reduceToNat, Int.reduceNeg, ↓reduceIte, reduceCtorEq, Nat.reduceDiv, Nat.reduceMod, Int.reduceLE, Int.reduceLT, Int.reduceSub, Int.reduceAdd, hk, hR]
    repeat (first | intro _ | refine And.intro (by (intros; first | omega | (simp only [Bool.or_eq_false_iff, Bool.or_eq_true, decide_eq_false_iff_not, beq_iff_eq, Bool.and_eq_true, decide_eq_true_eq, Bool.not_eq_true'] at *; omega) | simp_all)) ?_)
    revert h1 h2 hE
    try simp only [lt_not]
    generalize decide (e.name = ⟨#[]⟩) = y0
    generalize nameB e.name = y1
    generalize decide (e.els.length ≤ 0) = y2
    generalize decide (e.thn.length ≤ 0) = y3
    generalize decide (e.e.length = 2) = y4
    revert y0 y1 y2 y3 y4
    decide
  · rw [hk]
    unfold formS namedS aritySt
    simp only [Tryz.f88, go_sem, Nat.reduceEqDiff, Nat.reduceLT, Nat.reduceLeDiff, Nat.reduceAdd, Nat.reduceSub, Nat.reduceMul, Nat.reduceBEq, Nat.reduceBNe, Int.reduceEq, Int.reduceToNat, Int.reduceNeg, ↓reduceIte, reduceCtorEq, Nat.reduceDiv, Nat.reduceMod, Int.reduceLE, Int.reduceLT, Int.reduceSub, Int.reduceAdd, hk, hR]
    repeat (first | intro _ | refine And.intro (by (intros; first | omega | (simp only [Bool.or_eq_false_iff, Bool.or_eq_true, decide_eq_false_iff_not, beq_iff_eq, Bool.and_eq_true, decide_eq_true_eq, Bool.not_eq_true'] at *; omega) | simp_all)) ?_)
    refine if_intro _ rfl trivial (fun h1 => ?_) (fun h1 => ?_)
    · simp only [Tryz.f88, go_sem, Nat.reduceEqDiff, Nat.reduceLT, Nat.reduceLeDiff, Nat.reduceAdd, Nat.reduceSub, Nat.reduceMul, Nat.reduceBEq, Nat.reduceBNe, Int.reduceEq, Int.reduceToNat, Int.reduceNeg, ↓reduceIte, reduceCtorEq, Nat.reduceDiv, Nat.reduceMod, Int.reduceLE, Int.reduceLT, Int.reduceSub, Int.reduceAdd, hk]
      revert h1 hE
      try simp only [lt_not]
      generalize decide (e.name = ⟨#[]⟩) = y0
      generalize nameB e.name = y1
      generalize decide (e.els.length ≤ 0) = y2
      generalize decide (e.thn.length ≤ 0) = y3
      generalize decide (e.e.length = 1) = y4
      revert y0 y1 y2 y3 y4
      decide
    simp only [Tryz.f88, go_sem, Nat.reduceEqDiff, Nat.reduceLT, Nat.reduceLeDiff, Nat.reduceAdd, Nat.reduceSub, Nat.reduceMul, Nat.reduceBEq, Nat.reduceBNe, Int.reduceEq, Int.reduceToNat, Int.reduceNeg, ↓reduceIte, reduceCtorEq, Nat.reduceDiv, Nat.reduceMod, Int.reduceLE, Int.reduceLT, Int.reduceSub, Int.reduceAdd, hk, hR]
    repeat (first | intro _ | refine And.intro (by (intros; first | omega | (simp only [Bool.or_eq_false_iff, Bool.or_eq_true, decide_eq_false_iff_not, beq_iff_eq, Bool.and_eq_true, decide_eq_true_eq, Bool.not_eq_true'] at *; omega) | simp_all)) ?_)
    refine if_intro _ rfl trivial (fun h2 => ?_) (fun h2 => ?_)
    · simp only [Tryz.f88, go_sem, Nat.reduceEqDiff, Nat.reduceLT, Nat.reduceLeDiff, Nat.reduceAdd, Nat.reduceSub, Nat.reduceMul, Nat.reduceBEq, Nat.reduceBNe, Int.reduceEq, Int.reduceToNat, Int.reduceNeg, ↓reduceIte, reduceCtorEq, Nat.reduceDiv, Nat.reduceMod, Int.reduceLE, Int.reduceLT, Int.reduceSub, Int.reduceAdd, hk]
      revert h1 h2 hE
      try simp only [lt_not]
      generalize decide (e.name = ⟨#[]⟩) = y0
      generalize nameB e.name = y1
      generalize decide (e.els.length ≤ 0) = y2
      generalize decide (e.thn.length ≤ 0) = y3
      generalize decide (e.e.length = 1) = y4
      revert y0 y1 y2 y3 y4
      decide
    simp only [Tryz.f88, go_sem, Nat.reduceEqDiff, Nat.reduceLT, Nat.reduceLeDiff, Nat.reduceAdd, Nat.reduceSub, Nat.reduceMul, Nat.reduceBEq, Nat.reduceBNe, Int.reduceEq, Int.reduceToNat, Int.reduceNeg, ↓reduceIte, reduceCtorEq, Nat.reduceDiv, Nat.reduceMod, Int.reduceLE, Int.reduceLT, Int.reduceSub, Int.reduceAdd, hk, hR]
    repeat (first | intro _ | refine And.intro (by (intros; first | omega | (simp only [Bool.or_eq_false_iff, Bool.or_eq_true, decide_eq_false_iff_not, beq_iff_eq, Bool.and_eq_true, decide_eq_true_eq, Bool.not_eq_true'] at *; omega) | simp_all)) ?_)
    revert h1 h2 hE
    try simp only [lt_not]
    generalize decide (e.name = ⟨#[]⟩) = y0
    generalize nameB e.name = y1
    generalize decide (e.els.length ≤ 0) = y2
    generalize decide (e.thn.length ≤ 0) = y3
    generalize decide (e.e.length = 1) = y4
    revert y0 y1 y2 y3 y4
    decide
  · rw [hk]
    unfold formS namedS aritySt
    simp only [Tryz.f88, go_sem, Nat.reduceEqDiff, Nat.reduceLT, Nat.reduceLeDiff, Nat.reduceAdd, Nat.reduceSub, Nat.reduceMul, Nat.reduceBEq, Nat.reduceBNe, Int.reduceEq, Int.reduceToNat, Int.reduceNeg, ↓reduceIte, reduceCtorEq, Nat.reduceDiv, Nat.reduceMod, Int.reduceLE, Int.reduceLT, Int.reduceSub, Int.reduceAdd, hk, hR]
    repeat (first | intro _ | refine And.intro (by (intros; first | omega | (simp only [Bool.or_eq_false_iff, Bool.or_eq_true, decide_eq_false_iff_not, beq_iff_eq, Bool.and_eq_true, decide_eq_true_eq, Bool.not_eq_true'] at *; omega) | simp_all)) ?_)
    refine if_intro _ rfl trivial (fun h1 => ?_) (fun h1 => ?_)
    · simp only [Tryz.f88, go_sem, Nat.reduceEqDiff, Nat.reduceLT, Nat.reduceLeDiff, Nat.reduceAdd, Nat.reduceSub, Nat.reduceMul, Nat.reduceBEq, Nat.reduceBNe, Int.reduceEq, Int.reduceToNat, Int.reduceNeg, ↓reduceIte, reduceCtorEq, Nat.reduceDiv, Nat.reduceMod, Int.reduceLE, Int.reduceLT, Int.reduceSub, Int.reduceAdd, hk]
      revert h1 hE
      try simp only [lt_not]
      generalize decide (e.name = ⟨#[]⟩) = y0
      generalize nameB e.name = y1
      generalize decide (e.els.length ≤ 0) = y2
      generalize decide (e.thn.length ≤ 0) = y3
      generalize decide (e.e.length = 1) = y4
      revert y0 y1 y2 y3 y4
      decide
    simp only [Tryz.f88, go_sem, Nat.reduceEqDiff, Nat.reduceLT, Nat.reduceLeDiff, Nat.reduceAdd, Nat.reduceSub, Nat.reduceMul, Nat.reduceBEq, Nat.reduceBNe, Int.reduceEq, Int.reduceToNat, Int.reduceNeg, ↓reduceIte, reduceCtorEq, Nat.reduceDiv, Nat.reduceMod, Int.reduceLE, Int.reduceLT, Int.reduceSub, Int.reduceAdd, hk, hR]
    repeat (first | intro _ | refine And.intro (by (intros; first | omega | (simp only [Bool.or_eq_false_iff, Bool.or_eq_true, decide_eq_false_iff_not, beq_iff_eq, Bool.and_eq_true, decide_eq_true_eq, Bool.not_eq_true'] at *; omega) | simp_all)) ?_)
    revert h1 hE
    try simp only [lt_not]
    generalize decide (e.name = ⟨#[]⟩) = y0
    generalize nameB e.name = y1
    generalize decide (e.els.length ≤ 0) = y2
    generalize decide (e.thn.length ≤ 0) = y3
    generalize decide (e.e.length = 1) = y4
    revert y0 y1 y2 y3 y4
    decide
  · rw [hk]
    unfold formS namedS aritySt
    simp only [Tryz.f88, go_sem, Nat.reduceEqDiff, Nat.reduceLT, Nat.reduceLeDiff, Nat.reduceAdd, Nat.reduceSub, Nat.reduceMul, Nat.reduceBEq, Nat.reduceBNe, Int.reduceEq, Int.reduceToNat, Int.reduceNeg, ↓reduceIte, reduceCtorEq, Nat.reduceDiv, Nat.reduceMod, Int.reduceLE, Int.reduceLT, Int.reduceSub, Int.reduceAdd, hk, hR]
    repeat (first | intro _ | refine And.intro (by (intros; first | omega | (simp only [Bool.or_eq_false_iff, Bool.or_eq_true, decide_eq_false_iff_not, beq_iff_eq, Bool.and_eq_true, decide_eq_true_eq, Bool.not_eq_true'] at *; omega) | simp_all)) ?_)
    refine if_intro _ rfl trivial (fun h1 => ?_) (fun h1 => ?_)
    · simp only [Tryz.f88, go_sem, Nat.reduceEqDiff, Nat.reduceLT, Nat.reduceLeDiff, Nat.reduceAdd, Nat.reduceSub, Nat.reduceMul, Nat.reduceBEq, Nat.reduceBNe, Int.reduceEq, Int.reduceToNat, Int.reduceNeg, ↓reduceIte, reduceCtorEq, Nat.reduceDiv, Nat.reduceMod, Int.reduceLE, Int.reduceLT, Int.reduceSub, Int.reduceAdd, hk]
      revert h1 hE
      try simp only [lt_not]
      generalize decide (e.name = ⟨#[]⟩) = y0
      generalize nameB e.name = y1
      generalize decide (e.els.length ≤ 0) = y2
      generalize decide (e.thn.length ≤ 0) = y3
      generalize decide (e.e.length = 1) = y4
      revert y0 y1 y2 y3 y4
      decide
    simp only [Tryz.f88, go_sem, Nat.reduceEqDiff, Nat.reduceLT, Nat.reduceLeDiff, Nat.reduceAdd, Nat.reduceSub, Nat.reduceMul, Nat.reduceBEq, Nat.reduceBNe, Int.reduceEq, Int.reduceToNat, Int.reduceNeg, ↓reduceIte, reduceCtorEq, Nat.reduceDiv, Nat.reduceMod, Int.reduceLE, Int.reduceLT, Int.reduceSub, Int.reduceAdd, hk, hR]
    repeat (first | intro _ | refine And.intro (by (intros; first | omega | (simp only [Bool.or_eq_false_iff, Bool.or_eq_true, decide_eq_false_iff_not, beq_iff_eq, Bool.and_eq_true, decide_eq_true_eq, Bool.not_eq_true'] at *; omega) | simp_all)) ?_)
    refine if_intro _ rfl trivial (fun h2 => ?_) (fun h2 => ?_)
    · simp only [Tryz.f88, go_sem, Nat.reduceEqDiff, Nat.reduceLT, Nat.reduceLeDiff, Nat.reduceAdd, Nat.reduceSub, Nat.reduceMul, Nat.reduceBEq, Nat.reduceBNe, Int.reduceEq, Int.reduceToNat, Int.reduceNeg, ↓reduceIte, reduceCtorEq, Nat.reduceDiv, Nat.reduceMod, Int.reduceLE, Int.reduceLT, Int.reduceSub, Int.reduceAdd, hk]
      revert h1 h2 hE
      try simp only [lt_not]
      generalize decide (e.name = ⟨#[]⟩) = y0
      generalize nameB e.name = y1
      generalize decide (e.els.length ≤ 0) = y2
      generalize decide (e.thn.length ≤ 0) = y3
      generalize decide (e.e.length = 1) = y4
      revert y0 y1 y2 y3 y4
      decide
    simp only [Tryz.f88, go_sem, Nat.reduceEqDiff, Nat.reduceLT, Nat.reduceLeDiff, Nat.reduceAdd, Nat.reduceSub, Nat.reduceMul, Nat.reduceBEq, Nat.reduceBNe, Int.reduceEq, Int.reduceToNat, Int.reduceNeg, ↓reduceIte, reduceCtorEq, Nat.reduceDiv, Nat.reduceMod, Int.reduceLE, Int.reduceLT, Int.reduceSub, Int.reduceAdd, hk, hR]
    repeat (first | intro _ | refine And.intro (by (intros; first | omega | (simp only [Bool.or_eq_false_iff, Bool.or_eq_true, decide_eq_false_iff_not, beq_iff_eq, Bool.and_eq_true, decide_eq_true_eq, Bool.not_eq_true'] at *; omega) | simp_all)) ?_)
    revert h1 h2 hE
    try simp only [lt_not]
    generalize decide (e.name = ⟨#[]⟩) = y0
    generalize nameB e.name = y1
    generalize decide (e.els.length ≤ 0) = y2
    generalize decide (e.thn.length ≤ 0) = y3
    generalize decide (e.e.length = 1) = y4
    revert y0 y1 y2 y3 y4
    decide
  · rw [hk]
    unfold formS namedS aritySt
    simp only [Tryz.f88, go_sem, Nat.reduceEqDiff, Nat.reduceLT, Nat.reduceLeDiff, Nat.reduceAdd, Nat.reduceSub, Nat.reduceMul, Nat.reduceBEq, Nat.reduceBNe, Int.reduceEq, Int.reduceToNat, Int.reduceNeg, ↓reduceIte, reduceCtorEq, Nat.reduceDiv, Nat.reduceMod, Int.reduceLE, Int.reduceLT, Int.reduceSub, Int.reduceAdd, hk, hR]
    repeat (first | intro _ | refine And.intro (by (intros; first | omega | (simp only [Bool.or_eq_false_iff, Bool.or_eq_true, decide_eq_false_iff_not, beq_iff_eq, Bool.and_eq_true, decide_eq_true_eq, Bool.not_eq_true'] at *; omega) | simp_all)) ?_)
    refine if_intro _ rfl trivial (fun h1 => ?_) (fun h1 => ?_)
    · simp only [Tryz.f88, go_sem, Nat.reduceEqDiff, Nat.reduceLT, Nat.reduceLeDiff, Nat.reduceAdd, Nat.reduceSub, Nat.reduceMul, Nat.reduceBEq, Nat.reduceBNe, Int.reduceEq, Int.reduceToNat, Int.reduceNeg, ↓reduceIte, reduceCtorEq, Nat.reduceDiv, Nat.reduceMod, Int.reduceLE, Int.reduceLT, Int.reduceSub, Int.reduceAdd, hk]
      revert h1 hE
      try simp only [lt_not]
      generalize decide (e.name = ⟨#[]⟩) = y0
      generalize nameB e.name = y1
      generalize decide (e.els.length ≤ 0) = y2
      generalize decide (e.thn.length ≤ 0) = y3
      generalize decide (e.e.length ≤ 6) = y4
      revert y0 y1 y2 y3 y4
      decide
    simp only [Tryz.f88, go_sem, Nat.reduceEqDiff, Nat.reduceLT, Nat.reduceLeDiff, Nat.reduceAdd, Nat.reduceSub, Nat.reduceMul, Nat.reduceBEq, Nat.reduceBNe, Int.reduceEq, Int.reduceToNat, Int.reduceNeg, ↓reduceIte, reduceCtorEq, Nat.reduceDiv, Nat.reduceMod, Int.reduceLE, Int.reduceLT, Int.reduceSub, Int.reduceAdd, hk, hR]
    repeat (first | intro _ | refine And.intro (by (intros; first | omega | (simp only [Bool.or_eq_false_iff, Bool.or_eq_true, decide_eq_false_iff_not, beq_iff_eq, Bool.and_eq_true, decide_eq_true_eq, Bool.not_eq_true'] at *; omega) | simp_all)) ?_)
    refine if_intro _ rfl trivial (fun h2 => ?_) (fun h2 => ?_)
    · simp only [Tryz.f88, go_sem, Nat.reduceEqDiff, Nat.reduceLT, Nat.reduceLeDiff, Nat.reduceAdd, Nat.reduceSub, Nat.reduceMul, Nat.reduceBEq, Nat.reduceBNe, Int.reduceEq, Int.reduceToNat, Int.reduceNeg, ↓reduceIte, reduceCtorEq, Nat.reduceDiv, Nat.reduceMod, Int.reduceLE, Int.reduceLT, Int.reduceSub, Int.reduceAdd, hk]
      revert h1 h2 hE
      try simp only [lt_not]
      generalize decide (e.name = ⟨#[]⟩) = y0
      generalize nameB e.name = y1
      generalize decide (e.els.length ≤ 0) = y2
      generalize decide (e.thn.length ≤ 0) = y3
      generalize decide (e.e.length ≤ 6) = y4
      revert y0 y1 y2 y3 y4
      decide
    simp only [Tryz.f88, go_sem, Nat.reduceEqDiff, Nat.reduceLT, Nat.reduceLeDiff, Nat.reduceAdd, Nat.reduceSub, Nat.reduceMul, Nat.reduceBEq, Nat.reduceBNe, Int.reduceEq, Int.reduceToNat, Int.reduceNeg, ↓reduceIte, reduceCtorEq, Nat.reduceDiv, Nat.reduceMod, Int.reduceLE, Int.reduceLT, Int.reduceSub, Int.reduceAdd, hk, hR]
    repeat (first | intro _ | refine And.intro (by (intros; first | omega | (simp only [Bool.or_eq_false_iff, Bool.or_eq_true, decide_eq_false_iff_not, beq_iff_eq, Bool.and_eq_true, decide_eq_true_eq, Bool.not_eq_true'] at *; omega) | simp_all)) ?_)
    revert h1 h2 hE
    try simp only [lt_not]
    generalize decide (e.name = ⟨#[]⟩) = y0
    generalize nameB e.name = y1
    generalize decide (e.els.length ≤ 0) = y2
    generalize decide (e.thn.length ≤ 0) = y3
    generalize decide (e.e.length ≤ 6) = y4
    revert y0 y1 y2 y3 y4
    decide
  · rw [hk]
    unfold formS namedS aritySt
    simp only [Tryz.f88, go_sem, Nat.reduceEqDiff, Nat.reduceLT, Nat.reduceLeDiff, Nat.reduceAdd, Nat.reduceSub, Nat.reduceMul, Nat.reduceBEq, Nat.reduceBNe, Int.reduceEq, Int.reduceToNat, Int.reduceNeg, ↓reduceIte, reduceCtorEq, Nat.reduceDiv, Nat.reduceMod, Int.reduceLE, Int.reduceLT, Int.reduceSub, Int.reduceAdd, hk, hR]
    repeat (first | intro _ | refine And.intro (by (intros; first | omega | (simp only [Bool.or_eq_false_iff, Bool.or_eq_true, decide_eq_false_iff_not, beq_iff_eq, Bool.and_eq_true, decide_eq_true_eq, Bool.not_eq_true'] at *; omega) | simp_all)) ?_)
    refine if_intro _ rfl trivial (fun h1 => ?_) (fun h1 => ?_)
    · simp only [Tryz.f88, go_sem, Nat.reduceEqDiff, Nat.reduceLT, Nat.reduceLeDiff, Nat.reduceAdd, Nat.reduceSub, Nat.reduceMul, Nat.reduceBEq, Nat.reduceBNe, Int.reduceEq, Int.reduceToNat, Int.reduceNeg, ↓reduceIte, reduceCtorEq, Nat.reduceDiv, Nat.reduceMod, Int.reduceLE, Int.reduceLT, Int.reduceSub, Int.reduceAdd, hk]
      revert h1 hE
      try simp only [lt_not]
      generalize decide (e.name = ⟨#[]⟩) = y0
      generalize nameB e.name = y1
      generalize decide (e.els.length ≤ 0) = y2
      generalize decide (e.thn.length ≤ 0) = y3
      generalize decide (e.e.length ≤ 1) = y4
      revert y0 y1 y2 y3 y4
      decide
    simp only [Tryz.f88, go_sem, Nat.reduceEqDiff, Nat.reduceLT, Nat.reduceLeDiff, Nat.reduceAdd, Nat.reduceSub, Nat.reduceMul, Nat.reduceBEq, Nat.reduceBNe, Int.reduceEq, Int.reduceToNat, Int.reduceNeg, ↓reduceIte, reduceCtorEq, Nat.reduceDiv, Nat.reduceMod, Int.reduceLE, Int.reduceLT, Int.reduceSub, Int.reduceAdd, hk, hR]
    repeat (first | intro _ | refine And.intro (by (intros; first | omega | (simp only [Bool.or_eq_false_iff, Bool.or_eq_true, decide_eq_false_iff_not, beq_iff_eq, Bool.and_eq_true, decide_eq_true_eq, Bool.not_eq_true'] at *; omega) | simp_all)) ?_)
    refine if_intro _ rfl trivial (fun h2 => ?_) (fun h2 => ?_)
    · simp only [Tryz.f88, go_sem, Nat.reduceEqDiff, Nat.reduceLT, Nat.reduceLeDiff, Nat.reduceAdd, Nat.reduceSub, Nat.reduceMul, Nat.reduceBEq, Nat.reduceBNe, Int.reduceEq, Int.reduceToNat, Int.reduceNeg, ↓reduceIte, reduceCtorEq, Nat.reduceDiv, Nat.reduceMod, Int.reduceLE, Int.reduceLT, Int.reduceSub, Int.reduceAdd, hk]
      revert h1 h2 hE
      try simp only [lt_not]
      generalize decide (e.name = ⟨#[]⟩) = y0
      generalize nameB e.name = y1
      generalize decide (e.els.length ≤ 0) = y2
      generalize decide (e.thn.length ≤ 0) = y3
      generalize decide (e.e.length ≤ 1) = y4
      revert y0 y1 y2 y3 y4
      decide
    simp only [Tryz.f88, go_sem, Nat.reduceEqDiff, Nat.reduceLT, Nat.reduceLeDiff, Nat.reduceAdd, Nat.reduceSub, Nat.reduceMul, Nat.reduceBEq, Nat.reduceBNe, Int.reduceEq, Int.reduceToNat, Int.reduceNeg, ↓reduceIte, reduceCtorEq, Nat.reduceDiv, Nat.reduceMod, Int.reduceLE, Int.reduceLT, Int.reduceSub, Int.reduceAdd, hk, hR]
    repeat (first | intro _ | refine And.intro (by (intros; first | omega | (simp only [Bool.or_eq_false_iff, Bool.or_eq_true, decide_eq_false_iff_not, beq_iff_eq, Bool.and_eq_true, decide_eq_true_eq, Bool.not_eq_true'] at *; omega) | simp_all)) ?_)
    revert h1 h2 hE
    try simp only [lt_not]
    generalize decide (e.name = ⟨#[]⟩) = y0
    generalize nameB e.name = y1
    generalize decide (e.els.length ≤ 0) = y2
    generalize decide (e.thn.length ≤ 0) = y3
    generalize decide (e.e.length ≤ 1) = y4
    revert y0 y1 y2 y3 y4
    decide
  · unfold formS namedS aritySt
    simp only [k1, k2, k3, k4, k5, k6, k7, decide_false, or_self, if_false]
    simp only [Tryz.f88, go_sem, Nat.reduceEqDiff, Nat.reduceLT, Nat.reduceLeDiff, Nat.reduceAdd, Nat.reduceSub, Nat.reduceMul, Nat.reduceBEq, Nat.reduceBNe, Int.reduceEq, Int.reduceToNat, Int.reduceNeg, ↓reduceIte, reduceCtorEq, Nat.reduceDiv, Nat.reduceMod, Int.reduceLE, Int.reduceLT, Int.reduceSub, Int.reduceAdd, k1, k2, k3, k4, k5, k6, k7, or_self, hR]
    repeat (first | intro _ | refine And.intro (by (intros; first | omega | (simp only [Bool.or_eq_false_iff, Bool.or_eq_true, decide_eq_false_iff_not, beq_iff_eq, Bool.and_eq_true, decide_eq_true_eq, Bool.not_eq_true'] at *; omega) | simp_all)) ?_)
    refine if_intro _ rfl trivial (fun h1 => ?_) (fun h1 => ?_)
    · simp only [Tryz.f88, go_sem, Nat.reduceEqDiff, Nat.reduceLT, Nat.reduceLeDiff, Nat.reduceAdd, Nat.reduceSub, Nat.reduceMul, Nat.reduceBEq, Nat.reduceBNe, Int.reduceEq, Int.reduceToNat, Int.reduceNeg, ↓reduceIte, reduceCtorEq, Nat.reduceDiv, Nat.reduceMod, Int.reduceLE, Int.reduceLT, Int.reduceSub, Int.reduceAdd, k1, k2, k3, k4, k5, k6, k7, or_self]
      revert h1 hE
      try simp only [lt_not]
      generalize decide (e.name = ⟨#[]⟩) = y0
      generalize nameB e.name = y1
      generalize decide (e.els.length ≤ 0) = y2
      generalize decide (e.thn.length ≤ 0) = y3
      revert y0 y1 y2 y3
      decide
    simp only [Tryz.f88, go_sem, Nat.reduceEqDiff, Nat.reduceLT, Nat.reduceLeDiff, Nat.reduceAdd, Nat.reduceSub, Nat.reduceMul, Nat.reduceBEq, Nat.reduceBNe, Int.reduceEq, Int.reduceToNat, Int.reduceNeg, ↓reduceIte, reduceCtorEq, Nat.reduceDiv, Nat.reduceMod, Int.reduceLE, Int.reduceLT, Int.reduceSub, Int.reduceAdd, k1, k2, k3, k4, k5, k6, k7, or_self, hR]
    repeat (first | intro _ | refine And.intro (by (intros; first | omega | (simp only [Bool.or_eq_false_iff, Bool.or_eq_true, decide_eq_false_iff_not, beq_iff_eq, Bool.and_eq_true, decide_eq_true_eq, Bool.not_eq_true'] at *; omega) | simp_all)) ?_)
    refine if_intro _ rfl trivial (fun h2 => ?_) (fun h2 => ?_)
    · simp only [Tryz.f88, go_sem, Nat.reduceEqDiff, Nat.reduceLT, Nat.reduceLeDiff, Nat.reduceAdd, Nat.reduceSub, Nat.reduceMul, Nat.reduceBEq, Nat.reduceBNe, Int.reduceEq, Int.reduceToNat, Int.reduceNeg, ↓reduceIte, reduceCtorEq, Nat.reduceDiv, Nat.reduceMod, Int.reduceLE, Int.reduceLT, Int.reduceSub, Int.reduceAdd, k1, k2, k3, k4, k5, k6, k7, or_self]
      revert h1 h2 hE
      try simp only [lt_not]
      generalize decide (e.name = ⟨#[]⟩) = y0
      generalize nameB e.name = y1
      generalize decide (e.els.length ≤ 0) = y2
      generalize decide (e.thn.length ≤ 0) = y3
      revert y0 y1 y2 y3
      decide
    simp only [Tryz.f88, go_sem, Nat.reduceEqDiff, Nat.reduceLT, Nat.reduceLeDiff, Nat.reduceAdd, Nat.reduceSub, Nat.reduceMul, Nat.reduceBEq, Nat.reduceBNe, Int.reduceEq, Int.reduceToNat, Int.reduceNeg, ↓reduceIte, reduceCtorEq, Nat.reduceDiv, Nat.reduceMod, Int.reduceLE, Int.reduceLT, Int.reduceSub, Int.reduceAdd, k1, k2, k3, k4, k5, k6, k7, or_self, hR]
    repeat (first | intro _ | refine And.intro (by (intros; first | omega | (simp only [Bool.or_eq_false_iff, Bool.or_eq_true, decide_eq_false_iff_not, beq_iff_eq, Bool.and_eq_true, decide_eq_true_eq, Bool.not_eq_true'] at *; omega) | simp_all)) ?_)
    revert h1 h2 hE
    try simp only [lt_not]
    generalize decide (e.name = ⟨#[]⟩) = y0
    generalize nameB e.name = y1
    generalize decide (e.els.length ≤ 0) = y2
    generalize decide (e.thn.length ≤ 0) = y3
    revert y0 y1 y2 y3
    decide
end Go.Proofs.YtaackmiajgapoaaGreatDoor.V
