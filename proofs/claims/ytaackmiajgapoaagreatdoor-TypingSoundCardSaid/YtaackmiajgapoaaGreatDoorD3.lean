/- Which expressions and statements may be (seedcornref14). -/
import Derived.Test.YtaackmiajgapoaaGreatDoorD2
set_option maxHeartbeats 16000000
set_option maxRecDepth 100000
set_option linter.unusedSimpArgs false
set_option linter.unusedVariables false
namespace Go.Proofs.YtaackmiajgapoaaGreatDoor.V
open Go
variable {G : Nat → Option (List PV)}

def namedE (k : Int) : Bool := decide (k = 2) || decide (k = 3) || decide (k = 4)
def arityE (k o : Int) (n : Nat) : Bool :=
  if k = 1 ∨ k = 2 ∨ k = 5 then decide (n = 0)
  else if k = 3 ∨ k = 7 then decide (n = 1)
  else if k = 4 then decide (n ≤ 6)
  else if k = 6 then decide (4 ≤ o) && decide (o ≤ 15) && decide (n = 2)
  else if k = 8 ∨ k = 9 then decide (n = 2) else false
def formE (k o num : Int) (s : ByteArray) (n : Nat) : Bool :=
  (decide (k = 6) || decide (o = 0)) && (decide (k = 1) || decide (num = 0)) && (namedE k == !decide (s = ⟨#[]⟩)) && (!namedE k || nameB s) && arityE k o n
mutual
def rightE : Nat → Ex → Bool
  | lev, .mk k o n s l => decide (lev ≤ 24) && formE k o n s l.length && rightEs (lev + 1) l
def rightEs : Nat → List Ex → Bool
  | _, [] => true
  | lev, e :: r => rightE lev e && rightEs lev r
end
theorem rightEs_all (lev : Nat) : ∀ l : List Ex, rightEs lev l = l.all (rightE lev)
  | [] => rfl
  | e :: r => by rw [rightEs, rightEs_all lev r]; rfl
theorem rightE_eq (lev : Nat) (e : Ex) : rightE lev e = (decide (lev ≤ 24) && formE e.kind e.op e.num e.name e.kids.length && e.kids.all (rightE (lev + 1))) := by
  cases e with | mk k o n s l => rw [rightE, rightEs_all]; rfl

theorem rightExprs_step (n : Nat) (IH : ∀ (e : Ex) (lev : Nat), szE e < n → VPure Tryz.prog G 159 [.agg (encE e), .val (.int .i64 lev)] (.val (.bool (rightE lev e)))) (l : List Ex) (lev : Nat) (hl : ∀ i, i < l.length → szE (elm l i) < n) :
    VPure Tryz.prog G 143 [.slice (l.map encE), .val (.int .i64 lev)] (.val (.bool (l.all (rightE lev)))) := by
  obtain ⟨R, hR0, hs⟩ := mkRule (P := Tryz.prog) (G := G) 159 (Ex × Nat) (fun x => [.agg (encE x.1), .val (.int .i64 x.2)]) (fun x => .val (.bool (rightE x.2 x.1))) (fun x => szE x.1 < n)
    (by rintro ⟨a, b⟩ ⟨c, d⟩ h; simp only [List.cons.injEq, PV.agg.injEq, PV.val.injEq, Value.int.injEq, encE_iff, Int.natCast_inj, true_and, and_true] at h; simp only [h]) (fun x h => IH x.1 x.2 h)
  have hR : ∀ tl (e : Ex) (lev : Nat) sh, szE e < n → tab (R :: tl) 159 [.agg [.val (.int .i64 e.kind), .val (.int .i64 e.op), .val (.int .u32 e.num), .val (.string e.name), .slice (e.kids.map encE)], .val (.int .i64 lev)] sh = some (.val (.bool (rightE lev e)), sh) := by
    intro tl e lev sh h
    have := hR0 tl (e, lev) sh h
    simpa only [encE_eq] using this
  clear hR0
  refine VPure.of (.val _) fun sh => ?_
  refine VCalls_enter [] Tryz.func143 rfl (show 2 ≤ 19 by decide) ?_
  refine vCode_sound (tab_ok [R]) _ _ _ ?_
  simp only [Tryz.f143, go_sem, Nat.reduceEqDiff, Nat.reduceLT, Nat.reduceLeDiff, Nat.reduceAdd, Nat.reduceSub, Nat.reduceMul, Nat.reduceBEq, Nat.reduceBNe, Int.reduceEq, Int.reduceToNat, Int.reduceNeg, ↓reduceIte, reduceCtorEq, Nat.reduceDiv, Nat.reduceMod, Int.reduceLE, Int.reduceLT, Int.reduceSub, Int.reduceAdd]
  refine loop_intro (VWp_for [6, 7, 8, 9, 12, 13, 14, 15, 16, 17, 18, 4, 10, 11, 5] (fun i : Nat => [(5, .val (.int .i64 i))]) [] (fun _ => []) [] (fun _ => []) (fun _ => sh)
    (fun i => i ≤ l.length ∧ ∀ j, j < i → (rightE lev) (elm l j) = true) (fun i => l.length - i) 0 ⟨Nat.zero_le _, fun j h => by omega⟩ (by refine ⟨rfl, rfl, rfl, .refl _ _, .refl _ _, .refl _ _, by repeat (first | trivial | rfl | refine ⟨?_, ?_⟩), by repeat (first | trivial | rfl | refine ⟨?_, ?_⟩), by repeat (first | trivial | rfl | refine ⟨?_, ?_⟩), by repeat (first | trivial | exact .inr rfl | exact .inl rfl | refine ⟨?_, ?_⟩), by repeat (first | trivial | exact .inr rfl | exact .inl rfl | refine ⟨?_, ?_⟩), by repeat (first | trivial | exact .inr rfl | exact .inl rfl | refine ⟨?_, ?_⟩), by repeat (first | trivial | exact .inr rfl | exact .inl rfl | refine ⟨?_, ?_⟩)⟩) ?_)
  rintro i ⟨hi, hne⟩
  refine vCode_sound (tab_ok [R]) _ _ _ ?_
  simp only [Tryz.f143, go_sem, Nat.reduceEqDiff, Nat.reduceLT, Nat.reduceLeDiff, Nat.reduceAdd, Nat.reduceSub, Nat.reduceMul, Nat.reduceBEq, Nat.reduceBNe, Int.reduceEq, Int.reduceToNat, Int.reduceNeg, ↓reduceIte, reduceCtorEq, Nat.reduceDiv, Nat.reduceMod, Int.reduceLE, Int.reduceLT, Int.reduceSub, Int.reduceAdd]
  repeat (first | intro _ | refine And.intro (by (intros; first | omega | (simp only [Bool.or_eq_false_iff, Bool.or_eq_true, decide_eq_false_iff_not, beq_iff_eq, Bool.and_eq_true, decide_eq_true_eq, Bool.not_eq_true'] at *; omega) | simp_all)) ?_)
  refine if_intro _ rfl trivial (fun h => ?_) (fun h => ?_)
  · simp only [decide_eq_true_eq, Int.ofNat_lt] at h
    have hfin : ∀ b, b = (rightE lev) (elm l i) → (b = false → l.all (rightE lev) = false) ∧ (b = true → ∀ j, j < i + 1 → (rightE lev) (elm l j) = true) := fun b hb => ⟨fun e => all_at h (by rw [← hb, e]), fun e j hj => by
      by_cases e' : j = i
      · subst e'; rw [← hb, e]
      · exact hne j (by omega)⟩
    have hw : IntKind.i64.wrap ((i : Int) + 1) = ((i + 1 : Nat) : Int) := by rw [wrap64_id (by omega) (by omega)]; rfl
    simp only [Tryz.f143, go_sem, Nat.reduceEqDiff, Nat.reduceLT, Nat.reduceLeDiff, Nat.reduceAdd, Nat.reduceSub, Nat.reduceMul, Nat.reduceBEq, Nat.reduceBNe, Int.reduceEq, Int.reduceToNat, Int.reduceNeg, ↓reduceIte, reduceCtorEq, Nat.reduceDiv, Nat.reduceMod, Int.reduceLE, Int.reduceLT, Int.reduceSub, Int.reduceAdd, h, hR, hs, hl]
    repeat (first | intro _ | refine And.intro (by (intros; first | omega | (simp only [Bool.or_eq_false_iff, Bool.or_eq_true, decide_eq_false_iff_not, beq_iff_eq, Bool.and_eq_true, decide_eq_true_eq, Bool.not_eq_true'] at *; omega) | simp_all)) ?_)
    refine if_intro _ rfl trivial (fun h2 => ?_) (fun h2 => ?_)
    · simp only [Tryz.f143, go_sem, Nat.reduceEqDiff, Nat.reduceLT, Nat.reduceLeDiff, Nat.reduceAdd, Nat.reduceSub, Nat.reduceMul, Nat.reduceBEq, Nat.reduceBNe, Int.reduceEq, Int.reduceToNat, Int.reduceNeg, ↓reduceIte, reduceCtorEq, Nat.reduceDiv, Nat.reduceMod, Int.reduceLE, Int.reduceLT, Int.reduceSub, Int.reduceAdd]
      exact ((hfin _ rfl).1 (by simpa using h2)).symm
    · simp only [Tryz.f143, go_sem, Nat.reduceEqDiff, Nat.reduceLT, Nat.reduceLeDiff, Nat.reduceAdd, Nat.reduceSub, Nat.reduceMul, Nat.reduceBEq, Nat.reduceBNe, Int.reduceEq, Int.reduceToNat, Int.reduceNeg, ↓reduceIte, reduceCtorEq, Nat.reduceDiv, Nat.reduceMod, Int.reduceLE, Int.reduceLT, Int.reduceSub, Int.reduceAdd, hw]
      refine ⟨i + 1, ⟨h, (hfin _ rfl).2 (by simpa using h2)⟩, by omega, ?_⟩
      refine ⟨rfl, rfl, rfl, by repeat (first | exact AgreeOff.refl _ _ | refine AgreeOff.upd rfl ?_ | refine AgreeOff.over rfl ?_), by repeat (first | exact AgreeOff.refl _ _ | refine AgreeOff.upd rfl ?_ | refine AgreeOff.over rfl ?_), by repeat (first | exact AgreeOff.refl _ _ | refine AgreeOff.upd rfl ?_ | refine AgreeOff.over rfl ?_), ?_, by repeat (first | trivial | exact .inr rfl | exact .inl rfl | refine ⟨?_, ?_⟩), by repeat (first | trivial | exact .inr rfl | exact .inl rfl | refine ⟨?_, ?_⟩), by repeat (first | trivial | exact .inr rfl | exact .inl rfl | refine ⟨?_, ?_⟩), by repeat (first | trivial | exact .inr rfl | exact .inl rfl | refine ⟨?_, ?_⟩), by repeat (first | trivial | exact .inr rfl | exact .inl rfl | refine ⟨?_, ?_⟩), by repeat (first | trivial | exact .inr rfl | exact .inl rfl | refine ⟨?_, ?_⟩)⟩
      exact ⟨rfl, trivial⟩
  · simp only [decide_eq_false_iff_not, Int.ofNat_lt] at h
    simp only [Tryz.f143, go_sem, Nat.reduceEqDiff, Nat.reduceLT, Nat.reduceLeDiff, Nat.reduceAdd, Nat.reduceSub, Nat.reduceMul, Nat.reduceBEq, Nat.reduceBNe, Int.reduceEq, Int.reduceToNat, Int.reduceNeg, ↓reduceIte, reduceCtorEq, Nat.reduceDiv, Nat.reduceMod, Int.reduceLE, Int.reduceLT, Int.reduceSub, Int.reduceAdd]
    exact (all_of fun j hj => hne j (by omega)).symm

theorem rightExpr_step (n : Nat) (IH : ∀ (e : Ex) (lev : Nat), szE e < n → VPure Tryz.prog G 159 [.agg (encE e), .val (.int .i64 lev)] (.val (.bool (rightE lev e)))) (e : Ex) (lev : Nat) (hl : szE e ≤ n) :
    VPure Tryz.prog G 159 [.agg (encE e), .val (.int .i64 lev)] (.val (.bool (rightE lev e))) := by
  obtain ⟨R, hR0, hs⟩ := mkRule (P := Tryz.prog) (G := G) 143 (List Ex × Nat) (fun x => [.slice (x.1.map encE), .val (.int .i64 x.2)]) (fun x => .val (.bool (x.1.all (rightE x.2)))) (fun x => ∀ i, i < x.1.length → szE (elm x.1 i) < n)
    (by rintro ⟨a, b⟩ ⟨c, d⟩ h; simp only [List.cons.injEq, PV.slice.injEq, PV.val.injEq, Value.int.injEq, encEs_iff, Int.natCast_inj, true_and, and_true] at h; simp only [h]) (fun x h => rightExprs_step n IH x.1 x.2 h)
  have hk : ∀ i, i < e.kids.length → szE (elm e.kids i) < n := fun i h => Nat.lt_of_lt_of_le (szE_kids e i h) hl
  have hR : ∀ tl (lev : Nat) sh, tab (R :: tl) 143 [.slice (e.kids.map encE), .val (.int .i64 lev)] sh = some (.val (.bool (e.kids.all (rightE lev))), sh) := fun tl lev sh => hR0 tl (e.kids, lev) sh hk
  clear hR0
  refine VPure.of (.val _) fun sh => ?_
  refine VCalls_enter [] Tryz.func159 rfl (show 2 ≤ 123 by decide) ?_
  refine vCode_sound (tab_ok [r31, R]) _ _ _ ?_
  have hkind : e.kind = 1 ∨ e.kind = 2 ∨ e.kind = 3 ∨ e.kind = 4 ∨ e.kind = 5 ∨ e.kind = 6 ∨ e.kind = 7 ∨ e.kind = 8 ∨ e.kind = 9 ∨ (¬ e.kind = 1 ∧ ¬ e.kind = 2 ∧ ¬ e.kind = 3 ∧ ¬ e.kind = 4 ∧ ¬ e.kind = 5 ∧ ¬ e.kind = 6 ∧ ¬ e.kind = 7 ∧ ¬ e.kind = 8 ∧ ¬ e.kind = 9) := by omega
  have hw : ¬ 24 < lev → IntKind.i64.wrap ((lev : Int) + 1) = ((lev + 1 : Nat) : Int) := fun h => by rw [wrap64_id (by omega) (by omega)]; rfl
  have himp : decide (e.kids.length = 0) = true → e.kids.all (rightE (lev + 1)) = true := fun h => by
    have : e.kids = [] := List.length_eq_zero_iff.1 (by simpa using h)
    rw [this]; rfl
  rcases hkind with hk | hk | hk | hk | hk | hk | hk | hk | hk | ⟨k1, k2, k3, k4, k5, k6, k7, k8, k9⟩
  · simp only [Tryz.f159, go_sem, Nat.reduceEqDiff, Nat.reduceLT, Nat.reduceLeDiff, Nat.reduceAdd, Nat.reduceSub, Nat.reduceMul, Nat.reduceBEq, Nat.reduceBNe, Int.reduceEq, Int.reduceToNat, Int.reduceNeg, ↓reduceIte, reduceCtorEq, Nat.reduceDiv, Nat.reduceMod, Int.reduceLE, Int.reduceLT, Int.reduceSub, Int.reduceAdd, r31_at, r31_skip, hk, hR, hs]
    repeat (first | intro _ | refine And.intro (by (intros; first | omega | (simp only [Bool.or_eq_false_iff, Bool.or_eq_true, decide_eq_false_iff_not, beq_iff_eq, Bool.and_eq_true, decide_eq_true_eq, Bool.not_eq_true'] at *; omega) | simp_all)) ?_)
    refine if_intro _ rfl trivial (fun h => ?_) (fun h => ?_)
    · simp only [Tryz.f159, go_sem, Nat.reduceEqDiff, Nat.reduceLT, Nat.reduceLeDiff, Nat.reduceAdd, Nat.reduceSub, Nat.reduceMul, Nat.reduceBEq, Nat.reduceBNe, Int.reduceEq, Int.reduceToNat, Int.reduceNeg, ↓reduceIte, reduceCtorEq, Nat.reduceDiv, Nat.reduceMod, Int.reduceLE, Int.reduceLT, Int.reduceSub, Int.reduceAdd]
      rw [rightE_eq]
      simp only [formE, arityE, namedE, hk, lt_not, decide_true, decide_false, or_true, true_or, or_false, false_or, if_true, if_false, reduceIte, Int.reduceEq, Bool.or_true, Bool.true_or, Bool.or_false, Bool.false_or, Bool.not_true, Bool.not_false, Bool.true_and, Bool.and_true, Bool.and_false, Bool.false_and, Bool.false_eq_true, Bool.true_eq, Bool.not_not, bne, or_self] at h ⊢
      revert h himp
      generalize decide (lev ≤ 24) = x0
      generalize decide (e.op = 0) = x1
      generalize decide (e.name = ⟨#[]⟩) = x2
      generalize e.kids.all (rightE (lev + 1)) = x3
      generalize decide (e.kids.length = 0) = x4
      revert x0 x1 x2 x3 x4
      decide
    · have hlev : ¬ 24 < lev := fun hc => by simp [hc] at h
      have hw' := hw hlev
      simp only [Tryz.f159, go_sem, Nat.reduceEqDiff, Nat.reduceLT, Nat.reduceLeDiff, Nat.reduceAdd, Nat.reduceSub, Nat.reduceMul, Nat.reduceBEq, Nat.reduceBNe, Int.reduceEq, Int.reduceToNat, Int.reduceNeg, ↓reduceIte, reduceCtorEq, Nat.reduceDiv, Nat.reduceMod, Int.reduceLE, Int.reduceLT, Int.reduceSub, Int.reduceAdd, r31_at, r31_skip, hk, hR, hs]
      repeat (first | intro _ | refine And.intro (by (intros; first | omega | (simp only [Bool.or_eq_false_iff, Bool.or_eq_true, decide_eq_false_iff_not, beq_iff_eq, Bool.and_eq_true, decide_eq_true_eq, Bool.not_eq_true'] at *; omega) | simp_all)) ?_)
      refine if_intro _ rfl trivial (fun h2 => ?_) (fun h2 => ?_)
      · simp only [Tryz.f159, go_sem, Nat.reduceEqDiff, Nat.reduceLT, Nat.reduceLeDiff, Nat.reduceAdd, Nat.reduceSub, Nat.reduceMul, Nat.reduceBEq, Nat.reduceBNe, Int.reduceEq, Int.reduceToNat, Int.reduceNeg, ↓reduceIte, reduceCtorEq, Nat.reduceDiv, Nat.reduceMod, Int.reduceLE, Int.reduceLT, Int.reduceSub, Int.reduceAdd]
        rw [rightE_eq]
        simp only [formE, arityE, namedE, hk, lt_not, decide_true, decide_false, or_true, true_or, or_false, false_or, if_true, if_false, reduceIte, Int.reduceEq, Bool.or_true, Bool.true_or, Bool.or_false, Bool.false_or, Bool.not_true, Bool.not_false, Bool.true_and, Bool.and_true, Bool.and_false, Bool.false_and, Bool.false_eq_true, Bool.true_eq, Bool.not_not, bne, or_self] at h h2 ⊢
        revert h h2 himp
        generalize decide (lev ≤ 24) = x0
        generalize decide (e.op = 0) = x1
        generalize decide (e.name = ⟨#[]⟩) = x2
        generalize e.kids.all (rightE (lev + 1)) = x3
        generalize decide (e.kids.length = 0) = x4
        revert x0 x1 x2 x3 x4
        decide
      · simp only [Tryz.f159, go_sem, Nat.reduceEqDiff, Nat.reduceLT, Nat.reduceLeDiff, Nat.reduceAdd, Nat.reduceSub, Nat.reduceMul, Nat.reduceBEq, Nat.reduceBNe, Int.reduceEq, Int.reduceToNat, Int.reduceNeg, ↓reduceIte, reduceCtorEq, Nat.reduceDiv, Nat.reduceMod, Int.reduceLE, Int.reduceLT, Int.reduceSub, Int.reduceAdd, r31_at, r31_skip, hk, hR, hs, hw']
        repeat (first | intro _ | refine And.intro (by (intros; first | omega | (simp only [Bool.or_eq_false_iff, Bool.or_eq_true, decide_eq_false_iff_not, beq_iff_eq, Bool.and_eq_true, decide_eq_true_eq, Bool.not_eq_true'] at *; omega) | simp_all)) ?_)
        rw [rightE_eq]
        simp only [formE, arityE, namedE, hk, lt_not, decide_true, decide_false, or_true, true_or, or_false, false_or, if_true, if_false, reduceIte, Int.reduceEq, Bool.or_true, Bool.true_or, Bool.or_false, Bool.false_or, Bool.not_true, Bool.not_false, Bool.true_and, Bool.and_true, Bool.and_false, Bool.false_and, Bool.false_eq_true, Bool.true_eq, Bool.not_not, bne, or_self] at h h2 ⊢
        revert h h2 himp
        generalize decide (lev ≤ 24) = x0
        generalize decide (e.op = 0) = x1
        generalize decide (e.name = ⟨#[]⟩) = x2
        generalize e.kids.all (rightE (lev + 1)) = x3
        generalize decide (e.kids.length = 0) = x4
        revert x0 x1 x2 x3 x4
        decide
  · simp only [Tryz.f159, go_sem, Nat.reduceEqDiff, Nat.reduceLT, Nat.reduceLeDiff, Nat.reduceAdd, Nat.reduceSub, Nat.reduceMul, Nat.reduceBEq, Nat.reduceBNe, Int.reduceEq, Int.reduceToNat, Int.reduceNeg, ↓reduceIte, reduceCtorEq, Nat.reduceDiv, Nat.reduceMod, Int.reduceLE, Int.reduceLT, Int.reduceSub, Int.reduceAdd, r31_at, r31_skip, hk, hR, hs]
    repeat (first | intro _ | refine And.intro (by (intros; first | omega | (simp only [Bool.or_eq_false_iff, Bool.or_eq_true, decide_eq_false_iff_not, beq_iff_eq, Bool.and_eq_true, decide_eq_true_eq, Bool.not_eq_true'] at *; omega) | simp_all)) ?_)
    refine if_intro _ rfl trivial (fun h => ?_) (fun h => ?_)
    · simp only [Tryz.f159, go_sem, Nat.reduceEqDiff, Nat.reduceLT, Nat.reduceLeDiff, Nat.reduceAdd, Nat.reduceSub, Nat.reduceMul, Nat.reduceBEq, Nat.reduceBNe, Int.reduceEq, Int.reduceToNat, Int.reduceNeg, ↓reduceIte, reduceCtorEq, Nat.reduceDiv, Nat.reduceMod, Int.reduceLE, Int.reduceLT, Int.reduceSub, Int.reduceAdd]
      rw [rightE_eq]
      simp only [formE, arityE, namedE, hk, lt_not, decide_true, decide_false, or_true, true_or, or_false, false_or, if_true, if_false, reduceIte, Int.reduceEq, Bool.or_true, Bool.true_or, Bool.or_false, Bool.false_or, Bool.not_true, Bool.not_false, Bool.true_and, Bool.and_true, Bool.and_false, Bool.false_and, Bool.false_eq_true, Bool.true_eq, Bool.not_not, bne, or_self] at h ⊢
      revert h himp
      generalize decide (lev ≤ 24) = x0
      generalize decide (e.op = 0) = x1
      generalize decide (e.num = 0) = x2
      generalize decide (e.name = ⟨#[]⟩) = x3
      generalize nameB e.name = x4
      generalize e.kids.all (rightE (lev + 1)) = x5
      generalize decide (e.kids.length = 0) = x6
      revert x0 x1 x2 x3 x4 x5 x6
      decide
    · have hlev : ¬ 24 < lev := fun hc => by simp [hc] at h
      have hw' := hw hlev
      simp only [Tryz.f159, go_sem, Nat.reduceEqDiff, Nat.reduceLT, Nat.reduceLeDiff, Nat.reduceAdd, Nat.reduceSub, Nat.reduceMul, Nat.reduceBEq, Nat.reduceBNe, Int.reduceEq, Int.reduceToNat, Int.reduceNeg, ↓reduceIte, reduceCtorEq, Nat.reduceDiv, Nat.reduceMod, Int.reduceLE, Int.reduceLT, Int.reduceSub, Int.reduceAdd, r31_at, r31_skip, hk, hR, hs]
      repeat (first | intro _ | refine And.intro (by (intros; first | omega | (simp only [Bool.or_eq_false_iff, Bool.or_eq_true, decide_eq_false_iff_not, beq_iff_eq, Bool.and_eq_true, decide_eq_true_eq, Bool.not_eq_true'] at *; omega) | simp_all)) ?_)
      refine if_intro _ rfl trivial (fun h2 => ?_) (fun h2 => ?_)
      · simp only [Tryz.f159, go_sem, Nat.reduceEqDiff, Nat.reduceLT, Nat.reduceLeDiff, Nat.reduceAdd, Nat.reduceSub, Nat.reduceMul, Nat.reduceBEq, Nat.reduceBNe, Int.reduceEq, Int.reduceToNat, Int.reduceNeg, ↓reduceIte, reduceCtorEq, Nat.reduceDiv, Nat.reduceMod, Int.reduceLE, Int.reduceLT, Int.reduceSub, Int.reduceAdd]
        rw [rightE_eq]
        simp only [formE, arityE, namedE, hk, lt_not, decide_true, decide_false, or_true, true_or, or_false, false_or, if_true, if_false, reduceIte, Int.reduceEq, Bool.or_true, Bool.true_or, Bool.or_false, Bool.false_or, Bool.not_true, Bool.not_false, Bool.true_and, Bool.and_true, Bool.and_false, Bool.false_and, Bool.false_eq_true, Bool.true_eq, Bool.not_not, bne, or_self] at h h2 ⊢
        revert h h2 himp
        generalize decide (lev ≤ 24) = x0
        generalize decide (e.op = 0) = x1
        generalize decide (e.num = 0) = x2
        generalize decide (e.name = ⟨#[]⟩) = x3
        generalize nameB e.name = x4
        generalize e.kids.all (rightE (lev + 1)) = x5
        generalize decide (e.kids.length = 0) = x6
        revert x0 x1 x2 x3 x4 x5 x6
        decide
      · simp only [Tryz.f159, go_sem, Nat.reduceEqDiff, Nat.reduceLT, Nat.reduceLeDiff, Nat.reduceAdd, Nat.reduceSub, Nat.reduceMul, Nat.reduceBEq, Nat.reduceBNe, Int.reduceEq, Int.reduceToNat, Int.reduceNeg, ↓reduceIte, reduceCtorEq, Nat.reduceDiv, Nat.reduceMod, Int.reduceLE, Int.reduceLT, Int.reduceSub, Int.reduceAdd, r31_at, r31_skip, hk, hR, hs, hw']
        repeat (first | intro _ | refine And.intro (by (intros; first | omega | (simp only [Bool.or_eq_false_iff, Bool.or_eq_true, decide_eq_false_iff_not, beq_iff_eq, Bool.and_eq_true, decide_eq_true_eq, Bool.not_eq_true'] at *; omega) | simp_all)) ?_)
        rw [rightE_eq]
        simp only [formE, arityE, namedE, hk, lt_not, decide_true, decide_false, or_true, true_or, or_false, false_or, if_true, if_false, reduceIte, Int.reduceEq, Bool.or_true, Bool.true_or, Bool.or_false, Bool.false_or, Bool.not_true, Bool.not_false, Bool.true_and, Bool.and_true, Bool.and_false, Bool.false_and, Bool.false_eq_true, Bool.true_eq, Bool.not_not, bne, or_self] at h h2 ⊢
        revert h h2 himp
        generalize decide (lev ≤ 24) = x0
        generalize decide (e.op = 0) = x1
        generalize decide (e.num = 0) = x2
        generalize decide (e.name = ⟨#[]⟩) = x3
        generalize nameB e.name = x4
        generalize e.kids.all (rightE (lev + 1)) = x5
        generalize decide (e.kids.length = 0) = x6
        revert x0 x1 x2 x3 x4 x5 x6
        decide
  · simp only [Tryz.f159, go_sem, Nat.reduceEqDiff, Nat.reduceLT, Nat.reduceLeDiff, Nat.reduceAdd, Nat.reduceSub, Nat.reduceMul, Nat.reduceBEq, Nat.reduceBNe, Int.reduceEq, Int.reduceToNat, Int.reduceNeg, ↓reduceIte, reduceCtorEq, Nat.reduceDiv, Nat.reduceMod, Int.reduceLE, Int.reduceLT, Int.reduceSub, Int.reduceAdd, r31_at, r31_skip, hk, hR, hs]
    repeat (first | intro _ | refine And.intro (by (intros; first | omega | (simp only [Bool.or_eq_false_iff, Bool.or_eq_true, decide_eq_false_iff_not, beq_iff_eq, Bool.and_eq_true, decide_eq_true_eq, Bool.not_eq_true'] at *; omega) | simp_all)) ?_)
    refine if_intro _ rfl trivial (fun h => ?_) (fun h => ?_)
    · simp only [Tryz.f159, go_sem, Nat.reduceEqDiff, Nat.reduceLT, Nat.reduceLeDiff, Nat.reduceAdd, Nat.reduceSub, Nat.reduceMul, Nat.reduceBEq, Nat.reduceBNe, Int.reduceEq, Int.reduceToNat, Int.reduceNeg, ↓reduceIte, reduceCtorEq, Nat.reduceDiv, Nat.reduceMod, Int.reduceLE, Int.reduceLT, Int.reduceSub, Int.reduceAdd]
      rw [rightE_eq]
      simp only [formE, arityE, namedE, hk, lt_not, decide_true, decide_false, or_true, true_or, or_false, false_or, if_true, if_false, reduceIte, Int.reduceEq, Bool.or_true, Bool.true_or, Bool.or_false, Bool.false_or, Bool.not_true, Bool.not_false, Bool.true_and, Bool.and_true, Bool.and_false, Bool.false_and, Bool.false_eq_true, Bool.true_eq, Bool.not_not, bne, or_self] at h ⊢
      revert h himp
      generalize decide (lev ≤ 24) = x0
      generalize decide (e.op = 0) = x1
      generalize decide (e.num = 0) = x2
      generalize decide (e.name = ⟨#[]⟩) = x3
      generalize nameB e.name = x4
      generalize e.kids.all (rightE (lev + 1)) = x5
      generalize decide (e.kids.length = 0) = x6
      generalize decide (e.kids.length = 1) = x7
      revert x0 x1 x2 x3 x4 x5 x6 x7
      decide
    · have hlev : ¬ 24 < lev := fun hc => by simp [hc] at h
      have hw' := hw hlev
      simp only [Tryz.f159, go_sem, Nat.reduceEqDiff, Nat.reduceLT, Nat.reduceLeDiff, Nat.reduceAdd, Nat.reduceSub, Nat.reduceMul, Nat.reduceBEq, Nat.reduceBNe, Int.reduceEq, Int.reduceToNat, Int.reduceNeg, ↓reduceIte, reduceCtorEq, Nat.reduceDiv, Nat.reduceMod, Int.reduceLE, Int.reduceLT, Int.reduceSub, Int.reduceAdd, r31_at, r31_skip, hk, hR, hs]
      repeat (first | intro _ | refine And.intro (by (intros; first | omega | (simp only [Bool.or_eq_false_iff, Bool.or_eq_true, decide_eq_false_iff_not, beq_iff_eq, Bool.and_eq_true, decide_eq_true_eq, Bool.not_eq_true'] at *; omega) | simp_all)) ?_)
      refine if_intro _ rfl trivial (fun h2 => ?_) (fun h2 => ?_)
      · simp only [Tryz.f159, go_sem, Nat.reduceEqDiff, Nat.reduceLT, Nat.reduceLeDiff, Nat.reduceAdd, Nat.reduceSub, Nat.reduceMul, Nat.reduceBEq, Nat.reduceBNe, Int.reduceEq, Int.reduceToNat, Int.reduceNeg, ↓reduceIte, reduceCtorEq, Nat.reduceDiv, Nat.reduceMod, Int.reduceLE, Int.reduceLT, Int.reduceSub, Int.reduceAdd]
        rw [rightE_eq]
        simp only [formE, arityE, namedE, hk, lt_not, decide_true, decide_false, or_true, true_or, or_false, false_or, if_true, if_false, reduceIte, Int.reduceEq, Bool.or_true, Bool.true_or, Bool.or_false, Bool.false_or, Bool.not_true, Bool.not_false, Bool.true_and, Bool.and_true, Bool.and_false, Bool.false_and, Bool.false_eq_true, Bool.true_eq, Bool.not_not, bne, or_self] at h h2 ⊢
        revert h h2 himp
        generalize decide (lev ≤ 24) = x0
        generalize decide (e.op = 0) = x1
        generalize decide (e.num = 0) = x2
        generalize decide (e.name = ⟨#[]⟩) = x3
        generalize nameB e.name = x4
        generalize e.kids.all (rightE (lev + 1)) = x5
        generalize decide (e.kids.length = 0) = x6
        generalize decide (e.kids.length = 1) = x7
        revert x0 x1 x2 x3 x4 x5 x6 x7
        decide
      · simp only [Tryz.f159, go_sem, Nat.reduceEqDiff, Nat.reduceLT, Nat.reduceLeDiff, Nat.reduceAdd, Nat.reduceSub, Nat.reduceMul, Nat.reduceBEq, Nat.reduceBNe, Int.reduceEq, Int.reduceToNat, Int.reduceNeg, ↓reduceIte, reduceCtorEq, Nat.reduceDiv, Nat.reduceMod, Int.reduceLE, Int.reduceLT, Int.reduceSub, Int.reduceAdd, r31_at, r31_skip, hk, hR, hs, hw']
        repeat (first | intro _ | refine And.intro (by (intros; first | omega | (simp only [Bool.or_eq_false_iff, Bool.or_eq_true, decide_eq_false_iff_not, beq_iff_eq, Bool.and_eq_true, decide_eq_true_eq, Bool.not_eq_true'] at *; omega) | simp_all)) ?_)
        rw [rightE_eq]
        simp only [formE, arityE, namedE, hk, lt_not, decide_true, decide_false, or_true, true_or, or_false, false_or, if_true, if_false, reduceIte, Int.reduceEq, Bool.or_true, Bool.true_or, Bool.or_false, Bool.false_or, Bool.not_true, Bool.not_false, Bool.true_and, Bool.and_true, Bool.and_false, Bool.false_and, Bool.false_eq_true, Bool.true_eq, Bool.not_not, bne, or_self] at h h2 ⊢
        revert h h2 himp
        generalize decide (lev ≤ 24) = x0
        generalize decide (e.op = 0) = x1
        generalize decide (e.num = 0) = x2
        generalize decide (e.name = ⟨#[]⟩) = x3
        generalize nameB e.name = x4
        generalize e.kids.all (rightE (lev + 1)) = x5
        generalize decide (e.kids.length = 0) = x6
        generalize decide (e.kids.length = 1) = x7
        revert x0 x1 x2 x3 x4 x5 x6 x7
        decide
  · simp only [Tryz.f159, go_sem, Nat.reduceEqDiff, Nat.reduceLT, Nat.reduceLeDiff, Nat.reduceAdd, Nat.reduceSub, Nat.reduceMul, Nat.reduceBEq, Nat.reduceBNe, Int.reduceEq, Int.reduceToNat, Int.reduceNeg, ↓reduceIte, reduceCtorEq, Nat.reduceDiv, Nat.reduceMod, Int.reduceLE, Int.reduceLT, Int.reduceSub, Int.reduceAdd, r31_at, r31_skip, hk, hR, hs]
    repeat (first | intro _ | refine And.intro (by (intros; first | omega | (simp only [Bool.or_eq_false_iff, Bool.or_eq_true, decide_eq_false_iff_not, beq_iff_eq, Bool.and_eq_true, decide_eq_true_eq, Bool.not_eq_true'] at *; omega) | simp_all)) ?_)
    refine if_intro _ rfl trivial (fun h => ?_) (fun h => ?_)
    · simp only [Tryz.f159, go_sem, Nat.reduceEqDiff, Nat.reduceLT, Nat.reduceLeDiff, Nat.reduceAdd, Nat.reduceSub, Nat.reduceMul, Nat.reduceBEq, Nat.reduceBNe, Int.reduceEq, Int.reduceToNat, Int.reduceNeg, ↓reduceIte, reduceCtorEq, Nat.reduceDiv, Nat.reduceMod, Int.reduceLE, Int.reduceLT, Int.reduceSub, Int.reduceAdd]
      rw [rightE_eq]
      simp only [formE, arityE, namedE, hk, lt_not, decide_true, decide_false, or_true, true_or, or_false, false_or, if_true, if_false, reduceIte, Int.reduceEq, Bool.or_true, Bool.true_or, Bool.or_false, Bool.false_or, Bool.not_true, Bool.not_false, Bool.true_and, Bool.and_true, Bool.and_false, Bool.false_and, Bool.false_eq_true, Bool.true_eq, Bool.not_not, bne, or_self] at h ⊢
      revert h himp
      generalize decide (lev ≤ 24) = x0
      generalize decide (e.op = 0) = x1
      generalize decide (e.num = 0) = x2
      generalize decide (e.name = ⟨#[]⟩) = x3
      generalize nameB e.name = x4
      generalize e.kids.all (rightE (lev + 1)) = x5
      generalize decide (e.kids.length = 0) = x6
      generalize decide (e.kids.length ≤ 6) = x7
      revert x0 x1 x2 x3 x4 x5 x6 x7
      decide
    · have hlev : ¬ 24 < lev := fun hc => by simp [hc] at h
      have hw' := hw hlev
      simp only [Tryz.f159, go_sem, Nat.reduceEqDiff, Nat.reduceLT, Nat.reduceLeDiff, Nat.reduceAdd, Nat.reduceSub, Nat.reduceMul, Nat.reduceBEq, Nat.reduceBNe, Int.reduceEq, Int.reduceToNat, Int.reduceNeg, ↓reduceIte, reduceCtorEq, Nat.reduceDiv, Nat.reduceMod, Int.reduceLE, Int.reduceLT, Int.reduceSub, Int.reduceAdd, r31_at, r31_skip, hk, hR, hs]
      repeat (first | intro _ | refine And.intro (by (intros; first | omega | (simp only [Bool.or_eq_false_iff, Bool.or_eq_true, decide_eq_false_iff_not, beq_iff_eq, Bool.and_eq_true, decide_eq_true_eq, Bool.not_eq_true'] at *; omega) | simp_all)) ?_)
      refine if_intro _ rfl trivial (fun h2 => ?_) (fun h2 => ?_)
      · simp only [Tryz.f159, go_sem, Nat.reduceEqDiff, Nat.reduceLT, Nat.reduceLeDiff, Nat.reduceAdd, Nat.reduceSub, Nat.reduceMul, Nat.reduceBEq, Nat.reduceBNe, Int.reduceEq, Int.reduceToNat, Int.reduceNeg, ↓reduceIte, reduceCtorEq, Nat.reduceDiv, Nat.reduceMod, Int.reduceLE, Int.reduceLT, Int.reduceSub, Int.reduceAdd]
        rw [rightE_eq]
        simp only [formE, arityE, namedE, hk, lt_not, decide_true, decide_false, or_true, true_or, or_false, false_or, if_true, if_false, reduceIte, Int.reduceEq, Bool.or_true, Bool.true_or, Bool.or_false, Bool.false_or, Bool.not_true, Bool.not_false, Bool.true_and, Bool.and_true, Bool.and_false, Bool.false_and, Bool.false_eq_true, Bool.true_eq, Bool.not_not, bne, or_self] at h h2 ⊢
        revert h h2 himp
        generalize decide (lev ≤ 24) = x0
        generalize decide (e.op = 0) = x1
        generalize decide (e.num = 0) = x2
        generalize decide (e.name = ⟨#[]⟩) = x3
        generalize nameB e.name = x4
        generalize e.kids.all (rightE (lev + 1)) = x5
        generalize decide (e.kids.length = 0) = x6
        generalize decide (e.kids.length ≤ 6) = x7
        revert x0 x1 x2 x3 x4 x5 x6 x7
        decide
      · simp only [Tryz.f159, go_sem, Nat.reduceEqDiff, Nat.reduceLT, Nat.reduceLeDiff, Nat.reduceAdd, Nat.reduceSub, Nat.reduceMul, Nat.reduceBEq, Nat.reduceBNe, Int.reduceEq, Int.reduceToNat, Int.reduceNeg, ↓reduceIte, reduceCtorEq, Nat.reduceDiv, Nat.reduceMod, Int.reduceLE, Int.reduceLT, Int.reduceSub, Int.reduceAdd, r31_at, r31_skip, hk, hR, hs, hw']
        repeat (first | intro _ | refine And.intro (by (intros; first | omega | (simp only [Bool.or_eq_false_iff, Bool.or_eq_true, decide_eq_false_iff_not, beq_iff_eq, Bool.and_eq_true, decide_eq_true_eq, Bool.not_eq_true'] at *; omega) | simp_all)) ?_)
        rw [rightE_eq]
        simp only [formE, arityE, namedE, hk, lt_not, decide_true, decide_false, or_true, true_or, or_false, false_or, if_true, if_false, reduceIte, Int.reduceEq, Bool.or_true, Bool.true_or, Bool.or_false, Bool.false_or, Bool.not_true, Bool.not_false, Bool.true_and, Bool.and_true, Bool.and_false, Bool.false_and, Bool.false_eq_true, Bool.true_eq, Bool.not_not, bne, or_self] at h h2 ⊢
        revert h h2 himp
        generalize decide (lev ≤ 24) = x0
        generalize decide (e.op = 0) = x1
        generalize decide (e.num = 0) = x2
        generalize decide (e.name = ⟨#[]⟩) = x3
        generalize nameB e.name = x4
        generalize e.kids.all (rightE (lev + 1)) = x5
        generalize decide (e.kids.length = 0) = x6
        generalize decide (e.kids.length ≤ 6) = x7
        revert x0 x1 x2 x3 x4 x5 x6 x7
        decide
  · simp only [Tryz.f159, go_sem, Nat.reduceEqDiff, Nat.reduceLT, Nat.reduceLeDiff, Nat.reduceAdd, Nat.reduceSub, Nat.reduceMul, Nat.reduceBEq, Nat.reduceBNe, Int.reduceEq, Int.reduceToNat, Int.reduceNeg, ↓reduceIte, reduceCtorEq, Nat.reduceDiv, Nat.reduceMod, Int.reduceLE, Int.reduceLT, Int.reduceSub, Int.reduceAdd, r31_at, r31_skip, hk, hR, hs]
    repeat (first | intro _ | refine And.intro (by (intros; first | omega | (simp only [Bool.or_eq_false_iff, Bool.or_eq_true, decide_eq_false_iff_not, beq_iff_eq, Bool.and_eq_true, decide_eq_true_eq, Bool.not_eq_true'] at *; omega) | simp_all)) ?_)
    refine if_intro _ rfl trivial (fun h => ?_) (fun h => ?_)
    · simp only [Tryz.f159, go_sem, Nat.reduceEqDiff, Nat.reduceLT, Nat.reduceLeDiff, Nat.reduceAdd, Nat.reduceSub, Nat.reduceMul, Nat.reduceBEq, Nat.reduceBNe, Int.reduceEq, Int.reduceToNat, Int.reduceNeg, ↓reduceIte, reduceCtorEq, Nat.reduceDiv, Nat.reduceMod, Int.reduceLE, Int.reduceLT, Int.reduceSub, Int.reduceAdd]
      rw [rightE_eq]
      simp only [formE, arityE, namedE, hk, lt_not, decide_true, decide_false, or_true, true_or, or_false, false_or, if_true, if_false, reduceIte, Int.reduceEq, Bool.or_true, Bool.true_or, Bool.or_false, Bool.false_or, Bool.not_true, Bool.not_false, Bool.true_and, Bool.and_true, Bool.and_false, Bool.false_and, Bool.false_eq_true, Bool.true_eq, Bool.not_not, bne, or_self] at h ⊢
      revert h himp
      generalize decide (lev ≤ 24) = x0
      generalize decide (e.op = 0) = x1
      generalize decide (e.num = 0) = x2
      generalize decide (e.name = ⟨#[]⟩) = x3
      generalize e.kids.all (rightE (lev + 1)) = x4
      generalize decide (e.kids.length = 0) = x5
      revert x0 x1 x2 x3 x4 x5
      decide
    · have hlev : ¬ 24 < lev := fun hc => by simp [hc] at h
      have hw' := hw hlev
      simp only [Tryz.f159, go_sem, Nat.reduceEqDiff, Nat.reduceLT, Nat.reduceLeDiff, Nat.reduceAdd, Nat.reduceSub, Nat.reduceMul, Nat.reduceBEq, Nat.reduceBNe, Int.reduceEq, Int.reduceToNat, Int.reduceNeg, ↓reduceIte, reduceCtorEq, Nat.reduceDiv, Nat.reduceMod, Int.reduceLE, Int.reduceLT, Int.reduceSub, Int.reduceAdd, r31_at, r31_skip, hk, hR, hs]
      repeat (first | intro _ | refine And.intro (by (intros; first | omega | (simp only [Bool.or_eq_false_iff, Bool.or_eq_true, decide_eq_false_iff_not, beq_iff_eq, Bool.and_eq_true, decide_eq_true_eq, Bool.not_eq_true'] at *; omega) | simp_all)) ?_)
      refine if_intro _ rfl trivial (fun h2 => ?_) (fun h2 => ?_)
      · simp only [Tryz.f159, go_sem, Nat.reduceEqDiff, Nat.reduceLT, Nat.reduceLeDiff, Nat.reduceAdd, Nat.reduceSub, Nat.reduceMul, Nat.reduceBEq, Nat.reduceBNe, Int.reduceEq, Int.reduceToNat, Int.reduceNeg, ↓reduceIte, reduceCtorEq, Nat.reduceDiv, Nat.reduceMod, Int.reduceLE, Int.reduceLT, Int.reduceSub, Int.reduceAdd]
        rw [rightE_eq]
        simp only [formE, arityE, namedE, hk, lt_not, decide_true, decide_false, or_true, true_or, or_false, false_or, if_true, if_false, reduceIte, Int.reduceEq, Bool.or_true, Bool.true_or, Bool.or_false, Bool.false_or, Bool.not_true, Bool.not_false, Bool.true_and, Bool.and_true, Bool.and_false, Bool.false_and, Bool.false_eq_true, Bool.true_eq, Bool.not_not, bne, or_self] at h h2 ⊢
        revert h h2 himp
        generalize decide (lev ≤ 24) = x0
        generalize decide (e.op = 0) = x1
        generalize decide (e.num = 0) = x2
        generalize decide (e.name = ⟨#[]⟩) = x3
        generalize e.kids.all (rightE (lev + 1)) = x4
        generalize decide (e.kids.length = 0) = x5
        revert x0 x1 x2 x3 x4 x5
        decide
      · simp only [Tryz.f159, go_sem, Nat.reduceEqDiff, Nat.reduceLT, Nat.reduceLeDiff, Nat.reduceAdd, Nat.reduceSub, Nat.reduceMul, Nat.reduceBEq, Nat.reduceBNe, Int.reduceEq, Int.reduceToNat, Int.reduceNeg, ↓reduceIte, reduceCtorEq, Nat.reduceDiv, Nat.reduceMod, Int.reduceLE, Int.reduceLT, Int.reduceSub, Int.reduceAdd, r31_at, r31_skip, hk, hR, hs, hw']
        repeat (first | intro _ | refine And.intro (by (intros; first | omega | (simp only [Bool.or_eq_false_iff, Bool.or_eq_true, decide_eq_false_iff_not, beq_iff_eq, Bool.and_eq_true, decide_eq_true_eq, Bool.not_eq_true'] at *; omega) | simp_all)) ?_)
        rw [rightE_eq]
        simp only [formE, arityE, namedE, hk, lt_not, decide_true, decide_false, or_true, true_or, or_false, false_or, if_true, if_false, reduceIte, Int.reduceEq, Bool.or_true, Bool.true_or, Bool.or_false, Bool.false_or, Bool.not_true, Bool.not_false, Bool.true_and, Bool.and_true, Bool.and_false, Bool.false_and, Bool.false_eq_true, Bool.true_eq, Bool.not_not, bne, or_self] at h h2 ⊢
        revert h h2 himp
        generalize decide (lev ≤ 24) = x0
        generalize decide (e.op = 0) = x1
        generalize decide (e.num = 0) = x2
        generalize decide (e.name = ⟨#[]⟩) = x3
        generalize e.kids.all (rightE (lev + 1)) = x4
        generalize decide (e.kids.length = 0) = x5
        revert x0 x1 x2 x3 x4 x5
        decide
  · simp only [Tryz.f159, go_sem, Nat.reduceEqDiff, Nat.reduceLT, Nat.reduceLeDiff, Nat.reduceAdd, Nat.reduceSub, Nat.reduceMul, Nat.reduceBEq, Nat.reduceBNe, Int.reduceEq, Int.reduceToNat, Int.reduceNeg, ↓reduceIte, reduceCtorEq, Nat.reduceDiv, Nat.reduceMod, Int.reduceLE, Int.reduceLT, Int.reduceSub, Int.reduceAdd, r31_at, r31_skip, hk, hR, hs]
    repeat (first | intro _ | refine And.intro (by (intros; first | omega | (simp only [Bool.or_eq_false_iff, Bool.or_eq_true, decide_eq_false_iff_not, beq_iff_eq, Bool.and_eq_true, decide_eq_true_eq, Bool.not_eq_true'] at *; omega) | simp_all)) ?_)
    refine if_intro _ rfl trivial (fun h => ?_) (fun h => ?_)
    · simp only [Tryz.f159, go_sem, Nat.reduceEqDiff, Nat.reduceLT, Nat.reduceLeDiff, Nat.reduceAdd, Nat.reduceSub, Nat.reduceMul, Nat.reduceBEq, Nat.reduceBNe, Int.reduceEq, Int.reduceToNat, Int.reduceNeg, ↓reduceIte, reduceCtorEq, Nat.reduceDiv, Nat.reduceMod, Int.reduceLE, Int.reduceLT, Int.reduceSub, Int.reduceAdd]
      rw [rightE_eq]
      simp only [formE, arityE, namedE, hk, lt_not, decide_true, decide_false, or_true, true_or, or_false, false_or, if_true, if_false, reduceIte, Int.reduceEq, Bool.or_true, Bool.true_or, Bool.or_false, Bool.false_or, Bool.not_true, Bool.not_false, Bool.true_and, Bool.and_true, Bool.and_false, Bool.false_and, Bool.false_eq_true, Bool.true_eq, Bool.not_not, bne, or_self] at h ⊢
      revert h himp
      generalize decide (lev ≤ 24) = x0
      generalize decide (e.num = 0) = x1
      generalize decide (e.name = ⟨#[]⟩) = x2
      generalize e.kids.all (rightE (lev + 1)) = x3
      generalize decide (e.kids.length = 0) = x4
      generalize decide (e.kids.length = 2) = x5
      generalize decide (4 ≤ e.op) = x6
      generalize decide (e.op ≤ 15) = x7
      revert x0 x1 x2 x3 x4 x5 x6 x7
      decide
    · have hlev : ¬ 24 < lev := fun hc => by simp [hc] at h
      have hw' := hw hlev
      simp only [Tryz.f159, go_sem, Nat.reduceEqDiff, Nat.reduceLT, Nat.reduceLeDiff, Nat.reduceAdd, Nat.reduceSub, Nat.reduceMul, Nat.reduceBEq, Nat.reduceBNe, Int.reduceEq, Int.reduceToNat, Int.reduceNeg, ↓reduceIte, reduceCtorEq, Nat.reduceDiv, Nat.reduceMod, Int.reduceLE, Int.reduceLT, Int.reduceSub, Int.reduceAdd, r31_at, r31_skip, hk, hR, hs]
      repeat (first | intro _ | refine And.intro (by (intros; first | omega | (simp only [Bool.or_eq_false_iff, Bool.or_eq_true, decide_eq_false_iff_not, beq_iff_eq, Bool.and_eq_true, decide_eq_true_eq, Bool.not_eq_true'] at *; omega) | simp_all)) ?_)
      refine if_intro _ rfl trivial (fun h2 => ?_) (fun h2 => ?_)
      · simp only [Tryz.f159, go_sem, Nat.reduceEqDiff, Nat.reduceLT, Nat.reduceLeDiff, Nat.reduceAdd, Nat.reduceSub, Nat.reduceMul, Nat.reduceBEq, Nat.reduceBNe, Int.reduceEq, Int.reduceToNat, Int.reduceNeg, ↓reduceIte, reduceCtorEq, Nat.reduceDiv, Nat.reduceMod, Int.reduceLE, Int.reduceLT, Int.reduceSub, Int.reduceAdd]
        rw [rightE_eq]
        simp only [formE, arityE, namedE, hk, lt_not, decide_true, decide_false, or_true, true_or, or_false, false_or, if_true, if_false, reduceIte, Int.reduceEq, Bool.or_true, Bool.true_or, Bool.or_false, Bool.false_or, Bool.not_true, Bool.not_false, Bool.true_and, Bool.and_true, Bool.and_false, Bool.false_and, Bool.false_eq_true, Bool.true_eq, Bool.not_not, bne, or_self] at h h2 ⊢
        revert h h2 himp
        generalize decide (lev ≤ 24) = x0
        generalize decide (e.num = 0) = x1
        generalize decide (e.name = ⟨#[]⟩) = x2
        generalize e.kids.all (rightE (lev + 1)) = x3
        generalize decide (e.kids.length = 0) = x4
        generalize decide (e.kids.length = 2) = x5
        generalize decide (4 ≤ e.op) = x6
        generalize decide (e.op ≤ 15) = x7
        revert x0 x1 x2 x3 x4 x5 x6 x7
        decide
      · simp only [Tryz.f159, go_sem, Nat.reduceEqDiff, Nat.reduceLT, Nat.reduceLeDiff, Nat.reduceAdd, Nat.reduceSub, Nat.reduceMul, Nat.reduceBEq, Nat.reduceBNe, Int.reduceEq, Int.reduceToNat, Int.reduceNeg, ↓reduceIte, reduceCtorEq, Nat.reduceDiv, Nat.reduceMod, Int.reduceLE, Int.reduceLT, Int.reduceSub, Int.reduceAdd, r31_at, r31_skip, hk, hR, hs, hw']
        repeat (first | intro _ | refine And.intro (by (intros; first | omega | (simp only [Bool.or_eq_false_iff, Bool.or_eq_true, decide_eq_false_iff_not, beq_iff_eq, Bool.and_eq_true, decide_eq_true_eq, Bool.not_eq_true'] at *; omega) | simp_all)) ?_)
        rw [rightE_eq]
        simp only [formE, arityE, namedE, hk, lt_not, decide_true, decide_false, or_true, true_or, or_false, false_or, if_true, if_false, reduceIte, Int.reduceEq, Bool.or_true, Bool.true_or, Bool.or_false, Bool.false_or, Bool.not_true, Bool.not_false, Bool.true_and, Bool.and_true, Bool.and_false, Bool.false_and, Bool.false_eq_true, Bool.true_eq, Bool.not_not, bne, or_self] at h h2 ⊢
        revert h h2 himp
        generalize decide (lev ≤ 24) = x0
        generalize decide (e.num = 0) = x1
        generalize decide (e.name = ⟨#[]⟩) = x2
        generalize e.kids.all (rightE (lev + 1)) = x3
        generalize decide (e.kids.length = 0) = x4
        generalize decide (e.kids.length = 2) = x5
        generalize decide (4 ≤ e.op) = x6
        generalize decide (e.op ≤ 15) = x7
        revert x0 x1 x2 x3 x4 x5 x6 x7
        decide
  · simp only [Tryz.f159, go_sem, Nat.reduceEqDiff, Nat.reduceLT, Nat.reduceLeDiff, Nat.reduceAdd, Nat.reduceSub, Nat.reduceMul, Nat.reduceBEq, Nat.reduceBNe, Int.reduceEq, Int.reduceToNat, Int.reduceNeg, ↓reduceIte, reduceCtorEq, Nat.reduceDiv, Nat.reduceMod, Int.reduceLE, Int.reduceLT, Int.reduceSub, Int.reduceAdd, r31_at, r31_skip, hk, hR, hs]
    repeat (first | intro _ | refine And.intro (by (intros; first | omega | (simp only [Bool.or_eq_false_iff, Bool.or_eq_true, decide_eq_false_iff_not, beq_iff_eq, Bool.and_eq_true, decide_eq_true_eq, Bool.not_eq_true'] at *; omega) | simp_all)) ?_)
    refine if_intro _ rfl trivial (fun h => ?_) (fun h => ?_)
    · simp only [Tryz.f159, go_sem, Nat.reduceEqDiff, Nat.reduceLT, Nat.reduceLeDiff, Nat.reduceAdd, Nat.reduceSub, Nat.reduceMul, Nat.reduceBEq, Nat.reduceBNe, Int.reduceEq, Int.reduceToNat, Int.reduceNeg, ↓reduceIte, reduceCtorEq, Nat.reduceDiv, Nat.reduceMod, Int.reduceLE, Int.reduceLT, Int.reduceSub, Int.reduceAdd]
      rw [rightE_eq]
      simp only [formE, arityE, namedE, hk, lt_not, decide_true, decide_false, or_true, true_or, or_false, false_or, if_true, if_false, reduceIte, Int.reduceEq, Bool.or_true, Bool.true_or, Bool.or_false, Bool.false_or, Bool.not_true, Bool.not_false, Bool.true_and, Bool.and_true, Bool.and_false, Bool.false_and, Bool.false_eq_true, Bool.true_eq, Bool.not_not, bne, or_self] at h ⊢
      revert h himp
      generalize decide (lev ≤ 24) = x0
      generalize decide (e.op = 0) = x1
      generalize decide (e.num = 0) = x2
      generalize decide (e.name = ⟨#[]⟩) = x3
      generalize e.kids.all (rightE (lev + 1)) = x4
      generalize decide (e.kids.length = 0) = x5
      generalize decide (e.kids.length = 1) = x6
      revert x0 x1 x2 x3 x4 x5 x6
      decide
    · have hlev : ¬ 24 < lev := fun hc => by simp [hc] at h
      have hw' := hw hlev
      simp only [Tryz.f159, go_sem, Nat.reduceEqDiff, Nat.reduceLT, Nat.reduceLeDiff, Nat.reduceAdd, Nat.reduceSub, Nat.reduceMul, Nat.reduceBEq, Nat.reduceBNe, Int.reduceEq, Int.reduceToNat, Int.reduceNeg, ↓reduceIte, reduceCtorEq, Nat.reduceDiv, Nat.reduceMod, Int.reduceLE, Int.reduceLT, Int.reduceSub, Int.reduceAdd, r31_at, r31_skip, hk, hR, hs]
      repeat (first | intro _ | refine And.intro (by (intros; first | omega | (simp only [Bool.or_eq_false_iff, Bool.or_eq_true, decide_eq_false_iff_not, beq_iff_eq, Bool.and_eq_true, decide_eq_true_eq, Bool.not_eq_true'] at *; omega) | simp_all)) ?_)
      refine if_intro _ rfl trivial (fun h2 => ?_) (fun h2 => ?_)
      · simp only [Tryz.f159, go_sem, Nat.reduceEqDiff, Nat.reduceLT, Nat.reduceLeDiff, Nat.reduceAdd, Nat.reduceSub, Nat.reduceMul, Nat.reduceBEq, Nat.reduceBNe, Int.reduceEq, Int.reduceToNat, Int.reduceNeg, ↓reduceIte, reduceCtorEq, Nat.reduceDiv, Nat.reduceMod, Int.reduceLE, Int.reduceLT, Int.reduceSub, Int.reduceAdd]
        rw [rightE_eq]
        simp only [formE, arityE, namedE, hk, lt_not, decide_true, decide_false, or_true, true_or, or_false, false_or, if_true, if_false, reduceIte, Int.reduceEq, Bool.or_true, Bool.true_or, Bool.or_false, Bool.false_or, Bool.not_true, Bool.not_false, Bool.true_and, Bool.and_true, Bool.and_false, Bool.false_and, Bool.false_eq_true, Bool.true_eq, Bool.not_not, bne, or_self] at h h2 ⊢
        revert h h2 himp
        generalize decide (lev ≤ 24) = x0
        generalize decide (e.op = 0) = x1
        generalize decide (e.num = 0) = x2
        generalize decide (e.name = ⟨#[]⟩) = x3
        generalize e.kids.all (rightE (lev + 1)) = x4
        generalize decide (e.kids.length = 0) = x5
        generalize decide (e.kids.length = 1) = x6
        revert x0 x1 x2 x3 x4 x5 x6
        decide
      · simp only [Tryz.f159, go_sem, Nat.reduceEqDiff, Nat.reduceLT, Nat.reduceLeDiff, Nat.reduceAdd, Nat.reduceSub, Nat.reduceMul, Nat.reduceBEq, Nat.reduceBNe, Int.reduceEq, Int.reduceToNat, Int.reduceNeg, ↓reduceIte, reduceCtorEq, Nat.reduceDiv, Nat.reduceMod, Int.reduceLE, Int.reduceLT, Int.reduceSub, Int.reduceAdd, r31_at, r31_skip, hk, hR, hs, hw']
        repeat (first | intro _ | refine And.intro (by (intros; first | omega | (simp only [Bool.or_eq_false_iff, Bool.or_eq_true, decide_eq_false_iff_not, beq_iff_eq, Bool.and_eq_true, decide_eq_true_eq, Bool.not_eq_true'] at *; omega) | simp_all)) ?_)
        rw [rightE_eq]
        simp only [formE, arityE, namedE, hk, lt_not, decide_true, decide_false, or_true, true_or, or_false, false_or, if_true, if_false, reduceIte, Int.reduceEq, Bool.or_true, Bool.true_or, Bool.or_false, Bool.false_or, Bool.not_true, Bool.not_false, Bool.true_and, Bool.and_true, Bool.and_false, Bool.false_and, Bool.false_eq_true, Bool.true_eq, Bool.not_not, bne, or_self] at h h2 ⊢
        revert h h2 himp
        generalize decide (lev ≤ 24) = x0
        generalize decide (e.op = 0) = x1
        generalize decide (e.num = 0) = x2
        generalize decide (e.name = ⟨#[]⟩) = x3
        generalize e.kids.all (rightE (lev + 1)) = x4
        generalize decide (e.kids.length = 0) = x5
        generalize decide (e.kids.length = 1) = x6
        revert x0 x1 x2 x3 x4 x5 x6
        decide
  · simp only [Tryz.f159, go_sem, Nat.reduceEqDiff, Nat.reduceLT, Nat.reduceLeDiff, Nat.reduceAdd, Nat.reduceSub, Nat.reduceMul, Nat.reduceBEq, Nat.reduceBNe, Int.reduceEq, Int.reduceToNat, Int.reduceNeg, ↓reduceIte, reduceCtorEq, Nat.reduceDiv, Nat.reduceMod, Int.reduceLE, Int.reduceLT, Int.reduceSub, Int.reduceAdd, r31_at, r31_skip, hk, hR, hs]
    repeat (first | intro _ | refine And.intro (by (intros; first | omega | (simp only [Bool.or_eq_false_iff, Bool.or_eq_true, decide_eq_false_iff_not, beq_iff_eq, Bool.and_eq_true, decide_eq_true_eq, Bool.not_eq_true'] at *; omega) | simp_all)) ?_)
    refine if_intro _ rfl trivial (fun h => ?_) (fun h => ?_)
    · simp only [Tryz.f159, go_sem, Nat.reduceEqDiff, Nat.reduceLT, Nat.reduceLeDiff, Nat.reduceAdd, Nat.reduceSub, Nat.reduceMul, Nat.reduceBEq, Nat.reduceBNe, Int.reduceEq, Int.reduceToNat, Int.reduceNeg, ↓reduceIte, reduceCtorEq, Nat.reduceDiv, Nat.reduceMod, Int.reduceLE, Int.reduceLT, Int.reduceSub, Int.reduceAdd]
      rw [rightE_eq]
      simp only [formE, arityE, namedE, hk, lt_not, decide_true, decide_false, or_true, true_or, or_false, false_or, if_true, if_false, reduceIte, Int.reduceEq, Bool.or_true, Bool.true_or, Bool.or_false, Bool.false_or, Bool.not_true, Bool.not_false, Bool.true_and, Bool.and_true, Bool.and_false, Bool.false_and, Bool.false_eq_true, Bool.true_eq, Bool.not_not, bne, or_self] at h ⊢
      revert h himp
      generalize decide (lev ≤ 24) = x0
      generalize decide (e.op = 0) = x1
      generalize decide (e.num = 0) = x2
      generalize decide (e.name = ⟨#[]⟩) = x3
      generalize e.kids.all (rightE (lev + 1)) = x4
      generalize decide (e.kids.length = 0) = x5
      generalize decide (e.kids.length = 2) = x6
      revert x0 x1 x2 x3 x4 x5 x6
      decide
    · have hlev : ¬ 24 < lev := fun hc => by simp [hc] at h
      have hw' := hw hlev
      simp only [Tryz.f159, go_sem, Nat.reduceEqDiff, Nat.reduceLT, Nat.reduceLeDiff, Nat.reduceAdd, Nat.reduceSub, Nat.reduceMul, Nat.reduceBEq, Nat.reduceBNe, Int.reduceEq, Int.reduceToNat, Int.reduceNeg, ↓reduceIte, reduceCtorEq, Nat.reduceDiv, Nat.reduceMod, Int.reduceLE, Int.reduceLT, Int.reduceSub, Int.reduceAdd, r31_at, r31_skip, hk, hR, hs]
      repeat (first | intro _ | refine And.intro (by (intros; first | omega | (simp only [Bool.or_eq_false_iff, Bool.or_eq_true, decide_eq_false_iff_not, beq_iff_eq, Bool.and_eq_true, decide_eq_true_eq, Bool.not_eq_true'] at *; omega) | simp_all)) ?_)
      refine if_intro _ rfl trivial (fun h2 => ?_) (fun h2 => ?_)
      · simp only [Tryz.f159, go_sem, Nat.reduceEqDiff, Nat.reduceLT, Nat.reduceLeDiff, Nat.reduceAdd, Nat.reduceSub, Nat.reduceMul, Nat.reduceBEq, Nat.reduceBNe, Int.reduceEq, Int.reduceToNat, Int.reduceNeg, ↓reduceIte, reduceCtorEq, Nat.reduceDiv, Nat.reduceMod, Int.reduceLE, Int.reduceLT, Int.reduceSub, Int.reduceAdd]
        rw [rightE_eq]
        simp only [formE, arityE, namedE, hk, lt_not, decide_true, decide_false, or_true, true_or, or_false, false_or, if_true, if_false, reduceIte, Int.reduceEq, Bool.or_true, Bool.true_or, Bool.or_false, Bool.false_or, Bool.not_true, Bool.not_false, Bool.true_and, Bool.and_true, Bool.and_false, Bool.false_and, Bool.false_eq_true, Bool.true_eq, Bool.not_not, bne, or_self] at h h2 ⊢
        revert h h2 himp
        generalize decide (lev ≤ 24) = x0
        generalize decide (e.op = 0) = x1
        generalize decide (e.num = 0) = x2
        generalize decide (e.name = ⟨#[]⟩) = x3
        generalize e.kids.all (rightE (lev + 1)) = x4
        generalize decide (e.kids.length = 0) = x5
        generalize decide (e.kids.length = 2) = x6
        revert x0 x1 x2 x3 x4 x5 x6
        decide
      · simp only [Tryz.f159, go_sem, Nat.reduceEqDiff, Nat.reduceLT, Nat.reduceLeDiff, Nat.reduceAdd, Nat.reduceSub, Nat.reduceMul, Nat.reduceBEq, Nat.reduceBNe, Int.reduceEq, Int.reduceToNat, Int.reduceNeg, ↓reduceIte, reduceCtorEq, Nat.reduceDiv, Nat.reduceMod, Int.reduceLE, Int.reduceLT, Int.reduceSub, Int.reduceAdd, r31_at, r31_skip, hk, hR, hs, hw']
        repeat (first | intro _ | refine And.intro (by (intros; first | omega | (simp only [Bool.or_eq_false_iff, Bool.or_eq_true, decide_eq_false_iff_not, beq_iff_eq, Bool.and_eq_true, decide_eq_true_eq, Bool.not_eq_true'] at *; omega) | simp_all)) ?_)
        rw [rightE_eq]
        simp only [formE, arityE, namedE, hk, lt_not, decide_true, decide_false, or_true, true_or, or_false, false_or, if_true, if_false, reduceIte, Int.reduceEq, Bool.or_true, Bool.true_or, Bool.or_false, Bool.false_or, Bool.not_true, Bool.not_false, Bool.true_and, Bool.and_true, Bool.and_false, Bool.false_and, Bool.false_eq_true, Bool.true_eq, Bool.not_not, bne, or_self] at h h2 ⊢
        revert h h2 himp
        generalize decide (lev ≤ 24) = x0
        generalize decide (e.op = 0) = x1
        generalize decide (e.num = 0) = x2
        generalize decide (e.name = ⟨#[]⟩) = x3
        generalize e.kids.all (rightE (lev + 1)) = x4
        generalize decide (e.kids.length = 0) = x5
        generalize decide (e.kids.length = 2) = x6
        revert x0 x1 x2 x3 x4 x5 x6
        decide
  · simp only [Tryz.f159, go_sem, Nat.reduceEqDiff, Nat.reduceLT, Nat.reduceLeDiff, Nat.reduceAdd, Nat.reduceSub, Nat.reduceMul, Nat.reduceBEq, Nat.reduceBNe, Int.reduceEq, Int.reduceToNat, Int.reduceNeg, ↓reduceIte, reduceCtorEq, Nat.reduceDiv, Nat.reduceMod, Int.reduceLE, Int.reduceLT, Int.reduceSub, Int.reduceAdd, r31_at, r31_skip, hk, hR, hs]
    repeat (first | intro _ | refine And.intro (by (intros; first | omega | (simp only [Bool.or_eq_false_iff, Bool.or_eq_true, decide_eq_false_iff_not, beq_iff_eq, Bool.and_eq_true, decide_eq_true_eq, Bool.not_eq_true'] at *; omega) | simp_all)) ?_)
    refine if_intro _ rfl trivial (fun h => ?_) (fun h => ?_)
    · simp only [Tryz.f159, go_sem, Nat.reduceEqDiff, Nat.reduceLT, Nat.reduceLeDiff, Nat.reduceAdd, Nat.reduceSub, Nat.reduceMul, Nat.reduceBEq, Nat.reduceBNe, Int.reduceEq, Int.reduceToNat, Int.reduceNeg, ↓reduceIte, reduceCtorEq, Nat.reduceDiv, Nat.reduceMod, Int.reduceLE, Int.reduceLT, Int.reduceSub, Int.reduceAdd]
      rw [rightE_eq]
      simp only [formE, arityE, namedE, hk, lt_not, decide_true, decide_false, or_true, true_or, or_false, false_or, if_true, if_false, reduceIte, Int.reduceEq, Bool.or_true, Bool.true_or, Bool.or_false, Bool.false_or, Bool.not_true, Bool.not_false, Bool.true_and, Bool.and_true, Bool.and_false, Bool.false_and, Bool.false_eq_true, Bool.true_eq, Bool.not_not, bne, or_self] at h ⊢
      revert h himp
      generalize decide (lev ≤ 24) = x0
      generalize decide (e.op = 0) = x1
      generalize decide (e.num = 0) = x2
      generalize decide (e.name = ⟨#[]⟩) = x3
      generalize e.kids.all (rightE (lev + 1)) = x4
      generalize decide (e.kids.length = 0) = x5
      generalize decide (e.kids.length = 2) = x6
      revert x0 x1 x2 x3 x4 x5 x6
      decide
    · have hlev : ¬ 24 < lev := fun hc => by simp [hc] at h
      have hw' := hw hlev
      simp only [Tryz.f159, go_sem, Nat.reduceEqDiff, Nat.reduceLT, Nat.reduceLeDiff, Nat.reduceAdd, Nat.reduceSub, Nat.reduceMul, Nat.reduceBEq, Nat.reduceBNe, Int.reduceEq, Int.reduceToNat, Int.reduceNeg, ↓reduceIte, reduceCtorEq, Nat.reduceDiv, Nat.reduceMod, Int.reduceLE, Int.reduceLT, Int.reduceSub, Int.reduceAdd, r31_at, r31_skip, hk, hR, hs]
      repeat (first | intro _ | refine And.intro (by (intros; first | omega | (simp only [Bool.or_eq_false_iff, Bool.or_eq_true, decide_eq_false_iff_not, beq_iff_eq, Bool.and_eq_true, decide_eq_true_eq, Bool.not_eq_true'] at *; omega) | simp_all)) ?_)
      refine if_intro _ rfl trivial (fun h2 => ?_) (fun h2 => ?_)
      · simp only [Tryz.f159, go_sem, Nat.reduceEqDiff, Nat.reduceLT, Nat.reduceLeDiff, Nat.reduceAdd, Nat.reduceSub, Nat.reduceMul, Nat.reduceBEq, Nat.reduceBNe, Int.reduceEq, Int.reduceToNat, Int.reduceNeg, ↓reduceIte, reduceCtorEq, Nat.reduceDiv, Nat.reduceMod, Int.reduceLE, Int.reduceLT, Int.reduceSub, Int.reduceAdd]
        rw [rightE_eq]
        simp only [formE, arityE, namedE, hk, lt_not, decide_true, decide_false, or_true, true_or, or_false, false_or, if_true, if_false, reduceIte, Int.reduceEq, Bool.or_true, Bool.true_or, Bool.or_false, Bool.false_or, Bool.not_true, Bool.not_false, Bool.true_and, Bool.and_true, Bool.and_false, Bool.false_and, Bool.false_eq_true, Bool.true_eq, Bool.not_not, bne, or_self] at h h2 ⊢
        revert h h2 himp
        generalize decide (lev ≤ 24) = x0
        generalize decide (e.op = 0) = x1
        generalize decide (e.num = 0) = x2
        generalize decide (e.name = ⟨#[]⟩) = x3
        generalize e.kids.all (rightE (lev + 1)) = x4
        generalize decide (e.kids.length = 0) = x5
        generalize decide (e.kids.length = 2) = x6
        revert x0 x1 x2 x3 x4 x5 x6
        decide
      · simp only [Tryz.f159, go_sem, Nat.reduceEqDiff, Nat.reduceLT, Nat.reduceLeDiff, Nat.reduceAdd, Nat.reduceSub, Nat.reduceMul, Nat.reduceBEq, Nat.reduceBNe, Int.reduceEq, Int.reduceToNat, Int.reduceNeg, ↓reduceIte, reduceCtorEq, Nat.reduceDiv, Nat.reduceMod, Int.reduceLE, Int.reduceLT, Int.reduceSub, Int.reduceAdd, r31_at, r31_skip, hk, hR, hs, hw']
        repeat (first | intro _ | refine And.intro (by (intros; first | omega | (simp only [Bool.or_eq_false_iff, Bool.or_eq_true, decide_eq_false_iff_not, beq_iff_eq, Bool.and_eq_true, decide_eq_true_eq, Bool.not_eq_true'] at *; omega) | simp_all)) ?_)
        rw [rightE_eq]
        simp only [formE, arityE, namedE, hk, lt_not, decide_true, decide_false, or_true, true_or, or_false, false_or, if_true, if_false, reduceIte, Int.reduceEq, Bool.or_true, Bool.true_or, Bool.or_false, Bool.false_or, Bool.not_true, Bool.not_false, Bool.true_and, Bool.and_true, Bool.and_false, Bool.false_and, Bool.false_eq_true, Bool.true_eq, Bool.not_not, bne, or_self] at h h2 ⊢
        revert h h2 himp
        generalize decide (lev ≤ 24) = x0
        generalize decide (e.op = 0) = x1
        generalize decide (e.num = 0) = x2
        generalize decide (e.name = ⟨#[]⟩) = x3
        generalize e.kids.all (rightE (lev + 1)) = x4
        generalize decide (e.kids.length = 0) = x5
        generalize decide (e.kids.length = 2) = x6
        revert x0 x1 x2 x3 x4 x5 x6
        decide
  · simp only [Tryz.f159, go_sem, Nat.reduceEqDiff, Nat.reduceLT, Nat.reduceLeDiff, Nat.reduceAdd, Nat.reduceSub, Nat.reduceMul, Nat.reduceBEq, Nat.reduceBNe, Int.reduceEq, Int.reduceToNat, Int.reduceNeg, ↓reduceIte, reduceCtorEq, Nat.reduceDiv, Nat.reduceMod, Int.reduceLE, Int.reduceLT, Int.reduceSub, Int.reduceAdd, r31_at, r31_skip, k1, k2, k3, k4, k5, k6, k7, k8, k9, hR, hs]
    repeat (first | intro _ | refine And.intro (by (intros; first | omega | (simp only [Bool.or_eq_false_iff, Bool.or_eq_true, decide_eq_false_iff_not, beq_iff_eq, Bool.and_eq_true, decide_eq_true_eq, Bool.not_eq_true'] at *; omega) | simp_all)) ?_)
    refine if_intro _ rfl trivial (fun h => ?_) (fun h => ?_)
    · simp only [Tryz.f159, go_sem, Nat.reduceEqDiff, Nat.reduceLT, Nat.reduceLeDiff, Nat.reduceAdd, Nat.reduceSub, Nat.reduceMul, Nat.reduceBEq, Nat.reduceBNe, Int.reduceEq, Int.reduceToNat, Int.reduceNeg, ↓reduceIte, reduceCtorEq, Nat.reduceDiv, Nat.reduceMod, Int.reduceLE, Int.reduceLT, Int.reduceSub, Int.reduceAdd]
      rw [rightE_eq]
      simp only [formE, arityE, namedE, k1, k2, k3, k4, k5, k6, k7, k8, k9, lt_not, decide_true, decide_false, or_true, true_or, or_false, false_or, if_true, if_false, reduceIte, Int.reduceEq, Bool.or_true, Bool.true_or, Bool.or_false, Bool.false_or, Bool.not_true, Bool.not_false, Bool.true_and, Bool.and_true, Bool.and_false, Bool.false_and, Bool.false_eq_true, Bool.true_eq, Bool.not_not, bne, or_self] at h ⊢
    · have hlev : ¬ 24 < lev := fun hc => by simp [hc] at h
      have hw' := hw hlev
      simp only [Tryz.f159, go_sem, Nat.reduceEqDiff, Nat.reduceLT, Nat.reduceLeDiff, Nat.reduceAdd, Nat.reduceSub, Nat.reduceMul, Nat.reduceBEq, Nat.reduceBNe, Int.reduceEq, Int.reduceToNat, Int.reduceNeg, ↓reduceIte, reduceCtorEq, Nat.reduceDiv, Nat.reduceMod, Int.reduceLE, Int.reduceLT, Int.reduceSub, Int.reduceAdd, r31_at, r31_skip, k1, k2, k3, k4, k5, k6, k7, k8, k9, hR, hs]
      repeat (first | intro _ | refine And.intro (by (intros; first | omega | (simp only [Bool.or_eq_false_iff, Bool.or_eq_true, decide_eq_false_iff_not, beq_iff_eq, Bool.and_eq_true, decide_eq_true_eq, Bool.not_eq_true'] at *; omega) | simp_all)) ?_)
      refine if_intro _ rfl trivial (fun h2 => ?_) (fun h2 => ?_)
      · simp only [Tryz.f159, go_sem, Nat.reduceEqDiff, Nat.reduceLT, Nat.reduceLeDiff, Nat.reduceAdd, Nat.reduceSub, Nat.reduceMul, Nat.reduceBEq, Nat.reduceBNe, Int.reduceEq, Int.reduceToNat, Int.reduceNeg, ↓reduceIte, reduceCtorEq, Nat.reduceDiv, Nat.reduceMod, Int.reduceLE, Int.reduceLT, Int.reduceSub, Int.reduceAdd]
        rw [rightE_eq]
        simp only [formE, arityE, namedE, k1, k2, k3, k4, k5, k6, k7, k8, k9, lt_not, decide_true, decide_false, or_true, true_or, or_false, false_or, if_true, if_false, reduceIte, Int.reduceEq, Bool.or_true, Bool.true_or, Bool.or_false, Bool.false_or, Bool.not_true, Bool.not_false, Bool.true_and, Bool.and_true, Bool.and_false, Bool.false_and, Bool.false_eq_true, Bool.true_eq, Bool.not_not, bne, or_self] at h h2 ⊢
      · simp only [Tryz.f159, go_sem, Nat.reduceEqDiff, Nat.reduceLT, Nat.reduceLeDiff, Nat.reduceAdd, Nat.reduceSub, Nat.reduceMul, Nat.reduceBEq, Nat.reduceBNe, Int.reduceEq, Int.reduceToNat, Int.reduceNeg, ↓reduceIte, reduceCtorEq, Nat.reduceDiv, Nat.reduceMod, Int.reduceLE, Int.reduceLT, Int.reduceSub, Int.reduceAdd, r31_at, r31_skip, k1, k2, k3, k4, k5, k6, k7, k8, k9, hR, hs, hw']
        repeat (first | intro _ | refine And.intro (by (intros; first | omega | (simp only [Bool.or_eq_false_iff, Bool.or_eq_true, decide_eq_false_iff_not, beq_iff_eq, Bool.and_eq_true, decide_eq_true_eq, Bool.not_eq_true'] at *; omega) | simp_all)) ?_)
        rw [rightE_eq]
        simp only [formE, arityE, namedE, k1, k2, k3, k4, k5, k6, k7, k8, k9, lt_not, decide_true, decide_false, or_true, true_or, or_false, false_or, if_true, if_false, reduceIte, Int.reduceEq, Bool.or_true, Bool.true_or, Bool.or_false, Bool.false_or, Bool.not_true, Bool.not_false, Bool.true_and, Bool.and_true, Bool.and_false, Bool.false_and, Bool.false_eq_true, Bool.true_eq, Bool.not_not, bne, or_self] at h h2 ⊢

theorem rightE_ind : ∀ (n : Nat) (e : Ex) (lev : Nat), szE e < n → VPure Tryz.prog G 159 [.agg (encE e), .val (.int .i64 lev)] (.val (.bool (rightE lev e)))
  | 0, _, _, h => by omega
  | n + 1, e, lev, h => rightExpr_step n (fun e lev h => rightE_ind n e lev h) e lev (by omega)
theorem rightExpr_c (e : Ex) (lev : Nat) : VPure Tryz.prog G 159 [.agg (encE e), .val (.int .i64 lev)] (.val (.bool (rightE lev e))) := rightE_ind (szE e + 1) e lev (by omega)
theorem rightExprs_c (l : List Ex) (lev : Nat) : VPure Tryz.prog G 143 [.slice (l.map encE), .val (.int .i64 lev)] (.val (.bool (l.all (rightE lev)))) :=
  rightExprs_step (szEs l + 1) (fun e lev _ => rightExpr_c e lev) l lev fun i hi => by have := szEs_elm l i hi; omega
noncomputable def r14 : Rule Tryz.prog G := Rule.pure 159 ((Ex) × (Nat)) (fun x => match x with | (e, lev) => [.agg (encE e), .val (.int .i64 lev)]) (fun x => match x with | (e, lev) => .val (.bool (rightE lev e))) (by rintro ⟨e1, lev1⟩ ⟨e2, lev2⟩ h; simp only [List.cons.injEq, PV.agg.injEq, PV.val.injEq, PV.slice.injEq, Value.int.injEq, Value.bool.injEq, Value.string.injEq, encE_iff, encEs_iff, encS_iff, encSs_iff, encT_iff, encF_iff, encP_iff, Int.natCast_inj, true_and, and_true] at h; simp only [h]) (fun ⟨e, lev⟩ => rightExpr_c e lev)
theorem r14_at (tl : List (Rule Tryz.prog G)) (e : Ex) (lev : Nat) (sh : Sh) : tab (r14 :: tl) 159 [.agg [.val (.int .i64 e.kind), .val (.int .i64 e.op), .val (.int .u32 e.num), .val (.string e.name), .slice (e.kids.map encE)], .val (.int .i64 lev)] sh = some (.val (.bool (rightE lev e)), sh) := by
  have this : tab (r14 :: tl) 159 [.agg (encE e), .val (.int .i64 lev)] sh = some (.val (.bool (rightE lev e)), sh) := tab_pure tl ((e, lev) : (Ex) × (Nat)) sh
  simpa only [encE_eq, encS_eq, encF, encP] using this
theorem r14_skip (tl : List (Rule Tryz.prog G)) (f : FuncId) (args : List PV) (sh : Sh) (h : f ≠ 159) : tab (r14 :: tl) f args sh = tab tl f args sh := tab_skip _ tl f args sh h
noncomputable def r33 : Rule Tryz.prog G := Rule.pure 143 ((List Ex) × (Nat)) (fun x => match x with | (l, lev) => [.slice (l.map encE), .val (.int .i64 lev)]) (fun x => match x with | (l, lev) => .val (.bool (l.all (rightE lev)))) (by rintro ⟨l1, lev1⟩ ⟨l2, lev2⟩ h; simp only [List.cons.injEq, PV.agg.injEq, PV.val.injEq, PV.slice.injEq, Value.int.injEq, Value.bool.injEq, Value.string.injEq, encE_iff, encEs_iff, encS_iff, encSs_iff, encT_iff, encF_iff, encP_iff, Int.natCast_inj, true_and, and_true] at h; simp only [h]) (fun ⟨l, lev⟩ => rightExprs_c l lev)
theorem r33_at (tl : List (Rule Tryz.prog G)) (l : List Ex) (lev : Nat) (sh : Sh) : tab (r33 :: tl) 143 [.slice (l.map encE), .val (.int .i64 lev)] sh = some (.val (.bool (l.all (rightE lev))), sh) := by
  have this : tab (r33 :: tl) 143 [.slice (l.map encE), .val (.int .i64 lev)] sh = some (.val (.bool (l.all (rightE lev))), sh) := tab_pure tl ((l, lev) : (List Ex) × (Nat)) sh
  exact this
theorem r33_skip (tl : List (Rule Tryz.prog G)) (f : FuncId) (args : List PV) (sh : Sh) (h : f ≠ 143) : tab (r33 :: tl) f args sh = tab tl f args sh := tab_skip _ tl f args sh h
end Go.Proofs.YtaackmiajgapoaaGreatDoor.V
