/- Which statements and programs may be (seedcornref14). -/
import Derived.Test.YtaackmiajgapoaaGreatDoorD3
set_option maxHeartbeats 16000000
set_option maxRecDepth 100000
set_option linter.unusedSimpArgs false
set_option linter.unusedVariables false
namespace Go.Proofs.YtaackmiajgapoaaGreatDoor.V
open Go
variable {G : Nat → Option (List PV)}

def namedS (k : Int) : Bool := decide (k = 1) || decide (k = 2) || decide (k = 6)
def aritySt (k : Int) (n : Nat) : Bool :=
  if k = 1 ∨ k = 3 ∨ k = 4 ∨ k = 5 then decide (n = 1)
  else if k = 2 then decide (n = 2)
  else if k = 6 then decide (n ≤ 6)
  else if k = 7 then decide (n ≤ 1) else false
def formS (k : Int) (s : ByteArray) (n t f : Nat) : Bool :=
  (decide (k = 4) || decide (f ≤ 0)) && (decide (k = 4) || decide (k = 5) || decide (t ≤ 0)) && (namedS k == !decide (s = ⟨#[]⟩)) && (!namedS k || nameB s) && aritySt k n
mutual
def rightS : Nat → St → Bool
  | lev, .mk k s e t f => decide (lev ≤ 24) && formS k s e.length t.length f.length && e.all (rightE (lev + 1)) && rightSs (lev + 1) t && rightSs (lev + 1) f
def rightSs : Nat → List St → Bool
  | _, [] => true
  | lev, e :: r => rightS lev e && rightSs lev r
end
theorem rightSs_all (lev : Nat) : ∀ l : List St, rightSs lev l = l.all (rightS lev)
  | [] => rfl
  | e :: r => by rw [rightSs, rightSs_all lev r]; rfl
theorem rightS_eq (lev : Nat) (s : St) : rightS lev s = (decide (lev ≤ 24) && formS s.kind s.name s.e.length s.thn.length s.els.length && s.e.all (rightE (lev + 1)) && s.thn.all (rightS (lev + 1)) && s.els.all (rightS (lev + 1))) := by
  cases s with | mk k n e t f => rw [rightS, rightSs_all, rightSs_all]; rfl

theorem rightStmts_step (n : Nat) (IH : ∀ (e : St) (lev : Nat), szS e < n → VPure Tryz.prog G 100 [.agg (encS e), .val (.int .i64 lev)] (.val (.bool (rightS lev e)))) (l : List St) (lev : Nat) (hl : ∀ i, i < l.length → szS (elm l i) < n) :
    VPure Tryz.prog G 63 [.slice (l.map encS), .val (.int .i64 lev)] (.val (.bool (l.all (rightS lev)))) := by
  obtain ⟨R, hR0, hs⟩ := mkRule (P := Tryz.prog) (G := G) 100 (St × Nat) (fun x => [.agg (encS x.1), .val (.int .i64 x.2)]) (fun x => .val (.bool (rightS x.2 x.1))) (fun x => szS x.1 < n)
    (by rintro ⟨a, b⟩ ⟨c, d⟩ h; simp only [List.cons.injEq, PV.agg.injEq, PV.val.injEq, Value.int.injEq, encS_iff, Int.natCast_inj, true_and, and_true] at h; simp only [h]) (fun x h => IH x.1 x.2 h)
  have hR : ∀ tl (e : St) (lev : Nat) sh, szS e < n → tab (R :: tl) 100 [.agg [.val (.int .i64 e.kind), .val (.string e.name), .slice (e.e.map encE), .slice (e.thn.map encS), .slice (e.els.map encS)], .val (.int .i64 lev)] sh = some (.val (.bool (rightS lev e)), sh) := by
    intro tl e lev sh h
    have := hR0 tl (e, lev) sh h
    simpa only [encS_eq] using this
  clear hR0
  refine VPure.of (.val _) fun sh => ?_
  refine VCalls_enter [] Tryz.func63 rfl (show 2 ≤ 19 by decide) ?_
  refine vCode_sound (tab_ok [R]) _ _ _ ?_
  simp only [Tryz.f63, go_sem, Nat.reduceEqDiff, Nat.reduceLT, Nat.reduceLeDiff, Nat.reduceAdd, Nat.reduceSub, Nat.reduceMul, Nat.reduceBEq, Nat.reduceBNe, Int.reduceEq, Int.reduceToNat, Int.reduceNeg, ↓reduceIte, reduceCtorEq, Nat.reduceDiv, Nat.reduceMod, Int.reduceLE, Int.reduceLT, Int.reduceSub, Int.reduceAdd]
  refine loop_intro (VWp_for [6, 7, 8, 9, 12, 13, 14, 15, 16, 17, 18, 4, 10, 11, 5] (fun i : Nat => [(5, .val (.int .i64 i))]) [] (fun _ => []) [] (fun _ => []) (fun _ => sh)
    (fun i => i ≤ l.length ∧ ∀ j, j < i → (rightS lev) (elm l j) = true) (fun i => l.length - i) 0 ⟨Nat.zero_le _, fun j h => by omega⟩ (by refine ⟨rfl, rfl, rfl, .refl _ _, .refl _ _, .refl _ _, by repeat (first | trivial | rfl | refine ⟨?_, ?_⟩), by repeat (first | trivial | rfl | refine ⟨?_, ?_⟩), by repeat (first | trivial | rfl | refine ⟨?_, ?_⟩), by repeat (first | trivial | exact .inr rfl | exact .inl rfl | refine ⟨?_, ?_⟩), by repeat (first | trivial | exact .inr rfl | exact .inl rfl | refine ⟨?_, ?_⟩), by repeat (first | trivial | exact .inr rfl | exact .inl rfl | refine ⟨?_, ?_⟩), by repeat (first | trivial | exact .inr rfl | exact .inl rfl | refine ⟨?_, ?_⟩)⟩) ?_)
  rintro i ⟨hi, hne⟩
  refine vCode_sound (tab_ok [R]) _ _ _ ?_
  simp only [Tryz.f63, go_sem, Nat.reduceEqDiff, Nat.reduceLT, Nat.reduceLeDiff, Nat.reduceAdd, Nat.reduceSub, Nat.reduceMul, Nat.reduceBEq, Nat.reduceBNe, Int.reduceEq, Int.reduceToNat, Int.reduceNeg, ↓reduceIte, reduceCtorEq, Nat.reduceDiv, Nat.reduceMod, Int.reduceLE, Int.reduceLT, Int.reduceSub, Int.reduceAdd]
  repeat (first | intro _ | refine And.intro (by (intros; first | omega | (simp only [Bool.or_eq_false_iff, Bool.or_eq_true, decide_eq_false_iff_not, beq_iff_eq, Bool.and_eq_true, decide_eq_true_eq, Bool.not_eq_true'] at *; omega) | simp_all)) ?_)
  refine if_intro _ rfl trivial (fun h => ?_) (fun h => ?_)
  · simp only [decide_eq_true_eq, Int.ofNat_lt] at h
    have hfin : ∀ b, b = (rightS lev) (elm l i) → (b = false → l.all (rightS lev) = false) ∧ (b = true → ∀ j, j < i + 1 → (rightS lev) (elm l j) = true) := fun b hb => ⟨fun e => all_at h (by rw [← hb, e]), fun e j hj => by
      by_cases e' : j = i
      · subst e'; rw [← hb, e]
      · exact hne j (by omega)⟩
    have hw : IntKind.i64.wrap ((i : Int) + 1) = ((i + 1 : Nat) : Int) := by rw [wrap64_id (by omega) (by omega)]; rfl
    simp only [Tryz.f63, go_sem, Nat.reduceEqDiff, Nat.reduceLT, Nat.reduceLeDiff, Nat.reduceAdd, Nat.reduceSub, Nat.reduceMul, Nat.reduceBEq, Nat.reduceBNe, Int.reduceEq, Int.reduceToNat, Int.reduceNeg, ↓reduceIte, reduceCtorEq, Nat.reduceDiv, Nat.reduceMod, Int.reduceLE, Int.reduceLT, Int.reduceSub, Int.reduceAdd, h, hR, hs, hl]
    repeat (first | intro _ | refine And.intro (by (intros; first | omega | (simp only [Bool.or_eq_false_iff, Bool.or_eq_true, decide_eq_false_iff_not, beq_iff_eq, Bool.and_eq_true, decide_eq_true_eq, Bool.not_eq_true'] at *; omega) | simp_all)) ?_)
    refine if_intro _ rfl trivial (fun h2 => ?_) (fun h2 => ?_)
    · simp only [Tryz.f63, go_sem, Nat.reduceEqDiff, Nat.reduceLT, Nat.reduceLeDiff, Nat.reduceAdd, Nat.reduceSub, Nat.reduceMul, Nat.reduceBEq, Nat.reduceBNe, Int.reduceEq, Int.reduceToNat, Int.reduceNeg, ↓reduceIte, reduceCtorEq, Nat.reduceDiv, Nat.reduceMod, Int.reduceLE, Int.reduceLT, Int.reduceSub, Int.reduceAdd]
      exact ((hfin _ rfl).1 (by simpa using h2)).symm
    · simp only [Tryz.f63, go_sem, Nat.reduceEqDiff, Nat.reduceLT, Nat.reduceLeDiff, Nat.reduceAdd, Nat.reduceSub, Nat.reduceMul, Nat.reduceBEq, Nat.reduceBNe, Int.reduceEq, Int.reduceToNat, Int.reduceNeg, ↓reduceIte, reduceCtorEq, Nat.reduceDiv, Nat.reduceMod, Int.reduceLE, Int.reduceLT, Int.reduceSub, Int.reduceAdd, hw]
      refine ⟨i + 1, ⟨h, (hfin _ rfl).2 (by simpa using h2)⟩, by omega, ?_⟩
      refine ⟨rfl, rfl, rfl, by repeat (first | exact AgreeOff.refl _ _ | refine AgreeOff.upd rfl ?_ | refine AgreeOff.over rfl ?_), by repeat (first | exact AgreeOff.refl _ _ | refine AgreeOff.upd rfl ?_ | refine AgreeOff.over rfl ?_), by repeat (first | exact AgreeOff.refl _ _ | refine AgreeOff.upd rfl ?_ | refine AgreeOff.over rfl ?_), ?_, by repeat (first | trivial | exact .inr rfl | exact .inl rfl | refine ⟨?_, ?_⟩), by repeat (first | trivial | exact .inr rfl | exact .inl rfl | refine ⟨?_, ?_⟩), by repeat (first | trivial | exact .inr rfl | exact .inl rfl | refine ⟨?_, ?_⟩), by repeat (first | trivial | exact .inr rfl | exact .inl rfl | refine ⟨?_, ?_⟩), by repeat (first | trivial | exact .inr rfl | exact .inl rfl | refine ⟨?_, ?_⟩), by repeat (first | trivial | exact .inr rfl | exact .inl rfl | refine ⟨?_, ?_⟩)⟩
      exact ⟨rfl, trivial⟩
  · simp only [decide_eq_false_iff_not, Int.ofNat_lt] at h
    simp only [Tryz.f63, go_sem, Nat.reduceEqDiff, Nat.reduceLT, Nat.reduceLeDiff, Nat.reduceAdd, Nat.reduceSub, Nat.reduceMul, Nat.reduceBEq, Nat.reduceBNe, Int.reduceEq, Int.reduceToNat, Int.reduceNeg, ↓reduceIte, reduceCtorEq, Nat.reduceDiv, Nat.reduceMod, Int.reduceLE, Int.reduceLT, Int.reduceSub, Int.reduceAdd]
    exact (all_of fun j hj => hne j (by omega)).symm

theorem rightStmt_step (n : Nat) (IH : ∀ (e : St) (lev : Nat), szS e < n → VPure Tryz.prog G 100 [.agg (encS e), .val (.int .i64 lev)] (.val (.bool (rightS lev e)))) (s : St) (lev : Nat) (hl : szS s ≤ n) :
    VPure Tryz.prog G 100 [.agg (encS s), .val (.int .i64 lev)] (.val (.bool (rightS lev s))) := by
  obtain ⟨R, hR0, hs⟩ := mkRule (P := Tryz.prog) (G := G) 63 (List St × Nat) (fun x => [.slice (x.1.map encS), .val (.int .i64 x.2)]) (fun x => .val (.bool (x.1.all (rightS x.2)))) (fun x => ∀ i, i < x.1.length → szS (elm x.1 i) < n)
    (by rintro ⟨a, b⟩ ⟨c, d⟩ h; simp only [List.cons.injEq, PV.slice.injEq, PV.val.injEq, Value.int.injEq, encSs_iff, Int.natCast_inj, true_and, and_true] at h; simp only [h]) (fun x h => rightStmts_step n IH x.1 x.2 h)
  have hk1 : ∀ i, i < s.thn.length → szS (elm s.thn i) < n := fun i h => Nat.lt_of_lt_of_le (szS_thn s i h) hl
  have hk2 : ∀ i, i < s.els.length → szS (elm s.els i) < n := fun i h => Nat.lt_of_lt_of_le (szS_els s i h) hl
  have hR1 : ∀ tl (lev : Nat) sh, tab (R :: tl) 63 [.slice (s.thn.map encS), .val (.int .i64 lev)] sh = some (.val (.bool (s.thn.all (rightS lev))), sh) := fun tl lev sh => hR0 tl (s.thn, lev) sh hk1
  have hR2 : ∀ tl (lev : Nat) sh, tab (R :: tl) 63 [.slice (s.els.map encS), .val (.int .i64 lev)] sh = some (.val (.bool (s.els.all (rightS lev))), sh) := fun tl lev sh => hR0 tl (s.els, lev) sh hk2
  have hR := And.intro hR1 hR2
  clear hR0
  refine VPure.of (.val _) fun sh => ?_
  refine VCalls_enter [] Tryz.func100 rfl (show 2 ≤ 110 by decide) ?_
  refine vCode_sound (tab_ok [r31, r33, R]) _ _ _ ?_
  have hkind : s.kind = 1 ∨ s.kind = 2 ∨ s.kind = 3 ∨ s.kind = 4 ∨ s.kind = 5 ∨ s.kind = 6 ∨ s.kind = 7 ∨ (¬ s.kind = 1 ∧ ¬ s.kind = 2 ∧ ¬ s.kind = 3 ∧ ¬ s.kind = 4 ∧ ¬ s.kind = 5 ∧ ¬ s.kind = 6 ∧ ¬ s.kind = 7) := by omega
  have hw : ¬ 24 < lev → IntKind.i64.wrap ((lev : Int) + 1) = ((lev + 1 : Nat) : Int) := fun h => by rw [wrap64_id (by omega) (by omega)]; rfl
  rcases hkind with hk | hk | hk | hk | hk | hk | hk | ⟨k1, k2, k3, k4, k5, k6, k7⟩
  · simp only [Tryz.f100, go_sem, Nat.reduceEqDiff, Nat.reduceLT, Nat.reduceLeDiff, Nat.reduceAdd, Nat.reduceSub, Nat.reduceMul, Nat.reduceBEq, Nat.reduceBNe, Int.reduceEq, Int.reduceToNat, Int.reduceNeg, ↓reduceIte, reduceCtorEq, Nat.reduceDiv, Nat.reduceMod, Int.reduceLE, Int.reduceLT, Int.reduceSub, Int.reduceAdd, r31_at, r31_skip, r33_at, r33_skip, hk, hR, hs]
    repeat (first | intro _ | refine And.intro (by (intros; first | omega | (simp only [Bool.or_eq_false_iff, Bool.or_eq_true, decide_eq_false_iff_not, beq_iff_eq, Bool.and_eq_true, decide_eq_true_eq, Bool.not_eq_true'] at *; omega) | simp_all)) ?_)
    refine if_intro _ rfl trivial (fun h => ?_) (fun h => ?_)
    · simp only [Tryz.f100, go_sem, Nat.reduceEqDiff, Nat.reduceLT, Nat.reduceLeDiff, Nat.reduceAdd, Nat.reduceSub, Nat.reduceMul, Nat.reduceBEq, Nat.reduceBNe, Int.reduceEq, Int.reduceToNat, Int.reduceNeg, ↓reduceIte, reduceCtorEq, Nat.reduceDiv, Nat.reduceMod, Int.reduceLE, Int.reduceLT, Int.reduceSub, Int.reduceAdd]
      rw [rightS_eq]
      simp only [formS, aritySt, namedS, hk, lt_not, decide_true, decide_false, or_true, true_or, or_false, false_or, if_true, if_false, reduceIte, Int.reduceEq, Bool.or_true, Bool.true_or, Bool.or_false, Bool.false_or, Bool.not_true, Bool.not_false, Bool.true_and, Bool.and_true, Bool.and_false, Bool.false_and, Bool.false_eq_true, Bool.true_eq, Bool.not_not, bne, or_self] at h ⊢
      revert h
      generalize decide (lev ≤ 24) = x0
      generalize decide (s.name = ⟨#[]⟩) = x1
      generalize nameB s.name = x2
      generalize s.e.all (rightE (lev + 1)) = x3
      generalize s.thn.all (rightS (lev + 1)) = x4
      generalize s.els.all (rightS (lev + 1)) = x5
      generalize decide (s.thn.length ≤ 0) = x6
      generalize decide (s.els.length ≤ 0) = x7
      generalize decide (s.e.length = 1) = x8
      revert x0 x1 x2 x3 x4 x5 x6 x7 x8
      decide
    · have hlev : ¬ 24 < lev := fun hc => by simp [hc] at h
      have hw' := hw hlev
      simp only [Tryz.f100, go_sem, Nat.reduceEqDiff, Nat.reduceLT, Nat.reduceLeDiff, Nat.reduceAdd, Nat.reduceSub, Nat.reduceMul, Nat.reduceBEq, Nat.reduceBNe, Int.reduceEq, Int.reduceToNat, Int.reduceNeg, ↓reduceIte, reduceCtorEq, Nat.reduceDiv, Nat.reduceMod, Int.reduceLE, Int.reduceLT, Int.reduceSub, Int.reduceAdd, r31_at, r31_skip, r33_at, r33_skip, hk, hR, hs]
      repeat (first | intro _ | refine And.intro (by (intros; first | omega | (simp only [Bool.or_eq_false_iff, Bool.or_eq_true, decide_eq_false_iff_not, beq_iff_eq, Bool.and_eq_true, decide_eq_true_eq, Bool.not_eq_true'] at *; omega) | simp_all)) ?_)
      refine if_intro _ rfl trivial (fun h2 => ?_) (fun h2 => ?_)
      · simp only [Tryz.f100, go_sem, Nat.reduceEqDiff, Nat.reduceLT, Nat.reduceLeDiff, Nat.reduceAdd, Nat.reduceSub, Nat.reduceMul, Nat.reduceBEq, Nat.reduceBNe, Int.reduceEq, Int.reduceToNat, Int.reduceNeg, ↓reduceIte, reduceCtorEq, Nat.reduceDiv, Nat.reduceMod, Int.reduceLE, Int.reduceLT, Int.reduceSub, Int.reduceAdd]
        rw [rightS_eq]
        simp only [formS, aritySt, namedS, hk, lt_not, decide_true, decide_false, or_true, true_or, or_false, false_or, if_true, if_false, reduceIte, Int.reduceEq, Bool.or_true, Bool.true_or, Bool.or_false, Bool.false_or, Bool.not_true, Bool.not_false, Bool.true_and, Bool.and_true, Bool.and_false, Bool.false_and, Bool.false_eq_true, Bool.true_eq, Bool.not_not, bne, or_self] at h h2 ⊢
        revert h h2
        generalize decide (lev ≤ 24) = x0
        generalize decide (s.name = ⟨#[]⟩) = x1
        generalize nameB s.name = x2
        generalize s.e.all (rightE (lev + 1)) = x3
        generalize s.thn.all (rightS (lev + 1)) = x4
        generalize s.els.all (rightS (lev + 1)) = x5
        generalize decide (s.thn.length ≤ 0) = x6
        generalize decide (s.els.length ≤ 0) = x7
        generalize decide (s.e.length = 1) = x8
        revert x0 x1 x2 x3 x4 x5 x6 x7 x8
        decide
      · simp only [Tryz.f100, go_sem, Nat.reduceEqDiff, Nat.reduceLT, Nat.reduceLeDiff, Nat.reduceAdd, Nat.reduceSub, Nat.reduceMul, Nat.reduceBEq, Nat.reduceBNe, Int.reduceEq, Int.reduceToNat, Int.reduceNeg, ↓reduceIte, reduceCtorEq, Nat.reduceDiv, Nat.reduceMod, Int.reduceLE, Int.reduceLT, Int.reduceSub, Int.reduceAdd, r31_at, r31_skip, r33_at, r33_skip, hk, hR, hs, hw']
        repeat (first | intro _ | refine And.intro (by (intros; first | omega | (simp only [Bool.or_eq_false_iff, Bool.or_eq_true, decide_eq_false_iff_not, beq_iff_eq, Bool.and_eq_true, decide_eq_true_eq, Bool.not_eq_true'] at *; omega) | simp_all)) ?_)
        rw [rightS_eq]
        simp only [formS, aritySt, namedS, hk, lt_not, decide_true, decide_false, or_true, true_or, or_false, false_or, if_true, if_false, reduceIte, Int.reduceEq, Bool.or_true, Bool.true_or, Bool.or_false, Bool.false_or, Bool.not_true, Bool.not_false, Bool.true_and, Bool.and_true, Bool.and_false, Bool.false_and, Bool.false_eq_true, Bool.true_eq, Bool.not_not, bne, or_self] at h h2 ⊢
        revert h h2
        generalize decide (lev ≤ 24) = x0
        generalize decide (s.name = ⟨#[]⟩) = x1
        generalize nameB s.name = x2
        generalize s.e.all (rightE (lev + 1)) = x3
        generalize s.thn.all (rightS (lev + 1)) = x4
        generalize s.els.all (rightS (lev + 1)) = x5
        generalize decide (s.thn.length ≤ 0) = x6
        generalize decide (s.els.length ≤ 0) = x7
        generalize decide (s.e.length = 1) = x8
        revert x0 x1 x2 x3 x4 x5 x6 x7 x8
        decide
  · simp only [Tryz.f100, go_sem, Nat.reduceEqDiff, Nat.reduceLT, Nat.reduceLeDiff, Nat.reduceAdd, Nat.reduceSub, Nat.reduceMul, Nat.reduceBEq, Nat.reduceBNe, Int.reduceEq, Int.reduceToNat, Int.reduceNeg, ↓reduceIte, reduceCtorEq, Nat.reduceDiv, Nat.reduceMod, Int.reduceLE, Int.reduceLT, Int.reduceSub, Int.reduceAdd, r31_at, r31_skip, r33_at, r33_skip, hk, hR, hs]
    repeat (first | intro _ | refine And.intro (by (intros; first | omega | (simp only [Bool.or_eq_false_iff, Bool.or_eq_true, decide_eq_false_iff_not, beq_iff_eq, Bool.and_eq_true, decide_eq_true_eq, Bool.not_eq_true'] at *; omega) | simp_all)) ?_)
    refine if_intro _ rfl trivial (fun h => ?_) (fun h => ?_)
    · simp only [Tryz.f100, go_sem, Nat.reduceEqDiff, Nat.reduceLT, Nat.reduceLeDiff, Nat.reduceAdd, Nat.reduceSub, Nat.reduceMul, Nat.reduceBEq, Nat.reduceBNe, Int.reduceEq, Int.reduceToNat, Int.reduceNeg, ↓reduceIte, reduceCtorEq, Nat.reduceDiv, Nat.reduceMod, Int.reduceLE, Int.reduceLT, Int.reduceSub, Int.reduceAdd]
      rw [rightS_eq]
      simp only [formS, aritySt, namedS, hk, lt_not, decide_true, decide_false, or_true, true_or, or_false, false_or, if_true, if_false, reduceIte, Int.reduceEq, Bool.or_true, Bool.true_or, Bool.or_false, Bool.false_or, Bool.not_true, Bool.not_false, Bool.true_and, Bool.and_true, Bool.and_false, Bool.false_and, Bool.false_eq_true, Bool.true_eq, Bool.not_not, bne, or_self] at h ⊢
      revert h
      generalize decide (lev ≤ 24) = x0
      generalize decide (s.name = ⟨#[]⟩) = x1
      generalize nameB s.name = x2
      generalize s.e.all (rightE (lev + 1)) = x3
      generalize s.thn.all (rightS (lev + 1)) = x4
      generalize s.els.all (rightS (lev + 1)) = x5
      generalize decide (s.thn.length ≤ 0) = x6
      generalize decide (s.els.length ≤ 0) = x7
      generalize decide (s.e.length = 2) = x8
      revert x0 x1 x2 x3 x4 x5 x6 x7 x8
      decide
    · have hlev : ¬ 24 < lev := fun hc => by simp [hc] at h
      have hw' := hw hlev
      simp only [Tryz.f100, go_sem, Nat.reduceEqDiff, Nat.reduceLT, Nat.reduceLeDiff, Nat.reduceAdd, Nat.reduceSub, Nat.reduceMul, Nat.reduceBEq, Nat.reduceBNe, Int.reduceEq, Int.reduceToNat, Int.reduceNeg, ↓reduceIte, reduceCtorEq, Nat.reduceDiv, Nat.reduceMod, Int.reduceLE, Int.reduceLT, Int.reduceSub, Int.reduceAdd, r31_at, r31_skip, r33_at, r33_skip, hk, hR, hs]
      repeat (first | intro _ | refine And.intro (by (intros; first | omega | (simp only [Bool.or_eq_false_iff, Bool.or_eq_true, decide_eq_false_iff_not, beq_iff_eq, Bool.and_eq_true, decide_eq_true_eq, Bool.not_eq_true'] at *; omega) | simp_all)) ?_)
      refine if_intro _ rfl trivial (fun h2 => ?_) (fun h2 => ?_)
      · simp only [Tryz.f100, go_sem, Nat.reduceEqDiff, Nat.reduceLT, Nat.reduceLeDiff, Nat.reduceAdd, Nat.reduceSub, Nat.reduceMul, Nat.reduceBEq, Nat.reduceBNe, Int.reduceEq, Int.reduceToNat, Int.reduceNeg, ↓reduceIte, reduceCtorEq, Nat.reduceDiv, Nat.reduceMod, Int.reduceLE, Int.reduceLT, Int.reduceSub, Int.reduceAdd]
        rw [rightS_eq]
        simp only [formS, aritySt, namedS, hk, lt_not, decide_true, decide_false, or_true, true_or, or_false, false_or, if_true, if_false, reduceIte, Int.reduceEq, Bool.or_true, Bool.true_or, Bool.or_false, Bool.false_or, Bool.not_true, Bool.not_false, Bool.true_and, Bool.and_true, Bool.and_false, Bool.false_and, Bool.false_eq_true, Bool.true_eq, Bool.not_not, bne, or_self] at h h2 ⊢
        revert h h2
        generalize decide (lev ≤ 24) = x0
        generalize decide (s.name = ⟨#[]⟩) = x1
        generalize nameB s.name = x2
        generalize s.e.all (rightE (lev + 1)) = x3
        generalize s.thn.all (rightS (lev + 1)) = x4
        generalize s.els.all (rightS (lev + 1)) = x5
        generalize decide (s.thn.length ≤ 0) = x6
        generalize decide (s.els.length ≤ 0) = x7
        generalize decide (s.e.length = 2) = x8
        revert x0 x1 x2 x3 x4 x5 x6 x7 x8
        decide
      · simp only [Tryz.f100, go_sem, Nat.reduceEqDiff, Nat.reduceLT, Nat.reduceLeDiff, Nat.reduceAdd, Nat.reduceSub, Nat.reduceMul, Nat.reduceBEq, Nat.reduceBNe, Int.reduceEq, Int.reduceToNat, Int.reduceNeg, ↓reduceIte, reduceCtorEq, Nat.reduceDiv, Nat.reduceMod, Int.reduceLE, Int.reduceLT, Int.reduceSub, Int.reduceAdd, r31_at, r31_skip, r33_at, r33_skip, hk, hR, hs, hw']
        repeat (first | intro _ | refine And.intro (by (intros; first | omega | (simp only [Bool.or_eq_false_iff, Bool.or_eq_true, decide_eq_false_iff_not, beq_iff_eq, Bool.and_eq_true, decide_eq_true_eq, Bool.not_eq_true'] at *; omega) | simp_all)) ?_)
        rw [rightS_eq]
        simp only [formS, aritySt, namedS, hk, lt_not, decide_true, decide_false, or_true, true_or, or_false, false_or, if_true, if_false, reduceIte, Int.reduceEq, Bool.or_true, Bool.true_or, Bool.or_false, Bool.false_or, Bool.not_true, Bool.not_false, Bool.true_and, Bool.and_true, Bool.and_false, Bool.false_and, Bool.false_eq_true, Bool.true_eq, Bool.not_not, bne, or_self] at h h2 ⊢
        revert h h2
        generalize decide (lev ≤ 24) = x0
        generalize decide (s.name = ⟨#[]⟩) = x1
        generalize nameB s.name = x2
        generalize s.e.all (rightE (lev + 1)) = x3
        generalize s.thn.all (rightS (lev + 1)) = x4
        generalize s.els.all (rightS (lev + 1)) = x5
        generalize decide (s.thn.length ≤ 0) = x6
        generalize decide (s.els.length ≤ 0) = x7
        generalize decide (s.e.length = 2) = x8
        revert x0 x1 x2 x3 x4 x5 x6 x7 x8
        decide
  · simp only [Tryz.f100, go_sem, Nat.reduceEqDiff, Nat.reduceLT, Nat.reduceLeDiff, Nat.reduceAdd, Nat.reduceSub, Nat.reduceMul, Nat.reduceBEq, Nat.reduceBNe, Int.reduceEq, Int.reduceToNat, Int.reduceNeg, ↓reduceIte, reduceCtorEq, Nat.reduceDiv, Nat.reduceMod, Int.reduceLE, Int.reduceLT, Int.reduceSub, Int.reduceAdd, r31_at, r31_skip, r33_at, r33_skip, hk, hR, hs]
    repeat (first | intro _ | refine And.intro (by (intros; first | omega | (simp only [Bool.or_eq_false_iff, Bool.or_eq_true, decide_eq_false_iff_not, beq_iff_eq, Bool.and_eq_true, decide_eq_true_eq, Bool.not_eq_true'] at *; omega) | simp_all)) ?_)
    refine if_intro _ rfl trivial (fun h => ?_) (fun h => ?_)
    · simp only [Tryz.f100, go_sem, Nat.reduceEqDiff, Nat.reduceLT, Nat.reduceLeDiff, Nat.reduceAdd, Nat.reduceSub, Nat.reduceMul, Nat.reduceBEq, Nat.reduceBNe, Int.reduceEq, Int.reduceToNat, Int.reduceNeg, ↓reduceIte, reduceCtorEq, Nat.reduceDiv, Nat.reduceMod, Int.reduceLE, Int.reduceLT, Int.reduceSub, Int.reduceAdd]
      rw [rightS_eq]
      simp only [formS, aritySt, namedS, hk, lt_not, decide_true, decide_false, or_true, true_or, or_false, false_or, if_true, if_false, reduceIte, Int.reduceEq, Bool.or_true, Bool.true_or, Bool.or_false, Bool.false_or, Bool.not_true, Bool.not_false, Bool.true_and, Bool.and_true, Bool.and_false, Bool.false_and, Bool.false_eq_true, Bool.true_eq, Bool.not_not, bne, or_self] at h ⊢
      revert h
      generalize decide (lev ≤ 24) = x0
      generalize decide (s.name = ⟨#[]⟩) = x1
      generalize nameB s.name = x2
      generalize s.e.all (rightE (lev + 1)) = x3
      generalize s.thn.all (rightS (lev + 1)) = x4
      generalize s.els.all (rightS (lev + 1)) = x5
      generalize decide (s.thn.length ≤ 0) = x6
      generalize decide (s.els.length ≤ 0) = x7
      generalize decide (s.e.length = 1) = x8
      revert x0 x1 x2 x3 x4 x5 x6 x7 x8
      decide
    · have hlev : ¬ 24 < lev := fun hc => by simp [hc] at h
      have hw' := hw hlev
      simp only [Tryz.f100, go_sem, Nat.reduceEqDiff, Nat.reduceLT, Nat.reduceLeDiff, Nat.reduceAdd, Nat.reduceSub, Nat.reduceMul, Nat.reduceBEq, Nat.reduceBNe, Int.reduceEq, Int.reduceToNat, Int.reduceNeg, ↓reduceIte, reduceCtorEq, Nat.reduceDiv, Nat.reduceMod, Int.reduceLE, Int.reduceLT, Int.reduceSub, Int.reduceAdd, r31_at, r31_skip, r33_at, r33_skip, hk, hR, hs]
      repeat (first | intro _ | refine And.intro (by (intros; first | omega | (simp only [Bool.or_eq_false_iff, Bool.or_eq_true, decide_eq_false_iff_not, beq_iff_eq, Bool.and_eq_true, decide_eq_true_eq, Bool.not_eq_true'] at *; omega) | simp_all)) ?_)
      refine if_intro _ rfl trivial (fun h2 => ?_) (fun h2 => ?_)
      · simp only [Tryz.f100, go_sem, Nat.reduceEqDiff, Nat.reduceLT, Nat.reduceLeDiff, Nat.reduceAdd, Nat.reduceSub, Nat.reduceMul, Nat.reduceBEq, Nat.reduceBNe, Int.reduceEq, Int.reduceToNat, Int.reduceNeg, ↓reduceIte, reduceCtorEq, Nat.reduceDiv, Nat.reduceMod, Int.reduceLE, Int.reduceLT, Int.reduceSub, Int.reduceAdd]
        rw [rightS_eq]
        simp only [formS, aritySt, namedS, hk, lt_not, decide_true, decide_false, or_true, true_or, or_false, false_or, if_true, if_false, reduceIte, Int.reduceEq, Bool.or_true, Bool.true_or, Bool.or_false, Bool.false_or, Bool.not_true, Bool.not_false, Bool.true_and, Bool.and_true, Bool.and_false, Bool.false_and, Bool.false_eq_true, Bool.true_eq, Bool.not_not, bne, or_self] at h h2 ⊢
        revert h h2
        generalize decide (lev ≤ 24) = x0
        generalize decide (s.name = ⟨#[]⟩) = x1
        generalize nameB s.name = x2
        generalize s.e.all (rightE (lev + 1)) = x3
        generalize s.thn.all (rightS (lev + 1)) = x4
        generalize s.els.all (rightS (lev + 1)) = x5
        generalize decide (s.thn.length ≤ 0) = x6
        generalize decide (s.els.length ≤ 0) = x7
        generalize decide (s.e.length = 1) = x8
        revert x0 x1 x2 x3 x4 x5 x6 x7 x8
        decide
      · simp only [Tryz.f100, go_sem, Nat.reduceEqDiff, Nat.reduceLT, Nat.reduceLeDiff, Nat.reduceAdd, Nat.reduceSub, Nat.reduceMul, Nat.reduceBEq, Nat.reduceBNe, Int.reduceEq, Int.reduceToNat, Int.reduceNeg, ↓reduceIte, reduceCtorEq, Nat.reduceDiv, Nat.reduceMod, Int.reduceLE, Int.reduceLT, Int.reduceSub, Int.reduceAdd, r31_at, r31_skip, r33_at, r33_skip, hk, hR, hs, hw']
        repeat (first | intro _ | refine And.intro (by (intros; first | omega | (simp only [Bool.or_eq_false_iff, Bool.or_eq_true, decide_eq_false_iff_not, beq_iff_eq, Bool.and_eq_true, decide_eq_true_eq, Bool.not_eq_true'] at *; omega) | simp_all)) ?_)
        rw [rightS_eq]
        simp only [formS, aritySt, namedS, hk, lt_not, decide_true, decide_false, or_true, true_or, or_false, false_or, if_true, if_false, reduceIte, Int.reduceEq, Bool.or_true, Bool.true_or, Bool.or_false, Bool.false_or, Bool.not_true, Bool.not_false, Bool.true_and, Bool.and_true, Bool.and_false, Bool.false_and, Bool.false_eq_true, Bool.true_eq, Bool.not_not, bne, or_self] at h h2 ⊢
        revert h h2
        generalize decide (lev ≤ 24) = x0
        generalize decide (s.name = ⟨#[]⟩) = x1
        generalize nameB s.name = x2
        generalize s.e.all (rightE (lev + 1)) = x3
        generalize s.thn.all (rightS (lev + 1)) = x4
        generalize s.els.all (rightS (lev + 1)) = x5
        generalize decide (s.thn.length ≤ 0) = x6
        generalize decide (s.els.length ≤ 0) = x7
        generalize decide (s.e.length = 1) = x8
        revert x0 x1 x2 x3 x4 x5 x6 x7 x8
        decide
  · simp only [Tryz.f100, go_sem, Nat.reduceEqDiff, Nat.reduceLT, Nat.reduceLeDiff, Nat.reduceAdd, Nat.reduceSub, Nat.reduceMul, Nat.reduceBEq, Nat.reduceBNe, Int.reduceEq, Int.reduceToNat, Int.reduceNeg, ↓reduceIte, reduceCtorEq, Nat.reduceDiv, Nat.reduceMod, Int.reduceLE, Int.reduceLT, Int.reduceSub, Int.reduceAdd, r31_at, r31_skip, r33_at, r33_skip, hk, hR, hs]
    repeat (first | intro _ | refine And.intro (by (intros; first | omega | (simp only [Bool.or_eq_false_iff, Bool.or_eq_true, decide_eq_false_iff_not, beq_iff_eq, Bool.and_eq_true, decide_eq_true_eq, Bool.not_eq_true'] at *; omega) | simp_all)) ?_)
    refine if_intro _ rfl trivial (fun h => ?_) (fun h => ?_)
    · simp only [Tryz.f100, go_sem, Nat.reduceEqDiff, Nat.reduceLT, Nat.reduceLeDiff, Nat.reduceAdd, Nat.reduceSub, Nat.reduceMul, Nat.reduceBEq, Nat.reduceBNe, Int.reduceEq, Int.reduceToNat, Int.reduceNeg, ↓reduceIte, reduceCtorEq, Nat.reduceDiv, Nat.reduceMod, Int.reduceLE, Int.reduceLT, Int.reduceSub, Int.reduceAdd]
      rw [rightS_eq]
      simp only [formS, aritySt, namedS, hk, lt_not, decide_true, decide_false, or_true, true_or, or_false, false_or, if_true, if_false, reduceIte, Int.reduceEq, Bool.or_true, Bool.true_or, Bool.or_false, Bool.false_or, Bool.not_true, Bool.not_false, Bool.true_and, Bool.and_true, Bool.and_false, Bool.false_and, Bool.false_eq_true, Bool.true_eq, Bool.not_not, bne, or_self] at h ⊢
      revert h
      generalize decide (lev ≤ 24) = x0
      generalize decide (s.name = ⟨#[]⟩) = x1
      generalize nameB s.name = x2
      generalize s.e.all (rightE (lev + 1)) = x3
      generalize s.thn.all (rightS (lev + 1)) = x4
      generalize s.els.all (rightS (lev + 1)) = x5
      generalize decide (s.thn.length ≤ 0) = x6
      generalize decide (s.els.length ≤ 0) = x7
      generalize decide (s.e.length = 1) = x8
      revert x0 x1 x2 x3 x4 x5 x6 x7 x8
      decide
    · have hlev : ¬ 24 < lev := fun hc => by simp [hc] at h
      have hw' := hw hlev
      simp only [Tryz.f100, go_sem, Nat.reduceEqDiff, Nat.reduceLT, Nat.reduceLeDiff, Nat.reduceAdd, Nat.reduceSub, Nat.reduceMul, Nat.reduceBEq, Nat.reduceBNe, Int.reduceEq, Int.reduceToNat, Int.reduceNeg, ↓reduceIte, reduceCtorEq, Nat.reduceDiv, Nat.reduceMod, Int.reduceLE, Int.reduceLT, Int.reduceSub, Int.reduceAdd, r31_at, r31_skip, r33_at, r33_skip, hk, hR, hs]
      repeat (first | intro _ | refine And.intro (by (intros; first | omega | (simp only [Bool.or_eq_false_iff, Bool.or_eq_true, decide_eq_false_iff_not, beq_iff_eq, Bool.and_eq_true, decide_eq_true_eq, Bool.not_eq_true'] at *; omega) | simp_all)) ?_)
      refine if_intro _ rfl trivial (fun h2 => ?_) (fun h2 => ?_)
      · simp only [Tryz.f100, go_sem, Nat.reduceEqDiff, Nat.reduceLT, Nat.reduceLeDiff, Nat.reduceAdd, Nat.reduceSub, Nat.reduceMul, Nat.reduceBEq, Nat.reduceBNe, Int.reduceEq, Int.reduceToNat, Int.reduceNeg, ↓reduceIte, reduceCtorEq, Nat.reduceDiv, Nat.reduceMod, Int.reduceLE, Int.reduceLT, Int.reduceSub, Int.reduceAdd]
        rw [rightS_eq]
        simp only [formS, aritySt, namedS, hk, lt_not, decide_true, decide_false, or_true, true_or, or_false, false_or, if_true, if_false, reduceIte, Int.reduceEq, Bool.or_true, Bool.true_or, Bool.or_false, Bool.false_or, Bool.not_true, Bool.not_false, Bool.true_and, Bool.and_true, Bool.and_false, Bool.false_and, Bool.false_eq_true, Bool.true_eq, Bool.not_not, bne, or_self] at h h2 ⊢
        revert h h2
        generalize decide (lev ≤ 24) = x0
        generalize decide (s.name = ⟨#[]⟩) = x1
        generalize nameB s.name = x2
        generalize s.e.all (rightE (lev + 1)) = x3
        generalize s.thn.all (rightS (lev + 1)) = x4
        generalize s.els.all (rightS (lev + 1)) = x5
        generalize decide (s.thn.length ≤ 0) = x6
        generalize decide (s.els.length ≤ 0) = x7
        generalize decide (s.e.length = 1) = x8
        revert x0 x1 x2 x3 x4 x5 x6 x7 x8
        decide
      · simp only [Tryz.f100, go_sem, Nat.reduceEqDiff, Nat.reduceLT, Nat.reduceLeDiff, Nat.reduceAdd, Nat.reduceSub, Nat.reduceMul, Nat.reduceBEq, Nat.reduceBNe, Int.reduceEq, Int.reduceToNat, Int.reduceNeg, ↓reduceIte, reduceCtorEq, Nat.reduceDiv, Nat.reduceMod, Int.reduceLE, Int.reduceLT, Int.reduceSub, Int.reduceAdd, r31_at, r31_skip, r33_at, r33_skip, hk, hR, hs, hw']
        repeat (first | intro _ | refine And.intro (by (intros; first | omega | (simp only [Bool.or_eq_false_iff, Bool.or_eq_true, decide_eq_false_iff_not, beq_iff_eq, Bool.and_eq_true, decide_eq_true_eq, Bool.not_eq_true'] at *; omega) | simp_all)) ?_)
        rw [rightS_eq]
        simp only [formS, aritySt, namedS, hk, lt_not, decide_true, decide_false, or_true, true_or, or_false, false_or, if_true, if_false, reduceIte, Int.reduceEq, Bool.or_true, Bool.true_or, Bool.or_false, Bool.false_or, Bool.not_true, Bool.not_false, Bool.true_and, Bool.and_true, Bool.and_false, Bool.false_and, Bool.false_eq_true, Bool.true_eq, Bool.not_not, bne, or_self] at h h2 ⊢
        revert h h2
        generalize decide (lev ≤ 24) = x0
        generalize decide (s.name = ⟨#[]⟩) = x1
        generalize nameB s.name = x2
        generalize s.e.all (rightE (lev + 1)) = x3
        generalize s.thn.all (rightS (lev + 1)) = x4
        generalize s.els.all (rightS (lev + 1)) = x5
        generalize decide (s.thn.length ≤ 0) = x6
        generalize decide (s.els.length ≤ 0) = x7
        generalize decide (s.e.length = 1) = x8
        revert x0 x1 x2 x3 x4 x5 x6 x7 x8
        decide
  · simp only [Tryz.f100, go_sem, Nat.reduceEqDiff, Nat.reduceLT, Nat.reduceLeDiff, Nat.reduceAdd, Nat.reduceSub, Nat.reduceMul, Nat.reduceBEq, Nat.reduceBNe, Int.reduceEq, Int.reduceToNat, Int.reduceNeg, ↓reduceIte, reduceCtorEq, Nat.reduceDiv, Nat.reduceMod, Int.reduceLE, Int.reduceLT, Int.reduceSub, Int.reduceAdd, r31_at, r31_skip, r33_at, r33_skip, hk, hR, hs]
    repeat (first | intro _ | refine And.intro (by (intros; first | omega | (simp only [Bool.or_eq_false_iff, Bool.or_eq_true, decide_eq_false_iff_not, beq_iff_eq, Bool.and_eq_true, decide_eq_true_eq, Bool.not_eq_true'] at *; omega) | simp_all)) ?_)
    refine if_intro _ rfl trivial (fun h => ?_) (fun h => ?_)
    · simp only [Tryz.f100, go_sem, Nat.reduceEqDiff, Nat.reduceLT, Nat.reduceLeDiff, Nat.reduceAdd, Nat.reduceSub, Nat.reduceMul, Nat.reduceBEq, Nat.reduceBNe, Int.reduceEq, Int.reduceToNat, Int.reduceNeg, ↓reduceIte, reduceCtorEq, Nat.reduceDiv, Nat.reduceMod, Int.reduceLE, Int.reduceLT, Int.reduceSub, Int.reduceAdd]
      rw [rightS_eq]
      simp only [formS, aritySt, namedS, hk, lt_not, decide_true, decide_false, or_true, true_or, or_false, false_or, if_true, if_false, reduceIte, Int.reduceEq, Bool.or_true, Bool.true_or, Bool.or_false, Bool.false_or, Bool.not_true, Bool.not_false, Bool.true_and, Bool.and_true, Bool.and_false, Bool.false_and, Bool.false_eq_true, Bool.true_eq, Bool.not_not, bne, or_self] at h ⊢
      revert h
      generalize decide (lev ≤ 24) = x0
      generalize decide (s.name = ⟨#[]⟩) = x1
      generalize nameB s.name = x2
      generalize s.e.all (rightE (lev + 1)) = x3
      generalize s.thn.all (rightS (lev + 1)) = x4
      generalize s.els.all (rightS (lev + 1)) = x5
      generalize decide (s.thn.length ≤ 0) = x6
      generalize decide (s.els.length ≤ 0) = x7
      generalize decide (s.e.length = 1) = x8
      revert x0 x1 x2 x3 x4 x5 x6 x7 x8
      decide
    · have hlev : ¬ 24 < lev := fun hc => by simp [hc] at h
      have hw' := hw hlev
      simp only [Tryz.f100, go_sem, Nat.reduceEqDiff, Nat.reduceLT, Nat.reduceLeDiff, Nat.reduceAdd, Nat.reduceSub, Nat.reduceMul, Nat.reduceBEq, Nat.reduceBNe, Int.reduceEq, Int.reduceToNat, Int.reduceNeg, ↓reduceIte, reduceCtorEq, Nat.reduceDiv, Nat.reduceMod, Int.reduceLE, Int.reduceLT, Int.reduceSub, Int.reduceAdd, r31_at, r31_skip, r33_at, r33_skip, hk, hR, hs]
      repeat (first | intro _ | refine And.intro (by (intros; first | omega | (simp only [Bool.or_eq_false_iff, Bool.or_eq_true, decide_eq_false_iff_not, beq_iff_eq, Bool.and_eq_true, decide_eq_true_eq, Bool.not_eq_true'] at *; omega) | simp_all)) ?_)
      refine if_intro _ rfl trivial (fun h2 => ?_) (fun h2 => ?_)
      · simp only [Tryz.f100, go_sem, Nat.reduceEqDiff, Nat.reduceLT, Nat.reduceLeDiff, Nat.reduceAdd, Nat.reduceSub, Nat.reduceMul, Nat.reduceBEq, Nat.reduceBNe, Int.reduceEq, Int.reduceToNat, Int.reduceNeg, ↓reduceIte, reduceCtorEq, Nat.reduceDiv, Nat.reduceMod, Int.reduceLE, Int.reduceLT, Int.reduceSub, Int.reduceAdd]
        rw [rightS_eq]
        simp only [formS, aritySt, namedS, hk, lt_not, decide_true, decide_false, or_true, true_or, or_false, false_or, if_true, if_false, reduceIte, Int.reduceEq, Bool.or_true, Bool.true_or, Bool.or_false, Bool.false_or, Bool.not_true, Bool.not_false, Bool.true_and, Bool.and_true, Bool.and_false, Bool.false_and, Bool.false_eq_true, Bool.true_eq, Bool.not_not, bne, or_self] at h h2 ⊢
        revert h h2
        generalize decide (lev ≤ 24) = x0
        generalize decide (s.name = ⟨#[]⟩) = x1
        generalize nameB s.name = x2
        generalize s.e.all (rightE (lev + 1)) = x3
        generalize s.thn.all (rightS (lev + 1)) = x4
        generalize s.els.all (rightS (lev + 1)) = x5
        generalize decide (s.thn.length ≤ 0) = x6
        generalize decide (s.els.length ≤ 0) = x7
        generalize decide (s.e.length = 1) = x8
        revert x0 x1 x2 x3 x4 x5 x6 x7 x8
        decide
      · simp only [Tryz.f100, go_sem, Nat.reduceEqDiff, Nat.reduceLT, Nat.reduceLeDiff, Nat.reduceAdd, Nat.reduceSub, Nat.reduceMul, Nat.reduceBEq, Nat.reduceBNe, Int.reduceEq, Int.reduceToNat, Int.reduceNeg, ↓reduceIte, reduceCtorEq, Nat.reduceDiv, Nat.reduceMod, Int.reduceLE, Int.reduceLT, Int.reduceSub, Int.reduceAdd, r31_at, r31_skip, r33_at, r33_skip, hk, hR, hs, hw']
        repeat (first | intro _ | refine And.intro (by (intros; first | omega | (simp only [Bool.or_eq_false_iff, Bool.or_eq_true, decide_eq_false_iff_not, beq_iff_eq, Bool.and_eq_true, decide_eq_true_eq, Bool.not_eq_true'] at *; omega) | simp_all)) ?_)
        rw [rightS_eq]
        simp only [formS, aritySt, namedS, hk, lt_not, decide_true, decide_false, or_true, true_or, or_false, false_or, if_true, if_false, reduceIte, Int.reduceEq, Bool.or_true, Bool.true_or, Bool.or_false, Bool.false_or, Bool.not_true, Bool.not_false, Bool.true_and, Bool.and_true, Bool.and_false, Bool.false_and, Bool.false_eq_true, Bool.true_eq, Bool.not_not, bne, or_self] at h h2 ⊢
        revert h h2
        generalize decide (lev ≤ 24) = x0
        generalize decide (s.name = ⟨#[]⟩) = x1
        generalize nameB s.name = x2
        generalize s.e.all (rightE (lev + 1)) = x3
        generalize s.thn.all (rightS (lev + 1)) = x4
        generalize s.els.all (rightS (lev + 1)) = x5
        generalize decide (s.thn.length ≤ 0) = x6
        generalize decide (s.els.length ≤ 0) = x7
        generalize decide (s.e.length = 1) = x8
        revert x0 x1 x2 x3 x4 x5 x6 x7 x8
        decide
  · simp only [Tryz.f100, go_sem, Nat.reduceEqDiff, Nat.reduceLT, Nat.reduceLeDiff, Nat.reduceAdd, Nat.reduceSub, Nat.reduceMul, Nat.reduceBEq, Nat.reduceBNe, Int.reduceEq, Int.reduceToNat, Int.reduceNeg, ↓reduceIte, reduceCtorEq, Nat.reduceDiv, Nat.reduceMod, Int.reduceLE, Int.reduceLT, Int.reduceSub, Int.reduceAdd, r31_at, r31_skip, r33_at, r33_skip, hk, hR, hs]
    repeat (first | intro _ | refine And.intro (by (intros; first | omega | (simp only [Bool.or_eq_false_iff, Bool.or_eq_true, decide_eq_false_iff_not, beq_iff_eq, Bool.and_eq_true, decide_eq_true_eq, Bool.not_eq_true'] at *; omega) | simp_all)) ?_)
    refine if_intro _ rfl trivial (fun h => ?_) (fun h => ?_)
    · simp only [Tryz.f100, go_sem, Nat.reduceEqDiff, Nat.reduceLT, Nat.reduceLeDiff, Nat.reduceAdd, Nat.reduceSub, Nat.reduceMul, Nat.reduceBEq, Nat.reduceBNe, Int.reduceEq, Int.reduceToNat, Int.reduceNeg, ↓reduceIte, reduceCtorEq, Nat.reduceDiv, Nat.reduceMod, Int.reduceLE, Int.reduceLT, Int.reduceSub, Int.reduceAdd]
      rw [rightS_eq]
      simp only [formS, aritySt, namedS, hk, lt_not, decide_true, decide_false, or_true, true_or, or_false, false_or, if_true, if_false, reduceIte, Int.reduceEq, Bool.or_true, Bool.true_or, Bool.or_false, Bool.false_or, Bool.not_true, Bool.not_false, Bool.true_and, Bool.and_true, Bool.and_false, Bool.false_and, Bool.false_eq_true, Bool.true_eq, Bool.not_not, bne, or_self] at h ⊢
      revert h
      generalize decide (lev ≤ 24) = x0
      generalize decide (s.name = ⟨#[]⟩) = x1
      generalize nameB s.name = x2
      generalize s.e.all (rightE (lev + 1)) = x3
      generalize s.thn.all (rightS (lev + 1)) = x4
      generalize s.els.all (rightS (lev + 1)) = x5
      generalize decide (s.thn.length ≤ 0) = x6
      generalize decide (s.els.length ≤ 0) = x7
      generalize decide (s.e.length ≤ 6) = x8
      revert x0 x1 x2 x3 x4 x5 x6 x7 x8
      decide
    · have hlev : ¬ 24 < lev := fun hc => by simp [hc] at h
      have hw' := hw hlev
      simp only [Tryz.f100, go_sem, Nat.reduceEqDiff, Nat.reduceLT, Nat.reduceLeDiff, Nat.reduceAdd, Nat.reduceSub, Nat.reduceMul, Nat.reduceBEq, Nat.reduceBNe, Int.reduceEq, Int.reduceToNat, Int.reduceNeg, ↓reduceIte, reduceCtorEq, Nat.reduceDiv, Nat.reduceMod, Int.reduceLE, Int.reduceLT, Int.reduceSub, Int.reduceAdd, r31_at, r31_skip, r33_at, r33_skip, hk, hR, hs]
      repeat (first | intro _ | refine And.intro (by (intros; first | omega | (simp only [Bool.or_eq_false_iff, Bool.or_eq_true, decide_eq_false_iff_not, beq_iff_eq, Bool.and_eq_true, decide_eq_true_eq, Bool.not_eq_true'] at *; omega) | simp_all)) ?_)
      refine if_intro _ rfl trivial (fun h2 => ?_) (fun h2 => ?_)
      · simp only [Tryz.f100, go_sem, Nat.reduceEqDiff, Nat.reduceLT, Nat.reduceLeDiff, Nat.reduceAdd, Nat.reduceSub, Nat.reduceMul, Nat.reduceBEq, Nat.reduceBNe, Int.reduceEq, Int.reduceToNat, Int.reduceNeg, ↓reduceIte, reduceCtorEq, Nat.reduceDiv, Nat.reduceMod, Int.reduceLE, Int.reduceLT, Int.reduceSub, Int.reduceAdd]
        rw [rightS_eq]
        simp only [formS, aritySt, namedS, hk, lt_not, decide_true, decide_false, or_true, true_or, or_false, false_or, if_true, if_false, reduceIte, Int.reduceEq, Bool.or_true, Bool.true_or, Bool.or_false, Bool.false_or, Bool.not_true, Bool.not_false, Bool.true_and, Bool.and_true, Bool.and_false, Bool.false_and, Bool.false_eq_true, Bool.true_eq, Bool.not_not, bne, or_self] at h h2 ⊢
        revert h h2
        generalize decide (lev ≤ 24) = x0
        generalize decide (s.name = ⟨#[]⟩) = x1
        generalize nameB s.name = x2
        generalize s.e.all (rightE (lev + 1)) = x3
        generalize s.thn.all (rightS (lev + 1)) = x4
        generalize s.els.all (rightS (lev + 1)) = x5
        generalize decide (s.thn.length ≤ 0) = x6
        generalize decide (s.els.length ≤ 0) = x7
        generalize decide (s.e.length ≤ 6) = x8
        revert x0 x1 x2 x3 x4 x5 x6 x7 x8
        decide
      · simp only [Tryz.f100, go_sem, Nat.reduceEqDiff, Nat.reduceLT, Nat.reduceLeDiff, Nat.reduceAdd, Nat.reduceSub, Nat.reduceMul, Nat.reduceBEq, Nat.reduceBNe, Int.reduceEq, Int.reduceToNat, Int.reduceNeg, ↓reduceIte, reduceCtorEq, Nat.reduceDiv, Nat.reduceMod, Int.reduceLE, Int.reduceLT, Int.reduceSub, Int.reduceAdd, r31_at, r31_skip, r33_at, r33_skip, hk, hR, hs, hw']
        repeat (first | intro _ | refine And.intro (by (intros; first | omega | (simp only [Bool.or_eq_false_iff, Bool.or_eq_true, decide_eq_false_iff_not, beq_iff_eq, Bool.and_eq_true, decide_eq_true_eq, Bool.not_eq_true'] at *; omega) | simp_all)) ?_)
        rw [rightS_eq]
        simp only [formS, aritySt, namedS, hk, lt_not, decide_true, decide_false, or_true, true_or, or_false, false_or, if_true, if_false, reduceIte, Int.reduceEq, Bool.or_true, Bool.true_or, Bool.or_false, Bool.false_or, Bool.not_true, Bool.not_false, Bool.true_and, Bool.and_true, Bool.and_false, Bool.false_and, Bool.false_eq_true, Bool.true_eq, Bool.not_not, bne, or_self] at h h2 ⊢
        revert h h2
        generalize decide (lev ≤ 24) = x0
        generalize decide (s.name = ⟨#[]⟩) = x1
        generalize nameB s.name = x2
        generalize s.e.all (rightE (lev + 1)) = x3
        generalize s.thn.all (rightS (lev + 1)) = x4
        generalize s.els.all (rightS (lev + 1)) = x5
        generalize decide (s.thn.length ≤ 0) = x6
        generalize decide (s.els.length ≤ 0) = x7
        generalize decide (s.e.length ≤ 6) = x8
        revert x0 x1 x2 x3 x4 x5 x6 x7 x8
        decide
  · simp only [Tryz.f100, go_sem, Nat.reduceEqDiff, Nat.reduceLT, Nat.reduceLeDiff, Nat.reduceAdd, Nat.reduceSub, Nat.reduceMul, Nat.reduceBEq, Nat.reduceBNe, Int.reduceEq, Int.reduceToNat, Int.reduceNeg, ↓reduceIte, reduceCtorEq, Nat.reduceDiv, Nat.reduceMod, Int.reduceLE, Int.reduceLT, Int.reduceSub, Int.reduceAdd, r31_at, r31_skip, r33_at, r33_skip, hk, hR, hs]
    repeat (first | intro _ | refine And.intro (by (intros; first | omega | (simp only [Bool.or_eq_false_iff, Bool.or_eq_true, decide_eq_false_iff_not, beq_iff_eq, Bool.and_eq_true, decide_eq_true_eq, Bool.not_eq_true'] at *; omega) | simp_all)) ?_)
    refine if_intro _ rfl trivial (fun h => ?_) (fun h => ?_)
    · simp only [Tryz.f100, go_sem, Nat.reduceEqDiff, Nat.reduceLT, Nat.reduceLeDiff, Nat.reduceAdd, Nat.reduceSub, Nat.reduceMul, Nat.reduceBEq, Nat.reduceBNe, Int.reduceEq, Int.reduceToNat, Int.reduceNeg, ↓reduceIte, reduceCtorEq, Nat.reduceDiv, Nat.reduceMod, Int.reduceLE, Int.reduceLT, Int.reduceSub, Int.reduceAdd]
      rw [rightS_eq]
      simp only [formS, aritySt, namedS, hk, lt_not, decide_true, decide_false, or_true, true_or, or_false, false_or, if_true, if_false, reduceIte, Int.reduceEq, Bool.or_true, Bool.true_or, Bool.or_false, Bool.false_or, Bool.not_true, Bool.not_false, Bool.true_and, Bool.and_true, Bool.and_false, Bool.false_and, Bool.false_eq_true, Bool.true_eq, Bool.not_not, bne, or_self] at h ⊢
      revert h
      generalize decide (lev ≤ 24) = x0
      generalize decide (s.name = ⟨#[]⟩) = x1
      generalize nameB s.name = x2
      generalize s.e.all (rightE (lev + 1)) = x3
      generalize s.thn.all (rightS (lev + 1)) = x4
      generalize s.els.all (rightS (lev + 1)) = x5
      generalize decide (s.thn.length ≤ 0) = x6
      generalize decide (s.els.length ≤ 0) = x7
      generalize decide (s.e.length ≤ 1) = x8
      revert x0 x1 x2 x3 x4 x5 x6 x7 x8
      decide
    · have hlev : ¬ 24 < lev := fun hc => by simp [hc] at h
      have hw' := hw hlev
      simp only [Tryz.f100, go_sem, Nat.reduceEqDiff, Nat.reduceLT, Nat.reduceLeDiff, Nat.reduceAdd, Nat.reduceSub, Nat.reduceMul, Nat.reduceBEq, Nat.reduceBNe, Int.reduceEq, Int.reduceToNat, Int.reduceNeg, ↓reduceIte, reduceCtorEq, Nat.reduceDiv, Nat.reduceMod, Int.reduceLE, Int.reduceLT, Int.reduceSub, Int.reduceAdd, r31_at, r31_skip, r33_at, r33_skip, hk, hR, hs]
      repeat (first | intro _ | refine And.intro (by (intros; first | omega | (simp only [Bool.or_eq_false_iff, Bool.or_eq_true, decide_eq_false_iff_not, beq_iff_eq, Bool.and_eq_true, decide_eq_true_eq, Bool.not_eq_true'] at *; omega) | simp_all)) ?_)
      refine if_intro _ rfl trivial (fun h2 => ?_) (fun h2 => ?_)
      · simp only [Tryz.f100, go_sem, Nat.reduceEqDiff, Nat.reduceLT, Nat.reduceLeDiff, Nat.reduceAdd, Nat.reduceSub, Nat.reduceMul, Nat.reduceBEq, Nat.reduceBNe, Int.reduceEq, Int.reduceToNat, Int.reduceNeg, ↓reduceIte, reduceCtorEq, Nat.reduceDiv, Nat.reduceMod, Int.reduceLE, Int.reduceLT, Int.reduceSub, Int.reduceAdd]
        rw [rightS_eq]
        simp only [formS, aritySt, namedS, hk, lt_not, decide_true, decide_false, or_true, true_or, or_false, false_or, if_true, if_false, reduceIte, Int.reduceEq, Bool.or_true, Bool.true_or, Bool.or_false, Bool.false_or, Bool.not_true, Bool.not_false, Bool.true_and, Bool.and_true, Bool.and_false, Bool.false_and, Bool.false_eq_true, Bool.true_eq, Bool.not_not, bne, or_self] at h h2 ⊢
        revert h h2
        generalize decide (lev ≤ 24) = x0
        generalize decide (s.name = ⟨#[]⟩) = x1
        generalize nameB s.name = x2
        generalize s.e.all (rightE (lev + 1)) = x3
        generalize s.thn.all (rightS (lev + 1)) = x4
        generalize s.els.all (rightS (lev + 1)) = x5
        generalize decide (s.thn.length ≤ 0) = x6
        generalize decide (s.els.length ≤ 0) = x7
        generalize decide (s.e.length ≤ 1) = x8
        revert x0 x1 x2 x3 x4 x5 x6 x7 x8
        decide
      · simp only [Tryz.f100, go_sem, Nat.reduceEqDiff, Nat.reduceLT, Nat.reduceLeDiff, Nat.reduceAdd, Nat.reduceSub, Nat.reduceMul, Nat.reduceBEq, Nat.reduceBNe, Int.reduceEq, Int.reduceToNat, Int.reduceNeg, ↓reduceIte, reduceCtorEq, Nat.reduceDiv, Nat.reduceMod, Int.reduceLE, Int.reduceLT, Int.reduceSub, Int.reduceAdd, r31_at, r31_skip, r33_at, r33_skip, hk, hR, hs, hw']
        repeat (first | intro _ | refine And.intro (by (intros; first | omega | (simp only [Bool.or_eq_false_iff, Bool.or_eq_true, decide_eq_false_iff_not, beq_iff_eq, Bool.and_eq_true, decide_eq_true_eq, Bool.not_eq_true'] at *; omega) | simp_all)) ?_)
        rw [rightS_eq]
        simp only [formS, aritySt, namedS, hk, lt_not, decide_true, decide_false, or_true, true_or, or_false, false_or, if_true, if_false, reduceIte, Int.reduceEq, Bool.or_true, Bool.true_or, Bool.or_false, Bool.false_or, Bool.not_true, Bool.not_false, Bool.true_and, Bool.and_true, Bool.and_false, Bool.false_and, Bool.false_eq_true, Bool.true_eq, Bool.not_not, bne, or_self] at h h2 ⊢
        revert h h2
        generalize decide (lev ≤ 24) = x0
        generalize decide (s.name = ⟨#[]⟩) = x1
        generalize nameB s.name = x2
        generalize s.e.all (rightE (lev + 1)) = x3
        generalize s.thn.all (rightS (lev + 1)) = x4
        generalize s.els.all (rightS (lev + 1)) = x5
        generalize decide (s.thn.length ≤ 0) = x6
        generalize decide (s.els.length ≤ 0) = x7
        generalize decide (s.e.length ≤ 1) = x8
        revert x0 x1 x2 x3 x4 x5 x6 x7 x8
        decide
  · simp only [Tryz.f100, go_sem, Nat.reduceEqDiff, Nat.reduceLT, Nat.reduceLeDiff, Nat.reduceAdd, Nat.reduceSub, Nat.reduceMul, Nat.reduceBEq, Nat.reduceBNe, Int.reduceEq, Int.reduceToNat, Int.reduceNeg, ↓reduceIte, reduceCtorEq, Nat.reduceDiv, Nat.reduceMod, Int.reduceLE, Int.reduceLT, Int.reduceSub, Int.reduceAdd, r31_at, r31_skip, r33_at, r33_skip, k1, k2, k3, k4, k5, k6, k7, hR, hs]
    repeat (first | intro _ | refine And.intro (by (intros; first | omega | (simp only [Bool.or_eq_false_iff, Bool.or_eq_true, decide_eq_false_iff_not, beq_iff_eq, Bool.and_eq_true, decide_eq_true_eq, Bool.not_eq_true'] at *; omega) | simp_all)) ?_)
    refine if_intro _ rfl trivial (fun h => ?_) (fun h => ?_)
    · simp only [Tryz.f100, go_sem, Nat.reduceEqDiff, Nat.reduceLT, Nat.reduceLeDiff, Nat.reduceAdd, Nat.reduceSub, Nat.reduceMul, Nat.reduceBEq, Nat.reduceBNe, Int.reduceEq, Int.reduceToNat, Int.reduceNeg, ↓reduceIte, reduceCtorEq, Nat.reduceDiv, Nat.reduceMod, Int.reduceLE, Int.reduceLT, Int.reduceSub, Int.reduceAdd]
      rw [rightS_eq]
      simp only [formS, aritySt, namedS, k1, k2, k3, k4, k5, k6, k7, lt_not, decide_true, decide_false, or_true, true_or, or_false, false_or, if_true, if_false, reduceIte, Int.reduceEq, Bool.or_true, Bool.true_or, Bool.or_false, Bool.false_or, Bool.not_true, Bool.not_false, Bool.true_and, Bool.and_true, Bool.and_false, Bool.false_and, Bool.false_eq_true, Bool.true_eq, Bool.not_not, bne, or_self] at h ⊢
    · have hlev : ¬ 24 < lev := fun hc => by simp [hc] at h
      have hw' := hw hlev
      simp only [Tryz.f100, go_sem, Nat.reduceEqDiff, Nat.reduceLT, Nat.reduceLeDiff, Nat.reduceAdd, Nat.reduceSub, Nat.reduceMul, Nat.reduceBEq, Nat.reduceBNe, Int.reduceEq, Int.reduceToNat, Int.reduceNeg, ↓reduceIte, reduceCtorEq, Nat.reduceDiv, Nat.reduceMod, Int.reduceLE, Int.reduceLT, Int.reduceSub, Int.reduceAdd, r31_at, r31_skip, r33_at, r33_skip, k1, k2, k3, k4, k5, k6, k7, hR, hs]
      repeat (first | intro _ | refine And.intro (by (intros; first | omega | (simp only [Bool.or_eq_false_iff, Bool.or_eq_true, decide_eq_false_iff_not, beq_iff_eq, Bool.and_eq_true, decide_eq_true_eq, Bool.not_eq_true'] at *; omega) | simp_all)) ?_)
      refine if_intro _ rfl trivial (fun h2 => ?_) (fun h2 => ?_)
      · simp only [Tryz.f100, go_sem, Nat.reduceEqDiff, Nat.reduceLT, Nat.reduceLeDiff, Nat.reduceAdd, Nat.reduceSub, Nat.reduceMul, Nat.reduceBEq, Nat.reduceBNe, Int.reduceEq, Int.reduceToNat, Int.reduceNeg, ↓reduceIte, reduceCtorEq, Nat.reduceDiv, Nat.reduceMod, Int.reduceLE, Int.reduceLT, Int.reduceSub, Int.reduceAdd]
        rw [rightS_eq]
        simp only [formS, aritySt, namedS, k1, k2, k3, k4, k5, k6, k7, lt_not, decide_true, decide_false, or_true, true_or, or_false, false_or, if_true, if_false, reduceIte, Int.reduceEq, Bool.or_true, Bool.true_or, Bool.or_false, Bool.false_or, Bool.not_true, Bool.not_false, Bool.true_and, Bool.and_true, Bool.and_false, Bool.false_and, Bool.false_eq_true, Bool.true_eq, Bool.not_not, bne, or_self] at h h2 ⊢
      · simp only [Tryz.f100, go_sem, Nat.reduceEqDiff, Nat.reduceLT, Nat.reduceLeDiff, Nat.reduceAdd, Nat.reduceSub, Nat.reduceMul, Nat.reduceBEq, Nat.reduceBNe, Int.reduceEq, Int.reduceToNat, Int.reduceNeg, ↓reduceIte, reduceCtorEq, Nat.reduceDiv, Nat.reduceMod, Int.reduceLE, Int.reduceLT, Int.reduceSub, Int.reduceAdd, r31_at, r31_skip, r33_at, r33_skip, k1, k2, k3, k4, k5, k6, k7, hR, hs, hw']
        repeat (first | intro _ | refine And.intro (by (intros; first | omega | (simp only [Bool.or_eq_false_iff, Bool.or_eq_true, decide_eq_false_iff_not, beq_iff_eq, Bool.and_eq_true, decide_eq_true_eq, Bool.not_eq_true'] at *; omega) | simp_all)) ?_)
        rw [rightS_eq]
        simp only [formS, aritySt, namedS, k1, k2, k3, k4, k5, k6, k7, lt_not, decide_true, decide_false, or_true, true_or, or_false, false_or, if_true, if_false, reduceIte, Int.reduceEq, Bool.or_true, Bool.true_or, Bool.or_false, Bool.false_or, Bool.not_true, Bool.not_false, Bool.true_and, Bool.and_true, Bool.and_false, Bool.false_and, Bool.false_eq_true, Bool.true_eq, Bool.not_not, bne, or_self] at h h2 ⊢

theorem rightS_ind : ∀ (n : Nat) (e : St) (lev : Nat), szS e < n → VPure Tryz.prog G 100 [.agg (encS e), .val (.int .i64 lev)] (.val (.bool (rightS lev e)))
  | 0, _, _, h => by omega
  | n + 1, e, lev, h => rightStmt_step n (fun e lev h => rightS_ind n e lev h) e lev (by omega)
theorem rightStmt_c (e : St) (lev : Nat) : VPure Tryz.prog G 100 [.agg (encS e), .val (.int .i64 lev)] (.val (.bool (rightS lev e))) := rightS_ind (szS e + 1) e lev (by omega)
theorem rightStmts_c (l : List St) (lev : Nat) : VPure Tryz.prog G 63 [.slice (l.map encS), .val (.int .i64 lev)] (.val (.bool (l.all (rightS lev)))) :=
  rightStmts_step (szSs l + 1) (fun e lev _ => rightStmt_c e lev) l lev fun i hi => by have := szSs_elm l i hi; omega
noncomputable def r32 : Rule Tryz.prog G := Rule.pure 63 ((List St) × (Nat)) (fun x => match x with | (l, lev) => [.slice (l.map encS), .val (.int .i64 lev)]) (fun x => match x with | (l, lev) => .val (.bool (l.all (rightS lev)))) (by rintro ⟨l1, lev1⟩ ⟨l2, lev2⟩ h; simp only [List.cons.injEq, PV.agg.injEq, PV.val.injEq, PV.slice.injEq, Value.int.injEq, Value.bool.injEq, Value.string.injEq, encE_iff, encEs_iff, encS_iff, encSs_iff, encT_iff, encF_iff, encP_iff, Int.natCast_inj, true_and, and_true] at h; simp only [h]) (fun ⟨l, lev⟩ => rightStmts_c l lev)
theorem r32_at (tl : List (Rule Tryz.prog G)) (l : List St) (lev : Nat) (sh : Sh) : tab (r32 :: tl) 63 [.slice (l.map encS), .val (.int .i64 lev)] sh = some (.val (.bool (l.all (rightS lev))), sh) := by
  have this : tab (r32 :: tl) 63 [.slice (l.map encS), .val (.int .i64 lev)] sh = some (.val (.bool (l.all (rightS lev))), sh) := tab_pure tl ((l, lev) : (List St) × (Nat)) sh
  exact this
theorem r32_skip (tl : List (Rule Tryz.prog G)) (f : FuncId) (args : List PV) (sh : Sh) (h : f ≠ 63) : tab (r32 :: tl) f args sh = tab tl f args sh := tab_skip _ tl f args sh h
end Go.Proofs.YtaackmiajgapoaaGreatDoor.V
