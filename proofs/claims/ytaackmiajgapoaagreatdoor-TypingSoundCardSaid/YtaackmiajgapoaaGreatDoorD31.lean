/- What is told of uses (scope): closures of named and counted. -/
import Derived.Test.YtaackmiajgapoaaGreatDoorD30
set_option maxRecDepth 100000
set_option maxHeartbeats 16000000
set_option linter.unusedSimpArgs false
set_option linter.unusedVariables false
namespace Go.Proofs.YtaackmiajgapoaaGreatDoor.V
open Go
variable {G : Nat → Option (List PV)}

/-- A use is of what its name names. -/
def nameG (p : Pg) (f : Int) (u : Use) : Bool :=
  if u.kind = 2 then decide ((findP p f u.name).1 = 1) || decide ((findP p f u.name).1 = 2)
  else if u.kind = 3 then decide ((findP p f u.name).1 = 3)
  else if u.kind = 4 then decide ((findP p f u.name).1 = 4) && decide ((findP p f u.name).2 < f) else true

def setB (sh : Sh) (b : Nat) (v : Bool) : Sh := { next := sh.next, mem := upd sh.mem b (some [.val (.bool v)]) }
theorem setB_same {sh : Sh} {b : Nat} {v : Bool} (h : sh.mem b = some [.val (.bool v)]) : setB sh b v = sh := by
  unfold setB
  have : upd sh.mem b (some [.val (.bool v)]) = sh.mem := by
    funext d
    unfold upd
    split
    · rename_i e; rw [e, h]
    · rfl
  rw [this]

theorem named1_c (p : Pg) (hp : ownOk p) (pb ib ob : Nat) (f : Int) (ok : Bool) (u : Use) (sh : Sh) (h1 : sh.mem pb = some (encP p)) (h2 : sh.mem ib = some [.val (.int .i64 f)]) (h3 : sh.mem ob = some [.val (.bool ok)]) :
    VCalls Tryz.prog G 94 [useV u, .box pb 0, .box ib 0, .box ob 0] sh fun e s' => e = .ret (.tup []) ∧ s' = setB sh ob (ok && nameG p f u) := by
  simp only [encP] at h1
  obtain ⟨F, hF, hsF⟩ := pureRule (find_c (G := G) p hp f u.name)
  simp only [encP] at hF
  refine VCalls_enter [] Tryz.func94 rfl (show 4 ≤ 47 by decide) ?_
  refine vCode_sound (tab_ok [F]) _ _ _ ?_
  unfold useV nameG
  have hkind : u.kind = 2 ∨ u.kind = 3 ∨ u.kind = 4 ∨ (¬ u.kind = 2 ∧ ¬ u.kind = 3 ∧ ¬ u.kind = 4) := by omega
  rcases hkind with hk | hk | hk | ⟨hk2, hk3, hk4⟩
  · simp only [Tryz.f94, go_sem, Nat.reduceEqDiff, Nat.reduceLT, Nat.reduceLeDiff, Nat.reduceAdd, Nat.reduceSub, Nat.reduceMul, Nat.reduceBEq, Nat.reduceBNe, Int.reduceEq, Int.reduceToNat, Int.reduceNeg, ↓reduceIte, reduceCtorEq, Nat.reduceDiv, Nat.reduceMod, Int.reduceLE, Int.reduceLT, Int.reduceSub, Int.reduceAdd, hk, h1, h2, h3, hF, hsF]
    repeat (first | intro _ | refine And.intro (by (intros; first | omega | (simp only [Bool.or_eq_false_iff, Bool.or_eq_true, decide_eq_false_iff_not, beq_iff_eq, Bool.and_eq_true, decide_eq_true_eq, Bool.not_eq_true'] at *; omega) | simp_all)) ?_)
    rfl
  · simp only [Tryz.f94, go_sem, Nat.reduceEqDiff, Nat.reduceLT, Nat.reduceLeDiff, Nat.reduceAdd, Nat.reduceSub, Nat.reduceMul, Nat.reduceBEq, Nat.reduceBNe, Int.reduceEq, Int.reduceToNat, Int.reduceNeg, ↓reduceIte, reduceCtorEq, Nat.reduceDiv, Nat.reduceMod, Int.reduceLE, Int.reduceLT, Int.reduceSub, Int.reduceAdd, hk, h1, h2, h3, hF, hsF]
    repeat (first | intro _ | refine And.intro (by (intros; first | omega | (simp only [Bool.or_eq_false_iff, Bool.or_eq_true, decide_eq_false_iff_not, beq_iff_eq, Bool.and_eq_true, decide_eq_true_eq, Bool.not_eq_true'] at *; omega) | simp_all)) ?_)
    rfl
  · simp only [Tryz.f94, go_sem, Nat.reduceEqDiff, Nat.reduceLT, Nat.reduceLeDiff, Nat.reduceAdd, Nat.reduceSub, Nat.reduceMul, Nat.reduceBEq, Nat.reduceBNe, Int.reduceEq, Int.reduceToNat, Int.reduceNeg, ↓reduceIte, reduceCtorEq, Nat.reduceDiv, Nat.reduceMod, Int.reduceLE, Int.reduceLT, Int.reduceSub, Int.reduceAdd, hk, h1, h2, h3, hF, hsF]
    repeat (first | intro _ | refine And.intro (by (intros; first | omega | (simp only [Bool.or_eq_false_iff, Bool.or_eq_true, decide_eq_false_iff_not, beq_iff_eq, Bool.and_eq_true, decide_eq_true_eq, Bool.not_eq_true'] at *; omega) | simp_all)) ?_)
    rw [Bool.and_assoc]
    rfl
  · simp only [Tryz.f94, go_sem, Nat.reduceEqDiff, Nat.reduceLT, Nat.reduceLeDiff, Nat.reduceAdd, Nat.reduceSub, Nat.reduceMul, Nat.reduceBEq, Nat.reduceBNe, Int.reduceEq, Int.reduceToNat, Int.reduceNeg, ↓reduceIte, reduceCtorEq, Nat.reduceDiv, Nat.reduceMod, Int.reduceLE, Int.reduceLT, Int.reduceSub, Int.reduceAdd, hk2, hk3, hk4, h1, h2, h3, hF, hsF]
    repeat (first | intro _ | refine And.intro (by (intros; first | omega | (simp only [Bool.or_eq_false_iff, Bool.or_eq_true, decide_eq_false_iff_not, beq_iff_eq, Bool.and_eq_true, decide_eq_true_eq, Bool.not_eq_true'] at *; omega) | simp_all)) ?_)
    exact (setB_same h3).symm

/-- A use has as many arguments as what it names has parameters. -/
def countG (p : Pg) (f : Int) (u : Use) : Bool :=
  if u.kind = 4 then decide (((elm p.funcs (findP p f u.name).2.toNat).params.length : Int) = u.args) else true
def countU (p : Pg) (f : Int) (u : Use) : Prop := u.kind = 4 → 0 ≤ (findP p f u.name).2 ∧ (findP p f u.name).2 < p.funcs.length

theorem counted1_c (p : Pg) (hp : ownOk p) (pb ib ob : Nat) (f : Int) (ok : Bool) (u : Use) (hU : countU p f u) (sh : Sh) (h1 : sh.mem pb = some (encP p)) (h2 : sh.mem ib = some [.val (.int .i64 f)]) (h3 : sh.mem ob = some [.val (.bool ok)]) (hne : pb ≠ ob) :
    VCalls Tryz.prog G 96 [useV u, .box pb 0, .box ib 0, .box ob 0] sh fun e s' => e = .ret (.tup []) ∧ s' = setB sh ob (ok && countG p f u) := by
  simp only [encP] at h1
  refine VCalls_enter [] Tryz.func96 rfl (show 4 ≤ 31 by decide) ?_
  unfold useV countG
  by_cases hk : u.kind = 4
  · obtain ⟨hj0, hj1⟩ := hU hk
    obtain ⟨F, hF, hsF⟩ := pureRule (find_c (G := G) p hp f u.name)
    simp only [encP] at hF
    obtain ⟨j, hj⟩ : ∃ j : Nat, (findP p f u.name).2 = (j : Int) := ⟨(findP p f u.name).2.toNat, by omega⟩
    rw [hj] at hF hj1
    have hjl : j < p.funcs.length := by omega
    refine vCode_sound (tab_ok [F]) _ _ _ ?_
    rw [if_pos hk, hj]
    simp only [Tryz.f96, go_sem, Nat.reduceEqDiff, Nat.reduceLT, Nat.reduceLeDiff, Nat.reduceAdd, Nat.reduceSub, Nat.reduceMul, Nat.reduceBEq, Nat.reduceBNe, Int.reduceEq, Int.reduceToNat, Int.reduceNeg, ↓reduceIte, reduceCtorEq, Nat.reduceDiv, Nat.reduceMod, Int.reduceLE, Int.reduceLT, Int.reduceSub, Int.reduceAdd, hk, h1, h2, h3, hF, hsF, hjl]
    repeat (first | intro _ | refine And.intro (by (intros; first | omega | (simp only [Bool.or_eq_false_iff, Bool.or_eq_true, decide_eq_false_iff_not, beq_iff_eq, Bool.and_eq_true, decide_eq_true_eq, Bool.not_eq_true'] at *; omega) | simp_all)) ?_)
    refine drawR_intro (tab_ok [F]) mixed [pb] [(false, 0), (true, 1), (true, 2), (true, 3), (true, 4), (true, 5), (true, 6), (true, 7), (true, 8), (true, 9), (true, 10), (true, 11), (true, 12), (false, 13)] rfl ?_
    simp only [Tryz.f96, go_sem, Nat.reduceEqDiff, Nat.reduceLT, Nat.reduceLeDiff, Nat.reduceAdd, Nat.reduceSub, Nat.reduceMul, Nat.reduceBEq, Nat.reduceBNe, Int.reduceEq, Int.reduceToNat, Int.reduceNeg, ↓reduceIte, reduceCtorEq, Nat.reduceDiv, Nat.reduceMod, Int.reduceLE, Int.reduceLT, Int.reduceSub, Int.reduceAdd, hk, h1, h2, h3, hF, hsF, hjl, vDR, vDOpR, bareR, roSame]
    repeat (first | intro _ | refine And.intro (by (intros; first | omega | (simp only [Bool.or_eq_false_iff, Bool.or_eq_true, decide_eq_false_iff_not, beq_iff_eq, Bool.and_eq_true, decide_eq_true_eq, Bool.not_eq_true'] at *; omega) | simp_all)) ?_)
    rfl
  · refine vCode_sound (tab_ok []) _ _ _ ?_
    simp only [Tryz.f96, go_sem, Nat.reduceEqDiff, Nat.reduceLT, Nat.reduceLeDiff, Nat.reduceAdd, Nat.reduceSub, Nat.reduceMul, Nat.reduceBEq, Nat.reduceBNe, Int.reduceEq, Int.reduceToNat, Int.reduceNeg, ↓reduceIte, reduceCtorEq, Nat.reduceDiv, Nat.reduceMod, Int.reduceLE, Int.reduceLT, Int.reduceSub, Int.reduceAdd, hk, h1, h2, h3]
    repeat (first | intro _ | refine And.intro (by (intros; first | omega | (simp only [Bool.or_eq_false_iff, Bool.or_eq_true, decide_eq_false_iff_not, beq_iff_eq, Bool.and_eq_true, decide_eq_true_eq, Bool.not_eq_true'] at *; omega) | simp_all)) ?_)
    exact (setB_same h3).symm
end Go.Proofs.YtaackmiajgapoaaGreatDoor.V
