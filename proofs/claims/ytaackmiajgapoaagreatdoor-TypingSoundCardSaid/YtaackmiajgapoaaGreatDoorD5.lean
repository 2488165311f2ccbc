/- Which programs may be (seedcornref14). -/
import Derived.Test.YtaackmiajgapoaaGreatDoorD4
set_option maxHeartbeats 16000000
set_option maxRecDepth 100000
set_option linter.unusedSimpArgs false
set_option linter.unusedVariables false
namespace Go.Proofs.YtaackmiajgapoaaGreatDoor.V
open Go
variable {G : Nat → Option (List PV)}

def arrOk (a : Ar) : Bool := nameB a.name && decide (1 ≤ a.size) && decide (a.size ≤ 4096)
def fnOk (f : Fn) : Bool := nameB f.name && decide (f.params.length ≤ 6) && f.params.all nameB && f.locals.all nameB && f.body.all (rightS 1)
def rightP (p : Pg) : Bool := p.vars.all nameB && decide (1 ≤ p.funcs.length) && decide (p.funcs.length ≤ 64) && p.arrays.all arrOk && p.funcs.all fnOk
theorem r32_at1 (tl : List (Rule Tryz.prog G)) (l : List St) (sh : Sh) : tab (r32 :: tl) 63 [.slice (l.map encS), .val (.int .i64 1)] sh = some (.val (.bool (l.all (rightS 1))), sh) := r32_at tl l 1 sh

theorem right_c (p : Pg) : VPure Tryz.prog G 34 [.agg (encP p)] (.val (.bool (rightP p))) := by
  refine VPure.of (.val _) fun sh => ?_
  refine VCalls_enter [] Tryz.func34 rfl (show 1 ≤ 95 by decide) ?_
  refine vCode_sound (tab_ok [r30, r31, r32]) _ _ _ ?_
  simp only [encP]
  simp only [Tryz.f34, go_sem, Nat.reduceEqDiff, Nat.reduceLT, Nat.reduceLeDiff, Nat.reduceAdd, Nat.reduceSub, Nat.reduceMul, Nat.reduceBEq, Nat.reduceBNe, Int.reduceEq, Int.reduceToNat, Int.reduceNeg, ↓reduceIte, reduceCtorEq, Nat.reduceDiv, Nat.reduceMod, Int.reduceLE, Int.reduceLT, Int.reduceSub, Int.reduceAdd, r30_at, r30_skip, r31_at, r31_skip, r32_at, r32_skip]
  repeat (first | intro _ | refine And.intro (by (intros; first | omega | (simp only [Bool.or_eq_false_iff, Bool.or_eq_true, decide_eq_false_iff_not, beq_iff_eq, Bool.and_eq_true, decide_eq_true_eq, Bool.not_eq_true'] at *; omega) | simp_all)) ?_)
  refine if_intro _ rfl trivial (fun h0 => ?_) (fun h0 => ?_)
  · simp only [Tryz.f34, go_sem, Nat.reduceEqDiff, Nat.reduceLT, Nat.reduceLeDiff, Nat.reduceAdd, Nat.reduceSub, Nat.reduceMul, Nat.reduceBEq, Nat.reduceBNe, Int.reduceEq, Int.reduceToNat, Int.reduceNeg, ↓reduceIte, reduceCtorEq, Nat.reduceDiv, Nat.reduceMod, Int.reduceLE, Int.reduceLT, Int.reduceSub, Int.reduceAdd]
    unfold rightP
    simp only [Bool.or_eq_true, decide_eq_true_eq, Bool.not_eq_true'] at h0
    rcases h0 with (h0 | h0) | h0
    · rw [h0]; simp
    · rw [decide_eq_false (show ¬ 1 ≤ p.funcs.length by omega)]; simp
    · rw [decide_eq_false (show ¬ p.funcs.length ≤ 64 by omega)]; simp
  simp only [Tryz.f34, go_sem, Nat.reduceEqDiff, Nat.reduceLT, Nat.reduceLeDiff, Nat.reduceAdd, Nat.reduceSub, Nat.reduceMul, Nat.reduceBEq, Nat.reduceBNe, Int.reduceEq, Int.reduceToNat, Int.reduceNeg, ↓reduceIte, reduceCtorEq, Nat.reduceDiv, Nat.reduceMod, Int.reduceLE, Int.reduceLT, Int.reduceSub, Int.reduceAdd]
  simp only [Bool.or_eq_false_iff, decide_eq_false_iff_not, Bool.not_eq_false'] at h0
  refine loop_intro (VWp_for [22, 23, 24, 25, 26, 29, 30, 31, 32, 33, 34, 35, 36, 37, 38, 39, 40, 41, 42, 43, 44, 45, 46, 47, 48, 49, 50, 51, 52, 53, 54, 2, 27, 28, 3] (fun i : Nat => [(3, .val (.int .i64 i))]) [] (fun _ => []) [] (fun _ => []) (fun _ => sh)
    (fun i => i ≤ p.arrays.length ∧ ∀ j, j < i → arrOk (elm p.arrays j) = true) (fun i => p.arrays.length - i) 0 ⟨Nat.zero_le _, fun j h => by omega⟩ (by refine ⟨rfl, rfl, rfl, .refl _ _, .refl _ _, .refl _ _, by repeat (first | trivial | rfl | refine ⟨?_, ?_⟩), by repeat (first | trivial | rfl | refine ⟨?_, ?_⟩), by repeat (first | trivial | rfl | refine ⟨?_, ?_⟩), by repeat (first | trivial | exact .inr rfl | exact .inl rfl | refine ⟨?_, ?_⟩), by repeat (first | trivial | exact .inr rfl | exact .inl rfl | refine ⟨?_, ?_⟩), by repeat (first | trivial | exact .inr rfl | exact .inl rfl | refine ⟨?_, ?_⟩), by repeat (first | trivial | exact .inr rfl | exact .inl rfl | refine ⟨?_, ?_⟩)⟩) ?_)
  rintro i ⟨hi, hne⟩
  refine vCode_sound (tab_ok [r30, r31, r32]) _ _ _ ?_
  simp only [Tryz.f34, go_sem, Nat.reduceEqDiff, Nat.reduceLT, Nat.reduceLeDiff, Nat.reduceAdd, Nat.reduceSub, Nat.reduceMul, Nat.reduceBEq, Nat.reduceBNe, Int.reduceEq, Int.reduceToNat, Int.reduceNeg, ↓reduceIte, reduceCtorEq, Nat.reduceDiv, Nat.reduceMod, Int.reduceLE, Int.reduceLT, Int.reduceSub, Int.reduceAdd]
  repeat (first | intro _ | refine And.intro (by (intros; first | omega | (simp only [Bool.or_eq_false_iff, Bool.or_eq_true, decide_eq_false_iff_not, beq_iff_eq, Bool.and_eq_true, decide_eq_true_eq, Bool.not_eq_true'] at *; omega) | simp_all)) ?_)
  refine if_intro _ rfl trivial (fun h => ?_) (fun h => ?_)
  · simp only [decide_eq_true_eq, Int.ofNat_lt] at h
    have hfin : ∀ b, b = arrOk (elm p.arrays i) → (b = false → p.arrays.all arrOk = false) ∧ (b = true → ∀ j, j < i + 1 → arrOk (elm p.arrays j) = true) := fun b hb => ⟨fun e => all_at h (by rw [← hb, e]), fun e j hj => by
      by_cases e' : j = i
      · subst e'; rw [← hb, e]
      · exact hne j (by omega)⟩
    have hw : IntKind.i64.wrap ((i : Int) + 1) = ((i + 1 : Nat) : Int) := by rw [wrap64_id (by omega) (by omega)]; rfl
    simp only [Tryz.f34, go_sem, Nat.reduceEqDiff, Nat.reduceLT, Nat.reduceLeDiff, Nat.reduceAdd, Nat.reduceSub, Nat.reduceMul, Nat.reduceBEq, Nat.reduceBNe, Int.reduceEq, Int.reduceToNat, Int.reduceNeg, ↓reduceIte, reduceCtorEq, Nat.reduceDiv, Nat.reduceMod, Int.reduceLE, Int.reduceLT, Int.reduceSub, Int.reduceAdd, r30_at, r30_skip, r31_at, r31_skip, r32_at, r32_skip, h]
    repeat (first | intro _ | refine And.intro (by (intros; first | omega | (simp only [Bool.or_eq_false_iff, Bool.or_eq_true, decide_eq_false_iff_not, beq_iff_eq, Bool.and_eq_true, decide_eq_true_eq, Bool.not_eq_true'] at *; omega) | simp_all)) ?_)
    refine if_intro _ rfl trivial (fun h2 => ?_) (fun h2 => ?_)
    · simp only [Tryz.f34, go_sem, Nat.reduceEqDiff, Nat.reduceLT, Nat.reduceLeDiff, Nat.reduceAdd, Nat.reduceSub, Nat.reduceMul, Nat.reduceBEq, Nat.reduceBNe, Int.reduceEq, Int.reduceToNat, Int.reduceNeg, ↓reduceIte, reduceCtorEq, Nat.reduceDiv, Nat.reduceMod, Int.reduceLE, Int.reduceLT, Int.reduceSub, Int.reduceAdd]
      have hf : arrOk (elm p.arrays i) = false := by
        unfold arrOk
        simp only [Bool.or_eq_true, decide_eq_true_eq, Bool.not_eq_true'] at h2
        rcases h2 with (h2 | h2) | h2
        · rw [h2]; simp
        · rw [decide_eq_false (show ¬ 1 ≤ (elm p.arrays i).size by omega)]; simp
        · rw [decide_eq_false (show ¬ (elm p.arrays i).size ≤ 4096 by omega)]; simp
      unfold rightP
      rw [(hfin _ rfl).1 hf]; simp
    · simp only [Tryz.f34, go_sem, Nat.reduceEqDiff, Nat.reduceLT, Nat.reduceLeDiff, Nat.reduceAdd, Nat.reduceSub, Nat.reduceMul, Nat.reduceBEq, Nat.reduceBNe, Int.reduceEq, Int.reduceToNat, Int.reduceNeg, ↓reduceIte, reduceCtorEq, Nat.reduceDiv, Nat.reduceMod, Int.reduceLE, Int.reduceLT, Int.reduceSub, Int.reduceAdd, hw]
      have hf : arrOk (elm p.arrays i) = true := by
        unfold arrOk
        simp only [Bool.or_eq_false_iff, decide_eq_false_iff_not, Bool.not_eq_false'] at h2
        rw [h2.1.1, decide_eq_true (show 1 ≤ (elm p.arrays i).size by omega), decide_eq_true (show (elm p.arrays i).size ≤ 4096 by omega)]; rfl
      refine ⟨i + 1, ⟨h, (hfin _ rfl).2 hf⟩, by omega, ?_⟩
      refine ⟨rfl, rfl, rfl, by repeat (first | exact AgreeOff.refl _ _ | refine AgreeOff.upd rfl ?_ | refine AgreeOff.over rfl ?_), by repeat (first | exact AgreeOff.refl _ _ | refine AgreeOff.upd rfl ?_ | refine AgreeOff.over rfl ?_), by repeat (first | exact AgreeOff.refl _ _ | refine AgreeOff.upd rfl ?_ | refine AgreeOff.over rfl ?_), ?_, by repeat (first | trivial | exact .inr rfl | exact .inl rfl | refine ⟨?_, ?_⟩), by repeat (first | trivial | exact .inr rfl | exact .inl rfl | refine ⟨?_, ?_⟩), by repeat (first | trivial | exact .inr rfl | exact .inl rfl | refine ⟨?_, ?_⟩), by repeat (first | trivial | exact .inr rfl | exact .inl rfl | refine ⟨?_, ?_⟩), by repeat (first | trivial | exact .inr rfl | exact .inl rfl | refine ⟨?_, ?_⟩), by repeat (first | trivial | exact .inr rfl | exact .inl rfl | refine ⟨?_, ?_⟩)⟩
      exact ⟨rfl, trivial⟩
  simp only [decide_eq_false_iff_not, Int.ofNat_lt] at h
  have harr : p.arrays.all arrOk = true := all_of fun j hj => hne j (by omega)
  clear hne
  simp only [Tryz.f34, go_sem, Nat.reduceEqDiff, Nat.reduceLT, Nat.reduceLeDiff, Nat.reduceAdd, Nat.reduceSub, Nat.reduceMul, Nat.reduceBEq, Nat.reduceBNe, Int.reduceEq, Int.reduceToNat, Int.reduceNeg, ↓reduceIte, reduceCtorEq, Nat.reduceDiv, Nat.reduceMod, Int.reduceLE, Int.reduceLT, Int.reduceSub, Int.reduceAdd]
  refine loop_intro (VWp_for [55, 56, 57, 58, 59, 62, 63, 64, 65, 66, 5, 67, 68, 69, 70, 71, 72, 73, 74, 75, 76, 77, 78, 79, 80, 81, 82, 83, 84, 85, 86, 87, 88, 89, 90, 91, 92, 93, 94, 2, 60, 61, 4] (fun i : Nat => [(4, .val (.int .i64 i))]) [5] (fun _ => []) [] (fun _ => []) (fun _ => sh)
    (fun i => i ≤ p.funcs.length ∧ ∀ j, j < i → fnOk (elm p.funcs j) = true) (fun i => p.funcs.length - i) 0 ⟨Nat.zero_le _, fun j h => by omega⟩ (by refine ⟨rfl, rfl, rfl, .refl _ _, .refl _ _, .refl _ _, by repeat (first | trivial | rfl | refine ⟨?_, ?_⟩), by repeat (first | trivial | rfl | refine ⟨?_, ?_⟩), by repeat (first | trivial | rfl | refine ⟨?_, ?_⟩), by repeat (first | trivial | exact .inr rfl | exact .inl rfl | refine ⟨?_, ?_⟩), by repeat (first | trivial | exact .inr rfl | exact .inl rfl | refine ⟨?_, ?_⟩), by repeat (first | trivial | exact .inr rfl | exact .inl rfl | refine ⟨?_, ?_⟩), by repeat (first | trivial | exact .inr rfl | exact .inl rfl | refine ⟨?_, ?_⟩)⟩) ?_)
  rintro i ⟨hi, hne⟩
  refine vCode_sound (tab_ok [r30, r31, r32]) _ _ _ ?_
  simp only [Tryz.f34, go_sem, Nat.reduceEqDiff, Nat.reduceLT, Nat.reduceLeDiff, Nat.reduceAdd, Nat.reduceSub, Nat.reduceMul, Nat.reduceBEq, Nat.reduceBNe, Int.reduceEq, Int.reduceToNat, Int.reduceNeg, ↓reduceIte, reduceCtorEq, Nat.reduceDiv, Nat.reduceMod, Int.reduceLE, Int.reduceLT, Int.reduceSub, Int.reduceAdd]
  repeat (first | intro _ | refine And.intro (by (intros; first | omega | (simp only [Bool.or_eq_false_iff, Bool.or_eq_true, decide_eq_false_iff_not, beq_iff_eq, Bool.and_eq_true, decide_eq_true_eq, Bool.not_eq_true'] at *; omega) | simp_all)) ?_)
  refine if_intro _ rfl trivial (fun h => ?_) (fun h => ?_)
  · simp only [decide_eq_true_eq, Int.ofNat_lt] at h
    have hfin : ∀ b, b = fnOk (elm p.funcs i) → (b = false → p.funcs.all fnOk = false) ∧ (b = true → ∀ j, j < i + 1 → fnOk (elm p.funcs j) = true) := fun b hb => ⟨fun e => all_at h (by rw [← hb, e]), fun e j hj => by
      by_cases e' : j = i
      · subst e'; rw [← hb, e]
      · exact hne j (by omega)⟩
    have hw : IntKind.i64.wrap ((i : Int) + 1) = ((i + 1 : Nat) : Int) := by rw [wrap64_id (by omega) (by omega)]; rfl
    simp only [Tryz.f34, go_sem, Nat.reduceEqDiff, Nat.reduceLT, Nat.reduceLeDiff, Nat.reduceAdd, Nat.reduceSub, Nat.reduceMul, Nat.reduceBEq, Nat.reduceBNe, Int.reduceEq, Int.reduceToNat, Int.reduceNeg, ↓reduceIte, reduceCtorEq, Nat.reduceDiv, Nat.reduceMod, Int.reduceLE, Int.reduceLT, Int.reduceSub, Int.reduceAdd, r30_at, r30_skip, r31_at, r31_skip, r32_at, r32_skip, h, r32_at1]
    repeat (first | intro _ | refine And.intro (by (intros; first | omega | (simp only [Bool.or_eq_false_iff, Bool.or_eq_true, decide_eq_false_iff_not, beq_iff_eq, Bool.and_eq_true, decide_eq_true_eq, Bool.not_eq_true'] at *; omega) | simp_all)) ?_)
    refine if_intro _ rfl trivial (fun h2 => ?_) (fun h2 => ?_)
    · simp only [Tryz.f34, go_sem, Nat.reduceEqDiff, Nat.reduceLT, Nat.reduceLeDiff, Nat.reduceAdd, Nat.reduceSub, Nat.reduceMul, Nat.reduceBEq, Nat.reduceBNe, Int.reduceEq, Int.reduceToNat, Int.reduceNeg, ↓reduceIte, reduceCtorEq, Nat.reduceDiv, Nat.reduceMod, Int.reduceLE, Int.reduceLT, Int.reduceSub, Int.reduceAdd]
      have hf : fnOk (elm p.funcs i) = false := by
        unfold fnOk
        simp only [Bool.or_eq_true, decide_eq_true_eq, Bool.not_eq_true'] at h2
        rcases h2 with (((h2 | h2) | h2) | h2) | h2
        · rw [h2]; simp
        · rw [decide_eq_false (show ¬ (elm p.funcs i).params.length ≤ 6 by omega)]; simp
        · rw [h2]; simp
        · rw [h2]; simp
        · rw [h2]; simp
      unfold rightP
      rw [(hfin _ rfl).1 hf]; simp
    · simp only [Tryz.f34, go_sem, Nat.reduceEqDiff, Nat.reduceLT, Nat.reduceLeDiff, Nat.reduceAdd, Nat.reduceSub, Nat.reduceMul, Nat.reduceBEq, Nat.reduceBNe, Int.reduceEq, Int.reduceToNat, Int.reduceNeg, ↓reduceIte, reduceCtorEq, Nat.reduceDiv, Nat.reduceMod, Int.reduceLE, Int.reduceLT, Int.reduceSub, Int.reduceAdd, hw]
      have hf : fnOk (elm p.funcs i) = true := by
        unfold fnOk
        simp only [Bool.or_eq_false_iff, decide_eq_false_iff_not, Bool.not_eq_false'] at h2
        rw [h2.1.1.1.1, h2.1.1.2, h2.1.2, h2.2, decide_eq_true (show (elm p.funcs i).params.length ≤ 6 by omega)]; rfl
      refine ⟨i + 1, ⟨h, (hfin _ rfl).2 hf⟩, by omega, ?_⟩
      refine ⟨rfl, rfl, rfl, by repeat (first | exact AgreeOff.refl _ _ | refine AgreeOff.upd rfl ?_ | refine AgreeOff.over rfl ?_), by repeat (first | exact AgreeOff.refl _ _ | refine AgreeOff.upd rfl ?_ | refine AgreeOff.over rfl ?_), by repeat (first | exact AgreeOff.refl _ _ | refine AgreeOff.upd rfl ?_ | refine AgreeOff.over rfl ?_), ?_, by repeat (first | trivial | exact .inr rfl | exact .inl rfl | refine ⟨?_, ?_⟩), by repeat (first | trivial | exact .inr rfl | exact .inl rfl | refine ⟨?_, ?_⟩), by repeat (first | trivial | exact .inr rfl | exact .inl rfl | refine ⟨?_, ?_⟩), by repeat (first | trivial | exact .inr rfl | exact .inl rfl | refine ⟨?_, ?_⟩), by repeat (first | trivial | exact .inr rfl | exact .inl rfl | refine ⟨?_, ?_⟩), by repeat (first | trivial | exact .inr rfl | exact .inl rfl | refine ⟨?_, ?_⟩)⟩
      exact ⟨rfl, trivial⟩
  simp only [decide_eq_false_iff_not, Int.ofNat_lt] at h
  simp only [Tryz.f34, go_sem, Nat.reduceEqDiff, Nat.reduceLT, Nat.reduceLeDiff, Nat.reduceAdd, Nat.reduceSub, Nat.reduceMul, Nat.reduceBEq, Nat.reduceBNe, Int.reduceEq, Int.reduceToNat, Int.reduceNeg, ↓reduceIte, reduceCtorEq, Nat.reduceDiv, Nat.reduceMod, Int.reduceLE, Int.reduceLT, Int.reduceSub, Int.reduceAdd]
  unfold rightP
  rw [h0.1.1, harr, all_of fun j hj => hne j (by omega), decide_eq_true (show 1 ≤ p.funcs.length by omega), decide_eq_true (show p.funcs.length ≤ 64 by omega)]
  rfl
noncomputable def r12 : Rule Tryz.prog G := Rule.pure 34 ((Pg)) (fun p => [.agg (encP p)]) (fun p => .val (.bool (rightP p))) (by rintro p1 p2 h; simp only [List.cons.injEq, PV.agg.injEq, PV.val.injEq, PV.slice.injEq, Value.int.injEq, Value.bool.injEq, Value.string.injEq, encE_iff, encEs_iff, encS_iff, encSs_iff, encT_iff, encF_iff, encP_iff, Int.natCast_inj, true_and, and_true] at h; simp only [h]) (fun p => right_c p)
theorem r12_at (tl : List (Rule Tryz.prog G)) (p : Pg) (sh : Sh) : tab (r12 :: tl) 34 [.agg [.slice (encT p.vars), .slice (p.arrays.map encA), .slice (p.funcs.map encF)]] sh = some (.val (.bool (rightP p)), sh) := by
  have this : tab (r12 :: tl) 34 [.agg (encP p)] sh = some (.val (.bool (rightP p)), sh) := tab_pure tl ((p) : (Pg)) sh
  simpa only [encE_eq, encS_eq, encF, encP] using this
theorem r12_skip (tl : List (Rule Tryz.prog G)) (f : FuncId) (args : List PV) (sh : Sh) (h : f ≠ 34) : tab (r12 :: tl) f args sh = tab tl f args sh := tab_skip _ tl f args sh h
end Go.Proofs.YtaackmiajgapoaaGreatDoor.V
