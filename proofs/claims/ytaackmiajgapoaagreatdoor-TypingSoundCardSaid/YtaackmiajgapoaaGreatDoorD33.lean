/- All calls (scope); what scope says. -/
import Derived.Test.YtaackmiajgapoaaGreatDoorD32
set_option maxRecDepth 100000
set_option maxHeartbeats 16000000
set_option linter.unusedSimpArgs false
set_option linter.unusedVariables false
namespace Go.Proofs.YtaackmiajgapoaaGreatDoor.V
open Go
variable {G : Nat → Option (List PV)}

theorem named_countU (p : Pg) (h : namedP p = true) (i : Nat) (hi : i < p.funcs.length) (u : Use) (hu : u ∈ usesSs (elm p.funcs i).body) : countU p i u := by
  intro hk
  simp only [namedP, okN, Bool.and_eq_true, List.all_eq_true, List.mem_range] at h
  have h1 := h.2.2 i hi u hu
  rw [nameG, if_neg (by omega), if_neg (by omega), if_pos hk, Bool.and_eq_true, decide_eq_true_eq, decide_eq_true_eq] at h1
  refine ⟨?_, by omega⟩
  have h4 := h1.1
  unfold findP at h4 ⊢
  split at h4
  · simp at h4
  · rename_i n1
    rw [if_neg n1]
    split at h4
    · simp at h4
    · rename_i n2
      rw [if_neg n2]
      split at h4
      · simp at h4
      · rename_i n3
        rw [if_neg n3]
        split at h4
        · rename_i n4
          rw [if_pos n4]
          exact n4
        · simp at h4

def okC (p : Pg) (i : Nat) : Bool := (List.range i).all fun j => (usesSs (elm p.funcs j).body).all (countG p j)
theorem okC_succ (p : Pg) (i : Nat) : okC p (i + 1) = (okC p i && (usesSs (elm p.funcs i).body).all (countG p i)) := by
  unfold okC
  rw [List.range_succ, List.all_append]
  simp
/-- The name of the last function. -/
def mainS : ByteArray := ⟨#[109, 97, 105, 110]⟩
def lastF (p : Pg) : Fn := elm p.funcs (p.funcs.length - 1)
def countedP (p : Pg) : Bool := okC p p.funcs.length && decide ((lastF p).name = mainS) && decide ((lastF p).params.length = 0) && !(lastF p).word

theorem counted_c (p : Pg) (hp : nmOk p) (hn : namedP p = true) (h0 : 0 < p.funcs.length) : VPure Tryz.prog G 59 [.agg (encP p)] (.val (.bool (countedP p))) := by
  refine VPure.of (.val _) fun sh => ?_
  refine VCalls_enter [1, 3, 4] Tryz.func59 rfl (show 1 ≤ 45 by decide) ?_
  simp only [encP]
  have hn1 : (sh.next = sh.next + 1) = False := eq_false (by omega)
  have hn2 : (sh.next + 1 = sh.next) = False := eq_false (by omega)
  refine vCode_sound (tab_ok []) _ _ _ ?_
  simp only [Tryz.f59, go_sem, Nat.reduceEqDiff, Nat.reduceLT, Nat.reduceLeDiff, Nat.reduceAdd, Nat.reduceSub, Nat.reduceMul, Nat.reduceBEq, Nat.reduceBNe, Int.reduceEq, Int.reduceToNat, Int.reduceNeg, ↓reduceIte, reduceCtorEq, Nat.reduceDiv, Nat.reduceMod, Int.reduceLE, Int.reduceLT, Int.reduceSub, Int.reduceAdd, hn1, hn2]
  repeat (first | intro _ | refine And.intro (by (intros; first | omega | (simp only [Bool.or_eq_false_iff, Bool.or_eq_true, decide_eq_false_iff_not, beq_iff_eq, Bool.and_eq_true, decide_eq_true_eq, Bool.not_eq_true'] at *; omega) | simp_all)) ?_)
  refine loop_intro (VWp_for [11, 12, 13, 14, 4, 5, 15, 16, 17, 18, 19, 10] (fun i : Nat => [(10, .val (.int .i64 i))]) [5] (fun _ => []) [] (fun _ => []) (fun i => nst sh p i (okC p i))
    (fun i => i ≤ p.funcs.length) (fun i => p.funcs.length - i) 0 (Nat.zero_le _) ?_ ?_)
  · refine ⟨rfl, rfl, ?_, .refl _ _, .refl _ _, .refl _ _, by repeat (first | trivial | rfl | refine ⟨?_, ?_⟩), by repeat (first | trivial | rfl | refine ⟨?_, ?_⟩), by repeat (first | trivial | rfl | refine ⟨?_, ?_⟩), by repeat (first | trivial | exact .inr rfl | exact .inl rfl | refine ⟨?_, ?_⟩), by repeat (first | trivial | exact .inr rfl | exact .inl rfl | refine ⟨?_, ?_⟩), by repeat (first | trivial | exact .inr rfl | exact .inl rfl | refine ⟨?_, ?_⟩), by repeat (first | trivial | exact .inr rfl | exact .inl rfl | refine ⟨?_, ?_⟩)⟩
    exact nst_zero sh p _ _ (fun b hb => (upd_ne _ _ _ _ hb).trans (upd_ne _ _ _ _ hb)) (upd_same _ _ _)
  rintro i hi
  by_cases hlt : i < p.funcs.length
  · obtain ⟨K, hK, hsK⟩ := oneRule (stmtsT_c (G := G) (told_counted p hp.own sh i) (elm p.funcs i).body (okC p i) (named_countU p hn i hlt))
    refine vCode_sound (tab_ok [K]) _ _ _ ?_
    simp only [Tryz.f59, go_sem, Nat.reduceEqDiff, Nat.reduceLT, Nat.reduceLeDiff, Nat.reduceAdd, Nat.reduceSub, Nat.reduceMul, Nat.reduceBEq, Nat.reduceBNe, Int.reduceEq, Int.reduceToNat, Int.reduceNeg, ↓reduceIte, reduceCtorEq, Nat.reduceDiv, Nat.reduceMod, Int.reduceLE, Int.reduceLT, Int.reduceSub, Int.reduceAdd]
    repeat (first | intro _ | refine And.intro (by (intros; first | omega | (simp only [Bool.or_eq_false_iff, Bool.or_eq_true, decide_eq_false_iff_not, beq_iff_eq, Bool.and_eq_true, decide_eq_true_eq, Bool.not_eq_true'] at *; omega) | simp_all)) ?_)
    have hw : IntKind.i64.wrap ((i : Int) + 1) = ((i + 1 : Nat) : Int) := by rw [wrap64_id (by omega) (by omega)]; rfl
    refine if_intro _ rfl trivial (fun h => ?_) (fun h => ?_)
    · simp only [Tryz.f59, go_sem, Nat.reduceEqDiff, Nat.reduceLT, Nat.reduceLeDiff, Nat.reduceAdd, Nat.reduceSub, Nat.reduceMul, Nat.reduceBEq, Nat.reduceBNe, Int.reduceEq, Int.reduceToNat, Int.reduceNeg, ↓reduceIte, reduceCtorEq, Nat.reduceDiv, Nat.reduceMod, Int.reduceLE, Int.reduceLT, Int.reduceSub, Int.reduceAdd, hlt, nst_n, nst_next2, nst_p, nst_ok, hK, hsK, canCall_96, hw]
      repeat (first | intro _ | refine And.intro (by (intros; first | omega | (simp only [Bool.or_eq_false_iff, Bool.or_eq_true, decide_eq_false_iff_not, beq_iff_eq, Bool.and_eq_true, decide_eq_true_eq, Bool.not_eq_true'] at *; omega) | simp_all)) ?_)
      refine ⟨i + 1, hlt, by omega, ?_⟩
      refine ⟨rfl, rfl, ?_, by repeat (first | exact AgreeOff.refl _ _ | refine AgreeOff.upd rfl ?_ | refine AgreeOff.over rfl ?_), by repeat (first | exact AgreeOff.refl _ _ | refine AgreeOff.upd rfl ?_ | refine AgreeOff.over rfl ?_), by repeat (first | exact AgreeOff.refl _ _ | refine AgreeOff.upd rfl ?_ | refine AgreeOff.over rfl ?_), ?_, by repeat (first | trivial | exact .inr rfl | exact .inl rfl | refine ⟨?_, ?_⟩), by repeat (first | trivial | exact .inr rfl | exact .inl rfl | refine ⟨?_, ?_⟩), by repeat (first | trivial | exact .inr rfl | exact .inl rfl | refine ⟨?_, ?_⟩), by repeat (first | trivial | exact .inr rfl | exact .inl rfl | refine ⟨?_, ?_⟩), by repeat (first | trivial | exact .inr rfl | exact .inl rfl | refine ⟨?_, ?_⟩), by repeat (first | trivial | exact .inr rfl | exact .inl rfl | refine ⟨?_, ?_⟩)⟩
      · show nst _ _ _ _ = nst _ _ _ _
        rw [okC_succ]
      · exact ⟨rfl, trivial⟩
    · simp only [decide_eq_false_iff_not, Int.ofNat_lt] at h
      exact absurd hlt h
  · refine vCode_sound (tab_ok []) _ _ _ ?_
    have hi' : i = p.funcs.length := by omega
    subst hi'
    simp only [Tryz.f59, go_sem, Nat.reduceEqDiff, Nat.reduceLT, Nat.reduceLeDiff, Nat.reduceAdd, Nat.reduceSub, Nat.reduceMul, Nat.reduceBEq, Nat.reduceBNe, Int.reduceEq, Int.reduceToNat, Int.reduceNeg, ↓reduceIte, reduceCtorEq, Nat.reduceDiv, Nat.reduceMod, Int.reduceLE, Int.reduceLT, Int.reduceSub, Int.reduceAdd]
    repeat (first | intro _ | refine And.intro (by (intros; first | omega | (simp only [Bool.or_eq_false_iff, Bool.or_eq_true, decide_eq_false_iff_not, beq_iff_eq, Bool.and_eq_true, decide_eq_true_eq, Bool.not_eq_true'] at *; omega) | simp_all)) ?_)
    refine if_intro _ rfl trivial (fun h => ?_) (fun h => ?_)
    · simp only [decide_eq_true_eq, Int.ofNat_lt] at h
      exact absurd h hlt
    have hw : IntKind.i64.wrap ((p.funcs.length : Int) - 1) = ((p.funcs.length - 1 : Nat) : Int) := by rw [wrap64_id (by omega) (by omega)]; omega
    have hlast : p.funcs.length - 1 < p.funcs.length := by omega
    simp only [Tryz.f59, go_sem, Nat.reduceEqDiff, Nat.reduceLT, Nat.reduceLeDiff, Nat.reduceAdd, Nat.reduceSub, Nat.reduceMul, Nat.reduceBEq, Nat.reduceBNe, Int.reduceEq, Int.reduceToNat, Int.reduceNeg, ↓reduceIte, reduceCtorEq, Nat.reduceDiv, Nat.reduceMod, Int.reduceLE, Int.reduceLT, Int.reduceSub, Int.reduceAdd, nst_n, nst_p, nst_ok, hw, hlast]
    intro _ _
    exact ⟨rfl, fun b hb => nst_lt _ _ _ _ _ hb⟩

/-- What scope says of a program. -/
def checkP (p : Pg) : Int := if namedP p = true then (if countedP p = true then 0 else 1) else 4
theorem check_c (p : Pg) (hp : nmOk p) (h0 : 0 < p.funcs.length) : VPure Tryz.prog G 32 [.agg (encP p)] (.val (.int .i64 (checkP p))) := by
  obtain ⟨N, hN, hsN⟩ := pureRule (namedAll_c (G := G) p hp)
  simp only [encP] at hN
  by_cases hn : namedP p = true
  · obtain ⟨C, hC, hsC⟩ := pureRule (counted_c (G := G) p hp hn h0)
    simp only [encP] at hC
    refine VPure.of (.val _) fun sh => ?_
    refine VCalls_enter [] Tryz.func32 rfl (show 1 ≤ 11 by decide) ?_
    simp only [encP]
    refine vCode_sound (tab_ok [N, C]) _ _ _ ?_
    by_cases hc : countedP p = true
    · simp only [Tryz.f32, go_sem, Nat.reduceEqDiff, Nat.reduceLT, Nat.reduceLeDiff, Nat.reduceAdd, Nat.reduceSub, Nat.reduceMul, Nat.reduceBEq, Nat.reduceBNe, Int.reduceEq, Int.reduceToNat, Int.reduceNeg, ↓reduceIte, reduceCtorEq, Nat.reduceDiv, Nat.reduceMod, Int.reduceLE, Int.reduceLT, Int.reduceSub, Int.reduceAdd, hN, hsN, hC, hsC, hn, hc]
      rw [checkP, if_pos hn, if_pos hc]
    · rw [Bool.not_eq_true] at hc
      simp only [Tryz.f32, go_sem, Nat.reduceEqDiff, Nat.reduceLT, Nat.reduceLeDiff, Nat.reduceAdd, Nat.reduceSub, Nat.reduceMul, Nat.reduceBEq, Nat.reduceBNe, Int.reduceEq, Int.reduceToNat, Int.reduceNeg, ↓reduceIte, reduceCtorEq, Nat.reduceDiv, Nat.reduceMod, Int.reduceLE, Int.reduceLT, Int.reduceSub, Int.reduceAdd, hN, hsN, hC, hsC, hn, hc]
      rw [checkP, if_pos hn, hc]
      rfl
  · rw [Bool.not_eq_true] at hn
    refine VPure.of (.val _) fun sh => ?_
    refine VCalls_enter [] Tryz.func32 rfl (show 1 ≤ 11 by decide) ?_
    simp only [encP]
    refine vCode_sound (tab_ok [N]) _ _ _ ?_
    simp only [Tryz.f32, go_sem, Nat.reduceEqDiff, Nat.reduceLT, Nat.reduceLeDiff, Nat.reduceAdd, Nat.reduceSub, Nat.reduceMul, Nat.reduceBEq, Nat.reduceBNe, Int.reduceEq, Int.reduceToNat, Int.reduceNeg, ↓reduceIte, reduceCtorEq, Nat.reduceDiv, Nat.reduceMod, Int.reduceLE, Int.reduceLT, Int.reduceSub, Int.reduceAdd, hN, hsN, hn]
    rw [checkP, hn]
    rfl
end Go.Proofs.YtaackmiajgapoaaGreatDoor.V
