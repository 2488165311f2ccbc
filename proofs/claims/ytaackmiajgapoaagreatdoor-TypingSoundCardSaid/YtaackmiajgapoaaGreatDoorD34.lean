/- What typing says of a program. -/
import Derived.Test.YtaackmiajgapoaaGreatDoorD33
import Derived.Test.YtaackmiajgapoaaGreatDoorVB
set_option maxRecDepth 100000
set_option maxHeartbeats 16000000
set_option linter.unusedSimpArgs false
set_option linter.unusedVariables false
namespace Go.Proofs.YtaackmiajgapoaaGreatDoor.V
open Go
variable {G : Nat → Option (List PV)}

theorem formE_kd {k o num : Int} {s : ByteArray} {n : Nat} (h : formE k o num s n = true) : kdK k n = true := by
  simp only [formE, Bool.and_eq_true] at h
  have h := h.2
  unfold arityE at h
  unfold kdK
  split at h
  · rename_i hk
    have h' : n = 0 := by simpa using h
    subst h'
    rcases hk with rfl | rfl | rfl <;> decide
  split at h
  · rename_i hk
    rcases hk with rfl | rfl <;> simp
  split at h
  · rename_i hk; subst hk; simp
  split at h
  · rename_i hk; subst hk; simp
  split at h
  · rename_i hk
    rcases hk with rfl | rfl <;> simp
  · cases h
mutual
theorem rightE_kd : ∀ (e : Ex) (lev : Nat), rightE lev e = true → kdE e = true
  | .mk k o n s l, lev, h => by
    rw [rightE, Bool.and_eq_true, Bool.and_eq_true] at h
    rw [kdE, formE_kd h.1.2, rightEs_kd l _ h.2]; rfl
theorem rightEs_kd : ∀ (l : List Ex) (lev : Nat), rightEs lev l = true → kdEs l = true
  | [], _, _ => rfl
  | e :: r, lev, h => by
    rw [rightEs, Bool.and_eq_true] at h
    rw [kdEs, rightE_kd e lev h.1, rightEs_kd r lev h.2]; rfl
end
mutual
theorem rightS_kd : ∀ (e : St) (lev : Nat), rightS lev e = true → kdS e = true
  | .mk k s e t f, lev, h => by
    simp only [rightS, Bool.and_eq_true] at h
    have he := rightEs_kd e (lev + 1) (by rw [rightEs_all]; exact h.1.1.2)
    rw [kdEs_all] at he
    rw [kdS, he, rightSs_kd t _ h.1.2, rightSs_kd f _ h.2]; rfl
theorem rightSs_kd : ∀ (l : List St) (lev : Nat), rightSs lev l = true → kdSs l = true
  | [], _, _ => rfl
  | e :: r, lev, h => by
    rw [rightSs, Bool.and_eq_true] at h
    rw [kdSs, rightS_kd e lev h.1, rightSs_kd r lev h.2]; rfl
end
theorem rightP_kd {p : Pg} (h : rightP p = true) : p.funcs.all kdF = true ∧ 0 < p.funcs.length := by
  simp only [rightP, Bool.and_eq_true, decide_eq_true_eq] at h
  refine ⟨?_, by omega⟩
  rw [List.all_eq_true]
  intro f hf
  have h1 := List.all_eq_true.1 h.2 f hf
  simp only [fnOk, Bool.and_eq_true] at h1
  have := rightSs_kd f.body 1 (by rw [rightSs_all]; exact h1.2)
  rw [kdSs_all] at this
  exact this

theorem fewP_nm {p : Pg} {n : Int} (h : fewP p n = true) : nmOk p := by
  simp only [fewP, shortB, Bool.and_eq_true, decide_eq_true_eq] at h
  obtain ⟨⟨⟨⟨⟨⟨h1, h2⟩, h3⟩, h4⟩, h5⟩, h6⟩, h7⟩ := h
  refine ⟨fun f hf => ?_, by omega, fun s hs => ?_⟩
  · have h8 := List.all_eq_true.1 h6 f hf
    simp only [fnShort, shortB, Bool.and_eq_true, decide_eq_true_eq] at h8
    simp only [ownN, List.length_append]
    omega
  · have h8 := List.all_eq_true.1 h1 s hs
    simp only [size60, decide_eq_true_eq] at h8
    unfold maxLen
    omega

/-- What typing says of a program. -/
def soundP (p : Pg) : Int := if rightP p = true then (if checkP p = 0 then refC p else checkP p) else 7
theorem sound_c (hG : GOk G) (p : Pg) (hp : nmOk p) : VPure Tryz.prog G 10 [.agg (encP p)] (.val (.int .i64 (soundP p))) := by
  obtain ⟨R, hR, hsR⟩ := pureRule (synRight_c hG p)
  simp only [encP] at hR
  by_cases hr : rightP p = true
  · obtain ⟨hk, h0⟩ := rightP_kd hr
    obtain ⟨C, hC, hsC⟩ := pureRule (check_c (G := G) p hp h0)
    obtain ⟨T, hT, hsT⟩ := pureRule (typCheck_c (G := G) p hk)
    simp only [encP] at hC hT
    refine VPure.of (.val _) fun sh => ?_
    refine VCalls_enter [] Tryz.func10 rfl (show 1 ≤ 14 by decide) ?_
    simp only [encP]
    refine vCode_sound (tab_ok [R, C, T]) _ _ _ ?_
    by_cases hc : checkP p = 0
    · simp only [Tryz.f10, go_sem, Nat.reduceEqDiff, Nat.reduceLT, Nat.reduceLeDiff, Nat.reduceAdd, Nat.reduceSub, Nat.reduceMul, Nat.reduceBEq, Nat.reduceBNe, Int.reduceEq, Int.reduceToNat, Int.reduceNeg, ↓reduceIte, reduceCtorEq, Nat.reduceDiv, Nat.reduceMod, Int.reduceLE, Int.reduceLT, Int.reduceSub, Int.reduceAdd, hR, hsR, hC, hsC, hT, hsT, hr, hc]
      rw [soundP, if_pos hr, if_pos hc]
    · simp only [Tryz.f10, go_sem, Nat.reduceEqDiff, Nat.reduceLT, Nat.reduceLeDiff, Nat.reduceAdd, Nat.reduceSub, Nat.reduceMul, Nat.reduceBEq, Nat.reduceBNe, Int.reduceEq, Int.reduceToNat, Int.reduceNeg, ↓reduceIte, reduceCtorEq, Nat.reduceDiv, Nat.reduceMod, Int.reduceLE, Int.reduceLT, Int.reduceSub, Int.reduceAdd, hR, hsR, hC, hsC, hT, hsT, hr, hc]
      rw [soundP, if_pos hr, if_neg hc]
  · rw [Bool.not_eq_true] at hr
    refine VPure.of (.val _) fun sh => ?_
    refine VCalls_enter [] Tryz.func10 rfl (show 1 ≤ 14 by decide) ?_
    simp only [encP]
    refine vCode_sound (tab_ok [R]) _ _ _ ?_
    simp only [Tryz.f10, go_sem, Nat.reduceEqDiff, Nat.reduceLT, Nat.reduceLeDiff, Nat.reduceAdd, Nat.reduceSub, Nat.reduceMul, Nat.reduceBEq, Nat.reduceBNe, Int.reduceEq, Int.reduceToNat, Int.reduceNeg, ↓reduceIte, reduceCtorEq, Nat.reduceDiv, Nat.reduceMod, Int.reduceLE, Int.reduceLT, Int.reduceSub, Int.reduceAdd, hR, hsR, hr]
    rw [soundP, hr]
    rfl

def bothE (k o : Int) (a b : Ex) : Ex := .mk k o 0 ByteArray.empty [a, b]
theorem both_c (k o : Int) (a b : Ex) : VPure Tryz.prog G 28 [.val (.int .i64 k), .val (.int .i64 o), .agg (encE a), .agg (encE b)] (.agg (encE (bothE k o a b))) := by
  refine VPure.of ?_ fun sh => ?_
  · refine .agg _ ?_
    simp only [bothE, encE_eq]
    intro p hp
    simp only [List.mem_cons, List.not_mem_nil, or_false] at hp
    rcases hp with rfl | rfl | rfl | rfl | rfl <;> first | exact .val _ | exact .slice _
  refine VCalls_enter [] Tryz.func28 rfl (show 4 ≤ 15 by decide) ?_
  refine vCode_sound (tab_ok []) _ _ _ ?_
  simp only [encE_eq, bothE]
  simp only [Tryz.f28, go_sem, Nat.reduceEqDiff, Nat.reduceLT, Nat.reduceLeDiff, Nat.reduceAdd, Nat.reduceSub, Nat.reduceMul, Nat.reduceBEq, Nat.reduceBNe, Int.reduceEq, Int.reduceToNat, Int.reduceNeg, ↓reduceIte, reduceCtorEq, Nat.reduceDiv, Nat.reduceMod, Int.reduceLE, Int.reduceLT, Int.reduceSub, Int.reduceAdd]
  show PV.agg _ = PV.agg [.val (.int .i64 k), .val (.int .i64 o), .val (.int .u32 0), .val (.string ByteArray.empty), .slice [encE a, encE b]]
  rw [encE_eq a, encE_eq b]
end Go.Proofs.YtaackmiajgapoaaGreatDoor.V
