/- What a name is, by the document (seedcornref16). -/
import Derived.Test.YtaackmiajgapoaaGreatDoorE3
set_option maxRecDepth 100000
set_option maxHeartbeats 16000000
set_option linter.unusedSimpArgs false
set_option linter.unusedVariables false
namespace Go.Proofs.YtaackmiajgapoaaGreatDoor.V
open Go
variable {G : Nat → Option (List PV)}

theorem arIdx_str (l : List Ar) (s : ByteArray) : arIdx l s = strIdx (l.map (·.name)) s := by
  unfold arIdx strIdx
  rw [List.findIdx?_map]
  rfl
theorem fnIdx_str (l : List Fn) (s : ByteArray) : fnIdx l s = strIdx (l.map (·.name)) s := by
  unfold fnIdx strIdx
  rw [List.findIdx?_map]
  rfl
theorem strIdx_lt (l : List ByteArray) (s : ByteArray) : strIdx l s < l.length := by
  rcases strIdx_cases l s with ⟨h, _⟩ | ⟨i, hi, h, _⟩
  · rw [h]; omega
  · rw [h]; omega
theorem strIdx_ge (l : List ByteArray) (s : ByteArray) : -1 ≤ strIdx l s := by
  rcases strIdx_cases l s with ⟨h, _⟩ | ⟨i, hi, h, _⟩
  · rw [h]; omega
  · rw [h]; omega
theorem strIdx_app (a b : List ByteArray) (s : ByteArray) : strIdx (a ++ b) s = if 0 ≤ strIdx a s then strIdx a s else if 0 ≤ strIdx b s then (a.length : Int) + strIdx b s else -1 := by
  rcases strIdx_cases a s with ⟨h, hn⟩ | ⟨i, hi, h, he, hb⟩
  · rw [h, if_neg (by omega)]
    rcases strIdx_cases b s with ⟨k, kn⟩ | ⟨i, hi, k, ke, kb⟩
    · rw [k, if_neg (by omega)]
      refine strIdx_none fun j hj => ?_
      by_cases e : j < a.length
      · rw [elm_eq hj, List.getElem_append_left e, ← elm_eq e]; exact hn j e
      · have hj2 : j - a.length < b.length := by rw [List.length_append] at hj; omega
        rw [elm_eq hj, List.getElem_append_right (by omega), ← elm_eq hj2]; exact kn _ hj2
    · rw [k, if_pos (by omega)]
      have hlt : a.length + i < (a ++ b).length := by rw [List.length_append]; omega
      have := strIdx_at (l := a ++ b) (s := s) hlt (fun j hj => by
        by_cases e : j < a.length
        · rw [elm_eq (by omega), List.getElem_append_left e, ← elm_eq e]; exact hn j e
        · have hj2 : j - a.length < b.length := by omega
          rw [elm_eq (by omega), List.getElem_append_right (by omega), ← elm_eq hj2]; exact kb _ (by omega))
        (by rw [elm_eq hlt, List.getElem_append_right (by omega)]; simp only [Nat.add_sub_cancel_left]; rw [← elm_eq hi]; exact ke)
      rw [this]
      omega
  · rw [h, if_pos (by omega)]
    have hlt : i < (a ++ b).length := by rw [List.length_append]; omega
    exact strIdx_at hlt (fun j hj => by
      rw [elm_eq (by omega), List.getElem_append_left (by omega), ← elm_eq (by omega)]; exact hb j hj)
      (by rw [elm_eq hlt, List.getElem_append_left hi, ← elm_eq hi]; exact he)
theorem allN_idx (p : Pg) (s : ByteArray) : strIdx (allN p) s = if 0 ≤ strIdx p.vars s then strIdx p.vars s else if 0 ≤ arIdx p.arrays s then (p.vars.length : Int) + arIdx p.arrays s else if 0 ≤ fnIdx p.funcs s then (p.vars.length : Int) + p.arrays.length + fnIdx p.funcs s else -1 := by
  have hv := strIdx_ge p.vars s
  have ha := strIdx_ge (p.arrays.map (·.name)) s
  unfold allN
  rw [strIdx_app, strIdx_app, arIdx_str, fnIdx_str]
  have e : ((p.vars ++ p.arrays.map (·.name)).length : Int) = (p.vars.length : Int) + p.arrays.length := by rw [List.length_append, List.length_map]; omega
  rw [e]
  by_cases h1 : 0 ≤ strIdx p.vars s
  · simp only [if_pos h1]
  · by_cases h2 : 0 ≤ strIdx (p.arrays.map (·.name)) s
    · simp only [if_neg h1, if_pos h2]
      rw [if_pos (by omega)]
    · simp only [if_neg h1, if_neg h2]
      rw [if_neg (by omega)]

theorem find_tail {p : Pg} {f : Int} {s : ByteArray} (hno : ¬ (0 ≤ f ∧ f < p.funcs.length ∧ 0 ≤ strIdx (ownN (elm p.funcs f.toNat)) s)) : findP p f s =
    if strIdx (allN p) s < 0 then (0, -1) else if strIdx (allN p) s < p.vars.length then (2, strIdx (allN p) s)
    else if strIdx (allN p) s - p.vars.length < p.arrays.length then (3, strIdx (allN p) s - p.vars.length) else (4, strIdx (allN p) s - p.vars.length - p.arrays.length) := by
  have hidx := allN_idx p s
  have hvl := strIdx_lt p.vars s
  have hal : arIdx p.arrays s < p.arrays.length := by rw [arIdx_str]; have := strIdx_lt (p.arrays.map (·.name)) s; rw [List.length_map] at this; exact this
  rw [findP, if_neg hno]
  by_cases h1 : 0 ≤ strIdx p.vars s
  · rw [if_pos h1] at hidx ⊢
    rw [hidx, if_neg (by omega), if_pos (by omega)]
  · rw [if_neg h1] at hidx ⊢
    by_cases h2 : 0 ≤ arIdx p.arrays s
    · rw [if_pos h2] at hidx ⊢
      rw [hidx, if_neg (by omega), if_neg (by omega), if_pos (by omega)]
      congr 1
      omega
    · rw [if_neg h2] at hidx ⊢
      by_cases h3 : 0 ≤ fnIdx p.funcs s
      · rw [if_pos h3] at hidx ⊢
        rw [hidx, if_neg (by omega), if_neg (by omega), if_neg (by omega)]
        congr 1
        omega
      · rw [if_neg h3] at hidx ⊢
        rw [hidx, if_pos (by omega)]

theorem find16_c (p : Pg) (hp : nmOk p) (f : Int) (s : ByteArray) : VPure Tryz.prog G 105 [.agg (encP p), .val (.int .i64 f), .val (.string s)] (.tup [.val (.int .i64 (findP p f s).1), .val (.int .i64 (findP p f s).2)]) := by
  refine VPure.of (.tup _ (by simp; exact ⟨.val _, .val _⟩)) fun sh => ?_
  refine VCalls_enter [] Tryz.func105 rfl (show 3 ≤ 58 by decide) ?_
  obtain ⟨M, hM, hsM⟩ := pureRule (globals_c (G := G) p hp.all)
  obtain ⟨L, hL0, hsL⟩ := mkRule (P := Tryz.prog) (G := G) 144 (List ByteArray × ByteArray) (fun x => [.slice (encT x.1), .val (.string x.2)]) (fun x => .val (.int .i64 (strIdx x.1 x.2))) (fun _ => True)
    (by rintro ⟨a, b⟩ ⟨c, d⟩ h; simp only [List.cons.injEq, PV.slice.injEq, PV.val.injEq, Value.string.injEq, encT_iff, and_true] at h; rw [h.1, h.2]) (fun x _ => place_c x.1 x.2)
  have hL : ∀ tl l s sh, tab (L :: tl) 144 [.slice (encT l), .val (.string s)] sh = some (.val (.int .i64 (strIdx l s)), sh) := fun tl l s sh => hL0 tl (l, s) sh trivial
  clear hL0
  simp only [encP] at hM
  simp only [encP]
  have hge := strIdx_ge (allN p) s
  have hle := strIdx_lt (allN p) s
  have hlen : (allN p).length = p.vars.length + p.arrays.length + p.funcs.length := by unfold allN; simp only [List.length_append, List.length_map]
  have hbnd := hp.all
  have hw1 : IntKind.i64.wrap (strIdx (allN p) s - (p.vars.length : Int)) = strIdx (allN p) s - (p.vars.length : Int) := wrap64_id (by omega) (by omega)
  have hw2 : IntKind.i64.wrap (strIdx (allN p) s - (p.vars.length : Int) - (p.arrays.length : Int)) = strIdx (allN p) s - (p.vars.length : Int) - (p.arrays.length : Int) := wrap64_id (by omega) (by omega)
  by_cases hf : 0 ≤ f ∧ f < p.funcs.length
  · obtain ⟨h0, h1⟩ := hf
    have hlt : f.toNat < p.funcs.length := by omega
    obtain ⟨O, hO, hs3⟩ := pureRule (names16_c (G := G) (elm p.funcs f.toNat) (by have := hp.own (elm p.funcs f.toNat) (by rw [elm_eq hlt]; exact List.getElem_mem hlt); simpa [ownN] using this))
    simp only [encF] at hO
    refine vCode_sound (tab_ok [M, L, O]) _ _ _ ?_
    simp only [Tryz.f105, go_sem, Nat.reduceEqDiff, Nat.reduceLT, Nat.reduceLeDiff, Nat.reduceAdd, Nat.reduceSub, Nat.reduceMul, Nat.reduceBEq, Nat.reduceBNe, Int.reduceEq, Int.reduceToNat, Int.reduceNeg, ↓reduceIte, reduceCtorEq, Nat.reduceDiv, Nat.reduceMod, Int.reduceLE, Int.reduceLT, Int.reduceSub, Int.reduceAdd, h0, h1, hlt, hO, hs3, hL, hsL, hsM]
    repeat (first | intro _ | refine And.intro (by (intros; first | omega | (simp only [Bool.or_eq_false_iff, Bool.or_eq_true, decide_eq_false_iff_not, beq_iff_eq, Bool.and_eq_true, decide_eq_true_eq, Bool.not_eq_true'] at *; omega) | simp_all)) ?_)
    refine if_intro _ rfl trivial (fun k1 => ?_) (fun k1 => ?_)
    · simp only [Tryz.f105, go_sem, Nat.reduceEqDiff, Nat.reduceLT, Nat.reduceLeDiff, Nat.reduceAdd, Nat.reduceSub, Nat.reduceMul, Nat.reduceBEq, Nat.reduceBNe, Int.reduceEq, Int.reduceToNat, Int.reduceNeg, ↓reduceIte, reduceCtorEq, Nat.reduceDiv, Nat.reduceMod, Int.reduceLE, Int.reduceLT, Int.reduceSub, Int.reduceAdd]
      simp only [decide_eq_true_eq] at k1
      rw [findP, if_pos ⟨h0, h1, k1⟩]
    have hno : ¬ (0 ≤ f ∧ f < p.funcs.length ∧ 0 ≤ strIdx (ownN (elm p.funcs f.toNat)) s) := by
      simp only [decide_eq_false_iff_not] at k1
      exact fun h => k1 h.2.2
    simp only [Tryz.f105, go_sem, Nat.reduceEqDiff, Nat.reduceLT, Nat.reduceLeDiff, Nat.reduceAdd, Nat.reduceSub, Nat.reduceMul, Nat.reduceBEq, Nat.reduceBNe, Int.reduceEq, Int.reduceToNat, Int.reduceNeg, ↓reduceIte, reduceCtorEq, Nat.reduceDiv, Nat.reduceMod, Int.reduceLE, Int.reduceLT, Int.reduceSub, Int.reduceAdd, hM, hsM, hL, hsL, hO, hs3]
    repeat (first | intro _ | refine And.intro (by (intros; first | omega | (simp only [Bool.or_eq_false_iff, Bool.or_eq_true, decide_eq_false_iff_not, beq_iff_eq, Bool.and_eq_true, decide_eq_true_eq, Bool.not_eq_true'] at *; omega) | simp_all)) ?_)
    refine if_intro _ rfl trivial (fun k2 => ?_) (fun k2 => ?_)
    · simp only [Tryz.f105, go_sem, Nat.reduceEqDiff, Nat.reduceLT, Nat.reduceLeDiff, Nat.reduceAdd, Nat.reduceSub, Nat.reduceMul, Nat.reduceBEq, Nat.reduceBNe, Int.reduceEq, Int.reduceToNat, Int.reduceNeg, ↓reduceIte, reduceCtorEq, Nat.reduceDiv, Nat.reduceMod, Int.reduceLE, Int.reduceLT, Int.reduceSub, Int.reduceAdd]
      simp only [decide_eq_true_eq] at k2
      rw [find_tail hno, if_pos k2]
    simp only [decide_eq_false_iff_not] at k2
    simp only [Tryz.f105, go_sem, Nat.reduceEqDiff, Nat.reduceLT, Nat.reduceLeDiff, Nat.reduceAdd, Nat.reduceSub, Nat.reduceMul, Nat.reduceBEq, Nat.reduceBNe, Int.reduceEq, Int.reduceToNat, Int.reduceNeg, ↓reduceIte, reduceCtorEq, Nat.reduceDiv, Nat.reduceMod, Int.reduceLE, Int.reduceLT, Int.reduceSub, Int.reduceAdd, hM, hsM, hL, hsL]
    repeat (first | intro _ | refine And.intro (by (intros; first | omega | (simp only [Bool.or_eq_false_iff, Bool.or_eq_true, decide_eq_false_iff_not, beq_iff_eq, Bool.and_eq_true, decide_eq_true_eq, Bool.not_eq_true'] at *; omega) | simp_all)) ?_)
    refine if_intro _ rfl trivial (fun k3 => ?_) (fun k3 => ?_)
    · simp only [Tryz.f105, go_sem, Nat.reduceEqDiff, Nat.reduceLT, Nat.reduceLeDiff, Nat.reduceAdd, Nat.reduceSub, Nat.reduceMul, Nat.reduceBEq, Nat.reduceBNe, Int.reduceEq, Int.reduceToNat, Int.reduceNeg, ↓reduceIte, reduceCtorEq, Nat.reduceDiv, Nat.reduceMod, Int.reduceLE, Int.reduceLT, Int.reduceSub, Int.reduceAdd]
      simp only [decide_eq_true_eq] at k3
      rw [find_tail hno, if_neg k2, if_pos k3]
    simp only [decide_eq_false_iff_not] at k3
    simp only [Tryz.f105, go_sem, Nat.reduceEqDiff, Nat.reduceLT, Nat.reduceLeDiff, Nat.reduceAdd, Nat.reduceSub, Nat.reduceMul, Nat.reduceBEq, Nat.reduceBNe, Int.reduceEq, Int.reduceToNat, Int.reduceNeg, ↓reduceIte, reduceCtorEq, Nat.reduceDiv, Nat.reduceMod, Int.reduceLE, Int.reduceLT, Int.reduceSub, Int.reduceAdd, hw1]
    repeat (first | intro _ | refine And.intro (by (intros; first | omega | (simp only [Bool.or_eq_false_iff, Bool.or_eq_true, decide_eq_false_iff_not, beq_iff_eq, Bool.and_eq_true, decide_eq_true_eq, Bool.not_eq_true'] at *; omega) | simp_all)) ?_)
    refine if_intro _ rfl trivial (fun k4 => ?_) (fun k4 => ?_)
    · simp only [Tryz.f105, go_sem, Nat.reduceEqDiff, Nat.reduceLT, Nat.reduceLeDiff, Nat.reduceAdd, Nat.reduceSub, Nat.reduceMul, Nat.reduceBEq, Nat.reduceBNe, Int.reduceEq, Int.reduceToNat, Int.reduceNeg, ↓reduceIte, reduceCtorEq, Nat.reduceDiv, Nat.reduceMod, Int.reduceLE, Int.reduceLT, Int.reduceSub, Int.reduceAdd]
      simp only [decide_eq_true_eq] at k4
      rw [find_tail hno, if_neg k2, if_neg k3, if_pos k4]
    simp only [decide_eq_false_iff_not] at k4
    simp only [Tryz.f105, go_sem, Nat.reduceEqDiff, Nat.reduceLT, Nat.reduceLeDiff, Nat.reduceAdd, Nat.reduceSub, Nat.reduceMul, Nat.reduceBEq, Nat.reduceBNe, Int.reduceEq, Int.reduceToNat, Int.reduceNeg, ↓reduceIte, reduceCtorEq, Nat.reduceDiv, Nat.reduceMod, Int.reduceLE, Int.reduceLT, Int.reduceSub, Int.reduceAdd]
    refine draw_intro (tab_ok [M, L]) mixed [(true, 0), (true, 1), (true, 2), (true, 3), (true, 4), (true, 5), (true, 6)] rfl ?_
    simp only [Tryz.f105, go_sem, Nat.reduceEqDiff, Nat.reduceLT, Nat.reduceLeDiff, Nat.reduceAdd, Nat.reduceSub, Nat.reduceMul, Nat.reduceBEq, Nat.reduceBNe, Int.reduceEq, Int.reduceToNat, Int.reduceNeg, ↓reduceIte, reduceCtorEq, Nat.reduceDiv, Nat.reduceMod, Int.reduceLE, Int.reduceLT, Int.reduceSub, Int.reduceAdd, hw2]
    repeat (first | intro _ | refine And.intro (by (intros; first | omega | (simp only [Bool.or_eq_false_iff, Bool.or_eq_true, decide_eq_false_iff_not, beq_iff_eq, Bool.and_eq_true, decide_eq_true_eq, Bool.not_eq_true'] at *; omega) | simp_all)) ?_)
    rw [find_tail hno, if_neg k2, if_neg k3, if_neg k4]
  · have hno : ¬ (0 ≤ f ∧ f < p.funcs.length ∧ 0 ≤ strIdx (ownN (elm p.funcs f.toNat)) s) := fun h => hf ⟨h.1, h.2.1⟩
    refine vCode_sound (tab_ok [M, L]) _ _ _ ?_
    simp only [Tryz.f105, go_sem, Nat.reduceEqDiff, Nat.reduceLT, Nat.reduceLeDiff, Nat.reduceAdd, Nat.reduceSub, Nat.reduceMul, Nat.reduceBEq, Nat.reduceBNe, Int.reduceEq, Int.reduceToNat, Int.reduceNeg, ↓reduceIte, reduceCtorEq, Nat.reduceDiv, Nat.reduceMod, Int.reduceLE, Int.reduceLT, Int.reduceSub, Int.reduceAdd]
    repeat (first | intro _ | refine And.intro (by (intros; first | omega | (simp only [Bool.or_eq_false_iff, Bool.or_eq_true, decide_eq_false_iff_not, beq_iff_eq, Bool.and_eq_true, decide_eq_true_eq, Bool.not_eq_true'] at *; omega) | simp_all)) ?_)
    refine if_intro _ rfl trivial (fun k1 => ?_) (fun k1 => ?_)
    · simp only [Bool.and_eq_true, decide_eq_true_eq] at k1
      exact absurd k1 hf
    simp only [Tryz.f105, go_sem, Nat.reduceEqDiff, Nat.reduceLT, Nat.reduceLeDiff, Nat.reduceAdd, Nat.reduceSub, Nat.reduceMul, Nat.reduceBEq, Nat.reduceBNe, Int.reduceEq, Int.reduceToNat, Int.reduceNeg, ↓reduceIte, reduceCtorEq, Nat.reduceDiv, Nat.reduceMod, Int.reduceLE, Int.reduceLT, Int.reduceSub, Int.reduceAdd, hM, hsM, hL, hsL]
    repeat (first | intro _ | refine And.intro (by (intros; first | omega | (simp only [Bool.or_eq_false_iff, Bool.or_eq_true, decide_eq_false_iff_not, beq_iff_eq, Bool.and_eq_true, decide_eq_true_eq, Bool.not_eq_true'] at *; omega) | simp_all)) ?_)
    refine if_intro _ rfl trivial (fun k2 => ?_) (fun k2 => ?_)
    · simp only [Tryz.f105, go_sem, Nat.reduceEqDiff, Nat.reduceLT, Nat.reduceLeDiff, Nat.reduceAdd, Nat.reduceSub, Nat.reduceMul, Nat.reduceBEq, Nat.reduceBNe, Int.reduceEq, Int.reduceToNat, Int.reduceNeg, ↓reduceIte, reduceCtorEq, Nat.reduceDiv, Nat.reduceMod, Int.reduceLE, Int.reduceLT, Int.reduceSub, Int.reduceAdd]
      simp only [decide_eq_true_eq] at k2
      rw [find_tail hno, if_pos k2]
    simp only [decide_eq_false_iff_not] at k2
    simp only [Tryz.f105, go_sem, Nat.reduceEqDiff, Nat.reduceLT, Nat.reduceLeDiff, Nat.reduceAdd, Nat.reduceSub, Nat.reduceMul, Nat.reduceBEq, Nat.reduceBNe, Int.reduceEq, Int.reduceToNat, Int.reduceNeg, ↓reduceIte, reduceCtorEq, Nat.reduceDiv, Nat.reduceMod, Int.reduceLE, Int.reduceLT, Int.reduceSub, Int.reduceAdd, hM, hsM, hL, hsL]
    repeat (first | intro _ | refine And.intro (by (intros; first | omega | (simp only [Bool.or_eq_false_iff, Bool.or_eq_true, decide_eq_false_iff_not, beq_iff_eq, Bool.and_eq_true, decide_eq_true_eq, Bool.not_eq_true'] at *; omega) | simp_all)) ?_)
    refine if_intro _ rfl trivial (fun k3 => ?_) (fun k3 => ?_)
    · simp only [Tryz.f105, go_sem, Nat.reduceEqDiff, Nat.reduceLT, Nat.reduceLeDiff, Nat.reduceAdd, Nat.reduceSub, Nat.reduceMul, Nat.reduceBEq, Nat.reduceBNe, Int.reduceEq, Int.reduceToNat, Int.reduceNeg, ↓reduceIte, reduceCtorEq, Nat.reduceDiv, Nat.reduceMod, Int.reduceLE, Int.reduceLT, Int.reduceSub, Int.reduceAdd]
      simp only [decide_eq_true_eq] at k3
      rw [find_tail hno, if_neg k2, if_pos k3]
    simp only [decide_eq_false_iff_not] at k3
    simp only [Tryz.f105, go_sem, Nat.reduceEqDiff, Nat.reduceLT, Nat.reduceLeDiff, Nat.reduceAdd, Nat.reduceSub, Nat.reduceMul, Nat.reduceBEq, Nat.reduceBNe, Int.reduceEq, Int.reduceToNat, Int.reduceNeg, ↓reduceIte, reduceCtorEq, Nat.reduceDiv, Nat.reduceMod, Int.reduceLE, Int.reduceLT, Int.reduceSub, Int.reduceAdd, hw1]
    repeat (first | intro _ | refine And.intro (by (intros; first | omega | (simp only [Bool.or_eq_false_iff, Bool.or_eq_true, decide_eq_false_iff_not, beq_iff_eq, Bool.and_eq_true, decide_eq_true_eq, Bool.not_eq_true'] at *; omega) | simp_all)) ?_)
    refine if_intro _ rfl trivial (fun k4 => ?_) (fun k4 => ?_)
    · simp only [Tryz.f105, go_sem, Nat.reduceEqDiff, Nat.reduceLT, Nat.reduceLeDiff, Nat.reduceAdd, Nat.reduceSub, Nat.reduceMul, Nat.reduceBEq, Nat.reduceBNe, Int.reduceEq, Int.reduceToNat, Int.reduceNeg, ↓reduceIte, reduceCtorEq, Nat.reduceDiv, Nat.reduceMod, Int.reduceLE, Int.reduceLT, Int.reduceSub, Int.reduceAdd]
      simp only [decide_eq_true_eq] at k4
      rw [find_tail hno, if_neg k2, if_neg k3, if_pos k4]
    simp only [decide_eq_false_iff_not] at k4
    simp only [Tryz.f105, go_sem, Nat.reduceEqDiff, Nat.reduceLT, Nat.reduceLeDiff, Nat.reduceAdd, Nat.reduceSub, Nat.reduceMul, Nat.reduceBEq, Nat.reduceBNe, Int.reduceEq, Int.reduceToNat, Int.reduceNeg, ↓reduceIte, reduceCtorEq, Nat.reduceDiv, Nat.reduceMod, Int.reduceLE, Int.reduceLT, Int.reduceSub, Int.reduceAdd]
    refine draw_intro (tab_ok [M, L]) mixed [(true, 0), (true, 1), (true, 2), (true, 3), (true, 4), (true, 5), (true, 6)] rfl ?_
    simp only [Tryz.f105, go_sem, Nat.reduceEqDiff, Nat.reduceLT, Nat.reduceLeDiff, Nat.reduceAdd, Nat.reduceSub, Nat.reduceMul, Nat.reduceBEq, Nat.reduceBNe, Int.reduceEq, Int.reduceToNat, Int.reduceNeg, ↓reduceIte, reduceCtorEq, Nat.reduceDiv, Nat.reduceMod, Int.reduceLE, Int.reduceLT, Int.reduceSub, Int.reduceAdd, hw2]
    repeat (first | intro _ | refine And.intro (by (intros; first | omega | (simp only [Bool.or_eq_false_iff, Bool.or_eq_true, decide_eq_false_iff_not, beq_iff_eq, Bool.and_eq_true, decide_eq_true_eq, Bool.not_eq_true'] at *; omega) | simp_all)) ?_)
    rw [find_tail hno, if_neg k2, if_neg k3, if_neg k4]
end Go.Proofs.YtaackmiajgapoaaGreatDoor.V
