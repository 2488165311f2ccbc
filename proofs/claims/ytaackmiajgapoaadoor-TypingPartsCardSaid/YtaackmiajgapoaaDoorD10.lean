/- Types, by the document (seedcornref17): expressions. -/
import Derived.Test.YtaackmiajgapoaaDoorD9
set_option maxHeartbeats 16000000
set_option maxRecDepth 100000
set_option linter.unusedSimpArgs false
set_option linter.unusedVariables false
namespace Go.Proofs.YtaackmiajgapoaaDoor.V
open Go
variable {G : Nat → Option (List PV)}

def fnWord (l : List Fn) (s : ByteArray) : Bool := decide (0 ≤ fnIdx l s) && (elm l (fnIdx l s).toNat).word
mutual
def tyE (p : Pg) : Ex → Int
  | .mk k o _ s l =>
    if k = 1 ∨ k = 2 ∨ k = 5 then 1
    else if k = 3 then (if tyAll p 1 l then 1 else 0)
    else if k = 4 then (if fnWord p.funcs s && tyAll p 1 l then 1 else 0)
    else if k = 6 then (if tyAll p 1 l then (if o = 14 ∨ o = 15 then 2 else 1) else 0)
    else if k = 7 ∨ k = 8 ∨ k = 9 then (if tyAll p 2 l then 2 else 0) else 0
def tyAll (p : Pg) (t : Int) : List Ex → Bool
  | [] => true
  | e :: r => decide (tyE p e = t) && tyAll p t r
end
theorem tyAll_all (p : Pg) (t : Int) : ∀ l : List Ex, tyAll p t l = l.all fun e => decide (tyE p e = t)
  | [] => rfl
  | e :: r => by rw [tyAll, tyAll_all p t r]; rfl
theorem tyE_eq (p : Pg) (e : Ex) : tyE p e =
    if e.kind = 1 ∨ e.kind = 2 ∨ e.kind = 5 then 1
    else if e.kind = 3 then (if (e.kids.all fun e => decide (tyE p e = 1)) then 1 else 0)
    else if e.kind = 4 then (if fnWord p.funcs e.name && (e.kids.all fun e => decide (tyE p e = 1)) then 1 else 0)
    else if e.kind = 6 then (if (e.kids.all fun e => decide (tyE p e = 1)) then (if e.op = 14 ∨ e.op = 15 then 2 else 1) else 0)
    else if e.kind = 7 ∨ e.kind = 8 ∨ e.kind = 9 then (if (e.kids.all fun e => decide (tyE p e = 2)) then 2 else 0) else 0 := by
  cases e with | mk k o n s l => rw [tyE, tyAll_all, tyAll_all]; rfl

theorem words_step (p : Pg) (n : Nat) (IH : ∀ e : Ex, szE e < n → VPure Tryd.prog G 37 [.agg (encP p), .agg (encE e)] (.val (.int .i64 (tyE p e)))) (l : List Ex) (hl : ∀ i, i < l.length → szE (elm l i) < n) :
    VPure Tryd.prog G 66 [.agg (encP p), .slice (l.map encE)] (.val (.bool (l.all fun e => decide (tyE p e = 1)))) := by
  obtain ⟨R, hR0, hs⟩ := mkRule (P := Tryd.prog) (G := G) 37 Ex (fun x => [.agg (encP p), .agg (encE x)]) (fun x => .val (.int .i64 (tyE p x))) (fun x => szE x < n)
    (by rintro a b h; simp only [List.cons.injEq, PV.agg.injEq, encE_iff, true_and, and_true] at h; simp only [h]) (fun x h => IH x h)
  have hR : ∀ tl (i : Nat) sh, i < l.length → tab (R :: tl) 37 [.agg [.slice (encT p.vars), .slice (p.arrays.map encA), .slice (p.funcs.map encF)], .agg [.val (.int .i64 (elm l i).kind), .val (.int .i64 (elm l i).op), .val (.int .u32 (elm l i).num), .val (.string (elm l i).name), .slice ((elm l i).kids.map encE)]] sh = some (.val (.int .i64 (tyE p (elm l i))), sh) := by
    intro tl i sh h
    have := hR0 tl (elm l i) sh (hl i h)
    simpa only [encE_eq, encP] using this
  clear hR0
  refine VPure.of (.val _) fun sh => ?_
  refine VCalls_enter [] Tryd.func66 rfl (show 2 ≤ 19 by decide) ?_
  refine vCode_sound (tab_ok [R]) _ _ _ ?_
  simp only [encP]
  simp only [Tryd.f66, go_sem, Nat.reduceEqDiff, Nat.reduceLT, Nat.reduceLeDiff, Nat.reduceAdd, Nat.reduceSub, Nat.reduceMul, Nat.reduceBEq, Nat.reduceBNe, Int.reduceEq, Int.reduceToNat, Int.reduceNeg, ↓reduceIte, reduceCtorEq, Nat.reduceDiv, Nat.reduceMod, Int.reduceLE, Int.reduceLT, Int.reduceSub, Int.reduceAdd]
  refine loop_intro (VWp_for [6, 7, 8, 9, 12, 13, 14, 15, 16, 17, 18, 4, 10, 11, 5] (fun i : Nat => [(5, .val (.int .i64 i))]) [] (fun _ => []) [] (fun _ => []) (fun _ => sh)
    (fun i => i ≤ l.length ∧ ∀ j, j < i → tyE p (elm l j) = 1) (fun i => l.length - i) 0 ⟨Nat.zero_le _, fun j h => by omega⟩ (by refine ⟨rfl, rfl, rfl, .refl _ _, .refl _ _, .refl _ _, by repeat (first | trivial | rfl | refine ⟨?_, ?_⟩), by repeat (first | trivial | rfl | refine ⟨?_, ?_⟩), by repeat (first | trivial | rfl | refine ⟨?_, ?_⟩), by repeat (first | trivial | exact .inr rfl | exact .inl rfl | refine ⟨?_, ?_⟩), by repeat (first | trivial | exact .inr rfl | exact .inl rfl | refine ⟨?_, ?_⟩), by repeat (first | trivial | exact .inr rfl | exact .inl rfl | refine ⟨?_, ?_⟩), by repeat (first | trivial | exact .inr rfl | exact .inl rfl | refine ⟨?_, ?_⟩)⟩) ?_)
  rintro i ⟨hi, hne⟩
  refine vCode_sound (tab_ok [R]) _ _ _ ?_
  simp only [Tryd.f66, go_sem, Nat.reduceEqDiff, Nat.reduceLT, Nat.reduceLeDiff, Nat.reduceAdd, Nat.reduceSub, Nat.reduceMul, Nat.reduceBEq, Nat.reduceBNe, Int.reduceEq, Int.reduceToNat, Int.reduceNeg, ↓reduceIte, reduceCtorEq, Nat.reduceDiv, Nat.reduceMod, Int.reduceLE, Int.reduceLT, Int.reduceSub, Int.reduceAdd]
  repeat (first | intro _ | refine And.intro (by (intros; first | omega | (simp only [Bool.or_eq_false_iff, Bool.or_eq_true, decide_eq_false_iff_not, beq_iff_eq, Bool.and_eq_true, decide_eq_true_eq, Bool.not_eq_true'] at *; omega) | simp_all)) ?_)
  refine if_intro _ rfl trivial (fun h => ?_) (fun h => ?_)
  · simp only [decide_eq_true_eq, Int.ofNat_lt] at h
    have hw : IntKind.i64.wrap ((i : Int) + 1) = ((i + 1 : Nat) : Int) := by rw [wrap64_id (by omega) (by omega)]; rfl
    simp only [Tryd.f66, go_sem, Nat.reduceEqDiff, Nat.reduceLT, Nat.reduceLeDiff, Nat.reduceAdd, Nat.reduceSub, Nat.reduceMul, Nat.reduceBEq, Nat.reduceBNe, Int.reduceEq, Int.reduceToNat, Int.reduceNeg, ↓reduceIte, reduceCtorEq, Nat.reduceDiv, Nat.reduceMod, Int.reduceLE, Int.reduceLT, Int.reduceSub, Int.reduceAdd, h]
    refine draw_intro (tab_ok [R]) mixed [(true, 0), (true, 1), (true, 2), (true, 3), (true, 4), (false, 5), (true, 6)] rfl ?_
    simp only [Tryd.f66, go_sem, Nat.reduceEqDiff, Nat.reduceLT, Nat.reduceLeDiff, Nat.reduceAdd, Nat.reduceSub, Nat.reduceMul, Nat.reduceBEq, Nat.reduceBNe, Int.reduceEq, Int.reduceToNat, Int.reduceNeg, ↓reduceIte, reduceCtorEq, Nat.reduceDiv, Nat.reduceMod, Int.reduceLE, Int.reduceLT, Int.reduceSub, Int.reduceAdd, h, hR, hs]
    repeat (first | intro _ | refine And.intro (by (intros; first | omega | (simp only [Bool.or_eq_false_iff, Bool.or_eq_true, decide_eq_false_iff_not, beq_iff_eq, Bool.and_eq_true, decide_eq_true_eq, Bool.not_eq_true'] at *; omega) | simp_all)) ?_)
    refine if_intro _ rfl trivial (fun h2 => ?_) (fun h2 => ?_)
    · simp only [Tryd.f66, go_sem, Nat.reduceEqDiff, Nat.reduceLT, Nat.reduceLeDiff, Nat.reduceAdd, Nat.reduceSub, Nat.reduceMul, Nat.reduceBEq, Nat.reduceBNe, Int.reduceEq, Int.reduceToNat, Int.reduceNeg, ↓reduceIte, reduceCtorEq, Nat.reduceDiv, Nat.reduceMod, Int.reduceLE, Int.reduceLT, Int.reduceSub, Int.reduceAdd]
      exact (all_at h (by simpa using h2)).symm
    · simp only [Tryd.f66, go_sem, Nat.reduceEqDiff, Nat.reduceLT, Nat.reduceLeDiff, Nat.reduceAdd, Nat.reduceSub, Nat.reduceMul, Nat.reduceBEq, Nat.reduceBNe, Int.reduceEq, Int.reduceToNat, Int.reduceNeg, ↓reduceIte, reduceCtorEq, Nat.reduceDiv, Nat.reduceMod, Int.reduceLE, Int.reduceLT, Int.reduceSub, Int.reduceAdd, hw]
      refine ⟨i + 1, ⟨h, fun j hj => ?_⟩, by omega, ?_⟩
      · by_cases e : j = i
        · subst e; simpa using h2
        · exact hne j (by omega)
      · refine ⟨rfl, rfl, rfl, by repeat (first | exact AgreeOff.refl _ _ | refine AgreeOff.upd rfl ?_ | refine AgreeOff.over rfl ?_), by repeat (first | exact AgreeOff.refl _ _ | refine AgreeOff.upd rfl ?_ | refine AgreeOff.over rfl ?_), by repeat (first | exact AgreeOff.refl _ _ | refine AgreeOff.upd rfl ?_ | refine AgreeOff.over rfl ?_), ?_, by repeat (first | trivial | exact .inr rfl | exact .inl rfl | refine ⟨?_, ?_⟩), by repeat (first | trivial | exact .inr rfl | exact .inl rfl | refine ⟨?_, ?_⟩), by repeat (first | trivial | exact .inr rfl | exact .inl rfl | refine ⟨?_, ?_⟩), by repeat (first | trivial | exact .inr rfl | exact .inl rfl | refine ⟨?_, ?_⟩), by repeat (first | trivial | exact .inr rfl | exact .inl rfl | refine ⟨?_, ?_⟩), by repeat (first | trivial | exact .inr rfl | exact .inl rfl | refine ⟨?_, ?_⟩)⟩
        exact ⟨rfl, trivial⟩
  · simp only [decide_eq_false_iff_not, Int.ofNat_lt] at h
    simp only [Tryd.f66, go_sem, Nat.reduceEqDiff, Nat.reduceLT, Nat.reduceLeDiff, Nat.reduceAdd, Nat.reduceSub, Nat.reduceMul, Nat.reduceBEq, Nat.reduceBNe, Int.reduceEq, Int.reduceToNat, Int.reduceNeg, ↓reduceIte, reduceCtorEq, Nat.reduceDiv, Nat.reduceMod, Int.reduceLE, Int.reduceLT, Int.reduceSub, Int.reduceAdd]
    exact (all_of fun j hj => by simpa using hne j (by omega)).symm

theorem bools_step (p : Pg) (n : Nat) (IH : ∀ e : Ex, szE e < n → VPure Tryd.prog G 37 [.agg (encP p), .agg (encE e)] (.val (.int .i64 (tyE p e)))) (l : List Ex) (hl : ∀ i, i < l.length → szE (elm l i) < n) :
    VPure Tryd.prog G 67 [.agg (encP p), .slice (l.map encE)] (.val (.bool (l.all fun e => decide (tyE p e = 2)))) := by
  obtain ⟨R, hR0, hs⟩ := mkRule (P := Tryd.prog) (G := G) 37 Ex (fun x => [.agg (encP p), .agg (encE x)]) (fun x => .val (.int .i64 (tyE p x))) (fun x => szE x < n)
    (by rintro a b h; simp only [List.cons.injEq, PV.agg.injEq, encE_iff, true_and, and_true] at h; simp only [h]) (fun x h => IH x h)
  have hR : ∀ tl (i : Nat) sh, i < l.length → tab (R :: tl) 37 [.agg [.slice (encT p.vars), .slice (p.arrays.map encA), .slice (p.funcs.map encF)], .agg [.val (.int .i64 (elm l i).kind), .val (.int .i64 (elm l i).op), .val (.int .u32 (elm l i).num), .val (.string (elm l i).name), .slice ((elm l i).kids.map encE)]] sh = some (.val (.int .i64 (tyE p (elm l i))), sh) := by
    intro tl i sh h
    have := hR0 tl (elm l i) sh (hl i h)
    simpa only [encE_eq, encP] using this
  clear hR0
  refine VPure.of (.val _) fun sh => ?_
  refine VCalls_enter [] Tryd.func67 rfl (show 2 ≤ 19 by decide) ?_
  refine vCode_sound (tab_ok [R]) _ _ _ ?_
  simp only [encP]
  simp only [Tryd.f67, go_sem, Nat.reduceEqDiff, Nat.reduceLT, Nat.reduceLeDiff, Nat.reduceAdd, Nat.reduceSub, Nat.reduceMul, Nat.reduceBEq, Nat.reduceBNe, Int.reduceEq, Int.reduceToNat, Int.reduceNeg, ↓reduceIte, reduceCtorEq, Nat.reduceDiv, Nat.reduceMod, Int.reduceLE, Int.reduceLT, Int.reduceSub, Int.reduceAdd]
  refine loop_intro (VWp_for [6, 7, 8, 9, 12, 13, 14, 15, 16, 17, 18, 4, 10, 11, 5] (fun i : Nat => [(5, .val (.int .i64 i))]) [] (fun _ => []) [] (fun _ => []) (fun _ => sh)
    (fun i => i ≤ l.length ∧ ∀ j, j < i → tyE p (elm l j) = 2) (fun i => l.length - i) 0 ⟨Nat.zero_le _, fun j h => by omega⟩ (by refine ⟨rfl, rfl, rfl, .refl _ _, .refl _ _, .refl _ _, by repeat (first | trivial | rfl | refine ⟨?_, ?_⟩), by repeat (first | trivial | rfl | refine ⟨?_, ?_⟩), by repeat (first | trivial | rfl | refine ⟨?_, ?_⟩), by repeat (first | trivial | exact .inr rfl | exact .inl rfl | refine ⟨?_, ?_⟩), by repeat (first | trivial | exact .inr rfl | exact .inl rfl | refine ⟨?_, ?_⟩), by repeat (first | trivial | exact .inr rfl | exact .inl rfl | refine ⟨?_, ?_⟩), by repeat (first | trivial | exact .inr rfl | exact .inl rfl | refine ⟨?_, ?_⟩)⟩) ?_)
  rintro i ⟨hi, hne⟩
  refine vCode_sound (tab_ok [R]) _ _ _ ?_
  simp only [Tryd.f67, go_sem, Nat.reduceEqDiff, Nat.reduceLT, Nat.reduceLeDiff, Nat.reduceAdd, Nat.reduceSub, Nat.reduceMul, Nat.reduceBEq, Nat.reduceBNe, Int.reduceEq, Int.reduceToNat, Int.reduceNeg, ↓reduceIte, reduceCtorEq, Nat.reduceDiv, Nat.reduceMod, Int.reduceLE, Int.reduceLT, Int.reduceSub, Int.reduceAdd]
  repeat (first | intro _ | refine And.intro (by (intros; first | omega | (simp only [Bool.or_eq_false_iff, Bool.or_eq_true, decide_eq_false_iff_not, beq_iff_eq, Bool.and_eq_true, decide_eq_true_eq, Bool.not_eq_true'] at *; omega) | simp_all)) ?_)
  refine if_intro _ rfl trivial (fun h => ?_) (fun h => ?_)
  · simp only [decide_eq_true_eq, Int.ofNat_lt] at h
    have hw : IntKind.i64.wrap ((i : Int) + 1) = ((i + 1 : Nat) : Int) := by rw [wrap64_id (by omega) (by omega)]; rfl
    simp only [Tryd.f67, go_sem, Nat.reduceEqDiff, Nat.reduceLT, Nat.reduceLeDiff, Nat.reduceAdd, Nat.reduceSub, Nat.reduceMul, Nat.reduceBEq, Nat.reduceBNe, Int.reduceEq, Int.reduceToNat, Int.reduceNeg, ↓reduceIte, reduceCtorEq, Nat.reduceDiv, Nat.reduceMod, Int.reduceLE, Int.reduceLT, Int.reduceSub, Int.reduceAdd, h]
    refine draw_intro (tab_ok [R]) mixed [(true, 0), (true, 1), (true, 2), (true, 3), (true, 4), (false, 5), (true, 6)] rfl ?_
    simp only [Tryd.f67, go_sem, Nat.reduceEqDiff, Nat.reduceLT, Nat.reduceLeDiff, Nat.reduceAdd, Nat.reduceSub, Nat.reduceMul, Nat.reduceBEq, Nat.reduceBNe, Int.reduceEq, Int.reduceToNat, Int.reduceNeg, ↓reduceIte, reduceCtorEq, Nat.reduceDiv, Nat.reduceMod, Int.reduceLE, Int.reduceLT, Int.reduceSub, Int.reduceAdd, h, hR, hs]
    repeat (first | intro _ | refine And.intro (by (intros; first | omega | (simp only [Bool.or_eq_false_iff, Bool.or_eq_true, decide_eq_false_iff_not, beq_iff_eq, Bool.and_eq_true, decide_eq_true_eq, Bool.not_eq_true'] at *; omega) | simp_all)) ?_)
    refine if_intro _ rfl trivial (fun h2 => ?_) (fun h2 => ?_)
    · simp only [Tryd.f67, go_sem, Nat.reduceEqDiff, Nat.reduceLT, Nat.reduceLeDiff, Nat.reduceAdd, Nat.reduceSub, Nat.reduceMul, Nat.reduceBEq, Nat.reduceBNe, Int.reduceEq, Int.reduceToNat, Int.reduceNeg, ↓reduceIte, reduceCtorEq, Nat.reduceDiv, Nat.reduceMod, Int.reduceLE, Int.reduceLT, Int.reduceSub, Int.reduceAdd]
      exact (all_at h (by simpa using h2)).symm
    · simp only [Tryd.f67, go_sem, Nat.reduceEqDiff, Nat.reduceLT, Nat.reduceLeDiff, Nat.reduceAdd, Nat.reduceSub, Nat.reduceMul, Nat.reduceBEq, Nat.reduceBNe, Int.reduceEq, Int.reduceToNat, Int.reduceNeg, ↓reduceIte, reduceCtorEq, Nat.reduceDiv, Nat.reduceMod, Int.reduceLE, Int.reduceLT, Int.reduceSub, Int.reduceAdd, hw]
      refine ⟨i + 1, ⟨h, fun j hj => ?_⟩, by omega, ?_⟩
      · by_cases e : j = i
        · subst e; simpa using h2
        · exact hne j (by omega)
      · refine ⟨rfl, rfl, rfl, by repeat (first | exact AgreeOff.refl _ _ | refine AgreeOff.upd rfl ?_ | refine AgreeOff.over rfl ?_), by repeat (first | exact AgreeOff.refl _ _ | refine AgreeOff.upd rfl ?_ | refine AgreeOff.over rfl ?_), by repeat (first | exact AgreeOff.refl _ _ | refine AgreeOff.upd rfl ?_ | refine AgreeOff.over rfl ?_), ?_, by repeat (first | trivial | exact .inr rfl | exact .inl rfl | refine ⟨?_, ?_⟩), by repeat (first | trivial | exact .inr rfl | exact .inl rfl | refine ⟨?_, ?_⟩), by repeat (first | trivial | exact .inr rfl | exact .inl rfl | refine ⟨?_, ?_⟩), by repeat (first | trivial | exact .inr rfl | exact .inl rfl | refine ⟨?_, ?_⟩), by repeat (first | trivial | exact .inr rfl | exact .inl rfl | refine ⟨?_, ?_⟩), by repeat (first | trivial | exact .inr rfl | exact .inl rfl | refine ⟨?_, ?_⟩)⟩
        exact ⟨rfl, trivial⟩
  · simp only [decide_eq_false_iff_not, Int.ofNat_lt] at h
    simp only [Tryd.f67, go_sem, Nat.reduceEqDiff, Nat.reduceLT, Nat.reduceLeDiff, Nat.reduceAdd, Nat.reduceSub, Nat.reduceMul, Nat.reduceBEq, Nat.reduceBNe, Int.reduceEq, Int.reduceToNat, Int.reduceNeg, ↓reduceIte, reduceCtorEq, Nat.reduceDiv, Nat.reduceMod, Int.reduceLE, Int.reduceLT, Int.reduceSub, Int.reduceAdd]
    exact (all_of fun j hj => by simpa using hne j (by omega)).symm

end Go.Proofs.YtaackmiajgapoaaDoor.V
