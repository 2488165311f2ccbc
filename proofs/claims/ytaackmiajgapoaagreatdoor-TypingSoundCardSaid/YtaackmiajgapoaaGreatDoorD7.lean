/- Few parts, of statements and programs (seedcornref14). -/
import Derived.Test.YtaackmiajgapoaaGreatDoorD6
set_option maxHeartbeats 16000000
set_option maxRecDepth 100000
set_option linter.unusedSimpArgs false
set_option linter.unusedVariables false
namespace Go.Proofs.YtaackmiajgapoaaGreatDoor.V
open Go
variable {G : Nat → Option (List PV)}

def size60 (s : ByteArray) : Bool := decide (s.size ≤ 60)
def shortB (l : List ByteArray) : Bool := l.all size60 && decide (l.length ≤ 200)
theorem short_c (l : List ByteArray) : VPure Tryz.prog G 29 [.slice (encT l)] (.val (.bool (shortB l))) := by
  refine VPure.of (.val _) fun sh => ?_
  refine VCalls_enter [] Tryz.func29 rfl (show 1 ≤ 19 by decide) ?_
  refine vCode_sound (tab_ok []) _ _ _ ?_
  simp only [Tryz.f29, go_sem, Nat.reduceEqDiff, Nat.reduceLT, Nat.reduceLeDiff, Nat.reduceAdd, Nat.reduceSub, Nat.reduceMul, Nat.reduceBEq, Nat.reduceBNe, Int.reduceEq, Int.reduceToNat, Int.reduceNeg, ↓reduceIte, reduceCtorEq, Nat.reduceDiv, Nat.reduceMod, Int.reduceLE, Int.reduceLT, Int.reduceSub, Int.reduceAdd]
  refine loop_intro (VWp_for [4, 5, 6, 7, 10, 11, 12, 13, 14, 15, 2, 8, 9, 3] (fun i : Nat => [(3, .val (.int .i64 i))]) [] (fun _ => []) [] (fun _ => []) (fun _ => sh)
    (fun i => i ≤ l.length ∧ ∀ j, j < i → size60 (elm l j) = true) (fun i => l.length - i) 0 ⟨Nat.zero_le _, fun j h => by omega⟩ (by refine ⟨rfl, rfl, rfl, .refl _ _, .refl _ _, .refl _ _, by repeat (first | trivial | rfl | refine ⟨?_, ?_⟩), by repeat (first | trivial | rfl | refine ⟨?_, ?_⟩), by repeat (first | trivial | rfl | refine ⟨?_, ?_⟩), by repeat (first | trivial | exact .inr rfl | exact .inl rfl | refine ⟨?_, ?_⟩), by repeat (first | trivial | exact .inr rfl | exact .inl rfl | refine ⟨?_, ?_⟩), by repeat (first | trivial | exact .inr rfl | exact .inl rfl | refine ⟨?_, ?_⟩), by repeat (first | trivial | exact .inr rfl | exact .inl rfl | refine ⟨?_, ?_⟩)⟩) ?_)
  rintro i ⟨hi, hne⟩
  refine vCode_sound (tab_ok []) _ _ _ ?_
  simp only [Tryz.f29, go_sem, Nat.reduceEqDiff, Nat.reduceLT, Nat.reduceLeDiff, Nat.reduceAdd, Nat.reduceSub, Nat.reduceMul, Nat.reduceBEq, Nat.reduceBNe, Int.reduceEq, Int.reduceToNat, Int.reduceNeg, ↓reduceIte, reduceCtorEq, Nat.reduceDiv, Nat.reduceMod, Int.reduceLE, Int.reduceLT, Int.reduceSub, Int.reduceAdd]
  repeat (first | intro _ | refine And.intro (by (intros; first | omega | (simp only [Bool.or_eq_false_iff, Bool.or_eq_true, decide_eq_false_iff_not, beq_iff_eq, Bool.and_eq_true, decide_eq_true_eq, Bool.not_eq_true'] at *; omega) | simp_all)) ?_)
  refine if_intro _ rfl trivial (fun h => ?_) (fun h => ?_)
  · simp only [decide_eq_true_eq, Int.ofNat_lt] at h
    have hfin : ∀ b, b = size60 (elm l i) → (b = false → l.all size60 = false) ∧ (b = true → ∀ j, j < i + 1 → size60 (elm l j) = true) := fun b hb => ⟨fun e => all_at h (by rw [← hb, e]), fun e j hj => by
      by_cases e' : j = i
      · subst e'; rw [← hb, e]
      · exact hne j (by omega)⟩
    have hw : IntKind.i64.wrap ((i : Int) + 1) = ((i + 1 : Nat) : Int) := by rw [wrap64_id (by omega) (by omega)]; rfl
    simp only [Tryz.f29, go_sem, Nat.reduceEqDiff, Nat.reduceLT, Nat.reduceLeDiff, Nat.reduceAdd, Nat.reduceSub, Nat.reduceMul, Nat.reduceBEq, Nat.reduceBNe, Int.reduceEq, Int.reduceToNat, Int.reduceNeg, ↓reduceIte, reduceCtorEq, Nat.reduceDiv, Nat.reduceMod, Int.reduceLE, Int.reduceLT, Int.reduceSub, Int.reduceAdd, h]
    repeat (first | intro _ | refine And.intro (by (intros; first | omega | (simp only [Bool.or_eq_false_iff, Bool.or_eq_true, decide_eq_false_iff_not, beq_iff_eq, Bool.and_eq_true, decide_eq_true_eq, Bool.not_eq_true'] at *; omega) | simp_all)) ?_)
    refine if_intro _ rfl trivial (fun h2 => ?_) (fun h2 => ?_)
    · simp only [Tryz.f29, go_sem, Nat.reduceEqDiff, Nat.reduceLT, Nat.reduceLeDiff, Nat.reduceAdd, Nat.reduceSub, Nat.reduceMul, Nat.reduceBEq, Nat.reduceBNe, Int.reduceEq, Int.reduceToNat, Int.reduceNeg, ↓reduceIte, reduceCtorEq, Nat.reduceDiv, Nat.reduceMod, Int.reduceLE, Int.reduceLT, Int.reduceSub, Int.reduceAdd]
      have hf : size60 (elm l i) = false := by
        simp only [decide_eq_true_eq] at h2
        exact decide_eq_false (by omega)
      unfold shortB
      rw [(hfin _ rfl).1 hf]; rfl
    · simp only [Tryz.f29, go_sem, Nat.reduceEqDiff, Nat.reduceLT, Nat.reduceLeDiff, Nat.reduceAdd, Nat.reduceSub, Nat.reduceMul, Nat.reduceBEq, Nat.reduceBNe, Int.reduceEq, Int.reduceToNat, Int.reduceNeg, ↓reduceIte, reduceCtorEq, Nat.reduceDiv, Nat.reduceMod, Int.reduceLE, Int.reduceLT, Int.reduceSub, Int.reduceAdd, hw]
      have hf : size60 (elm l i) = true := by
        simp only [decide_eq_false_iff_not] at h2
        exact decide_eq_true (by omega)
      refine ⟨i + 1, ⟨h, (hfin _ rfl).2 hf⟩, by omega, ?_⟩
      refine ⟨rfl, rfl, rfl, by repeat (first | exact AgreeOff.refl _ _ | refine AgreeOff.upd rfl ?_ | refine AgreeOff.over rfl ?_), by repeat (first | exact AgreeOff.refl _ _ | refine AgreeOff.upd rfl ?_ | refine AgreeOff.over rfl ?_), by repeat (first | exact AgreeOff.refl _ _ | refine AgreeOff.upd rfl ?_ | refine AgreeOff.over rfl ?_), ?_, by repeat (first | trivial | exact .inr rfl | exact .inl rfl | refine ⟨?_, ?_⟩), by repeat (first | trivial | exact .inr rfl | exact .inl rfl | refine ⟨?_, ?_⟩), by repeat (first | trivial | exact .inr rfl | exact .inl rfl | refine ⟨?_, ?_⟩), by repeat (first | trivial | exact .inr rfl | exact .inl rfl | refine ⟨?_, ?_⟩), by repeat (first | trivial | exact .inr rfl | exact .inl rfl | refine ⟨?_, ?_⟩), by repeat (first | trivial | exact .inr rfl | exact .inl rfl | refine ⟨?_, ?_⟩)⟩
      exact ⟨rfl, trivial⟩
  simp only [decide_eq_false_iff_not, Int.ofNat_lt] at h
  simp only [Tryz.f29, go_sem, Nat.reduceEqDiff, Nat.reduceLT, Nat.reduceLeDiff, Nat.reduceAdd, Nat.reduceSub, Nat.reduceMul, Nat.reduceBEq, Nat.reduceBNe, Int.reduceEq, Int.reduceToNat, Int.reduceNeg, ↓reduceIte, reduceCtorEq, Nat.reduceDiv, Nat.reduceMod, Int.reduceLE, Int.reduceLT, Int.reduceSub, Int.reduceAdd]
  repeat (first | intro _ | refine And.intro (by (intros; first | omega | (simp only [Bool.or_eq_false_iff, Bool.or_eq_true, decide_eq_false_iff_not, beq_iff_eq, Bool.and_eq_true, decide_eq_true_eq, Bool.not_eq_true'] at *; omega) | simp_all)) ?_)
  unfold shortB
  rw [all_of fun j hj => hne j (by omega)]
  rfl
noncomputable def r28 : Rule Tryz.prog G := Rule.pure 29 ((List ByteArray)) (fun l => [.slice (encT l)]) (fun l => .val (.bool (shortB l))) (by rintro l1 l2 h; simp only [List.cons.injEq, PV.agg.injEq, PV.val.injEq, PV.slice.injEq, Value.int.injEq, Value.bool.injEq, Value.string.injEq, encE_iff, encEs_iff, encS_iff, encSs_iff, encT_iff, encF_iff, encP_iff, Int.natCast_inj, true_and, and_true] at h; simp only [h]) (fun l => short_c l)
theorem r28_at (tl : List (Rule Tryz.prog G)) (l : List ByteArray) (sh : Sh) : tab (r28 :: tl) 29 [.slice (encT l)] sh = some (.val (.bool (shortB l)), sh) := by
  have this : tab (r28 :: tl) 29 [.slice (encT l)] sh = some (.val (.bool (shortB l)), sh) := tab_pure tl ((l) : (List ByteArray)) sh
  exact this
theorem r28_skip (tl : List (Rule Tryz.prog G)) (f : FuncId) (args : List PV) (sh : Sh) (h : f ≠ 29) : tab (r28 :: tl) f args sh = tab tl f args sh := tab_skip _ tl f args sh h

mutual
def leftS : St → Int → Int → Int
  | .mk _ s e t f, left, deep => if deep ≤ 0 ∨ 60 < s.size then -1 else leftSs f (leftSs t (leftEs e (IntKind.i64.wrap (left - 1)) (IntKind.i64.wrap (deep - 1))) (IntKind.i64.wrap (deep - 1))) (IntKind.i64.wrap (deep - 1))
def leftSs : List St → Int → Int → Int
  | [], left, _ => left
  | e :: r, left, deep => if left < 0 then left else leftSs r (leftS e left deep) deep
end
theorem leftS_eq (e : St) (left deep : Int) : leftS e left deep = if deep ≤ 0 ∨ 60 < e.name.size then -1 else leftSs e.els (leftSs e.thn (leftEs e.e (IntKind.i64.wrap (left - 1)) (IntKind.i64.wrap (deep - 1))) (IntKind.i64.wrap (deep - 1))) (IntKind.i64.wrap (deep - 1)) := by
  cases e with | mk k s x t f => rw [leftS]; rfl
theorem leftSs_neg (l : List St) (left deep : Int) (h : left < 0) : leftSs l left deep = left := by
  cases l with
  | nil => rfl
  | cons e r => rw [leftSs, if_pos h]
theorem szS_elm_thn (l : List St) (i : Nat) (h : i < l.length) : szSs (elm l i).thn < szSs l := by
  have h1 := szSs_elm l i h
  have h2 : szS (elm l i) = 1 + szEs (elm l i).e + szSs (elm l i).thn + szSs (elm l i).els := by
    cases elm l i with | mk k s x t f => rfl
  omega
theorem szS_elm_els (l : List St) (i : Nat) (h : i < l.length) : szSs (elm l i).els < szSs l := by
  have h1 := szSs_elm l i h
  have h2 : szS (elm l i) = 1 + szEs (elm l i).e + szSs (elm l i).thn + szSs (elm l i).els := by
    cases elm l i with | mk k s x t f => rfl
  omega

theorem leftStmts_step (n : Nat) (IH : ∀ (l : List St) (left deep : Int), szSs l < n → VPure Tryz.prog G 30 [.slice (l.map encS), .val (.int .i64 left), .val (.int .i64 deep)] (.val (.int .i64 (leftSs l left deep)))) (l : List St) (left deep : Int) (hl : szSs l ≤ n) :
    VPure Tryz.prog G 30 [.slice (l.map encS), .val (.int .i64 left), .val (.int .i64 deep)] (.val (.int .i64 (leftSs l left deep))) := by
  obtain ⟨R, hR0, hs⟩ := mkRule (P := Tryz.prog) (G := G) 30 (List St × Int × Int) (fun x => [.slice (x.1.map encS), .val (.int .i64 x.2.1), .val (.int .i64 x.2.2)]) (fun x => .val (.int .i64 (leftSs x.1 x.2.1 x.2.2))) (fun x => szSs x.1 < n)
    (by rintro ⟨a, b, b'⟩ ⟨c, d, d'⟩ h; simp only [List.cons.injEq, PV.slice.injEq, PV.val.injEq, Value.int.injEq, encSs_iff, true_and, and_true] at h; simp only [h]) (fun x h => IH x.1 x.2.1 x.2.2 h)
  have hR1 : ∀ tl (i : Nat) (left deep : Int) sh, i < l.length → tab (R :: tl) 30 [.slice ((elm l i).thn.map encS), .val (.int .i64 left), .val (.int .i64 deep)] sh = some (.val (.int .i64 (leftSs (elm l i).thn left deep)), sh) := fun tl i left deep sh h => hR0 tl ((elm l i).thn, left, deep) sh (Nat.lt_of_lt_of_le (szS_elm_thn l i h) hl)
  have hR2 : ∀ tl (i : Nat) (left deep : Int) sh, i < l.length → tab (R :: tl) 30 [.slice ((elm l i).els.map encS), .val (.int .i64 left), .val (.int .i64 deep)] sh = some (.val (.int .i64 (leftSs (elm l i).els left deep)), sh) := fun tl i left deep sh h => hR0 tl ((elm l i).els, left, deep) sh (Nat.lt_of_lt_of_le (szS_elm_els l i h) hl)
  clear hR0
  refine VPure.of (.val _) fun sh => ?_
  refine VCalls_enter [] Tryz.func30 rfl (show 3 ≤ 59 by decide) ?_
  refine vCode_sound (tab_ok [r13, R]) _ _ _ ?_
  simp only [Tryz.f30, go_sem, Nat.reduceEqDiff, Nat.reduceLT, Nat.reduceLeDiff, Nat.reduceAdd, Nat.reduceSub, Nat.reduceMul, Nat.reduceBEq, Nat.reduceBNe, Int.reduceEq, Int.reduceToNat, Int.reduceNeg, ↓reduceIte, reduceCtorEq, Nat.reduceDiv, Nat.reduceMod, Int.reduceLE, Int.reduceLT, Int.reduceSub, Int.reduceAdd]
  refine loop_intro (VWp_for [8, 9, 10, 11, 12, 13, 14, 15, 18, 19, 1, 20, 21, 22, 23, 24, 25, 26, 27, 28, 29, 30, 6, 31, 32, 33, 34, 35, 36, 37, 38, 39, 40, 41, 42, 43, 44, 45, 46, 47, 48, 49, 50, 51, 52, 53, 54, 55, 56, 57, 16, 17, 7] (fun x : Nat × Int => [(7, .val (.int .i64 x.1)), (1, .val (.int .i64 x.2))]) [] (fun _ => []) [] (fun _ => []) (fun _ => sh)
    (fun x => x.1 ≤ l.length ∧ leftSs (l.drop x.1) x.2 deep = leftSs l left deep) (fun x => l.length - x.1) (0, left) ⟨Nat.zero_le _, rfl⟩ (by refine ⟨rfl, rfl, rfl, .refl _ _, .refl _ _, .refl _ _, by repeat (first | trivial | rfl | refine ⟨?_, ?_⟩), by repeat (first | trivial | rfl | refine ⟨?_, ?_⟩), by repeat (first | trivial | rfl | refine ⟨?_, ?_⟩), by repeat (first | trivial | exact .inr rfl | exact .inl rfl | refine ⟨?_, ?_⟩), by repeat (first | trivial | exact .inr rfl | exact .inl rfl | refine ⟨?_, ?_⟩), by repeat (first | trivial | exact .inr rfl | exact .inl rfl | refine ⟨?_, ?_⟩), by repeat (first | trivial | exact .inr rfl | exact .inl rfl | refine ⟨?_, ?_⟩)⟩) ?_)
  rintro ⟨i, m⟩ ⟨hi, hne⟩
  refine vCode_sound (tab_ok [r13, R]) _ _ _ ?_
  simp only [Tryz.f30, go_sem, Nat.reduceEqDiff, Nat.reduceLT, Nat.reduceLeDiff, Nat.reduceAdd, Nat.reduceSub, Nat.reduceMul, Nat.reduceBEq, Nat.reduceBNe, Int.reduceEq, Int.reduceToNat, Int.reduceNeg, ↓reduceIte, reduceCtorEq, Nat.reduceDiv, Nat.reduceMod, Int.reduceLE, Int.reduceLT, Int.reduceSub, Int.reduceAdd]
  repeat (first | intro _ | refine And.intro (by (intros; first | omega | (simp only [Bool.or_eq_false_iff, Bool.or_eq_true, decide_eq_false_iff_not, beq_iff_eq, Bool.and_eq_true, decide_eq_true_eq, Bool.not_eq_true'] at *; omega) | simp_all)) ?_)
  refine if_intro _ rfl trivial (fun h => ?_) (fun h => ?_)
  · simp only [Bool.and_eq_true, decide_eq_true_eq, Int.ofNat_lt] at h
    have hw : IntKind.i64.wrap ((i : Int) + 1) = ((i + 1 : Nat) : Int) := by rw [wrap64_id (by omega) (by omega)]; rfl
    have hi' := h.1
    simp only [Tryz.f30, go_sem, Nat.reduceEqDiff, Nat.reduceLT, Nat.reduceLeDiff, Nat.reduceAdd, Nat.reduceSub, Nat.reduceMul, Nat.reduceBEq, Nat.reduceBNe, Int.reduceEq, Int.reduceToNat, Int.reduceNeg, ↓reduceIte, reduceCtorEq, Nat.reduceDiv, Nat.reduceMod, Int.reduceLE, Int.reduceLT, Int.reduceSub, Int.reduceAdd, r13_at, r13_skip, hi']
    repeat (first | intro _ | refine And.intro (by (intros; first | omega | (simp only [Bool.or_eq_false_iff, Bool.or_eq_true, decide_eq_false_iff_not, beq_iff_eq, Bool.and_eq_true, decide_eq_true_eq, Bool.not_eq_true'] at *; omega) | simp_all)) ?_)
    refine if_intro _ rfl trivial (fun h2 => ?_) (fun h2 => ?_)
    · simp only [Tryz.f30, go_sem, Nat.reduceEqDiff, Nat.reduceLT, Nat.reduceLeDiff, Nat.reduceAdd, Nat.reduceSub, Nat.reduceMul, Nat.reduceBEq, Nat.reduceBNe, Int.reduceEq, Int.reduceToNat, Int.reduceNeg, ↓reduceIte, reduceCtorEq, Nat.reduceDiv, Nat.reduceMod, Int.reduceLE, Int.reduceLT, Int.reduceSub, Int.reduceAdd]
      simp only at hne hi
      rw [← hne, drop_elm hi', leftSs, if_neg (by omega), leftS_eq, if_pos (by simpa using h2), leftSs_neg _ _ _ (by omega)]
    · simp only [Tryz.f30, go_sem, Nat.reduceEqDiff, Nat.reduceLT, Nat.reduceLeDiff, Nat.reduceAdd, Nat.reduceSub, Nat.reduceMul, Nat.reduceBEq, Nat.reduceBNe, Int.reduceEq, Int.reduceToNat, Int.reduceNeg, ↓reduceIte, reduceCtorEq, Nat.reduceDiv, Nat.reduceMod, Int.reduceLE, Int.reduceLT, Int.reduceSub, Int.reduceAdd, r13_at, r13_skip, hR1, hR2, hs, hi']
      repeat (first | intro _ | refine And.intro (by (intros; first | omega | (simp only [Bool.or_eq_false_iff, Bool.or_eq_true, decide_eq_false_iff_not, beq_iff_eq, Bool.and_eq_true, decide_eq_true_eq, Bool.not_eq_true'] at *; omega) | simp_all)) ?_)
      simp only [Tryz.f30, go_sem, Nat.reduceEqDiff, Nat.reduceLT, Nat.reduceLeDiff, Nat.reduceAdd, Nat.reduceSub, Nat.reduceMul, Nat.reduceBEq, Nat.reduceBNe, Int.reduceEq, Int.reduceToNat, Int.reduceNeg, ↓reduceIte, reduceCtorEq, Nat.reduceDiv, Nat.reduceMod, Int.reduceLE, Int.reduceLT, Int.reduceSub, Int.reduceAdd, hw]
      simp only at hne hi
      refine ⟨(i + 1, leftSs (elm l i).els (leftSs (elm l i).thn (leftEs (elm l i).e (IntKind.i64.wrap (m - 1)) (IntKind.i64.wrap (deep - 1))) (IntKind.i64.wrap (deep - 1))) (IntKind.i64.wrap (deep - 1))), ⟨hi', ?_⟩, ?_, ?_⟩
      · rw [← hne, drop_elm hi', leftSs, if_neg (by omega), leftS_eq, if_neg (by simpa using h2)]
      · show l.length - (i + 1) < l.length - i
        omega
      · refine ⟨rfl, rfl, rfl, by repeat (first | exact AgreeOff.refl _ _ | refine AgreeOff.upd rfl ?_ | refine AgreeOff.over rfl ?_), by repeat (first | exact AgreeOff.refl _ _ | refine AgreeOff.upd rfl ?_ | refine AgreeOff.over rfl ?_), by repeat (first | exact AgreeOff.refl _ _ | refine AgreeOff.upd rfl ?_ | refine AgreeOff.over rfl ?_), ?_, by repeat (first | trivial | exact .inr rfl | exact .inl rfl | refine ⟨?_, ?_⟩), by repeat (first | trivial | exact .inr rfl | exact .inl rfl | refine ⟨?_, ?_⟩), by repeat (first | trivial | exact .inr rfl | exact .inl rfl | refine ⟨?_, ?_⟩), by repeat (first | trivial | exact .inr rfl | exact .inl rfl | refine ⟨?_, ?_⟩), by repeat (first | trivial | exact .inr rfl | exact .inl rfl | refine ⟨?_, ?_⟩), by repeat (first | trivial | exact .inr rfl | exact .inl rfl | refine ⟨?_, ?_⟩)⟩
        exact ⟨rfl, rfl, trivial⟩
  · simp only [Bool.and_eq_false_iff, decide_eq_false_iff_not, Int.ofNat_lt] at h
    simp only [Tryz.f30, go_sem, Nat.reduceEqDiff, Nat.reduceLT, Nat.reduceLeDiff, Nat.reduceAdd, Nat.reduceSub, Nat.reduceMul, Nat.reduceBEq, Nat.reduceBNe, Int.reduceEq, Int.reduceToNat, Int.reduceNeg, ↓reduceIte, reduceCtorEq, Nat.reduceDiv, Nat.reduceMod, Int.reduceLE, Int.reduceLT, Int.reduceSub, Int.reduceAdd]
    simp only at hne hi
    rw [← hne]
    rcases h with h | h
    · rw [List.drop_eq_nil_of_le (by omega)]; rfl
    · rw [leftSs_neg _ _ _ (by omega)]
theorem leftSs_ind : ∀ (n : Nat) (l : List St) (left deep : Int), szSs l < n → VPure Tryz.prog G 30 [.slice (l.map encS), .val (.int .i64 left), .val (.int .i64 deep)] (.val (.int .i64 (leftSs l left deep)))
  | 0, _, _, _, h => by omega
  | n + 1, l, left, deep, h => leftStmts_step n (fun l left deep h => leftSs_ind n l left deep h) l left deep (by omega)
theorem leftStmts_c (l : List St) (left deep : Int) : VPure Tryz.prog G 30 [.slice (l.map encS), .val (.int .i64 left), .val (.int .i64 deep)] (.val (.int .i64 (leftSs l left deep))) := leftSs_ind (szSs l + 1) l left deep (by omega)
noncomputable def r29 : Rule Tryz.prog G := Rule.pure 30 ((List St) × (Int) × (Int)) (fun x => match x with | (l, left, deep) => [.slice (l.map encS), .val (.int .i64 left), .val (.int .i64 deep)]) (fun x => match x with | (l, left, deep) => .val (.int .i64 (leftSs l left deep))) (by rintro ⟨l1, left1, deep1⟩ ⟨l2, left2, deep2⟩ h; simp only [List.cons.injEq, PV.agg.injEq, PV.val.injEq, PV.slice.injEq, Value.int.injEq, Value.bool.injEq, Value.string.injEq, encE_iff, encEs_iff, encS_iff, encSs_iff, encT_iff, encF_iff, encP_iff, Int.natCast_inj, true_and, and_true] at h; simp only [h]) (fun ⟨l, left, deep⟩ => leftStmts_c l left deep)
theorem r29_at (tl : List (Rule Tryz.prog G)) (l : List St) (left : Int) (deep : Int) (sh : Sh) : tab (r29 :: tl) 30 [.slice (l.map encS), .val (.int .i64 left), .val (.int .i64 deep)] sh = some (.val (.int .i64 (leftSs l left deep)), sh) := by
  have this : tab (r29 :: tl) 30 [.slice (l.map encS), .val (.int .i64 left), .val (.int .i64 deep)] sh = some (.val (.int .i64 (leftSs l left deep)), sh) := tab_pure tl ((l, left, deep) : (List St) × (Int) × (Int)) sh
  exact this
theorem r29_skip (tl : List (Rule Tryz.prog G)) (f : FuncId) (args : List PV) (sh : Sh) (h : f ≠ 30) : tab (r29 :: tl) f args sh = tab tl f args sh := tab_skip _ tl f args sh h
end Go.Proofs.YtaackmiajgapoaaGreatDoor.V
