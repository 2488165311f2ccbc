/- Few parts (seedcornref14). -/
import Derived.Test.YtaackmiajgapoaaGreatDoorD5
set_option maxHeartbeats 16000000
set_option maxRecDepth 100000
set_option linter.unusedSimpArgs false
set_option linter.unusedVariables false
namespace Go.Proofs.YtaackmiajgapoaaGreatDoor.V
open Go
variable {G : Nat → Option (List PV)}

mutual
def leftE : Ex → Int → Int → Int
  | .mk _ _ _ s l, left, deep => if deep ≤ 0 ∨ 60 < s.size then -1 else leftEs l (IntKind.i64.wrap (left - 1)) (IntKind.i64.wrap (deep - 1))
def leftEs : List Ex → Int → Int → Int
  | [], left, _ => left
  | e :: r, left, deep => if left < 0 then left else leftEs r (leftE e left deep) deep
end
theorem leftE_eq (e : Ex) (left deep : Int) : leftE e left deep = if deep ≤ 0 ∨ 60 < e.name.size then -1 else leftEs e.kids (IntKind.i64.wrap (left - 1)) (IntKind.i64.wrap (deep - 1)) := by
  cases e with | mk k o n s l => rw [leftE]; rfl
theorem leftEs_neg (l : List Ex) (left deep : Int) (h : left < 0) : leftEs l left deep = left := by
  cases l with
  | nil => rfl
  | cons e r => rw [leftEs, if_pos h]
theorem drop_elm {α : Type} [Inhabited α] {l : List α} {i : Nat} (h : i < l.length) : l.drop i = elm l i :: l.drop (i + 1) := by
  rw [List.drop_eq_getElem_cons h, elm_eq h]
theorem szE_elm_kids (l : List Ex) (i : Nat) (h : i < l.length) : szEs (elm l i).kids < szEs l := by
  have h1 := szEs_elm l i h
  have h2 : szE (elm l i) = 1 + szEs (elm l i).kids := by
    cases elm l i with | mk k o n s r => rfl
  omega

theorem leftExprs_step (n : Nat) (IH : ∀ (l : List Ex) (left deep : Int), szEs l < n → VPure Tryz.prog G 54 [.slice (l.map encE), .val (.int .i64 left), .val (.int .i64 deep)] (.val (.int .i64 (leftEs l left deep)))) (l : List Ex) (left deep : Int) (hl : szEs l ≤ n) :
    VPure Tryz.prog G 54 [.slice (l.map encE), .val (.int .i64 left), .val (.int .i64 deep)] (.val (.int .i64 (leftEs l left deep))) := by
  obtain ⟨R, hR0, hs⟩ := mkRule (P := Tryz.prog) (G := G) 54 (List Ex × Int × Int) (fun x => [.slice (x.1.map encE), .val (.int .i64 x.2.1), .val (.int .i64 x.2.2)]) (fun x => .val (.int .i64 (leftEs x.1 x.2.1 x.2.2))) (fun x => szEs x.1 < n)
    (by rintro ⟨a, b, b'⟩ ⟨c, d, d'⟩ h; simp only [List.cons.injEq, PV.slice.injEq, PV.val.injEq, Value.int.injEq, encEs_iff, true_and, and_true] at h; simp only [h]) (fun x h => IH x.1 x.2.1 x.2.2 h)
  have hR : ∀ tl (i : Nat) (left deep : Int) sh, i < l.length → tab (R :: tl) 54 [.slice ((elm l i).kids.map encE), .val (.int .i64 left), .val (.int .i64 deep)] sh = some (.val (.int .i64 (leftEs (elm l i).kids left deep)), sh) := fun tl i left deep sh h => hR0 tl ((elm l i).kids, left, deep) sh (Nat.lt_of_lt_of_le (szE_elm_kids l i h) hl)
  clear hR0
  refine VPure.of (.val _) fun sh => ?_
  refine VCalls_enter [] Tryz.func54 rfl (show 3 ≤ 41 by decide) ?_
  refine vCode_sound (tab_ok [R]) _ _ _ ?_
  simp only [Tryz.f54, go_sem, Nat.reduceEqDiff, Nat.reduceLT, Nat.reduceLeDiff, Nat.reduceAdd, Nat.reduceSub, Nat.reduceMul, Nat.reduceBEq, Nat.reduceBNe, Int.reduceEq, Int.reduceToNat, Int.reduceNeg, ↓reduceIte, reduceCtorEq, Nat.reduceDiv, Nat.reduceMod, Int.reduceLE, Int.reduceLT, Int.reduceSub, Int.reduceAdd]
  refine loop_intro (VWp_for [8, 9, 10, 11, 12, 13, 14, 15, 18, 19, 1, 20, 21, 22, 23, 24, 25, 26, 27, 28, 29, 30, 6, 31, 32, 33, 34, 35, 36, 37, 38, 39, 16, 17, 7] (fun x : Nat × Int => [(7, .val (.int .i64 x.1)), (1, .val (.int .i64 x.2))]) [] (fun _ => []) [] (fun _ => []) (fun _ => sh)
    (fun x => x.1 ≤ l.length ∧ leftEs (l.drop x.1) x.2 deep = leftEs l left deep) (fun x => l.length - x.1) (0, left) ⟨Nat.zero_le _, rfl⟩ (by refine ⟨rfl, rfl, rfl, .refl _ _, .refl _ _, .refl _ _, by repeat (first | trivial | rfl | refine ⟨?_, ?_⟩), by repeat (first | trivial | rfl | refine ⟨?_, ?_⟩), by repeat (first | trivial | rfl | refine ⟨?_, ?_⟩), by repeat (first | trivial | exact .inr rfl | exact .inl rfl | refine ⟨?_, ?_⟩), by repeat (first | trivial | exact .inr rfl | exact .inl rfl | refine ⟨?_, ?_⟩), by repeat (first | trivial | exact .inr rfl | exact .inl rfl | refine ⟨?_, ?_⟩), by repeat (first | trivial | exact .inr rfl | exact .inl rfl | refine ⟨?_, ?_⟩)⟩) ?_)
  rintro ⟨i, m⟩ ⟨hi, hne⟩
  refine vCode_sound (tab_ok [R]) _ _ _ ?_
  simp only [Tryz.f54, go_sem, Nat.reduceEqDiff, Nat.reduceLT, Nat.reduceLeDiff, Nat.reduceAdd, Nat.reduceSub, Nat.reduceMul, Nat.reduceBEq, Nat.reduceBNe, Int.reduceEq, Int.reduceToNat, Int.reduceNeg, ↓reduceIte, reduceCtorEq, Nat.reduceDiv, Nat.reduceMod, Int.reduceLE, Int.reduceLT, Int.reduceSub, Int.reduceAdd]
  repeat (first | intro _ | refine And.intro (by (intros; first | omega | (simp only [Bool.or_eq_false_iff, Bool.or_eq_true, decide_eq_false_iff_not, beq_iff_eq, Bool.and_eq_true, decide_eq_true_eq, Bool.not_eq_true'] at *; omega) | simp_all)) ?_)
  refine if_intro _ rfl trivial (fun h => ?_) (fun h => ?_)
  · simp only [Bool.and_eq_true, decide_eq_true_eq, Int.ofNat_lt] at h
    have hw : IntKind.i64.wrap ((i : Int) + 1) = ((i + 1 : Nat) : Int) := by rw [wrap64_id (by omega) (by omega)]; rfl
    have hi' := h.1
    simp only [Tryz.f54, go_sem, Nat.reduceEqDiff, Nat.reduceLT, Nat.reduceLeDiff, Nat.reduceAdd, Nat.reduceSub, Nat.reduceMul, Nat.reduceBEq, Nat.reduceBNe, Int.reduceEq, Int.reduceToNat, Int.reduceNeg, ↓reduceIte, reduceCtorEq, Nat.reduceDiv, Nat.reduceMod, Int.reduceLE, Int.reduceLT, Int.reduceSub, Int.reduceAdd, hi']
    repeat (first | intro _ | refine And.intro (by (intros; first | omega | (simp only [Bool.or_eq_false_iff, Bool.or_eq_true, decide_eq_false_iff_not, beq_iff_eq, Bool.and_eq_true, decide_eq_true_eq, Bool.not_eq_true'] at *; omega) | simp_all)) ?_)
    refine if_intro _ rfl trivial (fun h2 => ?_) (fun h2 => ?_)
    · simp only [Tryz.f54, go_sem, Nat.reduceEqDiff, Nat.reduceLT, Nat.reduceLeDiff, Nat.reduceAdd, Nat.reduceSub, Nat.reduceMul, Nat.reduceBEq, Nat.reduceBNe, Int.reduceEq, Int.reduceToNat, Int.reduceNeg, ↓reduceIte, reduceCtorEq, Nat.reduceDiv, Nat.reduceMod, Int.reduceLE, Int.reduceLT, Int.reduceSub, Int.reduceAdd]
      simp only at hne hi
      rw [← hne, drop_elm hi', leftEs, if_neg (by omega), leftE_eq, if_pos (by simpa using h2), leftEs_neg _ _ _ (by omega)]
    · simp only [Tryz.f54, go_sem, Nat.reduceEqDiff, Nat.reduceLT, Nat.reduceLeDiff, Nat.reduceAdd, Nat.reduceSub, Nat.reduceMul, Nat.reduceBEq, Nat.reduceBNe, Int.reduceEq, Int.reduceToNat, Int.reduceNeg, ↓reduceIte, reduceCtorEq, Nat.reduceDiv, Nat.reduceMod, Int.reduceLE, Int.reduceLT, Int.reduceSub, Int.reduceAdd, hR, hs, hi']
      repeat (first | intro _ | refine And.intro (by (intros; first | omega | (simp only [Bool.or_eq_false_iff, Bool.or_eq_true, decide_eq_false_iff_not, beq_iff_eq, Bool.and_eq_true, decide_eq_true_eq, Bool.not_eq_true'] at *; omega) | simp_all)) ?_)
      simp only [Tryz.f54, go_sem, Nat.reduceEqDiff, Nat.reduceLT, Nat.reduceLeDiff, Nat.reduceAdd, Nat.reduceSub, Nat.reduceMul, Nat.reduceBEq, Nat.reduceBNe, Int.reduceEq, Int.reduceToNat, Int.reduceNeg, ↓reduceIte, reduceCtorEq, Nat.reduceDiv, Nat.reduceMod, Int.reduceLE, Int.reduceLT, Int.reduceSub, Int.reduceAdd, hw]
      simp only at hne hi
      refine ⟨(i + 1, leftEs (elm l i).kids (IntKind.i64.wrap (m - 1)) (IntKind.i64.wrap (deep - 1))), ⟨hi', ?_⟩, ?_, ?_⟩
      · rw [← hne, drop_elm hi', leftEs, if_neg (by omega), leftE_eq, if_neg (by simpa using h2)]
      · show l.length - (i + 1) < l.length - i
        omega
      · refine ⟨rfl, rfl, rfl, by repeat (first | exact AgreeOff.refl _ _ | refine AgreeOff.upd rfl ?_ | refine AgreeOff.over rfl ?_), by repeat (first | exact AgreeOff.refl _ _ | refine AgreeOff.upd rfl ?_ | refine AgreeOff.over rfl ?_), by repeat (first | exact AgreeOff.refl _ _ | refine AgreeOff.upd rfl ?_ | refine AgreeOff.over rfl ?_), ?_, by repeat (first | trivial | exact .inr rfl | exact .inl rfl | refine ⟨?_, ?_⟩), by repeat (first | trivial | exact .inr rfl | exact .inl rfl | refine ⟨?_, ?_⟩), by repeat (first | trivial | exact .inr rfl | exact .inl rfl | refine ⟨?_, ?_⟩), by repeat (first | trivial | exact .inr rfl | exact .inl rfl | refine ⟨?_, ?_⟩), by repeat (first | trivial | exact .inr rfl | exact .inl rfl | refine ⟨?_, ?_⟩), by repeat (first | trivial | exact .inr rfl | exact .inl rfl | refine ⟨?_, ?_⟩)⟩
        exact ⟨rfl, rfl, trivial⟩
  · simp only [Bool.and_eq_false_iff, decide_eq_false_iff_not, Int.ofNat_lt] at h
    simp only [Tryz.f54, go_sem, Nat.reduceEqDiff, Nat.reduceLT, Nat.reduceLeDiff, Nat.reduceAdd, Nat.reduceSub, Nat.reduceMul, Nat.reduceBEq, Nat.reduceBNe, Int.reduceEq, Int.reduceToNat, Int.reduceNeg, ↓reduceIte, reduceCtorEq, Nat.reduceDiv, Nat.reduceMod, Int.reduceLE, Int.reduceLT, Int.reduceSub, Int.reduceAdd]
    simp only at hne hi
    rw [← hne]
    rcases h with h | h
    · rw [List.drop_eq_nil_of_le (by omega)]; rfl
    · rw [leftEs_neg _ _ _ (by omega)]
theorem leftEs_ind : ∀ (n : Nat) (l : List Ex) (left deep : Int), szEs l < n → VPure Tryz.prog G 54 [.slice (l.map encE), .val (.int .i64 left), .val (.int .i64 deep)] (.val (.int .i64 (leftEs l left deep)))
  | 0, _, _, _, h => by omega
  | n + 1, l, left, deep, h => leftExprs_step n (fun l left deep h => leftEs_ind n l left deep h) l left deep (by omega)
theorem leftExprs_c (l : List Ex) (left deep : Int) : VPure Tryz.prog G 54 [.slice (l.map encE), .val (.int .i64 left), .val (.int .i64 deep)] (.val (.int .i64 (leftEs l left deep))) := leftEs_ind (szEs l + 1) l left deep (by omega)
noncomputable def r13 : Rule Tryz.prog G := Rule.pure 54 ((List Ex) × (Int) × (Int)) (fun x => match x with | (l, left, deep) => [.slice (l.map encE), .val (.int .i64 left), .val (.int .i64 deep)]) (fun x => match x with | (l, left, deep) => .val (.int .i64 (leftEs l left deep))) (by rintro ⟨l1, left1, deep1⟩ ⟨l2, left2, deep2⟩ h; simp only [List.cons.injEq, PV.agg.injEq, PV.val.injEq, PV.slice.injEq, Value.int.injEq, Value.bool.injEq, Value.string.injEq, encE_iff, encEs_iff, encS_iff, encSs_iff, encT_iff, encF_iff, encP_iff, Int.natCast_inj, true_and, and_true] at h; simp only [h]) (fun ⟨l, left, deep⟩ => leftExprs_c l left deep)
theorem r13_at (tl : List (Rule Tryz.prog G)) (l : List Ex) (left : Int) (deep : Int) (sh : Sh) : tab (r13 :: tl) 54 [.slice (l.map encE), .val (.int .i64 left), .val (.int .i64 deep)] sh = some (.val (.int .i64 (leftEs l left deep)), sh) := by
  have this : tab (r13 :: tl) 54 [.slice (l.map encE), .val (.int .i64 left), .val (.int .i64 deep)] sh = some (.val (.int .i64 (leftEs l left deep)), sh) := tab_pure tl ((l, left, deep) : (List Ex) × (Int) × (Int)) sh
  exact this
theorem r13_skip (tl : List (Rule Tryz.prog G)) (f : FuncId) (args : List PV) (sh : Sh) (h : f ≠ 54) : tab (r13 :: tl) f args sh = tab tl f args sh := tab_skip _ tl f args sh h
end Go.Proofs.YtaackmiajgapoaaGreatDoor.V
