/- Names: what may be one. -/
import Derived.Test.YtaackmiajgapoaaGreatDoorAt
set_option maxHeartbeats 16000000
set_option maxRecDepth 100000
set_option linter.unusedSimpArgs false
set_option linter.unusedVariables false
namespace Go.Proofs.YtaackmiajgapoaaGreatDoor.V
open Go
variable {G : Nat → Option (List PV)}

def letterB (c : Int) : Bool := (decide (97 ≤ c) && decide (c ≤ 122)) || (decide (65 ≤ c) && decide (c ≤ 90))
def digitB (c : Int) : Bool := decide (48 ≤ c) && decide (c ≤ 57)

theorem letter_c (c : Int) : VPure Tryz.prog G 139 [.val (.int .u8 c)] (.val (.bool (letterB c))) := by
  refine VPure.of (.val _) fun sh => ?_
  refine VCalls_enter [] Tryz.func139 rfl (show 1 ≤ 17 by decide) ?_
  refine vCode_sound (tab_ok []) _ _ _ ?_
  simp +contextual only [Tryz.f139, go_sem, Nat.reduceEqDiff, Nat.reduceLT, Nat.reduceLeDiff, Nat.reduceAdd, Nat.reduceSub, Nat.reduceMul, Nat.reduceBEq, Nat.reduceBNe, Int.reduceEq, Int.reduceToNat, Int.reduceNeg, ↓reduceIte, reduceCtorEq, Nat.reduceDiv, Nat.reduceMod, Int.reduceLE, Int.reduceLT, Int.reduceSub, Int.reduceAdd, letterB]
noncomputable def r97 : Rule Tryz.prog G := Rule.pure 139 ((Int)) (fun c => [.val (.int .u8 c)]) (fun c => .val (.bool (letterB c))) (by rintro c1 c2 h; simp only [List.cons.injEq, PV.agg.injEq, PV.val.injEq, PV.slice.injEq, Value.int.injEq, Value.bool.injEq, Value.string.injEq, encE_iff, encEs_iff, encS_iff, encSs_iff, encT_iff, encF_iff, encP_iff, Int.natCast_inj, true_and, and_true] at h; simp only [h]) (fun c => letter_c c)
theorem r97_at (tl : List (Rule Tryz.prog G)) (c : Int) (sh : Sh) : tab (r97 :: tl) 139 [.val (.int .u8 c)] sh = some (.val (.bool (letterB c)), sh) := by
  have this : tab (r97 :: tl) 139 [.val (.int .u8 c)] sh = some (.val (.bool (letterB c)), sh) := tab_pure tl ((c) : (Int)) sh
  exact this
theorem r97_skip (tl : List (Rule Tryz.prog G)) (f : FuncId) (args : List PV) (sh : Sh) (h : f ≠ 139) : tab (r97 :: tl) f args sh = tab tl f args sh := tab_skip _ tl f args sh h
theorem digit_c (c : Int) : VPure Tryz.prog G 142 [.val (.int .u8 c)] (.val (.bool (digitB c))) := by
  refine VPure.of (.val _) fun sh => ?_
  refine VCalls_enter [] Tryz.func142 rfl (show 1 ≤ 9 by decide) ?_
  refine vCode_sound (tab_ok []) _ _ _ ?_
  simp +contextual only [Tryz.f142, go_sem, Nat.reduceEqDiff, Nat.reduceLT, Nat.reduceLeDiff, Nat.reduceAdd, Nat.reduceSub, Nat.reduceMul, Nat.reduceBEq, Nat.reduceBNe, Int.reduceEq, Int.reduceToNat, Int.reduceNeg, ↓reduceIte, reduceCtorEq, Nat.reduceDiv, Nat.reduceMod, Int.reduceLE, Int.reduceLT, Int.reduceSub, Int.reduceAdd, digitB]
noncomputable def r100 : Rule Tryz.prog G := Rule.pure 142 ((Int)) (fun c => [.val (.int .u8 c)]) (fun c => .val (.bool (digitB c))) (by rintro c1 c2 h; simp only [List.cons.injEq, PV.agg.injEq, PV.val.injEq, PV.slice.injEq, Value.int.injEq, Value.bool.injEq, Value.string.injEq, encE_iff, encEs_iff, encS_iff, encSs_iff, encT_iff, encF_iff, encP_iff, Int.natCast_inj, true_and, and_true] at h; simp only [h]) (fun c => digit_c c)
theorem r100_at (tl : List (Rule Tryz.prog G)) (c : Int) (sh : Sh) : tab (r100 :: tl) 142 [.val (.int .u8 c)] sh = some (.val (.bool (digitB c)), sh) := by
  have this : tab (r100 :: tl) 142 [.val (.int .u8 c)] sh = some (.val (.bool (digitB c)), sh) := tab_pure tl ((c) : (Int)) sh
  exact this
theorem r100_skip (tl : List (Rule Tryz.prog G)) (f : FuncId) (args : List PV) (sh : Sh) (h : f ≠ 142) : tab (r100 :: tl) f args sh = tab tl f args sh := tab_skip _ tl f args sh h

def inL (l : List ByteArray) (s : ByteArray) : Bool := l.any fun x => decide (x = s)
theorem inL_at {l : List ByteArray} {s : ByteArray} {i : Nat} (h : i < l.length) (e : elm l i = s) : inL l s = true := by
  unfold inL
  exact List.any_eq_true.2 ⟨l[i], List.getElem_mem h, by rw [← elm_eq h]; simpa using e⟩
theorem inL_none {l : List ByteArray} {s : ByteArray} (h : ∀ j, j < l.length → elm l j ≠ s) : inL l s = false := by
  unfold inL
  refine List.any_eq_false.2 fun x hx => ?_
  obtain ⟨j, hj, rfl⟩ := List.getElem_of_mem hx
  rw [← elm_eq hj]
  simpa using h j hj
/-- The words of the language. -/
def wordList : List ByteArray := [⟨#[118, 97, 114]⟩, ⟨#[97, 114, 114, 97, 121]⟩, ⟨#[102, 117, 110, 99]⟩, ⟨#[119, 111, 114, 100]⟩, ⟨#[105, 102]⟩, ⟨#[101, 108, 115, 101]⟩, ⟨#[119, 104, 105, 108, 101]⟩, ⟨#[114, 101, 116, 117, 114, 110]⟩, ⟨#[112, 117, 116]⟩, ⟨#[103, 101, 116]⟩]
theorem words_c : VPure Tryz.prog G 98 [] (.slice (encT wordList)) := by
  refine VPure.of (.slice _) fun sh => ?_
  refine VCalls_enter [] Tryz.func98 rfl (show 0 ≤ 2 by decide) ?_
  refine vCode_sound (tab_ok []) _ _ _ ?_
  simp +contextual only [Tryz.f98, go_sem, Nat.reduceEqDiff, Nat.reduceLT, Nat.reduceLeDiff, Nat.reduceAdd, Nat.reduceSub, Nat.reduceMul, Nat.reduceBEq, Nat.reduceBNe, Int.reduceEq, Int.reduceToNat, Int.reduceNeg, ↓reduceIte, reduceCtorEq, Nat.reduceDiv, Nat.reduceMod, Int.reduceLE, Int.reduceLT, Int.reduceSub, Int.reduceAdd]
  rfl
theorem words13_c : VPure Tryz.prog G 141 [] (.slice (encT wordList)) := by
  refine VPure.of (.slice _) fun sh => ?_
  refine VCalls_enter [] Tryz.func141 rfl (show 0 ≤ 2 by decide) ?_
  refine vCode_sound (tab_ok []) _ _ _ ?_
  simp +contextual only [Tryz.f141, go_sem, Nat.reduceEqDiff, Nat.reduceLT, Nat.reduceLeDiff, Nat.reduceAdd, Nat.reduceSub, Nat.reduceMul, Nat.reduceBEq, Nat.reduceBNe, Int.reduceEq, Int.reduceToNat, Int.reduceNeg, ↓reduceIte, reduceCtorEq, Nat.reduceDiv, Nat.reduceMod, Int.reduceLE, Int.reduceLT, Int.reduceSub, Int.reduceAdd]
  rfl
noncomputable def r61 : Rule Tryz.prog G := Rule.pure 98 (Unit) (fun _ => []) (fun _ => .slice (encT wordList)) (by rintro _ _ h; simp only [List.cons.injEq, PV.agg.injEq, PV.val.injEq, PV.slice.injEq, Value.int.injEq, Value.bool.injEq, Value.string.injEq, encE_iff, encEs_iff, encS_iff, encSs_iff, encT_iff, encF_iff, encP_iff, Int.natCast_inj, true_and, and_true] at h; simp only [h]) (fun _ => words_c )
theorem r61_at (tl : List (Rule Tryz.prog G))  (sh : Sh) : tab (r61 :: tl) 98 [] sh = some (.slice (encT wordList), sh) := by
  have this : tab (r61 :: tl) 98 [] sh = some (.slice (encT wordList), sh) := tab_pure tl (() : Unit) sh
  exact this
theorem r61_skip (tl : List (Rule Tryz.prog G)) (f : FuncId) (args : List PV) (sh : Sh) (h : f ≠ 98) : tab (r61 :: tl) f args sh = tab tl f args sh := tab_skip _ tl f args sh h
noncomputable def r99 : Rule Tryz.prog G := Rule.pure 141 (Unit) (fun _ => []) (fun _ => .slice (encT wordList)) (by rintro _ _ h; simp only [List.cons.injEq, PV.agg.injEq, PV.val.injEq, PV.slice.injEq, Value.int.injEq, Value.bool.injEq, Value.string.injEq, encE_iff, encEs_iff, encS_iff, encSs_iff, encT_iff, encF_iff, encP_iff, Int.natCast_inj, true_and, and_true] at h; simp only [h]) (fun _ => words13_c )
theorem r99_at (tl : List (Rule Tryz.prog G))  (sh : Sh) : tab (r99 :: tl) 141 [] sh = some (.slice (encT wordList), sh) := by
  have this : tab (r99 :: tl) 141 [] sh = some (.slice (encT wordList), sh) := tab_pure tl (() : Unit) sh
  exact this
theorem r99_skip (tl : List (Rule Tryz.prog G)) (f : FuncId) (args : List PV) (sh : Sh) (h : f ≠ 141) : tab (r99 :: tl) f args sh = tab tl f args sh := tab_skip _ tl f args sh h
theorem in_c (l : List ByteArray) (s : ByteArray) : VPure Tryz.prog G 140 [.slice (encT l), .val (.string s)] (.val (.bool (inL l s))) := by
  refine VPure.of (.val _) fun sh => ?_
  refine VCalls_enter [] Tryz.func140 rfl (show 2 ≤ 18 by decide) ?_
  refine vCode_sound (tab_ok []) _ _ _ ?_
  simp only [Tryz.f140, go_sem, Nat.reduceEqDiff, Nat.reduceLT, Nat.reduceLeDiff, Nat.reduceAdd, Nat.reduceSub, Nat.reduceMul, Nat.reduceBEq, Nat.reduceBNe, Int.reduceEq, Int.reduceToNat, Int.reduceNeg, ↓reduceIte, reduceCtorEq, Nat.reduceDiv, Nat.reduceMod, Int.reduceLE, Int.reduceLT, Int.reduceSub, Int.reduceAdd]
  refine loop_intro (VWp_for [6, 7, 8, 9, 12, 13, 14, 15, 16, 17, 4, 10, 11, 5] (fun i : Nat => [(5, .val (.int .i64 i))]) [] (fun _ => []) [] (fun _ => []) (fun _ => sh)
    (fun i => i ≤ l.length ∧ ∀ j, j < i → elm l j ≠ s) (fun i => l.length - i) 0 ⟨Nat.zero_le _, fun j h => by omega⟩ (by refine ⟨rfl, rfl, rfl, .refl _ _, .refl _ _, .refl _ _, by repeat (first | trivial | rfl | refine ⟨?_, ?_⟩), by repeat (first | trivial | rfl | refine ⟨?_, ?_⟩), by repeat (first | trivial | rfl | refine ⟨?_, ?_⟩), by repeat (first | trivial | exact .inr rfl | exact .inl rfl | refine ⟨?_, ?_⟩), by repeat (first | trivial | exact .inr rfl | exact .inl rfl | refine ⟨?_, ?_⟩), by repeat (first | trivial | exact .inr rfl | exact .inl rfl | refine ⟨?_, ?_⟩), by repeat (first | trivial | exact .inr rfl | exact .inl rfl | refine ⟨?_, ?_⟩)⟩) ?_)
  rintro i ⟨hi, hne⟩
  refine vCode_sound (tab_ok []) _ _ _ ?_
  simp only [Tryz.f140, go_sem, Nat.reduceEqDiff, Nat.reduceLT, Nat.reduceLeDiff, Nat.reduceAdd, Nat.reduceSub, Nat.reduceMul, Nat.reduceBEq, Nat.reduceBNe, Int.reduceEq, Int.reduceToNat, Int.reduceNeg, ↓reduceIte, reduceCtorEq, Nat.reduceDiv, Nat.reduceMod, Int.reduceLE, Int.reduceLT, Int.reduceSub, Int.reduceAdd]
  repeat (first | intro _ | refine And.intro (by (intros; first | omega | (simp only [Bool.or_eq_false_iff, Bool.or_eq_true, decide_eq_false_iff_not, beq_iff_eq, Bool.and_eq_true, decide_eq_true_eq, Bool.not_eq_true'] at *; omega) | simp_all)) ?_)
  refine if_intro _ rfl trivial (fun h => ?_) (fun h => ?_)
  · simp only [decide_eq_true_eq, Int.ofNat_lt] at h
    simp only [Tryz.f140, go_sem, Nat.reduceEqDiff, Nat.reduceLT, Nat.reduceLeDiff, Nat.reduceAdd, Nat.reduceSub, Nat.reduceMul, Nat.reduceBEq, Nat.reduceBNe, Int.reduceEq, Int.reduceToNat, Int.reduceNeg, ↓reduceIte, reduceCtorEq, Nat.reduceDiv, Nat.reduceMod, Int.reduceLE, Int.reduceLT, Int.reduceSub, Int.reduceAdd, h]
    refine if_intro _ rfl trivial (fun h2 => ?_) (fun h2 => ?_)
    · simp only [decide_eq_true_eq] at h2
      simp only [Tryz.f140, go_sem, Nat.reduceEqDiff, Nat.reduceLT, Nat.reduceLeDiff, Nat.reduceAdd, Nat.reduceSub, Nat.reduceMul, Nat.reduceBEq, Nat.reduceBNe, Int.reduceEq, Int.reduceToNat, Int.reduceNeg, ↓reduceIte, reduceCtorEq, Nat.reduceDiv, Nat.reduceMod, Int.reduceLE, Int.reduceLT, Int.reduceSub, Int.reduceAdd]
      exact (inL_at h h2).symm
    · simp only [decide_eq_false_iff_not] at h2
      simp only [Tryz.f140, go_sem, Nat.reduceEqDiff, Nat.reduceLT, Nat.reduceLeDiff, Nat.reduceAdd, Nat.reduceSub, Nat.reduceMul, Nat.reduceBEq, Nat.reduceBNe, Int.reduceEq, Int.reduceToNat, Int.reduceNeg, ↓reduceIte, reduceCtorEq, Nat.reduceDiv, Nat.reduceMod, Int.reduceLE, Int.reduceLT, Int.reduceSub, Int.reduceAdd]
      refine ⟨i + 1, ⟨h, fun j hj => ?_⟩, by omega, ?_⟩
      · by_cases e : j = i
        · subst e; exact h2
        · exact hne j (by omega)
      · refine ⟨rfl, rfl, rfl, by repeat (first | exact AgreeOff.refl _ _ | refine AgreeOff.upd rfl ?_ | refine AgreeOff.over rfl ?_), by repeat (first | exact AgreeOff.refl _ _ | refine AgreeOff.upd rfl ?_ | refine AgreeOff.over rfl ?_), by repeat (first | exact AgreeOff.refl _ _ | refine AgreeOff.upd rfl ?_ | refine AgreeOff.over rfl ?_), ?_, by repeat (first | trivial | exact .inr rfl | exact .inl rfl | refine ⟨?_, ?_⟩), by repeat (first | trivial | exact .inr rfl | exact .inl rfl | refine ⟨?_, ?_⟩), by repeat (first | trivial | exact .inr rfl | exact .inl rfl | refine ⟨?_, ?_⟩), by repeat (first | trivial | exact .inr rfl | exact .inl rfl | refine ⟨?_, ?_⟩), by repeat (first | trivial | exact .inr rfl | exact .inl rfl | refine ⟨?_, ?_⟩), by repeat (first | trivial | exact .inr rfl | exact .inl rfl | refine ⟨?_, ?_⟩)⟩
        exact ⟨by rw [wrap64_id (by omega) (by omega)]; rfl, trivial⟩
  · simp only [decide_eq_false_iff_not, Int.ofNat_lt] at h
    simp only [Tryz.f140, go_sem, Nat.reduceEqDiff, Nat.reduceLT, Nat.reduceLeDiff, Nat.reduceAdd, Nat.reduceSub, Nat.reduceMul, Nat.reduceBEq, Nat.reduceBNe, Int.reduceEq, Int.reduceToNat, Int.reduceNeg, ↓reduceIte, reduceCtorEq, Nat.reduceDiv, Nat.reduceMod, Int.reduceLE, Int.reduceLT, Int.reduceSub, Int.reduceAdd]
    exact (inL_none fun j hj => hne j (by omega)).symm
noncomputable def r98 : Rule Tryz.prog G := Rule.pure 140 ((List ByteArray) × (ByteArray)) (fun x => match x with | (l, s) => [.slice (encT l), .val (.string s)]) (fun x => match x with | (l, s) => .val (.bool (inL l s))) (by rintro ⟨l1, s1⟩ ⟨l2, s2⟩ h; simp only [List.cons.injEq, PV.agg.injEq, PV.val.injEq, PV.slice.injEq, Value.int.injEq, Value.bool.injEq, Value.string.injEq, encE_iff, encEs_iff, encS_iff, encSs_iff, encT_iff, encF_iff, encP_iff, Int.natCast_inj, true_and, and_true] at h; simp only [h]) (fun ⟨l, s⟩ => in_c l s)
theorem r98_at (tl : List (Rule Tryz.prog G)) (l : List ByteArray) (s : ByteArray) (sh : Sh) : tab (r98 :: tl) 140 [.slice (encT l), .val (.string s)] sh = some (.val (.bool (inL l s)), sh) := by
  have this : tab (r98 :: tl) 140 [.slice (encT l), .val (.string s)] sh = some (.val (.bool (inL l s)), sh) := tab_pure tl ((l, s) : (List ByteArray) × (ByteArray)) sh
  exact this
theorem r98_skip (tl : List (Rule Tryz.prog G)) (f : FuncId) (args : List PV) (sh : Sh) (h : f ≠ 140) : tab (r98 :: tl) f args sh = tab tl f args sh := tab_skip _ tl f args sh h

def innerB (c : Int) : Bool := letterB c || digitB c || decide (c = 95)
def nameB (s : ByteArray) : Bool := decide (0 < s.size) && decide (s.size ≤ 20) && letterB (byteAt s 0) && !inL wordList s && (List.range s.size).all fun i => innerB (byteAt s i)
theorem name13_c (s : ByteArray) : VPure Tryz.prog G 99 [.val (.string s)] (.val (.bool (nameB s))) := by
  refine VPure.of (.val _) fun sh => ?_
  refine VCalls_enter [] Tryz.func99 rfl (show 1 ≤ 47 by decide) ?_
  refine vCode_sound (tab_ok [r97, r98, r99, r100]) _ _ _ ?_
  simp only [Tryz.f99, go_sem, Nat.reduceEqDiff, Nat.reduceLT, Nat.reduceLeDiff, Nat.reduceAdd, Nat.reduceSub, Nat.reduceMul, Nat.reduceBEq, Nat.reduceBNe, Int.reduceEq, Int.reduceToNat, Int.reduceNeg, ↓reduceIte, reduceCtorEq, Nat.reduceDiv, Nat.reduceMod, Int.reduceLE, Int.reduceLT, Int.reduceSub, Int.reduceAdd, r97_at, r97_skip, r98_at, r98_skip, r99_at, r99_skip, r100_at, r100_skip]
  repeat (first | intro _ | refine And.intro (by (intros; first | omega | (simp only [Bool.or_eq_false_iff, Bool.or_eq_true, decide_eq_false_iff_not, beq_iff_eq, Bool.and_eq_true, decide_eq_true_eq, Bool.not_eq_true'] at *; omega) | simp_all)) ?_)
  refine if_intro _ rfl trivial (fun h => ?_) (fun h => ?_)
  · simp only [Tryz.f99, go_sem, Nat.reduceEqDiff, Nat.reduceLT, Nat.reduceLeDiff, Nat.reduceAdd, Nat.reduceSub, Nat.reduceMul, Nat.reduceBEq, Nat.reduceBNe, Int.reduceEq, Int.reduceToNat, Int.reduceNeg, ↓reduceIte, reduceCtorEq, Nat.reduceDiv, Nat.reduceMod, Int.reduceLE, Int.reduceLT, Int.reduceSub, Int.reduceAdd]
    unfold nameB
    simp only [Bool.or_eq_true, decide_eq_true_eq, Bool.not_eq_true'] at h
    rcases h with ((h | h) | h) | h
    · rw [decide_eq_false (show ¬ 0 < s.size by omega)]; rfl
    · rw [decide_eq_false (show ¬ s.size ≤ 20 by omega)]; simp
    · rw [h]; simp
    · rw [h]; simp
  · simp only [Tryz.f99, go_sem, Nat.reduceEqDiff, Nat.reduceLT, Nat.reduceLeDiff, Nat.reduceAdd, Nat.reduceSub, Nat.reduceMul, Nat.reduceBEq, Nat.reduceBNe, Int.reduceEq, Int.reduceToNat, Int.reduceNeg, ↓reduceIte, reduceCtorEq, Nat.reduceDiv, Nat.reduceMod, Int.reduceLE, Int.reduceLT, Int.reduceSub, Int.reduceAdd]
    refine loop_intro (VWp_for [23, 24, 25, 26, 29, 30, 31, 32, 33, 34, 35, 36, 37, 38, 39, 40, 41, 42, 43, 44, 45, 46, 2, 27, 28, 3] (fun i : Nat => [(3, .val (.int .i64 i))]) [] (fun _ => []) [] (fun _ => []) (fun _ => sh)
      (fun i => i ≤ s.size ∧ ∀ j : Nat, j < i → innerB (byteAt s j) = true) (fun i => s.size - i) 0 ⟨Nat.zero_le _, fun j h => by omega⟩ (by refine ⟨rfl, rfl, rfl, .refl _ _, .refl _ _, .refl _ _, by repeat (first | trivial | rfl | refine ⟨?_, ?_⟩), by repeat (first | trivial | rfl | refine ⟨?_, ?_⟩), by repeat (first | trivial | rfl | refine ⟨?_, ?_⟩), by repeat (first | trivial | exact .inr rfl | exact .inl rfl | refine ⟨?_, ?_⟩), by repeat (first | trivial | exact .inr rfl | exact .inl rfl | refine ⟨?_, ?_⟩), by repeat (first | trivial | exact .inr rfl | exact .inl rfl | refine ⟨?_, ?_⟩), by repeat (first | trivial | exact .inr rfl | exact .inl rfl | refine ⟨?_, ?_⟩)⟩) ?_)
    rintro i ⟨hi, hne⟩
    refine vCode_sound (tab_ok [r97, r98, r99, r100]) _ _ _ ?_
    simp only [Tryz.f99, go_sem, Nat.reduceEqDiff, Nat.reduceLT, Nat.reduceLeDiff, Nat.reduceAdd, Nat.reduceSub, Nat.reduceMul, Nat.reduceBEq, Nat.reduceBNe, Int.reduceEq, Int.reduceToNat, Int.reduceNeg, ↓reduceIte, reduceCtorEq, Nat.reduceDiv, Nat.reduceMod, Int.reduceLE, Int.reduceLT, Int.reduceSub, Int.reduceAdd]
    repeat (first | intro _ | refine And.intro (by (intros; first | omega | (simp only [Bool.or_eq_false_iff, Bool.or_eq_true, decide_eq_false_iff_not, beq_iff_eq, Bool.and_eq_true, decide_eq_true_eq, Bool.not_eq_true'] at *; omega) | simp_all)) ?_)
    refine if_intro _ rfl trivial (fun h1 => ?_) (fun h1 => ?_)
    · simp only [decide_eq_true_eq, Int.ofNat_lt] at h1
      simp only [Tryz.f99, go_sem, Nat.reduceEqDiff, Nat.reduceLT, Nat.reduceLeDiff, Nat.reduceAdd, Nat.reduceSub, Nat.reduceMul, Nat.reduceBEq, Nat.reduceBNe, Int.reduceEq, Int.reduceToNat, Int.reduceNeg, ↓reduceIte, reduceCtorEq, Nat.reduceDiv, Nat.reduceMod, Int.reduceLE, Int.reduceLT, Int.reduceSub, Int.reduceAdd, r97_at, r97_skip, r98_at, r98_skip, r99_at, r99_skip, r100_at, r100_skip, h1]
      repeat (first | intro _ | refine And.intro (by (intros; first | omega | (simp only [Bool.or_eq_false_iff, Bool.or_eq_true, decide_eq_false_iff_not, beq_iff_eq, Bool.and_eq_true, decide_eq_true_eq, Bool.not_eq_true'] at *; omega) | simp_all)) ?_)
      refine if_intro _ rfl trivial (fun h2 => ?_) (fun h2 => ?_)
      · simp only [Tryz.f99, go_sem, Nat.reduceEqDiff, Nat.reduceLT, Nat.reduceLeDiff, Nat.reduceAdd, Nat.reduceSub, Nat.reduceMul, Nat.reduceBEq, Nat.reduceBNe, Int.reduceEq, Int.reduceToNat, Int.reduceNeg, ↓reduceIte, reduceCtorEq, Nat.reduceDiv, Nat.reduceMod, Int.reduceLE, Int.reduceLT, Int.reduceSub, Int.reduceAdd]
        have hf : innerB (byteAt s i) = false := by
          unfold innerB
          simp only [Bool.and_eq_true, Bool.not_eq_true', decide_eq_false_iff_not] at h2
          rw [h2.1.1, h2.1.2, decide_eq_false (by omega)]; rfl
        unfold nameB
        rw [show (List.range s.size).all (fun i => innerB (byteAt s i)) = false from List.all_eq_false.2 ⟨i, by simpa using h1, by simp [hf]⟩]
        simp
      · simp only [Tryz.f99, go_sem, Nat.reduceEqDiff, Nat.reduceLT, Nat.reduceLeDiff, Nat.reduceAdd, Nat.reduceSub, Nat.reduceMul, Nat.reduceBEq, Nat.reduceBNe, Int.reduceEq, Int.reduceToNat, Int.reduceNeg, ↓reduceIte, reduceCtorEq, Nat.reduceDiv, Nat.reduceMod, Int.reduceLE, Int.reduceLT, Int.reduceSub, Int.reduceAdd]
        have hf : innerB (byteAt s i) = true := by
          unfold innerB
          cases hl : letterB (byteAt s i) <;> cases hd : digitB (byteAt s i) <;> simp [hl, hd] at h2 ⊢
          omega
        refine ⟨i + 1, ⟨h1, fun j hj => ?_⟩, by omega, ?_⟩
        · by_cases e : j = i
          · subst e; exact hf
          · exact hne j (by omega)
        · refine ⟨rfl, rfl, rfl, by repeat (first | exact AgreeOff.refl _ _ | refine AgreeOff.upd rfl ?_ | refine AgreeOff.over rfl ?_), by repeat (first | exact AgreeOff.refl _ _ | refine AgreeOff.upd rfl ?_ | refine AgreeOff.over rfl ?_), by repeat (first | exact AgreeOff.refl _ _ | refine AgreeOff.upd rfl ?_ | refine AgreeOff.over rfl ?_), ?_, by repeat (first | trivial | exact .inr rfl | exact .inl rfl | refine ⟨?_, ?_⟩), by repeat (first | trivial | exact .inr rfl | exact .inl rfl | refine ⟨?_, ?_⟩), by repeat (first | trivial | exact .inr rfl | exact .inl rfl | refine ⟨?_, ?_⟩), by repeat (first | trivial | exact .inr rfl | exact .inl rfl | refine ⟨?_, ?_⟩), by repeat (first | trivial | exact .inr rfl | exact .inl rfl | refine ⟨?_, ?_⟩), by repeat (first | trivial | exact .inr rfl | exact .inl rfl | refine ⟨?_, ?_⟩)⟩
          exact ⟨by rw [wrap64_id (by omega) (by omega)]; rfl, trivial⟩
    · simp only [decide_eq_false_iff_not, Int.ofNat_lt] at h1
      simp only [Tryz.f99, go_sem, Nat.reduceEqDiff, Nat.reduceLT, Nat.reduceLeDiff, Nat.reduceAdd, Nat.reduceSub, Nat.reduceMul, Nat.reduceBEq, Nat.reduceBNe, Int.reduceEq, Int.reduceToNat, Int.reduceNeg, ↓reduceIte, reduceCtorEq, Nat.reduceDiv, Nat.reduceMod, Int.reduceLE, Int.reduceLT, Int.reduceSub, Int.reduceAdd]
      have hs : (List.range s.size).all (fun i => innerB (byteAt s i)) = true := List.all_eq_true.2 fun j hj => hne j (by simp at hj; omega)
      unfold nameB
      rw [hs]
      simp only [Bool.or_eq_false_iff, decide_eq_false_iff_not, Bool.not_eq_false'] at h
      rw [h.1.2, h.2, decide_eq_true (show 0 < s.size by omega), decide_eq_true (show s.size ≤ 20 by omega)]
      rfl
noncomputable def r62 : Rule Tryz.prog G := Rule.pure 99 ((ByteArray)) (fun s => [.val (.string s)]) (fun s => .val (.bool (nameB s))) (by rintro s1 s2 h; simp only [List.cons.injEq, PV.agg.injEq, PV.val.injEq, PV.slice.injEq, Value.int.injEq, Value.bool.injEq, Value.string.injEq, encE_iff, encEs_iff, encS_iff, encSs_iff, encT_iff, encF_iff, encP_iff, Int.natCast_inj, true_and, and_true] at h; simp only [h]) (fun s => name13_c s)
theorem r62_at (tl : List (Rule Tryz.prog G)) (s : ByteArray) (sh : Sh) : tab (r62 :: tl) 99 [.val (.string s)] sh = some (.val (.bool (nameB s)), sh) := by
  have this : tab (r62 :: tl) 99 [.val (.string s)] sh = some (.val (.bool (nameB s)), sh) := tab_pure tl ((s) : (ByteArray)) sh
  exact this
theorem r62_skip (tl : List (Rule Tryz.prog G)) (f : FuncId) (args : List PV) (sh : Sh) (h : f ≠ 99) : tab (r62 :: tl) f args sh = tab tl f args sh := tab_skip _ tl f args sh h

theorem isName_c (s : ByteArray) : VPure Tryz.prog G 62 [.val (.string s)] (.val (.bool (nameB s))) := by
  refine VPure.of (.val _) fun sh => ?_
  refine VCalls_enter [] Tryz.func62 rfl (show 1 ≤ 20 by decide) ?_
  refine vCode_sound (tab_ok [r61, r62]) _ _ _ ?_
  simp only [Tryz.f62, go_sem, Nat.reduceEqDiff, Nat.reduceLT, Nat.reduceLeDiff, Nat.reduceAdd, Nat.reduceSub, Nat.reduceMul, Nat.reduceBEq, Nat.reduceBNe, Int.reduceEq, Int.reduceToNat, Int.reduceNeg, ↓reduceIte, reduceCtorEq, Nat.reduceDiv, Nat.reduceMod, Int.reduceLE, Int.reduceLT, Int.reduceSub, Int.reduceAdd, r61_at, r61_skip, r62_at, r62_skip]
  refine loop_intro (VWp_for [6, 7, 8, 9, 12, 13, 14, 15, 16, 17, 2, 10, 11, 4] (fun i : Nat => [(4, .val (.int .i64 i))]) [] (fun _ => []) [] (fun _ => []) (fun _ => sh)
    (fun i => i ≤ wordList.length ∧ ∀ j, j < i → elm wordList j ≠ s) (fun i => wordList.length - i) 0 ⟨Nat.zero_le _, fun j h => by omega⟩ (by refine ⟨rfl, rfl, rfl, .refl _ _, .refl _ _, .refl _ _, by repeat (first | trivial | rfl | refine ⟨?_, ?_⟩), by repeat (first | trivial | rfl | refine ⟨?_, ?_⟩), by repeat (first | trivial | rfl | refine ⟨?_, ?_⟩), by repeat (first | trivial | exact .inr rfl | exact .inl rfl | refine ⟨?_, ?_⟩), by repeat (first | trivial | exact .inr rfl | exact .inl rfl | refine ⟨?_, ?_⟩), by repeat (first | trivial | exact .inr rfl | exact .inl rfl | refine ⟨?_, ?_⟩), by repeat (first | trivial | exact .inr rfl | exact .inl rfl | refine ⟨?_, ?_⟩)⟩) ?_)
  rintro i ⟨hi, hne⟩
  refine vCode_sound (tab_ok [r61, r62]) _ _ _ ?_
  simp only [Tryz.f62, go_sem, Nat.reduceEqDiff, Nat.reduceLT, Nat.reduceLeDiff, Nat.reduceAdd, Nat.reduceSub, Nat.reduceMul, Nat.reduceBEq, Nat.reduceBNe, Int.reduceEq, Int.reduceToNat, Int.reduceNeg, ↓reduceIte, reduceCtorEq, Nat.reduceDiv, Nat.reduceMod, Int.reduceLE, Int.reduceLT, Int.reduceSub, Int.reduceAdd]
  repeat (first | intro _ | refine And.intro (by (intros; first | omega | (simp only [Bool.or_eq_false_iff, Bool.or_eq_true, decide_eq_false_iff_not, beq_iff_eq, Bool.and_eq_true, decide_eq_true_eq, Bool.not_eq_true'] at *; omega) | simp_all)) ?_)
  refine if_intro _ rfl trivial (fun h => ?_) (fun h => ?_)
  · simp only [decide_eq_true_eq, Int.ofNat_lt] at h
    simp only [Tryz.f62, go_sem, Nat.reduceEqDiff, Nat.reduceLT, Nat.reduceLeDiff, Nat.reduceAdd, Nat.reduceSub, Nat.reduceMul, Nat.reduceBEq, Nat.reduceBNe, Int.reduceEq, Int.reduceToNat, Int.reduceNeg, ↓reduceIte, reduceCtorEq, Nat.reduceDiv, Nat.reduceMod, Int.reduceLE, Int.reduceLT, Int.reduceSub, Int.reduceAdd, h]
    refine if_intro _ rfl trivial (fun h2 => ?_) (fun h2 => ?_)
    · simp only [decide_eq_true_eq] at h2
      simp only [Tryz.f62, go_sem, Nat.reduceEqDiff, Nat.reduceLT, Nat.reduceLeDiff, Nat.reduceAdd, Nat.reduceSub, Nat.reduceMul, Nat.reduceBEq, Nat.reduceBNe, Int.reduceEq, Int.reduceToNat, Int.reduceNeg, ↓reduceIte, reduceCtorEq, Nat.reduceDiv, Nat.reduceMod, Int.reduceLE, Int.reduceLT, Int.reduceSub, Int.reduceAdd]
      unfold nameB
      rw [inL_at h h2.symm]
      simp
    · simp only [decide_eq_false_iff_not] at h2
      simp only [Tryz.f62, go_sem, Nat.reduceEqDiff, Nat.reduceLT, Nat.reduceLeDiff, Nat.reduceAdd, Nat.reduceSub, Nat.reduceMul, Nat.reduceBEq, Nat.reduceBNe, Int.reduceEq, Int.reduceToNat, Int.reduceNeg, ↓reduceIte, reduceCtorEq, Nat.reduceDiv, Nat.reduceMod, Int.reduceLE, Int.reduceLT, Int.reduceSub, Int.reduceAdd]
      refine ⟨i + 1, ⟨h, fun j hj => ?_⟩, by omega, ?_⟩
      · by_cases e : j = i
        · subst e; exact fun h => h2 h.symm
        · exact hne j (by omega)
      · refine ⟨rfl, rfl, rfl, by repeat (first | exact AgreeOff.refl _ _ | refine AgreeOff.upd rfl ?_ | refine AgreeOff.over rfl ?_), by repeat (first | exact AgreeOff.refl _ _ | refine AgreeOff.upd rfl ?_ | refine AgreeOff.over rfl ?_), by repeat (first | exact AgreeOff.refl _ _ | refine AgreeOff.upd rfl ?_ | refine AgreeOff.over rfl ?_), ?_, by repeat (first | trivial | exact .inr rfl | exact .inl rfl | refine ⟨?_, ?_⟩), by repeat (first | trivial | exact .inr rfl | exact .inl rfl | refine ⟨?_, ?_⟩), by repeat (first | trivial | exact .inr rfl | exact .inl rfl | refine ⟨?_, ?_⟩), by repeat (first | trivial | exact .inr rfl | exact .inl rfl | refine ⟨?_, ?_⟩), by repeat (first | trivial | exact .inr rfl | exact .inl rfl | refine ⟨?_, ?_⟩), by repeat (first | trivial | exact .inr rfl | exact .inl rfl | refine ⟨?_, ?_⟩)⟩
        exact ⟨by rw [wrap64_id (by omega) (by omega)]; rfl, trivial⟩
  · simp only [decide_eq_false_iff_not, Int.ofNat_lt] at h
    simp only [Tryz.f62, go_sem, Nat.reduceEqDiff, Nat.reduceLT, Nat.reduceLeDiff, Nat.reduceAdd, Nat.reduceSub, Nat.reduceMul, Nat.reduceBEq, Nat.reduceBNe, Int.reduceEq, Int.reduceToNat, Int.reduceNeg, ↓reduceIte, reduceCtorEq, Nat.reduceDiv, Nat.reduceMod, Int.reduceLE, Int.reduceLT, Int.reduceSub, Int.reduceAdd, r61_at, r61_skip, r62_at, r62_skip]
noncomputable def r31 : Rule Tryz.prog G := Rule.pure 62 ((ByteArray)) (fun s => [.val (.string s)]) (fun s => .val (.bool (nameB s))) (by rintro s1 s2 h; simp only [List.cons.injEq, PV.agg.injEq, PV.val.injEq, PV.slice.injEq, Value.int.injEq, Value.bool.injEq, Value.string.injEq, encE_iff, encEs_iff, encS_iff, encSs_iff, encT_iff, encF_iff, encP_iff, Int.natCast_inj, true_and, and_true] at h; simp only [h]) (fun s => isName_c s)
theorem r31_at (tl : List (Rule Tryz.prog G)) (s : ByteArray) (sh : Sh) : tab (r31 :: tl) 62 [.val (.string s)] sh = some (.val (.bool (nameB s)), sh) := by
  have this : tab (r31 :: tl) 62 [.val (.string s)] sh = some (.val (.bool (nameB s)), sh) := tab_pure tl ((s) : (ByteArray)) sh
  exact this
theorem r31_skip (tl : List (Rule Tryz.prog G)) (f : FuncId) (args : List PV) (sh : Sh) (h : f ≠ 62) : tab (r31 :: tl) f args sh = tab tl f args sh := tab_skip _ tl f args sh h

theorem names_c (l : List ByteArray) : VPure Tryz.prog G 61 [.slice (encT l)] (.val (.bool (l.all nameB))) := by
  refine VPure.of (.val _) fun sh => ?_
  refine VCalls_enter [] Tryz.func61 rfl (show 1 ≤ 16 by decide) ?_
  refine vCode_sound (tab_ok [r31]) _ _ _ ?_
  simp only [Tryz.f61, go_sem, Nat.reduceEqDiff, Nat.reduceLT, Nat.reduceLeDiff, Nat.reduceAdd, Nat.reduceSub, Nat.reduceMul, Nat.reduceBEq, Nat.reduceBNe, Int.reduceEq, Int.reduceToNat, Int.reduceNeg, ↓reduceIte, reduceCtorEq, Nat.reduceDiv, Nat.reduceMod, Int.reduceLE, Int.reduceLT, Int.reduceSub, Int.reduceAdd, r31_at, r31_skip]
  refine loop_intro (VWp_for [4, 5, 6, 7, 10, 11, 12, 13, 14, 15, 2, 8, 9, 3] (fun i : Nat => [(3, .val (.int .i64 i))]) [] (fun _ => []) [] (fun _ => []) (fun _ => sh)
    (fun i => i ≤ l.length ∧ ∀ j, j < i → nameB (elm l j) = true) (fun i => l.length - i) 0 ⟨Nat.zero_le _, fun j h => by omega⟩ (by refine ⟨rfl, rfl, rfl, .refl _ _, .refl _ _, .refl _ _, by repeat (first | trivial | rfl | refine ⟨?_, ?_⟩), by repeat (first | trivial | rfl | refine ⟨?_, ?_⟩), by repeat (first | trivial | rfl | refine ⟨?_, ?_⟩), by repeat (first | trivial | exact .inr rfl | exact .inl rfl | refine ⟨?_, ?_⟩), by repeat (first | trivial | exact .inr rfl | exact .inl rfl | refine ⟨?_, ?_⟩), by repeat (first | trivial | exact .inr rfl | exact .inl rfl | refine ⟨?_, ?_⟩), by repeat (first | trivial | exact .inr rfl | exact .inl rfl | refine ⟨?_, ?_⟩)⟩) ?_)
  rintro i ⟨hi, hne⟩
  refine vCode_sound (tab_ok [r31]) _ _ _ ?_
  simp only [Tryz.f61, go_sem, Nat.reduceEqDiff, Nat.reduceLT, Nat.reduceLeDiff, Nat.reduceAdd, Nat.reduceSub, Nat.reduceMul, Nat.reduceBEq, Nat.reduceBNe, Int.reduceEq, Int.reduceToNat, Int.reduceNeg, ↓reduceIte, reduceCtorEq, Nat.reduceDiv, Nat.reduceMod, Int.reduceLE, Int.reduceLT, Int.reduceSub, Int.reduceAdd]
  repeat (first | intro _ | refine And.intro (by (intros; first | omega | (simp only [Bool.or_eq_false_iff, Bool.or_eq_true, decide_eq_false_iff_not, beq_iff_eq, Bool.and_eq_true, decide_eq_true_eq, Bool.not_eq_true'] at *; omega) | simp_all)) ?_)
  refine if_intro _ rfl trivial (fun h => ?_) (fun h => ?_)
  · simp only [decide_eq_true_eq, Int.ofNat_lt] at h
    have hfin : ∀ b, b = nameB (elm l i) → (b = false → l.all nameB = false) ∧ (b = true → ∀ j, j < i + 1 → nameB (elm l j) = true) := fun b hb => ⟨fun e => all_at h (by rw [← hb, e]), fun e j hj => by
      by_cases e' : j = i
      · subst e'; rw [← hb, e]
      · exact hne j (by omega)⟩
    have hw : IntKind.i64.wrap ((i : Int) + 1) = ((i + 1 : Nat) : Int) := by rw [wrap64_id (by omega) (by omega)]; rfl
    simp only [Tryz.f61, go_sem, Nat.reduceEqDiff, Nat.reduceLT, Nat.reduceLeDiff, Nat.reduceAdd, Nat.reduceSub, Nat.reduceMul, Nat.reduceBEq, Nat.reduceBNe, Int.reduceEq, Int.reduceToNat, Int.reduceNeg, ↓reduceIte, reduceCtorEq, Nat.reduceDiv, Nat.reduceMod, Int.reduceLE, Int.reduceLT, Int.reduceSub, Int.reduceAdd, r31_at, r31_skip, h]
    repeat (first | intro _ | refine And.intro (by (intros; first | omega | (simp only [Bool.or_eq_false_iff, Bool.or_eq_true, decide_eq_false_iff_not, beq_iff_eq, Bool.and_eq_true, decide_eq_true_eq, Bool.not_eq_true'] at *; omega) | simp_all)) ?_)
    refine if_intro _ rfl trivial (fun h2 => ?_) (fun h2 => ?_)
    · simp only [Tryz.f61, go_sem, Nat.reduceEqDiff, Nat.reduceLT, Nat.reduceLeDiff, Nat.reduceAdd, Nat.reduceSub, Nat.reduceMul, Nat.reduceBEq, Nat.reduceBNe, Int.reduceEq, Int.reduceToNat, Int.reduceNeg, ↓reduceIte, reduceCtorEq, Nat.reduceDiv, Nat.reduceMod, Int.reduceLE, Int.reduceLT, Int.reduceSub, Int.reduceAdd]
      exact ((hfin _ rfl).1 (by simpa using h2)).symm
    · simp only [Tryz.f61, go_sem, Nat.reduceEqDiff, Nat.reduceLT, Nat.reduceLeDiff, Nat.reduceAdd, Nat.reduceSub, Nat.reduceMul, Nat.reduceBEq, Nat.reduceBNe, Int.reduceEq, Int.reduceToNat, Int.reduceNeg, ↓reduceIte, reduceCtorEq, Nat.reduceDiv, Nat.reduceMod, Int.reduceLE, Int.reduceLT, Int.reduceSub, Int.reduceAdd, hw]
      refine ⟨i + 1, ⟨h, (hfin _ rfl).2 (by simpa using h2)⟩, by omega, ?_⟩
      refine ⟨rfl, rfl, rfl, by repeat (first | exact AgreeOff.refl _ _ | refine AgreeOff.upd rfl ?_ | refine AgreeOff.over rfl ?_), by repeat (first | exact AgreeOff.refl _ _ | refine AgreeOff.upd rfl ?_ | refine AgreeOff.over rfl ?_), by repeat (first | exact AgreeOff.refl _ _ | refine AgreeOff.upd rfl ?_ | refine AgreeOff.over rfl ?_), ?_, by repeat (first | trivial | exact .inr rfl | exact .inl rfl | refine ⟨?_, ?_⟩), by repeat (first | trivial | exact .inr rfl | exact .inl rfl | refine ⟨?_, ?_⟩), by repeat (first | trivial | exact .inr rfl | exact .inl rfl | refine ⟨?_, ?_⟩), by repeat (first | trivial | exact .inr rfl | exact .inl rfl | refine ⟨?_, ?_⟩), by repeat (first | trivial | exact .inr rfl | exact .inl rfl | refine ⟨?_, ?_⟩), by repeat (first | trivial | exact .inr rfl | exact .inl rfl | refine ⟨?_, ?_⟩)⟩
      exact ⟨rfl, trivial⟩
  · simp only [decide_eq_false_iff_not, Int.ofNat_lt] at h
    simp only [Tryz.f61, go_sem, Nat.reduceEqDiff, Nat.reduceLT, Nat.reduceLeDiff, Nat.reduceAdd, Nat.reduceSub, Nat.reduceMul, Nat.reduceBEq, Nat.reduceBNe, Int.reduceEq, Int.reduceToNat, Int.reduceNeg, ↓reduceIte, reduceCtorEq, Nat.reduceDiv, Nat.reduceMod, Int.reduceLE, Int.reduceLT, Int.reduceSub, Int.reduceAdd, r31_at, r31_skip]
    exact (all_of fun j hj => hne j (by omega)).symm
noncomputable def r30 : Rule Tryz.prog G := Rule.pure 61 ((List ByteArray)) (fun l => [.slice (encT l)]) (fun l => .val (.bool (l.all nameB))) (by rintro l1 l2 h; simp only [List.cons.injEq, PV.agg.injEq, PV.val.injEq, PV.slice.injEq, Value.int.injEq, Value.bool.injEq, Value.string.injEq, encE_iff, encEs_iff, encS_iff, encSs_iff, encT_iff, encF_iff, encP_iff, Int.natCast_inj, true_and, and_true] at h; simp only [h]) (fun l => names_c l)
theorem r30_at (tl : List (Rule Tryz.prog G)) (l : List ByteArray) (sh : Sh) : tab (r30 :: tl) 61 [.slice (encT l)] sh = some (.val (.bool (l.all nameB)), sh) := by
  have this : tab (r30 :: tl) 61 [.slice (encT l)] sh = some (.val (.bool (l.all nameB)), sh) := tab_pure tl ((l) : (List ByteArray)) sh
  exact this
theorem r30_skip (tl : List (Rule Tryz.prog G)) (f : FuncId) (args : List PV) (sh : Sh) (h : f ≠ 61) : tab (r30 :: tl) f args sh = tab tl f args sh := tab_skip _ tl f args sh h
end Go.Proofs.YtaackmiajgapoaaGreatDoor.V
