/- Names, by the program (token, syntax). -/
import Derived.Test.YtaackmiajgapoaaGreatDoorD21
set_option maxRecDepth 100000
set_option maxHeartbeats 16000000
set_option linter.unusedSimpArgs false
set_option linter.unusedVariables false
namespace Go.Proofs.YtaackmiajgapoaaGreatDoor.V
open Go
variable {G : Nat → Option (List PV)}

theorem letter2_c (c : Int) : VPure Tryz.prog G 125 [.val (.int .u8 c)] (.val (.bool (letterB c))) := by
  refine VPure.of (.val _) fun sh => ?_
  refine VCalls_enter [] Tryz.func125 rfl (show 1 ≤ 17 by decide) ?_
  refine vCode_sound (tab_ok []) _ _ _ ?_
  simp +contextual only [Tryz.f125, go_sem, Nat.reduceEqDiff, Nat.reduceLT, Nat.reduceLeDiff, Nat.reduceAdd, Nat.reduceSub, Nat.reduceMul, Nat.reduceBEq, Nat.reduceBNe, Int.reduceEq, Int.reduceToNat, Int.reduceNeg, ↓reduceIte, reduceCtorEq, Nat.reduceDiv, Nat.reduceMod, Int.reduceLE, Int.reduceLT, Int.reduceSub, Int.reduceAdd, letterB]
noncomputable def r81 : Rule Tryz.prog G := Rule.pure 125 ((Int)) (fun c => [.val (.int .u8 c)]) (fun c => .val (.bool (letterB c))) (by rintro c1 c2 h; simp only [List.cons.injEq, PV.agg.injEq, PV.val.injEq, PV.slice.injEq, Value.int.injEq, Value.bool.injEq, Value.string.injEq, encE_iff, encEs_iff, encS_iff, encSs_iff, encT_iff, encF_iff, encP_iff, Int.natCast_inj, true_and, and_true] at h; simp only [h]) (fun c => letter2_c c)
theorem r81_at (tl : List (Rule Tryz.prog G)) (c : Int) (sh : Sh) : tab (r81 :: tl) 125 [.val (.int .u8 c)] sh = some (.val (.bool (letterB c)), sh) := by
  have this : tab (r81 :: tl) 125 [.val (.int .u8 c)] sh = some (.val (.bool (letterB c)), sh) := tab_pure tl ((c) : (Int)) sh
  exact this
theorem r81_skip (tl : List (Rule Tryz.prog G)) (f : FuncId) (args : List PV) (sh : Sh) (h : f ≠ 125) : tab (r81 :: tl) f args sh = tab tl f args sh := tab_skip _ tl f args sh h
theorem digit2_c (c : Int) : VPure Tryz.prog G 155 [.val (.int .u8 c)] (.val (.bool (digitB c))) := by
  refine VPure.of (.val _) fun sh => ?_
  refine VCalls_enter [] Tryz.func155 rfl (show 1 ≤ 9 by decide) ?_
  refine vCode_sound (tab_ok []) _ _ _ ?_
  simp +contextual only [Tryz.f155, go_sem, Nat.reduceEqDiff, Nat.reduceLT, Nat.reduceLeDiff, Nat.reduceAdd, Nat.reduceSub, Nat.reduceMul, Nat.reduceBEq, Nat.reduceBNe, Int.reduceEq, Int.reduceToNat, Int.reduceNeg, ↓reduceIte, reduceCtorEq, Nat.reduceDiv, Nat.reduceMod, Int.reduceLE, Int.reduceLT, Int.reduceSub, Int.reduceAdd, digitB]
noncomputable def r79 : Rule Tryz.prog G := Rule.pure 155 ((Int)) (fun c => [.val (.int .u8 c)]) (fun c => .val (.bool (digitB c))) (by rintro c1 c2 h; simp only [List.cons.injEq, PV.agg.injEq, PV.val.injEq, PV.slice.injEq, Value.int.injEq, Value.bool.injEq, Value.string.injEq, encE_iff, encEs_iff, encS_iff, encSs_iff, encT_iff, encF_iff, encP_iff, Int.natCast_inj, true_and, and_true] at h; simp only [h]) (fun c => digit2_c c)
theorem r79_at (tl : List (Rule Tryz.prog G)) (c : Int) (sh : Sh) : tab (r79 :: tl) 155 [.val (.int .u8 c)] sh = some (.val (.bool (digitB c)), sh) := by
  have this : tab (r79 :: tl) 155 [.val (.int .u8 c)] sh = some (.val (.bool (digitB c)), sh) := tab_pure tl ((c) : (Int)) sh
  exact this
theorem r79_skip (tl : List (Rule Tryz.prog G)) (f : FuncId) (args : List PV) (sh : Sh) (h : f ≠ 155) : tab (r79 :: tl) f args sh = tab tl f args sh := tab_skip _ tl f args sh h
theorem inner2_c (c : Int) : VPure Tryz.prog G 127 [.val (.int .u8 c)] (.val (.bool (innerB c))) := by
  refine VPure.of (.val _) fun sh => ?_
  refine VCalls_enter [] Tryz.func127 rfl (show 1 ≤ 13 by decide) ?_
  refine vCode_sound (tab_ok [r81, r79]) _ _ _ ?_
  simp only [Tryz.f127, go_sem, Nat.reduceEqDiff, Nat.reduceLT, Nat.reduceLeDiff, Nat.reduceAdd, Nat.reduceSub, Nat.reduceMul, Nat.reduceBEq, Nat.reduceBNe, Int.reduceEq, Int.reduceToNat, Int.reduceNeg, ↓reduceIte, reduceCtorEq, Nat.reduceDiv, Nat.reduceMod, Int.reduceLE, Int.reduceLT, Int.reduceSub, Int.reduceAdd, r81_at, r81_skip, r79_at, r79_skip, innerB]
noncomputable def r82 : Rule Tryz.prog G := Rule.pure 127 ((Int)) (fun c => [.val (.int .u8 c)]) (fun c => .val (.bool (innerB c))) (by rintro c1 c2 h; simp only [List.cons.injEq, PV.agg.injEq, PV.val.injEq, PV.slice.injEq, Value.int.injEq, Value.bool.injEq, Value.string.injEq, encE_iff, encEs_iff, encS_iff, encSs_iff, encT_iff, encF_iff, encP_iff, Int.natCast_inj, true_and, and_true] at h; simp only [h]) (fun c => inner2_c c)
theorem r82_at (tl : List (Rule Tryz.prog G)) (c : Int) (sh : Sh) : tab (r82 :: tl) 127 [.val (.int .u8 c)] sh = some (.val (.bool (innerB c)), sh) := by
  have this : tab (r82 :: tl) 127 [.val (.int .u8 c)] sh = some (.val (.bool (innerB c)), sh) := tab_pure tl ((c) : (Int)) sh
  exact this
theorem r82_skip (tl : List (Rule Tryz.prog G)) (f : FuncId) (args : List PV) (sh : Sh) (h : f ≠ 127) : tab (r82 :: tl) f args sh = tab tl f args sh := tab_skip _ tl f args sh h

/-- How many bytes from a place on are so. -/
def runLen (P : Int → Bool) (s : ByteArray) (a : Nat) : Nat := (List.range (s.size - a)).findIdx fun j => !P (byteAt s (a + j))
theorem runLen_eq {P : Int → Bool} {s : ByteArray} {a j : Nat} (h : ∀ k, k < j → P (byteAt s (a + k)) = true) (hj : a + j ≤ s.size) (he : a + j = s.size ∨ P (byteAt s (a + j)) = false) : runLen P s a = j := by
  unfold runLen
  rcases Nat.lt_or_ge j (s.size - a) with hlt | hge
  · rw [List.findIdx_eq (by simpa using hlt)]
    refine ⟨?_, fun k hk => ?_⟩
    · rcases he with he | he
      · omega
      · simp [he]
    · simp [h k hk]
  · have e : j = s.size - a := by omega
    rw [e]
    have : (List.range (s.size - a)).findIdx (fun j => !P (byteAt s (a + j))) = (List.range (s.size - a)).length := by
      rw [List.findIdx_eq_length]
      intro x hx
      simp only [List.mem_range] at hx
      simp [h x (by omega)]
    rw [this, List.length_range]
theorem runLen_all {P : Int → Bool} {s : ByteArray} : (runLen P s 0 = s.size) = ((List.range s.size).all (fun i => P (byteAt s i)) = true) := by
  unfold runLen
  apply propext
  rw [List.all_eq_true]
  constructor
  · intro h x hx
    have h2 : (List.range (s.size - 0)).findIdx (fun j => !P (byteAt s (0 + j))) = (List.range (s.size - 0)).length := by simpa using h
    rw [List.findIdx_eq_length] at h2
    have := h2 x (by simpa using hx)
    simpa using this
  · intro h
    have h2 : (List.range (s.size - 0)).findIdx (fun j => !P (byteAt s (0 + j))) = (List.range (s.size - 0)).length := by
      rw [List.findIdx_eq_length]
      intro x hx
      have := h x (by simpa using hx)
      simp [this]
    simpa using h2

theorem run_c (P : Int → Bool) (f : FuncId) (hf : ∀ c, VPure Tryz.prog G f [.val (.int .u8 c)] (.val (.bool (P c)))) (hc : canCall Tryz.prog f = true) (s : ByteArray) (a : Nat) (ha : a ≤ s.size) :
    VPure Tryz.prog G 126 [.val (.string s), .val (.int .i64 a), .func f []] (.val (.int .i64 (runLen P s a))) := by
  obtain ⟨R, hR0, hs⟩ := mkRule (P := Tryz.prog) (G := G) f Int (fun c => [.val (.int .u8 c)]) (fun c => .val (.bool (P c))) (fun _ => True)
    (by rintro a b h; simp only [List.cons.injEq, PV.val.injEq, Value.int.injEq, true_and, and_true] at h; simp only [h]) (fun c _ => hf c)
  have hR : ∀ tl c sh, tab (R :: tl) f [.val (.int .u8 c)] sh = some (.val (.bool (P c)), sh) := fun tl c sh => hR0 tl c sh trivial
  clear hR0
  refine VPure.of (.val _) fun sh => ?_
  refine VCalls_enter [] Tryz.func126 rfl (show 3 ≤ 26 by decide) ?_
  refine vCode_sound (tab_ok [R]) _ _ _ ?_
  simp only [Tryz.f126, go_sem, Nat.reduceEqDiff, Nat.reduceLT, Nat.reduceLeDiff, Nat.reduceAdd, Nat.reduceSub, Nat.reduceMul, Nat.reduceBEq, Nat.reduceBNe, Int.reduceEq, Int.reduceToNat, Int.reduceNeg, ↓reduceIte, reduceCtorEq, Nat.reduceDiv, Nat.reduceMod, Int.reduceLE, Int.reduceLT, Int.reduceSub, Int.reduceAdd]
  refine loop_intro (VWp_for [8, 9, 10, 11, 12, 13, 14, 15, 16, 17, 18, 19, 20, 21, 22, 23, 24, 7] (fun i : Nat => [(7, .val (.int .i64 i))]) [] (fun _ => []) [] (fun _ => []) (fun _ => sh)
    (fun i => a + i ≤ s.size ∧ ∀ j, j < i → P (byteAt s (a + j)) = true) (fun i => s.size - i) 0 ⟨ha, fun j h => by omega⟩ (by refine ⟨rfl, rfl, rfl, .refl _ _, .refl _ _, .refl _ _, by repeat (first | trivial | rfl | refine ⟨?_, ?_⟩), by repeat (first | trivial | rfl | refine ⟨?_, ?_⟩), by repeat (first | trivial | rfl | refine ⟨?_, ?_⟩), by repeat (first | trivial | exact .inr rfl | exact .inl rfl | refine ⟨?_, ?_⟩), by repeat (first | trivial | exact .inr rfl | exact .inl rfl | refine ⟨?_, ?_⟩), by repeat (first | trivial | exact .inr rfl | exact .inl rfl | refine ⟨?_, ?_⟩), by repeat (first | trivial | exact .inr rfl | exact .inl rfl | refine ⟨?_, ?_⟩)⟩) ?_)
  rintro i ⟨hi, hne⟩
  refine vCode_sound (tab_ok [R]) _ _ _ ?_
  simp only [Tryz.f126, go_sem, Nat.reduceEqDiff, Nat.reduceLT, Nat.reduceLeDiff, Nat.reduceAdd, Nat.reduceSub, Nat.reduceMul, Nat.reduceBEq, Nat.reduceBNe, Int.reduceEq, Int.reduceToNat, Int.reduceNeg, ↓reduceIte, reduceCtorEq, Nat.reduceDiv, Nat.reduceMod, Int.reduceLE, Int.reduceLT, Int.reduceSub, Int.reduceAdd, hR, hs, hc]
  intro hsz
  have hwa : IntKind.i64.wrap ((a : Int) + (i : Int)) = ((a + i : Nat) : Int) := by rw [wrap64_id (by omega) (by omega)]; rfl
  rw [hwa]
  refine ⟨fun h => ⟨by omega, h⟩, ?_⟩
  refine if_intro _ rfl trivial (fun h => ?_) (fun h => ?_)
  · have hlt : a + i < s.size ∧ P (byteAt s (a + i)) = true := by
      simp only [Bool.and_eq_true, decide_eq_true_eq, Int.ofNat_lt, Int.toNat_natCast] at h
      exact h
    have hw : IntKind.i64.wrap ((i : Int) + 1) = ((i + 1 : Nat) : Int) := by rw [wrap64_id (by omega) (by omega)]; rfl
    simp only [Tryz.f126, go_sem, Nat.reduceEqDiff, Nat.reduceLT, Nat.reduceLeDiff, Nat.reduceAdd, Nat.reduceSub, Nat.reduceMul, Nat.reduceBEq, Nat.reduceBNe, Int.reduceEq, Int.reduceToNat, Int.reduceNeg, ↓reduceIte, reduceCtorEq, Nat.reduceDiv, Nat.reduceMod, Int.reduceLE, Int.reduceLT, Int.reduceSub, Int.reduceAdd, hw]
    refine ⟨i + 1, ⟨by omega, fun j hj => ?_⟩, by omega, ?_⟩
    · by_cases e : j = i
      · subst e; exact hlt.2
      · exact hne j (by omega)
    · refine ⟨rfl, rfl, rfl, by repeat (first | exact AgreeOff.refl _ _ | refine AgreeOff.upd rfl ?_ | refine AgreeOff.over rfl ?_), by repeat (first | exact AgreeOff.refl _ _ | refine AgreeOff.upd rfl ?_ | refine AgreeOff.over rfl ?_), by repeat (first | exact AgreeOff.refl _ _ | refine AgreeOff.upd rfl ?_ | refine AgreeOff.over rfl ?_), ?_, by repeat (first | trivial | exact .inr rfl | exact .inl rfl | refine ⟨?_, ?_⟩), by repeat (first | trivial | exact .inr rfl | exact .inl rfl | refine ⟨?_, ?_⟩), by repeat (first | trivial | exact .inr rfl | exact .inl rfl | refine ⟨?_, ?_⟩), by repeat (first | trivial | exact .inr rfl | exact .inl rfl | refine ⟨?_, ?_⟩), by repeat (first | trivial | exact .inr rfl | exact .inl rfl | refine ⟨?_, ?_⟩), by repeat (first | trivial | exact .inr rfl | exact .inl rfl | refine ⟨?_, ?_⟩)⟩
      exact ⟨rfl, trivial⟩
  · simp only [Tryz.f126, go_sem, Nat.reduceEqDiff, Nat.reduceLT, Nat.reduceLeDiff, Nat.reduceAdd, Nat.reduceSub, Nat.reduceMul, Nat.reduceBEq, Nat.reduceBNe, Int.reduceEq, Int.reduceToNat, Int.reduceNeg, ↓reduceIte, reduceCtorEq, Nat.reduceDiv, Nat.reduceMod, Int.reduceLE, Int.reduceLT, Int.reduceSub, Int.reduceAdd]
    rw [runLen_eq hne hi]
    simp only [Bool.and_eq_false_iff, decide_eq_false_iff_not, Int.ofNat_lt, Int.toNat_natCast] at h
    rcases h with h | h
    · exact .inl (by omega)
    · exact .inr h

/-- The first place of a string. -/
def strIdx (l : List ByteArray) (s : ByteArray) : Int := match l.findIdx? (fun f => decide (f = s)) with | some i => (i : Int) | none => -1
theorem strIdx_at {l : List ByteArray} {s : ByteArray} {i : Nat} (h : i < l.length) (h1 : ∀ j, j < i → elm l j ≠ s) (h2 : elm l i = s) : strIdx l s = i := by
  unfold strIdx
  rw [List.findIdx?_eq_some_iff_getElem.2 ⟨h, by rw [← elm_eq h]; simpa using h2, fun j hj => by rw [← elm_eq (by omega)]; simpa using h1 j hj⟩]
theorem strIdx_none {l : List ByteArray} {s : ByteArray} (h1 : ∀ j, j < l.length → elm l j ≠ s) : strIdx l s = -1 := by
  unfold strIdx
  rw [List.findIdx?_eq_none_iff.2 fun x hx => by
    obtain ⟨j, hj, rfl⟩ := List.getElem_of_mem hx
    rw [← elm_eq hj]; simpa using h1 j hj]
theorem strIdx_cases (l : List ByteArray) (s : ByteArray) : (strIdx l s = -1 ∧ ∀ j, j < l.length → elm l j ≠ s) ∨ ∃ i, i < l.length ∧ strIdx l s = (i : Int) ∧ elm l i = s ∧ ∀ j, j < i → elm l j ≠ s := by
  unfold strIdx
  split
  · rename_i i h
    obtain ⟨h1, h2, h3⟩ := List.findIdx?_eq_some_iff_getElem.1 h
    exact .inr ⟨i, h1, rfl, by rw [elm_eq h1]; simpa using h2, fun j hj => by rw [elm_eq (by omega)]; simpa using h3 j hj⟩
  · rename_i h
    refine .inl ⟨rfl, fun j hj => ?_⟩
    have := List.findIdx?_eq_none_iff.1 h (elm l j) (by rw [elm_eq hj]; exact List.getElem_mem hj)
    simpa using this
theorem strIdx_in (l : List ByteArray) (s : ByteArray) : decide (0 ≤ strIdx l s) = inL l s := by
  rcases strIdx_cases l s with ⟨h, hn⟩ | ⟨i, hi, h, he, _⟩
  · rw [h, inL_none hn]; rfl
  · rw [h, inL_at hi he]; simp
theorem index_c (l : List ByteArray) (s : ByteArray) : VPure Tryz.prog G 134 [.slice (encT l), .val (.string s)] (.val (.int .i64 (strIdx l s))) := by
  refine VPure.of (.val _) fun sh => ?_
  refine VCalls_enter [] Tryz.func134 rfl (show 2 ≤ 19 by decide) ?_
  refine vCode_sound (tab_ok []) _ _ _ ?_
  simp only [Tryz.f134, go_sem, Nat.reduceEqDiff, Nat.reduceLT, Nat.reduceLeDiff, Nat.reduceAdd, Nat.reduceSub, Nat.reduceMul, Nat.reduceBEq, Nat.reduceBNe, Int.reduceEq, Int.reduceToNat, Int.reduceNeg, ↓reduceIte, reduceCtorEq, Nat.reduceDiv, Nat.reduceMod, Int.reduceLE, Int.reduceLT, Int.reduceSub, Int.reduceAdd]
  repeat (first | intro _ | refine And.intro (by (intros; first | omega | (simp only [Bool.or_eq_false_iff, Bool.or_eq_true, decide_eq_false_iff_not, beq_iff_eq, Bool.and_eq_true, decide_eq_true_eq, Bool.not_eq_true'] at *; omega) | simp_all)) ?_)
  refine loop_intro (VWp_for [9, 10, 5, 11, 12, 13, 14, 15, 16, 17, 4, 18, 8] (fun i : Nat => [(8, .val (.int .i64 i))]) [] (fun _ => []) [] (fun _ => []) (fun _ => sh)
    (fun i => i ≤ l.length ∧ ∀ j, j < i → elm l j ≠ s) (fun i => l.length - i) 0 ⟨Nat.zero_le _, fun j h => by omega⟩ (by refine ⟨rfl, rfl, rfl, .refl _ _, .refl _ _, .refl _ _, by repeat (first | trivial | rfl | refine ⟨?_, ?_⟩), by repeat (first | trivial | rfl | refine ⟨?_, ?_⟩), by repeat (first | trivial | rfl | refine ⟨?_, ?_⟩), by repeat (first | trivial | exact .inr rfl | exact .inl rfl | refine ⟨?_, ?_⟩), by repeat (first | trivial | exact .inr rfl | exact .inl rfl | refine ⟨?_, ?_⟩), by repeat (first | trivial | exact .inr rfl | exact .inl rfl | refine ⟨?_, ?_⟩), by repeat (first | trivial | exact .inr rfl | exact .inl rfl | refine ⟨?_, ?_⟩)⟩) ?_)
  rintro i ⟨hi, hne⟩
  refine vCode_sound (tab_ok []) _ _ _ ?_
  simp only [Tryz.f134, go_sem, Nat.reduceEqDiff, Nat.reduceLT, Nat.reduceLeDiff, Nat.reduceAdd, Nat.reduceSub, Nat.reduceMul, Nat.reduceBEq, Nat.reduceBNe, Int.reduceEq, Int.reduceToNat, Int.reduceNeg, ↓reduceIte, reduceCtorEq, Nat.reduceDiv, Nat.reduceMod, Int.reduceLE, Int.reduceLT, Int.reduceSub, Int.reduceAdd]
  repeat (first | intro _ | refine And.intro (by (intros; first | omega | (simp only [Bool.or_eq_false_iff, Bool.or_eq_true, decide_eq_false_iff_not, beq_iff_eq, Bool.and_eq_true, decide_eq_true_eq, Bool.not_eq_true'] at *; omega) | simp_all)) ?_)
  refine if_intro _ rfl trivial (fun h => ?_) (fun h => ?_)
  · simp only [decide_eq_true_eq, Int.ofNat_lt] at h
    have hw : IntKind.i64.wrap ((i : Int) + 1) = ((i + 1 : Nat) : Int) := by rw [wrap64_id (by omega) (by omega)]; rfl
    simp only [Tryz.f134, go_sem, Nat.reduceEqDiff, Nat.reduceLT, Nat.reduceLeDiff, Nat.reduceAdd, Nat.reduceSub, Nat.reduceMul, Nat.reduceBEq, Nat.reduceBNe, Int.reduceEq, Int.reduceToNat, Int.reduceNeg, ↓reduceIte, reduceCtorEq, Nat.reduceDiv, Nat.reduceMod, Int.reduceLE, Int.reduceLT, Int.reduceSub, Int.reduceAdd, h]
    repeat (first | intro _ | refine And.intro (by (intros; first | omega | (simp only [Bool.or_eq_false_iff, Bool.or_eq_true, decide_eq_false_iff_not, beq_iff_eq, Bool.and_eq_true, decide_eq_true_eq, Bool.not_eq_true'] at *; omega) | simp_all)) ?_)
    refine if_intro _ rfl trivial (fun h2 => ?_) (fun h2 => ?_)
    · simp only [Tryz.f134, go_sem, Nat.reduceEqDiff, Nat.reduceLT, Nat.reduceLeDiff, Nat.reduceAdd, Nat.reduceSub, Nat.reduceMul, Nat.reduceBEq, Nat.reduceBNe, Int.reduceEq, Int.reduceToNat, Int.reduceNeg, ↓reduceIte, reduceCtorEq, Nat.reduceDiv, Nat.reduceMod, Int.reduceLE, Int.reduceLT, Int.reduceSub, Int.reduceAdd]
      simp only [decide_eq_true_eq] at h2
      rw [strIdx_at h hne h2.symm]
    · simp only [decide_eq_false_iff_not] at h2
      simp only [Tryz.f134, go_sem, Nat.reduceEqDiff, Nat.reduceLT, Nat.reduceLeDiff, Nat.reduceAdd, Nat.reduceSub, Nat.reduceMul, Nat.reduceBEq, Nat.reduceBNe, Int.reduceEq, Int.reduceToNat, Int.reduceNeg, ↓reduceIte, reduceCtorEq, Nat.reduceDiv, Nat.reduceMod, Int.reduceLE, Int.reduceLT, Int.reduceSub, Int.reduceAdd, hw]
      refine ⟨i + 1, ⟨h, fun j hj => ?_⟩, by omega, ?_⟩
      · by_cases e : j = i
        · subst e; exact fun e => h2 e.symm
        · exact hne j (by omega)
      · refine ⟨rfl, rfl, rfl, by repeat (first | exact AgreeOff.refl _ _ | refine AgreeOff.upd rfl ?_ | refine AgreeOff.over rfl ?_), by repeat (first | exact AgreeOff.refl _ _ | refine AgreeOff.upd rfl ?_ | refine AgreeOff.over rfl ?_), by repeat (first | exact AgreeOff.refl _ _ | refine AgreeOff.upd rfl ?_ | refine AgreeOff.over rfl ?_), ?_, by repeat (first | trivial | exact .inr rfl | exact .inl rfl | refine ⟨?_, ?_⟩), by repeat (first | trivial | exact .inr rfl | exact .inl rfl | refine ⟨?_, ?_⟩), by repeat (first | trivial | exact .inr rfl | exact .inl rfl | refine ⟨?_, ?_⟩), by repeat (first | trivial | exact .inr rfl | exact .inl rfl | refine ⟨?_, ?_⟩), by repeat (first | trivial | exact .inr rfl | exact .inl rfl | refine ⟨?_, ?_⟩), by repeat (first | trivial | exact .inr rfl | exact .inl rfl | refine ⟨?_, ?_⟩)⟩
        exact ⟨rfl, trivial⟩
  · simp only [decide_eq_false_iff_not, Int.ofNat_lt] at h
    simp only [Tryz.f134, go_sem, Nat.reduceEqDiff, Nat.reduceLT, Nat.reduceLeDiff, Nat.reduceAdd, Nat.reduceSub, Nat.reduceMul, Nat.reduceBEq, Nat.reduceBNe, Int.reduceEq, Int.reduceToNat, Int.reduceNeg, ↓reduceIte, reduceCtorEq, Nat.reduceDiv, Nat.reduceMod, Int.reduceLE, Int.reduceLT, Int.reduceSub, Int.reduceAdd]
    rw [strIdx_none fun j hj => hne j (by omega)]
noncomputable def r119 : Rule Tryz.prog G := Rule.pure 134 ((List ByteArray) × (ByteArray)) (fun x => match x with | (l, s) => [.slice (encT l), .val (.string s)]) (fun x => match x with | (l, s) => .val (.int .i64 (strIdx l s))) (by rintro ⟨l1, s1⟩ ⟨l2, s2⟩ h; simp only [List.cons.injEq, PV.agg.injEq, PV.val.injEq, PV.slice.injEq, Value.int.injEq, Value.bool.injEq, Value.string.injEq, encE_iff, encEs_iff, encS_iff, encSs_iff, encT_iff, encF_iff, encP_iff, Int.natCast_inj, true_and, and_true] at h; simp only [h]) (fun ⟨l, s⟩ => index_c l s)
theorem r119_at (tl : List (Rule Tryz.prog G)) (l : List ByteArray) (s : ByteArray) (sh : Sh) : tab (r119 :: tl) 134 [.slice (encT l), .val (.string s)] sh = some (.val (.int .i64 (strIdx l s)), sh) := by
  have this : tab (r119 :: tl) 134 [.slice (encT l), .val (.string s)] sh = some (.val (.int .i64 (strIdx l s)), sh) := tab_pure tl ((l, s) : (List ByteArray) × (ByteArray)) sh
  exact this
theorem r119_skip (tl : List (Rule Tryz.prog G)) (f : FuncId) (args : List PV) (sh : Sh) (h : f ≠ 134) : tab (r119 :: tl) f args sh = tab tl f args sh := tab_skip _ tl f args sh h
theorem contains_c (l : List ByteArray) (s : ByteArray) : VPure Tryz.prog G 128 [.slice (encT l), .val (.string s)] (.val (.bool (inL l s))) := by
  refine VPure.of (.val _) fun sh => ?_
  refine VCalls_enter [] Tryz.func128 rfl (show 2 ≤ 9 by decide) ?_
  refine vCode_sound (tab_ok [r119]) _ _ _ ?_
  simp only [Tryz.f128, go_sem, Nat.reduceEqDiff, Nat.reduceLT, Nat.reduceLeDiff, Nat.reduceAdd, Nat.reduceSub, Nat.reduceMul, Nat.reduceBEq, Nat.reduceBNe, Int.reduceEq, Int.reduceToNat, Int.reduceNeg, ↓reduceIte, reduceCtorEq, Nat.reduceDiv, Nat.reduceMod, Int.reduceLE, Int.reduceLT, Int.reduceSub, Int.reduceAdd, r119_at, r119_skip]
  exact strIdx_in l s
noncomputable def r83 : Rule Tryz.prog G := Rule.pure 128 ((List ByteArray) × (ByteArray)) (fun x => match x with | (l, s) => [.slice (encT l), .val (.string s)]) (fun x => match x with | (l, s) => .val (.bool (inL l s))) (by rintro ⟨l1, s1⟩ ⟨l2, s2⟩ h; simp only [List.cons.injEq, PV.agg.injEq, PV.val.injEq, PV.slice.injEq, Value.int.injEq, Value.bool.injEq, Value.string.injEq, encE_iff, encEs_iff, encS_iff, encSs_iff, encT_iff, encF_iff, encP_iff, Int.natCast_inj, true_and, and_true] at h; simp only [h]) (fun ⟨l, s⟩ => contains_c l s)
theorem r83_at (tl : List (Rule Tryz.prog G)) (l : List ByteArray) (s : ByteArray) (sh : Sh) : tab (r83 :: tl) 128 [.slice (encT l), .val (.string s)] sh = some (.val (.bool (inL l s)), sh) := by
  have this : tab (r83 :: tl) 128 [.slice (encT l), .val (.string s)] sh = some (.val (.bool (inL l s)), sh) := tab_pure tl ((l, s) : (List ByteArray) × (ByteArray)) sh
  exact this
theorem r83_skip (tl : List (Rule Tryz.prog G)) (f : FuncId) (args : List PV) (sh : Sh) (h : f ≠ 128) : tab (r83 :: tl) f args sh = tab tl f args sh := tab_skip _ tl f args sh h

/-- What the listed variables hold. -/
structure GOk (G : Nat → Option (List PV)) : Prop where
  words : G 0 = some (wordList.map fun s => .val (.string s))
theorem empty_iff (s : ByteArray) : s = ⟨#[]⟩ ↔ s.size = 0 := by
  constructor
  · rintro rfl; rfl
  · intro h
    cases s with | mk d =>
    have : d.size = 0 := h
    rw [Array.size_eq_zero_iff] at this
    rw [this]
theorem tokenName_c (hG : GOk G) (s : ByteArray) : VPure Tryz.prog G 87 [.val (.string s)] (.val (.bool (nameB s))) := by
  obtain ⟨R, hR, hs⟩ := pureRule (run_c (G := G) innerB 127 inner2_c rfl s 0 (Nat.zero_le _))
  obtain ⟨C, hC, hs2⟩ := pureRule (contains_c (G := G) wordList s)
  refine VPure.of (.val _) fun sh => ?_
  refine VCalls_enter [] Tryz.func87 rfl (show 1 ≤ 28 by decide) ?_
  refine vCode_sound (tab_ok [r81, R, C]) _ _ _ ?_
  have hG0 := hG.words
  have hwl : wordList.length = 10 := rfl
  rw [show ((0 : Nat) : Int) = 0 from rfl] at hR
  rw [show encT wordList = (wordList.map fun s => PV.val (.string s)).map (fun c => [c]) from by simp [encT]] at hC
  simp only [Tryz.f87, go_sem, Nat.reduceEqDiff, Nat.reduceLT, Nat.reduceLeDiff, Nat.reduceAdd, Nat.reduceSub, Nat.reduceMul, Nat.reduceBEq, Nat.reduceBNe, Int.reduceEq, Int.reduceToNat, Int.reduceNeg, ↓reduceIte, reduceCtorEq, Nat.reduceDiv, Nat.reduceMod, Int.reduceLE, Int.reduceLT, Int.reduceSub, Int.reduceAdd, r81_at, r81_skip, hR, hC, hs, hs2, hG0, hwl]
  intro _
  refine ⟨fun h => ?_, fun _ => ?_⟩
  · simp only [Bool.and_eq_true, Bool.not_eq_true', decide_eq_false_iff_not, empty_iff] at h
    omega
  · have h1 : decide (s = ⟨#[]⟩) = !decide (0 < s.size) := by
      by_cases h : s.size = 0
      · rw [decide_eq_true ((empty_iff s).2 h), decide_eq_false (by omega)]; rfl
      · rw [decide_eq_false (fun e => h ((empty_iff s).1 e)), decide_eq_true (by omega)]; rfl
    have h2 : decide (runLen innerB s 0 = s.size) = (List.range s.size).all fun i => innerB (byteAt s i) := by
      rw [Bool.eq_iff_iff, decide_eq_true_eq, runLen_all]
    rw [h1, h2, Bool.not_not]
    unfold nameB
    generalize decide (0 < s.size) = x1
    generalize decide (s.size ≤ 20) = x2
    generalize letterB (byteAt s 0) = x3
    generalize inL wordList s = x4
    generalize ((List.range s.size).all fun i => innerB (byteAt s i)) = x5
    revert x1 x2 x3 x4 x5
    decide

theorem name_c (hG : GOk G) (s : ByteArray) : VPure Tryz.prog G 56 [.val (.string s)] (.val (.bool (nameB s))) := by
  obtain ⟨R, hR, hs⟩ := pureRule (tokenName_c hG s)
  have hin : ∀ x, x ∈ wordList → s = x → nameB s = false := by
    rintro x hx rfl
    unfold nameB
    rw [show inL wordList s = true from List.any_eq_true.2 ⟨s, hx, by simp⟩]
    simp
  refine VPure.of (.val _) fun sh => ?_
  refine VCalls_enter [] Tryz.func56 rfl (show 1 ≤ 17 by decide) ?_
  refine vCode_sound (tab_ok [R]) _ _ _ ?_
  simp only [Tryz.f56, go_sem, Nat.reduceEqDiff, Nat.reduceLT, Nat.reduceLeDiff, Nat.reduceAdd, Nat.reduceSub, Nat.reduceMul, Nat.reduceBEq, Nat.reduceBNe, Int.reduceEq, Int.reduceToNat, Int.reduceNeg, ↓reduceIte, reduceCtorEq, Nat.reduceDiv, Nat.reduceMod, Int.reduceLE, Int.reduceLT, Int.reduceSub, Int.reduceAdd]
  refine if_intro _ rfl trivial (fun h => ?_) (fun h => ?_)
  · simp only [Tryz.f56, go_sem, Nat.reduceEqDiff, Nat.reduceLT, Nat.reduceLeDiff, Nat.reduceAdd, Nat.reduceSub, Nat.reduceMul, Nat.reduceBEq, Nat.reduceBNe, Int.reduceEq, Int.reduceToNat, Int.reduceNeg, ↓reduceIte, reduceCtorEq, Nat.reduceDiv, Nat.reduceMod, Int.reduceLE, Int.reduceLT, Int.reduceSub, Int.reduceAdd, h]
    exact (hin _ (by simp [wordList]) (of_decide_eq_true h)).symm
  simp only [Tryz.f56, go_sem, Nat.reduceEqDiff, Nat.reduceLT, Nat.reduceLeDiff, Nat.reduceAdd, Nat.reduceSub, Nat.reduceMul, Nat.reduceBEq, Nat.reduceBNe, Int.reduceEq, Int.reduceToNat, Int.reduceNeg, ↓reduceIte, reduceCtorEq, Nat.reduceDiv, Nat.reduceMod, Int.reduceLE, Int.reduceLT, Int.reduceSub, Int.reduceAdd, h, hR]
  clear h
  refine if_intro _ rfl trivial (fun h => ?_) (fun h => ?_)
  · simp only [Tryz.f56, go_sem, Nat.reduceEqDiff, Nat.reduceLT, Nat.reduceLeDiff, Nat.reduceAdd, Nat.reduceSub, Nat.reduceMul, Nat.reduceBEq, Nat.reduceBNe, Int.reduceEq, Int.reduceToNat, Int.reduceNeg, ↓reduceIte, reduceCtorEq, Nat.reduceDiv, Nat.reduceMod, Int.reduceLE, Int.reduceLT, Int.reduceSub, Int.reduceAdd, h]
    exact (hin _ (by simp [wordList]) (of_decide_eq_true h)).symm
  simp only [Tryz.f56, go_sem, Nat.reduceEqDiff, Nat.reduceLT, Nat.reduceLeDiff, Nat.reduceAdd, Nat.reduceSub, Nat.reduceMul, Nat.reduceBEq, Nat.reduceBNe, Int.reduceEq, Int.reduceToNat, Int.reduceNeg, ↓reduceIte, reduceCtorEq, Nat.reduceDiv, Nat.reduceMod, Int.reduceLE, Int.reduceLT, Int.reduceSub, Int.reduceAdd, h, hR]
  clear h
  refine if_intro _ rfl trivial (fun h => ?_) (fun h => ?_)
  · simp only [Tryz.f56, go_sem, Nat.reduceEqDiff, Nat.reduceLT, Nat.reduceLeDiff, Nat.reduceAdd, Nat.reduceSub, Nat.reduceMul, Nat.reduceBEq, Nat.reduceBNe, Int.reduceEq, Int.reduceToNat, Int.reduceNeg, ↓reduceIte, reduceCtorEq, Nat.reduceDiv, Nat.reduceMod, Int.reduceLE, Int.reduceLT, Int.reduceSub, Int.reduceAdd, h]
    exact (hin _ (by simp [wordList]) (of_decide_eq_true h)).symm
  simp only [Tryz.f56, go_sem, Nat.reduceEqDiff, Nat.reduceLT, Nat.reduceLeDiff, Nat.reduceAdd, Nat.reduceSub, Nat.reduceMul, Nat.reduceBEq, Nat.reduceBNe, Int.reduceEq, Int.reduceToNat, Int.reduceNeg, ↓reduceIte, reduceCtorEq, Nat.reduceDiv, Nat.reduceMod, Int.reduceLE, Int.reduceLT, Int.reduceSub, Int.reduceAdd, h, hR]
  clear h
  refine if_intro _ rfl trivial (fun h => ?_) (fun h => ?_)
  · simp only [Tryz.f56, go_sem, Nat.reduceEqDiff, Nat.reduceLT, Nat.reduceLeDiff, Nat.reduceAdd, Nat.reduceSub, Nat.reduceMul, Nat.reduceBEq, Nat.reduceBNe, Int.reduceEq, Int.reduceToNat, Int.reduceNeg, ↓reduceIte, reduceCtorEq, Nat.reduceDiv, Nat.reduceMod, Int.reduceLE, Int.reduceLT, Int.reduceSub, Int.reduceAdd, h]
    exact (hin _ (by simp [wordList]) (of_decide_eq_true h)).symm
  simp only [Tryz.f56, go_sem, Nat.reduceEqDiff, Nat.reduceLT, Nat.reduceLeDiff, Nat.reduceAdd, Nat.reduceSub, Nat.reduceMul, Nat.reduceBEq, Nat.reduceBNe, Int.reduceEq, Int.reduceToNat, Int.reduceNeg, ↓reduceIte, reduceCtorEq, Nat.reduceDiv, Nat.reduceMod, Int.reduceLE, Int.reduceLT, Int.reduceSub, Int.reduceAdd, h, hR]
  clear h
  refine if_intro _ rfl trivial (fun h => ?_) (fun h => ?_)
  · simp only [Tryz.f56, go_sem, Nat.reduceEqDiff, Nat.reduceLT, Nat.reduceLeDiff, Nat.reduceAdd, Nat.reduceSub, Nat.reduceMul, Nat.reduceBEq, Nat.reduceBNe, Int.reduceEq, Int.reduceToNat, Int.reduceNeg, ↓reduceIte, reduceCtorEq, Nat.reduceDiv, Nat.reduceMod, Int.reduceLE, Int.reduceLT, Int.reduceSub, Int.reduceAdd, h]
    exact (hin _ (by simp [wordList]) (of_decide_eq_true h)).symm
  simp only [Tryz.f56, go_sem, Nat.reduceEqDiff, Nat.reduceLT, Nat.reduceLeDiff, Nat.reduceAdd, Nat.reduceSub, Nat.reduceMul, Nat.reduceBEq, Nat.reduceBNe, Int.reduceEq, Int.reduceToNat, Int.reduceNeg, ↓reduceIte, reduceCtorEq, Nat.reduceDiv, Nat.reduceMod, Int.reduceLE, Int.reduceLT, Int.reduceSub, Int.reduceAdd, h, hR]
  clear h
  refine if_intro _ rfl trivial (fun h => ?_) (fun h => ?_)
  · simp only [Tryz.f56, go_sem, Nat.reduceEqDiff, Nat.reduceLT, Nat.reduceLeDiff, Nat.reduceAdd, Nat.reduceSub, Nat.reduceMul, Nat.reduceBEq, Nat.reduceBNe, Int.reduceEq, Int.reduceToNat, Int.reduceNeg, ↓reduceIte, reduceCtorEq, Nat.reduceDiv, Nat.reduceMod, Int.reduceLE, Int.reduceLT, Int.reduceSub, Int.reduceAdd, h]
    exact (hin _ (by simp [wordList]) (of_decide_eq_true h)).symm
  simp only [Tryz.f56, go_sem, Nat.reduceEqDiff, Nat.reduceLT, Nat.reduceLeDiff, Nat.reduceAdd, Nat.reduceSub, Nat.reduceMul, Nat.reduceBEq, Nat.reduceBNe, Int.reduceEq, Int.reduceToNat, Int.reduceNeg, ↓reduceIte, reduceCtorEq, Nat.reduceDiv, Nat.reduceMod, Int.reduceLE, Int.reduceLT, Int.reduceSub, Int.reduceAdd, h, hR]
  clear h
  refine if_intro _ rfl trivial (fun h => ?_) (fun h => ?_)
  · simp only [Tryz.f56, go_sem, Nat.reduceEqDiff, Nat.reduceLT, Nat.reduceLeDiff, Nat.reduceAdd, Nat.reduceSub, Nat.reduceMul, Nat.reduceBEq, Nat.reduceBNe, Int.reduceEq, Int.reduceToNat, Int.reduceNeg, ↓reduceIte, reduceCtorEq, Nat.reduceDiv, Nat.reduceMod, Int.reduceLE, Int.reduceLT, Int.reduceSub, Int.reduceAdd, h]
    exact (hin _ (by simp [wordList]) (of_decide_eq_true h)).symm
  simp only [Tryz.f56, go_sem, Nat.reduceEqDiff, Nat.reduceLT, Nat.reduceLeDiff, Nat.reduceAdd, Nat.reduceSub, Nat.reduceMul, Nat.reduceBEq, Nat.reduceBNe, Int.reduceEq, Int.reduceToNat, Int.reduceNeg, ↓reduceIte, reduceCtorEq, Nat.reduceDiv, Nat.reduceMod, Int.reduceLE, Int.reduceLT, Int.reduceSub, Int.reduceAdd, h, hR]
  clear h
  refine if_intro _ rfl trivial (fun h => ?_) (fun h => ?_)
  · simp only [Tryz.f56, go_sem, Nat.reduceEqDiff, Nat.reduceLT, Nat.reduceLeDiff, Nat.reduceAdd, Nat.reduceSub, Nat.reduceMul, Nat.reduceBEq, Nat.reduceBNe, Int.reduceEq, Int.reduceToNat, Int.reduceNeg, ↓reduceIte, reduceCtorEq, Nat.reduceDiv, Nat.reduceMod, Int.reduceLE, Int.reduceLT, Int.reduceSub, Int.reduceAdd, h]
    exact (hin _ (by simp [wordList]) (of_decide_eq_true h)).symm
  simp only [Tryz.f56, go_sem, Nat.reduceEqDiff, Nat.reduceLT, Nat.reduceLeDiff, Nat.reduceAdd, Nat.reduceSub, Nat.reduceMul, Nat.reduceBEq, Nat.reduceBNe, Int.reduceEq, Int.reduceToNat, Int.reduceNeg, ↓reduceIte, reduceCtorEq, Nat.reduceDiv, Nat.reduceMod, Int.reduceLE, Int.reduceLT, Int.reduceSub, Int.reduceAdd, h, hR]
  clear h
  refine if_intro _ rfl trivial (fun h => ?_) (fun h => ?_)
  · simp only [Tryz.f56, go_sem, Nat.reduceEqDiff, Nat.reduceLT, Nat.reduceLeDiff, Nat.reduceAdd, Nat.reduceSub, Nat.reduceMul, Nat.reduceBEq, Nat.reduceBNe, Int.reduceEq, Int.reduceToNat, Int.reduceNeg, ↓reduceIte, reduceCtorEq, Nat.reduceDiv, Nat.reduceMod, Int.reduceLE, Int.reduceLT, Int.reduceSub, Int.reduceAdd, h]
    exact (hin _ (by simp [wordList]) (of_decide_eq_true h)).symm
  simp only [Tryz.f56, go_sem, Nat.reduceEqDiff, Nat.reduceLT, Nat.reduceLeDiff, Nat.reduceAdd, Nat.reduceSub, Nat.reduceMul, Nat.reduceBEq, Nat.reduceBNe, Int.reduceEq, Int.reduceToNat, Int.reduceNeg, ↓reduceIte, reduceCtorEq, Nat.reduceDiv, Nat.reduceMod, Int.reduceLE, Int.reduceLT, Int.reduceSub, Int.reduceAdd, h, hR]
  clear h
  refine if_intro _ rfl trivial (fun h => ?_) (fun h => ?_)
  · simp only [Tryz.f56, go_sem, Nat.reduceEqDiff, Nat.reduceLT, Nat.reduceLeDiff, Nat.reduceAdd, Nat.reduceSub, Nat.reduceMul, Nat.reduceBEq, Nat.reduceBNe, Int.reduceEq, Int.reduceToNat, Int.reduceNeg, ↓reduceIte, reduceCtorEq, Nat.reduceDiv, Nat.reduceMod, Int.reduceLE, Int.reduceLT, Int.reduceSub, Int.reduceAdd, h]
    exact (hin _ (by simp [wordList]) (of_decide_eq_true h)).symm
  simp only [Tryz.f56, go_sem, Nat.reduceEqDiff, Nat.reduceLT, Nat.reduceLeDiff, Nat.reduceAdd, Nat.reduceSub, Nat.reduceMul, Nat.reduceBEq, Nat.reduceBNe, Int.reduceEq, Int.reduceToNat, Int.reduceNeg, ↓reduceIte, reduceCtorEq, Nat.reduceDiv, Nat.reduceMod, Int.reduceLE, Int.reduceLT, Int.reduceSub, Int.reduceAdd, h, hR]

theorem names1_c (hG : GOk G) (s : ByteArray) : VPure Tryz.prog G 86 [.val (.string s)] (.val (.bool (!nameB s))) := by
  obtain ⟨R, hR, hs⟩ := pureRule (name_c hG s)
  refine VPure.of (.val _) fun sh => ?_
  refine VCalls_enter [] Tryz.func86 rfl (show 1 ≤ 6 by decide) ?_
  refine vCode_sound (tab_ok [R]) _ _ _ ?_
  simp only [Tryz.f86, go_sem, Nat.reduceEqDiff, Nat.reduceLT, Nat.reduceLeDiff, Nat.reduceAdd, Nat.reduceSub, Nat.reduceMul, Nat.reduceBEq, Nat.reduceBNe, Int.reduceEq, Int.reduceToNat, Int.reduceNeg, ↓reduceIte, reduceCtorEq, Nat.reduceDiv, Nat.reduceMod, Int.reduceLE, Int.reduceLT, Int.reduceSub, Int.reduceAdd, hR]

theorem indexFunc_c (P : ByteArray → Bool) (f : FuncId) (hf : ∀ s, VPure Tryz.prog G f [.val (.string s)] (.val (.bool (P s)))) (hc : canCall Tryz.prog f = true) (l : List ByteArray) :
    VPure Tryz.prog G 124 [.slice (encT l), .func f []] (.val (.int .i64 (match l.findIdx? P with | some i => (i : Int) | none => -1))) := by
  obtain ⟨R, hR0, hs⟩ := mkRule (P := Tryz.prog) (G := G) f ByteArray (fun c => [.val (.string c)]) (fun c => .val (.bool (P c))) (fun _ => True)
    (by rintro a b h; simp only [List.cons.injEq, PV.val.injEq, Value.string.injEq, true_and, and_true] at h; simp only [h]) (fun c _ => hf c)
  have hR : ∀ tl c sh, tab (R :: tl) f [.val (.string c)] sh = some (.val (.bool (P c)), sh) := fun tl c sh => hR0 tl c sh trivial
  clear hR0
  refine VPure.of (.val _) fun sh => ?_
  refine VCalls_enter [] Tryz.func124 rfl (show 2 ≤ 19 by decide) ?_
  refine vCode_sound (tab_ok [R]) _ _ _ ?_
  simp only [Tryz.f124, go_sem, Nat.reduceEqDiff, Nat.reduceLT, Nat.reduceLeDiff, Nat.reduceAdd, Nat.reduceSub, Nat.reduceMul, Nat.reduceBEq, Nat.reduceBNe, Int.reduceEq, Int.reduceToNat, Int.reduceNeg, ↓reduceIte, reduceCtorEq, Nat.reduceDiv, Nat.reduceMod, Int.reduceLE, Int.reduceLT, Int.reduceSub, Int.reduceAdd]
  repeat (first | intro _ | refine And.intro (by (intros; first | omega | (simp only [Bool.or_eq_false_iff, Bool.or_eq_true, decide_eq_false_iff_not, beq_iff_eq, Bool.and_eq_true, decide_eq_true_eq, Bool.not_eq_true'] at *; omega) | simp_all)) ?_)
  refine loop_intro (VWp_for [9, 10, 5, 11, 12, 13, 14, 15, 16, 17, 4, 18, 8] (fun i : Nat => [(8, .val (.int .i64 i))]) [] (fun _ => []) [] (fun _ => []) (fun _ => sh)
    (fun i => i ≤ l.length ∧ ∀ j, j < i → P (elm l j) = false) (fun i => l.length - i) 0 ⟨Nat.zero_le _, fun j h => by omega⟩ (by refine ⟨rfl, rfl, rfl, .refl _ _, .refl _ _, .refl _ _, by repeat (first | trivial | rfl | refine ⟨?_, ?_⟩), by repeat (first | trivial | rfl | refine ⟨?_, ?_⟩), by repeat (first | trivial | rfl | refine ⟨?_, ?_⟩), by repeat (first | trivial | exact .inr rfl | exact .inl rfl | refine ⟨?_, ?_⟩), by repeat (first | trivial | exact .inr rfl | exact .inl rfl | refine ⟨?_, ?_⟩), by repeat (first | trivial | exact .inr rfl | exact .inl rfl | refine ⟨?_, ?_⟩), by repeat (first | trivial | exact .inr rfl | exact .inl rfl | refine ⟨?_, ?_⟩)⟩) ?_)
  rintro i ⟨hi, hne⟩
  refine vCode_sound (tab_ok [R]) _ _ _ ?_
  simp only [Tryz.f124, go_sem, Nat.reduceEqDiff, Nat.reduceLT, Nat.reduceLeDiff, Nat.reduceAdd, Nat.reduceSub, Nat.reduceMul, Nat.reduceBEq, Nat.reduceBNe, Int.reduceEq, Int.reduceToNat, Int.reduceNeg, ↓reduceIte, reduceCtorEq, Nat.reduceDiv, Nat.reduceMod, Int.reduceLE, Int.reduceLT, Int.reduceSub, Int.reduceAdd]
  repeat (first | intro _ | refine And.intro (by (intros; first | omega | (simp only [Bool.or_eq_false_iff, Bool.or_eq_true, decide_eq_false_iff_not, beq_iff_eq, Bool.and_eq_true, decide_eq_true_eq, Bool.not_eq_true'] at *; omega) | simp_all)) ?_)
  refine if_intro _ rfl trivial (fun h => ?_) (fun h => ?_)
  · simp only [decide_eq_true_eq, Int.ofNat_lt] at h
    have hw : IntKind.i64.wrap ((i : Int) + 1) = ((i + 1 : Nat) : Int) := by rw [wrap64_id (by omega) (by omega)]; rfl
    simp only [Tryz.f124, go_sem, Nat.reduceEqDiff, Nat.reduceLT, Nat.reduceLeDiff, Nat.reduceAdd, Nat.reduceSub, Nat.reduceMul, Nat.reduceBEq, Nat.reduceBNe, Int.reduceEq, Int.reduceToNat, Int.reduceNeg, ↓reduceIte, reduceCtorEq, Nat.reduceDiv, Nat.reduceMod, Int.reduceLE, Int.reduceLT, Int.reduceSub, Int.reduceAdd, h, hR, hs, hc]
    repeat (first | intro _ | refine And.intro (by (intros; first | omega | (simp only [Bool.or_eq_false_iff, Bool.or_eq_true, decide_eq_false_iff_not, beq_iff_eq, Bool.and_eq_true, decide_eq_true_eq, Bool.not_eq_true'] at *; omega) | simp_all)) ?_)
    refine if_intro _ rfl trivial (fun h2 => ?_) (fun h2 => ?_)
    · simp only [Tryz.f124, go_sem, Nat.reduceEqDiff, Nat.reduceLT, Nat.reduceLeDiff, Nat.reduceAdd, Nat.reduceSub, Nat.reduceMul, Nat.reduceBEq, Nat.reduceBNe, Int.reduceEq, Int.reduceToNat, Int.reduceNeg, ↓reduceIte, reduceCtorEq, Nat.reduceDiv, Nat.reduceMod, Int.reduceLE, Int.reduceLT, Int.reduceSub, Int.reduceAdd]
      rw [List.findIdx?_eq_some_iff_getElem.2 ⟨h, by rw [← elm_eq h]; exact h2, fun j hj => by rw [← elm_eq (by omega)]; simpa using hne j hj⟩]
    · simp only [Tryz.f124, go_sem, Nat.reduceEqDiff, Nat.reduceLT, Nat.reduceLeDiff, Nat.reduceAdd, Nat.reduceSub, Nat.reduceMul, Nat.reduceBEq, Nat.reduceBNe, Int.reduceEq, Int.reduceToNat, Int.reduceNeg, ↓reduceIte, reduceCtorEq, Nat.reduceDiv, Nat.reduceMod, Int.reduceLE, Int.reduceLT, Int.reduceSub, Int.reduceAdd, hw]
      refine ⟨i + 1, ⟨h, fun j hj => ?_⟩, by omega, ?_⟩
      · by_cases e : j = i
        · subst e; exact h2
        · exact hne j (by omega)
      · refine ⟨rfl, rfl, rfl, by repeat (first | exact AgreeOff.refl _ _ | refine AgreeOff.upd rfl ?_ | refine AgreeOff.over rfl ?_), by repeat (first | exact AgreeOff.refl _ _ | refine AgreeOff.upd rfl ?_ | refine AgreeOff.over rfl ?_), by repeat (first | exact AgreeOff.refl _ _ | refine AgreeOff.upd rfl ?_ | refine AgreeOff.over rfl ?_), ?_, by repeat (first | trivial | exact .inr rfl | exact .inl rfl | refine ⟨?_, ?_⟩), by repeat (first | trivial | exact .inr rfl | exact .inl rfl | refine ⟨?_, ?_⟩), by repeat (first | trivial | exact .inr rfl | exact .inl rfl | refine ⟨?_, ?_⟩), by repeat (first | trivial | exact .inr rfl | exact .inl rfl | refine ⟨?_, ?_⟩), by repeat (first | trivial | exact .inr rfl | exact .inl rfl | refine ⟨?_, ?_⟩), by repeat (first | trivial | exact .inr rfl | exact .inl rfl | refine ⟨?_, ?_⟩)⟩
        exact ⟨rfl, trivial⟩
  · simp only [decide_eq_false_iff_not, Int.ofNat_lt] at h
    simp only [Tryz.f124, go_sem, Nat.reduceEqDiff, Nat.reduceLT, Nat.reduceLeDiff, Nat.reduceAdd, Nat.reduceSub, Nat.reduceMul, Nat.reduceBEq, Nat.reduceBNe, Int.reduceEq, Int.reduceToNat, Int.reduceNeg, ↓reduceIte, reduceCtorEq, Nat.reduceDiv, Nat.reduceMod, Int.reduceLE, Int.reduceLT, Int.reduceSub, Int.reduceAdd]
    rw [List.findIdx?_eq_none_iff.2 fun x hx => by
      obtain ⟨j, hj, rfl⟩ := List.getElem_of_mem hx
      rw [← elm_eq hj]; exact hne j (by omega)]

theorem containsFunc_c (P : ByteArray → Bool) (f : FuncId) (hf : ∀ s, VPure Tryz.prog G f [.val (.string s)] (.val (.bool (P s)))) (hc : canCall Tryz.prog f = true) (l : List ByteArray) :
    VPure Tryz.prog G 85 [.slice (encT l), .func f []] (.val (.bool (l.any P))) := by
  obtain ⟨R, hR, hs⟩ := pureRule (indexFunc_c P f hf hc l)
  refine VPure.of (.val _) fun sh => ?_
  refine VCalls_enter [] Tryz.func85 rfl (show 2 ≤ 9 by decide) ?_
  refine vCode_sound (tab_ok [R]) _ _ _ ?_
  have ha : l.any P = decide (0 ≤ (match l.findIdx? P with | some i => (i : Int) | none => -1)) := by
    cases hx : l.findIdx? P with
    | some i =>
      have := List.findIdx?_eq_some_iff_getElem.1 hx
      obtain ⟨h1, h2, _⟩ := this
      rw [List.any_eq_true.2 ⟨l[i], List.getElem_mem h1, h2⟩]
      simp
    | none =>
      have := List.findIdx?_eq_none_iff.1 hx
      rw [List.any_eq_false.2 fun x hx => by simp [this x hx]]
      simp
  rw [ha]
  generalize (match l.findIdx? P with | some i => (i : Int) | none => -1) = k at hR ⊢
  simp only [Tryz.f85, go_sem, Nat.reduceEqDiff, Nat.reduceLT, Nat.reduceLeDiff, Nat.reduceAdd, Nat.reduceSub, Nat.reduceMul, Nat.reduceBEq, Nat.reduceBNe, Int.reduceEq, Int.reduceToNat, Int.reduceNeg, ↓reduceIte, reduceCtorEq, Nat.reduceDiv, Nat.reduceMod, Int.reduceLE, Int.reduceLT, Int.reduceSub, Int.reduceAdd, hR]

theorem names2_c (hG : GOk G) (l : List ByteArray) : VPure Tryz.prog G 55 [.slice (encT l)] (.val (.bool (l.all nameB))) := by
  obtain ⟨R, hR, hs⟩ := pureRule (containsFunc_c (fun s => !nameB s) 86 (names1_c hG) rfl l)
  refine VPure.of (.val _) fun sh => ?_
  refine VCalls_enter [] Tryz.func55 rfl (show 1 ≤ 6 by decide) ?_
  refine vCode_sound (tab_ok [R]) _ _ _ ?_
  have ha : l.all nameB = !l.any fun s => !nameB s := by
    rw [Bool.eq_iff_iff]
    simp
  rw [ha]
  simp only [Tryz.f55, go_sem, Nat.reduceEqDiff, Nat.reduceLT, Nat.reduceLeDiff, Nat.reduceAdd, Nat.reduceSub, Nat.reduceMul, Nat.reduceBEq, Nat.reduceBNe, Int.reduceEq, Int.reduceToNat, Int.reduceNeg, ↓reduceIte, reduceCtorEq, Nat.reduceDiv, Nat.reduceMod, Int.reduceLE, Int.reduceLT, Int.reduceSub, Int.reduceAdd, hR]
end Go.Proofs.YtaackmiajgapoaaGreatDoor.V
