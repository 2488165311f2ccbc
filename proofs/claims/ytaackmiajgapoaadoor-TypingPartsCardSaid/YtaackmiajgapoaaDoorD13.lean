/- The checker (typing): functions by name. -/
import Derived.Test.YtaackmiajgapoaaDoorD12
set_option maxHeartbeats 16000000
set_option maxRecDepth 100000
set_option linter.unusedSimpArgs false
set_option linter.unusedVariables false
namespace Go.Proofs.YtaackmiajgapoaaDoor.V
open Go
variable {G : Nat → Option (List PV)}

theorem only_c (k : Int) (b : Bool) : VPure Tryd.prog G 103 [.val (.int .i64 k), .val (.bool b)] (.val (.int .i64 (cond b k 0))) := by
  refine VPure.of (.val _) fun sh => ?_
  refine VCalls_enter [] Tryd.func103 rfl (show 2 ≤ 7 by decide) ?_
  refine vCode_sound (tab_ok []) _ _ _ ?_
  simp only [Tryd.f103, go_sem, Nat.reduceEqDiff, Nat.reduceLT, Nat.reduceLeDiff, Nat.reduceAdd, Nat.reduceSub, Nat.reduceMul, Nat.reduceBEq, Nat.reduceBNe, Int.reduceEq, Int.reduceToNat, Int.reduceNeg, ↓reduceIte, reduceCtorEq, Nat.reduceDiv, Nat.reduceMod, Int.reduceLE, Int.reduceLT, Int.reduceSub, Int.reduceAdd]
  refine if_intro _ rfl trivial (fun h => ?_) (fun h => ?_)
  · subst h
    simp only [Tryd.f103, go_sem, Nat.reduceEqDiff, Nat.reduceLT, Nat.reduceLeDiff, Nat.reduceAdd, Nat.reduceSub, Nat.reduceMul, Nat.reduceBEq, Nat.reduceBNe, Int.reduceEq, Int.reduceToNat, Int.reduceNeg, ↓reduceIte, reduceCtorEq, Nat.reduceDiv, Nat.reduceMod, Int.reduceLE, Int.reduceLT, Int.reduceSub, Int.reduceAdd]
  · subst h
    simp only [Tryd.f103, go_sem, Nat.reduceEqDiff, Nat.reduceLT, Nat.reduceLeDiff, Nat.reduceAdd, Nat.reduceSub, Nat.reduceMul, Nat.reduceBEq, Nat.reduceBNe, Int.reduceEq, Int.reduceToNat, Int.reduceNeg, ↓reduceIte, reduceCtorEq, Nat.reduceDiv, Nat.reduceMod, Int.reduceLE, Int.reduceLT, Int.reduceSub, Int.reduceAdd]
noncomputable def r103 : Rule Tryd.prog G := Rule.pure 103 ((Int) × (Bool)) (fun x => match x with | (k, b) => [.val (.int .i64 k), .val (.bool b)]) (fun x => match x with | (k, b) => .val (.int .i64 (cond b k 0))) (by rintro ⟨k1, b1⟩ ⟨k2, b2⟩ h; simp only [List.cons.injEq, PV.agg.injEq, PV.val.injEq, PV.slice.injEq, Value.int.injEq, Value.bool.injEq, Value.string.injEq, encE_iff, encEs_iff, encS_iff, encSs_iff, encT_iff, encF_iff, encP_iff, Int.natCast_inj, true_and, and_true] at h; simp only [h]) (fun ⟨k, b⟩ => only_c k b)
theorem r103_at (tl : List (Rule Tryd.prog G)) (k : Int) (b : Bool) (sh : Sh) : tab (r103 :: tl) 103 [.val (.int .i64 k), .val (.bool b)] sh = some (.val (.int .i64 (cond b k 0)), sh) := by
  have this : tab (r103 :: tl) 103 [.val (.int .i64 k), .val (.bool b)] sh = some (.val (.int .i64 (cond b k 0)), sh) := tab_pure tl ((k, b) : (Int) × (Bool)) sh
  exact this
theorem r103_skip (tl : List (Rule Tryd.prog G)) (f : FuncId) (args : List PV) (sh : Sh) (h : f ≠ 103) : tab (r103 :: tl) f args sh = tab tl f args sh := tab_skip _ tl f args sh h

/-- Is this a function of the name that a box holds? -/
theorem named_c (f : Fn) (nb : Nat) (s : ByteArray) (sh : Sh) (hb : sh.mem nb = some [.val (.string s)]) : VCalls Tryd.prog G 132 [.agg (encF f), .box nb 0] sh fun e s' => e = .ret (.val (.bool (decide (f.name = s)))) ∧ s' = sh := by
  refine VCalls_enter [] Tryd.func132 rfl (show 2 ≤ 8 by decide) ?_
  refine vCode_sound (tab_ok []) _ _ _ ?_
  simp only [Tryd.f132, go_sem, Nat.reduceEqDiff, Nat.reduceLT, Nat.reduceLeDiff, Nat.reduceAdd, Nat.reduceSub, Nat.reduceMul, Nat.reduceBEq, Nat.reduceBNe, Int.reduceEq, Int.reduceToNat, Int.reduceNeg, ↓reduceIte, reduceCtorEq, Nat.reduceDiv, Nat.reduceMod, Int.reduceLE, Int.reduceLT, Int.reduceSub, Int.reduceAdd, hb]
noncomputable def r132 : Rule Tryd.prog G where
  f := 132
  ι := Fn × Nat × ByteArray
  A := fun x => [.agg (encF x.1), .box x.2.1 0]
  dom := fun x sh => sh.mem x.2.1 = some [.val (.string x.2.2)]
  res := fun x _ => .val (.bool (decide (x.1.name = x.2.2)))
  sh' := fun _ sh => sh
  inj := by
    rintro ⟨f, b, s⟩ ⟨f', b', s'⟩ sh h h1 h2
    simp only [List.cons.injEq, PV.agg.injEq, PV.box.injEq, encF_iff, and_true] at h
    obtain ⟨rfl, rfl⟩ := h
    simp only at h1 h2
    rw [h1] at h2
    simp only [Option.some.injEq, List.cons.injEq, PV.val.injEq, Value.string.injEq, and_true] at h2
    subst h2
    exact ⟨rfl, rfl⟩
  ok := fun x sh h => named_c x.1 x.2.1 x.2.2 sh h
theorem r132_at (tl : List (Rule Tryd.prog G)) (f : Fn) (nb : Nat) (s : ByteArray) (sh : Sh) (hb : sh.mem nb = some [.val (.string s)]) :
    tab (r132 :: tl) 132 [.agg [.val (.string f.name), .slice (encT f.params), .slice (encT f.locals), .val (.bool f.word), .slice (f.body.map encS)], .box nb 0] sh = some (.val (.bool (decide (f.name = s))), sh) :=
  tab_at r132 tl (f, nb, s) sh hb
theorem r132_skip (tl : List (Rule Tryd.prog G)) (f : FuncId) (args : List PV) (sh : Sh) (h : f ≠ 132) : tab (r132 :: tl) f args sh = tab tl f args sh := tab_skip _ tl f args sh h

theorem indexFn_c (l : List Fn) (nb : Nat) (s : ByteArray) (sh : Sh) (hb : sh.mem nb = some [.val (.string s)]) : VCalls Tryd.prog G 131 [.slice (l.map encF), .func 132 [.box nb 0]] sh fun e s' => e = .ret (.val (.int .i64 (fnIdx l s))) ∧ s' = sh := by
  refine VCalls_enter [] Tryd.func131 rfl (show 2 ≤ 19 by decide) ?_
  refine vCode_sound (tab_ok [r132]) _ _ _ ?_
  have hat := fun tl f => r132_at (G := G) tl f nb s sh hb
  simp only [Tryd.f131, go_sem, Nat.reduceEqDiff, Nat.reduceLT, Nat.reduceLeDiff, Nat.reduceAdd, Nat.reduceSub, Nat.reduceMul, Nat.reduceBEq, Nat.reduceBNe, Int.reduceEq, Int.reduceToNat, Int.reduceNeg, ↓reduceIte, reduceCtorEq, Nat.reduceDiv, Nat.reduceMod, Int.reduceLE, Int.reduceLT, Int.reduceSub, Int.reduceAdd]
  repeat (first | intro _ | refine And.intro (by (intros; first | omega | (simp only [Bool.or_eq_false_iff, Bool.or_eq_true, decide_eq_false_iff_not, beq_iff_eq, Bool.and_eq_true, decide_eq_true_eq, Bool.not_eq_true'] at *; omega) | simp_all)) ?_)
  refine loop_intro (VWp_for [9, 10, 5, 11, 12, 13, 14, 15, 16, 17, 4, 18, 8] (fun i : Nat => [(8, .val (.int .i64 i))]) [] (fun _ => []) [] (fun _ => []) (fun _ => sh)
    (fun i => i ≤ l.length ∧ ∀ j, j < i → (elm l j).name ≠ s) (fun i => l.length - i) 0 ⟨Nat.zero_le _, fun j h => by omega⟩ (by refine ⟨rfl, rfl, rfl, .refl _ _, .refl _ _, .refl _ _, by repeat (first | trivial | rfl | refine ⟨?_, ?_⟩), by repeat (first | trivial | rfl | refine ⟨?_, ?_⟩), by repeat (first | trivial | rfl | refine ⟨?_, ?_⟩), by repeat (first | trivial | exact .inr rfl | exact .inl rfl | refine ⟨?_, ?_⟩), by repeat (first | trivial | exact .inr rfl | exact .inl rfl | refine ⟨?_, ?_⟩), by repeat (first | trivial | exact .inr rfl | exact .inl rfl | refine ⟨?_, ?_⟩), by repeat (first | trivial | exact .inr rfl | exact .inl rfl | refine ⟨?_, ?_⟩)⟩) ?_)
  rintro i ⟨hi, hne⟩
  refine vCode_sound (tab_ok [r132]) _ _ _ ?_
  simp only [Tryd.f131, go_sem, Nat.reduceEqDiff, Nat.reduceLT, Nat.reduceLeDiff, Nat.reduceAdd, Nat.reduceSub, Nat.reduceMul, Nat.reduceBEq, Nat.reduceBNe, Int.reduceEq, Int.reduceToNat, Int.reduceNeg, ↓reduceIte, reduceCtorEq, Nat.reduceDiv, Nat.reduceMod, Int.reduceLE, Int.reduceLT, Int.reduceSub, Int.reduceAdd]
  repeat (first | intro _ | refine And.intro (by (intros; first | omega | (simp only [Bool.or_eq_false_iff, Bool.or_eq_true, decide_eq_false_iff_not, beq_iff_eq, Bool.and_eq_true, decide_eq_true_eq, Bool.not_eq_true'] at *; omega) | simp_all)) ?_)
  refine if_intro _ rfl trivial (fun h => ?_) (fun h => ?_)
  · simp only [decide_eq_true_eq, Int.ofNat_lt] at h
    have hw : IntKind.i64.wrap ((i : Int) + 1) = ((i + 1 : Nat) : Int) := by rw [wrap64_id (by omega) (by omega)]; rfl
    simp only [Tryd.f131, go_sem, Nat.reduceEqDiff, Nat.reduceLT, Nat.reduceLeDiff, Nat.reduceAdd, Nat.reduceSub, Nat.reduceMul, Nat.reduceBEq, Nat.reduceBNe, Int.reduceEq, Int.reduceToNat, Int.reduceNeg, ↓reduceIte, reduceCtorEq, Nat.reduceDiv, Nat.reduceMod, Int.reduceLE, Int.reduceLT, Int.reduceSub, Int.reduceAdd, h, hat, canCall_132]
    repeat (first | intro _ | refine And.intro (by (intros; first | omega | (simp only [Bool.or_eq_false_iff, Bool.or_eq_true, decide_eq_false_iff_not, beq_iff_eq, Bool.and_eq_true, decide_eq_true_eq, Bool.not_eq_true'] at *; omega) | simp_all)) ?_)
    refine if_intro _ rfl trivial (fun h2 => ?_) (fun h2 => ?_)
    · simp only [decide_eq_true_eq] at h2
      simp only [Tryd.f131, go_sem, Nat.reduceEqDiff, Nat.reduceLT, Nat.reduceLeDiff, Nat.reduceAdd, Nat.reduceSub, Nat.reduceMul, Nat.reduceBEq, Nat.reduceBNe, Int.reduceEq, Int.reduceToNat, Int.reduceNeg, ↓reduceIte, reduceCtorEq, Nat.reduceDiv, Nat.reduceMod, Int.reduceLE, Int.reduceLT, Int.reduceSub, Int.reduceAdd]
      exact (fnIdx_at h hne h2).symm
    · simp only [decide_eq_false_iff_not] at h2
      simp only [Tryd.f131, go_sem, Nat.reduceEqDiff, Nat.reduceLT, Nat.reduceLeDiff, Nat.reduceAdd, Nat.reduceSub, Nat.reduceMul, Nat.reduceBEq, Nat.reduceBNe, Int.reduceEq, Int.reduceToNat, Int.reduceNeg, ↓reduceIte, reduceCtorEq, Nat.reduceDiv, Nat.reduceMod, Int.reduceLE, Int.reduceLT, Int.reduceSub, Int.reduceAdd, hw]
      refine ⟨i + 1, ⟨h, fun j hj => ?_⟩, by omega, ?_⟩
      · by_cases e : j = i
        · subst e; exact h2
        · exact hne j (by omega)
      · refine ⟨rfl, rfl, rfl, by repeat (first | exact AgreeOff.refl _ _ | refine AgreeOff.upd rfl ?_ | refine AgreeOff.over rfl ?_), by repeat (first | exact AgreeOff.refl _ _ | refine AgreeOff.upd rfl ?_ | refine AgreeOff.over rfl ?_), by repeat (first | exact AgreeOff.refl _ _ | refine AgreeOff.upd rfl ?_ | refine AgreeOff.over rfl ?_), ?_, by repeat (first | trivial | exact .inr rfl | exact .inl rfl | refine ⟨?_, ?_⟩), by repeat (first | trivial | exact .inr rfl | exact .inl rfl | refine ⟨?_, ?_⟩), by repeat (first | trivial | exact .inr rfl | exact .inl rfl | refine ⟨?_, ?_⟩), by repeat (first | trivial | exact .inr rfl | exact .inl rfl | refine ⟨?_, ?_⟩), by repeat (first | trivial | exact .inr rfl | exact .inl rfl | refine ⟨?_, ?_⟩), by repeat (first | trivial | exact .inr rfl | exact .inl rfl | refine ⟨?_, ?_⟩)⟩
        exact ⟨rfl, trivial⟩
  · simp only [decide_eq_false_iff_not, Int.ofNat_lt] at h
    simp only [Tryd.f131, go_sem, Nat.reduceEqDiff, Nat.reduceLT, Nat.reduceLeDiff, Nat.reduceAdd, Nat.reduceSub, Nat.reduceMul, Nat.reduceBEq, Nat.reduceBNe, Int.reduceEq, Int.reduceToNat, Int.reduceNeg, ↓reduceIte, reduceCtorEq, Nat.reduceDiv, Nat.reduceMod, Int.reduceLE, Int.reduceLT, Int.reduceSub, Int.reduceAdd]
    exact (fnIdx_none fun j hj => hne j (by omega)).symm
end Go.Proofs.YtaackmiajgapoaaDoor.V
