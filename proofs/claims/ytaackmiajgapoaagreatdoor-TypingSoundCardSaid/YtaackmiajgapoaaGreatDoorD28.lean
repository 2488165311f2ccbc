/- What a name is in a function (scope). -/
import Derived.Test.YtaackmiajgapoaaGreatDoorD27
import Derived.Test.YtaackmiajgapoaaGreatDoorVB
set_option maxRecDepth 100000
set_option maxHeartbeats 16000000
set_option linter.unusedSimpArgs false
set_option linter.unusedVariables false
namespace Go.Proofs.YtaackmiajgapoaaGreatDoor.V
open Go
variable {G : Nat → Option (List PV)}

theorem named2_c (f : Fn) (nb : Nat) (s : ByteArray) (sh : Sh) (hb : sh.mem nb = some [.val (.string s)]) : VCalls Tryz.prog G 138 [.agg (encF f), .box nb 0] sh fun e s' => e = .ret (.val (.bool (decide (f.name = s)))) ∧ s' = sh := by
  refine VCalls_enter [] Tryz.func138 rfl (show 2 ≤ 8 by decide) ?_
  refine vCode_sound (tab_ok []) _ _ _ ?_
  simp only [Tryz.f138, go_sem, Nat.reduceEqDiff, Nat.reduceLT, Nat.reduceLeDiff, Nat.reduceAdd, Nat.reduceSub, Nat.reduceMul, Nat.reduceBEq, Nat.reduceBNe, Int.reduceEq, Int.reduceToNat, Int.reduceNeg, ↓reduceIte, reduceCtorEq, Nat.reduceDiv, Nat.reduceMod, Int.reduceLE, Int.reduceLT, Int.reduceSub, Int.reduceAdd, hb]
theorem named3_c (f : Ar) (nb : Nat) (s : ByteArray) (sh : Sh) (hb : sh.mem nb = some [.val (.string s)]) : VCalls Tryz.prog G 136 [.agg (encA f), .box nb 0] sh fun e s' => e = .ret (.val (.bool (decide (f.name = s)))) ∧ s' = sh := by
  refine VCalls_enter [] Tryz.func136 rfl (show 2 ≤ 8 by decide) ?_
  refine vCode_sound (tab_ok []) _ _ _ ?_
  simp only [Tryz.f136, go_sem, Nat.reduceEqDiff, Nat.reduceLT, Nat.reduceLeDiff, Nat.reduceAdd, Nat.reduceSub, Nat.reduceMul, Nat.reduceBEq, Nat.reduceBNe, Int.reduceEq, Int.reduceToNat, Int.reduceNeg, ↓reduceIte, reduceCtorEq, Nat.reduceDiv, Nat.reduceMod, Int.reduceLE, Int.reduceLT, Int.reduceSub, Int.reduceAdd, hb]

theorem encA_iff (a b : Ar) : encA a = encA b ↔ a = b := ⟨encA_inj a b, fun h => by rw [h]⟩

theorem indexFn2_c (l : List Fn) (nb : Nat) (s : ByteArray) (sh : Sh) (hb : sh.mem nb = some [.val (.string s)]) : VCalls Tryz.prog G 137 [.slice (l.map encF), .func 138 [.box nb 0]] sh fun e s' => e = .ret (.val (.int .i64 (fnIdx l s))) ∧ s' = sh := by
  refine VCalls_enter [] Tryz.func137 rfl (show 2 ≤ 19 by decide) ?_
  let R : Rule Tryz.prog G := { f := 138, ι := Fn, A := fun f => [.agg (encF f), .box nb 0], dom := fun _ s' => s' = sh, res := fun f _ => .val (.bool (decide (f.name = s))), sh' := fun _ s => s, inj := (by
      rintro x y s' h _ _
      simp only [List.cons.injEq, PV.agg.injEq, encF_iff, and_true] at h
      simp only [h]; exact ⟨trivial, trivial⟩), ok := (by rintro f s' rfl; exact named2_c f nb s _ hb) }
  have hat : ∀ tl (f : Fn), tab (R :: tl) 138 [.agg [.val (.string f.name), .slice (encT f.params), .slice (encT f.locals), .val (.bool f.word), .slice (f.body.map encS)], .box nb 0] sh = some (.val (.bool (decide (f.name = s))), sh) := fun tl f => tab_at R tl f sh rfl
  clear_value R
  refine vCode_sound (tab_ok [R]) _ _ _ ?_
  simp only [Tryz.f137, go_sem, Nat.reduceEqDiff, Nat.reduceLT, Nat.reduceLeDiff, Nat.reduceAdd, Nat.reduceSub, Nat.reduceMul, Nat.reduceBEq, Nat.reduceBNe, Int.reduceEq, Int.reduceToNat, Int.reduceNeg, ↓reduceIte, reduceCtorEq, Nat.reduceDiv, Nat.reduceMod, Int.reduceLE, Int.reduceLT, Int.reduceSub, Int.reduceAdd]
  repeat (first | intro _ | refine And.intro (by (intros; first | omega | (simp only [Bool.or_eq_false_iff, Bool.or_eq_true, decide_eq_false_iff_not, beq_iff_eq, Bool.and_eq_true, decide_eq_true_eq, Bool.not_eq_true'] at *; omega) | simp_all)) ?_)
  refine loop_intro (VWp_for [9, 10, 5, 11, 12, 13, 14, 15, 16, 17, 4, 18, 8] (fun i : Nat => [(8, .val (.int .i64 i))]) [] (fun _ => []) [] (fun _ => []) (fun _ => sh)
    (fun i => i ≤ l.length ∧ ∀ j, j < i → (elm l j).name ≠ s) (fun i => l.length - i) 0 ⟨Nat.zero_le _, fun j h => by omega⟩ (by refine ⟨rfl, rfl, rfl, .refl _ _, .refl _ _, .refl _ _, by repeat (first | trivial | rfl | refine ⟨?_, ?_⟩), by repeat (first | trivial | rfl | refine ⟨?_, ?_⟩), by repeat (first | trivial | rfl | refine ⟨?_, ?_⟩), by repeat (first | trivial | exact .inr rfl | exact .inl rfl | refine ⟨?_, ?_⟩), by repeat (first | trivial | exact .inr rfl | exact .inl rfl | refine ⟨?_, ?_⟩), by repeat (first | trivial | exact .inr rfl | exact .inl rfl | refine ⟨?_, ?_⟩), by repeat (first | trivial | exact .inr rfl | exact .inl rfl | refine ⟨?_, ?_⟩)⟩) ?_)
  rintro i ⟨hi, hne⟩
  refine vCode_sound (tab_ok [R]) _ _ _ ?_
  simp only [Tryz.f137, go_sem, Nat.reduceEqDiff, Nat.reduceLT, Nat.reduceLeDiff, Nat.reduceAdd, Nat.reduceSub, Nat.reduceMul, Nat.reduceBEq, Nat.reduceBNe, Int.reduceEq, Int.reduceToNat, Int.reduceNeg, ↓reduceIte, reduceCtorEq, Nat.reduceDiv, Nat.reduceMod, Int.reduceLE, Int.reduceLT, Int.reduceSub, Int.reduceAdd]
  repeat (first | intro _ | refine And.intro (by (intros; first | omega | (simp only [Bool.or_eq_false_iff, Bool.or_eq_true, decide_eq_false_iff_not, beq_iff_eq, Bool.and_eq_true, decide_eq_true_eq, Bool.not_eq_true'] at *; omega) | simp_all)) ?_)
  refine if_intro _ rfl trivial (fun h => ?_) (fun h => ?_)
  · simp only [decide_eq_true_eq, Int.ofNat_lt] at h
    have hw : IntKind.i64.wrap ((i : Int) + 1) = ((i + 1 : Nat) : Int) := by rw [wrap64_id (by omega) (by omega)]; rfl
    simp only [Tryz.f137, go_sem, Nat.reduceEqDiff, Nat.reduceLT, Nat.reduceLeDiff, Nat.reduceAdd, Nat.reduceSub, Nat.reduceMul, Nat.reduceBEq, Nat.reduceBNe, Int.reduceEq, Int.reduceToNat, Int.reduceNeg, ↓reduceIte, reduceCtorEq, Nat.reduceDiv, Nat.reduceMod, Int.reduceLE, Int.reduceLT, Int.reduceSub, Int.reduceAdd, h, hat, canCall_138]
    repeat (first | intro _ | refine And.intro (by (intros; first | omega | (simp only [Bool.or_eq_false_iff, Bool.or_eq_true, decide_eq_false_iff_not, beq_iff_eq, Bool.and_eq_true, decide_eq_true_eq, Bool.not_eq_true'] at *; omega) | simp_all)) ?_)
    refine if_intro _ rfl trivial (fun h2 => ?_) (fun h2 => ?_)
    · simp only [decide_eq_true_eq] at h2
      simp only [Tryz.f137, go_sem, Nat.reduceEqDiff, Nat.reduceLT, Nat.reduceLeDiff, Nat.reduceAdd, Nat.reduceSub, Nat.reduceMul, Nat.reduceBEq, Nat.reduceBNe, Int.reduceEq, Int.reduceToNat, Int.reduceNeg, ↓reduceIte, reduceCtorEq, Nat.reduceDiv, Nat.reduceMod, Int.reduceLE, Int.reduceLT, Int.reduceSub, Int.reduceAdd]
      exact (fnIdx_at h hne h2).symm
    · simp only [decide_eq_false_iff_not] at h2
      simp only [Tryz.f137, go_sem, Nat.reduceEqDiff, Nat.reduceLT, Nat.reduceLeDiff, Nat.reduceAdd, Nat.reduceSub, Nat.reduceMul, Nat.reduceBEq, Nat.reduceBNe, Int.reduceEq, Int.reduceToNat, Int.reduceNeg, ↓reduceIte, reduceCtorEq, Nat.reduceDiv, Nat.reduceMod, Int.reduceLE, Int.reduceLT, Int.reduceSub, Int.reduceAdd, hw]
      refine ⟨i + 1, ⟨h, fun j hj => ?_⟩, by omega, ?_⟩
      · by_cases e : j = i
        · subst e; exact h2
        · exact hne j (by omega)
      · refine ⟨rfl, rfl, rfl, by repeat (first | exact AgreeOff.refl _ _ | refine AgreeOff.upd rfl ?_ | refine AgreeOff.over rfl ?_), by repeat (first | exact AgreeOff.refl _ _ | refine AgreeOff.upd rfl ?_ | refine AgreeOff.over rfl ?_), by repeat (first | exact AgreeOff.refl _ _ | refine AgreeOff.upd rfl ?_ | refine AgreeOff.over rfl ?_), ?_, by repeat (first | trivial | exact .inr rfl | exact .inl rfl | refine ⟨?_, ?_⟩), by repeat (first | trivial | exact .inr rfl | exact .inl rfl | refine ⟨?_, ?_⟩), by repeat (first | trivial | exact .inr rfl | exact .inl rfl | refine ⟨?_, ?_⟩), by repeat (first | trivial | exact .inr rfl | exact .inl rfl | refine ⟨?_, ?_⟩), by repeat (first | trivial | exact .inr rfl | exact .inl rfl | refine ⟨?_, ?_⟩), by repeat (first | trivial | exact .inr rfl | exact .inl rfl | refine ⟨?_, ?_⟩)⟩
        exact ⟨rfl, trivial⟩
  · simp only [decide_eq_false_iff_not, Int.ofNat_lt] at h
    simp only [Tryz.f137, go_sem, Nat.reduceEqDiff, Nat.reduceLT, Nat.reduceLeDiff, Nat.reduceAdd, Nat.reduceSub, Nat.reduceMul, Nat.reduceBEq, Nat.reduceBNe, Int.reduceEq, Int.reduceToNat, Int.reduceNeg, ↓reduceIte, reduceCtorEq, Nat.reduceDiv, Nat.reduceMod, Int.reduceLE, Int.reduceLT, Int.reduceSub, Int.reduceAdd]
    exact (fnIdx_none fun j hj => hne j (by omega)).symm

/-- The first array of a name. -/
def arIdx (l : List Ar) (s : ByteArray) : Int := match l.findIdx? (fun f => decide (f.name = s)) with | some i => (i : Int) | none => -1
theorem arIdx_at {l : List Ar} {s : ByteArray} {i : Nat} (h : i < l.length) (h1 : ∀ j, j < i → (elm l j).name ≠ s) (h2 : (elm l i).name = s) : arIdx l s = i := by
  unfold arIdx
  rw [List.findIdx?_eq_some_iff_getElem.2 ⟨h, by rw [← elm_eq h]; simpa using h2, fun j hj => by rw [← elm_eq (by omega)]; simpa using h1 j hj⟩]
theorem arIdx_none {l : List Ar} {s : ByteArray} (h1 : ∀ j, j < l.length → (elm l j).name ≠ s) : arIdx l s = -1 := by
  unfold arIdx
  rw [List.findIdx?_eq_none_iff.2 fun x hx => by
    obtain ⟨j, hj, rfl⟩ := List.getElem_of_mem hx
    rw [← elm_eq hj]; simpa using h1 j hj]
theorem indexAr_c (l : List Ar) (nb : Nat) (s : ByteArray) (sh : Sh) (hb : sh.mem nb = some [.val (.string s)]) : VCalls Tryz.prog G 135 [.slice (l.map encA), .func 136 [.box nb 0]] sh fun e s' => e = .ret (.val (.int .i64 (arIdx l s))) ∧ s' = sh := by
  refine VCalls_enter [] Tryz.func135 rfl (show 2 ≤ 19 by decide) ?_
  let R : Rule Tryz.prog G := { f := 136, ι := Ar, A := fun f => [.agg (encA f), .box nb 0], dom := fun _ s' => s' = sh, res := fun f _ => .val (.bool (decide (f.name = s))), sh' := fun _ s => s, inj := (by
      rintro x y s' h _ _
      simp only [List.cons.injEq, PV.agg.injEq, encA_iff, and_true] at h
      simp only [h]; exact ⟨trivial, trivial⟩), ok := (by rintro f s' rfl; exact named3_c f nb s _ hb) }
  have hat : ∀ tl (f : Ar), tab (R :: tl) 136 [.agg [.val (.string f.name), .val (.int .i64 f.size)], .box nb 0] sh = some (.val (.bool (decide (f.name = s))), sh) := fun tl f => tab_at R tl f sh rfl
  clear_value R
  refine vCode_sound (tab_ok [R]) _ _ _ ?_
  simp only [Tryz.f135, go_sem, Nat.reduceEqDiff, Nat.reduceLT, Nat.reduceLeDiff, Nat.reduceAdd, Nat.reduceSub, Nat.reduceMul, Nat.reduceBEq, Nat.reduceBNe, Int.reduceEq, Int.reduceToNat, Int.reduceNeg, ↓reduceIte, reduceCtorEq, Nat.reduceDiv, Nat.reduceMod, Int.reduceLE, Int.reduceLT, Int.reduceSub, Int.reduceAdd]
  repeat (first | intro _ | refine And.intro (by (intros; first | omega | (simp only [Bool.or_eq_false_iff, Bool.or_eq_true, decide_eq_false_iff_not, beq_iff_eq, Bool.and_eq_true, decide_eq_true_eq, Bool.not_eq_true'] at *; omega) | simp_all)) ?_)
  refine loop_intro (VWp_for [9, 10, 5, 11, 12, 13, 14, 15, 16, 17, 4, 18, 8] (fun i : Nat => [(8, .val (.int .i64 i))]) [] (fun _ => []) [] (fun _ => []) (fun _ => sh)
    (fun i => i ≤ l.length ∧ ∀ j, j < i → (elm l j).name ≠ s) (fun i => l.length - i) 0 ⟨Nat.zero_le _, fun j h => by omega⟩ (by refine ⟨rfl, rfl, rfl, .refl _ _, .refl _ _, .refl _ _, by repeat (first | trivial | rfl | refine ⟨?_, ?_⟩), by repeat (first | trivial | rfl | refine ⟨?_, ?_⟩), by repeat (first | trivial | rfl | refine ⟨?_, ?_⟩), by repeat (first | trivial | exact .inr rfl | exact .inl rfl | refine ⟨?_, ?_⟩), by repeat (first | trivial | exact .inr rfl | exact .inl rfl | refine ⟨?_, ?_⟩), by repeat (first | trivial | exact .inr rfl | exact .inl rfl | refine ⟨?_, ?_⟩), by repeat (first | trivial | exact .inr rfl | exact .inl rfl | refine ⟨?_, ?_⟩)⟩) ?_)
  rintro i ⟨hi, hne⟩
  refine vCode_sound (tab_ok [R]) _ _ _ ?_
  simp only [Tryz.f135, go_sem, Nat.reduceEqDiff, Nat.reduceLT, Nat.reduceLeDiff, Nat.reduceAdd, Nat.reduceSub, Nat.reduceMul, Nat.reduceBEq, Nat.reduceBNe, Int.reduceEq, Int.reduceToNat, Int.reduceNeg, ↓reduceIte, reduceCtorEq, Nat.reduceDiv, Nat.reduceMod, Int.reduceLE, Int.reduceLT, Int.reduceSub, Int.reduceAdd]
  repeat (first | intro _ | refine And.intro (by (intros; first | omega | (simp only [Bool.or_eq_false_iff, Bool.or_eq_true, decide_eq_false_iff_not, beq_iff_eq, Bool.and_eq_true, decide_eq_true_eq, Bool.not_eq_true'] at *; omega) | simp_all)) ?_)
  refine if_intro _ rfl trivial (fun h => ?_) (fun h => ?_)
  · simp only [decide_eq_true_eq, Int.ofNat_lt] at h
    have hw : IntKind.i64.wrap ((i : Int) + 1) = ((i + 1 : Nat) : Int) := by rw [wrap64_id (by omega) (by omega)]; rfl
    simp only [Tryz.f135, go_sem, Nat.reduceEqDiff, Nat.reduceLT, Nat.reduceLeDiff, Nat.reduceAdd, Nat.reduceSub, Nat.reduceMul, Nat.reduceBEq, Nat.reduceBNe, Int.reduceEq, Int.reduceToNat, Int.reduceNeg, ↓reduceIte, reduceCtorEq, Nat.reduceDiv, Nat.reduceMod, Int.reduceLE, Int.reduceLT, Int.reduceSub, Int.reduceAdd, h, hat, canCall_136]
    repeat (first | intro _ | refine And.intro (by (intros; first | omega | (simp only [Bool.or_eq_false_iff, Bool.or_eq_true, decide_eq_false_iff_not, beq_iff_eq, Bool.and_eq_true, decide_eq_true_eq, Bool.not_eq_true'] at *; omega) | simp_all)) ?_)
    refine if_intro _ rfl trivial (fun h2 => ?_) (fun h2 => ?_)
    · simp only [decide_eq_true_eq] at h2
      simp only [Tryz.f135, go_sem, Nat.reduceEqDiff, Nat.reduceLT, Nat.reduceLeDiff, Nat.reduceAdd, Nat.reduceSub, Nat.reduceMul, Nat.reduceBEq, Nat.reduceBNe, Int.reduceEq, Int.reduceToNat, Int.reduceNeg, ↓reduceIte, reduceCtorEq, Nat.reduceDiv, Nat.reduceMod, Int.reduceLE, Int.reduceLT, Int.reduceSub, Int.reduceAdd]
      exact (arIdx_at h hne h2).symm
    · simp only [decide_eq_false_iff_not] at h2
      simp only [Tryz.f135, go_sem, Nat.reduceEqDiff, Nat.reduceLT, Nat.reduceLeDiff, Nat.reduceAdd, Nat.reduceSub, Nat.reduceMul, Nat.reduceBEq, Nat.reduceBNe, Int.reduceEq, Int.reduceToNat, Int.reduceNeg, ↓reduceIte, reduceCtorEq, Nat.reduceDiv, Nat.reduceMod, Int.reduceLE, Int.reduceLT, Int.reduceSub, Int.reduceAdd, hw]
      refine ⟨i + 1, ⟨h, fun j hj => ?_⟩, by omega, ?_⟩
      · by_cases e : j = i
        · subst e; exact h2
        · exact hne j (by omega)
      · refine ⟨rfl, rfl, rfl, by repeat (first | exact AgreeOff.refl _ _ | refine AgreeOff.upd rfl ?_ | refine AgreeOff.over rfl ?_), by repeat (first | exact AgreeOff.refl _ _ | refine AgreeOff.upd rfl ?_ | refine AgreeOff.over rfl ?_), by repeat (first | exact AgreeOff.refl _ _ | refine AgreeOff.upd rfl ?_ | refine AgreeOff.over rfl ?_), ?_, by repeat (first | trivial | exact .inr rfl | exact .inl rfl | refine ⟨?_, ?_⟩), by repeat (first | trivial | exact .inr rfl | exact .inl rfl | refine ⟨?_, ?_⟩), by repeat (first | trivial | exact .inr rfl | exact .inl rfl | refine ⟨?_, ?_⟩), by repeat (first | trivial | exact .inr rfl | exact .inl rfl | refine ⟨?_, ?_⟩), by repeat (first | trivial | exact .inr rfl | exact .inl rfl | refine ⟨?_, ?_⟩), by repeat (first | trivial | exact .inr rfl | exact .inl rfl | refine ⟨?_, ?_⟩)⟩
        exact ⟨rfl, trivial⟩
  · simp only [decide_eq_false_iff_not, Int.ofNat_lt] at h
    simp only [Tryz.f135, go_sem, Nat.reduceEqDiff, Nat.reduceLT, Nat.reduceLeDiff, Nat.reduceAdd, Nat.reduceSub, Nat.reduceMul, Nat.reduceBEq, Nat.reduceBNe, Int.reduceEq, Int.reduceToNat, Int.reduceNeg, ↓reduceIte, reduceCtorEq, Nat.reduceDiv, Nat.reduceMod, Int.reduceLE, Int.reduceLT, Int.reduceSub, Int.reduceAdd]
    exact (arIdx_none fun j hj => hne j (by omega)).symm

def ownN (f : Fn) : List ByteArray := f.params ++ f.locals
/-- What the program's bounds ask of a function's names. -/
def ownOk (p : Pg) : Prop := ∀ f ∈ p.funcs, (ownN f).length * 16 ≤ 140737488355328
/-- What a name is in a function; its place. -/
def findP (p : Pg) (f : Int) (s : ByteArray) : Int × Int :=
  if 0 ≤ f ∧ f < p.funcs.length ∧ 0 ≤ strIdx (ownN (elm p.funcs f.toNat)) s then (1, strIdx (ownN (elm p.funcs f.toNat)) s)
  else if 0 ≤ strIdx p.vars s then (2, strIdx p.vars s)
  else if 0 ≤ arIdx p.arrays s then (3, arIdx p.arrays s)
  else if 0 ≤ fnIdx p.funcs s then (4, fnIdx p.funcs s) else (0, -1)

theorem find_c (p : Pg) (hp : ownOk p) (f : Int) (s : ByteArray) : VPure Tryz.prog G 95 [.agg (encP p), .val (.int .i64 f), .val (.string s)] (.tup [.val (.int .i64 (findP p f s).1), .val (.int .i64 (findP p f s).2)]) := by
  refine VPure.of (.tup _ (by simp; exact ⟨.val _, .val _⟩)) fun sh => ?_
  refine VCalls_enter [5] Tryz.func95 rfl (show 3 ≤ 53 by decide) ?_
  obtain ⟨A, hA, hs1⟩ := oneRule (indexAr_c (G := G) p.arrays sh.next s { next := sh.next + 1, mem := upd sh.mem sh.next (some [.val (.string s)]) } (upd_same _ _ _))
  obtain ⟨F, hF, hs2⟩ := oneRule (indexFn2_c (G := G) p.funcs sh.next s { next := sh.next + 1, mem := upd sh.mem sh.next (some [.val (.string s)]) } (upd_same _ _ _))
  have hfin : ∀ b, b < sh.next → upd sh.mem sh.next (some [PV.val (.string s)]) b = sh.mem b := fun b hb => upd_ne _ _ _ _ (by omega)
  simp only [encP]
  by_cases hf : 0 ≤ f ∧ f < p.funcs.length
  · obtain ⟨h0, h1⟩ := hf
    have hlt : f.toNat < p.funcs.length := by omega
    obtain ⟨O, hO, hs3⟩ := pureRule (own_c (G := G) (elm p.funcs f.toNat) (by have := hp (elm p.funcs f.toNat) (by rw [elm_eq hlt]; exact List.getElem_mem hlt); simpa [ownN] using this))
    simp only [encF] at hO
    refine vCode_sound (tab_ok [r119, A, F, O]) _ _ _ ?_
    simp only [Tryz.f95, go_sem, Nat.reduceEqDiff, Nat.reduceLT, Nat.reduceLeDiff, Nat.reduceAdd, Nat.reduceSub, Nat.reduceMul, Nat.reduceBEq, Nat.reduceBNe, Int.reduceEq, Int.reduceToNat, Int.reduceNeg, ↓reduceIte, reduceCtorEq, Nat.reduceDiv, Nat.reduceMod, Int.reduceLE, Int.reduceLT, Int.reduceSub, Int.reduceAdd, h0, h1]
    repeat (first | intro _ | refine And.intro (by (intros; first | omega | (simp only [Bool.or_eq_false_iff, Bool.or_eq_true, decide_eq_false_iff_not, beq_iff_eq, Bool.and_eq_true, decide_eq_true_eq, Bool.not_eq_true'] at *; omega) | simp_all)) ?_)
    refine drawR_intro (tab_ok [r119, A, F, O]) mixed [sh.next] [(true, 0), (true, 1), (true, 2), (true, 3), (true, 4), (true, 6), (false, 5), (false, 7), (true, 8)] rfl ?_
    simp only [Tryz.f95, go_sem, Nat.reduceEqDiff, Nat.reduceLT, Nat.reduceLeDiff, Nat.reduceAdd, Nat.reduceSub, Nat.reduceMul, Nat.reduceBEq, Nat.reduceBNe, Int.reduceEq, Int.reduceToNat, Int.reduceNeg, ↓reduceIte, reduceCtorEq, Nat.reduceDiv, Nat.reduceMod, Int.reduceLE, Int.reduceLT, Int.reduceSub, Int.reduceAdd, r119_at, r119_skip, hlt, h0, h1, hA, hF, hs1, hs2, hO, ownN, vDR, vDOpR, bareR, roSame, List.contains_cons, List.contains_nil]
    repeat (first | intro _ | refine And.intro (by (intros; first | omega | (simp only [Bool.or_eq_false_iff, Bool.or_eq_true, decide_eq_false_iff_not, beq_iff_eq, Bool.and_eq_true, decide_eq_true_eq, Bool.not_eq_true'] at *; omega) | simp_all)) ?_)
    refine if_intro _ rfl trivial (fun k1 => ?_) (fun k1 => ?_)
    · simp only [Tryz.f95, go_sem, Nat.reduceEqDiff, Nat.reduceLT, Nat.reduceLeDiff, Nat.reduceAdd, Nat.reduceSub, Nat.reduceMul, Nat.reduceBEq, Nat.reduceBNe, Int.reduceEq, Int.reduceToNat, Int.reduceNeg, ↓reduceIte, reduceCtorEq, Nat.reduceDiv, Nat.reduceMod, Int.reduceLE, Int.reduceLT, Int.reduceSub, Int.reduceAdd]
      simp only [decide_eq_true_eq] at k1
      rw [findP, if_pos ⟨h0, h1, k1⟩]
      exact ⟨rfl, hfin⟩
    have hno : ¬ (0 ≤ f ∧ f < p.funcs.length ∧ 0 ≤ strIdx (ownN (elm p.funcs f.toNat)) s) := by
      simp only [decide_eq_false_iff_not] at k1
      exact fun h => k1 h.2.2
    simp only [Tryz.f95, go_sem, Nat.reduceEqDiff, Nat.reduceLT, Nat.reduceLeDiff, Nat.reduceAdd, Nat.reduceSub, Nat.reduceMul, Nat.reduceBEq, Nat.reduceBNe, Int.reduceEq, Int.reduceToNat, Int.reduceNeg, ↓reduceIte, reduceCtorEq, Nat.reduceDiv, Nat.reduceMod, Int.reduceLE, Int.reduceLT, Int.reduceSub, Int.reduceAdd, r119_at, r119_skip, hA, hF, hs1, hs2]
    repeat (first | intro _ | refine And.intro (by (intros; first | omega | (simp only [Bool.or_eq_false_iff, Bool.or_eq_true, decide_eq_false_iff_not, beq_iff_eq, Bool.and_eq_true, decide_eq_true_eq, Bool.not_eq_true'] at *; omega) | simp_all)) ?_)
    refine if_intro _ rfl trivial (fun k2 => ?_) (fun k2 => ?_)
    · simp only [Tryz.f95, go_sem, Nat.reduceEqDiff, Nat.reduceLT, Nat.reduceLeDiff, Nat.reduceAdd, Nat.reduceSub, Nat.reduceMul, Nat.reduceBEq, Nat.reduceBNe, Int.reduceEq, Int.reduceToNat, Int.reduceNeg, ↓reduceIte, reduceCtorEq, Nat.reduceDiv, Nat.reduceMod, Int.reduceLE, Int.reduceLT, Int.reduceSub, Int.reduceAdd]
      simp only [decide_eq_true_eq] at k2
      rw [findP, if_neg hno, if_pos k2]
      exact ⟨rfl, hfin⟩
    simp only [Tryz.f95, go_sem, Nat.reduceEqDiff, Nat.reduceLT, Nat.reduceLeDiff, Nat.reduceAdd, Nat.reduceSub, Nat.reduceMul, Nat.reduceBEq, Nat.reduceBNe, Int.reduceEq, Int.reduceToNat, Int.reduceNeg, ↓reduceIte, reduceCtorEq, Nat.reduceDiv, Nat.reduceMod, Int.reduceLE, Int.reduceLT, Int.reduceSub, Int.reduceAdd, r119_at, r119_skip, hA, hF, hs1, hs2]
    repeat (first | intro _ | refine And.intro (by (intros; first | omega | (simp only [Bool.or_eq_false_iff, Bool.or_eq_true, decide_eq_false_iff_not, beq_iff_eq, Bool.and_eq_true, decide_eq_true_eq, Bool.not_eq_true'] at *; omega) | simp_all)) ?_)
    refine if_intro _ rfl trivial (fun k3 => ?_) (fun k3 => ?_)
    · simp only [Tryz.f95, go_sem, Nat.reduceEqDiff, Nat.reduceLT, Nat.reduceLeDiff, Nat.reduceAdd, Nat.reduceSub, Nat.reduceMul, Nat.reduceBEq, Nat.reduceBNe, Int.reduceEq, Int.reduceToNat, Int.reduceNeg, ↓reduceIte, reduceCtorEq, Nat.reduceDiv, Nat.reduceMod, Int.reduceLE, Int.reduceLT, Int.reduceSub, Int.reduceAdd]
      simp only [decide_eq_true_eq, decide_eq_false_iff_not] at k2 k3
      rw [findP, if_neg hno, if_neg k2, if_pos k3]
      exact ⟨rfl, hfin⟩
    simp only [Tryz.f95, go_sem, Nat.reduceEqDiff, Nat.reduceLT, Nat.reduceLeDiff, Nat.reduceAdd, Nat.reduceSub, Nat.reduceMul, Nat.reduceBEq, Nat.reduceBNe, Int.reduceEq, Int.reduceToNat, Int.reduceNeg, ↓reduceIte, reduceCtorEq, Nat.reduceDiv, Nat.reduceMod, Int.reduceLE, Int.reduceLT, Int.reduceSub, Int.reduceAdd, r119_at, r119_skip, hA, hF, hs1, hs2]
    repeat (first | intro _ | refine And.intro (by (intros; first | omega | (simp only [Bool.or_eq_false_iff, Bool.or_eq_true, decide_eq_false_iff_not, beq_iff_eq, Bool.and_eq_true, decide_eq_true_eq, Bool.not_eq_true'] at *; omega) | simp_all)) ?_)
    refine if_intro _ rfl trivial (fun k4 => ?_) (fun k4 => ?_)
    · simp only [Tryz.f95, go_sem, Nat.reduceEqDiff, Nat.reduceLT, Nat.reduceLeDiff, Nat.reduceAdd, Nat.reduceSub, Nat.reduceMul, Nat.reduceBEq, Nat.reduceBNe, Int.reduceEq, Int.reduceToNat, Int.reduceNeg, ↓reduceIte, reduceCtorEq, Nat.reduceDiv, Nat.reduceMod, Int.reduceLE, Int.reduceLT, Int.reduceSub, Int.reduceAdd]
      simp only [decide_eq_true_eq, decide_eq_false_iff_not] at k2 k3 k4
      rw [findP, if_neg hno, if_neg k2, if_neg k3, if_pos k4]
      exact ⟨rfl, hfin⟩
    simp only [Tryz.f95, go_sem, Nat.reduceEqDiff, Nat.reduceLT, Nat.reduceLeDiff, Nat.reduceAdd, Nat.reduceSub, Nat.reduceMul, Nat.reduceBEq, Nat.reduceBNe, Int.reduceEq, Int.reduceToNat, Int.reduceNeg, ↓reduceIte, reduceCtorEq, Nat.reduceDiv, Nat.reduceMod, Int.reduceLE, Int.reduceLT, Int.reduceSub, Int.reduceAdd]
    simp only [decide_eq_true_eq, decide_eq_false_iff_not] at k2 k3 k4
    rw [findP, if_neg hno, if_neg k2, if_neg k3, if_neg k4]
    exact ⟨rfl, hfin⟩
  · have hno : ¬ (0 ≤ f ∧ f < p.funcs.length ∧ 0 ≤ strIdx (ownN (elm p.funcs f.toNat)) s) := fun h => hf ⟨h.1, h.2.1⟩
    refine vCode_sound (tab_ok [r119, A, F]) _ _ _ ?_
    simp only [Tryz.f95, go_sem, Nat.reduceEqDiff, Nat.reduceLT, Nat.reduceLeDiff, Nat.reduceAdd, Nat.reduceSub, Nat.reduceMul, Nat.reduceBEq, Nat.reduceBNe, Int.reduceEq, Int.reduceToNat, Int.reduceNeg, ↓reduceIte, reduceCtorEq, Nat.reduceDiv, Nat.reduceMod, Int.reduceLE, Int.reduceLT, Int.reduceSub, Int.reduceAdd]
    repeat (first | intro _ | refine And.intro (by (intros; first | omega | (simp only [Bool.or_eq_false_iff, Bool.or_eq_true, decide_eq_false_iff_not, beq_iff_eq, Bool.and_eq_true, decide_eq_true_eq, Bool.not_eq_true'] at *; omega) | simp_all)) ?_)
    refine if_intro _ rfl trivial (fun k1 => ?_) (fun k1 => ?_)
    · simp only [Bool.and_eq_true, decide_eq_true_eq] at k1
      exact absurd k1 hf
    simp only [Tryz.f95, go_sem, Nat.reduceEqDiff, Nat.reduceLT, Nat.reduceLeDiff, Nat.reduceAdd, Nat.reduceSub, Nat.reduceMul, Nat.reduceBEq, Nat.reduceBNe, Int.reduceEq, Int.reduceToNat, Int.reduceNeg, ↓reduceIte, reduceCtorEq, Nat.reduceDiv, Nat.reduceMod, Int.reduceLE, Int.reduceLT, Int.reduceSub, Int.reduceAdd, r119_at, r119_skip, hA, hF, hs1, hs2]
    repeat (first | intro _ | refine And.intro (by (intros; first | omega | (simp only [Bool.or_eq_false_iff, Bool.or_eq_true, decide_eq_false_iff_not, beq_iff_eq, Bool.and_eq_true, decide_eq_true_eq, Bool.not_eq_true'] at *; omega) | simp_all)) ?_)
    refine if_intro _ rfl trivial (fun k2 => ?_) (fun k2 => ?_)
    · simp only [Tryz.f95, go_sem, Nat.reduceEqDiff, Nat.reduceLT, Nat.reduceLeDiff, Nat.reduceAdd, Nat.reduceSub, Nat.reduceMul, Nat.reduceBEq, Nat.reduceBNe, Int.reduceEq, Int.reduceToNat, Int.reduceNeg, ↓reduceIte, reduceCtorEq, Nat.reduceDiv, Nat.reduceMod, Int.reduceLE, Int.reduceLT, Int.reduceSub, Int.reduceAdd]
      simp only [decide_eq_true_eq] at k2
      rw [findP, if_neg hno, if_pos k2]
      exact ⟨rfl, hfin⟩
    simp only [Tryz.f95, go_sem, Nat.reduceEqDiff, Nat.reduceLT, Nat.reduceLeDiff, Nat.reduceAdd, Nat.reduceSub, Nat.reduceMul, Nat.reduceBEq, Nat.reduceBNe, Int.reduceEq, Int.reduceToNat, Int.reduceNeg, ↓reduceIte, reduceCtorEq, Nat.reduceDiv, Nat.reduceMod, Int.reduceLE, Int.reduceLT, Int.reduceSub, Int.reduceAdd, r119_at, r119_skip, hA, hF, hs1, hs2]
    repeat (first | intro _ | refine And.intro (by (intros; first | omega | (simp only [Bool.or_eq_false_iff, Bool.or_eq_true, decide_eq_false_iff_not, beq_iff_eq, Bool.and_eq_true, decide_eq_true_eq, Bool.not_eq_true'] at *; omega) | simp_all)) ?_)
    refine if_intro _ rfl trivial (fun k3 => ?_) (fun k3 => ?_)
    · simp only [Tryz.f95, go_sem, Nat.reduceEqDiff, Nat.reduceLT, Nat.reduceLeDiff, Nat.reduceAdd, Nat.reduceSub, Nat.reduceMul, Nat.reduceBEq, Nat.reduceBNe, Int.reduceEq, Int.reduceToNat, Int.reduceNeg, ↓reduceIte, reduceCtorEq, Nat.reduceDiv, Nat.reduceMod, Int.reduceLE, Int.reduceLT, Int.reduceSub, Int.reduceAdd]
      simp only [decide_eq_true_eq, decide_eq_false_iff_not] at k2 k3
      rw [findP, if_neg hno, if_neg k2, if_pos k3]
      exact ⟨rfl, hfin⟩
    simp only [Tryz.f95, go_sem, Nat.reduceEqDiff, Nat.reduceLT, Nat.reduceLeDiff, Nat.reduceAdd, Nat.reduceSub, Nat.reduceMul, Nat.reduceBEq, Nat.reduceBNe, Int.reduceEq, Int.reduceToNat, Int.reduceNeg, ↓reduceIte, reduceCtorEq, Nat.reduceDiv, Nat.reduceMod, Int.reduceLE, Int.reduceLT, Int.reduceSub, Int.reduceAdd, r119_at, r119_skip, hA, hF, hs1, hs2]
    repeat (first | intro _ | refine And.intro (by (intros; first | omega | (simp only [Bool.or_eq_false_iff, Bool.or_eq_true, decide_eq_false_iff_not, beq_iff_eq, Bool.and_eq_true, decide_eq_true_eq, Bool.not_eq_true'] at *; omega) | simp_all)) ?_)
    refine if_intro _ rfl trivial (fun k4 => ?_) (fun k4 => ?_)
    · simp only [Tryz.f95, go_sem, Nat.reduceEqDiff, Nat.reduceLT, Nat.reduceLeDiff, Nat.reduceAdd, Nat.reduceSub, Nat.reduceMul, Nat.reduceBEq, Nat.reduceBNe, Int.reduceEq, Int.reduceToNat, Int.reduceNeg, ↓reduceIte, reduceCtorEq, Nat.reduceDiv, Nat.reduceMod, Int.reduceLE, Int.reduceLT, Int.reduceSub, Int.reduceAdd]
      simp only [decide_eq_true_eq, decide_eq_false_iff_not] at k2 k3 k4
      rw [findP, if_neg hno, if_neg k2, if_neg k3, if_pos k4]
      exact ⟨rfl, hfin⟩
    simp only [Tryz.f95, go_sem, Nat.reduceEqDiff, Nat.reduceLT, Nat.reduceLeDiff, Nat.reduceAdd, Nat.reduceSub, Nat.reduceMul, Nat.reduceBEq, Nat.reduceBNe, Int.reduceEq, Int.reduceToNat, Int.reduceNeg, ↓reduceIte, reduceCtorEq, Nat.reduceDiv, Nat.reduceMod, Int.reduceLE, Int.reduceLT, Int.reduceSub, Int.reduceAdd]
    simp only [decide_eq_true_eq, decide_eq_false_iff_not] at k2 k3 k4
    rw [findP, if_neg hno, if_neg k2, if_neg k3, if_neg k4]
    exact ⟨rfl, hfin⟩
end Go.Proofs.YtaackmiajgapoaaGreatDoor.V
