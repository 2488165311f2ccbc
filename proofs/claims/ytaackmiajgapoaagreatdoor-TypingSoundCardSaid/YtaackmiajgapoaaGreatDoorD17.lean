/- The checker (typing): all of a list; an expression's type. -/
import Derived.Test.YtaackmiajgapoaaGreatDoorD16
set_option maxHeartbeats 16000000
set_option maxRecDepth 100000
set_option linter.unusedSimpArgs false
set_option linter.unusedVariables false
namespace Go.Proofs.YtaackmiajgapoaaGreatDoor.V
open Go
variable {G : Nat → Option (List PV)}

theorem take_all {α : Type} [Inhabited α] (P : α → Bool) {l : List α} {i : Nat} (h : i < l.length) : (l.take (i + 1)).all P = ((l.take i).all P && P (elm l i)) := by
  rw [List.take_add_one, List.getElem?_eq_getElem h, List.all_append, elm_eq h]
  simp
theorem all_elm {α : Type} [Inhabited α] {P : α → Bool} {l : List α} {i : Nat} (h : i < l.length) (ha : l.all P = true) : P (elm l i) = true := by
  rw [elm_eq h]
  exact List.all_eq_true.1 ha _ (List.getElem_mem h)

theorem ofRule {p : Pg} {n : Nat} (h : OfC G p n) : ∃ R : Rule Tryz.prog G, (∀ tl (b : Nat) (x : Ex) lost sh, b < sh.next → sh.mem b = some (ck p lost) → (szE x < n ∧ kdE x = true) →
    tab (R :: tl) 52 [.box b 0, .agg (encE x)] sh = some (.val (.int .i64 (tyE p x)), setLost sh b p (lost || !knE p x))) ∧ ∀ tl g args sh, g ≠ 52 → tab (R :: tl) g args sh = tab tl g args sh :=
  ckRule p 52 (fun b (x : Ex) => [.box b 0, .agg (encE x)]) (fun x => .val (.int .i64 (tyE p x))) (fun x => !knE p x) (fun x => szE x < n ∧ kdE x = true)
    (by rintro b x b' x' h; simp only [List.cons.injEq, PV.box.injEq, PV.agg.injEq, encE_iff, true_and, and_true] at h; exact h)
    h

theorem all_step (p : Pg) (n : Nat) (h : OfC G p n) : AllC G p n := by
  rintro b ⟨l, k⟩ lost sh hn hb ⟨he, hkd⟩
  simp only at he hkd ⊢
  obtain ⟨R, hR0, hs⟩ := ofRule h
  have hR : ∀ tl (i : Nat) l1, i < l.length → tab (R :: tl) 52 [.box b 0, .agg [.val (.int .i64 (elm l i).kind), .val (.int .i64 (elm l i).op), .val (.int .u32 (elm l i).num), .val (.string (elm l i).name), .slice ((elm l i).kids.map encE)]] (setLost sh b p l1) = some (.val (.int .i64 (tyE p (elm l i))), setLost sh b p (l1 || !knE p (elm l i))) := by
    intro tl i l1 hi
    have := hR0 tl b (elm l i) l1 (setLost sh b p l1) hn (setLost_b _ _ _ _) ⟨Nat.lt_of_le_of_lt (szEs_elm l i hi) he, all_elm hi hkd⟩
    rw [setLost_twice] at this
    simpa only [encE_eq] using this
  clear hR0
  refine VCalls_enter [] Tryz.func119 rfl (show 3 ≤ 26 by decide) ?_
  refine vCode_sound (tab_ok [R]) _ _ _ ?_
  simp only [Tryz.f119, go_sem, Nat.reduceEqDiff, Nat.reduceLT, Nat.reduceLeDiff, Nat.reduceAdd, Nat.reduceSub, Nat.reduceMul, Nat.reduceBEq, Nat.reduceBNe, Int.reduceEq, Int.reduceToNat, Int.reduceNeg, ↓reduceIte, reduceCtorEq, Nat.reduceDiv, Nat.reduceMod, Int.reduceLE, Int.reduceLT, Int.reduceSub, Int.reduceAdd]
  repeat (first | intro _ | refine And.intro (by (intros; first | omega | (simp only [Bool.or_eq_false_iff, Bool.or_eq_true, decide_eq_false_iff_not, beq_iff_eq, Bool.and_eq_true, decide_eq_true_eq, Bool.not_eq_true'] at *; omega) | simp_all)) ?_)
  refine loop_intro (VWp_for [13, 14, 15, 9, 16, 17, 18, 19, 20, 21, 22, 23, 7, 24, 12] (fun i : Nat => [(12, .val (.int .i64 i)), (7, .val (.bool ((l.take i).all fun e => decide (tyE p e = k))))]) [9] (fun _ => []) [] (fun _ => []) (fun i => setLost sh b p (lost || !(l.take i).all (knE p)))
    (fun i => i ≤ l.length) (fun i => l.length - i) 0 (Nat.zero_le _) ?_ ?_)
  · refine ⟨rfl, rfl, ?_, .refl _ _, .refl _ _, .refl _ _, by repeat (first | trivial | rfl | refine ⟨?_, ?_⟩), by repeat (first | trivial | rfl | refine ⟨?_, ?_⟩), by repeat (first | trivial | rfl | refine ⟨?_, ?_⟩), by repeat (first | trivial | exact .inr rfl | exact .inl rfl | refine ⟨?_, ?_⟩), by repeat (first | trivial | exact .inr rfl | exact .inl rfl | refine ⟨?_, ?_⟩), by repeat (first | trivial | exact .inr rfl | exact .inl rfl | refine ⟨?_, ?_⟩), by repeat (first | trivial | exact .inr rfl | exact .inl rfl | refine ⟨?_, ?_⟩)⟩
    show sh = setLost sh b p (lost || !true)
    rw [Bool.not_true, Bool.or_false, setLost_same hb]
  rintro i hi
  refine vCode_sound (tab_ok [R]) _ _ _ ?_
  simp only [Tryz.f119, go_sem, Nat.reduceEqDiff, Nat.reduceLT, Nat.reduceLeDiff, Nat.reduceAdd, Nat.reduceSub, Nat.reduceMul, Nat.reduceBEq, Nat.reduceBNe, Int.reduceEq, Int.reduceToNat, Int.reduceNeg, ↓reduceIte, reduceCtorEq, Nat.reduceDiv, Nat.reduceMod, Int.reduceLE, Int.reduceLT, Int.reduceSub, Int.reduceAdd]
  repeat (first | intro _ | refine And.intro (by (intros; first | omega | (simp only [Bool.or_eq_false_iff, Bool.or_eq_true, decide_eq_false_iff_not, beq_iff_eq, Bool.and_eq_true, decide_eq_true_eq, Bool.not_eq_true'] at *; omega) | simp_all)) ?_)
  refine if_intro _ rfl trivial (fun h1 => ?_) (fun h1 => ?_)
  · simp only [decide_eq_true_eq, Int.ofNat_lt] at h1
    have hw : IntKind.i64.wrap ((i : Int) + 1) = ((i + 1 : Nat) : Int) := by rw [wrap64_id (by omega) (by omega)]; rfl
    simp only [Tryz.f119, go_sem, Nat.reduceEqDiff, Nat.reduceLT, Nat.reduceLeDiff, Nat.reduceAdd, Nat.reduceSub, Nat.reduceMul, Nat.reduceBEq, Nat.reduceBNe, Int.reduceEq, Int.reduceToNat, Int.reduceNeg, ↓reduceIte, reduceCtorEq, Nat.reduceDiv, Nat.reduceMod, Int.reduceLE, Int.reduceLT, Int.reduceSub, Int.reduceAdd, h1, hR, hs, hw]
    refine ⟨i + 1, h1, by omega, ?_⟩
    refine ⟨rfl, rfl, ?_, by repeat (first | exact AgreeOff.refl _ _ | refine AgreeOff.upd rfl ?_ | refine AgreeOff.over rfl ?_), by repeat (first | exact AgreeOff.refl _ _ | refine AgreeOff.upd rfl ?_ | refine AgreeOff.over rfl ?_), by repeat (first | exact AgreeOff.refl _ _ | refine AgreeOff.upd rfl ?_ | refine AgreeOff.over rfl ?_), ?_, by repeat (first | trivial | exact .inr rfl | exact .inl rfl | refine ⟨?_, ?_⟩), by repeat (first | trivial | exact .inr rfl | exact .inl rfl | refine ⟨?_, ?_⟩), by repeat (first | trivial | exact .inr rfl | exact .inl rfl | refine ⟨?_, ?_⟩), by repeat (first | trivial | exact .inr rfl | exact .inl rfl | refine ⟨?_, ?_⟩), by repeat (first | trivial | exact .inr rfl | exact .inl rfl | refine ⟨?_, ?_⟩), by repeat (first | trivial | exact .inr rfl | exact .inl rfl | refine ⟨?_, ?_⟩)⟩
    · show setLost _ _ _ _ = setLost _ _ _ _
      rw [take_all _ h1]
      congr 1
      cases lost <;> cases (l.take i).all (knE p) <;> cases knE p (elm l i) <;> rfl
    · refine ⟨rfl, ?_, trivial⟩
      rw [take_all _ h1]
      show PV.val (.bool (decide (tyE p (elm l i) = k) && (l.take i).all fun e => decide (tyE p e = k))) = _
      rw [Bool.and_comm]
  · simp only [decide_eq_false_iff_not, Int.ofNat_lt] at h1
    simp only [Tryz.f119, go_sem, Nat.reduceEqDiff, Nat.reduceLT, Nat.reduceLeDiff, Nat.reduceAdd, Nat.reduceSub, Nat.reduceMul, Nat.reduceBEq, Nat.reduceBNe, Int.reduceEq, Int.reduceToNat, Int.reduceNeg, ↓reduceIte, reduceCtorEq, Nat.reduceDiv, Nat.reduceMod, Int.reduceLE, Int.reduceLT, Int.reduceSub, Int.reduceAdd]
    have hi' : i = l.length := by omega
    subst hi'
    rw [List.take_length]
    exact ⟨rfl, rfl⟩

theorem checker_ind (p : Pg) : ∀ n : Nat, AllC G p n ∧ OfC G p n
  | 0 => ⟨fun _ _ _ _ _ _ h => absurd h.1 (Nat.not_lt_zero _), fun _ _ _ _ _ _ h => absurd h.1 (Nat.not_lt_zero _)⟩
  | n + 1 => ⟨all_step p (n + 1) (of_step p n (checker_ind p n).1), of_step p n (checker_ind p n).1⟩
theorem all_c (p : Pg) (b : Nat) (l : List Ex) (k : Int) (lost : Bool) (sh : Sh) (hn : b < sh.next) (hb : sh.mem b = some (ck p lost)) (hk : l.all kdE = true) :
    VCalls Tryz.prog G 119 [.box b 0, .slice (l.map encE), .val (.int .i64 k)] sh fun e s' => e = .ret (.val (.bool (l.all fun e => decide (tyE p e = k)))) ∧ s' = setLost sh b p (lost || !l.all (knE p)) :=
  (checker_ind p (szEs l + 1)).1 b (l, k) lost sh hn hb ⟨Nat.lt_succ_self _, hk⟩
theorem of_c (p : Pg) (b : Nat) (e : Ex) (lost : Bool) (sh : Sh) (hn : b < sh.next) (hb : sh.mem b = some (ck p lost)) (hk : kdE e = true) :
    VCalls Tryz.prog G 52 [.box b 0, .agg (encE e)] sh fun x s' => x = .ret (.val (.int .i64 (tyE p e))) ∧ s' = setLost sh b p (lost || !knE p e) :=
  (checker_ind p (szE e + 1)).2 b e lost sh hn hb ⟨Nat.lt_succ_self _, hk⟩

/-- What is told. -/
theorem told_c (p : Pg) (b : Nat) (ok lost : Bool) (sh : Sh) (hb : sh.mem b = some (ck p lost)) :
    VCalls Tryz.prog G 53 [.box b 0, .val (.bool ok)] sh fun x s' => x = .ret (.val (.int .i64 (cond lost 4 (cond ok 0 5)))) ∧ s' = sh := by
  refine VCalls_enter [] Tryz.func53 rfl (show 2 ≤ 13 by decide) ?_
  refine vCode_sound (tab_ok []) _ _ _ ?_
  simp only [ck] at hb
  cases lost <;> cases ok <;> simp only [Tryz.f53, go_sem, Nat.reduceEqDiff, Nat.reduceLT, Nat.reduceLeDiff, Nat.reduceAdd, Nat.reduceSub, Nat.reduceMul, Nat.reduceBEq, Nat.reduceBNe, Int.reduceEq, Int.reduceToNat, Int.reduceNeg, ↓reduceIte, reduceCtorEq, Nat.reduceDiv, Nat.reduceMod, Int.reduceLE, Int.reduceLT, Int.reduceSub, Int.reduceAdd, hb]

/-- An expression's type and the error, by the program. -/
theorem typExpr_c (p : Pg) (e : Ex) (hk : kdE e = true) : VPure Tryz.prog G 27 [.agg (encP p), .agg (encE e)] (.tup [.val (.int .i64 (refE p e).1), .val (.int .i64 (refE p e).2)]) := by
  refine VPure.of (.tup _ (by simp; exact ⟨.val _, .val _⟩)) fun sh => ?_
  refine VCalls_enter [11] Tryz.func27 rfl (show 2 ≤ 23 by decide) ?_
  have hn1 : sh.next < ({ next := sh.next + 1, mem := upd sh.mem sh.next (some (ck p false)) } : Sh).next := Nat.lt_succ_self _
  obtain ⟨R, hR, hs⟩ := oneRule (of_c (G := G) p sh.next e false { next := sh.next + 1, mem := upd sh.mem sh.next (some (ck p false)) } hn1 (upd_same _ _ _) hk)
  obtain ⟨S, hS, hs2⟩ := oneRule (told_c (G := G) p sh.next (!decide (tyE p e = 0)) (false || !knE p e) (setLost { next := sh.next + 1, mem := upd sh.mem sh.next (some (ck p false)) } sh.next p (false || !knE p e)) (setLost_b _ _ _ _))
  simp only [ck, encE_eq, Bool.false_or] at hR hS
  have hfin : ∀ l b, b < sh.next → (setLost { next := sh.next + 1, mem := upd sh.mem sh.next (some [.slice (encT p.vars), .slice (p.arrays.map encA), .slice (p.funcs.map encF), .val (.bool false)]) } sh.next p l).mem b = sh.mem b := by
    intro l b hb
    rw [setLost_ne _ _ _ _ (by omega)]
    exact upd_ne _ _ _ _ (by omega)
  refine vCode_sound (tab_ok [R, S]) _ _ _ ?_
  simp only [encP]
  unfold refE
  generalize knE p e = kn at hR hS ⊢
  generalize tyE p e = ty at hR hS ⊢
  by_cases hz : ty = 0
  · subst hz
    simp only [decide_true, Bool.not_true] at hS
    cases kn <;> simp only [Bool.not_true, Bool.not_false, cond_true, cond_false] at hR hS
    · simp only [Tryz.f27, go_sem, Nat.reduceEqDiff, Nat.reduceLT, Nat.reduceLeDiff, Nat.reduceAdd, Nat.reduceSub, Nat.reduceMul, Nat.reduceBEq, Nat.reduceBNe, Int.reduceEq, Int.reduceToNat, Int.reduceNeg, ↓reduceIte, reduceCtorEq, Nat.reduceDiv, Nat.reduceMod, Int.reduceLE, Int.reduceLT, Int.reduceSub, Int.reduceAdd, hR, hs, hS, hs2, encE_eq]
      exact hfin _
    · simp only [Tryz.f27, go_sem, Nat.reduceEqDiff, Nat.reduceLT, Nat.reduceLeDiff, Nat.reduceAdd, Nat.reduceSub, Nat.reduceMul, Nat.reduceBEq, Nat.reduceBNe, Int.reduceEq, Int.reduceToNat, Int.reduceNeg, ↓reduceIte, reduceCtorEq, Nat.reduceDiv, Nat.reduceMod, Int.reduceLE, Int.reduceLT, Int.reduceSub, Int.reduceAdd, hR, hs, hS, hs2, encE_eq]
      exact hfin _
  · have hz' : (ty = 0) = False := by simp [hz]
    simp only [hz', decide_false, Bool.not_false] at hS
    cases kn <;> simp only [Bool.not_true, Bool.not_false, cond_true, cond_false] at hR hS
    · simp only [Tryz.f27, go_sem, Nat.reduceEqDiff, Nat.reduceLT, Nat.reduceLeDiff, Nat.reduceAdd, Nat.reduceSub, Nat.reduceMul, Nat.reduceBEq, Nat.reduceBNe, Int.reduceEq, Int.reduceToNat, Int.reduceNeg, ↓reduceIte, reduceCtorEq, Nat.reduceDiv, Nat.reduceMod, Int.reduceLE, Int.reduceLT, Int.reduceSub, Int.reduceAdd, hR, hs, hS, hs2, encE_eq, hz']
      exact hfin _
    · simp only [Tryz.f27, go_sem, Nat.reduceEqDiff, Nat.reduceLT, Nat.reduceLeDiff, Nat.reduceAdd, Nat.reduceSub, Nat.reduceMul, Nat.reduceBEq, Nat.reduceBNe, Int.reduceEq, Int.reduceToNat, Int.reduceNeg, ↓reduceIte, reduceCtorEq, Nat.reduceDiv, Nat.reduceMod, Int.reduceLE, Int.reduceLT, Int.reduceSub, Int.reduceAdd, hR, hs, hS, hs2, encE_eq, hz']
      exact hfin _
end Go.Proofs.YtaackmiajgapoaaGreatDoor.V
