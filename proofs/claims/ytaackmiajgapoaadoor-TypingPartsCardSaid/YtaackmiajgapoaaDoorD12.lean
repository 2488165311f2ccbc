/- Known functions, and an expression's type with its error, by the document (seedcornref17). -/
import Derived.Test.YtaackmiajgapoaaDoorD11
set_option maxHeartbeats 16000000
set_option maxRecDepth 100000
set_option linter.unusedSimpArgs false
set_option linter.unusedVariables false
namespace Go.Proofs.YtaackmiajgapoaaDoor.V
open Go
variable {G : Nat → Option (List PV)}

mutual
def knE (p : Pg) : Ex → Bool
  | .mk k _ _ s l => !(decide (k = 4) && decide (fnIdx p.funcs s < 0)) && knEs p l
def knEs (p : Pg) : List Ex → Bool
  | [] => true
  | e :: r => knE p e && knEs p r
end
theorem knEs_all (p : Pg) : ∀ l : List Ex, knEs p l = l.all (knE p)
  | [] => rfl
  | e :: r => by rw [knEs, knEs_all p r]; rfl
theorem knE_eq (p : Pg) (e : Ex) : knE p e = (!(decide (e.kind = 4) && decide (fnIdx p.funcs e.name < 0)) && e.kids.all (knE p)) := by
  cases e with | mk k o n s l => rw [knE, knEs_all]; rfl

theorem known_step (p : Pg) (n : Nat) (IH : ∀ l : List Ex, szEs l < n → VPure Tryd.prog G 36 [.agg (encP p), .slice (l.map encE)] (.val (.bool (l.all (knE p))))) (l : List Ex) (hl : szEs l ≤ n) :
    VPure Tryd.prog G 36 [.agg (encP p), .slice (l.map encE)] (.val (.bool (l.all (knE p)))) := by
  obtain ⟨R, hR0, hs⟩ := mkRule (P := Tryd.prog) (G := G) 36 (List Ex) (fun x => [.agg (encP p), .slice (x.map encE)]) (fun x => .val (.bool (x.all (knE p)))) (fun x => szEs x < n)
    (by rintro a b h; simp only [List.cons.injEq, PV.slice.injEq, encEs_iff, true_and, and_true] at h; simp only [h]) (fun x h => IH x h)
  have hR : ∀ tl (i : Nat) sh, i < l.length → tab (R :: tl) 36 [.agg [.slice (encT p.vars), .slice (p.arrays.map encA), .slice (p.funcs.map encF)], .slice ((elm l i).kids.map encE)] sh = some (.val (.bool ((elm l i).kids.all (knE p))), sh) := by
    intro tl i sh h
    have := hR0 tl (elm l i).kids sh (Nat.lt_of_lt_of_le (szE_elm_kids l i h) hl)
    simpa only [encP] using this
  clear hR0
  refine VPure.of (.val _) fun sh => ?_
  refine VCalls_enter [] Tryd.func36 rfl (show 2 ≤ 38 by decide) ?_
  refine vCode_sound (tab_ok [r65, R]) _ _ _ ?_
  simp only [encP]
  simp only [Tryd.f36, go_sem, Nat.reduceEqDiff, Nat.reduceLT, Nat.reduceLeDiff, Nat.reduceAdd, Nat.reduceSub, Nat.reduceMul, Nat.reduceBEq, Nat.reduceBNe, Int.reduceEq, Int.reduceToNat, Int.reduceNeg, ↓reduceIte, reduceCtorEq, Nat.reduceDiv, Nat.reduceMod, Int.reduceLE, Int.reduceLT, Int.reduceSub, Int.reduceAdd]
  refine loop_intro (VWp_for [6, 7, 8, 9, 12, 13, 14, 15, 16, 17, 18, 19, 20, 21, 22, 23, 24, 25, 26, 27, 28, 29, 30, 31, 32, 33, 34, 35, 36, 37, 4, 10, 11, 5] (fun i : Nat => [(5, .val (.int .i64 i))]) [] (fun _ => []) [] (fun _ => []) (fun _ => sh)
    (fun i => i ≤ l.length ∧ ∀ j, j < i → knE p (elm l j) = true) (fun i => l.length - i) 0 ⟨Nat.zero_le _, fun j h => by omega⟩ (by refine ⟨rfl, rfl, rfl, .refl _ _, .refl _ _, .refl _ _, by repeat (first | trivial | rfl | refine ⟨?_, ?_⟩), by repeat (first | trivial | rfl | refine ⟨?_, ?_⟩), by repeat (first | trivial | rfl | refine ⟨?_, ?_⟩), by repeat (first | trivial | exact .inr rfl | exact .inl rfl | refine ⟨?_, ?_⟩), by repeat (first | trivial | exact .inr rfl | exact .inl rfl | refine ⟨?_, ?_⟩), by repeat (first | trivial | exact .inr rfl | exact .inl rfl | refine ⟨?_, ?_⟩), by repeat (first | trivial | exact .inr rfl | exact .inl rfl | refine ⟨?_, ?_⟩)⟩) ?_)
  rintro i ⟨hi, hne⟩
  refine vCode_sound (tab_ok [r65, R]) _ _ _ ?_
  simp only [Tryd.f36, go_sem, Nat.reduceEqDiff, Nat.reduceLT, Nat.reduceLeDiff, Nat.reduceAdd, Nat.reduceSub, Nat.reduceMul, Nat.reduceBEq, Nat.reduceBNe, Int.reduceEq, Int.reduceToNat, Int.reduceNeg, ↓reduceIte, reduceCtorEq, Nat.reduceDiv, Nat.reduceMod, Int.reduceLE, Int.reduceLT, Int.reduceSub, Int.reduceAdd]
  repeat (first | intro _ | refine And.intro (by (intros; first | omega | (simp only [Bool.or_eq_false_iff, Bool.or_eq_true, decide_eq_false_iff_not, beq_iff_eq, Bool.and_eq_true, decide_eq_true_eq, Bool.not_eq_true'] at *; omega) | simp_all)) ?_)
  refine if_intro _ rfl trivial (fun h => ?_) (fun h => ?_)
  · simp only [decide_eq_true_eq, Int.ofNat_lt] at h
    have hw : IntKind.i64.wrap ((i : Int) + 1) = ((i + 1 : Nat) : Int) := by rw [wrap64_id (by omega) (by omega)]; rfl
    simp only [Tryd.f36, go_sem, Nat.reduceEqDiff, Nat.reduceLT, Nat.reduceLeDiff, Nat.reduceAdd, Nat.reduceSub, Nat.reduceMul, Nat.reduceBEq, Nat.reduceBNe, Int.reduceEq, Int.reduceToNat, Int.reduceNeg, ↓reduceIte, reduceCtorEq, Nat.reduceDiv, Nat.reduceMod, Int.reduceLE, Int.reduceLT, Int.reduceSub, Int.reduceAdd, h]
    refine draw_intro (tab_ok [r65, R]) mixed [(true, 0), (true, 1), (true, 2), (true, 3), (true, 4), (true, 5), (true, 6), (true, 7), (true, 8), (true, 9), (true, 10), (true, 11), (true, 12), (false, 13), (true, 14), (true, 15), (true, 16), (true, 17), (true, 18), (true, 19), (true, 20), (true, 21), (true, 22), (false, 23), (true, 24), (true, 25)] rfl ?_
    simp only [Tryd.f36, go_sem, Nat.reduceEqDiff, Nat.reduceLT, Nat.reduceLeDiff, Nat.reduceAdd, Nat.reduceSub, Nat.reduceMul, Nat.reduceBEq, Nat.reduceBNe, Int.reduceEq, Int.reduceToNat, Int.reduceNeg, ↓reduceIte, reduceCtorEq, Nat.reduceDiv, Nat.reduceMod, Int.reduceLE, Int.reduceLT, Int.reduceSub, Int.reduceAdd, r65_at, r65_skip, h, hR, hs]
    repeat (first | intro _ | refine And.intro (by (intros; first | omega | (simp only [Bool.or_eq_false_iff, Bool.or_eq_true, decide_eq_false_iff_not, beq_iff_eq, Bool.and_eq_true, decide_eq_true_eq, Bool.not_eq_true'] at *; omega) | simp_all)) ?_)
    refine if_intro _ rfl trivial (fun h2 => ?_) (fun h2 => ?_)
    · simp only [Tryd.f36, go_sem, Nat.reduceEqDiff, Nat.reduceLT, Nat.reduceLeDiff, Nat.reduceAdd, Nat.reduceSub, Nat.reduceMul, Nat.reduceBEq, Nat.reduceBNe, Int.reduceEq, Int.reduceToNat, Int.reduceNeg, ↓reduceIte, reduceCtorEq, Nat.reduceDiv, Nat.reduceMod, Int.reduceLE, Int.reduceLT, Int.reduceSub, Int.reduceAdd]
      refine (all_at h ?_).symm
      rw [knE_eq]
      revert h2
      generalize decide ((elm l i).kind = 4) = x1
      generalize decide (fnIdx p.funcs (elm l i).name < 0) = x2
      generalize (elm l i).kids.all (knE p) = x3
      revert x1 x2 x3
      decide
    · simp only [Tryd.f36, go_sem, Nat.reduceEqDiff, Nat.reduceLT, Nat.reduceLeDiff, Nat.reduceAdd, Nat.reduceSub, Nat.reduceMul, Nat.reduceBEq, Nat.reduceBNe, Int.reduceEq, Int.reduceToNat, Int.reduceNeg, ↓reduceIte, reduceCtorEq, Nat.reduceDiv, Nat.reduceMod, Int.reduceLE, Int.reduceLT, Int.reduceSub, Int.reduceAdd, hw]
      have hf : knE p (elm l i) = true := by
        rw [knE_eq]
        revert h2
        generalize decide ((elm l i).kind = 4) = x1
        generalize decide (fnIdx p.funcs (elm l i).name < 0) = x2
        generalize (elm l i).kids.all (knE p) = x3
        revert x1 x2 x3
        decide
      refine ⟨i + 1, ⟨h, fun j hj => ?_⟩, by omega, ?_⟩
      · by_cases e : j = i
        · subst e; exact hf
        · exact hne j (by omega)
      · refine ⟨rfl, rfl, rfl, by repeat (first | exact AgreeOff.refl _ _ | refine AgreeOff.upd rfl ?_ | refine AgreeOff.over rfl ?_), by repeat (first | exact AgreeOff.refl _ _ | refine AgreeOff.upd rfl ?_ | refine AgreeOff.over rfl ?_), by repeat (first | exact AgreeOff.refl _ _ | refine AgreeOff.upd rfl ?_ | refine AgreeOff.over rfl ?_), ?_, by repeat (first | trivial | exact .inr rfl | exact .inl rfl | refine ⟨?_, ?_⟩), by repeat (first | trivial | exact .inr rfl | exact .inl rfl | refine ⟨?_, ?_⟩), by repeat (first | trivial | exact .inr rfl | exact .inl rfl | refine ⟨?_, ?_⟩), by repeat (first | trivial | exact .inr rfl | exact .inl rfl | refine ⟨?_, ?_⟩), by repeat (first | trivial | exact .inr rfl | exact .inl rfl | refine ⟨?_, ?_⟩), by repeat (first | trivial | exact .inr rfl | exact .inl rfl | refine ⟨?_, ?_⟩)⟩
        exact ⟨rfl, trivial⟩
  · simp only [decide_eq_false_iff_not, Int.ofNat_lt] at h
    simp only [Tryd.f36, go_sem, Nat.reduceEqDiff, Nat.reduceLT, Nat.reduceLeDiff, Nat.reduceAdd, Nat.reduceSub, Nat.reduceMul, Nat.reduceBEq, Nat.reduceBNe, Int.reduceEq, Int.reduceToNat, Int.reduceNeg, ↓reduceIte, reduceCtorEq, Nat.reduceDiv, Nat.reduceMod, Int.reduceLE, Int.reduceLT, Int.reduceSub, Int.reduceAdd]
    exact (all_of fun j hj => hne j (by omega)).symm
theorem known_ind (p : Pg) : ∀ (n : Nat) (l : List Ex), szEs l < n → VPure Tryd.prog G 36 [.agg (encP p), .slice (l.map encE)] (.val (.bool (l.all (knE p))))
  | 0, _, h => by omega
  | n + 1, l, h => known_step p n (fun l h => known_ind p n l h) l (by omega)
theorem known_c (p : Pg) (l : List Ex) : VPure Tryd.prog G 36 [.agg (encP p), .slice (l.map encE)] (.val (.bool (l.all (knE p)))) := known_ind p (szEs l + 1) l (by omega)
noncomputable def r36 : Rule Tryd.prog G := Rule.pure 36 ((Pg) × (List Ex)) (fun x => match x with | (p, l) => [.agg (encP p), .slice (l.map encE)]) (fun x => match x with | (p, l) => .val (.bool (l.all (knE p)))) (by rintro ⟨p1, l1⟩ ⟨p2, l2⟩ h; simp only [List.cons.injEq, PV.agg.injEq, PV.val.injEq, PV.slice.injEq, Value.int.injEq, Value.bool.injEq, Value.string.injEq, encE_iff, encEs_iff, encS_iff, encSs_iff, encT_iff, encF_iff, encP_iff, Int.natCast_inj, true_and, and_true] at h; simp only [h]) (fun ⟨p, l⟩ => known_c p l)
theorem r36_at (tl : List (Rule Tryd.prog G)) (p : Pg) (l : List Ex) (sh : Sh) : tab (r36 :: tl) 36 [.agg [.slice (encT p.vars), .slice (p.arrays.map encA), .slice (p.funcs.map encF)], .slice (l.map encE)] sh = some (.val (.bool (l.all (knE p))), sh) := by
  have this : tab (r36 :: tl) 36 [.agg (encP p), .slice (l.map encE)] sh = some (.val (.bool (l.all (knE p))), sh) := tab_pure tl ((p, l) : (Pg) × (List Ex)) sh
  simpa only [encE_eq, encS_eq, encF, encP] using this
theorem r36_skip (tl : List (Rule Tryd.prog G)) (f : FuncId) (args : List PV) (sh : Sh) (h : f ≠ 36) : tab (r36 :: tl) f args sh = tab tl f args sh := tab_skip _ tl f args sh h
theorem r36_at1 (tl : List (Rule Tryd.prog G)) (p : Pg) (e : Ex) (sh : Sh) : tab (r36 :: tl) 36 [.agg [.slice (encT p.vars), .slice (p.arrays.map encA), .slice (p.funcs.map encF)], .slice [[.val (.int .i64 e.kind), .val (.int .i64 e.op), .val (.int .u32 e.num), .val (.string e.name), .slice (e.kids.map encE)]]] sh = some (.val (.bool (knE p e)), sh) := by
  have := r36_at tl p [e] sh
  simpa only [List.map_cons, List.map_nil, encE_eq, List.all_cons, List.all_nil, Bool.and_true] using this

/-- An expression's type and the error, by the document. -/
def refE (p : Pg) (e : Ex) : Int × Int := if knE p e = true then (if tyE p e = 0 then (0, 5) else (tyE p e, 0)) else (0, 4)
theorem refExpr_c (p : Pg) (e : Ex) : VPure Tryd.prog G 16 [.agg (encP p), .agg (encE e)] (.tup [.val (.int .i64 (refE p e).1), .val (.int .i64 (refE p e).2)]) := by
  refine VPure.of (.tup _ (by simp; exact ⟨.val _, .val _⟩)) fun sh => ?_
  refine VCalls_enter [] Tryd.func16 rfl (show 2 ≤ 18 by decide) ?_
  refine vCode_sound (tab_ok [r36, r37]) _ _ _ ?_
  simp only [encP]
  simp only [Tryd.f16, go_sem, Nat.reduceEqDiff, Nat.reduceLT, Nat.reduceLeDiff, Nat.reduceAdd, Nat.reduceSub, Nat.reduceMul, Nat.reduceBEq, Nat.reduceBNe, Int.reduceEq, Int.reduceToNat, Int.reduceNeg, ↓reduceIte, reduceCtorEq, Nat.reduceDiv, Nat.reduceMod, Int.reduceLE, Int.reduceLT, Int.reduceSub, Int.reduceAdd, r36_at, r36_skip, r37_at, r37_skip, encE_eq, r36_at1]
  refine if_intro _ rfl trivial (fun h => ?_) (fun h => ?_)
  · simp only [Tryd.f16, go_sem, Nat.reduceEqDiff, Nat.reduceLT, Nat.reduceLeDiff, Nat.reduceAdd, Nat.reduceSub, Nat.reduceMul, Nat.reduceBEq, Nat.reduceBNe, Int.reduceEq, Int.reduceToNat, Int.reduceNeg, ↓reduceIte, reduceCtorEq, Nat.reduceDiv, Nat.reduceMod, Int.reduceLE, Int.reduceLT, Int.reduceSub, Int.reduceAdd]
    have hk : knE p e = false := by simpa using h
    simp [refE, hk]
  · have hk : knE p e = true := by simpa using h
    simp only [Tryd.f16, go_sem, Nat.reduceEqDiff, Nat.reduceLT, Nat.reduceLeDiff, Nat.reduceAdd, Nat.reduceSub, Nat.reduceMul, Nat.reduceBEq, Nat.reduceBNe, Int.reduceEq, Int.reduceToNat, Int.reduceNeg, ↓reduceIte, reduceCtorEq, Nat.reduceDiv, Nat.reduceMod, Int.reduceLE, Int.reduceLT, Int.reduceSub, Int.reduceAdd, r36_at, r36_skip, r37_at, r37_skip, encE_eq]
    refine if_intro _ rfl trivial (fun h2 => ?_) (fun h2 => ?_)
    · simp only [Tryd.f16, go_sem, Nat.reduceEqDiff, Nat.reduceLT, Nat.reduceLeDiff, Nat.reduceAdd, Nat.reduceSub, Nat.reduceMul, Nat.reduceBEq, Nat.reduceBNe, Int.reduceEq, Int.reduceToNat, Int.reduceNeg, ↓reduceIte, reduceCtorEq, Nat.reduceDiv, Nat.reduceMod, Int.reduceLE, Int.reduceLT, Int.reduceSub, Int.reduceAdd]
      have h3 : tyE p e = 0 := by simpa using h2
      simp [refE, hk, h3]
    · simp only [Tryd.f16, go_sem, Nat.reduceEqDiff, Nat.reduceLT, Nat.reduceLeDiff, Nat.reduceAdd, Nat.reduceSub, Nat.reduceMul, Nat.reduceBEq, Nat.reduceBNe, Int.reduceEq, Int.reduceToNat, Int.reduceNeg, ↓reduceIte, reduceCtorEq, Nat.reduceDiv, Nat.reduceMod, Int.reduceLE, Int.reduceLT, Int.reduceSub, Int.reduceAdd]
      have h3 : ¬ tyE p e = 0 := by simpa using h2
      simp [refE, hk, h3]
noncomputable def r16 : Rule Tryd.prog G := Rule.pure 16 ((Pg) × (Ex)) (fun x => match x with | (p, e) => [.agg (encP p), .agg (encE e)]) (fun x => match x with | (p, e) => .tup [.val (.int .i64 (refE p e).1), .val (.int .i64 (refE p e).2)]) (by rintro ⟨p1, e1⟩ ⟨p2, e2⟩ h; simp only [List.cons.injEq, PV.agg.injEq, PV.val.injEq, PV.slice.injEq, Value.int.injEq, Value.bool.injEq, Value.string.injEq, encE_iff, encEs_iff, encS_iff, encSs_iff, encT_iff, encF_iff, encP_iff, Int.natCast_inj, true_and, and_true] at h; simp only [h]) (fun ⟨p, e⟩ => refExpr_c p e)
theorem r16_at (tl : List (Rule Tryd.prog G)) (p : Pg) (e : Ex) (sh : Sh) : tab (r16 :: tl) 16 [.agg [.slice (encT p.vars), .slice (p.arrays.map encA), .slice (p.funcs.map encF)], .agg [.val (.int .i64 e.kind), .val (.int .i64 e.op), .val (.int .u32 e.num), .val (.string e.name), .slice (e.kids.map encE)]] sh = some (.tup [.val (.int .i64 (refE p e).1), .val (.int .i64 (refE p e).2)], sh) := by
  have this : tab (r16 :: tl) 16 [.agg (encP p), .agg (encE e)] sh = some (.tup [.val (.int .i64 (refE p e).1), .val (.int .i64 (refE p e).2)], sh) := tab_pure tl ((p, e) : (Pg) × (Ex)) sh
  simpa only [encE_eq, encS_eq, encF, encP] using this
theorem r16_skip (tl : List (Rule Tryd.prog G)) (f : FuncId) (args : List PV) (sh : Sh) (h : f ≠ 16) : tab (r16 :: tl) f args sh = tab tl f args sh := tab_skip _ tl f args sh h
end Go.Proofs.YtaackmiajgapoaaDoor.V
