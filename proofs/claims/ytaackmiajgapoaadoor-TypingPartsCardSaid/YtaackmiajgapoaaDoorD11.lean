/- Types, by the document (seedcornref17): an expression's. -/
import Derived.Test.YtaackmiajgapoaaDoorD10
set_option maxHeartbeats 16000000
set_option maxRecDepth 100000
set_option linter.unusedSimpArgs false
set_option linter.unusedVariables false
namespace Go.Proofs.YtaackmiajgapoaaDoor.V
open Go
variable {G : Nat → Option (List PV)}

theorem type_step (p : Pg) (n : Nat) (IH : ∀ e : Ex, szE e < n → VPure Tryd.prog G 37 [.agg (encP p), .agg (encE e)] (.val (.int .i64 (tyE p e)))) (e : Ex) (he : szE e ≤ n) :
    VPure Tryd.prog G 37 [.agg (encP p), .agg (encE e)] (.val (.int .i64 (tyE p e))) := by
  have hk : ∀ i, i < e.kids.length → szE (elm e.kids i) < n := fun i h => Nat.lt_of_lt_of_le (szE_kids e i h) he
  obtain ⟨R, hR0, hs⟩ := mkRule (P := Tryd.prog) (G := G) 66 (List Ex) (fun x => [.agg (encP p), .slice (x.map encE)]) (fun x => .val (.bool (x.all fun e => decide (tyE p e = 1)))) (fun x => ∀ i, i < x.length → szE (elm x i) < n)
    (by rintro a b h; simp only [List.cons.injEq, PV.slice.injEq, encEs_iff, true_and, and_true] at h; simp only [h]) (fun x h => words_step p n IH x h)
  obtain ⟨S, hS0, hs2⟩ := mkRule (P := Tryd.prog) (G := G) 67 (List Ex) (fun x => [.agg (encP p), .slice (x.map encE)]) (fun x => .val (.bool (x.all fun e => decide (tyE p e = 2)))) (fun x => ∀ i, i < x.length → szE (elm x i) < n)
    (by rintro a b h; simp only [List.cons.injEq, PV.slice.injEq, encEs_iff, true_and, and_true] at h; simp only [h]) (fun x h => bools_step p n IH x h)
  have hR : ∀ tl sh, tab (R :: tl) 66 [.agg [.slice (encT p.vars), .slice (p.arrays.map encA), .slice (p.funcs.map encF)], .slice (e.kids.map encE)] sh = some (.val (.bool (e.kids.all fun e => decide (tyE p e = 1))), sh) := by
    intro tl sh
    have := hR0 tl e.kids sh hk
    simpa only [encP] using this
  have hS : ∀ tl sh, tab (S :: tl) 67 [.agg [.slice (encT p.vars), .slice (p.arrays.map encA), .slice (p.funcs.map encF)], .slice (e.kids.map encE)] sh = some (.val (.bool (e.kids.all fun e => decide (tyE p e = 2))), sh) := by
    intro tl sh
    have := hS0 tl e.kids sh hk
    simpa only [encP] using this
  clear hR0 hS0
  refine VPure.of (.val _) fun sh => ?_
  refine VCalls_enter [] Tryd.func37 rfl (show 2 ≤ 63 by decide) ?_
  refine vCode_sound (tab_ok [r65, R, S]) _ _ _ ?_
  rw [tyE_eq]
  generalize (e.kids.all fun e => decide (tyE p e = 1)) = bw at hR ⊢
  generalize (e.kids.all fun e => decide (tyE p e = 2)) = bb at hS ⊢
  simp only [encP]
  have hkind : e.kind = 1 ∨ e.kind = 2 ∨ e.kind = 3 ∨ e.kind = 4 ∨ e.kind = 5 ∨ e.kind = 6 ∨ e.kind = 7 ∨ e.kind = 8 ∨ e.kind = 9 ∨ (¬ e.kind = 1 ∧ ¬ e.kind = 2 ∧ ¬ e.kind = 3 ∧ ¬ e.kind = 4 ∧ ¬ e.kind = 5 ∧ ¬ e.kind = 6 ∧ ¬ e.kind = 7 ∧ ¬ e.kind = 8 ∧ ¬ e.kind = 9) := by omega
  rcases hkind with hk | hk | hk | hk | hk | hk | hk | hk | hk | ⟨k1, k2, k3, k4, k5, k6, k7, k8, k9⟩
  · simp only [Tryd.f37, go_sem, Nat.reduceEqDiff, Nat.reduceLT, Nat.reduceLeDiff, Nat.reduceAdd, Nat.reduceSub, Nat.reduceMul, Nat.reduceBEq, Nat.reduceBNe, Int.reduceEq, Int.reduceToNat, Int.reduceNeg, ↓reduceIte, reduceCtorEq, Nat.reduceDiv, Nat.reduceMod, Int.reduceLE, Int.reduceLT, Int.reduceSub, Int.reduceAdd, hk, or_self]
  · simp only [Tryd.f37, go_sem, Nat.reduceEqDiff, Nat.reduceLT, Nat.reduceLeDiff, Nat.reduceAdd, Nat.reduceSub, Nat.reduceMul, Nat.reduceBEq, Nat.reduceBNe, Int.reduceEq, Int.reduceToNat, Int.reduceNeg, ↓reduceIte, reduceCtorEq, Nat.reduceDiv, Nat.reduceMod, Int.reduceLE, Int.reduceLT, Int.reduceSub, Int.reduceAdd, hk, or_self]
  · simp only [Tryd.f37, go_sem, Nat.reduceEqDiff, Nat.reduceLT, Nat.reduceLeDiff, Nat.reduceAdd, Nat.reduceSub, Nat.reduceMul, Nat.reduceBEq, Nat.reduceBNe, Int.reduceEq, Int.reduceToNat, Int.reduceNeg, ↓reduceIte, reduceCtorEq, Nat.reduceDiv, Nat.reduceMod, Int.reduceLE, Int.reduceLT, Int.reduceSub, Int.reduceAdd, r65_at, r65_skip, hk, hR, hs, or_self]
    cases bw <;> simp only [Tryd.f37, go_sem, Nat.reduceEqDiff, Nat.reduceLT, Nat.reduceLeDiff, Nat.reduceAdd, Nat.reduceSub, Nat.reduceMul, Nat.reduceBEq, Nat.reduceBNe, Int.reduceEq, Int.reduceToNat, Int.reduceNeg, ↓reduceIte, reduceCtorEq, Nat.reduceDiv, Nat.reduceMod, Int.reduceLE, Int.reduceLT, Int.reduceSub, Int.reduceAdd]
  · simp only [Tryd.f37, go_sem, Nat.reduceEqDiff, Nat.reduceLT, Nat.reduceLeDiff, Nat.reduceAdd, Nat.reduceSub, Nat.reduceMul, Nat.reduceBEq, Nat.reduceBNe, Int.reduceEq, Int.reduceToNat, Int.reduceNeg, ↓reduceIte, reduceCtorEq, Nat.reduceDiv, Nat.reduceMod, Int.reduceLE, Int.reduceLT, Int.reduceSub, Int.reduceAdd, r65_at, r65_skip, hk, hR, hs, or_self]
    unfold fnWord
    rcases fnIdx_cases p.funcs e.name with hf | ⟨i, hi, hf⟩
    · rw [hf]
      simp only [Tryd.f37, go_sem, Nat.reduceEqDiff, Nat.reduceLT, Nat.reduceLeDiff, Nat.reduceAdd, Nat.reduceSub, Nat.reduceMul, Nat.reduceBEq, Nat.reduceBNe, Int.reduceEq, Int.reduceToNat, Int.reduceNeg, ↓reduceIte, reduceCtorEq, Nat.reduceDiv, Nat.reduceMod, Int.reduceLE, Int.reduceLT, Int.reduceSub, Int.reduceAdd, r65_at, r65_skip, hR, hs]
      refine if_intro _ rfl trivial (fun h2 => ?_) (fun h2 => ?_)
      · exact absurd h2 (by simp)
      · simp only [Tryd.f37, go_sem, Nat.reduceEqDiff, Nat.reduceLT, Nat.reduceLeDiff, Nat.reduceAdd, Nat.reduceSub, Nat.reduceMul, Nat.reduceBEq, Nat.reduceBNe, Int.reduceEq, Int.reduceToNat, Int.reduceNeg, ↓reduceIte, reduceCtorEq, Nat.reduceDiv, Nat.reduceMod, Int.reduceLE, Int.reduceLT, Int.reduceSub, Int.reduceAdd]
        try simp
    · rw [hf]
      simp only [Tryd.f37, go_sem, Nat.reduceEqDiff, Nat.reduceLT, Nat.reduceLeDiff, Nat.reduceAdd, Nat.reduceSub, Nat.reduceMul, Nat.reduceBEq, Nat.reduceBNe, Int.reduceEq, Int.reduceToNat, Int.reduceNeg, ↓reduceIte, reduceCtorEq, Nat.reduceDiv, Nat.reduceMod, Int.reduceLE, Int.reduceLT, Int.reduceSub, Int.reduceAdd, r65_at, r65_skip, hi, hR, hs]
      repeat (first | intro _ | refine And.intro (by (intros; first | omega | (simp only [Bool.or_eq_false_iff, Bool.or_eq_true, decide_eq_false_iff_not, beq_iff_eq, Bool.and_eq_true, decide_eq_true_eq, Bool.not_eq_true'] at *; omega) | simp_all)) ?_)
      refine if_intro _ rfl trivial (fun h2 => ?_) (fun h2 => ?_)
      · simp only [Tryd.f37, go_sem, Nat.reduceEqDiff, Nat.reduceLT, Nat.reduceLeDiff, Nat.reduceAdd, Nat.reduceSub, Nat.reduceMul, Nat.reduceBEq, Nat.reduceBNe, Int.reduceEq, Int.reduceToNat, Int.reduceNeg, ↓reduceIte, reduceCtorEq, Nat.reduceDiv, Nat.reduceMod, Int.reduceLE, Int.reduceLT, Int.reduceSub, Int.reduceAdd]
        simp only [Bool.and_eq_true, decide_eq_true_eq] at h2
        simp [h2]
      · simp only [Tryd.f37, go_sem, Nat.reduceEqDiff, Nat.reduceLT, Nat.reduceLeDiff, Nat.reduceAdd, Nat.reduceSub, Nat.reduceMul, Nat.reduceBEq, Nat.reduceBNe, Int.reduceEq, Int.reduceToNat, Int.reduceNeg, ↓reduceIte, reduceCtorEq, Nat.reduceDiv, Nat.reduceMod, Int.reduceLE, Int.reduceLT, Int.reduceSub, Int.reduceAdd]
        rw [if_neg]
        intro hc
        simp at hc
        simp [hc] at h2
  · simp only [Tryd.f37, go_sem, Nat.reduceEqDiff, Nat.reduceLT, Nat.reduceLeDiff, Nat.reduceAdd, Nat.reduceSub, Nat.reduceMul, Nat.reduceBEq, Nat.reduceBNe, Int.reduceEq, Int.reduceToNat, Int.reduceNeg, ↓reduceIte, reduceCtorEq, Nat.reduceDiv, Nat.reduceMod, Int.reduceLE, Int.reduceLT, Int.reduceSub, Int.reduceAdd, hk, or_self]
  · simp only [Tryd.f37, go_sem, Nat.reduceEqDiff, Nat.reduceLT, Nat.reduceLeDiff, Nat.reduceAdd, Nat.reduceSub, Nat.reduceMul, Nat.reduceBEq, Nat.reduceBNe, Int.reduceEq, Int.reduceToNat, Int.reduceNeg, ↓reduceIte, reduceCtorEq, Nat.reduceDiv, Nat.reduceMod, Int.reduceLE, Int.reduceLT, Int.reduceSub, Int.reduceAdd, r65_at, r65_skip, hk, hR, hs, or_self]
    cases bw <;> simp only [Tryd.f37, go_sem, Nat.reduceEqDiff, Nat.reduceLT, Nat.reduceLeDiff, Nat.reduceAdd, Nat.reduceSub, Nat.reduceMul, Nat.reduceBEq, Nat.reduceBNe, Int.reduceEq, Int.reduceToNat, Int.reduceNeg, ↓reduceIte, reduceCtorEq, Nat.reduceDiv, Nat.reduceMod, Int.reduceLE, Int.reduceLT, Int.reduceSub, Int.reduceAdd]
    refine if_intro _ rfl trivial (fun h2 => ?_) (fun h2 => ?_)
    · simp only [Tryd.f37, go_sem, Nat.reduceEqDiff, Nat.reduceLT, Nat.reduceLeDiff, Nat.reduceAdd, Nat.reduceSub, Nat.reduceMul, Nat.reduceBEq, Nat.reduceBNe, Int.reduceEq, Int.reduceToNat, Int.reduceNeg, ↓reduceIte, reduceCtorEq, Nat.reduceDiv, Nat.reduceMod, Int.reduceLE, Int.reduceLT, Int.reduceSub, Int.reduceAdd]
      rw [if_pos (by simpa using h2)]
    · simp only [Tryd.f37, go_sem, Nat.reduceEqDiff, Nat.reduceLT, Nat.reduceLeDiff, Nat.reduceAdd, Nat.reduceSub, Nat.reduceMul, Nat.reduceBEq, Nat.reduceBNe, Int.reduceEq, Int.reduceToNat, Int.reduceNeg, ↓reduceIte, reduceCtorEq, Nat.reduceDiv, Nat.reduceMod, Int.reduceLE, Int.reduceLT, Int.reduceSub, Int.reduceAdd]
      rw [if_neg (by simpa using h2)]
  · simp only [Tryd.f37, go_sem, Nat.reduceEqDiff, Nat.reduceLT, Nat.reduceLeDiff, Nat.reduceAdd, Nat.reduceSub, Nat.reduceMul, Nat.reduceBEq, Nat.reduceBNe, Int.reduceEq, Int.reduceToNat, Int.reduceNeg, ↓reduceIte, reduceCtorEq, Nat.reduceDiv, Nat.reduceMod, Int.reduceLE, Int.reduceLT, Int.reduceSub, Int.reduceAdd, r65_at, r65_skip, hk, hR, hS, hs, hs2, or_self]
    cases bb <;> simp only [Tryd.f37, go_sem, Nat.reduceEqDiff, Nat.reduceLT, Nat.reduceLeDiff, Nat.reduceAdd, Nat.reduceSub, Nat.reduceMul, Nat.reduceBEq, Nat.reduceBNe, Int.reduceEq, Int.reduceToNat, Int.reduceNeg, ↓reduceIte, reduceCtorEq, Nat.reduceDiv, Nat.reduceMod, Int.reduceLE, Int.reduceLT, Int.reduceSub, Int.reduceAdd]
  · simp only [Tryd.f37, go_sem, Nat.reduceEqDiff, Nat.reduceLT, Nat.reduceLeDiff, Nat.reduceAdd, Nat.reduceSub, Nat.reduceMul, Nat.reduceBEq, Nat.reduceBNe, Int.reduceEq, Int.reduceToNat, Int.reduceNeg, ↓reduceIte, reduceCtorEq, Nat.reduceDiv, Nat.reduceMod, Int.reduceLE, Int.reduceLT, Int.reduceSub, Int.reduceAdd, r65_at, r65_skip, hk, hR, hS, hs, hs2, or_self]
    cases bb <;> simp only [Tryd.f37, go_sem, Nat.reduceEqDiff, Nat.reduceLT, Nat.reduceLeDiff, Nat.reduceAdd, Nat.reduceSub, Nat.reduceMul, Nat.reduceBEq, Nat.reduceBNe, Int.reduceEq, Int.reduceToNat, Int.reduceNeg, ↓reduceIte, reduceCtorEq, Nat.reduceDiv, Nat.reduceMod, Int.reduceLE, Int.reduceLT, Int.reduceSub, Int.reduceAdd]
  · simp only [Tryd.f37, go_sem, Nat.reduceEqDiff, Nat.reduceLT, Nat.reduceLeDiff, Nat.reduceAdd, Nat.reduceSub, Nat.reduceMul, Nat.reduceBEq, Nat.reduceBNe, Int.reduceEq, Int.reduceToNat, Int.reduceNeg, ↓reduceIte, reduceCtorEq, Nat.reduceDiv, Nat.reduceMod, Int.reduceLE, Int.reduceLT, Int.reduceSub, Int.reduceAdd, r65_at, r65_skip, hk, hR, hS, hs, hs2, or_self]
    cases bb <;> simp only [Tryd.f37, go_sem, Nat.reduceEqDiff, Nat.reduceLT, Nat.reduceLeDiff, Nat.reduceAdd, Nat.reduceSub, Nat.reduceMul, Nat.reduceBEq, Nat.reduceBNe, Int.reduceEq, Int.reduceToNat, Int.reduceNeg, ↓reduceIte, reduceCtorEq, Nat.reduceDiv, Nat.reduceMod, Int.reduceLE, Int.reduceLT, Int.reduceSub, Int.reduceAdd]
  · simp only [Tryd.f37, go_sem, Nat.reduceEqDiff, Nat.reduceLT, Nat.reduceLeDiff, Nat.reduceAdd, Nat.reduceSub, Nat.reduceMul, Nat.reduceBEq, Nat.reduceBNe, Int.reduceEq, Int.reduceToNat, Int.reduceNeg, ↓reduceIte, reduceCtorEq, Nat.reduceDiv, Nat.reduceMod, Int.reduceLE, Int.reduceLT, Int.reduceSub, Int.reduceAdd, r65_at, r65_skip, k1, k2, k3, k4, k5, k6, k7, k8, k9, or_self]

theorem type_ind (p : Pg) : ∀ (n : Nat) (e : Ex), szE e < n → VPure Tryd.prog G 37 [.agg (encP p), .agg (encE e)] (.val (.int .i64 (tyE p e)))
  | 0, _, h => by omega
  | n + 1, e, h => type_step p n (fun e h => type_ind p n e h) e (by omega)
theorem type_c (p : Pg) (e : Ex) : VPure Tryd.prog G 37 [.agg (encP p), .agg (encE e)] (.val (.int .i64 (tyE p e))) := type_ind p (szE e + 1) e (by omega)
theorem words_c2 (p : Pg) (l : List Ex) : VPure Tryd.prog G 66 [.agg (encP p), .slice (l.map encE)] (.val (.bool (l.all fun e => decide (tyE p e = 1)))) :=
  words_step p (szEs l + 1) (fun e _ => type_c p e) l fun i hi => by have := szEs_elm l i hi; omega
theorem bools_c2 (p : Pg) (l : List Ex) : VPure Tryd.prog G 67 [.agg (encP p), .slice (l.map encE)] (.val (.bool (l.all fun e => decide (tyE p e = 2)))) :=
  bools_step p (szEs l + 1) (fun e _ => type_c p e) l fun i hi => by have := szEs_elm l i hi; omega
noncomputable def r37 : Rule Tryd.prog G := Rule.pure 37 ((Pg) × (Ex)) (fun x => match x with | (p, e) => [.agg (encP p), .agg (encE e)]) (fun x => match x with | (p, e) => .val (.int .i64 (tyE p e))) (by rintro ⟨p1, e1⟩ ⟨p2, e2⟩ h; simp only [List.cons.injEq, PV.agg.injEq, PV.val.injEq, PV.slice.injEq, Value.int.injEq, Value.bool.injEq, Value.string.injEq, encE_iff, encEs_iff, encS_iff, encSs_iff, encT_iff, encF_iff, encP_iff, Int.natCast_inj, true_and, and_true] at h; simp only [h]) (fun ⟨p, e⟩ => type_c p e)
theorem r37_at (tl : List (Rule Tryd.prog G)) (p : Pg) (e : Ex) (sh : Sh) : tab (r37 :: tl) 37 [.agg [.slice (encT p.vars), .slice (p.arrays.map encA), .slice (p.funcs.map encF)], .agg [.val (.int .i64 e.kind), .val (.int .i64 e.op), .val (.int .u32 e.num), .val (.string e.name), .slice (e.kids.map encE)]] sh = some (.val (.int .i64 (tyE p e)), sh) := by
  have this : tab (r37 :: tl) 37 [.agg (encP p), .agg (encE e)] sh = some (.val (.int .i64 (tyE p e)), sh) := tab_pure tl ((p, e) : (Pg) × (Ex)) sh
  simpa only [encE_eq, encS_eq, encF, encP] using this
theorem r37_skip (tl : List (Rule Tryd.prog G)) (f : FuncId) (args : List PV) (sh : Sh) (h : f ≠ 37) : tab (r37 :: tl) f args sh = tab tl f args sh := tab_skip _ tl f args sh h
noncomputable def r66 : Rule Tryd.prog G := Rule.pure 66 ((Pg) × (List Ex)) (fun x => match x with | (p, l) => [.agg (encP p), .slice (l.map encE)]) (fun x => match x with | (p, l) => .val (.bool (l.all fun e => decide (tyE p e = 1)))) (by rintro ⟨p1, l1⟩ ⟨p2, l2⟩ h; simp only [List.cons.injEq, PV.agg.injEq, PV.val.injEq, PV.slice.injEq, Value.int.injEq, Value.bool.injEq, Value.string.injEq, encE_iff, encEs_iff, encS_iff, encSs_iff, encT_iff, encF_iff, encP_iff, Int.natCast_inj, true_and, and_true] at h; simp only [h]) (fun ⟨p, l⟩ => words_c2 p l)
theorem r66_at (tl : List (Rule Tryd.prog G)) (p : Pg) (l : List Ex) (sh : Sh) : tab (r66 :: tl) 66 [.agg [.slice (encT p.vars), .slice (p.arrays.map encA), .slice (p.funcs.map encF)], .slice (l.map encE)] sh = some (.val (.bool (l.all fun e => decide (tyE p e = 1))), sh) := by
  have this : tab (r66 :: tl) 66 [.agg (encP p), .slice (l.map encE)] sh = some (.val (.bool (l.all fun e => decide (tyE p e = 1))), sh) := tab_pure tl ((p, l) : (Pg) × (List Ex)) sh
  simpa only [encE_eq, encS_eq, encF, encP] using this
theorem r66_skip (tl : List (Rule Tryd.prog G)) (f : FuncId) (args : List PV) (sh : Sh) (h : f ≠ 66) : tab (r66 :: tl) f args sh = tab tl f args sh := tab_skip _ tl f args sh h
noncomputable def r67 : Rule Tryd.prog G := Rule.pure 67 ((Pg) × (List Ex)) (fun x => match x with | (p, l) => [.agg (encP p), .slice (l.map encE)]) (fun x => match x with | (p, l) => .val (.bool (l.all fun e => decide (tyE p e = 2)))) (by rintro ⟨p1, l1⟩ ⟨p2, l2⟩ h; simp only [List.cons.injEq, PV.agg.injEq, PV.val.injEq, PV.slice.injEq, Value.int.injEq, Value.bool.injEq, Value.string.injEq, encE_iff, encEs_iff, encS_iff, encSs_iff, encT_iff, encF_iff, encP_iff, Int.natCast_inj, true_and, and_true] at h; simp only [h]) (fun ⟨p, l⟩ => bools_c2 p l)
theorem r67_at (tl : List (Rule Tryd.prog G)) (p : Pg) (l : List Ex) (sh : Sh) : tab (r67 :: tl) 67 [.agg [.slice (encT p.vars), .slice (p.arrays.map encA), .slice (p.funcs.map encF)], .slice (l.map encE)] sh = some (.val (.bool (l.all fun e => decide (tyE p e = 2))), sh) := by
  have this : tab (r67 :: tl) 67 [.agg (encP p), .slice (l.map encE)] sh = some (.val (.bool (l.all fun e => decide (tyE p e = 2))), sh) := tab_pure tl ((p, l) : (Pg) × (List Ex)) sh
  simpa only [encE_eq, encS_eq, encF, encP] using this
theorem r67_skip (tl : List (Rule Tryd.prog G)) (f : FuncId) (args : List PV) (sh : Sh) (h : f ≠ 67) : tab (r67 :: tl) f args sh = tab tl f args sh := tab_skip _ tl f args sh h
end Go.Proofs.YtaackmiajgapoaaDoor.V
