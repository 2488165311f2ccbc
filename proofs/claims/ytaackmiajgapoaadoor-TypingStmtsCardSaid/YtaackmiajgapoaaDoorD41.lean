/- The law of parts. -/
import Derived.Test.YtaackmiajgapoaaDoorD40
import Derived.Test.YtaackmiajgapoaaDoorVC
set_option maxRecDepth 100000
set_option maxHeartbeats 16000000
set_option linter.unusedSimpArgs false
set_option linter.unusedVariables false
namespace Go.Proofs.YtaackmiajgapoaaDoor.V
open Go
variable {G : Nat → Option (List PV)}

theorem nf_strs (l : List ByteArray) : nf (.slice (encT l)) = .slice (encT l) := by
  show PV.slice (nfLL (encT l)) = _
  rw [nfLL_map]
  unfold encT
  rw [List.map_map]
  rfl
theorem nf_map {α : Type} (f : α → List PV) (l : List α) (h : ∀ a ∈ l, nfL (f a) = f a) : nf (.slice (l.map f)) = .slice (l.map f) := by
  show PV.slice (nfLL (l.map f)) = _
  rw [nfLL_map, List.map_map]
  congr 1
  exact List.map_congr_left h
theorem nf_encE : ∀ (n : Nat) (e : Ex), szE e < n → nfL (encE e) = encE e
  | 0, _, h => absurd h (by omega)
  | n + 1, e, h => by
    rw [encE_eq]
    have : nf (.slice (e.kids.map encE)) = .slice (e.kids.map encE) := nf_map encE e.kids fun a ha => by
      obtain ⟨i, hi, rfl⟩ := List.getElem_of_mem ha
      have := szE_kids e i hi
      rw [elm_eq hi] at this
      exact nf_encE n _ (by omega)
    show [_, _, _, _, nf (.slice (e.kids.map encE))] = _
    rw [this]
    rfl
theorem nfE (e : Ex) : nfL (encE e) = encE e := nf_encE _ e (Nat.lt_succ_self _)
theorem nf_encS : ∀ (n : Nat) (e : St), szS e < n → nfL (encS e) = encS e
  | 0, _, h => absurd h (by omega)
  | n + 1, e, h => by
    rw [encS_eq]
    have hz : szS e = 1 + szEs e.e + szSs e.thn + szSs e.els := by cases e with | mk k x a t f => rfl
    have h1 : nf (.slice (e.e.map encE)) = .slice (e.e.map encE) := nf_map encE e.e fun a _ => nfE a
    have h2 : nf (.slice (e.thn.map encS)) = .slice (e.thn.map encS) := nf_map encS e.thn fun a ha => by
      obtain ⟨i, hi, rfl⟩ := List.getElem_of_mem ha
      have := szSs_elm e.thn i hi
      rw [elm_eq hi] at this
      exact nf_encS n _ (by omega)
    have h3 : nf (.slice (e.els.map encS)) = .slice (e.els.map encS) := nf_map encS e.els fun a ha => by
      obtain ⟨i, hi, rfl⟩ := List.getElem_of_mem ha
      have := szSs_elm e.els i hi
      rw [elm_eq hi] at this
      exact nf_encS n _ (by omega)
    show [_, _, nf (.slice (e.e.map encE)), nf (.slice (e.thn.map encS)), nf (.slice (e.els.map encS))] = _
    rw [h1, h2, h3]
    rfl
theorem nfS (e : St) : nfL (encS e) = encS e := nf_encS _ e (Nat.lt_succ_self _)
theorem nfF (f : Fn) : nfL (encF f) = encF f := by
  unfold encF
  show [_, nf (.slice (encT f.params)), nf (.slice (encT f.locals)), _, nf (.slice (f.body.map encS))] = _
  rw [nf_strs, nf_strs, nf_map encS f.body fun a _ => nfS a]
  rfl
theorem nfP (p : Pg) : nf (.agg (encP p)) = .agg (encP p) := by
  show PV.agg (nfL (encP p)) = _
  unfold encP
  show PV.agg [nf (.slice (encT p.vars)), nf (.slice (p.arrays.map encA)), nf (.slice (p.funcs.map encF))] = _
  rw [nf_strs, nf_map encA p.arrays fun a _ => rfl, nf_map encF p.funcs fun a _ => nfF a]

def litE (n : Int) : Ex := .mk 1 0 n ByteArray.empty []
def partE (p : Pg) (n : Int) (k : Ex) : Ex := if tyE p k = 1 then litE n else bothE 6 15 (litE n) (litE n)
def partR (p : Pg) (n : Int) (k : Ex) : List PV := if tyE p k = 1 then [.val (.int .i64 1), .val (.int .i64 0), .val (.int .u32 n), .val (.string ByteArray.empty), .nils] else encE (bothE 6 15 (litE n) (litE n))
theorem partR_nf (p : Pg) (n : Int) (k : Ex) : nfL (partR p n k) = encE (partE p n k) := by
  unfold partR partE
  split
  · rfl
  · exact nfE _
def withParts (p : Pg) (n : Int) (e : Ex) : Ex := .mk e.kind e.op e.num e.name (e.kids.map (partE p n))
theorem partE_ty (p : Pg) (n : Int) (k : Ex) (h : (refE p k).2 = 0) : tyE p (partE p n k) = tyE p k ∧ knE p (partE p n k) = true ∧ knE p k = true := by
  unfold refE at h
  by_cases hk : knE p k = true
  · rw [if_pos hk] at h
    by_cases h0 : tyE p k = 0
    · rw [if_pos h0] at h; exact absurd h (by decide)
    · unfold partE
      rcases tyE_cases p k with h1 | h1 | h1
      · exact absurd h1 h0
      · rw [if_pos h1, h1]
        exact ⟨rfl, rfl, hk⟩
      · rw [if_neg (by omega), h1]
        exact ⟨rfl, rfl, hk⟩
  · rw [if_neg hk] at h; exact absurd h (by decide)
theorem all_map_ty (p : Pg) (n t : Int) (l : List Ex) (h : ∀ k ∈ l, (refE p k).2 = 0) : ((l.map (partE p n)).all fun e => decide (tyE p e = t)) = l.all fun e => decide (tyE p e = t) := by
  rw [List.all_map]
  exact all_congr l fun k hk => by simp only [Function.comp, (partE_ty p n k (h k hk)).1]
theorem all_kn (p : Pg) (n : Int) (l : List Ex) (h : ∀ k ∈ l, (refE p k).2 = 0) : ((l.map (partE p n)).all (knE p)) = l.all (knE p) := by
  rw [List.all_map]
  exact all_congr l fun k hk => by simp only [Function.comp, (partE_ty p n k (h k hk)).2.1, (partE_ty p n k (h k hk)).2.2]
theorem parts_ref (p : Pg) (n : Int) (e : Ex) (h : ∀ k ∈ e.kids, (refE p k).2 = 0) : refE p (withParts p n e) = refE p e := by
  have h1 : knE p (withParts p n e) = knE p e := by
    rw [knE_eq, knE_eq p e]
    show (_ && (e.kids.map (partE p n)).all (knE p)) = _
    rw [all_kn p n e.kids h]
    rfl
  have h2 : tyE p (withParts p n e) = tyE p e := by
    rw [tyE_eq, tyE_eq p e]
    have e1 : (withParts p n e).kind = e.kind := rfl
    have e2 : (withParts p n e).op = e.op := rfl
    have e3 : (withParts p n e).name = e.name := rfl
    have e4 : (withParts p n e).kids = e.kids.map (partE p n) := rfl
    simp only [e1, e2, e3, e4, all_map_ty p n _ e.kids h]
  unfold refE
  rw [h1, h2]
theorem parts_kd (p : Pg) (n : Int) (e : Ex) (h : kdE e = true) : kdE (withParts p n e) = true := by
  rw [kdE_eq, Bool.and_eq_true] at h
  rw [kdE_eq, Bool.and_eq_true]
  refine ⟨?_, ?_⟩
  · show kdK e.kind (e.kids.map (partE p n)).length = true
    rw [List.length_map]; exact h.1
  · show (e.kids.map (partE p n)).all kdE = true
    rw [List.all_map, List.all_eq_true]
    intro k _
    show kdE (partE p n k) = true
    unfold partE
    split <;> rfl

theorem refE_fst {p : Pg} {k : Ex} (h : (refE p k).2 = 0) : (refE p k).1 = tyE p k := by
  unfold refE at *
  by_cases hk : knE p k = true
  · rw [if_pos hk] at *
    by_cases h0 : tyE p k = 0
    · rw [if_pos h0] at h; exact absurd h (by decide)
    · rw [if_neg h0] at *
  · rw [if_neg hk] at h; exact absurd h (by decide)

theorem lawParts_c (hG : GOk G) (p : Pg) (e : Ex) (n : Int) : VPure Tryd.prog G 8 [.agg (encP p), .agg (encE e), .val (.int .u32 n)] (.val (.bool true)) := by
  refine VPure.of (.val _) fun sh => ?_
  refine VCalls_enter [] Tryd.func8 rfl (show 3 ≤ 96 by decide) ?_
  obtain ⟨W, hW, hsW⟩ := pureRule (awake_c hG)
  obtain ⟨F, hF, hsF⟩ := pureRule (few_c (G := G) p 100)
  obtain ⟨R, hR, hsR⟩ := pureRule (right_c (G := G) p)
  obtain ⟨L, hL, hsL⟩ := pureRule (leftExprs_c (G := G) [e] 100 20)
  obtain ⟨E, hE, hsE⟩ := pureRule (show VPure Tryd.prog G 14 [.agg (encE e), .val (.int .i64 1)] (.val (.bool (rightE 1 e))) from rightExpr_c e 1)
  simp only [encP, encE_eq, List.map_cons, List.map_nil] at hF hR hL hE
  simp only [encP]
  refine VWp_seq (vCode_sound (tab_ok [W, F, R, L, E]) _ _ _ ?_)
  simp only [Tryd.f8, go_sem, Nat.reduceEqDiff, Nat.reduceLT, Nat.reduceLeDiff, Nat.reduceAdd, Nat.reduceSub, Nat.reduceMul, Nat.reduceBEq, Nat.reduceBNe, Int.reduceEq, Int.reduceToNat, Int.reduceNeg, ↓reduceIte, reduceCtorEq, Nat.reduceDiv, Nat.reduceMod, Int.reduceLE, Int.reduceLT, Int.reduceSub, Int.reduceAdd]
  refine VWp_seq (vCode_sound (tab_ok [W, F, R, L, E]) _ _ _ ?_)
  simp only [Tryd.f8, go_sem, Nat.reduceEqDiff, Nat.reduceLT, Nat.reduceLeDiff, Nat.reduceAdd, Nat.reduceSub, Nat.reduceMul, Nat.reduceBEq, Nat.reduceBNe, Int.reduceEq, Int.reduceToNat, Int.reduceNeg, ↓reduceIte, reduceCtorEq, Nat.reduceDiv, Nat.reduceMod, Int.reduceLE, Int.reduceLT, Int.reduceSub, Int.reduceAdd, hW, hsW]
  refine VWp_seq (VWp_seq (VWp_known (tab_ok [W, F, R, L, E]) ?_))
  by_cases h1 : fewP p 100 = false
  · simp only [Tryd.f8, go_sem, Nat.reduceEqDiff, Nat.reduceLT, Nat.reduceLeDiff, Nat.reduceAdd, Nat.reduceSub, Nat.reduceMul, Nat.reduceBEq, Nat.reduceBNe, Int.reduceEq, Int.reduceToNat, Int.reduceNeg, ↓reduceIte, reduceCtorEq, Nat.reduceDiv, Nat.reduceMod, Int.reduceLE, Int.reduceLT, Int.reduceSub, Int.reduceAdd, vListK, hF, h1, hsW, hsF, hsR, hsL, hsE]
    refine vCode_sound (tab_ok [W]) _ _ _ ?_
    simp only [Tryd.f8, go_sem, Nat.reduceEqDiff, Nat.reduceLT, Nat.reduceLeDiff, Nat.reduceAdd, Nat.reduceSub, Nat.reduceMul, Nat.reduceBEq, Nat.reduceBNe, Int.reduceEq, Int.reduceToNat, Int.reduceNeg, ↓reduceIte, reduceCtorEq, Nat.reduceDiv, Nat.reduceMod, Int.reduceLE, Int.reduceLT, Int.reduceSub, Int.reduceAdd]
  rw [Bool.not_eq_false] at h1
  by_cases h2 : rightP p = false
  · simp only [Tryd.f8, go_sem, Nat.reduceEqDiff, Nat.reduceLT, Nat.reduceLeDiff, Nat.reduceAdd, Nat.reduceSub, Nat.reduceMul, Nat.reduceBEq, Nat.reduceBNe, Int.reduceEq, Int.reduceToNat, Int.reduceNeg, ↓reduceIte, reduceCtorEq, Nat.reduceDiv, Nat.reduceMod, Int.reduceLE, Int.reduceLT, Int.reduceSub, Int.reduceAdd, vListK, hF, h1, hR, h2, hsW, hsF, hsR, hsL, hsE]
    refine vCode_sound (tab_ok [W]) _ _ _ ?_
    simp only [Tryd.f8, go_sem, Nat.reduceEqDiff, Nat.reduceLT, Nat.reduceLeDiff, Nat.reduceAdd, Nat.reduceSub, Nat.reduceMul, Nat.reduceBEq, Nat.reduceBNe, Int.reduceEq, Int.reduceToNat, Int.reduceNeg, ↓reduceIte, reduceCtorEq, Nat.reduceDiv, Nat.reduceMod, Int.reduceLE, Int.reduceLT, Int.reduceSub, Int.reduceAdd]
  rw [Bool.not_eq_false] at h2
  by_cases h3 : leftEs [e] 100 20 < 0
  · simp only [Tryd.f8, go_sem, Nat.reduceEqDiff, Nat.reduceLT, Nat.reduceLeDiff, Nat.reduceAdd, Nat.reduceSub, Nat.reduceMul, Nat.reduceBEq, Nat.reduceBNe, Int.reduceEq, Int.reduceToNat, Int.reduceNeg, ↓reduceIte, reduceCtorEq, Nat.reduceDiv, Nat.reduceMod, Int.reduceLE, Int.reduceLT, Int.reduceSub, Int.reduceAdd, vListK, hF, h1, hR, h2, hL, h3, hsW, hsF, hsR, hsL, hsE]
    refine vCode_sound (tab_ok [W]) _ _ _ ?_
    simp only [Tryd.f8, go_sem, Nat.reduceEqDiff, Nat.reduceLT, Nat.reduceLeDiff, Nat.reduceAdd, Nat.reduceSub, Nat.reduceMul, Nat.reduceBEq, Nat.reduceBNe, Int.reduceEq, Int.reduceToNat, Int.reduceNeg, ↓reduceIte, reduceCtorEq, Nat.reduceDiv, Nat.reduceMod, Int.reduceLE, Int.reduceLT, Int.reduceSub, Int.reduceAdd]
  by_cases h4 : rightE 1 e = false
  · simp only [Tryd.f8, go_sem, Nat.reduceEqDiff, Nat.reduceLT, Nat.reduceLeDiff, Nat.reduceAdd, Nat.reduceSub, Nat.reduceMul, Nat.reduceBEq, Nat.reduceBNe, Int.reduceEq, Int.reduceToNat, Int.reduceNeg, ↓reduceIte, reduceCtorEq, Nat.reduceDiv, Nat.reduceMod, Int.reduceLE, Int.reduceLT, Int.reduceSub, Int.reduceAdd, vListK, hF, h1, hR, h2, hL, h3, hE, h4, hsW, hsF, hsR, hsL, hsE]
    refine vCode_sound (tab_ok [W]) _ _ _ ?_
    simp only [Tryd.f8, go_sem, Nat.reduceEqDiff, Nat.reduceLT, Nat.reduceLeDiff, Nat.reduceAdd, Nat.reduceSub, Nat.reduceMul, Nat.reduceBEq, Nat.reduceBNe, Int.reduceEq, Int.reduceToNat, Int.reduceNeg, ↓reduceIte, reduceCtorEq, Nat.reduceDiv, Nat.reduceMod, Int.reduceLE, Int.reduceLT, Int.reduceSub, Int.reduceAdd]
  rw [Bool.not_eq_false] at h4
  simp only [Tryd.f8, go_sem, Nat.reduceEqDiff, Nat.reduceLT, Nat.reduceLeDiff, Nat.reduceAdd, Nat.reduceSub, Nat.reduceMul, Nat.reduceBEq, Nat.reduceBNe, Int.reduceEq, Int.reduceToNat, Int.reduceNeg, ↓reduceIte, reduceCtorEq, Nat.reduceDiv, Nat.reduceMod, Int.reduceLE, Int.reduceLT, Int.reduceSub, Int.reduceAdd, vListK, hF, h1, hR, h2, hL, h3, hE, h4, hsW, hsF, hsR, hsL, hsE]
  clear hF hR hL hE hsF hsR hsL hsE
  refine vCode_sound (tab_ok [W]) _ _ _ ?_
  simp only [Tryd.f8, go_sem, Nat.reduceEqDiff, Nat.reduceLT, Nat.reduceLeDiff, Nat.reduceAdd, Nat.reduceSub, Nat.reduceMul, Nat.reduceBEq, Nat.reduceBNe, Int.reduceEq, Int.reduceToNat, Int.reduceNeg, ↓reduceIte, reduceCtorEq, Nat.reduceDiv, Nat.reduceMod, Int.reduceLE, Int.reduceLT, Int.reduceSub, Int.reduceAdd]
  have hkd := rightE_kd e 1 h4
  have hlen := right_kids h4
  have hkk : ∀ i, i < e.kids.length → kdE (elm e.kids i) = true := by
    intro i hi
    rw [kdE_eq, Bool.and_eq_true] at hkd
    exact all_elm hi hkd.2
  obtain ⟨B, hB, hsB⟩ := bothRule (G := G)
  obtain ⟨T, hT, hsT⟩ := typRule (G := G)
  have b15 : ∀ tl sh, tab (B :: tl) 19 [.val (.int .i64 6), .val (.int .i64 15), .agg [.val (.int .i64 1), .val (.int .i64 0), .val (.int .u32 n), .val (.string ByteArray.empty), .nils], .agg [.val (.int .i64 1), .val (.int .i64 0), .val (.int .u32 n), .val (.string ByteArray.empty), .nils]] sh = some (.agg (encE (bothE 6 15 (litE n) (litE n))), sh) := fun tl sh => hB tl (6, 15, litE n, litE n) _ sh trivial rfl
  have t0 : ∀ tl sh, tab (T :: tl) 15 [.agg (encP p), .agg (encE e)] sh = some (.tup [.val (.int .i64 (refE p e).1), .val (.int .i64 (refE p e).2)], sh) := fun tl sh => hT tl (p, e) _ sh hkd (by rw [nfL_map, List.map_cons, List.map_singleton, nfP]; show [_, PV.agg (nfL (encE e))] = _; rw [nfE])
  have tk : ∀ tl sh i, i < e.kids.length → tab (T :: tl) 15 [.agg (encP p), .agg (encE (elm e.kids i))] sh = some (.tup [.val (.int .i64 (refE p (elm e.kids i)).1), .val (.int .i64 (refE p (elm e.kids i)).2)], sh) := fun tl sh i hi => hT tl (p, elm e.kids i) _ sh (hkk i hi) (by rw [nfL_map, List.map_cons, List.map_singleton, nfP]; show [_, PV.agg (nfL (encE (elm e.kids i)))] = _; rw [nfE])
  have t1 : (∀ k ∈ e.kids, (refE p k).2 = 0) → ∀ tl sh, tab (T :: tl) 15 [.agg (encP p), .agg [.val (.int .i64 e.kind), .val (.int .i64 e.op), .val (.int .u32 e.num), .val (.string e.name), .slice (e.kids.map (partR p n))]] sh = some (.tup [.val (.int .i64 (refE p e).1), .val (.int .i64 (refE p e).2)], sh) := fun hk tl sh => by
    have := hT tl (p, withParts p n e) [.agg (encP p), .agg [.val (.int .i64 e.kind), .val (.int .i64 e.op), .val (.int .u32 e.num), .val (.string e.name), .slice (e.kids.map (partR p n))]] sh (parts_kd p n e hkd) (by
      rw [nfL_map, List.map_cons, List.map_singleton, nfP, encE_eq]
      have hm : nfLL (e.kids.map (partR p n)) = (e.kids.map (partE p n)).map encE := by
        rw [nfLL_map, List.map_map, List.map_map]
        exact List.map_congr_left fun k _ => partR_nf p n k
      show [_, PV.agg [_, _, _, _, PV.slice (nfLL (e.kids.map (partR p n)))]] = [_, PV.agg [_, _, _, _, PV.slice ((e.kids.map (partE p n)).map encE)]]
      rw [hm]
      rfl)
    rw [parts_ref p n e hk] at this
    exact this
  clear hB hT
  simp only [encP, encE_eq] at b15 t0 tk t1
  refine vCode_sound (tab_ok [B, T]) _ _ _ ?_
  simp only [Tryd.f8, go_sem, Nat.reduceEqDiff, Nat.reduceLT, Nat.reduceLeDiff, Nat.reduceAdd, Nat.reduceSub, Nat.reduceMul, Nat.reduceBEq, Nat.reduceBNe, Int.reduceEq, Int.reduceToNat, Int.reduceNeg, ↓reduceIte, reduceCtorEq, Nat.reduceDiv, Nat.reduceMod, Int.reduceLE, Int.reduceLT, Int.reduceSub, Int.reduceAdd]
  repeat (first | intro _ | refine And.intro (by (intros; first | omega | (simp only [Bool.or_eq_false_iff, Bool.or_eq_true, decide_eq_false_iff_not, beq_iff_eq, Bool.and_eq_true, decide_eq_true_eq, Bool.not_eq_true'] at *; omega) | simp_all)) ?_)
  refine loop_intro (VWp_promoteL 8 4 66 30 5 _ rfl rfl (by simp) rfl (VWp_for [41, 42, 43, 44, 45, 49, 50, 51, 52, 53, 54, 55, 48, 56, 57, 10, 11, 58, 59, 6, 60, 61, 62, 63, 64, 65, 66, 67, 68, 69, 70, 71, 72, 73, 74, 75, 46, 47, 9] (fun i : Nat => [(9, .val (.int .i64 i))]) [8] (fun i => [(8, some [.val (.int .i64 e.kind), .val (.int .i64 e.op), .val (.int .u32 e.num), .val (.string e.name), .tsl 66 i])]) [66, 65, 73] (fun i => [(66, some ⟨(e.kids.take i).map (partR p n), 30, 5, false⟩)]) (fun _ => sh)
    (fun i => i ≤ e.kids.length ∧ ∀ j, j < i → (refE p (elm e.kids j)).2 = 0) (fun i => e.kids.length - i) 0 ⟨Nat.zero_le _, fun j h => by omega⟩ ?_ ?_))
  · refine ⟨rfl, rfl, rfl, .refl _ _, .refl _ _, .refl _ _, ?_, ?_, ?_, by repeat (first | trivial | exact .inr rfl | exact .inl rfl | refine ⟨?_, ?_⟩), by repeat (first | trivial | exact .inr rfl | exact .inl rfl | refine ⟨?_, ?_⟩), by repeat (first | trivial | exact .inr rfl | exact .inl rfl | refine ⟨?_, ?_⟩), by repeat (first | trivial | exact .inr rfl | exact .inl rfl | refine ⟨?_, ?_⟩)⟩
    · exact ⟨rfl, trivial⟩
    · exact ⟨rfl, trivial⟩
    · exact ⟨rfl, trivial⟩
  rintro i ⟨hi, hne⟩
  have hel : ((e.kids.take i).map (partR p n)).length = i := by rw [List.length_map, List.length_take]; omega
  refine vCode_sound (tab_ok [B, T]) _ _ _ ?_
  simp only [Tryd.f8, go_sem, Nat.reduceEqDiff, Nat.reduceLT, Nat.reduceLeDiff, Nat.reduceAdd, Nat.reduceSub, Nat.reduceMul, Nat.reduceBEq, Nat.reduceBNe, Int.reduceEq, Int.reduceToNat, Int.reduceNeg, ↓reduceIte, reduceCtorEq, Nat.reduceDiv, Nat.reduceMod, Int.reduceLE, Int.reduceLT, Int.reduceSub, Int.reduceAdd]
  repeat (first | intro _ | refine And.intro (by (intros; first | omega | (simp only [Bool.or_eq_false_iff, Bool.or_eq_true, decide_eq_false_iff_not, beq_iff_eq, Bool.and_eq_true, decide_eq_true_eq, Bool.not_eq_true'] at *; omega) | simp_all)) ?_)
  refine if_intro _ rfl trivial (fun h => ?_) (fun h => ?_)
  · simp only [decide_eq_true_eq, Int.ofNat_lt] at h
    have hw : IntKind.i64.wrap ((i : Int) + 1) = ((i + 1 : Nat) : Int) := by rw [wrap64_id (by omega) (by omega)]; rfl
    have hb1 : (i + 1) * 64 ≤ 140737488355328 := by omega
    have hb2 : i + 1 ≤ 9223372036854775807 := by omega
    have htake : (e.kids.take (i + 1)).map (partR p n) = (e.kids.take i).map (partR p n) ++ [partR p n (elm e.kids i)] := by
      rw [List.take_add_one, List.getElem?_eq_getElem h, ← elm_eq h]
      show (e.kids.take i ++ [elm e.kids i]).map (partR p n) = _
      rw [List.map_append, List.map_singleton]
    simp only [Tryd.f8, go_sem, Nat.reduceEqDiff, Nat.reduceLT, Nat.reduceLeDiff, Nat.reduceAdd, Nat.reduceSub, Nat.reduceMul, Nat.reduceBEq, Nat.reduceBNe, Int.reduceEq, Int.reduceToNat, Int.reduceNeg, ↓reduceIte, reduceCtorEq, Nat.reduceDiv, Nat.reduceMod, Int.reduceLE, Int.reduceLT, Int.reduceSub, Int.reduceAdd, h, tk, hsB, hsT]
    repeat (first | intro _ | refine And.intro (by (intros; first | omega | (simp only [Bool.or_eq_false_iff, Bool.or_eq_true, decide_eq_false_iff_not, beq_iff_eq, Bool.and_eq_true, decide_eq_true_eq, Bool.not_eq_true'] at *; omega) | simp_all)) ?_)
    refine draw_intro (tab_ok [B, T]) mixed [(true, 0), (true, 1), (true, 2), (true, 3), (true, 4), (true, 5), (false, 6), (true, 7), (true, 8), (true, 9), (true, 10), (true, 11)] rfl ?_
    simp only [Tryd.f8, go_sem, Nat.reduceEqDiff, Nat.reduceLT, Nat.reduceLeDiff, Nat.reduceAdd, Nat.reduceSub, Nat.reduceMul, Nat.reduceBEq, Nat.reduceBNe, Int.reduceEq, Int.reduceToNat, Int.reduceNeg, ↓reduceIte, reduceCtorEq, Nat.reduceDiv, Nat.reduceMod, Int.reduceLE, Int.reduceLT, Int.reduceSub, Int.reduceAdd, h, tk, hsB, hsT]
    repeat (first | intro _ | refine And.intro (by (intros; first | omega | (simp only [Bool.or_eq_false_iff, Bool.or_eq_true, decide_eq_false_iff_not, beq_iff_eq, Bool.and_eq_true, decide_eq_true_eq, Bool.not_eq_true'] at *; omega) | simp_all)) ?_)
    refine if_intro _ rfl trivial (fun h2 => ?_) (fun h2 => ?_)
    · simp only [Tryd.f8, go_sem, Nat.reduceEqDiff, Nat.reduceLT, Nat.reduceLeDiff, Nat.reduceAdd, Nat.reduceSub, Nat.reduceMul, Nat.reduceBEq, Nat.reduceBNe, Int.reduceEq, Int.reduceToNat, Int.reduceNeg, ↓reduceIte, reduceCtorEq, Nat.reduceDiv, Nat.reduceMod, Int.reduceLE, Int.reduceLT, Int.reduceSub, Int.reduceAdd]
    simp only [Bool.not_eq_false', decide_eq_true_eq] at h2
    simp only [Tryd.f8, go_sem, Nat.reduceEqDiff, Nat.reduceLT, Nat.reduceLeDiff, Nat.reduceAdd, Nat.reduceSub, Nat.reduceMul, Nat.reduceBEq, Nat.reduceBNe, Int.reduceEq, Int.reduceToNat, Int.reduceNeg, ↓reduceIte, reduceCtorEq, Nat.reduceDiv, Nat.reduceMod, Int.reduceLE, Int.reduceLT, Int.reduceSub, Int.reduceAdd]
    repeat (first | intro _ | refine And.intro (by (intros; first | omega | (simp only [Bool.or_eq_false_iff, Bool.or_eq_true, decide_eq_false_iff_not, beq_iff_eq, Bool.and_eq_true, decide_eq_true_eq, Bool.not_eq_true'] at *; omega) | simp_all)) ?_)
    refine if_intro _ rfl trivial (fun h5 => ?_) (fun h5 => ?_)
    · simp only [decide_eq_true_eq] at h5
      rw [refE_fst h2] at h5
      have hpart : partR p n (elm e.kids i) = [.val (.int .i64 1), .val (.int .i64 0), .val (.int .u32 n), .val (.string ByteArray.empty), .nils] := if_pos h5
      simp only [Tryd.f8, go_sem, Nat.reduceEqDiff, Nat.reduceLT, Nat.reduceLeDiff, Nat.reduceAdd, Nat.reduceSub, Nat.reduceMul, Nat.reduceBEq, Nat.reduceBNe, Int.reduceEq, Int.reduceToNat, Int.reduceNeg, ↓reduceIte, reduceCtorEq, Nat.reduceDiv, Nat.reduceMod, Int.reduceLE, Int.reduceLT, Int.reduceSub, Int.reduceAdd, vAppend, cv, asSlice, appendPre, hel, hw]
      repeat (first | intro _ | refine And.intro (by (intros; first | omega | (simp only [Bool.or_eq_false_iff, Bool.or_eq_true, decide_eq_false_iff_not, beq_iff_eq, Bool.and_eq_true, decide_eq_true_eq, Bool.not_eq_true'] at *; omega) | simp_all)) ?_)
      refine ⟨i + 1, ⟨h, fun j hj => ?_⟩, by omega, ?_⟩
      · by_cases e' : j = i
        · subst e'; exact h2
        · exact hne j (by omega)
      refine ⟨rfl, rfl, rfl, by repeat (first | exact AgreeOff.refl _ _ | refine AgreeOff.upd rfl ?_ | refine AgreeOff.over rfl ?_), by repeat (first | exact AgreeOff.refl _ _ | refine AgreeOff.upd rfl ?_ | refine AgreeOff.over rfl ?_), by repeat (first | exact AgreeOff.refl _ _ | refine AgreeOff.upd rfl ?_ | refine AgreeOff.over rfl ?_), ?_, ?_, ?_, by repeat (first | trivial | exact .inr rfl | exact .inl rfl | refine ⟨?_, ?_⟩), by repeat (first | trivial | exact .inr rfl | exact .inl rfl | refine ⟨?_, ?_⟩), by repeat (first | trivial | exact .inr rfl | exact .inl rfl | refine ⟨?_, ?_⟩), by repeat (first | trivial | exact .inr rfl | exact .inl rfl | refine ⟨?_, ?_⟩)⟩
      · exact ⟨rfl, trivial⟩
      · exact ⟨rfl, trivial⟩
      · refine ⟨?_, trivial⟩
        rw [htake, hpart]
        rfl
    · simp only [decide_eq_false_iff_not] at h5
      rw [refE_fst h2] at h5
      have hpart : partR p n (elm e.kids i) = [.val (.int .i64 (bothE 6 15 (litE n) (litE n)).kind), .val (.int .i64 (bothE 6 15 (litE n) (litE n)).op), .val (.int .u32 (bothE 6 15 (litE n) (litE n)).num), .val (.string (bothE 6 15 (litE n) (litE n)).name), .slice ((bothE 6 15 (litE n) (litE n)).kids.map encE)] := (if_neg h5).trans (encE_eq _)
      simp only [Tryd.f8, go_sem, Nat.reduceEqDiff, Nat.reduceLT, Nat.reduceLeDiff, Nat.reduceAdd, Nat.reduceSub, Nat.reduceMul, Nat.reduceBEq, Nat.reduceBNe, Int.reduceEq, Int.reduceToNat, Int.reduceNeg, ↓reduceIte, reduceCtorEq, Nat.reduceDiv, Nat.reduceMod, Int.reduceLE, Int.reduceLT, Int.reduceSub, Int.reduceAdd, b15, hsB, hsT]
      refine drawC_intro (tab_ok [B, T]) mixed [1] [4, 5] [66] [(true, 0), (true, 1), (true, 2), (true, 3), (false, 4), (false, 5), (false, 6), (true, 7), (false, 8)] rfl rfl ?_
      simp only [Tryd.f8, go_sem, Nat.reduceEqDiff, Nat.reduceLT, Nat.reduceLeDiff, Nat.reduceAdd, Nat.reduceSub, Nat.reduceMul, Nat.reduceBEq, Nat.reduceBNe, Int.reduceEq, Int.reduceToNat, Int.reduceNeg, ↓reduceIte, reduceCtorEq, Nat.reduceDiv, Nat.reduceMod, Int.reduceLE, Int.reduceLT, Int.reduceSub, Int.reduceAdd, b15, hsB, hsT, vAppend, cv, asSlice, appendPre, hel, hw, vDC, vDOpC, viewC, bareC, keepT, chSame_mem]
      repeat (first | intro _ | refine And.intro (by (intros; first | omega | (simp only [Bool.or_eq_false_iff, Bool.or_eq_true, decide_eq_false_iff_not, beq_iff_eq, Bool.and_eq_true, decide_eq_true_eq, Bool.not_eq_true'] at *; omega) | simp_all)) ?_)
      refine ⟨i + 1, ⟨h, fun j hj => ?_⟩, by omega, ?_⟩
      · by_cases e' : j = i
        · subst e'; exact h2
        · exact hne j (by omega)
      refine ⟨rfl, rfl, rfl, by repeat (first | exact AgreeOff.refl _ _ | refine AgreeOff.upd rfl ?_ | refine AgreeOff.over rfl ?_), by repeat (first | exact AgreeOff.refl _ _ | refine AgreeOff.upd rfl ?_ | refine AgreeOff.over rfl ?_), by repeat (first | exact AgreeOff.refl _ _ | refine AgreeOff.upd rfl ?_ | refine AgreeOff.over rfl ?_), ?_, ?_, ?_, by repeat (first | trivial | exact .inr rfl | exact .inl rfl | refine ⟨?_, ?_⟩), by repeat (first | trivial | exact .inr rfl | exact .inl rfl | refine ⟨?_, ?_⟩), by repeat (first | trivial | exact .inr rfl | exact .inl rfl | refine ⟨?_, ?_⟩), by repeat (first | trivial | exact .inr rfl | exact .inl rfl | refine ⟨?_, ?_⟩)⟩
      · exact ⟨rfl, trivial⟩
      · exact ⟨rfl, trivial⟩
      · refine ⟨?_, trivial⟩
        rw [htake, hpart]
        rfl
  simp only [decide_eq_false_iff_not, Int.ofNat_lt] at h
  have hi' : i = e.kids.length := by omega
  subst hi'
  have t2 := t1 fun k hk => by
    obtain ⟨j, hj, rfl⟩ := List.getElem_of_mem hk
    have := hne j hj
    rw [elm_eq hj] at this
    exact this
  rw [List.take_length] at *
  simp only [Tryd.f8, go_sem, Nat.reduceEqDiff, Nat.reduceLT, Nat.reduceLeDiff, Nat.reduceAdd, Nat.reduceSub, Nat.reduceMul, Nat.reduceBEq, Nat.reduceBNe, Int.reduceEq, Int.reduceToNat, Int.reduceNeg, ↓reduceIte, reduceCtorEq, Nat.reduceDiv, Nat.reduceMod, Int.reduceLE, Int.reduceLT, Int.reduceSub, Int.reduceAdd, t0, t2, hsB, hsT, hel]
end Go.Proofs.YtaackmiajgapoaaDoor.V
