/- The law of names. -/
import Derived.Test.YtaackmiajgapoaaDoorD38
set_option maxRecDepth 100000
set_option maxHeartbeats 16000000
set_option linter.unusedSimpArgs false
set_option linter.unusedVariables false
namespace Go.Proofs.YtaackmiajgapoaaDoor.V
open Go
variable {G : Nat → Option (List PV)}

mutual
def renE (s : ByteArray) : Ex → Ex
  | .mk k o n m l => .mk k o n (if k = 2 ∨ k = 3 then s else m) (renEs s l)
def renEs (s : ByteArray) : List Ex → List Ex
  | [] => []
  | e :: r => renE s e :: renEs s r
end
theorem renEs_map (s : ByteArray) : ∀ l : List Ex, renEs s l = l.map (renE s)
  | [] => rfl
  | e :: r => by rw [renEs, renEs_map s r]; rfl
theorem renE_eq (s : ByteArray) (e : Ex) : renE s e = .mk e.kind e.op e.num (if e.kind = 2 ∨ e.kind = 3 then s else e.name) (e.kids.map (renE s)) := by
  cases e with | mk k o n m l => rw [renE, renEs_map]; rfl
def renR (s : ByteArray) (x : Ex) : List PV := encE (renE s x)
mutual
theorem renE_ty (p : Pg) (s : ByteArray) : ∀ e : Ex, tyE p (renE s e) = tyE p e
  | .mk k o n m l => by
    simp only [renE, tyE, renEs_ty p s 1 l, renEs_ty p s 2 l]
    by_cases h4 : k = 4
    · subst h4; simp
    · simp [h4]
theorem renEs_ty (p : Pg) (s : ByteArray) (t : Int) : ∀ l : List Ex, tyAll p t (renEs s l) = tyAll p t l
  | [] => rfl
  | e :: r => by rw [renEs, tyAll, tyAll, renE_ty p s e, renEs_ty p s t r]
end
mutual
theorem renE_kn (p : Pg) (s : ByteArray) : ∀ e : Ex, knE p (renE s e) = knE p e
  | .mk k o n m l => by
    simp only [renE, knE, renEs_kn p s l]
    by_cases h4 : k = 4
    · subst h4; simp
    · simp [h4]
theorem renEs_kn (p : Pg) (s : ByteArray) : ∀ l : List Ex, knEs p (renEs s l) = knEs p l
  | [] => rfl
  | e :: r => by rw [renEs, knEs, knEs, renE_kn p s e, renEs_kn p s r]
end
theorem renEs_length (s : ByteArray) (l : List Ex) : (renEs s l).length = l.length := by rw [renEs_map, List.length_map]
mutual
theorem renE_kd (s : ByteArray) : ∀ e : Ex, kdE (renE s e) = kdE e
  | .mk k o n m l => by rw [renE, kdE, kdE, renEs_kd s l, renEs_length]
theorem renEs_kd (s : ByteArray) : ∀ l : List Ex, kdEs (renEs s l) = kdEs l
  | [] => rfl
  | e :: r => by rw [renEs, kdEs, kdEs, renE_kd s e, renEs_kd s r]
end
theorem renE_ref (p : Pg) (s : ByteArray) (e : Ex) : refE p (renE s e) = refE p e := by
  unfold refE
  rw [renE_kn, renE_ty]

theorem right_kids {lev : Nat} {e : Ex} (h : rightE lev e = true) : e.kids.length ≤ 6 := by
  rw [rightE_eq, Bool.and_eq_true, Bool.and_eq_true] at h
  have h := h.1.2
  simp only [formE, Bool.and_eq_true] at h
  have h := h.2
  unfold arityE at h
  repeat' split at h
  all_goals first | (cases h; done) | (simp only [Bool.and_eq_true, decide_eq_true_eq] at h; omega)

theorem renamed_step (n : Nat) (IH : ∀ (x : Ex × ByteArray), (szE x.1 < n ∧ ∃ lev, rightE lev x.1 = true) → VPure Tryd.prog G 22 [.agg (encE x.1), .val (.string x.2)] (.agg (encE (renE x.2 x.1)))) (e : Ex) (s : ByteArray) (lev : Nat) (hsz : szE e ≤ n) (hr : rightE lev e = true) :
    VPure Tryd.prog G 22 [.agg (encE e), .val (.string s)] (.agg (encE (renE s e))) := by
  obtain ⟨R, hR0, hs⟩ := mkRule (P := Tryd.prog) (G := G) 22 (Ex × ByteArray) (fun x => [.agg (encE x.1), .val (.string x.2)]) (fun x => .agg (encE (renE x.2 x.1))) (fun x => szE x.1 < n ∧ ∃ lev, rightE lev x.1 = true)
    (by rintro ⟨a, b⟩ ⟨a', b'⟩ h; simp only [List.cons.injEq, PV.agg.injEq, PV.val.injEq, Value.string.injEq, encE_iff, and_true] at h; obtain ⟨rfl, rfl⟩ := h; rfl) IH
  have hlen := right_kids hr
  have hkid : ∀ i, i < e.kids.length → (szE (elm e.kids i) < n ∧ ∃ lev, rightE lev (elm e.kids i) = true) := by
    intro i hi
    refine ⟨Nat.lt_of_lt_of_le (szE_kids e i hi) hsz, lev + 1, ?_⟩
    rw [rightE_eq, Bool.and_eq_true] at hr
    exact all_elm hi hr.2
  refine VPure.of ?_ fun sh => ?_
  · refine .agg _ ?_
    rw [encE_eq]
    intro p hp
    simp only [List.mem_cons, List.not_mem_nil, or_false] at hp
    rcases hp with rfl | rfl | rfl | rfl | rfl <;> first | exact .val _ | exact .slice _
  refine VCalls_enter [] Tryd.func22 rfl (show 2 ≤ 37 by decide) ?_
  refine vCode_sound (tab_ok [R]) _ _ _ ?_
  simp only [encE_eq e]
  have hkind : e.kind = 2 ∨ e.kind = 3 ∨ (¬ e.kind = 2 ∧ ¬ e.kind = 3) := by omega
  rcases hkind with hk | hk | ⟨hk2, hk3⟩
  · simp only [Tryd.f22, go_sem, Nat.reduceEqDiff, Nat.reduceLT, Nat.reduceLeDiff, Nat.reduceAdd, Nat.reduceSub, Nat.reduceMul, Nat.reduceBEq, Nat.reduceBNe, Int.reduceEq, Int.reduceToNat, Int.reduceNeg, ↓reduceIte, reduceCtorEq, Nat.reduceDiv, Nat.reduceMod, Int.reduceLE, Int.reduceLT, Int.reduceSub, Int.reduceAdd, hk]
    repeat (first | intro _ | refine And.intro (by (intros; first | omega | (simp only [Bool.or_eq_false_iff, Bool.or_eq_true, decide_eq_false_iff_not, beq_iff_eq, Bool.and_eq_true, decide_eq_true_eq, Bool.not_eq_true'] at *; omega) | simp_all)) ?_)
    refine loop_intro (VWp_promote 5 33 30 5 rfl rfl (VWp_for [17, 18, 19, 20, 21, 24, 25, 26, 27, 28, 29, 30, 31, 32, 33, 5, 22, 23, 6] (fun i : Nat => [(6, .val (.int .i64 i)), (5, .tsl 33 i)]) [] (fun _ => []) [33, 32] (fun i => [(33, some ⟨(e.kids.take i).map (renR s), 30, 5, false⟩)]) (fun _ => sh)
      (fun i => i ≤ e.kids.length) (fun i => e.kids.length - i) 0 (Nat.zero_le _) (by refine ⟨rfl, rfl, rfl, .refl _ _, .refl _ _, .refl _ _, by repeat (first | trivial | rfl | refine ⟨?_, ?_⟩), by repeat (first | trivial | rfl | refine ⟨?_, ?_⟩), by repeat (first | trivial | rfl | refine ⟨?_, ?_⟩), by repeat (first | trivial | exact .inr rfl | exact .inl rfl | refine ⟨?_, ?_⟩), by repeat (first | trivial | exact .inr rfl | exact .inl rfl | refine ⟨?_, ?_⟩), by repeat (first | trivial | exact .inr rfl | exact .inl rfl | refine ⟨?_, ?_⟩), by repeat (first | trivial | exact .inr rfl | exact .inl rfl | refine ⟨?_, ?_⟩)⟩) ?_))
    rintro i hi
    have hel : ((e.kids.take i).map (renR s)).length = i := by rw [List.length_map, List.length_take]; omega
    refine vCode_sound (tab_ok [R]) _ _ _ ?_
    simp only [Tryd.f22, go_sem, Nat.reduceEqDiff, Nat.reduceLT, Nat.reduceLeDiff, Nat.reduceAdd, Nat.reduceSub, Nat.reduceMul, Nat.reduceBEq, Nat.reduceBNe, Int.reduceEq, Int.reduceToNat, Int.reduceNeg, ↓reduceIte, reduceCtorEq, Nat.reduceDiv, Nat.reduceMod, Int.reduceLE, Int.reduceLT, Int.reduceSub, Int.reduceAdd]
    repeat (first | intro _ | refine And.intro (by (intros; first | omega | (simp only [Bool.or_eq_false_iff, Bool.or_eq_true, decide_eq_false_iff_not, beq_iff_eq, Bool.and_eq_true, decide_eq_true_eq, Bool.not_eq_true'] at *; omega) | simp_all)) ?_)
    refine if_intro _ rfl trivial (fun h => ?_) (fun h => ?_)
    · simp only [decide_eq_true_eq, Int.ofNat_lt] at h
      have hw : IntKind.i64.wrap ((i : Int) + 1) = ((i + 1 : Nat) : Int) := by rw [wrap64_id (by omega) (by omega)]; rfl
      have hR : ∀ tl sh, tab (R :: tl) 22 [.agg (encE (elm e.kids i)), .val (.string s)] sh = some (.agg (encE (renE s (elm e.kids i))), sh) := fun tl sh => hR0 tl (elm e.kids i, s) sh (hkid i h)
      simp only [encE_eq] at hR
      have hb1 : (i + 1) * 64 ≤ 140737488355328 := by omega
      have hb2 : i + 1 ≤ 9223372036854775807 := by omega
      simp only [Tryd.f22, go_sem, Nat.reduceEqDiff, Nat.reduceLT, Nat.reduceLeDiff, Nat.reduceAdd, Nat.reduceSub, Nat.reduceMul, Nat.reduceBEq, Nat.reduceBNe, Int.reduceEq, Int.reduceToNat, Int.reduceNeg, ↓reduceIte, reduceCtorEq, Nat.reduceDiv, Nat.reduceMod, Int.reduceLE, Int.reduceLT, Int.reduceSub, Int.reduceAdd, h, hR, hs, vAppend, cv, asSlice, appendPre, hel, hw]
      repeat (first | intro _ | refine And.intro (by (intros; first | omega | (simp only [Bool.or_eq_false_iff, Bool.or_eq_true, decide_eq_false_iff_not, beq_iff_eq, Bool.and_eq_true, decide_eq_true_eq, Bool.not_eq_true'] at *; omega) | simp_all)) ?_)
      refine ⟨i + 1, h, by omega, ?_⟩
      refine ⟨rfl, rfl, rfl, by repeat (first | exact AgreeOff.refl _ _ | refine AgreeOff.upd rfl ?_ | refine AgreeOff.over rfl ?_), by repeat (first | exact AgreeOff.refl _ _ | refine AgreeOff.upd rfl ?_ | refine AgreeOff.over rfl ?_), by repeat (first | exact AgreeOff.refl _ _ | refine AgreeOff.upd rfl ?_ | refine AgreeOff.over rfl ?_), ?_, by repeat (first | trivial | exact .inr rfl | exact .inl rfl | refine ⟨?_, ?_⟩), ?_, by repeat (first | trivial | exact .inr rfl | exact .inl rfl | refine ⟨?_, ?_⟩), by repeat (first | trivial | exact .inr rfl | exact .inl rfl | refine ⟨?_, ?_⟩), by repeat (first | trivial | exact .inr rfl | exact .inl rfl | refine ⟨?_, ?_⟩), by repeat (first | trivial | exact .inr rfl | exact .inl rfl | refine ⟨?_, ?_⟩)⟩
      · exact ⟨rfl, rfl, trivial⟩
      · refine ⟨?_, trivial⟩
        rw [List.take_add_one, List.getElem?_eq_getElem h, ← elm_eq h]
        show some (Chain.mk (((e.kids.take i).map (renR s)) ++ [[.val (.int .i64 (renE s (elm e.kids i)).kind), .val (.int .i64 (renE s (elm e.kids i)).op), .val (.int .u32 (renE s (elm e.kids i)).num), .val (.string (renE s (elm e.kids i)).name), .slice ((renE s (elm e.kids i)).kids.map encE)]]) 30 5 false) = some (Chain.mk ((e.kids.take i ++ [elm e.kids i]).map (renR s)) 30 5 false)
        rw [List.map_append, List.map_singleton, renR, encE_eq (renE s (elm e.kids i))]
    simp only [decide_eq_false_iff_not, Int.ofNat_lt] at h
    have hi' : i = e.kids.length := by omega
    subst hi'
    rw [List.take_length] at *
    simp only [Tryd.f22, go_sem, Nat.reduceEqDiff, Nat.reduceLT, Nat.reduceLeDiff, Nat.reduceAdd, Nat.reduceSub, Nat.reduceMul, Nat.reduceBEq, Nat.reduceBNe, Int.reduceEq, Int.reduceToNat, Int.reduceNeg, ↓reduceIte, reduceCtorEq, Nat.reduceDiv, Nat.reduceMod, Int.reduceLE, Int.reduceLT, Int.reduceSub, Int.reduceAdd, hel]
    rw [renE_eq, if_pos (.inl hk)]
    show PV.agg [_, _, _, _, _] = PV.agg [.val (.int .i64 e.kind), _, _, _, .slice ((e.kids.map (renE s)).map encE)]
    rw [List.map_map, hk]
    rfl
  · simp only [Tryd.f22, go_sem, Nat.reduceEqDiff, Nat.reduceLT, Nat.reduceLeDiff, Nat.reduceAdd, Nat.reduceSub, Nat.reduceMul, Nat.reduceBEq, Nat.reduceBNe, Int.reduceEq, Int.reduceToNat, Int.reduceNeg, ↓reduceIte, reduceCtorEq, Nat.reduceDiv, Nat.reduceMod, Int.reduceLE, Int.reduceLT, Int.reduceSub, Int.reduceAdd, hk]
    repeat (first | intro _ | refine And.intro (by (intros; first | omega | (simp only [Bool.or_eq_false_iff, Bool.or_eq_true, decide_eq_false_iff_not, beq_iff_eq, Bool.and_eq_true, decide_eq_true_eq, Bool.not_eq_true'] at *; omega) | simp_all)) ?_)
    refine loop_intro (VWp_promote 5 33 30 5 rfl rfl (VWp_for [17, 18, 19, 20, 21, 24, 25, 26, 27, 28, 29, 30, 31, 32, 33, 5, 22, 23, 6] (fun i : Nat => [(6, .val (.int .i64 i)), (5, .tsl 33 i)]) [] (fun _ => []) [33, 32] (fun i => [(33, some ⟨(e.kids.take i).map (renR s), 30, 5, false⟩)]) (fun _ => sh)
      (fun i => i ≤ e.kids.length) (fun i => e.kids.length - i) 0 (Nat.zero_le _) (by refine ⟨rfl, rfl, rfl, .refl _ _, .refl _ _, .refl _ _, by repeat (first | trivial | rfl | refine ⟨?_, ?_⟩), by repeat (first | trivial | rfl | refine ⟨?_, ?_⟩), by repeat (first | trivial | rfl | refine ⟨?_, ?_⟩), by repeat (first | trivial | exact .inr rfl | exact .inl rfl | refine ⟨?_, ?_⟩), by repeat (first | trivial | exact .inr rfl | exact .inl rfl | refine ⟨?_, ?_⟩), by repeat (first | trivial | exact .inr rfl | exact .inl rfl | refine ⟨?_, ?_⟩), by repeat (first | trivial | exact .inr rfl | exact .inl rfl | refine ⟨?_, ?_⟩)⟩) ?_))
    rintro i hi
    have hel : ((e.kids.take i).map (renR s)).length = i := by rw [List.length_map, List.length_take]; omega
    refine vCode_sound (tab_ok [R]) _ _ _ ?_
    simp only [Tryd.f22, go_sem, Nat.reduceEqDiff, Nat.reduceLT, Nat.reduceLeDiff, Nat.reduceAdd, Nat.reduceSub, Nat.reduceMul, Nat.reduceBEq, Nat.reduceBNe, Int.reduceEq, Int.reduceToNat, Int.reduceNeg, ↓reduceIte, reduceCtorEq, Nat.reduceDiv, Nat.reduceMod, Int.reduceLE, Int.reduceLT, Int.reduceSub, Int.reduceAdd]
    repeat (first | intro _ | refine And.intro (by (intros; first | omega | (simp only [Bool.or_eq_false_iff, Bool.or_eq_true, decide_eq_false_iff_not, beq_iff_eq, Bool.and_eq_true, decide_eq_true_eq, Bool.not_eq_true'] at *; omega) | simp_all)) ?_)
    refine if_intro _ rfl trivial (fun h => ?_) (fun h => ?_)
    · simp only [decide_eq_true_eq, Int.ofNat_lt] at h
      have hw : IntKind.i64.wrap ((i : Int) + 1) = ((i + 1 : Nat) : Int) := by rw [wrap64_id (by omega) (by omega)]; rfl
      have hR : ∀ tl sh, tab (R :: tl) 22 [.agg (encE (elm e.kids i)), .val (.string s)] sh = some (.agg (encE (renE s (elm e.kids i))), sh) := fun tl sh => hR0 tl (elm e.kids i, s) sh (hkid i h)
      simp only [encE_eq] at hR
      have hb1 : (i + 1) * 64 ≤ 140737488355328 := by omega
      have hb2 : i + 1 ≤ 9223372036854775807 := by omega
      simp only [Tryd.f22, go_sem, Nat.reduceEqDiff, Nat.reduceLT, Nat.reduceLeDiff, Nat.reduceAdd, Nat.reduceSub, Nat.reduceMul, Nat.reduceBEq, Nat.reduceBNe, Int.reduceEq, Int.reduceToNat, Int.reduceNeg, ↓reduceIte, reduceCtorEq, Nat.reduceDiv, Nat.reduceMod, Int.reduceLE, Int.reduceLT, Int.reduceSub, Int.reduceAdd, h, hR, hs, vAppend, cv, asSlice, appendPre, hel, hw]
      repeat (first | intro _ | refine And.intro (by (intros; first | omega | (simp only [Bool.or_eq_false_iff, Bool.or_eq_true, decide_eq_false_iff_not, beq_iff_eq, Bool.and_eq_true, decide_eq_true_eq, Bool.not_eq_true'] at *; omega) | simp_all)) ?_)
      refine ⟨i + 1, h, by omega, ?_⟩
      refine ⟨rfl, rfl, rfl, by repeat (first | exact AgreeOff.refl _ _ | refine AgreeOff.upd rfl ?_ | refine AgreeOff.over rfl ?_), by repeat (first | exact AgreeOff.refl _ _ | refine AgreeOff.upd rfl ?_ | refine AgreeOff.over rfl ?_), by repeat (first | exact AgreeOff.refl _ _ | refine AgreeOff.upd rfl ?_ | refine AgreeOff.over rfl ?_), ?_, by repeat (first | trivial | exact .inr rfl | exact .inl rfl | refine ⟨?_, ?_⟩), ?_, by repeat (first | trivial | exact .inr rfl | exact .inl rfl | refine ⟨?_, ?_⟩), by repeat (first | trivial | exact .inr rfl | exact .inl rfl | refine ⟨?_, ?_⟩), by repeat (first | trivial | exact .inr rfl | exact .inl rfl | refine ⟨?_, ?_⟩), by repeat (first | trivial | exact .inr rfl | exact .inl rfl | refine ⟨?_, ?_⟩)⟩
      · exact ⟨rfl, rfl, trivial⟩
      · refine ⟨?_, trivial⟩
        rw [List.take_add_one, List.getElem?_eq_getElem h, ← elm_eq h]
        show some (Chain.mk (((e.kids.take i).map (renR s)) ++ [[.val (.int .i64 (renE s (elm e.kids i)).kind), .val (.int .i64 (renE s (elm e.kids i)).op), .val (.int .u32 (renE s (elm e.kids i)).num), .val (.string (renE s (elm e.kids i)).name), .slice ((renE s (elm e.kids i)).kids.map encE)]]) 30 5 false) = some (Chain.mk ((e.kids.take i ++ [elm e.kids i]).map (renR s)) 30 5 false)
        rw [List.map_append, List.map_singleton, renR, encE_eq (renE s (elm e.kids i))]
    simp only [decide_eq_false_iff_not, Int.ofNat_lt] at h
    have hi' : i = e.kids.length := by omega
    subst hi'
    rw [List.take_length] at *
    simp only [Tryd.f22, go_sem, Nat.reduceEqDiff, Nat.reduceLT, Nat.reduceLeDiff, Nat.reduceAdd, Nat.reduceSub, Nat.reduceMul, Nat.reduceBEq, Nat.reduceBNe, Int.reduceEq, Int.reduceToNat, Int.reduceNeg, ↓reduceIte, reduceCtorEq, Nat.reduceDiv, Nat.reduceMod, Int.reduceLE, Int.reduceLT, Int.reduceSub, Int.reduceAdd, hel]
    rw [renE_eq, if_pos (.inr hk)]
    show PV.agg [_, _, _, _, _] = PV.agg [.val (.int .i64 e.kind), _, _, _, .slice ((e.kids.map (renE s)).map encE)]
    rw [List.map_map, hk]
    rfl
  · simp only [Tryd.f22, go_sem, Nat.reduceEqDiff, Nat.reduceLT, Nat.reduceLeDiff, Nat.reduceAdd, Nat.reduceSub, Nat.reduceMul, Nat.reduceBEq, Nat.reduceBNe, Int.reduceEq, Int.reduceToNat, Int.reduceNeg, ↓reduceIte, reduceCtorEq, Nat.reduceDiv, Nat.reduceMod, Int.reduceLE, Int.reduceLT, Int.reduceSub, Int.reduceAdd, hk2, hk3]
    repeat (first | intro _ | refine And.intro (by (intros; first | omega | (simp only [Bool.or_eq_false_iff, Bool.or_eq_true, decide_eq_false_iff_not, beq_iff_eq, Bool.and_eq_true, decide_eq_true_eq, Bool.not_eq_true'] at *; omega) | simp_all)) ?_)
    refine loop_intro (VWp_promote 5 33 30 5 rfl rfl (VWp_for [17, 18, 19, 20, 21, 24, 25, 26, 27, 28, 29, 30, 31, 32, 33, 5, 22, 23, 6] (fun i : Nat => [(6, .val (.int .i64 i)), (5, .tsl 33 i)]) [] (fun _ => []) [33, 32] (fun i => [(33, some ⟨(e.kids.take i).map (renR s), 30, 5, false⟩)]) (fun _ => sh)
      (fun i => i ≤ e.kids.length) (fun i => e.kids.length - i) 0 (Nat.zero_le _) (by refine ⟨rfl, rfl, rfl, .refl _ _, .refl _ _, .refl _ _, by repeat (first | trivial | rfl | refine ⟨?_, ?_⟩), by repeat (first | trivial | rfl | refine ⟨?_, ?_⟩), by repeat (first | trivial | rfl | refine ⟨?_, ?_⟩), by repeat (first | trivial | exact .inr rfl | exact .inl rfl | refine ⟨?_, ?_⟩), by repeat (first | trivial | exact .inr rfl | exact .inl rfl | refine ⟨?_, ?_⟩), by repeat (first | trivial | exact .inr rfl | exact .inl rfl | refine ⟨?_, ?_⟩), by repeat (first | trivial | exact .inr rfl | exact .inl rfl | refine ⟨?_, ?_⟩)⟩) ?_))
    rintro i hi
    have hel : ((e.kids.take i).map (renR s)).length = i := by rw [List.length_map, List.length_take]; omega
    refine vCode_sound (tab_ok [R]) _ _ _ ?_
    simp only [Tryd.f22, go_sem, Nat.reduceEqDiff, Nat.reduceLT, Nat.reduceLeDiff, Nat.reduceAdd, Nat.reduceSub, Nat.reduceMul, Nat.reduceBEq, Nat.reduceBNe, Int.reduceEq, Int.reduceToNat, Int.reduceNeg, ↓reduceIte, reduceCtorEq, Nat.reduceDiv, Nat.reduceMod, Int.reduceLE, Int.reduceLT, Int.reduceSub, Int.reduceAdd]
    repeat (first | intro _ | refine And.intro (by (intros; first | omega | (simp only [Bool.or_eq_false_iff, Bool.or_eq_true, decide_eq_false_iff_not, beq_iff_eq, Bool.and_eq_true, decide_eq_true_eq, Bool.not_eq_true'] at *; omega) | simp_all)) ?_)
    refine if_intro _ rfl trivial (fun h => ?_) (fun h => ?_)
    · simp only [decide_eq_true_eq, Int.ofNat_lt] at h
      have hw : IntKind.i64.wrap ((i : Int) + 1) = ((i + 1 : Nat) : Int) := by rw [wrap64_id (by omega) (by omega)]; rfl
      have hR : ∀ tl sh, tab (R :: tl) 22 [.agg (encE (elm e.kids i)), .val (.string s)] sh = some (.agg (encE (renE s (elm e.kids i))), sh) := fun tl sh => hR0 tl (elm e.kids i, s) sh (hkid i h)
      simp only [encE_eq] at hR
      have hb1 : (i + 1) * 64 ≤ 140737488355328 := by omega
      have hb2 : i + 1 ≤ 9223372036854775807 := by omega
      simp only [Tryd.f22, go_sem, Nat.reduceEqDiff, Nat.reduceLT, Nat.reduceLeDiff, Nat.reduceAdd, Nat.reduceSub, Nat.reduceMul, Nat.reduceBEq, Nat.reduceBNe, Int.reduceEq, Int.reduceToNat, Int.reduceNeg, ↓reduceIte, reduceCtorEq, Nat.reduceDiv, Nat.reduceMod, Int.reduceLE, Int.reduceLT, Int.reduceSub, Int.reduceAdd, h, hR, hs, vAppend, cv, asSlice, appendPre, hel, hw]
      repeat (first | intro _ | refine And.intro (by (intros; first | omega | (simp only [Bool.or_eq_false_iff, Bool.or_eq_true, decide_eq_false_iff_not, beq_iff_eq, Bool.and_eq_true, decide_eq_true_eq, Bool.not_eq_true'] at *; omega) | simp_all)) ?_)
      refine ⟨i + 1, h, by omega, ?_⟩
      refine ⟨rfl, rfl, rfl, by repeat (first | exact AgreeOff.refl _ _ | refine AgreeOff.upd rfl ?_ | refine AgreeOff.over rfl ?_), by repeat (first | exact AgreeOff.refl _ _ | refine AgreeOff.upd rfl ?_ | refine AgreeOff.over rfl ?_), by repeat (first | exact AgreeOff.refl _ _ | refine AgreeOff.upd rfl ?_ | refine AgreeOff.over rfl ?_), ?_, by repeat (first | trivial | exact .inr rfl | exact .inl rfl | refine ⟨?_, ?_⟩), ?_, by repeat (first | trivial | exact .inr rfl | exact .inl rfl | refine ⟨?_, ?_⟩), by repeat (first | trivial | exact .inr rfl | exact .inl rfl | refine ⟨?_, ?_⟩), by repeat (first | trivial | exact .inr rfl | exact .inl rfl | refine ⟨?_, ?_⟩), by repeat (first | trivial | exact .inr rfl | exact .inl rfl | refine ⟨?_, ?_⟩)⟩
      · exact ⟨rfl, rfl, trivial⟩
      · refine ⟨?_, trivial⟩
        rw [List.take_add_one, List.getElem?_eq_getElem h, ← elm_eq h]
        show some (Chain.mk (((e.kids.take i).map (renR s)) ++ [[.val (.int .i64 (renE s (elm e.kids i)).kind), .val (.int .i64 (renE s (elm e.kids i)).op), .val (.int .u32 (renE s (elm e.kids i)).num), .val (.string (renE s (elm e.kids i)).name), .slice ((renE s (elm e.kids i)).kids.map encE)]]) 30 5 false) = some (Chain.mk ((e.kids.take i ++ [elm e.kids i]).map (renR s)) 30 5 false)
        rw [List.map_append, List.map_singleton, renR, encE_eq (renE s (elm e.kids i))]
    simp only [decide_eq_false_iff_not, Int.ofNat_lt] at h
    have hi' : i = e.kids.length := by omega
    subst hi'
    rw [List.take_length] at *
    simp only [Tryd.f22, go_sem, Nat.reduceEqDiff, Nat.reduceLT, Nat.reduceLeDiff, Nat.reduceAdd, Nat.reduceSub, Nat.reduceMul, Nat.reduceBEq, Nat.reduceBNe, Int.reduceEq, Int.reduceToNat, Int.reduceNeg, ↓reduceIte, reduceCtorEq, Nat.reduceDiv, Nat.reduceMod, Int.reduceLE, Int.reduceLT, Int.reduceSub, Int.reduceAdd, hel]
    rw [renE_eq, if_neg (fun h => h.elim hk2 hk3)]
    show PV.agg [_, _, _, _, _] = PV.agg [.val (.int .i64 e.kind), _, _, _, .slice ((e.kids.map (renE s)).map encE)]
    rw [List.map_map]
    rfl

theorem renamed_ind : ∀ (n : Nat) (x : Ex × ByteArray), (szE x.1 < n ∧ ∃ lev, rightE lev x.1 = true) → VPure Tryd.prog G 22 [.agg (encE x.1), .val (.string x.2)] (.agg (encE (renE x.2 x.1)))
  | 0, x, h => absurd h.1 (by omega)
  | n + 1, x, h => by
    obtain ⟨h1, lev, h2⟩ := h
    exact renamed_step n (renamed_ind n) x.1 x.2 lev (by omega) h2
theorem renamed_c (e : Ex) (s : ByteArray) (lev : Nat) (hr : rightE lev e = true) : VPure Tryd.prog G 22 [.agg (encE e), .val (.string s)] (.agg (encE (renE s e))) :=
  renamed_ind (szE e + 1) (e, s) ⟨by simp only; omega, lev, hr⟩
end Go.Proofs.YtaackmiajgapoaaDoor.V
