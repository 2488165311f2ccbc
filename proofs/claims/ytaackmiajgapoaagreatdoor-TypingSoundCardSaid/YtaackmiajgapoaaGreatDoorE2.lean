/- What is used, by the document (seedcornref16): in expressions. -/
import Derived.Test.YtaackmiajgapoaaGreatDoorE1
set_option maxRecDepth 100000
set_option maxHeartbeats 16000000
set_option linter.unusedSimpArgs false
set_option linter.unusedVariables false
namespace Go.Proofs.YtaackmiajgapoaaGreatDoor.V
open Go
variable {G : Nat → Option (List PV)}

/-- A use, as the document has it. -/
def ruse (u : Use) : List PV := [.val (.string u.name), .val (.int .i64 (if u.kind = 2 then 1 else u.kind)), .val (.int .i64 (if u.kind = 4 then u.args else 0))]
theorem ruse_len (l : List Use) : ∀ e ∈ l.map ruse, e.length = 3 := by
  intro e he
  obtain ⟨u, _, rfl⟩ := List.mem_map.1 he
  rfl
theorem usesEs_app : ∀ a b : List Ex, usesEs (a ++ b) = usesEs a ++ usesEs b
  | [], b => rfl
  | e :: r, b => by rw [List.cons_append, usesEs, usesEs, usesEs_app r b, List.append_assoc]
theorem usesEs_succ {l : List Ex} {i : Nat} (h : i < l.length) : usesEs (l.take (i + 1)) = usesEs (l.take i) ++ (hereE (elm l i).kind (elm l i).name (elm l i).kids.length ++ usesEs (elm l i).kids) := by
  rw [List.take_add_one, List.getElem?_eq_getElem h, ← elm_eq h]
  show usesEs (l.take i ++ [elm l i]) = _
  rw [usesEs_app, ← usesE_eq]
  show _ ++ (usesE (elm l i) ++ usesEs []) = _
  rw [usesEs, List.append_nil]
mutual
theorem usesE_len : ∀ e : Ex, (usesE e).length ≤ szE e
  | .mk k o n s l => by
    rw [usesE, szE, List.length_append]
    have h1 := usesEs_len l
    have h2 : (hereE k s l.length).length ≤ 1 := by
      unfold hereE
      by_cases h2 : k = 2
      · simp [h2]
      · by_cases h3 : k = 3
        · simp [h3]
        · by_cases h4 : k = 4
          · simp [h4]
          · simp [h2, h3, h4]
    omega
theorem usesEs_len : ∀ l : List Ex, (usesEs l).length ≤ szEs l
  | [] => Nat.le_refl 0
  | e :: r => by
    rw [usesEs, szEs, List.length_append]
    have h1 := usesE_len e
    have h2 := usesEs_len r
    omega
end
theorem szEs_app : ∀ a b : List Ex, szEs (a ++ b) = szEs a + szEs b
  | [], b => by simp [szEs]
  | e :: r, b => by rw [List.cons_append, szEs, szEs, szEs_app r b]; omega
theorem szEs_take (l : List Ex) (i : Nat) : szEs (l.take i) ≤ szEs l := by
  have := szEs_app (l.take i) (l.drop i)
  rw [List.take_append_drop] at this
  omega
theorem usesEs_take_len (l : List Ex) (i : Nat) : (usesEs (l.take i)).length ≤ szEs l := Nat.le_trans (usesEs_len _) (szEs_take l i)
theorem szE_eq (e : Ex) : szE e = 1 + szEs e.kids := by cases e with | mk k o n s l => rfl

theorem exprs16_step (n : Nat) (IH : ∀ l : List Ex, szEs l < n ∧ szEs l ≤ 1000000 → VPure Tryz.prog G 145 [.slice (l.map encE)] (.slice ((usesEs l).map ruse))) (l : List Ex) (hsz : szEs l ≤ n) (hbig : szEs l ≤ 1000000) :
    VPure Tryz.prog G 145 [.slice (l.map encE)] (.slice ((usesEs l).map ruse)) := by
  obtain ⟨R, hR0, hs⟩ := mkRule (P := Tryz.prog) (G := G) 145 (List Ex) (fun x => [.slice (x.map encE)]) (fun x => .slice ((usesEs x).map ruse)) (fun l => szEs l < n ∧ szEs l ≤ 1000000)
    (by rintro a b h; simp only [List.cons.injEq, PV.slice.injEq, encEs_iff, and_true] at h; rw [h]) IH
  refine VPure.of (.slice _) fun sh => ?_
  refine VCalls_enter [] Tryz.func145 rfl (show 1 ≤ 64 by decide) ?_
  refine vCode_sound (tab_ok [R]) _ _ _ ?_
  simp only [Tryz.f145, go_sem, Nat.reduceEqDiff, Nat.reduceLT, Nat.reduceLeDiff, Nat.reduceAdd, Nat.reduceSub, Nat.reduceMul, Nat.reduceBEq, Nat.reduceBNe, Int.reduceEq, Int.reduceToNat, Int.reduceNeg, ↓reduceIte, reduceCtorEq, Nat.reduceDiv, Nat.reduceMod, Int.reduceLE, Int.reduceLT, Int.reduceSub, Int.reduceAdd]
  refine loop_intro (VWp_promote 3 62 145 3 rfl rfl (VWp_for [5, 6, 7, 8, 11, 12, 13, 14, 15, 17, 16, 18, 19, 20, 21, 22, 23, 24, 25, 26, 3, 28, 27, 29, 30, 31, 32, 33, 34, 35, 36, 37, 39, 38, 40, 41, 42, 43, 44, 45, 46, 47, 48, 49, 50, 51, 52, 53, 54, 55, 56, 57, 58, 59, 60, 61, 62, 9, 10, 4] (fun i : Nat => [(4, .val (.int .i64 i)), (3, .tsl 62 (usesEs (l.take i)).length)]) [] (fun _ => []) [62, 25, 36, 53] (fun i => [(62, some ⟨(usesEs (l.take i)).map ruse, 145, 3, false⟩)]) (fun _ => sh)
    (fun i => i ≤ l.length) (fun i => l.length - i) 0 (Nat.zero_le _) (by refine ⟨rfl, rfl, rfl, .refl _ _, .refl _ _, .refl _ _, by repeat (first | trivial | rfl | refine ⟨?_, ?_⟩), by repeat (first | trivial | rfl | refine ⟨?_, ?_⟩), by repeat (first | trivial | rfl | refine ⟨?_, ?_⟩), by repeat (first | trivial | exact .inr rfl | exact .inl rfl | refine ⟨?_, ?_⟩), by repeat (first | trivial | exact .inr rfl | exact .inl rfl | refine ⟨?_, ?_⟩), by repeat (first | trivial | exact .inr rfl | exact .inl rfl | refine ⟨?_, ?_⟩), by repeat (first | trivial | exact .inr rfl | exact .inl rfl | refine ⟨?_, ?_⟩)⟩) ?_))
  rintro i hi
  have hel : ((usesEs (l.take i)).map ruse).length = (usesEs (l.take i)).length := List.length_map _
  have hln := usesEs_take_len l i
  have hrl := ruse_len (usesEs (l.take i))
  refine vCode_sound (tab_ok [R]) _ _ _ ?_
  simp only [Tryz.f145, go_sem, Nat.reduceEqDiff, Nat.reduceLT, Nat.reduceLeDiff, Nat.reduceAdd, Nat.reduceSub, Nat.reduceMul, Nat.reduceBEq, Nat.reduceBNe, Int.reduceEq, Int.reduceToNat, Int.reduceNeg, ↓reduceIte, reduceCtorEq, Nat.reduceDiv, Nat.reduceMod, Int.reduceLE, Int.reduceLT, Int.reduceSub, Int.reduceAdd]
  repeat (first | intro _ | refine And.intro (by (intros; first | omega | (simp only [Bool.or_eq_false_iff, Bool.or_eq_true, decide_eq_false_iff_not, beq_iff_eq, Bool.and_eq_true, decide_eq_true_eq, Bool.not_eq_true'] at *; omega) | simp_all)) ?_)
  refine if_intro _ rfl trivial (fun h => ?_) (fun h => ?_)
  · simp only [decide_eq_true_eq, Int.ofNat_lt] at h
    have hw : IntKind.i64.wrap ((i : Int) + 1) = ((i + 1 : Nat) : Int) := by rw [wrap64_id (by omega) (by omega)]; rfl
    have hk1 : szEs (elm l i).kids < n ∧ szEs (elm l i).kids ≤ 1000000 := by
      have h1 := szEs_elm l i h
      have h2 := szE_eq (elm l i)
      omega
    have hR : ∀ tl sh, tab (R :: tl) 145 [.slice ((elm l i).kids.map encE)] sh = some (.slice ((usesEs (elm l i).kids).map ruse), sh) := fun tl sh => hR0 tl _ sh hk1
    have hkl := ruse_len (usesEs (elm l i).kids)
    have hln2 := usesEs_take_len l (i + 1)
    rw [usesEs_succ h] at hln2
    have hkind : (elm l i).kind = 2 ∨ (elm l i).kind = 3 ∨ (elm l i).kind = 4 ∨ (¬ (elm l i).kind = 2 ∧ ¬ (elm l i).kind = 3 ∧ ¬ (elm l i).kind = 4) := by omega
    rcases hkind with hk | hk | hk | ⟨hk2, hk3, hk4⟩
    · have e1 : hereE (elm l i).kind (elm l i).name (elm l i).kids.length = [⟨(elm l i).name, 2, -1⟩] := by simp [hereE, hk]
      rw [e1] at hln2
      simp only [List.length_append, List.length_cons, List.length_nil] at hln2
      have hb1 : ((usesEs (l.take i)).length + 1) * 32 ≤ 140737488355328 := by omega
      have hb2 : (usesEs (l.take i)).length + 1 ≤ 9223372036854775807 := by omega
      have hb3 : ((usesEs (l.take i)).length + 1 + (usesEs (elm l i).kids).length) * 32 ≤ 140737488355328 := by omega
      have hb4 : (usesEs (l.take i)).length + 1 + (usesEs (elm l i).kids).length ≤ 9223372036854775807 := by omega
      have hnl : (usesEs (l.take (i + 1))).length = (usesEs (l.take i)).length + 1 + (usesEs (elm l i).kids).length := by
        rw [usesEs_succ h, e1]; simp only [List.length_append, List.length_cons, List.length_nil]; omega
      have hch : (usesEs (l.take (i + 1))).map ruse = (usesEs (l.take i)).map ruse ++ [[.val (.string (elm l i).name), .val (.int .i64 1), .val (.int .i64 0)]] ++ (usesEs (elm l i).kids).map ruse := by
        rw [usesEs_succ h, e1, List.map_append, List.map_append, List.append_assoc]; rfl
      simp only [Tryz.f145, go_sem, Nat.reduceEqDiff, Nat.reduceLT, Nat.reduceLeDiff, Nat.reduceAdd, Nat.reduceSub, Nat.reduceMul, Nat.reduceBEq, Nat.reduceBNe, Int.reduceEq, Int.reduceToNat, Int.reduceNeg, ↓reduceIte, reduceCtorEq, Nat.reduceDiv, Nat.reduceMod, Int.reduceLE, Int.reduceLT, Int.reduceSub, Int.reduceAdd, h, hk, hR, hs, vAppend, cv, asSlice, appendPre, hel, hw]
      repeat (first | intro _ | refine And.intro (by (intros; first | omega | (simp only [Bool.or_eq_false_iff, Bool.or_eq_true, decide_eq_false_iff_not, beq_iff_eq, Bool.and_eq_true, decide_eq_true_eq, Bool.not_eq_true'] at *; omega) | simp_all)) ?_)
      refine ⟨i + 1, h, by omega, ?_⟩
      refine ⟨rfl, rfl, rfl, by repeat (first | exact AgreeOff.refl _ _ | refine AgreeOff.upd rfl ?_ | refine AgreeOff.over rfl ?_), by repeat (first | exact AgreeOff.refl _ _ | refine AgreeOff.upd rfl ?_ | refine AgreeOff.over rfl ?_), by repeat (first | exact AgreeOff.refl _ _ | refine AgreeOff.upd rfl ?_ | refine AgreeOff.over rfl ?_), ?_, by repeat (first | trivial | exact .inr rfl | exact .inl rfl | refine ⟨?_, ?_⟩), ?_, by repeat (first | trivial | exact .inr rfl | exact .inl rfl | refine ⟨?_, ?_⟩), by repeat (first | trivial | exact .inr rfl | exact .inl rfl | refine ⟨?_, ?_⟩), by repeat (first | trivial | exact .inr rfl | exact .inl rfl | refine ⟨?_, ?_⟩), by repeat (first | trivial | exact .inr rfl | exact .inl rfl | refine ⟨?_, ?_⟩)⟩
      · exact ⟨rfl, (congrArg (PV.tsl 62) hnl).symm, trivial⟩
      · exact ⟨congrArg (fun x => some (Chain.mk x 145 3 false)) hch.symm, trivial⟩
    · have e1 : hereE (elm l i).kind (elm l i).name (elm l i).kids.length = [⟨(elm l i).name, 3, -1⟩] := by simp [hereE, hk]
      rw [e1] at hln2
      simp only [List.length_append, List.length_cons, List.length_nil] at hln2
      have hb1 : ((usesEs (l.take i)).length + 1) * 32 ≤ 140737488355328 := by omega
      have hb2 : (usesEs (l.take i)).length + 1 ≤ 9223372036854775807 := by omega
      have hb3 : ((usesEs (l.take i)).length + 1 + (usesEs (elm l i).kids).length) * 32 ≤ 140737488355328 := by omega
      have hb4 : (usesEs (l.take i)).length + 1 + (usesEs (elm l i).kids).length ≤ 9223372036854775807 := by omega
      have hnl : (usesEs (l.take (i + 1))).length = (usesEs (l.take i)).length + 1 + (usesEs (elm l i).kids).length := by
        rw [usesEs_succ h, e1]; simp only [List.length_append, List.length_cons, List.length_nil]; omega
      have hch : (usesEs (l.take (i + 1))).map ruse = (usesEs (l.take i)).map ruse ++ [[.val (.string (elm l i).name), .val (.int .i64 3), .val (.int .i64 0)]] ++ (usesEs (elm l i).kids).map ruse := by
        rw [usesEs_succ h, e1, List.map_append, List.map_append, List.append_assoc]; rfl
      simp only [Tryz.f145, go_sem, Nat.reduceEqDiff, Nat.reduceLT, Nat.reduceLeDiff, Nat.reduceAdd, Nat.reduceSub, Nat.reduceMul, Nat.reduceBEq, Nat.reduceBNe, Int.reduceEq, Int.reduceToNat, Int.reduceNeg, ↓reduceIte, reduceCtorEq, Nat.reduceDiv, Nat.reduceMod, Int.reduceLE, Int.reduceLT, Int.reduceSub, Int.reduceAdd, h, hk, hR, hs, vAppend, cv, asSlice, appendPre, hel, hw]
      repeat (first | intro _ | refine And.intro (by (intros; first | omega | (simp only [Bool.or_eq_false_iff, Bool.or_eq_true, decide_eq_false_iff_not, beq_iff_eq, Bool.and_eq_true, decide_eq_true_eq, Bool.not_eq_true'] at *; omega) | simp_all)) ?_)
      refine ⟨i + 1, h, by omega, ?_⟩
      refine ⟨rfl, rfl, rfl, by repeat (first | exact AgreeOff.refl _ _ | refine AgreeOff.upd rfl ?_ | refine AgreeOff.over rfl ?_), by repeat (first | exact AgreeOff.refl _ _ | refine AgreeOff.upd rfl ?_ | refine AgreeOff.over rfl ?_), by repeat (first | exact AgreeOff.refl _ _ | refine AgreeOff.upd rfl ?_ | refine AgreeOff.over rfl ?_), ?_, by repeat (first | trivial | exact .inr rfl | exact .inl rfl | refine ⟨?_, ?_⟩), ?_, by repeat (first | trivial | exact .inr rfl | exact .inl rfl | refine ⟨?_, ?_⟩), by repeat (first | trivial | exact .inr rfl | exact .inl rfl | refine ⟨?_, ?_⟩), by repeat (first | trivial | exact .inr rfl | exact .inl rfl | refine ⟨?_, ?_⟩), by repeat (first | trivial | exact .inr rfl | exact .inl rfl | refine ⟨?_, ?_⟩)⟩
      · exact ⟨rfl, (congrArg (PV.tsl 62) hnl).symm, trivial⟩
      · exact ⟨congrArg (fun x => some (Chain.mk x 145 3 false)) hch.symm, trivial⟩
    · have e1 : hereE (elm l i).kind (elm l i).name (elm l i).kids.length = [⟨(elm l i).name, 4, ((elm l i).kids.length : Int)⟩] := by simp [hereE, hk]
      rw [e1] at hln2
      simp only [List.length_append, List.length_cons, List.length_nil] at hln2
      have hb1 : ((usesEs (l.take i)).length + 1) * 32 ≤ 140737488355328 := by omega
      have hb2 : (usesEs (l.take i)).length + 1 ≤ 9223372036854775807 := by omega
      have hb3 : ((usesEs (l.take i)).length + 1 + (usesEs (elm l i).kids).length) * 32 ≤ 140737488355328 := by omega
      have hb4 : (usesEs (l.take i)).length + 1 + (usesEs (elm l i).kids).length ≤ 9223372036854775807 := by omega
      have hnl : (usesEs (l.take (i + 1))).length = (usesEs (l.take i)).length + 1 + (usesEs (elm l i).kids).length := by
        rw [usesEs_succ h, e1]; simp only [List.length_append, List.length_cons, List.length_nil]; omega
      have hch : (usesEs (l.take (i + 1))).map ruse = (usesEs (l.take i)).map ruse ++ [[.val (.string (elm l i).name), .val (.int .i64 4), .val (.int .i64 ((elm l i).kids.length : Int))]] ++ (usesEs (elm l i).kids).map ruse := by
        rw [usesEs_succ h, e1, List.map_append, List.map_append, List.append_assoc]; rfl
      simp only [Tryz.f145, go_sem, Nat.reduceEqDiff, Nat.reduceLT, Nat.reduceLeDiff, Nat.reduceAdd, Nat.reduceSub, Nat.reduceMul, Nat.reduceBEq, Nat.reduceBNe, Int.reduceEq, Int.reduceToNat, Int.reduceNeg, ↓reduceIte, reduceCtorEq, Nat.reduceDiv, Nat.reduceMod, Int.reduceLE, Int.reduceLT, Int.reduceSub, Int.reduceAdd, h, hk, hR, hs, vAppend, cv, asSlice, appendPre, hel, hw]
      repeat (first | intro _ | refine And.intro (by (intros; first | omega | (simp only [Bool.or_eq_false_iff, Bool.or_eq_true, decide_eq_false_iff_not, beq_iff_eq, Bool.and_eq_true, decide_eq_true_eq, Bool.not_eq_true'] at *; omega) | simp_all)) ?_)
      refine drawT_intro (tab_ok [R]) mixed [0, 15] [12, 13] [62] (.pu 0 (.pu 1 (.pu 2 (.pu 3 (.pu 4 (.pu 5 (.pu 6 (.pu 7 (.pu 8 (.pu 9 (.pu 10 (.pu 11 (.im 12 (.im 13 (.im 14 (.pu 15 .nil) .nil) .nil) .nil))))))))))))) rfl ?_
      simp only [Tryz.f145, go_sem, Nat.reduceEqDiff, Nat.reduceLT, Nat.reduceLeDiff, Nat.reduceAdd, Nat.reduceSub, Nat.reduceMul, Nat.reduceBEq, Nat.reduceBNe, Int.reduceEq, Int.reduceToNat, Int.reduceNeg, ↓reduceIte, reduceCtorEq, Nat.reduceDiv, Nat.reduceMod, Int.reduceLE, Int.reduceLT, Int.reduceSub, Int.reduceAdd, h, hk, hR, hs, vAppend, cv, asSlice, appendPre, hel, hw, vDT, vDAtC, DT.isNil, vDOpC, viewC, bareC, keepT, chSame_mem]
      repeat (first | intro _ | refine And.intro (by (intros; first | omega | (simp only [Bool.or_eq_false_iff, Bool.or_eq_true, decide_eq_false_iff_not, beq_iff_eq, Bool.and_eq_true, decide_eq_true_eq, Bool.not_eq_true'] at *; omega) | simp_all)) ?_)
      refine ⟨i + 1, h, by omega, ?_⟩
      refine ⟨rfl, rfl, rfl, by repeat (first | exact AgreeOff.refl _ _ | refine AgreeOff.upd rfl ?_ | refine AgreeOff.over rfl ?_), by repeat (first | exact AgreeOff.refl _ _ | refine AgreeOff.upd rfl ?_ | refine AgreeOff.over rfl ?_), by repeat (first | exact AgreeOff.refl _ _ | refine AgreeOff.upd rfl ?_ | refine AgreeOff.over rfl ?_), ?_, by repeat (first | trivial | exact .inr rfl | exact .inl rfl | refine ⟨?_, ?_⟩), ?_, by repeat (first | trivial | exact .inr rfl | exact .inl rfl | refine ⟨?_, ?_⟩), by repeat (first | trivial | exact .inr rfl | exact .inl rfl | refine ⟨?_, ?_⟩), by repeat (first | trivial | exact .inr rfl | exact .inl rfl | refine ⟨?_, ?_⟩), by repeat (first | trivial | exact .inr rfl | exact .inl rfl | refine ⟨?_, ?_⟩)⟩
      · exact ⟨rfl, (congrArg (PV.tsl 62) hnl).symm, trivial⟩
      · exact ⟨congrArg (fun x => some (Chain.mk x 145 3 false)) hch.symm, trivial⟩
    · have e1 : hereE (elm l i).kind (elm l i).name (elm l i).kids.length = [] := by simp [hereE, hk2, hk3, hk4]
      rw [e1] at hln2
      simp only [List.length_append, List.length_nil] at hln2
      have hb3 : ((usesEs (l.take i)).length + (usesEs (elm l i).kids).length) * 32 ≤ 140737488355328 := by omega
      have hb4 : (usesEs (l.take i)).length + (usesEs (elm l i).kids).length ≤ 9223372036854775807 := by omega
      have hnl : (usesEs (l.take (i + 1))).length = (usesEs (l.take i)).length + (usesEs (elm l i).kids).length := by
        rw [usesEs_succ h, e1]; simp only [List.length_append, List.length_nil]; omega
      have hch : (usesEs (l.take (i + 1))).map ruse = (usesEs (l.take i)).map ruse ++ (usesEs (elm l i).kids).map ruse := by
        rw [usesEs_succ h, e1, List.nil_append, List.map_append]
      simp only [Tryz.f145, go_sem, Nat.reduceEqDiff, Nat.reduceLT, Nat.reduceLeDiff, Nat.reduceAdd, Nat.reduceSub, Nat.reduceMul, Nat.reduceBEq, Nat.reduceBNe, Int.reduceEq, Int.reduceToNat, Int.reduceNeg, ↓reduceIte, reduceCtorEq, Nat.reduceDiv, Nat.reduceMod, Int.reduceLE, Int.reduceLT, Int.reduceSub, Int.reduceAdd, h, hk2, hk3, hk4, hR, hs, vAppend, cv, asSlice, appendPre, hel, hw]
      repeat (first | intro _ | refine And.intro (by (intros; first | omega | (simp only [Bool.or_eq_false_iff, Bool.or_eq_true, decide_eq_false_iff_not, beq_iff_eq, Bool.and_eq_true, decide_eq_true_eq, Bool.not_eq_true'] at *; omega) | simp_all)) ?_)
      refine ⟨i + 1, h, by omega, ?_⟩
      refine ⟨rfl, rfl, rfl, by repeat (first | exact AgreeOff.refl _ _ | refine AgreeOff.upd rfl ?_ | refine AgreeOff.over rfl ?_), by repeat (first | exact AgreeOff.refl _ _ | refine AgreeOff.upd rfl ?_ | refine AgreeOff.over rfl ?_), by repeat (first | exact AgreeOff.refl _ _ | refine AgreeOff.upd rfl ?_ | refine AgreeOff.over rfl ?_), ?_, by repeat (first | trivial | exact .inr rfl | exact .inl rfl | refine ⟨?_, ?_⟩), ?_, by repeat (first | trivial | exact .inr rfl | exact .inl rfl | refine ⟨?_, ?_⟩), by repeat (first | trivial | exact .inr rfl | exact .inl rfl | refine ⟨?_, ?_⟩), by repeat (first | trivial | exact .inr rfl | exact .inl rfl | refine ⟨?_, ?_⟩), by repeat (first | trivial | exact .inr rfl | exact .inl rfl | refine ⟨?_, ?_⟩)⟩
      · exact ⟨rfl, (congrArg (PV.tsl 62) hnl).symm, trivial⟩
      · exact ⟨congrArg (fun x => some (Chain.mk x 145 3 false)) hch.symm, trivial⟩
  simp only [decide_eq_false_iff_not, Int.ofNat_lt] at h
  have hi' : i = l.length := by omega
  subst hi'
  rw [List.take_length] at *
  simp only [Tryz.f145, go_sem, Nat.reduceEqDiff, Nat.reduceLT, Nat.reduceLeDiff, Nat.reduceAdd, Nat.reduceSub, Nat.reduceMul, Nat.reduceBEq, Nat.reduceBNe, Int.reduceEq, Int.reduceToNat, Int.reduceNeg, ↓reduceIte, reduceCtorEq, Nat.reduceDiv, Nat.reduceMod, Int.reduceLE, Int.reduceLT, Int.reduceSub, Int.reduceAdd, hel]

theorem exprs16_ind : ∀ (n : Nat) (l : List Ex), szEs l < n ∧ szEs l ≤ 1000000 → VPure Tryz.prog G 145 [.slice (l.map encE)] (.slice ((usesEs l).map ruse))
  | 0, _, h => absurd h.1 (Nat.not_lt_zero _)
  | n + 1, l, h => exprs16_step n (exprs16_ind n) l (by omega) h.2
theorem exprs16_c (l : List Ex) (h : szEs l ≤ 1000000) : VPure Tryz.prog G 145 [.slice (l.map encE)] (.slice ((usesEs l).map ruse)) := exprs16_ind (szEs l + 1) l ⟨by omega, h⟩
end Go.Proofs.YtaackmiajgapoaaGreatDoor.V
