/- What is used, by the document (seedcornref16): in statements. -/
import Derived.Test.YtaackmiajgapoaaGreatDoorE2
set_option maxRecDepth 100000
set_option maxHeartbeats 16000000
set_option linter.unusedSimpArgs false
set_option linter.unusedVariables false
namespace Go.Proofs.YtaackmiajgapoaaGreatDoor.V
open Go
variable {G : Nat → Option (List PV)}

theorem usesSs_app : ∀ a b : List St, usesSs (a ++ b) = usesSs a ++ usesSs b
  | [], b => rfl
  | e :: r, b => by rw [List.cons_append, usesSs, usesSs, usesSs_app r b, List.append_assoc]
theorem usesSs_succ {l : List St} {i : Nat} (h : i < l.length) : usesSs (l.take (i + 1)) = usesSs (l.take i) ++ (hereS (elm l i).kind (elm l i).name (elm l i).e.length ++ usesEs (elm l i).e ++ usesSs (elm l i).thn ++ usesSs (elm l i).els) := by
  rw [List.take_add_one, List.getElem?_eq_getElem h, ← elm_eq h]
  show usesSs (l.take i ++ [elm l i]) = _
  rw [usesSs_app, ← usesS_eq]
  show _ ++ (usesS (elm l i) ++ usesSs []) = _
  rw [usesSs, List.append_nil]
mutual
theorem usesS_len : ∀ e : St, (usesS e).length ≤ szS e
  | .mk k s e t f => by
    rw [usesS, szS, List.length_append, List.length_append, List.length_append]
    have h1 := usesEs_len e
    have h2 := usesSs_len t
    have h3 := usesSs_len f
    have h4 : (hereS k s e.length).length ≤ 1 := by
      unfold hereS
      by_cases h2 : k = 1
      · simp [h2]
      · by_cases h3 : k = 2
        · simp [h3]
        · by_cases h4 : k = 6
          · simp [h4]
          · simp [h2, h3, h4]
    omega
theorem usesSs_len : ∀ l : List St, (usesSs l).length ≤ szSs l
  | [] => Nat.le_refl 0
  | e :: r => by
    rw [usesSs, szSs, List.length_append]
    have h1 := usesS_len e
    have h2 := usesSs_len r
    omega
end
theorem szSs_app : ∀ a b : List St, szSs (a ++ b) = szSs a + szSs b
  | [], b => by simp [szSs]
  | e :: r, b => by rw [List.cons_append, szSs, szSs, szSs_app r b]; omega
theorem szSs_take (l : List St) (i : Nat) : szSs (l.take i) ≤ szSs l := by
  have := szSs_app (l.take i) (l.drop i)
  rw [List.take_append_drop] at this
  omega
theorem usesSs_take_len (l : List St) (i : Nat) : (usesSs (l.take i)).length ≤ szSs l := Nat.le_trans (usesSs_len _) (szSs_take l i)
theorem szS_eq (e : St) : szS e = 1 + szEs e.e + szSs e.thn + szSs e.els := by cases e with | mk k s e t f => rfl

theorem uses16_step (n : Nat) (IH : ∀ l : List St, szSs l < n ∧ szSs l ≤ 1000000 → VPure Tryz.prog G 104 [.slice (l.map encS)] (.slice ((usesSs l).map ruse))) (l : List St) (hsz : szSs l ≤ n) (hbig : szSs l ≤ 1000000) :
    VPure Tryz.prog G 104 [.slice (l.map encS)] (.slice ((usesSs l).map ruse)) := by
  obtain ⟨R, hR0, hs⟩ := mkRule (P := Tryz.prog) (G := G) 104 (List St) (fun x => [.slice (x.map encS)]) (fun x => .slice ((usesSs x).map ruse)) (fun l => szSs l < n ∧ szSs l ≤ 1000000)
    (by rintro a b h; simp only [List.cons.injEq, PV.slice.injEq, encSs_iff, and_true] at h; rw [h]) IH
  obtain ⟨E, hE0, hsE⟩ := mkRule (P := Tryz.prog) (G := G) 145 (List Ex) (fun x => [.slice (x.map encE)]) (fun x => .slice ((usesEs x).map ruse)) (fun l => szEs l ≤ 1000000)
    (by rintro a b h; simp only [List.cons.injEq, PV.slice.injEq, encEs_iff, and_true] at h; rw [h]) exprs16_c
  refine VPure.of (.slice _) fun sh => ?_
  refine VCalls_enter [] Tryz.func104 rfl (show 1 ≤ 80 by decide) ?_
  refine vCode_sound (tab_ok [R, E]) _ _ _ ?_
  simp only [Tryz.f104, go_sem, Nat.reduceEqDiff, Nat.reduceLT, Nat.reduceLeDiff, Nat.reduceAdd, Nat.reduceSub, Nat.reduceMul, Nat.reduceBEq, Nat.reduceBNe, Int.reduceEq, Int.reduceToNat, Int.reduceNeg, ↓reduceIte, reduceCtorEq, Nat.reduceDiv, Nat.reduceMod, Int.reduceLE, Int.reduceLT, Int.reduceSub, Int.reduceAdd]
  refine loop_intro (VWp_promote 3 78 145 3 rfl rfl (VWp_for [5, 6, 7, 8, 11, 12, 13, 14, 15, 17, 16, 18, 19, 20, 21, 22, 23, 24, 25, 26, 3, 28, 27, 29, 30, 31, 32, 33, 34, 35, 36, 37, 39, 38, 40, 41, 42, 43, 44, 45, 46, 47, 48, 49, 50, 51, 52, 53, 54, 55, 56, 57, 58, 59, 60, 61, 62, 63, 64, 65, 66, 67, 68, 69, 70, 71, 72, 73, 74, 75, 76, 77, 78, 9, 10, 4] (fun i : Nat => [(4, .val (.int .i64 i)), (3, .tsl 78 (usesSs (l.take i)).length)]) [] (fun _ => []) [78, 25, 36, 53] (fun i => [(78, some ⟨(usesSs (l.take i)).map ruse, 145, 3, false⟩)]) (fun _ => sh)
    (fun i => i ≤ l.length) (fun i => l.length - i) 0 (Nat.zero_le _) (by refine ⟨rfl, rfl, rfl, .refl _ _, .refl _ _, .refl _ _, by repeat (first | trivial | rfl | refine ⟨?_, ?_⟩), by repeat (first | trivial | rfl | refine ⟨?_, ?_⟩), by repeat (first | trivial | rfl | refine ⟨?_, ?_⟩), by repeat (first | trivial | exact .inr rfl | exact .inl rfl | refine ⟨?_, ?_⟩), by repeat (first | trivial | exact .inr rfl | exact .inl rfl | refine ⟨?_, ?_⟩), by repeat (first | trivial | exact .inr rfl | exact .inl rfl | refine ⟨?_, ?_⟩), by repeat (first | trivial | exact .inr rfl | exact .inl rfl | refine ⟨?_, ?_⟩)⟩) ?_))
  rintro i hi
  have hel : ((usesSs (l.take i)).map ruse).length = (usesSs (l.take i)).length := List.length_map _
  have hrl := ruse_len (usesSs (l.take i))
  refine vCode_sound (tab_ok [R, E]) _ _ _ ?_
  simp only [Tryz.f104, go_sem, Nat.reduceEqDiff, Nat.reduceLT, Nat.reduceLeDiff, Nat.reduceAdd, Nat.reduceSub, Nat.reduceMul, Nat.reduceBEq, Nat.reduceBNe, Int.reduceEq, Int.reduceToNat, Int.reduceNeg, ↓reduceIte, reduceCtorEq, Nat.reduceDiv, Nat.reduceMod, Int.reduceLE, Int.reduceLT, Int.reduceSub, Int.reduceAdd]
  repeat (first | intro _ | refine And.intro (by (intros; first | omega | (simp only [Bool.or_eq_false_iff, Bool.or_eq_true, decide_eq_false_iff_not, beq_iff_eq, Bool.and_eq_true, decide_eq_true_eq, Bool.not_eq_true'] at *; omega) | simp_all)) ?_)
  refine if_intro _ rfl trivial (fun h => ?_) (fun h => ?_)
  · simp only [decide_eq_true_eq, Int.ofNat_lt] at h
    have hw : IntKind.i64.wrap ((i : Int) + 1) = ((i + 1 : Nat) : Int) := by rw [wrap64_id (by omega) (by omega)]; rfl
    have h1 := szSs_elm l i h
    have h2 := szS_eq (elm l i)
    have hRt : ∀ tl sh, tab (R :: tl) 104 [.slice ((elm l i).thn.map encS)] sh = some (.slice ((usesSs (elm l i).thn).map ruse), sh) := fun tl sh => hR0 tl _ sh (by omega)
    have hRf : ∀ tl sh, tab (R :: tl) 104 [.slice ((elm l i).els.map encS)] sh = some (.slice ((usesSs (elm l i).els).map ruse), sh) := fun tl sh => hR0 tl _ sh (by omega)
    have hE : ∀ tl sh, tab (E :: tl) 145 [.slice ((elm l i).e.map encE)] sh = some (.slice ((usesEs (elm l i).e).map ruse), sh) := fun tl sh => hE0 tl _ sh (by omega)
    have hkl := ruse_len (usesEs (elm l i).e)
    have hkt := ruse_len (usesSs (elm l i).thn)
    have hkf := ruse_len (usesSs (elm l i).els)
    have hln2 := usesSs_take_len l (i + 1)
    rw [usesSs_succ h] at hln2
    simp only [List.length_append] at hln2
    have hkind : (elm l i).kind = 1 ∨ (elm l i).kind = 2 ∨ (elm l i).kind = 6 ∨ (¬ (elm l i).kind = 1 ∧ ¬ (elm l i).kind = 2 ∧ ¬ (elm l i).kind = 6) := by omega
    rcases hkind with hk | hk | hk | ⟨hk2, hk3, hk4⟩
    · have e1 : hereS (elm l i).kind (elm l i).name (elm l i).e.length = [⟨(elm l i).name, 2, -1⟩] := by simp [hereS, hk]
      rw [e1] at hln2
      simp only [List.length_cons, List.length_nil] at hln2
      have hc1 : ((usesSs (l.take i)).length + 1) * 32 ≤ 140737488355328 := by omega
      have hc2 : (usesSs (l.take i)).length + 1 ≤ 9223372036854775807 := by omega
      have hb01 : ((usesSs (l.take i)).length + 1 + (usesEs (elm l i).e).length) * 32 ≤ 140737488355328 := by omega
      have hb02 : (usesSs (l.take i)).length + 1 + (usesEs (elm l i).e).length ≤ 9223372036854775807 := by omega
      have hb11 : ((usesSs (l.take i)).length + 1 + (usesEs (elm l i).e).length + (usesSs (elm l i).thn).length) * 32 ≤ 140737488355328 := by omega
      have hb12 : (usesSs (l.take i)).length + 1 + (usesEs (elm l i).e).length + (usesSs (elm l i).thn).length ≤ 9223372036854775807 := by omega
      have hb21 : ((usesSs (l.take i)).length + 1 + (usesEs (elm l i).e).length + (usesSs (elm l i).thn).length + (usesSs (elm l i).els).length) * 32 ≤ 140737488355328 := by omega
      have hb22 : (usesSs (l.take i)).length + 1 + (usesEs (elm l i).e).length + (usesSs (elm l i).thn).length + (usesSs (elm l i).els).length ≤ 9223372036854775807 := by omega
      have hnl : (usesSs (l.take (i + 1))).length = (usesSs (l.take i)).length + 1 + (usesEs (elm l i).e).length + (usesSs (elm l i).thn).length + (usesSs (elm l i).els).length := by
        rw [usesSs_succ h, e1]; simp only [List.length_append, List.length_cons, List.length_nil]; omega
      have hch : (usesSs (l.take (i + 1))).map ruse = (usesSs (l.take i)).map ruse ++ [[.val (.string (elm l i).name), .val (.int .i64 1), .val (.int .i64 0)]] ++ (usesEs (elm l i).e).map ruse ++ (usesSs (elm l i).thn).map ruse ++ (usesSs (elm l i).els).map ruse := by
        rw [usesSs_succ h, e1]; simp only [List.map_append, List.append_assoc]; rfl
      simp only [Tryz.f104, go_sem, Nat.reduceEqDiff, Nat.reduceLT, Nat.reduceLeDiff, Nat.reduceAdd, Nat.reduceSub, Nat.reduceMul, Nat.reduceBEq, Nat.reduceBNe, Int.reduceEq, Int.reduceToNat, Int.reduceNeg, ↓reduceIte, reduceCtorEq, Nat.reduceDiv, Nat.reduceMod, Int.reduceLE, Int.reduceLT, Int.reduceSub, Int.reduceAdd, h, hk, hRt, hRf, hs, hE, hsE, vAppend, cv, asSlice, appendPre, hel, hw, List.length_append, eq_true hkl, eq_true hkt, eq_true hkf]
      repeat (first | intro _ | refine And.intro (by (intros; first | omega | (simp only [Bool.or_eq_false_iff, Bool.or_eq_true, decide_eq_false_iff_not, beq_iff_eq, Bool.and_eq_true, decide_eq_true_eq, Bool.not_eq_true'] at *; omega) | simp_all)) ?_)
      refine ⟨i + 1, h, by omega, ?_⟩
      refine ⟨rfl, rfl, rfl, by repeat (first | exact AgreeOff.refl _ _ | refine AgreeOff.upd rfl ?_ | refine AgreeOff.over rfl ?_), by repeat (first | exact AgreeOff.refl _ _ | refine AgreeOff.upd rfl ?_ | refine AgreeOff.over rfl ?_), by repeat (first | exact AgreeOff.refl _ _ | refine AgreeOff.upd rfl ?_ | refine AgreeOff.over rfl ?_), ?_, by repeat (first | trivial | exact .inr rfl | exact .inl rfl | refine ⟨?_, ?_⟩), ?_, by repeat (first | trivial | exact .inr rfl | exact .inl rfl | refine ⟨?_, ?_⟩), by repeat (first | trivial | exact .inr rfl | exact .inl rfl | refine ⟨?_, ?_⟩), by repeat (first | trivial | exact .inr rfl | exact .inl rfl | refine ⟨?_, ?_⟩), by repeat (first | trivial | exact .inr rfl | exact .inl rfl | refine ⟨?_, ?_⟩)⟩
      · exact ⟨rfl, (congrArg (PV.tsl 78) hnl).symm, trivial⟩
      · exact ⟨congrArg (fun x => some (Chain.mk x 145 3 false)) hch.symm, trivial⟩
    · have e1 : hereS (elm l i).kind (elm l i).name (elm l i).e.length = [⟨(elm l i).name, 3, -1⟩] := by simp [hereS, hk]
      rw [e1] at hln2
      simp only [List.length_cons, List.length_nil] at hln2
      have hc1 : ((usesSs (l.take i)).length + 1) * 32 ≤ 140737488355328 := by omega
      have hc2 : (usesSs (l.take i)).length + 1 ≤ 9223372036854775807 := by omega
      have hb01 : ((usesSs (l.take i)).length + 1 + (usesEs (elm l i).e).length) * 32 ≤ 140737488355328 := by omega
      have hb02 : (usesSs (l.take i)).length + 1 + (usesEs (elm l i).e).length ≤ 9223372036854775807 := by omega
      have hb11 : ((usesSs (l.take i)).length + 1 + (usesEs (elm l i).e).length + (usesSs (elm l i).thn).length) * 32 ≤ 140737488355328 := by omega
      have hb12 : (usesSs (l.take i)).length + 1 + (usesEs (elm l i).e).length + (usesSs (elm l i).thn).length ≤ 9223372036854775807 := by omega
      have hb21 : ((usesSs (l.take i)).length + 1 + (usesEs (elm l i).e).length + (usesSs (elm l i).thn).length + (usesSs (elm l i).els).length) * 32 ≤ 140737488355328 := by omega
      have hb22 : (usesSs (l.take i)).length + 1 + (usesEs (elm l i).e).length + (usesSs (elm l i).thn).length + (usesSs (elm l i).els).length ≤ 9223372036854775807 := by omega
      have hnl : (usesSs (l.take (i + 1))).length = (usesSs (l.take i)).length + 1 + (usesEs (elm l i).e).length + (usesSs (elm l i).thn).length + (usesSs (elm l i).els).length := by
        rw [usesSs_succ h, e1]; simp only [List.length_append, List.length_cons, List.length_nil]; omega
      have hch : (usesSs (l.take (i + 1))).map ruse = (usesSs (l.take i)).map ruse ++ [[.val (.string (elm l i).name), .val (.int .i64 3), .val (.int .i64 0)]] ++ (usesEs (elm l i).e).map ruse ++ (usesSs (elm l i).thn).map ruse ++ (usesSs (elm l i).els).map ruse := by
        rw [usesSs_succ h, e1]; simp only [List.map_append, List.append_assoc]; rfl
      simp only [Tryz.f104, go_sem, Nat.reduceEqDiff, Nat.reduceLT, Nat.reduceLeDiff, Nat.reduceAdd, Nat.reduceSub, Nat.reduceMul, Nat.reduceBEq, Nat.reduceBNe, Int.reduceEq, Int.reduceToNat, Int.reduceNeg, ↓reduceIte, reduceCtorEq, Nat.reduceDiv, Nat.reduceMod, Int.reduceLE, Int.reduceLT, Int.reduceSub, Int.reduceAdd, h, hk, hRt, hRf, hs, hE, hsE, vAppend, cv, asSlice, appendPre, hel, hw, List.length_append, eq_true hkl, eq_true hkt, eq_true hkf]
      repeat (first | intro _ | refine And.intro (by (intros; first | omega | (simp only [Bool.or_eq_false_iff, Bool.or_eq_true, decide_eq_false_iff_not, beq_iff_eq, Bool.and_eq_true, decide_eq_true_eq, Bool.not_eq_true'] at *; omega) | simp_all)) ?_)
      refine ⟨i + 1, h, by omega, ?_⟩
      refine ⟨rfl, rfl, rfl, by repeat (first | exact AgreeOff.refl _ _ | refine AgreeOff.upd rfl ?_ | refine AgreeOff.over rfl ?_), by repeat (first | exact AgreeOff.refl _ _ | refine AgreeOff.upd rfl ?_ | refine AgreeOff.over rfl ?_), by repeat (first | exact AgreeOff.refl _ _ | refine AgreeOff.upd rfl ?_ | refine AgreeOff.over rfl ?_), ?_, by repeat (first | trivial | exact .inr rfl | exact .inl rfl | refine ⟨?_, ?_⟩), ?_, by repeat (first | trivial | exact .inr rfl | exact .inl rfl | refine ⟨?_, ?_⟩), by repeat (first | trivial | exact .inr rfl | exact .inl rfl | refine ⟨?_, ?_⟩), by repeat (first | trivial | exact .inr rfl | exact .inl rfl | refine ⟨?_, ?_⟩), by repeat (first | trivial | exact .inr rfl | exact .inl rfl | refine ⟨?_, ?_⟩)⟩
      · exact ⟨rfl, (congrArg (PV.tsl 78) hnl).symm, trivial⟩
      · exact ⟨congrArg (fun x => some (Chain.mk x 145 3 false)) hch.symm, trivial⟩
    · have e1 : hereS (elm l i).kind (elm l i).name (elm l i).e.length = [⟨(elm l i).name, 4, ((elm l i).e.length : Int)⟩] := by simp [hereS, hk]
      rw [e1] at hln2
      simp only [List.length_cons, List.length_nil] at hln2
      have hc1 : ((usesSs (l.take i)).length + 1) * 32 ≤ 140737488355328 := by omega
      have hc2 : (usesSs (l.take i)).length + 1 ≤ 9223372036854775807 := by omega
      have hb01 : ((usesSs (l.take i)).length + 1 + (usesEs (elm l i).e).length) * 32 ≤ 140737488355328 := by omega
      have hb02 : (usesSs (l.take i)).length + 1 + (usesEs (elm l i).e).length ≤ 9223372036854775807 := by omega
      have hb11 : ((usesSs (l.take i)).length + 1 + (usesEs (elm l i).e).length + (usesSs (elm l i).thn).length) * 32 ≤ 140737488355328 := by omega
      have hb12 : (usesSs (l.take i)).length + 1 + (usesEs (elm l i).e).length + (usesSs (elm l i).thn).length ≤ 9223372036854775807 := by omega
      have hb21 : ((usesSs (l.take i)).length + 1 + (usesEs (elm l i).e).length + (usesSs (elm l i).thn).length + (usesSs (elm l i).els).length) * 32 ≤ 140737488355328 := by omega
      have hb22 : (usesSs (l.take i)).length + 1 + (usesEs (elm l i).e).length + (usesSs (elm l i).thn).length + (usesSs (elm l i).els).length ≤ 9223372036854775807 := by omega
      have hnl : (usesSs (l.take (i + 1))).length = (usesSs (l.take i)).length + 1 + (usesEs (elm l i).e).length + (usesSs (elm l i).thn).length + (usesSs (elm l i).els).length := by
        rw [usesSs_succ h, e1]; simp only [List.length_append, List.length_cons, List.length_nil]; omega
      have hch : (usesSs (l.take (i + 1))).map ruse = (usesSs (l.take i)).map ruse ++ [[.val (.string (elm l i).name), .val (.int .i64 4), .val (.int .i64 ((elm l i).e.length : Int))]] ++ (usesEs (elm l i).e).map ruse ++ (usesSs (elm l i).thn).map ruse ++ (usesSs (elm l i).els).map ruse := by
        rw [usesSs_succ h, e1]; simp only [List.map_append, List.append_assoc]; rfl
      simp only [Tryz.f104, go_sem, Nat.reduceEqDiff, Nat.reduceLT, Nat.reduceLeDiff, Nat.reduceAdd, Nat.reduceSub, Nat.reduceMul, Nat.reduceBEq, Nat.reduceBNe, Int.reduceEq, Int.reduceToNat, Int.reduceNeg, ↓reduceIte, reduceCtorEq, Nat.reduceDiv, Nat.reduceMod, Int.reduceLE, Int.reduceLT, Int.reduceSub, Int.reduceAdd, h, hk, hRt, hRf, hs, hE, hsE, vAppend, cv, asSlice, appendPre, hel, hw, List.length_append, eq_true hkl, eq_true hkt, eq_true hkf]
      repeat (first | intro _ | refine And.intro (by (intros; first | omega | (simp only [Bool.or_eq_false_iff, Bool.or_eq_true, decide_eq_false_iff_not, beq_iff_eq, Bool.and_eq_true, decide_eq_true_eq, Bool.not_eq_true'] at *; omega) | simp_all)) ?_)
      refine drawT_intro (tab_ok [R, E]) mixed [0, 15] [12, 13] [78] (.pu 0 (.pu 1 (.pu 2 (.pu 3 (.pu 4 (.pu 5 (.pu 6 (.pu 7 (.pu 8 (.pu 9 (.pu 10 (.pu 11 (.im 12 (.im 13 (.im 14 (.pu 15 .nil) .nil) .nil) .nil))))))))))))) rfl ?_
      simp only [Tryz.f104, go_sem, Nat.reduceEqDiff, Nat.reduceLT, Nat.reduceLeDiff, Nat.reduceAdd, Nat.reduceSub, Nat.reduceMul, Nat.reduceBEq, Nat.reduceBNe, Int.reduceEq, Int.reduceToNat, Int.reduceNeg, ↓reduceIte, reduceCtorEq, Nat.reduceDiv, Nat.reduceMod, Int.reduceLE, Int.reduceLT, Int.reduceSub, Int.reduceAdd, h, hk, hRt, hRf, hs, hE, hsE, vAppend, cv, asSlice, appendPre, hel, hw, List.length_append, eq_true hkl, eq_true hkt, eq_true hkf, vDT, vDAtC, DT.isNil, vDOpC, viewC, bareC, keepT, chSame_mem]
      repeat (first | intro _ | refine And.intro (by (intros; first | omega | (simp only [Bool.or_eq_false_iff, Bool.or_eq_true, decide_eq_false_iff_not, beq_iff_eq, Bool.and_eq_true, decide_eq_true_eq, Bool.not_eq_true'] at *; omega) | simp_all)) ?_)
      refine ⟨i + 1, h, by omega, ?_⟩
      refine ⟨rfl, rfl, rfl, by repeat (first | exact AgreeOff.refl _ _ | refine AgreeOff.upd rfl ?_ | refine AgreeOff.over rfl ?_), by repeat (first | exact AgreeOff.refl _ _ | refine AgreeOff.upd rfl ?_ | refine AgreeOff.over rfl ?_), by repeat (first | exact AgreeOff.refl _ _ | refine AgreeOff.upd rfl ?_ | refine AgreeOff.over rfl ?_), ?_, by repeat (first | trivial | exact .inr rfl | exact .inl rfl | refine ⟨?_, ?_⟩), ?_, by repeat (first | trivial | exact .inr rfl | exact .inl rfl | refine ⟨?_, ?_⟩), by repeat (first | trivial | exact .inr rfl | exact .inl rfl | refine ⟨?_, ?_⟩), by repeat (first | trivial | exact .inr rfl | exact .inl rfl | refine ⟨?_, ?_⟩), by repeat (first | trivial | exact .inr rfl | exact .inl rfl | refine ⟨?_, ?_⟩)⟩
      · exact ⟨rfl, (congrArg (PV.tsl 78) hnl).symm, trivial⟩
      · exact ⟨congrArg (fun x => some (Chain.mk x 145 3 false)) hch.symm, trivial⟩
    · have e1 : hereS (elm l i).kind (elm l i).name (elm l i).e.length = [] := by simp [hereS, hk2, hk3, hk4]
      rw [e1] at hln2
      simp only [List.length_nil] at hln2
      have hb01 : ((usesSs (l.take i)).length + (usesEs (elm l i).e).length) * 32 ≤ 140737488355328 := by omega
      have hb02 : (usesSs (l.take i)).length + (usesEs (elm l i).e).length ≤ 9223372036854775807 := by omega
      have hb11 : ((usesSs (l.take i)).length + (usesEs (elm l i).e).length + (usesSs (elm l i).thn).length) * 32 ≤ 140737488355328 := by omega
      have hb12 : (usesSs (l.take i)).length + (usesEs (elm l i).e).length + (usesSs (elm l i).thn).length ≤ 9223372036854775807 := by omega
      have hb21 : ((usesSs (l.take i)).length + (usesEs (elm l i).e).length + (usesSs (elm l i).thn).length + (usesSs (elm l i).els).length) * 32 ≤ 140737488355328 := by omega
      have hb22 : (usesSs (l.take i)).length + (usesEs (elm l i).e).length + (usesSs (elm l i).thn).length + (usesSs (elm l i).els).length ≤ 9223372036854775807 := by omega
      have hnl : (usesSs (l.take (i + 1))).length = (usesSs (l.take i)).length + (usesEs (elm l i).e).length + (usesSs (elm l i).thn).length + (usesSs (elm l i).els).length := by
        rw [usesSs_succ h, e1]; simp only [List.length_append, List.length_nil]; omega
      have hch : (usesSs (l.take (i + 1))).map ruse = (usesSs (l.take i)).map ruse ++ (usesEs (elm l i).e).map ruse ++ (usesSs (elm l i).thn).map ruse ++ (usesSs (elm l i).els).map ruse := by
        rw [usesSs_succ h, e1, List.nil_append]; simp only [List.map_append, List.append_assoc]
      simp only [Tryz.f104, go_sem, Nat.reduceEqDiff, Nat.reduceLT, Nat.reduceLeDiff, Nat.reduceAdd, Nat.reduceSub, Nat.reduceMul, Nat.reduceBEq, Nat.reduceBNe, Int.reduceEq, Int.reduceToNat, Int.reduceNeg, ↓reduceIte, reduceCtorEq, Nat.reduceDiv, Nat.reduceMod, Int.reduceLE, Int.reduceLT, Int.reduceSub, Int.reduceAdd, h, hk2, hk3, hk4, hRt, hRf, hs, hE, hsE, vAppend, cv, asSlice, appendPre, hel, hw, List.length_append, eq_true hkl, eq_true hkt, eq_true hkf]
      repeat (first | intro _ | refine And.intro (by (intros; first | omega | (simp only [Bool.or_eq_false_iff, Bool.or_eq_true, decide_eq_false_iff_not, beq_iff_eq, Bool.and_eq_true, decide_eq_true_eq, Bool.not_eq_true'] at *; omega) | simp_all)) ?_)
      refine ⟨i + 1, h, by omega, ?_⟩
      refine ⟨rfl, rfl, rfl, by repeat (first | exact AgreeOff.refl _ _ | refine AgreeOff.upd rfl ?_ | refine AgreeOff.over rfl ?_), by repeat (first | exact AgreeOff.refl _ _ | refine AgreeOff.upd rfl ?_ | refine AgreeOff.over rfl ?_), by repeat (first | exact AgreeOff.refl _ _ | refine AgreeOff.upd rfl ?_ | refine AgreeOff.over rfl ?_), ?_, by repeat (first | trivial | exact .inr rfl | exact .inl rfl | refine ⟨?_, ?_⟩), ?_, by repeat (first | trivial | exact .inr rfl | exact .inl rfl | refine ⟨?_, ?_⟩), by repeat (first | trivial | exact .inr rfl | exact .inl rfl | refine ⟨?_, ?_⟩), by repeat (first | trivial | exact .inr rfl | exact .inl rfl | refine ⟨?_, ?_⟩), by repeat (first | trivial | exact .inr rfl | exact .inl rfl | refine ⟨?_, ?_⟩)⟩
      · exact ⟨rfl, (congrArg (PV.tsl 78) hnl).symm, trivial⟩
      · exact ⟨congrArg (fun x => some (Chain.mk x 145 3 false)) hch.symm, trivial⟩
  simp only [decide_eq_false_iff_not, Int.ofNat_lt] at h
  have hi' : i = l.length := by omega
  subst hi'
  rw [List.take_length] at *
  simp only [Tryz.f104, go_sem, Nat.reduceEqDiff, Nat.reduceLT, Nat.reduceLeDiff, Nat.reduceAdd, Nat.reduceSub, Nat.reduceMul, Nat.reduceBEq, Nat.reduceBNe, Int.reduceEq, Int.reduceToNat, Int.reduceNeg, ↓reduceIte, reduceCtorEq, Nat.reduceDiv, Nat.reduceMod, Int.reduceLE, Int.reduceLT, Int.reduceSub, Int.reduceAdd, hel]

theorem uses16_ind : ∀ (n : Nat) (l : List St), szSs l < n ∧ szSs l ≤ 1000000 → VPure Tryz.prog G 104 [.slice (l.map encS)] (.slice ((usesSs l).map ruse))
  | 0, _, h => absurd h.1 (Nat.not_lt_zero _)
  | n + 1, l, h => uses16_step n (uses16_ind n) l (by omega) h.2
theorem uses16_c (l : List St) (h : szSs l ≤ 1000000) : VPure Tryz.prog G 104 [.slice (l.map encS)] (.slice ((usesSs l).map ruse)) := uses16_ind (szSs l + 1) l ⟨by omega, h⟩
end Go.Proofs.YtaackmiajgapoaaGreatDoor.V
