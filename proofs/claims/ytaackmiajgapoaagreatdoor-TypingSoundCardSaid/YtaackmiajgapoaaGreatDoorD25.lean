/- Which statements and programs may be, by the program (syntax). -/
import Derived.Test.YtaackmiajgapoaaGreatDoorD24
set_option maxRecDepth 100000
set_option maxHeartbeats 16000000
set_option linter.unusedSimpArgs false
set_option linter.unusedVariables false
namespace Go.Proofs.YtaackmiajgapoaaGreatDoor.V
open Go
variable {G : Nat → Option (List PV)}

mutual
def rightJ : Int → St → Bool
  | lev, .mk k s e t f => decide (lev ≤ 24) && formS k s e.length t.length f.length && e.all (rightI (IntKind.i64.wrap (lev + 1))) && rightJs (IntKind.i64.wrap (lev + 1)) t && rightJs (IntKind.i64.wrap (lev + 1)) f
def rightJs : Int → List St → Bool
  | _, [] => true
  | lev, e :: r => rightJ lev e && rightJs lev r
end
theorem rightJs_all (lev : Int) : ∀ l : List St, rightJs lev l = l.all (rightJ lev)
  | [] => rfl
  | e :: r => by rw [rightJs, rightJs_all lev r]; rfl
theorem rightJ_eq (lev : Int) (s : St) : rightJ lev s = (decide (lev ≤ 24) && formS s.kind s.name s.e.length s.thn.length s.els.length && s.e.all (rightI (IntKind.i64.wrap (lev + 1))) && s.thn.all (rightJ (IntKind.i64.wrap (lev + 1))) && s.els.all (rightJ (IntKind.i64.wrap (lev + 1)))) := by
  cases s with | mk k n e t f => rw [rightJ, rightJs_all, rightJs_all]; rfl
theorem all_congr {α : Type} {P Q : α → Bool} (l : List α) (h : ∀ a ∈ l, P a = Q a) : l.all P = l.all Q := by
  induction l with
  | nil => rfl
  | cons a r ih => rw [List.all_cons, List.all_cons, h a (by simp), ih fun b hb => h b (by simp [hb])]
mutual
theorem rightJ_nat : ∀ (s : St) (lev : Nat), lev ≤ 25 → rightJ lev s = rightS lev s
  | .mk k s e t f, lev, h => by
    rw [rightJ, rightS, dec_lev]
    by_cases h2 : lev ≤ 24
    · rw [wrap_lev h, all_congr e fun a _ => rightI_nat a (lev + 1) (by omega), rightJs_nat t (lev + 1) (by omega), rightJs_nat f (lev + 1) (by omega)]
    · rw [decide_eq_false h2]; rfl
theorem rightJs_nat : ∀ (l : List St) (lev : Nat), lev ≤ 25 → rightJs lev l = rightSs lev l
  | [], _, _ => rfl
  | e :: r, lev, h => by rw [rightJs, rightSs, rightJ_nat e lev h, rightJs_nat r lev h]
end

theorem synStmts_step (hG : GOk G) (n : Nat) (IH : ∀ (l : List St) (lev : Int), szSs l < n → VPure Tryz.prog G 57 [.slice (l.map encS), .val (.int .i64 lev)] (.val (.bool (l.all (rightJ lev))))) (l : List St) (lev : Int) (hl : szSs l ≤ n) :
    VPure Tryz.prog G 57 [.slice (l.map encS), .val (.int .i64 lev)] (.val (.bool (l.all (rightJ lev)))) := by
  obtain ⟨R, hR0, hs⟩ := mkRule (P := Tryz.prog) (G := G) 57 (List St × Int) (fun x => [.slice (x.1.map encS), .val (.int .i64 x.2)]) (fun x => .val (.bool (x.1.all (rightJ x.2)))) (fun x => szSs x.1 < n)
    (by rintro ⟨a, b⟩ ⟨c, d⟩ h; simp only [List.cons.injEq, PV.slice.injEq, PV.val.injEq, Value.int.injEq, encSs_iff, true_and, and_true] at h; simp only [h]) (fun x h => IH x.1 x.2 h)
  have hR1 : ∀ tl (i : Nat) (lev : Int) sh, i < l.length → tab (R :: tl) 57 [.slice ((elm l i).thn.map encS), .val (.int .i64 lev)] sh = some (.val (.bool ((elm l i).thn.all (rightJ lev))), sh) := fun tl i lev sh h => hR0 tl ((elm l i).thn, lev) sh (Nat.lt_of_lt_of_le (szS_elm_thn l i h) hl)
  have hR2 : ∀ tl (i : Nat) (lev : Int) sh, i < l.length → tab (R :: tl) 57 [.slice ((elm l i).els.map encS), .val (.int .i64 lev)] sh = some (.val (.bool ((elm l i).els.all (rightJ lev))), sh) := fun tl i lev sh h => hR0 tl ((elm l i).els, lev) sh (Nat.lt_of_lt_of_le (szS_elm_els l i h) hl)
  clear hR0
  obtain ⟨F, hF0, hs2⟩ := mkRule (P := Tryz.prog) (G := G) 88 St (fun x => [.agg (encS x)]) (fun e => .val (.bool (formS e.kind e.name e.e.length e.thn.length e.els.length))) (fun _ => True)
    (by rintro a b h; simp only [List.cons.injEq, PV.agg.injEq, encS_iff, and_true] at h; simp only [h]) (fun x _ => stmtForm_c hG x)
  have hF : ∀ tl (e : St) sh, tab (F :: tl) 88 [.agg [.val (.int .i64 e.kind), .val (.string e.name), .slice (e.e.map encE), .slice (e.thn.map encS), .slice (e.els.map encS)]] sh = some (.val (.bool (formS e.kind e.name e.e.length e.thn.length e.els.length)), sh) := by
    intro tl e sh
    have := hF0 tl e sh trivial
    simpa only [encS_eq] using this
  clear hF0
  obtain ⟨X, hX0, hs3⟩ := mkRule (P := Tryz.prog) (G := G) 89 (Ex × Int) (fun x => [.agg (encE x.1), .val (.int .i64 x.2)]) (fun x => .val (.bool (rightI x.2 x.1))) (fun _ => True)
    (by rintro ⟨a, b⟩ ⟨c, d⟩ h; simp only [List.cons.injEq, PV.agg.injEq, PV.val.injEq, Value.int.injEq, encE_iff, true_and, and_true] at h; simp only [h]) (fun x _ => synExpr_c hG x.1 x.2)
  have hX : ∀ tl (e : Ex) (lev : Int) sh, tab (X :: tl) 89 [.agg [.val (.int .i64 e.kind), .val (.int .i64 e.op), .val (.int .u32 e.num), .val (.string e.name), .slice (e.kids.map encE)], .val (.int .i64 lev)] sh = some (.val (.bool (rightI lev e)), sh) := by
    intro tl e lev sh
    have := hX0 tl (e, lev) sh trivial
    simpa only [encE_eq] using this
  clear hX0
  refine VPure.of (.val _) fun sh => ?_
  refine VCalls_enter [] Tryz.func57 rfl (show 2 ≤ 52 by decide) ?_
  refine vCode_sound (tab_ok [F, X, R]) _ _ _ ?_
  simp only [Tryz.f57, go_sem, Nat.reduceEqDiff, Nat.reduceLT, Nat.reduceLeDiff, Nat.reduceAdd, Nat.reduceSub, Nat.reduceMul, Nat.reduceBEq, Nat.reduceBNe, Int.reduceEq, Int.reduceToNat, Int.reduceNeg, ↓reduceIte, reduceCtorEq, Nat.reduceDiv, Nat.reduceMod, Int.reduceLE, Int.reduceLT, Int.reduceSub, Int.reduceAdd]
  repeat (first | intro _ | refine And.intro (by (intros; first | omega | (simp only [Bool.or_eq_false_iff, Bool.or_eq_true, decide_eq_false_iff_not, beq_iff_eq, Bool.and_eq_true, decide_eq_true_eq, Bool.not_eq_true'] at *; omega) | simp_all)) ?_)
  refine loop_intro (VWp_for [12, 13, 14, 6, 15, 16, 17, 18, 19, 20, 21, 22, 23, 24, 25, 26, 27, 28, 29, 30, 31, 32, 33, 34, 35, 36, 37, 4, 38, 39, 40, 41, 42, 43, 44, 8, 45, 46, 47, 48, 49, 50, 51, 11] (fun i : Nat => [(11, .val (.int .i64 i))]) [6, 8] (fun _ => []) [] (fun _ => []) (fun _ => sh)
    (fun i => i ≤ l.length ∧ ∀ j, j < i → rightJ lev (elm l j) = true) (fun i => l.length - i) 0 ⟨Nat.zero_le _, fun j h => by omega⟩ (by refine ⟨rfl, rfl, rfl, .refl _ _, .refl _ _, .refl _ _, by repeat (first | trivial | rfl | refine ⟨?_, ?_⟩), by repeat (first | trivial | rfl | refine ⟨?_, ?_⟩), by repeat (first | trivial | rfl | refine ⟨?_, ?_⟩), by repeat (first | trivial | exact .inr rfl | exact .inl rfl | refine ⟨?_, ?_⟩), by repeat (first | trivial | exact .inr rfl | exact .inl rfl | refine ⟨?_, ?_⟩), by repeat (first | trivial | exact .inr rfl | exact .inl rfl | refine ⟨?_, ?_⟩), by repeat (first | trivial | exact .inr rfl | exact .inl rfl | refine ⟨?_, ?_⟩)⟩) ?_)
  rintro i ⟨hi, hne⟩
  refine vCode_sound (tab_ok [F, X, R]) _ _ _ ?_
  simp only [Tryz.f57, go_sem, Nat.reduceEqDiff, Nat.reduceLT, Nat.reduceLeDiff, Nat.reduceAdd, Nat.reduceSub, Nat.reduceMul, Nat.reduceBEq, Nat.reduceBNe, Int.reduceEq, Int.reduceToNat, Int.reduceNeg, ↓reduceIte, reduceCtorEq, Nat.reduceDiv, Nat.reduceMod, Int.reduceLE, Int.reduceLT, Int.reduceSub, Int.reduceAdd]
  repeat (first | intro _ | refine And.intro (by (intros; first | omega | (simp only [Bool.or_eq_false_iff, Bool.or_eq_true, decide_eq_false_iff_not, beq_iff_eq, Bool.and_eq_true, decide_eq_true_eq, Bool.not_eq_true'] at *; omega) | simp_all)) ?_)
  refine if_intro _ rfl trivial (fun h => ?_) (fun h => ?_)
  · simp only [decide_eq_true_eq, Int.ofNat_lt] at h
    have hw : IntKind.i64.wrap ((i : Int) + 1) = ((i + 1 : Nat) : Int) := by rw [wrap64_id (by omega) (by omega)]; rfl
    have hfin : ∀ b, b = rightJ lev (elm l i) → (b = false → l.all (rightJ lev) = false) ∧ (b = true → ∀ j, j < i + 1 → rightJ lev (elm l j) = true) := fun b hb => ⟨fun e => all_at h (by rw [← hb, e]), fun e j hj => by
      by_cases e' : j = i
      · subst e'; rw [← hb, e]
      · exact hne j (by omega)⟩
    rw [rightJ_eq] at hfin
    simp only [Tryz.f57, go_sem, Nat.reduceEqDiff, Nat.reduceLT, Nat.reduceLeDiff, Nat.reduceAdd, Nat.reduceSub, Nat.reduceMul, Nat.reduceBEq, Nat.reduceBNe, Int.reduceEq, Int.reduceToNat, Int.reduceNeg, ↓reduceIte, reduceCtorEq, Nat.reduceDiv, Nat.reduceMod, Int.reduceLE, Int.reduceLT, Int.reduceSub, Int.reduceAdd, h, hF, hR1, hR2, hs, hs2, hs3]
    repeat (first | intro _ | refine And.intro (by (intros; first | omega | (simp only [Bool.or_eq_false_iff, Bool.or_eq_true, decide_eq_false_iff_not, beq_iff_eq, Bool.and_eq_true, decide_eq_true_eq, Bool.not_eq_true'] at *; omega) | simp_all)) ?_)
    refine if_intro _ rfl trivial (fun h2 => ?_) (fun h2 => ?_)
    · simp only [Tryz.f57, go_sem, Nat.reduceEqDiff, Nat.reduceLT, Nat.reduceLeDiff, Nat.reduceAdd, Nat.reduceSub, Nat.reduceMul, Nat.reduceBEq, Nat.reduceBNe, Int.reduceEq, Int.reduceToNat, Int.reduceNeg, ↓reduceIte, reduceCtorEq, Nat.reduceDiv, Nat.reduceMod, Int.reduceLE, Int.reduceLT, Int.reduceSub, Int.reduceAdd]
      refine ((hfin _ rfl).1 ?_).symm
      revert h2
      rw [lt_notI]
      generalize decide (lev ≤ 24) = y0
      generalize formS (elm l i).kind (elm l i).name (elm l i).e.length (elm l i).thn.length (elm l i).els.length = y1
      generalize (elm l i).e.all (rightI (IntKind.i64.wrap (lev + 1))) = y2
      generalize (elm l i).thn.all (rightJ (IntKind.i64.wrap (lev + 1))) = y3
      generalize (elm l i).els.all (rightJ (IntKind.i64.wrap (lev + 1))) = y4
      revert y0 y1 y2 y3 y4
      decide
    · have hrest : ∀ b, b = (elm l i).e.all (rightI (IntKind.i64.wrap (lev + 1))) → (b = false → l.all (rightJ lev) = false) ∧ (b = true → ∀ j, j < i + 1 → rightJ lev (elm l j) = true) := by
        intro b hb
        refine hfin b ?_
        rw [hb]
        revert h2
        rw [lt_notI]
        generalize decide (lev ≤ 24) = y0
        generalize formS (elm l i).kind (elm l i).name (elm l i).e.length (elm l i).thn.length (elm l i).els.length = y1
        generalize (elm l i).e.all (rightI (IntKind.i64.wrap (lev + 1))) = y2
        generalize (elm l i).thn.all (rightJ (IntKind.i64.wrap (lev + 1))) = y3
        generalize (elm l i).els.all (rightJ (IntKind.i64.wrap (lev + 1))) = y4
        revert y0 y1 y2 y3 y4
        decide
      clear hfin h2
      simp only [Tryz.f57, go_sem, Nat.reduceEqDiff, Nat.reduceLT, Nat.reduceLeDiff, Nat.reduceAdd, Nat.reduceSub, Nat.reduceMul, Nat.reduceBEq, Nat.reduceBNe, Int.reduceEq, Int.reduceToNat, Int.reduceNeg, ↓reduceIte, reduceCtorEq, Nat.reduceDiv, Nat.reduceMod, Int.reduceLE, Int.reduceLT, Int.reduceSub, Int.reduceAdd, h]
      repeat (first | intro _ | refine And.intro (by (intros; first | omega | (simp only [Bool.or_eq_false_iff, Bool.or_eq_true, decide_eq_false_iff_not, beq_iff_eq, Bool.and_eq_true, decide_eq_true_eq, Bool.not_eq_true'] at *; omega) | simp_all)) ?_)
      refine loop_intro (VWp_for [42, 43, 44, 8, 45, 46, 47, 48, 49, 4, 50, 41] (fun k : Nat => [(41, .val (.int .i64 k))]) [8] (fun _ => []) [] (fun _ => []) (fun _ => sh)
        (fun k => k ≤ (elm l i).e.length ∧ ∀ j, j < k → rightI (IntKind.i64.wrap (lev + 1)) (elm (elm l i).e j) = true) (fun k => (elm l i).e.length - k) 0 ⟨Nat.zero_le _, fun j h => by omega⟩ (by refine ⟨rfl, rfl, rfl, .refl _ _, .refl _ _, .refl _ _, by repeat (first | trivial | rfl | refine ⟨?_, ?_⟩), by repeat (first | trivial | rfl | refine ⟨?_, ?_⟩), by repeat (first | trivial | rfl | refine ⟨?_, ?_⟩), by repeat (first | trivial | exact .inr rfl | exact .inl rfl | refine ⟨?_, ?_⟩), by repeat (first | trivial | exact .inr rfl | exact .inl rfl | refine ⟨?_, ?_⟩), by repeat (first | trivial | exact .inr rfl | exact .inl rfl | refine ⟨?_, ?_⟩), by repeat (first | trivial | exact .inr rfl | exact .inl rfl | refine ⟨?_, ?_⟩)⟩) ?_)
      rintro k ⟨hk, hke⟩
      refine vCode_sound (tab_ok [F, X, R]) _ _ _ ?_
      simp only [Tryz.f57, go_sem, Nat.reduceEqDiff, Nat.reduceLT, Nat.reduceLeDiff, Nat.reduceAdd, Nat.reduceSub, Nat.reduceMul, Nat.reduceBEq, Nat.reduceBNe, Int.reduceEq, Int.reduceToNat, Int.reduceNeg, ↓reduceIte, reduceCtorEq, Nat.reduceDiv, Nat.reduceMod, Int.reduceLE, Int.reduceLT, Int.reduceSub, Int.reduceAdd]
      repeat (first | intro _ | refine And.intro (by (intros; first | omega | (simp only [Bool.or_eq_false_iff, Bool.or_eq_true, decide_eq_false_iff_not, beq_iff_eq, Bool.and_eq_true, decide_eq_true_eq, Bool.not_eq_true'] at *; omega) | simp_all)) ?_)
      refine if_intro _ rfl trivial (fun h4 => ?_) (fun h4 => ?_)
      · simp only [decide_eq_true_eq, Int.ofNat_lt] at h4
        have hwk : IntKind.i64.wrap ((k : Int) + 1) = ((k + 1 : Nat) : Int) := by rw [wrap64_id (by omega) (by omega)]; rfl
        simp only [Tryz.f57, go_sem, Nat.reduceEqDiff, Nat.reduceLT, Nat.reduceLeDiff, Nat.reduceAdd, Nat.reduceSub, Nat.reduceMul, Nat.reduceBEq, Nat.reduceBNe, Int.reduceEq, Int.reduceToNat, Int.reduceNeg, ↓reduceIte, reduceCtorEq, Nat.reduceDiv, Nat.reduceMod, Int.reduceLE, Int.reduceLT, Int.reduceSub, Int.reduceAdd, h4, hX, hs2]
        repeat (first | intro _ | refine And.intro (by (intros; first | omega | (simp only [Bool.or_eq_false_iff, Bool.or_eq_true, decide_eq_false_iff_not, beq_iff_eq, Bool.and_eq_true, decide_eq_true_eq, Bool.not_eq_true'] at *; omega) | simp_all)) ?_)
        refine if_intro _ rfl trivial (fun h5 => ?_) (fun h5 => ?_)
        · simp only [Tryz.f57, go_sem, Nat.reduceEqDiff, Nat.reduceLT, Nat.reduceLeDiff, Nat.reduceAdd, Nat.reduceSub, Nat.reduceMul, Nat.reduceBEq, Nat.reduceBNe, Int.reduceEq, Int.reduceToNat, Int.reduceNeg, ↓reduceIte, reduceCtorEq, Nat.reduceDiv, Nat.reduceMod, Int.reduceLE, Int.reduceLT, Int.reduceSub, Int.reduceAdd]
          exact ((hrest _ rfl).1 (all_at h4 (by simpa using h5))).symm
        · simp only [Tryz.f57, go_sem, Nat.reduceEqDiff, Nat.reduceLT, Nat.reduceLeDiff, Nat.reduceAdd, Nat.reduceSub, Nat.reduceMul, Nat.reduceBEq, Nat.reduceBNe, Int.reduceEq, Int.reduceToNat, Int.reduceNeg, ↓reduceIte, reduceCtorEq, Nat.reduceDiv, Nat.reduceMod, Int.reduceLE, Int.reduceLT, Int.reduceSub, Int.reduceAdd, hwk]
          refine ⟨k + 1, ⟨h4, fun j hj => ?_⟩, by omega, ?_⟩
          · by_cases e' : j = k
            · subst e'; simpa using h5
            · exact hke j (by omega)
          · refine ⟨rfl, rfl, rfl, by repeat (first | exact AgreeOff.refl _ _ | refine AgreeOff.upd rfl ?_ | refine AgreeOff.over rfl ?_), by repeat (first | exact AgreeOff.refl _ _ | refine AgreeOff.upd rfl ?_ | refine AgreeOff.over rfl ?_), by repeat (first | exact AgreeOff.refl _ _ | refine AgreeOff.upd rfl ?_ | refine AgreeOff.over rfl ?_), ?_, by repeat (first | trivial | exact .inr rfl | exact .inl rfl | refine ⟨?_, ?_⟩), by repeat (first | trivial | exact .inr rfl | exact .inl rfl | refine ⟨?_, ?_⟩), by repeat (first | trivial | exact .inr rfl | exact .inl rfl | refine ⟨?_, ?_⟩), by repeat (first | trivial | exact .inr rfl | exact .inl rfl | refine ⟨?_, ?_⟩), by repeat (first | trivial | exact .inr rfl | exact .inl rfl | refine ⟨?_, ?_⟩), by repeat (first | trivial | exact .inr rfl | exact .inl rfl | refine ⟨?_, ?_⟩)⟩
            exact ⟨rfl, trivial⟩
      · simp only [decide_eq_false_iff_not, Int.ofNat_lt] at h4
        simp only [Tryz.f57, go_sem, Nat.reduceEqDiff, Nat.reduceLT, Nat.reduceLeDiff, Nat.reduceAdd, Nat.reduceSub, Nat.reduceMul, Nat.reduceBEq, Nat.reduceBNe, Int.reduceEq, Int.reduceToNat, Int.reduceNeg, ↓reduceIte, reduceCtorEq, Nat.reduceDiv, Nat.reduceMod, Int.reduceLE, Int.reduceLT, Int.reduceSub, Int.reduceAdd, hw]
        refine ⟨i + 1, ⟨h, (hrest _ rfl).2 (all_of fun j hj => hke j (by omega))⟩, by omega, ?_⟩
        refine ⟨rfl, rfl, rfl, by repeat (first | exact AgreeOff.refl _ _ | refine AgreeOff.upd rfl ?_ | refine AgreeOff.over rfl ?_), by repeat (first | exact AgreeOff.refl _ _ | refine AgreeOff.upd rfl ?_ | refine AgreeOff.over rfl ?_), by repeat (first | exact AgreeOff.refl _ _ | refine AgreeOff.upd rfl ?_ | refine AgreeOff.over rfl ?_), ?_, by repeat (first | trivial | exact .inr rfl | exact .inl rfl | refine ⟨?_, ?_⟩), by repeat (first | trivial | exact .inr rfl | exact .inl rfl | refine ⟨?_, ?_⟩), by repeat (first | trivial | exact .inr rfl | exact .inl rfl | refine ⟨?_, ?_⟩), by repeat (first | trivial | exact .inr rfl | exact .inl rfl | refine ⟨?_, ?_⟩), by repeat (first | trivial | exact .inr rfl | exact .inl rfl | refine ⟨?_, ?_⟩), by repeat (first | trivial | exact .inr rfl | exact .inl rfl | refine ⟨?_, ?_⟩)⟩
        exact ⟨rfl, trivial⟩
  · simp only [decide_eq_false_iff_not, Int.ofNat_lt] at h
    simp only [Tryz.f57, go_sem, Nat.reduceEqDiff, Nat.reduceLT, Nat.reduceLeDiff, Nat.reduceAdd, Nat.reduceSub, Nat.reduceMul, Nat.reduceBEq, Nat.reduceBNe, Int.reduceEq, Int.reduceToNat, Int.reduceNeg, ↓reduceIte, reduceCtorEq, Nat.reduceDiv, Nat.reduceMod, Int.reduceLE, Int.reduceLT, Int.reduceSub, Int.reduceAdd]
    exact (all_of fun j hj => hne j (by omega)).symm
theorem synStmts_ind (hG : GOk G) : ∀ (n : Nat) (l : List St) (lev : Int), szSs l < n → VPure Tryz.prog G 57 [.slice (l.map encS), .val (.int .i64 lev)] (.val (.bool (l.all (rightJ lev))))
  | 0, _, _, h => by omega
  | n + 1, l, lev, h => synStmts_step hG n (fun l lev h => synStmts_ind hG n l lev h) l lev (by omega)
theorem synStmts_c (hG : GOk G) (l : List St) : VPure Tryz.prog G 57 [.slice (l.map encS), .val (.int .i64 1)] (.val (.bool (l.all (rightS 1)))) := by
  have h := synStmts_ind hG (szSs l + 1) l ((1 : Nat) : Int) (by omega)
  rw [all_congr l fun a _ => rightJ_nat a 1 (by omega)] at h
  exact h

theorem synRight_c (hG : GOk G) (p : Pg) : VPure Tryz.prog G 31 [.agg (encP p)] (.val (.bool (rightP p))) := by
  obtain ⟨N, hN0, hs1⟩ := mkRule (P := Tryz.prog) (G := G) 56 ByteArray (fun x => [.val (.string x)]) (fun x => .val (.bool (nameB x))) (fun _ => True)
    (by rintro a b h; simp only [List.cons.injEq, PV.val.injEq, Value.string.injEq, and_true] at h; simp only [h]) (fun x _ => name_c hG x)
  obtain ⟨M, hM0, hs2⟩ := mkRule (P := Tryz.prog) (G := G) 55 (List ByteArray) (fun x => [.slice (encT x)]) (fun x => .val (.bool (x.all nameB))) (fun _ => True)
    (by rintro a b h; simp only [List.cons.injEq, PV.slice.injEq, encT_iff, and_true] at h; simp only [h]) (fun x _ => names2_c hG x)
  obtain ⟨S, hS0, hs3⟩ := mkRule (P := Tryz.prog) (G := G) 57 (List St) (fun x => [.slice (x.map encS), .val (.int .i64 1)]) (fun x => .val (.bool (x.all (rightS 1)))) (fun _ => True)
    (by rintro a b h; simp only [List.cons.injEq, PV.slice.injEq, encSs_iff, true_and, and_true] at h; simp only [h]) (fun x _ => synStmts_c hG x)
  have hN : ∀ tl x sh, tab (N :: tl) 56 [.val (.string x)] sh = some (.val (.bool (nameB x)), sh) := fun tl x sh => hN0 tl x sh trivial
  have hM : ∀ tl x sh, tab (M :: tl) 55 [.slice (encT x)] sh = some (.val (.bool (x.all nameB)), sh) := fun tl x sh => hM0 tl x sh trivial
  have hS : ∀ tl (x : List St) sh, tab (S :: tl) 57 [.slice (x.map encS), .val (.int .i64 1)] sh = some (.val (.bool (x.all (rightS 1))), sh) := fun tl x sh => hS0 tl x sh trivial
  clear hN0 hM0 hS0
  refine VPure.of (.val _) fun sh => ?_
  refine VCalls_enter [] Tryz.func31 rfl (show 1 ≤ 81 by decide) ?_
  refine vCode_sound (tab_ok [N, M, S]) _ _ _ ?_
  simp only [encP]
  simp only [Tryz.f31, go_sem, Nat.reduceEqDiff, Nat.reduceLT, Nat.reduceLeDiff, Nat.reduceAdd, Nat.reduceSub, Nat.reduceMul, Nat.reduceBEq, Nat.reduceBNe, Int.reduceEq, Int.reduceToNat, Int.reduceNeg, ↓reduceIte, reduceCtorEq, Nat.reduceDiv, Nat.reduceMod, Int.reduceLE, Int.reduceLT, Int.reduceSub, Int.reduceAdd, hM, hs1]
  repeat (first | intro _ | refine And.intro (by (intros; first | omega | (simp only [Bool.or_eq_false_iff, Bool.or_eq_true, decide_eq_false_iff_not, beq_iff_eq, Bool.and_eq_true, decide_eq_true_eq, Bool.not_eq_true'] at *; omega) | simp_all)) ?_)
  refine if_intro _ rfl trivial (fun h0 => ?_) (fun h0 => ?_)
  · simp only [Tryz.f31, go_sem, Nat.reduceEqDiff, Nat.reduceLT, Nat.reduceLeDiff, Nat.reduceAdd, Nat.reduceSub, Nat.reduceMul, Nat.reduceBEq, Nat.reduceBNe, Int.reduceEq, Int.reduceToNat, Int.reduceNeg, ↓reduceIte, reduceCtorEq, Nat.reduceDiv, Nat.reduceMod, Int.reduceLE, Int.reduceLT, Int.reduceSub, Int.reduceAdd]
    unfold rightP
    simp only [Bool.or_eq_true, decide_eq_true_eq, Bool.not_eq_true'] at h0
    rcases h0 with (h0 | h0) | h0
    · rw [h0]; simp
    · rw [decide_eq_false (show ¬ 1 ≤ p.funcs.length by omega)]; simp
    · rw [decide_eq_false (show ¬ p.funcs.length ≤ 64 by omega)]; simp
  simp only [Tryz.f31, go_sem, Nat.reduceEqDiff, Nat.reduceLT, Nat.reduceLeDiff, Nat.reduceAdd, Nat.reduceSub, Nat.reduceMul, Nat.reduceBEq, Nat.reduceBNe, Int.reduceEq, Int.reduceToNat, Int.reduceNeg, ↓reduceIte, reduceCtorEq, Nat.reduceDiv, Nat.reduceMod, Int.reduceLE, Int.reduceLT, Int.reduceSub, Int.reduceAdd]
  repeat (first | intro _ | refine And.intro (by (intros; first | omega | (simp only [Bool.or_eq_false_iff, Bool.or_eq_true, decide_eq_false_iff_not, beq_iff_eq, Bool.and_eq_true, decide_eq_true_eq, Bool.not_eq_true'] at *; omega) | simp_all)) ?_)
  simp only [Bool.or_eq_false_iff, decide_eq_false_iff_not, Bool.not_eq_false'] at h0
  refine loop_intro (VWp_for [27, 28, 29, 4, 30, 31, 32, 33, 34, 35, 36, 37, 38, 39, 40, 41, 42, 43, 2, 44, 26] (fun i : Nat => [(26, .val (.int .i64 i))]) [4] (fun _ => []) [] (fun _ => []) (fun _ => sh)
    (fun i => i ≤ p.arrays.length ∧ ∀ j, j < i → arrOk (elm p.arrays j) = true) (fun i => p.arrays.length - i) 0 ⟨Nat.zero_le _, fun j h => by omega⟩ (by refine ⟨rfl, rfl, rfl, .refl _ _, .refl _ _, .refl _ _, by repeat (first | trivial | rfl | refine ⟨?_, ?_⟩), by repeat (first | trivial | rfl | refine ⟨?_, ?_⟩), by repeat (first | trivial | rfl | refine ⟨?_, ?_⟩), by repeat (first | trivial | exact .inr rfl | exact .inl rfl | refine ⟨?_, ?_⟩), by repeat (first | trivial | exact .inr rfl | exact .inl rfl | refine ⟨?_, ?_⟩), by repeat (first | trivial | exact .inr rfl | exact .inl rfl | refine ⟨?_, ?_⟩), by repeat (first | trivial | exact .inr rfl | exact .inl rfl | refine ⟨?_, ?_⟩)⟩) ?_)
  rintro i ⟨hi, hne⟩
  refine vCode_sound (tab_ok [N, M, S]) _ _ _ ?_
  simp only [Tryz.f31, go_sem, Nat.reduceEqDiff, Nat.reduceLT, Nat.reduceLeDiff, Nat.reduceAdd, Nat.reduceSub, Nat.reduceMul, Nat.reduceBEq, Nat.reduceBNe, Int.reduceEq, Int.reduceToNat, Int.reduceNeg, ↓reduceIte, reduceCtorEq, Nat.reduceDiv, Nat.reduceMod, Int.reduceLE, Int.reduceLT, Int.reduceSub, Int.reduceAdd]
  repeat (first | intro _ | refine And.intro (by (intros; first | omega | (simp only [Bool.or_eq_false_iff, Bool.or_eq_true, decide_eq_false_iff_not, beq_iff_eq, Bool.and_eq_true, decide_eq_true_eq, Bool.not_eq_true'] at *; omega) | simp_all)) ?_)
  refine if_intro _ rfl trivial (fun h => ?_) (fun h => ?_)
  · simp only [decide_eq_true_eq, Int.ofNat_lt] at h
    have hfin : ∀ b, b = arrOk (elm p.arrays i) → (b = false → p.arrays.all arrOk = false) ∧ (b = true → ∀ j, j < i + 1 → arrOk (elm p.arrays j) = true) := fun b hb => ⟨fun e => all_at h (by rw [← hb, e]), fun e j hj => by
      by_cases e' : j = i
      · subst e'; rw [← hb, e]
      · exact hne j (by omega)⟩
    have hw : IntKind.i64.wrap ((i : Int) + 1) = ((i + 1 : Nat) : Int) := by rw [wrap64_id (by omega) (by omega)]; rfl
    simp only [Tryz.f31, go_sem, Nat.reduceEqDiff, Nat.reduceLT, Nat.reduceLeDiff, Nat.reduceAdd, Nat.reduceSub, Nat.reduceMul, Nat.reduceBEq, Nat.reduceBNe, Int.reduceEq, Int.reduceToNat, Int.reduceNeg, ↓reduceIte, reduceCtorEq, Nat.reduceDiv, Nat.reduceMod, Int.reduceLE, Int.reduceLT, Int.reduceSub, Int.reduceAdd, h, hN]
    repeat (first | intro _ | refine And.intro (by (intros; first | omega | (simp only [Bool.or_eq_false_iff, Bool.or_eq_true, decide_eq_false_iff_not, beq_iff_eq, Bool.and_eq_true, decide_eq_true_eq, Bool.not_eq_true'] at *; omega) | simp_all)) ?_)
    refine if_intro _ rfl trivial (fun h2 => ?_) (fun h2 => ?_)
    · simp only [Tryz.f31, go_sem, Nat.reduceEqDiff, Nat.reduceLT, Nat.reduceLeDiff, Nat.reduceAdd, Nat.reduceSub, Nat.reduceMul, Nat.reduceBEq, Nat.reduceBNe, Int.reduceEq, Int.reduceToNat, Int.reduceNeg, ↓reduceIte, reduceCtorEq, Nat.reduceDiv, Nat.reduceMod, Int.reduceLE, Int.reduceLT, Int.reduceSub, Int.reduceAdd]
      have hf : arrOk (elm p.arrays i) = false := by
        unfold arrOk
        simp only [Bool.or_eq_true, decide_eq_true_eq, Bool.not_eq_true'] at h2
        rcases h2 with (h2 | h2) | h2
        · rw [h2]; simp
        · rw [decide_eq_false (show ¬ 1 ≤ (elm p.arrays i).size by omega)]; simp
        · rw [decide_eq_false (show ¬ (elm p.arrays i).size ≤ 4096 by omega)]; simp
      unfold rightP
      rw [(hfin _ rfl).1 hf]; simp
    · simp only [Tryz.f31, go_sem, Nat.reduceEqDiff, Nat.reduceLT, Nat.reduceLeDiff, Nat.reduceAdd, Nat.reduceSub, Nat.reduceMul, Nat.reduceBEq, Nat.reduceBNe, Int.reduceEq, Int.reduceToNat, Int.reduceNeg, ↓reduceIte, reduceCtorEq, Nat.reduceDiv, Nat.reduceMod, Int.reduceLE, Int.reduceLT, Int.reduceSub, Int.reduceAdd, hw]
      have hf : arrOk (elm p.arrays i) = true := by
        unfold arrOk
        simp only [Bool.or_eq_false_iff, decide_eq_false_iff_not, Bool.not_eq_false'] at h2
        rw [h2.1.1, decide_eq_true (show 1 ≤ (elm p.arrays i).size by omega), decide_eq_true (show (elm p.arrays i).size ≤ 4096 by omega)]; rfl
      refine ⟨i + 1, ⟨h, (hfin _ rfl).2 hf⟩, by omega, ?_⟩
      refine ⟨rfl, rfl, rfl, by repeat (first | exact AgreeOff.refl _ _ | refine AgreeOff.upd rfl ?_ | refine AgreeOff.over rfl ?_), by repeat (first | exact AgreeOff.refl _ _ | refine AgreeOff.upd rfl ?_ | refine AgreeOff.over rfl ?_), by repeat (first | exact AgreeOff.refl _ _ | refine AgreeOff.upd rfl ?_ | refine AgreeOff.over rfl ?_), ?_, by repeat (first | trivial | exact .inr rfl | exact .inl rfl | refine ⟨?_, ?_⟩), by repeat (first | trivial | exact .inr rfl | exact .inl rfl | refine ⟨?_, ?_⟩), by repeat (first | trivial | exact .inr rfl | exact .inl rfl | refine ⟨?_, ?_⟩), by repeat (first | trivial | exact .inr rfl | exact .inl rfl | refine ⟨?_, ?_⟩), by repeat (first | trivial | exact .inr rfl | exact .inl rfl | refine ⟨?_, ?_⟩), by repeat (first | trivial | exact .inr rfl | exact .inl rfl | refine ⟨?_, ?_⟩)⟩
      exact ⟨rfl, trivial⟩
  simp only [decide_eq_false_iff_not, Int.ofNat_lt] at h
  have harr : p.arrays.all arrOk = true := all_of fun j hj => hne j (by omega)
  clear hne
  simp only [Tryz.f31, go_sem, Nat.reduceEqDiff, Nat.reduceLT, Nat.reduceLeDiff, Nat.reduceAdd, Nat.reduceSub, Nat.reduceMul, Nat.reduceBEq, Nat.reduceBNe, Int.reduceEq, Int.reduceToNat, Int.reduceNeg, ↓reduceIte, reduceCtorEq, Nat.reduceDiv, Nat.reduceMod, Int.reduceLE, Int.reduceLT, Int.reduceSub, Int.reduceAdd]
  repeat (first | intro _ | refine And.intro (by (intros; first | omega | (simp only [Bool.or_eq_false_iff, Bool.or_eq_true, decide_eq_false_iff_not, beq_iff_eq, Bool.and_eq_true, decide_eq_true_eq, Bool.not_eq_true'] at *; omega) | simp_all)) ?_)
  refine loop_intro (VWp_for [49, 50, 51, 6, 52, 53, 54, 55, 56, 57, 58, 59, 60, 61, 62, 63, 64, 65, 66, 67, 68, 69, 70, 71, 72, 73, 74, 75, 76, 77, 78, 79, 2, 80, 48] (fun i : Nat => [(48, .val (.int .i64 i))]) [6] (fun _ => []) [] (fun _ => []) (fun _ => sh)
    (fun i => i ≤ p.funcs.length ∧ ∀ j, j < i → fnOk (elm p.funcs j) = true) (fun i => p.funcs.length - i) 0 ⟨Nat.zero_le _, fun j h => by omega⟩ (by refine ⟨rfl, rfl, rfl, .refl _ _, .refl _ _, .refl _ _, by repeat (first | trivial | rfl | refine ⟨?_, ?_⟩), by repeat (first | trivial | rfl | refine ⟨?_, ?_⟩), by repeat (first | trivial | rfl | refine ⟨?_, ?_⟩), by repeat (first | trivial | exact .inr rfl | exact .inl rfl | refine ⟨?_, ?_⟩), by repeat (first | trivial | exact .inr rfl | exact .inl rfl | refine ⟨?_, ?_⟩), by repeat (first | trivial | exact .inr rfl | exact .inl rfl | refine ⟨?_, ?_⟩), by repeat (first | trivial | exact .inr rfl | exact .inl rfl | refine ⟨?_, ?_⟩)⟩) ?_)
  rintro i ⟨hi, hne⟩
  refine vCode_sound (tab_ok [N, M, S]) _ _ _ ?_
  simp only [Tryz.f31, go_sem, Nat.reduceEqDiff, Nat.reduceLT, Nat.reduceLeDiff, Nat.reduceAdd, Nat.reduceSub, Nat.reduceMul, Nat.reduceBEq, Nat.reduceBNe, Int.reduceEq, Int.reduceToNat, Int.reduceNeg, ↓reduceIte, reduceCtorEq, Nat.reduceDiv, Nat.reduceMod, Int.reduceLE, Int.reduceLT, Int.reduceSub, Int.reduceAdd]
  repeat (first | intro _ | refine And.intro (by (intros; first | omega | (simp only [Bool.or_eq_false_iff, Bool.or_eq_true, decide_eq_false_iff_not, beq_iff_eq, Bool.and_eq_true, decide_eq_true_eq, Bool.not_eq_true'] at *; omega) | simp_all)) ?_)
  refine if_intro _ rfl trivial (fun h => ?_) (fun h => ?_)
  · simp only [decide_eq_true_eq, Int.ofNat_lt] at h
    have hfin : ∀ b, b = fnOk (elm p.funcs i) → (b = false → p.funcs.all fnOk = false) ∧ (b = true → ∀ j, j < i + 1 → fnOk (elm p.funcs j) = true) := fun b hb => ⟨fun e => all_at h (by rw [← hb, e]), fun e j hj => by
      by_cases e' : j = i
      · subst e'; rw [← hb, e]
      · exact hne j (by omega)⟩
    have hw : IntKind.i64.wrap ((i : Int) + 1) = ((i + 1 : Nat) : Int) := by rw [wrap64_id (by omega) (by omega)]; rfl
    simp only [Tryz.f31, go_sem, Nat.reduceEqDiff, Nat.reduceLT, Nat.reduceLeDiff, Nat.reduceAdd, Nat.reduceSub, Nat.reduceMul, Nat.reduceBEq, Nat.reduceBNe, Int.reduceEq, Int.reduceToNat, Int.reduceNeg, ↓reduceIte, reduceCtorEq, Nat.reduceDiv, Nat.reduceMod, Int.reduceLE, Int.reduceLT, Int.reduceSub, Int.reduceAdd, h, hN, hM, hS, hs1, hs2]
    repeat (first | intro _ | refine And.intro (by (intros; first | omega | (simp only [Bool.or_eq_false_iff, Bool.or_eq_true, decide_eq_false_iff_not, beq_iff_eq, Bool.and_eq_true, decide_eq_true_eq, Bool.not_eq_true'] at *; omega) | simp_all)) ?_)
    refine if_intro _ rfl trivial (fun h2 => ?_) (fun h2 => ?_)
    · simp only [Tryz.f31, go_sem, Nat.reduceEqDiff, Nat.reduceLT, Nat.reduceLeDiff, Nat.reduceAdd, Nat.reduceSub, Nat.reduceMul, Nat.reduceBEq, Nat.reduceBNe, Int.reduceEq, Int.reduceToNat, Int.reduceNeg, ↓reduceIte, reduceCtorEq, Nat.reduceDiv, Nat.reduceMod, Int.reduceLE, Int.reduceLT, Int.reduceSub, Int.reduceAdd]
      have hf : fnOk (elm p.funcs i) = false := by
        unfold fnOk
        simp only [Bool.or_eq_true, decide_eq_true_eq, Bool.not_eq_true'] at h2
        rcases h2 with (((h2 | h2) | h2) | h2) | h2
        · rw [h2]; simp
        · rw [h2]; simp
        · rw [h2]; simp
        · rw [decide_eq_false (show ¬ (elm p.funcs i).params.length ≤ 6 by omega)]; simp
        · rw [h2]; simp
      unfold rightP
      rw [(hfin _ rfl).1 hf]; simp
    · simp only [Tryz.f31, go_sem, Nat.reduceEqDiff, Nat.reduceLT, Nat.reduceLeDiff, Nat.reduceAdd, Nat.reduceSub, Nat.reduceMul, Nat.reduceBEq, Nat.reduceBNe, Int.reduceEq, Int.reduceToNat, Int.reduceNeg, ↓reduceIte, reduceCtorEq, Nat.reduceDiv, Nat.reduceMod, Int.reduceLE, Int.reduceLT, Int.reduceSub, Int.reduceAdd, hw]
      have hf : fnOk (elm p.funcs i) = true := by
        unfold fnOk
        simp only [Bool.or_eq_false_iff, decide_eq_false_iff_not, Bool.not_eq_false'] at h2
        rw [h2.1.1.1.1, h2.1.1.1.2, h2.1.1.2, h2.2, decide_eq_true (show (elm p.funcs i).params.length ≤ 6 by omega)]; rfl
      refine ⟨i + 1, ⟨h, (hfin _ rfl).2 hf⟩, by omega, ?_⟩
      refine ⟨rfl, rfl, rfl, by repeat (first | exact AgreeOff.refl _ _ | refine AgreeOff.upd rfl ?_ | refine AgreeOff.over rfl ?_), by repeat (first | exact AgreeOff.refl _ _ | refine AgreeOff.upd rfl ?_ | refine AgreeOff.over rfl ?_), by repeat (first | exact AgreeOff.refl _ _ | refine AgreeOff.upd rfl ?_ | refine AgreeOff.over rfl ?_), ?_, by repeat (first | trivial | exact .inr rfl | exact .inl rfl | refine ⟨?_, ?_⟩), by repeat (first | trivial | exact .inr rfl | exact .inl rfl | refine ⟨?_, ?_⟩), by repeat (first | trivial | exact .inr rfl | exact .inl rfl | refine ⟨?_, ?_⟩), by repeat (first | trivial | exact .inr rfl | exact .inl rfl | refine ⟨?_, ?_⟩), by repeat (first | trivial | exact .inr rfl | exact .inl rfl | refine ⟨?_, ?_⟩), by repeat (first | trivial | exact .inr rfl | exact .inl rfl | refine ⟨?_, ?_⟩)⟩
      exact ⟨rfl, trivial⟩
  simp only [decide_eq_false_iff_not, Int.ofNat_lt] at h
  simp only [Tryz.f31, go_sem, Nat.reduceEqDiff, Nat.reduceLT, Nat.reduceLeDiff, Nat.reduceAdd, Nat.reduceSub, Nat.reduceMul, Nat.reduceBEq, Nat.reduceBNe, Int.reduceEq, Int.reduceToNat, Int.reduceNeg, ↓reduceIte, reduceCtorEq, Nat.reduceDiv, Nat.reduceMod, Int.reduceLE, Int.reduceLT, Int.reduceSub, Int.reduceAdd]
  unfold rightP
  rw [h0.1.1, harr, all_of fun j hj => hne j (by omega), decide_eq_true (show 1 ≤ p.funcs.length by omega), decide_eq_true (show p.funcs.length ≤ 64 by omega)]
  rfl
end Go.Proofs.YtaackmiajgapoaaGreatDoor.V
