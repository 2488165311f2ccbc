/- Known functions and fits of statements, by the document (seedcornref17). -/
import Derived.Test.YtaackmiajgapoaaGreatDoorD17
set_option maxHeartbeats 16000000
set_option maxRecDepth 100000
set_option linter.unusedSimpArgs false
set_option linter.unusedVariables false
namespace Go.Proofs.YtaackmiajgapoaaGreatDoor.V
open Go
variable {G : Nat → Option (List PV)}

mutual
def knS (p : Pg) : St → Bool
  | .mk k s e t f => !(decide (k = 6) && decide (fnIdx p.funcs s < 0)) && e.all (knE p) && knSs p t && knSs p f
def knSs (p : Pg) : List St → Bool
  | [] => true
  | e :: r => knS p e && knSs p r
end
theorem knSs_all (p : Pg) : ∀ l : List St, knSs p l = l.all (knS p)
  | [] => rfl
  | e :: r => by rw [knSs, knSs_all p r]; rfl
theorem knS_eq (p : Pg) (s : St) : knS p s = (!(decide (s.kind = 6) && decide (fnIdx p.funcs s.name < 0)) && s.e.all (knE p) && s.thn.all (knS p) && s.els.all (knS p)) := by
  cases s with | mk k s e t f => rw [knS, knSs_all, knSs_all]; rfl

/-- What a statement asks beside its expressions' types. -/
def fitK (p : Pg) (w : Bool) (k : Int) (s : ByteArray) (n : Nat) : Bool :=
  if k = 6 then decide (0 ≤ fnIdx p.funcs s) && !(elm p.funcs (fnIdx p.funcs s).toNat).word else if k = 7 then decide (n = 0) || w else true
def wantE (k : Int) : Int := if k = 4 ∨ k = 5 then 2 else 1
mutual
def fitS (p : Pg) (w : Bool) : St → Bool
  | .mk k s e t f => (e.all fun e => decide (tyE p e = wantE k)) && fitK p w k s e.length && fitSs p w t && fitSs p w f
def fitSs (p : Pg) (w : Bool) : List St → Bool
  | [] => true
  | e :: r => fitS p w e && fitSs p w r
end
theorem fitSs_all (p : Pg) (w : Bool) : ∀ l : List St, fitSs p w l = l.all (fitS p w)
  | [] => rfl
  | e :: r => by rw [fitSs, fitSs_all p w r]; rfl
theorem fitS_eq (p : Pg) (w : Bool) (s : St) : fitS p w s = ((s.e.all fun e => decide (tyE p e = wantE s.kind)) && fitK p w s.kind s.name s.e.length && s.thn.all (fitS p w) && s.els.all (fitS p w)) := by
  cases s with | mk k s e t f => rw [fitS, fitSs_all, fitSs_all]; rfl

theorem knownS_step (p : Pg) (n : Nat) (IH : ∀ l : List St, szSs l < n → VPure Tryz.prog G 66 [.agg (encP p), .slice (l.map encS)] (.val (.bool (l.all (knS p))))) (l : List St) (hl : szSs l ≤ n) :
    VPure Tryz.prog G 66 [.agg (encP p), .slice (l.map encS)] (.val (.bool (l.all (knS p)))) := by
  obtain ⟨R, hR0, hs⟩ := mkRule (P := Tryz.prog) (G := G) 66 (List St) (fun x => [.agg (encP p), .slice (x.map encS)]) (fun x => .val (.bool (x.all (knS p)))) (fun x => szSs x < n)
    (by rintro a b h; simp only [List.cons.injEq, PV.slice.injEq, encSs_iff, true_and, and_true] at h; simp only [h]) (fun x h => IH x h)
  have hR1 : ∀ tl (i : Nat) sh, i < l.length → tab (R :: tl) 66 [.agg [.slice (encT p.vars), .slice (p.arrays.map encA), .slice (p.funcs.map encF)], .slice ((elm l i).thn.map encS)] sh = some (.val (.bool ((elm l i).thn.all (knS p))), sh) := by
    intro tl i sh h
    have := hR0 tl (elm l i).thn sh (Nat.lt_of_lt_of_le (szS_elm_thn l i h) hl)
    simpa only [encP] using this
  have hR2 : ∀ tl (i : Nat) sh, i < l.length → tab (R :: tl) 66 [.agg [.slice (encT p.vars), .slice (p.arrays.map encA), .slice (p.funcs.map encF)], .slice ((elm l i).els.map encS)] sh = some (.val (.bool ((elm l i).els.all (knS p))), sh) := by
    intro tl i sh h
    have := hR0 tl (elm l i).els sh (Nat.lt_of_lt_of_le (szS_elm_els l i h) hl)
    simpa only [encP] using this
  clear hR0
  refine VPure.of (.val _) fun sh => ?_
  refine VCalls_enter [] Tryz.func66 rfl (show 2 ≤ 58 by decide) ?_
  refine vCode_sound (tab_ok [r65, r36, R]) _ _ _ ?_
  simp only [encP]
  simp only [Tryz.f66, go_sem, Nat.reduceEqDiff, Nat.reduceLT, Nat.reduceLeDiff, Nat.reduceAdd, Nat.reduceSub, Nat.reduceMul, Nat.reduceBEq, Nat.reduceBNe, Int.reduceEq, Int.reduceToNat, Int.reduceNeg, ↓reduceIte, reduceCtorEq, Nat.reduceDiv, Nat.reduceMod, Int.reduceLE, Int.reduceLT, Int.reduceSub, Int.reduceAdd]
  refine loop_intro (VWp_for [6, 7, 8, 9, 12, 13, 14, 15, 16, 17, 18, 19, 20, 21, 22, 23, 24, 25, 26, 27, 28, 29, 30, 31, 32, 33, 34, 35, 36, 37, 38, 39, 40, 41, 42, 43, 44, 45, 46, 47, 48, 49, 50, 51, 52, 53, 54, 55, 56, 57, 4, 10, 11, 5] (fun i : Nat => [(5, .val (.int .i64 i))]) [] (fun _ => []) [] (fun _ => []) (fun _ => sh)
    (fun i => i ≤ l.length ∧ ∀ j, j < i → knS p (elm l j) = true) (fun i => l.length - i) 0 ⟨Nat.zero_le _, fun j h => by omega⟩ (by refine ⟨rfl, rfl, rfl, .refl _ _, .refl _ _, .refl _ _, by repeat (first | trivial | rfl | refine ⟨?_, ?_⟩), by repeat (first | trivial | rfl | refine ⟨?_, ?_⟩), by repeat (first | trivial | rfl | refine ⟨?_, ?_⟩), by repeat (first | trivial | exact .inr rfl | exact .inl rfl | refine ⟨?_, ?_⟩), by repeat (first | trivial | exact .inr rfl | exact .inl rfl | refine ⟨?_, ?_⟩), by repeat (first | trivial | exact .inr rfl | exact .inl rfl | refine ⟨?_, ?_⟩), by repeat (first | trivial | exact .inr rfl | exact .inl rfl | refine ⟨?_, ?_⟩)⟩) ?_)
  rintro i ⟨hi, hne⟩
  refine vCode_sound (tab_ok [r65, r36, R]) _ _ _ ?_
  simp only [Tryz.f66, go_sem, Nat.reduceEqDiff, Nat.reduceLT, Nat.reduceLeDiff, Nat.reduceAdd, Nat.reduceSub, Nat.reduceMul, Nat.reduceBEq, Nat.reduceBNe, Int.reduceEq, Int.reduceToNat, Int.reduceNeg, ↓reduceIte, reduceCtorEq, Nat.reduceDiv, Nat.reduceMod, Int.reduceLE, Int.reduceLT, Int.reduceSub, Int.reduceAdd]
  repeat (first | intro _ | refine And.intro (by (intros; first | omega | (simp only [Bool.or_eq_false_iff, Bool.or_eq_true, decide_eq_false_iff_not, beq_iff_eq, Bool.and_eq_true, decide_eq_true_eq, Bool.not_eq_true'] at *; omega) | simp_all)) ?_)
  refine if_intro _ rfl trivial (fun h => ?_) (fun h => ?_)
  · simp only [decide_eq_true_eq, Int.ofNat_lt] at h
    have hw : IntKind.i64.wrap ((i : Int) + 1) = ((i + 1 : Nat) : Int) := by rw [wrap64_id (by omega) (by omega)]; rfl
    simp only [Tryz.f66, go_sem, Nat.reduceEqDiff, Nat.reduceLT, Nat.reduceLeDiff, Nat.reduceAdd, Nat.reduceSub, Nat.reduceMul, Nat.reduceBEq, Nat.reduceBNe, Int.reduceEq, Int.reduceToNat, Int.reduceNeg, ↓reduceIte, reduceCtorEq, Nat.reduceDiv, Nat.reduceMod, Int.reduceLE, Int.reduceLT, Int.reduceSub, Int.reduceAdd, h]
    refine draw_intro (tab_ok [r65, r36, R]) mixed [(true, 0), (true, 1), (true, 2), (true, 3), (true, 4), (true, 5), (true, 6), (true, 7), (true, 8), (true, 9), (true, 10), (true, 11), (true, 12), (false, 13), (true, 14), (true, 15), (true, 16), (true, 17), (true, 18), (true, 19), (true, 20), (true, 21), (true, 22), (false, 23), (true, 24), (true, 25), (true, 26), (true, 27), (true, 28), (true, 29), (true, 30), (true, 31), (true, 32), (false, 33), (true, 34), (true, 35), (true, 36), (true, 37), (true, 38), (true, 39), (true, 40), (true, 41), (true, 42), (false, 43), (true, 44), (true, 45)] rfl ?_
    simp only [Tryz.f66, go_sem, Nat.reduceEqDiff, Nat.reduceLT, Nat.reduceLeDiff, Nat.reduceAdd, Nat.reduceSub, Nat.reduceMul, Nat.reduceBEq, Nat.reduceBNe, Int.reduceEq, Int.reduceToNat, Int.reduceNeg, ↓reduceIte, reduceCtorEq, Nat.reduceDiv, Nat.reduceMod, Int.reduceLE, Int.reduceLT, Int.reduceSub, Int.reduceAdd, r65_at, r65_skip, r36_at, r36_skip, h, hR1, hR2, hs]
    repeat (first | intro _ | refine And.intro (by (intros; first | omega | (simp only [Bool.or_eq_false_iff, Bool.or_eq_true, decide_eq_false_iff_not, beq_iff_eq, Bool.and_eq_true, decide_eq_true_eq, Bool.not_eq_true'] at *; omega) | simp_all)) ?_)
    refine if_intro _ rfl trivial (fun h2 => ?_) (fun h2 => ?_)
    · simp only [Tryz.f66, go_sem, Nat.reduceEqDiff, Nat.reduceLT, Nat.reduceLeDiff, Nat.reduceAdd, Nat.reduceSub, Nat.reduceMul, Nat.reduceBEq, Nat.reduceBNe, Int.reduceEq, Int.reduceToNat, Int.reduceNeg, ↓reduceIte, reduceCtorEq, Nat.reduceDiv, Nat.reduceMod, Int.reduceLE, Int.reduceLT, Int.reduceSub, Int.reduceAdd]
      refine (all_at h ?_).symm
      rw [knS_eq]
      revert h2
      generalize decide ((elm l i).kind = 6) = x1
      generalize decide (fnIdx p.funcs (elm l i).name < 0) = x2
      generalize (elm l i).e.all (knE p) = x3
      generalize (elm l i).thn.all (knS p) = x4
      generalize (elm l i).els.all (knS p) = x5
      revert x1 x2 x3 x4 x5
      decide
    · simp only [Tryz.f66, go_sem, Nat.reduceEqDiff, Nat.reduceLT, Nat.reduceLeDiff, Nat.reduceAdd, Nat.reduceSub, Nat.reduceMul, Nat.reduceBEq, Nat.reduceBNe, Int.reduceEq, Int.reduceToNat, Int.reduceNeg, ↓reduceIte, reduceCtorEq, Nat.reduceDiv, Nat.reduceMod, Int.reduceLE, Int.reduceLT, Int.reduceSub, Int.reduceAdd, hw]
      have hf : knS p (elm l i) = true := by
        rw [knS_eq]
        revert h2
        generalize decide ((elm l i).kind = 6) = x1
        generalize decide (fnIdx p.funcs (elm l i).name < 0) = x2
        generalize (elm l i).e.all (knE p) = x3
        generalize (elm l i).thn.all (knS p) = x4
        generalize (elm l i).els.all (knS p) = x5
        revert x1 x2 x3 x4 x5
        decide
      refine ⟨i + 1, ⟨h, fun j hj => ?_⟩, by omega, ?_⟩
      · by_cases e : j = i
        · subst e; exact hf
        · exact hne j (by omega)
      · refine ⟨rfl, rfl, rfl, by repeat (first | exact AgreeOff.refl _ _ | refine AgreeOff.upd rfl ?_ | refine AgreeOff.over rfl ?_), by repeat (first | exact AgreeOff.refl _ _ | refine AgreeOff.upd rfl ?_ | refine AgreeOff.over rfl ?_), by repeat (first | exact AgreeOff.refl _ _ | refine AgreeOff.upd rfl ?_ | refine AgreeOff.over rfl ?_), ?_, by repeat (first | trivial | exact .inr rfl | exact .inl rfl | refine ⟨?_, ?_⟩), by repeat (first | trivial | exact .inr rfl | exact .inl rfl | refine ⟨?_, ?_⟩), by repeat (first | trivial | exact .inr rfl | exact .inl rfl | refine ⟨?_, ?_⟩), by repeat (first | trivial | exact .inr rfl | exact .inl rfl | refine ⟨?_, ?_⟩), by repeat (first | trivial | exact .inr rfl | exact .inl rfl | refine ⟨?_, ?_⟩), by repeat (first | trivial | exact .inr rfl | exact .inl rfl | refine ⟨?_, ?_⟩)⟩
        exact ⟨rfl, trivial⟩
  · simp only [decide_eq_false_iff_not, Int.ofNat_lt] at h
    simp only [Tryz.f66, go_sem, Nat.reduceEqDiff, Nat.reduceLT, Nat.reduceLeDiff, Nat.reduceAdd, Nat.reduceSub, Nat.reduceMul, Nat.reduceBEq, Nat.reduceBNe, Int.reduceEq, Int.reduceToNat, Int.reduceNeg, ↓reduceIte, reduceCtorEq, Nat.reduceDiv, Nat.reduceMod, Int.reduceLE, Int.reduceLT, Int.reduceSub, Int.reduceAdd]
    exact (all_of fun j hj => hne j (by omega)).symm
theorem knownS_ind (p : Pg) : ∀ (n : Nat) (l : List St), szSs l < n → VPure Tryz.prog G 66 [.agg (encP p), .slice (l.map encS)] (.val (.bool (l.all (knS p))))
  | 0, _, h => by omega
  | n + 1, l, h => knownS_step p n (fun l h => knownS_ind p n l h) l (by omega)
theorem knownS_c (p : Pg) (l : List St) : VPure Tryz.prog G 66 [.agg (encP p), .slice (l.map encS)] (.val (.bool (l.all (knS p)))) := knownS_ind p (szSs l + 1) l (by omega)
noncomputable def r39 : Rule Tryz.prog G := Rule.pure 66 ((Pg) × (List St)) (fun x => match x with | (p, l) => [.agg (encP p), .slice (l.map encS)]) (fun x => match x with | (p, l) => .val (.bool (l.all (knS p)))) (by rintro ⟨p1, l1⟩ ⟨p2, l2⟩ h; simp only [List.cons.injEq, PV.agg.injEq, PV.val.injEq, PV.slice.injEq, Value.int.injEq, Value.bool.injEq, Value.string.injEq, encE_iff, encEs_iff, encS_iff, encSs_iff, encT_iff, encF_iff, encP_iff, Int.natCast_inj, true_and, and_true] at h; simp only [h]) (fun ⟨p, l⟩ => knownS_c p l)
theorem r39_at (tl : List (Rule Tryz.prog G)) (p : Pg) (l : List St) (sh : Sh) : tab (r39 :: tl) 66 [.agg [.slice (encT p.vars), .slice (p.arrays.map encA), .slice (p.funcs.map encF)], .slice (l.map encS)] sh = some (.val (.bool (l.all (knS p))), sh) := by
  have this : tab (r39 :: tl) 66 [.agg (encP p), .slice (l.map encS)] sh = some (.val (.bool (l.all (knS p))), sh) := tab_pure tl ((p, l) : (Pg) × (List St)) sh
  simpa only [encE_eq, encS_eq, encF, encP] using this
theorem r39_skip (tl : List (Rule Tryz.prog G)) (f : FuncId) (args : List PV) (sh : Sh) (h : f ≠ 66) : tab (r39 :: tl) f args sh = tab tl f args sh := tab_skip _ tl f args sh h
end Go.Proofs.YtaackmiajgapoaaGreatDoor.V
