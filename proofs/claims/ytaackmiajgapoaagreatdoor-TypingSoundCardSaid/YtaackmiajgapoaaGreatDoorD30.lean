/- What is used (scope): in statements. -/
import Derived.Test.YtaackmiajgapoaaGreatDoorD29
set_option maxRecDepth 100000
set_option maxHeartbeats 16000000
set_option linter.unusedSimpArgs false
set_option linter.unusedVariables false
namespace Go.Proofs.YtaackmiajgapoaaGreatDoor.V
open Go
variable {G : Nat → Option (List PV)}

def hereS (k : Int) (s : ByteArray) (n : Nat) : List Use := if k = 1 then [⟨s, 2, -1⟩] else if k = 2 then [⟨s, 3, -1⟩] else if k = 6 then [⟨s, 4, n⟩] else []
mutual
def usesS : St → List Use
  | .mk k s e t f => hereS k s e.length ++ usesEs e ++ usesSs t ++ usesSs f
def usesSs : List St → List Use
  | [] => []
  | e :: r => usesS e ++ usesSs r
end
theorem usesS_eq (e : St) : usesS e = hereS e.kind e.name e.e.length ++ usesEs e.e ++ usesSs e.thn ++ usesSs e.els := by cases e; rfl
theorem usesSs_mem : ∀ (l : List St) (i : Nat), i < l.length → ∀ u ∈ usesS (elm l i), u ∈ usesSs l
  | e :: r, 0, _, u, h => by simp only [usesSs, List.mem_append]; exact .inl h
  | e :: r, i + 1, h, u, hu => by
    simp only [usesSs, List.mem_append]
    exact .inr (usesSs_mem r i (by simpa using h) u hu)
theorem usesSs_all (g : Use → Bool) : ∀ l : List St, (usesSs l).all g = l.all fun e => (usesS e).all g
  | [] => rfl
  | e :: r => by rw [usesSs, List.all_append, usesSs_all g r]; rfl

section
variable {C : FuncId} {caps : List PV} {S : Bool → Sh} {U : Use → Prop} {g : Use → Bool}
def StmtsT (G : Nat → Option (List PV)) (C : FuncId) (caps : List PV) (S : Bool → Sh) (U : Use → Prop) (g : Use → Bool) (n : Nat) : Prop :=
  ∀ (l : List St) (ok : Bool), (szSs l < n ∧ ∀ u ∈ usesSs l, U u) → VCalls Tryz.prog G 93 [.slice (l.map encS), .func C caps] (S ok) fun e s' => e = .ret (.tup []) ∧ s' = S (ok && (usesSs l).all g)

theorem stmtsT_step (hT : Told G C caps S U g) (n : Nat) (h : StmtsT G C caps S U g n) : StmtsT G C caps S U g (n + 1) := by
  rintro l ok ⟨hsz, hU⟩
  obtain ⟨E, hE0, hsE⟩ := famRule (G := G) hT.inj 133 (fun l : List Ex => [.slice (l.map encE), .func C caps]) (fun l => (usesEs l).all g) (fun l => ∀ u ∈ usesEs l, U u)
    (by intro x x' h; simp only [List.cons.injEq, PV.slice.injEq, encEs_iff, and_true] at h; exact h) (fun l ok h => exprsT_c hT l ok h)
  obtain ⟨F, hF0, hsF⟩ := famRule (G := G) hT.inj 93 (fun l : List St => [.slice (l.map encS), .func C caps]) (fun l => (usesSs l).all g) (fun l => szSs l < n ∧ ∀ u ∈ usesSs l, U u)
    (by intro x x' h; simp only [List.cons.injEq, PV.slice.injEq, encSs_iff, and_true] at h; exact h) h
  obtain ⟨K, hK0, hsK⟩ := famRule (G := G) hT.inj C (fun u : Use => useV u :: caps) g U
    (by intro x x' h; simp only [List.cons.injEq, and_true] at h; exact useV_inj h) hT.ok
  have hsz2 : ∀ i, i < l.length → szSs (elm l i).thn < n ∧ szSs (elm l i).els < n := by
    intro i hi
    have h1 := szSs_elm l i hi
    cases hc : elm l i with | mk k s e t f =>
    rw [hc] at h1
    simp only [szS] at h1
    show szSs t < n ∧ szSs f < n
    omega
  have hUi : ∀ i, i < l.length → ∀ u ∈ hereS (elm l i).kind (elm l i).name (elm l i).e.length ++ usesEs (elm l i).e ++ usesSs (elm l i).thn ++ usesSs (elm l i).els, U u := by
    intro i hi u hu
    rw [← usesS_eq] at hu
    exact hU u (usesSs_mem l i hi u hu)
  have hE : ∀ tl i b, i < l.length → tab (E :: tl) 133 [.slice ((elm l i).e.map encE), .func C caps] (S b) = some (.tup [], S (b && (usesEs (elm l i).e).all g)) := fun tl i b hi =>
    hE0 tl (elm l i).e b fun u hu => hUi i hi u (List.mem_append.2 (.inl (List.mem_append.2 (.inl (List.mem_append.2 (.inr hu))))))
  have hF1 : ∀ tl i b, i < l.length → tab (F :: tl) 93 [.slice ((elm l i).thn.map encS), .func C caps] (S b) = some (.tup [], S (b && (usesSs (elm l i).thn).all g)) := fun tl i b hi =>
    hF0 tl (elm l i).thn b ⟨(hsz2 i hi).1, fun u hu => hUi i hi u (List.mem_append.2 (.inl (List.mem_append.2 (.inr hu))))⟩
  have hF2 : ∀ tl i b, i < l.length → tab (F :: tl) 93 [.slice ((elm l i).els.map encS), .func C caps] (S b) = some (.tup [], S (b && (usesSs (elm l i).els).all g)) := fun tl i b hi =>
    hF0 tl (elm l i).els b ⟨(hsz2 i hi).2, fun u hu => hUi i hi u (List.mem_append.2 (.inr hu))⟩
  have hK : ∀ tl i b u, i < l.length → u ∈ hereS (elm l i).kind (elm l i).name (elm l i).e.length → tab (K :: tl) C (.agg [.val (.string u.name), .val (.int .i64 u.kind), .val (.int .i64 u.args)] :: caps) (S b) = some (.tup [], S (b && g u)) := fun tl i b u hi hu =>
    hK0 tl u b (hUi i hi u (List.mem_append.2 (.inl (List.mem_append.2 (.inl (List.mem_append.2 (.inl hu)))))))
  clear hE0 hK0 hF0
  have hn := hT.n1
  have hn2 := hT.n2
  have hcan := hT.can
  refine VCalls_enter [] Tryz.func93 rfl (show 2 ≤ 51 by decide) ?_
  refine vCode_sound (tab_ok [E, F, K]) _ _ _ ?_
  simp only [Tryz.f93, go_sem, Nat.reduceEqDiff, Nat.reduceLT, Nat.reduceLeDiff, Nat.reduceAdd, Nat.reduceSub, Nat.reduceMul, Nat.reduceBEq, Nat.reduceBNe, Int.reduceEq, Int.reduceToNat, Int.reduceNeg, ↓reduceIte, reduceCtorEq, Nat.reduceDiv, Nat.reduceMod, Int.reduceLE, Int.reduceLT, Int.reduceSub, Int.reduceAdd]
  repeat (first | intro _ | refine And.intro (by (intros; first | omega | (simp only [Bool.or_eq_false_iff, Bool.or_eq_true, decide_eq_false_iff_not, beq_iff_eq, Bool.and_eq_true, decide_eq_true_eq, Bool.not_eq_true'] at *; omega) | simp_all)) ?_)
  refine loop_intro (VWp_for [9, 10, 11, 5, 12, 13, 15, 14, 16, 17, 18, 19, 20, 22, 21, 23, 24, 25, 26, 27, 29, 28, 30, 31, 32, 33, 34, 35, 36, 37, 38, 39, 40, 41, 42, 43, 44, 45, 46, 47, 48, 49, 50, 8] (fun i : Nat => [(8, .val (.int .i64 i))]) [5] (fun _ => []) [] (fun _ => []) (fun i => S (ok && (l.take i).all fun e => (usesS e).all g))
    (fun i => i ≤ l.length) (fun i => l.length - i) 0 (Nat.zero_le _) ?_ ?_)
  · refine ⟨rfl, rfl, ?_, .refl _ _, .refl _ _, .refl _ _, by repeat (first | trivial | rfl | refine ⟨?_, ?_⟩), by repeat (first | trivial | rfl | refine ⟨?_, ?_⟩), by repeat (first | trivial | rfl | refine ⟨?_, ?_⟩), by repeat (first | trivial | exact .inr rfl | exact .inl rfl | refine ⟨?_, ?_⟩), by repeat (first | trivial | exact .inr rfl | exact .inl rfl | refine ⟨?_, ?_⟩), by repeat (first | trivial | exact .inr rfl | exact .inl rfl | refine ⟨?_, ?_⟩), by repeat (first | trivial | exact .inr rfl | exact .inl rfl | refine ⟨?_, ?_⟩)⟩
    show S ok = S (ok && true)
    rw [Bool.and_true]
  rintro i hi
  refine vCode_sound (tab_ok [E, F, K]) _ _ _ ?_
  simp only [Tryz.f93, go_sem, Nat.reduceEqDiff, Nat.reduceLT, Nat.reduceLeDiff, Nat.reduceAdd, Nat.reduceSub, Nat.reduceMul, Nat.reduceBEq, Nat.reduceBNe, Int.reduceEq, Int.reduceToNat, Int.reduceNeg, ↓reduceIte, reduceCtorEq, Nat.reduceDiv, Nat.reduceMod, Int.reduceLE, Int.reduceLT, Int.reduceSub, Int.reduceAdd]
  repeat (first | intro _ | refine And.intro (by (intros; first | omega | (simp only [Bool.or_eq_false_iff, Bool.or_eq_true, decide_eq_false_iff_not, beq_iff_eq, Bool.and_eq_true, decide_eq_true_eq, Bool.not_eq_true'] at *; omega) | simp_all)) ?_)
  refine if_intro _ rfl trivial (fun h1 => ?_) (fun h1 => ?_)
  · simp only [decide_eq_true_eq, Int.ofNat_lt] at h1
    have hw : IntKind.i64.wrap ((i : Int) + 1) = ((i + 1 : Nat) : Int) := by rw [wrap64_id (by omega) (by omega)]; rfl
    have hkind : (elm l i).kind = 1 ∨ (elm l i).kind = 2 ∨ (elm l i).kind = 6 ∨ (¬ (elm l i).kind = 1 ∧ ¬ (elm l i).kind = 2 ∧ ¬ (elm l i).kind = 6) := by omega
    have hfin : ∀ (P : Bool), ((usesS (elm l i)).all g) = (P && (usesEs (elm l i).e).all g && (usesSs (elm l i).thn).all g && (usesSs (elm l i).els).all g) → S (((((ok && (l.take i).all fun e => (usesS e).all g) && P) && (usesEs (elm l i).e).all g) && (usesSs (elm l i).thn).all g) && (usesSs (elm l i).els).all g) = S (ok && (l.take (i + 1)).all fun e => (usesS e).all g) := by
      intro P hP
      rw [take_all _ h1, hP]
      simp only [Bool.and_assoc]
    rcases hkind with hk | hk | hk | ⟨hk2, hk3, hk4⟩
    · have hK2 : ∀ tl b, tab (K :: tl) C (.agg [.val (.string (elm l i).name), .val (.int .i64 2), .val (.int .i64 (-1))] :: caps) (S b) = some (.tup [], S (b && g ⟨(elm l i).name, 2, -1⟩)) := fun tl b => hK tl i b ⟨(elm l i).name, 2, -1⟩ h1 (by rw [hk]; simp [hereS])
      simp only [Tryz.f93, go_sem, Nat.reduceEqDiff, Nat.reduceLT, Nat.reduceLeDiff, Nat.reduceAdd, Nat.reduceSub, Nat.reduceMul, Nat.reduceBEq, Nat.reduceBNe, Int.reduceEq, Int.reduceToNat, Int.reduceNeg, ↓reduceIte, reduceCtorEq, Nat.reduceDiv, Nat.reduceMod, Int.reduceLE, Int.reduceLT, Int.reduceSub, Int.reduceAdd, h1, hk, hK2, hE, hF1, hF2, hsE, hsF, hsK, hn, hn2, hcan, hw]
      repeat (first | intro _ | refine And.intro (by (intros; first | omega | (simp only [Bool.or_eq_false_iff, Bool.or_eq_true, decide_eq_false_iff_not, beq_iff_eq, Bool.and_eq_true, decide_eq_true_eq, Bool.not_eq_true'] at *; omega) | simp_all)) ?_)
      refine ⟨i + 1, h1, by omega, ?_⟩
      refine ⟨rfl, rfl, ?_, by repeat (first | exact AgreeOff.refl _ _ | refine AgreeOff.upd rfl ?_ | refine AgreeOff.over rfl ?_), by repeat (first | exact AgreeOff.refl _ _ | refine AgreeOff.upd rfl ?_ | refine AgreeOff.over rfl ?_), by repeat (first | exact AgreeOff.refl _ _ | refine AgreeOff.upd rfl ?_ | refine AgreeOff.over rfl ?_), ?_, by repeat (first | trivial | exact .inr rfl | exact .inl rfl | refine ⟨?_, ?_⟩), by repeat (first | trivial | exact .inr rfl | exact .inl rfl | refine ⟨?_, ?_⟩), by repeat (first | trivial | exact .inr rfl | exact .inl rfl | refine ⟨?_, ?_⟩), by repeat (first | trivial | exact .inr rfl | exact .inl rfl | refine ⟨?_, ?_⟩), by repeat (first | trivial | exact .inr rfl | exact .inl rfl | refine ⟨?_, ?_⟩), by repeat (first | trivial | exact .inr rfl | exact .inl rfl | refine ⟨?_, ?_⟩)⟩
      · exact hfin _ (by rw [usesS_eq, hk]; simp [hereS, Bool.and_assoc])
      · exact ⟨rfl, trivial⟩
    · have hK2 : ∀ tl b, tab (K :: tl) C (.agg [.val (.string (elm l i).name), .val (.int .i64 3), .val (.int .i64 (-1))] :: caps) (S b) = some (.tup [], S (b && g ⟨(elm l i).name, 3, -1⟩)) := fun tl b => hK tl i b ⟨(elm l i).name, 3, -1⟩ h1 (by rw [hk]; simp [hereS])
      simp only [Tryz.f93, go_sem, Nat.reduceEqDiff, Nat.reduceLT, Nat.reduceLeDiff, Nat.reduceAdd, Nat.reduceSub, Nat.reduceMul, Nat.reduceBEq, Nat.reduceBNe, Int.reduceEq, Int.reduceToNat, Int.reduceNeg, ↓reduceIte, reduceCtorEq, Nat.reduceDiv, Nat.reduceMod, Int.reduceLE, Int.reduceLT, Int.reduceSub, Int.reduceAdd, h1, hk, hK2, hE, hF1, hF2, hsE, hsF, hsK, hn, hn2, hcan, hw]
      repeat (first | intro _ | refine And.intro (by (intros; first | omega | (simp only [Bool.or_eq_false_iff, Bool.or_eq_true, decide_eq_false_iff_not, beq_iff_eq, Bool.and_eq_true, decide_eq_true_eq, Bool.not_eq_true'] at *; omega) | simp_all)) ?_)
      refine ⟨i + 1, h1, by omega, ?_⟩
      refine ⟨rfl, rfl, ?_, by repeat (first | exact AgreeOff.refl _ _ | refine AgreeOff.upd rfl ?_ | refine AgreeOff.over rfl ?_), by repeat (first | exact AgreeOff.refl _ _ | refine AgreeOff.upd rfl ?_ | refine AgreeOff.over rfl ?_), by repeat (first | exact AgreeOff.refl _ _ | refine AgreeOff.upd rfl ?_ | refine AgreeOff.over rfl ?_), ?_, by repeat (first | trivial | exact .inr rfl | exact .inl rfl | refine ⟨?_, ?_⟩), by repeat (first | trivial | exact .inr rfl | exact .inl rfl | refine ⟨?_, ?_⟩), by repeat (first | trivial | exact .inr rfl | exact .inl rfl | refine ⟨?_, ?_⟩), by repeat (first | trivial | exact .inr rfl | exact .inl rfl | refine ⟨?_, ?_⟩), by repeat (first | trivial | exact .inr rfl | exact .inl rfl | refine ⟨?_, ?_⟩), by repeat (first | trivial | exact .inr rfl | exact .inl rfl | refine ⟨?_, ?_⟩)⟩
      · exact hfin _ (by rw [usesS_eq, hk]; simp [hereS, Bool.and_assoc])
      · exact ⟨rfl, trivial⟩
    · have hK2 : ∀ tl b, tab (K :: tl) C (.agg [.val (.string (elm l i).name), .val (.int .i64 4), .val (.int .i64 ((elm l i).e.length : Nat))] :: caps) (S b) = some (.tup [], S (b && g ⟨(elm l i).name, 4, (elm l i).e.length⟩)) := fun tl b => hK tl i b ⟨(elm l i).name, 4, (elm l i).e.length⟩ h1 (by rw [hk]; simp [hereS])
      simp only [Tryz.f93, go_sem, Nat.reduceEqDiff, Nat.reduceLT, Nat.reduceLeDiff, Nat.reduceAdd, Nat.reduceSub, Nat.reduceMul, Nat.reduceBEq, Nat.reduceBNe, Int.reduceEq, Int.reduceToNat, Int.reduceNeg, ↓reduceIte, reduceCtorEq, Nat.reduceDiv, Nat.reduceMod, Int.reduceLE, Int.reduceLT, Int.reduceSub, Int.reduceAdd, h1, hk, hK2, hE, hF1, hF2, hsE, hsF, hsK, hn, hn2, hcan, hw]
      repeat (first | intro _ | refine And.intro (by (intros; first | omega | (simp only [Bool.or_eq_false_iff, Bool.or_eq_true, decide_eq_false_iff_not, beq_iff_eq, Bool.and_eq_true, decide_eq_true_eq, Bool.not_eq_true'] at *; omega) | simp_all)) ?_)
      refine ⟨i + 1, h1, by omega, ?_⟩
      refine ⟨rfl, rfl, ?_, by repeat (first | exact AgreeOff.refl _ _ | refine AgreeOff.upd rfl ?_ | refine AgreeOff.over rfl ?_), by repeat (first | exact AgreeOff.refl _ _ | refine AgreeOff.upd rfl ?_ | refine AgreeOff.over rfl ?_), by repeat (first | exact AgreeOff.refl _ _ | refine AgreeOff.upd rfl ?_ | refine AgreeOff.over rfl ?_), ?_, by repeat (first | trivial | exact .inr rfl | exact .inl rfl | refine ⟨?_, ?_⟩), by repeat (first | trivial | exact .inr rfl | exact .inl rfl | refine ⟨?_, ?_⟩), by repeat (first | trivial | exact .inr rfl | exact .inl rfl | refine ⟨?_, ?_⟩), by repeat (first | trivial | exact .inr rfl | exact .inl rfl | refine ⟨?_, ?_⟩), by repeat (first | trivial | exact .inr rfl | exact .inl rfl | refine ⟨?_, ?_⟩), by repeat (first | trivial | exact .inr rfl | exact .inl rfl | refine ⟨?_, ?_⟩)⟩
      · exact hfin _ (by rw [usesS_eq, hk]; simp [hereS, Bool.and_assoc])
      · exact ⟨rfl, trivial⟩
    · simp only [Tryz.f93, go_sem, Nat.reduceEqDiff, Nat.reduceLT, Nat.reduceLeDiff, Nat.reduceAdd, Nat.reduceSub, Nat.reduceMul, Nat.reduceBEq, Nat.reduceBNe, Int.reduceEq, Int.reduceToNat, Int.reduceNeg, ↓reduceIte, reduceCtorEq, Nat.reduceDiv, Nat.reduceMod, Int.reduceLE, Int.reduceLT, Int.reduceSub, Int.reduceAdd, h1, hk2, hk3, hk4, hE, hF1, hF2, hsE, hsF, hsK, hn, hn2, hcan, hw]
      repeat (first | intro _ | refine And.intro (by (intros; first | omega | (simp only [Bool.or_eq_false_iff, Bool.or_eq_true, decide_eq_false_iff_not, beq_iff_eq, Bool.and_eq_true, decide_eq_true_eq, Bool.not_eq_true'] at *; omega) | simp_all)) ?_)
      refine ⟨i + 1, h1, by omega, ?_⟩
      refine ⟨rfl, rfl, ?_, by repeat (first | exact AgreeOff.refl _ _ | refine AgreeOff.upd rfl ?_ | refine AgreeOff.over rfl ?_), by repeat (first | exact AgreeOff.refl _ _ | refine AgreeOff.upd rfl ?_ | refine AgreeOff.over rfl ?_), by repeat (first | exact AgreeOff.refl _ _ | refine AgreeOff.upd rfl ?_ | refine AgreeOff.over rfl ?_), ?_, by repeat (first | trivial | exact .inr rfl | exact .inl rfl | refine ⟨?_, ?_⟩), by repeat (first | trivial | exact .inr rfl | exact .inl rfl | refine ⟨?_, ?_⟩), by repeat (first | trivial | exact .inr rfl | exact .inl rfl | refine ⟨?_, ?_⟩), by repeat (first | trivial | exact .inr rfl | exact .inl rfl | refine ⟨?_, ?_⟩), by repeat (first | trivial | exact .inr rfl | exact .inl rfl | refine ⟨?_, ?_⟩), by repeat (first | trivial | exact .inr rfl | exact .inl rfl | refine ⟨?_, ?_⟩)⟩
      · have := hfin true (by rw [usesS_eq, hereS, if_neg hk2, if_neg hk3, if_neg hk4]; simp [Bool.and_assoc])
        rw [Bool.and_true] at this
        exact this
      · exact ⟨rfl, trivial⟩
  · simp only [decide_eq_false_iff_not, Int.ofNat_lt] at h1
    simp only [Tryz.f93, go_sem, Nat.reduceEqDiff, Nat.reduceLT, Nat.reduceLeDiff, Nat.reduceAdd, Nat.reduceSub, Nat.reduceMul, Nat.reduceBEq, Nat.reduceBNe, Int.reduceEq, Int.reduceToNat, Int.reduceNeg, ↓reduceIte, reduceCtorEq, Nat.reduceDiv, Nat.reduceMod, Int.reduceLE, Int.reduceLT, Int.reduceSub, Int.reduceAdd]
    have hi' : i = l.length := by omega
    subst hi'
    rw [List.take_length, usesSs_all]

theorem stmtsT_all (hT : Told G C caps S U g) : ∀ n, StmtsT G C caps S U g n
  | 0 => fun l ok h => absurd h.1 (by omega)
  | n + 1 => stmtsT_step hT n (stmtsT_all hT n)
theorem stmtsT_c (hT : Told G C caps S U g) (l : List St) (ok : Bool) (h : ∀ u ∈ usesSs l, U u) : VCalls Tryz.prog G 93 [.slice (l.map encS), .func C caps] (S ok) fun e s' => e = .ret (.tup []) ∧ s' = S (ok && (usesSs l).all g) :=
  stmtsT_all hT (szSs l + 1) l ok ⟨by omega, h⟩
end
end Go.Proofs.YtaackmiajgapoaaGreatDoor.V
