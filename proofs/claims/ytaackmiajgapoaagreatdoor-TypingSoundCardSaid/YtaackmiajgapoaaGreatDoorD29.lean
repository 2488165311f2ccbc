/- What is used (scope): in expressions. -/
import Derived.Test.YtaackmiajgapoaaGreatDoorD28
set_option maxRecDepth 100000
set_option maxHeartbeats 16000000
set_option linter.unusedSimpArgs false
set_option linter.unusedVariables false
namespace Go.Proofs.YtaackmiajgapoaaGreatDoor.V
open Go
variable {G : Nat → Option (List PV)}

/-- A use of a name. -/
structure Use where
  name : ByteArray
  kind : Int
  args : Int
def useV (u : Use) : PV := .agg [.val (.string u.name), .val (.int .i64 u.kind), .val (.int .i64 u.args)]
theorem useV_inj {u v : Use} (h : useV u = useV v) : u = v := by
  cases u; cases v
  simp only [useV, PV.agg.injEq, List.cons.injEq, PV.val.injEq, Value.int.injEq, Value.string.injEq, true_and, and_true] at h
  obtain ⟨rfl, rfl, rfl⟩ := h
  rfl

def hereE (k : Int) (s : ByteArray) (n : Nat) : List Use := if k = 2 then [⟨s, 2, -1⟩] else if k = 3 then [⟨s, 3, -1⟩] else if k = 4 then [⟨s, 4, n⟩] else []
mutual
def usesE : Ex → List Use
  | .mk k o n s l => hereE k s l.length ++ usesEs l
def usesEs : List Ex → List Use
  | [] => []
  | e :: r => usesE e ++ usesEs r
end
theorem usesE_eq (e : Ex) : usesE e = hereE e.kind e.name e.kids.length ++ usesEs e.kids := by cases e; rfl
theorem usesEs_mem : ∀ (l : List Ex) (i : Nat), i < l.length → ∀ u ∈ usesE (elm l i), u ∈ usesEs l
  | e :: r, 0, _, u, h => by simp only [usesEs, List.mem_append]; exact .inl h
  | e :: r, i + 1, h, u, hu => by
    simp only [usesEs, List.mem_append]
    exact .inr (usesEs_mem r i (by simpa using h) u hu)
theorem usesEs_all (g : Use → Bool) : ∀ l : List Ex, (usesEs l).all g = l.all fun e => (usesE e).all g
  | [] => rfl
  | e :: r => by rw [usesEs, List.all_append, usesEs_all g r]; rfl

/-- What a closure does that is told of uses: it keeps what it told before. -/
structure Told (G : Nat → Option (List PV)) (C : FuncId) (caps : List PV) (S : Bool → Sh) (U : Use → Prop) (g : Use → Bool) : Prop where
  can : canCall Tryz.prog C = true
  n1 : ¬ (C = 133)
  n2 : ¬ (C = 93)
  inj : ∀ a b, S a = S b → a = b
  ok : ∀ u ok, U u → VCalls Tryz.prog G C (useV u :: caps) (S ok) fun e s' => e = .ret (.tup []) ∧ s' = S (ok && g u)

section
variable {C : FuncId} {caps : List PV} {S : Bool → Sh} {U : Use → Prop} {g : Use → Bool}
/-- A rule for what a family of states goes through. -/
theorem famRule {ι : Type} (hS : ∀ a b, S a = S b → a = b) (f : FuncId) (A : ι → List PV) (lo : ι → Bool) (D : ι → Prop) (inj : ∀ x x', A x = A x' → x = x')
    (ok : ∀ x ok, D x → VCalls Tryz.prog G f (A x) (S ok) fun e s' => e = .ret (.tup []) ∧ s' = S (ok && lo x)) :
    ∃ R : Rule Tryz.prog G, (∀ tl x ok, D x → tab (R :: tl) f (A x) (S ok) = some (.tup [], S (ok && lo x))) ∧ ∀ tl h args sh, h ≠ f → tab (R :: tl) h args sh = tab tl h args sh := by
  let R : Rule Tryz.prog G :=
    { f, ι := Bool × ι, A := fun x => A x.2, dom := fun x sh => sh = S x.1 ∧ D x.2, res := fun x _ => .tup [], sh' := fun x sh => S (x.1 && lo x.2),
      inj := by
        rintro ⟨l, x⟩ ⟨l', x'⟩ sh h ⟨h1, _⟩ ⟨h2, _⟩
        obtain rfl := inj x x' h
        obtain rfl := hS _ _ (h1.symm.trans h2)
        exact ⟨rfl, rfl⟩
      ok := by
        rintro ⟨l, x⟩ sh ⟨rfl, h2⟩
        exact ok x l h2 }
  exact ⟨R, fun tl x l h3 => tab_at R tl (l, x) _ ⟨rfl, h3⟩, fun tl g args sh h => tab_skip R tl g args sh h⟩

def ExprsT (G : Nat → Option (List PV)) (C : FuncId) (caps : List PV) (S : Bool → Sh) (U : Use → Prop) (g : Use → Bool) (n : Nat) : Prop :=
  ∀ (l : List Ex) (ok : Bool), (szEs l < n ∧ ∀ u ∈ usesEs l, U u) → VCalls Tryz.prog G 133 [.slice (l.map encE), .func C caps] (S ok) fun e s' => e = .ret (.tup []) ∧ s' = S (ok && (usesEs l).all g)

theorem exprsT_step (hT : Told G C caps S U g) (n : Nat) (h : ExprsT G C caps S U g n) : ExprsT G C caps S U g (n + 1) := by
  rintro l ok ⟨hsz, hU⟩
  obtain ⟨E, hE0, hsE⟩ := famRule (G := G) hT.inj 133 (fun l : List Ex => [.slice (l.map encE), .func C caps]) (fun l => (usesEs l).all g) (fun l => szEs l < n ∧ ∀ u ∈ usesEs l, U u)
    (by intro x x' h; simp only [List.cons.injEq, PV.slice.injEq, encEs_iff, and_true] at h; exact h) h
  obtain ⟨K, hK0, hsK⟩ := famRule (G := G) hT.inj C (fun u : Use => useV u :: caps) g U
    (by intro x x' h; simp only [List.cons.injEq, and_true] at h; exact useV_inj h) hT.ok
  have hkids : ∀ i, i < l.length → szEs (elm l i).kids < n := by
    intro i hi
    have h1 := szEs_elm l i hi
    cases hc : elm l i with | mk k o m s r =>
    rw [hc] at h1
    simp only [szE] at h1
    show szEs r < n
    omega
  have hUi : ∀ i, i < l.length → ∀ u ∈ hereE (elm l i).kind (elm l i).name (elm l i).kids.length ++ usesEs (elm l i).kids, U u := by
    intro i hi u hu
    rw [← usesE_eq] at hu
    exact hU u (usesEs_mem l i hi u hu)
  have hE : ∀ tl i b, i < l.length → tab (E :: tl) 133 [.slice ((elm l i).kids.map encE), .func C caps] (S b) = some (.tup [], S (b && (usesEs (elm l i).kids).all g)) := fun tl i b hi =>
    hE0 tl (elm l i).kids b ⟨hkids i hi, fun u hu => hUi i hi u (List.mem_append.2 (.inr hu))⟩
  have hK : ∀ tl i b u, i < l.length → u ∈ hereE (elm l i).kind (elm l i).name (elm l i).kids.length → tab (K :: tl) C (.agg [.val (.string u.name), .val (.int .i64 u.kind), .val (.int .i64 u.args)] :: caps) (S b) = some (.tup [], S (b && g u)) := fun tl i b u hi hu =>
    hK0 tl u b (hUi i hi u (List.mem_append.2 (.inl hu)))
  clear hE0 hK0
  have hn := hT.n1
  have hcan := hT.can
  refine VCalls_enter [] Tryz.func133 rfl (show 2 ≤ 43 by decide) ?_
  refine vCode_sound (tab_ok [E, K]) _ _ _ ?_
  simp only [Tryz.f133, go_sem, Nat.reduceEqDiff, Nat.reduceLT, Nat.reduceLeDiff, Nat.reduceAdd, Nat.reduceSub, Nat.reduceMul, Nat.reduceBEq, Nat.reduceBNe, Int.reduceEq, Int.reduceToNat, Int.reduceNeg, ↓reduceIte, reduceCtorEq, Nat.reduceDiv, Nat.reduceMod, Int.reduceLE, Int.reduceLT, Int.reduceSub, Int.reduceAdd]
  repeat (first | intro _ | refine And.intro (by (intros; first | omega | (simp only [Bool.or_eq_false_iff, Bool.or_eq_true, decide_eq_false_iff_not, beq_iff_eq, Bool.and_eq_true, decide_eq_true_eq, Bool.not_eq_true'] at *; omega) | simp_all)) ?_)
  refine loop_intro (VWp_for [9, 10, 11, 5, 12, 13, 15, 14, 16, 17, 18, 19, 20, 22, 21, 23, 24, 25, 26, 27, 29, 28, 30, 31, 32, 33, 34, 35, 36, 37, 38, 39, 40, 41, 42, 8] (fun i : Nat => [(8, .val (.int .i64 i))]) [5] (fun _ => []) [] (fun _ => []) (fun i => S (ok && (l.take i).all fun e => (usesE e).all g))
    (fun i => i ≤ l.length) (fun i => l.length - i) 0 (Nat.zero_le _) ?_ ?_)
  · refine ⟨rfl, rfl, ?_, .refl _ _, .refl _ _, .refl _ _, by repeat (first | trivial | rfl | refine ⟨?_, ?_⟩), by repeat (first | trivial | rfl | refine ⟨?_, ?_⟩), by repeat (first | trivial | rfl | refine ⟨?_, ?_⟩), by repeat (first | trivial | exact .inr rfl | exact .inl rfl | refine ⟨?_, ?_⟩), by repeat (first | trivial | exact .inr rfl | exact .inl rfl | refine ⟨?_, ?_⟩), by repeat (first | trivial | exact .inr rfl | exact .inl rfl | refine ⟨?_, ?_⟩), by repeat (first | trivial | exact .inr rfl | exact .inl rfl | refine ⟨?_, ?_⟩)⟩
    show S ok = S (ok && true)
    rw [Bool.and_true]
  rintro i hi
  refine vCode_sound (tab_ok [E, K]) _ _ _ ?_
  simp only [Tryz.f133, go_sem, Nat.reduceEqDiff, Nat.reduceLT, Nat.reduceLeDiff, Nat.reduceAdd, Nat.reduceSub, Nat.reduceMul, Nat.reduceBEq, Nat.reduceBNe, Int.reduceEq, Int.reduceToNat, Int.reduceNeg, ↓reduceIte, reduceCtorEq, Nat.reduceDiv, Nat.reduceMod, Int.reduceLE, Int.reduceLT, Int.reduceSub, Int.reduceAdd]
  repeat (first | intro _ | refine And.intro (by (intros; first | omega | (simp only [Bool.or_eq_false_iff, Bool.or_eq_true, decide_eq_false_iff_not, beq_iff_eq, Bool.and_eq_true, decide_eq_true_eq, Bool.not_eq_true'] at *; omega) | simp_all)) ?_)
  refine if_intro _ rfl trivial (fun h1 => ?_) (fun h1 => ?_)
  · simp only [decide_eq_true_eq, Int.ofNat_lt] at h1
    have hw : IntKind.i64.wrap ((i : Int) + 1) = ((i + 1 : Nat) : Int) := by rw [wrap64_id (by omega) (by omega)]; rfl
    have hkind : (elm l i).kind = 2 ∨ (elm l i).kind = 3 ∨ (elm l i).kind = 4 ∨ (¬ (elm l i).kind = 2 ∧ ¬ (elm l i).kind = 3 ∧ ¬ (elm l i).kind = 4) := by omega
    have hfin : ∀ (P : Bool), ((usesE (elm l i)).all g) = (P && (usesEs (elm l i).kids).all g) → S (((ok && (l.take i).all fun e => (usesE e).all g) && P) && (usesEs (elm l i).kids).all g) = S (ok && (l.take (i + 1)).all fun e => (usesE e).all g) := by
      intro P hP
      rw [take_all _ h1, hP, Bool.and_assoc, Bool.and_assoc]
    rcases hkind with hk | hk | hk | ⟨hk2, hk3, hk4⟩
    · have hK2 : ∀ tl b, tab (K :: tl) C (.agg [.val (.string (elm l i).name), .val (.int .i64 2), .val (.int .i64 (-1))] :: caps) (S b) = some (.tup [], S (b && g ⟨(elm l i).name, 2, -1⟩)) := fun tl b => hK tl i b ⟨(elm l i).name, 2, -1⟩ h1 (by rw [hk]; simp [hereE])
      simp only [Tryz.f133, go_sem, Nat.reduceEqDiff, Nat.reduceLT, Nat.reduceLeDiff, Nat.reduceAdd, Nat.reduceSub, Nat.reduceMul, Nat.reduceBEq, Nat.reduceBNe, Int.reduceEq, Int.reduceToNat, Int.reduceNeg, ↓reduceIte, reduceCtorEq, Nat.reduceDiv, Nat.reduceMod, Int.reduceLE, Int.reduceLT, Int.reduceSub, Int.reduceAdd, h1, hk, hK2, hE, hsE, hsK, hn, hcan, hw]
      repeat (first | intro _ | refine And.intro (by (intros; first | omega | (simp only [Bool.or_eq_false_iff, Bool.or_eq_true, decide_eq_false_iff_not, beq_iff_eq, Bool.and_eq_true, decide_eq_true_eq, Bool.not_eq_true'] at *; omega) | simp_all)) ?_)
      refine ⟨i + 1, h1, by omega, ?_⟩
      refine ⟨rfl, rfl, ?_, by repeat (first | exact AgreeOff.refl _ _ | refine AgreeOff.upd rfl ?_ | refine AgreeOff.over rfl ?_), by repeat (first | exact AgreeOff.refl _ _ | refine AgreeOff.upd rfl ?_ | refine AgreeOff.over rfl ?_), by repeat (first | exact AgreeOff.refl _ _ | refine AgreeOff.upd rfl ?_ | refine AgreeOff.over rfl ?_), ?_, by repeat (first | trivial | exact .inr rfl | exact .inl rfl | refine ⟨?_, ?_⟩), by repeat (first | trivial | exact .inr rfl | exact .inl rfl | refine ⟨?_, ?_⟩), by repeat (first | trivial | exact .inr rfl | exact .inl rfl | refine ⟨?_, ?_⟩), by repeat (first | trivial | exact .inr rfl | exact .inl rfl | refine ⟨?_, ?_⟩), by repeat (first | trivial | exact .inr rfl | exact .inl rfl | refine ⟨?_, ?_⟩), by repeat (first | trivial | exact .inr rfl | exact .inl rfl | refine ⟨?_, ?_⟩)⟩
      · exact hfin _ (by rw [usesE_eq, hk]; simp [hereE])
      · exact ⟨rfl, trivial⟩
    · have hK2 : ∀ tl b, tab (K :: tl) C (.agg [.val (.string (elm l i).name), .val (.int .i64 3), .val (.int .i64 (-1))] :: caps) (S b) = some (.tup [], S (b && g ⟨(elm l i).name, 3, -1⟩)) := fun tl b => hK tl i b ⟨(elm l i).name, 3, -1⟩ h1 (by rw [hk]; simp [hereE])
      simp only [Tryz.f133, go_sem, Nat.reduceEqDiff, Nat.reduceLT, Nat.reduceLeDiff, Nat.reduceAdd, Nat.reduceSub, Nat.reduceMul, Nat.reduceBEq, Nat.reduceBNe, Int.reduceEq, Int.reduceToNat, Int.reduceNeg, ↓reduceIte, reduceCtorEq, Nat.reduceDiv, Nat.reduceMod, Int.reduceLE, Int.reduceLT, Int.reduceSub, Int.reduceAdd, h1, hk, hK2, hE, hsE, hsK, hn, hcan, hw]
      repeat (first | intro _ | refine And.intro (by (intros; first | omega | (simp only [Bool.or_eq_false_iff, Bool.or_eq_true, decide_eq_false_iff_not, beq_iff_eq, Bool.and_eq_true, decide_eq_true_eq, Bool.not_eq_true'] at *; omega) | simp_all)) ?_)
      refine ⟨i + 1, h1, by omega, ?_⟩
      refine ⟨rfl, rfl, ?_, by repeat (first | exact AgreeOff.refl _ _ | refine AgreeOff.upd rfl ?_ | refine AgreeOff.over rfl ?_), by repeat (first | exact AgreeOff.refl _ _ | refine AgreeOff.upd rfl ?_ | refine AgreeOff.over rfl ?_), by repeat (first | exact AgreeOff.refl _ _ | refine AgreeOff.upd rfl ?_ | refine AgreeOff.over rfl ?_), ?_, by repeat (first | trivial | exact .inr rfl | exact .inl rfl | refine ⟨?_, ?_⟩), by repeat (first | trivial | exact .inr rfl | exact .inl rfl | refine ⟨?_, ?_⟩), by repeat (first | trivial | exact .inr rfl | exact .inl rfl | refine ⟨?_, ?_⟩), by repeat (first | trivial | exact .inr rfl | exact .inl rfl | refine ⟨?_, ?_⟩), by repeat (first | trivial | exact .inr rfl | exact .inl rfl | refine ⟨?_, ?_⟩), by repeat (first | trivial | exact .inr rfl | exact .inl rfl | refine ⟨?_, ?_⟩)⟩
      · exact hfin _ (by rw [usesE_eq, hk]; simp [hereE])
      · exact ⟨rfl, trivial⟩
    · have hK2 : ∀ tl b, tab (K :: tl) C (.agg [.val (.string (elm l i).name), .val (.int .i64 4), .val (.int .i64 ((elm l i).kids.length : Nat))] :: caps) (S b) = some (.tup [], S (b && g ⟨(elm l i).name, 4, (elm l i).kids.length⟩)) := fun tl b => hK tl i b ⟨(elm l i).name, 4, (elm l i).kids.length⟩ h1 (by rw [hk]; simp [hereE])
      simp only [Tryz.f133, go_sem, Nat.reduceEqDiff, Nat.reduceLT, Nat.reduceLeDiff, Nat.reduceAdd, Nat.reduceSub, Nat.reduceMul, Nat.reduceBEq, Nat.reduceBNe, Int.reduceEq, Int.reduceToNat, Int.reduceNeg, ↓reduceIte, reduceCtorEq, Nat.reduceDiv, Nat.reduceMod, Int.reduceLE, Int.reduceLT, Int.reduceSub, Int.reduceAdd, h1, hk, hK2, hE, hsE, hsK, hn, hcan, hw]
      repeat (first | intro _ | refine And.intro (by (intros; first | omega | (simp only [Bool.or_eq_false_iff, Bool.or_eq_true, decide_eq_false_iff_not, beq_iff_eq, Bool.and_eq_true, decide_eq_true_eq, Bool.not_eq_true'] at *; omega) | simp_all)) ?_)
      refine ⟨i + 1, h1, by omega, ?_⟩
      refine ⟨rfl, rfl, ?_, by repeat (first | exact AgreeOff.refl _ _ | refine AgreeOff.upd rfl ?_ | refine AgreeOff.over rfl ?_), by repeat (first | exact AgreeOff.refl _ _ | refine AgreeOff.upd rfl ?_ | refine AgreeOff.over rfl ?_), by repeat (first | exact AgreeOff.refl _ _ | refine AgreeOff.upd rfl ?_ | refine AgreeOff.over rfl ?_), ?_, by repeat (first | trivial | exact .inr rfl | exact .inl rfl | refine ⟨?_, ?_⟩), by repeat (first | trivial | exact .inr rfl | exact .inl rfl | refine ⟨?_, ?_⟩), by repeat (first | trivial | exact .inr rfl | exact .inl rfl | refine ⟨?_, ?_⟩), by repeat (first | trivial | exact .inr rfl | exact .inl rfl | refine ⟨?_, ?_⟩), by repeat (first | trivial | exact .inr rfl | exact .inl rfl | refine ⟨?_, ?_⟩), by repeat (first | trivial | exact .inr rfl | exact .inl rfl | refine ⟨?_, ?_⟩)⟩
      · exact hfin _ (by rw [usesE_eq, hk]; simp [hereE])
      · exact ⟨rfl, trivial⟩
    · simp only [Tryz.f133, go_sem, Nat.reduceEqDiff, Nat.reduceLT, Nat.reduceLeDiff, Nat.reduceAdd, Nat.reduceSub, Nat.reduceMul, Nat.reduceBEq, Nat.reduceBNe, Int.reduceEq, Int.reduceToNat, Int.reduceNeg, ↓reduceIte, reduceCtorEq, Nat.reduceDiv, Nat.reduceMod, Int.reduceLE, Int.reduceLT, Int.reduceSub, Int.reduceAdd, h1, hk2, hk3, hk4, hE, hsE, hsK, hn, hcan, hw]
      repeat (first | intro _ | refine And.intro (by (intros; first | omega | (simp only [Bool.or_eq_false_iff, Bool.or_eq_true, decide_eq_false_iff_not, beq_iff_eq, Bool.and_eq_true, decide_eq_true_eq, Bool.not_eq_true'] at *; omega) | simp_all)) ?_)
      refine ⟨i + 1, h1, by omega, ?_⟩
      refine ⟨rfl, rfl, ?_, by repeat (first | exact AgreeOff.refl _ _ | refine AgreeOff.upd rfl ?_ | refine AgreeOff.over rfl ?_), by repeat (first | exact AgreeOff.refl _ _ | refine AgreeOff.upd rfl ?_ | refine AgreeOff.over rfl ?_), by repeat (first | exact AgreeOff.refl _ _ | refine AgreeOff.upd rfl ?_ | refine AgreeOff.over rfl ?_), ?_, by repeat (first | trivial | exact .inr rfl | exact .inl rfl | refine ⟨?_, ?_⟩), by repeat (first | trivial | exact .inr rfl | exact .inl rfl | refine ⟨?_, ?_⟩), by repeat (first | trivial | exact .inr rfl | exact .inl rfl | refine ⟨?_, ?_⟩), by repeat (first | trivial | exact .inr rfl | exact .inl rfl | refine ⟨?_, ?_⟩), by repeat (first | trivial | exact .inr rfl | exact .inl rfl | refine ⟨?_, ?_⟩), by repeat (first | trivial | exact .inr rfl | exact .inl rfl | refine ⟨?_, ?_⟩)⟩
      · have := hfin true (by rw [usesE_eq, hereE, if_neg hk2, if_neg hk3, if_neg hk4]; rfl)
        rw [Bool.and_true] at this
        exact this
      · exact ⟨rfl, trivial⟩
  · simp only [decide_eq_false_iff_not, Int.ofNat_lt] at h1
    simp only [Tryz.f133, go_sem, Nat.reduceEqDiff, Nat.reduceLT, Nat.reduceLeDiff, Nat.reduceAdd, Nat.reduceSub, Nat.reduceMul, Nat.reduceBEq, Nat.reduceBNe, Int.reduceEq, Int.reduceToNat, Int.reduceNeg, ↓reduceIte, reduceCtorEq, Nat.reduceDiv, Nat.reduceMod, Int.reduceLE, Int.reduceLT, Int.reduceSub, Int.reduceAdd]
    have hi' : i = l.length := by omega
    subst hi'
    rw [List.take_length, usesEs_all]

theorem exprsT_all (hT : Told G C caps S U g) : ∀ n, ExprsT G C caps S U g n
  | 0 => fun l ok h => absurd h.1 (by omega)
  | n + 1 => exprsT_step hT n (exprsT_all hT n)
theorem exprsT_c (hT : Told G C caps S U g) (l : List Ex) (ok : Bool) (h : ∀ u ∈ usesEs l, U u) : VCalls Tryz.prog G 133 [.slice (l.map encE), .func C caps] (S ok) fun e s' => e = .ret (.tup []) ∧ s' = S (ok && (usesEs l).all g) :=
  exprsT_all hT (szEs l + 1) l ok ⟨by omega, h⟩
end
end Go.Proofs.YtaackmiajgapoaaGreatDoor.V
