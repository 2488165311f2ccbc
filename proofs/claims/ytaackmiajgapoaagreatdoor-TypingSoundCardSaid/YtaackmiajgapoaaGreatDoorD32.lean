/- All names (scope). -/
import Derived.Test.YtaackmiajgapoaaGreatDoorD31
set_option maxRecDepth 100000
set_option maxHeartbeats 16000000
set_option linter.unusedSimpArgs false
set_option linter.unusedVariables false
namespace Go.Proofs.YtaackmiajgapoaaGreatDoor.V
open Go
variable {G : Nat → Option (List PV)}

/-- What the program's bounds ask. -/
structure nmOk (p : Pg) : Prop where
  own : ownOk p
  all : (p.vars.length + p.arrays.length + p.funcs.length) * 16 ≤ 140737488355328
  sz : ∀ s ∈ p.vars, s.size ≤ maxLen

/-- The state of a closure that is told of uses: the program, what it told, the numbers of the functions so far. -/
def nst (sh : Sh) (p : Pg) (i : Nat) (ok : Bool) : Sh :=
  { next := sh.next + 2 + i, mem := fun b => if b = sh.next then some (encP p) else if b = sh.next + 1 then some [.val (.bool ok)] else if sh.next + 2 ≤ b ∧ b < sh.next + 2 + i then some [.val (.int .i64 ((b - (sh.next + 2) : Nat) : Int))] else sh.mem b }
theorem nst_p (sh : Sh) (p : Pg) (i : Nat) (ok : Bool) : (nst sh p i ok).mem sh.next = some [.slice (encT p.vars), .slice (p.arrays.map encA), .slice (p.funcs.map encF)] := if_pos rfl
theorem nst_ok (sh : Sh) (p : Pg) (i : Nat) (ok : Bool) : (nst sh p i ok).mem (sh.next + 1) = some [.val (.bool ok)] := by
  show (if _ then _ else if _ then _ else _) = _
  rw [if_neg (by omega), if_pos rfl]
theorem nst_i (sh : Sh) (p : Pg) (i : Nat) (ok : Bool) : (nst sh p (i + 1) ok).mem (sh.next + 2 + i) = some [.val (.int .i64 (i : Int))] := by
  show (if _ then _ else if _ then _ else if _ then _ else _) = _
  rw [if_neg (by omega), if_neg (by omega), if_pos (by omega)]
  rw [show sh.next + 2 + i - (sh.next + 2) = i by omega]
theorem nst_inj (sh : Sh) (p : Pg) (i : Nat) (a b : Bool) (h : nst sh p i a = nst sh p i b) : a = b := by
  have h2 := congrArg (fun s : Sh => s.mem (sh.next + 1)) h
  simp only [nst_ok, Option.some.injEq, List.cons.injEq, PV.val.injEq, Value.bool.injEq, and_true] at h2
  exact h2
theorem nst_set (sh : Sh) (p : Pg) (i : Nat) (a b : Bool) : setB (nst sh p i a) (sh.next + 1) b = nst sh p i b := by
  unfold setB
  have e : upd (nst sh p i a).mem (sh.next + 1) (some [.val (.bool b)]) = (nst sh p i b).mem := by
    funext d
    simp only [upd, nst]
    repeat' split
    all_goals first | rfl | omega
  rw [e]; rfl
theorem nst_lt (sh : Sh) (p : Pg) (i : Nat) (ok : Bool) (b : Nat) (hb : b < sh.next) : (nst sh p i ok).mem b = sh.mem b := by
  show (if _ then _ else if _ then _ else if _ then _ else _) = _
  rw [if_neg (by omega), if_neg (by omega), if_neg (by omega)]

theorem nst_next (sh : Sh) (p : Pg) (i : Nat) (ok : Bool) : ({ next := (nst sh p i ok).next + 1, mem := upd (nst sh p i ok).mem (nst sh p i ok).next (some [.val (.int .i64 (i : Int))]) } : Sh) = nst sh p (i + 1) ok := by
  have e : upd (nst sh p i ok).mem (nst sh p i ok).next (some [.val (.int .i64 (i : Int))]) = (nst sh p (i + 1) ok).mem := by
    funext d
    by_cases e1 : d = sh.next + 2 + i
    · subst e1
      exact (upd_same _ _ _).trans (nst_i sh p i ok).symm
    refine (upd_ne _ _ _ _ e1).trans ?_
    show (if _ then _ else if _ then _ else if _ then _ else _) = (if _ then _ else if _ then _ else if _ then _ else _)
    by_cases e2 : d = sh.next
    · rw [if_pos e2, if_pos e2]
    rw [if_neg e2, if_neg e2]
    by_cases e3 : d = sh.next + 1
    · rw [if_pos e3, if_pos e3]
    rw [if_neg e3, if_neg e3]
    by_cases e4 : sh.next + 2 ≤ d ∧ d < sh.next + 2 + i
    · rw [if_pos e4, if_pos (by omega)]
    · rw [if_neg e4, if_neg (by omega)]
  rw [e]; rfl
theorem nst_n (sh : Sh) (p : Pg) (i : Nat) (ok : Bool) : (nst sh p i ok).next = sh.next + 2 + i := rfl
theorem nst_next2 (sh : Sh) (p : Pg) (i : Nat) (ok : Bool) (a : Option (List PV)) : ({ next := sh.next + 2 + i + 1, mem := upd (upd (nst sh p i ok).mem (sh.next + 2 + i) a) (sh.next + 2 + i) (some [.val (.int .i64 (i : Int))]) } : Sh) = nst sh p (i + 1) ok := by
  rw [← nst_next]
  have e : upd (upd (nst sh p i ok).mem (sh.next + 2 + i) a) (sh.next + 2 + i) (some [.val (.int .i64 (i : Int))]) = upd (nst sh p i ok).mem (sh.next + 2 + i) (some [.val (.int .i64 (i : Int))]) := by
    funext d
    by_cases e1 : d = sh.next + 2 + i
    · subst e1
      exact (upd_same _ _ _).trans (upd_same _ _ _).symm
    · exact (upd_ne _ _ _ _ e1).trans ((upd_ne _ _ _ _ e1).trans (upd_ne _ _ _ _ e1).symm)
  rw [e]; rfl
theorem nst_zero (sh : Sh) (p : Pg) (ok : Bool) (m : Nat → Option (List PV)) (hm : ∀ b, b ≠ sh.next + 1 → m b = upd sh.mem sh.next (some (encP p)) b) (h1 : m (sh.next + 1) = some [.val (.bool ok)]) : ({ next := sh.next + 1 + 1, mem := m } : Sh) = nst sh p 0 ok := by
  have e : m = (nst sh p 0 ok).mem := by
    funext d
    by_cases e3 : d = sh.next + 1
    · subst e3; rw [h1]; exact (nst_ok sh p 0 ok).symm
    rw [hm d e3]
    simp only [upd, nst]
    by_cases e2 : d = sh.next
    · rw [if_pos e2, if_pos e2]
    rw [if_neg e2, if_neg e2, if_neg e3, if_neg (by omega)]
  rw [e]; rfl

theorem told_named (p : Pg) (hp : ownOk p) (sh : Sh) (i : Nat) : Told G 94 [.box sh.next 0, .box (sh.next + 2 + i) 0, .box (sh.next + 1) 0] (nst sh p (i + 1)) (fun _ => True) (nameG p i) where
  can := canCall_94
  n1 := by decide
  n2 := by decide
  inj := nst_inj sh p (i + 1)
  ok := fun u ok _ => (named1_c p hp _ _ _ i ok u _ (nst_p _ _ _ _) (nst_i _ _ _ _) (nst_ok _ _ _ _)).mono fun e s' h => ⟨h.1, by rw [h.2, nst_set]⟩
theorem told_counted (p : Pg) (hp : ownOk p) (sh : Sh) (i : Nat) : Told G 96 [.box sh.next 0, .box (sh.next + 2 + i) 0, .box (sh.next + 1) 0] (nst sh p (i + 1)) (countU p i) (countG p i) where
  can := canCall_96
  n1 := by decide
  n2 := by decide
  inj := nst_inj sh p (i + 1)
  ok := fun u ok hU => (counted1_c p hp _ _ _ i ok u hU _ (nst_p _ _ _ _) (nst_i _ _ _ _) (nst_ok _ _ _ _) (by omega)).mono fun e s' h => ⟨h.1, by rw [h.2, nst_set]⟩

/-- All names of a program. -/
def allN (p : Pg) : List ByteArray := p.vars ++ p.arrays.map (·.name) ++ p.funcs.map (·.name)
def okN (p : Pg) (i : Nat) : Bool := decide (allN p).Nodup && (List.range i).all fun j => (usesSs (elm p.funcs j).body).all (nameG p j)
theorem okN_succ (p : Pg) (i : Nat) : okN p (i + 1) = (okN p i && (usesSs (elm p.funcs i).body).all (nameG p i)) := by
  unfold okN
  rw [List.range_succ, List.all_append, ← Bool.and_assoc]
  simp
def lone (f : Fn) : Bool := decide (ownN f).Nodup
def namedP (p : Pg) : Bool := p.funcs.all lone && okN p p.funcs.length

theorem take_map_succ {α : Type} [Inhabited α] (f : α → ByteArray) {l : List α} {i : Nat} (h : i < l.length) : (l.take (i + 1)).map f = (l.take i).map f ++ [f (elm l i)] := by
  rw [List.take_add_one, List.getElem?_eq_getElem h, elm_eq h]
  show (l.take i ++ [l[i]]).map f = _
  rw [List.map_append]
  rfl

theorem namedAll_c (p : Pg) (hp : nmOk p) : VPure Tryz.prog G 58 [.agg (encP p)] (.val (.bool (namedP p))) := by
  refine VPure.of (.val _) fun sh => ?_
  have hsz := hp.all
  have hcl := fun sh => clone_own (G := G) p.vars sh (by omega) hp.sz
  obtain ⟨O, hO0, hsO⟩ := mkRule (P := Tryz.prog) (G := G) 92 Fn (fun f => [.agg (encF f)]) (fun f => .slice (encT (ownN f))) (fun f => (f.params.length + f.locals.length) * 16 ≤ 140737488355328)
    (by intro x y h; simp only [List.cons.injEq, PV.agg.injEq, encF_iff, and_true] at h; rw [h]) (fun f h => own_c f h)
  obtain ⟨N, hN0, hsN⟩ := mkRule (P := Tryz.prog) (G := G) 91 (List ByteArray) (fun l => [.slice (encT l)]) (fun l => .val (.bool (decide l.Nodup))) (fun l => l.length * 16 ≤ 140737488355328)
    (by intro x y h; simp only [List.cons.injEq, PV.slice.injEq, encT_iff, and_true] at h; rw [h]) (fun l h => unlike_c l h)
  have hown : ∀ i, i < p.funcs.length → ((elm p.funcs i).params.length + (elm p.funcs i).locals.length) * 16 ≤ 140737488355328 := by
    intro i hi
    have := hp.own (elm p.funcs i) (by rw [elm_eq hi]; exact List.getElem_mem hi)
    simpa [ownN] using this
  have hO : ∀ tl sh i, i < p.funcs.length → tab (O :: tl) 92 [.agg [.val (.string (elm p.funcs i).name), .slice (encT (elm p.funcs i).params), .slice (encT (elm p.funcs i).locals), .val (.bool (elm p.funcs i).word), .slice ((elm p.funcs i).body.map encS)]] sh = some (.slice (encT (ownN (elm p.funcs i))), sh) := fun tl sh i hi => hO0 tl (elm p.funcs i) sh (hown i hi)
  have hN : ∀ tl sh i, i < p.funcs.length → tab (N :: tl) 91 [.slice (encT (ownN (elm p.funcs i)))] sh = some (.val (.bool (lone (elm p.funcs i))), sh) := fun tl sh i hi => hN0 tl (ownN (elm p.funcs i)) sh (by have := hown i hi; simpa [ownN] using this)
  have hNa : ∀ tl sh, tab (N :: tl) 91 [.slice (encT (allN p))] sh = some (.val (.bool (decide (allN p).Nodup)), sh) := fun tl sh => hN0 tl (allN p) sh (by simp only [allN, List.length_append, List.length_map]; exact hsz)
  clear hO0 hN0
  refine VCalls_enter [1, 8, 9] Tryz.func58 rfl (show 1 ≤ 60 by decide) ?_
  simp only [encP]
  refine VWp_seq (vCode_sound (tab_ok []) _ _ _ ?_)
  simp only [Tryz.f58, go_sem, Nat.reduceEqDiff, Nat.reduceLT, Nat.reduceLeDiff, Nat.reduceAdd, Nat.reduceSub, Nat.reduceMul, Nat.reduceBEq, Nat.reduceBNe, Int.reduceEq, Int.reduceToNat, Int.reduceNeg, ↓reduceIte, reduceCtorEq, Nat.reduceDiv, Nat.reduceMod, Int.reduceLE, Int.reduceLT, Int.reduceSub, Int.reduceAdd]
  refine VWp_seq (VWp_own (tab_ok []) 2 rfl rfl rfl rfl rfl rfl (encT p.vars) 9 1 ?_)
  simp only [Tryz.f58, go_sem, Nat.reduceEqDiff, Nat.reduceLT, Nat.reduceLeDiff, Nat.reduceAdd, Nat.reduceSub, Nat.reduceMul, Nat.reduceBEq, Nat.reduceBNe, Int.reduceEq, Int.reduceToNat, Int.reduceNeg, ↓reduceIte, reduceCtorEq, Nat.reduceDiv, Nat.reduceMod, Int.reduceLE, Int.reduceLT, Int.reduceSub, Int.reduceAdd, ownK, hcl]
  refine vCode_sound (tab_ok [O, N]) _ _ _ ?_
  simp only [Tryz.f58, go_sem, Nat.reduceEqDiff, Nat.reduceLT, Nat.reduceLeDiff, Nat.reduceAdd, Nat.reduceSub, Nat.reduceMul, Nat.reduceBEq, Nat.reduceBNe, Int.reduceEq, Int.reduceToNat, Int.reduceNeg, ↓reduceIte, reduceCtorEq, Nat.reduceDiv, Nat.reduceMod, Int.reduceLE, Int.reduceLT, Int.reduceSub, Int.reduceAdd]
  repeat (first | intro _ | refine And.intro (by (intros; first | omega | (simp only [Bool.or_eq_false_iff, Bool.or_eq_true, decide_eq_false_iff_not, beq_iff_eq, Bool.and_eq_true, decide_eq_true_eq, Bool.not_eq_true'] at *; omega) | simp_all)) ?_)
  refine loop_intro (VWp_for [18, 19, 20, 5, 21, 22, 23, 24, 25, 3, 26, 17] (fun i : Nat => [(17, .val (.int .i64 i)), (3, .tsl 13 (p.vars.length + i))]) [5] (fun _ => []) [13, 24] (fun i => [(13, some ⟨encT (p.vars ++ (p.arrays.take i).map (·.name)), 9, 1, false⟩)]) (fun _ => { next := sh.next + 1, mem := upd sh.mem sh.next (some [.slice (encT p.vars), .slice (p.arrays.map encA), .slice (p.funcs.map encF)]) })
    (fun i => i ≤ p.arrays.length) (fun i => p.arrays.length - i) 0 (Nat.zero_le _) ?_ ?_)
  · refine ⟨rfl, rfl, rfl, .refl _ _, .refl _ _, .refl _ _, ?_, by repeat (first | trivial | rfl | refine ⟨?_, ?_⟩), ?_, by repeat (first | trivial | exact .inr rfl | exact .inl rfl | refine ⟨?_, ?_⟩), by repeat (first | trivial | exact .inr rfl | exact .inl rfl | refine ⟨?_, ?_⟩), by repeat (first | trivial | exact .inr rfl | exact .inl rfl | refine ⟨?_, ?_⟩), by repeat (first | trivial | exact .inr rfl | exact .inl rfl | refine ⟨?_, ?_⟩)⟩
    · exact ⟨rfl, rfl, trivial⟩
    · refine ⟨?_, trivial⟩
      rw [List.take_zero, List.map_nil, List.append_nil]
      rfl
  rintro i hi
  refine vCode_sound (tab_ok []) _ _ _ ?_
  simp only [Tryz.f58, go_sem, Nat.reduceEqDiff, Nat.reduceLT, Nat.reduceLeDiff, Nat.reduceAdd, Nat.reduceSub, Nat.reduceMul, Nat.reduceBEq, Nat.reduceBNe, Int.reduceEq, Int.reduceToNat, Int.reduceNeg, ↓reduceIte, reduceCtorEq, Nat.reduceDiv, Nat.reduceMod, Int.reduceLE, Int.reduceLT, Int.reduceSub, Int.reduceAdd]
  repeat (first | intro _ | refine And.intro (by (intros; first | omega | (simp only [Bool.or_eq_false_iff, Bool.or_eq_true, decide_eq_false_iff_not, beq_iff_eq, Bool.and_eq_true, decide_eq_true_eq, Bool.not_eq_true'] at *; omega) | simp_all)) ?_)
  have hel : (encT (p.vars ++ (p.arrays.take i).map (·.name))).length = p.vars.length + i := by rw [encT_length, List.length_append, List.length_map, List.length_take]; omega
  refine if_intro _ rfl trivial (fun h => ?_) (fun h => ?_)
  · simp only [decide_eq_true_eq, Int.ofNat_lt] at h
    have hw : IntKind.i64.wrap ((i : Int) + 1) = ((i + 1 : Nat) : Int) := by rw [wrap64_id (by omega) (by omega)]; rfl
    have hb1 : (p.vars.length + i + 1) * 16 ≤ 140737488355328 := by omega
    have hb2 : p.vars.length + i + 1 ≤ 9223372036854775807 := by omega
    simp only [Tryz.f58, go_sem, Nat.reduceEqDiff, Nat.reduceLT, Nat.reduceLeDiff, Nat.reduceAdd, Nat.reduceSub, Nat.reduceMul, Nat.reduceBEq, Nat.reduceBNe, Int.reduceEq, Int.reduceToNat, Int.reduceNeg, ↓reduceIte, reduceCtorEq, Nat.reduceDiv, Nat.reduceMod, Int.reduceLE, Int.reduceLT, Int.reduceSub, Int.reduceAdd, h, hw, vAppend, cv, asSlice, appendPre, hel, encT_length]
    repeat (first | intro _ | refine And.intro (by (intros; first | omega | (simp only [Bool.or_eq_false_iff, Bool.or_eq_true, decide_eq_false_iff_not, beq_iff_eq, Bool.and_eq_true, decide_eq_true_eq, Bool.not_eq_true'] at *; omega) | simp_all)) ?_)
    refine ⟨i + 1, h, by omega, ?_⟩
    refine ⟨rfl, rfl, rfl, by repeat (first | exact AgreeOff.refl _ _ | refine AgreeOff.upd rfl ?_ | refine AgreeOff.over rfl ?_), by repeat (first | exact AgreeOff.refl _ _ | refine AgreeOff.upd rfl ?_ | refine AgreeOff.over rfl ?_), by repeat (first | exact AgreeOff.refl _ _ | refine AgreeOff.upd rfl ?_ | refine AgreeOff.over rfl ?_), ?_, by repeat (first | trivial | exact .inr rfl | exact .inl rfl | refine ⟨?_, ?_⟩), ?_, by repeat (first | trivial | exact .inr rfl | exact .inl rfl | refine ⟨?_, ?_⟩), by repeat (first | trivial | exact .inr rfl | exact .inl rfl | refine ⟨?_, ?_⟩), by repeat (first | trivial | exact .inr rfl | exact .inl rfl | refine ⟨?_, ?_⟩), by repeat (first | trivial | exact .inr rfl | exact .inl rfl | refine ⟨?_, ?_⟩)⟩
    · refine ⟨rfl, ?_, trivial⟩
      rfl
    · refine ⟨?_, trivial⟩
      rw [take_map_succ _ h]
      show some (Chain.mk (encT (p.vars ++ (p.arrays.take i).map (·.name)) ++ encT [(elm p.arrays i).name]) 9 1 false) = _
      unfold encT
      rw [← List.map_append, List.append_assoc]
  simp only [decide_eq_false_iff_not, Int.ofNat_lt] at h
  have hi' : i = p.arrays.length := by omega
  subst hi'
  clear hi h
  rw [List.take_length] at *
  simp only [Tryz.f58, go_sem, Nat.reduceEqDiff, Nat.reduceLT, Nat.reduceLeDiff, Nat.reduceAdd, Nat.reduceSub, Nat.reduceMul, Nat.reduceBEq, Nat.reduceBNe, Int.reduceEq, Int.reduceToNat, Int.reduceNeg, ↓reduceIte, reduceCtorEq, Nat.reduceDiv, Nat.reduceMod, Int.reduceLE, Int.reduceLT, Int.reduceSub, Int.reduceAdd]
  repeat (first | intro _ | refine And.intro (by (intros; first | omega | (simp only [Bool.or_eq_false_iff, Bool.or_eq_true, decide_eq_false_iff_not, beq_iff_eq, Bool.and_eq_true, decide_eq_true_eq, Bool.not_eq_true'] at *; omega) | simp_all)) ?_)
  clear hel
  refine loop_intro (VWp_for [31, 32, 33, 7, 34, 35, 36, 37, 38, 3, 39, 40, 41, 42, 2, 43, 30] (fun i : Nat => [(30, .val (.int .i64 i)), (3, .tsl 13 (p.vars.length + p.arrays.length + i))]) [7] (fun _ => []) [13, 37] (fun i => [(13, some ⟨encT (p.vars ++ p.arrays.map (·.name) ++ (p.funcs.take i).map (·.name)), 9, 1, false⟩)]) (fun _ => { next := sh.next + 1, mem := upd sh.mem sh.next (some [.slice (encT p.vars), .slice (p.arrays.map encA), .slice (p.funcs.map encF)]) })
    (fun i => i ≤ p.funcs.length ∧ ∀ j, j < i → lone (elm p.funcs j) = true) (fun i => p.funcs.length - i) 0 ⟨Nat.zero_le _, fun j h => by omega⟩ ?_ ?_)
  · refine ⟨rfl, rfl, rfl, .refl _ _, .refl _ _, .refl _ _, ?_, by repeat (first | trivial | rfl | refine ⟨?_, ?_⟩), ?_, by repeat (first | trivial | exact .inr rfl | exact .inl rfl | refine ⟨?_, ?_⟩), by repeat (first | trivial | exact .inr rfl | exact .inl rfl | refine ⟨?_, ?_⟩), by repeat (first | trivial | exact .inr rfl | exact .inl rfl | refine ⟨?_, ?_⟩), by repeat (first | trivial | exact .inr rfl | exact .inl rfl | refine ⟨?_, ?_⟩)⟩
    · exact ⟨rfl, rfl, trivial⟩
    · refine ⟨?_, trivial⟩
      rw [List.take_zero, List.map_nil, List.append_nil]
      rfl
  rintro i ⟨hi, hne⟩
  refine vCode_sound (tab_ok [O, N]) _ _ _ ?_
  simp only [Tryz.f58, go_sem, Nat.reduceEqDiff, Nat.reduceLT, Nat.reduceLeDiff, Nat.reduceAdd, Nat.reduceSub, Nat.reduceMul, Nat.reduceBEq, Nat.reduceBNe, Int.reduceEq, Int.reduceToNat, Int.reduceNeg, ↓reduceIte, reduceCtorEq, Nat.reduceDiv, Nat.reduceMod, Int.reduceLE, Int.reduceLT, Int.reduceSub, Int.reduceAdd]
  repeat (first | intro _ | refine And.intro (by (intros; first | omega | (simp only [Bool.or_eq_false_iff, Bool.or_eq_true, decide_eq_false_iff_not, beq_iff_eq, Bool.and_eq_true, decide_eq_true_eq, Bool.not_eq_true'] at *; omega) | simp_all)) ?_)
  have hel : (encT (p.vars ++ p.arrays.map (·.name) ++ (p.funcs.take i).map (·.name))).length = p.vars.length + p.arrays.length + i := by rw [encT_length, List.length_append, List.length_append, List.length_map, List.length_map, List.length_take]; omega
  refine if_intro _ rfl trivial (fun h => ?_) (fun h => ?_)
  · simp only [decide_eq_true_eq, Int.ofNat_lt] at h
    have hw : IntKind.i64.wrap ((i : Int) + 1) = ((i + 1 : Nat) : Int) := by rw [wrap64_id (by omega) (by omega)]; rfl
    have hb1 : (p.vars.length + p.arrays.length + i + 1) * 16 ≤ 140737488355328 := by omega
    have hb2 : p.vars.length + p.arrays.length + i + 1 ≤ 9223372036854775807 := by omega
    simp only [Tryz.f58, go_sem, Nat.reduceEqDiff, Nat.reduceLT, Nat.reduceLeDiff, Nat.reduceAdd, Nat.reduceSub, Nat.reduceMul, Nat.reduceBEq, Nat.reduceBNe, Int.reduceEq, Int.reduceToNat, Int.reduceNeg, ↓reduceIte, reduceCtorEq, Nat.reduceDiv, Nat.reduceMod, Int.reduceLE, Int.reduceLT, Int.reduceSub, Int.reduceAdd, h, vAppend, cv, asSlice, appendPre, hel, encT_length, hO, hsO, hN, hsN]
    repeat (first | intro _ | refine And.intro (by (intros; first | omega | (simp only [Bool.or_eq_false_iff, Bool.or_eq_true, decide_eq_false_iff_not, beq_iff_eq, Bool.and_eq_true, decide_eq_true_eq, Bool.not_eq_true'] at *; omega) | simp_all)) ?_)
    refine if_intro _ rfl trivial (fun h2 => ?_) (fun h2 => ?_)
    · simp only [Tryz.f58, go_sem, Nat.reduceEqDiff, Nat.reduceLT, Nat.reduceLeDiff, Nat.reduceAdd, Nat.reduceSub, Nat.reduceMul, Nat.reduceBEq, Nat.reduceBNe, Int.reduceEq, Int.reduceToNat, Int.reduceNeg, ↓reduceIte, reduceCtorEq, Nat.reduceDiv, Nat.reduceMod, Int.reduceLE, Int.reduceLT, Int.reduceSub, Int.reduceAdd]
      have h3 : lone (elm p.funcs i) = false := by simpa using h2
      refine ⟨?_, ?_⟩
      · rw [namedP, all_at h h3, Bool.false_and]
      · intro b hb
        exact upd_ne _ _ _ _ (by omega)
    · simp only [Tryz.f58, go_sem, Nat.reduceEqDiff, Nat.reduceLT, Nat.reduceLeDiff, Nat.reduceAdd, Nat.reduceSub, Nat.reduceMul, Nat.reduceBEq, Nat.reduceBNe, Int.reduceEq, Int.reduceToNat, Int.reduceNeg, ↓reduceIte, reduceCtorEq, Nat.reduceDiv, Nat.reduceMod, Int.reduceLE, Int.reduceLT, Int.reduceSub, Int.reduceAdd, hw]
      have h3 : lone (elm p.funcs i) = true := by simpa using h2
      refine ⟨i + 1, ⟨h, fun j hj => ?_⟩, by omega, ?_⟩
      · by_cases e : j = i
        · subst e; exact h3
        · exact hne j (by omega)
      refine ⟨rfl, rfl, rfl, by repeat (first | exact AgreeOff.refl _ _ | refine AgreeOff.upd rfl ?_ | refine AgreeOff.over rfl ?_), by repeat (first | exact AgreeOff.refl _ _ | refine AgreeOff.upd rfl ?_ | refine AgreeOff.over rfl ?_), by repeat (first | exact AgreeOff.refl _ _ | refine AgreeOff.upd rfl ?_ | refine AgreeOff.over rfl ?_), ?_, by repeat (first | trivial | exact .inr rfl | exact .inl rfl | refine ⟨?_, ?_⟩), ?_, by repeat (first | trivial | exact .inr rfl | exact .inl rfl | refine ⟨?_, ?_⟩), by repeat (first | trivial | exact .inr rfl | exact .inl rfl | refine ⟨?_, ?_⟩), by repeat (first | trivial | exact .inr rfl | exact .inl rfl | refine ⟨?_, ?_⟩), by repeat (first | trivial | exact .inr rfl | exact .inl rfl | refine ⟨?_, ?_⟩)⟩
      · refine ⟨rfl, ?_, trivial⟩
        rfl
      · refine ⟨?_, trivial⟩
        rw [take_map_succ _ h]
        show some (Chain.mk (encT (p.vars ++ p.arrays.map (·.name) ++ (p.funcs.take i).map (·.name)) ++ encT [(elm p.funcs i).name]) 9 1 false) = _
        unfold encT
        rw [← List.map_append, List.append_assoc (p.vars ++ _)]
  simp only [decide_eq_false_iff_not, Int.ofNat_lt] at h
  have hi' : i = p.funcs.length := by omega
  subst hi'
  have hlone : p.funcs.all lone = true := (all_of fun j hj => hne j (by omega))
  clear hi h hne
  rw [List.take_length] at *
  rw [show p.vars ++ p.arrays.map (·.name) ++ p.funcs.map (·.name) = allN p from rfl] at *
  have hal : (allN p).length = p.vars.length + p.arrays.length + p.funcs.length := by rw [← hel, encT_length]
  have hn1 : (sh.next = sh.next + 1) = False := eq_false (by omega)
  have hn2 : (sh.next + 1 = sh.next) = False := eq_false (by omega)
  simp only [Tryz.f58, go_sem, Nat.reduceEqDiff, Nat.reduceLT, Nat.reduceLeDiff, Nat.reduceAdd, Nat.reduceSub, Nat.reduceMul, Nat.reduceBEq, Nat.reduceBNe, Int.reduceEq, Int.reduceToNat, Int.reduceNeg, ↓reduceIte, reduceCtorEq, Nat.reduceDiv, Nat.reduceMod, Int.reduceLE, Int.reduceLT, Int.reduceSub, Int.reduceAdd, hNa, hsN, hO, hsO, hn1, hn2]
  repeat (first | intro _ | refine And.intro (by (intros; first | omega | (simp only [Bool.or_eq_false_iff, Bool.or_eq_true, decide_eq_false_iff_not, beq_iff_eq, Bool.and_eq_true, decide_eq_true_eq, Bool.not_eq_true'] at *; omega) | simp_all)) ?_)
  refine loop_intro (VWp_for [50, 51, 52, 53, 9, 10, 54, 55, 56, 57, 58, 49] (fun i : Nat => [(49, .val (.int .i64 i))]) [10] (fun _ => []) [] (fun _ => []) (fun i => nst sh p i (okN p i))
    (fun i => i ≤ p.funcs.length) (fun i => p.funcs.length - i) 0 (Nat.zero_le _) ?_ ?_)
  · refine ⟨rfl, rfl, ?_, .refl _ _, .refl _ _, .refl _ _, by repeat (first | trivial | rfl | refine ⟨?_, ?_⟩), by repeat (first | trivial | rfl | refine ⟨?_, ?_⟩), by repeat (first | trivial | rfl | refine ⟨?_, ?_⟩), by repeat (first | trivial | exact .inr rfl | exact .inl rfl | refine ⟨?_, ?_⟩), by repeat (first | trivial | exact .inr rfl | exact .inl rfl | refine ⟨?_, ?_⟩), by repeat (first | trivial | exact .inr rfl | exact .inl rfl | refine ⟨?_, ?_⟩), by repeat (first | trivial | exact .inr rfl | exact .inl rfl | refine ⟨?_, ?_⟩)⟩
    have h0 : okN p 0 = decide (allN p).Nodup := by simp [okN]
    rw [h0]
    exact nst_zero sh p _ _ (fun b hb => (upd_ne _ _ _ _ hb).trans (upd_ne _ _ _ _ hb)) (upd_same _ _ _)
  rintro i hi
  obtain ⟨K, hK, hsK⟩ := oneRule (stmtsT_c (G := G) (told_named p hp.own sh i) (elm p.funcs i).body (okN p i) fun _ _ => trivial)
  refine vCode_sound (tab_ok [K]) _ _ _ ?_
  simp only [Tryz.f58, go_sem, Nat.reduceEqDiff, Nat.reduceLT, Nat.reduceLeDiff, Nat.reduceAdd, Nat.reduceSub, Nat.reduceMul, Nat.reduceBEq, Nat.reduceBNe, Int.reduceEq, Int.reduceToNat, Int.reduceNeg, ↓reduceIte, reduceCtorEq, Nat.reduceDiv, Nat.reduceMod, Int.reduceLE, Int.reduceLT, Int.reduceSub, Int.reduceAdd]
  repeat (first | intro _ | refine And.intro (by (intros; first | omega | (simp only [Bool.or_eq_false_iff, Bool.or_eq_true, decide_eq_false_iff_not, beq_iff_eq, Bool.and_eq_true, decide_eq_true_eq, Bool.not_eq_true'] at *; omega) | simp_all)) ?_)
  refine if_intro _ rfl trivial (fun h => ?_) (fun h => ?_)
  · simp only [decide_eq_true_eq, Int.ofNat_lt] at h
    have hw : IntKind.i64.wrap ((i : Int) + 1) = ((i + 1 : Nat) : Int) := by rw [wrap64_id (by omega) (by omega)]; rfl
    simp only [Tryz.f58, go_sem, Nat.reduceEqDiff, Nat.reduceLT, Nat.reduceLeDiff, Nat.reduceAdd, Nat.reduceSub, Nat.reduceMul, Nat.reduceBEq, Nat.reduceBNe, Int.reduceEq, Int.reduceToNat, Int.reduceNeg, ↓reduceIte, reduceCtorEq, Nat.reduceDiv, Nat.reduceMod, Int.reduceLE, Int.reduceLT, Int.reduceSub, Int.reduceAdd, h, nst_n, nst_next2, nst_p, nst_ok, hK, hsK, canCall_94, hw]
    repeat (first | intro _ | refine And.intro (by (intros; first | omega | (simp only [Bool.or_eq_false_iff, Bool.or_eq_true, decide_eq_false_iff_not, beq_iff_eq, Bool.and_eq_true, decide_eq_true_eq, Bool.not_eq_true'] at *; omega) | simp_all)) ?_)
    refine ⟨i + 1, h, by omega, ?_⟩
    refine ⟨rfl, rfl, ?_, by repeat (first | exact AgreeOff.refl _ _ | refine AgreeOff.upd rfl ?_ | refine AgreeOff.over rfl ?_), by repeat (first | exact AgreeOff.refl _ _ | refine AgreeOff.upd rfl ?_ | refine AgreeOff.over rfl ?_), by repeat (first | exact AgreeOff.refl _ _ | refine AgreeOff.upd rfl ?_ | refine AgreeOff.over rfl ?_), ?_, by repeat (first | trivial | exact .inr rfl | exact .inl rfl | refine ⟨?_, ?_⟩), by repeat (first | trivial | exact .inr rfl | exact .inl rfl | refine ⟨?_, ?_⟩), by repeat (first | trivial | exact .inr rfl | exact .inl rfl | refine ⟨?_, ?_⟩), by repeat (first | trivial | exact .inr rfl | exact .inl rfl | refine ⟨?_, ?_⟩), by repeat (first | trivial | exact .inr rfl | exact .inl rfl | refine ⟨?_, ?_⟩), by repeat (first | trivial | exact .inr rfl | exact .inl rfl | refine ⟨?_, ?_⟩)⟩
    · show nst _ _ _ _ = nst _ _ _ _
      rw [okN_succ]
    · exact ⟨rfl, trivial⟩
  simp only [decide_eq_false_iff_not, Int.ofNat_lt] at h
  have hi' : i = p.funcs.length := by omega
  subst hi'
  simp only [Tryz.f58, go_sem, Nat.reduceEqDiff, Nat.reduceLT, Nat.reduceLeDiff, Nat.reduceAdd, Nat.reduceSub, Nat.reduceMul, Nat.reduceBEq, Nat.reduceBNe, Int.reduceEq, Int.reduceToNat, Int.reduceNeg, ↓reduceIte, reduceCtorEq, Nat.reduceDiv, Nat.reduceMod, Int.reduceLE, Int.reduceLT, Int.reduceSub, Int.reduceAdd, nst_n, nst_p, nst_ok]
  refine ⟨?_, fun b hb => nst_lt _ _ _ _ _ hb⟩
  rw [namedP, hlone, Bool.true_and]
end Go.Proofs.YtaackmiajgapoaaGreatDoor.V
