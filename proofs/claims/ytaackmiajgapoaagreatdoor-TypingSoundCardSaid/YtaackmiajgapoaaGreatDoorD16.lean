/- The checker (typing): an expression's type. -/
import Derived.Test.YtaackmiajgapoaaGreatDoorDA
set_option maxHeartbeats 16000000
set_option maxRecDepth 100000
set_option linter.unusedSimpArgs false
set_option linter.unusedVariables false
namespace Go.Proofs.YtaackmiajgapoaaGreatDoor.V
open Go
variable {G : Nat → Option (List PV)}

/-- Kinds of expressions that the checker knows; what has no parts. -/
def kdK (k : Int) (n : Nat) : Bool := decide (1 ≤ k) && decide (k ≤ 9) && (!(decide (k = 1) || decide (k = 2) || decide (k = 5)) || decide (n = 0))
mutual
def kdE : Ex → Bool
  | .mk k _ _ _ l => kdK k l.length && kdEs l
def kdEs : List Ex → Bool
  | [] => true
  | e :: r => kdE e && kdEs r
end
theorem kdEs_all : ∀ l : List Ex, kdEs l = l.all kdE
  | [] => rfl
  | e :: r => by rw [kdEs, kdEs_all r]; rfl
theorem kdE_eq (e : Ex) : kdE e = (kdK e.kind e.kids.length && e.kids.all kdE) := by
  cases e with | mk k o n s l => rw [kdE, kdEs_all]; rfl

def AllC (G : Nat → Option (List PV)) (p : Pg) (n : Nat) : Prop := ∀ (b : Nat) (x : List Ex × Int) (lost : Bool) (sh : Sh), b < sh.next → sh.mem b = some (ck p lost) → (szEs x.1 < n ∧ x.1.all kdE = true) →
  VCalls Tryz.prog G 119 [.box b 0, .slice (x.1.map encE), .val (.int .i64 x.2)] sh fun e s' => e = .ret (.val (.bool (x.1.all fun e => decide (tyE p e = x.2)))) ∧ s' = setLost sh b p (lost || !x.1.all (knE p))
def OfC (G : Nat → Option (List PV)) (p : Pg) (n : Nat) : Prop := ∀ (b : Nat) (x : Ex) (lost : Bool) (sh : Sh), b < sh.next → sh.mem b = some (ck p lost) → (szE x < n ∧ kdE x = true) →
  VCalls Tryz.prog G 52 [.box b 0, .agg (encE x)] sh fun e s' => e = .ret (.val (.int .i64 (tyE p x))) ∧ s' = setLost sh b p (lost || !knE p x)

theorem allRule {p : Pg} {n : Nat} (h : AllC G p n) : ∃ R : Rule Tryz.prog G, (∀ tl (b : Nat) (x : List Ex × Int) lost sh, b < sh.next → sh.mem b = some (ck p lost) → (szEs x.1 < n ∧ x.1.all kdE = true) →
    tab (R :: tl) 119 [.box b 0, .slice (x.1.map encE), .val (.int .i64 x.2)] sh = some (.val (.bool (x.1.all fun e => decide (tyE p e = x.2))), setLost sh b p (lost || !x.1.all (knE p)))) ∧ ∀ tl g args sh, g ≠ 119 → tab (R :: tl) g args sh = tab tl g args sh :=
  ckRule p 119 (fun b (x : List Ex × Int) => [.box b 0, .slice (x.1.map encE), .val (.int .i64 x.2)]) (fun x => .val (.bool (x.1.all fun e => decide (tyE p e = x.2)))) (fun x => !x.1.all (knE p)) (fun x => szEs x.1 < n ∧ x.1.all kdE = true)
    (by rintro b ⟨x, k⟩ b' ⟨x', k'⟩ h; simp only [List.cons.injEq, PV.box.injEq, PV.slice.injEq, PV.val.injEq, Value.int.injEq, encEs_iff, true_and, and_true] at h; obtain ⟨rfl, rfl, rfl⟩ := h; exact ⟨rfl, rfl⟩)
    h

def CloC (G : Nat → Option (List PV)) (p : Pg) (f : FuncId) (e : Ex) : Prop := ∀ (lost : Bool) (b nb : Nat) (sh : Sh), b < sh.next → sh.mem b = some (ck p lost) → sh.mem nb = some [.box b 0] →
  VCalls Tryz.prog G f [.agg (encE e), .box nb 0] sh fun x s' => x = .ret (.val (.int .i64 (tyE p e))) ∧ s' = setLost sh b p (lost || !knE p e)

theorem clo_bools (p : Pg) (n : Nat) (h : AllC G p n) (e : Ex) (he : szEs e.kids < n) (hk : e.kids.all kdE = true) (hkind : e.kind = 7 ∨ e.kind = 8 ∨ e.kind = 9) : CloC G p 117 e := by
  intro lost b nb sh hn hb hnb
  obtain ⟨R, hR0, hs⟩ := allRule h
  have hR : ∀ tl, tab (R :: tl) 119 [.box b 0, .slice (e.kids.map encE), .val (.int .i64 2)] sh = some (.val (.bool (e.kids.all fun e => decide (tyE p e = 2))), setLost sh b p (lost || !e.kids.all (knE p))) :=
    fun tl => hR0 tl b (e.kids, 2) lost sh hn hb ⟨he, hk⟩
  clear hR0
  refine VCalls_enter [] Tryz.func117 rfl (show 2 ≤ 9 by decide) ?_
  refine vCode_sound (tab_ok [R, r103]) _ _ _ ?_
  have hty : tyE p e = cond (e.kids.all fun e => decide (tyE p e = 2)) 2 0 := by
    rw [tyE_eq]
    generalize (e.kids.all fun e => decide (tyE p e = 2)) = bb
    rcases hkind with hk | hk | hk <;> rw [hk] <;> cases bb <;> rfl
  have hkn : knE p e = e.kids.all (knE p) := by
    rw [knE_eq]
    rcases hkind with hk | hk | hk <;> rw [hk] <;> simp
  rw [hty, hkn]
  simp only [Tryz.f117, go_sem, Nat.reduceEqDiff, Nat.reduceLT, Nat.reduceLeDiff, Nat.reduceAdd, Nat.reduceSub, Nat.reduceMul, Nat.reduceBEq, Nat.reduceBNe, Int.reduceEq, Int.reduceToNat, Int.reduceNeg, ↓reduceIte, reduceCtorEq, Nat.reduceDiv, Nat.reduceMod, Int.reduceLE, Int.reduceLT, Int.reduceSub, Int.reduceAdd, r103_at, r103_skip, hR, hs, hnb]

theorem clo_index (p : Pg) (n : Nat) (h : AllC G p n) (e : Ex) (he : szEs e.kids < n) (hk : e.kids.all kdE = true) (hkind : e.kind = 3) : CloC G p 120 e := by
  intro lost b nb sh hn hb hnb
  obtain ⟨R, hR0, hs⟩ := allRule h
  have hR : ∀ tl, tab (R :: tl) 119 [.box b 0, .slice (e.kids.map encE), .val (.int .i64 1)] sh = some (.val (.bool (e.kids.all fun e => decide (tyE p e = 1))), setLost sh b p (lost || !e.kids.all (knE p))) :=
    fun tl => hR0 tl b (e.kids, 1) lost sh hn hb ⟨he, hk⟩
  clear hR0
  refine VCalls_enter [] Tryz.func120 rfl (show 2 ≤ 9 by decide) ?_
  refine vCode_sound (tab_ok [R, r103]) _ _ _ ?_
  have hty : tyE p e = cond (e.kids.all fun e => decide (tyE p e = 1)) 1 0 := by
    rw [tyE_eq]
    generalize (e.kids.all fun e => decide (tyE p e = 1)) = bb
    rw [hkind]; cases bb <;> rfl
  have hkn : knE p e = e.kids.all (knE p) := by
    rw [knE_eq, hkind]; simp
  rw [hty, hkn]
  simp only [Tryz.f120, go_sem, Nat.reduceEqDiff, Nat.reduceLT, Nat.reduceLeDiff, Nat.reduceAdd, Nat.reduceSub, Nat.reduceMul, Nat.reduceBEq, Nat.reduceBNe, Int.reduceEq, Int.reduceToNat, Int.reduceNeg, ↓reduceIte, reduceCtorEq, Nat.reduceDiv, Nat.reduceMod, Int.reduceLE, Int.reduceLT, Int.reduceSub, Int.reduceAdd, r103_at, r103_skip, hR, hs, hnb]

theorem clo_op (p : Pg) (n : Nat) (h : AllC G p n) (e : Ex) (he : szEs e.kids < n) (hk : e.kids.all kdE = true) (hkind : e.kind = 6) : CloC G p 123 e := by
  intro lost b nb sh hn hb hnb
  obtain ⟨R, hR0, hs⟩ := allRule h
  have hR : ∀ tl, tab (R :: tl) 119 [.box b 0, .slice (e.kids.map encE), .val (.int .i64 1)] sh = some (.val (.bool (e.kids.all fun e => decide (tyE p e = 1))), setLost sh b p (lost || !e.kids.all (knE p))) :=
    fun tl => hR0 tl b (e.kids, 1) lost sh hn hb ⟨he, hk⟩
  clear hR0
  refine VCalls_enter [] Tryz.func123 rfl (show 2 ≤ 19 by decide) ?_
  refine vCode_sound (tab_ok [R, r103]) _ _ _ ?_
  have hty : tyE p e = cond (e.kids.all fun e => decide (tyE p e = 1)) (if e.op = 14 ∨ e.op = 15 then 2 else 1) 0 := by
    rw [tyE_eq]
    generalize (e.kids.all fun e => decide (tyE p e = 1)) = bb
    rw [hkind]; cases bb <;> rfl
  have hkn : knE p e = e.kids.all (knE p) := by
    rw [knE_eq, hkind]; simp
  rw [hty, hkn]
  simp only [Tryz.f123, go_sem, Nat.reduceEqDiff, Nat.reduceLT, Nat.reduceLeDiff, Nat.reduceAdd, Nat.reduceSub, Nat.reduceMul, Nat.reduceBEq, Nat.reduceBNe, Int.reduceEq, Int.reduceToNat, Int.reduceNeg, ↓reduceIte, reduceCtorEq, Nat.reduceDiv, Nat.reduceMod, Int.reduceLE, Int.reduceLT, Int.reduceSub, Int.reduceAdd, r103_at, r103_skip, hR, hs, hnb]
  repeat (first | intro _ | refine And.intro (by (intros; first | omega | (simp only [Bool.or_eq_false_iff, Bool.or_eq_true, decide_eq_false_iff_not, beq_iff_eq, Bool.and_eq_true, decide_eq_true_eq, Bool.not_eq_true'] at *; omega) | simp_all)) ?_)
  refine if_intro _ rfl trivial (fun h2 => ?_) (fun h2 => ?_)
  · rw [if_pos (by simpa using h2)]
    simp only [Tryz.f123, go_sem, Nat.reduceEqDiff, Nat.reduceLT, Nat.reduceLeDiff, Nat.reduceAdd, Nat.reduceSub, Nat.reduceMul, Nat.reduceBEq, Nat.reduceBNe, Int.reduceEq, Int.reduceToNat, Int.reduceNeg, ↓reduceIte, reduceCtorEq, Nat.reduceDiv, Nat.reduceMod, Int.reduceLE, Int.reduceLT, Int.reduceSub, Int.reduceAdd, r103_at, r103_skip, hR, hs, hnb]
  · rw [if_neg (by simpa using h2)]
    simp only [Tryz.f123, go_sem, Nat.reduceEqDiff, Nat.reduceLT, Nat.reduceLeDiff, Nat.reduceAdd, Nat.reduceSub, Nat.reduceMul, Nat.reduceBEq, Nat.reduceBNe, Int.reduceEq, Int.reduceToNat, Int.reduceNeg, ↓reduceIte, reduceCtorEq, Nat.reduceDiv, Nat.reduceMod, Int.reduceLE, Int.reduceLT, Int.reduceSub, Int.reduceAdd, r103_at, r103_skip, hR, hs, hnb]

theorem clo_call (p : Pg) (n : Nat) (h : AllC G p n) (e : Ex) (he : szEs e.kids < n) (hk : e.kids.all kdE = true) (hkind : e.kind = 4) : CloC G p 121 e := by
  intro lost b nb sh hn hb hnb
  obtain ⟨R, hR0, hs⟩ := allRule h
  obtain ⟨F, hF0, hs2⟩ := ckRule (G := G) p 122 (fun b (s : ByteArray) => [.box b 0, .val (.string s)]) (fun s => funRes p s) (fun s => decide (fnIdx p.funcs s < 0)) (fun _ => True)
    (by rintro b x b' x' h; simp only [List.cons.injEq, PV.box.injEq, PV.val.injEq, Value.string.injEq, true_and, and_true] at h; exact h)
    (fun b s lost sh h1 h2 _ => fun2_c p b s lost sh h1 h2)
  have hne : nb ≠ b := by
    rintro rfl
    rw [hb] at hnb
    simp [ck] at hnb
  have hF : ∀ tl, tab (F :: tl) 122 [.box b 0, .val (.string e.name)] sh = some (funRes p e.name, setLost sh b p (lost || decide (fnIdx p.funcs e.name < 0))) := fun tl => hF0 tl b e.name lost sh hn hb trivial
  have hR : ∀ tl l1, tab (R :: tl) 119 [.box b 0, .slice (e.kids.map encE), .val (.int .i64 1)] (setLost sh b p l1) = some (.val (.bool (e.kids.all fun e => decide (tyE p e = 1))), setLost sh b p (l1 || !e.kids.all (knE p))) := by
    intro tl l1
    have := hR0 tl b (e.kids, 1) l1 (setLost sh b p l1) hn (setLost_b _ _ _ _) ⟨he, hk⟩
    rw [setLost_twice] at this
    exact this
  clear hR0 hF0
  refine VCalls_enter [] Tryz.func121 rfl (show 2 ≤ 22 by decide) ?_
  refine vCode_sound (tab_ok [F, R, r103]) _ _ _ ?_
  have hty : tyE p e = cond ((e.kids.all fun e => decide (tyE p e = 1)) && fnWord p.funcs e.name) 1 0 := by
    rw [tyE_eq]
    generalize (e.kids.all fun e => decide (tyE p e = 1)) = bb
    rw [hkind]; cases bb <;> cases fnWord p.funcs e.name <;> rfl
  have hkn : knE p e = (!decide (fnIdx p.funcs e.name < 0) && e.kids.all (knE p)) := by
    rw [knE_eq, hkind]; simp
  have hlo : (lost || !knE p e) = (lost || decide (fnIdx p.funcs e.name < 0) || !e.kids.all (knE p)) := by
    rw [hkn]; cases lost <;> cases decide (fnIdx p.funcs e.name < 0) <;> cases e.kids.all (knE p) <;> rfl
  rw [hty, hlo]
  unfold fnWord
  have hmem := fun l => setLost_ne sh b p l hne
  rcases fnIdx_cases p.funcs e.name with hf | ⟨i, hi, hf⟩
  · have hfr : funRes p e.name = .tup [.agg [.val (.string ByteArray.empty), .nils, .nils, .val (.bool false), .nils], .val (.bool false)] := by
      unfold funRes; rw [hf]; rfl
    rw [hfr] at hF
    rw [hf] at hF ⊢
    simp only [Tryz.f121, go_sem, Nat.reduceEqDiff, Nat.reduceLT, Nat.reduceLeDiff, Nat.reduceAdd, Nat.reduceSub, Nat.reduceMul, Nat.reduceBEq, Nat.reduceBNe, Int.reduceEq, Int.reduceToNat, Int.reduceNeg, ↓reduceIte, reduceCtorEq, Nat.reduceDiv, Nat.reduceMod, Int.reduceLE, Int.reduceLT, Int.reduceSub, Int.reduceAdd, r103_at, r103_skip, hF, hR, hs, hs2, hnb, hmem]
    simp only [Bool.false_and]
  · have hfr : funRes p e.name = .tup [.agg [.val (.string (elm p.funcs i).name), .slice (encT (elm p.funcs i).params), .slice (encT (elm p.funcs i).locals), .val (.bool (elm p.funcs i).word), .slice ((elm p.funcs i).body.map encS)], .val (.bool true)] := by
      unfold funRes; rw [hf, if_pos (by omega)]; rfl
    rw [hfr] at hF
    rw [hf] at hF ⊢
    simp only [Tryz.f121, go_sem, Nat.reduceEqDiff, Nat.reduceLT, Nat.reduceLeDiff, Nat.reduceAdd, Nat.reduceSub, Nat.reduceMul, Nat.reduceBEq, Nat.reduceBNe, Int.reduceEq, Int.reduceToNat, Int.reduceNeg, ↓reduceIte, reduceCtorEq, Nat.reduceDiv, Nat.reduceMod, Int.reduceLE, Int.reduceLT, Int.reduceSub, Int.reduceAdd, r103_at, r103_skip, hF, hR, hs, hs2, hnb, hmem]

theorem canCall_116 : canCall Tryz.prog 116 = true := by rfl
theorem word_c (e : Ex) (sh : Sh) : VCalls Tryz.prog G 116 [.agg (encE e)] sh fun x s' => x = .ret (.val (.int .i64 1)) ∧ s' = sh := by
  refine VCalls_enter [] Tryz.func116 rfl (show 1 ≤ 3 by decide) ?_
  refine vCode_sound (tab_ok []) _ _ _ ?_
  simp only [Tryz.f116, go_sem, Nat.reduceEqDiff, Nat.reduceLT, Nat.reduceLeDiff, Nat.reduceAdd, Nat.reduceSub, Nat.reduceMul, Nat.reduceBEq, Nat.reduceBNe, Int.reduceEq, Int.reduceToNat, Int.reduceNeg, ↓reduceIte, reduceCtorEq, Nat.reduceDiv, Nat.reduceMod, Int.reduceLE, Int.reduceLT, Int.reduceSub, Int.reduceAdd]

/-- What a kind's rule answers. -/
theorem of_step (p : Pg) (n : Nat) (h : AllC G p n) : OfC G p (n + 1) := by
  intro b e lost sh hn hb ⟨he, hkd⟩
  rw [kdE_eq, Bool.and_eq_true] at hkd
  obtain ⟨hk1, hk2⟩ := hkd
  have hsz : szEs e.kids < n := by
    have : szE e = 1 + szEs e.kids := by cases e with | mk k o n s r => rfl
    omega
  have hnb : (rulesSh sh b).mem sh.next = some [.box b 0] := upd_same _ _ _
  have hb2 : (rulesSh sh b).mem b = some (ck p lost) := by
    show upd _ _ _ b = _
    rw [upd_ne _ _ _ _ (by omega)]; exact hb
  have hn2 : b < (rulesSh sh b).next := Nat.lt_succ_of_lt hn
  obtain ⟨R, hR, hs⟩ := oneRule (rules_c (G := G) b sh hn)
  have clo : ∀ f : FuncId, CloC G p f e → ∃ C : Rule Tryz.prog G, (∀ tl, tab (C :: tl) f [.agg (encE e), .box sh.next 0] (rulesSh sh b) = some (.val (.int .i64 (tyE p e)), setLost (rulesSh sh b) b p (lost || !knE p e))) ∧ ∀ tl g args sh, g ≠ f → tab (C :: tl) g args sh = tab tl g args sh :=
    fun f hf => oneRule (hf lost b sh.next (rulesSh sh b) hn2 hb2 hnb)
  refine VCalls.gc2 (R := fun r s' => r = .ret (.val (.int .i64 (tyE p e))) ∧ s' = setLost (rulesSh sh b) b p (lost || !knE p e)) ?_ ?_
  · refine VCalls_enter [] Tryz.func52 rfl (show 2 ≤ 12 by decide) ?_
    unfold kdK at hk1
    simp only [Bool.and_eq_true, decide_eq_true_eq] at hk1
    have hkind : e.kind = 3 ∨ e.kind = 4 ∨ e.kind = 6 ∨ (e.kind = 7 ∨ e.kind = 8 ∨ e.kind = 9) ∨ (e.kind = 1 ∨ e.kind = 2 ∨ e.kind = 5) := by omega
    rcases hkind with hk | hk | hk | hk | hk
    · obtain ⟨C, hC, hs2⟩ := clo 120 (clo_index p n h e hsz hk2 hk)
      rw [encE_eq, hk] at hC
      refine vCode_sound (tab_ok [R, C]) _ _ _ ?_
      simp only [Tryz.f52, go_sem, Nat.reduceEqDiff, Nat.reduceLT, Nat.reduceLeDiff, Nat.reduceAdd, Nat.reduceSub, Nat.reduceMul, Nat.reduceBEq, Nat.reduceBNe, Int.reduceEq, Int.reduceToNat, Int.reduceNeg, ↓reduceIte, reduceCtorEq, Nat.reduceDiv, Nat.reduceMod, Int.reduceLE, Int.reduceLT, Int.reduceSub, Int.reduceAdd]
      refine draw_intro (tab_ok [R, C]) mixed [(true, 0), (true, 2), (true, 3), (true, 5), (false, 1), (true, 4), (false, 6), (true, 7)] rfl ?_
      simp only [Tryz.f52, go_sem, Nat.reduceEqDiff, Nat.reduceLT, Nat.reduceLeDiff, Nat.reduceAdd, Nat.reduceSub, Nat.reduceMul, Nat.reduceBEq, Nat.reduceBNe, Int.reduceEq, Int.reduceToNat, Int.reduceNeg, ↓reduceIte, reduceCtorEq, Nat.reduceDiv, Nat.reduceMod, Int.reduceLE, Int.reduceLT, Int.reduceSub, Int.reduceAdd, hR, hC, hs, hs2, hk, rulesPV, canCall_120]
    · obtain ⟨C, hC, hs2⟩ := clo 121 (clo_call p n h e hsz hk2 hk)
      rw [encE_eq, hk] at hC
      refine vCode_sound (tab_ok [R, C]) _ _ _ ?_
      simp only [Tryz.f52, go_sem, Nat.reduceEqDiff, Nat.reduceLT, Nat.reduceLeDiff, Nat.reduceAdd, Nat.reduceSub, Nat.reduceMul, Nat.reduceBEq, Nat.reduceBNe, Int.reduceEq, Int.reduceToNat, Int.reduceNeg, ↓reduceIte, reduceCtorEq, Nat.reduceDiv, Nat.reduceMod, Int.reduceLE, Int.reduceLT, Int.reduceSub, Int.reduceAdd]
      refine draw_intro (tab_ok [R, C]) mixed [(true, 0), (true, 2), (true, 3), (true, 5), (false, 1), (true, 4), (false, 6), (true, 7)] rfl ?_
      simp only [Tryz.f52, go_sem, Nat.reduceEqDiff, Nat.reduceLT, Nat.reduceLeDiff, Nat.reduceAdd, Nat.reduceSub, Nat.reduceMul, Nat.reduceBEq, Nat.reduceBNe, Int.reduceEq, Int.reduceToNat, Int.reduceNeg, ↓reduceIte, reduceCtorEq, Nat.reduceDiv, Nat.reduceMod, Int.reduceLE, Int.reduceLT, Int.reduceSub, Int.reduceAdd, hR, hC, hs, hs2, hk, rulesPV, canCall_121]
    · obtain ⟨C, hC, hs2⟩ := clo 123 (clo_op p n h e hsz hk2 hk)
      rw [encE_eq, hk] at hC
      refine vCode_sound (tab_ok [R, C]) _ _ _ ?_
      simp only [Tryz.f52, go_sem, Nat.reduceEqDiff, Nat.reduceLT, Nat.reduceLeDiff, Nat.reduceAdd, Nat.reduceSub, Nat.reduceMul, Nat.reduceBEq, Nat.reduceBNe, Int.reduceEq, Int.reduceToNat, Int.reduceNeg, ↓reduceIte, reduceCtorEq, Nat.reduceDiv, Nat.reduceMod, Int.reduceLE, Int.reduceLT, Int.reduceSub, Int.reduceAdd]
      refine draw_intro (tab_ok [R, C]) mixed [(true, 0), (true, 2), (true, 3), (true, 5), (false, 1), (true, 4), (false, 6), (true, 7)] rfl ?_
      simp only [Tryz.f52, go_sem, Nat.reduceEqDiff, Nat.reduceLT, Nat.reduceLeDiff, Nat.reduceAdd, Nat.reduceSub, Nat.reduceMul, Nat.reduceBEq, Nat.reduceBNe, Int.reduceEq, Int.reduceToNat, Int.reduceNeg, ↓reduceIte, reduceCtorEq, Nat.reduceDiv, Nat.reduceMod, Int.reduceLE, Int.reduceLT, Int.reduceSub, Int.reduceAdd, hR, hC, hs, hs2, hk, rulesPV, canCall_123]
    · have hc := clo 117 (clo_bools p n h e hsz hk2 hk)
      obtain ⟨C, hC, hs2⟩ := hc
      rcases hk with hk | hk | hk <;>
      · rw [encE_eq, hk] at hC
        refine vCode_sound (tab_ok [R, C]) _ _ _ ?_
        simp only [Tryz.f52, go_sem, Nat.reduceEqDiff, Nat.reduceLT, Nat.reduceLeDiff, Nat.reduceAdd, Nat.reduceSub, Nat.reduceMul, Nat.reduceBEq, Nat.reduceBNe, Int.reduceEq, Int.reduceToNat, Int.reduceNeg, ↓reduceIte, reduceCtorEq, Nat.reduceDiv, Nat.reduceMod, Int.reduceLE, Int.reduceLT, Int.reduceSub, Int.reduceAdd]
        refine draw_intro (tab_ok [R, C]) mixed [(true, 0), (true, 2), (true, 3), (true, 5), (false, 1), (true, 4), (false, 6), (true, 7)] rfl ?_
        simp only [Tryz.f52, go_sem, Nat.reduceEqDiff, Nat.reduceLT, Nat.reduceLeDiff, Nat.reduceAdd, Nat.reduceSub, Nat.reduceMul, Nat.reduceBEq, Nat.reduceBNe, Int.reduceEq, Int.reduceToNat, Int.reduceNeg, ↓reduceIte, reduceCtorEq, Nat.reduceDiv, Nat.reduceMod, Int.reduceLE, Int.reduceLT, Int.reduceSub, Int.reduceAdd, hR, hC, hs, hs2, hk, rulesPV, canCall_117]
        omega
    · have hkn : knE p e = true := by
        rw [knE_eq]
        have hl : e.kids = [] := by
          cases hl : e.kids with
          | nil => rfl
          | cons x r => exfalso; rw [hl] at hk1; simp at hk1; omega
        rw [hl, decide_eq_false (show ¬ e.kind = 4 by omega)]; rfl
      have hty : tyE p e = 1 := by rw [tyE_eq, if_pos (by omega)]
      have hre : setLost (rulesSh sh b) b p (lost || !knE p e) = rulesSh sh b := by
        rw [hkn, Bool.not_true, Bool.or_false]
        exact setLost_same hb2
      rw [hre, hty]
      obtain ⟨C, hC, hs2⟩ := oneRule (word_c (G := G) e (rulesSh sh b))
      rcases hk with hk | hk | hk <;>
      · rw [encE_eq, hk] at hC
        refine vCode_sound (tab_ok [R, C]) _ _ _ ?_
        simp only [Tryz.f52, go_sem, Nat.reduceEqDiff, Nat.reduceLT, Nat.reduceLeDiff, Nat.reduceAdd, Nat.reduceSub, Nat.reduceMul, Nat.reduceBEq, Nat.reduceBNe, Int.reduceEq, Int.reduceToNat, Int.reduceNeg, ↓reduceIte, reduceCtorEq, Nat.reduceDiv, Nat.reduceMod, Int.reduceLE, Int.reduceLT, Int.reduceSub, Int.reduceAdd]
        refine draw_intro (tab_ok [R, C]) mixed [(true, 0), (true, 2), (true, 3), (true, 5), (false, 1), (true, 4), (false, 6), (true, 7)] rfl ?_
        simp only [Tryz.f52, go_sem, Nat.reduceEqDiff, Nat.reduceLT, Nat.reduceLeDiff, Nat.reduceAdd, Nat.reduceSub, Nat.reduceMul, Nat.reduceBEq, Nat.reduceBNe, Int.reduceEq, Int.reduceToNat, Int.reduceNeg, ↓reduceIte, reduceCtorEq, Nat.reduceDiv, Nat.reduceMod, Int.reduceLE, Int.reduceLT, Int.reduceSub, Int.reduceAdd, hR, hC, hs, hs2, hk, rulesPV, canCall_116]
  · rintro r s' ⟨rfl, rfl⟩
    refine ⟨.val _, setLost sh b p (lost || !knE p e), rfl, ?_, rfl, rfl⟩
    intro d cs hd
    have hd' : upd sh.mem b (some (ck p (lost || !knE p e))) d = some cs := hd
    refine ⟨fun hge => ?_, fun hlt => ⟨?_, ?_⟩⟩
    · rwa [upd_ne _ _ _ _ (by omega)] at hd'
    · show upd (upd _ _ _) _ _ d = _
      by_cases e' : d = b
      · subst e'
        rw [upd_same] at hd' ⊢
        exact hd'
      · rw [upd_ne _ _ _ _ e'] at hd' ⊢
        rw [upd_ne _ _ _ _ (by omega)]; exact hd'
    · by_cases e' : d = b
      · subst e'
        rw [upd_same] at hd'
        obtain rfl := Option.some.inj hd'
        refine .inr fun q hq => ?_
        simp only [ck, List.mem_cons, List.not_mem_nil, or_false] at hq
        rcases hq with rfl | rfl | rfl | rfl <;> constructor
      · rw [upd_ne _ _ _ _ e'] at hd'
        exact .inl hd'
end Go.Proofs.YtaackmiajgapoaaGreatDoor.V
