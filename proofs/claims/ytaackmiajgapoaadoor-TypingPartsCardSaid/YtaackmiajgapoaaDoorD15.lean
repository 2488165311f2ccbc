/- The checker (typing): its rules, closures. -/
import Derived.Test.YtaackmiajgapoaaDoorD14
import Derived.Test.YtaackmiajgapoaaDoorVB
set_option maxHeartbeats 16000000
set_option maxRecDepth 100000
set_option linter.unusedSimpArgs false
set_option linter.unusedVariables false
namespace Go.Proofs.YtaackmiajgapoaaDoor.V
open Go
variable {G : Nat → Option (List PV)}

theorem setLost_next (sh : Sh) (b : Nat) (p : Pg) (l : Bool) : (setLost sh b p l).next = sh.next := rfl
theorem setLost_b (sh : Sh) (b : Nat) (p : Pg) (l : Bool) : (setLost sh b p l).mem b = some (ck p l) := upd_same _ _ _
theorem setLost_ne (sh : Sh) (b : Nat) (p : Pg) (l : Bool) {d : Nat} (h : d ≠ b) : (setLost sh b p l).mem d = sh.mem d := upd_ne _ _ _ _ h
theorem setLost_same {sh : Sh} {b : Nat} {p : Pg} {l : Bool} (h : sh.mem b = some (ck p l)) : setLost sh b p l = sh := by
  unfold setLost
  have : upd sh.mem b (some (ck p l)) = sh.mem := by
    funext d
    unfold upd
    split
    · rename_i e; rw [e, h]
    · rfl
  rw [this]
theorem setLost_twice (sh : Sh) (b : Nat) (p : Pg) (l l' : Bool) : setLost (setLost sh b p l) b p l' = setLost sh b p l' := by
  unfold setLost
  congr 1
  funext d
  simp only [upd]
  split <;> rfl
theorem ck_inj {p : Pg} {l l' : Bool} (h : ck p l = ck p l') : l = l' := by
  simp only [ck, List.cons.injEq, PV.val.injEq, Value.bool.injEq, true_and, and_true] at h
  exact h

/-- A rule for what the checker does. -/
theorem ckRule {ι : Type} (p : Pg) (f : FuncId) (A : Nat → ι → List PV) (res : ι → PV) (lo : ι → Bool) (D : ι → Prop) (inj : ∀ b x b' x', A b x = A b' x' → b = b' ∧ x = x')
    (ok : ∀ b x lost sh, b < sh.next → sh.mem b = some (ck p lost) → D x → VCalls Tryd.prog G f (A b x) sh fun e s' => e = .ret (res x) ∧ s' = setLost sh b p (lost || lo x)) :
    ∃ R : Rule Tryd.prog G, (∀ tl b x lost sh, b < sh.next → sh.mem b = some (ck p lost) → D x → tab (R :: tl) f (A b x) sh = some (res x, setLost sh b p (lost || lo x))) ∧ ∀ tl g args sh, g ≠ f → tab (R :: tl) g args sh = tab tl g args sh := by
  let R : Rule Tryd.prog G :=
    { f, ι := Bool × Nat × ι, A := fun x => A x.2.1 x.2.2, dom := fun x sh => x.2.1 < sh.next ∧ sh.mem x.2.1 = some (ck p x.1) ∧ D x.2.2, res := fun x _ => res x.2.2, sh' := fun x sh => setLost sh x.2.1 p (x.1 || lo x.2.2),
      inj := by
        rintro ⟨l, b, x⟩ ⟨l', b', x'⟩ sh h ⟨_, h1, _⟩ ⟨_, h2, _⟩
        obtain ⟨rfl, rfl⟩ := inj b x b' x' h
        simp only at h1 h2
        rw [h1] at h2
        obtain rfl := ck_inj (Option.some.inj h2)
        exact ⟨rfl, rfl⟩
      ok := fun x sh h => ok x.2.1 x.2.2 x.1 sh h.1 h.2.1 h.2.2 }
  exact ⟨R, fun tl b x lost sh h1 h2 h3 => tab_at R tl (lost, b, x) sh ⟨h1, h2, h3⟩, fun tl g args sh h => tab_skip R tl g args sh h⟩

theorem fun2_c (p : Pg) (b : Nat) (s : ByteArray) (lost : Bool) (sh : Sh) (hn : b < sh.next) (hb : sh.mem b = some (ck p lost)) :
    VCalls Tryd.prog G 107 [.box b 0, .val (.string s)] sh fun e s' => e = .ret (funRes p s) ∧ s' = setLost sh b p (lost || decide (fnIdx p.funcs s < 0)) := by
  refine (fun_c p lost b s sh hn hb).mono ?_
  rintro e s' ⟨rfl, rfl⟩
  refine ⟨rfl, ?_⟩
  unfold funSh
  split
  · rename_i h
    rw [decide_eq_false (by omega), Bool.or_false, setLost_same hb]
  · rename_i h
    rw [decide_eq_true (by omega), Bool.or_true]

/-- The rules, made. -/
def rulesPV (nb : Nat) : List PV := [.val .nilFunc, .func 101 [], .func 101 [], .func 105 [.box nb 0], .func 106 [.box nb 0], .func 101 [], .func 108 [.box nb 0], .func 102 [.box nb 0], .func 102 [.box nb 0], .func 102 [.box nb 0]]
def rulesSh (sh : Sh) (b : Nat) : Sh := { next := sh.next + 1, mem := upd sh.mem sh.next (some [.box b 0]) }
theorem rules_c (b : Nat) (sh : Sh) (hn : b < sh.next) : VCalls Tryd.prog G 64 [.box b 0] sh fun e s' => e = .ret (.agg (rulesPV sh.next)) ∧ s' = rulesSh sh b := by
  refine VCalls_enter [1] Tryd.func64 rfl (show 1 ≤ 16 by decide) ?_
  refine vCode_sound (tab_ok []) _ _ _ ?_
  simp only [Tryd.f64, go_sem, Nat.reduceEqDiff, Nat.reduceLT, Nat.reduceLeDiff, Nat.reduceAdd, Nat.reduceSub, Nat.reduceMul, Nat.reduceBEq, Nat.reduceBNe, Int.reduceEq, Int.reduceToNat, Int.reduceNeg, ↓reduceIte, reduceCtorEq, Nat.reduceDiv, Nat.reduceMod, Int.reduceLE, Int.reduceLT, Int.reduceSub, Int.reduceAdd]
  exact ⟨rfl, rfl⟩
end Go.Proofs.YtaackmiajgapoaaDoor.V
