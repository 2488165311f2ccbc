/- The checker (typing): the function of a name. -/
import Derived.Test.YtaackmiajgapoaaDoorD13
set_option maxHeartbeats 16000000
set_option maxRecDepth 100000
set_option linter.unusedSimpArgs false
set_option linter.unusedVariables false
namespace Go.Proofs.YtaackmiajgapoaaDoor.V
open Go
variable {G : Nat → Option (List PV)}

theorem map_encF_iff (a b : List Fn) : a.map encF = b.map encF ↔ a = b := ⟨map_inj encF_inj a b, fun h => by rw [h]⟩
noncomputable def r131 : Rule Tryd.prog G where
  f := 131
  ι := List Fn × Nat × ByteArray
  A := fun x => [.slice (x.1.map encF), .func 132 [.box x.2.1 0]]
  dom := fun x sh => sh.mem x.2.1 = some [.val (.string x.2.2)]
  res := fun x _ => .val (.int .i64 (fnIdx x.1 x.2.2))
  sh' := fun _ sh => sh
  inj := by
    rintro ⟨f, b, s⟩ ⟨f', b', s'⟩ sh h h1 h2
    simp only [List.cons.injEq, PV.slice.injEq, PV.func.injEq, PV.box.injEq, map_encF_iff, and_true, true_and] at h
    obtain ⟨rfl, rfl⟩ := h
    simp only at h1 h2
    rw [h1] at h2
    simp only [Option.some.injEq, List.cons.injEq, PV.val.injEq, Value.string.injEq, and_true] at h2
    subst h2
    exact ⟨rfl, rfl⟩
  ok := fun x sh h => indexFn_c x.1 x.2.1 x.2.2 sh h
theorem r131_at (tl : List (Rule Tryd.prog G)) (l : List Fn) (nb : Nat) (s : ByteArray) (sh : Sh) (hb : sh.mem nb = some [.val (.string s)]) :
    tab (r131 :: tl) 131 [.slice (l.map encF), .func 132 [.box nb 0]] sh = some (.val (.int .i64 (fnIdx l s)), sh) :=
  tab_at r131 tl (l, nb, s) sh hb
theorem r131_skip (tl : List (Rule Tryd.prog G)) (f : FuncId) (args : List PV) (sh : Sh) (h : f ≠ 131) : tab (r131 :: tl) f args sh = tab tl f args sh := tab_skip _ tl f args sh h

/-- The checker's cells. -/
def ck (p : Pg) (lost : Bool) : List PV := [.slice (encT p.vars), .slice (p.arrays.map encA), .slice (p.funcs.map encF), .val (.bool lost)]
def setLost (sh : Sh) (b : Nat) (p : Pg) (lost : Bool) : Sh := { sh with mem := upd sh.mem b (some (ck p lost)) }
/-- What 'fun' answers. -/
def funRes (p : Pg) (s : ByteArray) : PV :=
  if 0 ≤ fnIdx p.funcs s then .tup [.agg (encF (elm p.funcs (fnIdx p.funcs s).toNat)), .val (.bool true)]
  else .tup [.agg [.val (.string ByteArray.empty), .nils, .nils, .val (.bool false), .nils], .val (.bool false)]
def funSh (sh : Sh) (b : Nat) (p : Pg) (s : ByteArray) : Sh := if 0 ≤ fnIdx p.funcs s then sh else setLost sh b p true

theorem upd_comm {α : Type} {f : Nat → α} {a b : Nat} {x y : α} (h : a ≠ b) : upd (upd f a x) b y = upd (upd f b y) a x := by
  funext i
  simp only [upd]
  by_cases h1 : i = b
  · subst h1
    simp only [if_true]
    exact (if_neg fun e => h e.symm).symm
  · simp [h1]
theorem fun_c (p : Pg) (lost : Bool) (b : Nat) (s : ByteArray) (sh : Sh) (hn : b < sh.next) (hb : sh.mem b = some (ck p lost)) :
    VCalls Tryd.prog G 107 [.box b 0, .val (.string s)] sh fun e s' => e = .ret (funRes p s) ∧ s' = funSh sh b p s := by
  refine VCalls.gc2 (R := fun e s' => e = .ret (funRes p s) ∧ s' = { next := sh.next + 1, mem := upd (funSh sh b p s).mem sh.next (some [.val (.string s)]) }) ?_ ?_
  · refine VCalls_enter [3] Tryd.func107 rfl (show 2 ≤ 28 by decide) ?_
    refine vCode_sound (tab_ok [r131]) _ _ _ ?_
    have hne : (b = sh.next) = False := by simp; omega
    simp only [ck] at hb
    have hat : ∀ tl l, tab (r131 (G := G) :: tl) 131 [.slice (l.map encF), .func 132 [.box sh.next 0]] { next := sh.next + 1, mem := upd sh.mem sh.next (some [.val (.string s)]) } = some (.val (.int .i64 (fnIdx l s)), { next := sh.next + 1, mem := upd sh.mem sh.next (some [.val (.string s)]) }) := fun tl l => r131_at tl l sh.next s _ (upd_same _ _ _)
    simp only [Tryd.f107, go_sem, Nat.reduceEqDiff, Nat.reduceLT, Nat.reduceLeDiff, Nat.reduceAdd, Nat.reduceSub, Nat.reduceMul, Nat.reduceBEq, Nat.reduceBNe, Int.reduceEq, Int.reduceToNat, Int.reduceNeg, ↓reduceIte, reduceCtorEq, Nat.reduceDiv, Nat.reduceMod, Int.reduceLE, Int.reduceLT, Int.reduceSub, Int.reduceAdd, hb, hne, hat]
    refine if_intro _ rfl trivial (fun h => ?_) (fun h => ?_)
    · have hf : ¬ 0 ≤ fnIdx p.funcs s := by simp only [decide_eq_true_eq] at h; omega
      simp only [Tryd.f107, go_sem, Nat.reduceEqDiff, Nat.reduceLT, Nat.reduceLeDiff, Nat.reduceAdd, Nat.reduceSub, Nat.reduceMul, Nat.reduceBEq, Nat.reduceBNe, Int.reduceEq, Int.reduceToNat, Int.reduceNeg, ↓reduceIte, reduceCtorEq, Nat.reduceDiv, Nat.reduceMod, Int.reduceLE, Int.reduceLT, Int.reduceSub, Int.reduceAdd, hb, hne, hat]
      refine ⟨by simp [funRes, hf], ?_⟩
      rw [funSh, if_neg hf, setLost, upd_comm (by omega)]
      rfl
    · rcases fnIdx_cases p.funcs s with hf | ⟨i, hi, hf⟩
      · rw [hf] at h; simp at h
      · simp only [Tryd.f107, go_sem, Nat.reduceEqDiff, Nat.reduceLT, Nat.reduceLeDiff, Nat.reduceAdd, Nat.reduceSub, Nat.reduceMul, Nat.reduceBEq, Nat.reduceBNe, Int.reduceEq, Int.reduceToNat, Int.reduceNeg, ↓reduceIte, reduceCtorEq, Nat.reduceDiv, Nat.reduceMod, Int.reduceLE, Int.reduceLT, Int.reduceSub, Int.reduceAdd, hb, hne, hat, hf, hi]
        have hf' : 0 ≤ fnIdx p.funcs s := by omega
        refine ⟨?_, ?_⟩
        · rw [funRes, if_pos hf', hf]; rfl
        · rw [funSh, if_pos hf']
  · rintro r sh' ⟨rfl, rfl⟩
    refine ⟨?_, funSh sh b p s, ?_, ?_, rfl, rfl⟩
    · unfold funRes
      split
      · refine .tup _ fun q hq => ?_
        simp only [List.mem_cons, List.not_mem_nil, or_false] at hq
        rcases hq with rfl | rfl
        · refine .agg _ fun q hq => ?_
          simp only [encF, List.mem_cons, List.not_mem_nil, or_false] at hq
          rcases hq with rfl | rfl | rfl | rfl | rfl <;> constructor
        · exact .val _
      · refine .tup _ fun q hq => ?_
        simp only [List.mem_cons, List.not_mem_nil, or_false] at hq
        rcases hq with rfl | rfl
        · refine .agg _ fun q hq => ?_
          simp only [List.mem_cons, List.not_mem_nil, or_false] at hq
          rcases hq with rfl | rfl | rfl | rfl | rfl <;> constructor
        · exact .val _
    · unfold funSh
      split <;> rfl
    · intro d cs hd
      have key : sh.mem d = some cs ∨ (d = b ∧ cs = ck p true) := by
        unfold funSh at hd
        split at hd
        · exact .inl hd
        · have hd' : upd sh.mem b (some (ck p true)) d = some cs := hd
          by_cases e : d = b
          · subst e
            rw [upd_same] at hd'
            exact .inr ⟨rfl, (Option.some.inj hd').symm⟩
          · rw [upd_ne _ _ _ _ e] at hd'
            exact .inl hd'
      refine ⟨fun hge => ?_, fun hlt => ⟨?_, ?_⟩⟩
      · rcases key with k | ⟨k, _⟩
        · exact k
        · omega
      · show upd _ _ _ d = _
        rw [upd_ne _ _ _ _ (by omega)]; exact hd
      · rcases key with k | ⟨_, k⟩
        · exact .inl k
        · refine .inr fun q hq => ?_
          subst k
          simp only [ck, List.mem_cons, List.not_mem_nil, or_false] at hq
          rcases hq with rfl | rfl | rfl | rfl <;> constructor
end Go.Proofs.YtaackmiajgapoaaDoor.V
