/- The checker (typing): statements. -/
import Derived.Test.YtaackmiajgapoaaGreatDoorD20
set_option maxRecDepth 100000
set_option maxHeartbeats 16000000
set_option linter.unusedSimpArgs false
set_option linter.unusedVariables false
namespace Go.Proofs.YtaackmiajgapoaaGreatDoor.V
open Go
variable {G : Nat → Option (List PV)}

mutual
def kdS : St → Bool
  | .mk k s e t f => e.all kdE && kdSs t && kdSs f
def kdSs : List St → Bool
  | [] => true
  | e :: r => kdS e && kdSs r
end
theorem kdSs_all : ∀ l : List St, kdSs l = l.all kdS
  | [] => rfl
  | e :: r => by rw [kdSs, kdSs_all r]; rfl
theorem kdS_eq (s : St) : kdS s = (s.e.all kdE && s.thn.all kdS && s.els.all kdS) := by
  cases s with | mk k s e t f => rw [kdS, kdSs_all, kdSs_all]; rfl

def StmtsC (G : Nat → Option (List PV)) (p : Pg) (n : Nat) : Prop := ∀ (b : Nat) (x : Fn × List St) (lost : Bool) (sh : Sh), b < sh.next → sh.mem b = some (ck p lost) → (szSs x.2 < n ∧ x.2.all kdS = true) →
  VCalls Tryz.prog G 60 [.box b 0, .agg (encF x.1), .slice (x.2.map encS)] sh fun e s' => e = .ret (.val (.bool (x.2.all (fitS p x.1.word)))) ∧ s' = setLost sh b p (lost || !x.2.all (knS p))
def StmtC (G : Nat → Option (List PV)) (p : Pg) (n : Nat) : Prop := ∀ (b : Nat) (x : Fn × St) (lost : Bool) (sh : Sh), b < sh.next → sh.mem b = some (ck p lost) → (szS x.2 < n ∧ kdS x.2 = true) →
  VCalls Tryz.prog G 97 [.box b 0, .agg (encF x.1), .agg (encS x.2)] sh fun e s' => e = .ret (.val (.bool (fitS p x.1.word x.2))) ∧ s' = setLost sh b p (lost || !knS p x.2)

theorem stmtsRule {p : Pg} {n : Nat} (h : StmtsC G p n) : ∃ R : Rule Tryz.prog G, (∀ tl (b : Nat) (x : Fn × List St) lost sh, b < sh.next → sh.mem b = some (ck p lost) → (szSs x.2 < n ∧ x.2.all kdS = true) →
    tab (R :: tl) 60 [.box b 0, .agg (encF x.1), .slice (x.2.map encS)] sh = some (.val (.bool (x.2.all (fitS p x.1.word))), setLost sh b p (lost || !x.2.all (knS p)))) ∧ ∀ tl g args sh, g ≠ 60 → tab (R :: tl) g args sh = tab tl g args sh :=
  ckRule p 60 (fun b (x : Fn × List St) => [.box b 0, .agg (encF x.1), .slice (x.2.map encS)]) (fun x => .val (.bool (x.2.all (fitS p x.1.word)))) (fun x => !x.2.all (knS p)) (fun x => szSs x.2 < n ∧ x.2.all kdS = true)
    (by rintro b ⟨x, k⟩ b' ⟨x', k'⟩ h; simp only [List.cons.injEq, PV.box.injEq, PV.agg.injEq, PV.slice.injEq, encF_iff, encSs_iff, true_and, and_true] at h; obtain ⟨rfl, rfl, rfl⟩ := h; exact ⟨rfl, rfl⟩)
    h
theorem stmtRule {p : Pg} {n : Nat} (h : StmtC G p n) : ∃ R : Rule Tryz.prog G, (∀ tl (b : Nat) (x : Fn × St) lost sh, b < sh.next → sh.mem b = some (ck p lost) → (szS x.2 < n ∧ kdS x.2 = true) →
    tab (R :: tl) 97 [.box b 0, .agg (encF x.1), .agg (encS x.2)] sh = some (.val (.bool (fitS p x.1.word x.2)), setLost sh b p (lost || !knS p x.2))) ∧ ∀ tl g args sh, g ≠ 97 → tab (R :: tl) g args sh = tab tl g args sh :=
  ckRule p 97 (fun b (x : Fn × St) => [.box b 0, .agg (encF x.1), .agg (encS x.2)]) (fun x => .val (.bool (fitS p x.1.word x.2))) (fun x => !knS p x.2) (fun x => szS x.2 < n ∧ kdS x.2 = true)
    (by rintro b ⟨x, k⟩ b' ⟨x', k'⟩ h; simp only [List.cons.injEq, PV.box.injEq, PV.agg.injEq, encF_iff, encS_iff, true_and, and_true] at h; obtain ⟨rfl, rfl, rfl⟩ := h; exact ⟨rfl, rfl⟩)
    h

theorem stmts_step (p : Pg) (n : Nat) (h : StmtC G p n) : StmtsC G p n := by
  rintro b ⟨f, l⟩ lost sh hn hb ⟨he, hkd⟩
  simp only at he hkd ⊢
  obtain ⟨R, hR0, hs⟩ := stmtRule h
  have hR : ∀ tl (i : Nat) l1, i < l.length → tab (R :: tl) 97 [.box b 0, .agg [.val (.string f.name), .slice (encT f.params), .slice (encT f.locals), .val (.bool f.word), .slice (f.body.map encS)], .agg [.val (.int .i64 (elm l i).kind), .val (.string (elm l i).name), .slice ((elm l i).e.map encE), .slice ((elm l i).thn.map encS), .slice ((elm l i).els.map encS)]] (setLost sh b p l1) = some (.val (.bool (fitS p f.word (elm l i))), setLost sh b p (l1 || !knS p (elm l i))) := by
    intro tl i l1 hi
    have := hR0 tl b (f, elm l i) l1 (setLost sh b p l1) hn (setLost_b _ _ _ _) ⟨Nat.lt_of_le_of_lt (szSs_elm l i hi) he, all_elm hi hkd⟩
    rw [setLost_twice] at this
    simpa only [encS_eq, encF] using this
  clear hR0
  refine VCalls_enter [] Tryz.func60 rfl (show 3 ≤ 25 by decide) ?_
  refine vCode_sound (tab_ok [R]) _ _ _ ?_
  simp only [Tryz.f60, go_sem, Nat.reduceEqDiff, Nat.reduceLT, Nat.reduceLeDiff, Nat.reduceAdd, Nat.reduceSub, Nat.reduceMul, Nat.reduceBEq, Nat.reduceBNe, Int.reduceEq, Int.reduceToNat, Int.reduceNeg, ↓reduceIte, reduceCtorEq, Nat.reduceDiv, Nat.reduceMod, Int.reduceLE, Int.reduceLT, Int.reduceSub, Int.reduceAdd]
  repeat (first | intro _ | refine And.intro (by (intros; first | omega | (simp only [Bool.or_eq_false_iff, Bool.or_eq_true, decide_eq_false_iff_not, beq_iff_eq, Bool.and_eq_true, decide_eq_true_eq, Bool.not_eq_true'] at *; omega) | simp_all)) ?_)
  refine loop_intro (VWp_for [13, 14, 15, 9, 16, 17, 18, 19, 20, 21, 22, 7, 23, 12] (fun i : Nat => [(12, .val (.int .i64 i)), (7, .val (.bool ((l.take i).all (fitS p f.word))))]) [9] (fun _ => []) [] (fun _ => []) (fun i => setLost sh b p (lost || !(l.take i).all (knS p)))
    (fun i => i ≤ l.length) (fun i => l.length - i) 0 (Nat.zero_le _) ?_ ?_)
  · refine ⟨rfl, rfl, ?_, .refl _ _, .refl _ _, .refl _ _, by repeat (first | trivial | rfl | refine ⟨?_, ?_⟩), by repeat (first | trivial | rfl | refine ⟨?_, ?_⟩), by repeat (first | trivial | rfl | refine ⟨?_, ?_⟩), by repeat (first | trivial | exact .inr rfl | exact .inl rfl | refine ⟨?_, ?_⟩), by repeat (first | trivial | exact .inr rfl | exact .inl rfl | refine ⟨?_, ?_⟩), by repeat (first | trivial | exact .inr rfl | exact .inl rfl | refine ⟨?_, ?_⟩), by repeat (first | trivial | exact .inr rfl | exact .inl rfl | refine ⟨?_, ?_⟩)⟩
    show sh = setLost sh b p (lost || !true)
    rw [Bool.not_true, Bool.or_false, setLost_same hb]
  rintro i hi
  refine vCode_sound (tab_ok [R]) _ _ _ ?_
  simp only [Tryz.f60, go_sem, Nat.reduceEqDiff, Nat.reduceLT, Nat.reduceLeDiff, Nat.reduceAdd, Nat.reduceSub, Nat.reduceMul, Nat.reduceBEq, Nat.reduceBNe, Int.reduceEq, Int.reduceToNat, Int.reduceNeg, ↓reduceIte, reduceCtorEq, Nat.reduceDiv, Nat.reduceMod, Int.reduceLE, Int.reduceLT, Int.reduceSub, Int.reduceAdd]
  repeat (first | intro _ | refine And.intro (by (intros; first | omega | (simp only [Bool.or_eq_false_iff, Bool.or_eq_true, decide_eq_false_iff_not, beq_iff_eq, Bool.and_eq_true, decide_eq_true_eq, Bool.not_eq_true'] at *; omega) | simp_all)) ?_)
  refine if_intro _ rfl trivial (fun h1 => ?_) (fun h1 => ?_)
  · simp only [decide_eq_true_eq, Int.ofNat_lt] at h1
    have hw : IntKind.i64.wrap ((i : Int) + 1) = ((i + 1 : Nat) : Int) := by rw [wrap64_id (by omega) (by omega)]; rfl
    simp only [Tryz.f60, go_sem, Nat.reduceEqDiff, Nat.reduceLT, Nat.reduceLeDiff, Nat.reduceAdd, Nat.reduceSub, Nat.reduceMul, Nat.reduceBEq, Nat.reduceBNe, Int.reduceEq, Int.reduceToNat, Int.reduceNeg, ↓reduceIte, reduceCtorEq, Nat.reduceDiv, Nat.reduceMod, Int.reduceLE, Int.reduceLT, Int.reduceSub, Int.reduceAdd, h1, hR, hs, hw]
    refine ⟨i + 1, h1, by omega, ?_⟩
    refine ⟨rfl, rfl, ?_, by repeat (first | exact AgreeOff.refl _ _ | refine AgreeOff.upd rfl ?_ | refine AgreeOff.over rfl ?_), by repeat (first | exact AgreeOff.refl _ _ | refine AgreeOff.upd rfl ?_ | refine AgreeOff.over rfl ?_), by repeat (first | exact AgreeOff.refl _ _ | refine AgreeOff.upd rfl ?_ | refine AgreeOff.over rfl ?_), ?_, by repeat (first | trivial | exact .inr rfl | exact .inl rfl | refine ⟨?_, ?_⟩), by repeat (first | trivial | exact .inr rfl | exact .inl rfl | refine ⟨?_, ?_⟩), by repeat (first | trivial | exact .inr rfl | exact .inl rfl | refine ⟨?_, ?_⟩), by repeat (first | trivial | exact .inr rfl | exact .inl rfl | refine ⟨?_, ?_⟩), by repeat (first | trivial | exact .inr rfl | exact .inl rfl | refine ⟨?_, ?_⟩), by repeat (first | trivial | exact .inr rfl | exact .inl rfl | refine ⟨?_, ?_⟩)⟩
    · show setLost _ _ _ _ = setLost _ _ _ _
      rw [take_all _ h1]
      congr 1
      cases lost <;> cases (l.take i).all (knS p) <;> cases knS p (elm l i) <;> rfl
    · refine ⟨rfl, ?_, trivial⟩
      rw [take_all _ h1]
      show PV.val (.bool (fitS p f.word (elm l i) && (l.take i).all (fitS p f.word))) = _
      rw [Bool.and_comm]
  · simp only [decide_eq_false_iff_not, Int.ofNat_lt] at h1
    simp only [Tryz.f60, go_sem, Nat.reduceEqDiff, Nat.reduceLT, Nat.reduceLeDiff, Nat.reduceAdd, Nat.reduceSub, Nat.reduceMul, Nat.reduceBEq, Nat.reduceBNe, Int.reduceEq, Int.reduceToNat, Int.reduceNeg, ↓reduceIte, reduceCtorEq, Nat.reduceDiv, Nat.reduceMod, Int.reduceLE, Int.reduceLT, Int.reduceSub, Int.reduceAdd]
    have hi' : i = l.length := by omega
    subst hi'
    rw [List.take_length]
    exact ⟨rfl, rfl⟩

theorem stmt_step (p : Pg) (n : Nat) (h : StmtsC G p n) : StmtC G p (n + 1) := by
  rintro b ⟨f, s⟩ lost sh0 hn hb0 ⟨he, hkd⟩
  obtain ⟨sh, rfl⟩ : ∃ sh, sh0 = setLost sh b p lost := ⟨sh0, (setLost_same hb0).symm⟩
  simp only at he hkd ⊢
  rw [kdS_eq, Bool.and_eq_true, Bool.and_eq_true] at hkd
  obtain ⟨⟨hk1, hk2⟩, hk3⟩ := hkd
  have hsz : szS s = 1 + szEs s.e + szSs s.thn + szSs s.els := by cases s with | mk k x e t f => rfl
  obtain ⟨R, hR0, hs⟩ := stmtsRule h
  have hR1 : ∀ tl l1, tab (R :: tl) 60 [.box b 0, .agg [.val (.string f.name), .slice (encT f.params), .slice (encT f.locals), .val (.bool f.word), .slice (f.body.map encS)], .slice (s.thn.map encS)] (setLost sh b p l1) = some (.val (.bool (s.thn.all (fitS p f.word))), setLost sh b p (l1 || !s.thn.all (knS p))) := by
    intro tl l1
    have := hR0 tl b (f, s.thn) l1 (setLost sh b p l1) hn (setLost_b _ _ _ _) ⟨by simp only; omega, hk2⟩
    rw [setLost_twice] at this
    simpa only [encF] using this
  have hR2 : ∀ tl l1, tab (R :: tl) 60 [.box b 0, .agg [.val (.string f.name), .slice (encT f.params), .slice (encT f.locals), .val (.bool f.word), .slice (f.body.map encS)], .slice (s.els.map encS)] (setLost sh b p l1) = some (.val (.bool (s.els.all (fitS p f.word))), setLost sh b p (l1 || !s.els.all (knS p))) := by
    intro tl l1
    have := hR0 tl b (f, s.els) l1 (setLost sh b p l1) hn (setLost_b _ _ _ _) ⟨by simp only; omega, hk3⟩
    rw [setLost_twice] at this
    simpa only [encF] using this
  clear hR0
  obtain ⟨A, hA0, hs2⟩ := ckRule (G := G) p 119 (fun b (x : List Ex × Int) => [.box b 0, .slice (x.1.map encE), .val (.int .i64 x.2)]) (fun x => .val (.bool (x.1.all fun e => decide (tyE p e = x.2)))) (fun x => !x.1.all (knE p)) (fun x => x.1.all kdE = true)
    (by rintro b ⟨x, k⟩ b' ⟨x', k'⟩ h; simp only [List.cons.injEq, PV.box.injEq, PV.slice.injEq, PV.val.injEq, Value.int.injEq, encEs_iff, true_and, and_true] at h; obtain ⟨rfl, rfl, rfl⟩ := h; exact ⟨rfl, rfl⟩)
    (fun b x lost sh h1 h2 h3 => all_c p b x.1 x.2 lost sh h1 h2 h3)
  have hA : ∀ tl l1 k, tab (A :: tl) 119 [.box b 0, .slice (s.e.map encE), .val (.int .i64 k)] (setLost sh b p l1) = some (.val (.bool (s.e.all fun e => decide (tyE p e = k))), setLost sh b p (l1 || !s.e.all (knE p))) := by
    intro tl l1 k
    have := hA0 tl b (s.e, k) l1 (setLost sh b p l1) hn (setLost_b _ _ _ _) hk1
    rw [setLost_twice] at this
    exact this
  clear hA0
  obtain ⟨F, hF0, hs3⟩ := ckRule (G := G) p 122 (fun b (s : ByteArray) => [.box b 0, .val (.string s)]) (fun s => funRes p s) (fun s => decide (fnIdx p.funcs s < 0)) (fun _ => True)
    (by rintro b x b' x' h; simp only [List.cons.injEq, PV.box.injEq, PV.val.injEq, Value.string.injEq, true_and, and_true] at h; exact h)
    (fun b s lost sh h1 h2 _ => fun2_c p b s lost sh h1 h2)
  have hF : ∀ tl l1, tab (F :: tl) 122 [.box b 0, .val (.string s.name)] (setLost sh b p l1) = some (funRes p s.name, setLost sh b p (l1 || decide (fnIdx p.funcs s.name < 0))) := by
    intro tl l1
    have := hF0 tl b s.name l1 (setLost sh b p l1) hn (setLost_b _ _ _ _) trivial
    rw [setLost_twice] at this
    exact this
  clear hF0
  refine VCalls_enter [] Tryz.func97 rfl (show 3 ≤ 76 by decide) ?_
  refine vCode_sound (tab_ok [A, F, R]) _ _ _ ?_
  rw [fitS_eq, knS_eq, setLost_twice]
  have hkind : s.kind = 4 ∨ s.kind = 5 ∨ s.kind = 6 ∨ s.kind = 7 ∨ (¬ s.kind = 4 ∧ ¬ s.kind = 5 ∧ ¬ s.kind = 6 ∧ ¬ s.kind = 7) := by omega
  have hlo : ∀ x, (lost || !(!x && s.e.all (knE p) && s.thn.all (knS p) && s.els.all (knS p))) = (lost || !s.e.all (knE p) || x || !s.thn.all (knS p) || !s.els.all (knS p)) := by
    intro x
    cases lost <;> cases x <;> cases s.e.all (knE p) <;> cases s.thn.all (knS p) <;> cases s.els.all (knS p) <;> rfl
  rw [hlo]
  rcases hkind with hk | hk | hk | hk | ⟨hk4, hk5, hk6, hk7⟩
  · rw [hk, show wantE 4 = 2 from rfl, show fitK p f.word 4 s.name s.e.length = true from rfl]
    simp only [Tryz.f97, go_sem, Nat.reduceEqDiff, Nat.reduceLT, Nat.reduceLeDiff, Nat.reduceAdd, Nat.reduceSub, Nat.reduceMul, Nat.reduceBEq, Nat.reduceBNe, Int.reduceEq, Int.reduceToNat, Int.reduceNeg, ↓reduceIte, reduceCtorEq, Nat.reduceDiv, Nat.reduceMod, Int.reduceLE, Int.reduceLT, Int.reduceSub, Int.reduceAdd, hk, hA, hs, hs2, hs3]
    refine draw_intro (tab_ok [A, F, R]) mixed [(true, 0), (true, 1), (true, 2), (true, 3), (true, 5), (true, 6), (true, 7), (true, 8), (false, 4), (false, 9), (true, 10), (true, 11)] rfl ?_
    simp only [Tryz.f97, go_sem, Nat.reduceEqDiff, Nat.reduceLT, Nat.reduceLeDiff, Nat.reduceAdd, Nat.reduceSub, Nat.reduceMul, Nat.reduceBEq, Nat.reduceBNe, Int.reduceEq, Int.reduceToNat, Int.reduceNeg, ↓reduceIte, reduceCtorEq, Nat.reduceDiv, Nat.reduceMod, Int.reduceLE, Int.reduceLT, Int.reduceSub, Int.reduceAdd, hk, hA, hs, hs2, hs3, hR1, hR2]
    rw [Bool.false_and, Bool.or_false]
  · rw [hk, show wantE 5 = 2 from rfl, show fitK p f.word 5 s.name s.e.length = true from rfl]
    simp only [Tryz.f97, go_sem, Nat.reduceEqDiff, Nat.reduceLT, Nat.reduceLeDiff, Nat.reduceAdd, Nat.reduceSub, Nat.reduceMul, Nat.reduceBEq, Nat.reduceBNe, Int.reduceEq, Int.reduceToNat, Int.reduceNeg, ↓reduceIte, reduceCtorEq, Nat.reduceDiv, Nat.reduceMod, Int.reduceLE, Int.reduceLT, Int.reduceSub, Int.reduceAdd, hk, hA, hs, hs2, hs3]
    refine draw_intro (tab_ok [A, F, R]) mixed [(true, 0), (true, 1), (true, 2), (true, 3), (true, 5), (true, 6), (true, 7), (true, 8), (false, 4), (false, 9), (true, 10), (true, 11)] rfl ?_
    simp only [Tryz.f97, go_sem, Nat.reduceEqDiff, Nat.reduceLT, Nat.reduceLeDiff, Nat.reduceAdd, Nat.reduceSub, Nat.reduceMul, Nat.reduceBEq, Nat.reduceBNe, Int.reduceEq, Int.reduceToNat, Int.reduceNeg, ↓reduceIte, reduceCtorEq, Nat.reduceDiv, Nat.reduceMod, Int.reduceLE, Int.reduceLT, Int.reduceSub, Int.reduceAdd, hk, hA, hs, hs2, hs3, hR1, hR2]
    rw [Bool.false_and, Bool.or_false]
  · rw [hk, show wantE 6 = 1 from rfl, show fitK p f.word 6 s.name s.e.length = (decide (0 ≤ fnIdx p.funcs s.name) && !(elm p.funcs (fnIdx p.funcs s.name).toNat).word) from rfl, show decide ((6:Int) = 6) = true from rfl, Bool.true_and]
    rcases fnIdx_cases p.funcs s.name with hf | ⟨i, hi, hf⟩
    · have hfr : funRes p s.name = .tup [.agg [.val (.string ByteArray.empty), .nils, .nils, .val (.bool false), .nils], .val (.bool false)] := by
        unfold funRes; rw [hf]; rfl
      rw [hfr] at hF
      rw [hf] at hF ⊢
      simp only [Tryz.f97, go_sem, Nat.reduceEqDiff, Nat.reduceLT, Nat.reduceLeDiff, Nat.reduceAdd, Nat.reduceSub, Nat.reduceMul, Nat.reduceBEq, Nat.reduceBNe, Int.reduceEq, Int.reduceToNat, Int.reduceNeg, ↓reduceIte, reduceCtorEq, Nat.reduceDiv, Nat.reduceMod, Int.reduceLE, Int.reduceLT, Int.reduceSub, Int.reduceAdd, hk, hA, hs, hs2, hs3, hF]
      refine draw_intro (tab_ok [A, F, R]) mixed [(true, 0), (true, 1), (true, 2), (true, 3), (true, 5), (true, 6), (true, 7), (true, 8), (false, 4), (false, 9), (true, 10), (true, 11)] rfl ?_
      simp only [Tryz.f97, go_sem, Nat.reduceEqDiff, Nat.reduceLT, Nat.reduceLeDiff, Nat.reduceAdd, Nat.reduceSub, Nat.reduceMul, Nat.reduceBEq, Nat.reduceBNe, Int.reduceEq, Int.reduceToNat, Int.reduceNeg, ↓reduceIte, reduceCtorEq, Nat.reduceDiv, Nat.reduceMod, Int.reduceLE, Int.reduceLT, Int.reduceSub, Int.reduceAdd, hk, hA, hs, hs2, hs3, hR1, hR2]
      simp only [Bool.false_and]
    · have hfr : funRes p s.name = .tup [.agg [.val (.string (elm p.funcs i).name), .slice (encT (elm p.funcs i).params), .slice (encT (elm p.funcs i).locals), .val (.bool (elm p.funcs i).word), .slice ((elm p.funcs i).body.map encS)], .val (.bool true)] := by
        unfold funRes; rw [hf, if_pos (by omega)]; rfl
      rw [hfr] at hF
      rw [hf] at hF ⊢
      simp only [Tryz.f97, go_sem, Nat.reduceEqDiff, Nat.reduceLT, Nat.reduceLeDiff, Nat.reduceAdd, Nat.reduceSub, Nat.reduceMul, Nat.reduceBEq, Nat.reduceBNe, Int.reduceEq, Int.reduceToNat, Int.reduceNeg, ↓reduceIte, reduceCtorEq, Nat.reduceDiv, Nat.reduceMod, Int.reduceLE, Int.reduceLT, Int.reduceSub, Int.reduceAdd, hk, hA, hs, hs2, hs3, hF]
      refine draw_intro (tab_ok [A, F, R]) mixed [(true, 0), (true, 1), (true, 2), (true, 3), (true, 5), (true, 6), (true, 7), (true, 8), (false, 4), (false, 9), (true, 10), (true, 11)] rfl ?_
      simp only [Tryz.f97, go_sem, Nat.reduceEqDiff, Nat.reduceLT, Nat.reduceLeDiff, Nat.reduceAdd, Nat.reduceSub, Nat.reduceMul, Nat.reduceBEq, Nat.reduceBNe, Int.reduceEq, Int.reduceToNat, Int.reduceNeg, ↓reduceIte, reduceCtorEq, Nat.reduceDiv, Nat.reduceMod, Int.reduceLE, Int.reduceLT, Int.reduceSub, Int.reduceAdd, hk, hA, hs, hs2, hs3, hR1, hR2]
  · rw [hk, show wantE 7 = 1 from rfl, show fitK p f.word 7 s.name s.e.length = (decide (s.e.length = 0) || f.word) from rfl]
    simp only [Tryz.f97, go_sem, Nat.reduceEqDiff, Nat.reduceLT, Nat.reduceLeDiff, Nat.reduceAdd, Nat.reduceSub, Nat.reduceMul, Nat.reduceBEq, Nat.reduceBNe, Int.reduceEq, Int.reduceToNat, Int.reduceNeg, ↓reduceIte, reduceCtorEq, Nat.reduceDiv, Nat.reduceMod, Int.reduceLE, Int.reduceLT, Int.reduceSub, Int.reduceAdd, hk, hA, hs, hs2, hs3]
    repeat (first | intro _ | refine And.intro (by (intros; first | omega | (simp only [Bool.or_eq_false_iff, Bool.or_eq_true, decide_eq_false_iff_not, beq_iff_eq, Bool.and_eq_true, decide_eq_true_eq, Bool.not_eq_true'] at *; omega) | simp_all)) ?_)
    refine draw_intro (tab_ok [A, F, R]) mixed [(true, 0), (true, 1), (true, 2), (true, 3), (true, 5), (true, 6), (true, 7), (true, 8), (false, 4), (false, 9), (true, 10), (true, 11)] rfl ?_
    simp only [Tryz.f97, go_sem, Nat.reduceEqDiff, Nat.reduceLT, Nat.reduceLeDiff, Nat.reduceAdd, Nat.reduceSub, Nat.reduceMul, Nat.reduceBEq, Nat.reduceBNe, Int.reduceEq, Int.reduceToNat, Int.reduceNeg, ↓reduceIte, reduceCtorEq, Nat.reduceDiv, Nat.reduceMod, Int.reduceLE, Int.reduceLT, Int.reduceSub, Int.reduceAdd, hk, hA, hs, hs2, hs3, hR1, hR2]
    rw [Bool.false_and, Bool.or_false]
  · have hfk : fitK p f.word s.kind s.name s.e.length = true := by
      unfold fitK; rw [if_neg hk6, if_neg hk7]
    rw [show wantE s.kind = 1 from by unfold wantE; rw [if_neg (by omega)], hfk, decide_eq_false hk6]
    simp only [Tryz.f97, go_sem, Nat.reduceEqDiff, Nat.reduceLT, Nat.reduceLeDiff, Nat.reduceAdd, Nat.reduceSub, Nat.reduceMul, Nat.reduceBEq, Nat.reduceBNe, Int.reduceEq, Int.reduceToNat, Int.reduceNeg, ↓reduceIte, reduceCtorEq, Nat.reduceDiv, Nat.reduceMod, Int.reduceLE, Int.reduceLT, Int.reduceSub, Int.reduceAdd, hk4, hk5, hk6, hk7, hA, hs, hs2, hs3]
    refine draw_intro (tab_ok [A, F, R]) mixed [(true, 0), (true, 1), (true, 2), (true, 3), (true, 5), (true, 6), (true, 7), (true, 8), (false, 4), (false, 9), (true, 10), (true, 11)] rfl ?_
    simp only [Tryz.f97, go_sem, Nat.reduceEqDiff, Nat.reduceLT, Nat.reduceLeDiff, Nat.reduceAdd, Nat.reduceSub, Nat.reduceMul, Nat.reduceBEq, Nat.reduceBNe, Int.reduceEq, Int.reduceToNat, Int.reduceNeg, ↓reduceIte, reduceCtorEq, Nat.reduceDiv, Nat.reduceMod, Int.reduceLE, Int.reduceLT, Int.reduceSub, Int.reduceAdd, hk4, hk5, hk6, hk7, hA, hs, hs2, hs3, hR1, hR2]
    rw [Bool.false_and, Bool.or_false]

theorem stmts_ind (p : Pg) : ∀ n : Nat, StmtsC G p n ∧ StmtC G p n
  | 0 => ⟨fun _ _ _ _ _ _ h => absurd h.1 (Nat.not_lt_zero _), fun _ _ _ _ _ _ h => absurd h.1 (Nat.not_lt_zero _)⟩
  | n + 1 => ⟨stmts_step p (n + 1) (stmt_step p n (stmts_ind p n).1), stmt_step p n (stmts_ind p n).1⟩
theorem stmts_c (p : Pg) (b : Nat) (f : Fn) (l : List St) (lost : Bool) (sh : Sh) (hn : b < sh.next) (hb : sh.mem b = some (ck p lost)) (hk : l.all kdS = true) :
    VCalls Tryz.prog G 60 [.box b 0, .agg (encF f), .slice (l.map encS)] sh fun e s' => e = .ret (.val (.bool (l.all (fitS p f.word)))) ∧ s' = setLost sh b p (lost || !l.all (knS p)) :=
  (stmts_ind p (szSs l + 1)).1 b (f, l) lost sh hn hb ⟨Nat.lt_succ_self _, hk⟩

def kdF (f : Fn) : Bool := f.body.all kdS
/-- Is a program well typed, by the program? -/
theorem typCheck_c (p : Pg) (hk : p.funcs.all kdF = true) : VPure Tryz.prog G 33 [.agg (encP p)] (.val (.int .i64 (refC p))) := by
  refine VPure.of (.val _) fun sh => ?_
  refine VCalls_enter [9] Tryz.func33 rfl (show 1 ≤ 29 by decide) ?_
  obtain ⟨S1, hS1⟩ : ∃ S1 : Sh, S1 = { next := sh.next + 1, mem := upd sh.mem sh.next (some [.slice (encT p.vars), .slice (p.arrays.map encA), .slice (p.funcs.map encF), .val (.bool false)]) } := ⟨_, rfl⟩
  have hn1 : sh.next < S1.next := by rw [hS1]; exact Nat.lt_succ_self _
  have hb1 : S1.mem sh.next = some (ck p false) := by rw [hS1]; exact upd_same _ _ _
  have hm1 : ∀ b, b < sh.next → S1.mem b = sh.mem b := by
    intro b hb
    rw [hS1]
    exact upd_ne _ _ _ _ (by omega)
  obtain ⟨R, hR0, hs⟩ := ckRule (G := G) p 60 (fun b (x : Fn × List St) => [.box b 0, .agg (encF x.1), .slice (x.2.map encS)]) (fun x => .val (.bool (x.2.all (fitS p x.1.word)))) (fun x => !x.2.all (knS p)) (fun x => x.2.all kdS = true)
    (by rintro b ⟨x, k⟩ b' ⟨x', k'⟩ h; simp only [List.cons.injEq, PV.box.injEq, PV.agg.injEq, PV.slice.injEq, encF_iff, encSs_iff, true_and, and_true] at h; obtain ⟨rfl, rfl, rfl⟩ := h; exact ⟨rfl, rfl⟩)
    (fun b x lost sh h1 h2 h3 => stmts_c p b x.1 x.2 lost sh h1 h2 h3)
  have hR : ∀ tl (i : Nat) l1, i < p.funcs.length → tab (R :: tl) 60 [.box sh.next 0, .agg [.val (.string (elm p.funcs i).name), .slice (encT (elm p.funcs i).params), .slice (encT (elm p.funcs i).locals), .val (.bool (elm p.funcs i).word), .slice ((elm p.funcs i).body.map encS)], .slice ((elm p.funcs i).body.map encS)] (setLost S1 sh.next p l1) = some (.val (.bool (fitF p (elm p.funcs i))), setLost S1 sh.next p (l1 || !knF p (elm p.funcs i))) := by
    intro tl i l1 hi
    have := hR0 tl sh.next (elm p.funcs i, (elm p.funcs i).body) l1 (setLost S1 sh.next p l1) hn1 (setLost_b _ _ _ _) (all_elm hi hk)
    rw [setLost_twice] at this
    simpa only [encF, fitF, knF] using this
  clear hR0
  obtain ⟨T, hT, hs2⟩ := oneRule (told_c (G := G) p sh.next (p.funcs.all (fitF p)) (!p.funcs.all (knF p)) (setLost S1 sh.next p (!p.funcs.all (knF p))) (setLost_b _ _ _ _))
  refine vCode_sound (tab_ok [R, T]) _ _ _ ?_
  simp only [encP]
  simp only [Tryz.f33, go_sem, Nat.reduceEqDiff, Nat.reduceLT, Nat.reduceLeDiff, Nat.reduceAdd, Nat.reduceSub, Nat.reduceMul, Nat.reduceBEq, Nat.reduceBNe, Int.reduceEq, Int.reduceToNat, Int.reduceNeg, ↓reduceIte, reduceCtorEq, Nat.reduceDiv, Nat.reduceMod, Int.reduceLE, Int.reduceLT, Int.reduceSub, Int.reduceAdd]
  repeat (first | intro _ | refine And.intro (by (intros; first | omega | (simp only [Bool.or_eq_false_iff, Bool.or_eq_true, decide_eq_false_iff_not, beq_iff_eq, Bool.and_eq_true, decide_eq_true_eq, Bool.not_eq_true'] at *; omega) | simp_all)) ?_)
  rw [← hS1]
  refine loop_intro (VWp_for [14, 15, 16, 6, 17, 18, 19, 20, 21, 22, 23, 24, 4, 25, 13] (fun i : Nat => [(13, .val (.int .i64 i)), (4, .val (.bool ((p.funcs.take i).all (fitF p))))]) [6] (fun _ => []) [] (fun _ => []) (fun i => setLost S1 sh.next p (!(p.funcs.take i).all (knF p)))
    (fun i => i ≤ p.funcs.length) (fun i => p.funcs.length - i) 0 (Nat.zero_le _) ?_ ?_)
  · refine ⟨rfl, rfl, ?_, .refl _ _, .refl _ _, .refl _ _, by repeat (first | trivial | rfl | refine ⟨?_, ?_⟩), by repeat (first | trivial | rfl | refine ⟨?_, ?_⟩), by repeat (first | trivial | rfl | refine ⟨?_, ?_⟩), by repeat (first | trivial | exact .inr rfl | exact .inl rfl | refine ⟨?_, ?_⟩), by repeat (first | trivial | exact .inr rfl | exact .inl rfl | refine ⟨?_, ?_⟩), by repeat (first | trivial | exact .inr rfl | exact .inl rfl | refine ⟨?_, ?_⟩), by repeat (first | trivial | exact .inr rfl | exact .inl rfl | refine ⟨?_, ?_⟩)⟩
    show S1 = setLost S1 sh.next p (!true)
    rw [Bool.not_true, setLost_same hb1]
  rintro i hi
  refine vCode_sound (tab_ok [R, T]) _ _ _ ?_
  simp only [Tryz.f33, go_sem, Nat.reduceEqDiff, Nat.reduceLT, Nat.reduceLeDiff, Nat.reduceAdd, Nat.reduceSub, Nat.reduceMul, Nat.reduceBEq, Nat.reduceBNe, Int.reduceEq, Int.reduceToNat, Int.reduceNeg, ↓reduceIte, reduceCtorEq, Nat.reduceDiv, Nat.reduceMod, Int.reduceLE, Int.reduceLT, Int.reduceSub, Int.reduceAdd]
  repeat (first | intro _ | refine And.intro (by (intros; first | omega | (simp only [Bool.or_eq_false_iff, Bool.or_eq_true, decide_eq_false_iff_not, beq_iff_eq, Bool.and_eq_true, decide_eq_true_eq, Bool.not_eq_true'] at *; omega) | simp_all)) ?_)
  refine if_intro _ rfl trivial (fun h1 => ?_) (fun h1 => ?_)
  · simp only [decide_eq_true_eq, Int.ofNat_lt] at h1
    have hw : IntKind.i64.wrap ((i : Int) + 1) = ((i + 1 : Nat) : Int) := by rw [wrap64_id (by omega) (by omega)]; rfl
    simp only [Tryz.f33, go_sem, Nat.reduceEqDiff, Nat.reduceLT, Nat.reduceLeDiff, Nat.reduceAdd, Nat.reduceSub, Nat.reduceMul, Nat.reduceBEq, Nat.reduceBNe, Int.reduceEq, Int.reduceToNat, Int.reduceNeg, ↓reduceIte, reduceCtorEq, Nat.reduceDiv, Nat.reduceMod, Int.reduceLE, Int.reduceLT, Int.reduceSub, Int.reduceAdd, h1, hR, hs, hw]
    refine ⟨i + 1, h1, by omega, ?_⟩
    refine ⟨rfl, rfl, ?_, by repeat (first | exact AgreeOff.refl _ _ | refine AgreeOff.upd rfl ?_ | refine AgreeOff.over rfl ?_), by repeat (first | exact AgreeOff.refl _ _ | refine AgreeOff.upd rfl ?_ | refine AgreeOff.over rfl ?_), by repeat (first | exact AgreeOff.refl _ _ | refine AgreeOff.upd rfl ?_ | refine AgreeOff.over rfl ?_), ?_, by repeat (first | trivial | exact .inr rfl | exact .inl rfl | refine ⟨?_, ?_⟩), by repeat (first | trivial | exact .inr rfl | exact .inl rfl | refine ⟨?_, ?_⟩), by repeat (first | trivial | exact .inr rfl | exact .inl rfl | refine ⟨?_, ?_⟩), by repeat (first | trivial | exact .inr rfl | exact .inl rfl | refine ⟨?_, ?_⟩), by repeat (first | trivial | exact .inr rfl | exact .inl rfl | refine ⟨?_, ?_⟩), by repeat (first | trivial | exact .inr rfl | exact .inl rfl | refine ⟨?_, ?_⟩)⟩
    · show setLost _ _ _ _ = setLost _ _ _ _
      rw [take_all _ h1]
      congr 1
      cases (p.funcs.take i).all (knF p) <;> cases knF p (elm p.funcs i) <;> rfl
    · refine ⟨rfl, ?_, trivial⟩
      rw [take_all _ h1]
      show PV.val (.bool (fitF p (elm p.funcs i) && (p.funcs.take i).all (fitF p))) = _
      rw [Bool.and_comm]
  · simp only [decide_eq_false_iff_not, Int.ofNat_lt] at h1
    have hi' : i = p.funcs.length := by omega
    subst hi'
    rw [List.take_length]
    simp only [Tryz.f33, go_sem, Nat.reduceEqDiff, Nat.reduceLT, Nat.reduceLeDiff, Nat.reduceAdd, Nat.reduceSub, Nat.reduceMul, Nat.reduceBEq, Nat.reduceBNe, Int.reduceEq, Int.reduceToNat, Int.reduceNeg, ↓reduceIte, reduceCtorEq, Nat.reduceDiv, Nat.reduceMod, Int.reduceLE, Int.reduceLT, Int.reduceSub, Int.reduceAdd, hs, hs2, hT]
    refine ⟨?_, fun b hb => ?_⟩
    · unfold refC
      cases p.funcs.all (knF p) <;> cases p.funcs.all (fitF p) <;> rfl
    · rw [setLost_ne _ _ _ _ (by omega)]
      exact hm1 b hb
end Go.Proofs.YtaackmiajgapoaaGreatDoor.V
