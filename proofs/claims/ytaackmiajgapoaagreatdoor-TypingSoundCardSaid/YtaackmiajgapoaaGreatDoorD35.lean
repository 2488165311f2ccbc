/- The laws are awake. -/
import Derived.Test.YtaackmiajgapoaaGreatDoorD34
import Derived.Test.YtaackmiajgapoaaGreatDoorVB
set_option maxRecDepth 100000
set_option maxHeartbeats 16000000
set_option linter.unusedSimpArgs false
set_option linter.unusedVariables false
namespace Go.Proofs.YtaackmiajgapoaaGreatDoor.V
open Go
variable {G : Nat → Option (List PV)}

def oneE : Ex := .mk 1 0 1 ByteArray.empty []
def varE : Ex := .mk 2 0 0 ⟨#[97]⟩ []
def callE : Ex := .mk 4 0 0 ⟨#[102]⟩ []
def notE (e : Ex) : Ex := .mk 7 0 0 ByteArray.empty [e]
def progE (k : Int) : Pg := ⟨[⟨#[97]⟩], [], [⟨⟨#[109, 97, 105, 110]⟩, [], [], false, [.mk k ByteArray.empty [varE] [] []]⟩]⟩
def noPg : Pg := ⟨[], [], []⟩

/-- A rule for what stands for arguments. -/
theorem nfRule {P : Program} {ι : Type} (f : FuncId) (A : ι → List PV) (res : ι → PV) (D : ι → Prop) (inj : ∀ x y, A x = A y → x = y) (ok : ∀ x, D x → VPure P G f (A x) (res x)) :
    ∃ R : Rule P G, (∀ tl x args sh, D x → nfL args = A x → tab (R :: tl) f args sh = some (res x, sh)) ∧ ∀ tl g args sh, g ≠ f → tab (R :: tl) g args sh = tab tl g args sh := by
  let R : Rule P G :=
    { f, ι := ι × List PV, A := fun x => x.2, dom := fun x _ => D x.1 ∧ nfL x.2 = A x.1, res := fun x _ => res x.1, sh' := fun _ sh => sh,
      inj := by
        rintro ⟨x, a⟩ ⟨y, b⟩ sh h ⟨_, h1⟩ ⟨_, h2⟩
        simp only at h h1 h2
        subst h
        obtain rfl := inj x y (h1.symm.trans h2)
        exact ⟨rfl, rfl⟩
      ok := fun x sh h => (ok x.1 h.1).nf h.2 sh }
  exact ⟨R, fun tl x args sh h1 h2 => tab_at R tl (x, args) sh ⟨h1, h2⟩, fun tl g args sh h => tab_skip R tl g args sh h⟩
theorem bothRule : ∃ R : Rule Tryz.prog G, (∀ tl (x : Int × Int × Ex × Ex) args sh, True → nfL args = [.val (.int .i64 x.1), .val (.int .i64 x.2.1), .agg (encE x.2.2.1), .agg (encE x.2.2.2)] → tab (R :: tl) 28 args sh = some (.agg (encE (bothE x.1 x.2.1 x.2.2.1 x.2.2.2)), sh)) ∧ ∀ tl g args sh, g ≠ 28 → tab (R :: tl) g args sh = tab tl g args sh :=
  nfRule 28 (fun x : Int × Int × Ex × Ex => [.val (.int .i64 x.1), .val (.int .i64 x.2.1), .agg (encE x.2.2.1), .agg (encE x.2.2.2)]) (fun x => .agg (encE (bothE x.1 x.2.1 x.2.2.1 x.2.2.2))) (fun _ => True)
    (by rintro ⟨a, b, c, d⟩ ⟨a', b', c', d'⟩ h; simp only [List.cons.injEq, PV.agg.injEq, PV.val.injEq, Value.int.injEq, encE_iff, true_and, and_true] at h; obtain ⟨rfl, rfl, rfl, rfl⟩ := h; rfl)
    (fun x _ => both_c _ _ _ _)
theorem typRule : ∃ R : Rule Tryz.prog G, (∀ tl (x : Pg × Ex) args sh, kdE x.2 = true → nfL args = [.agg (encP x.1), .agg (encE x.2)] → tab (R :: tl) 27 args sh = some (.tup [.val (.int .i64 (refE x.1 x.2).1), .val (.int .i64 (refE x.1 x.2).2)], sh)) ∧ ∀ tl g args sh, g ≠ 27 → tab (R :: tl) g args sh = tab tl g args sh :=
  nfRule 27 (fun x : Pg × Ex => [.agg (encP x.1), .agg (encE x.2)]) (fun x => .tup [.val (.int .i64 (refE x.1 x.2).1), .val (.int .i64 (refE x.1 x.2).2)]) (fun x => kdE x.2 = true)
    (by rintro ⟨a, b⟩ ⟨a', b'⟩ h; simp only [List.cons.injEq, PV.agg.injEq, encE_iff, encP_iff, true_and, and_true] at h; obtain ⟨rfl, rfl⟩ := h; rfl)
    (fun x h => typExpr_c _ _ h)
theorem soundRule (hG : GOk G) : ∃ R : Rule Tryz.prog G, (∀ tl (x : Pg) args sh, nmOk x → nfL args = [.agg (encP x)] → tab (R :: tl) 10 args sh = some (.val (.int .i64 (soundP x)), sh)) ∧ ∀ tl g args sh, g ≠ 10 → tab (R :: tl) g args sh = tab tl g args sh :=
  nfRule 10 (fun x : Pg => [.agg (encP x)]) (fun x => .val (.int .i64 (soundP x))) nmOk
    (by intro x y h; simp only [List.cons.injEq, PV.agg.injEq, encP_iff, and_true] at h; exact h)
    (fun x h => sound_c hG x h)

theorem nm_progE (k : Int) : nmOk (progE k) := ⟨by intro f hf; simp only [progE, List.mem_singleton] at hf; subst hf; exact (by decide : (0:Nat) * 16 ≤ 140737488355328), (by decide : (1 + 0 + 1) * 16 ≤ 140737488355328), by intro s hs; simp only [progE, List.mem_singleton] at hs; subst hs; decide⟩
theorem nm_noPg : nmOk noPg := ⟨by intro f hf; simp [noPg] at hf, by decide, by intro s hs; simp [noPg] at hs⟩

theorem awake_c (hG : GOk G) : VPure Tryz.prog G 8 [] (.val (.bool true)) := by
  refine VPure.of (.val _) fun sh => ?_
  refine VCalls_enter [] Tryz.func8 rfl (show 0 ≤ 98 by decide) ?_
  obtain ⟨B, hB, hsB⟩ := bothRule (G := G)
  obtain ⟨T, hT, hsT⟩ := typRule (G := G)
  obtain ⟨S, hS, hsS⟩ := soundRule hG
  obtain ⟨x4, hx4⟩ : ∃ x, x = encE (bothE 6 4 oneE varE) := ⟨_, rfl⟩
  obtain ⟨x14, hx14⟩ : ∃ x, x = encE (bothE 6 14 oneE varE) := ⟨_, rfl⟩
  have b4 : ∀ tl sh, tab (B :: tl) 28 [.val (.int .i64 6), .val (.int .i64 4), .agg [.val (.int .i64 1), .val (.int .i64 0), .val (.int .u32 1), .val (.string ByteArray.empty), .nils], .agg [.val (.int .i64 2), .val (.int .i64 0), .val (.int .u32 0), .val (.string ⟨#[97]⟩), .nils]] sh = some (.agg x4, sh) := fun tl sh => hx4 ▸ hB tl (6, 4, oneE, varE) _ sh trivial rfl
  have b14 : ∀ tl sh, tab (B :: tl) 28 [.val (.int .i64 6), .val (.int .i64 14), .agg [.val (.int .i64 1), .val (.int .i64 0), .val (.int .u32 1), .val (.string ByteArray.empty), .nils], .agg [.val (.int .i64 2), .val (.int .i64 0), .val (.int .u32 0), .val (.string ⟨#[97]⟩), .nils]] sh = some (.agg x14, sh) := fun tl sh => hx14 ▸ hB tl (6, 14, oneE, varE) _ sh trivial rfl
  have t4 : ∀ tl sh, tab (T :: tl) 27 [.agg [.slice [[.val (.string ⟨#[97]⟩)]], .nils, .slice [[.val (.string ⟨#[109, 97, 105, 110]⟩), .nils, .nils, .val (.bool false), .slice [[.val (.int .i64 3), .val (.string ByteArray.empty), .slice [[.val (.int .i64 2), .val (.int .i64 0), .val (.int .u32 0), .val (.string ⟨#[97]⟩), .nils]], .nils, .nils]]]]], .agg x4] sh = some (.tup [.val (.int .i64 1), .val (.int .i64 0)], sh) := fun tl sh => hT tl (progE 3, bothE 6 4 oneE varE) _ sh (by decide +kernel) (by rw [hx4]; rfl)
  have t14 : ∀ tl sh, tab (T :: tl) 27 [.agg [.slice [[.val (.string ⟨#[97]⟩)]], .nils, .slice [[.val (.string ⟨#[109, 97, 105, 110]⟩), .nils, .nils, .val (.bool false), .slice [[.val (.int .i64 3), .val (.string ByteArray.empty), .slice [[.val (.int .i64 2), .val (.int .i64 0), .val (.int .u32 0), .val (.string ⟨#[97]⟩), .nils]], .nils, .nils]]]]], .agg x14] sh = some (.tup [.val (.int .i64 2), .val (.int .i64 0)], sh) := fun tl sh => hT tl (progE 3, bothE 6 14 oneE varE) _ sh (by decide +kernel) (by rw [hx14]; rfl)
  have tn : ∃ k : Int, ∀ tl sh, tab (T :: tl) 27 [.agg [.slice [[.val (.string ⟨#[97]⟩)]], .nils, .slice [[.val (.string ⟨#[109, 97, 105, 110]⟩), .nils, .nils, .val (.bool false), .slice [[.val (.int .i64 3), .val (.string ByteArray.empty), .slice [[.val (.int .i64 2), .val (.int .i64 0), .val (.int .u32 0), .val (.string ⟨#[97]⟩), .nils]], .nils, .nils]]]]], .agg [.val (.int .i64 7), .val (.int .i64 0), .val (.int .u32 0), .val (.string ByteArray.empty), .slice [[.val (.int .i64 1), .val (.int .i64 0), .val (.int .u32 1), .val (.string ByteArray.empty), .nils]]]] sh = some (.tup [.val (.int .i64 k), .val (.int .i64 5)], sh) := ⟨_, fun tl sh => hT tl (progE 3, notE oneE) _ sh (by decide +kernel) rfl⟩
  have tc : ∃ k : Int, ∀ tl sh, tab (T :: tl) 27 [.agg [.slice [[.val (.string ⟨#[97]⟩)]], .nils, .slice [[.val (.string ⟨#[109, 97, 105, 110]⟩), .nils, .nils, .val (.bool false), .slice [[.val (.int .i64 3), .val (.string ByteArray.empty), .slice [[.val (.int .i64 2), .val (.int .i64 0), .val (.int .u32 0), .val (.string ⟨#[97]⟩), .nils]], .nils, .nils]]]]], .agg [.val (.int .i64 4), .val (.int .i64 0), .val (.int .u32 0), .val (.string ⟨#[102]⟩), .nils]] sh = some (.tup [.val (.int .i64 k), .val (.int .i64 4)], sh) := ⟨_, fun tl sh => hT tl (progE 3, callE) _ sh (by decide +kernel) rfl⟩
  have s3 : ∀ tl sh, tab (S :: tl) 10 [.agg [.slice [[.val (.string ⟨#[97]⟩)]], .nils, .slice [[.val (.string ⟨#[109, 97, 105, 110]⟩), .nils, .nils, .val (.bool false), .slice [[.val (.int .i64 3), .val (.string ByteArray.empty), .slice [[.val (.int .i64 2), .val (.int .i64 0), .val (.int .u32 0), .val (.string ⟨#[97]⟩), .nils]], .nils, .nils]]]]]] sh = some (.val (.int .i64 0), sh) := fun tl sh => hS tl (progE 3) _ sh (nm_progE 3) rfl
  have s4 : ∀ tl sh, tab (S :: tl) 10 [.agg [.slice [[.val (.string ⟨#[97]⟩)]], .nils, .slice [[.val (.string ⟨#[109, 97, 105, 110]⟩), .nils, .nils, .val (.bool false), .slice [[.val (.int .i64 4), .val (.string ByteArray.empty), .slice [[.val (.int .i64 2), .val (.int .i64 0), .val (.int .u32 0), .val (.string ⟨#[97]⟩), .nils]], .nils, .nils]]]]]] sh = some (.val (.int .i64 5), sh) := fun tl sh => hS tl (progE 4) _ sh (nm_progE 4) rfl
  have s0 : ∀ tl sh, tab (S :: tl) 10 [.agg [.nils, .nils, .nils]] sh = some (.val (.int .i64 7), sh) := fun tl sh => hS tl noPg _ sh nm_noPg rfl
  obtain ⟨kn, tn⟩ := tn
  obtain ⟨kc, tc⟩ := tc
  clear hB hT hS hx4 hx14
  refine VWp_seq (vCode_sound (tab_ok [B, T, S]) _ _ _ ?_)
  simp only [Tryz.f8, go_sem, Nat.reduceEqDiff, Nat.reduceLT, Nat.reduceLeDiff, Nat.reduceAdd, Nat.reduceSub, Nat.reduceMul, Nat.reduceBEq, Nat.reduceBNe, Int.reduceEq, Int.reduceToNat, Int.reduceNeg, ↓reduceIte, reduceCtorEq, Nat.reduceDiv, Nat.reduceMod, Int.reduceLE, Int.reduceLT, Int.reduceSub, Int.reduceAdd]
  refine VWp_seq (vCode_sound (tab_ok [B, T, S]) _ _ _ ?_)
  simp only [Tryz.f8, go_sem, Nat.reduceEqDiff, Nat.reduceLT, Nat.reduceLeDiff, Nat.reduceAdd, Nat.reduceSub, Nat.reduceMul, Nat.reduceBEq, Nat.reduceBNe, Int.reduceEq, Int.reduceToNat, Int.reduceNeg, ↓reduceIte, reduceCtorEq, Nat.reduceDiv, Nat.reduceMod, Int.reduceLE, Int.reduceLT, Int.reduceSub, Int.reduceAdd]
  refine VWp_seq (vCode_sound (tab_ok [B, T, S]) _ _ _ ?_)
  simp only [Tryz.f8, go_sem, Nat.reduceEqDiff, Nat.reduceLT, Nat.reduceLeDiff, Nat.reduceAdd, Nat.reduceSub, Nat.reduceMul, Nat.reduceBEq, Nat.reduceBNe, Int.reduceEq, Int.reduceToNat, Int.reduceNeg, ↓reduceIte, reduceCtorEq, Nat.reduceDiv, Nat.reduceMod, Int.reduceLE, Int.reduceLT, Int.reduceSub, Int.reduceAdd]
  refine VWp_seq (vCode_sound (tab_ok [B, T, S]) _ _ _ ?_)
  simp only [Tryz.f8, go_sem, Nat.reduceEqDiff, Nat.reduceLT, Nat.reduceLeDiff, Nat.reduceAdd, Nat.reduceSub, Nat.reduceMul, Nat.reduceBEq, Nat.reduceBNe, Int.reduceEq, Int.reduceToNat, Int.reduceNeg, ↓reduceIte, reduceCtorEq, Nat.reduceDiv, Nat.reduceMod, Int.reduceLE, Int.reduceLT, Int.reduceSub, Int.reduceAdd]
  refine VWp_seq (vCode_sound (tab_ok [B, T, S]) _ _ _ ?_)
  simp only [Tryz.f8, go_sem, Nat.reduceEqDiff, Nat.reduceLT, Nat.reduceLeDiff, Nat.reduceAdd, Nat.reduceSub, Nat.reduceMul, Nat.reduceBEq, Nat.reduceBNe, Int.reduceEq, Int.reduceToNat, Int.reduceNeg, ↓reduceIte, reduceCtorEq, Nat.reduceDiv, Nat.reduceMod, Int.reduceLE, Int.reduceLT, Int.reduceSub, Int.reduceAdd]
  refine VWp_seq (vCode_sound (tab_ok [B, T, S]) _ _ _ ?_)
  simp only [Tryz.f8, go_sem, Nat.reduceEqDiff, Nat.reduceLT, Nat.reduceLeDiff, Nat.reduceAdd, Nat.reduceSub, Nat.reduceMul, Nat.reduceBEq, Nat.reduceBNe, Int.reduceEq, Int.reduceToNat, Int.reduceNeg, ↓reduceIte, reduceCtorEq, Nat.reduceDiv, Nat.reduceMod, Int.reduceLE, Int.reduceLT, Int.reduceSub, Int.reduceAdd]
  refine draw_intro (tab_ok [B, T, S]) mixed [(true, 0), (true, 1), (true, 2), (false, 3), (false, 4), (true, 5), (true, 6), (true, 7), (true, 8), (true, 9)] rfl ?_
  simp only [Tryz.f8, go_sem, Nat.reduceEqDiff, Nat.reduceLT, Nat.reduceLeDiff, Nat.reduceAdd, Nat.reduceSub, Nat.reduceMul, Nat.reduceBEq, Nat.reduceBNe, Int.reduceEq, Int.reduceToNat, Int.reduceNeg, ↓reduceIte, reduceCtorEq, Nat.reduceDiv, Nat.reduceMod, Int.reduceLE, Int.reduceLT, Int.reduceSub, Int.reduceAdd, b4, t4, hsB, hsT, hsS]
  refine VWp_seq (vCode_sound (tab_ok [B, T, S]) _ _ _ ?_)
  simp only [Tryz.f8, go_sem, Nat.reduceEqDiff, Nat.reduceLT, Nat.reduceLeDiff, Nat.reduceAdd, Nat.reduceSub, Nat.reduceMul, Nat.reduceBEq, Nat.reduceBNe, Int.reduceEq, Int.reduceToNat, Int.reduceNeg, ↓reduceIte, reduceCtorEq, Nat.reduceDiv, Nat.reduceMod, Int.reduceLE, Int.reduceLT, Int.reduceSub, Int.reduceAdd]
  refine draw_intro (tab_ok [B, T, S]) mixed [(true, 0), (true, 1), (true, 2), (false, 3), (false, 4), (true, 5), (true, 6), (true, 7), (true, 8), (true, 9)] rfl ?_
  simp only [Tryz.f8, go_sem, Nat.reduceEqDiff, Nat.reduceLT, Nat.reduceLeDiff, Nat.reduceAdd, Nat.reduceSub, Nat.reduceMul, Nat.reduceBEq, Nat.reduceBNe, Int.reduceEq, Int.reduceToNat, Int.reduceNeg, ↓reduceIte, reduceCtorEq, Nat.reduceDiv, Nat.reduceMod, Int.reduceLE, Int.reduceLT, Int.reduceSub, Int.reduceAdd, b14, t14, hsB, hsT, hsS]
  refine VWp_seq (vCode_sound (tab_ok [B, T, S]) _ _ _ ?_)
  simp only [Tryz.f8, go_sem, Nat.reduceEqDiff, Nat.reduceLT, Nat.reduceLeDiff, Nat.reduceAdd, Nat.reduceSub, Nat.reduceMul, Nat.reduceBEq, Nat.reduceBNe, Int.reduceEq, Int.reduceToNat, Int.reduceNeg, ↓reduceIte, reduceCtorEq, Nat.reduceDiv, Nat.reduceMod, Int.reduceLE, Int.reduceLT, Int.reduceSub, Int.reduceAdd, tn, hsB, hsT, hsS]
  refine VWp_seq (vCode_sound (tab_ok [B, T, S]) _ _ _ ?_)
  simp only [Tryz.f8, go_sem, Nat.reduceEqDiff, Nat.reduceLT, Nat.reduceLeDiff, Nat.reduceAdd, Nat.reduceSub, Nat.reduceMul, Nat.reduceBEq, Nat.reduceBNe, Int.reduceEq, Int.reduceToNat, Int.reduceNeg, ↓reduceIte, reduceCtorEq, Nat.reduceDiv, Nat.reduceMod, Int.reduceLE, Int.reduceLT, Int.reduceSub, Int.reduceAdd, tc, hsB, hsT, hsS]
  refine VWp_seq (VWp_known (tab_ok [B, T, S]) ?_)
  simp only [Tryz.f8, go_sem, Nat.reduceEqDiff, Nat.reduceLT, Nat.reduceLeDiff, Nat.reduceAdd, Nat.reduceSub, Nat.reduceMul, Nat.reduceBEq, Nat.reduceBNe, Int.reduceEq, Int.reduceToNat, Int.reduceNeg, ↓reduceIte, reduceCtorEq, Nat.reduceDiv, Nat.reduceMod, Int.reduceLE, Int.reduceLT, Int.reduceSub, Int.reduceAdd, vListK, s3, s4, s0, hsB, hsT, hsS]
  refine vCode_sound (tab_ok [B, T, S]) _ _ _ ?_
  simp only [Tryz.f8, go_sem, Nat.reduceEqDiff, Nat.reduceLT, Nat.reduceLeDiff, Nat.reduceAdd, Nat.reduceSub, Nat.reduceMul, Nat.reduceBEq, Nat.reduceBNe, Int.reduceEq, Int.reduceToNat, Int.reduceNeg, ↓reduceIte, reduceCtorEq, Nat.reduceDiv, Nat.reduceMod, Int.reduceLE, Int.reduceLT, Int.reduceSub, Int.reduceAdd]
  done
end Go.Proofs.YtaackmiajgapoaaGreatDoor.V
