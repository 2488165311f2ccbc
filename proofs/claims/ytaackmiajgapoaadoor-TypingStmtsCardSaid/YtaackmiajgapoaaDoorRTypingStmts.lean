/- The row of the law TypingStmts, and its card. -/

import Derived.Test.YtaackmiajgapoaaDoorD45
import Derived.Test.YtaackmiajgapoaaDoorOA
import Derived.Test.YtaackmiajgapoaaDoorTie
import Derived.Test.YtaackmiajgapoaaDoorCards
import Derived.ChangeSame
import Derived.ChangeVars
import Derived.JoinedOf
import Derived.RowKit
import Derived.RowKitTokens
import Derived.Carry
import Derived.SizedLaws
import Derived.SevenTiedAt
set_option linter.unusedVariables false
set_option linter.unusedSimpArgs false
namespace Go.Proofs.YtaackmiajgapoaaDoor.typingStmts
open Go Go.ChangeShapes Go.WideShapes Go.RowKit
open Go.Proofs.YtaackmiajgapoaaDoor.V

theorem own : ownKnob Tryd.prog.godebug = none := by kernel_rfl
theorem laidOut : laidOutB Tryd.prog = true := by kernel_rfl
theorem underlying118 : Tryd.prog.underlying 118 = some (.array 10 9) := by kernel_rfl

/-- A world that meets the condition: the settled one, the variable's cells laid. -/
noncomputable def laidWorld (os : Os) : World :=
  let w0 := World.holding Tryd.prog os ⟨#[], #[], []⟩
  { w0 with heap := w0.heap.modify 0 fun
      | .cells _ t frozen => .cells (wordList.map fun s => Value.string s).toArray t frozen
      | o => o }
set_option maxRecDepth 100000 in
theorem laidWorld_met (os : Os) (args : Array Value) : laidMetH Tryd.prog [("seedcorn/token.words", Rows.laid_seedcorn_token_words)] ((laidWorld os).forCall (fun _ _ => 0) ⟨#[], args, []⟩).memory :=
  laidMetH_of_parts (laidMet_of_run' 8 (by kernel_rfl) (by kernel_rfl)) (by kernel_rfl)

theorem words_ok {W : World} (h : laidMetH Tryd.prog [("seedcorn/token.words", Rows.laid_seedcorn_token_words)] W) : ∀ g e, wordG g = some e → ∃ u : Nat → Value, ∀ k (h : k < e.length), memOf W g k = some (u k) ∧ RepV (memOf W) (e[k]) (u k) := by
  intro g e hg
  unfold wordG at hg
  split at hg
  · rename_i h0
    subst h0
    obtain rfl := Option.some.inj hg
    have h' : laidMet Tryd.prog [("seedcorn/token.words", .agg (wordList.map fun s => .lit (.string s.data.toList)))] W := h
    exact words_of_laid (P := Tryd.prog) (t := 118) (e := 9) (by kernel_rfl) (by kernel_rfl) underlying118 Tryd.underlying9 c9 (by kernel_rfl) h' (by decide)
  · cases hg

theorem rng8 {a : Int} (h : (Lit.int .u8 a).wf = true) : 0 ≤ a ∧ a < 256 := by
  simp only [Lit.wf, Bool.and_eq_true, decide_eq_true_eq] at h
  have h1 : (0 : Int) ≤ a := h.1
  have h2 : a ≤ 255 := h.2
  omega
set_option maxRecDepth 100000 in
theorem lifted (os : Os) (started : os.Started) (H : Type) (enc : TypeId × Value → H) :
    ReturnsInHanded {} Tryd.checked os 6 .any (fun w args => (Rows.typingStmtsSpec.pre enc Tryd.prog Tryd.f6 [] false w args ∧ laidMetH Tryd.prog [("seedcorn/token.words", Rows.laid_seedcorn_token_words)] w) ∧ sizedMet enc Tryd.prog Tryd.f6 (OpenSpec.ofChange Rows.typingStmtsSpec) false w args)
      (Rows.typingStmtsSpec.post enc Tryd.prog Tryd.f6 false true false false) := by
  refine returnsInHanded_of_change_and (C := Tryd.checked) (X := fun w _ => laidMetH Tryd.prog [("seedcorn/token.words", Rows.laid_seedcorn_token_words)] w) (fun _ _ _ hh h => h.of_heap hh) own started (by kernel_rfl) Tryd.func6
    (ChangeSpec.witness_at (enc := enc) (C := Tryd.checked) (os := os) (X := fun w _ => laidMetH Tryd.prog [("seedcorn/token.words", Rows.laid_seedcorn_token_words)] w) false (laidWorld os) #[.agg #[.slice none 0 0, .slice none 0 0, .slice none 0 0], .agg #[.int .i64 0, .int .i64 0, .int .u32 0, .string ByteArray.empty, .slice none 0 0], .int .u8 0] 8 rfl (by kernel_rfl) (by kernel_rfl) (by kernel_rfl) (by kernel_rfl) (by kernel_rfl) (laidWorld_met os _)) ?_
  intro W base args ds gs before hval0 hW _ _ hL _
  have hval : ∀ (j : Nat) t v, Tryd.f6.params[j]? = some t → args[j]? = some v → Value.okWide Tryd.prog W .any base t v := hval0
  have hW' := hW
  obtain ⟨p, q, hA0, hV, rfl, hfz, hnd⟩ := hW
  have hA : DataW.TrodAll enc Tryd.prog W 0 (fun _ => true) true Tryd.f6.params.toList args.toList ds p := hA0
  rw [Tryd.params6] at hA hval
  obtain ⟨rfl, rfl⟩ := trodVars_none hV
  obtain ⟨v0, v1, v2, d0, d1, d2, p0, p1, p2, rfl, rfl, rfl, h0, h1, h2⟩ := trodAll_three hA
  obtain ⟨c0, rfl, _⟩ := okWide_struct Tryd.underlying26 (hval 0 26 v0 rfl rfl)
  have k0 := h0
  obtain ⟨fuel0, g0⟩ := h0
  have lt0 := DataW.trod_lt _ _ _ _ g0
  obtain ⟨a0, r0⟩ := o_pg g0
  have r0 := r0.agg
  obtain ⟨c1, rfl, _⟩ := okWide_struct Tryd.underlying30 (hval 1 30 v1 rfl rfl)
  have k1 := h1
  obtain ⟨fuel1, g1⟩ := h1
  have lt1 := DataW.trod_lt _ _ _ _ g1
  obtain ⟨a1, r1⟩ := o_ex _ _ _ g1
  have r1 := r1.agg
  obtain ⟨a2, rfl, rfl, rfl, w2⟩ := open_int Tryd.underlying5 (hval 2 5 v2 rfl rfl) h2
  have r2 : RepS (memOf W) (fun _ => 0) 0 (.val (.int .u8 a2)) (.int .u8 a2) := .pure (.val _ trivial)
  refine (bridge_bool (words_ok hL) (lawStmts_c wordG_ok a0 a1 a2 (rng8 w2).1 (rng8 w2).2) rfl ?_).mono ?_
  · intro i hi
    match i, hi with
    | 0, _ => exact r0
    | 1, _ => exact r1
    | 2, _ => exact r2
  rintro e W' ⟨rfl, bel⟩
  exact ⟨_, rfl, _, _, _, [], _, [], hW', trodAll_mk1 (shut_bool Tryd.underlying4 _), trodAll_mk3 (Below.trod laidOut (by kernel_rfl) (of_decide_eq_true (by kernel_rfl)) k0 bel lt0) (Below.trod laidOut (by kernel_rfl) (of_decide_eq_true (by kernel_rfl)) k1 bel lt1) (shut_int Tryd.underlying5 w2), rfl, bel.frame _, fun h => by cases h⟩

set_option maxRecDepth 100000 in
theorem over : Rows.typingStmtsRow.holds Tryd.pinned (OpenSpec.ofChange Rows.typingStmtsSpec) :=
  OpenClaim.holds_of_wide 6 Tryd.f6 rfl rfl rfl rfl rfl rfl rfl ⟨rfl, rfl, rfl, rfl, rfl⟩ rfl rfl rfl rfl rfl (by kernel_rfl) Tryd.func6 (by kernel_rfl)
    (of_decide_eq_true (by kernel_rfl)) (by unfold Func.isWrapper; first | (rw [if_pos (by decide +kernel)]; kernel_rfl) | (rw [if_neg (by decide +kernel)]; exact ⟨rfl, rfl⟩))
    (fun os started H enc _ => lifted os started H enc)
end Go.Proofs.YtaackmiajgapoaaDoor.typingStmts
