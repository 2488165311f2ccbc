/- The row of the law TypingSound, and its card. -/

import Derived.Test.YtaackmiajgapoaaGreatDoorE7
import Derived.Test.YtaackmiajgapoaaGreatDoorOA
import Derived.Test.YtaackmiajgapoaaGreatDoorTie
import Derived.Test.YtaackmiajgapoaaGreatDoorCards
import Derived.ChangeSame
import Derived.ChangeVars
import Derived.JoinedOf
import Derived.RowKit
import Derived.RowKitTokens
import Derived.Carry
import Derived.SizedLaws
import Derived.SevenTiedAt
set_option linter.unusedVariables false
set_option linter.unusedSimpArgs false
namespace Go.Proofs.YtaackmiajgapoaaGreatDoor.typingSound
open Go Go.ChangeShapes Go.WideShapes Go.RowKit
open Go.Proofs.YtaackmiajgapoaaGreatDoor.V

theorem own : ownKnob Tryz.prog.godebug = none := by kernel_rfl
theorem laidOut : laidOutB Tryz.prog = true := by kernel_rfl
theorem underlying118 : Tryz.prog.underlying 162 = some (.array 10 9) := by kernel_rfl

/-- A world that meets the condition: the settled one, the variable's cells laid. -/
noncomputable def laidWorld (os : Os) : World :=
  let w0 := World.holding Tryz.prog os ⟨#[], #[], []⟩
  { w0 with heap := w0.heap.modify 0 fun
      | .cells _ t frozen => .cells (wordList.map fun s => Value.string s).toArray t frozen
      | o => o }
set_option maxRecDepth 100000 in
theorem laidWorld_met (os : Os) (args : Array Value) : laidMetH Tryz.prog [("seedcorn/token.words", Rows.laid_seedcorn_token_words)] ((laidWorld os).forCall (fun _ _ => 0) ⟨#[], args, []⟩).memory :=
  laidMetH_of_parts (laidMet_of_run' 8 (by kernel_rfl) (by kernel_rfl)) (by kernel_rfl)

theorem words_ok {W : World} (h : laidMetH Tryz.prog [("seedcorn/token.words", Rows.laid_seedcorn_token_words)] W) : ∀ g e, wordG g = some e → ∃ u : Nat → Value, ∀ k (h : k < e.length), memOf W g k = some (u k) ∧ RepV (memOf W) (e[k]) (u k) := by
  intro g e hg
  unfold wordG at hg
  split at hg
  · rename_i h0
    subst h0
    obtain rfl := Option.some.inj hg
    have h' : laidMet Tryz.prog [("seedcorn/token.words", .agg (wordList.map fun s => .lit (.string s.data.toList)))] W := h
    exact words_of_laid (P := Tryz.prog) (t := 162) (e := 9) (by kernel_rfl) (by kernel_rfl) underlying118 Tryz.underlying9 c9 (by kernel_rfl) h' (by decide)
  · cases hg

set_option maxRecDepth 100000 in
theorem lifted (os : Os) (started : os.Started) (H : Type) (enc : TypeId × Value → H) :
    ReturnsInHanded {} Tryz.checked os 3 .any (fun w args => (Rows.typingSoundSpec.pre enc Tryz.prog Tryz.f3 [] false w args ∧ laidMetH Tryz.prog [("seedcorn/token.words", Rows.laid_seedcorn_token_words)] w) ∧ sizedMet enc Tryz.prog Tryz.f3 (OpenSpec.ofChange Rows.typingSoundSpec) false w args)
      (Rows.typingSoundSpec.post enc Tryz.prog Tryz.f3 false true false false) := by
  refine returnsInHanded_of_change_and (C := Tryz.checked) (X := fun w _ => laidMetH Tryz.prog [("seedcorn/token.words", Rows.laid_seedcorn_token_words)] w) (fun _ _ _ hh h => h.of_heap hh) own started (by kernel_rfl) Tryz.func3
    (ChangeSpec.witness_at (enc := enc) (C := Tryz.checked) (os := os) (X := fun w _ => laidMetH Tryz.prog [("seedcorn/token.words", Rows.laid_seedcorn_token_words)] w) false (laidWorld os) #[.agg #[.slice none 0 0, .slice none 0 0, .slice none 0 0]] 8 rfl (by kernel_rfl) (by kernel_rfl) (by kernel_rfl) (by kernel_rfl) (by kernel_rfl) (laidWorld_met os _)) ?_
  intro W base args ds gs before hval0 hW _ _ hL _
  have hval : ∀ (j : Nat) t v, Tryz.f3.params[j]? = some t → args[j]? = some v → Value.okWide Tryz.prog W .any base t v := hval0
  have hW' := hW
  obtain ⟨p, q, hA0, hV, rfl, hfz, hnd⟩ := hW
  have hA : DataW.TrodAll enc Tryz.prog W 0 (fun _ => true) true Tryz.f3.params.toList args.toList ds p := hA0
  rw [Tryz.params3] at hA hval
  obtain ⟨rfl, rfl⟩ := trodVars_none hV
  obtain ⟨v0, d0, rfl, rfl, h0⟩ := trodAll_one hA
  let p0 := p
  obtain ⟨c0, rfl, _⟩ := okWide_struct Tryz.underlying26 (hval 0 26 v0 rfl rfl)
  have k0 := h0
  obtain ⟨fuel0, g0⟩ := h0
  have lt0 := DataW.trod_lt _ _ _ _ g0
  obtain ⟨a0, r0⟩ := o_pg g0
  have r0 := r0.agg
  refine (bridge_bool (words_ok hL) (lawSound_c wordG_ok a0) rfl ?_).mono ?_
  · intro i hi
    match i, hi with
    | 0, _ => exact r0
  rintro e W' ⟨rfl, bel⟩
  exact ⟨_, rfl, _, _, _, [], _, [], hW', trodAll_mk1 (shut_bool Tryz.underlying4 _), trodAll_mk1 (Below.trod laidOut (by kernel_rfl) (of_decide_eq_true (by kernel_rfl)) k0 bel lt0), rfl, bel.frame _, fun h => by cases h⟩

set_option maxRecDepth 100000 in
theorem over : Rows.typingSoundRow.holds Tryz.pinned (OpenSpec.ofChange Rows.typingSoundSpec) :=
  OpenClaim.holds_of_wide 3 Tryz.f3 rfl rfl rfl rfl rfl rfl rfl ⟨rfl, rfl, rfl, rfl, rfl⟩ rfl rfl rfl rfl rfl (by kernel_rfl) Tryz.func3 (by kernel_rfl)
    (of_decide_eq_true (by kernel_rfl)) (by unfold Func.isWrapper; first | (rw [if_pos (by decide +kernel)]; kernel_rfl) | (rw [if_neg (by decide +kernel)]; exact ⟨rfl, rfl⟩))
    (fun os started H enc _ => lifted os started H enc)
end Go.Proofs.YtaackmiajgapoaaGreatDoor.typingSound
