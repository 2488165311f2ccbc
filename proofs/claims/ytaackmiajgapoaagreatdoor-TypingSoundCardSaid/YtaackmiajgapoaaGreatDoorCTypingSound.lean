/- The card of the law TypingSound. -/
import Derived.Test.YtaackmiajgapoaaGreatDoorRTypingSound
set_option linter.unusedVariables false
namespace Go.Proofs.YtaackmiajgapoaaGreatDoor.typingSound
open Go

set_option maxRecDepth 100000 in
theorem card : Rows.TypingSoundCardSaid :=
  Claim7.holds_tied_plain_at .later [] [.widerDeep] true (true, "b3bca2ca6926a472cebd51b3a9172c2000bfcf82b3ead3325fdb435c2861a12b") true
    over (fun _ h => by cases h) (by kernel_rfl) (fun _ h => by cases h) typingSound_row_tie rfl ⟨rfl, rfl⟩ (by kernel_rfl) rfl
    (fun f fn hf hfn => by
      obtain rfl : f = 3 := Option.some.inj ((show Tryz.prog.funcNamed "seedcorn/seedcornlaw17.TypingSound" = some 3 by kernel_rfl).symm.trans hf) |>.symm
      obtain rfl : fn = Tryz.f3 := (Option.some.inj (Tryz.func3.symm.trans hfn)).symm
      exact ⟨by kernel_rfl, fun j t ht => by
        rw [Tryz.params3] at ht
        match j, ht with
        | 0, ht => obtain rfl := Option.some.inj ht; exact (show Tryz.prog.wantsStandIn 26 = false by kernel_rfl)
        | j + 1, ht => simp at ht⟩)
    (by kernel_rfl)
end Go.Proofs.YtaackmiajgapoaaGreatDoor.typingSound
namespace Go.Proofs.YtaackmiajgapoaaGreatDoor
/-- The law TypingSound. -/
theorem typingSound_card : Rows.TypingSoundCardSaid := typingSound.card
#print axioms typingSound_card
end Go.Proofs.YtaackmiajgapoaaGreatDoor
