/- The card of the law TypingCheck. -/
import Derived.Test.YtaackmiajgapoaaDoorRTypingCheck
set_option linter.unusedVariables false
namespace Go.Proofs.YtaackmiajgapoaaDoor.typingCheck
open Go

set_option maxRecDepth 100000 in
theorem card : Rows.TypingCheckCardSaid :=
  Claim7.holds_tied_plain_at .later [] [.widerDeep] true (true, "bd894bd2d45ed630751e75cc58de293afb3b117eb318308fa227d26833b754ac") true
    over (fun _ h => by cases h) (by kernel_rfl) (fun _ h => by cases h) typingCheck_row_tie rfl ⟨rfl, rfl⟩ (by kernel_rfl) rfl
    (fun f fn hf hfn => by
      obtain rfl : f = 4 := Option.some.inj ((show Tryd.prog.funcNamed "seedcorn/seedcornlaw17.TypingCheck" = some 4 by kernel_rfl).symm.trans hf) |>.symm
      obtain rfl : fn = Tryd.f4 := (Option.some.inj (Tryd.func4.symm.trans hfn)).symm
      exact ⟨by kernel_rfl, fun j t ht => by
        rw [Tryd.params4] at ht
        match j, ht with
        | 0, ht => obtain rfl := Option.some.inj ht; exact (show Tryd.prog.wantsStandIn 26 = false by kernel_rfl)
        | j + 1, ht => simp at ht⟩)
    (by kernel_rfl)
end Go.Proofs.YtaackmiajgapoaaDoor.typingCheck
namespace Go.Proofs.YtaackmiajgapoaaDoor
/-- The law TypingCheck. -/
theorem typingCheck_card : Rows.TypingCheckCardSaid := typingCheck.card
#print axioms typingCheck_card
end Go.Proofs.YtaackmiajgapoaaDoor
