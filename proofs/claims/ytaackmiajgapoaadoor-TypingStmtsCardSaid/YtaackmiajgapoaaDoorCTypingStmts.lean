/- The card of the law TypingStmts. -/
import Derived.Test.YtaackmiajgapoaaDoorRTypingStmts
set_option linter.unusedVariables false
namespace Go.Proofs.YtaackmiajgapoaaDoor.typingStmts
open Go

set_option maxRecDepth 100000 in
theorem card : Rows.TypingStmtsCardSaid :=
  Claim7.holds_tied_plain_at .later [] [.widerDeep] true (true, "bd894bd2d45ed630751e75cc58de293afb3b117eb318308fa227d26833b754ac") true
    over (fun _ h => by cases h) (by kernel_rfl) (fun _ h => by cases h) typingStmts_row_tie rfl ⟨rfl, rfl⟩ (by kernel_rfl) rfl
    (fun f fn hf hfn => by
      obtain rfl : f = 6 := Option.some.inj ((show Tryd.prog.funcNamed "seedcorn/seedcornlaw17.TypingStmts" = some 6 by kernel_rfl).symm.trans hf) |>.symm
      obtain rfl : fn = Tryd.f6 := (Option.some.inj (Tryd.func6.symm.trans hfn)).symm
      exact ⟨by kernel_rfl, fun j t ht => by
        rw [Tryd.params6] at ht
        match j, ht with
        | 0, ht => obtain rfl := Option.some.inj ht; exact (show Tryd.prog.wantsStandIn 26 = false by kernel_rfl)
        | 1, ht => obtain rfl := Option.some.inj ht; exact (show Tryd.prog.wantsStandIn 30 = false by kernel_rfl)
        | 2, ht => obtain rfl := Option.some.inj ht; exact (show Tryd.prog.wantsStandIn 5 = false by kernel_rfl)
        | j + 3, ht => simp at ht⟩)
    (by kernel_rfl)
end Go.Proofs.YtaackmiajgapoaaDoor.typingStmts
namespace Go.Proofs.YtaackmiajgapoaaDoor
/-- The law TypingStmts. -/
theorem typingStmts_card : Rows.TypingStmtsCardSaid := typingStmts.card
#print axioms typingStmts_card
end Go.Proofs.YtaackmiajgapoaaDoor
