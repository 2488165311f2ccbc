/-
  NARROWER THAN 'FOR EVERY INPUT', by the rows' own cells (each row's printed sentence says how): TypingExpr: loops, laid · TypingCheck: loops, laid · TypingKinds: loops, laid · TypingStmts: loops, laid · TypingNames: loops, laid · TypingParts: loops, laid · SystemSource: laid.
  DERIVED. THE GIVEN ROWS OF THIS SEAT. 7 by the template 'for every input the law returns true; each argument reads behind the call as it read before'; 0 by the template 'total and deterministic' (their statements: YtaackmiajgapoaaDoorTotals.lean).
  GIVEN WITH THE SEED: the statements are not yours to turn. If you find one false, say at which input.
  Laid BY PROGRAM, IN A SANDBOX (cutbox-rows.mjs): the forced cells as the released guide's own fill.sh prints them over the translation bac7448c132e5598… (all of the seat's roots in one cut). By AI agents, Wed Nov 11 2026. No macro, syntax, notation, axiom, sorry.
-/
import Derived.Test.YtaackmiajgapoaaDoorChecked
import GoSem.Claim
import GoSem.ClaimJoined
import GoSem.ClaimMapViews
import Derived.JoinedTies
import Derived.KernelRfl
namespace Go.Proofs.YtaackmiajgapoaaDoor
/- THE CELL 'sum', in the pinned program and in every row, IS THE sha256 OF THE DUMP (.gsa) THAT YtaackmiajgapoaaDoorProg.lean LOADS. Nothing in Lean hashes anything: it is a label: what it is worth is what the hold of that sum in a sandbox is worth. -/
noncomputable def Tryd.pinned : Pinned := { name := "ytaackmiajgapoaadoor", sum := "bac7448c132e559848b1b38361416f9b66c8dc340946a4fd0e4640e697b6305d", checked := Tryd.checked }
namespace Rows
def none {H : Type} : Left H := { results := [], args := [] }

/- WHAT THE LISTED PACKAGE-LEVEL VARIABLES READ AS WHEN THE CALL BEGINS. Each datum BY PROGRAM (the guide's laid-datum.mjs) off the statement by which the dump's own 'gosem.cut.vars' lays the variable. In a bare row this is a premise. The card (YtaackmiajgapoaaDoorCards.lean) ties it to the program's text. -/
def laid_seedcorn_token_words {H : Type} : DataW H := .agg [.lit (.string [118, 97, 114]), .lit (.string [97, 114, 114, 97, 121]), .lit (.string [102, 117, 110, 99]), .lit (.string [119, 111, 114, 100]), .lit (.string [105, 102]), .lit (.string [101, 108, 115, 101]), .lit (.string [119, 104, 105, 108, 101]), .lit (.string [114, 101, 116, 117, 114, 110]), .lit (.string [112, 117, 116]), .lit (.string [103, 101, 116])]
def laid_math_bits_deBruijn32tab {H : Type} : DataW H := .agg [.lit (.int .u8 0), .lit (.int .u8 1), .lit (.int .u8 28), .lit (.int .u8 2), .lit (.int .u8 29), .lit (.int .u8 14), .lit (.int .u8 24), .lit (.int .u8 3), .lit (.int .u8 30), .lit (.int .u8 22), .lit (.int .u8 20), .lit (.int .u8 15), .lit (.int .u8 25), .lit (.int .u8 17), .lit (.int .u8 4), .lit (.int .u8 8), .lit (.int .u8 31), .lit (.int .u8 27), .lit (.int .u8 13), .lit (.int .u8 23), .lit (.int .u8 21), .lit (.int .u8 19), .lit (.int .u8 16), .lit (.int .u8 7), .lit (.int .u8 26), .lit (.int .u8 12), .lit (.int .u8 18), .lit (.int .u8 6), .lit (.int .u8 11), .lit (.int .u8 5), .lit (.int .u8 10), .lit (.int .u8 9)]
def laid_math_bits_deBruijn64tab {H : Type} : DataW H := .agg [.lit (.int .u8 0), .lit (.int .u8 1), .lit (.int .u8 56), .lit (.int .u8 2), .lit (.int .u8 57), .lit (.int .u8 49), .lit (.int .u8 28), .lit (.int .u8 3), .lit (.int .u8 61), .lit (.int .u8 58), .lit (.int .u8 42), .lit (.int .u8 50), .lit (.int .u8 38), .lit (.int .u8 29), .lit (.int .u8 17), .lit (.int .u8 4), .lit (.int .u8 62), .lit (.int .u8 47), .lit (.int .u8 59), .lit (.int .u8 36), .lit (.int .u8 45), .lit (.int .u8 43), .lit (.int .u8 51), .lit (.int .u8 22), .lit (.int .u8 53), .lit (.int .u8 39), .lit (.int .u8 33), .lit (.int .u8 30), .lit (.int .u8 24), .lit (.int .u8 18), .lit (.int .u8 12), .lit (.int .u8 5), .lit (.int .u8 63), .lit (.int .u8 55), .lit (.int .u8 48), .lit (.int .u8 27), .lit (.int .u8 60), .lit (.int .u8 41), .lit (.int .u8 37), .lit (.int .u8 16), .lit (.int .u8 46), .lit (.int .u8 35), .lit (.int .u8 44), .lit (.int .u8 21), .lit (.int .u8 52), .lit (.int .u8 32), .lit (.int .u8 23), .lit (.int .u8 11), .lit (.int .u8 54), .lit (.int .u8 26), .lit (.int .u8 40), .lit (.int .u8 15), .lit (.int .u8 34), .lit (.int .u8 20), .lit (.int .u8 31), .lit (.int .u8 10), .lit (.int .u8 25), .lit (.int .u8 14), .lit (.int .u8 19), .lit (.int .u8 9), .lit (.int .u8 13), .lit (.int .u8 8), .lit (.int .u8 7), .lit (.int .u8 6)]
def laid_internal_strconv_uint64pow10 {H : Type} : DataW H := .agg [.lit (.int .u64 1), .lit (.int .u64 10), .lit (.int .u64 100), .lit (.int .u64 1000), .lit (.int .u64 10000), .lit (.int .u64 100000), .lit (.int .u64 1000000), .lit (.int .u64 10000000), .lit (.int .u64 100000000), .lit (.int .u64 1000000000), .lit (.int .u64 10000000000), .lit (.int .u64 100000000000), .lit (.int .u64 1000000000000), .lit (.int .u64 10000000000000), .lit (.int .u64 100000000000000), .lit (.int .u64 1000000000000000), .lit (.int .u64 10000000000000000), .lit (.int .u64 100000000000000000), .lit (.int .u64 1000000000000000000), .lit (.int .u64 10000000000000000000)]
def laid_seedcorn_token_signs {H : Type} : DataW H := .agg [.lit (.string [60, 60]), .lit (.string [62, 62]), .lit (.string [61, 61]), .lit (.string [38, 38]), .lit (.string [124, 124]), .lit (.string [40]), .lit (.string [41]), .lit (.string [123]), .lit (.string [125]), .lit (.string [91]), .lit (.string [93]), .lit (.string [59]), .lit (.string [44]), .lit (.string [61]), .lit (.string [43]), .lit (.string [45]), .lit (.string [42]), .lit (.string [47]), .lit (.string [37]), .lit (.string [38]), .lit (.string [124]), .lit (.string [94]), .lit (.string [60]), .lit (.string [33])]
def laid_seedcorn_syntax_signs {H : Type} : DataW H := .agg [.lit (.string [43]), .lit (.string [45]), .lit (.string [42]), .lit (.string [47]), .lit (.string [37]), .lit (.string [38]), .lit (.string [124]), .lit (.string [94]), .lit (.string [60, 60]), .lit (.string [62, 62]), .lit (.string [60]), .lit (.string [61, 61])]

/-- 'seedcornlaw17.TypingExpr': WHATEVER THE INPUT: true; the input reads as it did. -/
def typingExprSpec : ChangeSpec := { name := "typingExpr", fn := fun _ => fun
  | [d1, d2] => { results := [.lit (.bool true)], args := [d1, d2] }
  | _ => none }
def typingExprRow : OpenClaim := { program := "ytaackmiajgapoaadoor", sum := "bac7448c132e559848b1b38361416f9b66c8dc340946a4fd0e4640e697b6305d", func := "seedcorn/seedcornlaw17.TypingExpr", spec := "typingExpr", unfollowed := true, recurses := true, named := ["seedcorn/token.words"], loops := true, apart := false, laid := [("seedcorn/token.words", laid_seedcorn_token_words)] }
def TypingExprSaid : Prop := typingExprRow.holds Tryd.pinned (OpenSpec.ofChange typingExprSpec)

/-- ITS FALSE NEIGHBOUR: 'it returns false'. Refute it at one input. -/
def typingExprWrong : ChangeSpec := { name := "typingExpr", fn := fun _ => fun
  | [d1, d2] => { results := [.lit (.bool false)], args := [d1, d2] }
  | _ => none }
def TypingExprWrongFalsely : Prop := typingExprRow.holds Tryd.pinned (OpenSpec.ofChange typingExprWrong)

/-- 'seedcornlaw17.TypingCheck': WHATEVER THE INPUT: true; the input reads as it did. -/
def typingCheckSpec : ChangeSpec := { name := "typingCheck", fn := fun _ => fun
  | [d] => { results := [.lit (.bool true)], args := [d] }
  | _ => none }
def typingCheckRow : OpenClaim := { program := "ytaackmiajgapoaadoor", sum := "bac7448c132e559848b1b38361416f9b66c8dc340946a4fd0e4640e697b6305d", func := "seedcorn/seedcornlaw17.TypingCheck", spec := "typingCheck", unfollowed := true, recurses := true, named := ["seedcorn/token.words"], loops := true, apart := false, laid := [("seedcorn/token.words", laid_seedcorn_token_words)] }
def TypingCheckSaid : Prop := typingCheckRow.holds Tryd.pinned (OpenSpec.ofChange typingCheckSpec)

/-- ITS FALSE NEIGHBOUR: 'it returns false'. Refute it at one input. -/
def typingCheckWrong : ChangeSpec := { name := "typingCheck", fn := fun _ => fun
  | [d] => { results := [.lit (.bool false)], args := [d] }
  | _ => none }
def TypingCheckWrongFalsely : Prop := typingCheckRow.holds Tryd.pinned (OpenSpec.ofChange typingCheckWrong)

/-- 'seedcornlaw17.TypingKinds': WHATEVER THE INPUT: true; the input reads as it did. -/
def typingKindsSpec : ChangeSpec := { name := "typingKinds", fn := fun _ => fun
  | [d1, d2] => { results := [.lit (.bool true)], args := [d1, d2] }
  | _ => none }
def typingKindsRow : OpenClaim := { program := "ytaackmiajgapoaadoor", sum := "bac7448c132e559848b1b38361416f9b66c8dc340946a4fd0e4640e697b6305d", func := "seedcorn/seedcornlaw17.TypingKinds", spec := "typingKinds", unfollowed := true, recurses := true, named := ["seedcorn/token.words"], loops := true, apart := false, laid := [("seedcorn/token.words", laid_seedcorn_token_words)] }
def TypingKindsSaid : Prop := typingKindsRow.holds Tryd.pinned (OpenSpec.ofChange typingKindsSpec)

/-- ITS FALSE NEIGHBOUR: 'it returns false'. Refute it at one input. -/
def typingKindsWrong : ChangeSpec := { name := "typingKinds", fn := fun _ => fun
  | [d1, d2] => { results := [.lit (.bool false)], args := [d1, d2] }
  | _ => none }
def TypingKindsWrongFalsely : Prop := typingKindsRow.holds Tryd.pinned (OpenSpec.ofChange typingKindsWrong)

/-- 'seedcornlaw17.TypingStmts': WHATEVER THE INPUT: true; the input reads as it did. -/
def typingStmtsSpec : ChangeSpec := { name := "typingStmts", fn := fun _ => fun
  | [d1, d2, d3] => { results := [.lit (.bool true)], args := [d1, d2, d3] }
  | _ => none }
def typingStmtsRow : OpenClaim := { program := "ytaackmiajgapoaadoor", sum := "bac7448c132e559848b1b38361416f9b66c8dc340946a4fd0e4640e697b6305d", func := "seedcorn/seedcornlaw17.TypingStmts", spec := "typingStmts", unfollowed := true, recurses := true, named := ["seedcorn/token.words"], loops := true, apart := false, laid := [("seedcorn/token.words", laid_seedcorn_token_words)] }
def TypingStmtsSaid : Prop := typingStmtsRow.holds Tryd.pinned (OpenSpec.ofChange typingStmtsSpec)

/-- ITS FALSE NEIGHBOUR: 'it returns false'. Refute it at one input. -/
def typingStmtsWrong : ChangeSpec := { name := "typingStmts", fn := fun _ => fun
  | [d1, d2, d3] => { results := [.lit (.bool false)], args := [d1, d2, d3] }
  | _ => none }
def TypingStmtsWrongFalsely : Prop := typingStmtsRow.holds Tryd.pinned (OpenSpec.ofChange typingStmtsWrong)

/-- 'seedcornlaw17.TypingNames': WHATEVER THE INPUT: true; the input reads as it did. -/
def typingNamesSpec : ChangeSpec := { name := "typingNames", fn := fun _ => fun
  | [d1, d2] => { results := [.lit (.bool true)], args := [d1, d2] }
  | _ => none }
def typingNamesRow : OpenClaim := { program := "ytaackmiajgapoaadoor", sum := "bac7448c132e559848b1b38361416f9b66c8dc340946a4fd0e4640e697b6305d", func := "seedcorn/seedcornlaw17.TypingNames", spec := "typingNames", unfollowed := true, recurses := true, named := ["seedcorn/token.words"], loops := true, apart := false, laid := [("seedcorn/token.words", laid_seedcorn_token_words)] }
def TypingNamesSaid : Prop := typingNamesRow.holds Tryd.pinned (OpenSpec.ofChange typingNamesSpec)

/-- ITS FALSE NEIGHBOUR: 'it returns false'. Refute it at one input. -/
def typingNamesWrong : ChangeSpec := { name := "typingNames", fn := fun _ => fun
  | [d1, d2] => { results := [.lit (.bool false)], args := [d1, d2] }
  | _ => none }
def TypingNamesWrongFalsely : Prop := typingNamesRow.holds Tryd.pinned (OpenSpec.ofChange typingNamesWrong)

/-- 'seedcornlaw17.TypingParts': WHATEVER THE INPUT: true; the input reads as it did. -/
def typingPartsSpec : ChangeSpec := { name := "typingParts", fn := fun _ => fun
  | [d1, d2, d3] => { results := [.lit (.bool true)], args := [d1, d2, d3] }
  | _ => none }
def typingPartsRow : OpenClaim := { program := "ytaackmiajgapoaadoor", sum := "bac7448c132e559848b1b38361416f9b66c8dc340946a4fd0e4640e697b6305d", func := "seedcorn/seedcornlaw17.TypingParts", spec := "typingParts", unfollowed := true, recurses := true, named := ["seedcorn/token.words"], loops := true, apart := false, laid := [("seedcorn/token.words", laid_seedcorn_token_words)] }
def TypingPartsSaid : Prop := typingPartsRow.holds Tryd.pinned (OpenSpec.ofChange typingPartsSpec)

/-- ITS FALSE NEIGHBOUR: 'it returns false'. Refute it at one input. -/
def typingPartsWrong : ChangeSpec := { name := "typingParts", fn := fun _ => fun
  | [d1, d2, d3] => { results := [.lit (.bool false)], args := [d1, d2, d3] }
  | _ => none }
def TypingPartsWrongFalsely : Prop := typingPartsRow.holds Tryd.pinned (OpenSpec.ofChange typingPartsWrong)

/-- 'seedcorntop.SystemSource': WHATEVER THE INPUT: true; the input reads as it did. -/
def systemSourceSpec : ChangeSpec := { name := "systemSource", fn := fun _ => fun
  | [d] => { results := [.lit (.bool true)], args := [d] }
  | _ => none }
def systemSourceRow : OpenClaim := { program := "ytaackmiajgapoaadoor", sum := "bac7448c132e559848b1b38361416f9b66c8dc340946a4fd0e4640e697b6305d", func := "seedcorn/seedcorntop.SystemSource", spec := "systemSource", inPlace := ["internal/abi.NoEscape", "internal/bytealg.MakeNoZero"], unfollowed := true, recurses := true, named := ["seedcorn/token.words", "seedcorn/token.signs", "internal/strconv.uint64pow10", "math/bits.deBruijn32tab", "math/bits.deBruijn64tab", "seedcorn/syntax.signs"], apart := false, laid := [("math/bits.deBruijn32tab", laid_math_bits_deBruijn32tab), ("math/bits.deBruijn64tab", laid_math_bits_deBruijn64tab), ("internal/strconv.uint64pow10", laid_internal_strconv_uint64pow10), ("seedcorn/token.words", laid_seedcorn_token_words), ("seedcorn/token.signs", laid_seedcorn_token_signs), ("seedcorn/syntax.signs", laid_seedcorn_syntax_signs)] }
def SystemSourceSaid : Prop := systemSourceRow.holds Tryd.pinned (OpenSpec.ofChange systemSourceSpec)

/-- ITS FALSE NEIGHBOUR: 'it returns false'. Refute it at one input. -/
def systemSourceWrong : ChangeSpec := { name := "systemSource", fn := fun _ => fun
  | [d] => { results := [.lit (.bool false)], args := [d] }
  | _ => none }
def SystemSourceWrongFalsely : Prop := systemSourceRow.holds Tryd.pinned (OpenSpec.ofChange systemSourceWrong)

/- THE SECOND FORM. 'bulk': how many values and letters a reading holds, each counted each time it is reached (what is shared counts as often as it is met; a slice's spare places count too). A statement '..UptoSaid' is the law's where the arguments, and the package variables that the reading takes, are together of bulk at most 1048576: NARROWER than '..Said'. Prove '..Said' where nothing that the law and all that it calls make is longer than what came in: it says more and counts as full. Else prove '..UptoSaid'. A law counts once. -/
mutual
def uptoBulk {H : Type} : DataW H → Nat
  | .lit (.string bytes) => bytes.length + 1
  | .lit _ => 1
  | .nil => 1
  | .ptr d => uptoBulk d + 1
  | .slice elems spare => uptoBulkAll elems + uptoBulkAll spare + 1
  | .agg parts => uptoBulkAll parts + 1
  | .iface _ d => uptoBulk d + 1
  | .map entries => uptoBulkEntries entries + 1
  | .held _ => 1
def uptoBulkAll {H : Type} : List (DataW H) → Nat
  | [] => 0
  | d :: r => uptoBulk d + uptoBulkAll r
def uptoBulkEntries {H : Type} : List (Lit × DataW H) → Nat
  | [] => 0
  | x :: r => uptoBulkEntry x + uptoBulkEntries r
def uptoBulkEntry {H : Type} : Lit × DataW H → Nat
  | (.string bytes, d) => bytes.length + uptoBulk d + 1
  | (_, d) => uptoBulk d + 1
 end
def uptoSmall : (H : Type) → List (DataW H) → Bool := fun _ ds => decide (uptoBulkAll ds ≤ 1048576)
def OpenSpec.upto (s : _root_.Go.ChangeSpec) : _root_.Go.OpenSpec := { _root_.Go.OpenSpec.ofChange s with cond := some uptoSmall }

/-- 'seedcornlaw17.TypingExpr', WHERE WHAT IT READS IS OF BULK AT MOST 1048576: true; the input reads as it did. -/
def typingExprUptoRow : OpenClaim := { program := "ytaackmiajgapoaadoor", sum := "bac7448c132e559848b1b38361416f9b66c8dc340946a4fd0e4640e697b6305d", func := "seedcorn/seedcornlaw17.TypingExpr", spec := "typingExpr", unfollowed := true, recurses := true, named := ["seedcorn/token.words"], loops := true, apart := false, laid := [("seedcorn/token.words", laid_seedcorn_token_words)], narrowed := true }
def TypingExprUptoSaid : Prop := typingExprUptoRow.holds Tryd.pinned (OpenSpec.upto typingExprSpec)

/-- 'seedcornlaw17.TypingCheck', WHERE WHAT IT READS IS OF BULK AT MOST 1048576: true; the input reads as it did. -/
def typingCheckUptoRow : OpenClaim := { program := "ytaackmiajgapoaadoor", sum := "bac7448c132e559848b1b38361416f9b66c8dc340946a4fd0e4640e697b6305d", func := "seedcorn/seedcornlaw17.TypingCheck", spec := "typingCheck", unfollowed := true, recurses := true, named := ["seedcorn/token.words"], loops := true, apart := false, laid := [("seedcorn/token.words", laid_seedcorn_token_words)], narrowed := true }
def TypingCheckUptoSaid : Prop := typingCheckUptoRow.holds Tryd.pinned (OpenSpec.upto typingCheckSpec)

/-- 'seedcornlaw17.TypingKinds', WHERE WHAT IT READS IS OF BULK AT MOST 1048576: true; the input reads as it did. -/
def typingKindsUptoRow : OpenClaim := { program := "ytaackmiajgapoaadoor", sum := "bac7448c132e559848b1b38361416f9b66c8dc340946a4fd0e4640e697b6305d", func := "seedcorn/seedcornlaw17.TypingKinds", spec := "typingKinds", unfollowed := true, recurses := true, named := ["seedcorn/token.words"], loops := true, apart := false, laid := [("seedcorn/token.words", laid_seedcorn_token_words)], narrowed := true }
def TypingKindsUptoSaid : Prop := typingKindsUptoRow.holds Tryd.pinned (OpenSpec.upto typingKindsSpec)

/-- 'seedcornlaw17.TypingStmts', WHERE WHAT IT READS IS OF BULK AT MOST 1048576: true; the input reads as it did. -/
def typingStmtsUptoRow : OpenClaim := { program := "ytaackmiajgapoaadoor", sum := "bac7448c132e559848b1b38361416f9b66c8dc340946a4fd0e4640e697b6305d", func := "seedcorn/seedcornlaw17.TypingStmts", spec := "typingStmts", unfollowed := true, recurses := true, named := ["seedcorn/token.words"], loops := true, apart := false, laid := [("seedcorn/token.words", laid_seedcorn_token_words)], narrowed := true }
def TypingStmtsUptoSaid : Prop := typingStmtsUptoRow.holds Tryd.pinned (OpenSpec.upto typingStmtsSpec)

/-- 'seedcornlaw17.TypingNames', WHERE WHAT IT READS IS OF BULK AT MOST 1048576: true; the input reads as it did. -/
def typingNamesUptoRow : OpenClaim := { program := "ytaackmiajgapoaadoor", sum := "bac7448c132e559848b1b38361416f9b66c8dc340946a4fd0e4640e697b6305d", func := "seedcorn/seedcornlaw17.TypingNames", spec := "typingNames", unfollowed := true, recurses := true, named := ["seedcorn/token.words"], loops := true, apart := false, laid := [("seedcorn/token.words", laid_seedcorn_token_words)], narrowed := true }
def TypingNamesUptoSaid : Prop := typingNamesUptoRow.holds Tryd.pinned (OpenSpec.upto typingNamesSpec)

/-- 'seedcornlaw17.TypingParts', WHERE WHAT IT READS IS OF BULK AT MOST 1048576: true; the input reads as it did. -/
def typingPartsUptoRow : OpenClaim := { program := "ytaackmiajgapoaadoor", sum := "bac7448c132e559848b1b38361416f9b66c8dc340946a4fd0e4640e697b6305d", func := "seedcorn/seedcornlaw17.TypingParts", spec := "typingParts", unfollowed := true, recurses := true, named := ["seedcorn/token.words"], loops := true, apart := false, laid := [("seedcorn/token.words", laid_seedcorn_token_words)], narrowed := true }
def TypingPartsUptoSaid : Prop := typingPartsUptoRow.holds Tryd.pinned (OpenSpec.upto typingPartsSpec)

/-- 'seedcorntop.SystemSource', WHERE WHAT IT READS IS OF BULK AT MOST 1048576: true; the input reads as it did. -/
def systemSourceUptoRow : OpenClaim := { program := "ytaackmiajgapoaadoor", sum := "bac7448c132e559848b1b38361416f9b66c8dc340946a4fd0e4640e697b6305d", func := "seedcorn/seedcorntop.SystemSource", spec := "systemSource", inPlace := ["internal/abi.NoEscape", "internal/bytealg.MakeNoZero"], unfollowed := true, recurses := true, named := ["seedcorn/token.words", "seedcorn/token.signs", "internal/strconv.uint64pow10", "math/bits.deBruijn32tab", "math/bits.deBruijn64tab", "seedcorn/syntax.signs"], apart := false, laid := [("math/bits.deBruijn32tab", laid_math_bits_deBruijn32tab), ("math/bits.deBruijn64tab", laid_math_bits_deBruijn64tab), ("internal/strconv.uint64pow10", laid_internal_strconv_uint64pow10), ("seedcorn/token.words", laid_seedcorn_token_words), ("seedcorn/token.signs", laid_seedcorn_token_signs), ("seedcorn/syntax.signs", laid_seedcorn_syntax_signs)], narrowed := true }
def SystemSourceUptoSaid : Prop := systemSourceUptoRow.holds Tryd.pinned (OpenSpec.upto systemSourceSpec)

end Rows
end Go.Proofs.YtaackmiajgapoaaDoor
