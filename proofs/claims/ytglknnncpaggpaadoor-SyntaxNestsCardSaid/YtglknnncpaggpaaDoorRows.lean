/-
  NARROWER THAN 'FOR EVERY INPUT', by the rows' own cells (each row's printed sentence says how): SyntaxRows: laid · SyntaxNames: laid · SyntaxSigns: laid · SyntaxApart: laid · SyntaxNests: laid · PrintBack: loops, laid · PrintRules: loops, laid · PrintExprs: loops, laid.
  DERIVED. THE GIVEN ROWS OF THIS SEAT. 8 by the template 'for every input the law returns true; each argument reads behind the call as it read before'; 0 by the template 'total and deterministic' (their statements: YtglknnncpaggpaaDoorTotals.lean).
  GIVEN WITH THE SEED: the statements are not yours to turn. If you find one false, say at which input.
  Laid BY PROGRAM, IN A SANDBOX (cutbox-rows.mjs): the forced cells as the released guide's own fill.sh prints them over the translation 858d05a59ecbb51d… (all of the seat's roots in one cut). By AI agents, Wed Nov 11 2026. No macro, syntax, notation, axiom, sorry.
-/
import Derived.Test.YtglknnncpaggpaaDoorChecked
import GoSem.Claim
import GoSem.ClaimJoined
import GoSem.ClaimMapViews
import Derived.JoinedTies
import Derived.KernelRfl
namespace Go.Proofs.YtglknnncpaggpaaDoor
/- THE CELL 'sum', in the pinned program and in every row, IS THE sha256 OF THE DUMP (.gsa) THAT YtglknnncpaggpaaDoorProg.lean LOADS. Nothing in Lean hashes anything: it is a label: what it is worth is what the hold of that sum in a sandbox is worth. -/
noncomputable def Tryd.pinned : Pinned := { name := "ytglknnncpaggpaadoor", sum := "858d05a59ecbb51d1e127e66bc63bc8c7082f381dc6012b0df7669c352132158", checked := Tryd.checked }
namespace Rows
def none {H : Type} : Left H := { results := [], args := [] }

/- WHAT THE LISTED PACKAGE-LEVEL VARIABLES READ AS WHEN THE CALL BEGINS. Each datum BY PROGRAM (the guide's laid-datum.mjs) off the statement by which the dump's own 'gosem.cut.vars' lays the variable. In a bare row this is a premise. The card (YtglknnncpaggpaaDoorCards.lean) ties it to the program's text. -/
def laid_errors_errorType {H : Type} : DataW H := .iface "internal/reflectlite.rtype" (.agg [.ptr (.lit (.string [101, 114, 114, 111, 114]))])

/-- 'muntinlaw04.SyntaxRows': WHATEVER THE INPUT: true; the input reads as it did. -/
def syntaxRowsSpec : ChangeSpec := { name := "syntaxRows", fn := fun _ => fun
  | [d1, d2] => { results := [.lit (.bool true)], args := [d1, d2] }
  | _ => none }
def syntaxRowsRow : OpenClaim := { program := "ytglknnncpaggpaadoor", sum := "858d05a59ecbb51d1e127e66bc63bc8c7082f381dc6012b0df7669c352132158", func := "muntin/muntinlaw04.SyntaxRows", spec := "syntaxRows", inPlace := ["internal/bytealg.IndexByteString", "internal/abi.NoEscape", "internal/reflectlite.ValueOf", "(internal/reflectlite.Value).Type", "(internal/reflectlite.Value).IsNil", "internal/reflectlite.TypeOf", "(internal/reflectlite.Value).Elem", "(internal/reflectlite.Value).Set"], unfollowed := true, recurses := true, named := ["errors.errorType"], apart := false, laid := [("errors.errorType", laid_errors_errorType)] }
def SyntaxRowsSaid : Prop := syntaxRowsRow.holds Tryd.pinned (OpenSpec.ofChange syntaxRowsSpec)

/-- ITS FALSE NEIGHBOUR: 'it returns false'. Refute it at one input. -/
def syntaxRowsWrong : ChangeSpec := { name := "syntaxRows", fn := fun _ => fun
  | [d1, d2] => { results := [.lit (.bool false)], args := [d1, d2] }
  | _ => none }
def SyntaxRowsWrongFalsely : Prop := syntaxRowsRow.holds Tryd.pinned (OpenSpec.ofChange syntaxRowsWrong)

/-- 'muntinlaw04.SyntaxNames': WHATEVER THE INPUT: true; the input reads as it did. -/
def syntaxNamesSpec : ChangeSpec := { name := "syntaxNames", fn := fun _ => fun
  | [d] => { results := [.lit (.bool true)], args := [d] }
  | _ => none }
def syntaxNamesRow : OpenClaim := { program := "ytglknnncpaggpaadoor", sum := "858d05a59ecbb51d1e127e66bc63bc8c7082f381dc6012b0df7669c352132158", func := "muntin/muntinlaw04.SyntaxNames", spec := "syntaxNames", inPlace := ["internal/bytealg.IndexByteString", "internal/abi.NoEscape", "internal/reflectlite.ValueOf", "(internal/reflectlite.Value).Type", "(internal/reflectlite.Value).IsNil", "internal/reflectlite.TypeOf", "(internal/reflectlite.Value).Elem", "(internal/reflectlite.Value).Set"], unfollowed := true, recurses := true, named := ["errors.errorType"], apart := false, laid := [("errors.errorType", laid_errors_errorType)] }
def SyntaxNamesSaid : Prop := syntaxNamesRow.holds Tryd.pinned (OpenSpec.ofChange syntaxNamesSpec)

/-- ITS FALSE NEIGHBOUR: 'it returns false'. Refute it at one input. -/
def syntaxNamesWrong : ChangeSpec := { name := "syntaxNames", fn := fun _ => fun
  | [d] => { results := [.lit (.bool false)], args := [d] }
  | _ => none }
def SyntaxNamesWrongFalsely : Prop := syntaxNamesRow.holds Tryd.pinned (OpenSpec.ofChange syntaxNamesWrong)

/-- 'muntinlaw04.SyntaxSigns': WHATEVER THE INPUT: true; the input reads as it did. -/
def syntaxSignsSpec : ChangeSpec := { name := "syntaxSigns", fn := fun _ => fun
  | [d1, d2] => { results := [.lit (.bool true)], args := [d1, d2] }
  | _ => none }
def syntaxSignsRow : OpenClaim := { program := "ytglknnncpaggpaadoor", sum := "858d05a59ecbb51d1e127e66bc63bc8c7082f381dc6012b0df7669c352132158", func := "muntin/muntinlaw04.SyntaxSigns", spec := "syntaxSigns", inPlace := ["internal/bytealg.IndexByteString", "internal/abi.NoEscape", "internal/reflectlite.ValueOf", "(internal/reflectlite.Value).Type", "(internal/reflectlite.Value).IsNil", "internal/reflectlite.TypeOf", "(internal/reflectlite.Value).Elem", "(internal/reflectlite.Value).Set"], unfollowed := true, recurses := true, named := ["errors.errorType"], apart := false, laid := [("errors.errorType", laid_errors_errorType)] }
def SyntaxSignsSaid : Prop := syntaxSignsRow.holds Tryd.pinned (OpenSpec.ofChange syntaxSignsSpec)

/-- ITS FALSE NEIGHBOUR: 'it returns false'. Refute it at one input. -/
def syntaxSignsWrong : ChangeSpec := { name := "syntaxSigns", fn := fun _ => fun
  | [d1, d2] => { results := [.lit (.bool false)], args := [d1, d2] }
  | _ => none }
def SyntaxSignsWrongFalsely : Prop := syntaxSignsRow.holds Tryd.pinned (OpenSpec.ofChange syntaxSignsWrong)

/-- 'muntinlaw04.SyntaxApart': WHATEVER THE INPUT: true; the input reads as it did. -/
def syntaxApartSpec : ChangeSpec := { name := "syntaxApart", fn := fun _ => fun
  | [d1, d2] => { results := [.lit (.bool true)], args := [d1, d2] }
  | _ => none }
def syntaxApartRow : OpenClaim := { program := "ytglknnncpaggpaadoor", sum := "858d05a59ecbb51d1e127e66bc63bc8c7082f381dc6012b0df7669c352132158", func := "muntin/muntinlaw04.SyntaxApart", spec := "syntaxApart", inPlace := ["internal/bytealg.IndexByteString", "internal/abi.NoEscape", "internal/reflectlite.ValueOf", "(internal/reflectlite.Value).Type", "(internal/reflectlite.Value).IsNil", "internal/reflectlite.TypeOf", "(internal/reflectlite.Value).Elem", "(internal/reflectlite.Value).Set"], unfollowed := true, recurses := true, named := ["errors.errorType"], apart := false, laid := [("errors.errorType", laid_errors_errorType)] }
def SyntaxApartSaid : Prop := syntaxApartRow.holds Tryd.pinned (OpenSpec.ofChange syntaxApartSpec)

/-- ITS FALSE NEIGHBOUR: 'it returns false'. Refute it at one input. -/
def syntaxApartWrong : ChangeSpec := { name := "syntaxApart", fn := fun _ => fun
  | [d1, d2] => { results := [.lit (.bool false)], args := [d1, d2] }
  | _ => none }
def SyntaxApartWrongFalsely : Prop := syntaxApartRow.holds Tryd.pinned (OpenSpec.ofChange syntaxApartWrong)

/-- 'muntinlaw04.SyntaxNests': WHATEVER THE INPUT: true; the input reads as it did. -/
def syntaxNestsSpec : ChangeSpec := { name := "syntaxNests", fn := fun _ => fun
  | [d] => { results := [.lit (.bool true)], args := [d] }
  | _ => none }
def syntaxNestsRow : OpenClaim := { program := "ytglknnncpaggpaadoor", sum := "858d05a59ecbb51d1e127e66bc63bc8c7082f381dc6012b0df7669c352132158", func := "muntin/muntinlaw04.SyntaxNests", spec := "syntaxNests", inPlace := ["internal/bytealg.IndexByteString", "internal/abi.NoEscape", "internal/reflectlite.ValueOf", "(internal/reflectlite.Value).Type", "(internal/reflectlite.Value).IsNil", "internal/reflectlite.TypeOf", "(internal/reflectlite.Value).Elem", "(internal/reflectlite.Value).Set"], unfollowed := true, recurses := true, named := ["errors.errorType"], apart := false, laid := [("errors.errorType", laid_errors_errorType)] }
def SyntaxNestsSaid : Prop := syntaxNestsRow.holds Tryd.pinned (OpenSpec.ofChange syntaxNestsSpec)

/-- ITS FALSE NEIGHBOUR: 'it returns false'. Refute it at one input. -/
def syntaxNestsWrong : ChangeSpec := { name := "syntaxNests", fn := fun _ => fun
  | [d] => { results := [.lit (.bool false)], args := [d] }
  | _ => none }
def SyntaxNestsWrongFalsely : Prop := syntaxNestsRow.holds Tryd.pinned (OpenSpec.ofChange syntaxNestsWrong)

/-- 'muntinlaw05.PrintBack': WHATEVER THE INPUT: true; the input reads as it did. -/
def printBackSpec : ChangeSpec := { name := "printBack", fn := fun _ => fun
  | [d] => { results := [.lit (.bool true)], args := [d] }
  | _ => none }
def printBackRow : OpenClaim := { program := "ytglknnncpaggpaadoor", sum := "858d05a59ecbb51d1e127e66bc63bc8c7082f381dc6012b0df7669c352132158", func := "muntin/muntinlaw05.PrintBack", spec := "printBack", inPlace := ["internal/bytealg.IndexByteString", "internal/abi.NoEscape", "internal/reflectlite.ValueOf", "(internal/reflectlite.Value).Type", "(internal/reflectlite.Value).IsNil", "internal/reflectlite.TypeOf", "(internal/reflectlite.Value).Elem", "(internal/reflectlite.Value).Set"], unfollowed := true, recurses := true, named := ["errors.errorType"], loops := true, apart := false, laid := [("errors.errorType", laid_errors_errorType)] }
def PrintBackSaid : Prop := printBackRow.holds Tryd.pinned (OpenSpec.ofChange printBackSpec)

/-- ITS FALSE NEIGHBOUR: 'it returns false'. Refute it at one input. -/
def printBackWrong : ChangeSpec := { name := "printBack", fn := fun _ => fun
  | [d] => { results := [.lit (.bool false)], args := [d] }
  | _ => none }
def PrintBackWrongFalsely : Prop := printBackRow.holds Tryd.pinned (OpenSpec.ofChange printBackWrong)

/-- 'muntinlaw05.PrintRules': WHATEVER THE INPUT: true; the input reads as it did. -/
def printRulesSpec : ChangeSpec := { name := "printRules", fn := fun _ => fun
  | [d] => { results := [.lit (.bool true)], args := [d] }
  | _ => none }
def printRulesRow : OpenClaim := { program := "ytglknnncpaggpaadoor", sum := "858d05a59ecbb51d1e127e66bc63bc8c7082f381dc6012b0df7669c352132158", func := "muntin/muntinlaw05.PrintRules", spec := "printRules", inPlace := ["internal/bytealg.IndexByteString", "internal/abi.NoEscape", "internal/reflectlite.ValueOf", "(internal/reflectlite.Value).Type", "(internal/reflectlite.Value).IsNil", "internal/reflectlite.TypeOf", "(internal/reflectlite.Value).Elem", "(internal/reflectlite.Value).Set"], unfollowed := true, recurses := true, named := ["errors.errorType"], loops := true, apart := false, laid := [("errors.errorType", laid_errors_errorType)] }
def PrintRulesSaid : Prop := printRulesRow.holds Tryd.pinned (OpenSpec.ofChange printRulesSpec)

/-- ITS FALSE NEIGHBOUR: 'it returns false'. Refute it at one input. -/
def printRulesWrong : ChangeSpec := { name := "printRules", fn := fun _ => fun
  | [d] => { results := [.lit (.bool false)], args := [d] }
  | _ => none }
def PrintRulesWrongFalsely : Prop := printRulesRow.holds Tryd.pinned (OpenSpec.ofChange printRulesWrong)

/-- 'muntinlaw05.PrintExprs': WHATEVER THE INPUT: true; the input reads as it did. -/
def printExprsSpec : ChangeSpec := { name := "printExprs", fn := fun _ => fun
  | [d] => { results := [.lit (.bool true)], args := [d] }
  | _ => none }
def printExprsRow : OpenClaim := { program := "ytglknnncpaggpaadoor", sum := "858d05a59ecbb51d1e127e66bc63bc8c7082f381dc6012b0df7669c352132158", func := "muntin/muntinlaw05.PrintExprs", spec := "printExprs", inPlace := ["internal/bytealg.IndexByteString", "internal/abi.NoEscape", "internal/reflectlite.ValueOf", "(internal/reflectlite.Value).Type", "(internal/reflectlite.Value).IsNil", "internal/reflectlite.TypeOf", "(internal/reflectlite.Value).Elem", "(internal/reflectlite.Value).Set"], unfollowed := true, recurses := true, named := ["errors.errorType"], loops := true, apart := false, laid := [("errors.errorType", laid_errors_errorType)] }
def PrintExprsSaid : Prop := printExprsRow.holds Tryd.pinned (OpenSpec.ofChange printExprsSpec)

/-- ITS FALSE NEIGHBOUR: 'it returns false'. Refute it at one input. -/
def printExprsWrong : ChangeSpec := { name := "printExprs", fn := fun _ => fun
  | [d] => { results := [.lit (.bool false)], args := [d] }
  | _ => none }
def PrintExprsWrongFalsely : Prop := printExprsRow.holds Tryd.pinned (OpenSpec.ofChange printExprsWrong)

/- THE SECOND FORM. 'bulk': how many values and letters a reading holds, each counted each time it is reached (what is shared counts as often as it is met; a slice's spare places count too). A statement '..UptoSaid' is the law's where the arguments, and the package variables that the reading takes, are together of bulk at most 1048576: NARROWER than '..Said'. Prove '..Said' where nothing that the law and all that it calls make is longer than what came in: it says more and counts as full. Else prove '..UptoSaid'. A law counts once. -/
mutual
def uptoBulk {H : Type} : DataW H → Nat
  | .lit (.string bytes) => bytes.length + 1
  | .lit _ => 1
  | .nil => 1
  | .ptr d => uptoBulk d + 1
  | .slice elems spare => uptoBulkAll elems + uptoBulkAll spare + 1
  | .agg parts => uptoBulkAll parts + 1
  | .iface _ d => uptoBulk d + 1
  | .map entries => uptoBulkEntries entries + 1
  | .held _ => 1
def uptoBulkAll {H : Type} : List (DataW H) → Nat
  | [] => 0
  | d :: r => uptoBulk d + uptoBulkAll r
def uptoBulkEntries {H : Type} : List (Lit × DataW H) → Nat
  | [] => 0
  | x :: r => uptoBulkEntry x + uptoBulkEntries r
def uptoBulkEntry {H : Type} : Lit × DataW H → Nat
  | (.string bytes, d) => bytes.length + uptoBulk d + 1
  | (_, d) => uptoBulk d + 1
 end
def uptoSmall : (H : Type) → List (DataW H) → Bool := fun _ ds => decide (uptoBulkAll ds ≤ 1048576)
def OpenSpec.upto (s : _root_.Go.ChangeSpec) : _root_.Go.OpenSpec := { _root_.Go.OpenSpec.ofChange s with cond := some uptoSmall }

/-- 'muntinlaw04.SyntaxRows', WHERE WHAT IT READS IS OF BULK AT MOST 1048576: true; the input reads as it did. -/
def syntaxRowsUptoRow : OpenClaim := { program := "ytglknnncpaggpaadoor", sum := "858d05a59ecbb51d1e127e66bc63bc8c7082f381dc6012b0df7669c352132158", func := "muntin/muntinlaw04.SyntaxRows", spec := "syntaxRows", inPlace := ["internal/bytealg.IndexByteString", "internal/abi.NoEscape", "internal/reflectlite.ValueOf", "(internal/reflectlite.Value).Type", "(internal/reflectlite.Value).IsNil", "internal/reflectlite.TypeOf", "(internal/reflectlite.Value).Elem", "(internal/reflectlite.Value).Set"], unfollowed := true, recurses := true, named := ["errors.errorType"], apart := false, laid := [("errors.errorType", laid_errors_errorType)], narrowed := true }
def SyntaxRowsUptoSaid : Prop := syntaxRowsUptoRow.holds Tryd.pinned (OpenSpec.upto syntaxRowsSpec)

/-- 'muntinlaw04.SyntaxNames', WHERE WHAT IT READS IS OF BULK AT MOST 1048576: true; the input reads as it did. -/
def syntaxNamesUptoRow : OpenClaim := { program := "ytglknnncpaggpaadoor", sum := "858d05a59ecbb51d1e127e66bc63bc8c7082f381dc6012b0df7669c352132158", func := "muntin/muntinlaw04.SyntaxNames", spec := "syntaxNames", inPlace := ["internal/bytealg.IndexByteString", "internal/abi.NoEscape", "internal/reflectlite.ValueOf", "(internal/reflectlite.Value).Type", "(internal/reflectlite.Value).IsNil", "internal/reflectlite.TypeOf", "(internal/reflectlite.Value).Elem", "(internal/reflectlite.Value).Set"], unfollowed := true, recurses := true, named := ["errors.errorType"], apart := false, laid := [("errors.errorType", laid_errors_errorType)], narrowed := true }
def SyntaxNamesUptoSaid : Prop := syntaxNamesUptoRow.holds Tryd.pinned (OpenSpec.upto syntaxNamesSpec)

/-- 'muntinlaw04.SyntaxSigns', WHERE WHAT IT READS IS OF BULK AT MOST 1048576: true; the input reads as it did. -/
def syntaxSignsUptoRow : OpenClaim := { program := "ytglknnncpaggpaadoor", sum := "858d05a59ecbb51d1e127e66bc63bc8c7082f381dc6012b0df7669c352132158", func := "muntin/muntinlaw04.SyntaxSigns", spec := "syntaxSigns", inPlace := ["internal/bytealg.IndexByteString", "internal/abi.NoEscape", "internal/reflectlite.ValueOf", "(internal/reflectlite.Value).Type", "(internal/reflectlite.Value).IsNil", "internal/reflectlite.TypeOf", "(internal/reflectlite.Value).Elem", "(internal/reflectlite.Value).Set"], unfollowed := true, recurses := true, named := ["errors.errorType"], apart := false, laid := [("errors.errorType", laid_errors_errorType)], narrowed := true }
def SyntaxSignsUptoSaid : Prop := syntaxSignsUptoRow.holds Tryd.pinned (OpenSpec.upto syntaxSignsSpec)

/-- 'muntinlaw04.SyntaxApart', WHERE WHAT IT READS IS OF BULK AT MOST 1048576: true; the input reads as it did. -/
def syntaxApartUptoRow : OpenClaim := { program := "ytglknnncpaggpaadoor", sum := "858d05a59ecbb51d1e127e66bc63bc8c7082f381dc6012b0df7669c352132158", func := "muntin/muntinlaw04.SyntaxApart", spec := "syntaxApart", inPlace := ["internal/bytealg.IndexByteString", "internal/abi.NoEscape", "internal/reflectlite.ValueOf", "(internal/reflectlite.Value).Type", "(internal/reflectlite.Value).IsNil", "internal/reflectlite.TypeOf", "(internal/reflectlite.Value).Elem", "(internal/reflectlite.Value).Set"], unfollowed := true, recurses := true, named := ["errors.errorType"], apart := false, laid := [("errors.errorType", laid_errors_errorType)], narrowed := true }
def SyntaxApartUptoSaid : Prop := syntaxApartUptoRow.holds Tryd.pinned (OpenSpec.upto syntaxApartSpec)

/-- 'muntinlaw04.SyntaxNests', WHERE WHAT IT READS IS OF BULK AT MOST 1048576: true; the input reads as it did. -/
def syntaxNestsUptoRow : OpenClaim := { program := "ytglknnncpaggpaadoor", sum := "858d05a59ecbb51d1e127e66bc63bc8c7082f381dc6012b0df7669c352132158", func := "muntin/muntinlaw04.SyntaxNests", spec := "syntaxNests", inPlace := ["internal/bytealg.IndexByteString", "internal/abi.NoEscape", "internal/reflectlite.ValueOf", "(internal/reflectlite.Value).Type", "(internal/reflectlite.Value).IsNil", "internal/reflectlite.TypeOf", "(internal/reflectlite.Value).Elem", "(internal/reflectlite.Value).Set"], unfollowed := true, recurses := true, named := ["errors.errorType"], apart := false, laid := [("errors.errorType", laid_errors_errorType)], narrowed := true }
def SyntaxNestsUptoSaid : Prop := syntaxNestsUptoRow.holds Tryd.pinned (OpenSpec.upto syntaxNestsSpec)

/-- 'muntinlaw05.PrintBack', WHERE WHAT IT READS IS OF BULK AT MOST 1048576: true; the input reads as it did. -/
def printBackUptoRow : OpenClaim := { program := "ytglknnncpaggpaadoor", sum := "858d05a59ecbb51d1e127e66bc63bc8c7082f381dc6012b0df7669c352132158", func := "muntin/muntinlaw05.PrintBack", spec := "printBack", inPlace := ["internal/bytealg.IndexByteString", "internal/abi.NoEscape", "internal/reflectlite.ValueOf", "(internal/reflectlite.Value).Type", "(internal/reflectlite.Value).IsNil", "internal/reflectlite.TypeOf", "(internal/reflectlite.Value).Elem", "(internal/reflectlite.Value).Set"], unfollowed := true, recurses := true, named := ["errors.errorType"], loops := true, apart := false, laid := [("errors.errorType", laid_errors_errorType)], narrowed := true }
def PrintBackUptoSaid : Prop := printBackUptoRow.holds Tryd.pinned (OpenSpec.upto printBackSpec)

/-- 'muntinlaw05.PrintRules', WHERE WHAT IT READS IS OF BULK AT MOST 1048576: true; the input reads as it did. -/
def printRulesUptoRow : OpenClaim := { program := "ytglknnncpaggpaadoor", sum := "858d05a59ecbb51d1e127e66bc63bc8c7082f381dc6012b0df7669c352132158", func := "muntin/muntinlaw05.PrintRules", spec := "printRules", inPlace := ["internal/bytealg.IndexByteString", "internal/abi.NoEscape", "internal/reflectlite.ValueOf", "(internal/reflectlite.Value).Type", "(internal/reflectlite.Value).IsNil", "internal/reflectlite.TypeOf", "(internal/reflectlite.Value).Elem", "(internal/reflectlite.Value).Set"], unfollowed := true, recurses := true, named := ["errors.errorType"], loops := true, apart := false, laid := [("errors.errorType", laid_errors_errorType)], narrowed := true }
def PrintRulesUptoSaid : Prop := printRulesUptoRow.holds Tryd.pinned (OpenSpec.upto printRulesSpec)

/-- 'muntinlaw05.PrintExprs', WHERE WHAT IT READS IS OF BULK AT MOST 1048576: true; the input reads as it did. -/
def printExprsUptoRow : OpenClaim := { program := "ytglknnncpaggpaadoor", sum := "858d05a59ecbb51d1e127e66bc63bc8c7082f381dc6012b0df7669c352132158", func := "muntin/muntinlaw05.PrintExprs", spec := "printExprs", inPlace := ["internal/bytealg.IndexByteString", "internal/abi.NoEscape", "internal/reflectlite.ValueOf", "(internal/reflectlite.Value).Type", "(internal/reflectlite.Value).IsNil", "internal/reflectlite.TypeOf", "(internal/reflectlite.Value).Elem", "(internal/reflectlite.Value).Set"], unfollowed := true, recurses := true, named := ["errors.errorType"], loops := true, apart := false, laid := [("errors.errorType", laid_errors_errorType)], narrowed := true }
def PrintExprsUptoSaid : Prop := printExprsUptoRow.holds Tryd.pinned (OpenSpec.upto printExprsSpec)

end Rows
end Go.Proofs.YtglknnncpaggpaaDoor
