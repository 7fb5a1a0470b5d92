/-
  No cell of these rows narrows 'for every input' (looked for: loops, veiled, ifaces, maps, wideKeys, modest, calm, conditions, laid).
  DERIVED. THE GIVEN ROWS OF THIS SEAT. 4 by the template 'for every input the law returns true; each argument reads behind the call as it read before'; 0 by the template 'total and deterministic' (their statements: YteeiccjglmehcaaGreatTotals.lean).
  GIVEN WITH THE SEED: the statements are not yours to turn. If you find one false, say at which input.
  Laid BY PROGRAM, IN A SANDBOX (cutbox-rows.mjs): the forced cells as the released guide's own fill.sh prints them over the translation f7f063cb4450fca4… (all of the seat's roots in one cut). By AI agents, Wed Nov 11 2026. No macro, syntax, notation, axiom, sorry.
-/
import Derived.Test.YteeiccjglmehcaaGreatChecked
import GoSem.Claim
import GoSem.ClaimJoined
import GoSem.ClaimMapViews
import Derived.JoinedTies
import Derived.KernelRfl
namespace Go.Proofs.YteeiccjglmehcaaGreat
/- THE CELL 'sum', in the pinned program and in every row, IS THE sha256 OF THE DUMP (.gsa) THAT YteeiccjglmehcaaGreatProg.lean LOADS. Nothing in Lean hashes anything: it is a label: what it is worth is what the hold of that sum in a sandbox is worth. -/
noncomputable def Tryz.pinned : Pinned := { name := "yteeiccjglmehcaagreat", sum := "f7f063cb4450fca4b4a47d37165abb313de6341bd8e0b3e66af886ddbbdf659d", checked := Tryz.checked }
namespace Rows
def none {H : Type} : Left H := { results := [], args := [] }

/-- 'coraclelaw13.CoreOnce': WHATEVER THE INPUT: true; the input reads as it did. -/
def coreOnceSpec : ChangeSpec := { name := "coreOnce", fn := fun _ => fun
  | [d1, d2, d3] => { results := [.lit (.bool true)], args := [d1, d2, d3] }
  | _ => none }
def coreOnceRow : OpenClaim := { program := "yteeiccjglmehcaagreat", sum := "f7f063cb4450fca4b4a47d37165abb313de6341bd8e0b3e66af886ddbbdf659d", func := "coracle/coraclelaw13.CoreOnce", spec := "coreOnce", inPlace := ["internal/bytealg.IndexByteString", "internal/bytealg.IndexString", "internal/abi.NoEscape", "internal/bytealg.MakeNoZero", "slices.overlaps[string]", "slices.overlaps[coracle/dir.Entry]", "slices.overlaps[*coracle/dir.node[string, coracle/dir.Entry]]", "slices.overlaps[int]", "slices.overlaps[*coracle/dir.node[int, string]]"], recurses := true, named := ["internal/bytealg.MaxLen"], plainKeys := false, apart := false }
def CoreOnceSaid : Prop := coreOnceRow.holds Tryz.pinned (OpenSpec.ofChange coreOnceSpec)

/-- ITS FALSE NEIGHBOUR: 'it returns false'. Refute it at one input. -/
def coreOnceWrong : ChangeSpec := { name := "coreOnce", fn := fun _ => fun
  | [d1, d2, d3] => { results := [.lit (.bool false)], args := [d1, d2, d3] }
  | _ => none }
def CoreOnceWrongFalsely : Prop := coreOnceRow.holds Tryz.pinned (OpenSpec.ofChange coreOnceWrong)

/-- 'coraclelaw13.CoreGuard': WHATEVER THE INPUT: true; the input reads as it did. -/
def coreGuardSpec : ChangeSpec := { name := "coreGuard", fn := fun _ => fun
  | [d1, d2, d3] => { results := [.lit (.bool true)], args := [d1, d2, d3] }
  | _ => none }
def coreGuardRow : OpenClaim := { program := "yteeiccjglmehcaagreat", sum := "f7f063cb4450fca4b4a47d37165abb313de6341bd8e0b3e66af886ddbbdf659d", func := "coracle/coraclelaw13.CoreGuard", spec := "coreGuard", inPlace := ["internal/bytealg.IndexByteString", "internal/bytealg.IndexString", "internal/abi.NoEscape", "internal/bytealg.MakeNoZero", "slices.overlaps[string]", "slices.overlaps[coracle/dir.Entry]", "slices.overlaps[*coracle/dir.node[string, coracle/dir.Entry]]", "slices.overlaps[int]", "slices.overlaps[*coracle/dir.node[int, string]]"], recurses := true, named := ["internal/bytealg.MaxLen"], plainKeys := false, apart := false }
def CoreGuardSaid : Prop := coreGuardRow.holds Tryz.pinned (OpenSpec.ofChange coreGuardSpec)

/-- ITS FALSE NEIGHBOUR: 'it returns false'. Refute it at one input. -/
def coreGuardWrong : ChangeSpec := { name := "coreGuard", fn := fun _ => fun
  | [d1, d2, d3] => { results := [.lit (.bool false)], args := [d1, d2, d3] }
  | _ => none }
def CoreGuardWrongFalsely : Prop := coreGuardRow.holds Tryz.pinned (OpenSpec.ofChange coreGuardWrong)

/-- 'coraclelaw13.CoreBytes': WHATEVER THE INPUT: true; the input reads as it did. -/
def coreBytesSpec : ChangeSpec := { name := "coreBytes", fn := fun _ => fun
  | [d1, d2, d3] => { results := [.lit (.bool true)], args := [d1, d2, d3] }
  | _ => none }
def coreBytesRow : OpenClaim := { program := "yteeiccjglmehcaagreat", sum := "f7f063cb4450fca4b4a47d37165abb313de6341bd8e0b3e66af886ddbbdf659d", func := "coracle/coraclelaw13.CoreBytes", spec := "coreBytes", inPlace := ["internal/bytealg.IndexByteString", "internal/bytealg.IndexString", "internal/abi.NoEscape", "internal/bytealg.MakeNoZero", "slices.overlaps[string]", "slices.overlaps[coracle/dir.Entry]", "slices.overlaps[*coracle/dir.node[string, coracle/dir.Entry]]", "slices.overlaps[int]", "slices.overlaps[*coracle/dir.node[int, string]]"], recurses := true, named := ["internal/bytealg.MaxLen"], plainKeys := false, apart := false }
def CoreBytesSaid : Prop := coreBytesRow.holds Tryz.pinned (OpenSpec.ofChange coreBytesSpec)

/-- ITS FALSE NEIGHBOUR: 'it returns false'. Refute it at one input. -/
def coreBytesWrong : ChangeSpec := { name := "coreBytes", fn := fun _ => fun
  | [d1, d2, d3] => { results := [.lit (.bool false)], args := [d1, d2, d3] }
  | _ => none }
def CoreBytesWrongFalsely : Prop := coreBytesRow.holds Tryz.pinned (OpenSpec.ofChange coreBytesWrong)

/-- 'coraclelaw13.CoreNil': WHATEVER THE INPUT: true; the input reads as it did. -/
def coreNilSpec : ChangeSpec := { name := "coreNil", fn := fun _ => fun
  | [d] => { results := [.lit (.bool true)], args := [d] }
  | _ => none }
def coreNilRow : OpenClaim := { program := "yteeiccjglmehcaagreat", sum := "f7f063cb4450fca4b4a47d37165abb313de6341bd8e0b3e66af886ddbbdf659d", func := "coracle/coraclelaw13.CoreNil", spec := "coreNil", inPlace := ["internal/bytealg.IndexByteString", "internal/bytealg.IndexString", "internal/abi.NoEscape", "internal/bytealg.MakeNoZero", "slices.overlaps[string]", "slices.overlaps[coracle/dir.Entry]", "slices.overlaps[*coracle/dir.node[string, coracle/dir.Entry]]", "slices.overlaps[int]", "slices.overlaps[*coracle/dir.node[int, string]]", "maps.clone", "internal/bytealg.abigen_runtime_cmpstring"], unfollowed := true, recurses := true, named := ["internal/bytealg.MaxLen"], plainKeys := false, apart := false }
def CoreNilSaid : Prop := coreNilRow.holds Tryz.pinned (OpenSpec.ofChange coreNilSpec)

/-- ITS FALSE NEIGHBOUR: 'it returns false'. Refute it at one input. -/
def coreNilWrong : ChangeSpec := { name := "coreNil", fn := fun _ => fun
  | [d] => { results := [.lit (.bool false)], args := [d] }
  | _ => none }
def CoreNilWrongFalsely : Prop := coreNilRow.holds Tryz.pinned (OpenSpec.ofChange coreNilWrong)

/- THE SECOND FORM. 'bulk': how many values and letters a reading holds, each counted each time it is reached (what is shared counts as often as it is met; a slice's spare places count too). A statement '..UptoSaid' is the law's where the arguments, and the package variables that the reading takes, are together of bulk at most 1048576: NARROWER than '..Said'. Prove '..Said' where nothing that the law and all that it calls make is longer than what came in: it says more and counts as full. Else prove '..UptoSaid'. A law counts once. -/
mutual
def uptoBulk {H : Type} : DataW H → Nat
  | .lit (.string bytes) => bytes.length + 1
  | .lit _ => 1
  | .nil => 1
  | .ptr d => uptoBulk d + 1
  | .slice elems spare => uptoBulkAll elems + uptoBulkAll spare + 1
  | .agg parts => uptoBulkAll parts + 1
  | .iface _ d => uptoBulk d + 1
  | .map entries => uptoBulkEntries entries + 1
  | .held _ => 1
def uptoBulkAll {H : Type} : List (DataW H) → Nat
  | [] => 0
  | d :: r => uptoBulk d + uptoBulkAll r
def uptoBulkEntries {H : Type} : List (Lit × DataW H) → Nat
  | [] => 0
  | x :: r => uptoBulkEntry x + uptoBulkEntries r
def uptoBulkEntry {H : Type} : Lit × DataW H → Nat
  | (.string bytes, d) => bytes.length + uptoBulk d + 1
  | (_, d) => uptoBulk d + 1
 end
def uptoSmall : (H : Type) → List (DataW H) → Bool := fun _ ds => decide (uptoBulkAll ds ≤ 1048576)
def OpenSpec.upto (s : _root_.Go.ChangeSpec) : _root_.Go.OpenSpec := { _root_.Go.OpenSpec.ofChange s with cond := some uptoSmall }

/-- 'coraclelaw13.CoreOnce', WHERE WHAT IT READS IS OF BULK AT MOST 1048576: true; the input reads as it did. -/
def coreOnceUptoRow : OpenClaim := { program := "yteeiccjglmehcaagreat", sum := "f7f063cb4450fca4b4a47d37165abb313de6341bd8e0b3e66af886ddbbdf659d", func := "coracle/coraclelaw13.CoreOnce", spec := "coreOnce", inPlace := ["internal/bytealg.IndexByteString", "internal/bytealg.IndexString", "internal/abi.NoEscape", "internal/bytealg.MakeNoZero", "slices.overlaps[string]", "slices.overlaps[coracle/dir.Entry]", "slices.overlaps[*coracle/dir.node[string, coracle/dir.Entry]]", "slices.overlaps[int]", "slices.overlaps[*coracle/dir.node[int, string]]"], recurses := true, named := ["internal/bytealg.MaxLen"], plainKeys := false, apart := false, narrowed := true }
def CoreOnceUptoSaid : Prop := coreOnceUptoRow.holds Tryz.pinned (OpenSpec.upto coreOnceSpec)

/-- 'coraclelaw13.CoreGuard', WHERE WHAT IT READS IS OF BULK AT MOST 1048576: true; the input reads as it did. -/
def coreGuardUptoRow : OpenClaim := { program := "yteeiccjglmehcaagreat", sum := "f7f063cb4450fca4b4a47d37165abb313de6341bd8e0b3e66af886ddbbdf659d", func := "coracle/coraclelaw13.CoreGuard", spec := "coreGuard", inPlace := ["internal/bytealg.IndexByteString", "internal/bytealg.IndexString", "internal/abi.NoEscape", "internal/bytealg.MakeNoZero", "slices.overlaps[string]", "slices.overlaps[coracle/dir.Entry]", "slices.overlaps[*coracle/dir.node[string, coracle/dir.Entry]]", "slices.overlaps[int]", "slices.overlaps[*coracle/dir.node[int, string]]"], recurses := true, named := ["internal/bytealg.MaxLen"], plainKeys := false, apart := false, narrowed := true }
def CoreGuardUptoSaid : Prop := coreGuardUptoRow.holds Tryz.pinned (OpenSpec.upto coreGuardSpec)

/-- 'coraclelaw13.CoreBytes', WHERE WHAT IT READS IS OF BULK AT MOST 1048576: true; the input reads as it did. -/
def coreBytesUptoRow : OpenClaim := { program := "yteeiccjglmehcaagreat", sum := "f7f063cb4450fca4b4a47d37165abb313de6341bd8e0b3e66af886ddbbdf659d", func := "coracle/coraclelaw13.CoreBytes", spec := "coreBytes", inPlace := ["internal/bytealg.IndexByteString", "internal/bytealg.IndexString", "internal/abi.NoEscape", "internal/bytealg.MakeNoZero", "slices.overlaps[string]", "slices.overlaps[coracle/dir.Entry]", "slices.overlaps[*coracle/dir.node[string, coracle/dir.Entry]]", "slices.overlaps[int]", "slices.overlaps[*coracle/dir.node[int, string]]"], recurses := true, named := ["internal/bytealg.MaxLen"], plainKeys := false, apart := false, narrowed := true }
def CoreBytesUptoSaid : Prop := coreBytesUptoRow.holds Tryz.pinned (OpenSpec.upto coreBytesSpec)

/-- 'coraclelaw13.CoreNil', WHERE WHAT IT READS IS OF BULK AT MOST 1048576: true; the input reads as it did. -/
def coreNilUptoRow : OpenClaim := { program := "yteeiccjglmehcaagreat", sum := "f7f063cb4450fca4b4a47d37165abb313de6341bd8e0b3e66af886ddbbdf659d", func := "coracle/coraclelaw13.CoreNil", spec := "coreNil", inPlace := ["internal/bytealg.IndexByteString", "internal/bytealg.IndexString", "internal/abi.NoEscape", "internal/bytealg.MakeNoZero", "slices.overlaps[string]", "slices.overlaps[coracle/dir.Entry]", "slices.overlaps[*coracle/dir.node[string, coracle/dir.Entry]]", "slices.overlaps[int]", "slices.overlaps[*coracle/dir.node[int, string]]", "maps.clone", "internal/bytealg.abigen_runtime_cmpstring"], unfollowed := true, recurses := true, named := ["internal/bytealg.MaxLen"], plainKeys := false, apart := false, narrowed := true }
def CoreNilUptoSaid : Prop := coreNilUptoRow.holds Tryz.pinned (OpenSpec.upto coreNilSpec)

end Rows
end Go.Proofs.YteeiccjglmehcaaGreat
