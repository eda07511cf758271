/-
  No cell of these rows narrows 'for every input' (looked for: loops, veiled, ifaces, maps, wideKeys, modest, calm, conditions, laid).
  DERIVED. THE GIVEN ROWS OF THIS SEAT. 4 by the template 'for every input the law returns true; each argument reads behind the call as it read before'; 0 by the template 'total and deterministic' (their statements: YtidpigbinpaaeaaGreatTotals.lean).
  GIVEN WITH THE SEED: the statements are not yours to turn. If you find one false, say at which input.
  Laid BY PROGRAM, IN A SANDBOX (cutbox-rows.mjs): the forced cells as the released guide's own fill.sh prints them over the translation cda54d520d3fdbd6… (all of the seat's roots in one cut). By AI agents, Wed Nov 11 2026. No macro, syntax, notation, axiom, sorry.
-/
import Derived.Test.YtidpigbinpaaeaaGreatChecked
import GoSem.Claim
import GoSem.ClaimJoined
import GoSem.ClaimMapViews
import Derived.JoinedTies
import Derived.KernelRfl
namespace Go.Proofs.YtidpigbinpaaeaaGreat
/- THE CELL 'sum', in the pinned program and in every row, IS THE sha256 OF THE DUMP (.gsa) THAT YtidpigbinpaaeaaGreatProg.lean LOADS. Nothing in Lean hashes anything: it is a label: what it is worth is what the hold of that sum in a sandbox is worth. -/
noncomputable def Tryz.pinned : Pinned := { name := "ytidpigbinpaaeaagreat", sum := "cda54d520d3fdbd6d69de9ec1737f22325249e91b1e2d34662875a3ffcf9a254", checked := Tryz.checked }
namespace Rows
def none {H : Type} : Left H := { results := [], args := [] }

/-- 'weirlaw10.RxQuotes': WHATEVER THE INPUT: true; the input reads as it did. -/
def rxQuotesSpec : ChangeSpec := { name := "rxQuotes", fn := fun _ => fun
  | [d1, d2] => { results := [.lit (.bool true)], args := [d1, d2] }
  | _ => none }
def rxQuotesRow : OpenClaim := { program := "ytidpigbinpaaeaagreat", sum := "cda54d520d3fdbd6d69de9ec1737f22325249e91b1e2d34662875a3ffcf9a254", func := "weir/weirlaw10.RxQuotes", spec := "rxQuotes", inPlace := ["internal/bytealg.IndexByteString", "internal/bytealg.IndexString", "internal/abi.NoEscape"], unfollowed := true, recurses := true, named := ["internal/bytealg.MaxLen"], apart := false }
def RxQuotesSaid : Prop := rxQuotesRow.holds Tryz.pinned (OpenSpec.ofChange rxQuotesSpec)

/-- ITS FALSE NEIGHBOUR: 'it returns false'. Refute it at one input. -/
def rxQuotesWrong : ChangeSpec := { name := "rxQuotes", fn := fun _ => fun
  | [d1, d2] => { results := [.lit (.bool false)], args := [d1, d2] }
  | _ => none }
def RxQuotesWrongFalsely : Prop := rxQuotesRow.holds Tryz.pinned (OpenSpec.ofChange rxQuotesWrong)

/-- 'weirlaw18.IndexSplits': WHATEVER THE INPUT: true; the input reads as it did. -/
def indexSplitsSpec : ChangeSpec := { name := "indexSplits", fn := fun _ => fun
  | [d1, d2, d3] => { results := [.lit (.bool true)], args := [d1, d2, d3] }
  | _ => none }
def indexSplitsRow : OpenClaim := { program := "ytidpigbinpaaeaagreat", sum := "cda54d520d3fdbd6d69de9ec1737f22325249e91b1e2d34662875a3ffcf9a254", func := "weir/weirlaw18.IndexSplits", spec := "indexSplits", inPlace := ["internal/bytealg.IndexByteString", "internal/bytealg.IndexString"], unfollowed := true, recurses := true, named := ["internal/bytealg.MaxLen"], apart := false }
def IndexSplitsSaid : Prop := indexSplitsRow.holds Tryz.pinned (OpenSpec.ofChange indexSplitsSpec)

/-- ITS FALSE NEIGHBOUR: 'it returns false'. Refute it at one input. -/
def indexSplitsWrong : ChangeSpec := { name := "indexSplits", fn := fun _ => fun
  | [d1, d2, d3] => { results := [.lit (.bool false)], args := [d1, d2, d3] }
  | _ => none }
def IndexSplitsWrongFalsely : Prop := indexSplitsRow.holds Tryz.pinned (OpenSpec.ofChange indexSplitsWrong)

/-- 'weirlaw18.IndexScans': WHATEVER THE INPUT: true; the input reads as it did. -/
def indexScansSpec : ChangeSpec := { name := "indexScans", fn := fun _ => fun
  | [d1, d2] => { results := [.lit (.bool true)], args := [d1, d2] }
  | _ => none }
def indexScansRow : OpenClaim := { program := "ytidpigbinpaaeaagreat", sum := "cda54d520d3fdbd6d69de9ec1737f22325249e91b1e2d34662875a3ffcf9a254", func := "weir/weirlaw18.IndexScans", spec := "indexScans", inPlace := ["internal/bytealg.IndexByteString", "internal/bytealg.IndexString"], unfollowed := true, recurses := true, named := ["internal/bytealg.MaxLen"], apart := false }
def IndexScansSaid : Prop := indexScansRow.holds Tryz.pinned (OpenSpec.ofChange indexScansSpec)

/-- ITS FALSE NEIGHBOUR: 'it returns false'. Refute it at one input. -/
def indexScansWrong : ChangeSpec := { name := "indexScans", fn := fun _ => fun
  | [d1, d2] => { results := [.lit (.bool false)], args := [d1, d2] }
  | _ => none }
def IndexScansWrongFalsely : Prop := indexScansRow.holds Tryz.pinned (OpenSpec.ofChange indexScansWrong)

/-- 'weirlaw18.IndexKeeps': WHATEVER THE INPUT: true; the input reads as it did. -/
def indexKeepsSpec : ChangeSpec := { name := "indexKeeps", fn := fun _ => fun
  | [d1, d2, d3] => { results := [.lit (.bool true)], args := [d1, d2, d3] }
  | _ => none }
def indexKeepsRow : OpenClaim := { program := "ytidpigbinpaaeaagreat", sum := "cda54d520d3fdbd6d69de9ec1737f22325249e91b1e2d34662875a3ffcf9a254", func := "weir/weirlaw18.IndexKeeps", spec := "indexKeeps", inPlace := ["internal/bytealg.IndexByteString", "internal/bytealg.IndexString"], unfollowed := true, recurses := true, named := ["internal/bytealg.MaxLen"], apart := false }
def IndexKeepsSaid : Prop := indexKeepsRow.holds Tryz.pinned (OpenSpec.ofChange indexKeepsSpec)

/-- ITS FALSE NEIGHBOUR: 'it returns false'. Refute it at one input. -/
def indexKeepsWrong : ChangeSpec := { name := "indexKeeps", fn := fun _ => fun
  | [d1, d2, d3] => { results := [.lit (.bool false)], args := [d1, d2, d3] }
  | _ => none }
def IndexKeepsWrongFalsely : Prop := indexKeepsRow.holds Tryz.pinned (OpenSpec.ofChange indexKeepsWrong)

/- THE SECOND FORM. 'bulk': how many values and letters a reading holds, each counted each time it is reached (what is shared counts as often as it is met; a slice's spare places count too). A statement '..UptoSaid' is the law's where the arguments, and the package variables that the reading takes, are together of bulk at most 1048576: NARROWER than '..Said'. Prove '..Said' where nothing that the law and all that it calls make is longer than what came in: it says more and counts as full. Else prove '..UptoSaid'. A law counts once. -/
mutual
def uptoBulk {H : Type} : DataW H → Nat
  | .lit (.string bytes) => bytes.length + 1
  | .lit _ => 1
  | .nil => 1
  | .ptr d => uptoBulk d + 1
  | .slice elems spare => uptoBulkAll elems + uptoBulkAll spare + 1
  | .agg parts => uptoBulkAll parts + 1
  | .iface _ d => uptoBulk d + 1
  | .map entries => uptoBulkEntries entries + 1
  | .held _ => 1
def uptoBulkAll {H : Type} : List (DataW H) → Nat
  | [] => 0
  | d :: r => uptoBulk d + uptoBulkAll r
def uptoBulkEntries {H : Type} : List (Lit × DataW H) → Nat
  | [] => 0
  | x :: r => uptoBulkEntry x + uptoBulkEntries r
def uptoBulkEntry {H : Type} : Lit × DataW H → Nat
  | (.string bytes, d) => bytes.length + uptoBulk d + 1
  | (_, d) => uptoBulk d + 1
 end
def uptoSmall : (H : Type) → List (DataW H) → Bool := fun _ ds => decide (uptoBulkAll ds ≤ 1048576)
def OpenSpec.upto (s : _root_.Go.ChangeSpec) : _root_.Go.OpenSpec := { _root_.Go.OpenSpec.ofChange s with cond := some uptoSmall }

/-- 'weirlaw10.RxQuotes', WHERE WHAT IT READS IS OF BULK AT MOST 1048576: true; the input reads as it did. -/
def rxQuotesUptoRow : OpenClaim := { program := "ytidpigbinpaaeaagreat", sum := "cda54d520d3fdbd6d69de9ec1737f22325249e91b1e2d34662875a3ffcf9a254", func := "weir/weirlaw10.RxQuotes", spec := "rxQuotes", inPlace := ["internal/bytealg.IndexByteString", "internal/bytealg.IndexString", "internal/abi.NoEscape"], unfollowed := true, recurses := true, named := ["internal/bytealg.MaxLen"], apart := false, narrowed := true }
def RxQuotesUptoSaid : Prop := rxQuotesUptoRow.holds Tryz.pinned (OpenSpec.upto rxQuotesSpec)

/-- 'weirlaw18.IndexSplits', WHERE WHAT IT READS IS OF BULK AT MOST 1048576: true; the input reads as it did. -/
def indexSplitsUptoRow : OpenClaim := { program := "ytidpigbinpaaeaagreat", sum := "cda54d520d3fdbd6d69de9ec1737f22325249e91b1e2d34662875a3ffcf9a254", func := "weir/weirlaw18.IndexSplits", spec := "indexSplits", inPlace := ["internal/bytealg.IndexByteString", "internal/bytealg.IndexString"], unfollowed := true, recurses := true, named := ["internal/bytealg.MaxLen"], apart := false, narrowed := true }
def IndexSplitsUptoSaid : Prop := indexSplitsUptoRow.holds Tryz.pinned (OpenSpec.upto indexSplitsSpec)

/-- 'weirlaw18.IndexScans', WHERE WHAT IT READS IS OF BULK AT MOST 1048576: true; the input reads as it did. -/
def indexScansUptoRow : OpenClaim := { program := "ytidpigbinpaaeaagreat", sum := "cda54d520d3fdbd6d69de9ec1737f22325249e91b1e2d34662875a3ffcf9a254", func := "weir/weirlaw18.IndexScans", spec := "indexScans", inPlace := ["internal/bytealg.IndexByteString", "internal/bytealg.IndexString"], unfollowed := true, recurses := true, named := ["internal/bytealg.MaxLen"], apart := false, narrowed := true }
def IndexScansUptoSaid : Prop := indexScansUptoRow.holds Tryz.pinned (OpenSpec.upto indexScansSpec)

/-- 'weirlaw18.IndexKeeps', WHERE WHAT IT READS IS OF BULK AT MOST 1048576: true; the input reads as it did. -/
def indexKeepsUptoRow : OpenClaim := { program := "ytidpigbinpaaeaagreat", sum := "cda54d520d3fdbd6d69de9ec1737f22325249e91b1e2d34662875a3ffcf9a254", func := "weir/weirlaw18.IndexKeeps", spec := "indexKeeps", inPlace := ["internal/bytealg.IndexByteString", "internal/bytealg.IndexString"], unfollowed := true, recurses := true, named := ["internal/bytealg.MaxLen"], apart := false, narrowed := true }
def IndexKeepsUptoSaid : Prop := indexKeepsUptoRow.holds Tryz.pinned (OpenSpec.upto indexKeepsSpec)

end Rows
end Go.Proofs.YtidpigbinpaaeaaGreat
