/-
  NARROWER THAN 'FOR EVERY INPUT', by the rows' own cells (each row's printed sentence says how): RxprogMeans: loops · RxprogBegins: loops · RxprogListed: loops.
  DERIVED. THE GIVEN ROWS OF THIS SEAT. 3 by the template 'for every input the law returns true; each argument reads behind the call as it read before'; 0 by the template 'total and deterministic' (their statements: YtgboffefbpligaaTotals.lean).
  GIVEN WITH THE SEED: the statements are not yours to turn. If you find one false, say at which input.
  Laid BY PROGRAM, IN A SANDBOX (cutbox-rows.mjs): the forced cells as the released guide's own fill.sh prints them over the translation 2dd10d3e0b3c776a… (all of the seat's roots in one cut). By AI agents, Wed Nov 11 2026. No macro, syntax, notation, axiom, sorry.
-/
import Derived.Test.YtgboffefbpligaaChecked
import GoSem.Claim
import GoSem.ClaimJoined
import GoSem.ClaimMapViews
import Derived.JoinedTies
import Derived.KernelRfl
namespace Go.Proofs.Ytgboffefbpligaa
/- THE CELL 'sum', in the pinned program and in every row, IS THE sha256 OF THE DUMP (.gsa) THAT YtgboffefbpligaaProg.lean LOADS. Nothing in Lean hashes anything: it is a label: what it is worth is what the hold of that sum in a sandbox is worth. -/
noncomputable def Try.pinned : Pinned := { name := "ytgboffefbpligaa", sum := "2dd10d3e0b3c776aed2037a460f797931b53769b58c34de2aab7f8f6ba5b5e12", checked := Try.checked }
namespace Rows
def none {H : Type} : Left H := { results := [], args := [] }

/-- 'weirlaw09.RxprogMeans': WHATEVER THE INPUT: true; the input reads as it did. -/
def rxprogMeansSpec : ChangeSpec := { name := "rxprogMeans", fn := fun _ => fun
  | [d1, d2] => { results := [.lit (.bool true)], args := [d1, d2] }
  | _ => none }
def rxprogMeansRow : OpenClaim := { program := "ytgboffefbpligaa", sum := "2dd10d3e0b3c776aed2037a460f797931b53769b58c34de2aab7f8f6ba5b5e12", func := "weir/weirlaw09.RxprogMeans", spec := "rxprogMeans", recurses := true, loops := true, apart := false }
def RxprogMeansSaid : Prop := rxprogMeansRow.holds Try.pinned (OpenSpec.ofChange rxprogMeansSpec)

/-- ITS FALSE NEIGHBOUR: 'it returns false'. Refute it at one input. -/
def rxprogMeansWrong : ChangeSpec := { name := "rxprogMeans", fn := fun _ => fun
  | [d1, d2] => { results := [.lit (.bool false)], args := [d1, d2] }
  | _ => none }
def RxprogMeansWrongFalsely : Prop := rxprogMeansRow.holds Try.pinned (OpenSpec.ofChange rxprogMeansWrong)

/-- 'weirlaw09.RxprogBegins': WHATEVER THE INPUT: true; the input reads as it did. -/
def rxprogBeginsSpec : ChangeSpec := { name := "rxprogBegins", fn := fun _ => fun
  | [d1, d2] => { results := [.lit (.bool true)], args := [d1, d2] }
  | _ => none }
def rxprogBeginsRow : OpenClaim := { program := "ytgboffefbpligaa", sum := "2dd10d3e0b3c776aed2037a460f797931b53769b58c34de2aab7f8f6ba5b5e12", func := "weir/weirlaw09.RxprogBegins", spec := "rxprogBegins", inPlace := ["internal/abi.NoEscape", "internal/bytealg.MakeNoZero"], unfollowed := true, recurses := true, loops := true, apart := false }
def RxprogBeginsSaid : Prop := rxprogBeginsRow.holds Try.pinned (OpenSpec.ofChange rxprogBeginsSpec)

/-- ITS FALSE NEIGHBOUR: 'it returns false'. Refute it at one input. -/
def rxprogBeginsWrong : ChangeSpec := { name := "rxprogBegins", fn := fun _ => fun
  | [d1, d2] => { results := [.lit (.bool false)], args := [d1, d2] }
  | _ => none }
def RxprogBeginsWrongFalsely : Prop := rxprogBeginsRow.holds Try.pinned (OpenSpec.ofChange rxprogBeginsWrong)

/-- 'weirlaw09.RxprogListed': WHATEVER THE INPUT: true; the input reads as it did. -/
def rxprogListedSpec : ChangeSpec := { name := "rxprogListed", fn := fun _ => fun
  | [d1, d2] => { results := [.lit (.bool true)], args := [d1, d2] }
  | _ => none }
def rxprogListedRow : OpenClaim := { program := "ytgboffefbpligaa", sum := "2dd10d3e0b3c776aed2037a460f797931b53769b58c34de2aab7f8f6ba5b5e12", func := "weir/weirlaw09.RxprogListed", spec := "rxprogListed", inPlace := ["internal/abi.NoEscape", "internal/bytealg.MakeNoZero"], unfollowed := true, recurses := true, loops := true, apart := false }
def RxprogListedSaid : Prop := rxprogListedRow.holds Try.pinned (OpenSpec.ofChange rxprogListedSpec)

/-- ITS FALSE NEIGHBOUR: 'it returns false'. Refute it at one input. -/
def rxprogListedWrong : ChangeSpec := { name := "rxprogListed", fn := fun _ => fun
  | [d1, d2] => { results := [.lit (.bool false)], args := [d1, d2] }
  | _ => none }
def RxprogListedWrongFalsely : Prop := rxprogListedRow.holds Try.pinned (OpenSpec.ofChange rxprogListedWrong)

/- THE SECOND FORM. 'bulk': how many values and letters a reading holds, each counted each time it is reached (what is shared counts as often as it is met; a slice's spare places count too). A statement '..UptoSaid' is the law's where the arguments, and the package variables that the reading takes, are together of bulk at most 1048576: NARROWER than '..Said'. Prove '..Said' where nothing that the law and all that it calls make is longer than what came in: it says more and counts as full. Else prove '..UptoSaid'. A law counts once. -/
mutual
def uptoBulk {H : Type} : DataW H → Nat
  | .lit (.string bytes) => bytes.length + 1
  | .lit _ => 1
  | .nil => 1
  | .ptr d => uptoBulk d + 1
  | .slice elems spare => uptoBulkAll elems + uptoBulkAll spare + 1
  | .agg parts => uptoBulkAll parts + 1
  | .iface _ d => uptoBulk d + 1
  | .map entries => uptoBulkEntries entries + 1
  | .held _ => 1
def uptoBulkAll {H : Type} : List (DataW H) → Nat
  | [] => 0
  | d :: r => uptoBulk d + uptoBulkAll r
def uptoBulkEntries {H : Type} : List (Lit × DataW H) → Nat
  | [] => 0
  | x :: r => uptoBulkEntry x + uptoBulkEntries r
def uptoBulkEntry {H : Type} : Lit × DataW H → Nat
  | (.string bytes, d) => bytes.length + uptoBulk d + 1
  | (_, d) => uptoBulk d + 1
 end
def uptoSmall : (H : Type) → List (DataW H) → Bool := fun _ ds => decide (uptoBulkAll ds ≤ 1048576)
def OpenSpec.upto (s : _root_.Go.ChangeSpec) : _root_.Go.OpenSpec := { _root_.Go.OpenSpec.ofChange s with cond := some uptoSmall }

/-- 'weirlaw09.RxprogMeans', WHERE WHAT IT READS IS OF BULK AT MOST 1048576: true; the input reads as it did. -/
def rxprogMeansUptoRow : OpenClaim := { program := "ytgboffefbpligaa", sum := "2dd10d3e0b3c776aed2037a460f797931b53769b58c34de2aab7f8f6ba5b5e12", func := "weir/weirlaw09.RxprogMeans", spec := "rxprogMeans", recurses := true, loops := true, apart := false, narrowed := true }
def RxprogMeansUptoSaid : Prop := rxprogMeansUptoRow.holds Try.pinned (OpenSpec.upto rxprogMeansSpec)

/-- 'weirlaw09.RxprogBegins', WHERE WHAT IT READS IS OF BULK AT MOST 1048576: true; the input reads as it did. -/
def rxprogBeginsUptoRow : OpenClaim := { program := "ytgboffefbpligaa", sum := "2dd10d3e0b3c776aed2037a460f797931b53769b58c34de2aab7f8f6ba5b5e12", func := "weir/weirlaw09.RxprogBegins", spec := "rxprogBegins", inPlace := ["internal/abi.NoEscape", "internal/bytealg.MakeNoZero"], unfollowed := true, recurses := true, loops := true, apart := false, narrowed := true }
def RxprogBeginsUptoSaid : Prop := rxprogBeginsUptoRow.holds Try.pinned (OpenSpec.upto rxprogBeginsSpec)

/-- 'weirlaw09.RxprogListed', WHERE WHAT IT READS IS OF BULK AT MOST 1048576: true; the input reads as it did. -/
def rxprogListedUptoRow : OpenClaim := { program := "ytgboffefbpligaa", sum := "2dd10d3e0b3c776aed2037a460f797931b53769b58c34de2aab7f8f6ba5b5e12", func := "weir/weirlaw09.RxprogListed", spec := "rxprogListed", inPlace := ["internal/abi.NoEscape", "internal/bytealg.MakeNoZero"], unfollowed := true, recurses := true, loops := true, apart := false, narrowed := true }
def RxprogListedUptoSaid : Prop := rxprogListedUptoRow.holds Try.pinned (OpenSpec.upto rxprogListedSpec)

end Rows
end Go.Proofs.Ytgboffefbpligaa
