/-
  NARROWER THAN 'FOR EVERY INPUT', by the rows' own cells (each row's printed sentence says how): ChunkPacks: laid · ChunkGrows: laid · ChunkBack: laid · ChunkSteps: laid · ChunkEach: laid · ChunkKeeps: laid · ChunkNames: laid · ChunkReads: laid.
  DERIVED. THE GIVEN ROWS OF THIS SEAT. 8 by the template 'for every input the law returns true; each argument reads behind the call as it read before'; 0 by the template 'total and deterministic' (their statements: YtclmkppiolfgbaaDoorTotals.lean).
  GIVEN WITH THE SEED: the statements are not yours to turn. If you find one false, say at which input.
  Laid BY PROGRAM, IN A SANDBOX (cutbox-rows.mjs): the forced cells as the released guide's own fill.sh prints them over the translation a7c37523a255c98f… (all of the seat's roots in one cut). By AI agents, Wed Nov 11 2026. No macro, syntax, notation, axiom, sorry.
-/
import Derived.Test.YtclmkppiolfgbaaDoorChecked
import GoSem.Claim
import GoSem.ClaimJoined
import GoSem.ClaimMapViews
import Derived.JoinedTies
import Derived.KernelRfl
namespace Go.Proofs.YtclmkppiolfgbaaDoor
/- THE CELL 'sum', in the pinned program and in every row, IS THE sha256 OF THE DUMP (.gsa) THAT YtclmkppiolfgbaaDoorProg.lean LOADS. Nothing in Lean hashes anything: it is a label: what it is worth is what the hold of that sum in a sandbox is worth. -/
noncomputable def Tryd.pinned : Pinned := { name := "ytclmkppiolfgbaadoor", sum := "a7c37523a255c98f1f47c657b044540faa8b8459144a6455e03be00ca04f03bf", checked := Tryd.checked }
namespace Rows
def none {H : Type} : Left H := { results := [], args := [] }

/- WHAT THE LISTED PACKAGE-LEVEL VARIABLES READ AS WHEN THE CALL BEGINS. Each datum BY PROGRAM (the guide's laid-datum.mjs) off the statement by which the dump's own 'gosem.cut.vars' lays the variable. In a bare row this is a premise. The card (YtclmkppiolfgbaaDoorCards.lean) ties it to the program's text. -/
def laid_math_bits_deBruijn64tab {H : Type} : DataW H := .agg [.lit (.int .u8 0), .lit (.int .u8 1), .lit (.int .u8 56), .lit (.int .u8 2), .lit (.int .u8 57), .lit (.int .u8 49), .lit (.int .u8 28), .lit (.int .u8 3), .lit (.int .u8 61), .lit (.int .u8 58), .lit (.int .u8 42), .lit (.int .u8 50), .lit (.int .u8 38), .lit (.int .u8 29), .lit (.int .u8 17), .lit (.int .u8 4), .lit (.int .u8 62), .lit (.int .u8 47), .lit (.int .u8 59), .lit (.int .u8 36), .lit (.int .u8 45), .lit (.int .u8 43), .lit (.int .u8 51), .lit (.int .u8 22), .lit (.int .u8 53), .lit (.int .u8 39), .lit (.int .u8 33), .lit (.int .u8 30), .lit (.int .u8 24), .lit (.int .u8 18), .lit (.int .u8 12), .lit (.int .u8 5), .lit (.int .u8 63), .lit (.int .u8 55), .lit (.int .u8 48), .lit (.int .u8 27), .lit (.int .u8 60), .lit (.int .u8 41), .lit (.int .u8 37), .lit (.int .u8 16), .lit (.int .u8 46), .lit (.int .u8 35), .lit (.int .u8 44), .lit (.int .u8 21), .lit (.int .u8 52), .lit (.int .u8 32), .lit (.int .u8 23), .lit (.int .u8 11), .lit (.int .u8 54), .lit (.int .u8 26), .lit (.int .u8 40), .lit (.int .u8 15), .lit (.int .u8 34), .lit (.int .u8 20), .lit (.int .u8 31), .lit (.int .u8 10), .lit (.int .u8 25), .lit (.int .u8 14), .lit (.int .u8 19), .lit (.int .u8 9), .lit (.int .u8 13), .lit (.int .u8 8), .lit (.int .u8 7), .lit (.int .u8 6)]

/-- 'weirlaw17.ChunkPacks': WHATEVER THE INPUT: true; the input reads as it did. -/
def chunkPacksSpec : ChangeSpec := { name := "chunkPacks", fn := fun _ => fun
  | [d] => { results := [.lit (.bool true)], args := [d] }
  | _ => none }
def chunkPacksRow : OpenClaim := { program := "ytclmkppiolfgbaadoor", sum := "a7c37523a255c98f1f47c657b044540faa8b8459144a6455e03be00ca04f03bf", func := "weir/weirlaw17.ChunkPacks", spec := "chunkPacks", inPlace := ["math.Float64bits", "math.Float64frombits"], named := ["math/bits.deBruijn64tab"], apart := false, laid := [("math/bits.deBruijn64tab", laid_math_bits_deBruijn64tab)] }
def ChunkPacksSaid : Prop := chunkPacksRow.holds Tryd.pinned (OpenSpec.ofChange chunkPacksSpec)

/-- ITS FALSE NEIGHBOUR: 'it returns false'. Refute it at one input. -/
def chunkPacksWrong : ChangeSpec := { name := "chunkPacks", fn := fun _ => fun
  | [d] => { results := [.lit (.bool false)], args := [d] }
  | _ => none }
def ChunkPacksWrongFalsely : Prop := chunkPacksRow.holds Tryd.pinned (OpenSpec.ofChange chunkPacksWrong)

/-- 'weirlaw17.ChunkGrows': WHATEVER THE INPUT: true; the input reads as it did. -/
def chunkGrowsSpec : ChangeSpec := { name := "chunkGrows", fn := fun _ => fun
  | [d] => { results := [.lit (.bool true)], args := [d] }
  | _ => none }
def chunkGrowsRow : OpenClaim := { program := "ytclmkppiolfgbaadoor", sum := "a7c37523a255c98f1f47c657b044540faa8b8459144a6455e03be00ca04f03bf", func := "weir/weirlaw17.ChunkGrows", spec := "chunkGrows", inPlace := ["math.Float64bits", "math.Float64frombits"], named := ["math/bits.deBruijn64tab"], apart := false, laid := [("math/bits.deBruijn64tab", laid_math_bits_deBruijn64tab)] }
def ChunkGrowsSaid : Prop := chunkGrowsRow.holds Tryd.pinned (OpenSpec.ofChange chunkGrowsSpec)

/-- ITS FALSE NEIGHBOUR: 'it returns false'. Refute it at one input. -/
def chunkGrowsWrong : ChangeSpec := { name := "chunkGrows", fn := fun _ => fun
  | [d] => { results := [.lit (.bool false)], args := [d] }
  | _ => none }
def ChunkGrowsWrongFalsely : Prop := chunkGrowsRow.holds Tryd.pinned (OpenSpec.ofChange chunkGrowsWrong)

/-- 'weirlaw17.ChunkBack': WHATEVER THE INPUT: true; the input reads as it did. -/
def chunkBackSpec : ChangeSpec := { name := "chunkBack", fn := fun _ => fun
  | [d1, d2] => { results := [.lit (.bool true)], args := [d1, d2] }
  | _ => none }
def chunkBackRow : OpenClaim := { program := "ytclmkppiolfgbaadoor", sum := "a7c37523a255c98f1f47c657b044540faa8b8459144a6455e03be00ca04f03bf", func := "weir/weirlaw17.ChunkBack", spec := "chunkBack", inPlace := ["math.Float64bits", "math.Float64frombits"], named := ["math/bits.deBruijn64tab"], apart := false, laid := [("math/bits.deBruijn64tab", laid_math_bits_deBruijn64tab)] }
def ChunkBackSaid : Prop := chunkBackRow.holds Tryd.pinned (OpenSpec.ofChange chunkBackSpec)

/-- ITS FALSE NEIGHBOUR: 'it returns false'. Refute it at one input. -/
def chunkBackWrong : ChangeSpec := { name := "chunkBack", fn := fun _ => fun
  | [d1, d2] => { results := [.lit (.bool false)], args := [d1, d2] }
  | _ => none }
def ChunkBackWrongFalsely : Prop := chunkBackRow.holds Tryd.pinned (OpenSpec.ofChange chunkBackWrong)

/-- 'weirlaw17.ChunkSteps': WHATEVER THE INPUT: true; the input reads as it did. -/
def chunkStepsSpec : ChangeSpec := { name := "chunkSteps", fn := fun _ => fun
  | [d] => { results := [.lit (.bool true)], args := [d] }
  | _ => none }
def chunkStepsRow : OpenClaim := { program := "ytclmkppiolfgbaadoor", sum := "a7c37523a255c98f1f47c657b044540faa8b8459144a6455e03be00ca04f03bf", func := "weir/weirlaw17.ChunkSteps", spec := "chunkSteps", inPlace := ["math.Float64bits", "math.Float64frombits"], named := ["math/bits.deBruijn64tab"], apart := false, laid := [("math/bits.deBruijn64tab", laid_math_bits_deBruijn64tab)] }
def ChunkStepsSaid : Prop := chunkStepsRow.holds Tryd.pinned (OpenSpec.ofChange chunkStepsSpec)

/-- ITS FALSE NEIGHBOUR: 'it returns false'. Refute it at one input. -/
def chunkStepsWrong : ChangeSpec := { name := "chunkSteps", fn := fun _ => fun
  | [d] => { results := [.lit (.bool false)], args := [d] }
  | _ => none }
def ChunkStepsWrongFalsely : Prop := chunkStepsRow.holds Tryd.pinned (OpenSpec.ofChange chunkStepsWrong)

/-- 'weirlaw17.ChunkEach': WHATEVER THE INPUT: true; the input reads as it did. -/
def chunkEachSpec : ChangeSpec := { name := "chunkEach", fn := fun _ => fun
  | [d1, d2] => { results := [.lit (.bool true)], args := [d1, d2] }
  | _ => none }
def chunkEachRow : OpenClaim := { program := "ytclmkppiolfgbaadoor", sum := "a7c37523a255c98f1f47c657b044540faa8b8459144a6455e03be00ca04f03bf", func := "weir/weirlaw17.ChunkEach", spec := "chunkEach", inPlace := ["math.Float64bits", "math.Float64frombits"], unfollowed := true, recurses := true, named := ["math/bits.deBruijn64tab"], apart := false, laid := [("math/bits.deBruijn64tab", laid_math_bits_deBruijn64tab)] }
def ChunkEachSaid : Prop := chunkEachRow.holds Tryd.pinned (OpenSpec.ofChange chunkEachSpec)

/-- ITS FALSE NEIGHBOUR: 'it returns false'. Refute it at one input. -/
def chunkEachWrong : ChangeSpec := { name := "chunkEach", fn := fun _ => fun
  | [d1, d2] => { results := [.lit (.bool false)], args := [d1, d2] }
  | _ => none }
def ChunkEachWrongFalsely : Prop := chunkEachRow.holds Tryd.pinned (OpenSpec.ofChange chunkEachWrong)

/-- 'weirlaw17.ChunkKeeps': WHATEVER THE INPUT: true; the input reads as it did. -/
def chunkKeepsSpec : ChangeSpec := { name := "chunkKeeps", fn := fun _ => fun
  | [d1, d2, d3] => { results := [.lit (.bool true)], args := [d1, d2, d3] }
  | _ => none }
def chunkKeepsRow : OpenClaim := { program := "ytclmkppiolfgbaadoor", sum := "a7c37523a255c98f1f47c657b044540faa8b8459144a6455e03be00ca04f03bf", func := "weir/weirlaw17.ChunkKeeps", spec := "chunkKeeps", inPlace := ["math.Float64bits", "math.Float64frombits"], named := ["math/bits.deBruijn64tab"], apart := false, laid := [("math/bits.deBruijn64tab", laid_math_bits_deBruijn64tab)] }
def ChunkKeepsSaid : Prop := chunkKeepsRow.holds Tryd.pinned (OpenSpec.ofChange chunkKeepsSpec)

/-- ITS FALSE NEIGHBOUR: 'it returns false'. Refute it at one input. -/
def chunkKeepsWrong : ChangeSpec := { name := "chunkKeeps", fn := fun _ => fun
  | [d1, d2, d3] => { results := [.lit (.bool false)], args := [d1, d2, d3] }
  | _ => none }
def ChunkKeepsWrongFalsely : Prop := chunkKeepsRow.holds Tryd.pinned (OpenSpec.ofChange chunkKeepsWrong)

/-- 'weirlaw17.ChunkNames': WHATEVER THE INPUT: true; the input reads as it did. -/
def chunkNamesSpec : ChangeSpec := { name := "chunkNames", fn := fun _ => fun
  | [] => { results := [.lit (.bool true)], args := [] }
  | _ => none }
def chunkNamesRow : OpenClaim := { program := "ytclmkppiolfgbaadoor", sum := "a7c37523a255c98f1f47c657b044540faa8b8459144a6455e03be00ca04f03bf", func := "weir/weirlaw17.ChunkNames", spec := "chunkNames", inPlace := ["math.Float64bits", "math.Float64frombits"], named := ["math/bits.deBruijn64tab"], apart := false, laid := [("math/bits.deBruijn64tab", laid_math_bits_deBruijn64tab)] }
def ChunkNamesSaid : Prop := chunkNamesRow.holds Tryd.pinned (OpenSpec.ofChange chunkNamesSpec)

/-- ITS FALSE NEIGHBOUR: 'it returns false'. Refute it at one input. -/
def chunkNamesWrong : ChangeSpec := { name := "chunkNames", fn := fun _ => fun
  | [] => { results := [.lit (.bool false)], args := [] }
  | _ => none }
def ChunkNamesWrongFalsely : Prop := chunkNamesRow.holds Tryd.pinned (OpenSpec.ofChange chunkNamesWrong)

/-- 'weirlaw17.ChunkReads': WHATEVER THE INPUT: true; the input reads as it did. -/
def chunkReadsSpec : ChangeSpec := { name := "chunkReads", fn := fun _ => fun
  | [d1, d2, d3] => { results := [.lit (.bool true)], args := [d1, d2, d3] }
  | _ => none }
def chunkReadsRow : OpenClaim := { program := "ytclmkppiolfgbaadoor", sum := "a7c37523a255c98f1f47c657b044540faa8b8459144a6455e03be00ca04f03bf", func := "weir/weirlaw17.ChunkReads", spec := "chunkReads", inPlace := ["math.Float64bits", "math.Float64frombits"], named := ["math/bits.deBruijn64tab"], apart := false, laid := [("math/bits.deBruijn64tab", laid_math_bits_deBruijn64tab)] }
def ChunkReadsSaid : Prop := chunkReadsRow.holds Tryd.pinned (OpenSpec.ofChange chunkReadsSpec)

/-- ITS FALSE NEIGHBOUR: 'it returns false'. Refute it at one input. -/
def chunkReadsWrong : ChangeSpec := { name := "chunkReads", fn := fun _ => fun
  | [d1, d2, d3] => { results := [.lit (.bool false)], args := [d1, d2, d3] }
  | _ => none }
def ChunkReadsWrongFalsely : Prop := chunkReadsRow.holds Tryd.pinned (OpenSpec.ofChange chunkReadsWrong)

/- THE SECOND FORM. 'bulk': how many values and letters a reading holds, each counted each time it is reached (what is shared counts as often as it is met; a slice's spare places count too). A statement '..UptoSaid' is the law's where the arguments, and the package variables that the reading takes, are together of bulk at most 1048576: NARROWER than '..Said'. Prove '..Said' where nothing that the law and all that it calls make is longer than what came in: it says more and counts as full. Else prove '..UptoSaid'. A law counts once. -/
mutual
def uptoBulk {H : Type} : DataW H → Nat
  | .lit (.string bytes) => bytes.length + 1
  | .lit _ => 1
  | .nil => 1
  | .ptr d => uptoBulk d + 1
  | .slice elems spare => uptoBulkAll elems + uptoBulkAll spare + 1
  | .agg parts => uptoBulkAll parts + 1
  | .iface _ d => uptoBulk d + 1
  | .map entries => uptoBulkEntries entries + 1
  | .held _ => 1
def uptoBulkAll {H : Type} : List (DataW H) → Nat
  | [] => 0
  | d :: r => uptoBulk d + uptoBulkAll r
def uptoBulkEntries {H : Type} : List (Lit × DataW H) → Nat
  | [] => 0
  | x :: r => uptoBulkEntry x + uptoBulkEntries r
def uptoBulkEntry {H : Type} : Lit × DataW H → Nat
  | (.string bytes, d) => bytes.length + uptoBulk d + 1
  | (_, d) => uptoBulk d + 1
 end
def uptoSmall : (H : Type) → List (DataW H) → Bool := fun _ ds => decide (uptoBulkAll ds ≤ 1048576)
def OpenSpec.upto (s : _root_.Go.ChangeSpec) : _root_.Go.OpenSpec := { _root_.Go.OpenSpec.ofChange s with cond := some uptoSmall }

/-- 'weirlaw17.ChunkPacks', WHERE WHAT IT READS IS OF BULK AT MOST 1048576: true; the input reads as it did. -/
def chunkPacksUptoRow : OpenClaim := { program := "ytclmkppiolfgbaadoor", sum := "a7c37523a255c98f1f47c657b044540faa8b8459144a6455e03be00ca04f03bf", func := "weir/weirlaw17.ChunkPacks", spec := "chunkPacks", inPlace := ["math.Float64bits", "math.Float64frombits"], named := ["math/bits.deBruijn64tab"], apart := false, laid := [("math/bits.deBruijn64tab", laid_math_bits_deBruijn64tab)], narrowed := true }
def ChunkPacksUptoSaid : Prop := chunkPacksUptoRow.holds Tryd.pinned (OpenSpec.upto chunkPacksSpec)

/-- 'weirlaw17.ChunkGrows', WHERE WHAT IT READS IS OF BULK AT MOST 1048576: true; the input reads as it did. -/
def chunkGrowsUptoRow : OpenClaim := { program := "ytclmkppiolfgbaadoor", sum := "a7c37523a255c98f1f47c657b044540faa8b8459144a6455e03be00ca04f03bf", func := "weir/weirlaw17.ChunkGrows", spec := "chunkGrows", inPlace := ["math.Float64bits", "math.Float64frombits"], named := ["math/bits.deBruijn64tab"], apart := false, laid := [("math/bits.deBruijn64tab", laid_math_bits_deBruijn64tab)], narrowed := true }
def ChunkGrowsUptoSaid : Prop := chunkGrowsUptoRow.holds Tryd.pinned (OpenSpec.upto chunkGrowsSpec)

/-- 'weirlaw17.ChunkBack', WHERE WHAT IT READS IS OF BULK AT MOST 1048576: true; the input reads as it did. -/
def chunkBackUptoRow : OpenClaim := { program := "ytclmkppiolfgbaadoor", sum := "a7c37523a255c98f1f47c657b044540faa8b8459144a6455e03be00ca04f03bf", func := "weir/weirlaw17.ChunkBack", spec := "chunkBack", inPlace := ["math.Float64bits", "math.Float64frombits"], named := ["math/bits.deBruijn64tab"], apart := false, laid := [("math/bits.deBruijn64tab", laid_math_bits_deBruijn64tab)], narrowed := true }
def ChunkBackUptoSaid : Prop := chunkBackUptoRow.holds Tryd.pinned (OpenSpec.upto chunkBackSpec)

/-- 'weirlaw17.ChunkSteps', WHERE WHAT IT READS IS OF BULK AT MOST 1048576: true; the input reads as it did. -/
def chunkStepsUptoRow : OpenClaim := { program := "ytclmkppiolfgbaadoor", sum := "a7c37523a255c98f1f47c657b044540faa8b8459144a6455e03be00ca04f03bf", func := "weir/weirlaw17.ChunkSteps", spec := "chunkSteps", inPlace := ["math.Float64bits", "math.Float64frombits"], named := ["math/bits.deBruijn64tab"], apart := false, laid := [("math/bits.deBruijn64tab", laid_math_bits_deBruijn64tab)], narrowed := true }
def ChunkStepsUptoSaid : Prop := chunkStepsUptoRow.holds Tryd.pinned (OpenSpec.upto chunkStepsSpec)

/-- 'weirlaw17.ChunkEach', WHERE WHAT IT READS IS OF BULK AT MOST 1048576: true; the input reads as it did. -/
def chunkEachUptoRow : OpenClaim := { program := "ytclmkppiolfgbaadoor", sum := "a7c37523a255c98f1f47c657b044540faa8b8459144a6455e03be00ca04f03bf", func := "weir/weirlaw17.ChunkEach", spec := "chunkEach", inPlace := ["math.Float64bits", "math.Float64frombits"], unfollowed := true, recurses := true, named := ["math/bits.deBruijn64tab"], apart := false, laid := [("math/bits.deBruijn64tab", laid_math_bits_deBruijn64tab)], narrowed := true }
def ChunkEachUptoSaid : Prop := chunkEachUptoRow.holds Tryd.pinned (OpenSpec.upto chunkEachSpec)

/-- 'weirlaw17.ChunkKeeps', WHERE WHAT IT READS IS OF BULK AT MOST 1048576: true; the input reads as it did. -/
def chunkKeepsUptoRow : OpenClaim := { program := "ytclmkppiolfgbaadoor", sum := "a7c37523a255c98f1f47c657b044540faa8b8459144a6455e03be00ca04f03bf", func := "weir/weirlaw17.ChunkKeeps", spec := "chunkKeeps", inPlace := ["math.Float64bits", "math.Float64frombits"], named := ["math/bits.deBruijn64tab"], apart := false, laid := [("math/bits.deBruijn64tab", laid_math_bits_deBruijn64tab)], narrowed := true }
def ChunkKeepsUptoSaid : Prop := chunkKeepsUptoRow.holds Tryd.pinned (OpenSpec.upto chunkKeepsSpec)

/-- 'weirlaw17.ChunkNames', WHERE WHAT IT READS IS OF BULK AT MOST 1048576: true; the input reads as it did. -/
def chunkNamesUptoRow : OpenClaim := { program := "ytclmkppiolfgbaadoor", sum := "a7c37523a255c98f1f47c657b044540faa8b8459144a6455e03be00ca04f03bf", func := "weir/weirlaw17.ChunkNames", spec := "chunkNames", inPlace := ["math.Float64bits", "math.Float64frombits"], named := ["math/bits.deBruijn64tab"], apart := false, laid := [("math/bits.deBruijn64tab", laid_math_bits_deBruijn64tab)], narrowed := true }
def ChunkNamesUptoSaid : Prop := chunkNamesUptoRow.holds Tryd.pinned (OpenSpec.upto chunkNamesSpec)

/-- 'weirlaw17.ChunkReads', WHERE WHAT IT READS IS OF BULK AT MOST 1048576: true; the input reads as it did. -/
def chunkReadsUptoRow : OpenClaim := { program := "ytclmkppiolfgbaadoor", sum := "a7c37523a255c98f1f47c657b044540faa8b8459144a6455e03be00ca04f03bf", func := "weir/weirlaw17.ChunkReads", spec := "chunkReads", inPlace := ["math.Float64bits", "math.Float64frombits"], named := ["math/bits.deBruijn64tab"], apart := false, laid := [("math/bits.deBruijn64tab", laid_math_bits_deBruijn64tab)], narrowed := true }
def ChunkReadsUptoSaid : Prop := chunkReadsUptoRow.holds Tryd.pinned (OpenSpec.upto chunkReadsSpec)

end Rows
end Go.Proofs.YtclmkppiolfgbaaDoor
