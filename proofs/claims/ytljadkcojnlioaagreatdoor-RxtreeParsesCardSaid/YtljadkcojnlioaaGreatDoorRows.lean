/-
  NARROWER THAN 'FOR EVERY INPUT', by the rows' own cells (each row's printed sentence says how): RxtreeParses: laid · RxtreeQuotes: laid · RxtreeBack: loops, laid · RxtreeNot: laid · RxtreeShows: loops, laid · RxtreeJoins: laid · RxtreeKeeps: loops, laid.
  DERIVED. THE GIVEN ROWS OF THIS SEAT. 7 by the template 'for every input the law returns true; each argument reads behind the call as it read before'; 0 by the template 'total and deterministic' (their statements: YtljadkcojnlioaaGreatDoorTotals.lean).
  GIVEN WITH THE SEED: the statements are not yours to turn. If you find one false, say at which input.
  Laid BY PROGRAM, IN A SANDBOX (cutbox-rows.mjs): the forced cells as the released guide's own fill.sh prints them over the translation 9dbe80c1dd0961eb… (all of the seat's roots in one cut). By AI agents, Wed Nov 11 2026. No macro, syntax, notation, axiom, sorry.
-/
import Derived.Test.YtljadkcojnlioaaGreatDoorChecked
import GoSem.Claim
import GoSem.ClaimJoined
import GoSem.ClaimMapViews
import Derived.JoinedTies
import Derived.KernelRfl
namespace Go.Proofs.YtljadkcojnlioaaGreatDoor
/- THE CELL 'sum', in the pinned program and in every row, IS THE sha256 OF THE DUMP (.gsa) THAT YtljadkcojnlioaaGreatDoorProg.lean LOADS. Nothing in Lean hashes anything: it is a label: what it is worth is what the hold of that sum in a sandbox is worth. -/
noncomputable def Tryz.pinned : Pinned := { name := "ytljadkcojnlioaagreatdoor", sum := "9dbe80c1dd0961eb4dc405ccadf4ed9838dd860d24210c5843b7d7ef851dc43c", checked := Tryz.checked }
namespace Rows
def none {H : Type} : Left H := { results := [], args := [] }

/- WHAT THE LISTED PACKAGE-LEVEL VARIABLES READ AS WHEN THE CALL BEGINS. Each datum BY PROGRAM (the guide's laid-datum.mjs) off the statement by which the dump's own 'gosem.cut.vars' lays the variable. In a bare row this is a premise. The card (YtljadkcojnlioaaGreatDoorCards.lean) ties it to the program's text. -/
def laid_math_bits_deBruijn32tab {H : Type} : DataW H := .agg [.lit (.int .u8 0), .lit (.int .u8 1), .lit (.int .u8 28), .lit (.int .u8 2), .lit (.int .u8 29), .lit (.int .u8 14), .lit (.int .u8 24), .lit (.int .u8 3), .lit (.int .u8 30), .lit (.int .u8 22), .lit (.int .u8 20), .lit (.int .u8 15), .lit (.int .u8 25), .lit (.int .u8 17), .lit (.int .u8 4), .lit (.int .u8 8), .lit (.int .u8 31), .lit (.int .u8 27), .lit (.int .u8 13), .lit (.int .u8 23), .lit (.int .u8 21), .lit (.int .u8 19), .lit (.int .u8 16), .lit (.int .u8 7), .lit (.int .u8 26), .lit (.int .u8 12), .lit (.int .u8 18), .lit (.int .u8 6), .lit (.int .u8 11), .lit (.int .u8 5), .lit (.int .u8 10), .lit (.int .u8 9)]
def laid_math_bits_deBruijn64tab {H : Type} : DataW H := .agg [.lit (.int .u8 0), .lit (.int .u8 1), .lit (.int .u8 56), .lit (.int .u8 2), .lit (.int .u8 57), .lit (.int .u8 49), .lit (.int .u8 28), .lit (.int .u8 3), .lit (.int .u8 61), .lit (.int .u8 58), .lit (.int .u8 42), .lit (.int .u8 50), .lit (.int .u8 38), .lit (.int .u8 29), .lit (.int .u8 17), .lit (.int .u8 4), .lit (.int .u8 62), .lit (.int .u8 47), .lit (.int .u8 59), .lit (.int .u8 36), .lit (.int .u8 45), .lit (.int .u8 43), .lit (.int .u8 51), .lit (.int .u8 22), .lit (.int .u8 53), .lit (.int .u8 39), .lit (.int .u8 33), .lit (.int .u8 30), .lit (.int .u8 24), .lit (.int .u8 18), .lit (.int .u8 12), .lit (.int .u8 5), .lit (.int .u8 63), .lit (.int .u8 55), .lit (.int .u8 48), .lit (.int .u8 27), .lit (.int .u8 60), .lit (.int .u8 41), .lit (.int .u8 37), .lit (.int .u8 16), .lit (.int .u8 46), .lit (.int .u8 35), .lit (.int .u8 44), .lit (.int .u8 21), .lit (.int .u8 52), .lit (.int .u8 32), .lit (.int .u8 23), .lit (.int .u8 11), .lit (.int .u8 54), .lit (.int .u8 26), .lit (.int .u8 40), .lit (.int .u8 15), .lit (.int .u8 34), .lit (.int .u8 20), .lit (.int .u8 31), .lit (.int .u8 10), .lit (.int .u8 25), .lit (.int .u8 14), .lit (.int .u8 19), .lit (.int .u8 9), .lit (.int .u8 13), .lit (.int .u8 8), .lit (.int .u8 7), .lit (.int .u8 6)]
def laid_internal_strconv_uint64pow10 {H : Type} : DataW H := .agg [.lit (.int .u64 1), .lit (.int .u64 10), .lit (.int .u64 100), .lit (.int .u64 1000), .lit (.int .u64 10000), .lit (.int .u64 100000), .lit (.int .u64 1000000), .lit (.int .u64 10000000), .lit (.int .u64 100000000), .lit (.int .u64 1000000000), .lit (.int .u64 10000000000), .lit (.int .u64 100000000000), .lit (.int .u64 1000000000000), .lit (.int .u64 10000000000000), .lit (.int .u64 100000000000000), .lit (.int .u64 1000000000000000), .lit (.int .u64 10000000000000000), .lit (.int .u64 100000000000000000), .lit (.int .u64 1000000000000000000), .lit (.int .u64 10000000000000000000)]

/-- 'weirlaw08.RxtreeParses': WHATEVER THE INPUT: true; the input reads as it did. -/
def rxtreeParsesSpec : ChangeSpec := { name := "rxtreeParses", fn := fun _ => fun
  | [d] => { results := [.lit (.bool true)], args := [d] }
  | _ => none }
def rxtreeParsesRow : OpenClaim := { program := "ytljadkcojnlioaagreatdoor", sum := "9dbe80c1dd0961eb4dc405ccadf4ed9838dd860d24210c5843b7d7ef851dc43c", func := "weir/weirlaw08.RxtreeParses", spec := "rxtreeParses", inPlace := ["internal/bytealg.IndexByteString", "internal/bytealg.IndexString", "internal/abi.NoEscape"], unfollowed := true, recurses := true, named := ["internal/bytealg.MaxLen", "internal/strconv.uint64pow10", "math/bits.deBruijn32tab", "math/bits.deBruijn64tab"], apart := false, laid := [("math/bits.deBruijn32tab", laid_math_bits_deBruijn32tab), ("math/bits.deBruijn64tab", laid_math_bits_deBruijn64tab), ("internal/strconv.uint64pow10", laid_internal_strconv_uint64pow10)] }
def RxtreeParsesSaid : Prop := rxtreeParsesRow.holds Tryz.pinned (OpenSpec.ofChange rxtreeParsesSpec)

/-- ITS FALSE NEIGHBOUR: 'it returns false'. Refute it at one input. -/
def rxtreeParsesWrong : ChangeSpec := { name := "rxtreeParses", fn := fun _ => fun
  | [d] => { results := [.lit (.bool false)], args := [d] }
  | _ => none }
def RxtreeParsesWrongFalsely : Prop := rxtreeParsesRow.holds Tryz.pinned (OpenSpec.ofChange rxtreeParsesWrong)

/-- 'weirlaw08.RxtreeQuotes': WHATEVER THE INPUT: true; the input reads as it did. -/
def rxtreeQuotesSpec : ChangeSpec := { name := "rxtreeQuotes", fn := fun _ => fun
  | [d] => { results := [.lit (.bool true)], args := [d] }
  | _ => none }
def rxtreeQuotesRow : OpenClaim := { program := "ytljadkcojnlioaagreatdoor", sum := "9dbe80c1dd0961eb4dc405ccadf4ed9838dd860d24210c5843b7d7ef851dc43c", func := "weir/weirlaw08.RxtreeQuotes", spec := "rxtreeQuotes", inPlace := ["internal/bytealg.IndexByteString", "internal/bytealg.IndexString", "internal/abi.NoEscape"], unfollowed := true, recurses := true, named := ["internal/bytealg.MaxLen", "internal/strconv.uint64pow10", "math/bits.deBruijn32tab", "math/bits.deBruijn64tab"], apart := false, laid := [("math/bits.deBruijn32tab", laid_math_bits_deBruijn32tab), ("math/bits.deBruijn64tab", laid_math_bits_deBruijn64tab), ("internal/strconv.uint64pow10", laid_internal_strconv_uint64pow10)] }
def RxtreeQuotesSaid : Prop := rxtreeQuotesRow.holds Tryz.pinned (OpenSpec.ofChange rxtreeQuotesSpec)

/-- ITS FALSE NEIGHBOUR: 'it returns false'. Refute it at one input. -/
def rxtreeQuotesWrong : ChangeSpec := { name := "rxtreeQuotes", fn := fun _ => fun
  | [d] => { results := [.lit (.bool false)], args := [d] }
  | _ => none }
def RxtreeQuotesWrongFalsely : Prop := rxtreeQuotesRow.holds Tryz.pinned (OpenSpec.ofChange rxtreeQuotesWrong)

/-- 'weirlaw08.RxtreeBack': WHATEVER THE INPUT: true; the input reads as it did. -/
def rxtreeBackSpec : ChangeSpec := { name := "rxtreeBack", fn := fun _ => fun
  | [d1, d2] => { results := [.lit (.bool true)], args := [d1, d2] }
  | _ => none }
def rxtreeBackRow : OpenClaim := { program := "ytljadkcojnlioaagreatdoor", sum := "9dbe80c1dd0961eb4dc405ccadf4ed9838dd860d24210c5843b7d7ef851dc43c", func := "weir/weirlaw08.RxtreeBack", spec := "rxtreeBack", inPlace := ["internal/bytealg.IndexByteString", "internal/bytealg.IndexString", "internal/abi.NoEscape"], unfollowed := true, recurses := true, named := ["internal/bytealg.MaxLen", "internal/strconv.uint64pow10", "math/bits.deBruijn32tab", "math/bits.deBruijn64tab"], loops := true, apart := false, laid := [("math/bits.deBruijn32tab", laid_math_bits_deBruijn32tab), ("math/bits.deBruijn64tab", laid_math_bits_deBruijn64tab), ("internal/strconv.uint64pow10", laid_internal_strconv_uint64pow10)] }
def RxtreeBackSaid : Prop := rxtreeBackRow.holds Tryz.pinned (OpenSpec.ofChange rxtreeBackSpec)

/-- ITS FALSE NEIGHBOUR: 'it returns false'. Refute it at one input. -/
def rxtreeBackWrong : ChangeSpec := { name := "rxtreeBack", fn := fun _ => fun
  | [d1, d2] => { results := [.lit (.bool false)], args := [d1, d2] }
  | _ => none }
def RxtreeBackWrongFalsely : Prop := rxtreeBackRow.holds Tryz.pinned (OpenSpec.ofChange rxtreeBackWrong)

/-- 'weirlaw08.RxtreeNot': WHATEVER THE INPUT: true; the input reads as it did. -/
def rxtreeNotSpec : ChangeSpec := { name := "rxtreeNot", fn := fun _ => fun
  | [d1, d2] => { results := [.lit (.bool true)], args := [d1, d2] }
  | _ => none }
def rxtreeNotRow : OpenClaim := { program := "ytljadkcojnlioaagreatdoor", sum := "9dbe80c1dd0961eb4dc405ccadf4ed9838dd860d24210c5843b7d7ef851dc43c", func := "weir/weirlaw08.RxtreeNot", spec := "rxtreeNot", inPlace := ["internal/bytealg.IndexByteString", "internal/bytealg.IndexString", "internal/abi.NoEscape"], unfollowed := true, recurses := true, named := ["internal/bytealg.MaxLen", "internal/strconv.uint64pow10", "math/bits.deBruijn32tab", "math/bits.deBruijn64tab"], apart := false, laid := [("math/bits.deBruijn32tab", laid_math_bits_deBruijn32tab), ("math/bits.deBruijn64tab", laid_math_bits_deBruijn64tab), ("internal/strconv.uint64pow10", laid_internal_strconv_uint64pow10)] }
def RxtreeNotSaid : Prop := rxtreeNotRow.holds Tryz.pinned (OpenSpec.ofChange rxtreeNotSpec)

/-- ITS FALSE NEIGHBOUR: 'it returns false'. Refute it at one input. -/
def rxtreeNotWrong : ChangeSpec := { name := "rxtreeNot", fn := fun _ => fun
  | [d1, d2] => { results := [.lit (.bool false)], args := [d1, d2] }
  | _ => none }
def RxtreeNotWrongFalsely : Prop := rxtreeNotRow.holds Tryz.pinned (OpenSpec.ofChange rxtreeNotWrong)

/-- 'weirlaw08.RxtreeShows': WHATEVER THE INPUT: true; the input reads as it did. -/
def rxtreeShowsSpec : ChangeSpec := { name := "rxtreeShows", fn := fun _ => fun
  | [d] => { results := [.lit (.bool true)], args := [d] }
  | _ => none }
def rxtreeShowsRow : OpenClaim := { program := "ytljadkcojnlioaagreatdoor", sum := "9dbe80c1dd0961eb4dc405ccadf4ed9838dd860d24210c5843b7d7ef851dc43c", func := "weir/weirlaw08.RxtreeShows", spec := "rxtreeShows", inPlace := ["internal/bytealg.IndexByteString", "internal/bytealg.IndexString", "internal/abi.NoEscape"], unfollowed := true, recurses := true, named := ["internal/bytealg.MaxLen", "internal/strconv.uint64pow10", "math/bits.deBruijn32tab", "math/bits.deBruijn64tab"], loops := true, apart := false, laid := [("math/bits.deBruijn32tab", laid_math_bits_deBruijn32tab), ("math/bits.deBruijn64tab", laid_math_bits_deBruijn64tab), ("internal/strconv.uint64pow10", laid_internal_strconv_uint64pow10)] }
def RxtreeShowsSaid : Prop := rxtreeShowsRow.holds Tryz.pinned (OpenSpec.ofChange rxtreeShowsSpec)

/-- ITS FALSE NEIGHBOUR: 'it returns false'. Refute it at one input. -/
def rxtreeShowsWrong : ChangeSpec := { name := "rxtreeShows", fn := fun _ => fun
  | [d] => { results := [.lit (.bool false)], args := [d] }
  | _ => none }
def RxtreeShowsWrongFalsely : Prop := rxtreeShowsRow.holds Tryz.pinned (OpenSpec.ofChange rxtreeShowsWrong)

/-- 'weirlaw08.RxtreeJoins': WHATEVER THE INPUT: true; the input reads as it did. -/
def rxtreeJoinsSpec : ChangeSpec := { name := "rxtreeJoins", fn := fun _ => fun
  | [d1, d2] => { results := [.lit (.bool true)], args := [d1, d2] }
  | _ => none }
def rxtreeJoinsRow : OpenClaim := { program := "ytljadkcojnlioaagreatdoor", sum := "9dbe80c1dd0961eb4dc405ccadf4ed9838dd860d24210c5843b7d7ef851dc43c", func := "weir/weirlaw08.RxtreeJoins", spec := "rxtreeJoins", inPlace := ["internal/bytealg.IndexByteString", "internal/bytealg.IndexString", "internal/abi.NoEscape"], unfollowed := true, recurses := true, named := ["internal/bytealg.MaxLen", "internal/strconv.uint64pow10", "math/bits.deBruijn32tab", "math/bits.deBruijn64tab"], apart := false, laid := [("math/bits.deBruijn32tab", laid_math_bits_deBruijn32tab), ("math/bits.deBruijn64tab", laid_math_bits_deBruijn64tab), ("internal/strconv.uint64pow10", laid_internal_strconv_uint64pow10)] }
def RxtreeJoinsSaid : Prop := rxtreeJoinsRow.holds Tryz.pinned (OpenSpec.ofChange rxtreeJoinsSpec)

/-- ITS FALSE NEIGHBOUR: 'it returns false'. Refute it at one input. -/
def rxtreeJoinsWrong : ChangeSpec := { name := "rxtreeJoins", fn := fun _ => fun
  | [d1, d2] => { results := [.lit (.bool false)], args := [d1, d2] }
  | _ => none }
def RxtreeJoinsWrongFalsely : Prop := rxtreeJoinsRow.holds Tryz.pinned (OpenSpec.ofChange rxtreeJoinsWrong)

/-- 'weirlaw08.RxtreeKeeps': WHATEVER THE INPUT: true; the input reads as it did. -/
def rxtreeKeepsSpec : ChangeSpec := { name := "rxtreeKeeps", fn := fun _ => fun
  | [d1, d2] => { results := [.lit (.bool true)], args := [d1, d2] }
  | _ => none }
def rxtreeKeepsRow : OpenClaim := { program := "ytljadkcojnlioaagreatdoor", sum := "9dbe80c1dd0961eb4dc405ccadf4ed9838dd860d24210c5843b7d7ef851dc43c", func := "weir/weirlaw08.RxtreeKeeps", spec := "rxtreeKeeps", inPlace := ["internal/bytealg.IndexByteString", "internal/bytealg.IndexString", "internal/abi.NoEscape"], unfollowed := true, recurses := true, named := ["internal/bytealg.MaxLen", "internal/strconv.uint64pow10", "math/bits.deBruijn32tab", "math/bits.deBruijn64tab"], loops := true, apart := false, laid := [("math/bits.deBruijn32tab", laid_math_bits_deBruijn32tab), ("math/bits.deBruijn64tab", laid_math_bits_deBruijn64tab), ("internal/strconv.uint64pow10", laid_internal_strconv_uint64pow10)] }
def RxtreeKeepsSaid : Prop := rxtreeKeepsRow.holds Tryz.pinned (OpenSpec.ofChange rxtreeKeepsSpec)

/-- ITS FALSE NEIGHBOUR: 'it returns false'. Refute it at one input. -/
def rxtreeKeepsWrong : ChangeSpec := { name := "rxtreeKeeps", fn := fun _ => fun
  | [d1, d2] => { results := [.lit (.bool false)], args := [d1, d2] }
  | _ => none }
def RxtreeKeepsWrongFalsely : Prop := rxtreeKeepsRow.holds Tryz.pinned (OpenSpec.ofChange rxtreeKeepsWrong)

/- THE SECOND FORM. 'bulk': how many values and letters a reading holds, each counted each time it is reached (what is shared counts as often as it is met; a slice's spare places count too). A statement '..UptoSaid' is the law's where the arguments, and the package variables that the reading takes, are together of bulk at most 1048576: NARROWER than '..Said'. Prove '..Said' where nothing that the law and all that it calls make is longer than what came in: it says more and counts as full. Else prove '..UptoSaid'. A law counts once. -/
mutual
def uptoBulk {H : Type} : DataW H → Nat
  | .lit (.string bytes) => bytes.length + 1
  | .lit _ => 1
  | .nil => 1
  | .ptr d => uptoBulk d + 1
  | .slice elems spare => uptoBulkAll elems + uptoBulkAll spare + 1
  | .agg parts => uptoBulkAll parts + 1
  | .iface _ d => uptoBulk d + 1
  | .map entries => uptoBulkEntries entries + 1
  | .held _ => 1
def uptoBulkAll {H : Type} : List (DataW H) → Nat
  | [] => 0
  | d :: r => uptoBulk d + uptoBulkAll r
def uptoBulkEntries {H : Type} : List (Lit × DataW H) → Nat
  | [] => 0
  | x :: r => uptoBulkEntry x + uptoBulkEntries r
def uptoBulkEntry {H : Type} : Lit × DataW H → Nat
  | (.string bytes, d) => bytes.length + uptoBulk d + 1
  | (_, d) => uptoBulk d + 1
 end
def uptoSmall : (H : Type) → List (DataW H) → Bool := fun _ ds => decide (uptoBulkAll ds ≤ 1048576)
def OpenSpec.upto (s : _root_.Go.ChangeSpec) : _root_.Go.OpenSpec := { _root_.Go.OpenSpec.ofChange s with cond := some uptoSmall }

/-- 'weirlaw08.RxtreeParses', WHERE WHAT IT READS IS OF BULK AT MOST 1048576: true; the input reads as it did. -/
def rxtreeParsesUptoRow : OpenClaim := { program := "ytljadkcojnlioaagreatdoor", sum := "9dbe80c1dd0961eb4dc405ccadf4ed9838dd860d24210c5843b7d7ef851dc43c", func := "weir/weirlaw08.RxtreeParses", spec := "rxtreeParses", inPlace := ["internal/bytealg.IndexByteString", "internal/bytealg.IndexString", "internal/abi.NoEscape"], unfollowed := true, recurses := true, named := ["internal/bytealg.MaxLen", "internal/strconv.uint64pow10", "math/bits.deBruijn32tab", "math/bits.deBruijn64tab"], apart := false, laid := [("math/bits.deBruijn32tab", laid_math_bits_deBruijn32tab), ("math/bits.deBruijn64tab", laid_math_bits_deBruijn64tab), ("internal/strconv.uint64pow10", laid_internal_strconv_uint64pow10)], narrowed := true }
def RxtreeParsesUptoSaid : Prop := rxtreeParsesUptoRow.holds Tryz.pinned (OpenSpec.upto rxtreeParsesSpec)

/-- 'weirlaw08.RxtreeQuotes', WHERE WHAT IT READS IS OF BULK AT MOST 1048576: true; the input reads as it did. -/
def rxtreeQuotesUptoRow : OpenClaim := { program := "ytljadkcojnlioaagreatdoor", sum := "9dbe80c1dd0961eb4dc405ccadf4ed9838dd860d24210c5843b7d7ef851dc43c", func := "weir/weirlaw08.RxtreeQuotes", spec := "rxtreeQuotes", inPlace := ["internal/bytealg.IndexByteString", "internal/bytealg.IndexString", "internal/abi.NoEscape"], unfollowed := true, recurses := true, named := ["internal/bytealg.MaxLen", "internal/strconv.uint64pow10", "math/bits.deBruijn32tab", "math/bits.deBruijn64tab"], apart := false, laid := [("math/bits.deBruijn32tab", laid_math_bits_deBruijn32tab), ("math/bits.deBruijn64tab", laid_math_bits_deBruijn64tab), ("internal/strconv.uint64pow10", laid_internal_strconv_uint64pow10)], narrowed := true }
def RxtreeQuotesUptoSaid : Prop := rxtreeQuotesUptoRow.holds Tryz.pinned (OpenSpec.upto rxtreeQuotesSpec)

/-- 'weirlaw08.RxtreeBack', WHERE WHAT IT READS IS OF BULK AT MOST 1048576: true; the input reads as it did. -/
def rxtreeBackUptoRow : OpenClaim := { program := "ytljadkcojnlioaagreatdoor", sum := "9dbe80c1dd0961eb4dc405ccadf4ed9838dd860d24210c5843b7d7ef851dc43c", func := "weir/weirlaw08.RxtreeBack", spec := "rxtreeBack", inPlace := ["internal/bytealg.IndexByteString", "internal/bytealg.IndexString", "internal/abi.NoEscape"], unfollowed := true, recurses := true, named := ["internal/bytealg.MaxLen", "internal/strconv.uint64pow10", "math/bits.deBruijn32tab", "math/bits.deBruijn64tab"], loops := true, apart := false, laid := [("math/bits.deBruijn32tab", laid_math_bits_deBruijn32tab), ("math/bits.deBruijn64tab", laid_math_bits_deBruijn64tab), ("internal/strconv.uint64pow10", laid_internal_strconv_uint64pow10)], narrowed := true }
def RxtreeBackUptoSaid : Prop := rxtreeBackUptoRow.holds Tryz.pinned (OpenSpec.upto rxtreeBackSpec)

/-- 'weirlaw08.RxtreeNot', WHERE WHAT IT READS IS OF BULK AT MOST 1048576: true; the input reads as it did. -/
def rxtreeNotUptoRow : OpenClaim := { program := "ytljadkcojnlioaagreatdoor", sum := "9dbe80c1dd0961eb4dc405ccadf4ed9838dd860d24210c5843b7d7ef851dc43c", func := "weir/weirlaw08.RxtreeNot", spec := "rxtreeNot", inPlace := ["internal/bytealg.IndexByteString", "internal/bytealg.IndexString", "internal/abi.NoEscape"], unfollowed := true, recurses := true, named := ["internal/bytealg.MaxLen", "internal/strconv.uint64pow10", "math/bits.deBruijn32tab", "math/bits.deBruijn64tab"], apart := false, laid := [("math/bits.deBruijn32tab", laid_math_bits_deBruijn32tab), ("math/bits.deBruijn64tab", laid_math_bits_deBruijn64tab), ("internal/strconv.uint64pow10", laid_internal_strconv_uint64pow10)], narrowed := true }
def RxtreeNotUptoSaid : Prop := rxtreeNotUptoRow.holds Tryz.pinned (OpenSpec.upto rxtreeNotSpec)

/-- 'weirlaw08.RxtreeShows', WHERE WHAT IT READS IS OF BULK AT MOST 1048576: true; the input reads as it did. -/
def rxtreeShowsUptoRow : OpenClaim := { program := "ytljadkcojnlioaagreatdoor", sum := "9dbe80c1dd0961eb4dc405ccadf4ed9838dd860d24210c5843b7d7ef851dc43c", func := "weir/weirlaw08.RxtreeShows", spec := "rxtreeShows", inPlace := ["internal/bytealg.IndexByteString", "internal/bytealg.IndexString", "internal/abi.NoEscape"], unfollowed := true, recurses := true, named := ["internal/bytealg.MaxLen", "internal/strconv.uint64pow10", "math/bits.deBruijn32tab", "math/bits.deBruijn64tab"], loops := true, apart := false, laid := [("math/bits.deBruijn32tab", laid_math_bits_deBruijn32tab), ("math/bits.deBruijn64tab", laid_math_bits_deBruijn64tab), ("internal/strconv.uint64pow10", laid_internal_strconv_uint64pow10)], narrowed := true }
def RxtreeShowsUptoSaid : Prop := rxtreeShowsUptoRow.holds Tryz.pinned (OpenSpec.upto rxtreeShowsSpec)

/-- 'weirlaw08.RxtreeJoins', WHERE WHAT IT READS IS OF BULK AT MOST 1048576: true; the input reads as it did. -/
def rxtreeJoinsUptoRow : OpenClaim := { program := "ytljadkcojnlioaagreatdoor", sum := "9dbe80c1dd0961eb4dc405ccadf4ed9838dd860d24210c5843b7d7ef851dc43c", func := "weir/weirlaw08.RxtreeJoins", spec := "rxtreeJoins", inPlace := ["internal/bytealg.IndexByteString", "internal/bytealg.IndexString", "internal/abi.NoEscape"], unfollowed := true, recurses := true, named := ["internal/bytealg.MaxLen", "internal/strconv.uint64pow10", "math/bits.deBruijn32tab", "math/bits.deBruijn64tab"], apart := false, laid := [("math/bits.deBruijn32tab", laid_math_bits_deBruijn32tab), ("math/bits.deBruijn64tab", laid_math_bits_deBruijn64tab), ("internal/strconv.uint64pow10", laid_internal_strconv_uint64pow10)], narrowed := true }
def RxtreeJoinsUptoSaid : Prop := rxtreeJoinsUptoRow.holds Tryz.pinned (OpenSpec.upto rxtreeJoinsSpec)

/-- 'weirlaw08.RxtreeKeeps', WHERE WHAT IT READS IS OF BULK AT MOST 1048576: true; the input reads as it did. -/
def rxtreeKeepsUptoRow : OpenClaim := { program := "ytljadkcojnlioaagreatdoor", sum := "9dbe80c1dd0961eb4dc405ccadf4ed9838dd860d24210c5843b7d7ef851dc43c", func := "weir/weirlaw08.RxtreeKeeps", spec := "rxtreeKeeps", inPlace := ["internal/bytealg.IndexByteString", "internal/bytealg.IndexString", "internal/abi.NoEscape"], unfollowed := true, recurses := true, named := ["internal/bytealg.MaxLen", "internal/strconv.uint64pow10", "math/bits.deBruijn32tab", "math/bits.deBruijn64tab"], loops := true, apart := false, laid := [("math/bits.deBruijn32tab", laid_math_bits_deBruijn32tab), ("math/bits.deBruijn64tab", laid_math_bits_deBruijn64tab), ("internal/strconv.uint64pow10", laid_internal_strconv_uint64pow10)], narrowed := true }
def RxtreeKeepsUptoSaid : Prop := rxtreeKeepsUptoRow.holds Tryz.pinned (OpenSpec.upto rxtreeKeepsSpec)

end Rows
end Go.Proofs.YtljadkcojnlioaaGreatDoor
