/-
  No cell of these rows narrows 'for every input' (looked for: loops, veiled, ifaces, maps, wideKeys, modest, calm, conditions, laid).
  DERIVED. THE GIVEN ROWS OF THIS SEAT. 9 by the template 'for every input the law returns true; each argument reads behind the call as it read before'; 0 by the template 'total and deterministic' (their statements: YtdkamjbcpmlheaaTotals.lean).
  GIVEN WITH THE SEED: the statements are not yours to turn. If you find one false, say at which input.
  Laid BY PROGRAM, IN A SANDBOX (cutbox-rows.mjs): the forced cells as the released guide's own fill.sh prints them over the translation c7746d938645af46… (all of the seat's roots in one cut). By AI agents, Wed Nov 11 2026. No macro, syntax, notation, axiom, sorry.
-/
import Derived.Test.YtdkamjbcpmlheaaChecked
import GoSem.Claim
import GoSem.ClaimJoined
import GoSem.ClaimMapViews
import Derived.JoinedTies
import Derived.KernelRfl
namespace Go.Proofs.Ytdkamjbcpmlheaa
/- THE CELL 'sum', in the pinned program and in every row, IS THE sha256 OF THE DUMP (.gsa) THAT YtdkamjbcpmlheaaProg.lean LOADS. Nothing in Lean hashes anything: it is a label: what it is worth is what the hold of that sum in a sandbox is worth. -/
noncomputable def Try.pinned : Pinned := { name := "ytdkamjbcpmlheaa", sum := "c7746d938645af46afb81d4baf9ef0971451dcbc8006b6112cd32b36f702c890", checked := Try.checked }
namespace Rows
def none {H : Type} : Left H := { results := [], args := [] }

/-- 'gimballaw01.LongReads': WHATEVER THE INPUT: true; the input reads as it did. -/
def longReadsSpec : ChangeSpec := { name := "longReads", fn := fun _ => fun
  | [d] => { results := [.lit (.bool true)], args := [d] }
  | _ => none }
def longReadsRow : OpenClaim := { program := "ytdkamjbcpmlheaa", sum := "c7746d938645af46afb81d4baf9ef0971451dcbc8006b6112cd32b36f702c890", func := "gimbal/gimballaw01.LongReads", spec := "longReads", apart := false }
def LongReadsSaid : Prop := longReadsRow.holds Try.pinned (OpenSpec.ofChange longReadsSpec)

/-- ITS FALSE NEIGHBOUR: 'it returns false'. Refute it at one input. -/
def longReadsWrong : ChangeSpec := { name := "longReads", fn := fun _ => fun
  | [d] => { results := [.lit (.bool false)], args := [d] }
  | _ => none }
def LongReadsWrongFalsely : Prop := longReadsRow.holds Try.pinned (OpenSpec.ofChange longReadsWrong)

/-- 'gimballaw01.LongReckons': WHATEVER THE INPUT: true; the input reads as it did. -/
def longReckonsSpec : ChangeSpec := { name := "longReckons", fn := fun _ => fun
  | [d1, d2] => { results := [.lit (.bool true)], args := [d1, d2] }
  | _ => none }
def longReckonsRow : OpenClaim := { program := "ytdkamjbcpmlheaa", sum := "c7746d938645af46afb81d4baf9ef0971451dcbc8006b6112cd32b36f702c890", func := "gimbal/gimballaw01.LongReckons", spec := "longReckons", apart := false }
def LongReckonsSaid : Prop := longReckonsRow.holds Try.pinned (OpenSpec.ofChange longReckonsSpec)

/-- ITS FALSE NEIGHBOUR: 'it returns false'. Refute it at one input. -/
def longReckonsWrong : ChangeSpec := { name := "longReckons", fn := fun _ => fun
  | [d1, d2] => { results := [.lit (.bool false)], args := [d1, d2] }
  | _ => none }
def LongReckonsWrongFalsely : Prop := longReckonsRow.holds Try.pinned (OpenSpec.ofChange longReckonsWrong)

/-- 'gimballaw01.LongParts': WHATEVER THE INPUT: true; the input reads as it did. -/
def longPartsSpec : ChangeSpec := { name := "longParts", fn := fun _ => fun
  | [d1, d2] => { results := [.lit (.bool true)], args := [d1, d2] }
  | _ => none }
def longPartsRow : OpenClaim := { program := "ytdkamjbcpmlheaa", sum := "c7746d938645af46afb81d4baf9ef0971451dcbc8006b6112cd32b36f702c890", func := "gimbal/gimballaw01.LongParts", spec := "longParts", apart := false }
def LongPartsSaid : Prop := longPartsRow.holds Try.pinned (OpenSpec.ofChange longPartsSpec)

/-- ITS FALSE NEIGHBOUR: 'it returns false'. Refute it at one input. -/
def longPartsWrong : ChangeSpec := { name := "longParts", fn := fun _ => fun
  | [d1, d2] => { results := [.lit (.bool false)], args := [d1, d2] }
  | _ => none }
def LongPartsWrongFalsely : Prop := longPartsRow.holds Try.pinned (OpenSpec.ofChange longPartsWrong)

/-- 'gimballaw01.LongRing': WHATEVER THE INPUT: true; the input reads as it did. -/
def longRingSpec : ChangeSpec := { name := "longRing", fn := fun _ => fun
  | [d1, d2, d3] => { results := [.lit (.bool true)], args := [d1, d2, d3] }
  | _ => none }
def longRingRow : OpenClaim := { program := "ytdkamjbcpmlheaa", sum := "c7746d938645af46afb81d4baf9ef0971451dcbc8006b6112cd32b36f702c890", func := "gimbal/gimballaw01.LongRing", spec := "longRing", apart := false }
def LongRingSaid : Prop := longRingRow.holds Try.pinned (OpenSpec.ofChange longRingSpec)

/-- ITS FALSE NEIGHBOUR: 'it returns false'. Refute it at one input. -/
def longRingWrong : ChangeSpec := { name := "longRing", fn := fun _ => fun
  | [d1, d2, d3] => { results := [.lit (.bool false)], args := [d1, d2, d3] }
  | _ => none }
def LongRingWrongFalsely : Prop := longRingRow.holds Try.pinned (OpenSpec.ofChange longRingWrong)

/-- 'gimballaw01.LongDivides': WHATEVER THE INPUT: true; the input reads as it did. -/
def longDividesSpec : ChangeSpec := { name := "longDivides", fn := fun _ => fun
  | [d1, d2] => { results := [.lit (.bool true)], args := [d1, d2] }
  | _ => none }
def longDividesRow : OpenClaim := { program := "ytdkamjbcpmlheaa", sum := "c7746d938645af46afb81d4baf9ef0971451dcbc8006b6112cd32b36f702c890", func := "gimbal/gimballaw01.LongDivides", spec := "longDivides", apart := false }
def LongDividesSaid : Prop := longDividesRow.holds Try.pinned (OpenSpec.ofChange longDividesSpec)

/-- ITS FALSE NEIGHBOUR: 'it returns false'. Refute it at one input. -/
def longDividesWrong : ChangeSpec := { name := "longDivides", fn := fun _ => fun
  | [d1, d2] => { results := [.lit (.bool false)], args := [d1, d2] }
  | _ => none }
def LongDividesWrongFalsely : Prop := longDividesRow.holds Try.pinned (OpenSpec.ofChange longDividesWrong)

/-- 'gimballaw01.LongRoots': WHATEVER THE INPUT: true; the input reads as it did. -/
def longRootsSpec : ChangeSpec := { name := "longRoots", fn := fun _ => fun
  | [d] => { results := [.lit (.bool true)], args := [d] }
  | _ => none }
def longRootsRow : OpenClaim := { program := "ytdkamjbcpmlheaa", sum := "c7746d938645af46afb81d4baf9ef0971451dcbc8006b6112cd32b36f702c890", func := "gimbal/gimballaw01.LongRoots", spec := "longRoots", apart := false }
def LongRootsSaid : Prop := longRootsRow.holds Try.pinned (OpenSpec.ofChange longRootsSpec)

/-- ITS FALSE NEIGHBOUR: 'it returns false'. Refute it at one input. -/
def longRootsWrong : ChangeSpec := { name := "longRoots", fn := fun _ => fun
  | [d] => { results := [.lit (.bool false)], args := [d] }
  | _ => none }
def LongRootsWrongFalsely : Prop := longRootsRow.holds Try.pinned (OpenSpec.ofChange longRootsWrong)

/-- 'gimballaw01.LongOrder': WHATEVER THE INPUT: true; the input reads as it did. -/
def longOrderSpec : ChangeSpec := { name := "longOrder", fn := fun _ => fun
  | [d1, d2, d3] => { results := [.lit (.bool true)], args := [d1, d2, d3] }
  | _ => none }
def longOrderRow : OpenClaim := { program := "ytdkamjbcpmlheaa", sum := "c7746d938645af46afb81d4baf9ef0971451dcbc8006b6112cd32b36f702c890", func := "gimbal/gimballaw01.LongOrder", spec := "longOrder", apart := false }
def LongOrderSaid : Prop := longOrderRow.holds Try.pinned (OpenSpec.ofChange longOrderSpec)

/-- ITS FALSE NEIGHBOUR: 'it returns false'. Refute it at one input. -/
def longOrderWrong : ChangeSpec := { name := "longOrder", fn := fun _ => fun
  | [d1, d2, d3] => { results := [.lit (.bool false)], args := [d1, d2, d3] }
  | _ => none }
def LongOrderWrongFalsely : Prop := longOrderRow.holds Try.pinned (OpenSpec.ofChange longOrderWrong)

/-- 'gimballaw01.LongTells': WHATEVER THE INPUT: true; the input reads as it did. -/
def longTellsSpec : ChangeSpec := { name := "longTells", fn := fun _ => fun
  | [d] => { results := [.lit (.bool true)], args := [d] }
  | _ => none }
def longTellsRow : OpenClaim := { program := "ytdkamjbcpmlheaa", sum := "c7746d938645af46afb81d4baf9ef0971451dcbc8006b6112cd32b36f702c890", func := "gimbal/gimballaw01.LongTells", spec := "longTells", apart := false }
def LongTellsSaid : Prop := longTellsRow.holds Try.pinned (OpenSpec.ofChange longTellsSpec)

/-- ITS FALSE NEIGHBOUR: 'it returns false'. Refute it at one input. -/
def longTellsWrong : ChangeSpec := { name := "longTells", fn := fun _ => fun
  | [d] => { results := [.lit (.bool false)], args := [d] }
  | _ => none }
def LongTellsWrongFalsely : Prop := longTellsRow.holds Try.pinned (OpenSpec.ofChange longTellsWrong)

/-- 'gimballaw01.LongSmall': WHATEVER THE INPUT: true; the input reads as it did. -/
def longSmallSpec : ChangeSpec := { name := "longSmall", fn := fun _ => fun
  | [d1, d2] => { results := [.lit (.bool true)], args := [d1, d2] }
  | _ => none }
def longSmallRow : OpenClaim := { program := "ytdkamjbcpmlheaa", sum := "c7746d938645af46afb81d4baf9ef0971451dcbc8006b6112cd32b36f702c890", func := "gimbal/gimballaw01.LongSmall", spec := "longSmall", apart := false }
def LongSmallSaid : Prop := longSmallRow.holds Try.pinned (OpenSpec.ofChange longSmallSpec)

/-- ITS FALSE NEIGHBOUR: 'it returns false'. Refute it at one input. -/
def longSmallWrong : ChangeSpec := { name := "longSmall", fn := fun _ => fun
  | [d1, d2] => { results := [.lit (.bool false)], args := [d1, d2] }
  | _ => none }
def LongSmallWrongFalsely : Prop := longSmallRow.holds Try.pinned (OpenSpec.ofChange longSmallWrong)

/- THE SECOND FORM. 'bulk': how many values and letters a reading holds, each counted each time it is reached (what is shared counts as often as it is met; a slice's spare places count too). A statement '..UptoSaid' is the law's where the arguments, and the package variables that the reading takes, are together of bulk at most 1048576: NARROWER than '..Said'. Prove '..Said' where nothing that the law and all that it calls make is longer than what came in: it says more and counts as full. Else prove '..UptoSaid'. A law counts once. -/
mutual
def uptoBulk {H : Type} : DataW H → Nat
  | .lit (.string bytes) => bytes.length + 1
  | .lit _ => 1
  | .nil => 1
  | .ptr d => uptoBulk d + 1
  | .slice elems spare => uptoBulkAll elems + uptoBulkAll spare + 1
  | .agg parts => uptoBulkAll parts + 1
  | .iface _ d => uptoBulk d + 1
  | .map entries => uptoBulkEntries entries + 1
  | .held _ => 1
def uptoBulkAll {H : Type} : List (DataW H) → Nat
  | [] => 0
  | d :: r => uptoBulk d + uptoBulkAll r
def uptoBulkEntries {H : Type} : List (Lit × DataW H) → Nat
  | [] => 0
  | x :: r => uptoBulkEntry x + uptoBulkEntries r
def uptoBulkEntry {H : Type} : Lit × DataW H → Nat
  | (.string bytes, d) => bytes.length + uptoBulk d + 1
  | (_, d) => uptoBulk d + 1
 end
def uptoSmall : (H : Type) → List (DataW H) → Bool := fun _ ds => decide (uptoBulkAll ds ≤ 1048576)
def OpenSpec.upto (s : _root_.Go.ChangeSpec) : _root_.Go.OpenSpec := { _root_.Go.OpenSpec.ofChange s with cond := some uptoSmall }

/-- 'gimballaw01.LongReads', WHERE WHAT IT READS IS OF BULK AT MOST 1048576: true; the input reads as it did. -/
def longReadsUptoRow : OpenClaim := { program := "ytdkamjbcpmlheaa", sum := "c7746d938645af46afb81d4baf9ef0971451dcbc8006b6112cd32b36f702c890", func := "gimbal/gimballaw01.LongReads", spec := "longReads", apart := false, narrowed := true }
def LongReadsUptoSaid : Prop := longReadsUptoRow.holds Try.pinned (OpenSpec.upto longReadsSpec)

/-- 'gimballaw01.LongReckons', WHERE WHAT IT READS IS OF BULK AT MOST 1048576: true; the input reads as it did. -/
def longReckonsUptoRow : OpenClaim := { program := "ytdkamjbcpmlheaa", sum := "c7746d938645af46afb81d4baf9ef0971451dcbc8006b6112cd32b36f702c890", func := "gimbal/gimballaw01.LongReckons", spec := "longReckons", apart := false, narrowed := true }
def LongReckonsUptoSaid : Prop := longReckonsUptoRow.holds Try.pinned (OpenSpec.upto longReckonsSpec)

/-- 'gimballaw01.LongParts', WHERE WHAT IT READS IS OF BULK AT MOST 1048576: true; the input reads as it did. -/
def longPartsUptoRow : OpenClaim := { program := "ytdkamjbcpmlheaa", sum := "c7746d938645af46afb81d4baf9ef0971451dcbc8006b6112cd32b36f702c890", func := "gimbal/gimballaw01.LongParts", spec := "longParts", apart := false, narrowed := true }
def LongPartsUptoSaid : Prop := longPartsUptoRow.holds Try.pinned (OpenSpec.upto longPartsSpec)

/-- 'gimballaw01.LongRing', WHERE WHAT IT READS IS OF BULK AT MOST 1048576: true; the input reads as it did. -/
def longRingUptoRow : OpenClaim := { program := "ytdkamjbcpmlheaa", sum := "c7746d938645af46afb81d4baf9ef0971451dcbc8006b6112cd32b36f702c890", func := "gimbal/gimballaw01.LongRing", spec := "longRing", apart := false, narrowed := true }
def LongRingUptoSaid : Prop := longRingUptoRow.holds Try.pinned (OpenSpec.upto longRingSpec)

/-- 'gimballaw01.LongDivides', WHERE WHAT IT READS IS OF BULK AT MOST 1048576: true; the input reads as it did. -/
def longDividesUptoRow : OpenClaim := { program := "ytdkamjbcpmlheaa", sum := "c7746d938645af46afb81d4baf9ef0971451dcbc8006b6112cd32b36f702c890", func := "gimbal/gimballaw01.LongDivides", spec := "longDivides", apart := false, narrowed := true }
def LongDividesUptoSaid : Prop := longDividesUptoRow.holds Try.pinned (OpenSpec.upto longDividesSpec)

/-- 'gimballaw01.LongRoots', WHERE WHAT IT READS IS OF BULK AT MOST 1048576: true; the input reads as it did. -/
def longRootsUptoRow : OpenClaim := { program := "ytdkamjbcpmlheaa", sum := "c7746d938645af46afb81d4baf9ef0971451dcbc8006b6112cd32b36f702c890", func := "gimbal/gimballaw01.LongRoots", spec := "longRoots", apart := false, narrowed := true }
def LongRootsUptoSaid : Prop := longRootsUptoRow.holds Try.pinned (OpenSpec.upto longRootsSpec)

/-- 'gimballaw01.LongOrder', WHERE WHAT IT READS IS OF BULK AT MOST 1048576: true; the input reads as it did. -/
def longOrderUptoRow : OpenClaim := { program := "ytdkamjbcpmlheaa", sum := "c7746d938645af46afb81d4baf9ef0971451dcbc8006b6112cd32b36f702c890", func := "gimbal/gimballaw01.LongOrder", spec := "longOrder", apart := false, narrowed := true }
def LongOrderUptoSaid : Prop := longOrderUptoRow.holds Try.pinned (OpenSpec.upto longOrderSpec)

/-- 'gimballaw01.LongTells', WHERE WHAT IT READS IS OF BULK AT MOST 1048576: true; the input reads as it did. -/
def longTellsUptoRow : OpenClaim := { program := "ytdkamjbcpmlheaa", sum := "c7746d938645af46afb81d4baf9ef0971451dcbc8006b6112cd32b36f702c890", func := "gimbal/gimballaw01.LongTells", spec := "longTells", apart := false, narrowed := true }
def LongTellsUptoSaid : Prop := longTellsUptoRow.holds Try.pinned (OpenSpec.upto longTellsSpec)

/-- 'gimballaw01.LongSmall', WHERE WHAT IT READS IS OF BULK AT MOST 1048576: true; the input reads as it did. -/
def longSmallUptoRow : OpenClaim := { program := "ytdkamjbcpmlheaa", sum := "c7746d938645af46afb81d4baf9ef0971451dcbc8006b6112cd32b36f702c890", func := "gimbal/gimballaw01.LongSmall", spec := "longSmall", apart := false, narrowed := true }
def LongSmallUptoSaid : Prop := longSmallUptoRow.holds Try.pinned (OpenSpec.upto longSmallSpec)

end Rows
end Go.Proofs.Ytdkamjbcpmlheaa
