/-
  No cell of these rows narrows 'for every input' (looked for: loops, veiled, ifaces, maps, wideKeys, modest, calm, conditions, laid).
  DERIVED. THE GIVEN ROWS OF THIS SEAT. 10 by the template 'for every input the law returns true; each argument reads behind the call as it read before'; 0 by the template 'total and deterministic' (their statements: YtljdfhckllncoaaTotals.lean).
  GIVEN WITH THE SEED: the statements are not yours to turn. If you find one false, say at which input.
  Laid BY PROGRAM, IN A SANDBOX (cutbox-rows.mjs): the forced cells as the released guide's own fill.sh prints them over the translation 2978050e6fdd42d2… (all of the seat's roots in one cut). By AI agents, Wed Nov 11 2026. No macro, syntax, notation, axiom, sorry.
-/
import Derived.Test.YtljdfhckllncoaaChecked
import GoSem.Claim
import GoSem.ClaimJoined
import GoSem.ClaimMapViews
import Derived.JoinedTies
import Derived.KernelRfl
namespace Go.Proofs.Ytljdfhckllncoaa
/- THE CELL 'sum', in the pinned program and in every row, IS THE sha256 OF THE DUMP (.gsa) THAT YtljdfhckllncoaaProg.lean LOADS. Nothing in Lean hashes anything: it is a label: what it is worth is what the hold of that sum in a sandbox is worth. -/
noncomputable def Try.pinned : Pinned := { name := "ytljdfhckllncoaa", sum := "2978050e6fdd42d2f2165c77b021dfcc7604fcedbc909f6e8e8498f569aef6f3", checked := Try.checked }
namespace Rows
def none {H : Type} : Left H := { results := [], args := [] }

/-- 'keelsonlaw05.FrameApart': WHATEVER THE INPUT: true; the input reads as it did. -/
def frameApartSpec : ChangeSpec := { name := "frameApart", fn := fun _ => fun
  | [d1, d2, d3] => { results := [.lit (.bool true)], args := [d1, d2, d3] }
  | _ => none }
def frameApartRow : OpenClaim := { program := "ytljdfhckllncoaa", sum := "2978050e6fdd42d2f2165c77b021dfcc7604fcedbc909f6e8e8498f569aef6f3", func := "keelson/keelsonlaw05.FrameApart", spec := "frameApart", inPlace := ["internal/bytealg.MakeNoZero"], apart := false }
def FrameApartSaid : Prop := frameApartRow.holds Try.pinned (OpenSpec.ofChange frameApartSpec)

/-- ITS FALSE NEIGHBOUR: 'it returns false'. Refute it at one input. -/
def frameApartWrong : ChangeSpec := { name := "frameApart", fn := fun _ => fun
  | [d1, d2, d3] => { results := [.lit (.bool false)], args := [d1, d2, d3] }
  | _ => none }
def FrameApartWrongFalsely : Prop := frameApartRow.holds Try.pinned (OpenSpec.ofChange frameApartWrong)

/-- 'keelsonlaw05.FrameWrites': WHATEVER THE INPUT: true; the input reads as it did. -/
def frameWritesSpec : ChangeSpec := { name := "frameWrites", fn := fun _ => fun
  | [d1, d2] => { results := [.lit (.bool true)], args := [d1, d2] }
  | _ => none }
def frameWritesRow : OpenClaim := { program := "ytljdfhckllncoaa", sum := "2978050e6fdd42d2f2165c77b021dfcc7604fcedbc909f6e8e8498f569aef6f3", func := "keelson/keelsonlaw05.FrameWrites", spec := "frameWrites", inPlace := ["internal/bytealg.MakeNoZero"], apart := false }
def FrameWritesSaid : Prop := frameWritesRow.holds Try.pinned (OpenSpec.ofChange frameWritesSpec)

/-- ITS FALSE NEIGHBOUR: 'it returns false'. Refute it at one input. -/
def frameWritesWrong : ChangeSpec := { name := "frameWrites", fn := fun _ => fun
  | [d1, d2] => { results := [.lit (.bool false)], args := [d1, d2] }
  | _ => none }
def FrameWritesWrongFalsely : Prop := frameWritesRow.holds Try.pinned (OpenSpec.ofChange frameWritesWrong)

/-- 'keelsonlaw05.FrameReads': WHATEVER THE INPUT: true; the input reads as it did. -/
def frameReadsSpec : ChangeSpec := { name := "frameReads", fn := fun _ => fun
  | [d] => { results := [.lit (.bool true)], args := [d] }
  | _ => none }
def frameReadsRow : OpenClaim := { program := "ytljdfhckllncoaa", sum := "2978050e6fdd42d2f2165c77b021dfcc7604fcedbc909f6e8e8498f569aef6f3", func := "keelson/keelsonlaw05.FrameReads", spec := "frameReads", inPlace := ["internal/bytealg.MakeNoZero"], apart := false }
def FrameReadsSaid : Prop := frameReadsRow.holds Try.pinned (OpenSpec.ofChange frameReadsSpec)

/-- ITS FALSE NEIGHBOUR: 'it returns false'. Refute it at one input. -/
def frameReadsWrong : ChangeSpec := { name := "frameReads", fn := fun _ => fun
  | [d] => { results := [.lit (.bool false)], args := [d] }
  | _ => none }
def FrameReadsWrongFalsely : Prop := frameReadsRow.holds Try.pinned (OpenSpec.ofChange frameReadsWrong)

/-- 'keelsonlaw05.FrameMends': WHATEVER THE INPUT: true; the input reads as it did. -/
def frameMendsSpec : ChangeSpec := { name := "frameMends", fn := fun _ => fun
  | [d1, d2, d3] => { results := [.lit (.bool true)], args := [d1, d2, d3] }
  | _ => none }
def frameMendsRow : OpenClaim := { program := "ytljdfhckllncoaa", sum := "2978050e6fdd42d2f2165c77b021dfcc7604fcedbc909f6e8e8498f569aef6f3", func := "keelson/keelsonlaw05.FrameMends", spec := "frameMends", inPlace := ["internal/bytealg.MakeNoZero"], apart := false }
def FrameMendsSaid : Prop := frameMendsRow.holds Try.pinned (OpenSpec.ofChange frameMendsSpec)

/-- ITS FALSE NEIGHBOUR: 'it returns false'. Refute it at one input. -/
def frameMendsWrong : ChangeSpec := { name := "frameMends", fn := fun _ => fun
  | [d1, d2, d3] => { results := [.lit (.bool false)], args := [d1, d2, d3] }
  | _ => none }
def FrameMendsWrongFalsely : Prop := frameMendsRow.holds Try.pinned (OpenSpec.ofChange frameMendsWrong)

/-- 'keelsonlaw05.FrameTorn': WHATEVER THE INPUT: true; the input reads as it did. -/
def frameTornSpec : ChangeSpec := { name := "frameTorn", fn := fun _ => fun
  | [d1, d2, d3] => { results := [.lit (.bool true)], args := [d1, d2, d3] }
  | _ => none }
def frameTornRow : OpenClaim := { program := "ytljdfhckllncoaa", sum := "2978050e6fdd42d2f2165c77b021dfcc7604fcedbc909f6e8e8498f569aef6f3", func := "keelson/keelsonlaw05.FrameTorn", spec := "frameTorn", inPlace := ["internal/bytealg.MakeNoZero"], apart := false }
def FrameTornSaid : Prop := frameTornRow.holds Try.pinned (OpenSpec.ofChange frameTornSpec)

/-- ITS FALSE NEIGHBOUR: 'it returns false'. Refute it at one input. -/
def frameTornWrong : ChangeSpec := { name := "frameTorn", fn := fun _ => fun
  | [d1, d2, d3] => { results := [.lit (.bool false)], args := [d1, d2, d3] }
  | _ => none }
def FrameTornWrongFalsely : Prop := frameTornRow.holds Try.pinned (OpenSpec.ofChange frameTornWrong)

/-- 'keelsonlaw09.NodeApart': WHATEVER THE INPUT: true; the input reads as it did. -/
def nodeApartSpec : ChangeSpec := { name := "nodeApart", fn := fun _ => fun
  | [d1, d2, d3, d4] => { results := [.lit (.bool true)], args := [d1, d2, d3, d4] }
  | _ => none }
def nodeApartRow : OpenClaim := { program := "ytljdfhckllncoaa", sum := "2978050e6fdd42d2f2165c77b021dfcc7604fcedbc909f6e8e8498f569aef6f3", func := "keelson/keelsonlaw09.NodeApart", spec := "nodeApart", inPlace := ["internal/bytealg.MakeNoZero"], apart := false }
def NodeApartSaid : Prop := nodeApartRow.holds Try.pinned (OpenSpec.ofChange nodeApartSpec)

/-- ITS FALSE NEIGHBOUR: 'it returns false'. Refute it at one input. -/
def nodeApartWrong : ChangeSpec := { name := "nodeApart", fn := fun _ => fun
  | [d1, d2, d3, d4] => { results := [.lit (.bool false)], args := [d1, d2, d3, d4] }
  | _ => none }
def NodeApartWrongFalsely : Prop := nodeApartRow.holds Try.pinned (OpenSpec.ofChange nodeApartWrong)

/-- 'keelsonlaw09.NodeLive': WHATEVER THE INPUT: true; the input reads as it did. -/
def nodeLiveSpec : ChangeSpec := { name := "nodeLive", fn := fun _ => fun
  | [d1, d2, d3] => { results := [.lit (.bool true)], args := [d1, d2, d3] }
  | _ => none }
def nodeLiveRow : OpenClaim := { program := "ytljdfhckllncoaa", sum := "2978050e6fdd42d2f2165c77b021dfcc7604fcedbc909f6e8e8498f569aef6f3", func := "keelson/keelsonlaw09.NodeLive", spec := "nodeLive", inPlace := ["internal/bytealg.MakeNoZero"], apart := false }
def NodeLiveSaid : Prop := nodeLiveRow.holds Try.pinned (OpenSpec.ofChange nodeLiveSpec)

/-- ITS FALSE NEIGHBOUR: 'it returns false'. Refute it at one input. -/
def nodeLiveWrong : ChangeSpec := { name := "nodeLive", fn := fun _ => fun
  | [d1, d2, d3] => { results := [.lit (.bool false)], args := [d1, d2, d3] }
  | _ => none }
def NodeLiveWrongFalsely : Prop := nodeLiveRow.holds Try.pinned (OpenSpec.ofChange nodeLiveWrong)

/-- 'keelsonlaw09.NodeWrites': WHATEVER THE INPUT: true; the input reads as it did. -/
def nodeWritesSpec : ChangeSpec := { name := "nodeWrites", fn := fun _ => fun
  | [d] => { results := [.lit (.bool true)], args := [d] }
  | _ => none }
def nodeWritesRow : OpenClaim := { program := "ytljdfhckllncoaa", sum := "2978050e6fdd42d2f2165c77b021dfcc7604fcedbc909f6e8e8498f569aef6f3", func := "keelson/keelsonlaw09.NodeWrites", spec := "nodeWrites", inPlace := ["internal/bytealg.MakeNoZero"], apart := false }
def NodeWritesSaid : Prop := nodeWritesRow.holds Try.pinned (OpenSpec.ofChange nodeWritesSpec)

/-- ITS FALSE NEIGHBOUR: 'it returns false'. Refute it at one input. -/
def nodeWritesWrong : ChangeSpec := { name := "nodeWrites", fn := fun _ => fun
  | [d] => { results := [.lit (.bool false)], args := [d] }
  | _ => none }
def NodeWritesWrongFalsely : Prop := nodeWritesRow.holds Try.pinned (OpenSpec.ofChange nodeWritesWrong)

/-- 'keelsonlaw09.NodeReads': WHATEVER THE INPUT: true; the input reads as it did. -/
def nodeReadsSpec : ChangeSpec := { name := "nodeReads", fn := fun _ => fun
  | [d] => { results := [.lit (.bool true)], args := [d] }
  | _ => none }
def nodeReadsRow : OpenClaim := { program := "ytljdfhckllncoaa", sum := "2978050e6fdd42d2f2165c77b021dfcc7604fcedbc909f6e8e8498f569aef6f3", func := "keelson/keelsonlaw09.NodeReads", spec := "nodeReads", inPlace := ["internal/bytealg.MakeNoZero"], apart := false }
def NodeReadsSaid : Prop := nodeReadsRow.holds Try.pinned (OpenSpec.ofChange nodeReadsSpec)

/-- ITS FALSE NEIGHBOUR: 'it returns false'. Refute it at one input. -/
def nodeReadsWrong : ChangeSpec := { name := "nodeReads", fn := fun _ => fun
  | [d] => { results := [.lit (.bool false)], args := [d] }
  | _ => none }
def NodeReadsWrongFalsely : Prop := nodeReadsRow.holds Try.pinned (OpenSpec.ofChange nodeReadsWrong)

/-- 'keelsonlaw09.NodeCommits': WHATEVER THE INPUT: true; the input reads as it did. -/
def nodeCommitsSpec : ChangeSpec := { name := "nodeCommits", fn := fun _ => fun
  | [d1, d2] => { results := [.lit (.bool true)], args := [d1, d2] }
  | _ => none }
def nodeCommitsRow : OpenClaim := { program := "ytljdfhckllncoaa", sum := "2978050e6fdd42d2f2165c77b021dfcc7604fcedbc909f6e8e8498f569aef6f3", func := "keelson/keelsonlaw09.NodeCommits", spec := "nodeCommits", inPlace := ["internal/bytealg.MakeNoZero"], apart := false }
def NodeCommitsSaid : Prop := nodeCommitsRow.holds Try.pinned (OpenSpec.ofChange nodeCommitsSpec)

/-- ITS FALSE NEIGHBOUR: 'it returns false'. Refute it at one input. -/
def nodeCommitsWrong : ChangeSpec := { name := "nodeCommits", fn := fun _ => fun
  | [d1, d2] => { results := [.lit (.bool false)], args := [d1, d2] }
  | _ => none }
def NodeCommitsWrongFalsely : Prop := nodeCommitsRow.holds Try.pinned (OpenSpec.ofChange nodeCommitsWrong)

/- THE SECOND FORM. 'bulk': how many values and letters a reading holds, each counted each time it is reached (what is shared counts as often as it is met; a slice's spare places count too). A statement '..UptoSaid' is the law's where the arguments, and the package variables that the reading takes, are together of bulk at most 1048576: NARROWER than '..Said'. Prove '..Said' where nothing that the law and all that it calls make is longer than what came in: it says more and counts as full. Else prove '..UptoSaid'. A law counts once. -/
mutual
def uptoBulk {H : Type} : DataW H → Nat
  | .lit (.string bytes) => bytes.length + 1
  | .lit _ => 1
  | .nil => 1
  | .ptr d => uptoBulk d + 1
  | .slice elems spare => uptoBulkAll elems + uptoBulkAll spare + 1
  | .agg parts => uptoBulkAll parts + 1
  | .iface _ d => uptoBulk d + 1
  | .map entries => uptoBulkEntries entries + 1
  | .held _ => 1
def uptoBulkAll {H : Type} : List (DataW H) → Nat
  | [] => 0
  | d :: r => uptoBulk d + uptoBulkAll r
def uptoBulkEntries {H : Type} : List (Lit × DataW H) → Nat
  | [] => 0
  | x :: r => uptoBulkEntry x + uptoBulkEntries r
def uptoBulkEntry {H : Type} : Lit × DataW H → Nat
  | (.string bytes, d) => bytes.length + uptoBulk d + 1
  | (_, d) => uptoBulk d + 1
 end
def uptoSmall : (H : Type) → List (DataW H) → Bool := fun _ ds => decide (uptoBulkAll ds ≤ 1048576)
def OpenSpec.upto (s : _root_.Go.ChangeSpec) : _root_.Go.OpenSpec := { _root_.Go.OpenSpec.ofChange s with cond := some uptoSmall }

/-- 'keelsonlaw05.FrameApart', WHERE WHAT IT READS IS OF BULK AT MOST 1048576: true; the input reads as it did. -/
def frameApartUptoRow : OpenClaim := { program := "ytljdfhckllncoaa", sum := "2978050e6fdd42d2f2165c77b021dfcc7604fcedbc909f6e8e8498f569aef6f3", func := "keelson/keelsonlaw05.FrameApart", spec := "frameApart", inPlace := ["internal/bytealg.MakeNoZero"], apart := false, narrowed := true }
def FrameApartUptoSaid : Prop := frameApartUptoRow.holds Try.pinned (OpenSpec.upto frameApartSpec)

/-- 'keelsonlaw05.FrameWrites', WHERE WHAT IT READS IS OF BULK AT MOST 1048576: true; the input reads as it did. -/
def frameWritesUptoRow : OpenClaim := { program := "ytljdfhckllncoaa", sum := "2978050e6fdd42d2f2165c77b021dfcc7604fcedbc909f6e8e8498f569aef6f3", func := "keelson/keelsonlaw05.FrameWrites", spec := "frameWrites", inPlace := ["internal/bytealg.MakeNoZero"], apart := false, narrowed := true }
def FrameWritesUptoSaid : Prop := frameWritesUptoRow.holds Try.pinned (OpenSpec.upto frameWritesSpec)

/-- 'keelsonlaw05.FrameReads', WHERE WHAT IT READS IS OF BULK AT MOST 1048576: true; the input reads as it did. -/
def frameReadsUptoRow : OpenClaim := { program := "ytljdfhckllncoaa", sum := "2978050e6fdd42d2f2165c77b021dfcc7604fcedbc909f6e8e8498f569aef6f3", func := "keelson/keelsonlaw05.FrameReads", spec := "frameReads", inPlace := ["internal/bytealg.MakeNoZero"], apart := false, narrowed := true }
def FrameReadsUptoSaid : Prop := frameReadsUptoRow.holds Try.pinned (OpenSpec.upto frameReadsSpec)

/-- 'keelsonlaw05.FrameMends', WHERE WHAT IT READS IS OF BULK AT MOST 1048576: true; the input reads as it did. -/
def frameMendsUptoRow : OpenClaim := { program := "ytljdfhckllncoaa", sum := "2978050e6fdd42d2f2165c77b021dfcc7604fcedbc909f6e8e8498f569aef6f3", func := "keelson/keelsonlaw05.FrameMends", spec := "frameMends", inPlace := ["internal/bytealg.MakeNoZero"], apart := false, narrowed := true }
def FrameMendsUptoSaid : Prop := frameMendsUptoRow.holds Try.pinned (OpenSpec.upto frameMendsSpec)

/-- 'keelsonlaw05.FrameTorn', WHERE WHAT IT READS IS OF BULK AT MOST 1048576: true; the input reads as it did. -/
def frameTornUptoRow : OpenClaim := { program := "ytljdfhckllncoaa", sum := "2978050e6fdd42d2f2165c77b021dfcc7604fcedbc909f6e8e8498f569aef6f3", func := "keelson/keelsonlaw05.FrameTorn", spec := "frameTorn", inPlace := ["internal/bytealg.MakeNoZero"], apart := false, narrowed := true }
def FrameTornUptoSaid : Prop := frameTornUptoRow.holds Try.pinned (OpenSpec.upto frameTornSpec)

/-- 'keelsonlaw09.NodeApart', WHERE WHAT IT READS IS OF BULK AT MOST 1048576: true; the input reads as it did. -/
def nodeApartUptoRow : OpenClaim := { program := "ytljdfhckllncoaa", sum := "2978050e6fdd42d2f2165c77b021dfcc7604fcedbc909f6e8e8498f569aef6f3", func := "keelson/keelsonlaw09.NodeApart", spec := "nodeApart", inPlace := ["internal/bytealg.MakeNoZero"], apart := false, narrowed := true }
def NodeApartUptoSaid : Prop := nodeApartUptoRow.holds Try.pinned (OpenSpec.upto nodeApartSpec)

/-- 'keelsonlaw09.NodeLive', WHERE WHAT IT READS IS OF BULK AT MOST 1048576: true; the input reads as it did. -/
def nodeLiveUptoRow : OpenClaim := { program := "ytljdfhckllncoaa", sum := "2978050e6fdd42d2f2165c77b021dfcc7604fcedbc909f6e8e8498f569aef6f3", func := "keelson/keelsonlaw09.NodeLive", spec := "nodeLive", inPlace := ["internal/bytealg.MakeNoZero"], apart := false, narrowed := true }
def NodeLiveUptoSaid : Prop := nodeLiveUptoRow.holds Try.pinned (OpenSpec.upto nodeLiveSpec)

/-- 'keelsonlaw09.NodeWrites', WHERE WHAT IT READS IS OF BULK AT MOST 1048576: true; the input reads as it did. -/
def nodeWritesUptoRow : OpenClaim := { program := "ytljdfhckllncoaa", sum := "2978050e6fdd42d2f2165c77b021dfcc7604fcedbc909f6e8e8498f569aef6f3", func := "keelson/keelsonlaw09.NodeWrites", spec := "nodeWrites", inPlace := ["internal/bytealg.MakeNoZero"], apart := false, narrowed := true }
def NodeWritesUptoSaid : Prop := nodeWritesUptoRow.holds Try.pinned (OpenSpec.upto nodeWritesSpec)

/-- 'keelsonlaw09.NodeReads', WHERE WHAT IT READS IS OF BULK AT MOST 1048576: true; the input reads as it did. -/
def nodeReadsUptoRow : OpenClaim := { program := "ytljdfhckllncoaa", sum := "2978050e6fdd42d2f2165c77b021dfcc7604fcedbc909f6e8e8498f569aef6f3", func := "keelson/keelsonlaw09.NodeReads", spec := "nodeReads", inPlace := ["internal/bytealg.MakeNoZero"], apart := false, narrowed := true }
def NodeReadsUptoSaid : Prop := nodeReadsUptoRow.holds Try.pinned (OpenSpec.upto nodeReadsSpec)

/-- 'keelsonlaw09.NodeCommits', WHERE WHAT IT READS IS OF BULK AT MOST 1048576: true; the input reads as it did. -/
def nodeCommitsUptoRow : OpenClaim := { program := "ytljdfhckllncoaa", sum := "2978050e6fdd42d2f2165c77b021dfcc7604fcedbc909f6e8e8498f569aef6f3", func := "keelson/keelsonlaw09.NodeCommits", spec := "nodeCommits", inPlace := ["internal/bytealg.MakeNoZero"], apart := false, narrowed := true }
def NodeCommitsUptoSaid : Prop := nodeCommitsUptoRow.holds Try.pinned (OpenSpec.upto nodeCommitsSpec)

end Rows
end Go.Proofs.Ytljdfhckllncoaa
