/-
  No cell of these rows narrows 'for every input' (looked for: loops, veiled, ifaces, maps, wideKeys, modest, calm, conditions, laid).
  DERIVED. THE GIVEN ROWS OF THIS SEAT. 9 by the template 'for every input the law returns true; each argument reads behind the call as it read before'; 0 by the template 'total and deterministic' (their statements: YtoeonmdcoiemmaaTotals.lean).
  GIVEN WITH THE SEED: the statements are not yours to turn. If you find one false, say at which input.
  Laid BY PROGRAM, IN A SANDBOX (cutbox-rows.mjs): the forced cells as the released guide's own fill.sh prints them over the translation 3b8ce715ff163de4… (all of the seat's roots in one cut). By AI agents, Wed Nov 11 2026. No macro, syntax, notation, axiom, sorry.
-/
import Derived.Test.YtoeonmdcoiemmaaChecked
import GoSem.Claim
import GoSem.ClaimJoined
import GoSem.ClaimMapViews
import Derived.JoinedTies
import Derived.KernelRfl
namespace Go.Proofs.Ytoeonmdcoiemmaa
/- THE CELL 'sum', in the pinned program and in every row, IS THE sha256 OF THE DUMP (.gsa) THAT YtoeonmdcoiemmaaProg.lean LOADS. Nothing in Lean hashes anything: it is a label: what it is worth is what the hold of that sum in a sandbox is worth. -/
noncomputable def Try.pinned : Pinned := { name := "ytoeonmdcoiemmaa", sum := "3b8ce715ff163de4d3756ecc73bc310c693f1dc0bf05d56a0132631007380d9d", checked := Try.checked }
namespace Rows
def none {H : Type} : Left H := { results := [], args := [] }

/-- 'keelsonlaw03.HamChecks': WHATEVER THE INPUT: true; the input reads as it did. -/
def hamChecksSpec : ChangeSpec := { name := "hamChecks", fn := fun _ => fun
  | [d] => { results := [.lit (.bool true)], args := [d] }
  | _ => none }
def hamChecksRow : OpenClaim := { program := "ytoeonmdcoiemmaa", sum := "3b8ce715ff163de4d3756ecc73bc310c693f1dc0bf05d56a0132631007380d9d", func := "keelson/keelsonlaw03.HamChecks", spec := "hamChecks", apart := false }
def HamChecksSaid : Prop := hamChecksRow.holds Try.pinned (OpenSpec.ofChange hamChecksSpec)

/-- ITS FALSE NEIGHBOUR: 'it returns false'. Refute it at one input. -/
def hamChecksWrong : ChangeSpec := { name := "hamChecks", fn := fun _ => fun
  | [d] => { results := [.lit (.bool false)], args := [d] }
  | _ => none }
def HamChecksWrongFalsely : Prop := hamChecksRow.holds Try.pinned (OpenSpec.ofChange hamChecksWrong)

/-- 'keelsonlaw03.HamFixes': WHATEVER THE INPUT: true; the input reads as it did. -/
def hamFixesSpec : ChangeSpec := { name := "hamFixes", fn := fun _ => fun
  | [d1, d2] => { results := [.lit (.bool true)], args := [d1, d2] }
  | _ => none }
def hamFixesRow : OpenClaim := { program := "ytoeonmdcoiemmaa", sum := "3b8ce715ff163de4d3756ecc73bc310c693f1dc0bf05d56a0132631007380d9d", func := "keelson/keelsonlaw03.HamFixes", spec := "hamFixes", apart := false }
def HamFixesSaid : Prop := hamFixesRow.holds Try.pinned (OpenSpec.ofChange hamFixesSpec)

/-- ITS FALSE NEIGHBOUR: 'it returns false'. Refute it at one input. -/
def hamFixesWrong : ChangeSpec := { name := "hamFixes", fn := fun _ => fun
  | [d1, d2] => { results := [.lit (.bool false)], args := [d1, d2] }
  | _ => none }
def HamFixesWrongFalsely : Prop := hamFixesRow.holds Try.pinned (OpenSpec.ofChange hamFixesWrong)

/-- 'keelsonlaw03.HamMends': WHATEVER THE INPUT: true; the input reads as it did. -/
def hamMendsSpec : ChangeSpec := { name := "hamMends", fn := fun _ => fun
  | [d1, d2, d3] => { results := [.lit (.bool true)], args := [d1, d2, d3] }
  | _ => none }
def hamMendsRow : OpenClaim := { program := "ytoeonmdcoiemmaa", sum := "3b8ce715ff163de4d3756ecc73bc310c693f1dc0bf05d56a0132631007380d9d", func := "keelson/keelsonlaw03.HamMends", spec := "hamMends", apart := false }
def HamMendsSaid : Prop := hamMendsRow.holds Try.pinned (OpenSpec.ofChange hamMendsSpec)

/-- ITS FALSE NEIGHBOUR: 'it returns false'. Refute it at one input. -/
def hamMendsWrong : ChangeSpec := { name := "hamMends", fn := fun _ => fun
  | [d1, d2, d3] => { results := [.lit (.bool false)], args := [d1, d2, d3] }
  | _ => none }
def HamMendsWrongFalsely : Prop := hamMendsRow.holds Try.pinned (OpenSpec.ofChange hamMendsWrong)

/-- 'keelsonlaw03.HamAbove': WHATEVER THE INPUT: true; the input reads as it did. -/
def hamAboveSpec : ChangeSpec := { name := "hamAbove", fn := fun _ => fun
  | [d1, d2, d3] => { results := [.lit (.bool true)], args := [d1, d2, d3] }
  | _ => none }
def hamAboveRow : OpenClaim := { program := "ytoeonmdcoiemmaa", sum := "3b8ce715ff163de4d3756ecc73bc310c693f1dc0bf05d56a0132631007380d9d", func := "keelson/keelsonlaw03.HamAbove", spec := "hamAbove", apart := false }
def HamAboveSaid : Prop := hamAboveRow.holds Try.pinned (OpenSpec.ofChange hamAboveSpec)

/-- ITS FALSE NEIGHBOUR: 'it returns false'. Refute it at one input. -/
def hamAboveWrong : ChangeSpec := { name := "hamAbove", fn := fun _ => fun
  | [d1, d2, d3] => { results := [.lit (.bool false)], args := [d1, d2, d3] }
  | _ => none }
def HamAboveWrongFalsely : Prop := hamAboveRow.holds Try.pinned (OpenSpec.ofChange hamAboveWrong)

/-- 'keelsonlaw03.HamOdd': WHATEVER THE INPUT: true; the input reads as it did. -/
def hamOddSpec : ChangeSpec := { name := "hamOdd", fn := fun _ => fun
  | [d1, d2] => { results := [.lit (.bool true)], args := [d1, d2] }
  | _ => none }
def hamOddRow : OpenClaim := { program := "ytoeonmdcoiemmaa", sum := "3b8ce715ff163de4d3756ecc73bc310c693f1dc0bf05d56a0132631007380d9d", func := "keelson/keelsonlaw03.HamOdd", spec := "hamOdd", apart := false }
def HamOddSaid : Prop := hamOddRow.holds Try.pinned (OpenSpec.ofChange hamOddSpec)

/-- ITS FALSE NEIGHBOUR: 'it returns false'. Refute it at one input. -/
def hamOddWrong : ChangeSpec := { name := "hamOdd", fn := fun _ => fun
  | [d1, d2] => { results := [.lit (.bool false)], args := [d1, d2] }
  | _ => none }
def HamOddWrongFalsely : Prop := hamOddRow.holds Try.pinned (OpenSpec.ofChange hamOddWrong)

/-- 'keelsonlaw10.WearVictims': WHATEVER THE INPUT: true; the input reads as it did. -/
def wearVictimsSpec : ChangeSpec := { name := "wearVictims", fn := fun _ => fun
  | [d] => { results := [.lit (.bool true)], args := [d] }
  | _ => none }
def wearVictimsRow : OpenClaim := { program := "ytoeonmdcoiemmaa", sum := "3b8ce715ff163de4d3756ecc73bc310c693f1dc0bf05d56a0132631007380d9d", func := "keelson/keelsonlaw10.WearVictims", spec := "wearVictims", unfollowed := true, recurses := true, apart := false }
def WearVictimsSaid : Prop := wearVictimsRow.holds Try.pinned (OpenSpec.ofChange wearVictimsSpec)

/-- ITS FALSE NEIGHBOUR: 'it returns false'. Refute it at one input. -/
def wearVictimsWrong : ChangeSpec := { name := "wearVictims", fn := fun _ => fun
  | [d] => { results := [.lit (.bool false)], args := [d] }
  | _ => none }
def WearVictimsWrongFalsely : Prop := wearVictimsRow.holds Try.pinned (OpenSpec.ofChange wearVictimsWrong)

/-- 'keelsonlaw10.WearEven': WHATEVER THE INPUT: true; the input reads as it did. -/
def wearEvenSpec : ChangeSpec := { name := "wearEven", fn := fun _ => fun
  | [d1, d2] => { results := [.lit (.bool true)], args := [d1, d2] }
  | _ => none }
def wearEvenRow : OpenClaim := { program := "ytoeonmdcoiemmaa", sum := "3b8ce715ff163de4d3756ecc73bc310c693f1dc0bf05d56a0132631007380d9d", func := "keelson/keelsonlaw10.WearEven", spec := "wearEven", unfollowed := true, recurses := true, apart := false }
def WearEvenSaid : Prop := wearEvenRow.holds Try.pinned (OpenSpec.ofChange wearEvenSpec)

/-- ITS FALSE NEIGHBOUR: 'it returns false'. Refute it at one input. -/
def wearEvenWrong : ChangeSpec := { name := "wearEven", fn := fun _ => fun
  | [d1, d2] => { results := [.lit (.bool false)], args := [d1, d2] }
  | _ => none }
def WearEvenWrongFalsely : Prop := wearEvenRow.holds Try.pinned (OpenSpec.ofChange wearEvenWrong)

/-- 'keelsonlaw10.WearOrder': WHATEVER THE INPUT: true; the input reads as it did. -/
def wearOrderSpec : ChangeSpec := { name := "wearOrder", fn := fun _ => fun
  | [d1, d2] => { results := [.lit (.bool true)], args := [d1, d2] }
  | _ => none }
def wearOrderRow : OpenClaim := { program := "ytoeonmdcoiemmaa", sum := "3b8ce715ff163de4d3756ecc73bc310c693f1dc0bf05d56a0132631007380d9d", func := "keelson/keelsonlaw10.WearOrder", spec := "wearOrder", unfollowed := true, recurses := true, apart := false }
def WearOrderSaid : Prop := wearOrderRow.holds Try.pinned (OpenSpec.ofChange wearOrderSpec)

/-- ITS FALSE NEIGHBOUR: 'it returns false'. Refute it at one input. -/
def wearOrderWrong : ChangeSpec := { name := "wearOrder", fn := fun _ => fun
  | [d1, d2] => { results := [.lit (.bool false)], args := [d1, d2] }
  | _ => none }
def WearOrderWrongFalsely : Prop := wearOrderRow.holds Try.pinned (OpenSpec.ofChange wearOrderWrong)

/-- 'keelsonlaw10.WearRoom': WHATEVER THE INPUT: true; the input reads as it did. -/
def wearRoomSpec : ChangeSpec := { name := "wearRoom", fn := fun _ => fun
  | [d1, d2] => { results := [.lit (.bool true)], args := [d1, d2] }
  | _ => none }
def wearRoomRow : OpenClaim := { program := "ytoeonmdcoiemmaa", sum := "3b8ce715ff163de4d3756ecc73bc310c693f1dc0bf05d56a0132631007380d9d", func := "keelson/keelsonlaw10.WearRoom", spec := "wearRoom", unfollowed := true, recurses := true, apart := false }
def WearRoomSaid : Prop := wearRoomRow.holds Try.pinned (OpenSpec.ofChange wearRoomSpec)

/-- ITS FALSE NEIGHBOUR: 'it returns false'. Refute it at one input. -/
def wearRoomWrong : ChangeSpec := { name := "wearRoom", fn := fun _ => fun
  | [d1, d2] => { results := [.lit (.bool false)], args := [d1, d2] }
  | _ => none }
def WearRoomWrongFalsely : Prop := wearRoomRow.holds Try.pinned (OpenSpec.ofChange wearRoomWrong)

/- THE SECOND FORM. 'bulk': how many values and letters a reading holds, each counted each time it is reached (what is shared counts as often as it is met; a slice's spare places count too). A statement '..UptoSaid' is the law's where the arguments, and the package variables that the reading takes, are together of bulk at most 1048576: NARROWER than '..Said'. Prove '..Said' where nothing that the law and all that it calls make is longer than what came in: it says more and counts as full. Else prove '..UptoSaid'. A law counts once. -/
mutual
def uptoBulk {H : Type} : DataW H → Nat
  | .lit (.string bytes) => bytes.length + 1
  | .lit _ => 1
  | .nil => 1
  | .ptr d => uptoBulk d + 1
  | .slice elems spare => uptoBulkAll elems + uptoBulkAll spare + 1
  | .agg parts => uptoBulkAll parts + 1
  | .iface _ d => uptoBulk d + 1
  | .map entries => uptoBulkEntries entries + 1
  | .held _ => 1
def uptoBulkAll {H : Type} : List (DataW H) → Nat
  | [] => 0
  | d :: r => uptoBulk d + uptoBulkAll r
def uptoBulkEntries {H : Type} : List (Lit × DataW H) → Nat
  | [] => 0
  | x :: r => uptoBulkEntry x + uptoBulkEntries r
def uptoBulkEntry {H : Type} : Lit × DataW H → Nat
  | (.string bytes, d) => bytes.length + uptoBulk d + 1
  | (_, d) => uptoBulk d + 1
 end
def uptoSmall : (H : Type) → List (DataW H) → Bool := fun _ ds => decide (uptoBulkAll ds ≤ 1048576)
def OpenSpec.upto (s : _root_.Go.ChangeSpec) : _root_.Go.OpenSpec := { _root_.Go.OpenSpec.ofChange s with cond := some uptoSmall }

/-- 'keelsonlaw03.HamChecks', WHERE WHAT IT READS IS OF BULK AT MOST 1048576: true; the input reads as it did. -/
def hamChecksUptoRow : OpenClaim := { program := "ytoeonmdcoiemmaa", sum := "3b8ce715ff163de4d3756ecc73bc310c693f1dc0bf05d56a0132631007380d9d", func := "keelson/keelsonlaw03.HamChecks", spec := "hamChecks", apart := false, narrowed := true }
def HamChecksUptoSaid : Prop := hamChecksUptoRow.holds Try.pinned (OpenSpec.upto hamChecksSpec)

/-- 'keelsonlaw03.HamFixes', WHERE WHAT IT READS IS OF BULK AT MOST 1048576: true; the input reads as it did. -/
def hamFixesUptoRow : OpenClaim := { program := "ytoeonmdcoiemmaa", sum := "3b8ce715ff163de4d3756ecc73bc310c693f1dc0bf05d56a0132631007380d9d", func := "keelson/keelsonlaw03.HamFixes", spec := "hamFixes", apart := false, narrowed := true }
def HamFixesUptoSaid : Prop := hamFixesUptoRow.holds Try.pinned (OpenSpec.upto hamFixesSpec)

/-- 'keelsonlaw03.HamMends', WHERE WHAT IT READS IS OF BULK AT MOST 1048576: true; the input reads as it did. -/
def hamMendsUptoRow : OpenClaim := { program := "ytoeonmdcoiemmaa", sum := "3b8ce715ff163de4d3756ecc73bc310c693f1dc0bf05d56a0132631007380d9d", func := "keelson/keelsonlaw03.HamMends", spec := "hamMends", apart := false, narrowed := true }
def HamMendsUptoSaid : Prop := hamMendsUptoRow.holds Try.pinned (OpenSpec.upto hamMendsSpec)

/-- 'keelsonlaw03.HamAbove', WHERE WHAT IT READS IS OF BULK AT MOST 1048576: true; the input reads as it did. -/
def hamAboveUptoRow : OpenClaim := { program := "ytoeonmdcoiemmaa", sum := "3b8ce715ff163de4d3756ecc73bc310c693f1dc0bf05d56a0132631007380d9d", func := "keelson/keelsonlaw03.HamAbove", spec := "hamAbove", apart := false, narrowed := true }
def HamAboveUptoSaid : Prop := hamAboveUptoRow.holds Try.pinned (OpenSpec.upto hamAboveSpec)

/-- 'keelsonlaw03.HamOdd', WHERE WHAT IT READS IS OF BULK AT MOST 1048576: true; the input reads as it did. -/
def hamOddUptoRow : OpenClaim := { program := "ytoeonmdcoiemmaa", sum := "3b8ce715ff163de4d3756ecc73bc310c693f1dc0bf05d56a0132631007380d9d", func := "keelson/keelsonlaw03.HamOdd", spec := "hamOdd", apart := false, narrowed := true }
def HamOddUptoSaid : Prop := hamOddUptoRow.holds Try.pinned (OpenSpec.upto hamOddSpec)

/-- 'keelsonlaw10.WearVictims', WHERE WHAT IT READS IS OF BULK AT MOST 1048576: true; the input reads as it did. -/
def wearVictimsUptoRow : OpenClaim := { program := "ytoeonmdcoiemmaa", sum := "3b8ce715ff163de4d3756ecc73bc310c693f1dc0bf05d56a0132631007380d9d", func := "keelson/keelsonlaw10.WearVictims", spec := "wearVictims", unfollowed := true, recurses := true, apart := false, narrowed := true }
def WearVictimsUptoSaid : Prop := wearVictimsUptoRow.holds Try.pinned (OpenSpec.upto wearVictimsSpec)

/-- 'keelsonlaw10.WearEven', WHERE WHAT IT READS IS OF BULK AT MOST 1048576: true; the input reads as it did. -/
def wearEvenUptoRow : OpenClaim := { program := "ytoeonmdcoiemmaa", sum := "3b8ce715ff163de4d3756ecc73bc310c693f1dc0bf05d56a0132631007380d9d", func := "keelson/keelsonlaw10.WearEven", spec := "wearEven", unfollowed := true, recurses := true, apart := false, narrowed := true }
def WearEvenUptoSaid : Prop := wearEvenUptoRow.holds Try.pinned (OpenSpec.upto wearEvenSpec)

/-- 'keelsonlaw10.WearOrder', WHERE WHAT IT READS IS OF BULK AT MOST 1048576: true; the input reads as it did. -/
def wearOrderUptoRow : OpenClaim := { program := "ytoeonmdcoiemmaa", sum := "3b8ce715ff163de4d3756ecc73bc310c693f1dc0bf05d56a0132631007380d9d", func := "keelson/keelsonlaw10.WearOrder", spec := "wearOrder", unfollowed := true, recurses := true, apart := false, narrowed := true }
def WearOrderUptoSaid : Prop := wearOrderUptoRow.holds Try.pinned (OpenSpec.upto wearOrderSpec)

/-- 'keelsonlaw10.WearRoom', WHERE WHAT IT READS IS OF BULK AT MOST 1048576: true; the input reads as it did. -/
def wearRoomUptoRow : OpenClaim := { program := "ytoeonmdcoiemmaa", sum := "3b8ce715ff163de4d3756ecc73bc310c693f1dc0bf05d56a0132631007380d9d", func := "keelson/keelsonlaw10.WearRoom", spec := "wearRoom", unfollowed := true, recurses := true, apart := false, narrowed := true }
def WearRoomUptoSaid : Prop := wearRoomUptoRow.holds Try.pinned (OpenSpec.upto wearRoomSpec)

end Rows
end Go.Proofs.Ytoeonmdcoiemmaa
