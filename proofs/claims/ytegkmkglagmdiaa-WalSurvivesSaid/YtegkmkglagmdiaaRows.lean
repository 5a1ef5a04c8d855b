/-
  No cell of these rows narrows 'for every input' (looked for: loops, veiled, ifaces, maps, wideKeys, modest, calm, conditions, laid).
  DERIVED. THE GIVEN ROWS OF THIS SEAT. 11 by the template 'for every input the law returns true; each argument reads behind the call as it read before'; 0 by the template 'total and deterministic' (their statements: YtegkmkglagmdiaaTotals.lean).
  GIVEN WITH THE SEED: the statements are not yours to turn. If you find one false, say at which input.
  Laid BY PROGRAM, IN A SANDBOX (cutbox-rows.mjs): the forced cells as the released guide's own fill.sh prints them over the translation d5bdc0e20e034863… (all of the seat's roots in one cut). By AI agents, Wed Nov 11 2026. No macro, syntax, notation, axiom, sorry.
-/
import Derived.Test.YtegkmkglagmdiaaChecked
import GoSem.Claim
import GoSem.ClaimJoined
import GoSem.ClaimMapViews
import Derived.JoinedTies
import Derived.KernelRfl
namespace Go.Proofs.Ytegkmkglagmdiaa
/- THE CELL 'sum', in the pinned program and in every row, IS THE sha256 OF THE DUMP (.gsa) THAT YtegkmkglagmdiaaProg.lean LOADS. Nothing in Lean hashes anything: it is a label: what it is worth is what the hold of that sum in a sandbox is worth. -/
noncomputable def Try.pinned : Pinned := { name := "ytegkmkglagmdiaa", sum := "d5bdc0e20e034863f700713244107038056f5a093f125adf418a28523748815b", checked := Try.checked }
namespace Rows
def none {H : Type} : Left H := { results := [], args := [] }

/-- 'veilstonelaw41.DiskNewSpec': WHATEVER THE INPUT: true; the input reads as it did. -/
def diskNewSpecSpec : ChangeSpec := { name := "diskNewSpec", fn := fun _ => fun
  | [d] => { results := [.lit (.bool true)], args := [d] }
  | _ => none }
def diskNewSpecRow : OpenClaim := { program := "ytegkmkglagmdiaa", sum := "d5bdc0e20e034863f700713244107038056f5a093f125adf418a28523748815b", func := "veilstone/veilstonelaw41.DiskNewSpec", spec := "diskNewSpec", unfollowed := true, recurses := true, apart := false }
def DiskNewSpecSaid : Prop := diskNewSpecRow.holds Try.pinned (OpenSpec.ofChange diskNewSpecSpec)

/-- ITS FALSE NEIGHBOUR: 'it returns false'. Refute it at one input. -/
def diskNewSpecWrong : ChangeSpec := { name := "diskNewSpec", fn := fun _ => fun
  | [d] => { results := [.lit (.bool false)], args := [d] }
  | _ => none }
def DiskNewSpecWrongFalsely : Prop := diskNewSpecRow.holds Try.pinned (OpenSpec.ofChange diskNewSpecWrong)

/-- 'veilstonelaw41.DiskScriptSpec': WHATEVER THE INPUT: true; the input reads as it did. -/
def diskScriptSpecSpec : ChangeSpec := { name := "diskScriptSpec", fn := fun _ => fun
  | [d1, d2, d3] => { results := [.lit (.bool true)], args := [d1, d2, d3] }
  | _ => none }
def diskScriptSpecRow : OpenClaim := { program := "ytegkmkglagmdiaa", sum := "d5bdc0e20e034863f700713244107038056f5a093f125adf418a28523748815b", func := "veilstone/veilstonelaw41.DiskScriptSpec", spec := "diskScriptSpec", unfollowed := true, recurses := true, apart := false }
def DiskScriptSpecSaid : Prop := diskScriptSpecRow.holds Try.pinned (OpenSpec.ofChange diskScriptSpecSpec)

/-- ITS FALSE NEIGHBOUR: 'it returns false'. Refute it at one input. -/
def diskScriptSpecWrong : ChangeSpec := { name := "diskScriptSpec", fn := fun _ => fun
  | [d1, d2, d3] => { results := [.lit (.bool false)], args := [d1, d2, d3] }
  | _ => none }
def DiskScriptSpecWrongFalsely : Prop := diskScriptSpecRow.holds Try.pinned (OpenSpec.ofChange diskScriptSpecWrong)

/-- 'veilstonelaw41.DiskReads': WHATEVER THE INPUT: true; the input reads as it did. -/
def diskReadsSpec : ChangeSpec := { name := "diskReads", fn := fun _ => fun
  | [d] => { results := [.lit (.bool true)], args := [d] }
  | _ => none }
def diskReadsRow : OpenClaim := { program := "ytegkmkglagmdiaa", sum := "d5bdc0e20e034863f700713244107038056f5a093f125adf418a28523748815b", func := "veilstone/veilstonelaw41.DiskReads", spec := "diskReads", unfollowed := true, recurses := true, apart := false }
def DiskReadsSaid : Prop := diskReadsRow.holds Try.pinned (OpenSpec.ofChange diskReadsSpec)

/-- ITS FALSE NEIGHBOUR: 'it returns false'. Refute it at one input. -/
def diskReadsWrong : ChangeSpec := { name := "diskReads", fn := fun _ => fun
  | [d] => { results := [.lit (.bool false)], args := [d] }
  | _ => none }
def DiskReadsWrongFalsely : Prop := diskReadsRow.holds Try.pinned (OpenSpec.ofChange diskReadsWrong)

/-- 'veilstonelaw41.DiskRawSpec': WHATEVER THE INPUT: true; the input reads as it did. -/
def diskRawSpecSpec : ChangeSpec := { name := "diskRawSpec", fn := fun _ => fun
  | [d1, d2, d3, d4, d5] => { results := [.lit (.bool true)], args := [d1, d2, d3, d4, d5] }
  | _ => none }
def diskRawSpecRow : OpenClaim := { program := "ytegkmkglagmdiaa", sum := "d5bdc0e20e034863f700713244107038056f5a093f125adf418a28523748815b", func := "veilstone/veilstonelaw41.DiskRawSpec", spec := "diskRawSpec", unfollowed := true, recurses := true, apart := false }
def DiskRawSpecSaid : Prop := diskRawSpecRow.holds Try.pinned (OpenSpec.ofChange diskRawSpecSpec)

/-- ITS FALSE NEIGHBOUR: 'it returns false'. Refute it at one input. -/
def diskRawSpecWrong : ChangeSpec := { name := "diskRawSpec", fn := fun _ => fun
  | [d1, d2, d3, d4, d5] => { results := [.lit (.bool false)], args := [d1, d2, d3, d4, d5] }
  | _ => none }
def DiskRawSpecWrongFalsely : Prop := diskRawSpecRow.holds Try.pinned (OpenSpec.ofChange diskRawSpecWrong)

/-- 'veilstonelaw41.DiskStops': WHATEVER THE INPUT: true; the input reads as it did. -/
def diskStopsSpec : ChangeSpec := { name := "diskStops", fn := fun _ => fun
  | [d1, d2, d3] => { results := [.lit (.bool true)], args := [d1, d2, d3] }
  | _ => none }
def diskStopsRow : OpenClaim := { program := "ytegkmkglagmdiaa", sum := "d5bdc0e20e034863f700713244107038056f5a093f125adf418a28523748815b", func := "veilstone/veilstonelaw41.DiskStops", spec := "diskStops", unfollowed := true, recurses := true, apart := false }
def DiskStopsSaid : Prop := diskStopsRow.holds Try.pinned (OpenSpec.ofChange diskStopsSpec)

/-- ITS FALSE NEIGHBOUR: 'it returns false'. Refute it at one input. -/
def diskStopsWrong : ChangeSpec := { name := "diskStops", fn := fun _ => fun
  | [d1, d2, d3] => { results := [.lit (.bool false)], args := [d1, d2, d3] }
  | _ => none }
def DiskStopsWrongFalsely : Prop := diskStopsRow.holds Try.pinned (OpenSpec.ofChange diskStopsWrong)

/-- 'veilstonelaw41.DiskValid': WHATEVER THE INPUT: true; the input reads as it did. -/
def diskValidSpec : ChangeSpec := { name := "diskValid", fn := fun _ => fun
  | [d] => { results := [.lit (.bool true)], args := [d] }
  | _ => none }
def diskValidRow : OpenClaim := { program := "ytegkmkglagmdiaa", sum := "d5bdc0e20e034863f700713244107038056f5a093f125adf418a28523748815b", func := "veilstone/veilstonelaw41.DiskValid", spec := "diskValid", unfollowed := true, recurses := true, apart := false }
def DiskValidSaid : Prop := diskValidRow.holds Try.pinned (OpenSpec.ofChange diskValidSpec)

/-- ITS FALSE NEIGHBOUR: 'it returns false'. Refute it at one input. -/
def diskValidWrong : ChangeSpec := { name := "diskValid", fn := fun _ => fun
  | [d] => { results := [.lit (.bool false)], args := [d] }
  | _ => none }
def DiskValidWrongFalsely : Prop := diskValidRow.holds Try.pinned (OpenSpec.ofChange diskValidWrong)

/-- 'veilstonelaw42.WalAppendSpec': WHATEVER THE INPUT: true; the input reads as it did. -/
def walAppendSpecSpec : ChangeSpec := { name := "walAppendSpec", fn := fun _ => fun
  | [d1, d2] => { results := [.lit (.bool true)], args := [d1, d2] }
  | _ => none }
def walAppendSpecRow : OpenClaim := { program := "ytegkmkglagmdiaa", sum := "d5bdc0e20e034863f700713244107038056f5a093f125adf418a28523748815b", func := "veilstone/veilstonelaw42.WalAppendSpec", spec := "walAppendSpec", unfollowed := true, recurses := true, apart := false }
def WalAppendSpecSaid : Prop := walAppendSpecRow.holds Try.pinned (OpenSpec.ofChange walAppendSpecSpec)

/-- ITS FALSE NEIGHBOUR: 'it returns false'. Refute it at one input. -/
def walAppendSpecWrong : ChangeSpec := { name := "walAppendSpec", fn := fun _ => fun
  | [d1, d2] => { results := [.lit (.bool false)], args := [d1, d2] }
  | _ => none }
def WalAppendSpecWrongFalsely : Prop := walAppendSpecRow.holds Try.pinned (OpenSpec.ofChange walAppendSpecWrong)

/-- 'veilstonelaw42.WalRoom': WHATEVER THE INPUT: true; the input reads as it did. -/
def walRoomSpec : ChangeSpec := { name := "walRoom", fn := fun _ => fun
  | [d1, d2] => { results := [.lit (.bool true)], args := [d1, d2] }
  | _ => none }
def walRoomRow : OpenClaim := { program := "ytegkmkglagmdiaa", sum := "d5bdc0e20e034863f700713244107038056f5a093f125adf418a28523748815b", func := "veilstone/veilstonelaw42.WalRoom", spec := "walRoom", unfollowed := true, recurses := true, apart := false }
def WalRoomSaid : Prop := walRoomRow.holds Try.pinned (OpenSpec.ofChange walRoomSpec)

/-- ITS FALSE NEIGHBOUR: 'it returns false'. Refute it at one input. -/
def walRoomWrong : ChangeSpec := { name := "walRoom", fn := fun _ => fun
  | [d1, d2] => { results := [.lit (.bool false)], args := [d1, d2] }
  | _ => none }
def WalRoomWrongFalsely : Prop := walRoomRow.holds Try.pinned (OpenSpec.ofChange walRoomWrong)

/-- 'veilstonelaw42.WalDamage': WHATEVER THE INPUT: true; the input reads as it did. -/
def walDamageSpec : ChangeSpec := { name := "walDamage", fn := fun _ => fun
  | [d1, d2, d3, d4] => { results := [.lit (.bool true)], args := [d1, d2, d3, d4] }
  | _ => none }
def walDamageRow : OpenClaim := { program := "ytegkmkglagmdiaa", sum := "d5bdc0e20e034863f700713244107038056f5a093f125adf418a28523748815b", func := "veilstone/veilstonelaw42.WalDamage", spec := "walDamage", unfollowed := true, recurses := true, apart := false }
def WalDamageSaid : Prop := walDamageRow.holds Try.pinned (OpenSpec.ofChange walDamageSpec)

/-- ITS FALSE NEIGHBOUR: 'it returns false'. Refute it at one input. -/
def walDamageWrong : ChangeSpec := { name := "walDamage", fn := fun _ => fun
  | [d1, d2, d3, d4] => { results := [.lit (.bool false)], args := [d1, d2, d3, d4] }
  | _ => none }
def WalDamageWrongFalsely : Prop := walDamageRow.holds Try.pinned (OpenSpec.ofChange walDamageWrong)

/-- 'veilstonelaw42.WalSumAffine': WHATEVER THE INPUT: true; the input reads as it did. -/
def walSumAffineSpec : ChangeSpec := { name := "walSumAffine", fn := fun _ => fun
  | [d1, d2, d3] => { results := [.lit (.bool true)], args := [d1, d2, d3] }
  | _ => none }
def walSumAffineRow : OpenClaim := { program := "ytegkmkglagmdiaa", sum := "d5bdc0e20e034863f700713244107038056f5a093f125adf418a28523748815b", func := "veilstone/veilstonelaw42.WalSumAffine", spec := "walSumAffine", unfollowed := true, recurses := true, apart := false }
def WalSumAffineSaid : Prop := walSumAffineRow.holds Try.pinned (OpenSpec.ofChange walSumAffineSpec)

/-- ITS FALSE NEIGHBOUR: 'it returns false'. Refute it at one input. -/
def walSumAffineWrong : ChangeSpec := { name := "walSumAffine", fn := fun _ => fun
  | [d1, d2, d3] => { results := [.lit (.bool false)], args := [d1, d2, d3] }
  | _ => none }
def WalSumAffineWrongFalsely : Prop := walSumAffineRow.holds Try.pinned (OpenSpec.ofChange walSumAffineWrong)

/-- 'veilstonelaw42.WalSurvives': WHATEVER THE INPUT: true; the input reads as it did. -/
def walSurvivesSpec : ChangeSpec := { name := "walSurvives", fn := fun _ => fun
  | [d1, d2] => { results := [.lit (.bool true)], args := [d1, d2] }
  | _ => none }
def walSurvivesRow : OpenClaim := { program := "ytegkmkglagmdiaa", sum := "d5bdc0e20e034863f700713244107038056f5a093f125adf418a28523748815b", func := "veilstone/veilstonelaw42.WalSurvives", spec := "walSurvives", unfollowed := true, recurses := true, apart := false }
def WalSurvivesSaid : Prop := walSurvivesRow.holds Try.pinned (OpenSpec.ofChange walSurvivesSpec)

/-- ITS FALSE NEIGHBOUR: 'it returns false'. Refute it at one input. -/
def walSurvivesWrong : ChangeSpec := { name := "walSurvives", fn := fun _ => fun
  | [d1, d2] => { results := [.lit (.bool false)], args := [d1, d2] }
  | _ => none }
def WalSurvivesWrongFalsely : Prop := walSurvivesRow.holds Try.pinned (OpenSpec.ofChange walSurvivesWrong)

/- THE SECOND FORM. 'bulk': how many values and letters a reading holds, each counted each time it is reached (what is shared counts as often as it is met; a slice's spare places count too). A statement '..UptoSaid' is the law's where the arguments, and the package variables that the reading takes, are together of bulk at most 1048576: NARROWER than '..Said'. Prove '..Said' where nothing that the law and all that it calls make is longer than what came in: it says more and counts as full. Else prove '..UptoSaid'. A law counts once. -/
mutual
def uptoBulk {H : Type} : DataW H → Nat
  | .lit (.string bytes) => bytes.length + 1
  | .lit _ => 1
  | .nil => 1
  | .ptr d => uptoBulk d + 1
  | .slice elems spare => uptoBulkAll elems + uptoBulkAll spare + 1
  | .agg parts => uptoBulkAll parts + 1
  | .iface _ d => uptoBulk d + 1
  | .map entries => uptoBulkEntries entries + 1
  | .held _ => 1
def uptoBulkAll {H : Type} : List (DataW H) → Nat
  | [] => 0
  | d :: r => uptoBulk d + uptoBulkAll r
def uptoBulkEntries {H : Type} : List (Lit × DataW H) → Nat
  | [] => 0
  | x :: r => uptoBulkEntry x + uptoBulkEntries r
def uptoBulkEntry {H : Type} : Lit × DataW H → Nat
  | (.string bytes, d) => bytes.length + uptoBulk d + 1
  | (_, d) => uptoBulk d + 1
 end
def uptoSmall : (H : Type) → List (DataW H) → Bool := fun _ ds => decide (uptoBulkAll ds ≤ 1048576)
def OpenSpec.upto (s : _root_.Go.ChangeSpec) : _root_.Go.OpenSpec := { _root_.Go.OpenSpec.ofChange s with cond := some uptoSmall }

/-- 'veilstonelaw41.DiskNewSpec', WHERE WHAT IT READS IS OF BULK AT MOST 1048576: true; the input reads as it did. -/
def diskNewSpecUptoRow : OpenClaim := { program := "ytegkmkglagmdiaa", sum := "d5bdc0e20e034863f700713244107038056f5a093f125adf418a28523748815b", func := "veilstone/veilstonelaw41.DiskNewSpec", spec := "diskNewSpec", unfollowed := true, recurses := true, apart := false, narrowed := true }
def DiskNewSpecUptoSaid : Prop := diskNewSpecUptoRow.holds Try.pinned (OpenSpec.upto diskNewSpecSpec)

/-- 'veilstonelaw41.DiskScriptSpec', WHERE WHAT IT READS IS OF BULK AT MOST 1048576: true; the input reads as it did. -/
def diskScriptSpecUptoRow : OpenClaim := { program := "ytegkmkglagmdiaa", sum := "d5bdc0e20e034863f700713244107038056f5a093f125adf418a28523748815b", func := "veilstone/veilstonelaw41.DiskScriptSpec", spec := "diskScriptSpec", unfollowed := true, recurses := true, apart := false, narrowed := true }
def DiskScriptSpecUptoSaid : Prop := diskScriptSpecUptoRow.holds Try.pinned (OpenSpec.upto diskScriptSpecSpec)

/-- 'veilstonelaw41.DiskReads', WHERE WHAT IT READS IS OF BULK AT MOST 1048576: true; the input reads as it did. -/
def diskReadsUptoRow : OpenClaim := { program := "ytegkmkglagmdiaa", sum := "d5bdc0e20e034863f700713244107038056f5a093f125adf418a28523748815b", func := "veilstone/veilstonelaw41.DiskReads", spec := "diskReads", unfollowed := true, recurses := true, apart := false, narrowed := true }
def DiskReadsUptoSaid : Prop := diskReadsUptoRow.holds Try.pinned (OpenSpec.upto diskReadsSpec)

/-- 'veilstonelaw41.DiskRawSpec', WHERE WHAT IT READS IS OF BULK AT MOST 1048576: true; the input reads as it did. -/
def diskRawSpecUptoRow : OpenClaim := { program := "ytegkmkglagmdiaa", sum := "d5bdc0e20e034863f700713244107038056f5a093f125adf418a28523748815b", func := "veilstone/veilstonelaw41.DiskRawSpec", spec := "diskRawSpec", unfollowed := true, recurses := true, apart := false, narrowed := true }
def DiskRawSpecUptoSaid : Prop := diskRawSpecUptoRow.holds Try.pinned (OpenSpec.upto diskRawSpecSpec)

/-- 'veilstonelaw41.DiskStops', WHERE WHAT IT READS IS OF BULK AT MOST 1048576: true; the input reads as it did. -/
def diskStopsUptoRow : OpenClaim := { program := "ytegkmkglagmdiaa", sum := "d5bdc0e20e034863f700713244107038056f5a093f125adf418a28523748815b", func := "veilstone/veilstonelaw41.DiskStops", spec := "diskStops", unfollowed := true, recurses := true, apart := false, narrowed := true }
def DiskStopsUptoSaid : Prop := diskStopsUptoRow.holds Try.pinned (OpenSpec.upto diskStopsSpec)

/-- 'veilstonelaw41.DiskValid', WHERE WHAT IT READS IS OF BULK AT MOST 1048576: true; the input reads as it did. -/
def diskValidUptoRow : OpenClaim := { program := "ytegkmkglagmdiaa", sum := "d5bdc0e20e034863f700713244107038056f5a093f125adf418a28523748815b", func := "veilstone/veilstonelaw41.DiskValid", spec := "diskValid", unfollowed := true, recurses := true, apart := false, narrowed := true }
def DiskValidUptoSaid : Prop := diskValidUptoRow.holds Try.pinned (OpenSpec.upto diskValidSpec)

/-- 'veilstonelaw42.WalAppendSpec', WHERE WHAT IT READS IS OF BULK AT MOST 1048576: true; the input reads as it did. -/
def walAppendSpecUptoRow : OpenClaim := { program := "ytegkmkglagmdiaa", sum := "d5bdc0e20e034863f700713244107038056f5a093f125adf418a28523748815b", func := "veilstone/veilstonelaw42.WalAppendSpec", spec := "walAppendSpec", unfollowed := true, recurses := true, apart := false, narrowed := true }
def WalAppendSpecUptoSaid : Prop := walAppendSpecUptoRow.holds Try.pinned (OpenSpec.upto walAppendSpecSpec)

/-- 'veilstonelaw42.WalRoom', WHERE WHAT IT READS IS OF BULK AT MOST 1048576: true; the input reads as it did. -/
def walRoomUptoRow : OpenClaim := { program := "ytegkmkglagmdiaa", sum := "d5bdc0e20e034863f700713244107038056f5a093f125adf418a28523748815b", func := "veilstone/veilstonelaw42.WalRoom", spec := "walRoom", unfollowed := true, recurses := true, apart := false, narrowed := true }
def WalRoomUptoSaid : Prop := walRoomUptoRow.holds Try.pinned (OpenSpec.upto walRoomSpec)

/-- 'veilstonelaw42.WalDamage', WHERE WHAT IT READS IS OF BULK AT MOST 1048576: true; the input reads as it did. -/
def walDamageUptoRow : OpenClaim := { program := "ytegkmkglagmdiaa", sum := "d5bdc0e20e034863f700713244107038056f5a093f125adf418a28523748815b", func := "veilstone/veilstonelaw42.WalDamage", spec := "walDamage", unfollowed := true, recurses := true, apart := false, narrowed := true }
def WalDamageUptoSaid : Prop := walDamageUptoRow.holds Try.pinned (OpenSpec.upto walDamageSpec)

/-- 'veilstonelaw42.WalSumAffine', WHERE WHAT IT READS IS OF BULK AT MOST 1048576: true; the input reads as it did. -/
def walSumAffineUptoRow : OpenClaim := { program := "ytegkmkglagmdiaa", sum := "d5bdc0e20e034863f700713244107038056f5a093f125adf418a28523748815b", func := "veilstone/veilstonelaw42.WalSumAffine", spec := "walSumAffine", unfollowed := true, recurses := true, apart := false, narrowed := true }
def WalSumAffineUptoSaid : Prop := walSumAffineUptoRow.holds Try.pinned (OpenSpec.upto walSumAffineSpec)

/-- 'veilstonelaw42.WalSurvives', WHERE WHAT IT READS IS OF BULK AT MOST 1048576: true; the input reads as it did. -/
def walSurvivesUptoRow : OpenClaim := { program := "ytegkmkglagmdiaa", sum := "d5bdc0e20e034863f700713244107038056f5a093f125adf418a28523748815b", func := "veilstone/veilstonelaw42.WalSurvives", spec := "walSurvives", unfollowed := true, recurses := true, apart := false, narrowed := true }
def WalSurvivesUptoSaid : Prop := walSurvivesUptoRow.holds Try.pinned (OpenSpec.upto walSurvivesSpec)

end Rows
end Go.Proofs.Ytegkmkglagmdiaa
