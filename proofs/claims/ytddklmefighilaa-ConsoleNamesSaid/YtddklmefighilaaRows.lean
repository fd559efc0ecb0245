/-
  No cell of these rows narrows 'for every input' (looked for: loops, veiled, ifaces, maps, wideKeys, modest, calm, conditions, laid).
  DERIVED. THE GIVEN ROWS OF THIS SEAT. 12 by the template 'for every input the law returns true; each argument reads behind the call as it read before'; 0 by the template 'total and deterministic' (their statements: YtddklmefighilaaTotals.lean).
  GIVEN WITH THE SEED: the statements are not yours to turn. If you find one false, say at which input.
  Laid BY PROGRAM, IN A SANDBOX (cutbox-rows.mjs): the forced cells as the released guide's own fill.sh prints them over the translation 49281d97b2a260c5… (all of the seat's roots in one cut). By AI agents, Wed Nov 11 2026. No macro, syntax, notation, axiom, sorry.
-/
import Derived.Test.YtddklmefighilaaChecked
import GoSem.Claim
import GoSem.ClaimJoined
import GoSem.ClaimMapViews
import Derived.JoinedTies
import Derived.KernelRfl
namespace Go.Proofs.Ytddklmefighilaa
/- THE CELL 'sum', in the pinned program and in every row, IS THE sha256 OF THE DUMP (.gsa) THAT YtddklmefighilaaProg.lean LOADS. Nothing in Lean hashes anything: it is a label: what it is worth is what the hold of that sum in a sandbox is worth. -/
noncomputable def Try.pinned : Pinned := { name := "ytddklmefighilaa", sum := "49281d97b2a260c58073269d5c1ec7702d3ce582371e17645828b3121de25561", checked := Try.checked }
namespace Rows
def none {H : Type} : Left H := { results := [], args := [] }

/-- 'waypointlaw58.ConsoleNames': WHATEVER THE INPUT: true; the input reads as it did. -/
def consoleNamesSpec : ChangeSpec := { name := "consoleNames", fn := fun _ => fun
  | [d] => { results := [.lit (.bool true)], args := [d] }
  | _ => none }
def consoleNamesRow : OpenClaim := { program := "ytddklmefighilaa", sum := "49281d97b2a260c58073269d5c1ec7702d3ce582371e17645828b3121de25561", func := "waypoint/waypointlaw58.ConsoleNames", spec := "consoleNames", apart := false }
def ConsoleNamesSaid : Prop := consoleNamesRow.holds Try.pinned (OpenSpec.ofChange consoleNamesSpec)

/-- ITS FALSE NEIGHBOUR: 'it returns false'. Refute it at one input. -/
def consoleNamesWrong : ChangeSpec := { name := "consoleNames", fn := fun _ => fun
  | [d] => { results := [.lit (.bool false)], args := [d] }
  | _ => none }
def ConsoleNamesWrongFalsely : Prop := consoleNamesRow.holds Try.pinned (OpenSpec.ofChange consoleNamesWrong)

/-- 'waypointlaw37.StagesTicks': WHATEVER THE INPUT: true; the input reads as it did. -/
def stagesTicksSpec : ChangeSpec := { name := "stagesTicks", fn := fun _ => fun
  | [d1, d2, d3] => { results := [.lit (.bool true)], args := [d1, d2, d3] }
  | _ => none }
def stagesTicksRow : OpenClaim := { program := "ytddklmefighilaa", sum := "49281d97b2a260c58073269d5c1ec7702d3ce582371e17645828b3121de25561", func := "waypoint/waypointlaw37.StagesTicks", spec := "stagesTicks", apart := false }
def StagesTicksSaid : Prop := stagesTicksRow.holds Try.pinned (OpenSpec.ofChange stagesTicksSpec)

/-- ITS FALSE NEIGHBOUR: 'it returns false'. Refute it at one input. -/
def stagesTicksWrong : ChangeSpec := { name := "stagesTicks", fn := fun _ => fun
  | [d1, d2, d3] => { results := [.lit (.bool false)], args := [d1, d2, d3] }
  | _ => none }
def StagesTicksWrongFalsely : Prop := stagesTicksRow.holds Try.pinned (OpenSpec.ofChange stagesTicksWrong)

/-- 'waypointlaw37.StagesOrder': WHATEVER THE INPUT: true; the input reads as it did. -/
def stagesOrderSpec : ChangeSpec := { name := "stagesOrder", fn := fun _ => fun
  | [d1, d2, d3] => { results := [.lit (.bool true)], args := [d1, d2, d3] }
  | _ => none }
def stagesOrderRow : OpenClaim := { program := "ytddklmefighilaa", sum := "49281d97b2a260c58073269d5c1ec7702d3ce582371e17645828b3121de25561", func := "waypoint/waypointlaw37.StagesOrder", spec := "stagesOrder", apart := false }
def StagesOrderSaid : Prop := stagesOrderRow.holds Try.pinned (OpenSpec.ofChange stagesOrderSpec)

/-- ITS FALSE NEIGHBOUR: 'it returns false'. Refute it at one input. -/
def stagesOrderWrong : ChangeSpec := { name := "stagesOrder", fn := fun _ => fun
  | [d1, d2, d3] => { results := [.lit (.bool false)], args := [d1, d2, d3] }
  | _ => none }
def StagesOrderWrongFalsely : Prop := stagesOrderRow.holds Try.pinned (OpenSpec.ofChange stagesOrderWrong)

/-- 'waypointlaw37.StagesAdd': WHATEVER THE INPUT: true; the input reads as it did. -/
def stagesAddSpec : ChangeSpec := { name := "stagesAdd", fn := fun _ => fun
  | [d1, d2, d3] => { results := [.lit (.bool true)], args := [d1, d2, d3] }
  | _ => none }
def stagesAddRow : OpenClaim := { program := "ytddklmefighilaa", sum := "49281d97b2a260c58073269d5c1ec7702d3ce582371e17645828b3121de25561", func := "waypoint/waypointlaw37.StagesAdd", spec := "stagesAdd", apart := false }
def StagesAddSaid : Prop := stagesAddRow.holds Try.pinned (OpenSpec.ofChange stagesAddSpec)

/-- ITS FALSE NEIGHBOUR: 'it returns false'. Refute it at one input. -/
def stagesAddWrong : ChangeSpec := { name := "stagesAdd", fn := fun _ => fun
  | [d1, d2, d3] => { results := [.lit (.bool false)], args := [d1, d2, d3] }
  | _ => none }
def StagesAddWrongFalsely : Prop := stagesAddRow.holds Try.pinned (OpenSpec.ofChange stagesAddWrong)

/-- 'waypointlaw37.StagesApart': WHATEVER THE INPUT: true; the input reads as it did. -/
def stagesApartSpec : ChangeSpec := { name := "stagesApart", fn := fun _ => fun
  | [d1, d2, d3] => { results := [.lit (.bool true)], args := [d1, d2, d3] }
  | _ => none }
def stagesApartRow : OpenClaim := { program := "ytddklmefighilaa", sum := "49281d97b2a260c58073269d5c1ec7702d3ce582371e17645828b3121de25561", func := "waypoint/waypointlaw37.StagesApart", spec := "stagesApart", apart := false }
def StagesApartSaid : Prop := stagesApartRow.holds Try.pinned (OpenSpec.ofChange stagesApartSpec)

/-- ITS FALSE NEIGHBOUR: 'it returns false'. Refute it at one input. -/
def stagesApartWrong : ChangeSpec := { name := "stagesApart", fn := fun _ => fun
  | [d1, d2, d3] => { results := [.lit (.bool false)], args := [d1, d2, d3] }
  | _ => none }
def StagesApartWrongFalsely : Prop := stagesApartRow.holds Try.pinned (OpenSpec.ofChange stagesApartWrong)

/-- 'waypointlaw37.StagesValid': WHATEVER THE INPUT: true; the input reads as it did. -/
def stagesValidSpec : ChangeSpec := { name := "stagesValid", fn := fun _ => fun
  | [d1, d2, d3] => { results := [.lit (.bool true)], args := [d1, d2, d3] }
  | _ => none }
def stagesValidRow : OpenClaim := { program := "ytddklmefighilaa", sum := "49281d97b2a260c58073269d5c1ec7702d3ce582371e17645828b3121de25561", func := "waypoint/waypointlaw37.StagesValid", spec := "stagesValid", apart := false }
def StagesValidSaid : Prop := stagesValidRow.holds Try.pinned (OpenSpec.ofChange stagesValidSpec)

/-- ITS FALSE NEIGHBOUR: 'it returns false'. Refute it at one input. -/
def stagesValidWrong : ChangeSpec := { name := "stagesValid", fn := fun _ => fun
  | [d1, d2, d3] => { results := [.lit (.bool false)], args := [d1, d2, d3] }
  | _ => none }
def StagesValidWrongFalsely : Prop := stagesValidRow.holds Try.pinned (OpenSpec.ofChange stagesValidWrong)

/-- 'waypointlaw37.StagesChange': WHATEVER THE INPUT: true; the input reads as it did. -/
def stagesChangeSpec : ChangeSpec := { name := "stagesChange", fn := fun _ => fun
  | [d1, d2] => { results := [.lit (.bool true)], args := [d1, d2] }
  | _ => none }
def stagesChangeRow : OpenClaim := { program := "ytddklmefighilaa", sum := "49281d97b2a260c58073269d5c1ec7702d3ce582371e17645828b3121de25561", func := "waypoint/waypointlaw37.StagesChange", spec := "stagesChange", apart := false }
def StagesChangeSaid : Prop := stagesChangeRow.holds Try.pinned (OpenSpec.ofChange stagesChangeSpec)

/-- ITS FALSE NEIGHBOUR: 'it returns false'. Refute it at one input. -/
def stagesChangeWrong : ChangeSpec := { name := "stagesChange", fn := fun _ => fun
  | [d1, d2] => { results := [.lit (.bool false)], args := [d1, d2] }
  | _ => none }
def StagesChangeWrongFalsely : Prop := stagesChangeRow.holds Try.pinned (OpenSpec.ofChange stagesChangeWrong)

/-- 'waypointlaw36.OriginScript': WHATEVER THE INPUT: true; the input reads as it did. -/
def originScriptSpec : ChangeSpec := { name := "originScript", fn := fun _ => fun
  | [d1, d2] => { results := [.lit (.bool true)], args := [d1, d2] }
  | _ => none }
def originScriptRow : OpenClaim := { program := "ytddklmefighilaa", sum := "49281d97b2a260c58073269d5c1ec7702d3ce582371e17645828b3121de25561", func := "waypoint/waypointlaw36.OriginScript", spec := "originScript", inPlace := ["internal/bytealg.Compare"], unfollowed := true, recurses := true, apart := false }
def OriginScriptSaid : Prop := originScriptRow.holds Try.pinned (OpenSpec.ofChange originScriptSpec)

/-- ITS FALSE NEIGHBOUR: 'it returns false'. Refute it at one input. -/
def originScriptWrong : ChangeSpec := { name := "originScript", fn := fun _ => fun
  | [d1, d2] => { results := [.lit (.bool false)], args := [d1, d2] }
  | _ => none }
def OriginScriptWrongFalsely : Prop := originScriptRow.holds Try.pinned (OpenSpec.ofChange originScriptWrong)

/-- 'waypointlaw36.OriginGrows': WHATEVER THE INPUT: true; the input reads as it did. -/
def originGrowsSpec : ChangeSpec := { name := "originGrows", fn := fun _ => fun
  | [d1, d2] => { results := [.lit (.bool true)], args := [d1, d2] }
  | _ => none }
def originGrowsRow : OpenClaim := { program := "ytddklmefighilaa", sum := "49281d97b2a260c58073269d5c1ec7702d3ce582371e17645828b3121de25561", func := "waypoint/waypointlaw36.OriginGrows", spec := "originGrows", inPlace := ["internal/bytealg.Compare"], unfollowed := true, recurses := true, apart := false }
def OriginGrowsSaid : Prop := originGrowsRow.holds Try.pinned (OpenSpec.ofChange originGrowsSpec)

/-- ITS FALSE NEIGHBOUR: 'it returns false'. Refute it at one input. -/
def originGrowsWrong : ChangeSpec := { name := "originGrows", fn := fun _ => fun
  | [d1, d2] => { results := [.lit (.bool false)], args := [d1, d2] }
  | _ => none }
def OriginGrowsWrongFalsely : Prop := originGrowsRow.holds Try.pinned (OpenSpec.ofChange originGrowsWrong)

/-- 'waypointlaw36.OriginWins': WHATEVER THE INPUT: true; the input reads as it did. -/
def originWinsSpec : ChangeSpec := { name := "originWins", fn := fun _ => fun
  | [d1, d2] => { results := [.lit (.bool true)], args := [d1, d2] }
  | _ => none }
def originWinsRow : OpenClaim := { program := "ytddklmefighilaa", sum := "49281d97b2a260c58073269d5c1ec7702d3ce582371e17645828b3121de25561", func := "waypoint/waypointlaw36.OriginWins", spec := "originWins", inPlace := ["internal/bytealg.Compare"], unfollowed := true, recurses := true, apart := false }
def OriginWinsSaid : Prop := originWinsRow.holds Try.pinned (OpenSpec.ofChange originWinsSpec)

/-- ITS FALSE NEIGHBOUR: 'it returns false'. Refute it at one input. -/
def originWinsWrong : ChangeSpec := { name := "originWins", fn := fun _ => fun
  | [d1, d2] => { results := [.lit (.bool false)], args := [d1, d2] }
  | _ => none }
def OriginWinsWrongFalsely : Prop := originWinsRow.holds Try.pinned (OpenSpec.ofChange originWinsWrong)

/-- 'waypointlaw36.OriginRenews': WHATEVER THE INPUT: true; the input reads as it did. -/
def originRenewsSpec : ChangeSpec := { name := "originRenews", fn := fun _ => fun
  | [d] => { results := [.lit (.bool true)], args := [d] }
  | _ => none }
def originRenewsRow : OpenClaim := { program := "ytddklmefighilaa", sum := "49281d97b2a260c58073269d5c1ec7702d3ce582371e17645828b3121de25561", func := "waypoint/waypointlaw36.OriginRenews", spec := "originRenews", inPlace := ["internal/bytealg.Compare"], unfollowed := true, recurses := true, apart := false }
def OriginRenewsSaid : Prop := originRenewsRow.holds Try.pinned (OpenSpec.ofChange originRenewsSpec)

/-- ITS FALSE NEIGHBOUR: 'it returns false'. Refute it at one input. -/
def originRenewsWrong : ChangeSpec := { name := "originRenews", fn := fun _ => fun
  | [d] => { results := [.lit (.bool false)], args := [d] }
  | _ => none }
def OriginRenewsWrongFalsely : Prop := originRenewsRow.holds Try.pinned (OpenSpec.ofChange originRenewsWrong)

/-- 'waypointlaw36.OriginNil': WHATEVER THE INPUT: true; the input reads as it did. -/
def originNilSpec : ChangeSpec := { name := "originNil", fn := fun _ => fun
  | [d1, d2] => { results := [.lit (.bool true)], args := [d1, d2] }
  | _ => none }
def originNilRow : OpenClaim := { program := "ytddklmefighilaa", sum := "49281d97b2a260c58073269d5c1ec7702d3ce582371e17645828b3121de25561", func := "waypoint/waypointlaw36.OriginNil", spec := "originNil", inPlace := ["internal/bytealg.Compare"], unfollowed := true, recurses := true, apart := false }
def OriginNilSaid : Prop := originNilRow.holds Try.pinned (OpenSpec.ofChange originNilSpec)

/-- ITS FALSE NEIGHBOUR: 'it returns false'. Refute it at one input. -/
def originNilWrong : ChangeSpec := { name := "originNil", fn := fun _ => fun
  | [d1, d2] => { results := [.lit (.bool false)], args := [d1, d2] }
  | _ => none }
def OriginNilWrongFalsely : Prop := originNilRow.holds Try.pinned (OpenSpec.ofChange originNilWrong)

/- THE SECOND FORM. 'bulk': how many values and letters a reading holds, each counted each time it is reached (what is shared counts as often as it is met; a slice's spare places count too). A statement '..UptoSaid' is the law's where the arguments, and the package variables that the reading takes, are together of bulk at most 1048576: NARROWER than '..Said'. Prove '..Said' where nothing that the law and all that it calls make is longer than what came in: it says more and counts as full. Else prove '..UptoSaid'. A law counts once. -/
mutual
def uptoBulk {H : Type} : DataW H → Nat
  | .lit (.string bytes) => bytes.length + 1
  | .lit _ => 1
  | .nil => 1
  | .ptr d => uptoBulk d + 1
  | .slice elems spare => uptoBulkAll elems + uptoBulkAll spare + 1
  | .agg parts => uptoBulkAll parts + 1
  | .iface _ d => uptoBulk d + 1
  | .map entries => uptoBulkEntries entries + 1
  | .held _ => 1
def uptoBulkAll {H : Type} : List (DataW H) → Nat
  | [] => 0
  | d :: r => uptoBulk d + uptoBulkAll r
def uptoBulkEntries {H : Type} : List (Lit × DataW H) → Nat
  | [] => 0
  | x :: r => uptoBulkEntry x + uptoBulkEntries r
def uptoBulkEntry {H : Type} : Lit × DataW H → Nat
  | (.string bytes, d) => bytes.length + uptoBulk d + 1
  | (_, d) => uptoBulk d + 1
 end
def uptoSmall : (H : Type) → List (DataW H) → Bool := fun _ ds => decide (uptoBulkAll ds ≤ 1048576)
def OpenSpec.upto (s : _root_.Go.ChangeSpec) : _root_.Go.OpenSpec := { _root_.Go.OpenSpec.ofChange s with cond := some uptoSmall }

/-- 'waypointlaw58.ConsoleNames', WHERE WHAT IT READS IS OF BULK AT MOST 1048576: true; the input reads as it did. -/
def consoleNamesUptoRow : OpenClaim := { program := "ytddklmefighilaa", sum := "49281d97b2a260c58073269d5c1ec7702d3ce582371e17645828b3121de25561", func := "waypoint/waypointlaw58.ConsoleNames", spec := "consoleNames", apart := false, narrowed := true }
def ConsoleNamesUptoSaid : Prop := consoleNamesUptoRow.holds Try.pinned (OpenSpec.upto consoleNamesSpec)

/-- 'waypointlaw37.StagesTicks', WHERE WHAT IT READS IS OF BULK AT MOST 1048576: true; the input reads as it did. -/
def stagesTicksUptoRow : OpenClaim := { program := "ytddklmefighilaa", sum := "49281d97b2a260c58073269d5c1ec7702d3ce582371e17645828b3121de25561", func := "waypoint/waypointlaw37.StagesTicks", spec := "stagesTicks", apart := false, narrowed := true }
def StagesTicksUptoSaid : Prop := stagesTicksUptoRow.holds Try.pinned (OpenSpec.upto stagesTicksSpec)

/-- 'waypointlaw37.StagesOrder', WHERE WHAT IT READS IS OF BULK AT MOST 1048576: true; the input reads as it did. -/
def stagesOrderUptoRow : OpenClaim := { program := "ytddklmefighilaa", sum := "49281d97b2a260c58073269d5c1ec7702d3ce582371e17645828b3121de25561", func := "waypoint/waypointlaw37.StagesOrder", spec := "stagesOrder", apart := false, narrowed := true }
def StagesOrderUptoSaid : Prop := stagesOrderUptoRow.holds Try.pinned (OpenSpec.upto stagesOrderSpec)

/-- 'waypointlaw37.StagesAdd', WHERE WHAT IT READS IS OF BULK AT MOST 1048576: true; the input reads as it did. -/
def stagesAddUptoRow : OpenClaim := { program := "ytddklmefighilaa", sum := "49281d97b2a260c58073269d5c1ec7702d3ce582371e17645828b3121de25561", func := "waypoint/waypointlaw37.StagesAdd", spec := "stagesAdd", apart := false, narrowed := true }
def StagesAddUptoSaid : Prop := stagesAddUptoRow.holds Try.pinned (OpenSpec.upto stagesAddSpec)

/-- 'waypointlaw37.StagesApart', WHERE WHAT IT READS IS OF BULK AT MOST 1048576: true; the input reads as it did. -/
def stagesApartUptoRow : OpenClaim := { program := "ytddklmefighilaa", sum := "49281d97b2a260c58073269d5c1ec7702d3ce582371e17645828b3121de25561", func := "waypoint/waypointlaw37.StagesApart", spec := "stagesApart", apart := false, narrowed := true }
def StagesApartUptoSaid : Prop := stagesApartUptoRow.holds Try.pinned (OpenSpec.upto stagesApartSpec)

/-- 'waypointlaw37.StagesValid', WHERE WHAT IT READS IS OF BULK AT MOST 1048576: true; the input reads as it did. -/
def stagesValidUptoRow : OpenClaim := { program := "ytddklmefighilaa", sum := "49281d97b2a260c58073269d5c1ec7702d3ce582371e17645828b3121de25561", func := "waypoint/waypointlaw37.StagesValid", spec := "stagesValid", apart := false, narrowed := true }
def StagesValidUptoSaid : Prop := stagesValidUptoRow.holds Try.pinned (OpenSpec.upto stagesValidSpec)

/-- 'waypointlaw37.StagesChange', WHERE WHAT IT READS IS OF BULK AT MOST 1048576: true; the input reads as it did. -/
def stagesChangeUptoRow : OpenClaim := { program := "ytddklmefighilaa", sum := "49281d97b2a260c58073269d5c1ec7702d3ce582371e17645828b3121de25561", func := "waypoint/waypointlaw37.StagesChange", spec := "stagesChange", apart := false, narrowed := true }
def StagesChangeUptoSaid : Prop := stagesChangeUptoRow.holds Try.pinned (OpenSpec.upto stagesChangeSpec)

/-- 'waypointlaw36.OriginScript', WHERE WHAT IT READS IS OF BULK AT MOST 1048576: true; the input reads as it did. -/
def originScriptUptoRow : OpenClaim := { program := "ytddklmefighilaa", sum := "49281d97b2a260c58073269d5c1ec7702d3ce582371e17645828b3121de25561", func := "waypoint/waypointlaw36.OriginScript", spec := "originScript", inPlace := ["internal/bytealg.Compare"], unfollowed := true, recurses := true, apart := false, narrowed := true }
def OriginScriptUptoSaid : Prop := originScriptUptoRow.holds Try.pinned (OpenSpec.upto originScriptSpec)

/-- 'waypointlaw36.OriginGrows', WHERE WHAT IT READS IS OF BULK AT MOST 1048576: true; the input reads as it did. -/
def originGrowsUptoRow : OpenClaim := { program := "ytddklmefighilaa", sum := "49281d97b2a260c58073269d5c1ec7702d3ce582371e17645828b3121de25561", func := "waypoint/waypointlaw36.OriginGrows", spec := "originGrows", inPlace := ["internal/bytealg.Compare"], unfollowed := true, recurses := true, apart := false, narrowed := true }
def OriginGrowsUptoSaid : Prop := originGrowsUptoRow.holds Try.pinned (OpenSpec.upto originGrowsSpec)

/-- 'waypointlaw36.OriginWins', WHERE WHAT IT READS IS OF BULK AT MOST 1048576: true; the input reads as it did. -/
def originWinsUptoRow : OpenClaim := { program := "ytddklmefighilaa", sum := "49281d97b2a260c58073269d5c1ec7702d3ce582371e17645828b3121de25561", func := "waypoint/waypointlaw36.OriginWins", spec := "originWins", inPlace := ["internal/bytealg.Compare"], unfollowed := true, recurses := true, apart := false, narrowed := true }
def OriginWinsUptoSaid : Prop := originWinsUptoRow.holds Try.pinned (OpenSpec.upto originWinsSpec)

/-- 'waypointlaw36.OriginRenews', WHERE WHAT IT READS IS OF BULK AT MOST 1048576: true; the input reads as it did. -/
def originRenewsUptoRow : OpenClaim := { program := "ytddklmefighilaa", sum := "49281d97b2a260c58073269d5c1ec7702d3ce582371e17645828b3121de25561", func := "waypoint/waypointlaw36.OriginRenews", spec := "originRenews", inPlace := ["internal/bytealg.Compare"], unfollowed := true, recurses := true, apart := false, narrowed := true }
def OriginRenewsUptoSaid : Prop := originRenewsUptoRow.holds Try.pinned (OpenSpec.upto originRenewsSpec)

/-- 'waypointlaw36.OriginNil', WHERE WHAT IT READS IS OF BULK AT MOST 1048576: true; the input reads as it did. -/
def originNilUptoRow : OpenClaim := { program := "ytddklmefighilaa", sum := "49281d97b2a260c58073269d5c1ec7702d3ce582371e17645828b3121de25561", func := "waypoint/waypointlaw36.OriginNil", spec := "originNil", inPlace := ["internal/bytealg.Compare"], unfollowed := true, recurses := true, apart := false, narrowed := true }
def OriginNilUptoSaid : Prop := originNilUptoRow.holds Try.pinned (OpenSpec.upto originNilSpec)

end Rows
end Go.Proofs.Ytddklmefighilaa
