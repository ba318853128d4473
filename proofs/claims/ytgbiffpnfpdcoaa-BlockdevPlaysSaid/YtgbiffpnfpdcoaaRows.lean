/-
  No cell of these rows narrows 'for every input' (looked for: loops, veiled, ifaces, maps, wideKeys, modest, calm, conditions, laid).
  DERIVED. THE GIVEN ROWS OF THIS SEAT. 17 by the template 'for every input the law returns true; each argument reads behind the call as it read before'; 0 by the template 'total and deterministic' (their statements: YtgbiffpnfpdcoaaTotals.lean).
  GIVEN WITH THE SEED: the statements are not yours to turn. If you find one false, say at which input.
  Laid BY PROGRAM, IN A SANDBOX (cutbox-rows.mjs): the forced cells as the released guide's own fill.sh prints them over the translation 01b64c9470210d5c… (all of the seat's roots in one cut). By AI agents, Wed Nov 11 2026. No macro, syntax, notation, axiom, sorry.
-/
import Derived.Test.YtgbiffpnfpdcoaaChecked
import GoSem.Claim
import GoSem.ClaimJoined
import GoSem.ClaimMapViews
import Derived.JoinedTies
import Derived.KernelRfl
namespace Go.Proofs.Ytgbiffpnfpdcoaa
/- THE CELL 'sum', in the pinned program and in every row, IS THE sha256 OF THE DUMP (.gsa) THAT YtgbiffpnfpdcoaaProg.lean LOADS. Nothing in Lean hashes anything: it is a label: what it is worth is what the hold of that sum in a sandbox is worth. -/
noncomputable def Try.pinned : Pinned := { name := "ytgbiffpnfpdcoaa", sum := "01b64c9470210d5c245033ea37e085c7d4fb1d222b8f695b3f31804160d8260a", checked := Try.checked }
namespace Rows
def none {H : Type} : Left H := { results := [], args := [] }

/-- 'cartularylaw03.SuperNone': WHATEVER THE INPUT: true; the input reads as it did. -/
def superNoneSpec : ChangeSpec := { name := "superNone", fn := fun _ => fun
  | [d1, d2] => { results := [.lit (.bool true)], args := [d1, d2] }
  | _ => none }
def superNoneRow : OpenClaim := { program := "ytgbiffpnfpdcoaa", sum := "01b64c9470210d5c245033ea37e085c7d4fb1d222b8f695b3f31804160d8260a", func := "cartulary/cartularylaw03.SuperNone", spec := "superNone", unfollowed := true, recurses := true, apart := false }
def SuperNoneSaid : Prop := superNoneRow.holds Try.pinned (OpenSpec.ofChange superNoneSpec)

/-- ITS FALSE NEIGHBOUR: 'it returns false'. Refute it at one input. -/
def superNoneWrong : ChangeSpec := { name := "superNone", fn := fun _ => fun
  | [d1, d2] => { results := [.lit (.bool false)], args := [d1, d2] }
  | _ => none }
def SuperNoneWrongFalsely : Prop := superNoneRow.holds Try.pinned (OpenSpec.ofChange superNoneWrong)

/-- 'cartularylaw03.SuperTwo': WHATEVER THE INPUT: true; the input reads as it did. -/
def superTwoSpec : ChangeSpec := { name := "superTwo", fn := fun _ => fun
  | [d1, d2] => { results := [.lit (.bool true)], args := [d1, d2] }
  | _ => none }
def superTwoRow : OpenClaim := { program := "ytgbiffpnfpdcoaa", sum := "01b64c9470210d5c245033ea37e085c7d4fb1d222b8f695b3f31804160d8260a", func := "cartulary/cartularylaw03.SuperTwo", spec := "superTwo", unfollowed := true, recurses := true, apart := false }
def SuperTwoSaid : Prop := superTwoRow.holds Try.pinned (OpenSpec.ofChange superTwoSpec)

/-- ITS FALSE NEIGHBOUR: 'it returns false'. Refute it at one input. -/
def superTwoWrong : ChangeSpec := { name := "superTwo", fn := fun _ => fun
  | [d1, d2] => { results := [.lit (.bool false)], args := [d1, d2] }
  | _ => none }
def SuperTwoWrongFalsely : Prop := superTwoRow.holds Try.pinned (OpenSpec.ofChange superTwoWrong)

/-- 'cartularylaw02.BlockdevPicks': WHATEVER THE INPUT: true; the input reads as it did. -/
def blockdevPicksSpec : ChangeSpec := { name := "blockdevPicks", fn := fun _ => fun
  | [d1, d2, d3] => { results := [.lit (.bool true)], args := [d1, d2, d3] }
  | _ => none }
def blockdevPicksRow : OpenClaim := { program := "ytgbiffpnfpdcoaa", sum := "01b64c9470210d5c245033ea37e085c7d4fb1d222b8f695b3f31804160d8260a", func := "cartulary/cartularylaw02.BlockdevPicks", spec := "blockdevPicks", unfollowed := true, recurses := true, apart := false }
def BlockdevPicksSaid : Prop := blockdevPicksRow.holds Try.pinned (OpenSpec.ofChange blockdevPicksSpec)

/-- ITS FALSE NEIGHBOUR: 'it returns false'. Refute it at one input. -/
def blockdevPicksWrong : ChangeSpec := { name := "blockdevPicks", fn := fun _ => fun
  | [d1, d2, d3] => { results := [.lit (.bool false)], args := [d1, d2, d3] }
  | _ => none }
def BlockdevPicksWrongFalsely : Prop := blockdevPicksRow.holds Try.pinned (OpenSpec.ofChange blockdevPicksWrong)

/-- 'cartularylaw02.BlockdevKeeps': WHATEVER THE INPUT: true; the input reads as it did. -/
def blockdevKeepsSpec : ChangeSpec := { name := "blockdevKeeps", fn := fun _ => fun
  | [d1, d2, d3] => { results := [.lit (.bool true)], args := [d1, d2, d3] }
  | _ => none }
def blockdevKeepsRow : OpenClaim := { program := "ytgbiffpnfpdcoaa", sum := "01b64c9470210d5c245033ea37e085c7d4fb1d222b8f695b3f31804160d8260a", func := "cartulary/cartularylaw02.BlockdevKeeps", spec := "blockdevKeeps", unfollowed := true, recurses := true, apart := false }
def BlockdevKeepsSaid : Prop := blockdevKeepsRow.holds Try.pinned (OpenSpec.ofChange blockdevKeepsSpec)

/-- ITS FALSE NEIGHBOUR: 'it returns false'. Refute it at one input. -/
def blockdevKeepsWrong : ChangeSpec := { name := "blockdevKeeps", fn := fun _ => fun
  | [d1, d2, d3] => { results := [.lit (.bool false)], args := [d1, d2, d3] }
  | _ => none }
def BlockdevKeepsWrongFalsely : Prop := blockdevKeepsRow.holds Try.pinned (OpenSpec.ofChange blockdevKeepsWrong)

/-- 'cartularylaw02.BlockdevFuses': WHATEVER THE INPUT: true; the input reads as it did. -/
def blockdevFusesSpec : ChangeSpec := { name := "blockdevFuses", fn := fun _ => fun
  | [d1, d2] => { results := [.lit (.bool true)], args := [d1, d2] }
  | _ => none }
def blockdevFusesRow : OpenClaim := { program := "ytgbiffpnfpdcoaa", sum := "01b64c9470210d5c245033ea37e085c7d4fb1d222b8f695b3f31804160d8260a", func := "cartulary/cartularylaw02.BlockdevFuses", spec := "blockdevFuses", unfollowed := true, recurses := true, apart := false }
def BlockdevFusesSaid : Prop := blockdevFusesRow.holds Try.pinned (OpenSpec.ofChange blockdevFusesSpec)

/-- ITS FALSE NEIGHBOUR: 'it returns false'. Refute it at one input. -/
def blockdevFusesWrong : ChangeSpec := { name := "blockdevFuses", fn := fun _ => fun
  | [d1, d2] => { results := [.lit (.bool false)], args := [d1, d2] }
  | _ => none }
def BlockdevFusesWrongFalsely : Prop := blockdevFusesRow.holds Try.pinned (OpenSpec.ofChange blockdevFusesWrong)

/-- 'cartularylaw02.BlockdevApart': WHATEVER THE INPUT: true; the input reads as it did. -/
def blockdevApartSpec : ChangeSpec := { name := "blockdevApart", fn := fun _ => fun
  | [d1, d2, d3, d4] => { results := [.lit (.bool true)], args := [d1, d2, d3, d4] }
  | _ => none }
def blockdevApartRow : OpenClaim := { program := "ytgbiffpnfpdcoaa", sum := "01b64c9470210d5c245033ea37e085c7d4fb1d222b8f695b3f31804160d8260a", func := "cartulary/cartularylaw02.BlockdevApart", spec := "blockdevApart", unfollowed := true, recurses := true, apart := false }
def BlockdevApartSaid : Prop := blockdevApartRow.holds Try.pinned (OpenSpec.ofChange blockdevApartSpec)

/-- ITS FALSE NEIGHBOUR: 'it returns false'. Refute it at one input. -/
def blockdevApartWrong : ChangeSpec := { name := "blockdevApart", fn := fun _ => fun
  | [d1, d2, d3, d4] => { results := [.lit (.bool false)], args := [d1, d2, d3, d4] }
  | _ => none }
def BlockdevApartWrongFalsely : Prop := blockdevApartRow.holds Try.pinned (OpenSpec.ofChange blockdevApartWrong)

/-- 'cartularylaw02.BlockdevPlays': WHATEVER THE INPUT: true; the input reads as it did. -/
def blockdevPlaysSpec : ChangeSpec := { name := "blockdevPlays", fn := fun _ => fun
  | [d1, d2] => { results := [.lit (.bool true)], args := [d1, d2] }
  | _ => none }
def blockdevPlaysRow : OpenClaim := { program := "ytgbiffpnfpdcoaa", sum := "01b64c9470210d5c245033ea37e085c7d4fb1d222b8f695b3f31804160d8260a", func := "cartulary/cartularylaw02.BlockdevPlays", spec := "blockdevPlays", unfollowed := true, recurses := true, apart := false }
def BlockdevPlaysSaid : Prop := blockdevPlaysRow.holds Try.pinned (OpenSpec.ofChange blockdevPlaysSpec)

/-- ITS FALSE NEIGHBOUR: 'it returns false'. Refute it at one input. -/
def blockdevPlaysWrong : ChangeSpec := { name := "blockdevPlays", fn := fun _ => fun
  | [d1, d2] => { results := [.lit (.bool false)], args := [d1, d2] }
  | _ => none }
def BlockdevPlaysWrongFalsely : Prop := blockdevPlaysRow.holds Try.pinned (OpenSpec.ofChange blockdevPlaysWrong)

/-- 'cartularylaw02.BlockdevNone': WHATEVER THE INPUT: true; the input reads as it did. -/
def blockdevNoneSpec : ChangeSpec := { name := "blockdevNone", fn := fun _ => fun
  | [d1, d2, d3] => { results := [.lit (.bool true)], args := [d1, d2, d3] }
  | _ => none }
def blockdevNoneRow : OpenClaim := { program := "ytgbiffpnfpdcoaa", sum := "01b64c9470210d5c245033ea37e085c7d4fb1d222b8f695b3f31804160d8260a", func := "cartulary/cartularylaw02.BlockdevNone", spec := "blockdevNone", unfollowed := true, recurses := true, apart := false }
def BlockdevNoneSaid : Prop := blockdevNoneRow.holds Try.pinned (OpenSpec.ofChange blockdevNoneSpec)

/-- ITS FALSE NEIGHBOUR: 'it returns false'. Refute it at one input. -/
def blockdevNoneWrong : ChangeSpec := { name := "blockdevNone", fn := fun _ => fun
  | [d1, d2, d3] => { results := [.lit (.bool false)], args := [d1, d2, d3] }
  | _ => none }
def BlockdevNoneWrongFalsely : Prop := blockdevNoneRow.holds Try.pinned (OpenSpec.ofChange blockdevNoneWrong)

/-- 'cartularylaw03.SuperAlone': WHATEVER THE INPUT: true; the input reads as it did. -/
def superAloneSpec : ChangeSpec := { name := "superAlone", fn := fun _ => fun
  | [d1, d2, d3] => { results := [.lit (.bool true)], args := [d1, d2, d3] }
  | _ => none }
def superAloneRow : OpenClaim := { program := "ytgbiffpnfpdcoaa", sum := "01b64c9470210d5c245033ea37e085c7d4fb1d222b8f695b3f31804160d8260a", func := "cartulary/cartularylaw03.SuperAlone", spec := "superAlone", unfollowed := true, recurses := true, apart := false }
def SuperAloneSaid : Prop := superAloneRow.holds Try.pinned (OpenSpec.ofChange superAloneSpec)

/-- ITS FALSE NEIGHBOUR: 'it returns false'. Refute it at one input. -/
def superAloneWrong : ChangeSpec := { name := "superAlone", fn := fun _ => fun
  | [d1, d2, d3] => { results := [.lit (.bool false)], args := [d1, d2, d3] }
  | _ => none }
def SuperAloneWrongFalsely : Prop := superAloneRow.holds Try.pinned (OpenSpec.ofChange superAloneWrong)

/-- 'cartularylaw03.SuperCounts': WHATEVER THE INPUT: true; the input reads as it did. -/
def superCountsSpec : ChangeSpec := { name := "superCounts", fn := fun _ => fun
  | [d1, d2] => { results := [.lit (.bool true)], args := [d1, d2] }
  | _ => none }
def superCountsRow : OpenClaim := { program := "ytgbiffpnfpdcoaa", sum := "01b64c9470210d5c245033ea37e085c7d4fb1d222b8f695b3f31804160d8260a", func := "cartulary/cartularylaw03.SuperCounts", spec := "superCounts", unfollowed := true, recurses := true, apart := false }
def SuperCountsSaid : Prop := superCountsRow.holds Try.pinned (OpenSpec.ofChange superCountsSpec)

/-- ITS FALSE NEIGHBOUR: 'it returns false'. Refute it at one input. -/
def superCountsWrong : ChangeSpec := { name := "superCounts", fn := fun _ => fun
  | [d1, d2] => { results := [.lit (.bool false)], args := [d1, d2] }
  | _ => none }
def SuperCountsWrongFalsely : Prop := superCountsRow.holds Try.pinned (OpenSpec.ofChange superCountsWrong)

/-- 'cartularylaw03.SuperHolds': WHATEVER THE INPUT: true; the input reads as it did. -/
def superHoldsSpec : ChangeSpec := { name := "superHolds", fn := fun _ => fun
  | [d1, d2, d3, d4, d5] => { results := [.lit (.bool true)], args := [d1, d2, d3, d4, d5] }
  | _ => none }
def superHoldsRow : OpenClaim := { program := "ytgbiffpnfpdcoaa", sum := "01b64c9470210d5c245033ea37e085c7d4fb1d222b8f695b3f31804160d8260a", func := "cartulary/cartularylaw03.SuperHolds", spec := "superHolds", unfollowed := true, recurses := true, apart := false }
def SuperHoldsSaid : Prop := superHoldsRow.holds Try.pinned (OpenSpec.ofChange superHoldsSpec)

/-- ITS FALSE NEIGHBOUR: 'it returns false'. Refute it at one input. -/
def superHoldsWrong : ChangeSpec := { name := "superHolds", fn := fun _ => fun
  | [d1, d2, d3, d4, d5] => { results := [.lit (.bool false)], args := [d1, d2, d3, d4, d5] }
  | _ => none }
def SuperHoldsWrongFalsely : Prop := superHoldsRow.holds Try.pinned (OpenSpec.ofChange superHoldsWrong)

/-- 'cartularylaw04.JournalRoom': WHATEVER THE INPUT: true; the input reads as it did. -/
def journalRoomSpec : ChangeSpec := { name := "journalRoom", fn := fun _ => fun
  | [d1, d2] => { results := [.lit (.bool true)], args := [d1, d2] }
  | _ => none }
def journalRoomRow : OpenClaim := { program := "ytgbiffpnfpdcoaa", sum := "01b64c9470210d5c245033ea37e085c7d4fb1d222b8f695b3f31804160d8260a", func := "cartulary/cartularylaw04.JournalRoom", spec := "journalRoom", unfollowed := true, recurses := true, apart := false }
def JournalRoomSaid : Prop := journalRoomRow.holds Try.pinned (OpenSpec.ofChange journalRoomSpec)

/-- ITS FALSE NEIGHBOUR: 'it returns false'. Refute it at one input. -/
def journalRoomWrong : ChangeSpec := { name := "journalRoom", fn := fun _ => fun
  | [d1, d2] => { results := [.lit (.bool false)], args := [d1, d2] }
  | _ => none }
def JournalRoomWrongFalsely : Prop := journalRoomRow.holds Try.pinned (OpenSpec.ofChange journalRoomWrong)

/-- 'cartularylaw04.JournalNone': WHATEVER THE INPUT: true; the input reads as it did. -/
def journalNoneSpec : ChangeSpec := { name := "journalNone", fn := fun _ => fun
  | [d1, d2] => { results := [.lit (.bool true)], args := [d1, d2] }
  | _ => none }
def journalNoneRow : OpenClaim := { program := "ytgbiffpnfpdcoaa", sum := "01b64c9470210d5c245033ea37e085c7d4fb1d222b8f695b3f31804160d8260a", func := "cartulary/cartularylaw04.JournalNone", spec := "journalNone", unfollowed := true, recurses := true, apart := false }
def JournalNoneSaid : Prop := journalNoneRow.holds Try.pinned (OpenSpec.ofChange journalNoneSpec)

/-- ITS FALSE NEIGHBOUR: 'it returns false'. Refute it at one input. -/
def journalNoneWrong : ChangeSpec := { name := "journalNone", fn := fun _ => fun
  | [d1, d2] => { results := [.lit (.bool false)], args := [d1, d2] }
  | _ => none }
def JournalNoneWrongFalsely : Prop := journalNoneRow.holds Try.pinned (OpenSpec.ofChange journalNoneWrong)

/-- 'cartularylaw04.JournalPuts': WHATEVER THE INPUT: true; the input reads as it did. -/
def journalPutsSpec : ChangeSpec := { name := "journalPuts", fn := fun _ => fun
  | [d1, d2, d3] => { results := [.lit (.bool true)], args := [d1, d2, d3] }
  | _ => none }
def journalPutsRow : OpenClaim := { program := "ytgbiffpnfpdcoaa", sum := "01b64c9470210d5c245033ea37e085c7d4fb1d222b8f695b3f31804160d8260a", func := "cartulary/cartularylaw04.JournalPuts", spec := "journalPuts", unfollowed := true, recurses := true, apart := false }
def JournalPutsSaid : Prop := journalPutsRow.holds Try.pinned (OpenSpec.ofChange journalPutsSpec)

/-- ITS FALSE NEIGHBOUR: 'it returns false'. Refute it at one input. -/
def journalPutsWrong : ChangeSpec := { name := "journalPuts", fn := fun _ => fun
  | [d1, d2, d3] => { results := [.lit (.bool false)], args := [d1, d2, d3] }
  | _ => none }
def JournalPutsWrongFalsely : Prop := journalPutsRow.holds Try.pinned (OpenSpec.ofChange journalPutsWrong)

/-- 'cartularylaw04.JournalAtoms': WHATEVER THE INPUT: true; the input reads as it did. -/
def journalAtomsSpec : ChangeSpec := { name := "journalAtoms", fn := fun _ => fun
  | [d1, d2, d3, d4] => { results := [.lit (.bool true)], args := [d1, d2, d3, d4] }
  | _ => none }
def journalAtomsRow : OpenClaim := { program := "ytgbiffpnfpdcoaa", sum := "01b64c9470210d5c245033ea37e085c7d4fb1d222b8f695b3f31804160d8260a", func := "cartulary/cartularylaw04.JournalAtoms", spec := "journalAtoms", unfollowed := true, recurses := true, apart := false }
def JournalAtomsSaid : Prop := journalAtomsRow.holds Try.pinned (OpenSpec.ofChange journalAtomsSpec)

/-- ITS FALSE NEIGHBOUR: 'it returns false'. Refute it at one input. -/
def journalAtomsWrong : ChangeSpec := { name := "journalAtoms", fn := fun _ => fun
  | [d1, d2, d3, d4] => { results := [.lit (.bool false)], args := [d1, d2, d3, d4] }
  | _ => none }
def JournalAtomsWrongFalsely : Prop := journalAtomsRow.holds Try.pinned (OpenSpec.ofChange journalAtomsWrong)

/-- 'cartularylaw04.JournalGhosts': WHATEVER THE INPUT: true; the input reads as it did. -/
def journalGhostsSpec : ChangeSpec := { name := "journalGhosts", fn := fun _ => fun
  | [d1, d2, d3, d4, d5, d6] => { results := [.lit (.bool true)], args := [d1, d2, d3, d4, d5, d6] }
  | _ => none }
def journalGhostsRow : OpenClaim := { program := "ytgbiffpnfpdcoaa", sum := "01b64c9470210d5c245033ea37e085c7d4fb1d222b8f695b3f31804160d8260a", func := "cartulary/cartularylaw04.JournalGhosts", spec := "journalGhosts", unfollowed := true, recurses := true, apart := false }
def JournalGhostsSaid : Prop := journalGhostsRow.holds Try.pinned (OpenSpec.ofChange journalGhostsSpec)

/-- ITS FALSE NEIGHBOUR: 'it returns false'. Refute it at one input. -/
def journalGhostsWrong : ChangeSpec := { name := "journalGhosts", fn := fun _ => fun
  | [d1, d2, d3, d4, d5, d6] => { results := [.lit (.bool false)], args := [d1, d2, d3, d4, d5, d6] }
  | _ => none }
def JournalGhostsWrongFalsely : Prop := journalGhostsRow.holds Try.pinned (OpenSpec.ofChange journalGhostsWrong)

/-- 'cartularylaw04.JournalAgain': WHATEVER THE INPUT: true; the input reads as it did. -/
def journalAgainSpec : ChangeSpec := { name := "journalAgain", fn := fun _ => fun
  | [d1, d2, d3, d4] => { results := [.lit (.bool true)], args := [d1, d2, d3, d4] }
  | _ => none }
def journalAgainRow : OpenClaim := { program := "ytgbiffpnfpdcoaa", sum := "01b64c9470210d5c245033ea37e085c7d4fb1d222b8f695b3f31804160d8260a", func := "cartulary/cartularylaw04.JournalAgain", spec := "journalAgain", unfollowed := true, recurses := true, apart := false }
def JournalAgainSaid : Prop := journalAgainRow.holds Try.pinned (OpenSpec.ofChange journalAgainSpec)

/-- ITS FALSE NEIGHBOUR: 'it returns false'. Refute it at one input. -/
def journalAgainWrong : ChangeSpec := { name := "journalAgain", fn := fun _ => fun
  | [d1, d2, d3, d4] => { results := [.lit (.bool false)], args := [d1, d2, d3, d4] }
  | _ => none }
def JournalAgainWrongFalsely : Prop := journalAgainRow.holds Try.pinned (OpenSpec.ofChange journalAgainWrong)

/- THE SECOND FORM. 'bulk': how many values and letters a reading holds, each counted each time it is reached (what is shared counts as often as it is met; a slice's spare places count too). A statement '..UptoSaid' is the law's where the arguments, and the package variables that the reading takes, are together of bulk at most 1048576: NARROWER than '..Said'. Prove '..Said' where nothing that the law and all that it calls make is longer than what came in: it says more and counts as full. Else prove '..UptoSaid'. A law counts once. -/
mutual
def uptoBulk {H : Type} : DataW H → Nat
  | .lit (.string bytes) => bytes.length + 1
  | .lit _ => 1
  | .nil => 1
  | .ptr d => uptoBulk d + 1
  | .slice elems spare => uptoBulkAll elems + uptoBulkAll spare + 1
  | .agg parts => uptoBulkAll parts + 1
  | .iface _ d => uptoBulk d + 1
  | .map entries => uptoBulkEntries entries + 1
  | .held _ => 1
def uptoBulkAll {H : Type} : List (DataW H) → Nat
  | [] => 0
  | d :: r => uptoBulk d + uptoBulkAll r
def uptoBulkEntries {H : Type} : List (Lit × DataW H) → Nat
  | [] => 0
  | x :: r => uptoBulkEntry x + uptoBulkEntries r
def uptoBulkEntry {H : Type} : Lit × DataW H → Nat
  | (.string bytes, d) => bytes.length + uptoBulk d + 1
  | (_, d) => uptoBulk d + 1
 end
def uptoSmall : (H : Type) → List (DataW H) → Bool := fun _ ds => decide (uptoBulkAll ds ≤ 1048576)
def OpenSpec.upto (s : _root_.Go.ChangeSpec) : _root_.Go.OpenSpec := { _root_.Go.OpenSpec.ofChange s with cond := some uptoSmall }

/-- 'cartularylaw03.SuperNone', WHERE WHAT IT READS IS OF BULK AT MOST 1048576: true; the input reads as it did. -/
def superNoneUptoRow : OpenClaim := { program := "ytgbiffpnfpdcoaa", sum := "01b64c9470210d5c245033ea37e085c7d4fb1d222b8f695b3f31804160d8260a", func := "cartulary/cartularylaw03.SuperNone", spec := "superNone", unfollowed := true, recurses := true, apart := false, narrowed := true }
def SuperNoneUptoSaid : Prop := superNoneUptoRow.holds Try.pinned (OpenSpec.upto superNoneSpec)

/-- 'cartularylaw03.SuperTwo', WHERE WHAT IT READS IS OF BULK AT MOST 1048576: true; the input reads as it did. -/
def superTwoUptoRow : OpenClaim := { program := "ytgbiffpnfpdcoaa", sum := "01b64c9470210d5c245033ea37e085c7d4fb1d222b8f695b3f31804160d8260a", func := "cartulary/cartularylaw03.SuperTwo", spec := "superTwo", unfollowed := true, recurses := true, apart := false, narrowed := true }
def SuperTwoUptoSaid : Prop := superTwoUptoRow.holds Try.pinned (OpenSpec.upto superTwoSpec)

/-- 'cartularylaw02.BlockdevPicks', WHERE WHAT IT READS IS OF BULK AT MOST 1048576: true; the input reads as it did. -/
def blockdevPicksUptoRow : OpenClaim := { program := "ytgbiffpnfpdcoaa", sum := "01b64c9470210d5c245033ea37e085c7d4fb1d222b8f695b3f31804160d8260a", func := "cartulary/cartularylaw02.BlockdevPicks", spec := "blockdevPicks", unfollowed := true, recurses := true, apart := false, narrowed := true }
def BlockdevPicksUptoSaid : Prop := blockdevPicksUptoRow.holds Try.pinned (OpenSpec.upto blockdevPicksSpec)

/-- 'cartularylaw02.BlockdevKeeps', WHERE WHAT IT READS IS OF BULK AT MOST 1048576: true; the input reads as it did. -/
def blockdevKeepsUptoRow : OpenClaim := { program := "ytgbiffpnfpdcoaa", sum := "01b64c9470210d5c245033ea37e085c7d4fb1d222b8f695b3f31804160d8260a", func := "cartulary/cartularylaw02.BlockdevKeeps", spec := "blockdevKeeps", unfollowed := true, recurses := true, apart := false, narrowed := true }
def BlockdevKeepsUptoSaid : Prop := blockdevKeepsUptoRow.holds Try.pinned (OpenSpec.upto blockdevKeepsSpec)

/-- 'cartularylaw02.BlockdevFuses', WHERE WHAT IT READS IS OF BULK AT MOST 1048576: true; the input reads as it did. -/
def blockdevFusesUptoRow : OpenClaim := { program := "ytgbiffpnfpdcoaa", sum := "01b64c9470210d5c245033ea37e085c7d4fb1d222b8f695b3f31804160d8260a", func := "cartulary/cartularylaw02.BlockdevFuses", spec := "blockdevFuses", unfollowed := true, recurses := true, apart := false, narrowed := true }
def BlockdevFusesUptoSaid : Prop := blockdevFusesUptoRow.holds Try.pinned (OpenSpec.upto blockdevFusesSpec)

/-- 'cartularylaw02.BlockdevApart', WHERE WHAT IT READS IS OF BULK AT MOST 1048576: true; the input reads as it did. -/
def blockdevApartUptoRow : OpenClaim := { program := "ytgbiffpnfpdcoaa", sum := "01b64c9470210d5c245033ea37e085c7d4fb1d222b8f695b3f31804160d8260a", func := "cartulary/cartularylaw02.BlockdevApart", spec := "blockdevApart", unfollowed := true, recurses := true, apart := false, narrowed := true }
def BlockdevApartUptoSaid : Prop := blockdevApartUptoRow.holds Try.pinned (OpenSpec.upto blockdevApartSpec)

/-- 'cartularylaw02.BlockdevPlays', WHERE WHAT IT READS IS OF BULK AT MOST 1048576: true; the input reads as it did. -/
def blockdevPlaysUptoRow : OpenClaim := { program := "ytgbiffpnfpdcoaa", sum := "01b64c9470210d5c245033ea37e085c7d4fb1d222b8f695b3f31804160d8260a", func := "cartulary/cartularylaw02.BlockdevPlays", spec := "blockdevPlays", unfollowed := true, recurses := true, apart := false, narrowed := true }
def BlockdevPlaysUptoSaid : Prop := blockdevPlaysUptoRow.holds Try.pinned (OpenSpec.upto blockdevPlaysSpec)

/-- 'cartularylaw02.BlockdevNone', WHERE WHAT IT READS IS OF BULK AT MOST 1048576: true; the input reads as it did. -/
def blockdevNoneUptoRow : OpenClaim := { program := "ytgbiffpnfpdcoaa", sum := "01b64c9470210d5c245033ea37e085c7d4fb1d222b8f695b3f31804160d8260a", func := "cartulary/cartularylaw02.BlockdevNone", spec := "blockdevNone", unfollowed := true, recurses := true, apart := false, narrowed := true }
def BlockdevNoneUptoSaid : Prop := blockdevNoneUptoRow.holds Try.pinned (OpenSpec.upto blockdevNoneSpec)

/-- 'cartularylaw03.SuperAlone', WHERE WHAT IT READS IS OF BULK AT MOST 1048576: true; the input reads as it did. -/
def superAloneUptoRow : OpenClaim := { program := "ytgbiffpnfpdcoaa", sum := "01b64c9470210d5c245033ea37e085c7d4fb1d222b8f695b3f31804160d8260a", func := "cartulary/cartularylaw03.SuperAlone", spec := "superAlone", unfollowed := true, recurses := true, apart := false, narrowed := true }
def SuperAloneUptoSaid : Prop := superAloneUptoRow.holds Try.pinned (OpenSpec.upto superAloneSpec)

/-- 'cartularylaw03.SuperCounts', WHERE WHAT IT READS IS OF BULK AT MOST 1048576: true; the input reads as it did. -/
def superCountsUptoRow : OpenClaim := { program := "ytgbiffpnfpdcoaa", sum := "01b64c9470210d5c245033ea37e085c7d4fb1d222b8f695b3f31804160d8260a", func := "cartulary/cartularylaw03.SuperCounts", spec := "superCounts", unfollowed := true, recurses := true, apart := false, narrowed := true }
def SuperCountsUptoSaid : Prop := superCountsUptoRow.holds Try.pinned (OpenSpec.upto superCountsSpec)

/-- 'cartularylaw03.SuperHolds', WHERE WHAT IT READS IS OF BULK AT MOST 1048576: true; the input reads as it did. -/
def superHoldsUptoRow : OpenClaim := { program := "ytgbiffpnfpdcoaa", sum := "01b64c9470210d5c245033ea37e085c7d4fb1d222b8f695b3f31804160d8260a", func := "cartulary/cartularylaw03.SuperHolds", spec := "superHolds", unfollowed := true, recurses := true, apart := false, narrowed := true }
def SuperHoldsUptoSaid : Prop := superHoldsUptoRow.holds Try.pinned (OpenSpec.upto superHoldsSpec)

/-- 'cartularylaw04.JournalRoom', WHERE WHAT IT READS IS OF BULK AT MOST 1048576: true; the input reads as it did. -/
def journalRoomUptoRow : OpenClaim := { program := "ytgbiffpnfpdcoaa", sum := "01b64c9470210d5c245033ea37e085c7d4fb1d222b8f695b3f31804160d8260a", func := "cartulary/cartularylaw04.JournalRoom", spec := "journalRoom", unfollowed := true, recurses := true, apart := false, narrowed := true }
def JournalRoomUptoSaid : Prop := journalRoomUptoRow.holds Try.pinned (OpenSpec.upto journalRoomSpec)

/-- 'cartularylaw04.JournalNone', WHERE WHAT IT READS IS OF BULK AT MOST 1048576: true; the input reads as it did. -/
def journalNoneUptoRow : OpenClaim := { program := "ytgbiffpnfpdcoaa", sum := "01b64c9470210d5c245033ea37e085c7d4fb1d222b8f695b3f31804160d8260a", func := "cartulary/cartularylaw04.JournalNone", spec := "journalNone", unfollowed := true, recurses := true, apart := false, narrowed := true }
def JournalNoneUptoSaid : Prop := journalNoneUptoRow.holds Try.pinned (OpenSpec.upto journalNoneSpec)

/-- 'cartularylaw04.JournalPuts', WHERE WHAT IT READS IS OF BULK AT MOST 1048576: true; the input reads as it did. -/
def journalPutsUptoRow : OpenClaim := { program := "ytgbiffpnfpdcoaa", sum := "01b64c9470210d5c245033ea37e085c7d4fb1d222b8f695b3f31804160d8260a", func := "cartulary/cartularylaw04.JournalPuts", spec := "journalPuts", unfollowed := true, recurses := true, apart := false, narrowed := true }
def JournalPutsUptoSaid : Prop := journalPutsUptoRow.holds Try.pinned (OpenSpec.upto journalPutsSpec)

/-- 'cartularylaw04.JournalAtoms', WHERE WHAT IT READS IS OF BULK AT MOST 1048576: true; the input reads as it did. -/
def journalAtomsUptoRow : OpenClaim := { program := "ytgbiffpnfpdcoaa", sum := "01b64c9470210d5c245033ea37e085c7d4fb1d222b8f695b3f31804160d8260a", func := "cartulary/cartularylaw04.JournalAtoms", spec := "journalAtoms", unfollowed := true, recurses := true, apart := false, narrowed := true }
def JournalAtomsUptoSaid : Prop := journalAtomsUptoRow.holds Try.pinned (OpenSpec.upto journalAtomsSpec)

/-- 'cartularylaw04.JournalGhosts', WHERE WHAT IT READS IS OF BULK AT MOST 1048576: true; the input reads as it did. -/
def journalGhostsUptoRow : OpenClaim := { program := "ytgbiffpnfpdcoaa", sum := "01b64c9470210d5c245033ea37e085c7d4fb1d222b8f695b3f31804160d8260a", func := "cartulary/cartularylaw04.JournalGhosts", spec := "journalGhosts", unfollowed := true, recurses := true, apart := false, narrowed := true }
def JournalGhostsUptoSaid : Prop := journalGhostsUptoRow.holds Try.pinned (OpenSpec.upto journalGhostsSpec)

/-- 'cartularylaw04.JournalAgain', WHERE WHAT IT READS IS OF BULK AT MOST 1048576: true; the input reads as it did. -/
def journalAgainUptoRow : OpenClaim := { program := "ytgbiffpnfpdcoaa", sum := "01b64c9470210d5c245033ea37e085c7d4fb1d222b8f695b3f31804160d8260a", func := "cartulary/cartularylaw04.JournalAgain", spec := "journalAgain", unfollowed := true, recurses := true, apart := false, narrowed := true }
def JournalAgainUptoSaid : Prop := journalAgainUptoRow.holds Try.pinned (OpenSpec.upto journalAgainSpec)

end Rows
end Go.Proofs.Ytgbiffpnfpdcoaa
