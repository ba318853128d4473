/-
  No cell of these rows narrows 'for every input' (looked for: loops, veiled, ifaces, maps, wideKeys, modest, calm, conditions, laid).
  DERIVED. THE GIVEN ROWS OF THIS SEAT. 12 by the template 'for every input the law returns true; each argument reads behind the call as it read before'; 0 by the template 'total and deterministic' (their statements: YthmpikbbkoblfaaTotals.lean).
  GIVEN WITH THE SEED: the statements are not yours to turn. If you find one false, say at which input.
  Laid BY PROGRAM, IN A SANDBOX (cutbox-rows.mjs): the forced cells as the released guide's own fill.sh prints them over the translation ff2f7ad504a800fe… (all of the seat's roots in one cut). By AI agents, Wed Nov 11 2026. No macro, syntax, notation, axiom, sorry.
-/
import Derived.Test.YthmpikbbkoblfaaChecked
import GoSem.Claim
import GoSem.ClaimJoined
import GoSem.ClaimMapViews
import Derived.JoinedTies
import Derived.KernelRfl
namespace Go.Proofs.Ythmpikbbkoblfaa
/- THE CELL 'sum', in the pinned program and in every row, IS THE sha256 OF THE DUMP (.gsa) THAT YthmpikbbkoblfaaProg.lean LOADS. Nothing in Lean hashes anything: it is a label: what it is worth is what the hold of that sum in a sandbox is worth. -/
noncomputable def Try.pinned : Pinned := { name := "ythmpikbbkoblfaa", sum := "ff2f7ad504a800fe93b7aafa9398e9b22514250ca92eeea3d3e661ae3fbb495b", checked := Try.checked }
namespace Rows
def none {H : Type} : Left H := { results := [], args := [] }

/-- 'cartularylaw01.CodecSums': WHATEVER THE INPUT: true; the input reads as it did. -/
def codecSumsSpec : ChangeSpec := { name := "codecSums", fn := fun _ => fun
  | [d1, d2] => { results := [.lit (.bool true)], args := [d1, d2] }
  | _ => none }
def codecSumsRow : OpenClaim := { program := "ythmpikbbkoblfaa", sum := "ff2f7ad504a800fe93b7aafa9398e9b22514250ca92eeea3d3e661ae3fbb495b", func := "cartulary/cartularylaw01.CodecSums", spec := "codecSums", apart := false }
def CodecSumsSaid : Prop := codecSumsRow.holds Try.pinned (OpenSpec.ofChange codecSumsSpec)

/-- ITS FALSE NEIGHBOUR: 'it returns false'. Refute it at one input. -/
def codecSumsWrong : ChangeSpec := { name := "codecSums", fn := fun _ => fun
  | [d1, d2] => { results := [.lit (.bool false)], args := [d1, d2] }
  | _ => none }
def CodecSumsWrongFalsely : Prop := codecSumsRow.holds Try.pinned (OpenSpec.ofChange codecSumsWrong)

/-- 'cartularylaw01.CodecFrames': WHATEVER THE INPUT: true; the input reads as it did. -/
def codecFramesSpec : ChangeSpec := { name := "codecFrames", fn := fun _ => fun
  | [d1, d2, d3] => { results := [.lit (.bool true)], args := [d1, d2, d3] }
  | _ => none }
def codecFramesRow : OpenClaim := { program := "ythmpikbbkoblfaa", sum := "ff2f7ad504a800fe93b7aafa9398e9b22514250ca92eeea3d3e661ae3fbb495b", func := "cartulary/cartularylaw01.CodecFrames", spec := "codecFrames", apart := false }
def CodecFramesSaid : Prop := codecFramesRow.holds Try.pinned (OpenSpec.ofChange codecFramesSpec)

/-- ITS FALSE NEIGHBOUR: 'it returns false'. Refute it at one input. -/
def codecFramesWrong : ChangeSpec := { name := "codecFrames", fn := fun _ => fun
  | [d1, d2, d3] => { results := [.lit (.bool false)], args := [d1, d2, d3] }
  | _ => none }
def CodecFramesWrongFalsely : Prop := codecFramesRow.holds Try.pinned (OpenSpec.ofChange codecFramesWrong)

/-- 'cartularylaw01.CodecFlips': WHATEVER THE INPUT: true; the input reads as it did. -/
def codecFlipsSpec : ChangeSpec := { name := "codecFlips", fn := fun _ => fun
  | [d1, d2, d3] => { results := [.lit (.bool true)], args := [d1, d2, d3] }
  | _ => none }
def codecFlipsRow : OpenClaim := { program := "ythmpikbbkoblfaa", sum := "ff2f7ad504a800fe93b7aafa9398e9b22514250ca92eeea3d3e661ae3fbb495b", func := "cartulary/cartularylaw01.CodecFlips", spec := "codecFlips", apart := false }
def CodecFlipsSaid : Prop := codecFlipsRow.holds Try.pinned (OpenSpec.ofChange codecFlipsSpec)

/-- ITS FALSE NEIGHBOUR: 'it returns false'. Refute it at one input. -/
def codecFlipsWrong : ChangeSpec := { name := "codecFlips", fn := fun _ => fun
  | [d1, d2, d3] => { results := [.lit (.bool false)], args := [d1, d2, d3] }
  | _ => none }
def CodecFlipsWrongFalsely : Prop := codecFlipsRow.holds Try.pinned (OpenSpec.ofChange codecFlipsWrong)

/-- 'cartularylaw01.CodecLimits': WHATEVER THE INPUT: true; the input reads as it did. -/
def codecLimitsSpec : ChangeSpec := { name := "codecLimits", fn := fun _ => fun
  | [] => { results := [.lit (.bool true)], args := [] }
  | _ => none }
def codecLimitsRow : OpenClaim := { program := "ythmpikbbkoblfaa", sum := "ff2f7ad504a800fe93b7aafa9398e9b22514250ca92eeea3d3e661ae3fbb495b", func := "cartulary/cartularylaw01.CodecLimits", spec := "codecLimits", apart := false }
def CodecLimitsSaid : Prop := codecLimitsRow.holds Try.pinned (OpenSpec.ofChange codecLimitsSpec)

/-- ITS FALSE NEIGHBOUR: 'it returns false'. Refute it at one input. -/
def codecLimitsWrong : ChangeSpec := { name := "codecLimits", fn := fun _ => fun
  | [] => { results := [.lit (.bool false)], args := [] }
  | _ => none }
def CodecLimitsWrongFalsely : Prop := codecLimitsRow.holds Try.pinned (OpenSpec.ofChange codecLimitsWrong)

/-- 'cartularylaw06.InodeTiles': WHATEVER THE INPUT: true; the input reads as it did. -/
def inodeTilesSpec : ChangeSpec := { name := "inodeTiles", fn := fun _ => fun
  | [d1, d2] => { results := [.lit (.bool true)], args := [d1, d2] }
  | _ => none }
def inodeTilesRow : OpenClaim := { program := "ythmpikbbkoblfaa", sum := "ff2f7ad504a800fe93b7aafa9398e9b22514250ca92eeea3d3e661ae3fbb495b", func := "cartulary/cartularylaw06.InodeTiles", spec := "inodeTiles", apart := false }
def InodeTilesSaid : Prop := inodeTilesRow.holds Try.pinned (OpenSpec.ofChange inodeTilesSpec)

/-- ITS FALSE NEIGHBOUR: 'it returns false'. Refute it at one input. -/
def inodeTilesWrong : ChangeSpec := { name := "inodeTiles", fn := fun _ => fun
  | [d1, d2] => { results := [.lit (.bool false)], args := [d1, d2] }
  | _ => none }
def InodeTilesWrongFalsely : Prop := inodeTilesRow.holds Try.pinned (OpenSpec.ofChange inodeTilesWrong)

/-- 'cartularylaw01.CodecScans': WHATEVER THE INPUT: true; the input reads as it did. -/
def codecScansSpec : ChangeSpec := { name := "codecScans", fn := fun _ => fun
  | [d1, d2] => { results := [.lit (.bool true)], args := [d1, d2] }
  | _ => none }
def codecScansRow : OpenClaim := { program := "ythmpikbbkoblfaa", sum := "ff2f7ad504a800fe93b7aafa9398e9b22514250ca92eeea3d3e661ae3fbb495b", func := "cartulary/cartularylaw01.CodecScans", spec := "codecScans", apart := false }
def CodecScansSaid : Prop := codecScansRow.holds Try.pinned (OpenSpec.ofChange codecScansSpec)

/-- ITS FALSE NEIGHBOUR: 'it returns false'. Refute it at one input. -/
def codecScansWrong : ChangeSpec := { name := "codecScans", fn := fun _ => fun
  | [d1, d2] => { results := [.lit (.bool false)], args := [d1, d2] }
  | _ => none }
def CodecScansWrongFalsely : Prop := codecScansRow.holds Try.pinned (OpenSpec.ofChange codecScansWrong)

/-- 'cartularylaw01.CodecPrefixes': WHATEVER THE INPUT: true; the input reads as it did. -/
def codecPrefixesSpec : ChangeSpec := { name := "codecPrefixes", fn := fun _ => fun
  | [d1, d2] => { results := [.lit (.bool true)], args := [d1, d2] }
  | _ => none }
def codecPrefixesRow : OpenClaim := { program := "ythmpikbbkoblfaa", sum := "ff2f7ad504a800fe93b7aafa9398e9b22514250ca92eeea3d3e661ae3fbb495b", func := "cartulary/cartularylaw01.CodecPrefixes", spec := "codecPrefixes", apart := false }
def CodecPrefixesSaid : Prop := codecPrefixesRow.holds Try.pinned (OpenSpec.ofChange codecPrefixesSpec)

/-- ITS FALSE NEIGHBOUR: 'it returns false'. Refute it at one input. -/
def codecPrefixesWrong : ChangeSpec := { name := "codecPrefixes", fn := fun _ => fun
  | [d1, d2] => { results := [.lit (.bool false)], args := [d1, d2] }
  | _ => none }
def CodecPrefixesWrongFalsely : Prop := codecPrefixesRow.holds Try.pinned (OpenSpec.ofChange codecPrefixesWrong)

/-- 'cartularylaw10.StreamsRaces': WHATEVER THE INPUT: true; the input reads as it did. -/
def streamsRacesSpec : ChangeSpec := { name := "streamsRaces", fn := fun _ => fun
  | [d1, d2, d3, d4] => { results := [.lit (.bool true)], args := [d1, d2, d3, d4] }
  | _ => none }
def streamsRacesRow : OpenClaim := { program := "ythmpikbbkoblfaa", sum := "ff2f7ad504a800fe93b7aafa9398e9b22514250ca92eeea3d3e661ae3fbb495b", func := "cartulary/cartularylaw10.StreamsRaces", spec := "streamsRaces", apart := false }
def StreamsRacesSaid : Prop := streamsRacesRow.holds Try.pinned (OpenSpec.ofChange streamsRacesSpec)

/-- ITS FALSE NEIGHBOUR: 'it returns false'. Refute it at one input. -/
def streamsRacesWrong : ChangeSpec := { name := "streamsRaces", fn := fun _ => fun
  | [d1, d2, d3, d4] => { results := [.lit (.bool false)], args := [d1, d2, d3, d4] }
  | _ => none }
def StreamsRacesWrongFalsely : Prop := streamsRacesRow.holds Try.pinned (OpenSpec.ofChange streamsRacesWrong)

/-- 'cartularylaw01.CodecReads': WHATEVER THE INPUT: true; the input reads as it did. -/
def codecReadsSpec : ChangeSpec := { name := "codecReads", fn := fun _ => fun
  | [d1, d2] => { results := [.lit (.bool true)], args := [d1, d2] }
  | _ => none }
def codecReadsRow : OpenClaim := { program := "ythmpikbbkoblfaa", sum := "ff2f7ad504a800fe93b7aafa9398e9b22514250ca92eeea3d3e661ae3fbb495b", func := "cartulary/cartularylaw01.CodecReads", spec := "codecReads", apart := false }
def CodecReadsSaid : Prop := codecReadsRow.holds Try.pinned (OpenSpec.ofChange codecReadsSpec)

/-- ITS FALSE NEIGHBOUR: 'it returns false'. Refute it at one input. -/
def codecReadsWrong : ChangeSpec := { name := "codecReads", fn := fun _ => fun
  | [d1, d2] => { results := [.lit (.bool false)], args := [d1, d2] }
  | _ => none }
def CodecReadsWrongFalsely : Prop := codecReadsRow.holds Try.pinned (OpenSpec.ofChange codecReadsWrong)

/-- 'cartularylaw10.StreamsKeys': WHATEVER THE INPUT: true; the input reads as it did. -/
def streamsKeysSpec : ChangeSpec := { name := "streamsKeys", fn := fun _ => fun
  | [d1, d2, d3, d4, d5, d6] => { results := [.lit (.bool true)], args := [d1, d2, d3, d4, d5, d6] }
  | _ => none }
def streamsKeysRow : OpenClaim := { program := "ythmpikbbkoblfaa", sum := "ff2f7ad504a800fe93b7aafa9398e9b22514250ca92eeea3d3e661ae3fbb495b", func := "cartulary/cartularylaw10.StreamsKeys", spec := "streamsKeys", apart := false }
def StreamsKeysSaid : Prop := streamsKeysRow.holds Try.pinned (OpenSpec.ofChange streamsKeysSpec)

/-- ITS FALSE NEIGHBOUR: 'it returns false'. Refute it at one input. -/
def streamsKeysWrong : ChangeSpec := { name := "streamsKeys", fn := fun _ => fun
  | [d1, d2, d3, d4, d5, d6] => { results := [.lit (.bool false)], args := [d1, d2, d3, d4, d5, d6] }
  | _ => none }
def StreamsKeysWrongFalsely : Prop := streamsKeysRow.holds Try.pinned (OpenSpec.ofChange streamsKeysWrong)

/-- 'cartularylaw01.CodecLays': WHATEVER THE INPUT: true; the input reads as it did. -/
def codecLaysSpec : ChangeSpec := { name := "codecLays", fn := fun _ => fun
  | [d1, d2, d3, d4] => { results := [.lit (.bool true)], args := [d1, d2, d3, d4] }
  | _ => none }
def codecLaysRow : OpenClaim := { program := "ythmpikbbkoblfaa", sum := "ff2f7ad504a800fe93b7aafa9398e9b22514250ca92eeea3d3e661ae3fbb495b", func := "cartulary/cartularylaw01.CodecLays", spec := "codecLays", apart := false }
def CodecLaysSaid : Prop := codecLaysRow.holds Try.pinned (OpenSpec.ofChange codecLaysSpec)

/-- ITS FALSE NEIGHBOUR: 'it returns false'. Refute it at one input. -/
def codecLaysWrong : ChangeSpec := { name := "codecLays", fn := fun _ => fun
  | [d1, d2, d3, d4] => { results := [.lit (.bool false)], args := [d1, d2, d3, d4] }
  | _ => none }
def CodecLaysWrongFalsely : Prop := codecLaysRow.holds Try.pinned (OpenSpec.ofChange codecLaysWrong)

/-- 'cartularylaw01.CodecOrder': WHATEVER THE INPUT: true; the input reads as it did. -/
def codecOrderSpec : ChangeSpec := { name := "codecOrder", fn := fun _ => fun
  | [d1, d2, d3] => { results := [.lit (.bool true)], args := [d1, d2, d3] }
  | _ => none }
def codecOrderRow : OpenClaim := { program := "ythmpikbbkoblfaa", sum := "ff2f7ad504a800fe93b7aafa9398e9b22514250ca92eeea3d3e661ae3fbb495b", func := "cartulary/cartularylaw01.CodecOrder", spec := "codecOrder", apart := false }
def CodecOrderSaid : Prop := codecOrderRow.holds Try.pinned (OpenSpec.ofChange codecOrderSpec)

/-- ITS FALSE NEIGHBOUR: 'it returns false'. Refute it at one input. -/
def codecOrderWrong : ChangeSpec := { name := "codecOrder", fn := fun _ => fun
  | [d1, d2, d3] => { results := [.lit (.bool false)], args := [d1, d2, d3] }
  | _ => none }
def CodecOrderWrongFalsely : Prop := codecOrderRow.holds Try.pinned (OpenSpec.ofChange codecOrderWrong)

/- THE SECOND FORM. 'bulk': how many values and letters a reading holds, each counted each time it is reached (what is shared counts as often as it is met; a slice's spare places count too). A statement '..UptoSaid' is the law's where the arguments, and the package variables that the reading takes, are together of bulk at most 1048576: NARROWER than '..Said'. Prove '..Said' where nothing that the law and all that it calls make is longer than what came in: it says more and counts as full. Else prove '..UptoSaid'. A law counts once. -/
mutual
def uptoBulk {H : Type} : DataW H → Nat
  | .lit (.string bytes) => bytes.length + 1
  | .lit _ => 1
  | .nil => 1
  | .ptr d => uptoBulk d + 1
  | .slice elems spare => uptoBulkAll elems + uptoBulkAll spare + 1
  | .agg parts => uptoBulkAll parts + 1
  | .iface _ d => uptoBulk d + 1
  | .map entries => uptoBulkEntries entries + 1
  | .held _ => 1
def uptoBulkAll {H : Type} : List (DataW H) → Nat
  | [] => 0
  | d :: r => uptoBulk d + uptoBulkAll r
def uptoBulkEntries {H : Type} : List (Lit × DataW H) → Nat
  | [] => 0
  | x :: r => uptoBulkEntry x + uptoBulkEntries r
def uptoBulkEntry {H : Type} : Lit × DataW H → Nat
  | (.string bytes, d) => bytes.length + uptoBulk d + 1
  | (_, d) => uptoBulk d + 1
 end
def uptoSmall : (H : Type) → List (DataW H) → Bool := fun _ ds => decide (uptoBulkAll ds ≤ 1048576)
def OpenSpec.upto (s : _root_.Go.ChangeSpec) : _root_.Go.OpenSpec := { _root_.Go.OpenSpec.ofChange s with cond := some uptoSmall }

/-- 'cartularylaw01.CodecSums', WHERE WHAT IT READS IS OF BULK AT MOST 1048576: true; the input reads as it did. -/
def codecSumsUptoRow : OpenClaim := { program := "ythmpikbbkoblfaa", sum := "ff2f7ad504a800fe93b7aafa9398e9b22514250ca92eeea3d3e661ae3fbb495b", func := "cartulary/cartularylaw01.CodecSums", spec := "codecSums", apart := false, narrowed := true }
def CodecSumsUptoSaid : Prop := codecSumsUptoRow.holds Try.pinned (OpenSpec.upto codecSumsSpec)

/-- 'cartularylaw01.CodecFrames', WHERE WHAT IT READS IS OF BULK AT MOST 1048576: true; the input reads as it did. -/
def codecFramesUptoRow : OpenClaim := { program := "ythmpikbbkoblfaa", sum := "ff2f7ad504a800fe93b7aafa9398e9b22514250ca92eeea3d3e661ae3fbb495b", func := "cartulary/cartularylaw01.CodecFrames", spec := "codecFrames", apart := false, narrowed := true }
def CodecFramesUptoSaid : Prop := codecFramesUptoRow.holds Try.pinned (OpenSpec.upto codecFramesSpec)

/-- 'cartularylaw01.CodecFlips', WHERE WHAT IT READS IS OF BULK AT MOST 1048576: true; the input reads as it did. -/
def codecFlipsUptoRow : OpenClaim := { program := "ythmpikbbkoblfaa", sum := "ff2f7ad504a800fe93b7aafa9398e9b22514250ca92eeea3d3e661ae3fbb495b", func := "cartulary/cartularylaw01.CodecFlips", spec := "codecFlips", apart := false, narrowed := true }
def CodecFlipsUptoSaid : Prop := codecFlipsUptoRow.holds Try.pinned (OpenSpec.upto codecFlipsSpec)

/-- 'cartularylaw01.CodecLimits', WHERE WHAT IT READS IS OF BULK AT MOST 1048576: true; the input reads as it did. -/
def codecLimitsUptoRow : OpenClaim := { program := "ythmpikbbkoblfaa", sum := "ff2f7ad504a800fe93b7aafa9398e9b22514250ca92eeea3d3e661ae3fbb495b", func := "cartulary/cartularylaw01.CodecLimits", spec := "codecLimits", apart := false, narrowed := true }
def CodecLimitsUptoSaid : Prop := codecLimitsUptoRow.holds Try.pinned (OpenSpec.upto codecLimitsSpec)

/-- 'cartularylaw06.InodeTiles', WHERE WHAT IT READS IS OF BULK AT MOST 1048576: true; the input reads as it did. -/
def inodeTilesUptoRow : OpenClaim := { program := "ythmpikbbkoblfaa", sum := "ff2f7ad504a800fe93b7aafa9398e9b22514250ca92eeea3d3e661ae3fbb495b", func := "cartulary/cartularylaw06.InodeTiles", spec := "inodeTiles", apart := false, narrowed := true }
def InodeTilesUptoSaid : Prop := inodeTilesUptoRow.holds Try.pinned (OpenSpec.upto inodeTilesSpec)

/-- 'cartularylaw01.CodecScans', WHERE WHAT IT READS IS OF BULK AT MOST 1048576: true; the input reads as it did. -/
def codecScansUptoRow : OpenClaim := { program := "ythmpikbbkoblfaa", sum := "ff2f7ad504a800fe93b7aafa9398e9b22514250ca92eeea3d3e661ae3fbb495b", func := "cartulary/cartularylaw01.CodecScans", spec := "codecScans", apart := false, narrowed := true }
def CodecScansUptoSaid : Prop := codecScansUptoRow.holds Try.pinned (OpenSpec.upto codecScansSpec)

/-- 'cartularylaw01.CodecPrefixes', WHERE WHAT IT READS IS OF BULK AT MOST 1048576: true; the input reads as it did. -/
def codecPrefixesUptoRow : OpenClaim := { program := "ythmpikbbkoblfaa", sum := "ff2f7ad504a800fe93b7aafa9398e9b22514250ca92eeea3d3e661ae3fbb495b", func := "cartulary/cartularylaw01.CodecPrefixes", spec := "codecPrefixes", apart := false, narrowed := true }
def CodecPrefixesUptoSaid : Prop := codecPrefixesUptoRow.holds Try.pinned (OpenSpec.upto codecPrefixesSpec)

/-- 'cartularylaw10.StreamsRaces', WHERE WHAT IT READS IS OF BULK AT MOST 1048576: true; the input reads as it did. -/
def streamsRacesUptoRow : OpenClaim := { program := "ythmpikbbkoblfaa", sum := "ff2f7ad504a800fe93b7aafa9398e9b22514250ca92eeea3d3e661ae3fbb495b", func := "cartulary/cartularylaw10.StreamsRaces", spec := "streamsRaces", apart := false, narrowed := true }
def StreamsRacesUptoSaid : Prop := streamsRacesUptoRow.holds Try.pinned (OpenSpec.upto streamsRacesSpec)

/-- 'cartularylaw01.CodecReads', WHERE WHAT IT READS IS OF BULK AT MOST 1048576: true; the input reads as it did. -/
def codecReadsUptoRow : OpenClaim := { program := "ythmpikbbkoblfaa", sum := "ff2f7ad504a800fe93b7aafa9398e9b22514250ca92eeea3d3e661ae3fbb495b", func := "cartulary/cartularylaw01.CodecReads", spec := "codecReads", apart := false, narrowed := true }
def CodecReadsUptoSaid : Prop := codecReadsUptoRow.holds Try.pinned (OpenSpec.upto codecReadsSpec)

/-- 'cartularylaw10.StreamsKeys', WHERE WHAT IT READS IS OF BULK AT MOST 1048576: true; the input reads as it did. -/
def streamsKeysUptoRow : OpenClaim := { program := "ythmpikbbkoblfaa", sum := "ff2f7ad504a800fe93b7aafa9398e9b22514250ca92eeea3d3e661ae3fbb495b", func := "cartulary/cartularylaw10.StreamsKeys", spec := "streamsKeys", apart := false, narrowed := true }
def StreamsKeysUptoSaid : Prop := streamsKeysUptoRow.holds Try.pinned (OpenSpec.upto streamsKeysSpec)

/-- 'cartularylaw01.CodecLays', WHERE WHAT IT READS IS OF BULK AT MOST 1048576: true; the input reads as it did. -/
def codecLaysUptoRow : OpenClaim := { program := "ythmpikbbkoblfaa", sum := "ff2f7ad504a800fe93b7aafa9398e9b22514250ca92eeea3d3e661ae3fbb495b", func := "cartulary/cartularylaw01.CodecLays", spec := "codecLays", apart := false, narrowed := true }
def CodecLaysUptoSaid : Prop := codecLaysUptoRow.holds Try.pinned (OpenSpec.upto codecLaysSpec)

/-- 'cartularylaw01.CodecOrder', WHERE WHAT IT READS IS OF BULK AT MOST 1048576: true; the input reads as it did. -/
def codecOrderUptoRow : OpenClaim := { program := "ythmpikbbkoblfaa", sum := "ff2f7ad504a800fe93b7aafa9398e9b22514250ca92eeea3d3e661ae3fbb495b", func := "cartulary/cartularylaw01.CodecOrder", spec := "codecOrder", apart := false, narrowed := true }
def CodecOrderUptoSaid : Prop := codecOrderUptoRow.holds Try.pinned (OpenSpec.upto codecOrderSpec)

end Rows
end Go.Proofs.Ythmpikbbkoblfaa
