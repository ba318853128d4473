/-
  No cell of these rows narrows 'for every input' (looked for: loops, veiled, ifaces, maps, wideKeys, modest, calm, conditions, laid).
  DERIVED. THE GIVEN ROWS OF THIS SEAT. 11 by the template 'for every input the law returns true; each argument reads behind the call as it read before'; 0 by the template 'total and deterministic' (their statements: YthobhkmphjnlaaaTotals.lean).
  GIVEN WITH THE SEED: the statements are not yours to turn. If you find one false, say at which input.
  Laid BY PROGRAM, IN A SANDBOX (cutbox-rows.mjs): the forced cells as the released guide's own fill.sh prints them over the translation d49d3e631ce189e9… (all of the seat's roots in one cut). By AI agents, Wed Nov 11 2026. No macro, syntax, notation, axiom, sorry.
-/
import Derived.Test.YthobhkmphjnlaaaChecked
import GoSem.Claim
import GoSem.ClaimJoined
import GoSem.ClaimMapViews
import Derived.JoinedTies
import Derived.KernelRfl
namespace Go.Proofs.Ythobhkmphjnlaaa
/- THE CELL 'sum', in the pinned program and in every row, IS THE sha256 OF THE DUMP (.gsa) THAT YthobhkmphjnlaaaProg.lean LOADS. Nothing in Lean hashes anything: it is a label: what it is worth is what the hold of that sum in a sandbox is worth. -/
noncomputable def Try.pinned : Pinned := { name := "ythobhkmphjnlaaa", sum := "d49d3e631ce189e94592b7fad7eeb61651920982d5828f4cedb71bee0d778bd2", checked := Try.checked }
namespace Rows
def none {H : Type} : Left H := { results := [], args := [] }

/-- 'cartularylaw10.StreamsRaces': WHATEVER THE INPUT: true; the input reads as it did. -/
def streamsRacesSpec : ChangeSpec := { name := "streamsRaces", fn := fun _ => fun
  | [d1, d2, d3, d4] => { results := [.lit (.bool true)], args := [d1, d2, d3, d4] }
  | _ => none }
def streamsRacesRow : OpenClaim := { program := "ythobhkmphjnlaaa", sum := "d49d3e631ce189e94592b7fad7eeb61651920982d5828f4cedb71bee0d778bd2", func := "cartulary/cartularylaw10.StreamsRaces", spec := "streamsRaces", apart := false }
def StreamsRacesSaid : Prop := streamsRacesRow.holds Try.pinned (OpenSpec.ofChange streamsRacesSpec)

/-- ITS FALSE NEIGHBOUR: 'it returns false'. Refute it at one input. -/
def streamsRacesWrong : ChangeSpec := { name := "streamsRaces", fn := fun _ => fun
  | [d1, d2, d3, d4] => { results := [.lit (.bool false)], args := [d1, d2, d3, d4] }
  | _ => none }
def StreamsRacesWrongFalsely : Prop := streamsRacesRow.holds Try.pinned (OpenSpec.ofChange streamsRacesWrong)

/-- 'cartularylaw10.StreamsKeys': WHATEVER THE INPUT: true; the input reads as it did. -/
def streamsKeysSpec : ChangeSpec := { name := "streamsKeys", fn := fun _ => fun
  | [d1, d2, d3, d4, d5, d6] => { results := [.lit (.bool true)], args := [d1, d2, d3, d4, d5, d6] }
  | _ => none }
def streamsKeysRow : OpenClaim := { program := "ythobhkmphjnlaaa", sum := "d49d3e631ce189e94592b7fad7eeb61651920982d5828f4cedb71bee0d778bd2", func := "cartulary/cartularylaw10.StreamsKeys", spec := "streamsKeys", apart := false }
def StreamsKeysSaid : Prop := streamsKeysRow.holds Try.pinned (OpenSpec.ofChange streamsKeysSpec)

/-- ITS FALSE NEIGHBOUR: 'it returns false'. Refute it at one input. -/
def streamsKeysWrong : ChangeSpec := { name := "streamsKeys", fn := fun _ => fun
  | [d1, d2, d3, d4, d5, d6] => { results := [.lit (.bool false)], args := [d1, d2, d3, d4, d5, d6] }
  | _ => none }
def StreamsKeysWrongFalsely : Prop := streamsKeysRow.holds Try.pinned (OpenSpec.ofChange streamsKeysWrong)

/-- 'cartularylaw01.CodecChecks': WHATEVER THE INPUT: true; the input reads as it did. -/
def codecChecksSpec : ChangeSpec := { name := "codecChecks", fn := fun _ => fun
  | [d] => { results := [.lit (.bool true)], args := [d] }
  | _ => none }
def codecChecksRow : OpenClaim := { program := "ythobhkmphjnlaaa", sum := "d49d3e631ce189e94592b7fad7eeb61651920982d5828f4cedb71bee0d778bd2", func := "cartulary/cartularylaw01.CodecChecks", spec := "codecChecks", apart := false }
def CodecChecksSaid : Prop := codecChecksRow.holds Try.pinned (OpenSpec.ofChange codecChecksSpec)

/-- ITS FALSE NEIGHBOUR: 'it returns false'. Refute it at one input. -/
def codecChecksWrong : ChangeSpec := { name := "codecChecks", fn := fun _ => fun
  | [d] => { results := [.lit (.bool false)], args := [d] }
  | _ => none }
def CodecChecksWrongFalsely : Prop := codecChecksRow.holds Try.pinned (OpenSpec.ofChange codecChecksWrong)

/-- 'cartularylaw10.StreamsAgain': WHATEVER THE INPUT: true; the input reads as it did. -/
def streamsAgainSpec : ChangeSpec := { name := "streamsAgain", fn := fun _ => fun
  | [d] => { results := [.lit (.bool true)], args := [d] }
  | _ => none }
def streamsAgainRow : OpenClaim := { program := "ythobhkmphjnlaaa", sum := "d49d3e631ce189e94592b7fad7eeb61651920982d5828f4cedb71bee0d778bd2", func := "cartulary/cartularylaw10.StreamsAgain", spec := "streamsAgain", apart := false }
def StreamsAgainSaid : Prop := streamsAgainRow.holds Try.pinned (OpenSpec.ofChange streamsAgainSpec)

/-- ITS FALSE NEIGHBOUR: 'it returns false'. Refute it at one input. -/
def streamsAgainWrong : ChangeSpec := { name := "streamsAgain", fn := fun _ => fun
  | [d] => { results := [.lit (.bool false)], args := [d] }
  | _ => none }
def StreamsAgainWrongFalsely : Prop := streamsAgainRow.holds Try.pinned (OpenSpec.ofChange streamsAgainWrong)

/-- 'cartularylaw01.CodecApart': WHATEVER THE INPUT: true; the input reads as it did. -/
def codecApartSpec : ChangeSpec := { name := "codecApart", fn := fun _ => fun
  | [d1, d2] => { results := [.lit (.bool true)], args := [d1, d2] }
  | _ => none }
def codecApartRow : OpenClaim := { program := "ythobhkmphjnlaaa", sum := "d49d3e631ce189e94592b7fad7eeb61651920982d5828f4cedb71bee0d778bd2", func := "cartulary/cartularylaw01.CodecApart", spec := "codecApart", apart := false }
def CodecApartSaid : Prop := codecApartRow.holds Try.pinned (OpenSpec.ofChange codecApartSpec)

/-- ITS FALSE NEIGHBOUR: 'it returns false'. Refute it at one input. -/
def codecApartWrong : ChangeSpec := { name := "codecApart", fn := fun _ => fun
  | [d1, d2] => { results := [.lit (.bool false)], args := [d1, d2] }
  | _ => none }
def CodecApartWrongFalsely : Prop := codecApartRow.holds Try.pinned (OpenSpec.ofChange codecApartWrong)

/-- 'cartularylaw01.CodecBatches': WHATEVER THE INPUT: true; the input reads as it did. -/
def codecBatchesSpec : ChangeSpec := { name := "codecBatches", fn := fun _ => fun
  | [d1, d2] => { results := [.lit (.bool true)], args := [d1, d2] }
  | _ => none }
def codecBatchesRow : OpenClaim := { program := "ythobhkmphjnlaaa", sum := "d49d3e631ce189e94592b7fad7eeb61651920982d5828f4cedb71bee0d778bd2", func := "cartulary/cartularylaw01.CodecBatches", spec := "codecBatches", apart := false }
def CodecBatchesSaid : Prop := codecBatchesRow.holds Try.pinned (OpenSpec.ofChange codecBatchesSpec)

/-- ITS FALSE NEIGHBOUR: 'it returns false'. Refute it at one input. -/
def codecBatchesWrong : ChangeSpec := { name := "codecBatches", fn := fun _ => fun
  | [d1, d2] => { results := [.lit (.bool false)], args := [d1, d2] }
  | _ => none }
def CodecBatchesWrongFalsely : Prop := codecBatchesRow.holds Try.pinned (OpenSpec.ofChange codecBatchesWrong)

/-- 'cartularylaw01.CodecParses': WHATEVER THE INPUT: true; the input reads as it did. -/
def codecParsesSpec : ChangeSpec := { name := "codecParses", fn := fun _ => fun
  | [d] => { results := [.lit (.bool true)], args := [d] }
  | _ => none }
def codecParsesRow : OpenClaim := { program := "ythobhkmphjnlaaa", sum := "d49d3e631ce189e94592b7fad7eeb61651920982d5828f4cedb71bee0d778bd2", func := "cartulary/cartularylaw01.CodecParses", spec := "codecParses", apart := false }
def CodecParsesSaid : Prop := codecParsesRow.holds Try.pinned (OpenSpec.ofChange codecParsesSpec)

/-- ITS FALSE NEIGHBOUR: 'it returns false'. Refute it at one input. -/
def codecParsesWrong : ChangeSpec := { name := "codecParses", fn := fun _ => fun
  | [d] => { results := [.lit (.bool false)], args := [d] }
  | _ => none }
def CodecParsesWrongFalsely : Prop := codecParsesRow.holds Try.pinned (OpenSpec.ofChange codecParsesWrong)

/-- 'cartularylaw10.StreamsPieces': WHATEVER THE INPUT: true; the input reads as it did. -/
def streamsPiecesSpec : ChangeSpec := { name := "streamsPieces", fn := fun _ => fun
  | [d1, d2, d3] => { results := [.lit (.bool true)], args := [d1, d2, d3] }
  | _ => none }
def streamsPiecesRow : OpenClaim := { program := "ythobhkmphjnlaaa", sum := "d49d3e631ce189e94592b7fad7eeb61651920982d5828f4cedb71bee0d778bd2", func := "cartulary/cartularylaw10.StreamsPieces", spec := "streamsPieces", unfollowed := true, recurses := true, apart := false }
def StreamsPiecesSaid : Prop := streamsPiecesRow.holds Try.pinned (OpenSpec.ofChange streamsPiecesSpec)

/-- ITS FALSE NEIGHBOUR: 'it returns false'. Refute it at one input. -/
def streamsPiecesWrong : ChangeSpec := { name := "streamsPieces", fn := fun _ => fun
  | [d1, d2, d3] => { results := [.lit (.bool false)], args := [d1, d2, d3] }
  | _ => none }
def StreamsPiecesWrongFalsely : Prop := streamsPiecesRow.holds Try.pinned (OpenSpec.ofChange streamsPiecesWrong)

/-- 'cartularylaw10.StreamsOrder': WHATEVER THE INPUT: true; the input reads as it did. -/
def streamsOrderSpec : ChangeSpec := { name := "streamsOrder", fn := fun _ => fun
  | [d] => { results := [.lit (.bool true)], args := [d] }
  | _ => none }
def streamsOrderRow : OpenClaim := { program := "ythobhkmphjnlaaa", sum := "d49d3e631ce189e94592b7fad7eeb61651920982d5828f4cedb71bee0d778bd2", func := "cartulary/cartularylaw10.StreamsOrder", spec := "streamsOrder", unfollowed := true, recurses := true, apart := false }
def StreamsOrderSaid : Prop := streamsOrderRow.holds Try.pinned (OpenSpec.ofChange streamsOrderSpec)

/-- ITS FALSE NEIGHBOUR: 'it returns false'. Refute it at one input. -/
def streamsOrderWrong : ChangeSpec := { name := "streamsOrder", fn := fun _ => fun
  | [d] => { results := [.lit (.bool false)], args := [d] }
  | _ => none }
def StreamsOrderWrongFalsely : Prop := streamsOrderRow.holds Try.pinned (OpenSpec.ofChange streamsOrderWrong)

/-- 'cartularylaw10.StreamsPlays': WHATEVER THE INPUT: true; the input reads as it did. -/
def streamsPlaysSpec : ChangeSpec := { name := "streamsPlays", fn := fun _ => fun
  | [d] => { results := [.lit (.bool true)], args := [d] }
  | _ => none }
def streamsPlaysRow : OpenClaim := { program := "ythobhkmphjnlaaa", sum := "d49d3e631ce189e94592b7fad7eeb61651920982d5828f4cedb71bee0d778bd2", func := "cartulary/cartularylaw10.StreamsPlays", spec := "streamsPlays", unfollowed := true, recurses := true, apart := false }
def StreamsPlaysSaid : Prop := streamsPlaysRow.holds Try.pinned (OpenSpec.ofChange streamsPlaysSpec)

/-- ITS FALSE NEIGHBOUR: 'it returns false'. Refute it at one input. -/
def streamsPlaysWrong : ChangeSpec := { name := "streamsPlays", fn := fun _ => fun
  | [d] => { results := [.lit (.bool false)], args := [d] }
  | _ => none }
def StreamsPlaysWrongFalsely : Prop := streamsPlaysRow.holds Try.pinned (OpenSpec.ofChange streamsPlaysWrong)

/-- 'cartularylaw10.StreamsNone': WHATEVER THE INPUT: true; the input reads as it did. -/
def streamsNoneSpec : ChangeSpec := { name := "streamsNone", fn := fun _ => fun
  | [d1, d2] => { results := [.lit (.bool true)], args := [d1, d2] }
  | _ => none }
def streamsNoneRow : OpenClaim := { program := "ythobhkmphjnlaaa", sum := "d49d3e631ce189e94592b7fad7eeb61651920982d5828f4cedb71bee0d778bd2", func := "cartulary/cartularylaw10.StreamsNone", spec := "streamsNone", unfollowed := true, recurses := true, apart := false }
def StreamsNoneSaid : Prop := streamsNoneRow.holds Try.pinned (OpenSpec.ofChange streamsNoneSpec)

/-- ITS FALSE NEIGHBOUR: 'it returns false'. Refute it at one input. -/
def streamsNoneWrong : ChangeSpec := { name := "streamsNone", fn := fun _ => fun
  | [d1, d2] => { results := [.lit (.bool false)], args := [d1, d2] }
  | _ => none }
def StreamsNoneWrongFalsely : Prop := streamsNoneRow.holds Try.pinned (OpenSpec.ofChange streamsNoneWrong)

/- THE SECOND FORM. 'bulk': how many values and letters a reading holds, each counted each time it is reached (what is shared counts as often as it is met; a slice's spare places count too). A statement '..UptoSaid' is the law's where the arguments, and the package variables that the reading takes, are together of bulk at most 1048576: NARROWER than '..Said'. Prove '..Said' where nothing that the law and all that it calls make is longer than what came in: it says more and counts as full. Else prove '..UptoSaid'. A law counts once. -/
mutual
def uptoBulk {H : Type} : DataW H → Nat
  | .lit (.string bytes) => bytes.length + 1
  | .lit _ => 1
  | .nil => 1
  | .ptr d => uptoBulk d + 1
  | .slice elems spare => uptoBulkAll elems + uptoBulkAll spare + 1
  | .agg parts => uptoBulkAll parts + 1
  | .iface _ d => uptoBulk d + 1
  | .map entries => uptoBulkEntries entries + 1
  | .held _ => 1
def uptoBulkAll {H : Type} : List (DataW H) → Nat
  | [] => 0
  | d :: r => uptoBulk d + uptoBulkAll r
def uptoBulkEntries {H : Type} : List (Lit × DataW H) → Nat
  | [] => 0
  | x :: r => uptoBulkEntry x + uptoBulkEntries r
def uptoBulkEntry {H : Type} : Lit × DataW H → Nat
  | (.string bytes, d) => bytes.length + uptoBulk d + 1
  | (_, d) => uptoBulk d + 1
 end
def uptoSmall : (H : Type) → List (DataW H) → Bool := fun _ ds => decide (uptoBulkAll ds ≤ 1048576)
def OpenSpec.upto (s : _root_.Go.ChangeSpec) : _root_.Go.OpenSpec := { _root_.Go.OpenSpec.ofChange s with cond := some uptoSmall }

/-- 'cartularylaw10.StreamsRaces', WHERE WHAT IT READS IS OF BULK AT MOST 1048576: true; the input reads as it did. -/
def streamsRacesUptoRow : OpenClaim := { program := "ythobhkmphjnlaaa", sum := "d49d3e631ce189e94592b7fad7eeb61651920982d5828f4cedb71bee0d778bd2", func := "cartulary/cartularylaw10.StreamsRaces", spec := "streamsRaces", apart := false, narrowed := true }
def StreamsRacesUptoSaid : Prop := streamsRacesUptoRow.holds Try.pinned (OpenSpec.upto streamsRacesSpec)

/-- 'cartularylaw10.StreamsKeys', WHERE WHAT IT READS IS OF BULK AT MOST 1048576: true; the input reads as it did. -/
def streamsKeysUptoRow : OpenClaim := { program := "ythobhkmphjnlaaa", sum := "d49d3e631ce189e94592b7fad7eeb61651920982d5828f4cedb71bee0d778bd2", func := "cartulary/cartularylaw10.StreamsKeys", spec := "streamsKeys", apart := false, narrowed := true }
def StreamsKeysUptoSaid : Prop := streamsKeysUptoRow.holds Try.pinned (OpenSpec.upto streamsKeysSpec)

/-- 'cartularylaw01.CodecChecks', WHERE WHAT IT READS IS OF BULK AT MOST 1048576: true; the input reads as it did. -/
def codecChecksUptoRow : OpenClaim := { program := "ythobhkmphjnlaaa", sum := "d49d3e631ce189e94592b7fad7eeb61651920982d5828f4cedb71bee0d778bd2", func := "cartulary/cartularylaw01.CodecChecks", spec := "codecChecks", apart := false, narrowed := true }
def CodecChecksUptoSaid : Prop := codecChecksUptoRow.holds Try.pinned (OpenSpec.upto codecChecksSpec)

/-- 'cartularylaw10.StreamsAgain', WHERE WHAT IT READS IS OF BULK AT MOST 1048576: true; the input reads as it did. -/
def streamsAgainUptoRow : OpenClaim := { program := "ythobhkmphjnlaaa", sum := "d49d3e631ce189e94592b7fad7eeb61651920982d5828f4cedb71bee0d778bd2", func := "cartulary/cartularylaw10.StreamsAgain", spec := "streamsAgain", apart := false, narrowed := true }
def StreamsAgainUptoSaid : Prop := streamsAgainUptoRow.holds Try.pinned (OpenSpec.upto streamsAgainSpec)

/-- 'cartularylaw01.CodecApart', WHERE WHAT IT READS IS OF BULK AT MOST 1048576: true; the input reads as it did. -/
def codecApartUptoRow : OpenClaim := { program := "ythobhkmphjnlaaa", sum := "d49d3e631ce189e94592b7fad7eeb61651920982d5828f4cedb71bee0d778bd2", func := "cartulary/cartularylaw01.CodecApart", spec := "codecApart", apart := false, narrowed := true }
def CodecApartUptoSaid : Prop := codecApartUptoRow.holds Try.pinned (OpenSpec.upto codecApartSpec)

/-- 'cartularylaw01.CodecBatches', WHERE WHAT IT READS IS OF BULK AT MOST 1048576: true; the input reads as it did. -/
def codecBatchesUptoRow : OpenClaim := { program := "ythobhkmphjnlaaa", sum := "d49d3e631ce189e94592b7fad7eeb61651920982d5828f4cedb71bee0d778bd2", func := "cartulary/cartularylaw01.CodecBatches", spec := "codecBatches", apart := false, narrowed := true }
def CodecBatchesUptoSaid : Prop := codecBatchesUptoRow.holds Try.pinned (OpenSpec.upto codecBatchesSpec)

/-- 'cartularylaw01.CodecParses', WHERE WHAT IT READS IS OF BULK AT MOST 1048576: true; the input reads as it did. -/
def codecParsesUptoRow : OpenClaim := { program := "ythobhkmphjnlaaa", sum := "d49d3e631ce189e94592b7fad7eeb61651920982d5828f4cedb71bee0d778bd2", func := "cartulary/cartularylaw01.CodecParses", spec := "codecParses", apart := false, narrowed := true }
def CodecParsesUptoSaid : Prop := codecParsesUptoRow.holds Try.pinned (OpenSpec.upto codecParsesSpec)

/-- 'cartularylaw10.StreamsPieces', WHERE WHAT IT READS IS OF BULK AT MOST 1048576: true; the input reads as it did. -/
def streamsPiecesUptoRow : OpenClaim := { program := "ythobhkmphjnlaaa", sum := "d49d3e631ce189e94592b7fad7eeb61651920982d5828f4cedb71bee0d778bd2", func := "cartulary/cartularylaw10.StreamsPieces", spec := "streamsPieces", unfollowed := true, recurses := true, apart := false, narrowed := true }
def StreamsPiecesUptoSaid : Prop := streamsPiecesUptoRow.holds Try.pinned (OpenSpec.upto streamsPiecesSpec)

/-- 'cartularylaw10.StreamsOrder', WHERE WHAT IT READS IS OF BULK AT MOST 1048576: true; the input reads as it did. -/
def streamsOrderUptoRow : OpenClaim := { program := "ythobhkmphjnlaaa", sum := "d49d3e631ce189e94592b7fad7eeb61651920982d5828f4cedb71bee0d778bd2", func := "cartulary/cartularylaw10.StreamsOrder", spec := "streamsOrder", unfollowed := true, recurses := true, apart := false, narrowed := true }
def StreamsOrderUptoSaid : Prop := streamsOrderUptoRow.holds Try.pinned (OpenSpec.upto streamsOrderSpec)

/-- 'cartularylaw10.StreamsPlays', WHERE WHAT IT READS IS OF BULK AT MOST 1048576: true; the input reads as it did. -/
def streamsPlaysUptoRow : OpenClaim := { program := "ythobhkmphjnlaaa", sum := "d49d3e631ce189e94592b7fad7eeb61651920982d5828f4cedb71bee0d778bd2", func := "cartulary/cartularylaw10.StreamsPlays", spec := "streamsPlays", unfollowed := true, recurses := true, apart := false, narrowed := true }
def StreamsPlaysUptoSaid : Prop := streamsPlaysUptoRow.holds Try.pinned (OpenSpec.upto streamsPlaysSpec)

/-- 'cartularylaw10.StreamsNone', WHERE WHAT IT READS IS OF BULK AT MOST 1048576: true; the input reads as it did. -/
def streamsNoneUptoRow : OpenClaim := { program := "ythobhkmphjnlaaa", sum := "d49d3e631ce189e94592b7fad7eeb61651920982d5828f4cedb71bee0d778bd2", func := "cartulary/cartularylaw10.StreamsNone", spec := "streamsNone", unfollowed := true, recurses := true, apart := false, narrowed := true }
def StreamsNoneUptoSaid : Prop := streamsNoneUptoRow.holds Try.pinned (OpenSpec.upto streamsNoneSpec)

end Rows
end Go.Proofs.Ythobhkmphjnlaaa
