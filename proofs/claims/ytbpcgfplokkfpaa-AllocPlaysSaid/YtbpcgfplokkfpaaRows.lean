/-
  No cell of these rows narrows 'for every input' (looked for: loops, veiled, ifaces, maps, wideKeys, modest, calm, conditions, laid).
  DERIVED. THE GIVEN ROWS OF THIS SEAT. 13 by the template 'for every input the law returns true; each argument reads behind the call as it read before'; 0 by the template 'total and deterministic' (their statements: YtbpcgfplokkfpaaTotals.lean).
  GIVEN WITH THE SEED: the statements are not yours to turn. If you find one false, say at which input.
  Laid BY PROGRAM, IN A SANDBOX (cutbox-rows.mjs): the forced cells as the released guide's own fill.sh prints them over the translation 2d6f69623e857240… (all of the seat's roots in one cut). By AI agents, Wed Nov 11 2026. No macro, syntax, notation, axiom, sorry.
-/
import Derived.Test.YtbpcgfplokkfpaaChecked
import GoSem.Claim
import GoSem.ClaimJoined
import GoSem.ClaimMapViews
import Derived.JoinedTies
import Derived.KernelRfl
namespace Go.Proofs.Ytbpcgfplokkfpaa
/- THE CELL 'sum', in the pinned program and in every row, IS THE sha256 OF THE DUMP (.gsa) THAT YtbpcgfplokkfpaaProg.lean LOADS. Nothing in Lean hashes anything: it is a label: what it is worth is what the hold of that sum in a sandbox is worth. -/
noncomputable def Try.pinned : Pinned := { name := "ytbpcgfplokkfpaa", sum := "2d6f69623e8572407f0639227d4baf12e6f98ebae0ae3d4402da97a23bbc1022", checked := Try.checked }
namespace Rows
def none {H : Type} : Left H := { results := [], args := [] }

/-- 'cartularylaw06.InodeTiles': WHATEVER THE INPUT: true; the input reads as it did. -/
def inodeTilesSpec : ChangeSpec := { name := "inodeTiles", fn := fun _ => fun
  | [d1, d2] => { results := [.lit (.bool true)], args := [d1, d2] }
  | _ => none }
def inodeTilesRow : OpenClaim := { program := "ytbpcgfplokkfpaa", sum := "2d6f69623e8572407f0639227d4baf12e6f98ebae0ae3d4402da97a23bbc1022", func := "cartulary/cartularylaw06.InodeTiles", spec := "inodeTiles", apart := false }
def InodeTilesSaid : Prop := inodeTilesRow.holds Try.pinned (OpenSpec.ofChange inodeTilesSpec)

/-- ITS FALSE NEIGHBOUR: 'it returns false'. Refute it at one input. -/
def inodeTilesWrong : ChangeSpec := { name := "inodeTiles", fn := fun _ => fun
  | [d1, d2] => { results := [.lit (.bool false)], args := [d1, d2] }
  | _ => none }
def InodeTilesWrongFalsely : Prop := inodeTilesRow.holds Try.pinned (OpenSpec.ofChange inodeTilesWrong)

/-- 'cartularylaw05.AllocApart': WHATEVER THE INPUT: true; the input reads as it did. -/
def allocApartSpec : ChangeSpec := { name := "allocApart", fn := fun _ => fun
  | [d1, d2] => { results := [.lit (.bool true)], args := [d1, d2] }
  | _ => none }
def allocApartRow : OpenClaim := { program := "ytbpcgfplokkfpaa", sum := "2d6f69623e8572407f0639227d4baf12e6f98ebae0ae3d4402da97a23bbc1022", func := "cartulary/cartularylaw05.AllocApart", spec := "allocApart", unfollowed := true, recurses := true, apart := false }
def AllocApartSaid : Prop := allocApartRow.holds Try.pinned (OpenSpec.ofChange allocApartSpec)

/-- ITS FALSE NEIGHBOUR: 'it returns false'. Refute it at one input. -/
def allocApartWrong : ChangeSpec := { name := "allocApart", fn := fun _ => fun
  | [d1, d2] => { results := [.lit (.bool false)], args := [d1, d2] }
  | _ => none }
def AllocApartWrongFalsely : Prop := allocApartRow.holds Try.pinned (OpenSpec.ofChange allocApartWrong)

/-- 'cartularylaw05.AllocFirst': WHATEVER THE INPUT: true; the input reads as it did. -/
def allocFirstSpec : ChangeSpec := { name := "allocFirst", fn := fun _ => fun
  | [d1, d2, d3] => { results := [.lit (.bool true)], args := [d1, d2, d3] }
  | _ => none }
def allocFirstRow : OpenClaim := { program := "ytbpcgfplokkfpaa", sum := "2d6f69623e8572407f0639227d4baf12e6f98ebae0ae3d4402da97a23bbc1022", func := "cartulary/cartularylaw05.AllocFirst", spec := "allocFirst", unfollowed := true, recurses := true, apart := false }
def AllocFirstSaid : Prop := allocFirstRow.holds Try.pinned (OpenSpec.ofChange allocFirstSpec)

/-- ITS FALSE NEIGHBOUR: 'it returns false'. Refute it at one input. -/
def allocFirstWrong : ChangeSpec := { name := "allocFirst", fn := fun _ => fun
  | [d1, d2, d3] => { results := [.lit (.bool false)], args := [d1, d2, d3] }
  | _ => none }
def AllocFirstWrongFalsely : Prop := allocFirstRow.holds Try.pinned (OpenSpec.ofChange allocFirstWrong)

/-- 'cartularylaw05.AllocResets': WHATEVER THE INPUT: true; the input reads as it did. -/
def allocResetsSpec : ChangeSpec := { name := "allocResets", fn := fun _ => fun
  | [d1, d2, d3] => { results := [.lit (.bool true)], args := [d1, d2, d3] }
  | _ => none }
def allocResetsRow : OpenClaim := { program := "ytbpcgfplokkfpaa", sum := "2d6f69623e8572407f0639227d4baf12e6f98ebae0ae3d4402da97a23bbc1022", func := "cartulary/cartularylaw05.AllocResets", spec := "allocResets", unfollowed := true, recurses := true, apart := false }
def AllocResetsSaid : Prop := allocResetsRow.holds Try.pinned (OpenSpec.ofChange allocResetsSpec)

/-- ITS FALSE NEIGHBOUR: 'it returns false'. Refute it at one input. -/
def allocResetsWrong : ChangeSpec := { name := "allocResets", fn := fun _ => fun
  | [d1, d2, d3] => { results := [.lit (.bool false)], args := [d1, d2, d3] }
  | _ => none }
def AllocResetsWrongFalsely : Prop := allocResetsRow.holds Try.pinned (OpenSpec.ofChange allocResetsWrong)

/-- 'cartularylaw05.AllocPlays': WHATEVER THE INPUT: true; the input reads as it did. -/
def allocPlaysSpec : ChangeSpec := { name := "allocPlays", fn := fun _ => fun
  | [d1, d2] => { results := [.lit (.bool true)], args := [d1, d2] }
  | _ => none }
def allocPlaysRow : OpenClaim := { program := "ytbpcgfplokkfpaa", sum := "2d6f69623e8572407f0639227d4baf12e6f98ebae0ae3d4402da97a23bbc1022", func := "cartulary/cartularylaw05.AllocPlays", spec := "allocPlays", unfollowed := true, recurses := true, apart := false }
def AllocPlaysSaid : Prop := allocPlaysRow.holds Try.pinned (OpenSpec.ofChange allocPlaysSpec)

/-- ITS FALSE NEIGHBOUR: 'it returns false'. Refute it at one input. -/
def allocPlaysWrong : ChangeSpec := { name := "allocPlays", fn := fun _ => fun
  | [d1, d2] => { results := [.lit (.bool false)], args := [d1, d2] }
  | _ => none }
def AllocPlaysWrongFalsely : Prop := allocPlaysRow.holds Try.pinned (OpenSpec.ofChange allocPlaysWrong)

/-- 'cartularylaw06.InodeCuts': WHATEVER THE INPUT: true; the input reads as it did. -/
def inodeCutsSpec : ChangeSpec := { name := "inodeCuts", fn := fun _ => fun
  | [d1, d2, d3, d4] => { results := [.lit (.bool true)], args := [d1, d2, d3, d4] }
  | _ => none }
def inodeCutsRow : OpenClaim := { program := "ytbpcgfplokkfpaa", sum := "2d6f69623e8572407f0639227d4baf12e6f98ebae0ae3d4402da97a23bbc1022", func := "cartulary/cartularylaw06.InodeCuts", spec := "inodeCuts", apart := false }
def InodeCutsSaid : Prop := inodeCutsRow.holds Try.pinned (OpenSpec.ofChange inodeCutsSpec)

/-- ITS FALSE NEIGHBOUR: 'it returns false'. Refute it at one input. -/
def inodeCutsWrong : ChangeSpec := { name := "inodeCuts", fn := fun _ => fun
  | [d1, d2, d3, d4] => { results := [.lit (.bool false)], args := [d1, d2, d3, d4] }
  | _ => none }
def InodeCutsWrongFalsely : Prop := inodeCutsRow.holds Try.pinned (OpenSpec.ofChange inodeCutsWrong)

/-- 'cartularylaw06.InodeShrinks': WHATEVER THE INPUT: true; the input reads as it did. -/
def inodeShrinksSpec : ChangeSpec := { name := "inodeShrinks", fn := fun _ => fun
  | [d1, d2, d3] => { results := [.lit (.bool true)], args := [d1, d2, d3] }
  | _ => none }
def inodeShrinksRow : OpenClaim := { program := "ytbpcgfplokkfpaa", sum := "2d6f69623e8572407f0639227d4baf12e6f98ebae0ae3d4402da97a23bbc1022", func := "cartulary/cartularylaw06.InodeShrinks", spec := "inodeShrinks", apart := false }
def InodeShrinksSaid : Prop := inodeShrinksRow.holds Try.pinned (OpenSpec.ofChange inodeShrinksSpec)

/-- ITS FALSE NEIGHBOUR: 'it returns false'. Refute it at one input. -/
def inodeShrinksWrong : ChangeSpec := { name := "inodeShrinks", fn := fun _ => fun
  | [d1, d2, d3] => { results := [.lit (.bool false)], args := [d1, d2, d3] }
  | _ => none }
def InodeShrinksWrongFalsely : Prop := inodeShrinksRow.holds Try.pinned (OpenSpec.ofChange inodeShrinksWrong)

/-- 'cartularylaw06.InodeCopies': WHATEVER THE INPUT: true; the input reads as it did. -/
def inodeCopiesSpec : ChangeSpec := { name := "inodeCopies", fn := fun _ => fun
  | [d1, d2, d3] => { results := [.lit (.bool true)], args := [d1, d2, d3] }
  | _ => none }
def inodeCopiesRow : OpenClaim := { program := "ytbpcgfplokkfpaa", sum := "2d6f69623e8572407f0639227d4baf12e6f98ebae0ae3d4402da97a23bbc1022", func := "cartulary/cartularylaw06.InodeCopies", spec := "inodeCopies", apart := false }
def InodeCopiesSaid : Prop := inodeCopiesRow.holds Try.pinned (OpenSpec.ofChange inodeCopiesSpec)

/-- ITS FALSE NEIGHBOUR: 'it returns false'. Refute it at one input. -/
def inodeCopiesWrong : ChangeSpec := { name := "inodeCopies", fn := fun _ => fun
  | [d1, d2, d3] => { results := [.lit (.bool false)], args := [d1, d2, d3] }
  | _ => none }
def InodeCopiesWrongFalsely : Prop := inodeCopiesRow.holds Try.pinned (OpenSpec.ofChange inodeCopiesWrong)

/-- 'cartularylaw06.InodePlays': WHATEVER THE INPUT: true; the input reads as it did. -/
def inodePlaysSpec : ChangeSpec := { name := "inodePlays", fn := fun _ => fun
  | [d] => { results := [.lit (.bool true)], args := [d] }
  | _ => none }
def inodePlaysRow : OpenClaim := { program := "ytbpcgfplokkfpaa", sum := "2d6f69623e8572407f0639227d4baf12e6f98ebae0ae3d4402da97a23bbc1022", func := "cartulary/cartularylaw06.InodePlays", spec := "inodePlays", apart := false }
def InodePlaysSaid : Prop := inodePlaysRow.holds Try.pinned (OpenSpec.ofChange inodePlaysSpec)

/-- ITS FALSE NEIGHBOUR: 'it returns false'. Refute it at one input. -/
def inodePlaysWrong : ChangeSpec := { name := "inodePlays", fn := fun _ => fun
  | [d] => { results := [.lit (.bool false)], args := [d] }
  | _ => none }
def InodePlaysWrongFalsely : Prop := inodePlaysRow.holds Try.pinned (OpenSpec.ofChange inodePlaysWrong)

/-- 'cartularylaw06.InodeNone': WHATEVER THE INPUT: true; the input reads as it did. -/
def inodeNoneSpec : ChangeSpec := { name := "inodeNone", fn := fun _ => fun
  | [d1, d2] => { results := [.lit (.bool true)], args := [d1, d2] }
  | _ => none }
def inodeNoneRow : OpenClaim := { program := "ytbpcgfplokkfpaa", sum := "2d6f69623e8572407f0639227d4baf12e6f98ebae0ae3d4402da97a23bbc1022", func := "cartulary/cartularylaw06.InodeNone", spec := "inodeNone", apart := false }
def InodeNoneSaid : Prop := inodeNoneRow.holds Try.pinned (OpenSpec.ofChange inodeNoneSpec)

/-- ITS FALSE NEIGHBOUR: 'it returns false'. Refute it at one input. -/
def inodeNoneWrong : ChangeSpec := { name := "inodeNone", fn := fun _ => fun
  | [d1, d2] => { results := [.lit (.bool false)], args := [d1, d2] }
  | _ => none }
def InodeNoneWrongFalsely : Prop := inodeNoneRow.holds Try.pinned (OpenSpec.ofChange inodeNoneWrong)

/-- 'cartularylaw06.InodeReads': WHATEVER THE INPUT: true; the input reads as it did. -/
def inodeReadsSpec : ChangeSpec := { name := "inodeReads", fn := fun _ => fun
  | [d] => { results := [.lit (.bool true)], args := [d] }
  | _ => none }
def inodeReadsRow : OpenClaim := { program := "ytbpcgfplokkfpaa", sum := "2d6f69623e8572407f0639227d4baf12e6f98ebae0ae3d4402da97a23bbc1022", func := "cartulary/cartularylaw06.InodeReads", spec := "inodeReads", unfollowed := true, recurses := true, apart := false }
def InodeReadsSaid : Prop := inodeReadsRow.holds Try.pinned (OpenSpec.ofChange inodeReadsSpec)

/-- ITS FALSE NEIGHBOUR: 'it returns false'. Refute it at one input. -/
def inodeReadsWrong : ChangeSpec := { name := "inodeReads", fn := fun _ => fun
  | [d] => { results := [.lit (.bool false)], args := [d] }
  | _ => none }
def InodeReadsWrongFalsely : Prop := inodeReadsRow.holds Try.pinned (OpenSpec.ofChange inodeReadsWrong)

/-- 'cartularylaw06.InodeBack': WHATEVER THE INPUT: true; the input reads as it did. -/
def inodeBackSpec : ChangeSpec := { name := "inodeBack", fn := fun _ => fun
  | [d1, d2] => { results := [.lit (.bool true)], args := [d1, d2] }
  | _ => none }
def inodeBackRow : OpenClaim := { program := "ytbpcgfplokkfpaa", sum := "2d6f69623e8572407f0639227d4baf12e6f98ebae0ae3d4402da97a23bbc1022", func := "cartulary/cartularylaw06.InodeBack", spec := "inodeBack", unfollowed := true, recurses := true, apart := false }
def InodeBackSaid : Prop := inodeBackRow.holds Try.pinned (OpenSpec.ofChange inodeBackSpec)

/-- ITS FALSE NEIGHBOUR: 'it returns false'. Refute it at one input. -/
def inodeBackWrong : ChangeSpec := { name := "inodeBack", fn := fun _ => fun
  | [d1, d2] => { results := [.lit (.bool false)], args := [d1, d2] }
  | _ => none }
def InodeBackWrongFalsely : Prop := inodeBackRow.holds Try.pinned (OpenSpec.ofChange inodeBackWrong)

/-- 'cartularylaw05.AllocReads': WHATEVER THE INPUT: true; the input reads as it did. -/
def allocReadsSpec : ChangeSpec := { name := "allocReads", fn := fun _ => fun
  | [d] => { results := [.lit (.bool true)], args := [d] }
  | _ => none }
def allocReadsRow : OpenClaim := { program := "ytbpcgfplokkfpaa", sum := "2d6f69623e8572407f0639227d4baf12e6f98ebae0ae3d4402da97a23bbc1022", func := "cartulary/cartularylaw05.AllocReads", spec := "allocReads", unfollowed := true, recurses := true, apart := false }
def AllocReadsSaid : Prop := allocReadsRow.holds Try.pinned (OpenSpec.ofChange allocReadsSpec)

/-- ITS FALSE NEIGHBOUR: 'it returns false'. Refute it at one input. -/
def allocReadsWrong : ChangeSpec := { name := "allocReads", fn := fun _ => fun
  | [d] => { results := [.lit (.bool false)], args := [d] }
  | _ => none }
def AllocReadsWrongFalsely : Prop := allocReadsRow.holds Try.pinned (OpenSpec.ofChange allocReadsWrong)

/- THE SECOND FORM. 'bulk': how many values and letters a reading holds, each counted each time it is reached (what is shared counts as often as it is met; a slice's spare places count too). A statement '..UptoSaid' is the law's where the arguments, and the package variables that the reading takes, are together of bulk at most 1048576: NARROWER than '..Said'. Prove '..Said' where nothing that the law and all that it calls make is longer than what came in: it says more and counts as full. Else prove '..UptoSaid'. A law counts once. -/
mutual
def uptoBulk {H : Type} : DataW H → Nat
  | .lit (.string bytes) => bytes.length + 1
  | .lit _ => 1
  | .nil => 1
  | .ptr d => uptoBulk d + 1
  | .slice elems spare => uptoBulkAll elems + uptoBulkAll spare + 1
  | .agg parts => uptoBulkAll parts + 1
  | .iface _ d => uptoBulk d + 1
  | .map entries => uptoBulkEntries entries + 1
  | .held _ => 1
def uptoBulkAll {H : Type} : List (DataW H) → Nat
  | [] => 0
  | d :: r => uptoBulk d + uptoBulkAll r
def uptoBulkEntries {H : Type} : List (Lit × DataW H) → Nat
  | [] => 0
  | x :: r => uptoBulkEntry x + uptoBulkEntries r
def uptoBulkEntry {H : Type} : Lit × DataW H → Nat
  | (.string bytes, d) => bytes.length + uptoBulk d + 1
  | (_, d) => uptoBulk d + 1
 end
def uptoSmall : (H : Type) → List (DataW H) → Bool := fun _ ds => decide (uptoBulkAll ds ≤ 1048576)
def OpenSpec.upto (s : _root_.Go.ChangeSpec) : _root_.Go.OpenSpec := { _root_.Go.OpenSpec.ofChange s with cond := some uptoSmall }

/-- 'cartularylaw06.InodeTiles', WHERE WHAT IT READS IS OF BULK AT MOST 1048576: true; the input reads as it did. -/
def inodeTilesUptoRow : OpenClaim := { program := "ytbpcgfplokkfpaa", sum := "2d6f69623e8572407f0639227d4baf12e6f98ebae0ae3d4402da97a23bbc1022", func := "cartulary/cartularylaw06.InodeTiles", spec := "inodeTiles", apart := false, narrowed := true }
def InodeTilesUptoSaid : Prop := inodeTilesUptoRow.holds Try.pinned (OpenSpec.upto inodeTilesSpec)

/-- 'cartularylaw05.AllocApart', WHERE WHAT IT READS IS OF BULK AT MOST 1048576: true; the input reads as it did. -/
def allocApartUptoRow : OpenClaim := { program := "ytbpcgfplokkfpaa", sum := "2d6f69623e8572407f0639227d4baf12e6f98ebae0ae3d4402da97a23bbc1022", func := "cartulary/cartularylaw05.AllocApart", spec := "allocApart", unfollowed := true, recurses := true, apart := false, narrowed := true }
def AllocApartUptoSaid : Prop := allocApartUptoRow.holds Try.pinned (OpenSpec.upto allocApartSpec)

/-- 'cartularylaw05.AllocFirst', WHERE WHAT IT READS IS OF BULK AT MOST 1048576: true; the input reads as it did. -/
def allocFirstUptoRow : OpenClaim := { program := "ytbpcgfplokkfpaa", sum := "2d6f69623e8572407f0639227d4baf12e6f98ebae0ae3d4402da97a23bbc1022", func := "cartulary/cartularylaw05.AllocFirst", spec := "allocFirst", unfollowed := true, recurses := true, apart := false, narrowed := true }
def AllocFirstUptoSaid : Prop := allocFirstUptoRow.holds Try.pinned (OpenSpec.upto allocFirstSpec)

/-- 'cartularylaw05.AllocResets', WHERE WHAT IT READS IS OF BULK AT MOST 1048576: true; the input reads as it did. -/
def allocResetsUptoRow : OpenClaim := { program := "ytbpcgfplokkfpaa", sum := "2d6f69623e8572407f0639227d4baf12e6f98ebae0ae3d4402da97a23bbc1022", func := "cartulary/cartularylaw05.AllocResets", spec := "allocResets", unfollowed := true, recurses := true, apart := false, narrowed := true }
def AllocResetsUptoSaid : Prop := allocResetsUptoRow.holds Try.pinned (OpenSpec.upto allocResetsSpec)

/-- 'cartularylaw05.AllocPlays', WHERE WHAT IT READS IS OF BULK AT MOST 1048576: true; the input reads as it did. -/
def allocPlaysUptoRow : OpenClaim := { program := "ytbpcgfplokkfpaa", sum := "2d6f69623e8572407f0639227d4baf12e6f98ebae0ae3d4402da97a23bbc1022", func := "cartulary/cartularylaw05.AllocPlays", spec := "allocPlays", unfollowed := true, recurses := true, apart := false, narrowed := true }
def AllocPlaysUptoSaid : Prop := allocPlaysUptoRow.holds Try.pinned (OpenSpec.upto allocPlaysSpec)

/-- 'cartularylaw06.InodeCuts', WHERE WHAT IT READS IS OF BULK AT MOST 1048576: true; the input reads as it did. -/
def inodeCutsUptoRow : OpenClaim := { program := "ytbpcgfplokkfpaa", sum := "2d6f69623e8572407f0639227d4baf12e6f98ebae0ae3d4402da97a23bbc1022", func := "cartulary/cartularylaw06.InodeCuts", spec := "inodeCuts", apart := false, narrowed := true }
def InodeCutsUptoSaid : Prop := inodeCutsUptoRow.holds Try.pinned (OpenSpec.upto inodeCutsSpec)

/-- 'cartularylaw06.InodeShrinks', WHERE WHAT IT READS IS OF BULK AT MOST 1048576: true; the input reads as it did. -/
def inodeShrinksUptoRow : OpenClaim := { program := "ytbpcgfplokkfpaa", sum := "2d6f69623e8572407f0639227d4baf12e6f98ebae0ae3d4402da97a23bbc1022", func := "cartulary/cartularylaw06.InodeShrinks", spec := "inodeShrinks", apart := false, narrowed := true }
def InodeShrinksUptoSaid : Prop := inodeShrinksUptoRow.holds Try.pinned (OpenSpec.upto inodeShrinksSpec)

/-- 'cartularylaw06.InodeCopies', WHERE WHAT IT READS IS OF BULK AT MOST 1048576: true; the input reads as it did. -/
def inodeCopiesUptoRow : OpenClaim := { program := "ytbpcgfplokkfpaa", sum := "2d6f69623e8572407f0639227d4baf12e6f98ebae0ae3d4402da97a23bbc1022", func := "cartulary/cartularylaw06.InodeCopies", spec := "inodeCopies", apart := false, narrowed := true }
def InodeCopiesUptoSaid : Prop := inodeCopiesUptoRow.holds Try.pinned (OpenSpec.upto inodeCopiesSpec)

/-- 'cartularylaw06.InodePlays', WHERE WHAT IT READS IS OF BULK AT MOST 1048576: true; the input reads as it did. -/
def inodePlaysUptoRow : OpenClaim := { program := "ytbpcgfplokkfpaa", sum := "2d6f69623e8572407f0639227d4baf12e6f98ebae0ae3d4402da97a23bbc1022", func := "cartulary/cartularylaw06.InodePlays", spec := "inodePlays", apart := false, narrowed := true }
def InodePlaysUptoSaid : Prop := inodePlaysUptoRow.holds Try.pinned (OpenSpec.upto inodePlaysSpec)

/-- 'cartularylaw06.InodeNone', WHERE WHAT IT READS IS OF BULK AT MOST 1048576: true; the input reads as it did. -/
def inodeNoneUptoRow : OpenClaim := { program := "ytbpcgfplokkfpaa", sum := "2d6f69623e8572407f0639227d4baf12e6f98ebae0ae3d4402da97a23bbc1022", func := "cartulary/cartularylaw06.InodeNone", spec := "inodeNone", apart := false, narrowed := true }
def InodeNoneUptoSaid : Prop := inodeNoneUptoRow.holds Try.pinned (OpenSpec.upto inodeNoneSpec)

/-- 'cartularylaw06.InodeReads', WHERE WHAT IT READS IS OF BULK AT MOST 1048576: true; the input reads as it did. -/
def inodeReadsUptoRow : OpenClaim := { program := "ytbpcgfplokkfpaa", sum := "2d6f69623e8572407f0639227d4baf12e6f98ebae0ae3d4402da97a23bbc1022", func := "cartulary/cartularylaw06.InodeReads", spec := "inodeReads", unfollowed := true, recurses := true, apart := false, narrowed := true }
def InodeReadsUptoSaid : Prop := inodeReadsUptoRow.holds Try.pinned (OpenSpec.upto inodeReadsSpec)

/-- 'cartularylaw06.InodeBack', WHERE WHAT IT READS IS OF BULK AT MOST 1048576: true; the input reads as it did. -/
def inodeBackUptoRow : OpenClaim := { program := "ytbpcgfplokkfpaa", sum := "2d6f69623e8572407f0639227d4baf12e6f98ebae0ae3d4402da97a23bbc1022", func := "cartulary/cartularylaw06.InodeBack", spec := "inodeBack", unfollowed := true, recurses := true, apart := false, narrowed := true }
def InodeBackUptoSaid : Prop := inodeBackUptoRow.holds Try.pinned (OpenSpec.upto inodeBackSpec)

/-- 'cartularylaw05.AllocReads', WHERE WHAT IT READS IS OF BULK AT MOST 1048576: true; the input reads as it did. -/
def allocReadsUptoRow : OpenClaim := { program := "ytbpcgfplokkfpaa", sum := "2d6f69623e8572407f0639227d4baf12e6f98ebae0ae3d4402da97a23bbc1022", func := "cartulary/cartularylaw05.AllocReads", spec := "allocReads", unfollowed := true, recurses := true, apart := false, narrowed := true }
def AllocReadsUptoSaid : Prop := allocReadsUptoRow.holds Try.pinned (OpenSpec.upto allocReadsSpec)

end Rows
end Go.Proofs.Ytbpcgfplokkfpaa
