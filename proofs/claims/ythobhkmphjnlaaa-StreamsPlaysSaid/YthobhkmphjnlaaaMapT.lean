/- Maps keyed by texts. -/
import Derived.Test.YthobhkmphjnlaaaMapG
namespace Go.Proofs.Ythobhkmphjnlaaa
open Go.RowKit Go.Maps Go.WideMaps

def kStr : KeyK ByteArray where
  t := 9
  law := string_keyed Try.underlying9
  val := .string
  lit s := .string s.data.toList
  ok s := s.size ≤ maxLen
  key h := keyOf_string_mk Try.underlying9 h
  inj {x y} h := by
    cases x; cases y
    simp only [Lit.string.injEq] at h
    have := Array.toList_inj.1 h
    rw [this]
end Go.Proofs.Ythobhkmphjnlaaa
