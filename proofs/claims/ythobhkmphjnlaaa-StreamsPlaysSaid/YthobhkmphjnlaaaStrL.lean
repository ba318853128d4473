/- Streams in plain Lean: what Try and Add come to. -/
import Derived.Test.YthobhkmphjnlaaaEvL
namespace Go.Proofs.Ythobhkmphjnlaaa
set_option linter.unusedVariables false
set_option linter.unusedSimpArgs false

abbrev Ent := Int × (ByteArray × (Int × Ev))
abbrev Apd := Int × (Int × (Int × Bool))

/-- what an Index holds: all entries, each stream's places, what each key has come to -/
structure Ix where
  all : List Ent
  str : ByteArray → List Int
  key : ByteArray → Option (ByteArray × Apd)

def ix0 : Ix := ⟨[], fun _ => [], fun _ => none⟩
def namedF (s k : ByteArray) : Bool := nameOk s && decide (k.size ≤ 60)
def rightF (l : List Ev) : Bool := l.all evOk && decide (1 ≤ l.length ∧ l.length ≤ 16)
def app0 : Apd := (0, 0, 0, false)
def bat0 : Bat := (⟨#[]⟩, ⟨#[]⟩, 0, [])
def tryF (x : Ix) (s : ByteArray) (n : Int) (k : ByteArray) (l : List Ev) : Apd × (Bat × Nat) :=
  if namedF s k = false then (app0, bat0, 100)
  else match x.key k with
    | some (t, a) => if t ≠ s then (app0, bat0, 101) else ((a.1, a.2.1, a.2.2.1, true), bat0, 0)
    | none => if rightF l = false then (app0, bat0, 102) else if n < -1 then (app0, bat0, 1) else if 0 ≤ n ∧ n ≠ ((x.str s).length : Int) then (app0, bat0, 103)
      else ((((x.str s).length : Int), (x.all.length : Int), (l.length : Int), false), (s, k, ((x.str s).length : Int), l), 0)
def pushS (x : Ix) (s : ByteArray) : Ix := { x with str := fun t => if t = s then x.str s ++ [(x.all.length : Int)] else x.str t }
def pushA (x : Ix) (s : ByteArray) (n : Int) (e : Ev) : Ix := { x with all := x.all ++ [((x.all.length : Int), s, n, e)] }
def addE (s : ByteArray) (x : Ix) (n : Int) (e : Ev) : Ix := pushA (pushS x s) s n e
def addEs (s : ByteArray) : Ix → Int → List Ev → Ix
  | x, _, [] => x
  | x, n, e :: l => addEs s (addE s x n e) (n + 1) l
def keyed (x : Ix) (k s : ByteArray) (f : Int) (c : Nat) : Ix := if k = ⟨#[]⟩ then x else { x with key := fun t => if t = k then some (s, f, (x.all.length : Int), (c : Int), false) else x.key t }
def addF (x : Ix) (b : Bat) : Ix × Nat :=
  if namedF b.1 b.2.1 = false then (x, 100)
  else if (x.key b.2.1).isSome = true then (x, 101)
  else if rightF b.2.2.2 = false then (x, 102)
  else if b.2.2.1 ≠ ((x.str b.1).length : Int) then (x, 103)
  else (addEs b.1 (keyed x b.2.1 b.1 b.2.2.1 b.2.2.2.length) b.2.2.1 b.2.2.2, 0)

theorem rightF_len {l : List Ev} (h : rightF l = true) : (∀ e ∈ l, evOk e = true) ∧ 1 ≤ l.length ∧ l.length ≤ 16 := by
  unfold rightF at h
  rw [Bool.and_eq_true, List.all_eq_true, decide_eq_true_eq] at h
  exact h
theorem rightF_nil : rightF [] = false := rfl
theorem addEs_all (s : ByteArray) : ∀ (l : List Ev) (x : Ix) (n : Int), (addEs s x n l).all.length = x.all.length + l.length := by
  intro l
  induction l with
  | nil => intro x n; rfl
  | cons e l ih => intro x n; rw [addEs, ih]; simp [addE, pushA, pushS]; omega
theorem addEs_key (s : ByteArray) : ∀ (l : List Ev) (x : Ix) (n : Int), (addEs s x n l).key = x.key := by
  intro l
  induction l with
  | nil => intro x n; rfl
  | cons e l ih => intro x n; rw [addEs, ih]; rfl
theorem addEs_str (s : ByteArray) : ∀ (l : List Ev) (x : Ix) (n : Int) (t : ByteArray), ((addEs s x n l).str t).length = (x.str t).length + if t = s then l.length else 0 := by
  intro l
  induction l with
  | nil => intro x n t; simp [addEs]
  | cons e l ih =>
    intro x n t
    rw [addEs, ih]
    by_cases h : t = s
    · simp [addE, pushA, pushS, h]; omega
    · simp [addE, pushA, pushS, h]
theorem keyed_all (x : Ix) (k s : ByteArray) (f : Int) (c : Nat) : (keyed x k s f c).all = x.all := by unfold keyed; split <;> rfl
theorem keyed_str (x : Ix) (k s : ByteArray) (f : Int) (c : Nat) : (keyed x k s f c).str = x.str := by unfold keyed; split <;> rfl
end Go.Proofs.Ythobhkmphjnlaaa
