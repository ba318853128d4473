/- Two appends that expect one version, in plain Lean. -/
import Derived.Test.YthobhkmphjnlaaaStrI
namespace Go.Proofs.Ythobhkmphjnlaaa
set_option linter.unusedVariables false
set_option linter.unusedSimpArgs false

theorem tryF_of {x : Ix} {s : ByteArray} {n : Int} {k : ByteArray} {l : List Ev} (h1 : namedF s k = true) (hk : x.key k = none) (h2 : rightF l = true) (hn : -1 ≤ n) :
    tryF x s n k l = if 0 ≤ n ∧ n ≠ ((x.str s).length : Int) then (app0, bat0, 103) else ((((x.str s).length : Int), (x.all.length : Int), (l.length : Int), false), (s, k, ((x.str s).length : Int), l), 0) := by
  unfold tryF
  rw [if_neg (by rw [h1]; simp), hk]
  dsimp only
  rw [if_neg (by rw [h2]; simp), if_neg (by omega)]
theorem addF_of {x : Ix} {b : Bat} (h1 : namedF b.1 b.2.1 = true) (hk : x.key b.2.1 = none) (h2 : rightF b.2.2.2 = true) : (addF x b).2 = if b.2.2.1 ≠ ((x.str b.1).length : Int) then 103 else 0 := by
  unfold addF
  rw [if_neg (by rw [h1]; simp), if_neg (by rw [hk]; simp), if_neg (by rw [h2]; simp)]
  split <;> rfl

theorem races {x : Ix} (h : Reach x) {s : ByteArray} {l m : List Ev} (h1 : (tryF x s ((x.str s).length : Int) ⟨#[]⟩ l).2.2 = 0) (h2 : (tryF x s ((x.str s).length : Int) ⟨#[]⟩ m).2.2 = 0) :
    (tryF x s ((x.str s).length : Int) ⟨#[]⟩ l).2.1 = (s, ⟨#[]⟩, ((x.str s).length : Int), l) ∧ (tryF x s ((x.str s).length : Int) ⟨#[]⟩ m).2.1 = (s, ⟨#[]⟩, ((x.str s).length : Int), m) ∧ 1 ≤ l.length ∧ l.length ≤ 16 ∧
    (addF x (s, ⟨#[]⟩, ((x.str s).length : Int), l)).2 = 0 ∧ Reach (addF x (s, ⟨#[]⟩, ((x.str s).length : Int), l)).1 ∧ ((addF x (s, ⟨#[]⟩, ((x.str s).length : Int), l)).1.str s).length = (x.str s).length + l.length ∧
    addF (addF x (s, ⟨#[]⟩, ((x.str s).length : Int), l)).1 (s, ⟨#[]⟩, ((x.str s).length : Int), m) = ((addF x (s, ⟨#[]⟩, ((x.str s).length : Int), l)).1, 103) ∧
    (tryF (addF x (s, ⟨#[]⟩, ((x.str s).length : Int), l)).1 s ((x.str s).length : Int) ⟨#[]⟩ m).2.2 = 103 ∧
    (tryF (addF x (s, ⟨#[]⟩, ((x.str s).length : Int), l)).1 s (((x.str s).length : Int) + (l.length : Int)) ⟨#[]⟩ m).2.2 = 0 := by
  have hk := h.nokey
  obtain ⟨a1, a2, a3⟩ := tryF_new h1 hk
  obtain ⟨b1, b2, b3⟩ := tryF_new h2 hk
  have hr := rightF_len a2
  have hadd : (addF x (s, ⟨#[]⟩, ((x.str s).length : Int), l)).2 = 0 := by rw [addF_of (by exact a1) (by exact hk) (by exact a2)]; simp
  have hre := Reach.add _ h hadd
  obtain ⟨_, _, _, _, c5⟩ := addF_ok hadd
  have hstr : ((addF x (s, ⟨#[]⟩, ((x.str s).length : Int), l)).1.str s).length = (x.str s).length + l.length := by
    rw [c5, addEs_str, keyed_str]; simp
  have h103 : (addF (addF x (s, ⟨#[]⟩, ((x.str s).length : Int), l)).1 (s, ⟨#[]⟩, ((x.str s).length : Int), m)).2 = 103 := by
    rw [addF_of (by exact a1) (by exact hre.nokey) (by exact b2)]
    dsimp only
    rw [hstr, if_pos (by omega)]
  refine ⟨by rw [a3], by rw [b3], hr.2.1, hr.2.2, hadd, hre, hstr, ?_, ?_, ?_⟩
  · exact Prod.ext (addF_bad (by rw [h103]; decide)) h103
  · rw [tryF_of a1 hre.nokey b2 (by omega), hstr, if_pos (by omega)]
  · rw [tryF_of a1 hre.nokey b2 (by omega), hstr, if_neg (by omega)]
end Go.Proofs.Ythobhkmphjnlaaa
