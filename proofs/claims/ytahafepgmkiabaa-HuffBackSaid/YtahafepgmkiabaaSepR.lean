/- More rules of the walk over owned rows: any order of blocks; masks. -/
import Derived.Test.YtahafepgmkiabaaSepQ
import Derived.Test.YtahafepgmkiabaaSepJ
set_option linter.unusedVariables false
set_option linter.unusedSimpArgs false
namespace Go.Proofs.Ytahafepgmkiabaa.Sep
open Go Go.RowKit
/-- Blocks one behind the other. -/
def cat : List (List Chunk) → List Chunk → List Chunk
  | [], T => T
  | b :: r, T => b ++ cat r T
theorem cat_eq : ∀ (bl : List (List Chunk)) (T : List Chunk), cat bl T = bl.flatten ++ T
  | [], T => rfl
  | b :: r, T => by simp [cat, cat_eq r T]
theorem map_getD_range {α : Type} (d : α) : ∀ (l : List α), (List.range l.length).map (fun i => l.getD i d) = l := by
  intro l
  apply List.ext_getElem?
  intro i
  rw [List.getElem?_map]
  by_cases h : i < l.length
  · rw [List.getElem?_range h]
    simp [List.getD_eq_getElem?_getD, List.getElem?_eq_getElem h]
  · rw [List.getElem?_eq_none (by simp; omega), List.getElem?_eq_none (by omega)]; rfl
/-- The blocks in another order. -/
theorem perm_idx (bl : List (List Chunk)) (T : List Chunk) (s : List Nat) (h : List.isPerm s (List.range bl.length) = true) : (cat bl T).flatten.Perm (cat (s.map fun i => bl.getD i []) T).flatten := by
  rw [cat_eq, cat_eq]
  refine List.Perm.flatten (List.Perm.append_right T (List.Perm.flatten ?_))
  have hp : s.Perm (List.range bl.length) := List.isPerm_iff.1 h
  have := (hp.map fun i => bl.getD i []).symm
  rw [map_getD_range] at this
  exact this
theorem maskI (n : Int) (j : Nat) (hj : j ≤ 62) : bits .and .i64 n ((2 ^ j - 1 : Nat) : Int) = n % ((2 ^ j : Nat) : Int) := by
  simp only [bits]
  have h1 : IntKind.i64.bits = 64 := by decide
  have hp : 2 ^ j ≤ 2 ^ 62 := Nat.pow_le_pow_right (by decide) hj
  have hpos : 0 < 2 ^ j := Nat.pow_pos (by decide)
  have e : (BitVec.ofInt IntKind.i64.bits n &&& BitVec.ofInt IntKind.i64.bits ((2 ^ j - 1 : Nat) : Int)).toNat = (n % ((2 ^ j : Nat) : Int)).toNat := by
    rw [h1, BitVec.toNat_and, BitVec.toNat_ofInt, BitVec.toNat_ofInt]
    have e2 : ((((2 ^ j - 1 : Nat) : Int) % ((2 ^ 64 : Nat) : Int)).toNat) = 2 ^ j - 1 := by
      rw [Int.emod_eq_of_lt (by omega) (by omega)]; omega
    rw [e2, Nat.and_two_pow_sub_one_eq_mod]
    have hd : ((2 ^ j : Nat) : Int) ∣ ((2 ^ 64 : Nat) : Int) := by
      have : (2 ^ j : Nat) ∣ 2 ^ 64 := Nat.pow_dvd_pow 2 (by omega)
      exact Int.natCast_dvd_natCast.2 this
    have e3 := Int.emod_emod_of_dvd n hd
    rw [← e3]
    have h0 : 0 ≤ n % ((2 ^ 64 : Nat) : Int) := Int.emod_nonneg _ (by decide)
    obtain ⟨m, hm⟩ := Int.eq_ofNat_of_zero_le h0
    rw [hm]
    rfl
  rw [e]
  have h0 : 0 ≤ n % ((2 ^ j : Nat) : Int) := Int.emod_nonneg _ (by omega)
  have h2 : n % ((2 ^ j : Nat) : Int) < ((2 ^ j : Nat) : Int) := Int.emod_lt_of_pos _ (by omega)
  rw [wrap_i64_nat _ (by omega)]
  omega
theorem mask1 (n : Int) : bits .and .i64 n 1 = n % 2 := maskI n 1 (by decide)
theorem mask15 (n : Int) : bits .and .i64 n 15 = n % 16 := maskI n 4 (by decide)
end Go.Proofs.Ytahafepgmkiabaa.Sep
