/- Plain law: what is written by a code's numbers is read as the same symbol. -/
import Derived.Test.YtahafepgmkiabaaH6
set_option linter.unusedVariables false
set_option linter.unusedSimpArgs false
namespace Go.Proofs.Ytahafepgmkiabaa
open Go Go.Proofs.Ytahafepgmkiabaa.Sep

theorem behind_up (xs : List Int) (k : Nat) : ∀ d, behind xs k * 2 ^ d ≤ behind xs (k + d)
  | 0 => by simp
  | d + 1 => by
    have ih := behind_up xs k d
    rw [show k + (d + 1) = (k + d) + 1 by omega]
    simp only [behind]
    rw [Nat.pow_succ, ← Nat.mul_assoc]
    omega
/-- No code begins with a shorter one. -/
theorem prefix_free {xs : List Int} {j n : Nat} (hj : j < xs.length) (h1 : 1 ≤ n) (hl : (n : Int) < xs.getD j 0) : behind xs n ≤ codeOf xs j / 2 ^ ((xs.getD j 0).toNat - n) := by
  obtain ⟨l, hle⟩ : ∃ l : Nat, xs.getD j 0 = (l : Int) := ⟨_, (Int.toNat_of_nonneg (by omega)).symm⟩
  have hnl : n < l := by omega
  have hp : 0 < 2 ^ (l - n) := Nat.pow_pos (by omega)
  have hb := behind_up xs n (l - 1 - n)
  rw [show n + (l - 1 - n) = l - 1 by omega] at hb
  have hc : codeOf xs j = 2 * behind xs (l - 1) + cnt xs l j := by
    unfold codeOf start
    rw [hle, Int.toNat_natCast]
  rw [hle, Int.toNat_natCast, Nat.le_div_iff_mul_le hp, hc]
  have e : 2 ^ (l - n) = 2 ^ (l - 1 - n) * 2 := by rw [← Nat.pow_succ]; congr 1; omega
  rw [e, ← Nat.mul_assoc]
  omega
theorem hit_behind {xs : List Int} {n v : Nat} (h1 : 1 ≤ n) (h : behind xs n ≤ v) : hitAt xs n v = none := by
  unfold hitAt
  split
  · rename_i hc
    obtain ⟨m, rfl⟩ : ∃ m, n = m + 1 := ⟨n - 1, by omega⟩
    have : behind xs (m + 1) = start xs (m + 1) + cnt xs (m + 1) xs.length := by simp [behind, start]
    rw [List.getElem?_eq_none]
    rw [syms_len]; omega
  · rfl
/-- The bits of a number, the highest first, stand at a place. -/
def Stands (bs : List Nat) (p c l : Nat) : Prop := p + l ≤ 8 * bs.length ∧ ∀ i, i < l → bitAt bs (p + i) = c / 2 ^ (l - 1 - i) % 2
theorem read_at {xs : List Int} {bs : List Nat} {j : Nat} (he : codesE xs = 0) (hj : j < xs.length) (h1 : 1 ≤ xs.getD j 0) (p : Nat) (hs : Stands bs p (codeOf xs j) (xs.getD j 0).toNat) :
    ∀ (k n : Nat), n + k = 16 → n ≤ (xs.getD j 0).toNat → readFrom xs bs n (codeOf xs j / 2 ^ ((xs.getD j 0).toNat - n)) (p + n) k = ((j : Int), 0, p + (xs.getD j 0).toNat)
  | 0, n, hk, hn => by
    have := lens_at (codesE_ok he).1 j
    omega
  | k + 1, n, hk, hn => by
    rw [show ∀ v t, readFrom xs bs n v t (k + 1) = (match hitAt xs n v with
    | some s => (s, 0, t)
    | none => if anyTo xs n v xs.length = false then (0, 3, t) else if t = 8 * bs.length then (0, 4, t) else readFrom xs bs (n + 1) (2 * v + bitAt bs t) (t + 1) k) from fun _ _ => rfl]
    by_cases hnl : n = (xs.getD j 0).toNat
    · have hh : hitAt xs n (codeOf xs j / 2 ^ ((xs.getD j 0).toNat - n)) = some (j : Int) :=
        hit_of (by omega) hj (by omega) (by rw [← hnl, Nat.sub_self, Nat.pow_zero, Nat.div_one])
      rw [hh, ← hnl]
    · have hlt : n < (xs.getD j 0).toNat := by omega
      have hh : hitAt xs n (codeOf xs j / 2 ^ ((xs.getD j 0).toNat - n)) = none := by
        rcases Nat.eq_zero_or_pos n with h0 | h0
        · unfold hitAt; rw [if_neg (by omega)]
        · exact hit_behind h0 (prefix_free hj h0 (by omega))
      have ha : anyTo xs n (codeOf xs j / 2 ^ ((xs.getD j 0).toNat - n)) xs.length = true := (any_iff xs n _ _).2 ⟨j, hj, by omega, rfl⟩
      rw [hh]
      simp only
      rw [if_neg (by rw [ha]; simp), if_neg (by have := hs.1; omega)]
      have hb := hs.2 n hlt
      have hv : 2 * (codeOf xs j / 2 ^ ((xs.getD j 0).toNat - n)) + bitAt bs (p + n) = codeOf xs j / 2 ^ ((xs.getD j 0).toNat - (n + 1)) := by
        rw [hb, show (xs.getD j 0).toNat - n = ((xs.getD j 0).toNat - 1 - n) + 1 by omega, Nat.pow_succ, ← Nat.div_div_eq_div_mul, show (xs.getD j 0).toNat - (n + 1) = (xs.getD j 0).toNat - 1 - n by omega]
        omega
      rw [hv, show p + n + 1 = p + (n + 1) by omega]
      exact read_at he hj h1 p hs k (n + 1) (by omega) (by omega)
theorem read_back {xs : List Int} {bs : List Nat} {j : Nat} (he : codesE xs = 0) (hj : j < xs.length) (h1 : 1 ≤ xs.getD j 0) (p : Nat) (hs : Stands bs p (codeOf xs j) (xs.getD j 0).toNat) :
    readSym xs bs p = ((j : Int), 0, p + (xs.getD j 0).toNat) := by
  have hz : codeOf xs j / 2 ^ ((xs.getD j 0).toNat - 0) = 0 := by
    rw [Nat.sub_zero]
    exact Nat.div_eq_of_lt (codeOf_lt he j hj h1)
  have := read_at he hj h1 p hs 16 0 rfl (Nat.zero_le _)
  rw [hz] at this
  exact this
end Go.Proofs.Ytahafepgmkiabaa
