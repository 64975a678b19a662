/- Plain writing of bits: bits put into bytes, the lowest first. -/
import Derived.Test.YtahafepgmkiabaaR0
set_option linter.unusedVariables false
set_option linter.unusedSimpArgs false
namespace Go.Proofs.Ytahafepgmkiabaa
open Go Go.Proofs.Ytahafepgmkiabaa.Sep

/-- The number of eight bits from a place on (those beyond the end are nought). -/
def byteOf (ws : List Nat) (k : Nat) : Nat := ws.getD (8 * k) 0 + 2 * ws.getD (8 * k + 1) 0 + 4 * ws.getD (8 * k + 2) 0 + 8 * ws.getD (8 * k + 3) 0 + 16 * ws.getD (8 * k + 4) 0 + 32 * ws.getD (8 * k + 5) 0 + 64 * ws.getD (8 * k + 6) 0 + 128 * ws.getD (8 * k + 7) 0
def pack (ws : List Nat) : List Nat := (List.range ((ws.length + 7) / 8)).map (byteOf ws)
def Bits (ws : List Nat) : Prop := ∀ w ∈ ws, w < 2
theorem bits_get {ws : List Nat} (h : Bits ws) (i : Nat) : ws.getD i 0 < 2 := by
  rw [List.getD_eq_getElem?_getD]
  by_cases hi : i < ws.length
  · rw [List.getElem?_eq_getElem hi]; exact h _ (List.getElem_mem hi)
  · rw [List.getElem?_eq_none (by omega)]; decide
theorem pack_len (ws : List Nat) : (pack ws).length = (ws.length + 7) / 8 := by simp [pack]
theorem pack_get (ws : List Nat) (k : Nat) (h : k < (ws.length + 7) / 8) : (pack ws).getD k 0 = byteOf ws k := by
  unfold pack
  rw [List.getD_eq_getElem?_getD, List.getElem?_map, List.getElem?_range h]; rfl
theorem byteOf_lt {ws : List Nat} (h : Bits ws) (k : Nat) : byteOf ws k < 256 := by
  unfold byteOf
  have h0 := bits_get h (8 * k)
  have h1 := bits_get h (8 * k + 1)
  have h2 := bits_get h (8 * k + 2)
  have h3 := bits_get h (8 * k + 3)
  have h4 := bits_get h (8 * k + 4)
  have h5 := bits_get h (8 * k + 5)
  have h6 := bits_get h (8 * k + 6)
  have h7 := bits_get h (8 * k + 7)
  omega
theorem pack_lt {ws : List Nat} (h : Bits ws) : ∀ b ∈ pack ws, b < 256 := by
  intro b hb
  obtain ⟨k, _, rfl⟩ := List.mem_map.1 hb
  exact byteOf_lt h k
theorem byteOf_bit {ws : List Nat} (h : Bits ws) (k i : Nat) (hi : i < 8) : byteOf ws k / 2 ^ i % 2 = ws.getD (8 * k + i) 0 := by
  unfold byteOf
  have h0 := bits_get h (8 * k)
  have h1 := bits_get h (8 * k + 1)
  have h2 := bits_get h (8 * k + 2)
  have h3 := bits_get h (8 * k + 3)
  have h4 := bits_get h (8 * k + 4)
  have h5 := bits_get h (8 * k + 5)
  have h6 := bits_get h (8 * k + 6)
  have h7 := bits_get h (8 * k + 7)
  have : i = 0 ∨ i = 1 ∨ i = 2 ∨ i = 3 ∨ i = 4 ∨ i = 5 ∨ i = 6 ∨ i = 7 := by omega
  rcases this with rfl | rfl | rfl | rfl | rfl | rfl | rfl | rfl
  all_goals simp only [Nat.add_zero, Nat.reducePow]; omega
theorem bitAt_pack {ws : List Nat} (h : Bits ws) (i : Nat) (hi : i < ws.length) : bitAt (pack ws) i = ws.getD i 0 := by
  unfold bitAt
  rw [pack_get ws (i / 8) (by omega), byteOf_bit h (i / 8) (i % 8) (Nat.mod_lt _ (by decide))]
  congr 1; omega
theorem getD_snoc (ws : List Nat) (v i : Nat) : (ws ++ [v]).getD i 0 = if i = ws.length then v else ws.getD i 0 := by
  rw [List.getD_eq_getElem?_getD, List.getD_eq_getElem?_getD]
  by_cases h : i < ws.length
  · rw [List.getElem?_append_left h, if_neg (by omega)]
  · rw [List.getElem?_append_right (by omega), List.getElem?_eq_none (show ws.length ≤ i by omega)]
    by_cases h2 : i = ws.length
    · subst h2; simp
    · rw [if_neg h2, List.getElem?_eq_none (by simp; omega)]
theorem getD_out (ws : List Nat) (i : Nat) (h : ws.length ≤ i) : ws.getD i 0 = 0 := by
  rw [List.getD_eq_getElem?_getD, List.getElem?_eq_none h]; rfl
theorem byteOf_snoc (ws : List Nat) (v k : Nat) (hk : k ≠ ws.length / 8) : byteOf (ws ++ [v]) k = byteOf ws k := by
  unfold byteOf
  simp only [getD_snoc]
  rw [if_neg (by omega), if_neg (by omega), if_neg (by omega), if_neg (by omega), if_neg (by omega), if_neg (by omega), if_neg (by omega), if_neg (by omega)]
theorem byteOf_last (ws : List Nat) (v : Nat) : byteOf (ws ++ [v]) (ws.length / 8) = byteOf ws (ws.length / 8) + v * 2 ^ (ws.length % 8) := by
  obtain ⟨q, r, hq, hr⟩ : ∃ q r, ws.length = 8 * q + r ∧ r < 8 := ⟨ws.length / 8, ws.length % 8, by omega, Nat.mod_lt _ (by decide)⟩
  rw [hq, show (8 * q + r) / 8 = q by omega, show (8 * q + r) % 8 = r by omega]
  unfold byteOf
  simp only [getD_snoc, hq]
  have z : ∀ j, r ≤ j → ws.getD (8 * q + j) 0 = 0 := fun j hj => getD_out _ _ (by omega)
  have : r = 0 ∨ r = 1 ∨ r = 2 ∨ r = 3 ∨ r = 4 ∨ r = 5 ∨ r = 6 ∨ r = 7 := by omega
  rcases this with rfl | rfl | rfl | rfl | rfl | rfl | rfl | rfl
  · have := z 0 (by omega); simp only [Nat.add_zero] at this ⊢; rw [this]; simp; omega
  · have := z 1 (by omega); rw [this]; simp; omega
  · have := z 2 (by omega); rw [this]; simp; omega
  · have := z 3 (by omega); rw [this]; simp; omega
  · have := z 4 (by omega); rw [this]; simp; omega
  · have := z 5 (by omega); rw [this]; simp; omega
  · have := z 6 (by omega); rw [this]; simp; omega
  · have := z 7 (by omega); rw [this]; simp; omega
theorem byteOf_small {ws : List Nat} (h : Bits ws) : byteOf ws (ws.length / 8) < 2 ^ (ws.length % 8) := by
  obtain ⟨q, r, hq, hr⟩ : ∃ q r, ws.length = 8 * q + r ∧ r < 8 := ⟨ws.length / 8, ws.length % 8, by omega, Nat.mod_lt _ (by decide)⟩
  rw [hq, show (8 * q + r) / 8 = q by omega, show (8 * q + r) % 8 = r by omega]
  unfold byteOf
  have z : ∀ j, r ≤ j → ws.getD (8 * q + j) 0 = 0 := fun j hj => getD_out _ _ (by omega)
  have h0 := bits_get h (8 * q)
  have h1 := bits_get h (8 * q + 1)
  have h2 := bits_get h (8 * q + 2)
  have h3 := bits_get h (8 * q + 3)
  have h4 := bits_get h (8 * q + 4)
  have h5 := bits_get h (8 * q + 5)
  have h6 := bits_get h (8 * q + 6)
  have h7 := bits_get h (8 * q + 7)
  have : r = 0 ∨ r = 1 ∨ r = 2 ∨ r = 3 ∨ r = 4 ∨ r = 5 ∨ r = 6 ∨ r = 7 := by omega
  rcases this with rfl | rfl | rfl | rfl | rfl | rfl | rfl | rfl
  · have a0 := z 0 (by omega); have a1 := z 1 (by omega); have a2 := z 2 (by omega); have a3 := z 3 (by omega); have a4 := z 4 (by omega); have a5 := z 5 (by omega); have a6 := z 6 (by omega); have a7 := z 7 (by omega)
    simp only [Nat.add_zero] at a0; rw [a0, a1, a2, a3, a4, a5, a6, a7]; decide
  · have a1 := z 1 (by omega); have a2 := z 2 (by omega); have a3 := z 3 (by omega); have a4 := z 4 (by omega); have a5 := z 5 (by omega); have a6 := z 6 (by omega); have a7 := z 7 (by omega)
    rw [a1, a2, a3, a4, a5, a6, a7]; omega
  · have a2 := z 2 (by omega); have a3 := z 3 (by omega); have a4 := z 4 (by omega); have a5 := z 5 (by omega); have a6 := z 6 (by omega); have a7 := z 7 (by omega)
    rw [a2, a3, a4, a5, a6, a7]; omega
  · have a3 := z 3 (by omega); have a4 := z 4 (by omega); have a5 := z 5 (by omega); have a6 := z 6 (by omega); have a7 := z 7 (by omega)
    rw [a3, a4, a5, a6, a7]; omega
  · have a4 := z 4 (by omega); have a5 := z 5 (by omega); have a6 := z 6 (by omega); have a7 := z 7 (by omega)
    rw [a4, a5, a6, a7]; omega
  · have a5 := z 5 (by omega); have a6 := z 6 (by omega); have a7 := z 7 (by omega)
    rw [a5, a6, a7]; omega
  · have a6 := z 6 (by omega); have a7 := z 7 (by omega)
    rw [a6, a7]; omega
  · have a7 := z 7 (by omega)
    rw [a7]; omega
/-- One more bit: a new byte, or a bit of the last one. -/
theorem pack_new (ws : List Nat) (v : Nat) (h : ws.length % 8 = 0) : pack (ws ++ [v]) = pack ws ++ [v] := by
  apply List.ext_getElem?
  intro k
  have hl : (pack ws).length = ws.length / 8 := by rw [pack_len]; omega
  have hl2 : (ws ++ [v]).length = ws.length + 1 := by simp
  by_cases hk : k < ws.length / 8
  · rw [List.getElem?_append_left (by omega)]
    unfold pack
    rw [List.getElem?_map, List.getElem?_map, List.getElem?_range (by rw [hl2]; omega), List.getElem?_range (by omega)]
    simp only [Option.map_some]
    rw [byteOf_snoc ws v k (by omega)]
  · rw [List.getElem?_append_right (by omega)]
    by_cases hk2 : k = ws.length / 8
    · subst hk2
      have e := byteOf_last ws v
      have e2 : byteOf ws (ws.length / 8) = 0 := by
        unfold byteOf
        rw [getD_out _ _ (by omega), getD_out _ _ (by omega), getD_out _ _ (by omega), getD_out _ _ (by omega), getD_out _ _ (by omega), getD_out _ _ (by omega), getD_out _ _ (by omega), getD_out _ _ (by omega)]
      rw [h, Nat.pow_zero, Nat.mul_one, e2, Nat.zero_add] at e
      unfold pack
      rw [List.getElem?_map, List.getElem?_range (by rw [hl2]; omega)]
      simp only [Option.map_some]
      rw [e, show ws.length / 8 - (List.map (byteOf ws) (List.range ((ws.length + 7) / 8))).length = 0 by rw [List.length_map, List.length_range]; omega]
      rfl
    · rw [List.getElem?_eq_none (by rw [pack_len, hl2]; omega), List.getElem?_eq_none (by simp; omega)]
theorem pack_old {ws : List Nat} (hb : Bits ws) (v : Nat) (h : ws.length % 8 ≠ 0) : pack (ws ++ [v]) = (pack ws).set (ws.length / 8) ((pack ws).getD (ws.length / 8) 0 ||| v * 2 ^ (ws.length % 8)) := by
  have hl2 : (ws ++ [v]).length = ws.length + 1 := by simp
  have hg := pack_get ws (ws.length / 8) (by omega)
  rw [hg, or_add _ _ _ (byteOf_small hb), ← byteOf_last]
  apply List.ext_getElem?
  intro k
  rw [List.getElem?_set]
  by_cases hk : ws.length / 8 = k
  · subst hk
    rw [if_pos rfl, if_pos (by rw [pack_len]; omega)]
    unfold pack
    rw [List.getElem?_map, List.getElem?_range (by rw [hl2]; omega)]; rfl
  · rw [if_neg hk]
    by_cases hk2 : k < (ws.length + 7) / 8
    · unfold pack
      rw [List.getElem?_map, List.getElem?_map, List.getElem?_range (by rw [hl2]; omega), List.getElem?_range (by omega)]
      simp only [Option.map_some]
      rw [byteOf_snoc ws v k (by omega)]
    · rw [List.getElem?_eq_none (by rw [pack_len, hl2]; omega), List.getElem?_eq_none (by rw [pack_len]; omega)]
/-- The bits of a number: the lowest first, the highest first. -/
def lowBits (v : Nat) : Nat → List Nat
  | 0 => []
  | n + 1 => lowBits v n ++ [v / 2 ^ n % 2]
def highBits (v : Nat) : Nat → List Nat
  | 0 => []
  | n + 1 => v / 2 ^ n % 2 :: highBits v n
theorem highBits_len (v : Nat) : ∀ n, (highBits v n).length = n
  | 0 => rfl
  | n + 1 => by simp [highBits, highBits_len v n]
theorem lowBits_len (v : Nat) : ∀ n, (lowBits v n).length = n
  | 0 => rfl
  | n + 1 => by simp [lowBits, lowBits_len v n]
theorem highBits_get (v : Nat) : ∀ n i, i < n → (highBits v n).getD i 0 = v / 2 ^ (n - 1 - i) % 2
  | n + 1, 0, _ => by simp [highBits]
  | n + 1, i + 1, h => by
    have := highBits_get v n i (by omega)
    simp only [highBits, List.getD_cons_succ]
    rw [this]
    congr 3; omega
theorem highBits_bits (v : Nat) : ∀ n, Bits (highBits v n)
  | 0 => by intro w h; simp [highBits] at h
  | n + 1 => by
    intro w h
    simp only [highBits, List.mem_cons] at h
    rcases h with rfl | h
    · exact Nat.mod_lt _ (by decide)
    · exact highBits_bits v n w h
theorem lowBits_bits (v : Nat) : ∀ n, Bits (lowBits v n)
  | 0 => by intro w h; simp [lowBits] at h
  | n + 1 => by
    intro w h
    simp only [lowBits, List.mem_append, List.mem_singleton] at h
    rcases h with h | rfl
    · exact lowBits_bits v n w h
    · exact Nat.mod_lt _ (by decide)
theorem bits_app {a b : List Nat} (ha : Bits a) (hb : Bits b) : Bits (a ++ b) := fun w hw => (List.mem_append.1 hw).elim (ha w) (hb w)
theorem getD_app2 (a b : List Nat) (i : Nat) : (a ++ b).getD (a.length + i) 0 = b.getD i 0 := by
  rw [List.getD_eq_getElem?_getD, List.getElem?_append_right (by omega), List.getD_eq_getElem?_getD]
  congr 2; omega
/-- A code's bits among others. -/
theorem stands_pack {a b : List Nat} (c l : Nat) (h : Bits (a ++ (highBits c l ++ b))) : Stands (pack (a ++ (highBits c l ++ b))) a.length c l := by
  have hl := highBits_len c l
  have htot : (a ++ (highBits c l ++ b)).length = a.length + (l + b.length) := by simp [hl]
  refine ⟨by rw [pack_len, htot]; omega, fun i hi => ?_⟩
  rw [bitAt_pack h _ (by omega), getD_app2, List.getD_eq_getElem?_getD, List.getElem?_append_left (by omega), ← List.getD_eq_getElem?_getD, highBits_get c l i hi]
end Go.Proofs.Ytahafepgmkiabaa
