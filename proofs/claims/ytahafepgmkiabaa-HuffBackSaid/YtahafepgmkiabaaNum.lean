/- Numbers of the program's unsigned kinds as natural numbers: wrapping, shifting, the operations on bits. -/
import Derived.Test.YtahafepgmkiabaaSepI
set_option linter.unusedVariables false
set_option linter.unusedSimpArgs false
namespace Go.Proofs.Ytahafepgmkiabaa
open Go Go.Proofs.Ytahafepgmkiabaa.Sep

theorem bits_u8 : IntKind.u8.bits = 8 := by decide
theorem bits_u32 : IntKind.u32.bits = 32 := by decide
theorem bits_u64 : IntKind.u64.bits = 64 := by decide
theorem bits_i64 : IntKind.i64.bits = 64 := by decide
theorem wrap_u8 (n : Nat) : IntKind.u8.wrap (n : Int) = ((n % 256 : Nat) : Int) := by
  simp only [IntKind.wrap, bits_u8, show IntKind.u8.signed = false by decide]; simp
theorem wrap_u32 (n : Nat) : IntKind.u32.wrap (n : Int) = ((n % 4294967296 : Nat) : Int) := by
  simp only [IntKind.wrap, bits_u32, show IntKind.u32.signed = false by decide]; simp
theorem wrap_u64 (n : Nat) : IntKind.u64.wrap (n : Int) = ((n % 18446744073709551616 : Nat) : Int) := by
  simp only [IntKind.wrap, bits_u64, show IntKind.u64.signed = false by decide]; simp
theorem and_u32 (a b : Nat) (ha : a < 4294967296) (hb : b < 4294967296) : bits .and .u32 (a : Int) (b : Int) = ((a &&& b : Nat) : Int) := by
  simp only [bits]
  rw [wrap_u32]
  have : (BitVec.ofInt IntKind.u32.bits (a : Int) &&& BitVec.ofInt IntKind.u32.bits (b : Int)).toNat = a &&& b := by
    rw [bits_u32]; simp [Nat.mod_eq_of_lt ha, Nat.mod_eq_of_lt hb]
  rw [this, Nat.mod_eq_of_lt (Nat.lt_of_le_of_lt Nat.and_le_left ha)]
theorem or_u32 (a b : Nat) (ha : a < 4294967296) (hb : b < 4294967296) : bits .or .u32 (a : Int) (b : Int) = ((a ||| b : Nat) : Int) := by
  simp only [bits]
  rw [wrap_u32]
  have : (BitVec.ofInt IntKind.u32.bits (a : Int) ||| BitVec.ofInt IntKind.u32.bits (b : Int)).toNat = a ||| b := by
    rw [bits_u32]; simp [Nat.mod_eq_of_lt ha, Nat.mod_eq_of_lt hb]
  rw [this, Nat.mod_eq_of_lt (Nat.or_lt_two_pow (n := 32) ha hb)]
theorem xor_u32 (a b : Nat) (ha : a < 4294967296) (hb : b < 4294967296) : bits .xor .u32 (a : Int) (b : Int) = ((a ^^^ b : Nat) : Int) := by
  simp only [bits]
  rw [wrap_u32]
  have : (BitVec.ofInt IntKind.u32.bits (a : Int) ^^^ BitVec.ofInt IntKind.u32.bits (b : Int)).toNat = a ^^^ b := by
    rw [bits_u32]; simp [Nat.mod_eq_of_lt ha, Nat.mod_eq_of_lt hb]
  rw [this, Nat.mod_eq_of_lt (Nat.xor_lt_two_pow (n := 32) ha hb)]
theorem and_u8 (a b : Nat) (ha : a < 256) (hb : b < 256) : bits .and .u8 (a : Int) (b : Int) = ((a &&& b : Nat) : Int) := by
  simp only [bits]
  rw [wrap_u8]
  have : (BitVec.ofInt IntKind.u8.bits (a : Int) &&& BitVec.ofInt IntKind.u8.bits (b : Int)).toNat = a &&& b := by
    rw [bits_u8]; simp [Nat.mod_eq_of_lt ha, Nat.mod_eq_of_lt hb]
  rw [this, Nat.mod_eq_of_lt (Nat.lt_of_le_of_lt Nat.and_le_left ha)]
theorem or_u8 (a b : Nat) (ha : a < 256) (hb : b < 256) : bits .or .u8 (a : Int) (b : Int) = ((a ||| b : Nat) : Int) := by
  simp only [bits]
  rw [wrap_u8]
  have : (BitVec.ofInt IntKind.u8.bits (a : Int) ||| BitVec.ofInt IntKind.u8.bits (b : Int)).toNat = a ||| b := by
    rw [bits_u8]; simp [Nat.mod_eq_of_lt ha, Nat.mod_eq_of_lt hb]
  rw [this, Nat.mod_eq_of_lt (Nat.or_lt_two_pow (n := 8) ha hb)]
theorem xor_u8 (a b : Nat) (ha : a < 256) (hb : b < 256) : bits .xor .u8 (a : Int) (b : Int) = ((a ^^^ b : Nat) : Int) := by
  simp only [bits]
  rw [wrap_u8]
  have : (BitVec.ofInt IntKind.u8.bits (a : Int) ^^^ BitVec.ofInt IntKind.u8.bits (b : Int)).toNat = a ^^^ b := by
    rw [bits_u8]; simp [Nat.mod_eq_of_lt ha, Nat.mod_eq_of_lt hb]
  rw [this, Nat.mod_eq_of_lt (Nat.xor_lt_two_pow (n := 8) ha hb)]
theorem shr_nat (a b m : Nat) (h : b ≤ m) : ((a : Nat) : Int).fdiv (2 ^ (min ((b : Nat) : Int).toNat m)) = ((a / 2 ^ b : Nat) : Int) := by
  rw [Int.toNat_natCast, Nat.min_eq_left h, show (2 : Int) ^ b = ((2 ^ b : Nat) : Int) by push_cast; rfl, ← Int.ofNat_fdiv]
theorem shl_u32 (a b : Nat) (h : b ≤ 32) : IntKind.u32.wrap ((a : Int) * 2 ^ (min ((b : Nat) : Int).toNat IntKind.u32.bits)) = ((a * 2 ^ b % 4294967296 : Nat) : Int) := by
  rw [Int.toNat_natCast, bits_u32, Nat.min_eq_left h, show (a : Int) * (2 : Int) ^ b = ((a * 2 ^ b : Nat) : Int) by push_cast; rfl, wrap_u32]
theorem sub_u32 (a b : Nat) (h : b ≤ a) (ha : a < 4294967296) : IntKind.u32.wrap ((a : Int) - (b : Int)) = ((a - b : Nat) : Int) := by
  rw [show (a : Int) - (b : Int) = ((a - b : Nat) : Int) by omega, wrap_u32, Nat.mod_eq_of_lt (by omega)]
theorem add_u32 (a b : Nat) (h : a + b < 4294967296) : IntKind.u32.wrap ((a : Int) + (b : Int)) = ((a + b : Nat) : Int) := by
  rw [show (a : Int) + (b : Int) = ((a + b : Nat) : Int) by omega, wrap_u32, Nat.mod_eq_of_lt (by omega)]
theorem tdiv_nat (a b : Nat) : ((a : Nat) : Int).tdiv (b : Int) = ((a / b : Nat) : Int) := by simp [Int.ofNat_tdiv]
theorem tmod_nat (a b : Nat) : ((a : Nat) : Int).tmod (b : Int) = ((a % b : Nat) : Int) := (Int.ofNat_tmod a b).symm
theorem wrap_i64_nat (n : Nat) (h : n ≤ 9223372036854775807) : IntKind.i64.wrap (n : Int) = n := IntWalk.i64_in _ (by omega)
theorem or_add (v p i : Nat) (h : v < 2 ^ i) : v ||| p * 2 ^ i = v + p * 2 ^ i := by
  rw [Nat.or_comm, Nat.mul_comm, ← Nat.two_pow_add_eq_or_of_lt h, Nat.add_comm]
theorem and_mask (x k : Nat) : x &&& (2 ^ k - 1) = x % 2 ^ k := Nat.and_two_pow_sub_one_eq_mod x k

/-! bits of bytes, the lowest first -/
def bitAt (bs : List Nat) (i : Nat) : Nat := bs.getD (i / 8) 0 / 2 ^ (i % 8) % 2
def takeN (bs : List Nat) (p : Nat) : Nat → Nat
  | 0 => 0
  | i + 1 => takeN bs p i + bitAt bs (p + i) * 2 ^ i
theorem bit_lt (bs : List Nat) (i : Nat) : bitAt bs i < 2 := Nat.mod_lt _ (by omega)
theorem take_lt (bs : List Nat) (p : Nat) : ∀ i, takeN bs p i < 2 ^ i
  | 0 => by simp [takeN]
  | i + 1 => by
    have := take_lt bs p i
    have h2 := bit_lt bs (p + i)
    simp only [takeN]
    rw [Nat.pow_succ]
    have : bitAt bs (p + i) * 2 ^ i ≤ 1 * 2 ^ i := Nat.mul_le_mul_right _ (by omega)
    omega
theorem take_add (bs : List Nat) (p i : Nat) : ∀ k, takeN bs p (i + k) = takeN bs p i + takeN bs (p + i) k * 2 ^ i
  | 0 => by simp [takeN]
  | k + 1 => by
    rw [show i + (k + 1) = (i + k) + 1 by omega]
    simp only [takeN]
    rw [take_add bs p i k, Nat.add_mul, Nat.pow_add, show p + (i + k) = p + i + k by omega, Nat.mul_assoc _ (2 ^ k) (2 ^ i), Nat.mul_comm (2 ^ k) (2 ^ i)]
    omega
theorem take_byte (bs : List Nat) (p : Nat) : ∀ k, k ≤ 8 - p % 8 → takeN bs p k = bs.getD (p / 8) 0 / 2 ^ (p % 8) % 2 ^ k
  | 0, _ => by simp [takeN, Nat.mod_one]
  | k + 1, h => by
    have ih := take_byte bs p k (by omega)
    simp only [takeN]
    rw [ih, Nat.pow_succ, Nat.mod_mul]
    congr 1
    rw [Nat.mul_comm]
    congr 1
    unfold bitAt
    rw [show (p + k) / 8 = p / 8 by omega, show (p + k) % 8 = p % 8 + k by omega, Nat.pow_add, Nat.div_div_eq_div_mul]
theorem take_one (bs : List Nat) (p : Nat) : takeN bs p 1 = bitAt bs p := by simp [takeN]

/-! lists of bytes as values -/
def bytes (bs : List Nat) : List Value := bs.map fun (n : Nat) => Value.int .u8 (n : Int)
theorem bytes_length (bs : List Nat) : (bytes bs).length = bs.length := by simp [bytes]
theorem bytes_ints (bs : List Nat) : bytes bs = (bs.map fun (n : Nat) => (n : Int)).map (Value.int .u8) := by simp [bytes]
theorem byte_at {w0 : World} {L : List Chunk} {b o : Nat} {bs : List Nat} (h : HoldsN w0 L b o (bytes bs)) (i : Nat) (hi : i < bs.length) : Holds w0 L ⟨b, o + (i : Int).toNat * 1, none⟩ (.int .u8 (bs.getD i 0)) := by
  rw [bytes_ints] at h
  have := HoldsN.nat h i (by simpa using hi)
  simp only [List.getD_eq_getElem?_getD, List.getElem?_map, List.getElem?_eq_getElem hi, Option.map_some, Option.getD_some] at this ⊢
  exact this
end Go.Proofs.Ytahafepgmkiabaa
namespace Go.Proofs.Ytahafepgmkiabaa
open Go Go.Proofs.Ytahafepgmkiabaa.Sep
theorem quo8 (a : Nat) (h : a ≤ 9223372036854775807) : IntKind.i64.wrap (((a : Nat) : Int).tdiv 8) = ((a / 8 : Nat) : Int) := by
  have := tdiv_nat a 8
  rw [show ((8 : Nat) : Int) = 8 from rfl] at this
  rw [this, wrap_i64_nat _ (by omega)]
theorem rem8 (a : Nat) : ((a : Nat) : Int).tmod 8 = ((a % 8 : Nat) : Int) := tmod_nat a 8
theorem pow_le31 {k : Nat} (h : k ≤ 31) : (2 : Nat) ^ k ≤ 2147483648 := Nat.pow_le_pow_right (by omega) h
theorem pow_le32 {k : Nat} (h : k ≤ 32) : (2 : Nat) ^ k ≤ 4294967296 := Nat.pow_le_pow_right (by omega) h
theorem one_shl_u32 (k : Nat) (h : k ≤ 31) : IntKind.u32.wrap (1 * 2 ^ (min ((k : Nat) : Int).toNat IntKind.u32.bits)) = ((2 ^ k : Nat) : Int) := by
  have := shl_u32 1 k (by omega)
  have h2 := pow_le31 h
  rw [show ((1 : Nat) : Int) = 1 from rfl] at this
  rw [this, Nat.one_mul, Nat.mod_eq_of_lt (by omega)]
theorem ones_u32 (k : Nat) (h : k ≤ 31) : IntKind.u32.wrap (((2 ^ k : Nat) : Int) - 1) = ((2 ^ k - 1 : Nat) : Int) := by
  have h2 := pow_le31 h
  have h3 : 0 < 2 ^ k := Nat.pow_pos (by omega)
  have := sub_u32 (2 ^ k) 1 (by omega) (by omega)
  exact this
theorem shr_u32 (a b : Nat) (h : b ≤ 32) : ((a : Nat) : Int).fdiv (2 ^ (min ((b : Nat) : Int).toNat IntKind.u32.bits)) = ((a / 2 ^ b : Nat) : Int) := shr_nat a b _ (by rw [bits_u32]; exact h)
theorem shr_u8 (a b : Nat) (h : b ≤ 8) : ((a : Nat) : Int).fdiv (2 ^ (min ((b : Nat) : Int).toNat IntKind.u8.bits)) = ((a / 2 ^ b : Nat) : Int) := shr_nat a b _ (by rw [bits_u8]; exact h)
theorem wrap_u32_lt (n : Nat) (h : n < 4294967296) : IntKind.u32.wrap (n : Int) = n := by rw [wrap_u32, Nat.mod_eq_of_lt h]
theorem getD_lt {bs : List Nat} (h : ∀ b ∈ bs, b < 256) (i : Nat) : bs.getD i 0 < 256 := by
  rw [List.getD_eq_getElem?_getD]
  by_cases hi : i < bs.length
  · rw [List.getElem?_eq_getElem hi]; exact h _ (List.getElem_mem hi)
  · rw [List.getElem?_eq_none (by omega)]; decide
end Go.Proofs.Ytahafepgmkiabaa
namespace Go.Proofs.Ytahafepgmkiabaa
open Go Go.Proofs.Ytahafepgmkiabaa.Sep
theorem or_bit (u b : Nat) (h : b < 2) : 2 * u ||| b = 2 * u + b := by
  have := or_add b u 1 (by omega)
  rw [Nat.or_comm, Nat.mul_comm 2 u, show u * 2 = u * 2 ^ 1 by omega, this]; omega
theorem shl1_u32 (u : Nat) (h : u < 2147483648) : IntKind.u32.wrap (((u : Nat) : Int) * 2 ^ (min (1 : Int).toNat IntKind.u32.bits)) = ((2 * u : Nat) : Int) := by
  have := shl_u32 u 1 (by omega)
  rw [Nat.mod_eq_of_lt (by omega), show u * 2 ^ 1 = 2 * u by omega] at this
  exact this
end Go.Proofs.Ytahafepgmkiabaa
namespace Go.Proofs.Ytahafepgmkiabaa
open Go Go.Proofs.Ytahafepgmkiabaa.Sep
theorem nats_of {xs : List Int} (h : ∀ n ∈ xs, 0 ≤ n ∧ n ≤ 255) : ∃ bs : List Nat, bs.length = xs.length ∧ xs.map (Value.int .u8) = bytes bs ∧ ∀ b ∈ bs, b < 256 := by
  refine ⟨xs.map Int.toNat, by simp, ?_, fun b hb => ?_⟩
  · unfold bytes
    rw [List.map_map]
    apply List.map_congr_left
    intro n hn
    have := h n hn
    simp only [Function.comp]
    rw [Int.toNat_of_nonneg this.1]
  · obtain ⟨n, hn, rfl⟩ := List.mem_map.mp hb
    have := h n hn
    omega
end Go.Proofs.Ytahafepgmkiabaa
