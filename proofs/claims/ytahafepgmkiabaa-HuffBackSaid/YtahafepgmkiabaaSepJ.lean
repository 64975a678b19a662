/- More rules of the walk over owned rows: numbers that are natural ones. -/
import Derived.Test.YtahafepgmkiabaaSepI
import Derived.Test.YtahafepgmkiabaaNum
set_option linter.unusedVariables false
set_option linter.unusedSimpArgs false
set_option linter.unusedSectionVars false
namespace Go.Proofs.Ytahafepgmkiabaa.Sep
open Go Go.RowKit

/-- A kind without sign, and how many numbers it has. -/
structure Un (k : IntKind) (M : Nat) : Prop where
  s : k.signed = false
  m : 2 ^ k.bits = M
theorem un8 : Un .u8 256 := ⟨rfl, by decide⟩
theorem un32 : Un .u32 4294967296 := ⟨rfl, by decide⟩
theorem un64 : Un .u64 18446744073709551616 := ⟨rfl, by decide⟩
theorem Un.wrap {k : IntKind} {M : Nat} (u : Un k M) (n : Nat) : k.wrap (n : Int) = ((n % M : Nat) : Int) := by
  have h1 : (2 : Int) ^ k.bits = (M : Int) := by rw [← u.m]; push_cast; rfl
  simp only [IntKind.wrap, u.s, h1]
  simp
theorem Un.wrapZ {k : IntKind} {M : Nat} (u : Un k M) (n : Int) : k.wrap n = ((n % M).toNat : Int) := by
  have h1 : (2 : Int) ^ k.bits = (M : Int) := by rw [← u.m]; push_cast; rfl
  have h2 : 0 < M := by rw [← u.m]; exact Nat.pow_pos (by decide)
  simp only [IntKind.wrap, u.s, h1]
  have := Int.emod_nonneg n (show (M : Int) ≠ 0 by omega)
  simp
  omega
theorem Un.and {k : IntKind} {M : Nat} (u : Un k M) (a b : Nat) (ha : a < M) (hb : b < M) : bits .and k (a : Int) (b : Int) = ((a &&& b : Nat) : Int) := by
  simp only [bits]
  have h2 : 2 ^ k.bits = M := u.m
  have : (BitVec.ofInt k.bits (a : Int) &&& BitVec.ofInt k.bits (b : Int)).toNat = a &&& b := by
    simp [h2, Nat.mod_eq_of_lt ha, Nat.mod_eq_of_lt hb]
  rw [this, u.wrap, Nat.mod_eq_of_lt (Nat.lt_of_le_of_lt Nat.and_le_left ha)]
theorem Un.or {k : IntKind} {M : Nat} (u : Un k M) (a b : Nat) (ha : a < M) (hb : b < M) : bits .or k (a : Int) (b : Int) = ((a ||| b : Nat) : Int) := by
  simp only [bits]
  have h2 : 2 ^ k.bits = M := u.m
  have : (BitVec.ofInt k.bits (a : Int) ||| BitVec.ofInt k.bits (b : Int)).toNat = a ||| b := by
    simp [h2, Nat.mod_eq_of_lt ha, Nat.mod_eq_of_lt hb]
  rw [this, u.wrap, Nat.mod_eq_of_lt (h2 ▸ Nat.or_lt_two_pow (h2.symm ▸ ha) (h2.symm ▸ hb))]
theorem Un.xor {k : IntKind} {M : Nat} (u : Un k M) (a b : Nat) (ha : a < M) (hb : b < M) : bits .xor k (a : Int) (b : Int) = ((a ^^^ b : Nat) : Int) := by
  simp only [bits]
  have h2 : 2 ^ k.bits = M := u.m
  have : (BitVec.ofInt k.bits (a : Int) ^^^ BitVec.ofInt k.bits (b : Int)).toNat = a ^^^ b := by
    simp [h2, Nat.mod_eq_of_lt ha, Nat.mod_eq_of_lt hb]
  rw [this, u.wrap, Nat.mod_eq_of_lt (h2 ▸ Nat.xor_lt_two_pow (h2.symm ▸ ha) (h2.symm ▸ hb))]

theorem wrap_and_i64 (a b : Nat) (ha : a ≤ 9223372036854775807) (hb : b ≤ 9223372036854775807) : bits .and .i64 (a : Int) (b : Int) = ((a &&& b : Nat) : Int) := by
  simp only [bits]
  have h1 : IntKind.i64.bits = 64 := by decide
  have : (BitVec.ofInt IntKind.i64.bits (a : Int) &&& BitVec.ofInt IntKind.i64.bits (b : Int)).toNat = a &&& b := by
    rw [h1]; simp [Nat.mod_eq_of_lt (show a < 18446744073709551616 by omega), Nat.mod_eq_of_lt (show b < 18446744073709551616 by omega)]
  rw [this, wrap_i64_nat _ (Nat.le_trans Nat.and_le_left ha)]
theorem wrap_or_i64 (a b : Nat) (ha : a ≤ 9223372036854775807) (hb : b ≤ 9223372036854775807) : bits .or .i64 (a : Int) (b : Int) = ((a ||| b : Nat) : Int) := by
  simp only [bits]
  have h1 : IntKind.i64.bits = 64 := by decide
  have : (BitVec.ofInt IntKind.i64.bits (a : Int) ||| BitVec.ofInt IntKind.i64.bits (b : Int)).toNat = a ||| b := by
    rw [h1]; simp [Nat.mod_eq_of_lt (show a < 18446744073709551616 by omega), Nat.mod_eq_of_lt (show b < 18446744073709551616 by omega)]
  have h2 : a ||| b < 2 ^ 63 := Nat.or_lt_two_pow (by omega) (by omega)
  rw [this, wrap_i64_nat _ (by omega)]
section steps
variable {C : Cx} {ops : Array Oper} {Q : Post} {Lr : List Chunk} {κ : List (Bool × Oper)} {env : Env} {L : List Chunk} {f : Bool}
  {dst : Option Tmp} {ty : TypeId} {pos : String} {after : Array Edge} {v : Value} {x y z : Operand}
section un
variable {k : IntKind} {M : Nat} (u : Un k M) {a b : Nat} {t t' : TypeId} (hd : dok C.n dst = true) (hx : ev env x = some (.int k (a : Int))) (hy : ev env y = some (.int k (b : Int)))
include u hd hx hy
theorem St.addU (h : St C ops Q Lr κ (upd dst (.int k (((a + b) % M : Nat) : Int)) env) L) : St C ops Q Lr ((f, ⟨dst, .binOp .add t x y t', ty, pos, after, none⟩) :: κ) env L :=
  St.add hd hx hy (by rw [← Int.natCast_add, u.wrap]; exact h)
theorem St.addUx (hl : a + b < M) (h : St C ops Q Lr κ (upd dst (.int k ((a + b : Nat) : Int)) env) L) : St C ops Q Lr ((f, ⟨dst, .binOp .add t x y t', ty, pos, after, none⟩) :: κ) env L :=
  St.addU u hd hx hy (by rw [Nat.mod_eq_of_lt hl]; exact h)
theorem St.mulU (h : St C ops Q Lr κ (upd dst (.int k (((a * b) % M : Nat) : Int)) env) L) : St C ops Q Lr ((f, ⟨dst, .binOp .mul t x y t', ty, pos, after, none⟩) :: κ) env L :=
  St.mul hd hx hy (by rw [← Int.natCast_mul, u.wrap]; exact h)
theorem St.mulUx (hl : a * b < M) (h : St C ops Q Lr κ (upd dst (.int k ((a * b : Nat) : Int)) env) L) : St C ops Q Lr ((f, ⟨dst, .binOp .mul t x y t', ty, pos, after, none⟩) :: κ) env L :=
  St.mulU u hd hx hy (by rw [Nat.mod_eq_of_lt hl]; exact h)
theorem St.subUx (hl : b ≤ a) (ha : a < M) (h : St C ops Q Lr κ (upd dst (.int k ((a - b : Nat) : Int)) env) L) : St C ops Q Lr ((f, ⟨dst, .binOp .sub t x y t', ty, pos, after, none⟩) :: κ) env L :=
  St.sub hd hx hy (by rw [show (a : Int) - (b : Int) = ((a - b : Nat) : Int) by omega, u.wrap, Nat.mod_eq_of_lt (by omega)]; exact h)
theorem St.subU (hb : b ≤ M) (h : St C ops Q Lr κ (upd dst (.int k (((a + (M - b)) % M : Nat) : Int)) env) L) : St C ops Q Lr ((f, ⟨dst, .binOp .sub t x y t', ty, pos, after, none⟩) :: κ) env L :=
  St.sub hd hx hy (by
    have e : k.wrap ((a : Int) - (b : Int)) = (((a + (M - b)) % M : Nat) : Int) := by
      have h2 : 0 < M := by rw [← u.m]; exact Nat.pow_pos (by decide)
      rw [u.wrapZ]
      have h3 : ((a : Int) - b) % (M : Int) = ((a + (M - b) : Nat) : Int) % (M : Int) := by
        rw [show ((a + (M - b) : Nat) : Int) = ((a : Int) - b) + (M : Int) by omega, Int.add_emod_right]
      rw [h3]; omega
    rw [e]; exact h)
theorem St.andU (ha : a < M) (hb : b < M) (h : St C ops Q Lr κ (upd dst (.int k ((a &&& b : Nat) : Int)) env) L) : St C ops Q Lr ((f, ⟨dst, .binOp .and t x y t', ty, pos, after, none⟩) :: κ) env L :=
  St.andI hd hx hy (by rw [u.and a b ha hb]; exact h)
theorem St.orU (ha : a < M) (hb : b < M) (h : St C ops Q Lr κ (upd dst (.int k ((a ||| b : Nat) : Int)) env) L) : St C ops Q Lr ((f, ⟨dst, .binOp .or t x y t', ty, pos, after, none⟩) :: κ) env L :=
  St.orI hd hx hy (by rw [u.or a b ha hb]; exact h)
theorem St.xorU (ha : a < M) (hb : b < M) (h : St C ops Q Lr κ (upd dst (.int k ((a ^^^ b : Nat) : Int)) env) L) : St C ops Q Lr ((f, ⟨dst, .binOp .xor t x y t', ty, pos, after, none⟩) :: κ) env L :=
  St.xorI hd hx hy (by rw [u.xor a b ha hb]; exact h)
theorem St.quoU (hb : 0 < b) (ha : a < M) (h : St C ops Q Lr κ (upd dst (.int k ((a / b : Nat) : Int)) env) L) : St C ops Q Lr ((f, ⟨dst, .binOp .quo t x y t', ty, pos, after, none⟩) :: κ) env L :=
  St.quo hd hx hy (by omega) (by rw [tdiv_nat, u.wrap, Nat.mod_eq_of_lt (Nat.lt_of_le_of_lt (Nat.div_le_self _ _) ha)]; exact h)
theorem St.remU (hb : 0 < b) (h : St C ops Q Lr κ (upd dst (.int k ((a % b : Nat) : Int)) env) L) : St C ops Q Lr ((f, ⟨dst, .binOp .rem t x y t', ty, pos, after, none⟩) :: κ) env L :=
  St.rem hd hx hy (by omega) (by rw [tmod_nat]; exact h)
end un
section sh
variable {k k' : IntKind} {M : Nat} (u : Un k M) {a b : Nat} {t t' : TypeId} (hd : dok C.n dst = true) (hx : ev env x = some (.int k (a : Int))) (hy : ev env y = some (.int k' (b : Int)))
include u hd hx hy
theorem St.shlU (hb : b ≤ k.bits) (h : St C ops Q Lr κ (upd dst (.int k ((a * 2 ^ b % M : Nat) : Int)) env) L) : St C ops Q Lr ((f, ⟨dst, .binOp .shl t x y t', ty, pos, after, none⟩) :: κ) env L :=
  St.shl hd hx hy (by omega) (by
    rw [Int.toNat_natCast, Nat.min_eq_left hb, show (a : Int) * (2 : Int) ^ b = ((a * 2 ^ b : Nat) : Int) by push_cast; rfl, u.wrap]; exact h)
theorem St.shlUx (hb : b ≤ k.bits) (hl : a * 2 ^ b < M) (h : St C ops Q Lr κ (upd dst (.int k ((a * 2 ^ b : Nat) : Int)) env) L) : St C ops Q Lr ((f, ⟨dst, .binOp .shl t x y t', ty, pos, after, none⟩) :: κ) env L :=
  St.shlU u hd hx hy hb (by rw [Nat.mod_eq_of_lt hl]; exact h)
theorem St.shrU (hb : b ≤ k.bits) (h : St C ops Q Lr κ (upd dst (.int k ((a / 2 ^ b : Nat) : Int)) env) L) : St C ops Q Lr ((f, ⟨dst, .binOp .shr t x y t', ty, pos, after, none⟩) :: κ) env L :=
  St.shr hd hx hy (by omega) (by rw [shr_nat a b _ hb]; exact h)
end sh
theorem St.complU {k : IntKind} {M : Nat} (u : Un k M) {a : Nat} (hd : dok C.n dst = true) (hx : ev env x = some (.int k (a : Int))) (ha : a < M) (h : St C ops Q Lr κ (upd dst (.int k ((M - 1 - a : Nat) : Int)) env) L) {t : TypeId} :
    St C ops Q Lr ((f, ⟨dst, .unOp .xor t x, ty, pos, after, none⟩) :: κ) env L :=
  St.compl hd hx (by
    have h0 : 0 < M := by rw [← u.m]; exact Nat.pow_pos (by decide)
    have e : (if k.signed then (-1 : Int) else k.max) = ((M - 1 : Nat) : Int) := by
      rw [u.s]
      simp only [IntKind.max, u.s]
      have h1 : (2 : Int) ^ k.bits = (M : Int) := by rw [← u.m]; push_cast; rfl
      simp [h1]
      omega
    rw [e, u.xor (M - 1) a (by omega) ha]
    have e2 : (M - 1) ^^^ a = M - 1 - a := by
      have hm := u.m
      subst hm
      apply Nat.eq_of_testBit_eq
      intro i
      rw [Nat.testBit_xor, Nat.testBit_two_pow_sub_one, show 2 ^ k.bits - 1 - a = 2 ^ k.bits - (a + 1) by omega, Nat.testBit_two_pow_sub_succ ha]
      by_cases hi : i < k.bits
      · simp [hi]
      · have : a.testBit i = false := Nat.testBit_lt_two_pow (Nat.lt_of_lt_of_le ha (Nat.pow_le_pow_right (by decide) (by omega)))
        simp [hi, this]
    rw [e2]; exact h)
/-! conversions -/
theorem St.convU {k k' : IntKind} {M : Nat} (u : Un k M) {s t : TypeId} {n : Nat} (hd : dok C.n dst = true) (hx : ev env x = some (.int k' (n : Int))) (hs : (intTy C.P s).isSome = true) (ht : intTy C.P t = some k)
    (h : St C ops Q Lr κ (upd dst (.int k ((n % M : Nat) : Int)) env) L) : St C ops Q Lr ((f, ⟨dst, .convert s t x, ty, pos, after, none⟩) :: κ) env L :=
  St.convI hd hx hs ht (by rw [u.wrap]; exact h)
theorem St.convUx {k k' : IntKind} {M : Nat} (u : Un k M) {s t : TypeId} {n : Nat} (hd : dok C.n dst = true) (hx : ev env x = some (.int k' (n : Int))) (hs : (intTy C.P s).isSome = true) (ht : intTy C.P t = some k) (hn : n < M)
    (h : St C ops Q Lr κ (upd dst (.int k (n : Int)) env) L) : St C ops Q Lr ((f, ⟨dst, .convert s t x, ty, pos, after, none⟩) :: κ) env L :=
  St.convU u hd hx hs ht (by rw [Nat.mod_eq_of_lt hn]; exact h)
theorem St.convZ {k k' : IntKind} {M : Nat} (u : Un k M) {s t : TypeId} {n : Int} (hd : dok C.n dst = true) (hx : ev env x = some (.int k' n)) (hs : (intTy C.P s).isSome = true) (ht : intTy C.P t = some k)
    (h : St C ops Q Lr κ (upd dst (.int k ((n % M).toNat : Int)) env) L) : St C ops Q Lr ((f, ⟨dst, .convert s t x, ty, pos, after, none⟩) :: κ) env L :=
  St.convI hd hx hs ht (by rw [u.wrapZ]; exact h)
theorem St.convS {k' : IntKind} {s t : TypeId} {n : Int} (hd : dok C.n dst = true) (hx : ev env x = some (.int k' n)) (hs : (intTy C.P s).isSome = true) (ht : intTy C.P t = some .i64) (hn : -9223372036854775808 ≤ n ∧ n ≤ 9223372036854775807)
    (h : St C ops Q Lr κ (upd dst (.int .i64 n) env) L) : St C ops Q Lr ((f, ⟨dst, .convert s t x, ty, pos, after, none⟩) :: κ) env L :=
  St.convI hd hx hs ht (by rw [IntWalk.i64_in _ hn]; exact h)
/-! whole numbers that are natural -/
section nat
variable {a b : Nat} {t t' : TypeId} (hd : dok C.n dst = true) (hx : ev env x = some (.int .i64 (a : Int))) (hy : ev env y = some (.int .i64 (b : Int)))
include hd hx hy
theorem St.addN (hl : a + b ≤ 9223372036854775807) (h : St C ops Q Lr κ (upd dst (.int .i64 ((a + b : Nat) : Int)) env) L) : St C ops Q Lr ((f, ⟨dst, .binOp .add t x y t', ty, pos, after, none⟩) :: κ) env L :=
  St.addI hd hx hy (by omega) (by rw [← Int.natCast_add]; exact h)
theorem St.subN (hl : b ≤ a) (ha : a ≤ 9223372036854775807) (h : St C ops Q Lr κ (upd dst (.int .i64 ((a - b : Nat) : Int)) env) L) : St C ops Q Lr ((f, ⟨dst, .binOp .sub t x y t', ty, pos, after, none⟩) :: κ) env L :=
  St.subI hd hx hy (by omega) (by rw [show (a : Int) - (b : Int) = ((a - b : Nat) : Int) by omega]; exact h)
theorem St.mulN (hl : a * b ≤ 9223372036854775807) (h : St C ops Q Lr κ (upd dst (.int .i64 ((a * b : Nat) : Int)) env) L) : St C ops Q Lr ((f, ⟨dst, .binOp .mul t x y t', ty, pos, after, none⟩) :: κ) env L :=
  St.mul hd hx hy (by rw [← Int.natCast_mul, wrap_i64_nat _ hl]; exact h)
theorem St.quoN (hb : 0 < b) (ha : a ≤ 9223372036854775807) (h : St C ops Q Lr κ (upd dst (.int .i64 ((a / b : Nat) : Int)) env) L) : St C ops Q Lr ((f, ⟨dst, .binOp .quo t x y t', ty, pos, after, none⟩) :: κ) env L :=
  St.quo hd hx hy (by omega) (by rw [tdiv_nat, wrap_i64_nat _ (Nat.le_trans (Nat.div_le_self _ _) ha)]; exact h)
theorem St.remN (hb : 0 < b) (h : St C ops Q Lr κ (upd dst (.int .i64 ((a % b : Nat) : Int)) env) L) : St C ops Q Lr ((f, ⟨dst, .binOp .rem t x y t', ty, pos, after, none⟩) :: κ) env L :=
  St.rem hd hx hy (by omega) (by rw [tmod_nat]; exact h)
theorem St.andN (ha : a ≤ 9223372036854775807) (hb : b ≤ 9223372036854775807) (h : St C ops Q Lr κ (upd dst (.int .i64 ((a &&& b : Nat) : Int)) env) L) : St C ops Q Lr ((f, ⟨dst, .binOp .and t x y t', ty, pos, after, none⟩) :: κ) env L :=
  St.andI hd hx hy (by rw [wrap_and_i64 a b ha hb]; exact h)
theorem St.orN (ha : a ≤ 9223372036854775807) (hb : b ≤ 9223372036854775807) (h : St C ops Q Lr κ (upd dst (.int .i64 ((a ||| b : Nat) : Int)) env) L) : St C ops Q Lr ((f, ⟨dst, .binOp .or t x y t', ty, pos, after, none⟩) :: κ) env L :=
  St.orI hd hx hy (by rw [wrap_or_i64 a b ha hb]; exact h)
end nat
theorem St.shlN {k' : IntKind} {a b : Nat} {t t' : TypeId} (hd : dok C.n dst = true) (hx : ev env x = some (.int .i64 (a : Int))) (hy : ev env y = some (.int k' (b : Int))) (hb : b ≤ 64) (hl : a * 2 ^ b ≤ 9223372036854775807)
    (h : St C ops Q Lr κ (upd dst (.int .i64 ((a * 2 ^ b : Nat) : Int)) env) L) : St C ops Q Lr ((f, ⟨dst, .binOp .shl t x y t', ty, pos, after, none⟩) :: κ) env L :=
  St.shl hd hx hy (by omega) (by
    rw [Int.toNat_natCast, show IntKind.i64.bits = 64 by decide, Nat.min_eq_left hb, show (a : Int) * (2 : Int) ^ b = ((a * 2 ^ b : Nat) : Int) by push_cast; rfl, wrap_i64_nat _ hl]; exact h)
theorem St.shrN {k' : IntKind} {a b : Nat} {t t' : TypeId} (hd : dok C.n dst = true) (hx : ev env x = some (.int .i64 (a : Int))) (hy : ev env y = some (.int k' (b : Int))) (hb : b ≤ 64)
    (h : St C ops Q Lr κ (upd dst (.int .i64 ((a / 2 ^ b : Nat) : Int)) env) L) : St C ops Q Lr ((f, ⟨dst, .binOp .shr t x y t', ty, pos, after, none⟩) :: κ) env L :=
  St.shr hd hx hy (by omega) (by rw [shr_nat a b _ (by rw [show IntKind.i64.bits = 64 by decide]; exact hb)]; exact h)
/-- A byte that is read: a new name for it, with its bound. -/
theorem St.loadB {t : TypeId} {A : Addr} {bs : List Nat} {b o i : Nat} (hd : dok C.n dst = true) (hx : ev env x = some (.pointer (some A))) (ht : scal C.P t = true) (hh : HoldsN C.w0 (Lq f Lr L) b o (bytes bs)) (hA : A = ⟨b, o + ((i : Nat) : Int).toNat * 1, none⟩) (hi : i < bs.length) (hb : ∀ b ∈ bs, b < 256)
    (h : ∀ n : Nat, n = bs.getD i 0 → n < 256 → St C ops Q Lr κ (upd dst (.int .u8 (n : Int)) env) L) : St C ops Q Lr ((f, ⟨dst, .load t x, ty, pos, after, none⟩) :: κ) env L :=
  St.load hd hx ht (by
    subst hA
    exact byte_at hh i hi) (h _ rfl (getD_lt hb i))
end steps

/-! rows deeper in what is owned -/
theorem perm_at (a : List Chunk) (c : Chunk) (L : List Chunk) : (a ++ c :: L).flatten.Perm (c :: (a ++ L)).flatten :=
  List.Perm.flatten List.perm_middle
section deep
variable {C : Cx} {ops : Array Oper} {Q : Post} {Lr : List Chunk} {κ : List (Bool × Oper)} {env : Env} {L : List Chunk} {f : Bool}
  {dst : Option Tmp} {ty : TypeId} {pos : String} {after : Array Edge} {v u : Value} {x y z : Operand}
theorem Cov.perm {w0 : World} {Lr L L' : List Chunk} (hp : L'.flatten.Perm L.flatten) (h : ∀ w, Own w0 L w → Own w0 Lr w) : ∀ w, Own w0 L' w → Own w0 Lr w := fun w hw => h w (hw.perm hp)

theorem St.store1 {c0 : Chunk} {t : TypeId} {b o : Nat} {cs : List Value} {e : TypeId} (hd : dok C.n dst = true) (hx : ev env x = some (.pointer (some ⟨b, o, none⟩))) (hy : ev env y = some v) (h1 : one v = true)
    (hs : scal C.P t = true) (ho : o < cs.length) (hc : ∀ w, Own C.w0 (c0 :: [⟨b, cs.set o v, e⟩] :: L) w → Own C.w0 Lr w)
    (h : St C ops Q Lr κ (upd dst undef env) (c0 :: [⟨b, cs.set o v, e⟩] :: L)) : St C ops Q Lr ((false, ⟨dst, .store t x y, ty, pos, after, none⟩) :: κ) env (c0 :: [⟨b, cs, e⟩] :: L) :=
  St.perm _ (perm_at [c0] [⟨b, cs, e⟩] L) (St.store hd hx hy h1 hs ho (Cov.perm (perm_at [c0] [⟨b, cs.set o v, e⟩] L).symm hc) (St.perm _ (perm_at [c0] [⟨b, cs.set o v, e⟩] L).symm h))
theorem St.storeN1 {c0 : Chunk} {t : TypeId} {b o : Nat} {cs : List Value} {e : TypeId} (hd : dok C.n dst = true) (hx : ev env x = some (.pointer (some ⟨b, o, none⟩))) (hy : ev env y = some v) (ds : List Value) (hv : v.cells.toList = ds)
    (hs : (C.P.info? t).map (·.size) = some ds.length) (h1 : ∀ u ∈ ds, one u = true) (ho : o + ds.length ≤ cs.length) (hc : ∀ w, Own C.w0 (c0 :: [⟨b, splice cs o ds, e⟩] :: L) w → Own C.w0 Lr w)
    (h : St C ops Q Lr κ (upd dst undef env) (c0 :: [⟨b, splice cs o ds, e⟩] :: L)) : St C ops Q Lr ((false, ⟨dst, .store t x y, ty, pos, after, none⟩) :: κ) env (c0 :: [⟨b, cs, e⟩] :: L) :=
  St.perm _ (perm_at [c0] [⟨b, cs, e⟩] L) (St.storeN hd hx hy ds hv hs h1 ho (Cov.perm (perm_at [c0] [⟨b, splice cs o ds, e⟩] L).symm hc) (St.perm _ (perm_at [c0] [⟨b, splice cs o ds, e⟩] L).symm h))
theorem St.append1 {c0 : Chunk} {t e : TypeId} {sz bytes n m : Nat} {xs news : List Value} {E : Chunk} (hd : dok C.n dst = true) (hx : ev env x = some v) (hy : ev env y = some u) (ht : growTy C.P t = some (e, sz, bytes))
    (hb : Buf e sz v xs n E) (hr : Rd C.w0 (c0 :: E :: L) u sz m news) (h1 : ∀ c ∈ news, one c = true) (hbytes : (n + m) * bytes ≤ 140737488355328) (hmax : n + m ≤ 9223372036854775807)
    (hc : ∀ E' w, Own C.w0 (c0 :: E' :: L) w → Own C.w0 Lr w)
    (h : ∀ v' E', Buf e sz v' (xs ++ news) (n + m) E' → (v' = .slice none 0 0 ↔ v = .slice none 0 0 ∧ m = 0) → St C ops Q Lr κ (upd dst v' env) (c0 :: E' :: L)) :
    St C ops Q Lr ((false, ⟨dst, .call ⟨.builtin .append, #[x, y], #[t, t]⟩, ty, pos, after, none⟩) :: κ) env (c0 :: E :: L) :=
  St.perm _ (perm_at [c0] E L) (St.append hd hx hy ht hb (hr.mono fun w hw => hw.perm (perm_at [c0] E L).symm) h1 hbytes hmax (fun E' => Cov.perm (perm_at [c0] E' L).symm (hc E')) (fun v' E' hb' hn => St.perm _ (perm_at [c0] E' L).symm (h v' E' hb' hn)))
theorem St.store2 {c0 c1 : Chunk} {t : TypeId} {b o : Nat} {cs : List Value} {e : TypeId} (hd : dok C.n dst = true) (hx : ev env x = some (.pointer (some ⟨b, o, none⟩))) (hy : ev env y = some v) (h1 : one v = true)
    (hs : scal C.P t = true) (ho : o < cs.length) (hc : ∀ w, Own C.w0 (c0 :: c1 :: [⟨b, cs.set o v, e⟩] :: L) w → Own C.w0 Lr w)
    (h : St C ops Q Lr κ (upd dst undef env) (c0 :: c1 :: [⟨b, cs.set o v, e⟩] :: L)) : St C ops Q Lr ((false, ⟨dst, .store t x y, ty, pos, after, none⟩) :: κ) env (c0 :: c1 :: [⟨b, cs, e⟩] :: L) :=
  St.perm _ (perm_at [c0, c1] [⟨b, cs, e⟩] L) (St.store hd hx hy h1 hs ho (Cov.perm (perm_at [c0, c1] [⟨b, cs.set o v, e⟩] L).symm hc) (St.perm _ (perm_at [c0, c1] [⟨b, cs.set o v, e⟩] L).symm h))
theorem St.storeN2 {c0 c1 : Chunk} {t : TypeId} {b o : Nat} {cs : List Value} {e : TypeId} (hd : dok C.n dst = true) (hx : ev env x = some (.pointer (some ⟨b, o, none⟩))) (hy : ev env y = some v) (ds : List Value) (hv : v.cells.toList = ds)
    (hs : (C.P.info? t).map (·.size) = some ds.length) (h1 : ∀ u ∈ ds, one u = true) (ho : o + ds.length ≤ cs.length) (hc : ∀ w, Own C.w0 (c0 :: c1 :: [⟨b, splice cs o ds, e⟩] :: L) w → Own C.w0 Lr w)
    (h : St C ops Q Lr κ (upd dst undef env) (c0 :: c1 :: [⟨b, splice cs o ds, e⟩] :: L)) : St C ops Q Lr ((false, ⟨dst, .store t x y, ty, pos, after, none⟩) :: κ) env (c0 :: c1 :: [⟨b, cs, e⟩] :: L) :=
  St.perm _ (perm_at [c0, c1] [⟨b, cs, e⟩] L) (St.storeN hd hx hy ds hv hs h1 ho (Cov.perm (perm_at [c0, c1] [⟨b, splice cs o ds, e⟩] L).symm hc) (St.perm _ (perm_at [c0, c1] [⟨b, splice cs o ds, e⟩] L).symm h))
theorem St.append2 {c0 c1 : Chunk} {t e : TypeId} {sz bytes n m : Nat} {xs news : List Value} {E : Chunk} (hd : dok C.n dst = true) (hx : ev env x = some v) (hy : ev env y = some u) (ht : growTy C.P t = some (e, sz, bytes))
    (hb : Buf e sz v xs n E) (hr : Rd C.w0 (c0 :: c1 :: E :: L) u sz m news) (h1 : ∀ c ∈ news, one c = true) (hbytes : (n + m) * bytes ≤ 140737488355328) (hmax : n + m ≤ 9223372036854775807)
    (hc : ∀ E' w, Own C.w0 (c0 :: c1 :: E' :: L) w → Own C.w0 Lr w)
    (h : ∀ v' E', Buf e sz v' (xs ++ news) (n + m) E' → (v' = .slice none 0 0 ↔ v = .slice none 0 0 ∧ m = 0) → St C ops Q Lr κ (upd dst v' env) (c0 :: c1 :: E' :: L)) :
    St C ops Q Lr ((false, ⟨dst, .call ⟨.builtin .append, #[x, y], #[t, t]⟩, ty, pos, after, none⟩) :: κ) env (c0 :: c1 :: E :: L) :=
  St.perm _ (perm_at [c0, c1] E L) (St.append hd hx hy ht hb (hr.mono fun w hw => hw.perm (perm_at [c0, c1] E L).symm) h1 hbytes hmax (fun E' => Cov.perm (perm_at [c0, c1] E' L).symm (hc E')) (fun v' E' hb' hn => St.perm _ (perm_at [c0, c1] E' L).symm (h v' E' hb' hn)))
theorem St.store3 {c0 c1 c2 : Chunk} {t : TypeId} {b o : Nat} {cs : List Value} {e : TypeId} (hd : dok C.n dst = true) (hx : ev env x = some (.pointer (some ⟨b, o, none⟩))) (hy : ev env y = some v) (h1 : one v = true)
    (hs : scal C.P t = true) (ho : o < cs.length) (hc : ∀ w, Own C.w0 (c0 :: c1 :: c2 :: [⟨b, cs.set o v, e⟩] :: L) w → Own C.w0 Lr w)
    (h : St C ops Q Lr κ (upd dst undef env) (c0 :: c1 :: c2 :: [⟨b, cs.set o v, e⟩] :: L)) : St C ops Q Lr ((false, ⟨dst, .store t x y, ty, pos, after, none⟩) :: κ) env (c0 :: c1 :: c2 :: [⟨b, cs, e⟩] :: L) :=
  St.perm _ (perm_at [c0, c1, c2] [⟨b, cs, e⟩] L) (St.store hd hx hy h1 hs ho (Cov.perm (perm_at [c0, c1, c2] [⟨b, cs.set o v, e⟩] L).symm hc) (St.perm _ (perm_at [c0, c1, c2] [⟨b, cs.set o v, e⟩] L).symm h))
theorem St.storeN3 {c0 c1 c2 : Chunk} {t : TypeId} {b o : Nat} {cs : List Value} {e : TypeId} (hd : dok C.n dst = true) (hx : ev env x = some (.pointer (some ⟨b, o, none⟩))) (hy : ev env y = some v) (ds : List Value) (hv : v.cells.toList = ds)
    (hs : (C.P.info? t).map (·.size) = some ds.length) (h1 : ∀ u ∈ ds, one u = true) (ho : o + ds.length ≤ cs.length) (hc : ∀ w, Own C.w0 (c0 :: c1 :: c2 :: [⟨b, splice cs o ds, e⟩] :: L) w → Own C.w0 Lr w)
    (h : St C ops Q Lr κ (upd dst undef env) (c0 :: c1 :: c2 :: [⟨b, splice cs o ds, e⟩] :: L)) : St C ops Q Lr ((false, ⟨dst, .store t x y, ty, pos, after, none⟩) :: κ) env (c0 :: c1 :: c2 :: [⟨b, cs, e⟩] :: L) :=
  St.perm _ (perm_at [c0, c1, c2] [⟨b, cs, e⟩] L) (St.storeN hd hx hy ds hv hs h1 ho (Cov.perm (perm_at [c0, c1, c2] [⟨b, splice cs o ds, e⟩] L).symm hc) (St.perm _ (perm_at [c0, c1, c2] [⟨b, splice cs o ds, e⟩] L).symm h))
theorem St.append3 {c0 c1 c2 : Chunk} {t e : TypeId} {sz bytes n m : Nat} {xs news : List Value} {E : Chunk} (hd : dok C.n dst = true) (hx : ev env x = some v) (hy : ev env y = some u) (ht : growTy C.P t = some (e, sz, bytes))
    (hb : Buf e sz v xs n E) (hr : Rd C.w0 (c0 :: c1 :: c2 :: E :: L) u sz m news) (h1 : ∀ c ∈ news, one c = true) (hbytes : (n + m) * bytes ≤ 140737488355328) (hmax : n + m ≤ 9223372036854775807)
    (hc : ∀ E' w, Own C.w0 (c0 :: c1 :: c2 :: E' :: L) w → Own C.w0 Lr w)
    (h : ∀ v' E', Buf e sz v' (xs ++ news) (n + m) E' → (v' = .slice none 0 0 ↔ v = .slice none 0 0 ∧ m = 0) → St C ops Q Lr κ (upd dst v' env) (c0 :: c1 :: c2 :: E' :: L)) :
    St C ops Q Lr ((false, ⟨dst, .call ⟨.builtin .append, #[x, y], #[t, t]⟩, ty, pos, after, none⟩) :: κ) env (c0 :: c1 :: c2 :: E :: L) :=
  St.perm _ (perm_at [c0, c1, c2] E L) (St.append hd hx hy ht hb (hr.mono fun w hw => hw.perm (perm_at [c0, c1, c2] E L).symm) h1 hbytes hmax (fun E' => Cov.perm (perm_at [c0, c1, c2] E' L).symm (hc E')) (fun v' E' hb' hn => St.perm _ (perm_at [c0, c1, c2] E' L).symm (h v' E' hb' hn)))
theorem St.store4 {c0 c1 c2 c3 : Chunk} {t : TypeId} {b o : Nat} {cs : List Value} {e : TypeId} (hd : dok C.n dst = true) (hx : ev env x = some (.pointer (some ⟨b, o, none⟩))) (hy : ev env y = some v) (h1 : one v = true)
    (hs : scal C.P t = true) (ho : o < cs.length) (hc : ∀ w, Own C.w0 (c0 :: c1 :: c2 :: c3 :: [⟨b, cs.set o v, e⟩] :: L) w → Own C.w0 Lr w)
    (h : St C ops Q Lr κ (upd dst undef env) (c0 :: c1 :: c2 :: c3 :: [⟨b, cs.set o v, e⟩] :: L)) : St C ops Q Lr ((false, ⟨dst, .store t x y, ty, pos, after, none⟩) :: κ) env (c0 :: c1 :: c2 :: c3 :: [⟨b, cs, e⟩] :: L) :=
  St.perm _ (perm_at [c0, c1, c2, c3] [⟨b, cs, e⟩] L) (St.store hd hx hy h1 hs ho (Cov.perm (perm_at [c0, c1, c2, c3] [⟨b, cs.set o v, e⟩] L).symm hc) (St.perm _ (perm_at [c0, c1, c2, c3] [⟨b, cs.set o v, e⟩] L).symm h))
theorem St.storeN4 {c0 c1 c2 c3 : Chunk} {t : TypeId} {b o : Nat} {cs : List Value} {e : TypeId} (hd : dok C.n dst = true) (hx : ev env x = some (.pointer (some ⟨b, o, none⟩))) (hy : ev env y = some v) (ds : List Value) (hv : v.cells.toList = ds)
    (hs : (C.P.info? t).map (·.size) = some ds.length) (h1 : ∀ u ∈ ds, one u = true) (ho : o + ds.length ≤ cs.length) (hc : ∀ w, Own C.w0 (c0 :: c1 :: c2 :: c3 :: [⟨b, splice cs o ds, e⟩] :: L) w → Own C.w0 Lr w)
    (h : St C ops Q Lr κ (upd dst undef env) (c0 :: c1 :: c2 :: c3 :: [⟨b, splice cs o ds, e⟩] :: L)) : St C ops Q Lr ((false, ⟨dst, .store t x y, ty, pos, after, none⟩) :: κ) env (c0 :: c1 :: c2 :: c3 :: [⟨b, cs, e⟩] :: L) :=
  St.perm _ (perm_at [c0, c1, c2, c3] [⟨b, cs, e⟩] L) (St.storeN hd hx hy ds hv hs h1 ho (Cov.perm (perm_at [c0, c1, c2, c3] [⟨b, splice cs o ds, e⟩] L).symm hc) (St.perm _ (perm_at [c0, c1, c2, c3] [⟨b, splice cs o ds, e⟩] L).symm h))
theorem St.append4 {c0 c1 c2 c3 : Chunk} {t e : TypeId} {sz bytes n m : Nat} {xs news : List Value} {E : Chunk} (hd : dok C.n dst = true) (hx : ev env x = some v) (hy : ev env y = some u) (ht : growTy C.P t = some (e, sz, bytes))
    (hb : Buf e sz v xs n E) (hr : Rd C.w0 (c0 :: c1 :: c2 :: c3 :: E :: L) u sz m news) (h1 : ∀ c ∈ news, one c = true) (hbytes : (n + m) * bytes ≤ 140737488355328) (hmax : n + m ≤ 9223372036854775807)
    (hc : ∀ E' w, Own C.w0 (c0 :: c1 :: c2 :: c3 :: E' :: L) w → Own C.w0 Lr w)
    (h : ∀ v' E', Buf e sz v' (xs ++ news) (n + m) E' → (v' = .slice none 0 0 ↔ v = .slice none 0 0 ∧ m = 0) → St C ops Q Lr κ (upd dst v' env) (c0 :: c1 :: c2 :: c3 :: E' :: L)) :
    St C ops Q Lr ((false, ⟨dst, .call ⟨.builtin .append, #[x, y], #[t, t]⟩, ty, pos, after, none⟩) :: κ) env (c0 :: c1 :: c2 :: c3 :: E :: L) :=
  St.perm _ (perm_at [c0, c1, c2, c3] E L) (St.append hd hx hy ht hb (hr.mono fun w hw => hw.perm (perm_at [c0, c1, c2, c3] E L).symm) h1 hbytes hmax (fun E' => Cov.perm (perm_at [c0, c1, c2, c3] E' L).symm (hc E')) (fun v' E' hb' hn => St.perm _ (perm_at [c0, c1, c2, c3] E' L).symm (h v' E' hb' hn)))
theorem St.store5 {c0 c1 c2 c3 c4 : Chunk} {t : TypeId} {b o : Nat} {cs : List Value} {e : TypeId} (hd : dok C.n dst = true) (hx : ev env x = some (.pointer (some ⟨b, o, none⟩))) (hy : ev env y = some v) (h1 : one v = true)
    (hs : scal C.P t = true) (ho : o < cs.length) (hc : ∀ w, Own C.w0 (c0 :: c1 :: c2 :: c3 :: c4 :: [⟨b, cs.set o v, e⟩] :: L) w → Own C.w0 Lr w)
    (h : St C ops Q Lr κ (upd dst undef env) (c0 :: c1 :: c2 :: c3 :: c4 :: [⟨b, cs.set o v, e⟩] :: L)) : St C ops Q Lr ((false, ⟨dst, .store t x y, ty, pos, after, none⟩) :: κ) env (c0 :: c1 :: c2 :: c3 :: c4 :: [⟨b, cs, e⟩] :: L) :=
  St.perm _ (perm_at [c0, c1, c2, c3, c4] [⟨b, cs, e⟩] L) (St.store hd hx hy h1 hs ho (Cov.perm (perm_at [c0, c1, c2, c3, c4] [⟨b, cs.set o v, e⟩] L).symm hc) (St.perm _ (perm_at [c0, c1, c2, c3, c4] [⟨b, cs.set o v, e⟩] L).symm h))
theorem St.storeN5 {c0 c1 c2 c3 c4 : Chunk} {t : TypeId} {b o : Nat} {cs : List Value} {e : TypeId} (hd : dok C.n dst = true) (hx : ev env x = some (.pointer (some ⟨b, o, none⟩))) (hy : ev env y = some v) (ds : List Value) (hv : v.cells.toList = ds)
    (hs : (C.P.info? t).map (·.size) = some ds.length) (h1 : ∀ u ∈ ds, one u = true) (ho : o + ds.length ≤ cs.length) (hc : ∀ w, Own C.w0 (c0 :: c1 :: c2 :: c3 :: c4 :: [⟨b, splice cs o ds, e⟩] :: L) w → Own C.w0 Lr w)
    (h : St C ops Q Lr κ (upd dst undef env) (c0 :: c1 :: c2 :: c3 :: c4 :: [⟨b, splice cs o ds, e⟩] :: L)) : St C ops Q Lr ((false, ⟨dst, .store t x y, ty, pos, after, none⟩) :: κ) env (c0 :: c1 :: c2 :: c3 :: c4 :: [⟨b, cs, e⟩] :: L) :=
  St.perm _ (perm_at [c0, c1, c2, c3, c4] [⟨b, cs, e⟩] L) (St.storeN hd hx hy ds hv hs h1 ho (Cov.perm (perm_at [c0, c1, c2, c3, c4] [⟨b, splice cs o ds, e⟩] L).symm hc) (St.perm _ (perm_at [c0, c1, c2, c3, c4] [⟨b, splice cs o ds, e⟩] L).symm h))
theorem St.append5 {c0 c1 c2 c3 c4 : Chunk} {t e : TypeId} {sz bytes n m : Nat} {xs news : List Value} {E : Chunk} (hd : dok C.n dst = true) (hx : ev env x = some v) (hy : ev env y = some u) (ht : growTy C.P t = some (e, sz, bytes))
    (hb : Buf e sz v xs n E) (hr : Rd C.w0 (c0 :: c1 :: c2 :: c3 :: c4 :: E :: L) u sz m news) (h1 : ∀ c ∈ news, one c = true) (hbytes : (n + m) * bytes ≤ 140737488355328) (hmax : n + m ≤ 9223372036854775807)
    (hc : ∀ E' w, Own C.w0 (c0 :: c1 :: c2 :: c3 :: c4 :: E' :: L) w → Own C.w0 Lr w)
    (h : ∀ v' E', Buf e sz v' (xs ++ news) (n + m) E' → (v' = .slice none 0 0 ↔ v = .slice none 0 0 ∧ m = 0) → St C ops Q Lr κ (upd dst v' env) (c0 :: c1 :: c2 :: c3 :: c4 :: E' :: L)) :
    St C ops Q Lr ((false, ⟨dst, .call ⟨.builtin .append, #[x, y], #[t, t]⟩, ty, pos, after, none⟩) :: κ) env (c0 :: c1 :: c2 :: c3 :: c4 :: E :: L) :=
  St.perm _ (perm_at [c0, c1, c2, c3, c4] E L) (St.append hd hx hy ht hb (hr.mono fun w hw => hw.perm (perm_at [c0, c1, c2, c3, c4] E L).symm) h1 hbytes hmax (fun E' => Cov.perm (perm_at [c0, c1, c2, c3, c4] E' L).symm (hc E')) (fun v' E' hb' hn => St.perm _ (perm_at [c0, c1, c2, c3, c4] E' L).symm (h v' E' hb' hn)))
end deep
theorem mem3 {x : Ent} {c0 c1 c2 : Chunk} {L : List Chunk} : x ∈ List.flatten (c0 :: c1 :: c2 :: [x] :: L) := memc mem2
theorem mem4 {x : Ent} {c0 c1 c2 c3 : Chunk} {L : List Chunk} : x ∈ List.flatten (c0 :: c1 :: c2 :: c3 :: [x] :: L) := memc (memc (mem2))
theorem mem5 {x : Ent} {c0 c1 c2 c3 c4 : Chunk} {L : List Chunk} : x ∈ List.flatten (c0 :: c1 :: c2 :: c3 :: c4 :: [x] :: L) := memc (memc (memc (mem2)))
theorem mem6 {x : Ent} {c0 c1 c2 c3 c4 c5 : Chunk} {L : List Chunk} : x ∈ List.flatten (c0 :: c1 :: c2 :: c3 :: c4 :: c5 :: [x] :: L) := memc (memc (memc (memc (mem2))))
theorem mem7 {x : Ent} {c0 c1 c2 c3 c4 c5 c6 : Chunk} {L : List Chunk} : x ∈ List.flatten (c0 :: c1 :: c2 :: c3 :: c4 :: c5 :: c6 :: [x] :: L) := memc (memc (memc (memc (memc (mem2)))))
theorem mem8 {x : Ent} {c0 c1 c2 c3 c4 c5 c6 c7 : Chunk} {L : List Chunk} : x ∈ List.flatten (c0 :: c1 :: c2 :: c3 :: c4 :: c5 :: c6 :: c7 :: [x] :: L) := memc (memc (memc (memc (memc (memc (mem2))))))
end Go.Proofs.Ytahafepgmkiabaa.Sep
