/- Walks: numbers as bytes and back, copies of bytes (streams). -/
import Derived.Test.YtahafepgmkiabaaS8
import Derived.Test.YtahafepgmkiabaaSepK
import Derived.Test.YtahafepgmkiabaaT1
set_option linter.unusedVariables false
set_option linter.unusedSimpArgs false
set_option linter.ambiguousOpen false
namespace Go.Proofs.Ytahafepgmkiabaa
open Go Go.Proofs.Ytahafepgmkiabaa.Sep

theorem four_byte (n : Nat) : bytes (four n) = [.int .u8 ((n / 2 ^ 24 % 256 : Nat) : Int), .int .u8 ((n / 2 ^ 16 % 256 : Nat) : Int), .int .u8 ((n / 2 ^ 8 % 256 : Nat) : Int), .int .u8 ((n % 256 : Nat) : Int)] := rfl
theorem num_or (bs : List Nat) (i : Nat) (h : ∀ b ∈ bs, b < 256) : num bs i = bs.getD i 0 * 2 ^ 24 ||| bs.getD (i + 1) 0 * 2 ^ 16 ||| bs.getD (i + 2) 0 * 2 ^ 8 ||| bs.getD (i + 3) 0 := by
  have h0 := getD_lt h i
  have h1 := getD_lt h (i + 1)
  have h2 := getD_lt h (i + 2)
  unfold num be32
  rw [Nat.mod_eq_of_lt (by omega), Nat.mod_eq_of_lt (by omega), Nat.mod_eq_of_lt (by omega)]
theorem or_small {a b k : Nat} (ha : a < 2 ^ k) (hb : b < 2 ^ k) : a ||| b < 2 ^ k := Nat.or_lt_two_pow ha hb
theorem num_lt {bs : List Nat} (h : ∀ b ∈ bs, b < 256) (i : Nat) : num bs i < 4294967296 := be32_lt (getD_lt h _)
/-- The number of bytes, the highest first. -/
def getN : List Nat → Nat
  | [] => 0
  | b :: bs => b * 256 ^ bs.length + getN bs
theorem getN_snoc : ∀ (bs : List Nat) (b : Nat), getN (bs ++ [b]) = 256 * getN bs + b
  | [], b => by simp [getN]
  | c :: bs, b => by
    simp only [List.cons_append, getN, getN_snoc bs b, List.length_append, List.length_singleton]
    rw [Nat.pow_succ, ← Nat.mul_assoc, Nat.mul_comm (c * 256 ^ bs.length) 256, Nat.mul_add]
    omega
theorem getN_lt : ∀ (bs : List Nat), (∀ b ∈ bs, b < 256) → getN bs < 256 ^ bs.length
  | [], _ => by simp [getN]
  | b :: bs, h => by
    have h1 := getN_lt bs (fun x hx => h x (List.mem_cons_of_mem _ hx))
    have h2 := h b List.mem_cons_self
    simp only [getN, List.length_cons, Nat.pow_succ]
    have : b * 256 ^ bs.length ≤ 255 * 256 ^ bs.length := Nat.mul_le_mul_right _ (by omega)
    omega
theorem getN_take (bs : List Nat) (i : Nat) (h : i < bs.length) : getN (bs.take (i + 1)) = 256 * getN (bs.take i) + bs.getD i 0 := by
  rw [List.take_succ_eq_append_getElem h, getN_snoc, List.getD_eq_getElem?_getD, List.getElem?_eq_getElem h]; rfl

theorem sfour_spec (w0 : World) (L : List Chunk) (v : Value) (xs : List Nat) (n : Nat) (E : Chunk) (hb : Buf 5 1 v (bytes xs) xs.length E) (hn : n < 4294967296) (hl : xs.length + 4 ≤ 140737488355328) :
    Meets Try.prog 122 #[v, .int .u32 ((n : Nat) : Int)] w0 (E :: L) (fun r L' => ∃ E', L' = E' :: L ∧ Buf 5 1 r (bytes (xs ++ four n)) (xs.length + 4) E') := by
  refine Meets.of_body [v, .int .u32 ((n : Nat) : Int)] Try.func122 rfl Try.ntmps122 rfl ?_
  refine SC.seq ?_
  refine SC.plain ?_
  refine St.assign rfl rfl ?_
  refine St.done ?_
  refine SX.seq ?_
  refine SC.seq ?_
  refine SC.plain ?_
  refine St.move rfl rfl ?_
  refine St.move rfl rfl ?_
  first | refine St.shrU un32 (b := 24) rfl rfl rfl (by show _ ≤ (32 : Nat); omega) ?_ | refine St.shr rfl rfl rfl (by omega) ?_
  refine St.convU un8 rfl rfl (by kernel_rfl) (by kernel_rfl) ?_
  refine St.move rfl rfl ?_
  first | refine St.shrU un32 (b := 16) rfl rfl rfl (by show _ ≤ (32 : Nat); omega) ?_ | refine St.shr rfl rfl rfl (by omega) ?_
  refine St.convU un8 rfl rfl (by kernel_rfl) (by kernel_rfl) ?_
  refine St.move rfl rfl ?_
  first | refine St.shrU un32 (b := 8) rfl rfl rfl (by show _ ≤ (32 : Nat); omega) ?_ | refine St.shr rfl rfl rfl (by omega) ?_
  refine St.convU un8 rfl rfl (by kernel_rfl) (by kernel_rfl) ?_
  refine St.move rfl rfl ?_
  refine St.convU un8 rfl rfl (by kernel_rfl) (by kernel_rfl) ?_
  refine St.buildSl (e := 5) [(0, .int .u8 ((n / 2 ^ 24 % 256 : Nat) : Int)), (1, .int .u8 ((n / 2 ^ 16 % 256 : Nat) : Int)), (2, .int .u8 ((n / 2 ^ 8 % 256 : Nat) : Int)), (3, .int .u8 ((n % 256 : Nat) : Int))] (bytes (four n)) rfl rfl (by kernel_rfl) (fun _ _ h => h.nil) (fun b5 => ?_)
  refine St.append1 (e := 5) (sz := 1) (bytes := 1) (xs := bytes xs) (n := xs.length) (news := bytes (four n)) (m := 4) rfl rfl rfl (by kernel_rfl) hb (Rd.row rfl mem0) (bytes_one _) (by omega) (by omega) (fun _ _ h => h.nil) (fun v2 E2 hb2 _ => ?_)
  rw [← bytes_app] at hb2
  refine St.drop ?_
  refine St.assign rfl rfl ?_
  refine St.done ?_
  refine SX.seq ?_
  refine SC.ret ?_
  exact SX.ret1 rfl rfl ⟨E2, rfl, hb2⟩
theorem snum_spec (w0 : World) (L : List Chunk) (v : Value) (bs : List Nat) (hx : Rd w0 L v 1 bs.length (bytes bs)) (h4 : 4 ≤ bs.length) (hb : ∀ b ∈ bs, b < 256) :
    Meets Try.prog 119 #[v] w0 L (fun r L' => L = L' ∧ r = .int .i64 ((num bs 0 : Nat) : Int)) := by
  obtain ⟨_, b, o, A, c, rfl, hA, hr⟩ := hx
  have hAe := hA (by omega)
  subst hAe
  have hnum := num_or bs 0 hb
  refine Meets.of_body [.slice _ bs.length c] Try.func119 rfl Try.ntmps119 rfl ?_
  refine SC.seq ?_
  refine SC.plain ?_
  refine St.assign rfl rfl ?_
  refine St.done ?_
  refine SX.seq ?_
  refine SC.seq ?_
  refine SC.drawn [(0, true), (1, true), (2, true), (3, true), (4, true), (5, true), (6, true), (7, true), (8, true), (9, true), (10, true), (11, true), (12, true), (13, true), (14, true), (15, true), (16, true), (17, true), (18, true), (19, true), (20, true), (21, true), (22, true)] [] (_) (by kernel_rfl) (by kernel_rfl) (fun _ h => h) ?_
  refine St.move rfl rfl ?_
  refine St.indexSl (e := 5) (sz := 1) rfl rfl rfl (by kernel_rfl) (by omega) ?_
  first | (refine St.loadB (i := 0) rfl rfl (by kernel_rfl) (HoldsN.mono hr (fun w hw => by first | exact hw | exact hw.drop | exact hw.drop.drop | exact hw.drop.drop.drop | exact hw.drop.drop.drop.drop | exact hw.drop.drop.drop.drop.drop | exact hw.drop.drop.drop.drop.drop.drop | exact hw.drop.drop.drop.drop.drop.drop.drop | exact hw.drop.drop.drop.drop.drop.drop.drop.drop)) rfl (by omega) hb ?_; intro n5 e5 l5) | refine St.load rfl rfl (by kernel_rfl) (by first | exact Holds.row mem0 rfl | exact Holds.row mem1 rfl | exact Holds.row mem2 rfl | exact Holds.row mem3 rfl | exact Holds.row mem4 rfl | exact Holds.row mem5 rfl | exact Holds.row mem6 rfl | exact Holds.row mem7 rfl | exact Holds.row mem8 rfl) ?_
  refine St.convS rfl rfl (by kernel_rfl) (by kernel_rfl) (by omega) ?_
  first | refine St.shlN (b := 24) rfl rfl rfl (by omega) (by omega) ?_ | refine St.shl rfl rfl rfl (by omega) ?_
  refine St.move rfl rfl ?_
  refine St.indexSl (e := 5) (sz := 1) rfl rfl rfl (by kernel_rfl) (by omega) ?_
  first | (refine St.loadB (i := 1) rfl rfl (by kernel_rfl) (HoldsN.mono hr (fun w hw => by first | exact hw | exact hw.drop | exact hw.drop.drop | exact hw.drop.drop.drop | exact hw.drop.drop.drop.drop | exact hw.drop.drop.drop.drop.drop | exact hw.drop.drop.drop.drop.drop.drop | exact hw.drop.drop.drop.drop.drop.drop.drop | exact hw.drop.drop.drop.drop.drop.drop.drop.drop)) rfl (by omega) hb ?_; intro n10 e10 l10) | refine St.load rfl rfl (by kernel_rfl) (by first | exact Holds.row mem0 rfl | exact Holds.row mem1 rfl | exact Holds.row mem2 rfl | exact Holds.row mem3 rfl | exact Holds.row mem4 rfl | exact Holds.row mem5 rfl | exact Holds.row mem6 rfl | exact Holds.row mem7 rfl | exact Holds.row mem8 rfl) ?_
  refine St.convS rfl rfl (by kernel_rfl) (by kernel_rfl) (by omega) ?_
  first | refine St.shlN (b := 16) rfl rfl rfl (by omega) (by omega) ?_ | refine St.shl rfl rfl rfl (by omega) ?_
  refine St.orN rfl rfl rfl (by omega) (by omega) ?_
  refine St.move rfl rfl ?_
  refine St.indexSl (e := 5) (sz := 1) rfl rfl rfl (by kernel_rfl) (by omega) ?_
  first | (refine St.loadB (i := 2) rfl rfl (by kernel_rfl) (HoldsN.mono hr (fun w hw => by first | exact hw | exact hw.drop | exact hw.drop.drop | exact hw.drop.drop.drop | exact hw.drop.drop.drop.drop | exact hw.drop.drop.drop.drop.drop | exact hw.drop.drop.drop.drop.drop.drop | exact hw.drop.drop.drop.drop.drop.drop.drop | exact hw.drop.drop.drop.drop.drop.drop.drop.drop)) rfl (by omega) hb ?_; intro n16 e16 l16) | refine St.load rfl rfl (by kernel_rfl) (by first | exact Holds.row mem0 rfl | exact Holds.row mem1 rfl | exact Holds.row mem2 rfl | exact Holds.row mem3 rfl | exact Holds.row mem4 rfl | exact Holds.row mem5 rfl | exact Holds.row mem6 rfl | exact Holds.row mem7 rfl | exact Holds.row mem8 rfl) ?_
  refine St.convS rfl rfl (by kernel_rfl) (by kernel_rfl) (by omega) ?_
  first | refine St.shlN (b := 8) rfl rfl rfl (by omega) (by omega) ?_ | refine St.shl rfl rfl rfl (by omega) ?_
  have hs1 : n5 * 2 ^ 24 ||| n10 * 2 ^ 16 < 2 ^ 32 := or_small (by omega) (by omega)
  refine St.orN rfl rfl rfl (by omega) (by omega) ?_
  refine St.move rfl rfl ?_
  refine St.indexSl (e := 5) (sz := 1) rfl rfl rfl (by kernel_rfl) (by omega) ?_
  first | (refine St.loadB (i := 3) rfl rfl (by kernel_rfl) (HoldsN.mono hr (fun w hw => by first | exact hw | exact hw.drop | exact hw.drop.drop | exact hw.drop.drop.drop | exact hw.drop.drop.drop.drop | exact hw.drop.drop.drop.drop.drop | exact hw.drop.drop.drop.drop.drop.drop | exact hw.drop.drop.drop.drop.drop.drop.drop | exact hw.drop.drop.drop.drop.drop.drop.drop.drop)) rfl (by omega) hb ?_; intro n22 e22 l22) | refine St.load rfl rfl (by kernel_rfl) (by first | exact Holds.row mem0 rfl | exact Holds.row mem1 rfl | exact Holds.row mem2 rfl | exact Holds.row mem3 rfl | exact Holds.row mem4 rfl | exact Holds.row mem5 rfl | exact Holds.row mem6 rfl | exact Holds.row mem7 rfl | exact Holds.row mem8 rfl) ?_
  refine St.convS rfl rfl (by kernel_rfl) (by kernel_rfl) (by omega) ?_
  have hs2 : n5 * 2 ^ 24 ||| n10 * 2 ^ 16 ||| n16 * 2 ^ 8 < 2 ^ 32 := or_small hs1 (by omega)
  refine St.orN rfl rfl rfl (by omega) (by omega) ?_
  refine St.assign rfl rfl ?_
  refine St.done ?_
  refine SX.tail ?_
  refine St.done ?_
  have e0 : num bs 0 = n5 * 2 ^ 24 ||| n10 * 2 ^ 16 ||| n16 * 2 ^ 8 ||| n22 := by rw [hnum, e5, e10, e16, e22]
  refine SX.seq ?_
  refine SC.ret ?_
  exact SX.ret1 rfl rfl ⟨rfl, by rw [e0]⟩
theorem get_spec (w0 : World) (L : List Chunk) (v : Value) (bs : List Nat) (hx : Rd w0 L v 1 bs.length (bytes bs)) (h8 : bs.length ≤ 8) (hb : ∀ b ∈ bs, b < 256) :
    Meets Try.prog 116 #[v] w0 L (fun r L' => L = L' ∧ r = .int .u64 ((getN bs : Nat) : Int)) := by
  obtain ⟨_, b, o, A, c, rfl, hA, hr⟩ := hx
  refine Meets.of_body [.slice A bs.length c] Try.func116 rfl Try.ntmps116 rfl ?_
  refine SC.seq ?_
  refine SC.plain ?_
  refine St.assign rfl rfl ?_
  refine St.done ?_
  refine SX.seq ?_
  refine SC.seq ?_
  refine SC.plain ?_
  refine St.assign rfl rfl ?_
  refine St.done ?_
  refine SX.seq ?_
  refine SC.seq ?_
  refine SC.seq ?_
  refine SC.plain ?_
  refine St.assign rfl rfl ?_
  refine St.done ?_
  refine SX.seq ?_
  refine SC.block ?_
  refine SC.loop (α := Nat) (fun i => i ≤ bs.length) (fun i => [(0, .slice A bs.length c), (3, .int .u64 ((getN (bs.take i) : Nat) : Int)), (4, .int .i64 ((i : Nat) : Int))]) (fun i => L) (fun i => bs.length - i) 0 (Nat.zero_le _) ⟨rfl, rfl, rfl, trivial⟩ (List.Perm.refl _) ?_
  intro i hi
  refine SC.seq ?_
  refine SC.seq ?_
  refine SC.plain ?_
  refine St.move rfl rfl ?_
  refine St.move rfl rfl ?_
  refine St.lenSl rfl rfl (by kernel_rfl) ?_
  refine St.lss rfl rfl rfl ?_
  refine St.done ?_
  refine SX.seq ?_
  refine SC.condp rfl (fun c8 => ?_) (fun c8 => ?_)
  · have hlt : i < bs.length := by omega
    have hAe := hA (by omega)
    subst hAe
    have hbd : getN (bs.take i) < 256 ^ 7 := Nat.lt_of_lt_of_le (getN_lt (bs.take i) (fun b hb1 => hb b (List.mem_of_mem_take hb1))) (Nat.pow_le_pow_right (by decide) (by rw [List.length_take]; omega))
    rw [show (256 : Nat) ^ 7 = 72057594037927936 from rfl] at hbd
    refine SC.skip ?_
    refine SX.seq ?_
    refine SC.seq ?_
    refine SC.block ?_
    refine SC.plain ?_
    refine St.move rfl rfl ?_
    first | refine St.mulUx un64 (a := 256) rfl rfl rfl (by omega) ?_ | refine St.mulU un64 (a := 256) rfl rfl rfl ?_
    refine St.move rfl rfl ?_
    refine St.move rfl rfl ?_
    refine St.indexSl (e := 5) (sz := 1) rfl rfl rfl (by kernel_rfl) (by omega) ?_
    first | (refine St.loadB rfl rfl (by kernel_rfl) (HoldsN.mono hr (fun w hw => by first | exact hw | exact hw.drop | exact hw.drop.drop | exact hw.drop.drop.drop | exact hw.drop.drop.drop.drop | exact hw.drop.drop.drop.drop.drop | exact hw.drop.drop.drop.drop.drop.drop | exact hw.drop.drop.drop.drop.drop.drop.drop | exact hw.drop.drop.drop.drop.drop.drop.drop.drop)) rfl (by omega) hb ?_; intro n16 e16 l16) | refine St.load rfl rfl (by kernel_rfl) (by first | exact Holds.row mem0 rfl | exact Holds.row mem1 rfl | exact Holds.row mem2 rfl | exact Holds.row mem3 rfl | exact Holds.row mem4 rfl | exact Holds.row mem5 rfl | exact Holds.row mem6 rfl | exact Holds.row mem7 rfl | exact Holds.row mem8 rfl) ?_
    first | refine St.convUx un64 rfl rfl (by kernel_rfl) (by kernel_rfl) (by omega) ?_ | refine St.convU un64 rfl rfl (by kernel_rfl) (by kernel_rfl) ?_ | refine St.convZ un64 rfl rfl (by kernel_rfl) (by kernel_rfl) ?_
    first | refine St.addUx un64 rfl rfl rfl (by omega) ?_ | refine St.addU un64 rfl rfl rfl ?_
    refine St.assign rfl rfl ?_
    refine St.done ?_
    refine SX.blk ?_
    refine SX.seq ?_
    refine SC.plain ?_
    refine St.move rfl rfl ?_
    first | refine St.addN (b := 1) rfl rfl rfl (by omega) ?_ | refine St.addI rfl rfl rfl (by omega) ?_
    refine St.assign rfl rfl ?_
    refine St.done ?_
    rw [e16, ← getN_take bs i hlt]
    exact SX.again (i + 1) (by omega) (by show bs.length - (i + 1) < bs.length - i; omega) ⟨rfl, rfl, rfl, trivial⟩ (List.Perm.refl _)
  · have hie : i = bs.length := by omega
    subst hie
    rw [List.take_length]
    refine SC.exit ?_
    refine SX.seq_exit ?_
    refine SX.seq_exit ?_
    refine SX.hit ?_
    refine SX.seq ?_
    refine SC.seq ?_
    refine SC.plain ?_
    refine St.move rfl rfl ?_
    refine St.assign rfl rfl ?_
    refine St.done ?_
    refine SX.seq ?_
    refine SC.ret ?_
    exact SX.ret1 rfl rfl ⟨rfl, rfl⟩
theorem word4_spec (w0 : World) (L : List Chunk) (n : Nat) :
    Meets Try.prog 123 #[.int .u32 ((n : Nat) : Int)] w0 L (SumR (four n) L) := by
  refine Meets.of_body [.int .u32 ((n : Nat) : Int)] Try.func123 rfl Try.ntmps123 rfl ?_
  refine SC.seq ?_
  refine SC.plain ?_
  refine St.assign rfl rfl ?_
  refine St.done ?_
  refine SX.seq ?_
  refine SC.seq ?_
  refine SC.plain ?_
  refine St.move rfl rfl ?_
  refine St.buildSl (n := 1) (e := 33) [(0, .int .u32 ((n : Nat) : Int))] [.int .u32 ((n : Nat) : Int)] rfl rfl (by kernel_rfl) (fun _ _ h => h.nil) (fun b5 => ?_)
  refine St.call [_] rfl (by kernel_rfl) rfl (words_spec w0 _ _ [n] (Rd.row rfl mem0) (by simp)) (by first | exact fun _ _ _ _ h => h.nil | assumption) ?_
  rintro r L1 ⟨E, rfl, hb⟩
  refine St.perm _ (perm12 _ _ _) ?_
  refine St.drop ?_
  refine St.assign rfl rfl ?_
  refine St.done ?_
  refine SX.seq ?_
  refine SC.ret ?_
  exact SX.ret1 rfl rfl ⟨E, rfl, by simp only [List.flatMap_cons, List.flatMap_nil, List.append_nil] at hb; exact hb⟩
theorem clip_spec (w0 : World) (L : List Chunk) (v : Value) (xs : List Value) (n : Nat) (E : Chunk) (hb : Buf 5 1 v xs n E) :
    Meets Try.prog 120 #[v] w0 (E :: L) (fun r L' => E :: L = L' ∧ Buf 5 1 r xs n E) := by
  have hbr := hb.read
  obtain ⟨b, o, A, c, rfl, _, _⟩ := hbr
  refine Meets.of_body [.slice A n c] Try.func120 rfl Try.ntmps120 rfl ?_
  refine SC.seq ?_
  refine SC.plain ?_
  refine St.assign rfl rfl ?_
  refine St.done ?_
  refine SX.seq ?_
  refine SC.seq ?_
  refine SC.plain ?_
  refine St.move rfl rfl ?_
  refine St.move rfl rfl ?_
  refine St.lenSl rfl rfl (by kernel_rfl) ?_
  refine St.move rfl rfl ?_
  refine St.lenSl rfl rfl (by kernel_rfl) ?_
  refine St.clip rfl rfl (by kernel_rfl) hb ⟨_, rfl⟩ ⟨_, rfl⟩ (fun v2 hb2 => ?_)
  refine St.assign rfl rfl ?_
  refine St.done ?_
  refine SX.seq ?_
  refine SC.ret ?_
  exact SX.ret1 rfl rfl ⟨rfl, hb2⟩
theorem clone_spec (w0 : World) (L : List Chunk) (v : Value) (bs : List Nat) (hx : Rd w0 L v 1 bs.length (bytes bs)) (hl : bs.length ≤ 140737488351232) :
    Meets Try.prog 121 #[v] w0 L (SumR bs L) := by
  have hx0 := hx
  obtain ⟨_, b, o, A, c, rfl, hA, hr⟩ := hx
  refine Meets.of_body [.slice A bs.length c] Try.func121 rfl Try.ntmps121 rfl ?_
  refine SC.seq ?_
  refine SC.plain ?_
  refine St.assign rfl rfl ?_
  refine St.done ?_
  refine SX.seq ?_
  refine SC.seq ?_
  refine SC.seq ?_
  refine SC.plain ?_
  refine St.move rfl rfl ?_
  refine St.slEql rfl rfl rfl (by kernel_rfl) ?_
  refine St.done ?_
  refine SX.seq ?_
  refine SC.cond rfl (fun c4 => ?_) (fun c4 => ?_)
  · refine SC.seq ?_
    refine SC.plain ?_
    refine St.assign rfl rfl ?_
    refine St.done ?_
    refine SX.seq ?_
    refine SC.ret ?_
    refine SX.seq_ret ?_
    have hz : bs.length = 0 := by
      rcases Nat.eq_zero_or_pos bs.length with h | h
      · exact h
      · have := hA h
        subst this
        cases c4
    have hbe : bs = [] := List.eq_nil_of_length_eq_zero hz
    subst hbe
    refine SX.perm ([] :: L) (List.Perm.refl _) ?_
    exact SX.ret1 rfl rfl ⟨[], rfl, Buf.nil 5 1⟩
  · refine SC.skip ?_
    refine SX.seq ?_
    refine SC.seq ?_
    refine SC.plain ?_
    refine St.buildSl0 (e := 5) (sz := 1) rfl (by kernel_rfl) (fun _ _ h => h.nil) (fun b0 => ?_)
    refine St.move rfl rfl ?_
    refine St.append (e := 5) (sz := 1) (bytes := 1) (xs := []) (n := 0) (news := bytes bs) (m := bs.length) rfl rfl rfl (by kernel_rfl) (Buf.whole rfl) hx0.cons (bytes_one _) (by omega) (by omega) (fun _ _ h => h.nil) (fun v2 E2 hb2 _ => ?_)
    rw [List.nil_append, Nat.zero_add] at hb2
    refine St.assign rfl rfl ?_
    refine St.done ?_
    refine SX.seq ?_
    refine SC.ret ?_
    exact SX.ret1 rfl rfl ⟨E2, rfl, hb2⟩
end Go.Proofs.Ytahafepgmkiabaa
