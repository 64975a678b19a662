/- Walks: the document's inflating: a stream with a head and a sum; the laws InflateZlib and InflateRaw. -/
import Derived.Test.YtahafepgmkiabaaK5
set_option linter.unusedVariables false
set_option linter.unusedSimpArgs false
set_option linter.ambiguousOpen false
namespace Go.Proofs.Ytahafepgmkiabaa
open Go Go.Proofs.Ytahafepgmkiabaa.Sep Go.Proofs.Ytahafepgmkiabaa.Inf

def getV : List Nat → Nat
  | [] => 0
  | b :: bs => b * 256 ^ bs.length + getV bs
theorem getV_snoc : ∀ (bs : List Nat) (b : Nat), getV (bs ++ [b]) = 256 * getV bs + b
  | [], b => by simp [getV]
  | c :: bs, b => by
    simp only [List.cons_append, getV, getV_snoc bs b, List.length_append, List.length_singleton]
    rw [Nat.pow_succ, ← Nat.mul_assoc, Nat.mul_comm (c * 256 ^ bs.length) 256, Nat.mul_add]
    omega
theorem getV_lt : ∀ (bs : List Nat), (∀ b ∈ bs, b < 256) → getV bs < 256 ^ bs.length
  | [], _ => by simp [getV]
  | b :: bs, h => by
    have h1 := getV_lt bs (fun x hx => h x (List.mem_cons_of_mem _ hx))
    have h2 := h b List.mem_cons_self
    simp only [getV, List.length_cons, Nat.pow_succ]
    have : b * 256 ^ bs.length ≤ 255 * 256 ^ bs.length := Nat.mul_le_mul_right _ (by omega)
    omega
theorem getV_take (bs : List Nat) (i : Nat) (h : i < bs.length) : getV (bs.take (i + 1)) = 256 * getV (bs.take i) + bs.getD i 0 := by
  rw [List.take_succ_eq_append_getElem h, getV_snoc, List.getD_eq_getElem?_getD, List.getElem?_eq_getElem h]; rfl
theorem or_mulV (a b k : Nat) : (a ||| b) * 2 ^ k = a * 2 ^ k ||| b * 2 ^ k := by
  rw [← Nat.shiftLeft_eq, Nat.shiftLeft_or_distrib, Nat.shiftLeft_eq, Nat.shiftLeft_eq]
theorem getV_four {bs : List Nat} (h : bs.length = 4) (hb : ∀ b ∈ bs, b < 256) : getV bs = sumAt bs 0 := by
  match bs, h with
  | [a, b, c, d], _ =>
    have ha := hb a (by simp)
    have hbb := hb b (by simp)
    have hc := hb c (by simp)
    have hd := hb d (by simp)
    show a * 256 ^ 3 + (b * 256 ^ 2 + (c * 256 ^ 1 + (d * 256 ^ 0 + 0))) = be32 a b c d
    unfold be32
    rw [Nat.mod_eq_of_lt (by omega), Nat.mod_eq_of_lt (by omega), Nat.mod_eq_of_lt (by omega)]
    have s1 : a * 2 ^ 24 ||| b * 2 ^ 16 = (a * 2 ^ 8 + b) * 2 ^ 16 := by
      rw [show a * 2 ^ 24 = (a * 2 ^ 8) * 2 ^ 16 by omega, ← or_mulV]
      rw [or8 a b hbb]
    have s2 : (a * 2 ^ 8 + b) * 2 ^ 16 ||| c * 2 ^ 8 = ((a * 2 ^ 8 + b) * 2 ^ 8 + c) * 2 ^ 8 := by
      rw [show (a * 2 ^ 8 + b) * 2 ^ 16 = ((a * 2 ^ 8 + b) * 2 ^ 8) * 2 ^ 8 by omega, ← or_mulV]
      rw [or8 _ c hc]
    rw [s1, s2, or8 _ d hd]
    omega
theorem getV_spec (w0 : World) (L : List Chunk) (v : Value) (bs : List Nat) (hx : Rd w0 L v 1 bs.length (bytes bs)) (h8 : bs.length ≤ 8) (hb : ∀ b ∈ bs, b < 256) :
    Meets Try.prog 116 #[v] w0 L (fun r L' => L = L' ∧ r = .int .u64 ((getV bs : Nat) : Int)) := by
  obtain ⟨_, b, o, A, c, rfl, hA, hr⟩ := hx
  refine Meets.of_body [.slice A bs.length c] Try.func116 rfl Try.ntmps116 rfl ?_
  refine SC.seq ?_
  refine SC.plain ?_
  refine St.assign rfl rfl ?_
  refine St.done ?_
  refine SX.seq ?_
  refine SC.seq ?_
  refine SC.plain ?_
  refine St.assign rfl rfl ?_
  refine St.done ?_
  refine SX.seq ?_
  refine SC.seq ?_
  refine SC.seq ?_
  refine SC.plain ?_
  refine St.assign rfl rfl ?_
  refine St.done ?_
  refine SX.seq ?_
  refine SC.block ?_
  refine SC.loop (α := Nat) (fun i => i ≤ bs.length) (fun i => [(0, .slice A bs.length c), (3, .int .u64 ((getV (bs.take i) : Nat) : Int)), (4, .int .i64 ((i : Nat) : Int))]) (fun i => L) (fun i => bs.length - i) 0 (Nat.zero_le _) ⟨rfl, rfl, rfl, trivial⟩ (List.Perm.refl _) ?_
  intro i hi
  refine SC.seq ?_
  refine SC.seq ?_
  refine SC.plain ?_
  refine St.move rfl rfl ?_
  refine St.move rfl rfl ?_
  refine St.lenSl rfl rfl (by kernel_rfl) ?_
  refine St.lss rfl rfl rfl ?_
  refine St.done ?_
  refine SX.seq ?_
  refine SC.condp rfl (fun c8 => ?_) (fun c8 => ?_)
  · have hlt : i < bs.length := by omega
    have hAe := hA (by omega)
    subst hAe
    have hbd : getV (bs.take i) < 256 ^ 7 := Nat.lt_of_lt_of_le (getV_lt (bs.take i) (fun b hb1 => hb b (List.mem_of_mem_take hb1))) (Nat.pow_le_pow_right (by decide) (by rw [List.length_take]; omega))
    rw [show (256 : Nat) ^ 7 = 72057594037927936 from rfl] at hbd
    refine SC.skip ?_
    refine SX.seq ?_
    refine SC.seq ?_
    refine SC.block ?_
    refine SC.plain ?_
    refine St.move rfl rfl ?_
    first | refine St.mulUx un64 (a := 256) rfl rfl rfl (by omega) ?_ | refine St.mulU un64 (a := 256) rfl rfl rfl ?_
    refine St.move rfl rfl ?_
    refine St.move rfl rfl ?_
    refine St.indexSl (e := 5) (sz := 1) rfl rfl rfl (by kernel_rfl) (by omega) ?_
    first | (refine St.loadB rfl rfl (by kernel_rfl) (HoldsN.mono hr (fun w hw => by first | exact hw | exact hw.drop | exact hw.drop.drop | exact hw.drop.drop.drop | exact hw.drop.drop.drop.drop | exact hw.drop.drop.drop.drop.drop | exact hw.drop.drop.drop.drop.drop.drop | exact hw.drop.drop.drop.drop.drop.drop.drop | exact hw.drop.drop.drop.drop.drop.drop.drop.drop)) rfl (by omega) hb ?_; intro n16 e16 l16) | refine St.load rfl rfl (by kernel_rfl) (by first | exact Holds.row mem0 rfl | exact Holds.row mem1 rfl | exact Holds.row mem2 rfl | exact Holds.row mem3 rfl | exact Holds.row mem4 rfl | exact Holds.row mem5 rfl | exact Holds.row mem6 rfl | exact Holds.row mem7 rfl | exact Holds.row mem8 rfl) ?_
    first | refine St.convUx un64 rfl rfl (by kernel_rfl) (by kernel_rfl) (by omega) ?_ | refine St.convU un64 rfl rfl (by kernel_rfl) (by kernel_rfl) ?_ | refine St.convZ un64 rfl rfl (by kernel_rfl) (by kernel_rfl) ?_
    first | refine St.addUx un64 rfl rfl rfl (by omega) ?_ | refine St.addU un64 rfl rfl rfl ?_
    refine St.assign rfl rfl ?_
    refine St.done ?_
    refine SX.blk ?_
    refine SX.seq ?_
    refine SC.plain ?_
    refine St.move rfl rfl ?_
    first | refine St.addN (b := 1) rfl rfl rfl (by omega) ?_ | refine St.addI rfl rfl rfl (by omega) ?_
    refine St.assign rfl rfl ?_
    refine St.done ?_
    rw [e16, ← getV_take bs i hlt]
    exact SX.again (i + 1) (by omega) (by show bs.length - (i + 1) < bs.length - i; omega) ⟨rfl, rfl, rfl, trivial⟩ (List.Perm.refl _)
  · have hie : i = bs.length := by omega
    subst hie
    rw [List.take_length]
    refine SC.exit ?_
    refine SX.seq_exit ?_
    refine SX.seq_exit ?_
    refine SX.hit ?_
    refine SX.seq ?_
    refine SC.seq ?_
    refine SC.plain ?_
    refine St.move rfl rfl ?_
    refine St.assign rfl rfl ?_
    refine St.done ?_
    refine SX.seq ?_
    refine SC.ret ?_
    exact SX.ret1 rfl rfl ⟨rfl, rfl⟩
theorem sum_cut (bs : List Nat) (l : Nat) : sumAt ((bs.drop l).take 4) 0 = sumAt bs l := by
  unfold sumAt
  rw [part_at _ _ _ _ (by decide), part_at _ _ _ _ (by decide), part_at _ _ _ _ (by decide), part_at _ _ _ _ (by decide)]
  rfl

theorem wzlib_spec (w0 : World) (L : List Chunk) (v0 : Value) (bs : List Nat) (hv : Rd w0 L v0 1 bs.length (bytes bs)) (hcp : Cap v0) (hl : bs.length ≤ 140737488351232) (hb : ∀ b ∈ bs, b < 256) (m : Int) (hm0 : m ≤ 70368744177664) (F : Nat) (hF : 8 * bs.length < F) :
    Meets Try.prog 55 #[v0, .int .i64 m] w0 L (GotA (zlibG F bs m.toNat) L) := by
  have hv0 := hv
  obtain ⟨_, b0, o0, A0, c0, rfl, hA0, hr⟩ := hv
  refine Meets.of_body [.slice A0 bs.length c0, .int .i64 m] Try.func55 rfl Try.ntmps55 rfl ?_
  refine SC.seq ?_
  refine SC.plain ?_
  refine St.alloc [.slice none 0 0, .int .i64 0, .int .i64 0] rfl (by kernel_rfl) (fun _ _ h => h.nil) (fun b4 => ?_)
  refine St.done ?_
  refine SX.seq ?_
  refine SC.seq ?_
  refine SC.seq ?_
  refine SC.plain ?_
  refine St.move rfl rfl ?_
  refine St.lenSl rfl rfl (by kernel_rfl) ?_
  refine St.lss rfl rfl rfl ?_
  refine St.done ?_
  refine SX.seq ?_
  refine SC.condp rfl (fun c9 => ?_) (fun c9 => ?_)
  · have hm : zlibG F bs m.toNat = ([], 0, 4) := if_pos (by omega)
    refine SC.seq ?_
    refine SC.plain ?_
    refine St.build [(2, .int .i64 4)] ([.slice none 0 0, .int .i64 0, .int .i64 4]) rfl rfl (by kernel_rfl) ?_
    refine St.storeN rfl rfl rfl ([.slice none 0 0, .int .i64 0, .int .i64 4]) rfl (by kernel_rfl) (by simp [one]) (by simp) (fun _ h => h.nil) ?_
    rw [show splice [.slice none 0 0, .int .i64 0, .int .i64 0] 0 ([.slice none 0 0, .int .i64 0, .int .i64 4]) = [.slice none 0 0, .int .i64 0, .int .i64 4] from rfl]
    refine St.done ?_
    refine SX.seq ?_
    refine SC.ret ?_
    refine SX.seq_ret ?_
    rw [hm]
    exact SX.retC ([.slice none 0 0, .int .i64 0, .int .i64 4]) (.inl rfl) rfl rfl (by kernel_rfl) (HoldsN.of_row mem0) (L' := [] :: L) (fun _ h => h.drop.perm (List.Perm.refl _)) ⟨_, _, rfl, Buf.nil 5 1, rfl⟩
  · obtain rfl := hA0 (by omega)
    refine SC.skip ?_
    refine SX.seq ?_
    refine SC.seq ?_
    refine SC.seq ?_
    refine SC.drawn [(0, true), (1, true), (2, true), (3, true), (4, true), (5, true), (6, true), (7, true), (8, true), (9, true), (10, true), (11, true), (12, true), (13, true), (14, true), (15, true), (16, true), (17, true), (18, true), (19, true), (20, true), (21, true), (22, true), (23, true), (24, true), (25, true), (26, true), (27, true), (28, true), (29, true), (30, true), (31, true), (32, true)] [] (_) (by kernel_rfl) (by kernel_rfl) (fun _ h => h) ?_
    refine St.move rfl rfl ?_
    refine St.indexSl (e := 5) (sz := 1) rfl rfl rfl (by kernel_rfl) (by omega) ?_
    first | (refine St.loadB (i := 0) rfl rfl (by kernel_rfl) (HoldsN.mono hr (fun w hw => by first | exact hw | exact hw.drop | exact hw.drop.drop | exact hw.drop.drop.drop | exact hw.drop.drop.drop.drop | exact hw.drop.drop.drop.drop.drop | exact hw.drop.drop.drop.drop.drop.drop | exact hw.drop.drop.drop.drop.drop.drop.drop | exact hw.drop.drop.drop.drop.drop.drop.drop.drop | exact hw.drop.drop.drop.drop.drop.drop.drop.drop.drop | exact hw.drop.drop.drop.drop.drop.drop.drop.drop.drop.drop | exact hw.drop.drop.drop.drop.drop.drop.drop.drop.drop.drop.drop | exact hw.drop.drop.drop.drop.drop.drop.drop.drop.drop.drop.drop.drop | exact hw.drop.drop.drop.drop.drop.drop.drop.drop.drop.drop.drop.drop.drop)) rfl (by omega) hb ?_; intro n13 e13 l13) | refine St.load rfl rfl (by kernel_rfl) (by first | exact Holds.row mem0 rfl | exact Holds.row mem1 rfl | exact Holds.row mem2 rfl | exact Holds.row mem3 rfl | exact Holds.row mem4 rfl | exact Holds.row mem5 rfl | exact Holds.row mem6 rfl | exact Holds.row mem7 rfl | exact Holds.row mem8 rfl) ?_
    first | refine St.andU un8 (b := 15) rfl rfl rfl (by omega) (by omega) ?_ | refine St.andI rfl rfl rfl ?_
    refine St.neq rfl rfl rfl ?_
    refine St.move rfl rfl ?_
    refine St.split 16 rfl (fun g16 => ?_) (fun g16 => ?_)
    · refine St.guard_no rfl rfl rfl ?_
      refine St.guard_no rfl rfl rfl ?_
      refine St.guard_no rfl rfl rfl ?_
      refine St.guard_no rfl rfl rfl ?_
      refine St.guard_no rfl rfl rfl ?_
      refine St.pick_true rfl rfl rfl ?_
      refine St.move rfl rfl ?_
      refine St.guard_no rfl rfl rfl ?_
      refine St.guard_no rfl rfl rfl ?_
      refine St.guard_no rfl rfl rfl ?_
      refine St.guard_no rfl rfl rfl ?_
      refine St.guard_no rfl rfl rfl ?_
      refine St.guard_no rfl rfl rfl ?_
      refine St.guard_no rfl rfl rfl ?_
      refine St.guard_no rfl rfl rfl ?_
      refine St.guard_no rfl rfl rfl ?_
      refine St.guard_no rfl rfl rfl ?_
      refine St.guard_no rfl rfl rfl ?_
      refine St.guard_no rfl rfl rfl ?_
      refine St.pick_true rfl rfl rfl ?_
      refine St.move rfl rfl ?_
      refine St.guard_no rfl rfl rfl ?_
      refine St.guard_no rfl rfl rfl ?_
      refine St.guard_no rfl rfl rfl ?_
      refine St.guard_no rfl rfl rfl ?_
      refine St.guard_no rfl rfl rfl ?_
      refine St.pick_true rfl rfl rfl ?_
      refine St.done ?_
      refine SX.tail ?_
      refine St.done ?_
      refine SX.seq ?_
      refine SC.cond_true rfl ?_
      refine SC.seq ?_
      refine SC.plain ?_
      refine St.build [(2, .int .i64 3)] ([.slice none 0 0, .int .i64 0, .int .i64 3]) rfl rfl (by kernel_rfl) ?_
      refine St.storeN rfl rfl rfl ([.slice none 0 0, .int .i64 0, .int .i64 3]) rfl (by kernel_rfl) (by simp [one]) (by simp) (fun _ h => h.nil) ?_
      rw [show splice [.slice none 0 0, .int .i64 0, .int .i64 0] 0 ([.slice none 0 0, .int .i64 0, .int .i64 3]) = [.slice none 0 0, .int .i64 0, .int .i64 3] from rfl]
      refine St.done ?_
      refine SX.seq ?_
      refine SC.ret ?_
      refine SX.seq_ret ?_
      have hm : zlibG F bs m.toNat = ([], 0, 3) := (if_neg (by omega)).trans (if_pos (.inl (fun h => g16 (by rw [e13, h]; rfl))))
      rw [hm]
      exact SX.retC ([.slice none 0 0, .int .i64 0, .int .i64 3]) (.inl rfl) rfl rfl (by kernel_rfl) (HoldsN.of_row mem0) (L' := [] :: L) (fun _ h => h.drop.perm (List.Perm.refl _)) ⟨_, _, rfl, Buf.nil 5 1, rfl⟩
    · refine St.guard_yes rfl rfl ?_
      refine St.move rfl rfl ?_
      refine St.guard_yes rfl rfl ?_
      refine St.indexSl (e := 5) (sz := 1) rfl rfl rfl (by kernel_rfl) (by omega) ?_
      refine St.guard_yes rfl rfl ?_
      first | (refine St.loadB (i := 0) rfl rfl (by kernel_rfl) (HoldsN.mono hr (fun w hw => by first | exact hw | exact hw.drop | exact hw.drop.drop | exact hw.drop.drop.drop | exact hw.drop.drop.drop.drop | exact hw.drop.drop.drop.drop.drop | exact hw.drop.drop.drop.drop.drop.drop | exact hw.drop.drop.drop.drop.drop.drop.drop | exact hw.drop.drop.drop.drop.drop.drop.drop.drop | exact hw.drop.drop.drop.drop.drop.drop.drop.drop.drop | exact hw.drop.drop.drop.drop.drop.drop.drop.drop.drop.drop | exact hw.drop.drop.drop.drop.drop.drop.drop.drop.drop.drop.drop | exact hw.drop.drop.drop.drop.drop.drop.drop.drop.drop.drop.drop.drop | exact hw.drop.drop.drop.drop.drop.drop.drop.drop.drop.drop.drop.drop.drop)) rfl (by omega) hb ?_; intro n19 e19 l19) | refine St.load rfl rfl (by kernel_rfl) (by first | exact Holds.row mem0 rfl | exact Holds.row mem1 rfl | exact Holds.row mem2 rfl | exact Holds.row mem3 rfl | exact Holds.row mem4 rfl | exact Holds.row mem5 rfl | exact Holds.row mem6 rfl | exact Holds.row mem7 rfl | exact Holds.row mem8 rfl) ?_
      refine St.guard_yes rfl rfl ?_
      first | refine St.shrU un8 (b := 4) rfl rfl rfl (by show _ ≤ (8 : Nat); omega) ?_ | refine St.shr rfl rfl rfl (by omega) ?_
      refine St.guard_yes rfl rfl ?_
      refine St.gtr rfl rfl rfl ?_
      refine St.pick_false rfl rfl rfl ?_
      refine St.move rfl rfl ?_
      refine St.split 23 rfl (fun g23 => ?_) (fun g23 => ?_)
      · refine St.guard_no rfl rfl rfl ?_
        refine St.guard_no rfl rfl rfl ?_
        refine St.guard_no rfl rfl rfl ?_
        refine St.guard_no rfl rfl rfl ?_
        refine St.guard_no rfl rfl rfl ?_
        refine St.guard_no rfl rfl rfl ?_
        refine St.guard_no rfl rfl rfl ?_
        refine St.guard_no rfl rfl rfl ?_
        refine St.guard_no rfl rfl rfl ?_
        refine St.guard_no rfl rfl rfl ?_
        refine St.guard_no rfl rfl rfl ?_
        refine St.guard_no rfl rfl rfl ?_
        refine St.pick_true rfl rfl rfl ?_
        refine St.move rfl rfl ?_
        refine St.guard_no rfl rfl rfl ?_
        refine St.guard_no rfl rfl rfl ?_
        refine St.guard_no rfl rfl rfl ?_
        refine St.guard_no rfl rfl rfl ?_
        refine St.guard_no rfl rfl rfl ?_
        refine St.pick_true rfl rfl rfl ?_
        refine St.done ?_
        refine SX.tail ?_
        refine St.done ?_
        refine SX.seq ?_
        refine SC.cond_true rfl ?_
        refine SC.seq ?_
        refine SC.plain ?_
        refine St.build [(2, .int .i64 3)] ([.slice none 0 0, .int .i64 0, .int .i64 3]) rfl rfl (by kernel_rfl) ?_
        refine St.storeN rfl rfl rfl ([.slice none 0 0, .int .i64 0, .int .i64 3]) rfl (by kernel_rfl) (by simp [one]) (by simp) (fun _ h => h.nil) ?_
        rw [show splice [.slice none 0 0, .int .i64 0, .int .i64 0] 0 ([.slice none 0 0, .int .i64 0, .int .i64 3]) = [.slice none 0 0, .int .i64 0, .int .i64 3] from rfl]
        refine St.done ?_
        refine SX.seq ?_
        refine SC.ret ?_
        refine SX.seq_ret ?_
        have hm : zlibG F bs m.toNat = ([], 0, 3) := (if_neg (by omega)).trans (if_pos (.inr (.inl (by rw [← e19]; omega))))
        rw [hm]
        exact SX.retC ([.slice none 0 0, .int .i64 0, .int .i64 3]) (.inl rfl) rfl rfl (by kernel_rfl) (HoldsN.of_row mem0) (L' := [] :: L) (fun _ h => h.drop.perm (List.Perm.refl _)) ⟨_, _, rfl, Buf.nil 5 1, rfl⟩
      · refine St.guard_yes rfl rfl ?_
        refine St.move rfl rfl ?_
        refine St.guard_yes rfl rfl ?_
        refine St.indexSl (e := 5) (sz := 1) rfl rfl rfl (by kernel_rfl) (by omega) ?_
        refine St.guard_yes rfl rfl ?_
        first | (refine St.loadB (i := 0) rfl rfl (by kernel_rfl) (HoldsN.mono hr (fun w hw => by first | exact hw | exact hw.drop | exact hw.drop.drop | exact hw.drop.drop.drop | exact hw.drop.drop.drop.drop | exact hw.drop.drop.drop.drop.drop | exact hw.drop.drop.drop.drop.drop.drop | exact hw.drop.drop.drop.drop.drop.drop.drop | exact hw.drop.drop.drop.drop.drop.drop.drop.drop | exact hw.drop.drop.drop.drop.drop.drop.drop.drop.drop | exact hw.drop.drop.drop.drop.drop.drop.drop.drop.drop.drop | exact hw.drop.drop.drop.drop.drop.drop.drop.drop.drop.drop.drop | exact hw.drop.drop.drop.drop.drop.drop.drop.drop.drop.drop.drop.drop | exact hw.drop.drop.drop.drop.drop.drop.drop.drop.drop.drop.drop.drop.drop)) rfl (by omega) hb ?_; intro n26 e26 l26) | refine St.load rfl rfl (by kernel_rfl) (by first | exact Holds.row mem0 rfl | exact Holds.row mem1 rfl | exact Holds.row mem2 rfl | exact Holds.row mem3 rfl | exact Holds.row mem4 rfl | exact Holds.row mem5 rfl | exact Holds.row mem6 rfl | exact Holds.row mem7 rfl | exact Holds.row mem8 rfl) ?_
        refine St.guard_yes rfl rfl ?_
        refine St.convS rfl rfl (by kernel_rfl) (by kernel_rfl) (by omega) ?_
        refine St.guard_yes rfl rfl ?_
        first | refine St.mulN (b := 256) rfl rfl rfl (by omega) ?_ | refine St.mulI rfl rfl rfl (by omega) ?_
        refine St.guard_yes rfl rfl ?_
        refine St.move rfl rfl ?_
        refine St.guard_yes rfl rfl ?_
        refine St.indexSl (e := 5) (sz := 1) rfl rfl rfl (by kernel_rfl) (by omega) ?_
        refine St.guard_yes rfl rfl ?_
        first | (refine St.loadB (i := 1) rfl rfl (by kernel_rfl) (HoldsN.mono hr (fun w hw => by first | exact hw | exact hw.drop | exact hw.drop.drop | exact hw.drop.drop.drop | exact hw.drop.drop.drop.drop | exact hw.drop.drop.drop.drop.drop | exact hw.drop.drop.drop.drop.drop.drop | exact hw.drop.drop.drop.drop.drop.drop.drop | exact hw.drop.drop.drop.drop.drop.drop.drop.drop | exact hw.drop.drop.drop.drop.drop.drop.drop.drop.drop | exact hw.drop.drop.drop.drop.drop.drop.drop.drop.drop.drop | exact hw.drop.drop.drop.drop.drop.drop.drop.drop.drop.drop.drop | exact hw.drop.drop.drop.drop.drop.drop.drop.drop.drop.drop.drop.drop | exact hw.drop.drop.drop.drop.drop.drop.drop.drop.drop.drop.drop.drop.drop)) rfl (by omega) hb ?_; intro n31 e31 l31) | refine St.load rfl rfl (by kernel_rfl) (by first | exact Holds.row mem0 rfl | exact Holds.row mem1 rfl | exact Holds.row mem2 rfl | exact Holds.row mem3 rfl | exact Holds.row mem4 rfl | exact Holds.row mem5 rfl | exact Holds.row mem6 rfl | exact Holds.row mem7 rfl | exact Holds.row mem8 rfl) ?_
        refine St.guard_yes rfl rfl ?_
        refine St.convS rfl rfl (by kernel_rfl) (by kernel_rfl) (by omega) ?_
        refine St.guard_yes rfl rfl ?_
        first | refine St.addN rfl rfl rfl (by omega) ?_ | refine St.addI rfl rfl rfl (by omega) ?_
        refine St.guard_yes rfl rfl ?_
        first | refine St.remN (b := 31) rfl rfl rfl (by omega) ?_ | refine St.rem rfl rfl rfl (by omega) ?_
        refine St.guard_yes rfl rfl ?_
        refine St.neq rfl rfl rfl ?_
        refine St.pick_false rfl rfl rfl ?_
        refine St.move rfl rfl ?_
        refine St.split 37 rfl (fun g37 => ?_) (fun g37 => ?_)
        · refine St.guard_no rfl rfl rfl ?_
          refine St.guard_no rfl rfl rfl ?_
          refine St.guard_no rfl rfl rfl ?_
          refine St.guard_no rfl rfl rfl ?_
          refine St.guard_no rfl rfl rfl ?_
          refine St.pick_true rfl rfl rfl ?_
          refine St.done ?_
          refine SX.tail ?_
          refine St.done ?_
          refine SX.seq ?_
          refine SC.cond_true rfl ?_
          refine SC.seq ?_
          refine SC.plain ?_
          refine St.build [(2, .int .i64 3)] ([.slice none 0 0, .int .i64 0, .int .i64 3]) rfl rfl (by kernel_rfl) ?_
          refine St.storeN rfl rfl rfl ([.slice none 0 0, .int .i64 0, .int .i64 3]) rfl (by kernel_rfl) (by simp [one]) (by simp) (fun _ h => h.nil) ?_
          rw [show splice [.slice none 0 0, .int .i64 0, .int .i64 0] 0 ([.slice none 0 0, .int .i64 0, .int .i64 3]) = [.slice none 0 0, .int .i64 0, .int .i64 3] from rfl]
          refine St.done ?_
          refine SX.seq ?_
          refine SC.ret ?_
          refine SX.seq_ret ?_
          have hm : zlibG F bs m.toNat = ([], 0, 3) := (if_neg (by omega)).trans (if_pos (.inr (.inr (.inl (by rw [← e26, ← e31]; omega)))))
          rw [hm]
          exact SX.retC ([.slice none 0 0, .int .i64 0, .int .i64 3]) (.inl rfl) rfl rfl (by kernel_rfl) (HoldsN.of_row mem0) (L' := [] :: L) (fun _ h => h.drop.perm (List.Perm.refl _)) ⟨_, _, rfl, Buf.nil 5 1, rfl⟩
        · refine St.guard_yes rfl rfl ?_
          refine St.move rfl rfl ?_
          refine St.guard_yes rfl rfl ?_
          refine St.indexSl (e := 5) (sz := 1) rfl rfl rfl (by kernel_rfl) (by omega) ?_
          refine St.guard_yes rfl rfl ?_
          first | (refine St.loadB (i := 1) rfl rfl (by kernel_rfl) (HoldsN.mono hr (fun w hw => by first | exact hw | exact hw.drop | exact hw.drop.drop | exact hw.drop.drop.drop | exact hw.drop.drop.drop.drop | exact hw.drop.drop.drop.drop.drop | exact hw.drop.drop.drop.drop.drop.drop | exact hw.drop.drop.drop.drop.drop.drop.drop | exact hw.drop.drop.drop.drop.drop.drop.drop.drop | exact hw.drop.drop.drop.drop.drop.drop.drop.drop.drop | exact hw.drop.drop.drop.drop.drop.drop.drop.drop.drop.drop | exact hw.drop.drop.drop.drop.drop.drop.drop.drop.drop.drop.drop | exact hw.drop.drop.drop.drop.drop.drop.drop.drop.drop.drop.drop.drop | exact hw.drop.drop.drop.drop.drop.drop.drop.drop.drop.drop.drop.drop.drop)) rfl (by omega) hb ?_; intro n40 e40 l40) | refine St.load rfl rfl (by kernel_rfl) (by first | exact Holds.row mem0 rfl | exact Holds.row mem1 rfl | exact Holds.row mem2 rfl | exact Holds.row mem3 rfl | exact Holds.row mem4 rfl | exact Holds.row mem5 rfl | exact Holds.row mem6 rfl | exact Holds.row mem7 rfl | exact Holds.row mem8 rfl) ?_
          refine St.guard_yes rfl rfl ?_
          first | refine St.andU un8 (b := 32) rfl rfl rfl (by omega) (by omega) ?_ | refine St.andI rfl rfl rfl ?_
          refine St.guard_yes rfl rfl ?_
          refine St.neq rfl rfl rfl ?_
          refine St.pick_false rfl rfl rfl ?_
          refine St.done ?_
          refine SX.tail ?_
          refine St.done ?_
          refine SX.seq ?_
          refine SC.condp rfl (fun c43 => ?_) (fun c43 => ?_)
          · have hm : zlibG F bs m.toNat = ([], 0, 3) := (if_neg (by omega)).trans (if_pos (.inr (.inr (.inr (fun h => c43 (by rw [e40, h]; rfl))))))
            refine SC.seq ?_
            refine SC.plain ?_
            refine St.build [(2, .int .i64 3)] ([.slice none 0 0, .int .i64 0, .int .i64 3]) rfl rfl (by kernel_rfl) ?_
            refine St.storeN rfl rfl rfl ([.slice none 0 0, .int .i64 0, .int .i64 3]) rfl (by kernel_rfl) (by simp [one]) (by simp) (fun _ h => h.nil) ?_
            rw [show splice [.slice none 0 0, .int .i64 0, .int .i64 0] 0 ([.slice none 0 0, .int .i64 0, .int .i64 3]) = [.slice none 0 0, .int .i64 0, .int .i64 3] from rfl]
            refine St.done ?_
            refine SX.seq ?_
            refine SC.ret ?_
            refine SX.seq_ret ?_
            rw [hm]
            exact SX.retC ([.slice none 0 0, .int .i64 0, .int .i64 3]) (.inl rfl) rfl rfl (by kernel_rfl) (HoldsN.of_row mem0) (L' := [] :: L) (fun _ h => h.drop.perm (List.Perm.refl _)) ⟨_, _, rfl, Buf.nil 5 1, rfl⟩
          · have hhead : ¬ headBad (bs.getD 0 0) (bs.getD 1 0) := by
              rw [← e13]
              rintro (h | h | h | h)
              · exact h (by exact_mod_cast Decidable.not_not.1 g16)
              · rw [e13, ← e19] at h; omega
              · rw [e13, ← e26, ← e31] at h; omega
              · rw [← e40] at h; exact h (by exact_mod_cast Decidable.not_not.1 c43)
            refine SC.skip ?_
            refine SX.seq ?_
            refine SC.seq ?_
            refine SC.plain ?_
            refine St.move rfl rfl ?_
            refine St.cutB (e := 5) 2 bs.length rfl rfl (by kernel_rfl) hv0 hcp ⟨_, _, rfl, rfl⟩ rfl (by omega) (by omega) (fun v3 h3 hc3 => ?_)
            rw [List.take_of_length_le (by rw [List.length_drop]; omega)] at h3
            refine St.move rfl rfl ?_
            refine St.call [_, _] rfl (by kernel_rfl) rfl (wraw_spec w0 _ v3 (bs.drop 2) h3.cons hc3 (by rw [List.length_drop]; omega) (fun b h => hb b (List.mem_of_mem_drop h)) m hm0 F (by rw [List.length_drop]; omega)) (fun _ _ _ _ h => h.nil) ?_
            rintro r1 L1 ⟨⟨v4, E4, rfl, hb4, rfl⟩, hok⟩
            have hz : zlibG F bs m.toNat = zlibTail bs (rawR F F (bs.drop 2) m.toNat 0 []) := (if_neg (by omega)).trans (if_neg hhead)
            rcases hg : rawR F F (bs.drop 2) m.toNat 0 [] with ⟨u, t, o⟩ | e
            · rw [hg] at hb4 hok hz
              obtain ⟨hol, htl, hob⟩ := hok.ok _ _ _ rfl
              rw [List.length_drop] at htl
              obtain ⟨b6, o6, A4, c4, rfl, _, _⟩ := hb4.read
              simp only [rawRes] at hb4 ⊢
              refine St.alloc [.slice none 0 0, .int .i64 0, .int .i64 0] rfl (by kernel_rfl) (fun _ _ h => h.nil) (fun b5 => ?_)
              refine St.storeN rfl rfl rfl [.slice A4 o.length c4, .int .i64 (((t + 7) / 8 : Nat) : Int), .int .i64 0] rfl (by kernel_rfl) (by simp [one]) (by simp) (fun _ h => h.nil) ?_
              rw [show splice [.slice none 0 0, .int .i64 0, .int .i64 0] 0 ([.slice A4 o.length c4, .int .i64 (((t + 7) / 8 : Nat) : Int), .int .i64 0]) = [.slice A4 o.length c4, .int .i64 (((t + 7) / 8 : Nat) : Int), .int .i64 0] from rfl]
              refine St.done ?_
              refine SX.seq ?_
              refine SC.seq ?_
              refine SC.seq ?_
              refine SC.plain ?_
              refine St.fieldAddr (off := 2) rfl rfl (by kernel_rfl) ?_
              refine St.load rfl rfl (by kernel_rfl) (by first | exact Holds.row mem0 rfl | exact Holds.row mem1 rfl | exact Holds.row mem2 rfl | exact Holds.row mem3 rfl | exact Holds.row mem4 rfl | exact Holds.row mem5 rfl | exact Holds.row mem6 rfl | exact Holds.row mem7 rfl | exact Holds.row mem8 rfl) ?_
              refine St.neq rfl rfl rfl ?_
              refine St.done ?_
              refine SX.seq ?_
              refine SC.condp rfl (fun c51 => ?_) (fun c51 => ?_)
              · exfalso; omega
              · refine SC.skip ?_
                refine SX.seq ?_
                refine SC.seq ?_
                refine SC.seq ?_
                refine SC.plain ?_
                refine St.move rfl rfl ?_
                refine St.lenSl rfl rfl (by kernel_rfl) ?_
                first | refine St.subN (b := 2) rfl rfl rfl (by omega) (by omega) ?_ | refine St.subI rfl rfl rfl (by omega) ?_
                refine St.fieldAddr (off := 1) rfl rfl (by kernel_rfl) ?_
                refine St.load rfl rfl (by kernel_rfl) (by first | exact Holds.row mem0 rfl | exact Holds.row mem1 rfl | exact Holds.row mem2 rfl | exact Holds.row mem3 rfl | exact Holds.row mem4 rfl | exact Holds.row mem5 rfl | exact Holds.row mem6 rfl | exact Holds.row mem7 rfl | exact Holds.row mem8 rfl) ?_
                first | refine St.subN rfl rfl rfl (by omega) (by omega) ?_ | refine St.subI rfl rfl rfl (by omega) ?_
                refine St.lss rfl rfl rfl ?_
                refine St.done ?_
                refine SX.seq ?_
                refine SC.condp rfl (fun c59 => ?_) (fun c59 => ?_)
                · have hm : zlibG F bs m.toNat = ([], 0, 4) := hz.trans (if_pos (by omega))
                  refine SC.seq ?_
                  refine SC.plain ?_
                  refine St.build [(2, .int .i64 4)] ([.slice none 0 0, .int .i64 0, .int .i64 4]) rfl rfl (by kernel_rfl) ?_
                  refine St.storeN2 rfl rfl rfl ([.slice none 0 0, .int .i64 0, .int .i64 4]) rfl (by kernel_rfl) (by simp [one]) (by simp) (fun _ h => h.nil) ?_
                  rw [show splice [.slice none 0 0, .int .i64 0, .int .i64 0] 0 ([.slice none 0 0, .int .i64 0, .int .i64 4]) = [.slice none 0 0, .int .i64 0, .int .i64 4] from rfl]
                  refine St.done ?_
                  refine SX.seq ?_
                  refine SC.ret ?_
                  refine SX.seq_ret ?_
                  rw [hm]
                  exact SX.retC ([.slice none 0 0, .int .i64 0, .int .i64 4]) (.inl rfl) rfl rfl (by kernel_rfl) (HoldsN.of_row mem2) (L' := [] :: L) (fun _ h => h.drop.drop.drop.perm (List.Perm.refl _)) ⟨_, _, rfl, Buf.nil 5 1, rfl⟩
                · refine SC.skip ?_
                  refine SX.seq ?_
                  refine SC.seq ?_
                  refine SC.plain ?_
                  refine St.fieldAddr (off := 1) rfl rfl (by kernel_rfl) ?_
                  refine St.load rfl rfl (by kernel_rfl) (by first | exact Holds.row mem0 rfl | exact Holds.row mem1 rfl | exact Holds.row mem2 rfl | exact Holds.row mem3 rfl | exact Holds.row mem4 rfl | exact Holds.row mem5 rfl | exact Holds.row mem6 rfl | exact Holds.row mem7 rfl | exact Holds.row mem8 rfl) ?_
                  first | refine St.addN (a := 2) rfl rfl rfl (by omega) ?_ | refine St.addI rfl rfl rfl (by omega) ?_
                  refine St.assign rfl rfl ?_
                  refine St.done ?_
                  refine SX.seq ?_
                  refine SC.seq ?_
                  refine SC.seq ?_
                  refine SC.drawn [(0, true), (1, true), (2, true), (3, true), (4, true), (6, true), (7, true), (8, true), (5, false), (9, false), (10, true), (11, true)] [] (_) (by kernel_rfl) (by kernel_rfl) (fun _ h => h) ?_
                  refine St.move rfl rfl ?_
                  refine St.move rfl rfl ?_
                  refine St.move rfl rfl ?_
                  first | refine St.addN (b := 4) rfl rfl rfl (by omega) ?_ | refine St.addI rfl rfl rfl (by omega) ?_
                  refine St.cutB (e := 5) (2 + (t + 7) / 8) (2 + (t + 7) / 8 + 4) rfl rfl (by kernel_rfl) hv0 hcp ⟨_, _, rfl, rfl⟩ ⟨_, _, rfl, rfl⟩ (by omega) (by omega) (fun v7 h7 _ => ?_)
                  rw [Nat.add_sub_cancel_left] at h7
                  have hl7 : ((bs.drop (2 + (t + 7) / 8)).take 4).length = 4 := by rw [List.length_take, List.length_drop]; omega
                  refine St.fieldAddr (off := 0) rfl rfl (by kernel_rfl) ?_
                  refine St.load rfl rfl (by kernel_rfl) (by first | exact Holds.row mem0 rfl | exact Holds.row mem1 rfl | exact Holds.row mem2 rfl | exact Holds.row mem3 rfl | exact Holds.row mem4 rfl | exact Holds.row mem5 rfl | exact Holds.row mem6 rfl | exact Holds.row mem7 rfl | exact Holds.row mem8 rfl) ?_
                  refine St.toStr (e := 5) (bs := o) (n := o.length) rfl rfl (hb4.rd (by simp [Lq])) (by kernel_rfl) (by kernel_rfl) (by kernel_rfl) ?_
                  refine St.call [_] rfl (by kernel_rfl) rfl (getV_spec w0 _ v7 ((bs.drop (2 + (t + 7) / 8)).take 4) h7.cons.cons.cons (by omega) (fun b h => hb b (List.mem_of_mem_drop (List.mem_of_mem_take h)))) (fun _ _ _ h hw => by rw [← h.1] at hw; exact hw) ?_
                  rintro r5 L5 ⟨rfl, rfl⟩
                  rw [getV_four hl7 (fun b h => hb b (List.mem_of_mem_drop (List.mem_of_mem_take h))), sum_cut]
                  refine St.call [_] rfl (by kernel_rfl) rfl (radler_spec w0 _ (text o) (by rw [text_size]; omega)) (fun _ _ _ h hw => by rw [← h.1] at hw; exact hw) ?_
                  rintro r6 L6 ⟨rfl, rfl⟩
                  rw [u8s_text o hob]
                  have hadl := adler_lt o
                  first | refine St.convUx un64 rfl rfl (by kernel_rfl) (by kernel_rfl) (by omega) ?_ | refine St.convU un64 rfl rfl (by kernel_rfl) (by kernel_rfl) ?_ | refine St.convZ un64 rfl rfl (by kernel_rfl) (by kernel_rfl) ?_
                  refine St.neq rfl rfl rfl ?_
                  refine St.done ?_
                  refine SX.tail ?_
                  refine St.done ?_
                  refine SX.seq ?_
                  refine SC.condp rfl (fun c75 => ?_) (fun c75 => ?_)
                  · have hm : zlibG F bs m.toNat = ([], 0, 6) := hz.trans ((if_neg (by omega)).trans (if_pos (fun h => c75 (by rw [Nat.add_comm 2, h]))))
                    refine SC.seq ?_
                    refine SC.plain ?_
                    refine St.build [(2, .int .i64 6)] ([.slice none 0 0, .int .i64 0, .int .i64 6]) rfl rfl (by kernel_rfl) ?_
                    refine St.storeN2 rfl rfl rfl ([.slice none 0 0, .int .i64 0, .int .i64 6]) rfl (by kernel_rfl) (by simp [one]) (by simp) (fun _ h => h.nil) ?_
                    rw [show splice [.slice none 0 0, .int .i64 0, .int .i64 0] 0 ([.slice none 0 0, .int .i64 0, .int .i64 6]) = [.slice none 0 0, .int .i64 0, .int .i64 6] from rfl]
                    refine St.done ?_
                    refine SX.seq ?_
                    refine SC.ret ?_
                    refine SX.seq_ret ?_
                    rw [hm]
                    exact SX.retC ([.slice none 0 0, .int .i64 0, .int .i64 6]) (.inl rfl) rfl rfl (by kernel_rfl) (HoldsN.of_row mem2) (L' := [] :: L) (fun _ h => h.drop.drop.drop.perm (List.Perm.refl _)) ⟨_, _, rfl, Buf.nil 5 1, rfl⟩
                  · have hm : zlibG F bs m.toNat = (o, (t + 7) / 8 + 2 + 4, 0) := hz.trans ((if_neg (by omega)).trans (if_neg (fun h => h (by rw [Nat.add_comm _ 2]; exact_mod_cast Decidable.not_not.1 c75))))
                    refine SC.skip ?_
                    refine SX.seq ?_
                    refine SC.seq ?_
                    refine SC.plain ?_
                    refine St.fieldAddr (off := 0) rfl rfl (by kernel_rfl) ?_
                    refine St.load rfl rfl (by kernel_rfl) (by first | exact Holds.row mem0 rfl | exact Holds.row mem1 rfl | exact Holds.row mem2 rfl | exact Holds.row mem3 rfl | exact Holds.row mem4 rfl | exact Holds.row mem5 rfl | exact Holds.row mem6 rfl | exact Holds.row mem7 rfl | exact Holds.row mem8 rfl) ?_
                    refine St.move rfl rfl ?_
                    first | refine St.addN (b := 4) rfl rfl rfl (by omega) ?_ | refine St.addI rfl rfl rfl (by omega) ?_
                    refine St.build [(0, .slice A4 o.length c4), (1, .int .i64 ((2 + (t + 7) / 8 + 4 : Nat) : Int)), (2, .int .i64 0)] ([.slice A4 o.length c4, .int .i64 ((2 + (t + 7) / 8 + 4 : Nat) : Int), .int .i64 0]) rfl rfl (by kernel_rfl) ?_
                    refine St.storeN2 rfl rfl rfl ([.slice A4 o.length c4, .int .i64 ((2 + (t + 7) / 8 + 4 : Nat) : Int), .int .i64 0]) rfl (by kernel_rfl) (by simp [one]) (by simp) (fun _ h => h.nil) ?_
                    rw [show splice [.slice none 0 0, .int .i64 0, .int .i64 0] 0 ([.slice A4 o.length c4, .int .i64 ((2 + (t + 7) / 8 + 4 : Nat) : Int), .int .i64 0]) = [.slice A4 o.length c4, .int .i64 ((2 + (t + 7) / 8 + 4 : Nat) : Int), .int .i64 0] from rfl]
                    refine St.done ?_
                    refine SX.seq ?_
                    refine SC.ret ?_
                    rw [hm, Nat.add_comm _ 2]
                    exact SX.retC ([.slice A4 o.length c4, .int .i64 ((2 + (t + 7) / 8 + 4 : Nat) : Int), .int .i64 0]) (.inl rfl) rfl rfl (by kernel_rfl) (HoldsN.of_row mem2) (L' := E4 :: L) (fun _ h => h.sub (sub_flat (.cons _ (.cons_cons _ (.cons _ (List.Sublist.refl _)))))) ⟨_, _, rfl, hb4, rfl⟩
            · rw [hg] at hb4 hok hz
              have hne := hok.bad _ rfl
              have hm : zlibG F bs m.toNat = ([], 0, e) := hz
              simp only [rawRes] at hb4 ⊢
              refine St.alloc [.slice none 0 0, .int .i64 0, .int .i64 0] rfl (by kernel_rfl) (fun _ _ h => h.nil) (fun b5 => ?_)
              refine St.storeN rfl rfl rfl [v4, .int .i64 0, .int .i64 e] rfl (by kernel_rfl) (by obtain ⟨_, _, _, _, hv4, _, _⟩ := hb4.read; subst hv4; simp [one]) (by simp) (fun _ h => h.nil) ?_
              rw [show splice [.slice none 0 0, .int .i64 0, .int .i64 0] 0 ([v4, .int .i64 0, .int .i64 e]) = [v4, .int .i64 0, .int .i64 e] from rfl]
              refine St.done ?_
              refine SX.seq ?_
              refine SC.seq ?_
              refine SC.seq ?_
              refine SC.plain ?_
              refine St.fieldAddr (off := 2) rfl rfl (by kernel_rfl) ?_
              refine St.load rfl rfl (by kernel_rfl) (by first | exact Holds.row mem0 rfl | exact Holds.row mem1 rfl | exact Holds.row mem2 rfl | exact Holds.row mem3 rfl | exact Holds.row mem4 rfl | exact Holds.row mem5 rfl | exact Holds.row mem6 rfl | exact Holds.row mem7 rfl | exact Holds.row mem8 rfl) ?_
              refine St.neq rfl rfl rfl ?_
              refine St.done ?_
              refine SX.seq ?_
              refine SC.condp rfl (fun c51 => ?_) (fun c51 => ?_)
              · refine SC.seq ?_
                refine SC.plain ?_
                refine St.loadAgg [v4, .int .i64 0, .int .i64 e] rfl rfl (by kernel_rfl) (HoldsN.of_row mem0) ?_
                refine St.storeN2 rfl rfl rfl [v4, .int .i64 0, .int .i64 e] rfl (by kernel_rfl) (by obtain ⟨_, _, _, _, hv4, _, _⟩ := hb4.read; subst hv4; simp [one]) (by simp) (fun _ h => h.nil) ?_
                rw [show splice [.slice none 0 0, .int .i64 0, .int .i64 0] 0 ([v4, .int .i64 0, .int .i64 e]) = [v4, .int .i64 0, .int .i64 e] from rfl]
                refine St.done ?_
                refine SX.seq ?_
                refine SC.ret ?_
                refine SX.seq_ret ?_
                rw [hm]
                exact SX.retC [v4, .int .i64 0, .int .i64 e] (.inl rfl) rfl rfl (by kernel_rfl) (HoldsN.of_row mem2) (L' := E4 :: L) (fun _ h => h.sub (sub_flat (.cons _ (.cons_cons _ (.cons _ (List.Sublist.refl _)))))) ⟨v4, E4, rfl, hb4, rfl⟩
              · exfalso; omega
end Go.Proofs.Ytahafepgmkiabaa
