/- Walks: readers of bits, the program's and the document's. -/
import Derived.Test.YtahafepgmkiabaaH6
import Derived.Test.YtahafepgmkiabaaSepP
set_option linter.unusedVariables false
set_option linter.unusedSimpArgs false
set_option linter.ambiguousOpen false
namespace Go.Proofs.Ytahafepgmkiabaa
open Go Go.Proofs.Ytahafepgmkiabaa.Sep

theorem bread_spec (w0 : World) (L : List Chunk) (v : Value) (bs : List Nat) (hx : Rd w0 L v 1 bs.length (bytes bs)) (hl : bs.length ≤ 150000000000000) :
    Meets Try.prog 36 #[v] w0 L (fun r L' => ∃ p v' E, r = .pointer (some ⟨p, 0, none⟩) ∧ Buf 5 1 v' (bytes bs) bs.length E ∧ L' = [⟨p, [v', .int .i64 ((0 : Nat) : Int)], 156⟩] :: E :: L) := by
  have hx' := hx
  obtain ⟨_, b, o, A, c, rfl, hA, hr⟩ := hx'
  refine Meets.of_body [.slice A bs.length c] Try.func36 rfl Try.ntmps36 rfl ?_
  refine SC.seq ?_
  refine SC.plain ?_
  refine St.assign rfl rfl ?_
  refine St.done ?_
  refine SX.seq ?_
  refine SC.seq ?_
  refine SC.plain ?_
  refine St.move rfl rfl ?_
  refine St.perm ([] :: L) (List.Perm.refl _) ?_
  refine St.appendW (e := 5) (sz := 1) (bytes := 1) (xs := []) (n := 0) (news := bytes bs) (m := bs.length) rfl rfl rfl (by kernel_rfl) (Buf.nil 5 1) hx.cons (by simp [bytes, one]) (by omega) (by omega) (fun _ _ h => h.nil) (fun v2 E2 hb2 _ => ?_)
  rw [List.nil_append, Nat.zero_add] at hb2
  obtain ⟨b2, o2, A2, c2, rfl, _⟩ := hb2.read
  refine St.build [(0, .slice A2 bs.length c2)] [.slice A2 bs.length c2, .int .i64 0] rfl rfl (by kernel_rfl) ?_
  refine St.box [.slice A2 bs.length c2, .int .i64 0] rfl rfl rfl (fun _ _ h => h.nil) (fun p => ?_)
  refine St.assign rfl rfl ?_
  refine St.done ?_
  refine SX.seq ?_
  refine SC.ret ?_
  exact SX.ret1 rfl rfl ⟨p, _, E2, rfl, hb2, rfl⟩
/-- What Take answers. -/
def TakeR (p ty : Nat) (v : Value) (bs : List Nat) (at_ n : Nat) (L : List Chunk) (r : Value) (L' : List Chunk) : Prop :=
  (at_ + n ≤ 8 * bs.length ∧ r = .tuple #[.int .u32 (takeN bs at_ n : Nat), .bool true] ∧ L' = [⟨p, [v, .int .i64 ((at_ + n : Nat) : Int)], ty⟩] :: L) ∨
    (8 * bs.length < at_ + n ∧ r = .tuple #[.int .u32 0, .bool false] ∧ L' = [⟨p, [v, .int .i64 ((at_ : Nat) : Int)], ty⟩] :: L)
theorem take_spec (w0 : World) (L : List Chunk) (v : Value) (bs : List Nat) (p at_ n : Nat) (hx : Rd w0 L v 1 bs.length (bytes bs)) (hl : bs.length ≤ 150000000000000) (hb : ∀ b ∈ bs, b < 256) (hat : at_ ≤ 8 * bs.length) (hn : n ≤ 32) :
    Meets Try.prog 106 #[.pointer (some ⟨p, 0, none⟩), .int .i64 (n : Int)] w0 ([⟨p, [v, .int .i64 ((at_ : Nat) : Int)], 156⟩] :: L) (TakeR p 156 v bs at_ n L) := by
  have hx' := hx
  obtain ⟨_, b, o, A, c, rfl, hA, hr⟩ := hx'
  refine Meets.of_body [.pointer (some ⟨p, 0, none⟩), .int .i64 (n : Int)] Try.func106 rfl Try.ntmps106 rfl ?_
  refine SC.seq ?_
  refine SC.plain ?_
  refine St.assign rfl rfl ?_
  refine St.assign rfl rfl ?_
  refine St.done ?_
  refine SX.seq ?_
  refine SC.seq ?_
  refine SC.seq ?_
  refine SC.drawn [(0, true), (1, true), (2, true), (3, true), (4, true), (5, true), (6, true), (7, true), (8, true), (9, true), (10, true), (11, true), (12, true), (13, true), (14, true), (15, true), (16, true), (17, true), (18, true), (19, true), (20, true)] [] (_) (by kernel_rfl) (by kernel_rfl) (fun _ h => h) ?_
  refine St.move rfl rfl ?_
  refine St.lss rfl rfl rfl ?_
  refine St.move rfl rfl ?_
  refine St.split 12 rfl (fun g12 => ?_) (fun g12 => ?_)
  · exfalso; omega
  · refine St.guard_yes rfl rfl ?_
    refine St.move rfl rfl ?_
    refine St.guard_yes rfl rfl ?_
    refine St.gtr rfl rfl rfl ?_
    refine St.pick_false rfl rfl rfl ?_
    refine St.move rfl rfl ?_
    refine St.split 16 rfl (fun g16 => ?_) (fun g16 => ?_)
    · exfalso; omega
    · refine St.guard_yes rfl rfl ?_
      refine St.move rfl rfl ?_
      refine St.guard_yes rfl rfl ?_
      refine St.move rfl rfl ?_
      refine St.guard_yes rfl rfl ?_
      refine St.nilCheck rfl rfl ?_
      refine St.guard_yes rfl rfl ?_
      refine St.fieldAddr (off := 0) rfl rfl (by kernel_rfl) ?_
      refine St.guard_yes rfl rfl ?_
      refine St.load rfl rfl (by kernel_rfl) (Holds.row mem0 rfl) ?_
      refine St.guard_yes rfl rfl ?_
      refine St.lenSl rfl rfl (by kernel_rfl) ?_
      refine St.guard_yes rfl rfl ?_
      refine St.mulI rfl rfl rfl (by omega) ?_
      refine St.guard_yes rfl rfl ?_
      refine St.move rfl rfl ?_
      refine St.guard_yes rfl rfl ?_
      refine St.nilCheck rfl rfl ?_
      refine St.guard_yes rfl rfl ?_
      refine St.fieldAddr (off := 1) rfl rfl (by kernel_rfl) ?_
      refine St.guard_yes rfl rfl ?_
      refine St.load rfl rfl (by kernel_rfl) (Holds.row mem0 rfl) ?_
      refine St.guard_yes rfl rfl ?_
      refine St.subI rfl rfl rfl (by omega) ?_
      refine St.guard_yes rfl rfl ?_
      refine St.gtr rfl rfl rfl ?_
      refine St.pick_false rfl rfl rfl ?_
      refine St.done ?_
      refine SX.tail ?_
      refine St.done ?_
      refine SX.seq ?_
      refine SC.condp rfl (fun c30 => ?_) (fun c30 => ?_)
      · refine SC.seq ?_
        refine SC.plain ?_
        refine St.assign rfl rfl ?_
        refine St.assign rfl rfl ?_
        refine St.done ?_
        refine SX.seq ?_
        refine SC.ret ?_
        refine SX.seq_ret ?_
        exact SX.ret2 rfl rfl rfl (.inr ⟨by omega, rfl, rfl⟩)
      · refine SC.skip ?_
        refine SX.seq ?_
        refine SC.seq ?_
        refine SC.plain ?_
        refine St.assign rfl rfl ?_
        refine St.done ?_
        refine SX.seq ?_
        refine SC.seq ?_
        refine SC.seq ?_
        refine SC.plain ?_
        refine St.assign rfl rfl ?_
        refine St.done ?_
        refine SX.seq ?_
        refine SC.block ?_
        refine SC.loop (α := Nat) (fun i => i ≤ n) (fun i => [(0, .pointer (some ⟨p, 0, none⟩)), (1, .int .i64 (n : Int)), (6, .int .u32 (takeN bs at_ i : Nat)), (7, .int .i64 (i : Int))]) (fun i => [⟨p, [.slice A bs.length c, .int .i64 ((at_ + i : Nat) : Int)], 156⟩] :: L) (fun i => n - i) 0 (by omega) ⟨rfl, rfl, rfl, rfl, trivial⟩ (List.Perm.refl _) ?_
        intro i hi
        refine SC.seq ?_
        refine SC.seq ?_
        refine SC.plain ?_
        refine St.move rfl rfl ?_
        refine St.move rfl rfl ?_
        refine St.lss rfl rfl rfl ?_
        refine St.done ?_
        refine SX.seq ?_
        refine SC.condp rfl (fun c33 => ?_) (fun c33 => ?_)
        · have hlt : i < n := by omega
          have hAe := hA (by omega)
          subst hAe
          have h8 := getD_lt hb ((at_ + i) / 8)
          refine SC.skip ?_
          refine SX.seq ?_
          refine SC.block ?_
          refine SC.seq ?_
          refine SC.plain ?_
          refine St.move rfl rfl ?_
          refine St.nilCheck rfl rfl ?_
          refine St.fieldAddr (off := 1) rfl rfl (by kernel_rfl) ?_
          refine St.load rfl rfl (by kernel_rfl) (Holds.row mem0 rfl) ?_
          refine St.rem rfl rfl rfl (by omega) ?_
          rw [rem8]
          refine St.subI rfl rfl rfl (by omega) ?_
          refine St.move rfl rfl ?_
          refine St.move rfl rfl ?_
          refine St.subI rfl rfl rfl (by omega) ?_
          refine St.min2 rfl rfl rfl ?_
          obtain ⟨k, hk, hk1, hk2, hk0⟩ : ∃ k : Nat, min (8 - (((at_ + i) % 8 : Nat) : Int)) ((n : Int) - (i : Int)) = (k : Int) ∧ k ≤ 8 - (at_ + i) % 8 ∧ i + k ≤ n ∧ 1 ≤ k := ⟨min (8 - (at_ + i) % 8) (n - i), by omega, by omega, by omega, by omega⟩
          rw [hk]
          refine St.assign rfl rfl ?_
          refine St.done ?_
          refine SX.seq ?_
          refine SC.seq ?_
          refine SC.drawn [(0, true), (1, true), (2, true), (3, true), (4, true), (5, true), (6, true), (7, true), (8, true), (9, true), (10, true), (11, true), (12, true), (13, true), (14, true), (15, true), (16, true), (17, true), (18, true), (19, true), (20, true), (21, true), (22, true)] [] (_) (by kernel_rfl) (by kernel_rfl) (fun _ h => h) ?_
          refine St.move rfl rfl ?_
          refine St.nilCheck rfl rfl ?_
          refine St.fieldAddr (off := 0) rfl rfl (by kernel_rfl) ?_
          refine St.load rfl rfl (by kernel_rfl) (Holds.row mem0 rfl) ?_
          refine St.move rfl rfl ?_
          refine St.nilCheck rfl rfl ?_
          refine St.fieldAddr (off := 1) rfl rfl (by kernel_rfl) ?_
          refine St.load rfl rfl (by kernel_rfl) (Holds.row mem0 rfl) ?_
          refine St.quo rfl rfl rfl (by omega) ?_
          rw [quo8 _ (by omega)]
          refine St.indexSl (e := 5) (sz := 1) rfl rfl rfl (by kernel_rfl) (by omega) ?_
          refine St.load rfl rfl (by kernel_rfl) (byte_at hr.cons ((at_ + i) / 8) (by omega)) ?_
          refine St.convI (k := .u32) rfl rfl (by kernel_rfl) (by kernel_rfl) ?_
          rw [wrap_u32_lt _ (by omega)]
          refine St.move rfl rfl ?_
          refine St.nilCheck rfl rfl ?_
          refine St.fieldAddr (off := 1) rfl rfl (by kernel_rfl) ?_
          refine St.load rfl rfl (by kernel_rfl) (Holds.row mem0 rfl) ?_
          refine St.rem rfl rfl rfl (by omega) ?_
          rw [rem8]
          refine St.shr rfl rfl rfl (by omega) ?_
          rw [shr_u32 _ _ (by omega)]
          refine St.move rfl rfl ?_
          refine St.shl rfl rfl rfl (by omega) ?_
          rw [one_shl_u32 _ (by omega)]
          refine St.sub rfl rfl rfl ?_
          rw [ones_u32 _ (by omega)]
          refine St.andI rfl rfl rfl ?_
          have hp := pow_le31 (show k ≤ 31 by omega)
          have hd := Nat.div_le_self (bs.getD ((at_ + i) / 8) 0) (2 ^ ((at_ + i) % 8))
          rw [and_u32 _ _ (by omega) (by omega), and_mask, ← take_byte bs (at_ + i) k hk1]
          have ht := take_lt bs (at_ + i) k
          have ht0 := take_lt bs at_ i
          have hpi := pow_le31 (show i ≤ 31 by omega)
          have hmul : takeN bs (at_ + i) k * 2 ^ i < 4294967296 := by
            have h1 : (takeN bs (at_ + i) k + 1) * 2 ^ i ≤ 2 ^ k * 2 ^ i := Nat.mul_le_mul_right _ ht
            rw [← Nat.pow_add, Nat.add_mul] at h1
            have h2 := pow_le32 (show k + i ≤ 32 by omega)
            have h3 : 0 < 2 ^ i := Nat.pow_pos (by omega)
            omega
          refine St.assign rfl rfl ?_
          refine St.done ?_
          refine SX.tail ?_
          refine St.done ?_
          refine SX.seq ?_
          refine SC.seq ?_
          refine SC.plain ?_
          refine St.move rfl rfl ?_
          refine St.move rfl rfl ?_
          refine St.move rfl rfl ?_
          refine St.shl rfl rfl rfl (by omega) ?_
          rw [shl_u32 _ _ (by omega), Nat.mod_eq_of_lt hmul]
          refine St.orI rfl rfl rfl ?_
          rw [or_u32 _ _ (by omega) hmul, or_add _ _ _ ht0]
          refine St.assign rfl rfl ?_
          refine St.done ?_
          refine SX.seq ?_
          refine SC.seq ?_
          refine SC.plain ?_
          refine St.move rfl rfl ?_
          refine St.move rfl rfl ?_
          refine St.addI rfl rfl rfl (by omega) ?_
          refine St.assign rfl rfl ?_
          refine St.done ?_
          refine SX.seq ?_
          refine SC.plain ?_
          refine St.move rfl rfl ?_
          refine St.nilCheck rfl rfl ?_
          refine St.fieldAddr (off := 1) rfl rfl (by kernel_rfl) ?_
          refine St.load rfl rfl (by kernel_rfl) (Holds.row mem0 rfl) ?_
          refine St.move rfl rfl ?_
          refine St.addI rfl rfl rfl (by omega) ?_
          refine St.nilCheck rfl rfl ?_
          refine St.fieldAddr (off := 1) rfl rfl (by kernel_rfl) ?_
          refine St.store rfl rfl rfl rfl (by kernel_rfl) (by simp) (fun _ h => h.nil) ?_
          refine St.done ?_
          refine SX.blk ?_
          exact SX.again (i + k) (by omega) (by show n - (i + k) < n - i; omega) ⟨rfl, rfl, by rw [take_add bs at_ i k]; rfl, by push_cast; rfl, trivial⟩ (by rw [← Nat.add_assoc at_ i k]; exact List.Perm.refl _)
        · have hie : i = n := by omega
          subst hie
          refine SC.exit ?_
          refine SX.seq_exit ?_
          refine SX.seq_exit ?_
          refine SX.hit ?_
          refine SX.seq ?_
          refine SC.seq ?_
          refine SC.plain ?_
          refine St.move rfl rfl ?_
          refine St.assign rfl rfl ?_
          refine St.assign rfl rfl ?_
          refine St.done ?_
          refine SX.seq ?_
          refine SC.ret ?_
          exact SX.ret2 rfl rfl rfl (.inl ⟨by omega, rfl, rfl⟩)
theorem used_spec (w0 : World) (L : List Chunk) (v : Value) (p at_ : Nat) (hat : at_ ≤ 1152921504606846976) :
    Meets Try.prog 39 #[.pointer (some ⟨p, 0, none⟩)] w0 ([⟨p, [v, .int .i64 ((at_ : Nat) : Int)], 156⟩] :: L) (fun r L' => [⟨p, [v, .int .i64 ((at_ : Nat) : Int)], 156⟩] :: L = L' ∧ r = .int .i64 (((at_ + 7) / 8 : Nat) : Int)) := by
  refine Meets.of_body [.pointer (some ⟨p, 0, none⟩)] Try.func39 rfl Try.ntmps39 rfl ?_
  refine SC.seq ?_
  refine SC.plain ?_
  refine St.assign rfl rfl ?_
  refine St.done ?_
  refine SX.seq ?_
  refine SC.seq ?_
  refine SC.plain ?_
  refine St.move rfl rfl ?_
  refine St.nilCheck rfl rfl ?_
  refine St.fieldAddr (off := 1) rfl rfl (by kernel_rfl) ?_
  refine St.load rfl rfl (by kernel_rfl) (Holds.row mem0 rfl) ?_
  refine St.addI rfl rfl rfl (by omega) ?_
  refine St.quo rfl rfl rfl (by omega) ?_
  rw [show ((at_ : Nat) : Int) + 7 = ((at_ + 7 : Nat) : Int) from rfl, quo8 _ (by omega)]
  refine St.assign rfl rfl ?_
  refine St.done ?_
  refine SX.seq ?_
  refine SC.ret ?_
  exact SX.ret1 rfl rfl ⟨rfl, rfl⟩
theorem rused_spec (w0 : World) (L : List Chunk) (v : Value) (p at_ : Nat) (hat : at_ ≤ 1152921504606846976) :
    Meets Try.prog 40 #[.pointer (some ⟨p, 0, none⟩)] w0 ([⟨p, [v, .int .i64 ((at_ : Nat) : Int)], 40⟩] :: L) (fun r L' => [⟨p, [v, .int .i64 ((at_ : Nat) : Int)], 40⟩] :: L = L' ∧ r = .int .i64 (((at_ + 7) / 8 : Nat) : Int)) := by
  refine Meets.of_body [.pointer (some ⟨p, 0, none⟩)] Try.func40 rfl Try.ntmps40 rfl ?_
  refine SC.seq ?_
  refine SC.plain ?_
  refine St.assign rfl rfl ?_
  refine St.done ?_
  refine SX.seq ?_
  refine SC.seq ?_
  refine SC.plain ?_
  refine St.move rfl rfl ?_
  refine St.nilCheck rfl rfl ?_
  refine St.fieldAddr (off := 1) rfl rfl (by kernel_rfl) ?_
  refine St.load rfl rfl (by kernel_rfl) (Holds.row mem0 rfl) ?_
  refine St.addI rfl rfl rfl (by omega) ?_
  refine St.quo rfl rfl rfl (by omega) ?_
  rw [show ((at_ : Nat) : Int) + 7 = ((at_ + 7 : Nat) : Int) from rfl, quo8 _ (by omega)]
  refine St.assign rfl rfl ?_
  refine St.done ?_
  refine SX.seq ?_
  refine SC.ret ?_
  exact SX.ret1 rfl rfl ⟨rfl, rfl⟩
theorem left_spec (w0 : World) (L : List Chunk) (v : Value) (bs : List Nat) (p at_ : Nat) (hx : Rd w0 L v 1 bs.length (bytes bs)) (hl : bs.length ≤ 150000000000000) (hat : at_ ≤ 8 * bs.length) :
    Meets Try.prog 107 #[.pointer (some ⟨p, 0, none⟩)] w0 ([⟨p, [v, .int .i64 ((at_ : Nat) : Int)], 40⟩] :: L) (fun r L' => [⟨p, [v, .int .i64 ((at_ : Nat) : Int)], 40⟩] :: L = L' ∧ r = .int .i64 (8 * (bs.length : Int) - (at_ : Int))) := by
  have hx' := hx
  obtain ⟨_, b, o, A, c, rfl, hA, hr⟩ := hx'
  refine Meets.of_body [.pointer (some ⟨p, 0, none⟩)] Try.func107 rfl Try.ntmps107 rfl ?_
  refine SC.seq ?_
  refine SC.plain ?_
  refine St.assign rfl rfl ?_
  refine St.done ?_
  refine SX.seq ?_
  refine SC.seq ?_
  refine SC.drawn [(0, true), (1, true), (2, true), (3, true), (4, true), (5, true), (6, true), (7, true), (8, true), (9, true), (10, true), (11, true)] [] (_) (by kernel_rfl) (by kernel_rfl) (fun _ h => h) ?_
  refine St.move rfl rfl ?_
  refine St.nilCheck rfl rfl ?_
  refine St.fieldAddr (off := 0) rfl rfl (by kernel_rfl) ?_
  refine St.load rfl rfl (by kernel_rfl) (Holds.row mem0 rfl) ?_
  refine St.lenSl rfl rfl (by kernel_rfl) ?_
  refine St.mulI rfl rfl rfl (by omega) ?_
  refine St.move rfl rfl ?_
  refine St.nilCheck rfl rfl ?_
  refine St.fieldAddr (off := 1) rfl rfl (by kernel_rfl) ?_
  refine St.load rfl rfl (by kernel_rfl) (Holds.row mem0 rfl) ?_
  refine St.subI rfl rfl rfl (by omega) ?_
  refine St.assign rfl rfl ?_
  refine St.done ?_
  refine SX.tail ?_
  refine St.done ?_
  refine SX.seq ?_
  refine SC.ret ?_
  exact SX.ret1 rfl rfl ⟨rfl, rfl⟩
theorem one_spec (w0 : World) (L : List Chunk) (v : Value) (bs : List Nat) (p at_ : Nat) (hx : Rd w0 L v 1 bs.length (bytes bs)) (hl : bs.length ≤ 150000000000000) (hb : ∀ b ∈ bs, b < 256) (hat : at_ < 8 * bs.length) :
    Meets Try.prog 108 #[.pointer (some ⟨p, 0, none⟩)] w0 ([⟨p, [v, .int .i64 ((at_ : Nat) : Int)], 40⟩] :: L) (fun r L' => [⟨p, [v, .int .i64 ((at_ + 1 : Nat) : Int)], 40⟩] :: L = L' ∧ r = .int .u32 (bitAt bs at_ : Nat)) := by
  have hx' := hx
  obtain ⟨_, b, o, A, c, rfl, hA, hr⟩ := hx'
  have hAe := hA (by omega)
  subst hAe
  have h8 := getD_lt hb (at_ / 8)
  refine Meets.of_body [.pointer (some ⟨p, 0, none⟩)] Try.func108 rfl Try.ntmps108 rfl ?_
  refine SC.seq ?_
  refine SC.plain ?_
  refine St.assign rfl rfl ?_
  refine St.done ?_
  refine SX.seq ?_
  refine SC.seq ?_
  refine SC.drawn [(0, true), (1, true), (2, true), (3, true), (4, true), (5, true), (6, true), (7, true), (8, true), (9, true), (10, true), (11, true), (12, true), (13, true), (14, true), (15, true), (16, true), (17, true), (18, true), (19, true)] [] (_) (by kernel_rfl) (by kernel_rfl) (fun _ h => h) ?_
  refine St.move rfl rfl ?_
  refine St.nilCheck rfl rfl ?_
  refine St.fieldAddr (off := 0) rfl rfl (by kernel_rfl) ?_
  refine St.load rfl rfl (by kernel_rfl) (Holds.row mem0 rfl) ?_
  refine St.move rfl rfl ?_
  refine St.nilCheck rfl rfl ?_
  refine St.fieldAddr (off := 1) rfl rfl (by kernel_rfl) ?_
  refine St.load rfl rfl (by kernel_rfl) (Holds.row mem0 rfl) ?_
  refine St.quo rfl rfl rfl (by omega) ?_
  rw [quo8 _ (by omega)]
  refine St.indexSl (e := 5) (sz := 1) rfl rfl rfl (by kernel_rfl) (by omega) ?_
  refine St.load rfl rfl (by kernel_rfl) (byte_at hr.cons (at_ / 8) (by omega)) ?_
  refine St.move rfl rfl ?_
  refine St.nilCheck rfl rfl ?_
  refine St.fieldAddr (off := 1) rfl rfl (by kernel_rfl) ?_
  refine St.load rfl rfl (by kernel_rfl) (Holds.row mem0 rfl) ?_
  refine St.rem rfl rfl rfl (by omega) ?_
  rw [rem8]
  refine St.shr rfl rfl rfl (by omega) ?_
  rw [shr_u8 _ _ (by omega)]
  have hd := Nat.div_le_self (bs.getD (at_ / 8) 0) (2 ^ (at_ % 8))
  refine St.convI (k := .u32) rfl rfl (by kernel_rfl) (by kernel_rfl) ?_
  rw [wrap_u32_lt _ (by omega)]
  refine St.andI rfl rfl rfl ?_
  rw [show bits .and .u32 (((bs.getD (at_ / 8) 0 / 2 ^ (at_ % 8) : Nat)) : Int) 1 = ((bitAt bs at_ : Nat) : Int) from (and_u32 _ 1 (by omega) (by omega)).trans (by rw [Nat.and_one_is_mod]; rfl)]
  refine St.assign rfl rfl ?_
  refine St.done ?_
  refine SX.tail ?_
  refine St.done ?_
  refine SX.seq ?_
  refine SC.seq ?_
  refine SC.plain ?_
  refine St.move rfl rfl ?_
  refine St.nilCheck rfl rfl ?_
  refine St.fieldAddr (off := 1) rfl rfl (by kernel_rfl) ?_
  refine St.load rfl rfl (by kernel_rfl) (Holds.row mem0 rfl) ?_
  refine St.addI rfl rfl rfl (by omega) ?_
  refine St.nilCheck rfl rfl ?_
  refine St.fieldAddr (off := 1) rfl rfl (by kernel_rfl) ?_
  refine St.store rfl rfl rfl rfl (by kernel_rfl) (by simp) (fun _ h => h.nil) ?_
  refine St.done ?_
  refine SX.seq ?_
  refine SC.seq ?_
  refine SC.plain ?_
  refine St.move rfl rfl ?_
  refine St.assign rfl rfl ?_
  refine St.done ?_
  refine SX.seq ?_
  refine SC.ret ?_
  exact SX.ret1 rfl rfl ⟨rfl, rfl⟩
end Go.Proofs.Ytahafepgmkiabaa
