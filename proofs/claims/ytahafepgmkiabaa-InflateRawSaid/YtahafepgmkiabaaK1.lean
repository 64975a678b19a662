/- Walks: the document's inflating: small methods. -/
import Derived.Test.YtahafepgmkiabaaJ3
set_option linter.unusedVariables false
set_option linter.unusedSimpArgs false
set_option linter.ambiguousOpen false
namespace Go.Proofs.Ytahafepgmkiabaa
open Go Go.Proofs.Ytahafepgmkiabaa.Sep Go.Proofs.Ytahafepgmkiabaa.Inf

/-- The document's worker: its row, its bits' row, what it made. -/
def WkL (p q : Nat) (rv ov : Value) (at_ most : Nat) (e : Int) (Eo : Chunk) (L : List Chunk) : List Chunk :=
  [⟨p, [.pointer (some ⟨q, 0, none⟩), ov, .int .i64 ((most : Nat) : Int), .int .i64 e], 226⟩] :: [⟨q, [rv, .int .i64 ((at_ : Nat) : Int)], 40⟩] :: Eo :: L
def firstE (e c : Int) : Int := if e = 0 then c else e
theorem first_zero (c : Int) : firstE 0 c = c := rfl
theorem first_old {e c : Int} (h : e ≠ 0) : firstE e c = e := if_neg h
theorem SymR.cases40 {q : Nat} {rv : Value} {xs : List Int} {bs : List Nat} {at_ : Nat} {L L' : List Chunk} {r : Value} (most : Nat) (out : List Nat) (hat : at_ ≤ 8 * bs.length) (h : SymR q 40 .i64 rv xs bs at_ L r L') :
    (∃ d t1 : Nat, symR xs bs most at_ out = .ok (d : Int) t1 out ∧ d < xs.length ∧ at_ < t1 ∧ t1 ≤ 8 * bs.length ∧ r = .tuple #[.int .i64 ((d : Nat) : Int), .int .i64 0] ∧ L' = [⟨q, [rv, .int .i64 ((t1 : Nat) : Int)], 40⟩] :: L) ∨
      (∃ e n t1, symR xs bs most at_ out = .bad e ∧ e ≠ 0 ∧ at_ ≤ t1 ∧ t1 ≤ 8 * bs.length ∧ r = .tuple #[.int .i64 n, .int .i64 e] ∧ L' = [⟨q, [rv, .int .i64 ((t1 : Nat) : Int)], 40⟩] :: L) := by
  obtain ⟨rfl, rfl⟩ := h
  by_cases h0 : (readSym xs bs at_).2.1 = 0
  · obtain ⟨i, h1, h2, _, h3⟩ := readFrom_some 16 0 0 at_ h0
    refine .inl ⟨i, (readSym xs bs at_).2.2, ?_, h2, h3 rfl, (readSym_le hat).2, ?_, rfl⟩
    · unfold symR
      rw [if_pos h0]
      exact congrArg (fun a => Got.ok a _ _) h1
    · rw [h0, show (readSym xs bs at_).1 = (i : Int) from h1]
  · exact .inr ⟨_, _, _, if_neg h0, h0, (readSym_le hat).1, (readSym_le hat).2, rfl, rfl⟩
/-- bases and bits of lengths and distances. -/
def bitsN (s group start : Nat) : Nat := if s < start then 0 else (s - start) / group + 1
def baseN (first group start : Nat) : Nat → Nat
  | 0 => first
  | s + 1 => baseN first group start s + 2 ^ bitsN s group start

theorem ralign_spec (w0 : World) (L : List Chunk) (q at_ : Nat) (rv : Value) (h : at_ ≤ 1125899906842624) :
    Meets Try.prog 187 #[.pointer (some ⟨q, 0, none⟩)] w0 ([⟨q, [rv, .int .i64 ((at_ : Nat) : Int)], 40⟩] :: L) (fun r L' => [⟨q, [rv, .int .i64 (((at_ + 7) / 8 * 8 : Nat) : Int)], 40⟩] :: L = L') := by
  refine Meets.of_body [.pointer (some ⟨q, 0, none⟩)] Try.func187 rfl Try.ntmps187 rfl ?_
  refine SC.plain ?_
  refine St.move rfl rfl ?_
  refine St.move rfl rfl ?_
  refine St.nilCheck rfl rfl ?_
  refine St.fieldAddr (off := 1) rfl rfl (by kernel_rfl) ?_
  refine St.load rfl rfl (by kernel_rfl) (by first | exact Holds.row mem0 rfl | exact Holds.row mem1 rfl | exact Holds.row mem2 rfl | exact Holds.row mem3 rfl | exact Holds.row mem4 rfl | exact Holds.row mem5 rfl | exact Holds.row mem6 rfl | exact Holds.row mem7 rfl | exact Holds.row mem8 rfl) ?_
  first | refine St.addN (b := 7) rfl rfl rfl (by omega) ?_ | refine St.addI rfl rfl rfl (by omega) ?_
  first | refine St.quoN (b := 8) rfl rfl rfl (by omega) (by omega) ?_ | refine St.quo rfl rfl rfl (by omega) ?_
  first | refine St.mulN (b := 8) rfl rfl rfl (by omega) ?_ | refine St.mulI rfl rfl rfl (by omega) ?_
  refine St.nilCheck rfl rfl ?_
  refine St.fieldAddr (off := 1) rfl rfl (by kernel_rfl) ?_
  first | refine St.store rfl rfl rfl rfl (by kernel_rfl) (Nat.le_of_ble_eq_true rfl) (by first | exact fun _ h => h.nil | exact fun _ h => h | exact fun _ h => h.drop | exact fun _ h => h.drop.drop | exact fun _ h => h.drop.drop.drop) ?_ | refine St.store1 rfl rfl rfl rfl (by kernel_rfl) (Nat.le_of_ble_eq_true rfl) (by first | exact fun _ h => h.nil | exact fun _ h => h | exact fun _ h => h.drop | exact fun _ h => h.drop.drop | exact fun _ h => h.drop.drop.drop) ?_ | refine St.store2 rfl rfl rfl rfl (by kernel_rfl) (Nat.le_of_ble_eq_true rfl) (by first | exact fun _ h => h.nil | exact fun _ h => h | exact fun _ h => h.drop | exact fun _ h => h.drop.drop | exact fun _ h => h.drop.drop.drop) ?_ | refine St.store3 rfl rfl rfl rfl (by kernel_rfl) (Nat.le_of_ble_eq_true rfl) (by first | exact fun _ h => h.nil | exact fun _ h => h | exact fun _ h => h.drop | exact fun _ h => h.drop.drop | exact fun _ h => h.drop.drop.drop) ?_ | refine St.store4 rfl rfl rfl rfl (by kernel_rfl) (Nat.le_of_ble_eq_true rfl) (by first | exact fun _ h => h.nil | exact fun _ h => h | exact fun _ h => h.drop | exact fun _ h => h.drop.drop | exact fun _ h => h.drop.drop.drop) ?_ | refine St.store5 rfl rfl rfl rfl (by kernel_rfl) (Nat.le_of_ble_eq_true rfl) (by first | exact fun _ h => h.nil | exact fun _ h => h | exact fun _ h => h.drop | exact fun _ h => h.drop.drop | exact fun _ h => h.drop.drop.drop) ?_
  refine St.done ?_
  exact SX.ret0 (.inr rfl) rfl rfl
theorem rtake_spec (w0 : World) (L : List Chunk) (q at_ n : Nat) (rv : Value) (bs : List Nat) (hx : Rd w0 L rv 1 bs.length (bytes bs)) (hl : bs.length ≤ 140737488351232) (hb : ∀ b ∈ bs, b < 256) (hat : at_ ≤ 8 * bs.length) (hn : n ≤ 32) :
    Meets Try.prog 186 #[.pointer (some ⟨q, 0, none⟩), .int .i64 ((n : Nat) : Int)] w0 ([⟨q, [rv, .int .i64 ((at_ : Nat) : Int)], 40⟩] :: L) (fun r L' => (at_ + n ≤ 8 * bs.length ∧ r = .tuple #[.int .u32 ((takeN bs at_ n : Nat) : Int), .bool true] ∧ [⟨q, [rv, .int .i64 ((at_ + n : Nat) : Int)], 40⟩] :: L = L') ∨ (¬ at_ + n ≤ 8 * bs.length ∧ r = .tuple #[.int .u32 0, .bool false] ∧ [⟨q, [rv, .int .i64 ((at_ : Nat) : Int)], 40⟩] :: L = L')) := by
  refine Meets.of_body [.pointer (some ⟨q, 0, none⟩), .int .i64 ((n : Nat) : Int)] Try.func186 rfl Try.ntmps186 rfl ?_
  refine SC.seq ?_
  refine SC.plain ?_
  refine St.assign rfl rfl ?_
  refine St.assign rfl rfl ?_
  refine St.done ?_
  refine SX.seq ?_
  refine SC.seq ?_
  refine SC.seq ?_
  refine SC.plain ?_
  refine St.move rfl rfl ?_
  refine St.lss rfl rfl rfl ?_
  refine St.move rfl rfl ?_
  refine St.split 10 rfl (fun g10 => ?_) (fun g10 => ?_)
  · exfalso; omega
  · refine St.guard_yes rfl rfl ?_
    refine St.move rfl rfl ?_
    refine St.guard_yes rfl rfl ?_
    refine St.gtr rfl rfl rfl ?_
    refine St.pick_false rfl rfl rfl ?_
    refine St.move rfl rfl ?_
    refine St.split 14 rfl (fun g14 => ?_) (fun g14 => ?_)
    · exfalso; omega
    · refine St.guard_yes rfl rfl ?_
      refine St.move rfl rfl ?_
      refine St.guard_yes rfl rfl ?_
      refine St.move rfl rfl ?_
      refine St.guard_yes rfl rfl ?_
      refine St.call [_] rfl (by kernel_rfl) rfl (left_spec w0 L rv bs q at_ hx hl hat) (fun _ _ _ _ h => h.nil) ?_
      rintro r1 L1 ⟨rfl, rfl⟩
      refine St.guard_yes rfl rfl ?_
      refine St.gtr rfl rfl rfl ?_
      refine St.pick_false rfl rfl rfl ?_
      refine St.done ?_
      refine SX.seq ?_
      refine SC.condp rfl (fun c19 => ?_) (fun c19 => ?_)
      · refine SC.seq ?_
        refine SC.plain ?_
        refine St.assign rfl rfl ?_
        refine St.assign rfl rfl ?_
        refine St.done ?_
        refine SX.seq ?_
        refine SC.ret ?_
        refine SX.seq_ret ?_
        exact SX.ret2 rfl rfl rfl (.inr ⟨by omega, rfl, rfl⟩)
      · refine SC.skip ?_
        refine SX.seq ?_
        refine SC.seq ?_
        refine SC.plain ?_
        refine St.assign rfl rfl ?_
        refine St.done ?_
        refine SX.seq ?_
        refine SC.seq ?_
        refine SC.seq ?_
        refine SC.plain ?_
        refine St.assign rfl rfl ?_
        refine St.done ?_
        refine SX.seq ?_
        refine SC.block ?_
        refine SC.loop (α := Nat) (fun k => k ≤ n) (fun k => [(0, .pointer (some ⟨q, 0, none⟩)), (1, .int .i64 ((n : Nat) : Int)), (6, .int .u32 ((takeN bs at_ k : Nat) : Int)), (7, .int .i64 ((k : Nat) : Int))]) (fun k => [⟨q, [rv, .int .i64 ((at_ + k : Nat) : Int)], 40⟩] :: L) (fun k => n - k) 0 (Nat.zero_le _) ⟨rfl, rfl, rfl, rfl, trivial⟩ (List.Perm.refl _) ?_
        intro k hk
        have htk := take_lt bs at_ k
        have hb1 := bit_lt bs (at_ + k)
        refine SC.seq ?_
        refine SC.seq ?_
        refine SC.plain ?_
        refine St.move rfl rfl ?_
        refine St.move rfl rfl ?_
        refine St.lss rfl rfl rfl ?_
        refine St.done ?_
        refine SX.seq ?_
        refine SC.condp rfl (fun c22 => ?_) (fun c22 => ?_)
        · have hlt : k < n := by omega
          have hk2 : 2 ^ k ≤ 2 ^ 31 := Nat.pow_le_pow_right (by decide) (by omega)
          have hbk : bitAt bs (at_ + k) * 2 ^ k ≤ 1 * 2 ^ 31 := Nat.mul_le_mul (by omega) hk2
          refine SC.skip ?_
          refine SX.seq ?_
          refine SC.seq ?_
          refine SC.block ?_
          refine SC.plain ?_
          refine St.move rfl rfl ?_
          refine St.move rfl rfl ?_
          refine St.call [_] rfl (by kernel_rfl) rfl (one_spec w0 L rv bs q (at_ + k) hx hl hb (by omega)) (fun _ _ _ _ h => h.nil) ?_
          rintro r1 L1 ⟨rfl, rfl⟩
          refine St.move rfl rfl ?_
          refine St.shlUx un32 rfl rfl rfl (by show _ ≤ (32 : Nat); omega) (by omega) ?_
          refine St.orU un32 rfl rfl rfl (by omega) (by omega) ?_
          rw [or_add _ _ _ htk, show takeN bs at_ k + bitAt bs (at_ + k) * 2 ^ k = takeN bs at_ (k + 1) from rfl]
          refine St.assign rfl rfl ?_
          refine St.done ?_
          refine SX.blk ?_
          refine SX.seq ?_
          refine SC.plain ?_
          refine St.move rfl rfl ?_
          first | refine St.addN (b := 1) rfl rfl rfl (by omega) ?_ | refine St.addI rfl rfl rfl (by omega) ?_
          refine St.assign rfl rfl ?_
          refine St.done ?_
          exact SX.again (k + 1) (by omega) (by show n - (k + 1) < n - k; omega) ⟨rfl, rfl, rfl, rfl, trivial⟩ (List.Perm.refl _)
        · obtain rfl : k = n := by omega
          refine SC.exit ?_
          refine SX.seq_exit ?_
          refine SX.seq_exit ?_
          refine SX.hit ?_
          refine SX.seq ?_
          refine SC.seq ?_
          refine SC.plain ?_
          refine St.move rfl rfl ?_
          refine St.assign rfl rfl ?_
          refine St.assign rfl rfl ?_
          refine St.done ?_
          refine SX.seq ?_
          refine SC.ret ?_
          exact SX.ret2 rfl rfl rfl (.inl ⟨by omega, rfl, rfl⟩)
theorem wtake_spec (w0 : World) (L : List Chunk) (p q : Nat) (rv ov : Value) (bs : List Nat) (most at_ : Nat) (out : List Nat) (e : Int) (Eo : Chunk) (hR : RIn w0 L rv bs most at_ out ov Eo) (n : Nat) (hn : n ≤ 32) :
    Meets Try.prog 162 #[.pointer (some ⟨p, 0, none⟩), .int .i64 ((n : Nat) : Int)] w0 (WkL p q rv ov at_ most e Eo L) (fun r L' => (at_ + n ≤ 8 * bs.length ∧ r = .int .i64 ((takeN bs at_ n : Nat) : Int) ∧ WkL p q rv ov (at_ + n) most e Eo L = L') ∨ (¬ at_ + n ≤ 8 * bs.length ∧ r = .int .i64 ((0 : Nat) : Int) ∧ WkL p q rv ov at_ most (firstE e 4) Eo L = L')) := by
  have hx := hR.rd
  have hl := hR.len
  have hb := hR.lt
  have hat := hR.at_
  have hmost := hR.big
  have hroom := hR.room
  unfold WkL
  have htl := take_lt bs at_ n
  have hpw : 2 ^ n ≤ 2 ^ 32 := Nat.pow_le_pow_right (by decide) hn
  refine Meets.of_body [.pointer (some ⟨p, 0, none⟩), .int .i64 ((n : Nat) : Int)] Try.func162 rfl Try.ntmps162 rfl ?_
  refine SC.seq ?_
  refine SC.plain ?_
  refine St.assign rfl rfl ?_
  refine St.done ?_
  refine SX.seq ?_
  refine SC.seq ?_
  refine SC.plain ?_
  refine St.move rfl rfl ?_
  refine St.nilCheck rfl rfl ?_
  refine St.fieldAddr (off := 0) rfl rfl (by kernel_rfl) ?_
  refine St.load rfl rfl (by kernel_rfl) (by first | exact Holds.row mem0 rfl | exact Holds.row mem1 rfl | exact Holds.row mem2 rfl | exact Holds.row mem3 rfl | exact Holds.row mem4 rfl | exact Holds.row mem5 rfl | exact Holds.row mem6 rfl | exact Holds.row mem7 rfl | exact Holds.row mem8 rfl) ?_
  refine St.move rfl rfl ?_
  refine St.perm _ (perm12 _ _ _) ?_
  refine St.call [_, _] rfl (by kernel_rfl) rfl (rtake_spec w0 _ q at_ n rv bs (hx.mono fun w hw => hw.drop.drop) hl hb hat hn) (fun _ _ _ _ h => h.nil) ?_
  rintro r1 L1 (⟨h1, rfl, rfl⟩ | ⟨h1, rfl, rfl⟩)
  · refine St.perm _ (perm12 _ _ _) ?_
    refine St.move rfl rfl ?_
    refine St.extract rfl rfl rfl ?_
    refine St.extract rfl rfl rfl ?_
    refine St.assign rfl rfl ?_
    refine St.assign rfl rfl ?_
    refine St.done ?_
    refine SX.seq ?_
    refine SC.seq ?_
    refine SC.seq ?_
    refine SC.plain ?_
    refine St.move rfl rfl ?_
    refine St.notB rfl rfl ?_
    refine St.move rfl rfl ?_
    refine St.guard_no rfl rfl rfl ?_
    refine St.guard_no rfl rfl rfl ?_
    refine St.guard_no rfl rfl rfl ?_
    refine St.guard_no rfl rfl rfl ?_
    refine St.guard_no rfl rfl rfl ?_
    refine St.pick_false rfl rfl rfl ?_
    refine St.done ?_
    refine SX.seq ?_
    refine SC.cond_false rfl ?_
    refine SC.skip ?_
    refine SX.seq ?_
    refine SC.seq ?_
    refine SC.plain ?_
    refine St.move rfl rfl ?_
    first | refine St.convS rfl rfl (by kernel_rfl) (by kernel_rfl) (by omega) ?_ | refine St.convS (n := 0) rfl rfl (by kernel_rfl) (by kernel_rfl) (by omega) ?_
    refine St.assign rfl rfl ?_
    refine St.done ?_
    refine SX.seq ?_
    refine SC.ret ?_
    exact SX.ret1 rfl rfl (.inl ⟨h1, rfl, rfl⟩)
  · refine St.perm _ (perm12 _ _ _) ?_
    refine St.move rfl rfl ?_
    refine St.extract rfl rfl rfl ?_
    refine St.extract rfl rfl rfl ?_
    refine St.assign rfl rfl ?_
    refine St.assign rfl rfl ?_
    refine St.done ?_
    refine SX.seq ?_
    refine SC.seq ?_
    refine SC.seq ?_
    refine SC.plain ?_
    refine St.move rfl rfl ?_
    refine St.notB rfl rfl ?_
    refine St.move rfl rfl ?_
    refine St.guard_yes rfl rfl ?_
    refine St.move rfl rfl ?_
    refine St.guard_yes rfl rfl ?_
    refine St.nilCheck rfl rfl ?_
    refine St.guard_yes rfl rfl ?_
    refine St.fieldAddr (off := 3) rfl rfl (by kernel_rfl) ?_
    refine St.guard_yes rfl rfl ?_
    refine St.load rfl rfl (by kernel_rfl) (by first | exact Holds.row mem0 rfl | exact Holds.row mem1 rfl | exact Holds.row mem2 rfl | exact Holds.row mem3 rfl | exact Holds.row mem4 rfl | exact Holds.row mem5 rfl | exact Holds.row mem6 rfl | exact Holds.row mem7 rfl | exact Holds.row mem8 rfl) ?_
    refine St.guard_yes rfl rfl ?_
    refine St.eql rfl rfl rfl ?_
    refine St.pick_true rfl rfl rfl ?_
    refine St.done ?_
    refine SX.seq ?_
    refine SC.condp rfl (fun c24 => ?_) (fun c24 => ?_)
    · refine SC.plain ?_
      refine St.move rfl rfl ?_
      refine St.nilCheck rfl rfl ?_
      refine St.fieldAddr (off := 3) rfl rfl (by kernel_rfl) ?_
      first | refine St.store rfl rfl rfl rfl (by kernel_rfl) (Nat.le_of_ble_eq_true rfl) (by first | exact fun _ h => h.nil | exact fun _ h => h | exact fun _ h => h.drop | exact fun _ h => h.drop.drop | exact fun _ h => h.drop.drop.drop) ?_ | refine St.store1 rfl rfl rfl rfl (by kernel_rfl) (Nat.le_of_ble_eq_true rfl) (by first | exact fun _ h => h.nil | exact fun _ h => h | exact fun _ h => h.drop | exact fun _ h => h.drop.drop | exact fun _ h => h.drop.drop.drop) ?_ | refine St.store2 rfl rfl rfl rfl (by kernel_rfl) (Nat.le_of_ble_eq_true rfl) (by first | exact fun _ h => h.nil | exact fun _ h => h | exact fun _ h => h.drop | exact fun _ h => h.drop.drop | exact fun _ h => h.drop.drop.drop) ?_ | refine St.store3 rfl rfl rfl rfl (by kernel_rfl) (Nat.le_of_ble_eq_true rfl) (by first | exact fun _ h => h.nil | exact fun _ h => h | exact fun _ h => h.drop | exact fun _ h => h.drop.drop | exact fun _ h => h.drop.drop.drop) ?_ | refine St.store4 rfl rfl rfl rfl (by kernel_rfl) (Nat.le_of_ble_eq_true rfl) (by first | exact fun _ h => h.nil | exact fun _ h => h | exact fun _ h => h.drop | exact fun _ h => h.drop.drop | exact fun _ h => h.drop.drop.drop) ?_ | refine St.store5 rfl rfl rfl rfl (by kernel_rfl) (Nat.le_of_ble_eq_true rfl) (by first | exact fun _ h => h.nil | exact fun _ h => h | exact fun _ h => h.drop | exact fun _ h => h.drop.drop | exact fun _ h => h.drop.drop.drop) ?_
      refine St.done ?_
      refine SX.seq ?_
      refine SC.seq ?_
      refine SC.plain ?_
      refine St.move rfl rfl ?_
      first | refine St.convS rfl rfl (by kernel_rfl) (by kernel_rfl) (by omega) ?_ | refine St.convS (n := 0) rfl rfl (by kernel_rfl) (by kernel_rfl) (by omega) ?_
      refine St.assign rfl rfl ?_
      refine St.done ?_
      refine SX.seq ?_
      refine SC.ret ?_
      exact SX.ret1 rfl rfl (.inr ⟨h1, rfl, by unfold firstE; first | (rw [if_pos (by assumption)]; rfl) | rw [if_neg (by assumption)] | (rw [if_neg (by assumption)]; rfl)⟩)
    · refine SC.skip ?_
      refine SX.seq ?_
      refine SC.seq ?_
      refine SC.plain ?_
      refine St.move rfl rfl ?_
      first | refine St.convS rfl rfl (by kernel_rfl) (by kernel_rfl) (by omega) ?_ | refine St.convS (n := 0) rfl rfl (by kernel_rfl) (by kernel_rfl) (by omega) ?_
      refine St.assign rfl rfl ?_
      refine St.done ?_
      refine SX.seq ?_
      refine SC.ret ?_
      exact SX.ret1 rfl rfl (.inr ⟨h1, rfl, by unfold firstE; first | (rw [if_pos (by assumption)]; rfl) | rw [if_neg (by assumption)] | (rw [if_neg (by assumption)]; rfl)⟩)
theorem wfail_spec (w0 : World) (L : List Chunk) (p q : Nat) (rv ov : Value) (most at_ : Nat) (e c : Int) (Eo : Chunk) :
    Meets Try.prog 167 #[.pointer (some ⟨p, 0, none⟩), .int .i64 c] w0 (WkL p q rv ov at_ most e Eo L) (fun r L' => WkL p q rv ov at_ most (firstE e c) Eo L = L') := by
  unfold WkL
  refine Meets.of_body [.pointer (some ⟨p, 0, none⟩), .int .i64 c] Try.func167 rfl Try.ntmps167 rfl ?_
  refine SC.seq ?_
  refine SC.plain ?_
  refine St.move rfl rfl ?_
  refine St.nilCheck rfl rfl ?_
  refine St.fieldAddr (off := 3) rfl rfl (by kernel_rfl) ?_
  refine St.load rfl rfl (by kernel_rfl) (by first | exact Holds.row mem0 rfl | exact Holds.row mem1 rfl | exact Holds.row mem2 rfl | exact Holds.row mem3 rfl | exact Holds.row mem4 rfl | exact Holds.row mem5 rfl | exact Holds.row mem6 rfl | exact Holds.row mem7 rfl | exact Holds.row mem8 rfl) ?_
  refine St.eql rfl rfl rfl ?_
  refine St.done ?_
  refine SX.seq ?_
  refine SC.condp rfl (fun c8 => ?_) (fun c8 => ?_)
  · refine SC.plain ?_
    refine St.move rfl rfl ?_
    refine St.move rfl rfl ?_
    refine St.nilCheck rfl rfl ?_
    refine St.fieldAddr (off := 3) rfl rfl (by kernel_rfl) ?_
    first | refine St.store rfl rfl rfl rfl (by kernel_rfl) (Nat.le_of_ble_eq_true rfl) (by first | exact fun _ h => h.nil | exact fun _ h => h | exact fun _ h => h.drop | exact fun _ h => h.drop.drop | exact fun _ h => h.drop.drop.drop) ?_ | refine St.store1 rfl rfl rfl rfl (by kernel_rfl) (Nat.le_of_ble_eq_true rfl) (by first | exact fun _ h => h.nil | exact fun _ h => h | exact fun _ h => h.drop | exact fun _ h => h.drop.drop | exact fun _ h => h.drop.drop.drop) ?_ | refine St.store2 rfl rfl rfl rfl (by kernel_rfl) (Nat.le_of_ble_eq_true rfl) (by first | exact fun _ h => h.nil | exact fun _ h => h | exact fun _ h => h.drop | exact fun _ h => h.drop.drop | exact fun _ h => h.drop.drop.drop) ?_ | refine St.store3 rfl rfl rfl rfl (by kernel_rfl) (Nat.le_of_ble_eq_true rfl) (by first | exact fun _ h => h.nil | exact fun _ h => h | exact fun _ h => h.drop | exact fun _ h => h.drop.drop | exact fun _ h => h.drop.drop.drop) ?_ | refine St.store4 rfl rfl rfl rfl (by kernel_rfl) (Nat.le_of_ble_eq_true rfl) (by first | exact fun _ h => h.nil | exact fun _ h => h | exact fun _ h => h.drop | exact fun _ h => h.drop.drop | exact fun _ h => h.drop.drop.drop) ?_ | refine St.store5 rfl rfl rfl rfl (by kernel_rfl) (Nat.le_of_ble_eq_true rfl) (by first | exact fun _ h => h.nil | exact fun _ h => h | exact fun _ h => h.drop | exact fun _ h => h.drop.drop | exact fun _ h => h.drop.drop.drop) ?_
    refine St.done ?_
    exact SX.ret0 (.inr rfl) rfl (by unfold firstE; first | rw [if_pos (by assumption)]; rfl | rw [if_neg (by assumption)])
  · refine SC.skip ?_
    exact SX.ret0 (.inr rfl) rfl (by unfold firstE; first | rw [if_pos (by assumption)]; rfl | rw [if_neg (by assumption)])
theorem wput_spec (w0 : World) (L : List Chunk) (p q : Nat) (rv ov : Value) (bs : List Nat) (most at_ : Nat) (out : List Nat) (e : Int) (Eo : Chunk) (hR : RIn w0 L rv bs most at_ out ov Eo) (c : Nat) (hc : c < 256) :
    Meets Try.prog 188 #[.pointer (some ⟨p, 0, none⟩), .int .u8 ((c : Nat) : Int)] w0 (WkL p q rv ov at_ most e Eo L) (fun r L' => (most ≤ out.length ∧ WkL p q rv ov at_ most (firstE e 5) Eo L = L') ∨ (¬ most ≤ out.length ∧ ∃ v2 E2, RIn w0 L rv bs most at_ (out ++ [c]) v2 E2 ∧ WkL p q rv v2 at_ most e E2 L = L')) := by
  have hx := hR.rd
  have hl := hR.len
  have hb := hR.lt
  have hat := hR.at_
  have hmost := hR.big
  have hroom := hR.room
  have hob := hR.buf
  obtain ⟨bo, oo, Ao, co, rfl, hAo, _⟩ := hR.sl
  unfold WkL
  refine Meets.of_body [.pointer (some ⟨p, 0, none⟩), .int .u8 ((c : Nat) : Int)] Try.func188 rfl Try.ntmps188 rfl ?_
  refine SC.seq ?_
  refine SC.seq ?_
  refine SC.drawn [(0, true), (1, true), (2, true), (3, true), (4, true), (5, true), (6, true), (7, true), (8, true), (9, true)] [] (_) (by kernel_rfl) (by kernel_rfl) (fun _ h => h) ?_
  refine St.move rfl rfl ?_
  refine St.nilCheck rfl rfl ?_
  refine St.fieldAddr (off := 1) rfl rfl (by kernel_rfl) ?_
  refine St.load rfl rfl (by kernel_rfl) (by first | exact Holds.row mem0 rfl | exact Holds.row mem1 rfl | exact Holds.row mem2 rfl | exact Holds.row mem3 rfl | exact Holds.row mem4 rfl | exact Holds.row mem5 rfl | exact Holds.row mem6 rfl | exact Holds.row mem7 rfl | exact Holds.row mem8 rfl) ?_
  refine St.lenSl rfl rfl (by kernel_rfl) ?_
  refine St.move rfl rfl ?_
  refine St.nilCheck rfl rfl ?_
  refine St.fieldAddr (off := 2) rfl rfl (by kernel_rfl) ?_
  refine St.load rfl rfl (by kernel_rfl) (by first | exact Holds.row mem0 rfl | exact Holds.row mem1 rfl | exact Holds.row mem2 rfl | exact Holds.row mem3 rfl | exact Holds.row mem4 rfl | exact Holds.row mem5 rfl | exact Holds.row mem6 rfl | exact Holds.row mem7 rfl | exact Holds.row mem8 rfl) ?_
  refine St.geq rfl rfl rfl ?_
  refine St.done ?_
  refine SX.tail ?_
  refine St.done ?_
  refine SX.seq ?_
  refine SC.condp rfl (fun c13 => ?_) (fun c13 => ?_)
  · refine SC.seq ?_
    refine SC.plain ?_
    refine St.move rfl rfl ?_
    refine St.call [_, _] rfl (by kernel_rfl) rfl (wfail_spec w0 L p q rv _ most at_ e 5 Eo) (fun _ _ _ _ h => h.nil) ?_
    rintro r1 L1 rfl
    refine St.done ?_
    refine SX.seq ?_
    refine SC.ret ?_
    refine SX.seq_ret ?_
    exact SX.ret0 (.inl rfl) rfl (.inl ⟨by omega, rfl⟩)
  · refine SC.skip ?_
    refine SX.seq ?_
    refine SC.plain ?_
    refine St.move rfl rfl ?_
    refine St.move rfl rfl ?_
    refine St.nilCheck rfl rfl ?_
    refine St.fieldAddr (off := 1) rfl rfl (by kernel_rfl) ?_
    refine St.load rfl rfl (by kernel_rfl) (by first | exact Holds.row mem0 rfl | exact Holds.row mem1 rfl | exact Holds.row mem2 rfl | exact Holds.row mem3 rfl | exact Holds.row mem4 rfl | exact Holds.row mem5 rfl | exact Holds.row mem6 rfl | exact Holds.row mem7 rfl | exact Holds.row mem8 rfl) ?_
    refine St.move rfl rfl ?_
    refine St.buildSl (n := 1) (e := 5) [(0, .int .u8 ((c : Nat) : Int))] (bytes [c]) rfl rfl (by kernel_rfl) (fun _ _ h => h.nil) (fun b5 => ?_)
    refine St.append3 (e := 5) (sz := 1) (bytes := 1) (xs := bytes out) (n := out.length) (news := bytes [c]) (m := 1) rfl rfl rfl (by kernel_rfl) hob (Rd.row rfl mem0) (bytes_one _) (by omega) (by omega) (fun _ _ h => h.nil) (fun v2 E2 hb2 _ => ?_)
    rw [← bytes_app] at hb2
    refine St.drop ?_
    have hb2r := hb2.read
    obtain ⟨_, _, A2, c2, rfl, _, _⟩ := hb2r
    refine St.nilCheck rfl rfl ?_
    refine St.fieldAddr (off := 1) rfl rfl (by kernel_rfl) ?_
    first | refine St.store rfl rfl rfl rfl (by kernel_rfl) (Nat.le_of_ble_eq_true rfl) (by first | exact fun _ h => h.nil | exact fun _ h => h | exact fun _ h => h.drop | exact fun _ h => h.drop.drop | exact fun _ h => h.drop.drop.drop) ?_ | refine St.store1 rfl rfl rfl rfl (by kernel_rfl) (Nat.le_of_ble_eq_true rfl) (by first | exact fun _ h => h.nil | exact fun _ h => h | exact fun _ h => h.drop | exact fun _ h => h.drop.drop | exact fun _ h => h.drop.drop.drop) ?_ | refine St.store2 rfl rfl rfl rfl (by kernel_rfl) (Nat.le_of_ble_eq_true rfl) (by first | exact fun _ h => h.nil | exact fun _ h => h | exact fun _ h => h.drop | exact fun _ h => h.drop.drop | exact fun _ h => h.drop.drop.drop) ?_ | refine St.store3 rfl rfl rfl rfl (by kernel_rfl) (Nat.le_of_ble_eq_true rfl) (by first | exact fun _ h => h.nil | exact fun _ h => h | exact fun _ h => h.drop | exact fun _ h => h.drop.drop | exact fun _ h => h.drop.drop.drop) ?_ | refine St.store4 rfl rfl rfl rfl (by kernel_rfl) (Nat.le_of_ble_eq_true rfl) (by first | exact fun _ h => h.nil | exact fun _ h => h | exact fun _ h => h.drop | exact fun _ h => h.drop.drop | exact fun _ h => h.drop.drop.drop) ?_ | refine St.store5 rfl rfl rfl rfl (by kernel_rfl) (Nat.le_of_ble_eq_true rfl) (by first | exact fun _ h => h.nil | exact fun _ h => h | exact fun _ h => h.drop | exact fun _ h => h.drop.drop | exact fun _ h => h.drop.drop.drop) ?_
    refine St.done ?_
    exact SX.ret0 (.inr rfl) rfl (.inr ⟨by omega, _, E2, ⟨hR.rd, hR.len, hR.lt, hR.at_, hR.big, by rw [List.length_append]; exact hb2, by rw [List.length_append]; show _ + 1 ≤ _; omega, fun b hb => by rcases List.mem_append.1 hb with h | h; exact hR.outB b h; rw [List.mem_singleton.1 h]; exact hc, hR.cap⟩, rfl⟩)
theorem wsymbol_spec (w0 : World) (L : List Chunk) (p q : Nat) (rv ov : Value) (bs : List Nat) (most at_ : Nat) (out : List Nat) (e : Int) (Eo : Chunk) (hR : RIn w0 L rv bs most at_ out ov Eo) (xs : List Int) (xv : Value) (hc0 : codesE xs = 0) (hxs : Rd w0 L xv 1 xs.length (ints xs)) :
    Meets Try.prog 189 #[.pointer (some ⟨p, 0, none⟩), xv] w0 (WkL p q rv ov at_ most e Eo L) (fun r L' => (e ≠ 0 ∧ r = .int .i64 0 ∧ WkL p q rv ov at_ most e Eo L = L') ∨
      (e = 0 ∧ ∃ d t1 : Nat, symR xs bs most at_ out = .ok (d : Int) t1 out ∧ d < xs.length ∧ at_ < t1 ∧ t1 ≤ 8 * bs.length ∧ r = .int .i64 ((d : Nat) : Int) ∧ WkL p q rv ov t1 most 0 Eo L = L') ∨
      (e = 0 ∧ ∃ (e1 n : Int) (t1 : Nat), symR xs bs most at_ out = .bad e1 ∧ e1 ≠ 0 ∧ at_ ≤ t1 ∧ t1 ≤ 8 * bs.length ∧ r = .int .i64 n ∧ WkL p q rv ov t1 most e1 Eo L = L')) := by
  have hx := hR.rd
  have hl := hR.len
  have hb := hR.lt
  have hat := hR.at_
  have hmost := hR.big
  have hroom := hR.room
  unfold WkL
  refine Meets.of_body [.pointer (some ⟨p, 0, none⟩), xv] Try.func189 rfl Try.ntmps189 rfl ?_
  refine SC.seq ?_
  refine SC.plain ?_
  refine St.assign rfl rfl ?_
  refine St.done ?_
  refine SX.seq ?_
  refine SC.seq ?_
  refine SC.seq ?_
  refine SC.plain ?_
  refine St.move rfl rfl ?_
  refine St.nilCheck rfl rfl ?_
  refine St.fieldAddr (off := 3) rfl rfl (by kernel_rfl) ?_
  refine St.load rfl rfl (by kernel_rfl) (by first | exact Holds.row mem0 rfl | exact Holds.row mem1 rfl | exact Holds.row mem2 rfl | exact Holds.row mem3 rfl | exact Holds.row mem4 rfl | exact Holds.row mem5 rfl | exact Holds.row mem6 rfl | exact Holds.row mem7 rfl | exact Holds.row mem8 rfl) ?_
  refine St.neq rfl rfl rfl ?_
  refine St.done ?_
  refine SX.seq ?_
  refine SC.condp rfl (fun c11 => ?_) (fun c11 => ?_)
  · refine SC.seq ?_
    refine SC.plain ?_
    refine St.assign rfl rfl ?_
    refine St.done ?_
    refine SX.seq ?_
    refine SC.ret ?_
    refine SX.seq_ret ?_
    exact SX.ret1 rfl rfl (.inl ⟨c11, rfl, rfl⟩)
  · obtain rfl : e = 0 := by omega
    refine SC.skip ?_
    refine SX.seq ?_
    refine SC.seq ?_
    refine SC.plain ?_
    refine St.move rfl rfl ?_
    refine St.move rfl rfl ?_
    refine St.nilCheck rfl rfl ?_
    refine St.fieldAddr (off := 0) rfl rfl (by kernel_rfl) ?_
    refine St.load rfl rfl (by kernel_rfl) (by first | exact Holds.row mem0 rfl | exact Holds.row mem1 rfl | exact Holds.row mem2 rfl | exact Holds.row mem3 rfl | exact Holds.row mem4 rfl | exact Holds.row mem5 rfl | exact Holds.row mem6 rfl | exact Holds.row mem7 rfl | exact Holds.row mem8 rfl) ?_
    refine St.perm _ (perm12 _ _ _) ?_
    refine St.call [_, _] rfl (by kernel_rfl) rfl (rread_spec w0 _ xv rv xs bs q at_ hc0 (hxs.mono fun w hw => hw.drop.drop) (hx.mono fun w hw => hw.drop.drop) hl hb hat) (fun _ _ _ _ h => h.nil) ?_
    rintro r2 L2 h2
    rcases h2.cases40 most out hat with ⟨d, t1, hg2, hd1, hd2, hd3, rfl, rfl⟩ | ⟨e1, n1, t1, hg2, hne, hd2, hd3, rfl, rfl⟩
    · refine St.perm (WkL p q rv ov t1 most 0 Eo L) (perm12 _ _ _) ?_
      refine St.move rfl rfl ?_
      refine St.extract rfl rfl rfl ?_
      refine St.extract rfl rfl rfl ?_
      refine St.assign rfl rfl ?_
      refine St.assign rfl rfl ?_
      refine St.done ?_
      refine SX.seq ?_
      refine SC.seq ?_
      refine SC.plain ?_
      refine St.move rfl rfl ?_
      refine St.move rfl rfl ?_
      refine St.call [_, _] rfl (by kernel_rfl) rfl (wfail_spec w0 L p q rv ov most t1 0 0 Eo) (fun _ _ _ _ h => h.nil) ?_
      rintro r1 L1 rfl
      refine St.done ?_
      refine SX.seq ?_
      refine SC.seq ?_
      refine SC.plain ?_
      refine St.move rfl rfl ?_
      refine St.assign rfl rfl ?_
      refine St.done ?_
      refine SX.seq ?_
      refine SC.ret ?_
      exact SX.ret1 rfl rfl (.inr (.inl ⟨rfl, d, t1, hg2, hd1, hd2, hd3, rfl, rfl⟩))
    · refine St.perm (WkL p q rv ov t1 most 0 Eo L) (perm12 _ _ _) ?_
      refine St.move rfl rfl ?_
      refine St.extract rfl rfl rfl ?_
      refine St.extract rfl rfl rfl ?_
      refine St.assign rfl rfl ?_
      refine St.assign rfl rfl ?_
      refine St.done ?_
      refine SX.seq ?_
      refine SC.seq ?_
      refine SC.plain ?_
      refine St.move rfl rfl ?_
      refine St.move rfl rfl ?_
      refine St.call [_, _] rfl (by kernel_rfl) rfl (wfail_spec w0 L p q rv ov most t1 0 e1 Eo) (fun _ _ _ _ h => h.nil) ?_
      rintro r1 L1 rfl
      refine St.done ?_
      refine SX.seq ?_
      refine SC.seq ?_
      refine SC.plain ?_
      refine St.move rfl rfl ?_
      refine St.assign rfl rfl ?_
      refine St.done ?_
      refine SX.seq ?_
      refine SC.ret ?_
      exact SX.ret1 rfl rfl (.inr (.inr ⟨rfl, e1, n1, t1, hg2, hne, hd2, hd3, rfl, rfl⟩))
theorem rbits_spec (w0 : World) (L : List Chunk) (s group start : Nat) (hs : s ≤ 1000) (hg : 0 < group) (hg2 : group ≤ 1000) (hst : start ≤ 1000) :
    Meets Try.prog 214 #[.int .i64 ((s : Nat) : Int), .int .i64 ((group : Nat) : Int), .int .i64 ((start : Nat) : Int)] w0 L (fun r L' => L = L' ∧ r = .int .i64 ((bitsN s group start : Nat) : Int)) := by
  refine Meets.of_body [.int .i64 ((s : Nat) : Int), .int .i64 ((group : Nat) : Int), .int .i64 ((start : Nat) : Int)] Try.func214 rfl Try.ntmps214 rfl ?_
  refine SC.seq ?_
  refine SC.plain ?_
  refine St.assign rfl rfl ?_
  refine St.done ?_
  refine SX.seq ?_
  refine SC.seq ?_
  refine SC.seq ?_
  refine SC.plain ?_
  refine St.move rfl rfl ?_
  refine St.move rfl rfl ?_
  refine St.lss rfl rfl rfl ?_
  refine St.done ?_
  refine SX.seq ?_
  refine SC.condp rfl (fun c9 => ?_) (fun c9 => ?_)
  · refine SC.seq ?_
    refine SC.plain ?_
    refine St.assign rfl rfl ?_
    refine St.done ?_
    refine SX.seq ?_
    refine SC.ret ?_
    refine SX.seq_ret ?_
    exact SX.ret1 rfl rfl ⟨rfl, by unfold bitsN; rw [if_pos (by omega)]; rfl⟩
  · have hdv : (s - start) / group ≤ s - start := Nat.div_le_self _ _
    refine SC.skip ?_
    refine SX.seq ?_
    refine SC.seq ?_
    refine SC.plain ?_
    refine St.move rfl rfl ?_
    refine St.move rfl rfl ?_
    first | refine St.subN rfl rfl rfl (by omega) (by omega) ?_ | refine St.subI rfl rfl rfl (by omega) ?_
    refine St.move rfl rfl ?_
    first | refine St.quoN rfl rfl rfl (by omega) (by omega) ?_ | refine St.quo rfl rfl rfl (by omega) ?_
    first | refine St.addN (b := 1) rfl rfl rfl (by omega) ?_ | refine St.addI rfl rfl rfl (by omega) ?_
    refine St.assign rfl rfl ?_
    refine St.done ?_
    refine SX.seq ?_
    refine SC.ret ?_
    exact SX.ret1 rfl rfl ⟨rfl, by unfold bitsN; rw [if_neg (by omega)]⟩
theorem rbase_spec (w0 : World) (L : List Chunk) (first s group start : Nat) (hs : s ≤ 1000) (hg : 0 < group) (hg2 : group ≤ 1000) (hst : start ≤ 1000) (hbits : ∀ i, i < s → bitsN i group start ≤ 30) (hbase : ∀ i, i ≤ s → baseN first group start i ≤ 1000000000) :
    Meets Try.prog 209 #[.int .i64 ((first : Nat) : Int), .int .i64 ((s : Nat) : Int), .int .i64 ((group : Nat) : Int), .int .i64 ((start : Nat) : Int)] w0 L (fun r L' => L = L' ∧ r = .tuple #[.int .i64 ((baseN first group start s : Nat) : Int), .int .i64 ((bitsN s group start : Nat) : Int)]) := by
  refine Meets.of_body [.int .i64 ((first : Nat) : Int), .int .i64 ((s : Nat) : Int), .int .i64 ((group : Nat) : Int), .int .i64 ((start : Nat) : Int)] Try.func209 rfl Try.ntmps209 rfl ?_
  refine SC.seq ?_
  refine SC.plain ?_
  refine St.assign rfl rfl ?_
  refine St.assign rfl rfl ?_
  refine St.done ?_
  refine SX.seq ?_
  refine SC.seq ?_
  refine SC.plain ?_
  refine St.move rfl rfl ?_
  refine St.assign rfl rfl ?_
  refine St.done ?_
  refine SX.seq ?_
  refine SC.seq ?_
  refine SC.seq ?_
  refine SC.plain ?_
  refine St.assign rfl rfl ?_
  refine St.done ?_
  refine SX.seq ?_
  refine SC.block ?_
  refine SC.loop (α := Nat) (fun i => i ≤ s) (fun i => [(1, .int .i64 ((s : Nat) : Int)), (2, .int .i64 ((group : Nat) : Int)), (3, .int .i64 ((start : Nat) : Int)), (10, .int .i64 ((baseN first group start i : Nat) : Int)), (11, .int .i64 ((i : Nat) : Int))]) (fun _ => L) (fun i => s - i) 0 (Nat.zero_le _) ⟨rfl, rfl, rfl, rfl, rfl, trivial⟩ (List.Perm.refl _) ?_
  intro i hi
  have hbi := hbase i hi
  refine SC.seq ?_
  refine SC.seq ?_
  refine SC.plain ?_
  refine St.move rfl rfl ?_
  refine St.move rfl rfl ?_
  refine St.lss rfl rfl rfl ?_
  refine St.done ?_
  refine SX.seq ?_
  refine SC.condp rfl (fun c15 => ?_) (fun c15 => ?_)
  · have hbt := hbits i (by omega)
    have hp30 : 2 ^ bitsN i group start ≤ 2 ^ 30 := Nat.pow_le_pow_right (by decide) hbt
    refine SC.skip ?_
    refine SX.seq ?_
    refine SC.seq ?_
    refine SC.block ?_
    refine SC.plain ?_
    refine St.move rfl rfl ?_
    refine St.move rfl rfl ?_
    refine St.move rfl rfl ?_
    refine St.move rfl rfl ?_
    refine St.call [_, _, _] rfl (by kernel_rfl) rfl (rbits_spec w0 L i group start (by omega) hg hg2 hst) (fun _ _ _ _ h => h.nil) ?_
    rintro r1 L1 ⟨rfl, rfl⟩
    refine St.shlN (a := 1) rfl rfl rfl (by omega) (by omega) ?_
    rw [Nat.one_mul]
    first | refine St.addN rfl rfl rfl (by omega) ?_ | refine St.addI rfl rfl rfl (by omega) ?_
    refine St.assign rfl rfl ?_
    refine St.done ?_
    refine SX.blk ?_
    refine SX.seq ?_
    refine SC.plain ?_
    refine St.move rfl rfl ?_
    first | refine St.addN (b := 1) rfl rfl rfl (by omega) ?_ | refine St.addI rfl rfl rfl (by omega) ?_
    refine St.assign rfl rfl ?_
    refine St.done ?_
    exact SX.again (i + 1) (by omega) (by show s - (i + 1) < s - i; omega) ⟨rfl, rfl, rfl, rfl, rfl, trivial⟩ (List.Perm.refl _)
  · obtain rfl : i = s := by omega
    refine SC.exit ?_
    refine SX.seq_exit ?_
    refine SX.seq_exit ?_
    refine SX.hit ?_
    refine SX.seq ?_
    refine SC.seq ?_
    refine SC.plain ?_
    refine St.move rfl rfl ?_
    refine St.move rfl rfl ?_
    refine St.move rfl rfl ?_
    refine St.move rfl rfl ?_
    refine St.call [_, _, _] rfl (by kernel_rfl) rfl (rbits_spec w0 L i group start (by omega) hg hg2 hst) (fun _ _ _ _ h => h.nil) ?_
    rintro r1 L1 ⟨rfl, rfl⟩
    refine St.assign rfl rfl ?_
    refine St.assign rfl rfl ?_
    refine St.done ?_
    refine SX.seq ?_
    refine SC.ret ?_
    exact SX.ret2 rfl rfl rfl ⟨rfl, rfl⟩
end Go.Proofs.Ytahafepgmkiabaa
