/- Walks: the law SumBursts. -/
import Derived.Test.YtahafepgmkiabaaS8
import Derived.Test.YtahafepgmkiabaaSepJ
import Derived.Test.YtahafepgmkiabaaB0
set_option linter.unusedVariables false
set_option linter.unusedSimpArgs false
set_option linter.ambiguousOpen false
namespace Go.Proofs.Ytahafepgmkiabaa
open Go Go.Proofs.Ytahafepgmkiabaa.Sep

/-- Where a burst begins. -/
def burstAt (at_ : Int) (n : Nat) : Nat := ((at_.tmod (8 * n - 31 : Nat) + (8 * n - 31 : Nat)).tmod (8 * n - 31 : Nat)).toNat
theorem burst_int (at_ : Int) (n : Nat) (h : 5 ≤ n) : (at_.tmod ((8 * n - 31 : Nat) : Int) + ((8 * n - 31 : Nat) : Int)).tmod ((8 * n - 31 : Nat) : Int) = ((burstAt at_ n : Nat) : Int) ∧ burstAt at_ n < 8 * n - 31 := by
  have hp : (0 : Int) < ((8 * n - 31 : Nat) : Int) := by omega
  have h1 := Int.lt_tmod_of_pos at_ hp
  have h2 := Int.tmod_nonneg ((8 * n - 31 : Nat) : Int) (show 0 ≤ at_.tmod ((8 * n - 31 : Nat) : Int) + ((8 * n - 31 : Nat) : Int) by omega)
  have h3 := Int.tmod_lt_of_pos (at_.tmod ((8 * n - 31 : Nat) : Int) + ((8 * n - 31 : Nat) : Int)) hp
  unfold burstAt
  omega
theorem set_mid_bytes (pre tl : List Value) (bs : List Nat) (j v : Nat) (h : j < bs.length) : (pre ++ (bytes bs ++ tl)).set (pre.length + ((j : Nat) : Int).toNat * 1) (.int .u8 ((v : Nat) : Int)) = pre ++ (bytes (bs.set j v) ++ tl) := by
  rw [Int.toNat_natCast, Nat.mul_one, List.set_append_right _ _ (by omega), show pre.length + j - pre.length = j by omega, List.set_append_left _ _ (by rw [bytes_length]; exact h)]
  unfold bytes
  rw [List.map_set]

theorem sumBursts_spec (w0 : World) (L : List Chunk) (v : Value) (at_ : Int) (u : Nat) (ys : List Nat) (hat : -9223372036854775808 ≤ at_ ∧ at_ ≤ 9223372036854775807) (hu : u < 4294967296) (hx : Rd w0 L v 1 ys.length (bytes ys)) (hl : ys.length ≤ 140737488351232) (hys : ∀ b ∈ ys, b < 256) :
    Meets Try.prog 7 #[v, .int .i64 at_, .int .u32 ((u : Nat) : Int)] w0 L (fun r L' => r = .bool true) := by
  have hx0 := hx
  obtain ⟨_, b, o, A, c, rfl, hA, hr⟩ := hx
  refine Meets.of_body [.slice A ys.length c, .int .i64 at_, .int .u32 ((u : Nat) : Int)] Try.func7 rfl Try.ntmps7 rfl ?_
  refine SC.seq ?_
  refine SC.plain ?_
  refine St.assign rfl rfl ?_
  refine St.done ?_
  refine SX.seq ?_
  refine SC.seq ?_
  refine SC.seq ?_
  refine SC.plain ?_
  refine St.move rfl rfl ?_
  refine St.lenSl rfl rfl (by kernel_rfl) ?_
  refine St.lss rfl rfl rfl ?_
  refine St.move rfl rfl ?_
  refine St.split 13 rfl (fun g13 => ?_) (fun g13 => ?_)
  · refine St.guard_no rfl rfl rfl ?_
    refine St.guard_no rfl rfl rfl ?_
    refine St.pick_true rfl rfl rfl ?_
    refine St.done ?_
    refine SX.seq ?_
    refine SC.cond_true rfl ?_
    refine SC.seq ?_
    refine SC.plain ?_
    refine St.call [] rfl (by kernel_rfl) rfl (awake3_spec w0 _) (by first | exact fun _ _ _ _ h => h.nil | assumption) ?_
    rintro r7 L1 ⟨rfl, rfl⟩
    refine St.assign rfl rfl ?_
    refine St.done ?_
    refine SX.seq ?_
    refine SC.ret ?_
    refine SX.seq_ret ?_
    exact SX.ret1 rfl rfl rfl
  · refine St.guard_yes rfl rfl ?_
    refine St.move rfl rfl ?_
    refine St.guard_yes rfl rfl ?_
    refine St.eql rfl rfl rfl ?_
    refine St.pick_false rfl rfl rfl ?_
    refine St.done ?_
    refine SX.seq ?_
    refine SC.condp rfl (fun c16 => ?_) (fun c16 => ?_)
    · refine SC.seq ?_
      refine SC.plain ?_
      refine St.call [] rfl (by kernel_rfl) rfl (awake3_spec w0 _) (by first | exact fun _ _ _ _ h => h.nil | assumption) ?_
      rintro r7 L1 ⟨rfl, rfl⟩
      refine St.assign rfl rfl ?_
      refine St.done ?_
      refine SX.seq ?_
      refine SC.ret ?_
      refine SX.seq_ret ?_
      exact SX.ret1 rfl rfl rfl
    · refine SC.skip ?_
      refine SX.seq ?_
      refine SC.seq ?_
      have h5 : 5 ≤ ys.length := by omega
      obtain ⟨hbi, hbl⟩ := burst_int at_ ys.length h5
      have htm := Int.lt_tmod_of_pos at_ (show (0 : Int) < ((8 * ys.length - 31 : Nat) : Int) by omega)
      have htm2 := Int.tmod_lt_of_pos at_ (show (0 : Int) < ((8 * ys.length - 31 : Nat) : Int) by omega)
      have hu0 : u ≠ 0 := by omega
      refine SC.plain ?_
      refine St.move rfl rfl ?_
      refine St.move rfl rfl ?_
      refine St.lenSl rfl rfl (by kernel_rfl) ?_
      first | refine St.mulN (a := 8) rfl rfl rfl (by omega) ?_ | refine St.mulI rfl rfl rfl (by omega) ?_
      first | refine St.subN (b := 31) rfl rfl rfl (by omega) (by omega) ?_ | refine St.subI rfl rfl rfl (by omega) ?_
      first | refine St.remN rfl rfl rfl (by omega) ?_ | refine St.rem rfl rfl rfl (by omega) ?_
      refine St.move rfl rfl ?_
      refine St.lenSl rfl rfl (by kernel_rfl) ?_
      first | refine St.mulN (a := 8) rfl rfl rfl (by omega) ?_ | refine St.mulI rfl rfl rfl (by omega) ?_
      first | refine St.subN (b := 31) rfl rfl rfl (by omega) (by omega) ?_ | refine St.subI rfl rfl rfl (by omega) ?_
      first | refine St.addN rfl rfl rfl (by omega) ?_ | refine St.addI rfl rfl rfl (by omega) ?_
      refine St.move rfl rfl ?_
      refine St.lenSl rfl rfl (by kernel_rfl) ?_
      first | refine St.mulN (a := 8) rfl rfl rfl (by omega) ?_ | refine St.mulI rfl rfl rfl (by omega) ?_
      first | refine St.subN (b := 31) rfl rfl rfl (by omega) (by omega) ?_ | refine St.subI rfl rfl rfl (by omega) ?_
      refine St.rem rfl rfl rfl (by omega) ?_
      rw [hbi]
      generalize burstAt at_ ys.length = f at hbl ⊢
      refine St.assign rfl rfl ?_
      refine St.done ?_
      refine SX.seq ?_
      refine SC.seq ?_
      refine SC.plain ?_
      refine St.buildSl0 (e := 5) (sz := 1) rfl (by kernel_rfl) (fun _ _ h => h.nil) (fun b0 => ?_)
      refine St.move rfl rfl ?_
      refine St.append (e := 5) (sz := 1) (bytes := 1) (xs := []) (n := 0) (news := bytes ys) (m := ys.length) rfl rfl rfl (by kernel_rfl) (Buf.whole rfl) (hx0.cons) (bytes_one _) (by omega) (by omega) (fun _ _ h => h.nil) (fun v2 E2 hb2 _ => ?_)
      rw [List.nil_append, Nat.zero_add] at hb2
      have hb2s := hb2
      obtain ⟨hb2l, ⟨hv2, hn2, _⟩ | ⟨b2, pre2, cap2, tl2, rfl, rfl, hcap2, htl2⟩⟩ := hb2s
      · omega
      refine St.assign rfl rfl ?_
      refine St.done ?_
      refine SX.seq ?_
      refine SC.seq ?_
      refine SC.seq ?_
      refine SC.plain ?_
      refine St.assign rfl rfl ?_
      refine St.done ?_
      refine SX.seq ?_
      refine SC.block ?_
      refine SC.loop (α := Nat) (fun i => i ≤ 32) (fun i => [(0, .slice A ys.length c), (2, .int .u32 ((u : Nat) : Int)), (7, .int .i64 ((f : Nat) : Int)), (8, .slice (some ⟨b2, pre2.length, none⟩) ys.length cap2), (9, .int .i64 ((i : Nat) : Int))]) (fun i => [⟨b2, pre2 ++ (bytes (flipTo ys f u i) ++ tl2), 5⟩] :: L) (fun i => 32 - i) 0 (Nat.zero_le _) ⟨rfl, rfl, rfl, rfl, rfl, trivial⟩ (List.Perm.refl _) ?_
      intro i hi
      have hfl := flip_len ys f u i
      have hbs := flip_lt hys f u i
      have hbf : Buf 5 1 (.slice (some ⟨b2, pre2.length, none⟩) ys.length cap2) (bytes (flipTo ys f u i)) ys.length [⟨b2, pre2 ++ (bytes (flipTo ys f u i) ++ tl2), 5⟩] := ⟨by rw [bytes_length, hfl, Nat.mul_one], .inr ⟨b2, pre2, cap2, tl2, rfl, rfl, hcap2, htl2⟩⟩
      have hbh : HoldsN w0 ([⟨b2, pre2 ++ (bytes (flipTo ys f u i) ++ tl2), 5⟩] :: L) b2 pre2.length (bytes (flipTo ys f u i)) := by
        obtain ⟨b3, o3, A3, c3, hv3, hA3, hh3⟩ := hbf.read
        injection hv3 with e1 e2 e3
        rw [hA3 (by omega)] at e1
        injection e1 with e1
        injection e1 with e4 e5
        subst e4 e5
        exact hh3 w0 _ List.mem_cons_self
      have hfi : (f + i) / 8 < ys.length ∨ i = 32 := by omega
      refine SC.seq ?_
      refine SC.seq ?_
      refine SC.plain ?_
      refine St.move rfl rfl ?_
      refine St.lss rfl rfl rfl ?_
      refine St.done ?_
      refine SX.seq ?_
      refine SC.condp rfl (fun c38 => ?_) (fun c38 => ?_)
      · have hlt : i < 32 := by omega
        have hfi2 : (f + i) / 8 < (flipTo ys f u i).length := by omega
        refine SC.skip ?_
        refine SX.seq ?_
        refine SC.seq ?_
        refine SC.block ?_
        refine SC.seq ?_
        refine SC.plain ?_
        refine St.move rfl rfl ?_
        refine St.move rfl rfl ?_
        first | refine St.shrU un32 rfl rfl rfl (by show _ ≤ (32 : Nat); omega) ?_ | refine St.shr rfl rfl rfl (by omega) ?_
        refine St.andU un32 (b := 1) rfl rfl rfl ?_ (by decide) ?_
        · exact Nat.lt_of_le_of_lt (Nat.div_le_self _ _) hu
        rw [show u / 2 ^ i &&& 1 = u / 2 ^ i % 2 from Nat.and_one_is_mod _]
        refine St.eql rfl rfl rfl ?_
        refine St.done ?_
        refine SX.seq ?_
        refine SC.condp rfl (fun c45 => ?_) (fun c45 => ?_)
        · have hstep : flipTo ys f u (i + 1) = (flipTo ys f u i).set ((f + i) / 8) ((flipTo ys f u i).getD ((f + i) / 8) 0 ^^^ 2 ^ ((f + i) % 8)) := by simp only [flipTo]; rw [if_pos (by omega)]
          have hp8 : 2 ^ ((f + i) % 8) < 256 := Nat.lt_of_le_of_lt (Nat.pow_le_pow_right (by decide) (show (f + i) % 8 ≤ 7 by omega)) (by decide)
          refine SC.drawn [(0, true), (1, true), (2, true), (3, true), (4, true), (5, true), (6, true), (7, true), (8, true), (9, true), (10, true), (11, true), (12, true), (13, true), (14, true), (15, true), (16, true), (17, true), (18, true)] [19] (_) (by kernel_rfl) (by kernel_rfl) (fun _ h => h) ?_
          refine St.move rfl rfl ?_
          refine St.move rfl rfl ?_
          refine St.move rfl rfl ?_
          first | refine St.addN rfl rfl rfl (by omega) ?_ | refine St.addI rfl rfl rfl (by omega) ?_
          first | refine St.quoN (b := 8) rfl rfl rfl (by omega) (by omega) ?_ | refine St.quo rfl rfl rfl (by omega) ?_
          refine St.move rfl rfl ?_
          refine St.move rfl rfl ?_
          refine St.move rfl rfl ?_
          first | refine St.addN rfl rfl rfl (by omega) ?_ | refine St.addI rfl rfl rfl (by omega) ?_
          first | refine St.quoN (b := 8) rfl rfl rfl (by omega) (by omega) ?_ | refine St.quo rfl rfl rfl (by omega) ?_
          refine St.indexSl (e := 5) (sz := 1) rfl rfl rfl (by kernel_rfl) (by omega) ?_
          first | (refine St.loadB rfl rfl (by kernel_rfl) (HoldsN.mono hbh (fun w hw => by first | exact hw | exact hw.drop | exact hw.drop.drop | exact hw.drop.drop.drop | exact hw.drop.drop.drop.drop | exact hw.drop.drop.drop.drop.drop | exact hw.drop.drop.drop.drop.drop.drop | exact hw.drop.drop.drop.drop.drop.drop.drop | exact hw.drop.drop.drop.drop.drop.drop.drop.drop)) rfl (by omega) hbs ?_; intro n57 e57 l57) | refine St.load rfl rfl (by kernel_rfl) (by first | exact Holds.row mem0 rfl | exact Holds.row mem1 rfl | exact Holds.row mem2 rfl | exact Holds.row mem3 rfl | exact Holds.row mem4 rfl | exact Holds.row mem5 rfl | exact Holds.row mem6 rfl | exact Holds.row mem7 rfl | exact Holds.row mem8 rfl) ?_
          refine St.move rfl rfl ?_
          refine St.move rfl rfl ?_
          first | refine St.addN rfl rfl rfl (by omega) ?_ | refine St.addI rfl rfl rfl (by omega) ?_
          first | refine St.remN (b := 8) rfl rfl rfl (by omega) ?_ | refine St.rem rfl rfl rfl (by omega) ?_
          refine St.shlUx un8 (a := 1) rfl rfl rfl (by show _ ≤ (8 : Nat); omega) (by omega) ?_
          rw [Nat.one_mul]
          first | refine St.xorU un8 rfl rfl rfl (by omega) (by omega) ?_ | refine St.xorI rfl rfl rfl ?_
          refine St.indexSl (e := 5) (sz := 1) rfl rfl rfl (by kernel_rfl) (by omega) ?_
          refine St.done ?_
          refine SX.tail ?_
          refine St.store rfl rfl rfl rfl (by kernel_rfl) (by simp [bytes_length, hfl]; omega) (fun _ h => h.nil) ?_
          rw [set_mid_bytes _ _ _ _ _ hfi2, e57, ← hstep]
          refine St.done ?_
          refine SX.blk ?_
          refine SX.seq ?_
          refine SC.plain ?_
          refine St.move rfl rfl ?_
          first | refine St.addN (b := 1) rfl rfl rfl (by omega) ?_ | refine St.addI rfl rfl rfl (by omega) ?_
          refine St.assign rfl rfl ?_
          refine St.done ?_
          exact SX.again (i + 1) (by omega) (by show 32 - (i + 1) < 32 - i; omega) ⟨rfl, rfl, rfl, rfl, rfl, trivial⟩ (by first | exact List.Perm.refl _ | (rw [hstep] <;> exact List.Perm.refl _))
        · have hstep : flipTo ys f u (i + 1) = flipTo ys f u i := by simp only [flipTo]; rw [if_neg (by omega)]
          refine SC.skip ?_
          refine SX.blk ?_
          refine SX.seq ?_
          refine SC.plain ?_
          refine St.move rfl rfl ?_
          first | refine St.addN (b := 1) rfl rfl rfl (by omega) ?_ | refine St.addI rfl rfl rfl (by omega) ?_
          refine St.assign rfl rfl ?_
          refine St.done ?_
          exact SX.again (i + 1) (by omega) (by show 32 - (i + 1) < 32 - i; omega) ⟨rfl, rfl, rfl, rfl, rfl, trivial⟩ (by first | exact List.Perm.refl _ | (rw [hstep] <;> exact List.Perm.refl _))
      · have hie : i = 32 := by omega
        subst hie
        have hne := crc_flip hys f u (by omega) hu hu0
        have hrd := hbf.rd (w0 := w0) (L := [⟨b2, pre2 ++ (bytes (flipTo ys f u 32) ++ tl2), 5⟩] :: L) List.mem_cons_self
        generalize hcs : flipTo ys f u 32 = cs at *
        refine SC.exit ?_
        refine SX.seq_exit ?_
        refine SX.seq_exit ?_
        refine SX.hit ?_
        refine SX.seq ?_
        refine SC.seq ?_
        refine SC.plain ?_
        refine St.move rfl rfl ?_
        refine St.call [.slice A ys.length c] rfl (by kernel_rfl) rfl (crc_spec w0 _ _ ys (Rd.mono hx0 (fun w hw => by first | exact hw | exact hw.drop | exact hw.drop.drop | exact hw.drop.drop.drop | exact hw.drop.drop.drop.drop | exact hw.drop.drop.drop.drop.drop | exact hw.drop.drop.drop.drop.drop.drop | exact hw.drop.drop.drop.drop.drop.drop.drop | exact hw.drop.drop.drop.drop.drop.drop.drop.drop)) (by omega) hys) (by first | exact fun _ _ _ _ h => h.nil | assumption) ?_
        rintro r1 L1 ⟨rfl, rfl⟩
        refine St.move rfl rfl ?_
        refine St.call [_] rfl (by kernel_rfl) rfl (crc_spec w0 _ _ cs (by rw [hfl]; exact hrd) (by rw [hfl]; omega) hbs) (by first | exact fun _ _ _ _ h => h.nil | assumption) ?_
        rintro r1 L1 ⟨rfl, rfl⟩
        refine St.neq rfl rfl rfl ?_
        refine St.move rfl rfl ?_
        refine St.split 70 rfl (fun g70 => ?_) (fun g70 => ?_)
        · refine St.guard_yes rfl rfl ?_
          refine St.call [] rfl (by kernel_rfl) rfl (awake3_spec w0 _) (by first | exact fun _ _ _ _ h => h.nil | assumption) ?_
          rintro r7 L1 ⟨rfl, rfl⟩
          refine St.pick_true rfl rfl rfl ?_
          refine St.assign rfl rfl ?_
          refine St.done ?_
          refine SX.seq ?_
          refine SC.ret ?_
          exact SX.ret1 rfl rfl rfl
        · exact absurd (fun h => hne (by omega)) g70
end Go.Proofs.Ytahafepgmkiabaa
