/- The walk of the law InflateMatches. -/
import Derived.Test.YtahafepgmkiabaaP3
import Derived.Test.YtahafepgmkiabaaSepM
set_option linter.unusedVariables false
set_option linter.unusedSimpArgs false
set_option linter.ambiguousOpen false
namespace Go.Proofs.Ytahafepgmkiabaa
open Go Go.Proofs.Ytahafepgmkiabaa.Sep Go.Proofs.Ytahafepgmkiabaa.Inf

theorem and_le (m : Int) (c : Nat) (hc : c ≤ 65535) : ∃ n : Nat, n ≤ c ∧ bits .and .i64 m (c : Int) = (n : Int) := by
  have hcn : (BitVec.ofInt 64 (c : Int)).toNat = c := by simp; omega
  have h : (BitVec.ofInt 64 m &&& BitVec.ofInt 64 (c : Int)).toNat ≤ c := by
    rw [BitVec.toNat_and]
    exact Nat.le_trans Nat.and_le_right (by omega)
  refine ⟨_, h, ?_⟩
  show IntKind.i64.wrap (((BitVec.ofInt 64 m &&& BitVec.ofInt 64 (c : Int)).toNat : Nat) : Int) = _
  exact wrap_i64_nat _ (by omega)

theorem inflateMatches_spec (w0 : World) (L : List Chunk) (v : Value) (bs : List Nat) (hv : Rd w0 L v 1 bs.length (bytes bs)) (hl : bs.length ≤ 140737488351232) (hb : ∀ b ∈ bs, b < 256) (n0 d0 : Int) :
    Meets Try.prog 27 #[v, .int .i64 n0, .int .i64 d0] w0 L (fun r L' => r = .bool true) := by
  have hv0 := hv
  obtain ⟨_, b0, o0, A0, c0, rfl, hA0, hr⟩ := hv
  obtain ⟨k, hk, hke⟩ : ∃ k : Nat, k ≤ 7 ∧ bits .and .i64 n0 7 = (k : Int) := and_le n0 7 (by omega)
  obtain ⟨d, hd, hde⟩ : ∃ k : Nat, k ≤ 3 ∧ bits .and .i64 d0 3 = (k : Int) := and_le d0 3 (by omega)
  refine Meets.of_body [.slice A0 bs.length c0, .int .i64 n0, .int .i64 d0] Try.func27 rfl Try.ntmps27 rfl ?_
  refine SC.seq ?_
  refine SC.plain ?_
  refine St.assign rfl rfl ?_
  refine St.done ?_
  refine SX.seq ?_
  refine SC.seq ?_
  refine SC.seq ?_
  refine SC.plain ?_
  refine St.move rfl rfl ?_
  refine St.lenSl rfl rfl (by kernel_rfl) ?_
  refine St.gtr rfl rfl rfl ?_
  refine St.done ?_
  refine SX.seq ?_
  refine SC.condp rfl (fun c20 => ?_) (fun c20 => ?_)
  · refine SC.seq ?_
    refine SC.plain ?_
    refine St.call [] rfl (by kernel_rfl) rfl (awake6_spec w0 _) (fun _ _ _ _ h => h.nil) ?_
    rintro ra La rfl
    refine St.assign rfl rfl ?_
    refine St.done ?_
    refine SX.seq ?_
    refine SC.ret ?_
    refine SX.seq_ret ?_
    exact SX.ret1 rfl rfl rfl
  · refine SC.skip ?_
    refine SX.seq ?_
    refine SC.seq ?_
    refine SC.plain ?_
    refine St.move rfl rfl ?_
    refine St.andI rfl rfl rfl ?_
    rw [hke]
    first | refine St.addN (b := 3) rfl rfl rfl (by omega) ?_ | refine St.addI rfl rfl rfl (by omega) ?_
    refine St.move rfl rfl ?_
    refine St.andI rfl rfl rfl ?_
    rw [hde]
    first | refine St.addN (b := 1) rfl rfl rfl (by omega) ?_ | refine St.addI rfl rfl rfl (by omega) ?_
    refine St.assign rfl rfl ?_
    refine St.assign rfl rfl ?_
    refine St.done ?_
    refine SX.seq ?_
    refine SC.seq ?_
    refine SC.plain ?_
    refine St.build [] [.slice none 0 0, .int .i64 0] rfl rfl (by kernel_rfl) ?_
    refine St.box [.slice none 0 0, .int .i64 0] rfl rfl rfl (fun _ _ h => h.nil) (fun p => ?_)
    refine St.perm (WrL p (.slice none 0 0) ([] : List Nat).length [] L) (List.Perm.refl _) ?_
    refine St.assign rfl rfl ?_
    refine St.done ?_
    refine SX.seq ?_
    refine SC.seq ?_
    refine SC.plain ?_
    refine St.move rfl rfl ?_
    refine St.call [_, _, _] rfl (by kernel_rfl) rfl (wputb_spec w0 L p (.slice none 0 0) [] [] (Buf.nil 5 1) (fun _ h => nomatch h) 3 3 (by omega) (by omega) (by simp)) (fun _ _ _ _ h => h.nil) ?_
    rintro r1 L1 ⟨v1, E1, hb1, rfl⟩
    rw [show ([] : List Nat) ++ lowBits 3 3 = ([1, 1, 0] ++ textBits (bs.take 0)) by rw [List.take_zero]; decide] at hb1 ⊢
    refine St.done ?_
    refine SX.seq ?_
    refine SC.seq ?_
    refine SC.seq ?_
    refine SC.plain ?_
    refine St.assign rfl rfl ?_
    refine St.done ?_
    refine SX.seq ?_
    refine SC.block ?_
    refine SC.loop (α := Nat × Value × Chunk) (fun s_ => s_.1 ≤ bs.length ∧ Buf 5 1 s_.2.1 (bytes (pack ([1, 1, 0] ++ textBits (bs.take s_.1)))) (pack ([1, 1, 0] ++ textBits (bs.take s_.1))).length s_.2.2) (fun s_ => [(0, .slice A0 bs.length c0), (1, .int .i64 ((k + 3 : Nat) : Int)), (2, .int .i64 ((d + 1 : Nat) : Int)), (7, .pointer (some ⟨p, 0, none⟩)), (8, .int .i64 ((s_.1 : Nat) : Int))]) (fun s_ => WrL p s_.2.1 ([1, 1, 0] ++ textBits (bs.take s_.1)).length s_.2.2 L) (fun s_ => bs.length - s_.1) (0, v1, E1) ⟨Nat.zero_le _, hb1⟩ ⟨rfl, rfl, rfl, rfl, rfl, trivial⟩ (List.Perm.refl _) ?_
    rintro ⟨i, vi, Ei⟩ ⟨hi, hbi⟩
    simp only at hi hbi
    show SC _ _ _ [(0, .slice A0 bs.length c0), (1, .int .i64 ((k + 3 : Nat) : Int)), (2, .int .i64 ((d + 1 : Nat) : Int)), (7, .pointer (some ⟨p, 0, none⟩)), (8, .int .i64 ((i : Nat) : Int))] (WrL p vi ([1, 1, 0] ++ textBits (bs.take i)).length Ei L)
    refine SC.seq ?_
    refine SC.seq ?_
    refine SC.plain ?_
    refine St.move rfl rfl ?_
    refine St.move rfl rfl ?_
    refine St.lenSl rfl rfl (by kernel_rfl) ?_
    refine St.lss rfl rfl rfl ?_
    refine St.done ?_
    refine SX.seq ?_
    refine SC.condp rfl (fun c35 => ?_) (fun c35 => ?_)
    · have hlt : i < bs.length := by omega
      obtain rfl := hA0 (by omega)
      have htl := textBits_len (bs.take i)
      rw [List.length_take] at htl
      have hwl : ([1, 1, 0] ++ textBits (bs.take i)).length ≤ 10000 := by rw [List.length_append]; show 3 + _ ≤ _; omega
      have hwb : Bits ([1, 1, 0] ++ textBits (bs.take i)) := bits_app (by intro w h; simp at h; omega) (textBits_bits _)
      refine SC.skip ?_
      refine SX.seq ?_
      refine SC.seq ?_
      refine SC.block ?_
      refine SC.seq ?_
      refine SC.plain ?_
      refine St.move rfl rfl ?_
      refine St.move rfl rfl ?_
      refine St.indexSl (e := 5) (sz := 1) rfl rfl rfl (by kernel_rfl) (by omega) ?_
      first | (refine St.loadB rfl rfl (by kernel_rfl) (HoldsN.mono hwr (fun w hw => by first | exact hw | exact hw.drop | exact hw.drop.drop | exact hw.drop.drop.drop | exact hw.drop.drop.drop.drop | exact hw.drop.drop.drop.drop.drop | exact hw.drop.drop.drop.drop.drop.drop | exact hw.drop.drop.drop.drop.drop.drop.drop | exact hw.drop.drop.drop.drop.drop.drop.drop.drop | exact hw.drop.drop.drop.drop.drop.drop.drop.drop.drop | exact hw.drop.drop.drop.drop.drop.drop.drop.drop.drop.drop | exact hw.drop.drop.drop.drop.drop.drop.drop.drop.drop.drop.drop | exact hw.drop.drop.drop.drop.drop.drop.drop.drop.drop.drop.drop.drop | exact hw.drop.drop.drop.drop.drop.drop.drop.drop.drop.drop.drop.drop.drop)) rfl (by omega) hwl3 ?_; intro n41 e41 l41) | (refine St.loadB rfl rfl (by kernel_rfl) (HoldsN.mono hr (fun w hw => by first | exact hw | exact hw.drop | exact hw.drop.drop | exact hw.drop.drop.drop | exact hw.drop.drop.drop.drop | exact hw.drop.drop.drop.drop.drop | exact hw.drop.drop.drop.drop.drop.drop | exact hw.drop.drop.drop.drop.drop.drop.drop | exact hw.drop.drop.drop.drop.drop.drop.drop.drop | exact hw.drop.drop.drop.drop.drop.drop.drop.drop.drop | exact hw.drop.drop.drop.drop.drop.drop.drop.drop.drop.drop | exact hw.drop.drop.drop.drop.drop.drop.drop.drop.drop.drop.drop | exact hw.drop.drop.drop.drop.drop.drop.drop.drop.drop.drop.drop.drop | exact hw.drop.drop.drop.drop.drop.drop.drop.drop.drop.drop.drop.drop.drop)) rfl (by omega) hb ?_; intro n41 e41 l41) | refine St.load rfl rfl (by kernel_rfl) (by first | exact Holds.row mem0 rfl | exact Holds.row mem1 rfl | exact Holds.row mem2 rfl | exact Holds.row mem3 rfl | exact Holds.row mem4 rfl | exact Holds.row mem5 rfl | exact Holds.row mem6 rfl | exact Holds.row mem7 rfl | exact Holds.row mem8 rfl) ?_
      first | refine St.convUx un32 rfl rfl (by kernel_rfl) (by kernel_rfl) (by omega) ?_ | refine St.convU un32 rfl rfl (by kernel_rfl) (by kernel_rfl) ?_ | refine St.convZ un32 rfl rfl (by kernel_rfl) (by kernel_rfl) ?_
      refine St.assign rfl rfl ?_
      refine St.done ?_
      refine SX.seq ?_
      refine SC.seq ?_
      refine SC.plain ?_
      refine St.move rfl rfl ?_
      refine St.lss rfl rfl rfl ?_
      refine St.done ?_
      refine SX.seq ?_
      refine SC.condp rfl (fun c44 => ?_) (fun c44 => ?_)
      · have hsy : symBits n41 = highBits (48 + n41) 8 := by unfold symBits litCode litLen; rw [if_pos (by omega), if_pos (by omega)]
        have hnx : ([1, 1, 0] ++ textBits (bs.take (i + 1))) = ([1, 1, 0] ++ textBits (bs.take i)) ++ highBits (48 + n41) 8 := by rw [take_at1 bs i hlt, textBits_snoc, ← e41, hsy]; first | done | rw [List.append_assoc]
        refine SC.plain ?_
        refine St.move rfl rfl ?_
        refine St.move rfl rfl ?_
        first | refine St.addUx un32 (a := 48) rfl rfl rfl (by omega) ?_ | refine St.addU un32 (a := 48) rfl rfl rfl ?_
        refine St.call [_, _, _] rfl (by kernel_rfl) rfl (wcode_spec w0 L p vi ([1, 1, 0] ++ textBits (bs.take i)) Ei hbi hwb (48 + n41) 8 (by omega) (by omega) (by omega)) (fun _ _ _ _ h => h.nil) ?_
        rintro r2 L2 ⟨v2, E2, hb2, rfl⟩
        refine St.done ?_
        refine SX.blk ?_
        refine SX.seq ?_
        refine SC.plain ?_
        refine St.move rfl rfl ?_
        first | refine St.addN (b := 1) rfl rfl rfl (by omega) ?_ | refine St.addI rfl rfl rfl (by omega) ?_
        refine St.assign rfl rfl ?_
        refine St.done ?_
        exact SX.again (i + 1, v2, E2) ⟨by simp only; omega, by simp only; rw [hnx]; exact hb2⟩ (by simp only; omega) ⟨rfl, rfl, rfl, rfl, rfl, trivial⟩ (by simp only; rw [hnx]; first | done | exact List.Perm.refl _)
      · have hsy : symBits n41 = highBits (400 + n41 - 144) 9 := by unfold symBits litCode litLen; rw [if_neg (by omega), if_pos (by omega), if_neg (by omega), if_pos (by omega), show 400 + (n41 - 144) = 400 + n41 - 144 by omega]
        have hnx : ([1, 1, 0] ++ textBits (bs.take (i + 1))) = ([1, 1, 0] ++ textBits (bs.take i)) ++ highBits (400 + n41 - 144) 9 := by rw [take_at1 bs i hlt, textBits_snoc, ← e41, hsy]; first | done | rw [List.append_assoc]
        refine SC.plain ?_
        refine St.move rfl rfl ?_
        refine St.move rfl rfl ?_
        first | refine St.addUx un32 (a := 400) rfl rfl rfl (by omega) ?_ | refine St.addU un32 (a := 400) rfl rfl rfl ?_
        first | refine St.subUx un32 (b := 144) rfl rfl rfl (by omega) (by omega) ?_ | refine St.subU un32 (b := 144) rfl rfl rfl (by omega) ?_
        refine St.call [_, _, _] rfl (by kernel_rfl) rfl (wcode_spec w0 L p vi ([1, 1, 0] ++ textBits (bs.take i)) Ei hbi hwb (400 + n41 - 144) 9 (by omega) (by omega) (by omega)) (fun _ _ _ _ h => h.nil) ?_
        rintro r2 L2 ⟨v2, E2, hb2, rfl⟩
        refine St.done ?_
        refine SX.blk ?_
        refine SX.seq ?_
        refine SC.plain ?_
        refine St.move rfl rfl ?_
        first | refine St.addN (b := 1) rfl rfl rfl (by omega) ?_ | refine St.addI rfl rfl rfl (by omega) ?_
        refine St.assign rfl rfl ?_
        refine St.done ?_
        exact SX.again (i + 1, v2, E2) ⟨by simp only; omega, by simp only; rw [hnx]; exact hb2⟩ (by simp only; omega) ⟨rfl, rfl, rfl, rfl, rfl, trivial⟩ (by simp only; rw [hnx]; first | done | exact List.Perm.refl _)
    · obtain rfl : i = bs.length := by omega
      rw [List.take_length] at hbi ⊢
      have htl := textBits_len bs
      have hwl : ([1, 1, 0] ++ textBits bs).length ≤ 10000 := by rw [List.length_append]; show 3 + _ ≤ _; omega
      have hwb : Bits ([1, 1, 0] ++ textBits bs) := bits_app (by intro w h; simp at h; omega) (textBits_bits _)
      refine SC.exit ?_
      refine SX.seq_exit ?_
      refine SX.seq_exit ?_
      refine SX.hit ?_
      refine SX.seq ?_
      refine SC.seq ?_
      refine SC.plain ?_
      refine St.move rfl rfl ?_
      refine St.move rfl rfl ?_
      first | refine St.subN (b := 2) rfl rfl rfl (by omega) (by omega) ?_ | refine St.subI rfl rfl rfl (by omega) ?_
      refine St.convUx un32 rfl rfl (by kernel_rfl) (by kernel_rfl) (by omega) ?_
      refine St.call [_, _, _] rfl (by kernel_rfl) rfl (wcode_spec w0 L p vi ([1, 1, 0] ++ textBits bs) Ei hbi hwb (k + 3 - 2) 7 (by omega) (by omega) (by omega)) (fun _ _ _ _ h => h.nil) ?_
      rintro r3 L3 ⟨v3, E3, hb3, rfl⟩
      have hwl3 : (([1, 1, 0] ++ textBits bs) ++ highBits (k + 3 - 2) 7).length ≤ 10007 := by rw [List.length_append, highBits_len]; omega
      refine St.done ?_
      refine SX.seq ?_
      refine SC.seq ?_
      refine SC.plain ?_
      refine St.move rfl rfl ?_
      refine St.move rfl rfl ?_
      first | refine St.subN (b := 1) rfl rfl rfl (by omega) (by omega) ?_ | refine St.subI rfl rfl rfl (by omega) ?_
      refine St.convUx un32 rfl rfl (by kernel_rfl) (by kernel_rfl) (by omega) ?_
      refine St.call [_, _, _] rfl (by kernel_rfl) rfl (wcode_spec w0 L p v3 (([1, 1, 0] ++ textBits bs) ++ highBits (k + 3 - 2) 7) E3 hb3 (bits_app hwb (highBits_bits _ _)) (d + 1 - 1) 5 (by omega) (by omega) (by omega)) (fun _ _ _ _ h => h.nil) ?_
      rintro r4 L4 ⟨v4, E4, hb4, rfl⟩
      have hwl4 : ((([1, 1, 0] ++ textBits bs) ++ highBits (k + 3 - 2) 7) ++ highBits (d + 1 - 1) 5).length ≤ 10012 := by rw [List.length_append, highBits_len]; omega
      refine St.done ?_
      refine SX.seq ?_
      refine SC.seq ?_
      refine SC.plain ?_
      refine St.move rfl rfl ?_
      refine St.call [_, _, _] rfl (by kernel_rfl) rfl (wcode_spec w0 L p v4 ((([1, 1, 0] ++ textBits bs) ++ highBits (k + 3 - 2) 7) ++ highBits (d + 1 - 1) 5) E4 hb4 (bits_app (bits_app hwb (highBits_bits _ _)) (highBits_bits _ _)) 0 7 (by omega) (by omega) (by omega)) (fun _ _ _ _ h => h.nil) ?_
      rintro r5 L5 ⟨v5, E5, hb5, rfl⟩
      have hsym : symBits (254 + (k + 3)) = highBits (k + 3 - 2) 7 := by unfold symBits litCode litLen; rw [if_neg (by omega), if_neg (by omega), if_neg (by omega), if_neg (by omega), show 254 + (k + 3) - 256 = k + 3 - 2 by omega]
      have hend : ((([1, 1, 0] ++ textBits bs) ++ highBits (k + 3 - 2) 7) ++ highBits (d + 1 - 1) 5) ++ highBits 0 7 = (matchBits bs (k + 3) (d + 1)) := by unfold matchBits; rw [hsym]; simp only [List.append_assoc]; rfl
      have hle : (matchBits bs (k + 3) (d + 1)).length ≤ 10019 := by rw [← hend, List.length_append, highBits_len]; omega
      rw [hend] at hb5 ⊢
      have hpe := pack_len (matchBits bs (k + 3) (d + 1))
      obtain ⟨b5, o5, A5, c5, rfl, _, _⟩ := hb5.read
      unfold WrL
      refine St.done ?_
      refine SX.seq ?_
      refine SC.seq ?_
      refine SC.plain ?_
      refine St.buildSl0 (e := 5) (sz := 1) rfl (by kernel_rfl) (fun _ _ h => h.nil) (fun b8 => ?_)
      refine St.move rfl rfl ?_
      refine St.append (e := 5) (sz := 1) (bytes := 1) (xs := []) (n := 0) (news := bytes bs) (m := bs.length) rfl rfl rfl (by kernel_rfl) (Buf.whole rfl) (Rd.mono hv0 (fun w hw => by first | exact hw | exact hw.drop | exact hw.drop.drop | exact hw.drop.drop.drop | exact hw.drop.drop.drop.drop | exact hw.drop.drop.drop.drop.drop | exact hw.drop.drop.drop.drop.drop.drop | exact hw.drop.drop.drop.drop.drop.drop.drop | exact hw.drop.drop.drop.drop.drop.drop.drop.drop | exact hw.drop.drop.drop.drop.drop.drop.drop.drop.drop | exact hw.drop.drop.drop.drop.drop.drop.drop.drop.drop.drop | exact hw.drop.drop.drop.drop.drop.drop.drop.drop.drop.drop.drop | exact hw.drop.drop.drop.drop.drop.drop.drop.drop.drop.drop.drop.drop | exact hw.drop.drop.drop.drop.drop.drop.drop.drop.drop.drop.drop.drop.drop)) (bytes_one _) (by omega) (by omega) (fun _ _ h => h.nil) (fun v7 E7 hb7 _ => ?_)
      rw [List.nil_append, Nat.zero_add] at hb7
      refine St.assign rfl rfl ?_
      refine St.done ?_
      refine SX.seq ?_
      refine SC.join (α := Nat × Value × Chunk) (fun s_ => Buf 5 1 s_.2.1 (bytes (wantTo (d + 1) bs s_.1)) (wantTo (d + 1) bs s_.1).length s_.2.2 ∧ (d + 1 ≤ bs.length → s_.1 = k + 3)) (fun s_ => [(0, .slice A0 bs.length c0), (1, .int .i64 ((k + 3 : Nat) : Int)), (2, .int .i64 ((d + 1 : Nat) : Int)), (7, .pointer (some ⟨p, 0, none⟩)), (10, s_.2.1)]) (fun s_ => s_.2.2 :: [⟨p, [.slice A5 (pack (matchBits bs (k + 3) (d + 1))).length c5, .int .i64 (((matchBits bs (k + 3) (d + 1)).length : Nat) : Int)], 146⟩] :: E5 :: L) ?_ ?_
      · rintro ⟨j, vw, Ew⟩ ⟨hbw, hjk⟩
        simp only at hbw hjk
        show SC _ _ _ [(0, .slice A0 bs.length c0), (1, .int .i64 ((k + 3 : Nat) : Int)), (2, .int .i64 ((d + 1 : Nat) : Int)), (7, .pointer (some ⟨p, 0, none⟩)), (10, vw)] (Ew :: [⟨p, [.slice A5 (pack (matchBits bs (k + 3) (d + 1))).length c5, .int .i64 (((matchBits bs (k + 3) (d + 1)).length : Nat) : Int)], 146⟩] :: E5 :: L)
        refine SC.seq ?_
        refine SC.plain ?_
        refine St.move rfl rfl ?_
        refine St.nilCheck rfl rfl ?_
        refine St.fieldAddr (off := 0) rfl rfl (by kernel_rfl) ?_
        refine St.load rfl rfl (by kernel_rfl) (by first | exact Holds.row mem0 rfl | exact Holds.row mem1 rfl | exact Holds.row mem2 rfl | exact Holds.row mem3 rfl | exact Holds.row mem4 rfl | exact Holds.row mem5 rfl | exact Holds.row mem6 rfl | exact Holds.row mem7 rfl | exact Holds.row mem8 rfl) ?_
        refine St.call [_, _] rfl (by kernel_rfl) rfl (iraw_spec w0 _ _ (pack (matchBits bs (k + 3) (d + 1))) (hb5.rd (by simp)) (by omega) (pack_lt (matchBits_bits _ _ _)) 1000 (by omega) 200000 (by omega)) (fun _ _ _ _ h => h.nil) ?_
        rintro r6 L6 ⟨⟨v6, E6, rfl, hb6, rfl⟩, -⟩
        have hml := match_law 200000 199999 bs hb (by omega) (k + 3) (d + 1) 1000 (by omega) (by omega) (by omega) (by omega) (by omega)
        rw [show (1000 : Int).toNat = 1000 from rfl] at hb6 ⊢
        rcases Nat.lt_or_ge bs.length (d + 1) with hcs | hcs
        · rw [if_pos hcs] at hml
          rw [hml] at hb6 ⊢
          simp only [rawRes] at hb6 ⊢
          obtain ⟨b6, o6, A6, c6, rfl, _, _⟩ := hb6.read
          simp only [List.length_nil] at *
          refine St.move rfl rfl ?_
          refine St.extract rfl rfl rfl ?_
          refine St.extract rfl rfl rfl ?_
          refine St.extract rfl rfl rfl ?_
          refine St.assign rfl rfl ?_
          refine St.assign rfl rfl ?_
          refine St.assign rfl rfl ?_
          refine St.done ?_
          refine SX.seq ?_
          refine SC.seq ?_
          refine SC.seq ?_
          refine SC.plain ?_
          refine St.move rfl rfl ?_
          refine St.move rfl rfl ?_
          refine St.lenSl rfl rfl (by kernel_rfl) ?_
          refine St.gtr rfl rfl rfl ?_
          refine St.done ?_
          refine SX.seq ?_
          refine SC.condp rfl (fun c102 => ?_) (fun c102 => ?_)
          · refine SC.seq ?_
            refine SC.plain ?_
            refine St.move rfl rfl ?_
            refine St.eql rfl rfl rfl ?_
            refine St.move rfl rfl ?_
            refine St.split 105 rfl (fun g105 => ?_) (fun g105 => ?_)
            · refine St.guard_yes rfl rfl ?_
              refine St.move rfl rfl ?_
              refine St.guard_yes rfl rfl ?_
              refine St.lenSl rfl rfl (by kernel_rfl) ?_
              refine St.guard_yes rfl rfl ?_
              refine St.eql rfl rfl rfl ?_
              refine St.pick_true rfl rfl rfl ?_
              refine St.move rfl rfl ?_
              refine St.split 110 rfl (fun g110 => ?_) (fun g110 => ?_)
              · refine St.guard_yes rfl rfl ?_
                refine St.call [] rfl (by kernel_rfl) rfl (awake6_spec w0 _) (fun _ _ _ _ h => h.nil) ?_
                rintro ra La rfl
                refine St.pick_true rfl rfl rfl ?_
                refine St.assign rfl rfl ?_
                refine St.done ?_
                refine SX.seq ?_
                refine SC.ret ?_
                refine SX.seq_ret ?_
                exact SX.ret1 rfl rfl rfl
              · exact absurd rfl g110
            · exact absurd rfl g105
          · exfalso; omega
        · rw [if_neg (by omega)] at hml
          rw [hml] at hb6 ⊢
          simp only [rawRes] at hb6 ⊢
          obtain ⟨b6, o6, A6, c6, rfl, _, _⟩ := hb6.read
          obtain rfl := hjk hcs
          have hwn := want_len (d + 1) bs (k + 3)
          refine St.move rfl rfl ?_
          refine St.extract rfl rfl rfl ?_
          refine St.extract rfl rfl rfl ?_
          refine St.extract rfl rfl rfl ?_
          refine St.assign rfl rfl ?_
          refine St.assign rfl rfl ?_
          refine St.assign rfl rfl ?_
          refine St.done ?_
          refine SX.seq ?_
          refine SC.seq ?_
          refine SC.seq ?_
          refine SC.plain ?_
          refine St.move rfl rfl ?_
          refine St.move rfl rfl ?_
          refine St.lenSl rfl rfl (by kernel_rfl) ?_
          refine St.gtr rfl rfl rfl ?_
          refine St.done ?_
          refine SX.seq ?_
          refine SC.condp rfl (fun c102 => ?_) (fun c102 => ?_)
          · exfalso; omega
          · refine SC.skip ?_
            refine SX.seq ?_
            refine SC.seq ?_
            refine SC.plain ?_
            refine St.move rfl rfl ?_
            refine St.nilCheck rfl rfl ?_
            refine St.fieldAddr (off := 0) rfl rfl (by kernel_rfl) ?_
            refine St.load rfl rfl (by kernel_rfl) (by first | exact Holds.row mem0 rfl | exact Holds.row mem1 rfl | exact Holds.row mem2 rfl | exact Holds.row mem3 rfl | exact Holds.row mem4 rfl | exact Holds.row mem5 rfl | exact Holds.row mem6 rfl | exact Holds.row mem7 rfl | exact Holds.row mem8 rfl) ?_
            refine St.move rfl rfl ?_
            refine St.lenSl rfl rfl (by kernel_rfl) ?_
            refine St.move rfl rfl ?_
            first | refine St.addN rfl rfl rfl (by omega) ?_ | refine St.addI rfl rfl rfl (by omega) ?_
            first | refine St.subN (b := 1) rfl rfl rfl (by omega) (by omega) ?_ | refine St.subI rfl rfl rfl (by omega) ?_
            refine St.call [_, _] rfl (by kernel_rfl) rfl (iraw_spec w0 _ _ (pack (matchBits bs (k + 3) (d + 1))) (hb5.rd (by simp)) (by omega) (pack_lt (matchBits_bits _ _ _)) ((bs.length + (k + 3) - 1 : Nat) : Int) (by omega) 200000 (by omega)) (fun _ _ _ _ h => h.nil) ?_
            rintro r7 L7 ⟨⟨v7, E7, rfl, hb7, rfl⟩, -⟩
            rw [Int.toNat_natCast, (good_raw 200000 200000).less (bs.length + (k + 3) - 1) hml (Nat.zero_le _) (Nat.zero_le _) (by omega)] at hb7 ⊢
            simp only [rawRes] at hb7 ⊢
            refine St.move rfl rfl ?_
            refine St.extract rfl rfl rfl ?_
            refine St.extract rfl rfl rfl ?_
            refine St.extract rfl rfl rfl ?_
            refine St.assign rfl rfl ?_
            refine St.assign rfl rfl ?_
            refine St.assign rfl rfl ?_
            refine St.done ?_
            refine SX.seq ?_
            refine SC.seq ?_
            refine SC.plain ?_
            refine St.move rfl rfl ?_
            refine St.eql rfl rfl rfl ?_
            refine St.move rfl rfl ?_
            refine St.split 129 rfl (fun g129 => ?_) (fun g129 => ?_)
            · refine St.guard_yes rfl rfl ?_
              refine St.move rfl rfl ?_
              refine St.guard_yes rfl rfl ?_
              refine St.toStr (e := 5) (bs := wantTo (d + 1) bs (k + 3)) (n := (wantTo (d + 1) bs (k + 3)).length) rfl rfl (hb6.rd (by simp [Lq])) (by kernel_rfl) (by kernel_rfl) (by kernel_rfl) ?_
              refine St.guard_yes rfl rfl ?_
              refine St.move rfl rfl ?_
              refine St.guard_yes rfl rfl ?_
              refine St.toStr (e := 5) (bs := wantTo (d + 1) bs (k + 3)) (n := (wantTo (d + 1) bs (k + 3)).length) rfl rfl (hbw.rd (by simp [Lq])) (by kernel_rfl) (by kernel_rfl) (by kernel_rfl) ?_
              refine St.guard_yes rfl rfl ?_
              refine St.strEql rfl rfl rfl ?_
              refine St.pick_true rfl rfl rfl ?_
              refine St.move rfl rfl ?_
              refine St.split 136 rfl (fun g136 => ?_) (fun g136 => ?_)
              · refine St.guard_yes rfl rfl ?_
                refine St.move rfl rfl ?_
                refine St.guard_yes rfl rfl ?_
                refine St.eql rfl rfl rfl ?_
                refine St.pick_true rfl rfl rfl ?_
                refine St.move rfl rfl ?_
                refine St.split 140 rfl (fun g140 => ?_) (fun g140 => ?_)
                · refine St.guard_yes rfl rfl ?_
                  refine St.call [] rfl (by kernel_rfl) rfl (awake6_spec w0 _) (fun _ _ _ _ h => h.nil) ?_
                  rintro ra La rfl
                  refine St.pick_true rfl rfl rfl ?_
                  refine St.assign rfl rfl ?_
                  refine St.done ?_
                  refine SX.seq ?_
                  refine SC.ret ?_
                  exact SX.ret1 rfl rfl rfl
                · exact absurd rfl g140
              · exact absurd rfl g136
            · exact absurd rfl g129
      · refine SC.seq ?_
        refine SC.plain ?_
        refine St.assign rfl rfl ?_
        refine St.done ?_
        refine SX.seq ?_
        refine SC.block ?_
        refine SC.loop (α := Nat × Value × Chunk) (fun s_ => s_.1 ≤ k + 3 ∧ Buf 5 1 s_.2.1 (bytes (wantTo (d + 1) bs s_.1)) (wantTo (d + 1) bs s_.1).length s_.2.2) (fun s_ => [(0, .slice A0 bs.length c0), (1, .int .i64 ((k + 3 : Nat) : Int)), (2, .int .i64 ((d + 1 : Nat) : Int)), (7, .pointer (some ⟨p, 0, none⟩)), (10, s_.2.1), (11, .int .i64 ((s_.1 : Nat) : Int))]) (fun s_ => s_.2.2 :: [⟨p, [.slice A5 (pack (matchBits bs (k + 3) (d + 1))).length c5, .int .i64 (((matchBits bs (k + 3) (d + 1)).length : Nat) : Int)], 146⟩] :: E5 :: L) (fun s_ => k + 3 - s_.1) (0, v7, E7) ⟨Nat.zero_le _, hb7⟩ ⟨rfl, rfl, rfl, rfl, rfl, rfl, trivial⟩ (List.Perm.refl _) ?_
        rintro ⟨j, vw, Ew⟩ ⟨hj, hbw⟩
        simp only at hj hbw
        have hwlen := want_len (d + 1) bs j
        have hwl3 := want_lt (d := d + 1) hb j
        obtain ⟨bw, ow, Aw, cw, rfl, hAw, hwr0⟩ := hbw.read
        show SC _ _ _ [(0, .slice A0 bs.length c0), (1, .int .i64 ((k + 3 : Nat) : Int)), (2, .int .i64 ((d + 1 : Nat) : Int)), (7, .pointer (some ⟨p, 0, none⟩)), (10, .slice Aw (wantTo (d + 1) bs j).length cw), (11, .int .i64 ((j : Nat) : Int))] (Ew :: [⟨p, [.slice A5 (pack (matchBits bs (k + 3) (d + 1))).length c5, .int .i64 (((matchBits bs (k + 3) (d + 1)).length : Nat) : Int)], 146⟩] :: E5 :: L)
        refine SC.seq ?_
        refine SC.seq ?_
        refine SC.plain ?_
        refine St.move rfl rfl ?_
        refine St.move rfl rfl ?_
        refine St.lss rfl rfl rfl ?_
        refine St.move rfl rfl ?_
        refine St.split 72 rfl (fun g72 => ?_) (fun g72 => ?_)
        · refine St.guard_yes rfl rfl ?_
          refine St.move rfl rfl ?_
          refine St.guard_yes rfl rfl ?_
          refine St.move rfl rfl ?_
          refine St.guard_yes rfl rfl ?_
          refine St.lenSl rfl rfl (by kernel_rfl) ?_
          refine St.guard_yes rfl rfl ?_
          refine St.leq rfl rfl rfl ?_
          refine St.pick_true rfl rfl rfl ?_
          refine St.done ?_
          refine SX.seq ?_
          refine SC.condp rfl (fun c77 => ?_) (fun c77 => ?_)
          · obtain rfl := hAw (by omega)
            have hwr := hwr0 w0 (Ew :: [⟨p, [.slice A5 (pack (matchBits bs (k + 3) (d + 1))).length c5, .int .i64 (((matchBits bs (k + 3) (d + 1)).length : Nat) : Int)], 146⟩] :: E5 :: L) (by simp)
            refine SC.skip ?_
            refine SX.seq ?_
            refine SC.seq ?_
            refine SC.block ?_
            refine SC.plain ?_
            refine St.move rfl rfl ?_
            refine St.move rfl rfl ?_
            refine St.move rfl rfl ?_
            refine St.lenSl rfl rfl (by kernel_rfl) ?_
            refine St.move rfl rfl ?_
            first | refine St.subN rfl rfl rfl (by omega) (by omega) ?_ | refine St.subI rfl rfl rfl (by omega) ?_
            refine St.indexSl (e := 5) (sz := 1) rfl rfl rfl (by kernel_rfl) (by omega) ?_
            first | (refine St.loadB rfl rfl (by kernel_rfl) (HoldsN.mono hwr (fun w hw => by first | exact hw | exact hw.drop | exact hw.drop.drop | exact hw.drop.drop.drop | exact hw.drop.drop.drop.drop | exact hw.drop.drop.drop.drop.drop | exact hw.drop.drop.drop.drop.drop.drop | exact hw.drop.drop.drop.drop.drop.drop.drop | exact hw.drop.drop.drop.drop.drop.drop.drop.drop | exact hw.drop.drop.drop.drop.drop.drop.drop.drop.drop | exact hw.drop.drop.drop.drop.drop.drop.drop.drop.drop.drop | exact hw.drop.drop.drop.drop.drop.drop.drop.drop.drop.drop.drop | exact hw.drop.drop.drop.drop.drop.drop.drop.drop.drop.drop.drop.drop | exact hw.drop.drop.drop.drop.drop.drop.drop.drop.drop.drop.drop.drop.drop)) rfl (by omega) hwl3 ?_; intro n87 e87 l87) | (refine St.loadB rfl rfl (by kernel_rfl) (HoldsN.mono hr (fun w hw => by first | exact hw | exact hw.drop | exact hw.drop.drop | exact hw.drop.drop.drop | exact hw.drop.drop.drop.drop | exact hw.drop.drop.drop.drop.drop | exact hw.drop.drop.drop.drop.drop.drop | exact hw.drop.drop.drop.drop.drop.drop.drop | exact hw.drop.drop.drop.drop.drop.drop.drop.drop | exact hw.drop.drop.drop.drop.drop.drop.drop.drop.drop | exact hw.drop.drop.drop.drop.drop.drop.drop.drop.drop.drop | exact hw.drop.drop.drop.drop.drop.drop.drop.drop.drop.drop.drop | exact hw.drop.drop.drop.drop.drop.drop.drop.drop.drop.drop.drop.drop | exact hw.drop.drop.drop.drop.drop.drop.drop.drop.drop.drop.drop.drop.drop)) rfl (by omega) hb ?_; intro n87 e87 l87) | refine St.load rfl rfl (by kernel_rfl) (by first | exact Holds.row mem0 rfl | exact Holds.row mem1 rfl | exact Holds.row mem2 rfl | exact Holds.row mem3 rfl | exact Holds.row mem4 rfl | exact Holds.row mem5 rfl | exact Holds.row mem6 rfl | exact Holds.row mem7 rfl | exact Holds.row mem8 rfl) ?_
            refine St.buildSl (n := 1) (e := 5) [(0, .int .u8 ((n87 : Nat) : Int))] (bytes [n87]) rfl rfl (by kernel_rfl) (fun _ _ h => h.nil) (fun b9 => ?_)
            refine St.append1 (e := 5) (sz := 1) (bytes := 1) (xs := bytes (wantTo (d + 1) bs j)) (n := (wantTo (d + 1) bs j).length) (news := bytes [n87]) (m := 1) rfl rfl rfl (by kernel_rfl) hbw (Rd.row rfl mem0) (bytes_one _) (by omega) (by omega) (fun _ _ h => h.nil) (fun v2 E2 hb2 _ => ?_)
            rw [← bytes_app] at hb2
            refine St.drop ?_
            refine St.assign rfl rfl ?_
            refine St.done ?_
            refine SX.blk ?_
            refine SX.seq ?_
            refine SC.plain ?_
            refine St.move rfl rfl ?_
            first | refine St.addN (b := 1) rfl rfl rfl (by omega) ?_ | refine St.addI rfl rfl rfl (by omega) ?_
            refine St.assign rfl rfl ?_
            refine St.done ?_
            exact SX.again (j + 1, v2, E2) ⟨by simp only; omega, by simp only [wantTo, stepC, List.length_append]; rw [← e87]; exact hb2⟩ (by simp only; omega) ⟨rfl, rfl, rfl, rfl, rfl, rfl, trivial⟩ (List.Perm.refl _)
          · refine SC.exit ?_
            refine SX.seq_exit ?_
            refine SX.seq_exit ?_
            refine SX.hit ?_
            exact SX.some (j, _, Ew) ⟨hbw, fun h => absurd h (by omega)⟩ ⟨rfl, rfl, rfl, rfl, rfl, trivial⟩ (List.Perm.refl _)
        · refine St.guard_no rfl rfl rfl ?_
          refine St.guard_no rfl rfl rfl ?_
          refine St.guard_no rfl rfl rfl ?_
          refine St.guard_no rfl rfl rfl ?_
          refine St.pick_false rfl rfl rfl ?_
          refine St.done ?_
          refine SX.seq ?_
          refine SC.cond_false rfl ?_
          refine SC.exit ?_
          refine SX.seq_exit ?_
          refine SX.seq_exit ?_
          refine SX.hit ?_
          exact SX.some (j, _, Ew) ⟨hbw, fun _ => by simp only; omega⟩ ⟨rfl, rfl, rfl, rfl, rfl, trivial⟩ (List.Perm.refl _)
end Go.Proofs.Ytahafepgmkiabaa
