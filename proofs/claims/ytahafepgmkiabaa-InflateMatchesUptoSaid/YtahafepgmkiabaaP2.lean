/- The walk of the law InflateFixed. -/
import Derived.Test.YtahafepgmkiabaaP0
import Derived.Test.YtahafepgmkiabaaP1
import Derived.Test.YtahafepgmkiabaaJ6
set_option linter.unusedVariables false
set_option linter.unusedSimpArgs false
set_option linter.ambiguousOpen false
namespace Go.Proofs.Ytahafepgmkiabaa
open Go Go.Proofs.Ytahafepgmkiabaa.Sep Go.Proofs.Ytahafepgmkiabaa.Inf

theorem take_bits {ws : List Nat} (h : Bits ws) (p : Nat) : ∀ n, p + n ≤ ws.length → takeN (pack ws) p n = (match n with | 0 => 0 | k + 1 => takeN (pack ws) p k + ws.getD (p + k) 0 * 2 ^ k)
  | 0, _ => rfl
  | k + 1, hl => by show takeN (pack ws) p k + bitAt (pack ws) (p + k) * 2 ^ k = _; rw [bitAt_pack h _ (by omega)]
/-- A block of the fixed codes: what a reader of blocks makes of it. -/
theorem fixed_head (F g : Nat) (rest : List Nat) (hr : Bits rest) (most : Nat) : rawR F (g + 1) (pack ([1, 1, 0] ++ rest)) most 0 [] = bindR (codedR fixedLit fixedDist F) (fun _ => pureR ()) (pack ([1, 1, 0] ++ rest)) most 3 [] := by
  have hb : Bits ([1, 1, 0] ++ rest) := bits_app (by intro w h; simp at h; omega) hr
  have hl : ([1, 1, 0] ++ rest).length = 3 + rest.length := by simp; omega
  have hpl := pack_len ([1, 1, 0] ++ rest)
  have t1 : takeN (pack ([1, 1, 0] ++ rest)) 0 1 = 1 := by rw [take_bits hb 0 1 (by omega)]; rfl
  have t2 : takeN (pack ([1, 1, 0] ++ rest)) (0 + 1) 2 = 1 := by
    rw [take_bits hb (0 + 1) 2 (by omega)]
    show takeN _ (0 + 1) 1 + _ = 1
    rw [take_bits hb (0 + 1) 1 (by omega)]; rfl
  rw [raw_succ, bind_of (takeR_ok (by omega)), t1, bind_of (takeR_ok (by omega)), t2]
  simp only [bindR]
  rw [show blockR F 1 (pack ([1, 1, 0] ++ rest)) most (0 + 1 + 2) [] = codedR fixedLit fixedDist F (pack ([1, 1, 0] ++ rest)) most 3 [] from rfl]
  rfl
theorem fixed_law (F g : Nat) (cs : List Nat) (hc : ∀ c ∈ cs, c < 256) (hF : cs.length < F) : rawR F (g + 1) (pack ([1, 1, 0] ++ (textBits cs ++ symBits 256))) cs.length 0 [] = .ok () ([1, 1, 0] ++ (textBits cs ++ symBits 256)).length cs := by
  have hb : Bits ([1, 1, 0] ++ (textBits cs ++ symBits 256)) := bits_app (by intro w h; simp at h; omega) (bits_app (textBits_bits cs) (symBits_bits 256))
  rw [fixed_head F g _ (bits_app (textBits_bits cs) (symBits_bits 256))]
  obtain ⟨f, rfl⟩ : ∃ f, F = (f + 1) + cs.length := ⟨F - cs.length - 1, by omega⟩
  have h1 := text_read fixedDist (f + 1) cs.length cs [1, 1, 0] (symBits 256) [] hc hb (by simp)
  have e : [1, 1, 0] ++ (textBits cs ++ symBits 256) = ([1, 1, 0] ++ textBits cs) ++ (symBits 256 ++ []) := by simp only [List.append_assoc, List.append_nil]
  rw [coded_succ] at h1
  have h2 : codedR fixedLit fixedDist (f + 1 + cs.length) (pack ([1, 1, 0] ++ (textBits cs ++ symBits 256))) cs.length 3 [] = .ok () ([1, 1, 0] ++ (textBits cs ++ symBits 256)).length cs := by
    refine h1.trans ?_
    rw [e] at hb ⊢
    rw [bind_of (sym_read ([1, 1, 0] ++ textBits cs) [] 256 (by omega) hb _ _), ifR_neg (by decide), ifR_pos (by decide)]
    simp [pureR]
  rw [bind_of h2]; rfl
theorem take_at1 (bs : List Nat) (i : Nat) (h : i < bs.length) : bs.take (i + 1) = bs.take i ++ [bs.getD i 0] := by
  rw [List.take_add_one, List.getElem?_eq_getElem h, List.getD_eq_getElem?_getD, List.getElem?_eq_getElem h]; rfl

theorem inflateFixed_spec (w0 : World) (L : List Chunk) (v : Value) (bs : List Nat) (hv : Rd w0 L v 1 bs.length (bytes bs)) (hl : bs.length ≤ 140737488351232) (hb : ∀ b ∈ bs, b < 256) :
    Meets Try.prog 26 #[v] w0 L (fun r L' => r = .bool true) := by
  have hv0 := hv
  obtain ⟨_, b0, o0, A0, c0, rfl, hA0, hr⟩ := hv
  refine Meets.of_body [.slice A0 bs.length c0] Try.func26 rfl Try.ntmps26 rfl ?_
  refine SC.seq ?_
  refine SC.plain ?_
  refine St.assign rfl rfl ?_
  refine St.done ?_
  refine SX.seq ?_
  refine SC.seq ?_
  refine SC.seq ?_
  refine SC.plain ?_
  refine St.move rfl rfl ?_
  refine St.lenSl rfl rfl (by kernel_rfl) ?_
  refine St.gtr rfl rfl rfl ?_
  refine St.done ?_
  refine SX.seq ?_
  refine SC.condp rfl (fun c11 => ?_) (fun c11 => ?_)
  · refine SC.seq ?_
    refine SC.plain ?_
    refine St.call [] rfl (by kernel_rfl) rfl (awake6_spec w0 _) (fun _ _ _ _ h => h.nil) ?_
    rintro ra La rfl
    refine St.assign rfl rfl ?_
    refine St.done ?_
    refine SX.seq ?_
    refine SC.ret ?_
    refine SX.seq_ret ?_
    exact SX.ret1 rfl rfl rfl
  · refine SC.skip ?_
    refine SX.seq ?_
    refine SC.seq ?_
    refine SC.plain ?_
    refine St.build [] [.slice none 0 0, .int .i64 0] rfl rfl (by kernel_rfl) ?_
    refine St.box [.slice none 0 0, .int .i64 0] rfl rfl rfl (fun _ _ h => h.nil) (fun p => ?_)
    refine St.perm (WrL p (.slice none 0 0) ([] : List Nat).length [] L) (List.Perm.refl _) ?_
    refine St.assign rfl rfl ?_
    refine St.done ?_
    refine SX.seq ?_
    refine SC.seq ?_
    refine SC.plain ?_
    refine St.move rfl rfl ?_
    refine St.call [_, _, _] rfl (by kernel_rfl) rfl (wputb_spec w0 L p (.slice none 0 0) [] [] (Buf.nil 5 1) (fun _ h => nomatch h) 3 3 (by omega) (by omega) (by simp)) (fun _ _ _ _ h => h.nil) ?_
    rintro r1 L1 ⟨v1, E1, hb1, rfl⟩
    rw [show ([] : List Nat) ++ lowBits 3 3 = ([1, 1, 0] ++ textBits (bs.take 0)) by rw [List.take_zero]; decide] at hb1 ⊢
    refine St.done ?_
    refine SX.seq ?_
    refine SC.seq ?_
    refine SC.seq ?_
    refine SC.plain ?_
    refine St.assign rfl rfl ?_
    refine St.done ?_
    refine SX.seq ?_
    refine SC.block ?_
    refine SC.loop (α := Nat × Value × Chunk) (fun s_ => s_.1 ≤ bs.length ∧ Buf 5 1 s_.2.1 (bytes (pack ([1, 1, 0] ++ textBits (bs.take s_.1)))) (pack ([1, 1, 0] ++ textBits (bs.take s_.1))).length s_.2.2) (fun s_ => [(0, .slice A0 bs.length c0), (3, .pointer (some ⟨p, 0, none⟩)), (4, .int .i64 ((s_.1 : Nat) : Int))]) (fun s_ => WrL p s_.2.1 ([1, 1, 0] ++ textBits (bs.take s_.1)).length s_.2.2 L) (fun s_ => bs.length - s_.1) (0, v1, E1) ⟨Nat.zero_le _, hb1⟩ ⟨rfl, rfl, rfl, trivial⟩ (List.Perm.refl _) ?_
    rintro ⟨i, vi, Ei⟩ ⟨hi, hbi⟩
    simp only at hi hbi
    show SC _ _ _ [(0, .slice A0 bs.length c0), (3, .pointer (some ⟨p, 0, none⟩)), (4, .int .i64 ((i : Nat) : Int))] (WrL p vi ([1, 1, 0] ++ textBits (bs.take i)).length Ei L)
    refine SC.seq ?_
    refine SC.seq ?_
    refine SC.plain ?_
    refine St.move rfl rfl ?_
    refine St.move rfl rfl ?_
    refine St.lenSl rfl rfl (by kernel_rfl) ?_
    refine St.lss rfl rfl rfl ?_
    refine St.done ?_
    refine SX.seq ?_
    refine SC.condp rfl (fun c20 => ?_) (fun c20 => ?_)
    · have hlt : i < bs.length := by omega
      obtain rfl := hA0 (by omega)
      have htl := textBits_len (bs.take i)
      rw [List.length_take] at htl
      have hwl : ([1, 1, 0] ++ textBits (bs.take i)).length ≤ 10000 := by rw [List.length_append]; show 3 + _ ≤ _; omega
      have hwb : Bits ([1, 1, 0] ++ textBits (bs.take i)) := bits_app (by intro w h; simp at h; omega) (textBits_bits _)
      refine SC.skip ?_
      refine SX.seq ?_
      refine SC.seq ?_
      refine SC.block ?_
      refine SC.seq ?_
      refine SC.plain ?_
      refine St.move rfl rfl ?_
      refine St.move rfl rfl ?_
      refine St.indexSl (e := 5) (sz := 1) rfl rfl rfl (by kernel_rfl) (by omega) ?_
      first | (refine St.loadB rfl rfl (by kernel_rfl) (HoldsN.mono hr (fun w hw => by first | exact hw | exact hw.drop | exact hw.drop.drop | exact hw.drop.drop.drop | exact hw.drop.drop.drop.drop | exact hw.drop.drop.drop.drop.drop | exact hw.drop.drop.drop.drop.drop.drop | exact hw.drop.drop.drop.drop.drop.drop.drop | exact hw.drop.drop.drop.drop.drop.drop.drop.drop | exact hw.drop.drop.drop.drop.drop.drop.drop.drop.drop | exact hw.drop.drop.drop.drop.drop.drop.drop.drop.drop.drop | exact hw.drop.drop.drop.drop.drop.drop.drop.drop.drop.drop.drop | exact hw.drop.drop.drop.drop.drop.drop.drop.drop.drop.drop.drop.drop | exact hw.drop.drop.drop.drop.drop.drop.drop.drop.drop.drop.drop.drop.drop)) rfl (by omega) hb ?_; intro n26 e26 l26) | refine St.load rfl rfl (by kernel_rfl) (by first | exact Holds.row mem0 rfl | exact Holds.row mem1 rfl | exact Holds.row mem2 rfl | exact Holds.row mem3 rfl | exact Holds.row mem4 rfl | exact Holds.row mem5 rfl | exact Holds.row mem6 rfl | exact Holds.row mem7 rfl | exact Holds.row mem8 rfl) ?_
      first | refine St.convUx un32 rfl rfl (by kernel_rfl) (by kernel_rfl) (by omega) ?_ | refine St.convU un32 rfl rfl (by kernel_rfl) (by kernel_rfl) ?_ | refine St.convZ un32 rfl rfl (by kernel_rfl) (by kernel_rfl) ?_
      refine St.assign rfl rfl ?_
      refine St.done ?_
      refine SX.seq ?_
      refine SC.seq ?_
      refine SC.plain ?_
      refine St.move rfl rfl ?_
      refine St.lss rfl rfl rfl ?_
      refine St.done ?_
      refine SX.seq ?_
      refine SC.condp rfl (fun c29 => ?_) (fun c29 => ?_)
      · have hsy : symBits n26 = highBits (48 + n26) 8 := by unfold symBits litCode litLen; rw [if_pos (by omega), if_pos (by omega)]
        have hnx : ([1, 1, 0] ++ textBits (bs.take (i + 1))) = ([1, 1, 0] ++ textBits (bs.take i)) ++ highBits (48 + n26) 8 := by rw [take_at1 bs i hlt, textBits_snoc, ← e26, hsy]; first | done | rw [List.append_assoc]
        refine SC.plain ?_
        refine St.move rfl rfl ?_
        refine St.move rfl rfl ?_
        first | refine St.addUx un32 (a := 48) rfl rfl rfl (by omega) ?_ | refine St.addU un32 (a := 48) rfl rfl rfl ?_
        refine St.call [_, _, _] rfl (by kernel_rfl) rfl (wcode_spec w0 L p vi ([1, 1, 0] ++ textBits (bs.take i)) Ei hbi hwb (48 + n26) 8 (by omega) (by omega) (by omega)) (fun _ _ _ _ h => h.nil) ?_
        rintro r2 L2 ⟨v2, E2, hb2, rfl⟩
        refine St.done ?_
        refine SX.blk ?_
        refine SX.seq ?_
        refine SC.plain ?_
        refine St.move rfl rfl ?_
        first | refine St.addN (b := 1) rfl rfl rfl (by omega) ?_ | refine St.addI rfl rfl rfl (by omega) ?_
        refine St.assign rfl rfl ?_
        refine St.done ?_
        exact SX.again (i + 1, v2, E2) ⟨by simp only; omega, by simp only; rw [hnx]; exact hb2⟩ (by simp only; omega) ⟨rfl, rfl, rfl, trivial⟩ (by simp only; rw [hnx]; first | done | exact List.Perm.refl _)
      · have hsy : symBits n26 = highBits (400 + n26 - 144) 9 := by unfold symBits litCode litLen; rw [if_neg (by omega), if_pos (by omega), if_neg (by omega), if_pos (by omega), show 400 + (n26 - 144) = 400 + n26 - 144 by omega]
        have hnx : ([1, 1, 0] ++ textBits (bs.take (i + 1))) = ([1, 1, 0] ++ textBits (bs.take i)) ++ highBits (400 + n26 - 144) 9 := by rw [take_at1 bs i hlt, textBits_snoc, ← e26, hsy]; first | done | rw [List.append_assoc]
        refine SC.plain ?_
        refine St.move rfl rfl ?_
        refine St.move rfl rfl ?_
        first | refine St.addUx un32 (a := 400) rfl rfl rfl (by omega) ?_ | refine St.addU un32 (a := 400) rfl rfl rfl ?_
        first | refine St.subUx un32 (b := 144) rfl rfl rfl (by omega) (by omega) ?_ | refine St.subU un32 (b := 144) rfl rfl rfl (by omega) ?_
        refine St.call [_, _, _] rfl (by kernel_rfl) rfl (wcode_spec w0 L p vi ([1, 1, 0] ++ textBits (bs.take i)) Ei hbi hwb (400 + n26 - 144) 9 (by omega) (by omega) (by omega)) (fun _ _ _ _ h => h.nil) ?_
        rintro r2 L2 ⟨v2, E2, hb2, rfl⟩
        refine St.done ?_
        refine SX.blk ?_
        refine SX.seq ?_
        refine SC.plain ?_
        refine St.move rfl rfl ?_
        first | refine St.addN (b := 1) rfl rfl rfl (by omega) ?_ | refine St.addI rfl rfl rfl (by omega) ?_
        refine St.assign rfl rfl ?_
        refine St.done ?_
        exact SX.again (i + 1, v2, E2) ⟨by simp only; omega, by simp only; rw [hnx]; exact hb2⟩ (by simp only; omega) ⟨rfl, rfl, rfl, trivial⟩ (by simp only; rw [hnx]; first | done | exact List.Perm.refl _)
    · obtain rfl : i = bs.length := by omega
      rw [List.take_length] at hbi ⊢
      have htl := textBits_len bs
      have hwl : ([1, 1, 0] ++ textBits bs).length ≤ 10000 := by rw [List.length_append]; show 3 + _ ≤ _; omega
      have hwb : Bits ([1, 1, 0] ++ textBits bs) := bits_app (by intro w h; simp at h; omega) (textBits_bits _)
      refine SC.exit ?_
      refine SX.seq_exit ?_
      refine SX.seq_exit ?_
      refine SX.hit ?_
      refine SX.seq ?_
      refine SC.seq ?_
      refine SC.plain ?_
      refine St.move rfl rfl ?_
      refine St.call [_, _, _] rfl (by kernel_rfl) rfl (wcode_spec w0 L p vi ([1, 1, 0] ++ textBits bs) Ei hbi hwb 0 7 (by omega) (by omega) (by omega)) (fun _ _ _ _ h => h.nil) ?_
      rintro r3 L3 ⟨v3, E3, hb3, rfl⟩
      rw [show ([1, 1, 0] ++ textBits bs) ++ highBits 0 7 = ([1, 1, 0] ++ (textBits bs ++ symBits 256)) by rw [List.append_assoc]; rfl] at hb3 ⊢
      have hend : ([1, 1, 0] ++ (textBits bs ++ symBits 256)).length ≤ 10100 := by have h7 : (symBits 256).length = 7 := symBits_len 256; have h3 : ([1, 1, 0] : List Nat).length = 3 := rfl; rw [List.length_append] at hwl; rw [List.length_append, List.length_append, h7]; omega
      have hpe := pack_len ([1, 1, 0] ++ (textBits bs ++ symBits 256))
      have hbe : Bits ([1, 1, 0] ++ (textBits bs ++ symBits 256)) := bits_app (by intro w h; simp at h; omega) (bits_app (textBits_bits bs) (symBits_bits 256))
      obtain ⟨b3, o3, A3, c3, rfl, _, _⟩ := hb3.read
      unfold WrL
      refine St.done ?_
      refine SX.seq ?_
      refine SC.seq ?_
      refine SC.plain ?_
      refine St.move rfl rfl ?_
      refine St.nilCheck rfl rfl ?_
      refine St.fieldAddr (off := 0) rfl rfl (by kernel_rfl) ?_
      refine St.load rfl rfl (by kernel_rfl) (by first | exact Holds.row mem0 rfl | exact Holds.row mem1 rfl | exact Holds.row mem2 rfl | exact Holds.row mem3 rfl | exact Holds.row mem4 rfl | exact Holds.row mem5 rfl | exact Holds.row mem6 rfl | exact Holds.row mem7 rfl | exact Holds.row mem8 rfl) ?_
      refine St.move rfl rfl ?_
      refine St.lenSl rfl rfl (by kernel_rfl) ?_
      refine St.call [_, _] rfl (by kernel_rfl) rfl (iraw_spec w0 _ _ (pack ([1, 1, 0] ++ (textBits bs ++ symBits 256))) (hb3.rd (by simp)) (by omega) (pack_lt hbe) ((bs.length : Nat) : Int) (by omega) 50000 (by omega)) (fun _ _ _ _ h => h.nil) ?_
      rintro r4 L4 ⟨⟨v4, E4, rfl, hb4, rfl⟩, -⟩
      rw [Int.toNat_natCast, fixed_law 50000 49999 bs hb (by omega)] at hb4 ⊢
      simp only [rawRes] at hb4 ⊢
      obtain ⟨b4, o4, A4, c4, rfl, _, _⟩ := hb4.read
      refine St.move rfl rfl ?_
      refine St.extract rfl rfl rfl ?_
      refine St.extract rfl rfl rfl ?_
      refine St.extract rfl rfl rfl ?_
      refine St.assign rfl rfl ?_
      refine St.assign rfl rfl ?_
      refine St.assign rfl rfl ?_
      refine St.done ?_
      refine SX.seq ?_
      refine SC.seq ?_
      refine SC.plain ?_
      refine St.move rfl rfl ?_
      refine St.eql rfl rfl rfl ?_
      refine St.move rfl rfl ?_
      refine St.split 54 rfl (fun g54 => ?_) (fun g54 => ?_)
      · refine St.guard_yes rfl rfl ?_
        refine St.move rfl rfl ?_
        refine St.guard_yes rfl rfl ?_
        refine St.move rfl rfl ?_
        refine St.guard_yes rfl rfl ?_
        refine St.nilCheck rfl rfl ?_
        refine St.guard_yes rfl rfl ?_
        refine St.fieldAddr (off := 0) rfl rfl (by kernel_rfl) ?_
        refine St.guard_yes rfl rfl ?_
        refine St.load rfl rfl (by kernel_rfl) (by first | exact Holds.row mem0 rfl | exact Holds.row mem1 rfl | exact Holds.row mem2 rfl | exact Holds.row mem3 rfl | exact Holds.row mem4 rfl | exact Holds.row mem5 rfl | exact Holds.row mem6 rfl | exact Holds.row mem7 rfl | exact Holds.row mem8 rfl) ?_
        refine St.guard_yes rfl rfl ?_
        refine St.lenSl rfl rfl (by kernel_rfl) ?_
        refine St.guard_yes rfl rfl ?_
        refine St.eql rfl rfl rfl ?_
        refine St.pick_true rfl rfl rfl ?_
        refine St.move rfl rfl ?_
        refine St.split 63 rfl (fun g63 => ?_) (fun g63 => ?_)
        · refine St.guard_yes rfl rfl ?_
          refine St.move rfl rfl ?_
          refine St.guard_yes rfl rfl ?_
          refine St.toStr (e := 5) (bs := bs) (n := bs.length) rfl rfl (hb4.rd (by simp [Lq])) (by kernel_rfl) (by kernel_rfl) (by kernel_rfl) ?_
          refine St.guard_yes rfl rfl ?_
          refine St.move rfl rfl ?_
          refine St.guard_yes rfl rfl ?_
          refine St.toStr (e := 5) (bs := bs) (n := bs.length) rfl rfl (Rd.mono hv0 (fun w hw => by first | exact hw | exact hw.drop | exact hw.drop.drop | exact hw.drop.drop.drop | exact hw.drop.drop.drop.drop | exact hw.drop.drop.drop.drop.drop | exact hw.drop.drop.drop.drop.drop.drop | exact hw.drop.drop.drop.drop.drop.drop.drop | exact hw.drop.drop.drop.drop.drop.drop.drop.drop | exact hw.drop.drop.drop.drop.drop.drop.drop.drop.drop | exact hw.drop.drop.drop.drop.drop.drop.drop.drop.drop.drop | exact hw.drop.drop.drop.drop.drop.drop.drop.drop.drop.drop.drop | exact hw.drop.drop.drop.drop.drop.drop.drop.drop.drop.drop.drop.drop | exact hw.drop.drop.drop.drop.drop.drop.drop.drop.drop.drop.drop.drop.drop)) (by kernel_rfl) (by kernel_rfl) (by kernel_rfl) ?_
          refine St.guard_yes rfl rfl ?_
          refine St.strEql rfl rfl rfl ?_
          refine St.pick_true rfl rfl rfl ?_
          refine St.move rfl rfl ?_
          refine St.split 70 rfl (fun g70 => ?_) (fun g70 => ?_)
          · refine St.guard_yes rfl rfl ?_
            refine St.call [] rfl (by kernel_rfl) rfl (awake6_spec w0 _) (fun _ _ _ _ h => h.nil) ?_
            rintro ra La rfl
            refine St.pick_true rfl rfl rfl ?_
            refine St.assign rfl rfl ?_
            refine St.done ?_
            refine SX.seq ?_
            refine SC.ret ?_
            exact SX.ret1 rfl rfl rfl
          · exact absurd rfl g70
        · exact absurd (by rw [hpe]) g63
      · exact absurd rfl g54
end Go.Proofs.Ytahafepgmkiabaa
