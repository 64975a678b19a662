/- Walks: the document's writer of bits. -/
import Derived.Test.YtahafepgmkiabaaW0
import Derived.Test.YtahafepgmkiabaaH9
import Derived.Test.YtahafepgmkiabaaSepM
import Derived.Test.YtahafepgmkiabaaS0
set_option linter.unusedVariables false
set_option linter.unusedSimpArgs false
set_option linter.ambiguousOpen false
namespace Go.Proofs.Ytahafepgmkiabaa
open Go Go.Proofs.Ytahafepgmkiabaa.Sep

/-- A writer of bits: its row, its bytes. -/
def WrL (p : Nat) (v : Value) (n : Nat) (E : Chunk) (L : List Chunk) : List Chunk := [⟨p, [v, .int .i64 ((n : Nat) : Int)], 146⟩] :: E :: L
def WrAt (p : Nat) (ws : List Nat) (L L' : List Chunk) : Prop := ∃ v E, Buf 5 1 v (bytes (pack ws)) (pack ws).length E ∧ WrL p v ws.length E L = L'
theorem set_midW (pre tl : List Value) (bs : List Nat) (j v : Nat) (h : j < bs.length) : (pre ++ (bytes bs ++ tl)).set (pre.length + ((j : Nat) : Int).toNat * 1) (.int .u8 ((v : Nat) : Int)) = pre ++ (bytes (bs.set j v) ++ tl) := by
  rw [Int.toNat_natCast, Nat.mul_one, List.set_append_right _ _ (by omega), show pre.length + j - pre.length = j by omega, List.set_append_left _ _ (by rw [bytes_length]; exact h)]
  unfold bytes
  rw [List.map_set]
/-- The bytes with a bit more, out of those that stand with a byte that is there already. -/
def ready (ws : List Nat) : List Nat := if ws.length % 8 = 0 then pack ws ++ [0] else pack ws
theorem ready_len (ws : List Nat) : (ready ws).length = ws.length / 8 + 1 := by
  unfold ready
  split
  · rw [List.length_append, pack_len]; show _ + 1 = _; omega
  · rw [pack_len]; omega
theorem ready_lt {ws : List Nat} (h : Bits ws) : ∀ b ∈ ready ws, b < 256 := by
  unfold ready
  split
  · intro b hb
    rcases List.mem_append.1 hb with hb | hb
    · exact pack_lt h b hb
    · rw [List.mem_singleton.1 hb]; decide
  · exact pack_lt h
theorem ready_pack {ws : List Nat} (h : Bits ws) (v : Nat) : (ready ws).set (ws.length / 8) ((ready ws).getD (ws.length / 8) 0 ||| v * 2 ^ (ws.length % 8)) = pack (ws ++ [v]) := by
  unfold ready
  split
  · rename_i h0
    have hl : (pack ws).length = ws.length / 8 := by rw [pack_len]; omega
    rw [pack_new ws v h0, h0, ← hl, List.set_append_right _ _ (Nat.le_refl _), Nat.sub_self, List.getD_eq_getElem?_getD, List.getElem?_append_right (Nat.le_refl _), Nat.sub_self]
    simp
  · rename_i h0
    exact (pack_old h v h0).symm
theorem pack_app_len (ws : List Nat) (v : Nat) : (pack (ws ++ [v])).length = ws.length / 8 + 1 := by rw [pack_len, List.length_append]; show (_ + 1 + 7) / 8 = _; omega

theorem wone_spec (w0 : World) (L : List Chunk) (p : Nat) (wv : Value) (ws : List Nat) (E : Chunk) (hb : Buf 5 1 wv (bytes (pack ws)) (pack ws).length E) (hw : Bits ws) (hl : ws.length ≤ 1000000) (v : Nat) (hv : v < 4294967296) :
    Meets Try.prog 161 #[.pointer (some ⟨p, 0, none⟩), .int .u32 ((v : Nat) : Int)] w0 (WrL p wv ws.length E L) (fun r L' => WrAt p (ws ++ [v % 2]) L L') := by
  have hpl := pack_len ws
  obtain ⟨bw, ow, Aw, cw, rfl, hAw, hrw⟩ := hb.read
  unfold WrL
  refine Meets.of_body [.pointer (some ⟨p, 0, none⟩), .int .u32 ((v : Nat) : Int)] Try.func161 rfl Try.ntmps161 rfl ?_
  refine SC.join (α := Value × Chunk) (fun s_ => Buf 5 1 s_.1 (bytes (ready ws)) (ready ws).length s_.2) (fun s_ => [(0, .pointer (some ⟨p, 0, none⟩)), (1, .int .u32 ((v : Nat) : Int))]) (fun s_ => WrL p s_.1 ws.length s_.2 L) ?_ ?_
  · rintro ⟨wv, E2⟩ hb2
    simp only at hb2
    have hrl := ready_len ws
    have hrlt := ready_lt hw
    obtain ⟨hb2l, ⟨hv2, hn2, _⟩ | ⟨b2, pre2, cap2, tl2, rfl, rfl, hcap2, htl2⟩⟩ := hb2
    · omega
    show SC _ _ _ [(0, .pointer (some ⟨p, 0, none⟩)), (1, .int .u32 ((v : Nat) : Int))] ([⟨p, [.slice (some ⟨b2, pre2.length, none⟩) (ready ws).length cap2, .int .i64 ((ws.length : Nat) : Int)], 146⟩] :: [⟨b2, pre2 ++ (bytes (ready ws) ++ tl2), 5⟩] :: L)
    have hrr : HoldsN w0 ([⟨p, [.slice (some ⟨b2, pre2.length, none⟩) (ready ws).length cap2, .int .i64 ((ws.length : Nat) : Int)], 146⟩] :: [⟨b2, pre2 ++ (bytes (ready ws) ++ tl2), 5⟩] :: L) b2 pre2.length (bytes (ready ws)) := by
      have hbf : Buf 5 1 (.slice (some ⟨b2, pre2.length, none⟩) (ready ws).length cap2) (bytes (ready ws)) (ready ws).length [⟨b2, pre2 ++ (bytes (ready ws) ++ tl2), 5⟩] := ⟨hb2l, .inr ⟨b2, pre2, cap2, tl2, rfl, rfl, hcap2, htl2⟩⟩
      obtain ⟨b3, o3, A3, c3, hv3, hA3, hh3⟩ := hbf.read
      injection hv3 with e1 e2 e3
      rw [hA3 (by omega)] at e1
      injection e1 with e1
      injection e1 with e4 e5
      subst e4 e5
      exact hh3 w0 _ (by simp)
    have hp7 : 2 ^ (ws.length % 8) ≤ 2 ^ 7 := Nat.pow_le_pow_right (by decide) (by omega)
    have hvp : v % 2 * 2 ^ (ws.length % 8) ≤ 1 * 2 ^ 7 := Nat.mul_le_mul (by omega) hp7
    refine SC.seq ?_
    refine SC.drawn [(0, true), (1, true), (2, true), (3, true), (4, true), (5, true), (6, true), (7, true), (8, true), (9, true), (10, true), (11, true), (12, true), (13, true), (14, true), (15, true), (16, true), (17, true), (18, true), (19, true), (20, true), (21, true), (22, true), (23, true), (24, true), (25, true), (26, true), (27, true), (28, true), (29, true)] [30, 31] (_) (by kernel_rfl) (by kernel_rfl) (fun _ h => h) ?_
    refine St.move rfl rfl ?_
    refine St.nilCheck rfl rfl ?_
    refine St.fieldAddr (off := 0) rfl rfl (by kernel_rfl) ?_
    refine St.load rfl rfl (by kernel_rfl) (by first | exact Holds.row mem0 rfl | exact Holds.row mem1 rfl | exact Holds.row mem2 rfl | exact Holds.row mem3 rfl | exact Holds.row mem4 rfl | exact Holds.row mem5 rfl | exact Holds.row mem6 rfl | exact Holds.row mem7 rfl | exact Holds.row mem8 rfl) ?_
    refine St.move rfl rfl ?_
    refine St.nilCheck rfl rfl ?_
    refine St.fieldAddr (off := 1) rfl rfl (by kernel_rfl) ?_
    refine St.load rfl rfl (by kernel_rfl) (by first | exact Holds.row mem0 rfl | exact Holds.row mem1 rfl | exact Holds.row mem2 rfl | exact Holds.row mem3 rfl | exact Holds.row mem4 rfl | exact Holds.row mem5 rfl | exact Holds.row mem6 rfl | exact Holds.row mem7 rfl | exact Holds.row mem8 rfl) ?_
    first | refine St.quoN (b := 8) rfl rfl rfl (by omega) (by omega) ?_ | refine St.quo rfl rfl rfl (by omega) ?_
    refine St.move rfl rfl ?_
    refine St.nilCheck rfl rfl ?_
    refine St.fieldAddr (off := 0) rfl rfl (by kernel_rfl) ?_
    refine St.load rfl rfl (by kernel_rfl) (by first | exact Holds.row mem0 rfl | exact Holds.row mem1 rfl | exact Holds.row mem2 rfl | exact Holds.row mem3 rfl | exact Holds.row mem4 rfl | exact Holds.row mem5 rfl | exact Holds.row mem6 rfl | exact Holds.row mem7 rfl | exact Holds.row mem8 rfl) ?_
    refine St.move rfl rfl ?_
    refine St.nilCheck rfl rfl ?_
    refine St.fieldAddr (off := 1) rfl rfl (by kernel_rfl) ?_
    refine St.load rfl rfl (by kernel_rfl) (by first | exact Holds.row mem0 rfl | exact Holds.row mem1 rfl | exact Holds.row mem2 rfl | exact Holds.row mem3 rfl | exact Holds.row mem4 rfl | exact Holds.row mem5 rfl | exact Holds.row mem6 rfl | exact Holds.row mem7 rfl | exact Holds.row mem8 rfl) ?_
    first | refine St.quoN (b := 8) rfl rfl rfl (by omega) (by omega) ?_ | refine St.quo rfl rfl rfl (by omega) ?_
    refine St.indexSl (e := 5) (sz := 1) rfl rfl rfl (by kernel_rfl) (by omega) ?_
    first | (refine St.loadB rfl rfl (by kernel_rfl) (HoldsN.mono hrr (fun w hw => by first | exact hw | exact hw.drop | exact hw.drop.drop | exact hw.drop.drop.drop | exact hw.drop.drop.drop.drop | exact hw.drop.drop.drop.drop.drop | exact hw.drop.drop.drop.drop.drop.drop | exact hw.drop.drop.drop.drop.drop.drop.drop | exact hw.drop.drop.drop.drop.drop.drop.drop.drop | exact hw.drop.drop.drop.drop.drop.drop.drop.drop.drop | exact hw.drop.drop.drop.drop.drop.drop.drop.drop.drop.drop | exact hw.drop.drop.drop.drop.drop.drop.drop.drop.drop.drop.drop | exact hw.drop.drop.drop.drop.drop.drop.drop.drop.drop.drop.drop.drop | exact hw.drop.drop.drop.drop.drop.drop.drop.drop.drop.drop.drop.drop.drop)) rfl (by omega) hrlt ?_; intro n38 e38 l38) | refine St.load rfl rfl (by kernel_rfl) (by first | exact Holds.row mem0 rfl | exact Holds.row mem1 rfl | exact Holds.row mem2 rfl | exact Holds.row mem3 rfl | exact Holds.row mem4 rfl | exact Holds.row mem5 rfl | exact Holds.row mem6 rfl | exact Holds.row mem7 rfl | exact Holds.row mem8 rfl) ?_
    refine St.move rfl rfl ?_
    refine St.andU un32 (b := 1) rfl rfl rfl hv (by decide) ?_
    rw [Nat.and_one_is_mod]
    refine St.convUx un8 rfl rfl (by kernel_rfl) (by kernel_rfl) (by omega) ?_
    refine St.move rfl rfl ?_
    refine St.nilCheck rfl rfl ?_
    refine St.fieldAddr (off := 1) rfl rfl (by kernel_rfl) ?_
    refine St.load rfl rfl (by kernel_rfl) (by first | exact Holds.row mem0 rfl | exact Holds.row mem1 rfl | exact Holds.row mem2 rfl | exact Holds.row mem3 rfl | exact Holds.row mem4 rfl | exact Holds.row mem5 rfl | exact Holds.row mem6 rfl | exact Holds.row mem7 rfl | exact Holds.row mem8 rfl) ?_
    first | refine St.remN (b := 8) rfl rfl rfl (by omega) ?_ | refine St.rem rfl rfl rfl (by omega) ?_
    refine St.shlUx un8 rfl rfl rfl (by show _ ≤ (8 : Nat); omega) (by omega) ?_
    first | refine St.orU un8 rfl rfl rfl (by omega) (by omega) ?_ | refine St.orI rfl rfl rfl ?_
    refine St.done ?_
    refine SX.tail ?_
    refine St.indexSl (e := 5) (sz := 1) rfl rfl rfl (by kernel_rfl) (by omega) ?_
    refine St.store1 rfl rfl rfl rfl (by kernel_rfl) (by simp [bytes_length]; omega) (fun _ h => h.nil) ?_
    rw [set_midW _ _ _ _ _ (by omega), e38, ready_pack hw]
    refine St.done ?_
    refine SX.seq ?_
    refine SC.plain ?_
    refine St.move rfl rfl ?_
    refine St.nilCheck rfl rfl ?_
    refine St.fieldAddr (off := 1) rfl rfl (by kernel_rfl) ?_
    refine St.load rfl rfl (by kernel_rfl) (by first | exact Holds.row mem0 rfl | exact Holds.row mem1 rfl | exact Holds.row mem2 rfl | exact Holds.row mem3 rfl | exact Holds.row mem4 rfl | exact Holds.row mem5 rfl | exact Holds.row mem6 rfl | exact Holds.row mem7 rfl | exact Holds.row mem8 rfl) ?_
    first | refine St.addN (b := 1) rfl rfl rfl (by omega) ?_ | refine St.addI rfl rfl rfl (by omega) ?_
    refine St.nilCheck rfl rfl ?_
    refine St.fieldAddr (off := 1) rfl rfl (by kernel_rfl) ?_
    first | refine St.store rfl rfl rfl rfl (by kernel_rfl) (Nat.le_of_ble_eq_true rfl) (by first | exact fun _ h => h.nil | exact fun _ h => h | exact fun _ h => h.drop | exact fun _ h => h.drop.drop | exact fun _ h => h.drop.drop.drop) ?_ | refine St.store1 rfl rfl rfl rfl (by kernel_rfl) (Nat.le_of_ble_eq_true rfl) (by first | exact fun _ h => h.nil | exact fun _ h => h | exact fun _ h => h.drop | exact fun _ h => h.drop.drop | exact fun _ h => h.drop.drop.drop) ?_ | refine St.store2 rfl rfl rfl rfl (by kernel_rfl) (Nat.le_of_ble_eq_true rfl) (by first | exact fun _ h => h.nil | exact fun _ h => h | exact fun _ h => h.drop | exact fun _ h => h.drop.drop | exact fun _ h => h.drop.drop.drop) ?_ | refine St.store3 rfl rfl rfl rfl (by kernel_rfl) (Nat.le_of_ble_eq_true rfl) (by first | exact fun _ h => h.nil | exact fun _ h => h | exact fun _ h => h.drop | exact fun _ h => h.drop.drop | exact fun _ h => h.drop.drop.drop) ?_ | refine St.store4 rfl rfl rfl rfl (by kernel_rfl) (Nat.le_of_ble_eq_true rfl) (by first | exact fun _ h => h.nil | exact fun _ h => h | exact fun _ h => h.drop | exact fun _ h => h.drop.drop | exact fun _ h => h.drop.drop.drop) ?_ | refine St.store5 rfl rfl rfl rfl (by kernel_rfl) (Nat.le_of_ble_eq_true rfl) (by first | exact fun _ h => h.nil | exact fun _ h => h | exact fun _ h => h.drop | exact fun _ h => h.drop.drop | exact fun _ h => h.drop.drop.drop) ?_
    refine St.done ?_
    refine SX.ret0 (.inr rfl) rfl ⟨_, _, ⟨by rw [bytes_length, Nat.mul_one], .inr ⟨b2, pre2, cap2, tl2, rfl, rfl, ?_, ?_⟩⟩, ?_⟩
    · rw [pack_app_len]; omega
    · rw [pack_app_len]; rw [hrl] at htl2; exact htl2
    · rw [pack_app_len, ← hrl, List.length_append]; rfl
  · refine SC.seq ?_
    refine SC.plain ?_
    refine St.move rfl rfl ?_
    refine St.nilCheck rfl rfl ?_
    refine St.fieldAddr (off := 1) rfl rfl (by kernel_rfl) ?_
    refine St.load rfl rfl (by kernel_rfl) (by first | exact Holds.row mem0 rfl | exact Holds.row mem1 rfl | exact Holds.row mem2 rfl | exact Holds.row mem3 rfl | exact Holds.row mem4 rfl | exact Holds.row mem5 rfl | exact Holds.row mem6 rfl | exact Holds.row mem7 rfl | exact Holds.row mem8 rfl) ?_
    first | refine St.remN (b := 8) rfl rfl rfl (by omega) ?_ | refine St.rem rfl rfl rfl (by omega) ?_
    refine St.eql rfl rfl rfl ?_
    refine St.done ?_
    refine SX.seq ?_
    refine SC.condp rfl (fun c9 => ?_) (fun c9 => ?_)
    · have hre : ready ws = pack ws ++ [0] := if_pos (by omega)
      refine SC.plain ?_
      refine St.move rfl rfl ?_
      refine St.move rfl rfl ?_
      refine St.nilCheck rfl rfl ?_
      refine St.fieldAddr (off := 0) rfl rfl (by kernel_rfl) ?_
      refine St.load rfl rfl (by kernel_rfl) (by first | exact Holds.row mem0 rfl | exact Holds.row mem1 rfl | exact Holds.row mem2 rfl | exact Holds.row mem3 rfl | exact Holds.row mem4 rfl | exact Holds.row mem5 rfl | exact Holds.row mem6 rfl | exact Holds.row mem7 rfl | exact Holds.row mem8 rfl) ?_
      refine St.buildSl (n := 1) (e := 5) [(0, .int .u8 ((0 : Nat) : Int))] (bytes [0]) rfl rfl (by kernel_rfl) (fun _ _ h => h.nil) (fun b5 => ?_)
      refine St.append2 (e := 5) (sz := 1) (bytes := 1) (xs := bytes (pack ws)) (n := (pack ws).length) (news := bytes [0]) (m := 1) rfl rfl rfl (by kernel_rfl) hb (Rd.row rfl mem0) (bytes_one _) (by omega) (by omega) (fun _ _ h => h.nil) (fun v2 E2 hb2 _ => ?_)
      rw [← bytes_app] at hb2
      refine St.drop ?_
      obtain ⟨_, _, A2, c2, hv2, _, _⟩ := hb2.read
      subst hv2
      refine St.nilCheck rfl rfl ?_
      refine St.fieldAddr (off := 0) rfl rfl (by kernel_rfl) ?_
      first | refine St.store rfl rfl rfl rfl (by kernel_rfl) (Nat.le_of_ble_eq_true rfl) (by first | exact fun _ h => h.nil | exact fun _ h => h | exact fun _ h => h.drop | exact fun _ h => h.drop.drop | exact fun _ h => h.drop.drop.drop) ?_ | refine St.store1 rfl rfl rfl rfl (by kernel_rfl) (Nat.le_of_ble_eq_true rfl) (by first | exact fun _ h => h.nil | exact fun _ h => h | exact fun _ h => h.drop | exact fun _ h => h.drop.drop | exact fun _ h => h.drop.drop.drop) ?_ | refine St.store2 rfl rfl rfl rfl (by kernel_rfl) (Nat.le_of_ble_eq_true rfl) (by first | exact fun _ h => h.nil | exact fun _ h => h | exact fun _ h => h.drop | exact fun _ h => h.drop.drop | exact fun _ h => h.drop.drop.drop) ?_ | refine St.store3 rfl rfl rfl rfl (by kernel_rfl) (Nat.le_of_ble_eq_true rfl) (by first | exact fun _ h => h.nil | exact fun _ h => h | exact fun _ h => h.drop | exact fun _ h => h.drop.drop | exact fun _ h => h.drop.drop.drop) ?_ | refine St.store4 rfl rfl rfl rfl (by kernel_rfl) (Nat.le_of_ble_eq_true rfl) (by first | exact fun _ h => h.nil | exact fun _ h => h | exact fun _ h => h.drop | exact fun _ h => h.drop.drop | exact fun _ h => h.drop.drop.drop) ?_ | refine St.store5 rfl rfl rfl rfl (by kernel_rfl) (Nat.le_of_ble_eq_true rfl) (by first | exact fun _ h => h.nil | exact fun _ h => h | exact fun _ h => h.drop | exact fun _ h => h.drop.drop | exact fun _ h => h.drop.drop.drop) ?_
      refine St.done ?_
      first
        | exact SX.some (_, E2) (by rw [hre, List.length_append]; exact hb2) ⟨rfl, rfl, trivial⟩ (List.Perm.refl _)
        | exact SX.some (_, E) (by rw [hre]; exact hb) ⟨rfl, rfl, trivial⟩ (List.Perm.refl _)
    · have hre : ready ws = pack ws := if_neg (by omega)
      refine SC.skip ?_
      first
        | exact SX.some (_, E2) (by rw [hre, List.length_append]; exact hb2) ⟨rfl, rfl, trivial⟩ (List.Perm.refl _)
        | exact SX.some (_, E) (by rw [hre]; exact hb) ⟨rfl, rfl, trivial⟩ (List.Perm.refl _)
theorem take_high (v n k : Nat) (h : k < n) : (highBits v n).take (k + 1) = (highBits v n).take k ++ [v / 2 ^ (n - 1 - k) % 2] := by
  rw [List.take_add_one, List.getElem?_eq_getElem (by rw [highBits_len]; exact h)]
  have := highBits_get v n k h
  rw [List.getD_eq_getElem?_getD, List.getElem?_eq_getElem (by rw [highBits_len]; exact h)] at this
  rw [← this]; rfl
theorem bits_take {a : List Nat} (h : Bits a) (k : Nat) : Bits (a.take k) := fun w hw => h w (List.mem_of_mem_take hw)

theorem wputb_spec (w0 : World) (L : List Chunk) (p : Nat) (wv : Value) (ws : List Nat) (E : Chunk) (hb : Buf 5 1 wv (bytes (pack ws)) (pack ws).length E) (hw : Bits ws) (v n : Nat) (hv : v < 4294967296) (hn : n ≤ 32) (hl : ws.length + n ≤ 1000000) :
    Meets Try.prog 100 #[.pointer (some ⟨p, 0, none⟩), .int .u32 ((v : Nat) : Int), .int .i64 ((n : Nat) : Int)] w0 (WrL p wv ws.length E L) (fun r L' => WrAt p (ws ++ lowBits v n) L L') := by
  refine Meets.of_body [.pointer (some ⟨p, 0, none⟩), .int .u32 ((v : Nat) : Int), .int .i64 ((n : Nat) : Int)] Try.func100 rfl Try.ntmps100 rfl ?_
  refine SC.seq ?_
  refine SC.plain ?_
  refine St.assign rfl rfl ?_
  refine St.done ?_
  refine SX.seq ?_
  refine SC.block ?_
  refine SC.loop (α := Nat × Value × Chunk) (fun s_ => s_.1 ≤ n ∧ Buf 5 1 s_.2.1 (bytes (pack (ws ++ lowBits v s_.1))) (pack (ws ++ lowBits v s_.1)).length s_.2.2) (fun s_ => [(0, .pointer (some ⟨p, 0, none⟩)), (1, .int .u32 ((v : Nat) : Int)), (2, .int .i64 ((n : Nat) : Int)), (6, .int .i64 ((s_.1 : Nat) : Int))]) (fun s_ => WrL p s_.2.1 (ws ++ lowBits v s_.1).length s_.2.2 L) (fun s_ => n - s_.1) (0, wv, E) ⟨Nat.zero_le _, by simp only [lowBits, List.append_nil]; exact hb⟩ ⟨rfl, rfl, rfl, rfl, trivial⟩ (by simp only [lowBits, List.append_nil]; exact List.Perm.refl _) ?_
  rintro ⟨i, vi, Ei⟩ ⟨hi, hbi⟩
  simp only at hi hbi
  show SC _ _ _ [(0, .pointer (some ⟨p, 0, none⟩)), (1, .int .u32 ((v : Nat) : Int)), (2, .int .i64 ((n : Nat) : Int)), (6, .int .i64 ((i : Nat) : Int))] (WrL p vi (ws ++ lowBits v i).length Ei L)
  refine SC.seq ?_
  refine SC.seq ?_
  refine SC.plain ?_
  refine St.move rfl rfl ?_
  refine St.move rfl rfl ?_
  refine St.min2 rfl rfl rfl ?_
  rw [show min ((n : Nat) : Int) 32 = ((n : Nat) : Int) by omega]
  refine St.lss rfl rfl rfl ?_
  refine St.done ?_
  refine SX.seq ?_
  refine SC.condp rfl (fun c10 => ?_) (fun c10 => ?_)
  · have hlt : i < n := by omega
    have hvd : v / 2 ^ i ≤ v := Nat.div_le_self _ _
    have hll := lowBits_len v i
    refine SC.skip ?_
    refine SX.seq ?_
    refine SC.seq ?_
    refine SC.block ?_
    refine SC.plain ?_
    refine St.move rfl rfl ?_
    refine St.move rfl rfl ?_
    refine St.move rfl rfl ?_
    first | refine St.shrU un32 rfl rfl rfl (by show _ ≤ (32 : Nat); omega) ?_ | refine St.shr rfl rfl rfl (by omega) ?_
    refine St.call [_, _] rfl (by kernel_rfl) rfl (wone_spec w0 L p vi (ws ++ lowBits v i) Ei hbi (bits_app hw (lowBits_bits v i)) (by rw [List.length_append]; omega) (v / 2 ^ i) (by omega)) (fun _ _ _ _ h => h.nil) ?_
    rintro r1 L1 ⟨v2, E2, hb2, rfl⟩
    refine St.done ?_
    refine SX.blk ?_
    refine SX.seq ?_
    refine SC.plain ?_
    refine St.move rfl rfl ?_
    first | refine St.addN (b := 1) rfl rfl rfl (by omega) ?_ | refine St.addI rfl rfl rfl (by omega) ?_
    refine St.assign rfl rfl ?_
    refine St.done ?_
    exact SX.again (i + 1, v2, E2) ⟨by simp only; omega, by simp only [lowBits, ← List.append_assoc]; exact hb2⟩ (by simp only; omega) ⟨rfl, rfl, rfl, rfl, trivial⟩ (by simp only [lowBits, ← List.append_assoc]; exact List.Perm.refl _)
  · obtain rfl : i = n := by omega
    refine SC.exit ?_
    refine SX.seq_exit ?_
    refine SX.seq_exit ?_
    refine SX.hit ?_
    exact SX.ret0 (.inr rfl) rfl ⟨vi, Ei, hbi, rfl⟩
theorem wcode_spec (w0 : World) (L : List Chunk) (p : Nat) (wv : Value) (ws : List Nat) (E : Chunk) (hb : Buf 5 1 wv (bytes (pack ws)) (pack ws).length E) (hw : Bits ws) (v n : Nat) (hv : v < 4294967296) (hn : n ≤ 32) (hl : ws.length + n ≤ 1000000) :
    Meets Try.prog 101 #[.pointer (some ⟨p, 0, none⟩), .int .u32 ((v : Nat) : Int), .int .i64 ((n : Nat) : Int)] w0 (WrL p wv ws.length E L) (fun r L' => WrAt p (ws ++ highBits v n) L L') := by
  refine Meets.of_body [.pointer (some ⟨p, 0, none⟩), .int .u32 ((v : Nat) : Int), .int .i64 ((n : Nat) : Int)] Try.func101 rfl Try.ntmps101 rfl ?_
  refine SC.seq ?_
  refine SC.plain ?_
  refine St.move rfl rfl ?_
  refine St.max2 rfl rfl rfl ?_
  rw [show max ((n : Nat) : Int) 0 = ((n : Nat) : Int) by omega]
  refine St.min2 rfl rfl rfl ?_
  rw [show min ((n : Nat) : Int) 32 = ((n : Nat) : Int) by omega]
  refine St.subI rfl rfl rfl (by omega) ?_
  refine St.assign rfl rfl ?_
  refine St.done ?_
  refine SX.seq ?_
  refine SC.block ?_
  refine SC.loop (α := Nat × Value × Chunk) (fun s_ => s_.1 ≤ n ∧ Buf 5 1 s_.2.1 (bytes (pack (ws ++ (highBits v n).take s_.1))) (pack (ws ++ (highBits v n).take s_.1)).length s_.2.2) (fun s_ => [(0, .pointer (some ⟨p, 0, none⟩)), (1, .int .u32 ((v : Nat) : Int)), (6, .int .i64 ((n : Int) - 1 - (s_.1 : Nat)))]) (fun s_ => WrL p s_.2.1 (ws ++ (highBits v n).take s_.1).length s_.2.2 L) (fun s_ => n - s_.1) (0, wv, E) ⟨Nat.zero_le _, by simp only [List.take_zero, List.append_nil]; exact hb⟩ ⟨rfl, rfl, congrArg (fun z => some (Value.int .i64 z)) (by simp only; omega), trivial⟩ (by simp only [List.take_zero, List.append_nil]; exact List.Perm.refl _) ?_
  rintro ⟨i, vi, Ei⟩ ⟨hi, hbi⟩
  simp only at hi hbi
  show SC _ _ _ [(0, .pointer (some ⟨p, 0, none⟩)), (1, .int .u32 ((v : Nat) : Int)), (6, .int .i64 ((n : Int) - 1 - (i : Nat)))] (WrL p vi (ws ++ (highBits v n).take i).length Ei L)
  refine SC.seq ?_
  refine SC.seq ?_
  refine SC.plain ?_
  refine St.move rfl rfl ?_
  refine St.geq rfl rfl rfl ?_
  refine St.done ?_
  refine SX.seq ?_
  refine SC.condp rfl (fun c12 => ?_) (fun c12 => ?_)
  · have hlt : i < n := by omega
    have hvd : v / 2 ^ (n - 1 - i) ≤ v := Nat.div_le_self _ _
    have hie : (n : Int) - 1 - (i : Nat) = ((n - 1 - i : Nat) : Int) := by omega
    rw [hie]
    refine SC.skip ?_
    refine SX.seq ?_
    refine SC.seq ?_
    refine SC.block ?_
    refine SC.plain ?_
    refine St.move rfl rfl ?_
    refine St.move rfl rfl ?_
    refine St.move rfl rfl ?_
    first | refine St.shrU un32 rfl rfl rfl (by show _ ≤ (32 : Nat); omega) ?_ | refine St.shr rfl rfl rfl (by omega) ?_
    refine St.call [_, _] rfl (by kernel_rfl) rfl (wone_spec w0 L p vi (ws ++ (highBits v n).take i) Ei hbi (bits_app hw (bits_take (highBits_bits v n) i)) (by rw [List.length_append, List.length_take, highBits_len]; omega) (v / 2 ^ (n - 1 - i)) (by omega)) (fun _ _ _ _ h => h.nil) ?_
    rintro r1 L1 ⟨v2, E2, hb2, rfl⟩
    refine St.done ?_
    refine SX.blk ?_
    refine SX.seq ?_
    refine SC.plain ?_
    refine St.move rfl rfl ?_
    refine St.subI rfl rfl rfl (by omega) ?_
    refine St.assign rfl rfl ?_
    refine St.done ?_
    exact SX.again (i + 1, v2, E2) ⟨by simp only; omega, by simp only [take_high v n i hlt, ← List.append_assoc]; exact hb2⟩ (by simp only; omega) ⟨rfl, rfl, congrArg (fun z => some (Value.int .i64 z)) (by simp only; omega), trivial⟩ (by simp only [take_high v n i hlt, ← List.append_assoc]; exact List.Perm.refl _)
  · obtain rfl : i = n := by omega
    rw [List.take_of_length_le (by rw [highBits_len]; exact Nat.le_refl _)] at hbi ⊢
    refine SC.exit ?_
    refine SX.seq_exit ?_
    refine SX.seq_exit ?_
    refine SX.hit ?_
    exact SX.ret0 (.inr rfl) rfl ⟨vi, Ei, hbi, rfl⟩
end Go.Proofs.Ytahafepgmkiabaa
