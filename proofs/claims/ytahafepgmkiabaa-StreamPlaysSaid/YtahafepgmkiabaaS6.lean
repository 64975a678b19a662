/- Walks: bytes as digits, and what the document fixes of the sums (awake). -/
import Derived.Test.YtahafepgmkiabaaS5
set_option linter.unusedVariables false
set_option linter.unusedSimpArgs false
set_option linter.ambiguousOpen false
namespace Go.Proofs.Ytahafepgmkiabaa
open Go Go.Proofs.Ytahafepgmkiabaa.Sep

set_option maxRecDepth 100000 in
theorem crc9 : crc [49, 50, 51, 52, 53, 54, 55, 56, 57] = 3421780262 := by decide +kernel
set_option maxRecDepth 100000 in
theorem adl9 : adler [87, 105, 107, 105, 112, 101, 100, 105, 97] = 300286872 := by decide +kernel
def dig (n : Nat) : Nat := if n < 10 then 48 + n else 87 + n
def hexOf : List Nat → List Nat
  | [] => []
  | b :: bs => dig (b / 2 ^ 4) :: dig (b &&& 15) :: hexOf bs
theorem hexOf_app : ∀ a b, hexOf (a ++ b) = hexOf a ++ hexOf b
  | [], b => rfl
  | x :: a, b => by simp only [List.cons_append, hexOf, hexOf_app a b]
theorem hexOf_len : ∀ a, (hexOf a).length = 2 * a.length
  | [] => rfl
  | x :: a => by simp only [hexOf, List.length_cons, hexOf_len a]; omega
def hexS : ByteArray := ⟨#[48, 49, 50, 51, 52, 53, 54, 55, 56, 57, 97, 98, 99, 100, 101, 102]⟩
theorem dig_at (i : Nat) (h : i < 16) : hexS[i]? = some (UInt8.ofNat (dig i)) := by
  have h16 : i = 0 ∨ i = 1 ∨ i = 2 ∨ i = 3 ∨ i = 4 ∨ i = 5 ∨ i = 6 ∨ i = 7 ∨ i = 8 ∨ i = 9 ∨ i = 10 ∨ i = 11 ∨ i = 12 ∨ i = 13 ∨ i = 14 ∨ i = 15 := by omega
  rcases h16 with rfl | rfl | rfl | rfl | rfl | rfl | rfl | rfl | rfl | rfl | rfl | rfl | rfl | rfl | rfl | rfl <;> rfl
theorem dig_lt (i : Nat) (h : i < 16) : dig i < 256 := by unfold dig; split <;> omega
theorem dig_nat (i : Nat) (h : i < 16) : (UInt8.ofNat (dig i)).toNat = dig i := by
  rw [UInt8.toNat_ofNat']; exact Nat.mod_eq_of_lt (dig_lt i h)
theorem and15 (b : Nat) (h : b < 256) : bits .and .u8 ((b : Nat) : Int) 15 = ((b &&& 15 : Nat) : Int) := and_u8 b 15 h (by decide)
theorem and15_lt (b : Nat) : b &&& 15 < 16 := Nat.lt_of_le_of_lt Nat.and_le_right (by decide)
theorem shr4_u8 (a : Nat) : ((a : Nat) : Int).fdiv (2 ^ (min (4 : Int).toNat IntKind.u8.bits)) = ((a / 2 ^ 4 : Nat) : Int) := shr_u8 a 4 (by decide)
theorem hex_lt : ∀ (a : List Nat), (∀ b ∈ a, b < 256) → ∀ x ∈ hexOf a, x < 256
  | [], _, x, h => by simp [hexOf] at h
  | b :: a, hb, x, h => by
    have h0 := hb b List.mem_cons_self
    simp only [hexOf, List.mem_cons] at h
    rcases h with rfl | rfl | h
    · exact dig_lt _ (by omega)
    · exact dig_lt _ (and15_lt _)
    · exact hex_lt a (fun y hy => hb y (List.mem_cons_of_mem _ hy)) x h
theorem hex_succ (ys : List Nat) (i : Nat) (h : i < ys.length) : hexOf (ys.take (i + 1)) = hexOf (ys.take i) ++ [dig (ys.getD i 0 / 2 ^ 4), dig (ys.getD i 0 &&& 15)] := by
  rw [List.take_succ_eq_append_getElem h, hexOf_app, List.getD_eq_getElem?_getD, List.getElem?_eq_getElem h]; rfl

theorem hex_spec (w0 : World) (L : List Chunk) (v : Value) (ys : List Nat) (hx : Rd w0 L v 1 ys.length (bytes ys)) (hl : ys.length ≤ 70368744177664) (hys : ∀ b ∈ ys, b < 256) :
    Meets Try.prog 48 #[v] w0 L (fun r L' => L = L' ∧ r = .string (text (hexOf ys))) := by
  obtain ⟨_, b, o, A, c, rfl, hA, hr⟩ := hx
  refine Meets.of_body [.slice A ys.length c] Try.func48 rfl Try.ntmps48 rfl ?_
  refine SC.seq ?_
  refine SC.plain ?_
  refine St.assign rfl rfl ?_
  refine St.done ?_
  refine SX.seq ?_
  refine SC.seq ?_
  refine SC.plain ?_
  refine St.move rfl rfl ?_
  refine St.lenSl rfl rfl (by kernel_rfl) ?_
  refine St.mulI rfl rfl rfl (by omega) ?_
  refine St.makeSl (e := 5) (zv := .int .u8 0) (bytes := 1) rfl rfl rfl (by kernel_rfl) (by omega) (by omega) (by omega) (fun _ _ h => h.nil) (fun mm => ?_)
  rw [show (2 * ((ys.length : Nat) : Int)).toNat = 2 * ys.length by omega]
  refine St.assign rfl rfl ?_
  refine St.done ?_
  refine SX.seq ?_
  refine SC.seq ?_
  refine SC.seq ?_
  refine SC.plain ?_
  refine St.move rfl rfl ?_
  refine St.lenSl rfl rfl (by kernel_rfl) ?_
  refine St.move rfl rfl ?_
  refine St.done ?_
  refine SX.seq ?_
  refine SC.block ?_
  refine SC.loop (α := Nat × Value × Chunk) (fun s => s.1 ≤ ys.length ∧ Buf 5 1 s.2.1 (bytes (hexOf (ys.take s.1))) (hexOf (ys.take s.1)).length s.2.2) (fun s => [(3, s.2.1), (10, .slice A ys.length c), (11, .int .i64 ((ys.length : Nat) : Int)), (12, .int .i64 ((s.1 : Nat) : Int))]) (fun s => s.2.2 :: L) (fun s => ys.length - s.1) (0, .slice (some ⟨mm, 0, none⟩) 0 (2 * ys.length), [⟨mm, List.replicate (2 * ys.length) (.int .u8 0), 5⟩]) ⟨Nat.zero_le _, Buf.made (xs := []) (n := 0) (c := 2 * ys.length) (sz := 1) rfl (by simp) (by omega)⟩ ⟨rfl, rfl, rfl, rfl, trivial⟩ (List.Perm.refl _) ?_
  rintro ⟨i, v, E⟩ ⟨hi, hb⟩
  simp only at hi hb
  show SC _ _ _ [(3, v), (10, .slice A ys.length c), (11, .int .i64 ((ys.length : Nat) : Int)), (12, .int .i64 ((i : Nat) : Int))] (E :: L)
  refine SC.seq ?_
  refine SC.plain ?_
  refine St.lss rfl rfl rfl ?_
  refine St.done ?_
  refine SX.seq ?_
  refine SC.seq ?_
  refine SC.condp rfl (fun c13 => ?_) (fun c13 => ?_)
  · have hlt : i < ys.length := by omega
    have hAe := hA (by omega)
    subst hAe
    have hyi := getD_lt hys i
    have hq : ys.getD i 0 / 2 ^ 4 < 16 := by omega
    have hlen := hexOf_len (ys.take i)
    rw [List.length_take] at hlen
    refine SC.skip ?_
    refine SX.seq ?_
    refine SC.seq ?_
    refine SC.block ?_
    refine SC.seq ?_
    refine SC.plain ?_
    refine St.indexSl (e := 5) (sz := 1) rfl rfl rfl (by kernel_rfl) (by omega) ?_
    refine St.load rfl rfl (by kernel_rfl) (byte_at hr.cons i hlt) ?_
    refine St.assign rfl rfl ?_
    refine St.done ?_
    refine SX.seq ?_
    refine SC.drawn [(0, true), (1, true), (2, true), (3, true), (4, true), (5, true), (6, true), (7, false), (8, false), (9, true)] [] (L) (by kernel_rfl) (by kernel_rfl) (fun _ h => h.drop) ?_
    refine St.move rfl rfl ?_
    refine St.move rfl rfl ?_
    refine St.shr rfl rfl rfl (by omega) ?_
    rw [shr4_u8]
    refine St.indexStr (s := hexS) (i := ys.getD i 0 / 2 ^ 4) rfl rfl rfl (by kernel_rfl) (dig_at _ hq) ?_
    rw [dig_nat _ hq]
    refine St.move rfl rfl ?_
    refine St.andI rfl rfl rfl ?_
    rw [and15 _ hyi]
    refine St.indexStr (s := hexS) (i := ys.getD i 0 &&& 15) rfl rfl rfl (by kernel_rfl) (dig_at _ (and15_lt _)) ?_
    rw [dig_nat _ (and15_lt _)]
    refine St.buildSl (e := 5) [(0, .int .u8 ((dig (ys.getD i 0 / 2 ^ 4) : Nat) : Int)), (1, .int .u8 ((dig (ys.getD i 0 &&& 15) : Nat) : Int))] (bytes [dig (ys.getD i 0 / 2 ^ 4), dig (ys.getD i 0 &&& 15)]) rfl rfl (by kernel_rfl) (fun _ _ h => h.drop.drop) (fun lit => ?_)
    refine St.perm _ (perm12 _ _ _) ?_
    refine St.append (e := 5) (sz := 1) (bytes := 1) (xs := bytes (hexOf (ys.take i))) (n := (hexOf (ys.take i)).length) (news := bytes [dig (ys.getD i 0 / 2 ^ 4), dig (ys.getD i 0 &&& 15)]) (m := 2) rfl rfl rfl (by kernel_rfl) hb (Rd.row (by first | rfl | simp [bytes]) mem1) (bytes_one _) (by omega) (by omega) (fun _ _ h => h.drop.drop) (fun v2 E2 hb2 _ => ?_)
    rw [← bytes_app] at hb2
    refine St.perm _ (perm12 _ _ _) (St.drop ?_)
    rw [← hex_succ ys i hlt, show (hexOf (ys.take i)).length + 2 = (hexOf (ys.take (i + 1))).length by rw [hexOf_len, hexOf_len, List.length_take, List.length_take]; omega] at hb2
    refine St.assign rfl rfl ?_
    refine St.done ?_
    refine SX.tail ?_
    refine St.done ?_
    refine SX.blk ?_
    refine SX.seq ?_
    refine SC.plain ?_
    refine St.addI rfl rfl rfl (by omega) ?_
    refine St.move rfl rfl ?_
    refine St.done ?_
    exact SX.again (i + 1, v2, E2) ⟨by simp only; omega, hb2⟩ (by simp only; omega) ⟨rfl, rfl, rfl, rfl, trivial⟩ (List.Perm.refl _)
  · have hie : i = ys.length := by omega
    subst hie
    rw [List.take_length] at hb
    refine SC.exit ?_
    refine SX.seq_exit ?_
    refine SX.seq_exit ?_
    refine SX.hit ?_
    refine SX.seq ?_
    refine SC.seq ?_
    refine SC.plain ?_
    refine St.move rfl rfl ?_
    refine St.toStr (e := 5) (bs := hexOf ys) (n := (hexOf ys).length) rfl rfl (hb.rd List.mem_cons_self) (by kernel_rfl) (by kernel_rfl) (by kernel_rfl) ?_
    refine St.assign rfl rfl ?_
    refine St.done ?_
    refine SX.seq ?_
    refine SC.ret ?_
    exact SX.drop (SX.ret1 rfl rfl ⟨rfl, rfl⟩)
theorem rhex_spec (w0 : World) (L : List Chunk) (v : Value) (ys : List Nat) (hx : Rd w0 L v 1 ys.length (bytes ys)) (hl : ys.length ≤ 70368744177664) (hys : ∀ b ∈ ys, b < 256) :
    Meets Try.prog 58 #[v] w0 L (fun r L' => L = L' ∧ r = .string (text (hexOf ys))) := by
  obtain ⟨_, b, o, A, c, rfl, hA, hr⟩ := hx
  refine Meets.of_body [.slice A ys.length c] Try.func58 rfl Try.ntmps58 rfl ?_
  refine SC.seq ?_
  refine SC.plain ?_
  refine St.assign rfl rfl ?_
  refine St.done ?_
  refine SX.seq ?_
  refine SC.seq ?_
  refine SC.plain ?_
  refine St.assign rfl rfl ?_
  refine St.done ?_
  refine SX.seq ?_
  refine SC.seq ?_
  refine SC.seq ?_
  refine SC.plain ?_
  refine St.assign rfl rfl ?_
  refine St.done ?_
  refine SX.seq ?_
  refine SC.block ?_
  refine SC.perm ([] :: L) (List.Perm.refl _) ?_
  refine SC.loop (α := Nat × Value × Chunk) (fun s => s.1 ≤ ys.length ∧ Buf 5 1 s.2.1 (bytes (hexOf (ys.take s.1))) (hexOf (ys.take s.1)).length s.2.2) (fun s => [(0, .slice A ys.length c), (3, s.2.1), (4, .int .i64 ((s.1 : Nat) : Int))]) (fun s => s.2.2 :: L) (fun s => ys.length - s.1) (0, .slice none 0 0, []) ⟨Nat.zero_le _, Buf.nil 5 1⟩ ⟨rfl, rfl, rfl, trivial⟩ (List.Perm.refl _) ?_
  rintro ⟨i, v, E⟩ ⟨hi, hb⟩
  simp only at hi hb
  show SC _ _ _ [(0, .slice A ys.length c), (3, v), (4, .int .i64 ((i : Nat) : Int))] (E :: L)
  refine SC.seq ?_
  refine SC.seq ?_
  refine SC.plain ?_
  refine St.move rfl rfl ?_
  refine St.move rfl rfl ?_
  refine St.lenSl rfl rfl (by kernel_rfl) ?_
  refine St.lss rfl rfl rfl ?_
  refine St.done ?_
  refine SX.seq ?_
  refine SC.condp rfl (fun c8 => ?_) (fun c8 => ?_)
  · have hlt : i < ys.length := by omega
    have hAe := hA (by omega)
    subst hAe
    have hyi := getD_lt hys i
    have hq : ys.getD i 0 / 2 ^ 4 < 16 := by omega
    have hlen := hexOf_len (ys.take i)
    rw [List.length_take] at hlen
    refine SC.skip ?_
    refine SX.seq ?_
    refine SC.seq ?_
    refine SC.block ?_
    refine SC.drawn [(0, true), (1, true), (2, true), (3, true), (4, true), (5, true), (6, true), (7, true), (8, true), (9, true), (10, true), (11, true), (12, true), (13, false), (14, false), (15, true)] [] (L) (by kernel_rfl) (by kernel_rfl) (fun _ h => h.drop) ?_
    refine St.move rfl rfl ?_
    refine St.move rfl rfl ?_
    refine St.move rfl rfl ?_
    refine St.indexSl (e := 5) (sz := 1) rfl rfl rfl (by kernel_rfl) (by omega) ?_
    refine St.load rfl rfl (by kernel_rfl) (byte_at hr i hlt) ?_
    refine St.shr rfl rfl rfl (by omega) ?_
    rw [shr4_u8]
    refine St.indexStr (s := hexS) (i := ys.getD i 0 / 2 ^ 4) rfl rfl rfl (by kernel_rfl) (dig_at _ hq) ?_
    rw [dig_nat _ hq]
    refine St.move rfl rfl ?_
    refine St.move rfl rfl ?_
    refine St.indexSl (e := 5) (sz := 1) rfl rfl rfl (by kernel_rfl) (by omega) ?_
    refine St.load rfl rfl (by kernel_rfl) (byte_at hr i hlt) ?_
    refine St.andI rfl rfl rfl ?_
    rw [and15 _ hyi]
    refine St.indexStr (s := hexS) (i := ys.getD i 0 &&& 15) rfl rfl rfl (by kernel_rfl) (dig_at _ (and15_lt _)) ?_
    rw [dig_nat _ (and15_lt _)]
    refine St.buildSl (e := 5) [(0, .int .u8 ((dig (ys.getD i 0 / 2 ^ 4) : Nat) : Int)), (1, .int .u8 ((dig (ys.getD i 0 &&& 15) : Nat) : Int))] (bytes [dig (ys.getD i 0 / 2 ^ 4), dig (ys.getD i 0 &&& 15)]) rfl rfl (by kernel_rfl) (fun _ _ h => h.drop.drop) (fun lit => ?_)
    refine St.perm _ (perm12 _ _ _) ?_
    refine St.append (e := 5) (sz := 1) (bytes := 1) (xs := bytes (hexOf (ys.take i))) (n := (hexOf (ys.take i)).length) (news := bytes [dig (ys.getD i 0 / 2 ^ 4), dig (ys.getD i 0 &&& 15)]) (m := 2) rfl rfl rfl (by kernel_rfl) hb (Rd.row (by first | rfl | simp [bytes]) mem1) (bytes_one _) (by omega) (by omega) (fun _ _ h => h.drop.drop) (fun v2 E2 hb2 _ => ?_)
    rw [← bytes_app] at hb2
    refine St.perm _ (perm12 _ _ _) (St.drop ?_)
    rw [← hex_succ ys i hlt, show (hexOf (ys.take i)).length + 2 = (hexOf (ys.take (i + 1))).length by rw [hexOf_len, hexOf_len, List.length_take, List.length_take]; omega] at hb2
    refine St.assign rfl rfl ?_
    refine St.done ?_
    refine SX.tail ?_
    refine St.done ?_
    refine SX.blk ?_
    refine SX.seq ?_
    refine SC.plain ?_
    refine St.move rfl rfl ?_
    refine St.addI rfl rfl rfl (by omega) ?_
    refine St.assign rfl rfl ?_
    refine St.done ?_
    exact SX.again (i + 1, v2, E2) ⟨by simp only; omega, hb2⟩ (by simp only; omega) ⟨rfl, rfl, rfl, trivial⟩ (List.Perm.refl _)
  · have hie : i = ys.length := by omega
    subst hie
    rw [List.take_length] at hb
    refine SC.exit ?_
    refine SX.seq_exit ?_
    refine SX.seq_exit ?_
    refine SX.hit ?_
    refine SX.seq ?_
    refine SC.seq ?_
    refine SC.plain ?_
    refine St.move rfl rfl ?_
    refine St.toStr (e := 5) (bs := hexOf ys) (n := (hexOf ys).length) rfl rfl (hb.rd List.mem_cons_self) (by kernel_rfl) (by kernel_rfl) (by kernel_rfl) ?_
    refine St.assign rfl rfl ?_
    refine St.done ?_
    refine SX.seq ?_
    refine SC.ret ?_
    exact SX.drop (SX.ret1 rfl rfl ⟨rfl, rfl⟩)
def shaText : ByteArray := ⟨#[100, 97, 51, 57, 97, 51, 101, 101, 53, 101, 54, 98, 52, 98, 48, 100, 51, 50, 53, 53, 98, 102, 101, 102, 57, 53, 54, 48, 49, 56, 57, 48, 97, 102, 100, 56, 48, 55, 48, 57]⟩
set_option maxRecDepth 100000 in
theorem sha_hex : text (hexOf (sha1 [])) = shaText := by decide +kernel
theorem awake3_spec (w0 : World) (L : List Chunk) : Meets Try.prog 41 #[] w0 L (fun r L' => L = L' ∧ r = .bool true) := by
  refine Meets.of_body [] Try.func41 rfl Try.ntmps41 rfl ?_
  refine SC.seq ?_
  refine SC.plain ?_
  refine St.assign rfl rfl ?_
  refine St.done ?_
  refine SX.seq ?_
  refine SC.seq ?_
  refine SC.plain ?_
  refine St.call [.slice none 0 0] rfl (by kernel_rfl) rfl (sha_spec w0 _ _ [] (Rd.nil _ _ _) (by decide) (by simp)) (fun _ _ _ _ h => h.nil) ?_
  rintro r1 L1 ⟨E1, rfl, hb1⟩
  refine St.call [r1] rfl (by kernel_rfl) rfl (hex_spec w0 _ _ (sha1 []) (hb1.rd List.mem_cons_self) (by rw [sha1_len]; decide) (sha1_lt _)) (fun _ _ _ _ h => h.nil) ?_
  rintro r2 L1 ⟨rfl, rfl⟩
  rw [sha_hex]
  refine St.drop ?_
  refine St.strEql rfl rfl rfl ?_
  refine St.move rfl rfl ?_
  refine St.split 4 rfl (fun g4 => ?_) (fun g4 => ?_)
  · refine St.guard_yes rfl rfl ?_
    refine St.buildSl (e := 5) [(0, .int .u8 49), (1, .int .u8 50), (2, .int .u8 51), (3, .int .u8 52), (4, .int .u8 53), (5, .int .u8 54), (6, .int .u8 55), (7, .int .u8 56), (8, .int .u8 57)] (bytes [49, 50, 51, 52, 53, 54, 55, 56, 57]) rfl rfl (by kernel_rfl) (fun _ _ h => h.nil) (fun p => ?_)
    refine St.guard_yes rfl rfl ?_
    refine St.mark (e := 5) rfl rfl (by kernel_rfl) (by kernel_rfl) (fun _ h => h.nil) ?_
    refine St.guard_yes rfl rfl ?_
    refine St.call [.slice (some ⟨p, 0, none⟩) 9 9] rfl (by kernel_rfl) rfl (crc_spec w0 _ _ [49, 50, 51, 52, 53, 54, 55, 56, 57] (Rd.row rfl mem0) (by decide) (by decide)) (fun _ _ _ _ h => h.nil) ?_
    rintro r3 L1 ⟨rfl, rfl⟩
    rw [crc9]
    refine St.guard_yes rfl rfl ?_
    refine St.eql rfl rfl rfl ?_
    refine St.pick_true rfl rfl rfl ?_
    refine St.move rfl rfl ?_
    refine St.split 10 rfl (fun g10 => ?_) (fun g10 => ?_)
    · refine St.guard_yes rfl rfl ?_
      refine St.buildSl (e := 5) [(0, .int .u8 87), (1, .int .u8 105), (2, .int .u8 107), (3, .int .u8 105), (4, .int .u8 112), (5, .int .u8 101), (6, .int .u8 100), (7, .int .u8 105), (8, .int .u8 97)] (bytes [87, 105, 107, 105, 112, 101, 100, 105, 97]) rfl rfl (by kernel_rfl) (fun _ _ h => h.nil) (fun p2 => ?_)
      refine St.guard_yes rfl rfl ?_
      refine St.mark (e := 5) rfl rfl (by kernel_rfl) (by kernel_rfl) (fun _ h => h.nil) ?_
      refine St.guard_yes rfl rfl ?_
      refine St.call [.slice (some ⟨p2, 0, none⟩) 9 9] rfl (by kernel_rfl) rfl (adler_spec w0 _ _ [87, 105, 107, 105, 112, 101, 100, 105, 97] (Rd.row rfl mem0) (by decide) (by decide)) (fun _ _ _ _ h => h.nil) ?_
      rintro r4 L1 ⟨rfl, rfl⟩
      rw [adl9]
      refine St.guard_yes rfl rfl ?_
      refine St.eql rfl rfl rfl ?_
      refine St.pick_true rfl rfl rfl ?_
      refine St.assign rfl rfl ?_
      refine St.done ?_
      refine SX.seq ?_
      refine SC.ret ?_
      exact SX.drop (SX.drop (SX.ret1 rfl rfl ⟨rfl, rfl⟩))
    · exact absurd rfl g10
  · exact absurd rfl g4
end Go.Proofs.Ytahafepgmkiabaa
