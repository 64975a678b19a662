/- Walks: the program's writer of bits. -/
import Derived.Test.YtahafepgmkiabaaP1
set_option linter.unusedVariables false
set_option linter.unusedSimpArgs false
set_option linter.ambiguousOpen false
namespace Go.Proofs.Ytahafepgmkiabaa
open Go Go.Proofs.Ytahafepgmkiabaa.Sep
/-- The whole bytes of the bits. -/
def whole (ws : List Nat) : List Nat := (List.range (ws.length / 8)).map (byteOf ws)
theorem whole_len (ws : List Nat) : (whole ws).length = ws.length / 8 := by simp [whole]
def BwL (p : Nat) (v : Value) (acc n : Nat) (E : Chunk) (L : List Chunk) : List Chunk := [⟨p, [v, .int .u64 ((acc : Nat) : Int), .int .i64 ((n : Nat) : Int)], 119⟩] :: E :: L
def BwAt (p : Nat) (ws : List Nat) (L L' : List Chunk) : Prop := ∃ v E, Buf 5 1 v (bytes (whole ws)) (ws.length / 8) E ∧ BwL p v (byteOf ws (ws.length / 8)) (ws.length % 8) E L = L'
theorem whole_same {ws : List Nat} (v : Nat) (h : ws.length % 8 + 1 < 8) : whole (ws ++ [v]) = whole ws := by
  unfold whole
  rw [List.length_append, List.length_singleton, show (ws.length + 1) / 8 = ws.length / 8 by omega]
  apply List.map_congr_left
  intro k hk
  have := List.mem_range.1 hk
  exact byteOf_snoc ws v k (by omega)
theorem whole_more {ws : List Nat} (v : Nat) (h : ws.length % 8 + 1 = 8) : whole (ws ++ [v]) = whole ws ++ [byteOf (ws ++ [v]) (ws.length / 8)] := by
  unfold whole
  rw [List.length_append, List.length_singleton, show (ws.length + 1) / 8 = ws.length / 8 + 1 by omega, List.range_succ, List.map_append]
  congr 1
  apply List.map_congr_left
  intro k hk
  have := List.mem_range.1 hk
  exact byteOf_snoc ws v k (by omega)
theorem byteOf_zero {ws : List Nat} (h : Bits ws) (h0 : ws.length % 8 = 0) : byteOf ws (ws.length / 8) = 0 := by
  have := byteOf_small h
  rw [h0] at this
  simpa using this
theorem pack_whole {ws : List Nat} (h : Bits ws) : pack ws = if ws.length % 8 = 0 then whole ws else whole ws ++ [byteOf ws (ws.length / 8)] := by
  unfold pack whole
  split
  · rw [show (ws.length + 7) / 8 = ws.length / 8 by omega]
  · rw [show (ws.length + 7) / 8 = ws.length / 8 + 1 by omega, List.range_succ, List.map_append]; rfl
theorem or_step {ws : List Nat} (h : Bits ws) (v : Nat) : byteOf ws (ws.length / 8) ||| v % 2 * 2 ^ (ws.length % 8) = byteOf (ws ++ [v % 2]) (ws.length / 8) := by
  rw [byteOf_last, Nat.or_comm, Nat.mul_comm (v % 2), ← Nat.two_pow_add_eq_or_of_lt (byteOf_small h), Nat.add_comm]

theorem put_end {p : Nat} {ws : List Nat} {w n0 a1 a n : Nat} {v1 : Value} {E1 : Chunk} {L : List Chunk} (hw : Bits ws) (hinv : (a = a1 ∧ n = n0 + 1 ∧ Buf 5 1 v1 (bytes (whole ws)) (ws.length / 8) E1) ∨ (n0 + 1 = 8 ∧ a = 0 ∧ n = 0 ∧ Buf 5 1 v1 (bytes (whole ws ++ [a1])) (ws.length / 8 + 1) E1)) (hlt : n < 8) (hn0 : n0 = ws.length % 8) (ha1 : a1 = byteOf (ws ++ [w % 2]) (ws.length / 8)) :
    BwAt p (ws ++ [w % 2]) L ([⟨p, [v1, .int .u64 ((a : Nat) : Int), .int .i64 ((n : Nat) : Int)], 119⟩] :: E1 :: L) := by
  have hl : (ws ++ [w % 2]).length = ws.length + 1 := by simp
  have hw2 : Bits (ws ++ [w % 2]) := bits_app hw (fun x hx => by rcases List.mem_singleton.1 hx with rfl; omega)
  rcases hinv with ⟨rfl, rfl, hb⟩ | ⟨h8, rfl, rfl, hb⟩
  · refine ⟨v1, E1, ?_, ?_⟩
    · rw [whole_same _ (by omega), hl, show (ws.length + 1) / 8 = ws.length / 8 by omega]; exact hb
    · unfold BwL
      rw [hl, show (ws.length + 1) / 8 = ws.length / 8 by omega, ← ha1, show (ws.length + 1) % 8 = n0 + 1 by omega]
  · refine ⟨v1, E1, ?_, ?_⟩
    · rw [whole_more _ (by omega), hl, show (ws.length + 1) / 8 = ws.length / 8 + 1 by omega, ← ha1]; exact hb
    · unfold BwL
      rw [byteOf_zero hw2 (by omega), hl, show (ws.length + 1) % 8 = 0 by omega]
theorem put_spec (w0 : World) (L : List Chunk) (p : Nat) (wv : Value) (ws : List Nat) (E : Chunk) (hb : Buf 5 1 wv (bytes (whole ws)) (ws.length / 8) E) (hw : Bits ws) (hl : ws.length ≤ 1000000) (v : Nat) (hv : v < 4294967296) :
    Meets Try.prog 145 #[.pointer (some ⟨p, 0, none⟩), .int .u32 ((v : Nat) : Int), .int .i64 1] w0 (BwL p wv (byteOf ws (ws.length / 8)) (ws.length % 8) E L) (fun r L' => BwAt p (ws ++ [v % 2]) L L') := by
  obtain ⟨n0, hn0⟩ : ∃ n0, n0 = ws.length % 8 := ⟨_, rfl⟩
  obtain ⟨a1, ha1⟩ : ∃ a1, a1 = byteOf (ws ++ [v % 2]) (ws.length / 8) := ⟨_, rfl⟩
  have h256 := byteOf_lt hw (ws.length / 8)
  have h256b : a1 < 256 := by rw [ha1]; exact byteOf_lt (bits_app hw (fun x hx => by rcases List.mem_singleton.1 hx with rfl; omega)) _
  have hpn : 2 ^ (ws.length % 8) ≤ 2 ^ 7 := Nat.pow_le_pow_right (by decide) (by omega)
  have hmul : v % 2 * 2 ^ (ws.length % 8) ≤ 1 * 2 ^ (ws.length % 8) := Nat.mul_le_mul_right _ (by omega)
  rw [show 2 ^ 7 = 128 from rfl] at hpn
  unfold BwL
  refine Meets.of_body [.pointer (some ⟨p, 0, none⟩), .int .u32 ((v : Nat) : Int), .int .i64 1] Try.func145 rfl Try.ntmps145 rfl ?_
  refine SC.seq ?_
  refine SC.plain ?_
  refine St.move rfl rfl ?_
  refine St.max2 rfl rfl rfl ?_
  refine St.min2 rfl rfl rfl ?_
  rw [show min (max (1 : Int) 0) 32 = ((1 : Nat) : Int) from rfl]
  refine St.assign rfl rfl ?_
  refine St.done ?_
  refine SX.seq ?_
  refine SC.seq ?_
  refine SC.drawn [(0, true), (1, true), (2, true), (3, true), (4, true), (5, true), (6, true), (7, true), (8, true), (9, true), (10, true), (11, true), (12, true), (13, true), (14, true), (15, true)] [16, 17, 18] (_) (by kernel_rfl) (by kernel_rfl) (fun _ h => h) ?_
  refine St.move rfl rfl ?_
  refine St.nilCheck rfl rfl ?_
  refine St.fieldAddr (off := 1) rfl rfl (by kernel_rfl) ?_
  refine St.load rfl rfl (by kernel_rfl) (by first | exact Holds.row mem0 rfl | exact Holds.row mem1 rfl | exact Holds.row mem2 rfl | exact Holds.row mem3 rfl | exact Holds.row mem4 rfl | exact Holds.row mem5 rfl | exact Holds.row mem6 rfl | exact Holds.row mem7 rfl | exact Holds.row mem8 rfl) ?_
  refine St.move rfl rfl ?_
  first | refine St.convUx un64 rfl rfl (by kernel_rfl) (by kernel_rfl) (by omega) ?_ | refine St.convU un64 rfl rfl (by kernel_rfl) (by kernel_rfl) ?_ | refine St.convZ un64 rfl rfl (by kernel_rfl) (by kernel_rfl) ?_
  refine St.move rfl rfl ?_
  refine St.shlUx un64 (a := 1) (b := 1) rfl rfl rfl (by show _ ≤ (64 : Nat); omega) (by decide) ?_
  refine St.subUx un64 (b := 1) rfl rfl rfl (by decide) (by decide) ?_
  refine St.andU un64 rfl rfl rfl (by omega) (by decide) ?_
  rw [show 1 * 2 ^ 1 - 1 = 1 from rfl, Nat.and_one_is_mod]
  refine St.move rfl rfl ?_
  refine St.nilCheck rfl rfl ?_
  refine St.fieldAddr (off := 2) rfl rfl (by kernel_rfl) ?_
  refine St.load rfl rfl (by kernel_rfl) (by first | exact Holds.row mem0 rfl | exact Holds.row mem1 rfl | exact Holds.row mem2 rfl | exact Holds.row mem3 rfl | exact Holds.row mem4 rfl | exact Holds.row mem5 rfl | exact Holds.row mem6 rfl | exact Holds.row mem7 rfl | exact Holds.row mem8 rfl) ?_
  refine St.shlUx un64 rfl rfl rfl (by show _ ≤ (64 : Nat); omega) (by omega) ?_
  refine St.orU un64 rfl rfl rfl (by omega) (by omega) ?_
  rw [or_step hw, ← ha1]
  refine St.done ?_
  refine SX.tail ?_
  refine St.nilCheck rfl rfl ?_
  refine St.fieldAddr (off := 1) rfl rfl (by kernel_rfl) ?_
  first | refine St.store rfl rfl rfl rfl (by kernel_rfl) (Nat.le_of_ble_eq_true rfl) (by first | exact fun _ h => h.nil | exact fun _ h => h | exact fun _ h => h.drop | exact fun _ h => h.drop.drop | exact fun _ h => h.drop.drop.drop) ?_ | refine St.store1 rfl rfl rfl rfl (by kernel_rfl) (Nat.le_of_ble_eq_true rfl) (by first | exact fun _ h => h.nil | exact fun _ h => h | exact fun _ h => h.drop | exact fun _ h => h.drop.drop | exact fun _ h => h.drop.drop.drop) ?_ | refine St.store2 rfl rfl rfl rfl (by kernel_rfl) (Nat.le_of_ble_eq_true rfl) (by first | exact fun _ h => h.nil | exact fun _ h => h | exact fun _ h => h.drop | exact fun _ h => h.drop.drop | exact fun _ h => h.drop.drop.drop) ?_ | refine St.store3 rfl rfl rfl rfl (by kernel_rfl) (Nat.le_of_ble_eq_true rfl) (by first | exact fun _ h => h.nil | exact fun _ h => h | exact fun _ h => h.drop | exact fun _ h => h.drop.drop | exact fun _ h => h.drop.drop.drop) ?_ | refine St.store4 rfl rfl rfl rfl (by kernel_rfl) (Nat.le_of_ble_eq_true rfl) (by first | exact fun _ h => h.nil | exact fun _ h => h | exact fun _ h => h.drop | exact fun _ h => h.drop.drop | exact fun _ h => h.drop.drop.drop) ?_ | refine St.store5 rfl rfl rfl rfl (by kernel_rfl) (Nat.le_of_ble_eq_true rfl) (by first | exact fun _ h => h.nil | exact fun _ h => h | exact fun _ h => h.drop | exact fun _ h => h.drop.drop | exact fun _ h => h.drop.drop.drop) ?_
  refine St.done ?_
  refine SX.seq ?_
  refine SC.seq ?_
  refine SC.plain ?_
  refine St.move rfl rfl ?_
  refine St.nilCheck rfl rfl ?_
  refine St.fieldAddr (off := 2) rfl rfl (by kernel_rfl) ?_
  refine St.load rfl rfl (by kernel_rfl) (by first | exact Holds.row mem0 rfl | exact Holds.row mem1 rfl | exact Holds.row mem2 rfl | exact Holds.row mem3 rfl | exact Holds.row mem4 rfl | exact Holds.row mem5 rfl | exact Holds.row mem6 rfl | exact Holds.row mem7 rfl | exact Holds.row mem8 rfl) ?_
  refine St.move rfl rfl ?_
  first | refine St.addN rfl rfl rfl (by omega) ?_ | refine St.addI rfl rfl rfl (by omega) ?_
  refine St.nilCheck rfl rfl ?_
  refine St.fieldAddr (off := 2) rfl rfl (by kernel_rfl) ?_
  first | refine St.store rfl rfl rfl rfl (by kernel_rfl) (Nat.le_of_ble_eq_true rfl) (by first | exact fun _ h => h.nil | exact fun _ h => h | exact fun _ h => h.drop | exact fun _ h => h.drop.drop | exact fun _ h => h.drop.drop.drop) ?_ | refine St.store1 rfl rfl rfl rfl (by kernel_rfl) (Nat.le_of_ble_eq_true rfl) (by first | exact fun _ h => h.nil | exact fun _ h => h | exact fun _ h => h.drop | exact fun _ h => h.drop.drop | exact fun _ h => h.drop.drop.drop) ?_ | refine St.store2 rfl rfl rfl rfl (by kernel_rfl) (Nat.le_of_ble_eq_true rfl) (by first | exact fun _ h => h.nil | exact fun _ h => h | exact fun _ h => h.drop | exact fun _ h => h.drop.drop | exact fun _ h => h.drop.drop.drop) ?_ | refine St.store3 rfl rfl rfl rfl (by kernel_rfl) (Nat.le_of_ble_eq_true rfl) (by first | exact fun _ h => h.nil | exact fun _ h => h | exact fun _ h => h.drop | exact fun _ h => h.drop.drop | exact fun _ h => h.drop.drop.drop) ?_ | refine St.store4 rfl rfl rfl rfl (by kernel_rfl) (Nat.le_of_ble_eq_true rfl) (by first | exact fun _ h => h.nil | exact fun _ h => h | exact fun _ h => h.drop | exact fun _ h => h.drop.drop | exact fun _ h => h.drop.drop.drop) ?_ | refine St.store5 rfl rfl rfl rfl (by kernel_rfl) (Nat.le_of_ble_eq_true rfl) (by first | exact fun _ h => h.nil | exact fun _ h => h | exact fun _ h => h.drop | exact fun _ h => h.drop.drop | exact fun _ h => h.drop.drop.drop) ?_
  refine St.done ?_
  refine SX.seq ?_
  refine SC.block ?_
  refine SC.loop (α := Value × Nat × Nat × Chunk) (fun s => (s.2.1 = a1 ∧ s.2.2.1 = n0 + 1 ∧ Buf 5 1 s.1 (bytes (whole ws)) (ws.length / 8) s.2.2.2) ∨ (n0 + 1 = 8 ∧ s.2.1 = 0 ∧ s.2.2.1 = 0 ∧ Buf 5 1 s.1 (bytes (whole ws ++ [a1])) (ws.length / 8 + 1) s.2.2.2)) (fun s => [(0, .pointer (some ⟨p, 0, none⟩))]) (fun s => BwL p s.1 s.2.1 s.2.2.1 s.2.2.2 L) (fun s => s.2.2.1) (wv, a1, n0 + 1, E) (.inl ⟨rfl, rfl, hb⟩) ⟨rfl, trivial⟩ (by rw [hn0]; exact List.Perm.refl _) ?_
  rintro ⟨v1, a, n, E1⟩ hinv
  simp only at hinv
  show SC _ _ _ [(0, .pointer (some ⟨p, 0, none⟩))] (BwL p v1 a n E1 L)
  unfold BwL
  refine SC.seq ?_
  refine SC.seq ?_
  refine SC.plain ?_
  refine St.move rfl rfl ?_
  refine St.nilCheck rfl rfl ?_
  refine St.fieldAddr (off := 2) rfl rfl (by kernel_rfl) ?_
  refine St.load rfl rfl (by kernel_rfl) (by first | exact Holds.row mem0 rfl | exact Holds.row mem1 rfl | exact Holds.row mem2 rfl | exact Holds.row mem3 rfl | exact Holds.row mem4 rfl | exact Holds.row mem5 rfl | exact Holds.row mem6 rfl | exact Holds.row mem7 rfl | exact Holds.row mem8 rfl) ?_
  refine St.geq rfl rfl rfl ?_
  refine St.done ?_
  refine SX.seq ?_
  refine SC.condp rfl (fun c39 => ?_) (fun c39 => ?_)
  · obtain ⟨rfl, rfl, hb1⟩ : a = a1 ∧ n = n0 + 1 ∧ Buf 5 1 v1 (bytes (whole ws)) (ws.length / 8) E1 := by rcases hinv with h | ⟨_, _, h, _⟩; exact h; omega
    have h8 : n0 + 1 = 8 := by omega
    clear hinv
    refine SC.skip ?_
    refine SX.seq ?_
    refine SC.seq ?_
    refine SC.block ?_
    refine SC.seq ?_
    refine SC.drawn [(0, true), (1, true), (2, true), (3, true), (4, true), (5, true), (6, true), (7, true), (8, true), (9, true), (10, false)] [11, 12, 13, 14] (_) (by kernel_rfl) (by kernel_rfl) (fun _ h => h) ?_
    refine St.move rfl rfl ?_
    refine St.move rfl rfl ?_
    refine St.nilCheck rfl rfl ?_
    refine St.fieldAddr (off := 0) rfl rfl (by kernel_rfl) ?_
    refine St.load rfl rfl (by kernel_rfl) (by first | exact Holds.row mem0 rfl | exact Holds.row mem1 rfl | exact Holds.row mem2 rfl | exact Holds.row mem3 rfl | exact Holds.row mem4 rfl | exact Holds.row mem5 rfl | exact Holds.row mem6 rfl | exact Holds.row mem7 rfl | exact Holds.row mem8 rfl) ?_
    refine St.move rfl rfl ?_
    refine St.nilCheck rfl rfl ?_
    refine St.fieldAddr (off := 1) rfl rfl (by kernel_rfl) ?_
    refine St.load rfl rfl (by kernel_rfl) (by first | exact Holds.row mem0 rfl | exact Holds.row mem1 rfl | exact Holds.row mem2 rfl | exact Holds.row mem3 rfl | exact Holds.row mem4 rfl | exact Holds.row mem5 rfl | exact Holds.row mem6 rfl | exact Holds.row mem7 rfl | exact Holds.row mem8 rfl) ?_
    refine St.convUx un8 rfl rfl (by kernel_rfl) (by kernel_rfl) (by omega) ?_
    refine St.buildSl (n := 1) (e := 5) [(0, .int .u8 ((a : Nat) : Int))] (bytes [a]) rfl rfl (by kernel_rfl) (fun _ _ h => h.drop) (fun b57 => ?_)
    refine St.done ?_
    refine SX.tail ?_
    refine St.append2 (e := 5) (sz := 1) (bytes := 1) (m := 1) (news := bytes [a]) rfl rfl rfl (by kernel_rfl) hb1 (Rd.row rfl mem0) (bytes_one _) (by omega) (by omega) (fun _ _ h => h.nil) (fun v2 E2 hb2 _ => ?_)
    rw [← bytes_app] at hb2
    refine St.drop ?_
    obtain ⟨_, _, A2, c2, hv2, _, _⟩ := hb2.read
    subst hv2
    refine St.nilCheck rfl rfl ?_
    refine St.fieldAddr (off := 0) rfl rfl (by kernel_rfl) ?_
    first | refine St.store rfl rfl rfl rfl (by kernel_rfl) (Nat.le_of_ble_eq_true rfl) (by first | exact fun _ h => h.nil | exact fun _ h => h | exact fun _ h => h.drop | exact fun _ h => h.drop.drop | exact fun _ h => h.drop.drop.drop) ?_ | refine St.store1 rfl rfl rfl rfl (by kernel_rfl) (Nat.le_of_ble_eq_true rfl) (by first | exact fun _ h => h.nil | exact fun _ h => h | exact fun _ h => h.drop | exact fun _ h => h.drop.drop | exact fun _ h => h.drop.drop.drop) ?_ | refine St.store2 rfl rfl rfl rfl (by kernel_rfl) (Nat.le_of_ble_eq_true rfl) (by first | exact fun _ h => h.nil | exact fun _ h => h | exact fun _ h => h.drop | exact fun _ h => h.drop.drop | exact fun _ h => h.drop.drop.drop) ?_ | refine St.store3 rfl rfl rfl rfl (by kernel_rfl) (Nat.le_of_ble_eq_true rfl) (by first | exact fun _ h => h.nil | exact fun _ h => h | exact fun _ h => h.drop | exact fun _ h => h.drop.drop | exact fun _ h => h.drop.drop.drop) ?_ | refine St.store4 rfl rfl rfl rfl (by kernel_rfl) (Nat.le_of_ble_eq_true rfl) (by first | exact fun _ h => h.nil | exact fun _ h => h | exact fun _ h => h.drop | exact fun _ h => h.drop.drop | exact fun _ h => h.drop.drop.drop) ?_ | refine St.store5 rfl rfl rfl rfl (by kernel_rfl) (Nat.le_of_ble_eq_true rfl) (by first | exact fun _ h => h.nil | exact fun _ h => h | exact fun _ h => h.drop | exact fun _ h => h.drop.drop | exact fun _ h => h.drop.drop.drop) ?_
    refine St.done ?_
    refine SX.seq ?_
    refine SC.plain ?_
    refine St.move rfl rfl ?_
    refine St.nilCheck rfl rfl ?_
    refine St.fieldAddr (off := 1) rfl rfl (by kernel_rfl) ?_
    refine St.load rfl rfl (by kernel_rfl) (by first | exact Holds.row mem0 rfl | exact Holds.row mem1 rfl | exact Holds.row mem2 rfl | exact Holds.row mem3 rfl | exact Holds.row mem4 rfl | exact Holds.row mem5 rfl | exact Holds.row mem6 rfl | exact Holds.row mem7 rfl | exact Holds.row mem8 rfl) ?_
    first | refine St.shrU un64 (b := 8) rfl rfl rfl (by show _ ≤ (64 : Nat); omega) ?_ | refine St.shr rfl rfl rfl (by omega) ?_
    refine St.nilCheck rfl rfl ?_
    refine St.fieldAddr (off := 1) rfl rfl (by kernel_rfl) ?_
    first | refine St.store rfl rfl rfl rfl (by kernel_rfl) (Nat.le_of_ble_eq_true rfl) (by first | exact fun _ h => h.nil | exact fun _ h => h | exact fun _ h => h.drop | exact fun _ h => h.drop.drop | exact fun _ h => h.drop.drop.drop) ?_ | refine St.store1 rfl rfl rfl rfl (by kernel_rfl) (Nat.le_of_ble_eq_true rfl) (by first | exact fun _ h => h.nil | exact fun _ h => h | exact fun _ h => h.drop | exact fun _ h => h.drop.drop | exact fun _ h => h.drop.drop.drop) ?_ | refine St.store2 rfl rfl rfl rfl (by kernel_rfl) (Nat.le_of_ble_eq_true rfl) (by first | exact fun _ h => h.nil | exact fun _ h => h | exact fun _ h => h.drop | exact fun _ h => h.drop.drop | exact fun _ h => h.drop.drop.drop) ?_ | refine St.store3 rfl rfl rfl rfl (by kernel_rfl) (Nat.le_of_ble_eq_true rfl) (by first | exact fun _ h => h.nil | exact fun _ h => h | exact fun _ h => h.drop | exact fun _ h => h.drop.drop | exact fun _ h => h.drop.drop.drop) ?_ | refine St.store4 rfl rfl rfl rfl (by kernel_rfl) (Nat.le_of_ble_eq_true rfl) (by first | exact fun _ h => h.nil | exact fun _ h => h | exact fun _ h => h.drop | exact fun _ h => h.drop.drop | exact fun _ h => h.drop.drop.drop) ?_ | refine St.store5 rfl rfl rfl rfl (by kernel_rfl) (Nat.le_of_ble_eq_true rfl) (by first | exact fun _ h => h.nil | exact fun _ h => h | exact fun _ h => h.drop | exact fun _ h => h.drop.drop | exact fun _ h => h.drop.drop.drop) ?_
    refine St.done ?_
    refine SX.blk ?_
    refine SX.seq ?_
    refine SC.plain ?_
    refine St.move rfl rfl ?_
    refine St.nilCheck rfl rfl ?_
    refine St.fieldAddr (off := 2) rfl rfl (by kernel_rfl) ?_
    refine St.load rfl rfl (by kernel_rfl) (by first | exact Holds.row mem0 rfl | exact Holds.row mem1 rfl | exact Holds.row mem2 rfl | exact Holds.row mem3 rfl | exact Holds.row mem4 rfl | exact Holds.row mem5 rfl | exact Holds.row mem6 rfl | exact Holds.row mem7 rfl | exact Holds.row mem8 rfl) ?_
    first | refine St.subN (b := 8) rfl rfl rfl (by omega) (by omega) ?_ | refine St.subI rfl rfl rfl (by omega) ?_
    refine St.nilCheck rfl rfl ?_
    refine St.fieldAddr (off := 2) rfl rfl (by kernel_rfl) ?_
    first | refine St.store rfl rfl rfl rfl (by kernel_rfl) (Nat.le_of_ble_eq_true rfl) (by first | exact fun _ h => h.nil | exact fun _ h => h | exact fun _ h => h.drop | exact fun _ h => h.drop.drop | exact fun _ h => h.drop.drop.drop) ?_ | refine St.store1 rfl rfl rfl rfl (by kernel_rfl) (Nat.le_of_ble_eq_true rfl) (by first | exact fun _ h => h.nil | exact fun _ h => h | exact fun _ h => h.drop | exact fun _ h => h.drop.drop | exact fun _ h => h.drop.drop.drop) ?_ | refine St.store2 rfl rfl rfl rfl (by kernel_rfl) (Nat.le_of_ble_eq_true rfl) (by first | exact fun _ h => h.nil | exact fun _ h => h | exact fun _ h => h.drop | exact fun _ h => h.drop.drop | exact fun _ h => h.drop.drop.drop) ?_ | refine St.store3 rfl rfl rfl rfl (by kernel_rfl) (Nat.le_of_ble_eq_true rfl) (by first | exact fun _ h => h.nil | exact fun _ h => h | exact fun _ h => h.drop | exact fun _ h => h.drop.drop | exact fun _ h => h.drop.drop.drop) ?_ | refine St.store4 rfl rfl rfl rfl (by kernel_rfl) (Nat.le_of_ble_eq_true rfl) (by first | exact fun _ h => h.nil | exact fun _ h => h | exact fun _ h => h.drop | exact fun _ h => h.drop.drop | exact fun _ h => h.drop.drop.drop) ?_ | refine St.store5 rfl rfl rfl rfl (by kernel_rfl) (Nat.le_of_ble_eq_true rfl) (by first | exact fun _ h => h.nil | exact fun _ h => h | exact fun _ h => h.drop | exact fun _ h => h.drop.drop | exact fun _ h => h.drop.drop.drop) ?_
    refine St.done ?_
    exact SX.again (.slice A2 (ws.length / 8 + 1) c2, 0, 0, E2) (.inr ⟨h8, rfl, rfl, hb2⟩) (by simp only; omega) ⟨rfl, trivial⟩ (by rw [show a / 2 ^ 8 = 0 by omega, show n0 + 1 - 8 = 0 by omega]; exact List.Perm.refl _)
  · refine SC.exit ?_
    refine SX.seq_exit ?_
    refine SX.seq_exit ?_
    refine SX.hit ?_
    exact SX.ret0 (.inr rfl) rfl (put_end hw hinv (by omega) hn0 ha1)
theorem code_spec (w0 : World) (L : List Chunk) (p : Nat) (wv : Value) (ws : List Nat) (E : Chunk) (hb : Buf 5 1 wv (bytes (whole ws)) (ws.length / 8) E) (hw : Bits ws) (v n : Nat) (hv : v < 4294967296) (hn : n ≤ 32) (hl : ws.length + n ≤ 1000000) :
    Meets Try.prog 88 #[.pointer (some ⟨p, 0, none⟩), .int .u32 ((v : Nat) : Int), .int .i64 ((n : Nat) : Int)] w0 (BwL p wv (byteOf ws (ws.length / 8)) (ws.length % 8) E L) (fun r L' => BwAt p (ws ++ highBits v n) L L') := by
  refine Meets.of_body [.pointer (some ⟨p, 0, none⟩), .int .u32 ((v : Nat) : Int), .int .i64 ((n : Nat) : Int)] Try.func88 rfl Try.ntmps88 rfl ?_
  refine SC.seq ?_
  refine SC.plain ?_
  refine St.move rfl rfl ?_
  refine St.max2 rfl rfl rfl ?_
  rw [show max ((n : Nat) : Int) 0 = ((n : Nat) : Int) by omega]
  refine St.min2 rfl rfl rfl ?_
  rw [show min ((n : Nat) : Int) 32 = ((n : Nat) : Int) by omega]
  refine St.subI rfl rfl rfl (by omega) ?_
  refine St.assign rfl rfl ?_
  refine St.done ?_
  refine SX.seq ?_
  refine SC.block ?_
  refine SC.loop (α := Nat × List Nat × Value × Chunk) (fun s_ => s_.1 ≤ n ∧ s_.2.1 = ws ++ (highBits v n).take s_.1 ∧ Buf 5 1 s_.2.2.1 (bytes (whole s_.2.1)) (s_.2.1.length / 8) s_.2.2.2) (fun s_ => [(0, .pointer (some ⟨p, 0, none⟩)), (1, .int .u32 ((v : Nat) : Int)), (6, .int .i64 ((n : Int) - 1 - (s_.1 : Nat)))]) (fun s_ => BwL p s_.2.2.1 (byteOf s_.2.1 (s_.2.1.length / 8)) (s_.2.1.length % 8) s_.2.2.2 L) (fun s_ => n - s_.1) (0, ws, wv, E) ⟨Nat.zero_le _, by simp, hb⟩ ⟨rfl, rfl, congrArg (fun z => some (Value.int .i64 z)) (by simp only; omega), trivial⟩ (List.Perm.refl _) ?_
  rintro ⟨i, us, vi, Ei⟩ ⟨hi, hus, hbi⟩
  simp only at hi hus hbi
  show SC _ _ _ [(0, .pointer (some ⟨p, 0, none⟩)), (1, .int .u32 ((v : Nat) : Int)), (6, .int .i64 ((n : Int) - 1 - (i : Nat)))] (BwL p vi (byteOf us (us.length / 8)) (us.length % 8) Ei L)
  refine SC.seq ?_
  refine SC.seq ?_
  refine SC.plain ?_
  refine St.move rfl rfl ?_
  refine St.geq rfl rfl rfl ?_
  refine St.done ?_
  refine SX.seq ?_
  refine SC.condp rfl (fun c12 => ?_) (fun c12 => ?_)
  · have hlt : i < n := by omega
    have hvd : v / 2 ^ (n - 1 - i) ≤ v := Nat.div_le_self _ _
    have hie : (n : Int) - 1 - (i : Nat) = ((n - 1 - i : Nat) : Int) := by omega
    rw [hie]
    have hul := congrArg List.length hus
    rw [List.length_append, List.length_take, highBits_len] at hul
    refine SC.skip ?_
    refine SX.seq ?_
    refine SC.seq ?_
    refine SC.block ?_
    refine SC.plain ?_
    refine St.move rfl rfl ?_
    refine St.move rfl rfl ?_
    refine St.move rfl rfl ?_
    first | refine St.shrU un32 rfl rfl rfl (by show _ ≤ (32 : Nat); omega) ?_ | refine St.shr rfl rfl rfl (by omega) ?_
    refine St.call [_, _, _] rfl (by kernel_rfl) rfl (put_spec w0 L p vi us Ei hbi (by rw [hus]; exact bits_app hw (bits_take (highBits_bits v n) i)) (by omega) (v / 2 ^ (n - 1 - i)) (by omega)) (fun _ _ _ _ h => h.nil) ?_
    rintro r1 L1 ⟨v2, E2, hb2, rfl⟩
    refine St.done ?_
    refine SX.blk ?_
    refine SX.seq ?_
    refine SC.plain ?_
    refine St.move rfl rfl ?_
    refine St.subI rfl rfl rfl (by omega) ?_
    refine St.assign rfl rfl ?_
    refine St.done ?_
    exact SX.again (i + 1, us ++ [v / 2 ^ (n - 1 - i) % 2], v2, E2) ⟨by simp only; omega, by simp only; rw [hus, take_high v n i hlt, List.append_assoc], hb2⟩ (by simp only; omega) ⟨rfl, rfl, congrArg (fun z => some (Value.int .i64 z)) (by simp only; omega), trivial⟩ (List.Perm.refl _)
  · obtain rfl : i = n := by omega
    rw [List.take_of_length_le (by rw [highBits_len]; exact Nat.le_refl _)] at hus
    subst hus
    refine SC.exit ?_
    refine SX.seq_exit ?_
    refine SX.seq_exit ?_
    refine SX.hit ?_
    exact SX.ret0 (.inr rfl) rfl ⟨vi, Ei, hbi, rfl⟩
theorem bytes_spec (w0 : World) (L : List Chunk) (p : Nat) (wv : Value) (ws : List Nat) (E : Chunk) (hb : Buf 5 1 wv (bytes (whole ws)) (ws.length / 8) E) (hw : Bits ws) (hl : ws.length ≤ 1000000) :
    Meets Try.prog 89 #[.pointer (some ⟨p, 0, none⟩)] w0 (BwL p wv (byteOf ws (ws.length / 8)) (ws.length % 8) E L) (fun r L' => ∃ L2, L' = L2 ++ BwL p wv (byteOf ws (ws.length / 8)) (ws.length % 8) E L ∧ Rd w0 L' r 1 (pack ws).length (bytes (pack ws))) := by
  have h256 := byteOf_lt hw (ws.length / 8)
  obtain ⟨b0, o0, A0, c0, rfl, _, _⟩ := hb.read
  unfold BwL
  refine Meets.of_body [.pointer (some ⟨p, 0, none⟩)] Try.func89 rfl Try.ntmps89 rfl ?_
  refine SC.seq ?_
  refine SC.plain ?_
  refine St.assign rfl rfl ?_
  refine St.done ?_
  refine SX.seq ?_
  refine SC.seq ?_
  refine SC.plain ?_
  refine St.move rfl rfl ?_
  refine St.nilCheck rfl rfl ?_
  refine St.fieldAddr (off := 0) rfl rfl (by kernel_rfl) ?_
  refine St.load rfl rfl (by kernel_rfl) (by first | exact Holds.row mem0 rfl | exact Holds.row mem1 rfl | exact Holds.row mem2 rfl | exact Holds.row mem3 rfl | exact Holds.row mem4 rfl | exact Holds.row mem5 rfl | exact Holds.row mem6 rfl | exact Holds.row mem7 rfl | exact Holds.row mem8 rfl) ?_
  refine St.perm ([] :: [⟨p, [.slice A0 (ws.length / 8) c0, .int .u64 ((byteOf ws (ws.length / 8) : Nat) : Int), .int .i64 ((ws.length % 8 : Nat) : Int)], 119⟩] :: E :: L) (List.Perm.refl _) ?_
  refine St.append (e := 5) (sz := 1) (bytes := 1) rfl rfl rfl (by kernel_rfl) (Buf.nil _ _) (hb.rd (by simp)) (bytes_one _) (by omega) (by omega) (fun _ _ h => h.nil) (fun v2 E2 hb2 _ => ?_)
  rw [List.nil_append, Nat.zero_add] at hb2
  refine St.assign rfl rfl ?_
  refine St.done ?_
  refine SX.seq ?_
  refine SC.join (α := Value × Chunk) (fun s => Buf 5 1 s.1 (bytes (pack ws)) (pack ws).length s.2) (fun s => [(3, s.1)]) (fun s => s.2 :: [⟨p, [.slice A0 (ws.length / 8) c0, .int .u64 ((byteOf ws (ws.length / 8) : Nat) : Int), .int .i64 ((ws.length % 8 : Nat) : Int)], 119⟩] :: E :: L) ?_ ?_
  · rintro ⟨v4, E4⟩ hb4
    simp only at hb4 ⊢
    obtain ⟨b4, o4, A4, c4, rfl, _, _⟩ := hb4.read
    have hc4 := hb4.cap.le
    refine SC.seq ?_
    refine SC.plain ?_
    refine St.move rfl rfl ?_
    refine St.move rfl rfl ?_
    refine St.lenSl rfl rfl (by kernel_rfl) ?_
    refine St.move rfl rfl ?_
    refine St.lenSl rfl rfl (by kernel_rfl) ?_
    refine St.cut (e := 5) (sz := 1) (l := 0) (h := (pack ws).length) (m := (pack ws).length) rfl rfl (by kernel_rfl) rfl ⟨_, _, rfl, rfl⟩ ⟨_, _, rfl, rfl⟩ (by omega) (by omega) (by omega) (by decide) ?_
    refine St.assign rfl rfl ?_
    refine St.done ?_
    refine SX.seq ?_
    refine SC.ret ?_
    have hrd := hb4.rd (w0 := w0) (L := E4 :: [⟨p, [.slice A0 (ws.length / 8) c0, .int .u64 ((byteOf ws (ws.length / 8) : Nat) : Int), .int .i64 ((ws.length % 8 : Nat) : Int)], 119⟩] :: E :: L) (by simp)
    exact SX.ret1 rfl rfl ⟨[E4], rfl, by obtain ⟨h1, b, o, A, c, h2, h3, h4⟩ := hrd; injection h2 with h5 h6 h7; subst h5; refine ⟨h1, b, o, A4, (pack ws).length, ?_, h3, h4⟩; simp only [Nat.sub_zero]; split; rfl; cases A4 <;> simp [Addr.add]⟩
  · refine SC.seq ?_
    refine SC.plain ?_
    refine St.move rfl rfl ?_
    refine St.nilCheck rfl rfl ?_
    refine St.fieldAddr (off := 2) rfl rfl (by kernel_rfl) ?_
    refine St.load rfl rfl (by kernel_rfl) (Holds.row mem1 rfl) ?_
    refine St.gtr rfl rfl rfl ?_
    refine St.done ?_
    refine SX.seq ?_
    refine SC.condp rfl (fun c13 => ?_) (fun c13 => ?_)
    · refine SC.plain ?_
      refine St.move rfl rfl ?_
      refine St.move rfl rfl ?_
      refine St.nilCheck rfl rfl ?_
      refine St.fieldAddr (off := 1) rfl rfl (by kernel_rfl) ?_
      refine St.load rfl rfl (by kernel_rfl) (Holds.row mem1 rfl) ?_
      refine St.convUx un8 rfl rfl (by kernel_rfl) (by kernel_rfl) (by omega) ?_
      refine St.buildSl (n := 1) (e := 5) [(0, .int .u8 ((byteOf ws (ws.length / 8) : Nat) : Int))] (bytes [byteOf ws (ws.length / 8)]) rfl rfl (by kernel_rfl) (fun _ _ h => h.nil) (fun b20 => ?_)
      refine St.append1 (e := 5) (sz := 1) (bytes := 1) (m := 1) (news := bytes [byteOf ws (ws.length / 8)]) rfl rfl rfl (by kernel_rfl) hb2 (Rd.row rfl mem0) (bytes_one _) (by omega) (by omega) (fun _ _ h => h.nil) (fun v3 E3 hb3 _ => ?_)
      rw [← bytes_app] at hb3
      refine St.drop ?_
      refine St.assign rfl rfl ?_
      refine St.done ?_
      exact SX.some (v3, E3) (by rw [pack_whole hw, if_neg (by omega), List.length_append, whole_len]; exact hb3) ⟨rfl, trivial⟩ (List.Perm.refl _)
    · refine SC.skip ?_
      exact SX.some (v2, E2) (by rw [pack_whole hw, if_pos (by omega), whole_len]; exact hb2) ⟨rfl, trivial⟩ (List.Perm.refl _)
end Go.Proofs.Ytahafepgmkiabaa
