/- Walks: the document's SHA-1. -/
import Derived.Test.YtahafepgmkiabaaS6
set_option linter.unusedVariables false
set_option linter.unusedSimpArgs false
set_option linter.ambiguousOpen false
namespace Go.Proofs.Ytahafepgmkiabaa
open Go Go.Proofs.Ytahafepgmkiabaa.Sep

theorem perm13 (a b c : Chunk) (L : List Chunk) : (a :: b :: c :: L).flatten.Perm (c :: b :: a :: L).flatten :=
  (perm12 a b _).trans ((permc b (perm12 a c L)).trans (perm12 b c _))
theorem set_mid (a r : List Nat) (x y i : Nat) (h : i = a.length) : (w32s (a ++ x :: r)).set i (.int .u32 ((y : Nat) : Int)) = w32s (a ++ [y] ++ r) := by
  subst h
  unfold w32s
  rw [List.map_append, List.set_append_right _ _ (by simp)]
  simp [w32]
theorem get_front (a r : List Nat) (i : Nat) (h : i < a.length) : (w32s (a ++ r))[i]? = some (.int .u32 ((a.getD i 0 : Nat) : Int)) := by
  rw [w32s_get _ _ (by rw [List.length_append]; omega), getD_app _ _ _ h]
theorem plus_k {k : Int} (n a : Nat) (h : k = (n : Int)) : IntKind.u32.wrap ((a : Int) + k) = (((a + n) % 4294967296 : Nat) : Int) := by
  rw [h, plus_u32]
theorem shr32_u64 (a : Nat) : ((a : Nat) : Int).fdiv (2 ^ (min (32 : Int).toNat IntKind.u64.bits)) = ((a / 2 ^ 32 : Nat) : Int) := shr_u64 a 32 (by decide)

theorem rsha_spec (w0 : World) (L : List Chunk) (s : ByteArray) (hl : s.size ≤ 140737488351232) :
    Meets Try.prog 43 #[.string s] w0 L (SumR (sha1 (u8s s)) L) := by
  have hul := u8s_length s
  have hub := u8s_lt s
  have hpb : ∀ n, ∀ b ∈ padTo n, b < 256 := by
    intro n b hb
    simp only [padTo, List.mem_cons, List.mem_append, List.mem_replicate] at hb
    rcases hb with rfl | h | h | h
    · decide
    · omega
    · exact four_lt _ _ h
    · exact four_lt _ _ h
  refine Meets.of_body [.string s] Try.func43 rfl Try.ntmps43 rfl ?_
  refine SC.seq ?_
  refine SC.plain ?_
  refine St.assign rfl rfl ?_
  refine St.done ?_
  refine SX.seq ?_
  refine SC.seq ?_
  refine SC.plain ?_
  refine St.move rfl rfl ?_
  refine St.lenStr rfl rfl (by kernel_rfl) ?_
  refine St.convI (k := .u64) rfl rfl (by kernel_rfl) (by kernel_rfl) ?_
  rw [wrap_u64, Nat.mod_eq_of_lt (by omega)]
  refine St.mul rfl rfl rfl ?_
  rw [show ((s.size : Nat) : Int) * 8 = ((s.size * 8 : Nat) : Int) by push_cast; rfl, wrap_u64, Nat.mod_eq_of_lt (by omega)]
  refine St.assign rfl rfl ?_
  refine St.done ?_
  refine SX.seq ?_
  refine SC.seq ?_
  refine SC.plain ?_
  refine St.move rfl rfl ?_
  refine St.toBytes (e := 5) rfl rfl (by kernel_rfl) (by kernel_rfl) (by kernel_rfl) (fun _ _ h => h.nil) (fun v1 E1 hb1 _ => ?_)
  have hb1 : Buf 5 1 v1 (bytes (u8s s)) s.size E1 := hb1
  generalize hrs : u8s s = rs at hb1 hul hub
  obtain ⟨n, hn⟩ : ∃ n, n = s.size := ⟨_, rfl⟩
  rw [← hn] at hb1 hul hl ⊢
  refine St.buildSl (e := 5) [(0, .int .u8 128)] (bytes [128]) rfl rfl (by kernel_rfl) (fun _ _ h => h.nil) (fun lit => ?_)
  refine St.perm _ (perm12 _ _ _) ?_
  refine St.append (e := 5) (sz := 1) (bytes := 1) (xs := bytes rs) (n := n) (news := bytes [128]) (m := 1) rfl rfl rfl (by kernel_rfl) hb1 (Rd.row (by first | rfl | simp [bytes]) mem1) (bytes_one _) (by omega) (by omega) (fun _ _ h => h.nil) (fun v3 E3 hb3 _ => ?_)
  rw [← bytes_app] at hb3
  refine St.perm _ (perm12 _ _ _) (St.drop ?_)
  refine St.assign rfl rfl ?_
  refine St.done ?_
  refine SX.seq ?_
  refine SC.seq ?_
  refine SC.block ?_
  refine SC.loop (α := Nat × Value × Chunk) (fun s => s.1 ≤ zerosTo n ∧ Buf 5 1 s.2.1 (bytes (rs ++ 128 :: List.replicate s.1 0)) (n + 1 + s.1) s.2.2) (fun s => [(3, .int .u64 ((n * 8 : Nat) : Int)), (4, s.2.1)]) (fun s => s.2.2 :: L) (fun s => 64 - s.1) (0, v3, E3) ⟨Nat.zero_le _, hb3⟩ ⟨rfl, rfl, trivial⟩ (List.Perm.refl _) ?_
  rintro ⟨z, v4, E4⟩ ⟨hz, hb4⟩
  simp only at hz hb4
  have hzt : zerosTo n < 64 := Nat.mod_lt _ (by decide)
  show SC _ _ _ [(3, .int .u64 ((n * 8 : Nat) : Int)), (4, v4)] (E4 :: L)
  have hbr := hb4.read
  obtain ⟨b4, o4, A4, c4, rfl, _, _⟩ := hbr
  refine SC.seq ?_
  refine SC.seq ?_
  refine SC.plain ?_
  refine St.move rfl rfl ?_
  refine St.lenSl rfl rfl (by kernel_rfl) ?_
  refine St.rem rfl rfl rfl (by omega) ?_
  rw [rem64]
  refine St.neq rfl rfl rfl ?_
  refine St.done ?_
  refine SX.seq ?_
  refine SC.condp rfl (fun c30 => ?_) (fun c30 => ?_)
  · refine SC.skip ?_
    refine SX.seq ?_
    refine SC.block ?_
    refine SC.plain ?_
    refine St.move rfl rfl ?_
    refine St.buildSl (e := 5) [(0, .int .u8 0)] (bytes [0]) rfl rfl (by kernel_rfl) (fun _ _ h => h.nil) (fun lit2 => ?_)
    refine St.perm _ (perm12 _ _ _) ?_
    refine St.append (e := 5) (sz := 1) (bytes := 1) (xs := bytes (rs ++ 128 :: List.replicate z 0)) (n := (n + 1 + z)) (news := bytes [0]) (m := 1) rfl rfl rfl (by kernel_rfl) hb4 (Rd.row (by first | rfl | simp [bytes]) mem1) (bytes_one _) (by omega) (by omega) (fun _ _ h => h.nil) (fun v5 E5 hb5 _ => ?_)
    rw [← bytes_app] at hb5
    refine St.perm _ (perm12 _ _ _) (St.drop ?_)
    refine St.assign rfl rfl ?_
    refine St.done ?_
    refine SX.blk ?_
    exact SX.again (z + 1, v5, E5) ⟨by simp only [zerosTo] at *; omega, by simp only; rw [List.replicate_succ', show n + 1 + (z + 1) = n + 1 + z + 1 by omega]; simpa using hb5⟩ (by simp only [zerosTo] at *; omega) ⟨rfl, rfl, trivial⟩ (List.Perm.refl _)
  · have hze : z = zerosTo n := by simp only [zerosTo] at *; omega
    subst hze
    refine SC.exit ?_
    refine SX.seq_exit ?_
    refine SX.seq_exit ?_
    refine SX.hit ?_
    refine SX.seq ?_
    refine SC.seq ?_
    refine SC.plain ?_
    refine St.move rfl rfl ?_
    refine St.move rfl rfl ?_
    refine St.shr rfl rfl rfl (by omega) ?_
    rw [shr32_u64]
    refine St.convI (k := .u32) rfl rfl (by kernel_rfl) (by kernel_rfl) ?_
    rw [wrap_u32, show n * 8 / 2 ^ 32 % 4294967296 = n / 2 ^ 29 % 4294967296 by omega]
    refine St.move rfl rfl ?_
    refine St.convI (k := .u32) rfl rfl (by kernel_rfl) (by kernel_rfl) ?_
    rw [wrap_u32]
    refine St.buildSl (e := 33) [(0, w32 (n / 2 ^ 29 % 4294967296)), (1, w32 (n * 8 % 4294967296))] (w32s [n / 2 ^ 29 % 4294967296, n * 8 % 4294967296]) rfl rfl (by kernel_rfl) (fun _ _ h => h.nil) (fun lw => ?_)
    refine St.call [.slice (some ⟨lw, 0, none⟩) 2 2] rfl (by kernel_rfl) rfl (words_spec w0 _ _ [n / 2 ^ 29 % 4294967296, n * 8 % 4294967296] (Rd.row rfl mem0) (by simp)) (fun _ _ _ _ h => h.nil) ?_
    rintro rw1 L1 ⟨Ew, rfl, hbw⟩
    refine St.perm _ (perm12 _ _ _) (St.drop (St.perm _ (perm12 _ _ _) ?_))
    refine St.append (e := 5) (sz := 1) (bytes := 1) (xs := bytes (rs ++ 128 :: List.replicate (zerosTo n) 0)) (n := n + 1 + zerosTo n) (news := bytes ([n / 2 ^ 29 % 4294967296, n * 8 % 4294967296].flatMap four)) (m := 8) rfl rfl rfl (by kernel_rfl) hb4 (hbw.rd (List.mem_cons_of_mem _ List.mem_cons_self)) (bytes_one _) (by omega) (by omega) (fun _ _ h => h.nil) (fun v5 E5 hb5 _ => ?_)
    rw [← bytes_app] at hb5
    refine St.perm _ (perm12 _ _ _) (St.drop ?_)
    have hto : rs ++ 128 :: List.replicate (zerosTo n) 0 ++ [n / 2 ^ 29 % 4294967296, n * 8 % 4294967296].flatMap four = rs ++ padTo n := by simp [padTo, List.append_assoc]
    rw [hto] at hb5
    have htl2 := hb5.len
    have hpl := pad_len n
    have hsh : sha1 rs = words5 (blocks (rs ++ padTo n) h0 ((n + (padTo n).length) / 64)) := by unfold sha1; rw [hul]
    have htb : ∀ b ∈ rs ++ padTo n, b < 256 := fun b hb => (List.mem_append.1 hb).elim (hub b) (hpb n b)
    have htlen : (rs ++ padTo n).length = n + (padTo n).length := by rw [List.length_append, hul]
    generalize rs ++ padTo n = tot at hb5 htl2 hsh htb htlen
    rw [bytes_length, Nat.mul_one] at htl2
    rw [← htl2] at hb5
    rw [← htlen] at hsh hpl
    have hbr := hb5.read
    obtain ⟨b5, o5, A5, c5, rfl, hA5, hbh5⟩ := hbr
    refine St.assign rfl rfl ?_
    refine St.done ?_
    refine SX.seq ?_
    refine SC.seq ?_
    refine SC.plain ?_
    refine St.buildSl (e := 33) [(0, .int .u32 1732584193), (1, .int .u32 4023233417), (2, .int .u32 2562383102), (3, .int .u32 271733878), (4, .int .u32 3285377520)] (w32s (list5 h0)) rfl rfl (by kernel_rfl) (fun _ _ h => h.nil) (fun hp0 => ?_)
    refine St.assign rfl rfl ?_
    refine St.done ?_
    refine SX.seq ?_
    refine SC.seq ?_
    refine SC.plain ?_
    refine St.makeSl (e := 33) (zv := .int .u32 0) (bytes := 4) rfl rfl rfl (by kernel_rfl) (by omega) (by omega) (by omega) (fun _ _ h => h.nil) (fun wp => ?_)
    refine St.assign rfl rfl ?_
    refine St.done ?_
    refine SX.seq ?_
    refine SC.seq ?_
    refine SC.seq ?_
    refine SC.plain ?_
    refine St.assign rfl rfl ?_
    refine St.done ?_
    refine SX.seq ?_
    refine SC.block ?_
    refine SC.loop (α := Nat × Nat × List Nat) (fun s => 64 * s.1 ≤ tot.length ∧ s.2.2.length = 80) (fun s => [(4, .slice A5 tot.length c5), (5, .slice (some ⟨s.2.1, 0, none⟩) 5 5), (6, .slice (some ⟨wp, 0, none⟩) 80 80), (7, .int .i64 ((64 * s.1 : Nat) : Int))]) (fun s => [⟨wp, w32s s.2.2, 33⟩] :: [⟨s.2.1, w32s (list5 (blocks tot h0 s.1)), 33⟩] :: E5 :: L) (fun s => tot.length - 64 * s.1) (0, hp0, List.replicate 80 0) ⟨Nat.zero_le _, by simp⟩ ⟨rfl, rfl, rfl, rfl, trivial⟩ (List.Perm.refl _) ?_
    rintro ⟨j, hp, ws⟩ ⟨hj, hws⟩
    simp only at hj hws
    have hsm := blocks_small (bs := tot) h0_small j
    have hnext : blocks tot h0 (j + 1) = mixOf (blocks tot h0 j) (tot.drop (64 * j)) := rfl
    generalize hh : blocks tot h0 j = hs at hsm hnext
    obtain ⟨j0, j1, j2, j3, j4⟩ := hs
    show SC _ _ _ [(4, .slice A5 tot.length c5), (5, .slice (some ⟨hp, 0, none⟩) 5 5), (6, .slice (some ⟨wp, 0, none⟩) 80 80), (7, .int .i64 ((64 * j : Nat) : Int))] ([⟨wp, w32s ws, 33⟩] :: [⟨hp, w32s [j0, j1, j2, j3, j4], 33⟩] :: E5 :: L)
    refine SC.seq ?_
    refine SC.seq ?_
    refine SC.plain ?_
    refine St.move rfl rfl ?_
    refine St.move rfl rfl ?_
    refine St.lenSl rfl rfl (by kernel_rfl) ?_
    refine St.lss rfl rfl rfl ?_
    refine St.done ?_
    refine SX.seq ?_
    refine SC.condp rfl (fun c48 => ?_) (fun c48 => ?_)
    · have hlt : 64 * j < tot.length := by omega
      have hAe := hA5 (by omega)
      subst hAe
      have hbh := hbh5 w0 (E5 :: L) List.mem_cons_self
      have hBb : ∀ b ∈ (tot.drop (64 * j)), b < 256 := fun b hb => htb b (List.mem_of_mem_drop hb)
      refine SC.skip ?_
      refine SX.seq ?_
      refine SC.seq ?_
      refine SC.block ?_
      refine SC.seq ?_
      refine SC.seq ?_
      refine SC.plain ?_
      refine St.assign rfl rfl ?_
      refine St.done ?_
      refine SX.seq ?_
      refine SC.block ?_
      refine SC.loop (α := Nat × List Nat) (fun s => s.1 ≤ 80 ∧ s.2.length = 80 - s.1) (fun s => [(4, .slice (some ⟨b5, o5, none⟩) tot.length c5), (5, .slice (some ⟨hp, 0, none⟩) 5 5), (6, .slice (some ⟨wp, 0, none⟩) 80 80), (7, .int .i64 ((64 * j : Nat) : Int)), (8, .int .i64 ((s.1 : Nat) : Int))]) (fun s => [⟨wp, w32s (wl (tot.drop (64 * j)) s.1 ++ s.2), 33⟩] :: [⟨hp, w32s [j0, j1, j2, j3, j4], 33⟩] :: E5 :: L) (fun s => 80 - s.1) (0, ws) ⟨Nat.zero_le _, hws⟩ ⟨rfl, rfl, rfl, rfl, rfl, trivial⟩ (List.Perm.refl _) ?_
      rintro ⟨t, r0⟩ ⟨ht, hr0⟩
      simp only at ht hr0
      have hwl := wl_len (tot.drop (64 * j)) t
      have hwb := wl_lt hBb t
      show SC _ _ _ [(4, .slice (some ⟨b5, o5, none⟩) tot.length c5), (5, .slice (some ⟨hp, 0, none⟩) 5 5), (6, .slice (some ⟨wp, 0, none⟩) 80 80), (7, .int .i64 ((64 * j : Nat) : Int)), (8, .int .i64 ((t : Nat) : Int))] ([⟨wp, w32s (wl (tot.drop (64 * j)) t ++ r0), 33⟩] :: [⟨hp, w32s [j0, j1, j2, j3, j4], 33⟩] :: E5 :: L)
      refine SC.seq ?_
      refine SC.seq ?_
      refine SC.plain ?_
      refine St.move rfl rfl ?_
      refine St.lss rfl rfl rfl ?_
      refine St.done ?_
      refine SX.seq ?_
      refine SC.condp rfl (fun c52 => ?_) (fun c52 => ?_)
      · obtain ⟨x0, r1, rfl⟩ : ∃ x0 r1, r0 = x0 :: r1 := by cases r0 with | nil => simp at hr0; omega | cons a l => exact ⟨a, l, rfl⟩
        refine SC.skip ?_
        refine SX.seq ?_
        refine SC.seq ?_
        refine SC.block ?_
        refine SC.seq ?_
        refine SC.plain ?_
        refine St.move rfl rfl ?_
        refine St.lss rfl rfl rfl ?_
        refine St.done ?_
        refine SX.seq ?_
        refine SC.condp rfl (fun c56 => ?_) (fun c56 => ?_)
        · have hw1 : wl (tot.drop (64 * j)) (t + 1) = wl (tot.drop (64 * j)) t ++ [be32 (tot.getD (64 * j + 4 * t) 0) (tot.getD (64 * j + (4 * t + 1)) 0) (tot.getD (64 * j + (4 * t + 2)) 0) (tot.getD (64 * j + (4 * t + 3)) 0)] := by simp only [wl, word]; rw [if_pos (by omega), getD_drop, getD_drop, getD_drop, getD_drop]
          have g0 := getD_lt htb (64 * j + 4 * t)
          have g1 := getD_lt htb (64 * j + (4 * t + 1))
          have g2 := getD_lt htb (64 * j + (4 * t + 2))
          have g3 := getD_lt htb (64 * j + (4 * t + 3))
          refine SC.seq ?_
          refine SC.plain ?_
          refine St.move rfl rfl ?_
          refine St.move rfl rfl ?_
          refine St.mulI rfl rfl rfl (by omega) ?_
          refine St.addI rfl rfl rfl (by omega) ?_
          refine St.assign rfl rfl ?_
          refine St.done ?_
          refine SX.seq ?_
          refine SC.drawn [(0, true), (1, true), (2, true), (3, true), (4, true), (5, true), (6, true), (7, true), (8, true), (9, true), (10, true), (11, true), (12, true), (13, true), (14, true), (15, true), (16, true), (17, true), (18, true), (19, true), (20, true), (21, true), (22, true), (23, true), (24, true), (25, true), (26, true), (27, true), (28, true), (29, true), (30, true), (31, true)] [32] (_) (by kernel_rfl) (by kernel_rfl) (fun _ h => h) ?_
          refine St.move rfl rfl ?_
          refine St.move rfl rfl ?_
          refine St.move rfl rfl ?_
          refine St.move rfl rfl ?_
          refine St.indexSl (e := 5) (sz := 1) rfl rfl rfl (by kernel_rfl) (by omega) ?_
          refine St.load rfl rfl (by kernel_rfl) (byte_at0 (hbh.cons.cons) (64 * j + 4 * t) (by omega) _ (by omega)) ?_
          refine St.convI (k := .u32) rfl rfl (by kernel_rfl) (by kernel_rfl) ?_
          rw [wrap_u32_lt _ (by omega)]
          refine St.shl rfl rfl rfl (by omega) ?_
          rw [shl_24]
          refine St.move rfl rfl ?_
          refine St.move rfl rfl ?_
          refine St.addI rfl rfl rfl (by omega) ?_
          refine St.indexSl (e := 5) (sz := 1) rfl rfl rfl (by kernel_rfl) (by omega) ?_
          refine St.load rfl rfl (by kernel_rfl) (byte_at0 (hbh.cons.cons) (64 * j + (4 * t + 1)) (by omega) _ (by omega)) ?_
          refine St.convI (k := .u32) rfl rfl (by kernel_rfl) (by kernel_rfl) ?_
          rw [wrap_u32_lt _ (by omega)]
          refine St.shl rfl rfl rfl (by omega) ?_
          rw [shl_16]
          refine St.orI rfl rfl rfl ?_
          rw [or_u32 _ _ (mod32 _) (mod32 _)]
          refine St.move rfl rfl ?_
          refine St.move rfl rfl ?_
          refine St.addI rfl rfl rfl (by omega) ?_
          refine St.indexSl (e := 5) (sz := 1) rfl rfl rfl (by kernel_rfl) (by omega) ?_
          refine St.load rfl rfl (by kernel_rfl) (byte_at0 (hbh.cons.cons) (64 * j + (4 * t + 2)) (by omega) _ (by omega)) ?_
          refine St.convI (k := .u32) rfl rfl (by kernel_rfl) (by kernel_rfl) ?_
          rw [wrap_u32_lt _ (by omega)]
          refine St.shl rfl rfl rfl (by omega) ?_
          rw [shl_8]
          refine St.orI rfl rfl rfl ?_
          rw [or_u32 _ _ (or_lt (mod32 _) (mod32 _)) (mod32 _)]
          refine St.move rfl rfl ?_
          refine St.move rfl rfl ?_
          refine St.addI rfl rfl rfl (by omega) ?_
          refine St.indexSl (e := 5) (sz := 1) rfl rfl rfl (by kernel_rfl) (by omega) ?_
          refine St.load rfl rfl (by kernel_rfl) (byte_at0 (hbh.cons.cons) (64 * j + (4 * t + 3)) (by omega) _ (by omega)) ?_
          refine St.convI (k := .u32) rfl rfl (by kernel_rfl) (by kernel_rfl) ?_
          rw [wrap_u32_lt _ (by omega)]
          refine St.orI rfl rfl rfl ?_
          rw [or_u32 _ _ (or_lt (or_lt (mod32 _) (mod32 _)) (mod32 _)) (by omega)]
          refine St.indexSl (e := 33) (sz := 1) rfl rfl rfl (by kernel_rfl) (by omega) ?_
          refine St.done ?_
          refine SX.tail ?_
          refine St.store rfl rfl rfl rfl (by kernel_rfl) (by rw [w32s_length, List.length_append, hwl, hr0]; omega) (fun _ h => h.nil) ?_
          rw [set_mid _ _ _ _ _ (by omega)]
          refine St.done ?_
          refine SX.blk ?_
          refine SX.seq ?_
          refine SC.plain ?_
          refine St.move rfl rfl ?_
          refine St.addI rfl rfl rfl (by omega) ?_
          refine St.assign rfl rfl ?_
          refine St.done ?_
          exact SX.again (t + 1, r1) ⟨by simp only; omega, by simp only [List.length_cons] at hr0 ⊢; omega⟩ (by simp only; omega) ⟨rfl, rfl, rfl, rfl, rfl, trivial⟩ (by (rw [hw1]) <;> exact List.Perm.refl _)
        · have hw1 : wl (tot.drop (64 * j)) (t + 1) = wl (tot.drop (64 * j)) t ++ [rotl ((wl (tot.drop (64 * j)) t).getD (t - 3) 0 ^^^ (wl (tot.drop (64 * j)) t).getD (t - 8) 0 ^^^ (wl (tot.drop (64 * j)) t).getD (t - 14) 0 ^^^ (wl (tot.drop (64 * j)) t).getD (t - 16) 0) 1] := by simp only [wl, word]; rw [if_neg (by omega)]
          have g0 := mem_getD_lt hwb (t - 3)
          have g1 := mem_getD_lt hwb (t - 8)
          have g2 := mem_getD_lt hwb (t - 14)
          have g3 := mem_getD_lt hwb (t - 16)
          refine SC.drawn [(0, true), (1, true), (2, true), (3, true), (4, true), (5, true), (6, true), (7, true), (8, true), (9, true), (10, true), (11, true), (12, true), (13, true), (14, true), (15, true), (16, true), (17, true), (18, true), (19, true), (20, true), (21, true), (22, true), (23, true), (24, true), (25, false), (26, true)] [27] ([⟨wp, w32s (wl (tot.drop (64 * j)) t ++ x0 :: r1), 33⟩] :: [⟨hp, w32s [j0, j1, j2, j3, j4], 33⟩] :: E5 :: L) (by kernel_rfl) (by kernel_rfl) (fun _ h => h) ?_
          refine St.move rfl rfl ?_
          refine St.move rfl rfl ?_
          refine St.move rfl rfl ?_
          refine St.move rfl rfl ?_
          refine St.subI rfl rfl rfl (by omega) ?_
          refine St.indexSl (e := 33) (sz := 1) rfl rfl rfl (by kernel_rfl) (by omega) ?_
          refine St.load rfl rfl (by kernel_rfl) (at_row mem0 (t - 3) _ (get_front _ _ _ (by omega)) (by omega)) ?_
          refine St.move rfl rfl ?_
          refine St.move rfl rfl ?_
          refine St.subI rfl rfl rfl (by omega) ?_
          refine St.indexSl (e := 33) (sz := 1) rfl rfl rfl (by kernel_rfl) (by omega) ?_
          refine St.load rfl rfl (by kernel_rfl) (at_row mem0 (t - 8) _ (get_front _ _ _ (by omega)) (by omega)) ?_
          refine St.xorI rfl rfl rfl ?_
          rw [xor_u32 _ _ g0 g1]
          refine St.move rfl rfl ?_
          refine St.move rfl rfl ?_
          refine St.subI rfl rfl rfl (by omega) ?_
          refine St.indexSl (e := 33) (sz := 1) rfl rfl rfl (by kernel_rfl) (by omega) ?_
          refine St.load rfl rfl (by kernel_rfl) (at_row mem0 (t - 14) _ (get_front _ _ _ (by omega)) (by omega)) ?_
          refine St.xorI rfl rfl rfl ?_
          rw [xor_u32 _ _ (xor_lt g0 g1) g2]
          refine St.move rfl rfl ?_
          refine St.move rfl rfl ?_
          refine St.subI rfl rfl rfl (by omega) ?_
          refine St.indexSl (e := 33) (sz := 1) rfl rfl rfl (by kernel_rfl) (by omega) ?_
          refine St.load rfl rfl (by kernel_rfl) (at_row mem0 (t - 16) _ (get_front _ _ _ (by omega)) (by omega)) ?_
          refine St.xorI rfl rfl rfl ?_
          rw [xor_u32 _ _ (xor_lt (xor_lt g0 g1) g2) g3]
          refine St.call [.int .u32 _, .int .i64 1] rfl (by kernel_rfl) rfl (rol_spec w0 _ _ 1 (xor_lt (xor_lt (xor_lt g0 g1) g2) g3) (by decide)) (fun _ _ _ h hw => h.1 ▸ hw) ?_
          rintro r L1 ⟨rfl, rfl⟩
          refine St.indexSl (e := 33) (sz := 1) rfl rfl rfl (by kernel_rfl) (by omega) ?_
          refine St.done ?_
          refine SX.tail ?_
          refine St.store rfl rfl rfl rfl (by kernel_rfl) (by rw [w32s_length, List.length_append, hwl, hr0]; omega) (fun _ h => h.nil) ?_
          rw [set_mid _ _ _ _ _ (by omega)]
          refine St.done ?_
          refine SX.blk ?_
          refine SX.seq ?_
          refine SC.plain ?_
          refine St.move rfl rfl ?_
          refine St.addI rfl rfl rfl (by omega) ?_
          refine St.assign rfl rfl ?_
          refine St.done ?_
          exact SX.again (t + 1, r1) ⟨by simp only; omega, by simp only [List.length_cons] at hr0 ⊢; omega⟩ (by simp only; omega) ⟨rfl, rfl, rfl, rfl, rfl, trivial⟩ (by (rw [hw1]) <;> exact List.Perm.refl _)
      · have hte : t = 80 := by omega
        subst hte
        have hre : r0 = [] := List.eq_nil_of_length_eq_zero (by omega)
        subst hre
        rw [List.append_nil]
        generalize hwsd : wl (tot.drop (64 * j)) 80 = wf at hwl hwb ⊢
        refine SC.exit ?_
        refine SX.seq_exit ?_
        refine SX.seq_exit ?_
        refine SX.hit ?_
        refine SX.seq ?_
        refine SC.seq ?_
        refine SC.plain ?_
        refine St.move rfl rfl ?_
        refine St.indexSl (e := 33) (sz := 1) rfl rfl rfl (by kernel_rfl) (by omega) ?_
        refine St.load rfl rfl (by kernel_rfl) (Holds.row mem1 (v := .int .u32 ((j0 : Nat) : Int)) rfl) ?_
        refine St.assign rfl rfl ?_
        refine St.done ?_
        refine SX.seq ?_
        refine SC.seq ?_
        refine SC.plain ?_
        refine St.move rfl rfl ?_
        refine St.indexSl (e := 33) (sz := 1) rfl rfl rfl (by kernel_rfl) (by omega) ?_
        refine St.load rfl rfl (by kernel_rfl) (Holds.row mem1 (v := .int .u32 ((j1 : Nat) : Int)) rfl) ?_
        refine St.assign rfl rfl ?_
        refine St.done ?_
        refine SX.seq ?_
        refine SC.seq ?_
        refine SC.plain ?_
        refine St.move rfl rfl ?_
        refine St.indexSl (e := 33) (sz := 1) rfl rfl rfl (by kernel_rfl) (by omega) ?_
        refine St.load rfl rfl (by kernel_rfl) (Holds.row mem1 (v := .int .u32 ((j2 : Nat) : Int)) rfl) ?_
        refine St.assign rfl rfl ?_
        refine St.done ?_
        refine SX.seq ?_
        refine SC.seq ?_
        refine SC.plain ?_
        refine St.move rfl rfl ?_
        refine St.indexSl (e := 33) (sz := 1) rfl rfl rfl (by kernel_rfl) (by omega) ?_
        refine St.load rfl rfl (by kernel_rfl) (Holds.row mem1 (v := .int .u32 ((j3 : Nat) : Int)) rfl) ?_
        refine St.assign rfl rfl ?_
        refine St.done ?_
        refine SX.seq ?_
        refine SC.seq ?_
        refine SC.plain ?_
        refine St.move rfl rfl ?_
        refine St.indexSl (e := 33) (sz := 1) rfl rfl rfl (by kernel_rfl) (by omega) ?_
        refine St.load rfl rfl (by kernel_rfl) (Holds.row mem1 (v := .int .u32 ((j4 : Nat) : Int)) rfl) ?_
        refine St.assign rfl rfl ?_
        refine St.done ?_
        refine SX.seq ?_
        refine SC.seq ?_
        refine SC.seq ?_
        refine SC.plain ?_
        refine St.assign rfl rfl ?_
        refine St.done ?_
        refine SX.seq ?_
        refine SC.block ?_
        refine SC.loop (α := Nat) (fun t => t ≤ 80) (fun t => [(4, .slice (some ⟨b5, o5, none⟩) tot.length c5), (5, .slice (some ⟨hp, 0, none⟩) 5 5), (6, .slice (some ⟨wp, 0, none⟩) 80 80), (7, .int .i64 ((64 * j : Nat) : Int)), (10, w32 (rounds wf (j0, j1, j2, j3, j4) t).1), (11, w32 (rounds wf (j0, j1, j2, j3, j4) t).2.1), (12, w32 (rounds wf (j0, j1, j2, j3, j4) t).2.2.1), (13, w32 (rounds wf (j0, j1, j2, j3, j4) t).2.2.2.1), (14, w32 (rounds wf (j0, j1, j2, j3, j4) t).2.2.2.2), (15, .int .i64 ((t : Nat) : Int))]) (fun t => [⟨wp, w32s wf, 33⟩] :: [⟨hp, w32s [j0, j1, j2, j3, j4], 33⟩] :: E5 :: L) (fun t => 80 - t) 0 (by omega) ⟨rfl, rfl, rfl, rfl, rfl, rfl, rfl, rfl, rfl, rfl, trivial⟩ (List.Perm.refl _) ?_
        intro t ht
        have hsm := rounds_small (ws := wf) hsm t
        have hsucc : rounds wf (j0, j1, j2, j3, j4) (t + 1) = round wf t (rounds wf (j0, j1, j2, j3, j4) t) := rfl
        generalize hr : rounds wf (j0, j1, j2, j3, j4) t = s5 at hsm hsucc ⊢
        obtain ⟨va, vb, vc, vd, ve⟩ := s5
        obtain ⟨ha, hvb, hvc, hvd, hve⟩ := hsm
        simp only at ha hvb hvc hvd hve
        show SC _ _ _ [(4, .slice (some ⟨b5, o5, none⟩) tot.length c5), (5, .slice (some ⟨hp, 0, none⟩) 5 5), (6, .slice (some ⟨wp, 0, none⟩) 80 80), (7, .int .i64 ((64 * j : Nat) : Int)), (10, .int .u32 ((va : Nat) : Int)), (11, .int .u32 ((vb : Nat) : Int)), (12, .int .u32 ((vc : Nat) : Int)), (13, .int .u32 ((vd : Nat) : Int)), (14, .int .u32 ((ve : Nat) : Int)), (15, .int .i64 ((t : Nat) : Int))] ([⟨wp, w32s wf, 33⟩] :: [⟨hp, w32s [j0, j1, j2, j3, j4], 33⟩] :: E5 :: L)
        refine SC.seq ?_
        refine SC.seq ?_
        refine SC.plain ?_
        refine St.move rfl rfl ?_
        refine St.lss rfl rfl rfl ?_
        refine St.done ?_
        refine SX.seq ?_
        refine SC.condp rfl (fun c136 => ?_) (fun c136 => ?_)
        · have hwt := w32s_get wf t (by omega)
          refine SC.skip ?_
          refine SX.seq ?_
          refine SC.seq ?_
          refine SC.block ?_
          refine SC.seq ?_
          refine SC.plain ?_
          refine St.move rfl rfl ?_
          refine St.move rfl rfl ?_
          refine St.andI rfl rfl rfl ?_
          rw [and_u32 _ _ hvb hvc]
          refine St.move rfl rfl ?_
          refine St.compl rfl rfl ?_
          rw [no_u32 _ hvb]
          refine St.move rfl rfl ?_
          refine St.andI rfl rfl rfl ?_
          rw [and_u32 _ _ (no_lt hvb) hvd]
          refine St.orI rfl rfl rfl ?_
          rw [or_u32 _ _ (and_lt hvb) (and_lt (no_lt hvb))]
          refine St.assign rfl rfl ?_
          refine St.done ?_
          refine SX.seq ?_
          refine SC.seq ?_
          refine SC.plain ?_
          refine St.assign rfl rfl ?_
          refine St.done ?_
          refine SX.seq ?_
          refine SC.seq ?_
          refine SC.block ?_
          refine SC.seq ?_
          refine SC.plain ?_
          refine St.move rfl rfl ?_
          refine St.geq rfl rfl rfl ?_
          refine St.assign rfl rfl ?_
          refine St.done ?_
          refine SX.seq ?_
          refine SC.condp rfl (fun c147 => ?_) (fun c147 => ?_)
          · have hi : t / 20 = 3 := by omega
            have hfk : fOf (t / 20) vb vc vd = parf vb vc vd ∧ kOf (t / 20) = 3395469782 := by rw [hi]; exact ⟨rfl, rfl⟩
            have hk : (3395469782 : Int) = ((kOf (t / 20) : Nat) : Int) := by rw [hfk.2]; rfl
            refine SC.seq ?_
            refine SC.plain ?_
            refine St.move rfl rfl ?_
            refine St.move rfl rfl ?_
            refine St.xorI rfl rfl rfl ?_
            rw [xor_u32 _ _ hvb hvc]
            refine St.move rfl rfl ?_
            refine St.xorI rfl rfl rfl ?_
            rw [xor_u32 _ _ (xor_lt hvb hvc) hvd]
            refine St.assign rfl rfl ?_
            refine St.done ?_
            refine SX.seq ?_
            refine SC.plain ?_
            refine St.assign rfl rfl ?_
            refine St.done ?_
            refine SX.blk ?_
            refine SX.seq ?_
            refine SC.seq ?_
            refine SC.drawn [(0, true), (2, true), (4, true), (6, true), (8, true), (9, true), (10, true), (11, true), (1, false), (3, true), (5, true), (7, true), (12, true), (13, true)] [] ([⟨wp, w32s wf, 33⟩] :: [⟨hp, w32s [j0, j1, j2, j3, j4], 33⟩] :: E5 :: L) (by kernel_rfl) (by kernel_rfl) (fun _ h => h) ?_
            refine St.move rfl rfl ?_
            refine St.move rfl rfl ?_
            refine St.move rfl rfl ?_
            refine St.move rfl rfl ?_
            refine St.move rfl rfl ?_
            refine St.move rfl rfl ?_
            refine St.indexSl (e := 33) (sz := 1) rfl rfl rfl (by kernel_rfl) (by omega) ?_
            refine St.load rfl rfl (by kernel_rfl) (at_row mem0 t _ hwt (by omega)) ?_
            refine St.call [.int .u32 ((va : Nat) : Int), .int .i64 5] rfl (by kernel_rfl) rfl (rol_spec w0 _ va 5 ha (by decide)) (fun _ _ _ h hw => h.1 ▸ hw) ?_
            rintro r L1 ⟨rfl, rfl⟩
            refine St.add rfl rfl rfl ?_
            rw [plus_u32]
            refine St.add rfl rfl rfl ?_
            rw [plus_u32]
            refine St.add rfl rfl rfl ?_
            rw [plus_k _ _ hk]
            refine St.add rfl rfl rfl ?_
            rw [plus_u32]
            refine St.assign rfl rfl ?_
            refine St.done ?_
            refine SX.tail ?_
            refine St.done ?_
            refine SX.seq ?_
            refine SC.seq ?_
            refine SC.plain ?_
            refine St.move rfl rfl ?_
            refine St.assign rfl rfl ?_
            refine St.done ?_
            refine SX.seq ?_
            refine SC.seq ?_
            refine SC.plain ?_
            refine St.move rfl rfl ?_
            refine St.assign rfl rfl ?_
            refine St.done ?_
            refine SX.seq ?_
            refine SC.seq ?_
            refine SC.plain ?_
            refine St.move rfl rfl ?_
            refine St.call [.int .u32 ((vb : Nat) : Int), .int .i64 30] rfl (by kernel_rfl) rfl (rol_spec w0 _ vb 30 hvb (by decide)) (fun _ _ _ _ h => h.nil) ?_
            rintro r L1 ⟨rfl, rfl⟩
            refine St.assign rfl rfl ?_
            refine St.done ?_
            refine SX.seq ?_
            refine SC.seq ?_
            refine SC.plain ?_
            refine St.move rfl rfl ?_
            refine St.assign rfl rfl ?_
            refine St.done ?_
            refine SX.seq ?_
            refine SC.plain ?_
            refine St.move rfl rfl ?_
            refine St.assign rfl rfl ?_
            refine St.done ?_
            refine SX.blk ?_
            refine SX.seq ?_
            refine SC.plain ?_
            refine St.move rfl rfl ?_
            refine St.addI rfl rfl rfl (by omega) ?_
            refine St.assign rfl rfl ?_
            refine St.done ?_
            exact SX.again (t + 1) (by omega) (by show 80 - (t + 1) < 80 - t; omega) ⟨rfl, rfl, rfl, rfl, by rw [hsucc]; simp only [round, hfk.1]; rfl, by rw [hsucc]; rfl, by rw [hsucc]; rfl, by rw [hsucc]; rfl, by rw [hsucc]; rfl, rfl, trivial⟩ (List.Perm.refl _)
          · refine SC.seq ?_
            refine SC.plain ?_
            refine St.move rfl rfl ?_
            refine St.geq rfl rfl rfl ?_
            refine St.assign rfl rfl ?_
            refine St.done ?_
            refine SX.seq ?_
            refine SC.condp rfl (fun c155 => ?_) (fun c155 => ?_)
            · have hi : t / 20 = 2 := by omega
              have hfk : fOf (t / 20) vb vc vd = majf vb vc vd ∧ kOf (t / 20) = 2400959708 := by rw [hi]; exact ⟨rfl, rfl⟩
              have hk : (2400959708 : Int) = ((kOf (t / 20) : Nat) : Int) := by rw [hfk.2]; rfl
              refine SC.seq ?_
              refine SC.plain ?_
              refine St.move rfl rfl ?_
              refine St.move rfl rfl ?_
              refine St.andI rfl rfl rfl ?_
              rw [and_u32 _ _ hvb hvc]
              refine St.move rfl rfl ?_
              refine St.move rfl rfl ?_
              refine St.andI rfl rfl rfl ?_
              rw [and_u32 _ _ hvb hvd]
              refine St.orI rfl rfl rfl ?_
              rw [or_u32 _ _ (and_lt hvb) (and_lt hvb)]
              refine St.move rfl rfl ?_
              refine St.move rfl rfl ?_
              refine St.andI rfl rfl rfl ?_
              rw [and_u32 _ _ hvc hvd]
              refine St.orI rfl rfl rfl ?_
              rw [or_u32 _ _ (or_lt (and_lt hvb) (and_lt hvb)) (and_lt hvc)]
              refine St.assign rfl rfl ?_
              refine St.done ?_
              refine SX.seq ?_
              refine SC.plain ?_
              refine St.assign rfl rfl ?_
              refine St.done ?_
              refine SX.blk ?_
              refine SX.seq ?_
              refine SC.seq ?_
              refine SC.drawn [(0, true), (2, true), (4, true), (6, true), (8, true), (9, true), (10, true), (11, true), (1, false), (3, true), (5, true), (7, true), (12, true), (13, true)] [] ([⟨wp, w32s wf, 33⟩] :: [⟨hp, w32s [j0, j1, j2, j3, j4], 33⟩] :: E5 :: L) (by kernel_rfl) (by kernel_rfl) (fun _ h => h) ?_
              refine St.move rfl rfl ?_
              refine St.move rfl rfl ?_
              refine St.move rfl rfl ?_
              refine St.move rfl rfl ?_
              refine St.move rfl rfl ?_
              refine St.move rfl rfl ?_
              refine St.indexSl (e := 33) (sz := 1) rfl rfl rfl (by kernel_rfl) (by omega) ?_
              refine St.load rfl rfl (by kernel_rfl) (at_row mem0 t _ hwt (by omega)) ?_
              refine St.call [.int .u32 ((va : Nat) : Int), .int .i64 5] rfl (by kernel_rfl) rfl (rol_spec w0 _ va 5 ha (by decide)) (fun _ _ _ h hw => h.1 ▸ hw) ?_
              rintro r L1 ⟨rfl, rfl⟩
              refine St.add rfl rfl rfl ?_
              rw [plus_u32]
              refine St.add rfl rfl rfl ?_
              rw [plus_u32]
              refine St.add rfl rfl rfl ?_
              rw [plus_k _ _ hk]
              refine St.add rfl rfl rfl ?_
              rw [plus_u32]
              refine St.assign rfl rfl ?_
              refine St.done ?_
              refine SX.tail ?_
              refine St.done ?_
              refine SX.seq ?_
              refine SC.seq ?_
              refine SC.plain ?_
              refine St.move rfl rfl ?_
              refine St.assign rfl rfl ?_
              refine St.done ?_
              refine SX.seq ?_
              refine SC.seq ?_
              refine SC.plain ?_
              refine St.move rfl rfl ?_
              refine St.assign rfl rfl ?_
              refine St.done ?_
              refine SX.seq ?_
              refine SC.seq ?_
              refine SC.plain ?_
              refine St.move rfl rfl ?_
              refine St.call [.int .u32 ((vb : Nat) : Int), .int .i64 30] rfl (by kernel_rfl) rfl (rol_spec w0 _ vb 30 hvb (by decide)) (fun _ _ _ _ h => h.nil) ?_
              rintro r L1 ⟨rfl, rfl⟩
              refine St.assign rfl rfl ?_
              refine St.done ?_
              refine SX.seq ?_
              refine SC.seq ?_
              refine SC.plain ?_
              refine St.move rfl rfl ?_
              refine St.assign rfl rfl ?_
              refine St.done ?_
              refine SX.seq ?_
              refine SC.plain ?_
              refine St.move rfl rfl ?_
              refine St.assign rfl rfl ?_
              refine St.done ?_
              refine SX.blk ?_
              refine SX.seq ?_
              refine SC.plain ?_
              refine St.move rfl rfl ?_
              refine St.addI rfl rfl rfl (by omega) ?_
              refine St.assign rfl rfl ?_
              refine St.done ?_
              exact SX.again (t + 1) (by omega) (by show 80 - (t + 1) < 80 - t; omega) ⟨rfl, rfl, rfl, rfl, by rw [hsucc]; simp only [round, hfk.1]; rfl, by rw [hsucc]; rfl, by rw [hsucc]; rfl, by rw [hsucc]; rfl, by rw [hsucc]; rfl, rfl, trivial⟩ (List.Perm.refl _)
            · refine SC.seq ?_
              refine SC.plain ?_
              refine St.move rfl rfl ?_
              refine St.geq rfl rfl rfl ?_
              refine St.assign rfl rfl ?_
              refine St.done ?_
              refine SX.seq ?_
              refine SC.condp rfl (fun c169 => ?_) (fun c169 => ?_)
              · have hi : t / 20 = 1 := by omega
                have hfk : fOf (t / 20) vb vc vd = parf vb vc vd ∧ kOf (t / 20) = 1859775393 := by rw [hi]; exact ⟨rfl, rfl⟩
                have hk : (1859775393 : Int) = ((kOf (t / 20) : Nat) : Int) := by rw [hfk.2]; rfl
                refine SC.seq ?_
                refine SC.plain ?_
                refine St.move rfl rfl ?_
                refine St.move rfl rfl ?_
                refine St.xorI rfl rfl rfl ?_
                rw [xor_u32 _ _ hvb hvc]
                refine St.move rfl rfl ?_
                refine St.xorI rfl rfl rfl ?_
                rw [xor_u32 _ _ (xor_lt hvb hvc) hvd]
                refine St.assign rfl rfl ?_
                refine St.done ?_
                refine SX.seq ?_
                refine SC.plain ?_
                refine St.assign rfl rfl ?_
                refine St.done ?_
                refine SX.blk ?_
                refine SX.seq ?_
                refine SC.seq ?_
                refine SC.drawn [(0, true), (2, true), (4, true), (6, true), (8, true), (9, true), (10, true), (11, true), (1, false), (3, true), (5, true), (7, true), (12, true), (13, true)] [] ([⟨wp, w32s wf, 33⟩] :: [⟨hp, w32s [j0, j1, j2, j3, j4], 33⟩] :: E5 :: L) (by kernel_rfl) (by kernel_rfl) (fun _ h => h) ?_
                refine St.move rfl rfl ?_
                refine St.move rfl rfl ?_
                refine St.move rfl rfl ?_
                refine St.move rfl rfl ?_
                refine St.move rfl rfl ?_
                refine St.move rfl rfl ?_
                refine St.indexSl (e := 33) (sz := 1) rfl rfl rfl (by kernel_rfl) (by omega) ?_
                refine St.load rfl rfl (by kernel_rfl) (at_row mem0 t _ hwt (by omega)) ?_
                refine St.call [.int .u32 ((va : Nat) : Int), .int .i64 5] rfl (by kernel_rfl) rfl (rol_spec w0 _ va 5 ha (by decide)) (fun _ _ _ h hw => h.1 ▸ hw) ?_
                rintro r L1 ⟨rfl, rfl⟩
                refine St.add rfl rfl rfl ?_
                rw [plus_u32]
                refine St.add rfl rfl rfl ?_
                rw [plus_u32]
                refine St.add rfl rfl rfl ?_
                rw [plus_k _ _ hk]
                refine St.add rfl rfl rfl ?_
                rw [plus_u32]
                refine St.assign rfl rfl ?_
                refine St.done ?_
                refine SX.tail ?_
                refine St.done ?_
                refine SX.seq ?_
                refine SC.seq ?_
                refine SC.plain ?_
                refine St.move rfl rfl ?_
                refine St.assign rfl rfl ?_
                refine St.done ?_
                refine SX.seq ?_
                refine SC.seq ?_
                refine SC.plain ?_
                refine St.move rfl rfl ?_
                refine St.assign rfl rfl ?_
                refine St.done ?_
                refine SX.seq ?_
                refine SC.seq ?_
                refine SC.plain ?_
                refine St.move rfl rfl ?_
                refine St.call [.int .u32 ((vb : Nat) : Int), .int .i64 30] rfl (by kernel_rfl) rfl (rol_spec w0 _ vb 30 hvb (by decide)) (fun _ _ _ _ h => h.nil) ?_
                rintro r L1 ⟨rfl, rfl⟩
                refine St.assign rfl rfl ?_
                refine St.done ?_
                refine SX.seq ?_
                refine SC.seq ?_
                refine SC.plain ?_
                refine St.move rfl rfl ?_
                refine St.assign rfl rfl ?_
                refine St.done ?_
                refine SX.seq ?_
                refine SC.plain ?_
                refine St.move rfl rfl ?_
                refine St.assign rfl rfl ?_
                refine St.done ?_
                refine SX.blk ?_
                refine SX.seq ?_
                refine SC.plain ?_
                refine St.move rfl rfl ?_
                refine St.addI rfl rfl rfl (by omega) ?_
                refine St.assign rfl rfl ?_
                refine St.done ?_
                exact SX.again (t + 1) (by omega) (by show 80 - (t + 1) < 80 - t; omega) ⟨rfl, rfl, rfl, rfl, by rw [hsucc]; simp only [round, hfk.1]; rfl, by rw [hsucc]; rfl, by rw [hsucc]; rfl, by rw [hsucc]; rfl, by rw [hsucc]; rfl, rfl, trivial⟩ (List.Perm.refl _)
              · have hi : t / 20 = 0 := by omega
                have hfk : fOf (t / 20) vb vc vd = chf vb vc vd ∧ kOf (t / 20) = 1518500249 := by rw [hi]; exact ⟨rfl, rfl⟩
                have hk : (1518500249 : Int) = ((kOf (t / 20) : Nat) : Int) := by rw [hfk.2]; rfl
                refine SC.skip ?_
                refine SX.blk ?_
                refine SX.seq ?_
                refine SC.seq ?_
                refine SC.drawn [(0, true), (2, true), (4, true), (6, true), (8, true), (9, true), (10, true), (11, true), (1, false), (3, true), (5, true), (7, true), (12, true), (13, true)] [] ([⟨wp, w32s wf, 33⟩] :: [⟨hp, w32s [j0, j1, j2, j3, j4], 33⟩] :: E5 :: L) (by kernel_rfl) (by kernel_rfl) (fun _ h => h) ?_
                refine St.move rfl rfl ?_
                refine St.move rfl rfl ?_
                refine St.move rfl rfl ?_
                refine St.move rfl rfl ?_
                refine St.move rfl rfl ?_
                refine St.move rfl rfl ?_
                refine St.indexSl (e := 33) (sz := 1) rfl rfl rfl (by kernel_rfl) (by omega) ?_
                refine St.load rfl rfl (by kernel_rfl) (at_row mem0 t _ hwt (by omega)) ?_
                refine St.call [.int .u32 ((va : Nat) : Int), .int .i64 5] rfl (by kernel_rfl) rfl (rol_spec w0 _ va 5 ha (by decide)) (fun _ _ _ h hw => h.1 ▸ hw) ?_
                rintro r L1 ⟨rfl, rfl⟩
                refine St.add rfl rfl rfl ?_
                rw [plus_u32]
                refine St.add rfl rfl rfl ?_
                rw [plus_u32]
                refine St.add rfl rfl rfl ?_
                rw [plus_k _ _ hk]
                refine St.add rfl rfl rfl ?_
                rw [plus_u32]
                refine St.assign rfl rfl ?_
                refine St.done ?_
                refine SX.tail ?_
                refine St.done ?_
                refine SX.seq ?_
                refine SC.seq ?_
                refine SC.plain ?_
                refine St.move rfl rfl ?_
                refine St.assign rfl rfl ?_
                refine St.done ?_
                refine SX.seq ?_
                refine SC.seq ?_
                refine SC.plain ?_
                refine St.move rfl rfl ?_
                refine St.assign rfl rfl ?_
                refine St.done ?_
                refine SX.seq ?_
                refine SC.seq ?_
                refine SC.plain ?_
                refine St.move rfl rfl ?_
                refine St.call [.int .u32 ((vb : Nat) : Int), .int .i64 30] rfl (by kernel_rfl) rfl (rol_spec w0 _ vb 30 hvb (by decide)) (fun _ _ _ _ h => h.nil) ?_
                rintro r L1 ⟨rfl, rfl⟩
                refine St.assign rfl rfl ?_
                refine St.done ?_
                refine SX.seq ?_
                refine SC.seq ?_
                refine SC.plain ?_
                refine St.move rfl rfl ?_
                refine St.assign rfl rfl ?_
                refine St.done ?_
                refine SX.seq ?_
                refine SC.plain ?_
                refine St.move rfl rfl ?_
                refine St.assign rfl rfl ?_
                refine St.done ?_
                refine SX.blk ?_
                refine SX.seq ?_
                refine SC.plain ?_
                refine St.move rfl rfl ?_
                refine St.addI rfl rfl rfl (by omega) ?_
                refine St.assign rfl rfl ?_
                refine St.done ?_
                exact SX.again (t + 1) (by omega) (by show 80 - (t + 1) < 80 - t; omega) ⟨rfl, rfl, rfl, rfl, by rw [hsucc]; simp only [round, hfk.1]; rfl, by rw [hsucc]; rfl, by rw [hsucc]; rfl, by rw [hsucc]; rfl, by rw [hsucc]; rfl, rfl, trivial⟩ (List.Perm.refl _)
        · have hte : t = 80 := by omega
          subst hte
          refine SC.exit ?_
          refine SX.seq_exit ?_
          refine SX.seq_exit ?_
          refine SX.hit ?_
          refine SX.seq ?_
          refine SC.drawn [(0, true), (1, true), (2, true), (3, true), (4, true), (5, true), (6, true), (7, true), (8, true), (9, true), (10, true), (11, true), (12, true), (13, true), (14, true), (15, true), (16, true), (17, true), (18, true), (19, true), (20, true), (21, true), (22, true), (23, true), (24, true), (25, false), (26, true)] [] ([⟨wp, w32s wf, 33⟩] :: [⟨hp, w32s [j0, j1, j2, j3, j4], 33⟩] :: E5 :: L) (by kernel_rfl) (by kernel_rfl) (fun _ h => h) ?_
          refine St.move rfl rfl ?_
          refine St.indexSl (e := 33) (sz := 1) rfl rfl rfl (by kernel_rfl) (by omega) ?_
          refine St.load rfl rfl (by kernel_rfl) (Holds.row mem1 (v := .int .u32 ((j0 : Nat) : Int)) rfl) ?_
          refine St.move rfl rfl ?_
          refine St.add rfl rfl rfl ?_
          rw [plus_u32]
          refine St.move rfl rfl ?_
          refine St.indexSl (e := 33) (sz := 1) rfl rfl rfl (by kernel_rfl) (by omega) ?_
          refine St.load rfl rfl (by kernel_rfl) (Holds.row mem1 (v := .int .u32 ((j1 : Nat) : Int)) rfl) ?_
          refine St.move rfl rfl ?_
          refine St.add rfl rfl rfl ?_
          rw [plus_u32]
          refine St.move rfl rfl ?_
          refine St.indexSl (e := 33) (sz := 1) rfl rfl rfl (by kernel_rfl) (by omega) ?_
          refine St.load rfl rfl (by kernel_rfl) (Holds.row mem1 (v := .int .u32 ((j2 : Nat) : Int)) rfl) ?_
          refine St.move rfl rfl ?_
          refine St.add rfl rfl rfl ?_
          rw [plus_u32]
          refine St.move rfl rfl ?_
          refine St.indexSl (e := 33) (sz := 1) rfl rfl rfl (by kernel_rfl) (by omega) ?_
          refine St.load rfl rfl (by kernel_rfl) (Holds.row mem1 (v := .int .u32 ((j3 : Nat) : Int)) rfl) ?_
          refine St.move rfl rfl ?_
          refine St.add rfl rfl rfl ?_
          rw [plus_u32]
          refine St.move rfl rfl ?_
          refine St.indexSl (e := 33) (sz := 1) rfl rfl rfl (by kernel_rfl) (by omega) ?_
          refine St.load rfl rfl (by kernel_rfl) (Holds.row mem1 (v := .int .u32 ((j4 : Nat) : Int)) rfl) ?_
          refine St.move rfl rfl ?_
          refine St.add rfl rfl rfl ?_
          rw [plus_u32]
          refine St.buildSl (e := 33) [(0, w32 (plus j0 va)), (1, w32 (plus j1 vb)), (2, w32 (plus j2 vc)), (3, w32 (plus j3 vd)), (4, w32 (plus j4 ve))] (w32s [plus j0 va, plus j1 vb, plus j2 vc, plus j3 vd, plus j4 ve]) rfl rfl (by kernel_rfl) (fun _ _ h => h.drop) (fun hp2 => ?_)
          refine St.assign rfl rfl ?_
          refine St.done ?_
          refine SX.tail ?_
          refine St.done ?_
          refine SX.perm _ (perm13 _ _ _ _) (SX.drop ?_)
          subst hwsd
          refine SX.blk ?_
          refine SX.seq ?_
          refine SC.plain ?_
          refine St.move rfl rfl ?_
          refine St.addI rfl rfl rfl (by omega) ?_
          refine St.assign rfl rfl ?_
          refine St.done ?_
          exact SX.again (j + 1, hp2, wl (tot.drop (64 * j)) 80) ⟨by simp only; omega, wl_len _ _⟩ (by simp only; omega) ⟨rfl, rfl, rfl, by simp only; rw [show ((64 * (j + 1) : Nat) : Int) = ((64 * j : Nat) : Int) + 64 by push_cast; omega]; rfl, trivial⟩ (by simp only; (rw [hnext, mixOf, hr]) <;> exact List.Perm.refl _)
    · have hje : j = tot.length / 64 := by omega
      subst hje
      rw [hh] at hsh
      refine SC.exit ?_
      refine SX.seq_exit ?_
      refine SX.seq_exit ?_
      refine SX.hit ?_
      refine SX.seq ?_
      refine SC.seq ?_
      refine SC.plain ?_
      refine St.move rfl rfl ?_
      refine St.call [.slice (some ⟨hp, 0, none⟩) 5 5] rfl (by kernel_rfl) rfl (words_spec w0 _ _ [j0, j1, j2, j3, j4] (Rd.row rfl mem1) (by simp)) (fun _ _ _ _ h => h.nil) ?_
      rintro rw2 L1 ⟨Ez, rfl, hbz⟩
      refine St.assign rfl rfl ?_
      refine St.done ?_
      refine SX.seq ?_
      refine SC.ret ?_
      refine SX.perm _ (perm12 _ _ _) (SX.drop (SX.perm _ (perm12 _ _ _) (SX.drop (SX.perm _ (perm12 _ _ _) (SX.drop ?_)))))
      refine SX.ret1 rfl rfl ⟨Ez, rfl, ?_⟩
      rw [hsh, words5_flat]
      exact hbz
end Go.Proofs.Ytahafepgmkiabaa
