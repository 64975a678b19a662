/- Walks: the CRC's table, and a block of a SHA-1. -/
import Derived.Test.YtahafepgmkiabaaS1
set_option linter.unusedVariables false
set_option linter.unusedSimpArgs false
set_option linter.ambiguousOpen false
namespace Go.Proofs.Ytahafepgmkiabaa
open Go Go.Proofs.Ytahafepgmkiabaa.Sep

def part2 (ws : List Nat) (n : Nat) : List Nat := ws ++ List.replicate (n - ws.length) 0
theorem part2_len (ws : List Nat) (n : Nat) (h : ws.length ≤ n) : (part2 ws n).length = n := by simp [part2]; omega
theorem part2_set (ws : List Nat) (n i : Nat) (x : Nat) (hi : i = ws.length) (h : ws.length < n) : (w32s (part2 ws n)).set i (.int .u32 ((x : Nat) : Int)) = w32s (part2 (ws ++ [x]) n) := by
  subst hi
  unfold part2 w32s
  rw [List.map_append, List.set_append_right _ _ (by simp), show n - ws.length = (n - (ws ++ [x]).length) + 1 by simp; omega, List.replicate_succ]
  simp [w32]
theorem part2_get (ws : List Nat) (n i : Nat) (h : i < ws.length) (hn : ws.length ≤ n) : (w32s (part2 ws n))[i]? = some (.int .u32 ((ws.getD i 0 : Nat) : Int)) := by
  rw [w32s_get _ _ (by rw [part2_len _ _ hn]; omega)]
  unfold part2
  rw [getD_app _ _ _ h]
theorem part2_full (ws : List Nat) (n : Nat) (h : ws.length = n) : part2 ws n = ws := by simp [part2, h]
theorem splice_all (cs ds : List Value) (h : ds.length = cs.length) : splice cs 0 ds = ds := by
  unfold splice
  rw [List.take_zero, List.nil_append, Nat.zero_add, List.drop_eq_nil_of_le (by omega), List.append_nil]
def tabTo (n : Nat) : List Nat := (List.range n).map (csteps 8)
theorem tab_succ (n : Nat) : tabTo (n + 1) = tabTo n ++ [csteps 8 n] := by simp [tabTo, List.range_succ]
theorem tab_len (n : Nat) : (tabTo n).length = n := by simp [tabTo]
theorem neg_and (c : Nat) : bits .and .u32 (3988292384 : Int) (IntKind.u32.wrap (0 - ((c % 2 : Nat) : Int))) = ((if c % 2 = 1 then 3988292384 else 0 : Nat) : Int) := by
  rcases Nat.mod_two_eq_zero_or_one c with h | h
  · rw [h]; decide
  · rw [h]; decide
theorem and_one_u32 (c : Nat) (h : c < 4294967296) : bits .and .u32 ((c : Nat) : Int) 1 = ((c % 2 : Nat) : Int) :=
  (and_u32 c 1 h (by decide)).trans (by rw [Nat.and_one_is_mod])
theorem cstep_eq (c : Nat) (h : c < 4294967296) : bits .xor .u32 ((c / 2 : Nat) : Int) ((if c % 2 = 1 then 3988292384 else 0 : Nat) : Int) = ((cstep c : Nat) : Int) := by
  unfold cstep
  split
  · rw [xor_u32 _ _ (by omega) (by decide)]
  · rw [xor_u32 _ _ (by omega) (by decide), Nat.xor_zero]

theorem table_spec (w0 : World) (L : List Chunk) : Meets Try.prog 168 #[] w0 L (fun r L' => L = L' ∧ r = .agg (w32s (tabTo 256)).toArray) := by
  refine Meets.of_body [] Try.func168 rfl Try.ntmps168 rfl ?_
  refine SC.seq ?_
  refine SC.plain ?_
  refine St.alloc (w32s (part2 (tabTo 0) 256)) rfl (by kernel_rfl) (fun _ _ h => h.nil) (fun p => ?_)
  refine St.done ?_
  refine SX.seq ?_
  refine SC.seq ?_
  refine SC.seq ?_
  refine SC.plain ?_
  refine St.move rfl rfl ?_
  refine St.done ?_
  refine SX.seq ?_
  refine SC.block ?_
  refine SC.loop (α := Nat) (fun i => i ≤ 256) (fun i => [(0, .pointer (some ⟨p, 0, none⟩)), (3, .int .i64 ((i : Nat) : Int))]) (fun i => [⟨p, w32s (part2 (tabTo i) 256), 166⟩] :: L) (fun i => 256 - i) 0 (by omega) ⟨rfl, rfl, trivial⟩ (List.Perm.refl _) ?_
  intro i hi
  have htl := tab_len i
  refine SC.seq ?_
  refine SC.plain ?_
  refine St.lss rfl rfl rfl ?_
  refine St.done ?_
  refine SX.seq ?_
  refine SC.seq ?_
  refine SC.condp rfl (fun c4 => ?_) (fun c4 => ?_)
  · refine SC.skip ?_
    refine SX.seq ?_
    refine SC.seq ?_
    refine SC.block ?_
    refine SC.seq ?_
    refine SC.plain ?_
    refine St.move rfl rfl ?_
    refine St.assign rfl rfl ?_
    refine St.done ?_
    refine SX.seq ?_
    refine SC.seq ?_
    refine SC.plain ?_
    refine St.move rfl rfl ?_
    refine St.convI (k := .u32) rfl rfl (by kernel_rfl) (by kernel_rfl) ?_
    rw [wrap_u32_lt _ (by omega)]
    refine St.assign rfl rfl ?_
    refine St.done ?_
    refine SX.seq ?_
    refine SC.seq ?_
    refine SC.seq ?_
    refine SC.plain ?_
    refine St.move rfl rfl ?_
    refine St.done ?_
    refine SX.seq ?_
    refine SC.block ?_
    refine SC.loop (α := Nat) (fun k => k ≤ 8) (fun k => [(0, .pointer (some ⟨p, 0, none⟩)), (1, .int .i64 ((i : Nat) : Int)), (2, .int .u32 ((csteps k i : Nat) : Int)), (3, .int .i64 ((i : Nat) : Int)), (8, .int .i64 ((k : Nat) : Int))]) (fun _ => [⟨p, w32s (part2 (tabTo i) 256), 166⟩] :: L) (fun k => 8 - k) 0 (by omega) ⟨rfl, rfl, rfl, rfl, rfl, trivial⟩ (List.Perm.refl _) ?_
    intro k hk
    have hcl := csteps_lt (c := i) (by omega) k
    refine SC.seq ?_
    refine SC.plain ?_
    refine St.lss rfl rfl rfl ?_
    refine St.done ?_
    refine SX.seq ?_
    refine SC.seq ?_
    refine SC.condp rfl (fun c9 => ?_) (fun c9 => ?_)
    · refine SC.skip ?_
      refine SX.seq ?_
      refine SC.seq ?_
      refine SC.block ?_
      refine SC.plain ?_
      refine St.move rfl rfl ?_
      refine St.shr rfl rfl rfl (by omega) ?_
      rw [shr_1]
      refine St.move rfl rfl ?_
      refine St.andI rfl rfl rfl ?_
      rw [and_one_u32 _ hcl]
      refine St.neg rfl rfl ?_
      refine St.andI rfl rfl rfl ?_
      rw [neg_and]
      refine St.xorI rfl rfl rfl ?_
      rw [cstep_eq _ hcl]
      refine St.assign rfl rfl ?_
      refine St.done ?_
      refine SX.blk ?_
      refine SX.seq ?_
      refine SC.plain ?_
      refine St.addI rfl rfl rfl (by omega) ?_
      refine St.move rfl rfl ?_
      refine St.done ?_
      exact SX.again (k + 1) (by omega) (by show 8 - (k + 1) < 8 - k; omega) ⟨rfl, rfl, rfl, rfl, rfl, trivial⟩ (List.Perm.refl _)
    · have hke : k = 8 := by omega
      subst hke
      refine SC.exit ?_
      refine SX.seq_exit ?_
      refine SX.seq_exit ?_
      refine SX.hit ?_
      refine SX.seq ?_
      refine SC.plain ?_
      refine St.move rfl rfl ?_
      refine St.move rfl rfl ?_
      refine St.indexArr (n := 256) (sz := 1) rfl rfl rfl (by kernel_rfl) (by omega) ?_
      refine St.store rfl rfl rfl rfl (by kernel_rfl) (by rw [w32s_length, part2_len _ _ (by omega)]; omega) (fun _ h => h.nil) ?_
      rw [part2_set _ _ _ _ (by omega) (by omega)]
      refine St.done ?_
      refine SX.blk ?_
      refine SX.seq ?_
      refine SC.plain ?_
      refine St.addI rfl rfl rfl (by omega) ?_
      refine St.move rfl rfl ?_
      refine St.done ?_
      exact SX.again (i + 1) (by omega) (by show 256 - (i + 1) < 256 - i; omega) ⟨rfl, rfl, trivial⟩ (by rw [tab_succ])
  · have hie : i = 256 := by omega
    subst hie
    rw [part2_full _ _ htl]
    refine SC.exit ?_
    refine SX.seq_exit ?_
    refine SX.seq_exit ?_
    refine SX.hit ?_
    refine SX.seq ?_
    refine SC.seq ?_
    refine SC.plain ?_
    refine St.loadAgg (w32s (tabTo 256)) rfl rfl (by rw [w32s_length, tab_len]; kernel_rfl) (HoldsN.of_row mem0) ?_
    refine St.storeN rfl rfl rfl (w32s (tabTo 256)) rfl (by rw [w32s_length, tab_len]; kernel_rfl) (fun u hu => by obtain ⟨n, _, rfl⟩ := List.mem_map.1 hu; rfl) (by omega) (fun _ h => h.nil) ?_
    rw [splice_all _ _ rfl]
    refine St.done ?_
    refine SX.seq ?_
    refine SC.ret ?_
    exact SX.retC (w32s (tabTo 256)) (.inl rfl) rfl rfl (by rw [w32s_length, tab_len]; kernel_rfl) (HoldsN.of_row mem0) (fun w h => h.drop) ⟨rfl, rfl⟩
def list5 : Five → List Nat
  | (a, b, c, d, e) => [a, b, c, d, e]
theorem step_fn (w0 : World) (L : List Chunk) (i : Nat) (h : i < 4) : ∃ g, stepFns[i]? = some (.func (.func g) #[] #[]) ∧ callable Try.prog g = true ∧ ∀ b c d : Nat, b < 4294967296 → c < 4294967296 → d < 4294967296 →
    Meets Try.prog g ([.int .u32 ((b : Nat) : Int), .int .u32 ((c : Nat) : Int), .int .u32 ((d : Nat) : Int)].toArray ++ #[]) w0 L (fun r L' => L = L' ∧ r = .int .u32 ((fOf i b c d : Nat) : Int)) := by
  have h4 : i = 0 ∨ i = 1 ∨ i = 2 ∨ i = 3 := by omega
  rcases h4 with rfl | rfl | rfl | rfl
  · exact ⟨194, rfl, by kernel_rfl, fun b c d hb hc hd => choice_spec w0 L b c d hb hc hd⟩
  · exact ⟨193, rfl, by kernel_rfl, fun b c d hb hc hd => parity_spec w0 L b c d hb hc hd⟩
  · exact ⟨195, rfl, by kernel_rfl, fun b c d hb hc hd => majority_spec w0 L b c d hb hc hd⟩
  · exact ⟨193, rfl, by kernel_rfl, fun b c d hb hc hd => parity_spec w0 L b c d hb hc hd⟩
theorem step_add (i : Nat) (h : i < 4) : stepAdds[i]? = some (.int .u32 ((kOf i : Nat) : Int)) := by
  have h4 : i = 0 ∨ i = 1 ∨ i = 2 ∨ i = 3 := by omega
  rcases h4 with rfl | rfl | rfl | rfl <;> rfl
theorem at_row {w0 : World} {L : List Chunk} {b : Nat} {cs : List Value} {e : TypeId} {v : Value} (h : (⟨b, cs, e⟩ : Ent) ∈ L.flatten) (i j : Nat) (hv : cs[i]? = some v) (hj : j = i) : Holds w0 L ⟨b, j, none⟩ v := by
  subst hj
  exact Holds.row h hv
theorem quo20 (a : Nat) (h : a < 80) : IntKind.i64.wrap (((a : Nat) : Int).tdiv 20) = ((a / 20 : Nat) : Int) := by
  have := tdiv_nat a 20
  rw [show ((20 : Nat) : Int) = 20 from rfl] at this
  rw [this, wrap_i64_nat _ (by omega)]
theorem mem3 {x : Ent} {a b c : Chunk} {L : List Chunk} : x ∈ List.flatten (a :: b :: c :: [x] :: L) := by simp
theorem mem4 {x : Ent} {a b c d : Chunk} {L : List Chunk} : x ∈ List.flatten (a :: b :: c :: d :: [x] :: L) := by simp

theorem mix_spec (w0 : World) (L : List Chunk) (v : Value) (n : Nat) (bs : List Nat) (i0 i1 i2 i3 i4 : Nat) (hs : Small (i0, i1, i2, i3, i4)) (hx : Rd w0 L v 1 n (bytes bs)) (hn : 64 ≤ n) (hb : ∀ b ∈ bs, b < 256) :
    Meets Try.prog 114 #[.agg (w32s [i0, i1, i2, i3, i4]).toArray, v] w0 L (fun r L' => L = L' ∧ r = .agg (w32s (list5 (mixOf (i0, i1, i2, i3, i4) bs))).toArray) := by
  obtain ⟨hl, b, o, A, c, rfl, hA, hr⟩ := hx
  rw [bytes_length, Nat.mul_one] at hl
  have hAe := hA (by omega)
  subst hAe
  refine Meets.of_body [.agg (w32s [i0, i1, i2, i3, i4]).toArray, .slice (some ⟨b, o, none⟩) n c] Try.func114 rfl Try.ntmps114 rfl ?_
  refine SC.seq ?_
  refine SC.plain ?_
  refine St.box (w32s [i0, i1, i2, i3, i4]) rfl rfl rfl (fun _ _ h => h.nil) (fun p => ?_)
  refine St.alloc [.int .u32 0, .int .u32 0, .int .u32 0, .int .u32 0, .int .u32 0] rfl (by kernel_rfl) (fun _ _ h => h.nil) (fun q => ?_)
  refine St.done ?_
  refine SX.seq ?_
  refine SC.seq ?_
  refine SC.plain ?_
  refine St.alloc (w32s (part2 (wl bs 0) 80)) rfl (by kernel_rfl) (fun _ _ h => h.nil) (fun wr => ?_)
  refine St.done ?_
  refine SX.seq ?_
  refine SC.seq ?_
  refine SC.seq ?_
  refine SC.plain ?_
  refine St.move rfl rfl ?_
  refine St.done ?_
  refine SX.seq ?_
  refine SC.block ?_
  refine SC.loop (α := Nat) (fun t => t ≤ 16) (fun t => [(1, .slice (some ⟨b, o, none⟩) n c), (2, .pointer (some ⟨p, 0, none⟩)), (4, .pointer (some ⟨q, 0, none⟩)), (5, .pointer (some ⟨wr, 0, none⟩)), (17, .int .i64 ((t : Nat) : Int))]) (fun t => [⟨wr, w32s (part2 (wl bs t) 80), 233⟩] :: [⟨q, [.int .u32 0, .int .u32 0, .int .u32 0, .int .u32 0, .int .u32 0], 165⟩] :: [⟨p, w32s [i0, i1, i2, i3, i4], 165⟩] :: L) (fun t => 16 - t) 0 (by omega) ⟨rfl, rfl, rfl, rfl, rfl, trivial⟩ (List.Perm.refl _) ?_
  intro t ht
  have hwl := wl_len bs t
  refine SC.seq ?_
  refine SC.plain ?_
  refine St.lss rfl rfl rfl ?_
  refine St.done ?_
  refine SX.seq ?_
  refine SC.seq ?_
  refine SC.condp rfl (fun c18 => ?_) (fun c18 => ?_)
  · have hw1 : wl bs (t + 1) = wl bs t ++ [be32 (bs.getD (4 * t) 0) (bs.getD (4 * t + 1) 0) (bs.getD (4 * t + 2) 0) (bs.getD (4 * t + 3) 0)] := by simp only [wl, word]; rw [if_pos (by omega)]
    have g0 := getD_lt hb (4 * t)
    have g1 := getD_lt hb (4 * t + 1)
    have g2 := getD_lt hb (4 * t + 2)
    have g3 := getD_lt hb (4 * t + 3)
    refine SC.skip ?_
    refine SX.seq ?_
    refine SC.seq ?_
    refine SC.block ?_
    refine SC.seq ?_
    refine SC.plain ?_
    refine St.move rfl rfl ?_
    refine St.assign rfl rfl ?_
    refine St.done ?_
    refine SX.seq ?_
    refine SC.drawn [(0, true), (1, true), (2, true), (3, true), (4, true), (5, true), (6, true), (7, true), (8, true), (9, true), (10, true), (11, true), (12, true), (13, true), (14, true), (15, true), (16, true), (17, true), (18, true), (19, true), (20, true), (21, true), (22, true), (23, true), (24, true), (25, true), (26, true), (27, true), (28, true), (29, true), (30, true), (31, true), (32, true), (33, true), (34, true)] [35] (_) (by kernel_rfl) (by kernel_rfl) (fun _ h => h) ?_
    refine St.move rfl rfl ?_
    refine St.move rfl rfl ?_
    refine St.move rfl rfl ?_
    refine St.mulI rfl rfl rfl (by omega) ?_
    refine St.indexSl (e := 5) (sz := 1) rfl rfl rfl (by kernel_rfl) (by omega) ?_
    refine St.load rfl rfl (by kernel_rfl) (byte_at0 hr.cons.cons.cons (4 * t) (by omega) _ (by omega)) ?_
    refine St.convI (k := .u32) rfl rfl (by kernel_rfl) (by kernel_rfl) ?_
    rw [wrap_u32_lt _ (by omega)]
    refine St.shl rfl rfl rfl (by omega) ?_
    rw [shl_24]
    refine St.move rfl rfl ?_
    refine St.move rfl rfl ?_
    refine St.mulI rfl rfl rfl (by omega) ?_
    refine St.addI rfl rfl rfl (by omega) ?_
    refine St.indexSl (e := 5) (sz := 1) rfl rfl rfl (by kernel_rfl) (by omega) ?_
    refine St.load rfl rfl (by kernel_rfl) (byte_at0 hr.cons.cons.cons (4 * t + 1) (by omega) _ (by omega)) ?_
    refine St.convI (k := .u32) rfl rfl (by kernel_rfl) (by kernel_rfl) ?_
    rw [wrap_u32_lt _ (by omega)]
    refine St.shl rfl rfl rfl (by omega) ?_
    rw [shl_16]
    refine St.orI rfl rfl rfl ?_
    rw [or_u32 _ _ (mod32 _) (mod32 _)]
    refine St.move rfl rfl ?_
    refine St.move rfl rfl ?_
    refine St.mulI rfl rfl rfl (by omega) ?_
    refine St.addI rfl rfl rfl (by omega) ?_
    refine St.indexSl (e := 5) (sz := 1) rfl rfl rfl (by kernel_rfl) (by omega) ?_
    refine St.load rfl rfl (by kernel_rfl) (byte_at0 hr.cons.cons.cons (4 * t + 2) (by omega) _ (by omega)) ?_
    refine St.convI (k := .u32) rfl rfl (by kernel_rfl) (by kernel_rfl) ?_
    rw [wrap_u32_lt _ (by omega)]
    refine St.shl rfl rfl rfl (by omega) ?_
    rw [shl_8]
    refine St.orI rfl rfl rfl ?_
    rw [or_u32 _ _ (or_lt (mod32 _) (mod32 _)) (mod32 _)]
    refine St.move rfl rfl ?_
    refine St.move rfl rfl ?_
    refine St.mulI rfl rfl rfl (by omega) ?_
    refine St.addI rfl rfl rfl (by omega) ?_
    refine St.indexSl (e := 5) (sz := 1) rfl rfl rfl (by kernel_rfl) (by omega) ?_
    refine St.load rfl rfl (by kernel_rfl) (byte_at0 hr.cons.cons.cons (4 * t + 3) (by omega) _ (by omega)) ?_
    refine St.convI (k := .u32) rfl rfl (by kernel_rfl) (by kernel_rfl) ?_
    rw [wrap_u32_lt _ (by omega)]
    refine St.orI rfl rfl rfl ?_
    rw [or_u32 _ _ (or_lt (or_lt (mod32 _) (mod32 _)) (mod32 _)) (by omega)]
    refine St.indexArr (n := 80) (sz := 1) rfl rfl rfl (by kernel_rfl) (by omega) ?_
    refine St.done ?_
    refine SX.tail ?_
    refine St.store rfl rfl rfl rfl (by kernel_rfl) (by rw [w32s_length, part2_len _ _ (by omega)]; omega) (fun _ h => h.nil) ?_
    rw [part2_set _ _ _ _ (by omega) (by omega)]
    refine St.done ?_
    refine SX.blk ?_
    refine SX.seq ?_
    refine SC.plain ?_
    refine St.addI rfl rfl rfl (by omega) ?_
    refine St.move rfl rfl ?_
    refine St.done ?_
    exact SX.again (t + 1) (by omega) (by show 16 - (t + 1) < 16 - t; omega) ⟨rfl, rfl, rfl, rfl, rfl, trivial⟩ (by (rw [hw1]) <;> exact List.Perm.refl _)
  · have hte : t = 16 := by omega
    subst hte
    refine SC.exit ?_
    refine SX.seq_exit ?_
    refine SX.seq_exit ?_
    refine SX.hit ?_
    refine SX.seq ?_
    refine SC.seq ?_
    refine SC.seq ?_
    refine SC.plain ?_
    refine St.assign rfl rfl ?_
    refine St.done ?_
    refine SX.seq ?_
    refine SC.block ?_
    refine SC.loop (α := Nat) (fun t => 16 ≤ t ∧ t ≤ 80) (fun t => [(1, .slice (some ⟨b, o, none⟩) n c), (2, .pointer (some ⟨p, 0, none⟩)), (4, .pointer (some ⟨q, 0, none⟩)), (5, .pointer (some ⟨wr, 0, none⟩)), (7, .int .i64 ((t : Nat) : Int))]) (fun t => [⟨wr, w32s (part2 (wl bs t) 80), 233⟩] :: [⟨q, [.int .u32 0, .int .u32 0, .int .u32 0, .int .u32 0, .int .u32 0], 165⟩] :: [⟨p, w32s [i0, i1, i2, i3, i4], 165⟩] :: L) (fun t => 80 - t) 16 (by omega) ⟨rfl, rfl, rfl, rfl, rfl, trivial⟩ (List.Perm.refl _) ?_
    intro t ht
    have hwl := wl_len bs t
    have hws := wl_lt hb t
    refine SC.seq ?_
    refine SC.seq ?_
    refine SC.plain ?_
    refine St.move rfl rfl ?_
    refine St.lss rfl rfl rfl ?_
    refine St.done ?_
    refine SX.seq ?_
    refine SC.condp rfl (fun c57 => ?_) (fun c57 => ?_)
    · have hw1 : wl bs (t + 1) = wl bs t ++ [rotl ((wl bs t).getD (t - 3) 0 ^^^ (wl bs t).getD (t - 8) 0 ^^^ (wl bs t).getD (t - 14) 0 ^^^ (wl bs t).getD (t - 16) 0) 1] := by simp only [wl, word]; rw [if_neg (by omega)]
      have g0 := mem_getD_lt hws (t - 3)
      have g1 := mem_getD_lt hws (t - 8)
      have g2 := mem_getD_lt hws (t - 14)
      have g3 := mem_getD_lt hws (t - 16)
      refine SC.skip ?_
      refine SX.seq ?_
      refine SC.seq ?_
      refine SC.block ?_
      refine SC.drawn [(0, true), (1, true), (2, true), (3, true), (4, true), (5, true), (6, true), (7, true), (8, true), (9, true), (10, true), (11, true), (12, true), (13, true), (14, true), (15, true), (16, true), (17, true), (18, true), (19, true), (20, false), (21, true)] [22] ([⟨wr, w32s (part2 (wl bs t) 80), 233⟩] :: [⟨q, [.int .u32 0, .int .u32 0, .int .u32 0, .int .u32 0, .int .u32 0], 165⟩] :: [⟨p, w32s [i0, i1, i2, i3, i4], 165⟩] :: L) (by kernel_rfl) (by kernel_rfl) (fun _ h => h) ?_
      refine St.move rfl rfl ?_
      refine St.move rfl rfl ?_
      refine St.subI rfl rfl rfl (by omega) ?_
      refine St.indexArr (n := 80) (sz := 1) rfl rfl rfl (by kernel_rfl) (by omega) ?_
      refine St.load rfl rfl (by kernel_rfl) (at_row mem0 (t - 3) _ (part2_get _ _ _ (by omega) (by omega)) (by omega)) ?_
      refine St.move rfl rfl ?_
      refine St.subI rfl rfl rfl (by omega) ?_
      refine St.indexArr (n := 80) (sz := 1) rfl rfl rfl (by kernel_rfl) (by omega) ?_
      refine St.load rfl rfl (by kernel_rfl) (at_row mem0 (t - 8) _ (part2_get _ _ _ (by omega) (by omega)) (by omega)) ?_
      refine St.xorI rfl rfl rfl ?_
      rw [xor_u32 _ _ g0 g1]
      refine St.move rfl rfl ?_
      refine St.subI rfl rfl rfl (by omega) ?_
      refine St.indexArr (n := 80) (sz := 1) rfl rfl rfl (by kernel_rfl) (by omega) ?_
      refine St.load rfl rfl (by kernel_rfl) (at_row mem0 (t - 14) _ (part2_get _ _ _ (by omega) (by omega)) (by omega)) ?_
      refine St.xorI rfl rfl rfl ?_
      rw [xor_u32 _ _ (xor_lt g0 g1) g2]
      refine St.move rfl rfl ?_
      refine St.subI rfl rfl rfl (by omega) ?_
      refine St.indexArr (n := 80) (sz := 1) rfl rfl rfl (by kernel_rfl) (by omega) ?_
      refine St.load rfl rfl (by kernel_rfl) (at_row mem0 (t - 16) _ (part2_get _ _ _ (by omega) (by omega)) (by omega)) ?_
      refine St.xorI rfl rfl rfl ?_
      rw [xor_u32 _ _ (xor_lt (xor_lt g0 g1) g2) g3]
      refine St.call [.int .u32 _, .int .i64 1] rfl (by kernel_rfl) rfl (rotate_spec w0 _ _ 1 (xor_lt (xor_lt (xor_lt g0 g1) g2) g3) (by decide)) (fun _ _ _ h hw => h.1 ▸ hw) ?_
      rintro r L1 ⟨rfl, rfl⟩
      refine St.indexArr (n := 80) (sz := 1) rfl rfl rfl (by kernel_rfl) (by omega) ?_
      refine St.done ?_
      refine SX.tail ?_
      refine St.store rfl rfl rfl rfl (by kernel_rfl) (by rw [w32s_length, part2_len _ _ (by omega)]; omega) (fun _ h => h.nil) ?_
      rw [part2_set _ _ _ _ (by omega) (by omega)]
      refine St.done ?_
      refine SX.blk ?_
      refine SX.seq ?_
      refine SC.plain ?_
      refine St.move rfl rfl ?_
      refine St.addI rfl rfl rfl (by omega) ?_
      refine St.assign rfl rfl ?_
      refine St.done ?_
      exact SX.again (t + 1) (by omega) (by show 80 - (t + 1) < 80 - t; omega) ⟨rfl, rfl, rfl, rfl, rfl, trivial⟩ (by (rw [hw1]) <;> exact List.Perm.refl _)
    · have hte : t = 80 := by omega
      subst hte
      rw [part2_full _ _ hwl]
      refine SC.exit ?_
      refine SX.seq_exit ?_
      refine SX.seq_exit ?_
      refine SX.hit ?_
      refine SX.seq ?_
      refine SC.seq ?_
      refine SC.plain ?_
      refine St.call [] rfl (by kernel_rfl) rfl (steps_spec w0 _) (fun _ _ _ _ h => h.nil) ?_
      rintro r L1 ⟨rfl, rfl⟩
      refine St.move rfl rfl ?_
      refine St.extract rfl rfl rfl ?_
      refine St.extract rfl rfl rfl ?_
      refine St.alloc undef4 rfl (by kernel_rfl) (fun _ _ h => h.nil) (fun ss => ?_)
      refine St.alloc zero4 rfl (by kernel_rfl) (fun _ _ h => h.nil) (fun kk => ?_)
      refine St.perm _ (perm12 _ _ _) ?_
      refine St.storeN rfl rfl rfl stepFns rfl (by kernel_rfl) (by simp [stepFns, one]) (by decide) (fun _ h => h.nil) ?_
      refine St.perm _ (perm12 _ _ _) ?_
      refine St.storeN rfl rfl rfl stepAdds rfl (by kernel_rfl) (by simp [stepAdds, one]) (by decide) (fun _ h => h.nil) ?_
      refine St.done ?_
      refine SX.seq ?_
      refine SC.seq ?_
      refine SC.drawn [(0, true), (1, true), (2, true), (3, true), (4, true), (5, true), (6, true), (7, true), (8, true), (9, true), (10, true), (11, true), (12, true), (13, true), (14, true)] [] (_) (by kernel_rfl) (by kernel_rfl) (fun _ h => h) ?_
      refine St.indexArr (n := 5) (sz := 1) rfl rfl rfl (by kernel_rfl) (by omega) ?_
      refine St.load rfl rfl (by kernel_rfl) (Holds.row mem4 (v := .int .u32 ((i0 : Nat) : Int)) rfl) ?_
      refine St.indexArr (n := 5) (sz := 1) rfl rfl rfl (by kernel_rfl) (by omega) ?_
      refine St.load rfl rfl (by kernel_rfl) (Holds.row mem4 (v := .int .u32 ((i1 : Nat) : Int)) rfl) ?_
      refine St.indexArr (n := 5) (sz := 1) rfl rfl rfl (by kernel_rfl) (by omega) ?_
      refine St.load rfl rfl (by kernel_rfl) (Holds.row mem4 (v := .int .u32 ((i2 : Nat) : Int)) rfl) ?_
      refine St.indexArr (n := 5) (sz := 1) rfl rfl rfl (by kernel_rfl) (by omega) ?_
      refine St.load rfl rfl (by kernel_rfl) (Holds.row mem4 (v := .int .u32 ((i3 : Nat) : Int)) rfl) ?_
      refine St.indexArr (n := 5) (sz := 1) rfl rfl rfl (by kernel_rfl) (by omega) ?_
      refine St.load rfl rfl (by kernel_rfl) (Holds.row mem4 (v := .int .u32 ((i4 : Nat) : Int)) rfl) ?_
      refine St.assign rfl rfl ?_
      refine St.assign rfl rfl ?_
      refine St.assign rfl rfl ?_
      refine St.assign rfl rfl ?_
      refine St.assign rfl rfl ?_
      refine St.done ?_
      refine SX.tail ?_
      refine St.done ?_
      refine SX.seq ?_
      refine SC.seq ?_
      refine SC.seq ?_
      refine SC.plain ?_
      refine St.move rfl rfl ?_
      refine St.done ?_
      refine SX.seq ?_
      refine SC.block ?_
      refine SC.loop (α := Nat) (fun t => t ≤ 80) (fun t => [(1, .slice (some ⟨b, o, none⟩) n c), (2, .pointer (some ⟨p, 0, none⟩)), (4, .pointer (some ⟨q, 0, none⟩)), (5, .pointer (some ⟨wr, 0, none⟩)), (8, .pointer (some ⟨ss, 0, none⟩)), (9, .pointer (some ⟨kk, 0, none⟩)), (10, w32 (rounds (wl bs 80) (i0, i1, i2, i3, i4) t).1), (11, w32 (rounds (wl bs 80) (i0, i1, i2, i3, i4) t).2.1), (12, w32 (rounds (wl bs 80) (i0, i1, i2, i3, i4) t).2.2.1), (13, w32 (rounds (wl bs 80) (i0, i1, i2, i3, i4) t).2.2.2.1), (14, w32 (rounds (wl bs 80) (i0, i1, i2, i3, i4) t).2.2.2.2), (96, .int .i64 ((t : Nat) : Int))]) (fun t => [⟨kk, stepAdds, 237⟩] :: [⟨ss, stepFns, 236⟩] :: [⟨wr, w32s (wl bs 80), 233⟩] :: [⟨q, [.int .u32 0, .int .u32 0, .int .u32 0, .int .u32 0, .int .u32 0], 165⟩] :: [⟨p, w32s [i0, i1, i2, i3, i4], 165⟩] :: L) (fun t => 80 - t) 0 (by omega) ⟨rfl, rfl, rfl, rfl, rfl, rfl, rfl, rfl, rfl, rfl, rfl, rfl, trivial⟩ (List.Perm.refl _) ?_
      intro t ht
      have hsm := rounds_small (ws := wl bs 80) hs t
      have hsucc : rounds (wl bs 80) (i0, i1, i2, i3, i4) (t + 1) = round (wl bs 80) t (rounds (wl bs 80) (i0, i1, i2, i3, i4) t) := rfl
      generalize hr : rounds (wl bs 80) (i0, i1, i2, i3, i4) t = s at hsm hsucc ⊢
      obtain ⟨va, vb, vc, vd, ve⟩ := s
      obtain ⟨ha, hvb, hvc, hvd, hve⟩ := hsm
      simp only at ha hvb hvc hvd hve
      show SC _ _ _ [(1, .slice (some ⟨b, o, none⟩) n c), (2, .pointer (some ⟨p, 0, none⟩)), (4, .pointer (some ⟨q, 0, none⟩)), (5, .pointer (some ⟨wr, 0, none⟩)), (8, .pointer (some ⟨ss, 0, none⟩)), (9, .pointer (some ⟨kk, 0, none⟩)), (10, .int .u32 ((va : Nat) : Int)), (11, .int .u32 ((vb : Nat) : Int)), (12, .int .u32 ((vc : Nat) : Int)), (13, .int .u32 ((vd : Nat) : Int)), (14, .int .u32 ((ve : Nat) : Int)), (96, .int .i64 ((t : Nat) : Int))] ([⟨kk, stepAdds, 237⟩] :: [⟨ss, stepFns, 236⟩] :: [⟨wr, w32s (wl bs 80), 233⟩] :: [⟨q, [.int .u32 0, .int .u32 0, .int .u32 0, .int .u32 0, .int .u32 0], 165⟩] :: [⟨p, w32s [i0, i1, i2, i3, i4], 165⟩] :: L)
      refine SC.seq ?_
      refine SC.plain ?_
      refine St.lss rfl rfl rfl ?_
      refine St.done ?_
      refine SX.seq ?_
      refine SC.seq ?_
      refine SC.condp rfl (fun c97 => ?_) (fun c97 => ?_)
      · obtain ⟨g, hg1, hg2, hg3⟩ := step_fn w0 ([⟨kk, stepAdds, 237⟩] :: [⟨ss, stepFns, 236⟩] :: [⟨wr, w32s (wl bs 80), 233⟩] :: [⟨q, [.int .u32 0, .int .u32 0, .int .u32 0, .int .u32 0, .int .u32 0], 165⟩] :: [⟨p, w32s [i0, i1, i2, i3, i4], 165⟩] :: L) (t / 20) (by omega)
        have hka := step_add (t / 20) (by omega)
        have hwt := w32s_get (wl bs 80) t (by rw [wl_len]; omega)
        refine SC.skip ?_
        refine SX.seq ?_
        refine SC.seq ?_
        refine SC.block ?_
        refine SC.seq ?_
        refine SC.plain ?_
        refine St.move rfl rfl ?_
        refine St.assign rfl rfl ?_
        refine St.done ?_
        refine SX.seq ?_
        refine SC.seq ?_
        refine SC.drawn [(0, true), (2, true), (3, true), (4, true), (5, true), (6, true), (7, true), (8, true), (11, true), (13, true), (14, true), (15, true), (16, true), (18, true), (19, true), (20, true), (1, false), (9, false), (10, true), (12, true), (17, true), (21, true), (22, true)] [] ([⟨kk, stepAdds, 237⟩] :: [⟨ss, stepFns, 236⟩] :: [⟨wr, w32s (wl bs 80), 233⟩] :: [⟨q, [.int .u32 0, .int .u32 0, .int .u32 0, .int .u32 0, .int .u32 0], 165⟩] :: [⟨p, w32s [i0, i1, i2, i3, i4], 165⟩] :: L) (by kernel_rfl) (by kernel_rfl) (fun _ h => h) ?_
        refine St.move rfl rfl ?_
        refine St.move rfl rfl ?_
        refine St.quo rfl rfl rfl (by omega) ?_
        rw [quo20 _ (by omega)]
        refine St.indexArr (n := 4) (sz := 1) rfl rfl rfl (by kernel_rfl) (by omega) ?_
        refine St.load rfl rfl (by kernel_rfl) (at_row mem1 (t / 20) _ hg1 (by omega)) ?_
        refine St.move rfl rfl ?_
        refine St.move rfl rfl ?_
        refine St.move rfl rfl ?_
        refine St.move rfl rfl ?_
        refine St.move rfl rfl ?_
        refine St.quo rfl rfl rfl (by omega) ?_
        rw [quo20 _ (by omega)]
        refine St.indexArr (n := 4) (sz := 1) rfl rfl rfl (by kernel_rfl) (by omega) ?_
        refine St.load rfl rfl (by kernel_rfl) (at_row mem0 (t / 20) _ hka (by omega)) ?_
        refine St.move rfl rfl ?_
        refine St.indexArr (n := 80) (sz := 1) rfl rfl rfl (by kernel_rfl) (by omega) ?_
        refine St.load rfl rfl (by kernel_rfl) (at_row mem2 t _ hwt (by omega)) ?_
        refine St.call [.int .u32 ((va : Nat) : Int), .int .i64 5] rfl (by kernel_rfl) rfl (rotate_spec w0 _ va 5 ha (by decide)) (fun _ _ _ h hw => h.1 ▸ hw) ?_
        rintro r L1 ⟨rfl, rfl⟩
        refine St.callv (cap := #[]) [.int .u32 ((vb : Nat) : Int), .int .u32 ((vc : Nat) : Int), .int .u32 ((vd : Nat) : Int)] rfl hg2 rfl rfl (hg3 vb vc vd hvb hvc hvd) (fun _ _ _ h hw => h.1 ▸ hw) ?_
        rintro r L1 ⟨rfl, rfl⟩
        refine St.add rfl rfl rfl ?_
        rw [plus_u32]
        refine St.add rfl rfl rfl ?_
        rw [plus_u32]
        refine St.add rfl rfl rfl ?_
        rw [plus_u32]
        refine St.add rfl rfl rfl ?_
        rw [plus_u32]
        refine St.assign rfl rfl ?_
        refine St.done ?_
        refine SX.tail ?_
        refine St.done ?_
        refine SX.seq ?_
        refine SC.plain ?_
        refine St.move rfl rfl ?_
        refine St.move rfl rfl ?_
        refine St.move rfl rfl ?_
        refine St.call [.int .u32 ((vb : Nat) : Int), .int .i64 30] rfl (by kernel_rfl) rfl (rotate_spec w0 _ vb 30 hvb (by decide)) (fun _ _ _ _ h => h.nil) ?_
        rintro r L1 ⟨rfl, rfl⟩
        refine St.move rfl rfl ?_
        refine St.move rfl rfl ?_
        refine St.assign rfl rfl ?_
        refine St.assign rfl rfl ?_
        refine St.assign rfl rfl ?_
        refine St.assign rfl rfl ?_
        refine St.assign rfl rfl ?_
        refine St.done ?_
        refine SX.blk ?_
        refine SX.seq ?_
        refine SC.plain ?_
        refine St.addI rfl rfl rfl (by omega) ?_
        refine St.move rfl rfl ?_
        refine St.done ?_
        exact SX.again (t + 1) (by omega) (by show 80 - (t + 1) < 80 - t; omega) ⟨rfl, rfl, rfl, rfl, rfl, rfl, by rw [hsucc]; rfl, by rw [hsucc]; rfl, by rw [hsucc]; rfl, by rw [hsucc]; rfl, by rw [hsucc]; rfl, rfl, trivial⟩ (List.Perm.refl _)
      · have hte : t = 80 := by omega
        subst hte
        refine SC.exit ?_
        refine SX.seq_exit ?_
        refine SX.seq_exit ?_
        refine SX.hit ?_
        refine SX.seq ?_
        refine SC.seq ?_
        refine SC.drop (SC.drop (SC.drop ?_))
        refine SC.plain ?_
        refine St.indexArr (n := 5) (sz := 1) rfl rfl rfl (by kernel_rfl) (by omega) ?_
        refine St.load rfl rfl (by kernel_rfl) (Holds.row mem1 (v := .int .u32 ((i0 : Nat) : Int)) rfl) ?_
        refine St.move rfl rfl ?_
        refine St.add rfl rfl rfl ?_
        rw [plus_u32]
        refine St.indexArr (n := 5) (sz := 1) rfl rfl rfl (by kernel_rfl) (by omega) ?_
        refine St.load rfl rfl (by kernel_rfl) (Holds.row mem1 (v := .int .u32 ((i1 : Nat) : Int)) rfl) ?_
        refine St.move rfl rfl ?_
        refine St.add rfl rfl rfl ?_
        rw [plus_u32]
        refine St.indexArr (n := 5) (sz := 1) rfl rfl rfl (by kernel_rfl) (by omega) ?_
        refine St.load rfl rfl (by kernel_rfl) (Holds.row mem1 (v := .int .u32 ((i2 : Nat) : Int)) rfl) ?_
        refine St.move rfl rfl ?_
        refine St.add rfl rfl rfl ?_
        rw [plus_u32]
        refine St.indexArr (n := 5) (sz := 1) rfl rfl rfl (by kernel_rfl) (by omega) ?_
        refine St.load rfl rfl (by kernel_rfl) (Holds.row mem1 (v := .int .u32 ((i3 : Nat) : Int)) rfl) ?_
        refine St.move rfl rfl ?_
        refine St.add rfl rfl rfl ?_
        rw [plus_u32]
        refine St.indexArr (n := 5) (sz := 1) rfl rfl rfl (by kernel_rfl) (by omega) ?_
        refine St.load rfl rfl (by kernel_rfl) (Holds.row mem1 (v := .int .u32 ((i4 : Nat) : Int)) rfl) ?_
        refine St.move rfl rfl ?_
        refine St.add rfl rfl rfl ?_
        rw [plus_u32]
        refine St.build [(0, w32 (plus i0 va)), (1, w32 (plus i1 vb)), (2, w32 (plus i2 vc)), (3, w32 (plus i3 vd)), (4, w32 (plus i4 ve))] (w32s [plus i0 va, plus i1 vb, plus i2 vc, plus i3 vd, plus i4 ve]) rfl rfl (by kernel_rfl) ?_
        refine St.storeN rfl rfl rfl (w32s [plus i0 va, plus i1 vb, plus i2 vc, plus i3 vd, plus i4 ve]) rfl (by kernel_rfl) (by simp [w32s, w32, one]) (by simp [w32s]) (fun _ h => h.nil) ?_
        rw [splice_all [.int .u32 0, .int .u32 0, .int .u32 0, .int .u32 0, .int .u32 0] (w32s [plus i0 va, plus i1 vb, plus i2 vc, plus i3 vd, plus i4 ve]) rfl]
        refine St.done ?_
        refine SX.seq ?_
        refine SC.ret ?_
        exact SX.retC (w32s [plus i0 va, plus i1 vb, plus i2 vc, plus i3 vd, plus i4 ve]) (.inl rfl) rfl rfl (by kernel_rfl) (HoldsN.of_row mem0) (fun w h => h.drop.drop) ⟨rfl, by unfold mixOf; rw [hr]; rfl⟩
end Go.Proofs.Ytahafepgmkiabaa
