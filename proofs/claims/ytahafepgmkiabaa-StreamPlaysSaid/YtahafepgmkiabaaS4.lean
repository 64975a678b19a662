/- Walks: the sum of what was written. -/
import Derived.Test.YtahafepgmkiabaaS3
set_option linter.unusedVariables false
set_option linter.unusedSimpArgs false
set_option linter.ambiguousOpen false
namespace Go.Proofs.Ytahafepgmkiabaa
open Go Go.Proofs.Ytahafepgmkiabaa.Sep

theorem write_spec (w0 : World) (L : List Chunk) (k p : Nat) (v rv : Value) (xs ys : List Nat) (E : Chunk) (hk : 1 ≤ k ∧ k ≤ 3) (hb : Buf 5 1 rv (bytes (restOf k xs)) (restOf k xs).length E) (hxl : xs.length ≤ 4611686018427387904) (hx : Rd w0 L v 1 ys.length (bytes ys)) (hl : ys.length ≤ 140737488351232) (hys : ∀ b ∈ ys, b < 256) (hxs : ∀ b ∈ xs, b < 256) :
    Meets Try.prog 50 #[.pointer (some ⟨p, 0, none⟩), v] w0 ([⟨p, sumRow k xs rv, 168⟩] :: E :: L) (fun r L' => SumAt k p (xs ++ ys) L L') := by
  have h3 : k = 1 ∨ k = 2 ∨ k = 3 := by omega
  rcases h3 with rfl | rfl | rfl
  · exact write1_spec w0 L p v rv xs ys E hb hxl hx hl hys hxs
  · exact write2_spec w0 L p v rv xs ys E hb hxl hx hl hys hxs
  · exact write3_spec w0 L p v rv xs ys E hb hxl hx hl hys hxs
def sumOf (k : Nat) (xs : List Nat) : List Nat := if k = 1 then sha1 xs else if k = 2 then four (crc xs) else four (adler xs)
def SumR (xs : List Nat) (M : List Chunk) (r : Value) (L' : List Chunk) : Prop := ∃ E', L' = E' :: M ∧ Buf 5 1 r (bytes xs) xs.length E'
theorem rem64 (a : Nat) : ((a : Nat) : Int).tmod 64 = ((a % 64 : Nat) : Int) := tmod_nat a 64
theorem shr29_u64 (a : Nat) : ((a : Nat) : Int).fdiv (2 ^ (min (29 : Int).toNat IntKind.u64.bits)) = ((a / 2 ^ 29 : Nat) : Int) := shr_u64 a 29 (by decide)
theorem shl3_u64 (a : Nat) : IntKind.u64.wrap ((a : Int) * 2 ^ (min (3 : Int).toNat IntKind.u64.bits)) = ((a * 2 ^ 3 % 18446744073709551616 : Nat) : Int) := shl_u64 a 3 (by decide)
theorem list5_len (h : Five) : (list5 h).length = 5 := by obtain ⟨i0, i1, i2, i3, i4⟩ := h; rfl
theorem words5_flat (h : Five) : words5 h = (list5 h).flatMap four := by obtain ⟨i0, i1, i2, i3, i4⟩ := h; simp [words5, list5, four]
theorem words5_len (h : Five) : (words5 h).length = 20 := by obtain ⟨i0, i1, i2, i3, i4⟩ := h; rfl
theorem sha1_len (xs : List Nat) : (sha1 xs).length = 20 := words5_len _
theorem sha1_lt (xs : List Nat) : ∀ b ∈ sha1 xs, b < 256 := by
  unfold sha1
  generalize blocks _ _ _ = h
  obtain ⟨i0, i1, i2, i3, i4⟩ := h
  intro b hb
  simp only [words5, List.mem_append] at hb
  rcases hb with h | h | h | h | h <;> exact four_lt _ _ h
theorem four_len (n : Nat) : (four n).length = 4 := rfl
theorem sha1_of (xs : List Nat) : sha1 xs = words5 (blocks (xs.drop (64 * (xs.length / 64)) ++ padTo xs.length) (blocks xs h0 (xs.length / 64)) ((xs.drop (64 * (xs.length / 64)) ++ padTo xs.length).length / 64)) := by
  unfold sha1
  have hp := pad_len xs.length
  have e : (xs.length + (padTo xs.length).length) / 64 = xs.length / 64 + (xs.drop (64 * (xs.length / 64)) ++ padTo xs.length).length / 64 := by
    rw [List.length_append, List.length_drop]; omega
  rw [e, blocks_add, blocks_app _ _ _ _ (by omega), List.drop_append_of_le_length (by omega)]

theorem sum2_spec (w0 : World) (L : List Chunk) (p : Nat) (rv : Value) (xs : List Nat) (E : Chunk) (hb : Buf 5 1 rv (bytes (restOf 2 xs)) (restOf 2 xs).length E) (hxs : ∀ b ∈ xs, b < 256) (hxl : xs.length ≤ 1152921504606846976) :
    Meets Try.prog 51 #[.pointer (some ⟨p, 0, none⟩)] w0 ([⟨p, sumRow 2 xs rv, 168⟩] :: E :: L) (SumR (four (crc xs)) ([⟨p, sumRow 2 xs rv, 168⟩] :: E :: L)) := by
  have hcl := crcState_lt hxs xs.length
  have htl : (tabTo 256).length = 256 := tab_len 256
  have hrow : sumRow 2 xs rv = srow 2 h0 rv 0 (tabTo 256) (crcState xs xs.length) 1 0 := rfl
  rw [hrow]
  refine Meets.of_body [.pointer (some ⟨p, 0, none⟩)] Try.func51 rfl Try.ntmps51 rfl ?_
  refine SC.seq ?_
  refine SC.plain ?_
  refine St.assign rfl rfl ?_
  refine St.done ?_
  refine SX.seq ?_
  refine SC.seq ?_
  refine SC.seq ?_
  refine SC.plain ?_
  refine St.move rfl rfl ?_
  refine St.nilCheck rfl rfl ?_
  refine St.fieldAddr (off := 0) rfl rfl (by kernel_rfl) ?_
  refine St.load rfl rfl (by kernel_rfl) (at_row mem0 0 _ srow_kind rfl) ?_
  refine St.done ?_
  refine SX.seq ?_
  refine SC.block ?_
  refine SC.seq ?_
  refine SC.plain ?_
  refine St.eql rfl rfl rfl ?_
  refine St.assign rfl rfl ?_
  refine St.done ?_
  refine SX.seq ?_
  refine SC.condp rfl (fun c12 => ?_) (fun c12 => ?_)
  · refine SC.seq ?_
    refine SC.drawn [(1, true), (2, true), (3, true), (4, true), (5, true), (0, false), (6, false), (7, true)] [] ([⟨p, srow 2 h0 rv 0 (tabTo 256) (crcState xs xs.length) 1 0, 168⟩] :: E :: L) (by kernel_rfl) (by kernel_rfl) (fun _ h => h) ?_
    refine St.move rfl rfl ?_
    refine St.nilCheck rfl rfl ?_
    refine St.fieldAddr (off := 264) rfl rfl (by kernel_rfl) ?_
    refine St.load rfl rfl (by kernel_rfl) (at_row mem0 264 _ (srow_crc htl) rfl) ?_
    refine St.compl rfl rfl ?_
    rw [no_u32 _ hcl]
    refine St.makeSl (e := 5) (zv := .int .u8 0) (bytes := 1) rfl rfl rfl (by kernel_rfl) (by omega) (by omega) (by omega) (fun _ _ h => h.drop) (fun mm => ?_)
    refine St.call [.slice (some ⟨mm, 0, none⟩) 0 4, .int .u32 ((no32 (crcState xs xs.length) : Nat) : Int)] rfl (by kernel_rfl) rfl (four_spec w0 _ _ [] _ _ (Buf.made (xs := []) (n := 0) (c := 4) (sz := 1) rfl (by simp) (by omega)) (by decide)) (fun _ _ _ h hw => by obtain ⟨E1, e, _⟩ := h; rw [e] at hw; exact hw.drop) ?_
    rintro r L1 ⟨E1, rfl, hb1⟩
    refine St.assign rfl rfl ?_
    refine St.done ?_
    refine SX.tail ?_
    refine St.done ?_
    refine SX.seq ?_
    refine SC.ret ?_
    refine SX.blk_ret ?_
    refine SX.seq_ret ?_
    exact SX.ret1 rfl rfl ⟨E1, rfl, hb1⟩
  · exfalso; omega
theorem sum3_spec (w0 : World) (L : List Chunk) (p : Nat) (rv : Value) (xs : List Nat) (E : Chunk) (hb : Buf 5 1 rv (bytes (restOf 3 xs)) (restOf 3 xs).length E) (hxs : ∀ b ∈ xs, b < 256) (hxl : xs.length ≤ 1152921504606846976) :
    Meets Try.prog 51 #[.pointer (some ⟨p, 0, none⟩)] w0 ([⟨p, sumRow 3 xs rv, 168⟩] :: E :: L) (SumR (four (adler xs)) ([⟨p, sumRow 3 xs rv, 168⟩] :: E :: L)) := by
  have ha := adlA_lt xs xs.length
  have hbb := adlB_lt xs xs.length
  have hrow : sumRow 3 xs rv = srow 3 h0 rv 0 tab0 4294967295 (adlA xs xs.length) (adlB xs xs.length) := rfl
  rw [hrow]
  refine Meets.of_body [.pointer (some ⟨p, 0, none⟩)] Try.func51 rfl Try.ntmps51 rfl ?_
  refine SC.seq ?_
  refine SC.plain ?_
  refine St.assign rfl rfl ?_
  refine St.done ?_
  refine SX.seq ?_
  refine SC.seq ?_
  refine SC.seq ?_
  refine SC.plain ?_
  refine St.move rfl rfl ?_
  refine St.nilCheck rfl rfl ?_
  refine St.fieldAddr (off := 0) rfl rfl (by kernel_rfl) ?_
  refine St.load rfl rfl (by kernel_rfl) (at_row mem0 0 _ srow_kind rfl) ?_
  refine St.done ?_
  refine SX.seq ?_
  refine SC.block ?_
  refine SC.seq ?_
  refine SC.plain ?_
  refine St.eql rfl rfl rfl ?_
  refine St.assign rfl rfl ?_
  refine St.done ?_
  refine SX.seq ?_
  refine SC.condp rfl (fun c12 => ?_) (fun c12 => ?_)
  · exfalso; omega
  · refine SC.seq ?_
    refine SC.plain ?_
    refine St.eql rfl rfl rfl ?_
    refine St.assign rfl rfl ?_
    refine St.done ?_
    refine SX.seq ?_
    refine SC.condp rfl (fun c21 => ?_) (fun c21 => ?_)
    · refine SC.seq ?_
      refine SC.drawn [(1, true), (2, true), (3, true), (4, true), (5, true), (6, true), (7, true), (8, true), (9, true), (10, true), (0, false), (11, false), (12, true)] [] ([⟨p, srow 3 h0 rv 0 tab0 4294967295 (adlA xs xs.length) (adlB xs xs.length), 168⟩] :: E :: L) (by kernel_rfl) (by kernel_rfl) (fun _ h => h) ?_
      refine St.move rfl rfl ?_
      refine St.nilCheck rfl rfl ?_
      refine St.fieldAddr (off := 266) rfl rfl (by kernel_rfl) ?_
      refine St.load rfl rfl (by kernel_rfl) (at_row mem0 266 _ (srow_b tab0_len) rfl) ?_
      refine St.shl rfl rfl rfl (by omega) ?_
      rw [shl_16, Nat.mod_eq_of_lt (by omega)]
      refine St.move rfl rfl ?_
      refine St.nilCheck rfl rfl ?_
      refine St.fieldAddr (off := 265) rfl rfl (by kernel_rfl) ?_
      refine St.load rfl rfl (by kernel_rfl) (at_row mem0 265 _ (srow_a tab0_len) rfl) ?_
      refine St.orI rfl rfl rfl ?_
      rw [or_u32 _ _ (by omega) (by omega)]
      refine St.makeSl (e := 5) (zv := .int .u8 0) (bytes := 1) rfl rfl rfl (by kernel_rfl) (by omega) (by omega) (by omega) (fun _ _ h => h.drop) (fun mm => ?_)
      refine St.call [.slice (some ⟨mm, 0, none⟩) 0 4, .int .u32 ((adler xs : Nat) : Int)] rfl (by kernel_rfl) rfl (four_spec w0 _ _ [] _ _ (Buf.made (xs := []) (n := 0) (c := 4) (sz := 1) rfl (by simp) (by omega)) (by decide)) (fun _ _ _ h hw => by obtain ⟨E1, e, _⟩ := h; rw [e] at hw; exact hw.drop) ?_
      rintro r L1 ⟨E1, rfl, hb1⟩
      refine St.assign rfl rfl ?_
      refine St.done ?_
      refine SX.tail ?_
      refine St.done ?_
      refine SX.seq ?_
      refine SC.ret ?_
      refine SX.blk_ret ?_
      refine SX.seq_ret ?_
      exact SX.ret1 rfl rfl ⟨E1, rfl, hb1⟩
    · exfalso; omega
theorem sum1_spec (w0 : World) (L : List Chunk) (p : Nat) (rv : Value) (xs : List Nat) (E : Chunk) (hb : Buf 5 1 rv (bytes (restOf 1 xs)) (restOf 1 xs).length E) (hxs : ∀ b ∈ xs, b < 256) (hxl : xs.length ≤ 1152921504606846976) :
    Meets Try.prog 51 #[.pointer (some ⟨p, 0, none⟩)] w0 ([⟨p, sumRow 1 xs rv, 168⟩] :: E :: L) (SumR (sha1 xs) ([⟨p, sumRow 1 xs rv, 168⟩] :: E :: L)) := by
  have hrest : restOf 1 xs = xs.drop (64 * (xs.length / 64)) := rfl
  have hrl : (restOf 1 xs).length = xs.length - 64 * (xs.length / 64) := by rw [hrest, List.length_drop]
  have hsh := sha1_of xs
  have hs5 := blocks_small (bs := xs) h0_small (xs.length / 64)
  have hrow : sumRow 1 xs rv = srow 1 (blocks xs h0 (xs.length / 64)) rv xs.length tab0 4294967295 1 0 := rfl
  have hrb : ∀ b ∈ restOf 1 xs, b < 256 := fun b hb => hxs b (List.mem_of_mem_drop hb)
  have hpl := pad_len xs.length
  have hpb : ∀ b ∈ padTo xs.length, b < 256 := by
    intro b hb
    simp only [padTo, List.mem_cons, List.mem_append, List.mem_replicate] at hb
    rcases hb with rfl | h | h | h
    · decide
    · omega
    · exact four_lt _ _ h
    · exact four_lt _ _ h
  rw [hrow]
  generalize hi5 : blocks xs h0 (xs.length / 64) = hs at hs5 ⊢
  obtain ⟨i0, i1, i2, i3, i4⟩ := hs
  generalize restOf 1 xs = rs at hb hrest hrl hrb
  subst hrest
  generalize hrs : xs.drop (64 * (xs.length / 64)) = rs at hb hrl hrb
  have hrest := hrs
  obtain ⟨n, hn⟩ : ∃ n, n = rs.length := ⟨_, rfl⟩
  rw [← hn] at hb hrl
  generalize htot : rs ++ padTo xs.length = tot
  have htl : ∀ b ∈ tot, b < 256 := by rw [← htot]; exact fun b hb => (List.mem_append.1 hb).elim (hrb b) (hpb b)
  have htlen : tot.length % 64 = 0 := by rw [← htot, List.length_append]; omega
  have hbr := hb.read
  obtain ⟨b, o, A, c, rfl, _, _⟩ := hbr
  refine Meets.of_body [.pointer (some ⟨p, 0, none⟩)] Try.func51 rfl Try.ntmps51 rfl ?_
  refine SC.seq ?_
  refine SC.plain ?_
  refine St.assign rfl rfl ?_
  refine St.done ?_
  refine SX.seq ?_
  refine SC.seq ?_
  refine SC.seq ?_
  refine SC.plain ?_
  refine St.move rfl rfl ?_
  refine St.nilCheck rfl rfl ?_
  refine St.fieldAddr (off := 0) rfl rfl (by kernel_rfl) ?_
  refine St.load rfl rfl (by kernel_rfl) (at_row mem0 0 _ srow_kind rfl) ?_
  refine St.done ?_
  refine SX.seq ?_
  refine SC.block ?_
  refine SC.seq ?_
  refine SC.plain ?_
  refine St.eql rfl rfl rfl ?_
  refine St.assign rfl rfl ?_
  refine St.done ?_
  refine SX.seq ?_
  refine SC.condp rfl (fun c12 => ?_) (fun c12 => ?_)
  · exfalso; omega
  · refine SC.seq ?_
    refine SC.plain ?_
    refine St.eql rfl rfl rfl ?_
    refine St.assign rfl rfl ?_
    refine St.done ?_
    refine SX.seq ?_
    refine SC.condp rfl (fun c21 => ?_) (fun c21 => ?_)
    · exfalso; omega
    · refine SC.skip ?_
      refine SX.blk ?_
      refine SX.seq ?_
      refine SC.seq ?_
      refine SC.plain ?_
      refine St.move rfl rfl ?_
      refine St.nilCheck rfl rfl ?_
      refine St.fieldAddr (off := 6) rfl rfl (by kernel_rfl) ?_
      refine St.load rfl rfl (by kernel_rfl) (at_row mem0 6 _ srow_rest rfl) ?_
      refine St.perm ([] :: [⟨p, srow 1 (i0, i1, i2, i3, i4) (.slice A n c) xs.length tab0 4294967295 1 0, 168⟩] :: E :: L) (List.Perm.refl _) ?_
      refine St.append (e := 5) (sz := 1) (bytes := 1) (xs := []) (n := 0) (news := bytes rs) (m := n) rfl rfl rfl (by kernel_rfl) (Buf.nil 5 1) (hb.rd (List.mem_cons_of_mem _ (List.mem_cons_of_mem _ List.mem_cons_self))) (bytes_one _) (by omega) (by omega) (fun _ _ h => h.nil) (fun v2 E2 hb2 _ => ?_)
      rw [List.nil_append, Nat.zero_add] at hb2
      refine St.buildSl (e := 5) [(0, .int .u8 128)] (bytes [128]) rfl rfl (by kernel_rfl) (fun _ _ h => h.nil) (fun lit => ?_)
      refine St.perm _ (perm12 _ _ _) ?_
      refine St.append (e := 5) (sz := 1) (bytes := 1) (xs := bytes rs) (n := n) (news := bytes [128]) (m := 1) rfl rfl rfl (by kernel_rfl) hb2 (Rd.row (by first | rfl | simp [bytes]) mem1) (bytes_one _) (by omega) (by omega) (fun _ _ h => h.nil) (fun v3 E3 hb3 _ => ?_)
      rw [← bytes_app] at hb3
      refine St.perm _ (perm12 _ _ _) (St.drop ?_)
      refine St.assign rfl rfl ?_
      refine St.done ?_
      refine SX.seq ?_
      refine SC.seq ?_
      refine SC.block ?_
      refine SC.loop (α := Nat × Value × Chunk) (fun s => s.1 ≤ zerosTo xs.length ∧ Buf 5 1 s.2.1 (bytes (rs ++ 128 :: List.replicate s.1 0)) (n + 1 + s.1) s.2.2) (fun s => [(0, .pointer (some ⟨p, 0, none⟩)), (3, s.2.1)]) (fun s => s.2.2 :: [⟨p, srow 1 (i0, i1, i2, i3, i4) (.slice A n c) xs.length tab0 4294967295 1 0, 168⟩] :: E :: L) (fun s => 64 - s.1) (0, v3, E3) ⟨Nat.zero_le _, hb3⟩ ⟨rfl, rfl, trivial⟩ (List.Perm.refl _) ?_
      rintro ⟨z, v4, E4⟩ ⟨hz, hb4⟩
      simp only at hz hb4
      have hzt : zerosTo xs.length < 64 := Nat.mod_lt _ (by decide)
      show SC _ _ _ [(0, .pointer (some ⟨p, 0, none⟩)), (3, v4)] (E4 :: [⟨p, srow 1 (i0, i1, i2, i3, i4) (.slice A n c) xs.length tab0 4294967295 1 0, 168⟩] :: E :: L)
      have hbr := hb4.read
      obtain ⟨b4, o4, A4, c4, rfl, _, _⟩ := hbr
      refine SC.seq ?_
      refine SC.seq ?_
      refine SC.plain ?_
      refine St.move rfl rfl ?_
      refine St.lenSl rfl rfl (by kernel_rfl) ?_
      refine St.rem rfl rfl rfl (by omega) ?_
      rw [rem64]
      refine St.neq rfl rfl rfl ?_
      refine St.done ?_
      refine SX.seq ?_
      refine SC.condp rfl (fun c45 => ?_) (fun c45 => ?_)
      · refine SC.skip ?_
        refine SX.seq ?_
        refine SC.block ?_
        refine SC.plain ?_
        refine St.move rfl rfl ?_
        refine St.buildSl (e := 5) [(0, .int .u8 0)] (bytes [0]) rfl rfl (by kernel_rfl) (fun _ _ h => h.nil) (fun lit2 => ?_)
        refine St.perm _ (perm12 _ _ _) ?_
        refine St.append (e := 5) (sz := 1) (bytes := 1) (xs := bytes (rs ++ 128 :: List.replicate z 0)) (n := (n + 1 + z)) (news := bytes [0]) (m := 1) rfl rfl rfl (by kernel_rfl) hb4 (Rd.row (by first | rfl | simp [bytes]) mem1) (bytes_one _) (by omega) (by omega) (fun _ _ h => h.nil) (fun v5 E5 hb5 _ => ?_)
        rw [← bytes_app] at hb5
        refine St.perm _ (perm12 _ _ _) (St.drop ?_)
        refine St.assign rfl rfl ?_
        refine St.done ?_
        refine SX.blk ?_
        exact SX.again (z + 1, v5, E5) ⟨by simp only [zerosTo] at *; omega, by simp only; rw [List.replicate_succ', show n + 1 + (z + 1) = n + 1 + z + 1 by omega]; simpa using hb5⟩ (by simp only [zerosTo] at *; omega) ⟨rfl, rfl, trivial⟩ (List.Perm.refl _)
      · have hze : z = zerosTo xs.length := by simp only [zerosTo] at *; omega
        subst hze
        refine SC.exit ?_
        refine SX.seq_exit ?_
        refine SX.seq_exit ?_
        refine SX.hit ?_
        refine SX.seq ?_
        refine SC.seq ?_
        refine SC.drawn [(0, true), (1, true), (2, true), (3, true), (4, true), (5, true), (6, true), (8, true), (9, true), (10, true), (11, true), (12, true), (13, true), (7, false), (14, false), (15, true)] [] ([⟨p, srow 1 (i0, i1, i2, i3, i4) (.slice A n c) xs.length tab0 4294967295 1 0, 168⟩] :: E :: L) (by kernel_rfl) (by kernel_rfl) (fun _ h => h.drop) ?_
        refine St.move rfl rfl ?_
        refine St.move rfl rfl ?_
        refine St.nilCheck rfl rfl ?_
        refine St.fieldAddr (off := 7) rfl rfl (by kernel_rfl) ?_
        refine St.load rfl rfl (by kernel_rfl) (at_row mem0 7 _ srow_len rfl) ?_
        refine St.shr rfl rfl rfl (by omega) ?_
        rw [shr29_u64]
        refine St.convI (k := .u32) rfl rfl (by kernel_rfl) (by kernel_rfl) ?_
        rw [wrap_u32]
        refine St.move rfl rfl ?_
        refine St.nilCheck rfl rfl ?_
        refine St.fieldAddr (off := 7) rfl rfl (by kernel_rfl) ?_
        refine St.load rfl rfl (by kernel_rfl) (at_row mem0 7 _ srow_len rfl) ?_
        refine St.shl rfl rfl rfl (by omega) ?_
        rw [shl3_u64]
        refine St.convI (k := .u32) rfl rfl (by kernel_rfl) (by kernel_rfl) ?_
        rw [wrap_u32, show xs.length * 2 ^ 3 % 18446744073709551616 % 4294967296 = xs.length * 8 % 4294967296 by omega]
        have hl4 := hb4.len
        rw [bytes_length, Nat.mul_one] at hl4
        have hb4b : Buf 5 1 (.slice A4 (n + 1 + zerosTo xs.length) c4) (bytes (rs ++ 128 :: List.replicate (zerosTo xs.length) 0)) (rs ++ 128 :: List.replicate (zerosTo xs.length) 0).length E4 := by rw [hl4]; exact hb4
        refine St.call [.slice A4 (n + 1 + zerosTo xs.length) c4, .int .u32 ((xs.length / 2 ^ 29 % 4294967296 : Nat) : Int)] rfl (by kernel_rfl) rfl (four_spec w0 _ _ (rs ++ 128 :: List.replicate (zerosTo xs.length) 0) _ _ hb4b (by omega)) (fun _ _ _ h hw => by obtain ⟨E1, e, _⟩ := h; rw [e] at hw; exact hw.drop) ?_
        rintro r L1 ⟨E6, rfl, hb6⟩
        have e6 : (rs ++ 128 :: List.replicate (zerosTo xs.length) 0).length + 4 = (rs ++ 128 :: List.replicate (zerosTo xs.length) 0 ++ four (xs.length / 2 ^ 29 % 4294967296)).length := by simp only [List.length_append, four_len]
        have e7 : (rs ++ 128 :: List.replicate (zerosTo xs.length) 0 ++ four (xs.length / 2 ^ 29 % 4294967296)).length + 4 ≤ 140737488355328 := by omega
        rw [e6] at hb6
        refine St.call [r, .int .u32 ((xs.length * 8 % 4294967296 : Nat) : Int)] rfl (by kernel_rfl) rfl (four_spec w0 _ _ _ _ _ hb6 e7) (fun _ _ _ h hw => by obtain ⟨E1, e, _⟩ := h; rw [e] at hw; exact hw.drop) ?_
        rintro r2 L1 ⟨E7, rfl, hb7⟩
        have hto : rs ++ 128 :: List.replicate (zerosTo xs.length) 0 ++ four (xs.length / 2 ^ 29 % 4294967296) ++ four (xs.length * 8 % 4294967296) = tot := by rw [← htot]; simp [padTo, List.append_assoc]
        have hb7l := hb7.len
        rw [hto] at hb7 hb7l
        rw [bytes_length, Nat.mul_one] at hb7l
        rw [← hb7l] at hb7
        refine St.assign rfl rfl ?_
        refine St.done ?_
        refine SX.tail ?_
        refine St.done ?_
        refine SX.seq ?_
        refine SC.seq ?_
        refine SC.plain ?_
        refine St.move rfl rfl ?_
        refine St.nilCheck rfl rfl ?_
        refine St.fieldAddr (off := 1) rfl rfl (by kernel_rfl) ?_
        refine St.loadAgg (w32s [i0, i1, i2, i3, i4]) rfl rfl (by kernel_rfl) (srow_hs mem1) ?_
        refine St.alloc (w32s [0, 0, 0, 0, 0]) rfl (by kernel_rfl) (fun _ _ h => h.nil) (fun q => ?_)
        refine St.storeN rfl rfl rfl (w32s [i0, i1, i2, i3, i4]) rfl (by kernel_rfl) (by simp [w32s, w32, one]) (by simp [w32s]) (fun _ h => h.nil) ?_
        rw [splice_all (w32s [0, 0, 0, 0, 0]) (w32s [i0, i1, i2, i3, i4]) rfl]
        refine St.done ?_
        refine SX.seq ?_
        refine SC.seq ?_
        refine SC.block ?_
        refine SC.loop (α := Nat × Value × Chunk) (fun s => 64 * s.1 ≤ tot.length ∧ Buf 5 1 s.2.1 (bytes (tot.drop (64 * s.1))) (tot.length - 64 * s.1) s.2.2) (fun s => [(0, .pointer (some ⟨p, 0, none⟩)), (3, s.2.1), (4, .pointer (some ⟨q, 0, none⟩))]) (fun s => [⟨q, w32s (list5 (blocks tot (i0, i1, i2, i3, i4) s.1)), 165⟩] :: s.2.2 :: [⟨p, srow 1 (i0, i1, i2, i3, i4) (.slice A n c) xs.length tab0 4294967295 1 0, 168⟩] :: E :: L) (fun s => tot.length - 64 * s.1) (0, r2, E7) ⟨by simp only; omega, by simp only; exact hb7⟩ ⟨rfl, rfl, rfl, trivial⟩ (List.Perm.refl _) ?_
        rintro ⟨j, v8, E8⟩ ⟨hj, hb8⟩
        simp only at hj hb8
        have hsm := blocks_small (bs := tot) hs5 j
        have hnext : blocks tot (i0, i1, i2, i3, i4) (j + 1) = mixOf (blocks tot (i0, i1, i2, i3, i4) j) (tot.drop (64 * j)) := rfl
        show SC _ _ _ [(0, .pointer (some ⟨p, 0, none⟩)), (3, v8), (4, .pointer (some ⟨q, 0, none⟩))] ([⟨q, w32s (list5 (blocks tot (i0, i1, i2, i3, i4) j)), 165⟩] :: E8 :: [⟨p, srow 1 (i0, i1, i2, i3, i4) (.slice A n c) xs.length tab0 4294967295 1 0, 168⟩] :: E :: L)
        generalize hh : blocks tot (i0, i1, i2, i3, i4) j = hs at hsm hnext ⊢
        obtain ⟨j0, j1, j2, j3, j4⟩ := hs
        have hbr := hb8.read
        obtain ⟨b8, o8, A8, c8, rfl, _, _⟩ := hbr
        refine SC.seq ?_
        refine SC.seq ?_
        refine SC.plain ?_
        refine St.move rfl rfl ?_
        refine St.lenSl rfl rfl (by kernel_rfl) ?_
        refine St.gtr rfl rfl rfl ?_
        refine St.done ?_
        refine SX.seq ?_
        refine SC.condp rfl (fun c70 => ?_) (fun c70 => ?_)
        · have hcd := (hb8.drop 64 (by omega)).1
          generalize hm : mixOf (j0, j1, j2, j3, j4) (tot.drop (64 * j)) = ms
          obtain ⟨m0, m1, m2, m3, m4⟩ := ms
          refine SC.skip ?_
          refine SX.seq ?_
          refine SC.seq ?_
          refine SC.block ?_
          refine SC.plain ?_
          refine St.loadAgg (w32s [j0, j1, j2, j3, j4]) rfl rfl (by kernel_rfl) (HoldsN.of_row mem0) ?_
          refine St.move rfl rfl ?_
          refine St.call [.agg (w32s [j0, j1, j2, j3, j4]).toArray, .slice A8 (tot.length - 64 * j) c8] rfl (by kernel_rfl) rfl (mix_spec w0 _ _ (tot.length - 64 * j) (tot.drop (64 * j)) j0 j1 j2 j3 j4 hsm (hb8.rd (List.mem_cons_of_mem _ List.mem_cons_self)) (by omega) (fun b hb => htl b (List.mem_of_mem_drop hb))) (fun _ _ _ _ h => h.nil) ?_
          rintro r L1 ⟨rfl, rfl⟩
          rw [hm]
          refine St.storeN rfl rfl rfl (w32s [m0, m1, m2, m3, m4]) rfl (by kernel_rfl) (by simp [w32s, w32, one]) (by simp [w32s, list5]) (fun _ h => h.nil) ?_
          rw [splice_all (w32s (list5 (j0, j1, j2, j3, j4))) (w32s [m0, m1, m2, m3, m4]) rfl]
          refine St.done ?_
          refine SX.blk ?_
          refine SX.seq ?_
          refine SC.plain ?_
          refine St.move rfl rfl ?_
          refine St.cut (e := 5) (sz := 1) (l := 64) (h := tot.length - 64 * j) (m := c8) rfl rfl (by kernel_rfl) ⟨_, _, rfl, rfl⟩ rfl rfl (by omega) hcd (Nat.le_refl _) (by simp) ?_
          refine St.assign rfl rfl ?_
          refine St.done ?_
          refine SX.again (j + 1, _, E8) ⟨by simp only; omega, ?_⟩ (by simp only; omega) ⟨rfl, rfl, rfl, trivial⟩ (by simp only; (rw [hnext, hm]) <;> exact List.Perm.refl _)
          simp only
          have hd := (hb8.drop 64 (by omega)).2
          rw [show (bytes (tot.drop (64 * j))).drop (64 * 1) = bytes (tot.drop (64 * (j + 1))) by simp only [bytes, ← List.map_drop, List.drop_drop]; rw [show 64 * j + 64 * 1 = 64 * (j + 1) by omega], show tot.length - 64 * j - 64 = tot.length - 64 * (j + 1) by omega] at hd
          exact hd
        · have hje : j = tot.length / 64 := by omega
          subst hje
          rw [show xs.drop (64 * (xs.length / 64)) = rs from hrest, hi5, htot, hh] at hsh
          refine SC.exit ?_
          refine SX.seq_exit ?_
          refine SX.seq_exit ?_
          refine SX.hit ?_
          refine SX.seq ?_
          refine SC.seq ?_
          refine SC.plain ?_
          refine St.makeSl (e := 5) (zv := .int .u8 0) (bytes := 1) rfl rfl rfl (by kernel_rfl) (by omega) (by omega) (by omega) (fun _ _ h => h.nil) (fun mm => ?_)
          refine St.assign rfl rfl ?_
          refine St.done ?_
          refine SX.seq ?_
          refine SC.seq ?_
          refine SC.seq ?_
          refine SC.plain ?_
          refine St.loadAgg (w32s [j0, j1, j2, j3, j4]) rfl rfl (by kernel_rfl) (HoldsN.of_row mem1) ?_
          refine St.move rfl rfl ?_
          refine St.done ?_
          refine SX.seq ?_
          refine SC.block ?_
          refine SC.loop (α := Nat × Value × Chunk) (fun s => s.1 ≤ 5 ∧ Buf 5 1 s.2.1 (bytes (([j0, j1, j2, j3, j4].take s.1).flatMap four)) (([j0, j1, j2, j3, j4].take s.1).flatMap four).length s.2.2) (fun s => [(5, s.2.1), (77, .agg (w32s [j0, j1, j2, j3, j4]).toArray), (78, .int .i64 ((s.1 : Nat) : Int))]) (fun s => s.2.2 :: [⟨q, w32s (list5 (j0, j1, j2, j3, j4)), 165⟩] :: E8 :: [⟨p, srow 1 (i0, i1, i2, i3, i4) (.slice A n c) xs.length tab0 4294967295 1 0, 168⟩] :: E :: L) (fun s => 5 - s.1) (0, .slice (some ⟨mm, 0, none⟩) 0 20, [⟨mm, List.replicate 20 (.int .u8 0), 5⟩]) ⟨Nat.zero_le _, Buf.made (xs := []) (n := 0) (c := 20) (sz := 1) rfl (by simp) (by omega)⟩ ⟨rfl, rfl, rfl, trivial⟩ (List.Perm.refl _) ?_
          rintro ⟨i, v9, E9⟩ ⟨hi, hb9⟩
          simp only at hi hb9
          show SC _ _ _ [(5, v9), (77, .agg (w32s [j0, j1, j2, j3, j4]).toArray), (78, .int .i64 ((i : Nat) : Int))] (E9 :: [⟨q, w32s (list5 (j0, j1, j2, j3, j4)), 165⟩] :: E8 :: [⟨p, srow 1 (i0, i1, i2, i3, i4) (.slice A n c) xs.length tab0 4294967295 1 0, 168⟩] :: E :: L)
          refine SC.seq ?_
          refine SC.plain ?_
          refine St.lss rfl rfl rfl ?_
          refine St.done ?_
          refine SX.seq ?_
          refine SC.seq ?_
          refine SC.condp rfl (fun c79 => ?_) (fun c79 => ?_)
          · have hlt : i < [j0, j1, j2, j3, j4].length := by simp; omega
            have hfl := flat_len [j0, j1, j2, j3, j4] i (by omega)
            have hfl1 := flat_len [j0, j1, j2, j3, j4] (i + 1) (by omega)
            refine SC.skip ?_
            refine SX.seq ?_
            refine SC.seq ?_
            refine SC.block ?_
            refine SC.seq ?_
            refine SC.plain ?_
            refine St.indexAgg (cs := w32s [j0, j1, j2, j3, j4]) (n := 5) (sz := 1) rfl rfl rfl (by kernel_rfl) (by kernel_rfl) (by omega) (show (w32s [j0, j1, j2, j3, j4])[((i : Nat) : Int).toNat * 1]? = some (.int .u32 (([j0, j1, j2, j3, j4].getD i 0 : Nat) : Int)) by rw [Int.toNat_natCast, Nat.mul_one]; exact w32s_get _ _ hlt) ?_
            refine St.assign rfl rfl ?_
            refine St.done ?_
            refine SX.seq ?_
            refine SC.plain ?_
            refine St.move rfl rfl ?_
            refine St.move rfl rfl ?_
            refine St.call [v9, .int .u32 (([j0, j1, j2, j3, j4].getD i 0 : Nat) : Int)] rfl (by kernel_rfl) rfl (four_spec w0 _ _ _ _ _ hb9 (by omega)) (fun _ _ _ _ h => h.nil) ?_
            rintro r9 L1 ⟨E10, rfl, hb10⟩
            rw [← flat_succ _ i hlt, show (([j0, j1, j2, j3, j4].take i).flatMap four).length + 4 = (([j0, j1, j2, j3, j4].take (i + 1)).flatMap four).length by omega] at hb10
            refine St.assign rfl rfl ?_
            refine St.done ?_
            refine SX.blk ?_
            refine SX.seq ?_
            refine SC.plain ?_
            refine St.addI rfl rfl rfl (by omega) ?_
            refine St.move rfl rfl ?_
            refine St.done ?_
            exact SX.again (i + 1, r9, E10) ⟨by simp only; omega, hb10⟩ (by simp only; omega) ⟨rfl, rfl, rfl, trivial⟩ (List.Perm.refl _)
          · have hie : i = 5 := by omega
            subst hie
            refine SC.exit ?_
            refine SX.seq_exit ?_
            refine SX.seq_exit ?_
            refine SX.hit ?_
            refine SX.seq ?_
            refine SC.seq ?_
            refine SC.plain ?_
            refine St.move rfl rfl ?_
            refine St.assign rfl rfl ?_
            refine St.done ?_
            refine SX.seq ?_
            refine SC.ret ?_
            refine SX.perm _ (perm12 _ _ _) (SX.drop (SX.perm _ (perm12 _ _ _) (SX.drop ?_)))
            refine SX.ret1 rfl rfl ⟨E9, rfl, ?_⟩
            rw [hsh, words5_flat]
            exact hb9
theorem sum_spec (w0 : World) (L : List Chunk) (k p : Nat) (rv : Value) (xs : List Nat) (E : Chunk) (hk : 1 ≤ k ∧ k ≤ 3) (hb : Buf 5 1 rv (bytes (restOf k xs)) (restOf k xs).length E) (hxs : ∀ b ∈ xs, b < 256) (hxl : xs.length ≤ 1152921504606846976) :
    Meets Try.prog 51 #[.pointer (some ⟨p, 0, none⟩)] w0 ([⟨p, sumRow k xs rv, 168⟩] :: E :: L) (SumR (sumOf k xs) ([⟨p, sumRow k xs rv, 168⟩] :: E :: L)) := by
  have h3 : k = 1 ∨ k = 2 ∨ k = 3 := by omega
  rcases h3 with rfl | rfl | rfl
  · exact sum1_spec w0 L p rv xs E hb hxs hxl
  · exact sum2_spec w0 L p rv xs E hb hxs hxl
  · exact sum3_spec w0 L p rv xs E hb hxs hxl
end Go.Proofs.Ytahafepgmkiabaa
