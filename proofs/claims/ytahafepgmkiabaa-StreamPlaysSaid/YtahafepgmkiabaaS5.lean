/- Walks: sums of bytes at once, the program's; the document's CRC and Adler. -/
import Derived.Test.YtahafepgmkiabaaS4
set_option linter.unusedVariables false
set_option linter.unusedSimpArgs false
set_option linter.ambiguousOpen false
namespace Go.Proofs.Ytahafepgmkiabaa
open Go Go.Proofs.Ytahafepgmkiabaa.Sep

theorem be_four (n : Nat) (h : n < 4294967296) : be32 ((four n).getD 0 0) ((four n).getD 1 0) ((four n).getD 2 0) ((four n).getD 3 0) = n := by
  show be32 (n / 2 ^ 24 % 256) (n / 2 ^ 16 % 256) (n / 2 ^ 8 % 256) (n % 256) = n
  unfold be32
  have e1 : n / 2 ^ 24 % 256 * 2 ^ 24 % 4294967296 = n / 2 ^ 24 * 2 ^ 24 := by
    have hq : n / 2 ^ 24 < 256 := by omega
    rw [Nat.mod_eq_of_lt hq, Nat.mod_eq_of_lt (by omega)]
  have e2 : n / 2 ^ 16 % 256 * 2 ^ 16 % 4294967296 = n / 2 ^ 16 % 256 * 2 ^ 16 := by
    have hq : n / 2 ^ 16 % 256 < 256 := Nat.mod_lt _ (by decide)
    exact Nat.mod_eq_of_lt (by omega)
  have e3 : n / 2 ^ 8 % 256 * 2 ^ 8 % 4294967296 = n / 2 ^ 8 % 256 * 2 ^ 8 := by
    have hq : n / 2 ^ 8 % 256 < 256 := Nat.mod_lt _ (by decide)
    exact Nat.mod_eq_of_lt (by omega)
  rw [e1, e2, e3]
  have s1 : n / 2 ^ 24 * 2 ^ 24 ||| n / 2 ^ 16 % 256 * 2 ^ 16 = n / 2 ^ 16 * 2 ^ 16 := by
    rw [Nat.or_comm, or_add _ _ _ (by omega)]; omega
  have s2 : n / 2 ^ 16 * 2 ^ 16 ||| n / 2 ^ 8 % 256 * 2 ^ 8 = n / 2 ^ 8 * 2 ^ 8 := by
    rw [Nat.or_comm, or_add _ _ _ (by omega)]; omega
  have s3 : n / 2 ^ 8 * 2 ^ 8 ||| n % 256 = n := by
    rw [Nat.or_comm, or_add _ _ _ (by omega)]; omega
  rw [s1, s2, s3]
theorem adler_lt (xs : List Nat) : adler xs < 4294967296 := by
  have ha := adlA_lt xs xs.length
  have hb := adlB_lt xs xs.length
  exact or_lt (by omega) (by omega)
theorem text_get (s : ByteArray) (i : Nat) (h : i < s.size) : ∃ b : UInt8, s[i]? = some b ∧ b.toNat = (u8s s).getD i 0 := by
  refine ⟨s[i], ?_, ?_⟩
  · simp [h]
  · unfold u8s
    rw [List.getD_eq_getElem?_getD, List.getElem?_map]
    have : s.data.toList[i]? = some s[i] := by
      rw [List.getElem?_eq_getElem (by simpa using h)]
      rfl
    rw [this]; rfl

theorem whole_spec (w0 : World) (L : List Chunk) (k : Nat) (v : Value) (ys : List Nat) (hk : 1 ≤ k ∧ k ≤ 3) (hx : Rd w0 L v 1 ys.length (bytes ys)) (hl : ys.length ≤ 140737488351232) (hys : ∀ b ∈ ys, b < 256) :
    Meets Try.prog 109 #[.int .i64 ((k : Nat) : Int), v] w0 L (SumR (sumOf k ys) L) := by
  refine Meets.of_body [.int .i64 ((k : Nat) : Int), v] Try.func109 rfl Try.ntmps109 rfl ?_
  refine SC.seq ?_
  refine SC.plain ?_
  refine St.assign rfl rfl ?_
  refine St.done ?_
  refine SX.seq ?_
  refine SC.seq ?_
  refine SC.plain ?_
  refine St.move rfl rfl ?_
  refine St.call [.int .i64 ((k : Nat) : Int)] rfl (by kernel_rfl) rfl (begun_spec w0 L k hk) (fun _ _ _ _ h => h.nil) ?_
  rintro r L1 ⟨p, rfl, rv, E, hb, rfl⟩
  refine St.assign rfl rfl ?_
  refine St.done ?_
  refine SX.seq ?_
  refine SC.seq ?_
  refine SC.plain ?_
  refine St.move rfl rfl ?_
  refine St.move rfl rfl ?_
  refine St.call [.pointer (some ⟨p, 0, none⟩), v] rfl (by kernel_rfl) rfl (write_spec w0 L k p v rv [] ys E hk hb (by simp) hx hl hys (by simp)) (fun _ _ _ _ h => h.nil) ?_
  rintro r L1 ⟨rv2, E2, hb2, rfl⟩
  rw [List.nil_append] at hb2 ⊢
  refine St.done ?_
  refine SX.seq ?_
  refine SC.seq ?_
  refine SC.plain ?_
  refine St.move rfl rfl ?_
  refine St.call [.pointer (some ⟨p, 0, none⟩)] rfl (by kernel_rfl) rfl (sum_spec w0 L k p rv2 ys E2 hk hb2 hys (by omega)) (fun _ _ _ _ h => h.nil) ?_
  rintro r2 L1 ⟨E3, rfl, hb3⟩
  refine St.assign rfl rfl ?_
  refine St.done ?_
  refine SX.seq ?_
  refine SC.ret ?_
  refine SX.perm _ (perm12 _ _ _) (SX.drop (SX.perm _ (perm12 _ _ _) (SX.drop ?_)))
  exact SX.ret1 rfl rfl ⟨E3, rfl, hb3⟩
theorem sha_spec (w0 : World) (L : List Chunk) (v : Value) (ys : List Nat) (hx : Rd w0 L v 1 ys.length (bytes ys)) (hl : ys.length ≤ 140737488351232) (hys : ∀ b ∈ ys, b < 256) :
    Meets Try.prog 42 #[v] w0 L (SumR (sha1 ys) L) := by
  refine Meets.of_body [v] Try.func42 rfl Try.ntmps42 rfl ?_
  refine SC.seq ?_
  refine SC.plain ?_
  refine St.assign rfl rfl ?_
  refine St.done ?_
  refine SX.seq ?_
  refine SC.seq ?_
  refine SC.plain ?_
  refine St.move rfl rfl ?_
  refine St.call [.int .i64 ((1 : Nat) : Int), v] rfl (by kernel_rfl) rfl (whole_spec w0 L 1 v ys (by decide) hx hl hys) (fun _ _ _ _ h => h.nil) ?_
  rintro r2 L1 ⟨E3, rfl, hb3⟩
  refine St.assign rfl rfl ?_
  refine St.done ?_
  refine SX.seq ?_
  refine SC.ret ?_
  exact SX.ret1 rfl rfl ⟨E3, rfl, hb3⟩
theorem crc_spec (w0 : World) (L : List Chunk) (v : Value) (ys : List Nat) (hx : Rd w0 L v 1 ys.length (bytes ys)) (hl : ys.length ≤ 140737488351232) (hys : ∀ b ∈ ys, b < 256) :
    Meets Try.prog 44 #[v] w0 L (fun r L' => L = L' ∧ r = .int .u32 ((crc ys : Nat) : Int)) := by
  refine Meets.of_body [v] Try.func44 rfl Try.ntmps44 rfl ?_
  refine SC.seq ?_
  refine SC.plain ?_
  refine St.assign rfl rfl ?_
  refine St.done ?_
  refine SX.seq ?_
  refine SC.seq ?_
  refine SC.plain ?_
  refine St.move rfl rfl ?_
  refine St.call [.int .i64 ((2 : Nat) : Int), v] rfl (by kernel_rfl) rfl (whole_spec w0 L 2 v ys (by decide) hx hl hys) (fun _ _ _ _ h => h.nil) ?_
  rintro r2 L1 ⟨E3, rfl, hb3⟩
  refine St.call [r2] rfl (by kernel_rfl) rfl (number_spec w0 _ r2 _ (four (crc ys)) (hb3.rd List.mem_cons_self) (Nat.le_refl 4) (four_lt _)) (fun _ _ _ _ h => h.nil) ?_
  rintro r3 L1 ⟨rfl, rfl⟩
  rw [be_four _ (crc_lt hys)]
  refine St.drop ?_
  refine St.assign rfl rfl ?_
  refine St.done ?_
  refine SX.seq ?_
  refine SC.ret ?_
  exact SX.ret1 rfl rfl ⟨rfl, rfl⟩
theorem adler_spec (w0 : World) (L : List Chunk) (v : Value) (ys : List Nat) (hx : Rd w0 L v 1 ys.length (bytes ys)) (hl : ys.length ≤ 140737488351232) (hys : ∀ b ∈ ys, b < 256) :
    Meets Try.prog 46 #[v] w0 L (fun r L' => L = L' ∧ r = .int .u32 ((adler ys : Nat) : Int)) := by
  refine Meets.of_body [v] Try.func46 rfl Try.ntmps46 rfl ?_
  refine SC.seq ?_
  refine SC.plain ?_
  refine St.assign rfl rfl ?_
  refine St.done ?_
  refine SX.seq ?_
  refine SC.seq ?_
  refine SC.plain ?_
  refine St.move rfl rfl ?_
  refine St.call [.int .i64 ((3 : Nat) : Int), v] rfl (by kernel_rfl) rfl (whole_spec w0 L 3 v ys (by decide) hx hl hys) (fun _ _ _ _ h => h.nil) ?_
  rintro r2 L1 ⟨E3, rfl, hb3⟩
  refine St.call [r2] rfl (by kernel_rfl) rfl (number_spec w0 _ r2 _ (four (adler ys)) (hb3.rd List.mem_cons_self) (Nat.le_refl 4) (four_lt _)) (fun _ _ _ _ h => h.nil) ?_
  rintro r3 L1 ⟨rfl, rfl⟩
  rw [be_four _ (adler_lt _)]
  refine St.drop ?_
  refine St.assign rfl rfl ?_
  refine St.done ?_
  refine SX.seq ?_
  refine SC.ret ?_
  exact SX.ret1 rfl rfl ⟨rfl, rfl⟩
theorem rcrc_spec (w0 : World) (L : List Chunk) (s : ByteArray) (hl : s.size ≤ 140737488351232) :
    Meets Try.prog 45 #[.string s] w0 L (fun r L' => L = L' ∧ r = .int .u32 ((crc (u8s s) : Nat) : Int)) := by
  have hul := u8s_length s
  have hub := u8s_lt s
  refine Meets.of_body [.string s] Try.func45 rfl Try.ntmps45 rfl ?_
  refine SC.seq ?_
  refine SC.plain ?_
  refine St.assign rfl rfl ?_
  refine St.done ?_
  refine SX.seq ?_
  refine SC.seq ?_
  refine SC.plain ?_
  refine St.assign rfl rfl ?_
  refine St.done ?_
  refine SX.seq ?_
  refine SC.seq ?_
  refine SC.seq ?_
  refine SC.plain ?_
  refine St.assign rfl rfl ?_
  refine St.done ?_
  refine SX.seq ?_
  refine SC.block ?_
  refine SC.loop (α := Nat) (fun i => i ≤ s.size) (fun i => [(0, .string s), (3, .int .u32 ((crcState (u8s s) i : Nat) : Int)), (4, .int .i64 ((i : Nat) : Int))]) (fun _ => L) (fun i => s.size - i) 0 (Nat.zero_le _) ⟨rfl, rfl, rfl, trivial⟩ (List.Perm.refl _) ?_
  intro i hi
  have hcl := crcState_lt hub i
  refine SC.seq ?_
  refine SC.seq ?_
  refine SC.plain ?_
  refine St.move rfl rfl ?_
  refine St.move rfl rfl ?_
  refine St.lenStr rfl rfl (by kernel_rfl) ?_
  refine St.lss rfl rfl rfl ?_
  refine St.done ?_
  refine SX.seq ?_
  refine SC.condp rfl (fun c9 => ?_) (fun c9 => ?_)
  · have hlt : i < s.size := by omega
    obtain ⟨ub, hub1, hub2⟩ := text_get s i hlt
    have hui := getD_lt hub i
    refine SC.skip ?_
    refine SX.seq ?_
    refine SC.seq ?_
    refine SC.block ?_
    refine SC.seq ?_
    refine SC.plain ?_
    refine St.move rfl rfl ?_
    refine St.move rfl rfl ?_
    refine St.move rfl rfl ?_
    refine St.indexStr (i := i) rfl rfl rfl (by kernel_rfl) hub1 ?_
    rw [hub2]
    refine St.convI (k := .u32) rfl rfl (by kernel_rfl) (by kernel_rfl) ?_
    rw [wrap_u32_lt _ (by omega)]
    refine St.xorI rfl rfl rfl ?_
    rw [xor_u32 _ _ hcl (by omega)]
    have hxl := xor_lt hcl (show (u8s s).getD i 0 < 4294967296 by omega)
    refine St.assign rfl rfl ?_
    refine St.done ?_
    refine SX.seq ?_
    refine SC.seq ?_
    refine SC.plain ?_
    refine St.assign rfl rfl ?_
    refine St.done ?_
    refine SX.seq ?_
    refine SC.block ?_
    refine SC.loop (α := Nat) (fun k => k ≤ 8) (fun k => [(0, .string s), (3, .int .u32 ((csteps k (crcState (u8s s) i ^^^ (u8s s).getD i 0) : Nat) : Int)), (4, .int .i64 ((i : Nat) : Int)), (5, .int .i64 ((k : Nat) : Int))]) (fun _ => L) (fun k => 8 - k) 0 (by omega) ⟨rfl, rfl, rfl, rfl, trivial⟩ (List.Perm.refl _) ?_
    intro k hk
    have hc2 := csteps_lt hxl k
    refine SC.seq ?_
    refine SC.seq ?_
    refine SC.plain ?_
    refine St.move rfl rfl ?_
    refine St.lss rfl rfl rfl ?_
    refine St.done ?_
    refine SX.seq ?_
    refine SC.condp rfl (fun c19 => ?_) (fun c19 => ?_)
    · refine SC.skip ?_
      refine SX.seq ?_
      refine SC.seq ?_
      refine SC.block ?_
      refine SC.seq ?_
      refine SC.plain ?_
      refine St.move rfl rfl ?_
      refine St.andI rfl rfl rfl ?_
      rw [and_one_u32 _ hc2]
      refine St.eql rfl rfl rfl ?_
      refine St.done ?_
      refine SX.seq ?_
      refine SC.condp rfl (fun c24 => ?_) (fun c24 => ?_)
      · have hst : csteps (k + 1) (crcState (u8s s) i ^^^ (u8s s).getD i 0) = csteps k (crcState (u8s s) i ^^^ (u8s s).getD i 0) / 2 ^^^ 3988292384 := by simp only [csteps, cstep]; rw [if_pos (by omega)]
        refine SC.plain ?_
        refine St.move rfl rfl ?_
        refine St.shr rfl rfl rfl (by omega) ?_
        rw [shr_1]
        refine St.xorI rfl rfl rfl ?_
        rw [show bits .xor .u32 ((csteps k (crcState (u8s s) i ^^^ (u8s s).getD i 0) / 2 : Nat) : Int) 3988292384 = ((csteps k (crcState (u8s s) i ^^^ (u8s s).getD i 0) / 2 ^^^ 3988292384 : Nat) : Int) from xor_u32 _ 3988292384 (by omega) (by decide)]
        refine St.assign rfl rfl ?_
        refine St.done ?_
        refine SX.blk ?_
        refine SX.seq ?_
        refine SC.plain ?_
        refine St.move rfl rfl ?_
        refine St.addI rfl rfl rfl (by omega) ?_
        refine St.assign rfl rfl ?_
        refine St.done ?_
        exact SX.again (k + 1) (by omega) (by show 8 - (k + 1) < 8 - k; omega) ⟨rfl, by rw [hst]; rfl, rfl, rfl, trivial⟩ (List.Perm.refl _)
      · have hst : csteps (k + 1) (crcState (u8s s) i ^^^ (u8s s).getD i 0) = csteps k (crcState (u8s s) i ^^^ (u8s s).getD i 0) / 2 := by simp only [csteps, cstep]; rw [if_neg (by omega)]
        refine SC.plain ?_
        refine St.move rfl rfl ?_
        refine St.shr rfl rfl rfl (by omega) ?_
        rw [shr_1]
        refine St.assign rfl rfl ?_
        refine St.done ?_
        refine SX.blk ?_
        refine SX.seq ?_
        refine SC.plain ?_
        refine St.move rfl rfl ?_
        refine St.addI rfl rfl rfl (by omega) ?_
        refine St.assign rfl rfl ?_
        refine St.done ?_
        exact SX.again (k + 1) (by omega) (by show 8 - (k + 1) < 8 - k; omega) ⟨rfl, by rw [hst]; rfl, rfl, rfl, trivial⟩ (List.Perm.refl _)
    · have hke : k = 8 := by omega
      subst hke
      refine SC.exit ?_
      refine SX.seq_exit ?_
      refine SX.seq_exit ?_
      refine SX.hit ?_
      refine SX.blk ?_
      refine SX.seq ?_
      refine SC.plain ?_
      refine St.move rfl rfl ?_
      refine St.addI rfl rfl rfl (by omega) ?_
      refine St.assign rfl rfl ?_
      refine St.done ?_
      exact SX.again (i + 1) (by omega) (by show s.size - (i + 1) < s.size - i; omega) ⟨rfl, rfl, rfl, trivial⟩ (List.Perm.refl _)
  · have hie : i = s.size := by omega
    subst hie
    refine SC.exit ?_
    refine SX.seq_exit ?_
    refine SX.seq_exit ?_
    refine SX.hit ?_
    refine SX.seq ?_
    refine SC.seq ?_
    refine SC.plain ?_
    refine St.move rfl rfl ?_
    refine St.compl rfl rfl ?_
    rw [no_u32 _ hcl]
    refine St.assign rfl rfl ?_
    refine St.done ?_
    refine SX.seq ?_
    refine SC.ret ?_
    exact SX.ret1 rfl rfl ⟨rfl, by unfold crc; rw [hul]⟩
theorem radler_spec (w0 : World) (L : List Chunk) (s : ByteArray) (hl : s.size ≤ 140737488351232) :
    Meets Try.prog 47 #[.string s] w0 L (fun r L' => L = L' ∧ r = .int .u32 ((adler (u8s s) : Nat) : Int)) := by
  have hul := u8s_length s
  have hub := u8s_lt s
  refine Meets.of_body [.string s] Try.func47 rfl Try.ntmps47 rfl ?_
  refine SC.seq ?_
  refine SC.plain ?_
  refine St.assign rfl rfl ?_
  refine St.done ?_
  refine SX.seq ?_
  refine SC.seq ?_
  refine SC.plain ?_
  refine St.assign rfl rfl ?_
  refine St.done ?_
  refine SX.seq ?_
  refine SC.seq ?_
  refine SC.plain ?_
  refine St.assign rfl rfl ?_
  refine St.done ?_
  refine SX.seq ?_
  refine SC.seq ?_
  refine SC.seq ?_
  refine SC.plain ?_
  refine St.assign rfl rfl ?_
  refine St.done ?_
  refine SX.seq ?_
  refine SC.block ?_
  refine SC.loop (α := Nat) (fun i => i ≤ s.size) (fun i => [(0, .string s), (3, .int .u32 ((adlA (u8s s) i : Nat) : Int)), (4, .int .u32 ((adlB (u8s s) i : Nat) : Int)), (5, .int .i64 ((i : Nat) : Int))]) (fun _ => L) (fun i => s.size - i) 0 (Nat.zero_le _) ⟨rfl, rfl, rfl, rfl, trivial⟩ (List.Perm.refl _) ?_
  intro i hi
  have ha := adlA_lt (u8s s) i
  have hbb := adlB_lt (u8s s) i
  have ha2 := adlA_lt (u8s s) (i + 1)
  refine SC.seq ?_
  refine SC.seq ?_
  refine SC.plain ?_
  refine St.move rfl rfl ?_
  refine St.move rfl rfl ?_
  refine St.lenStr rfl rfl (by kernel_rfl) ?_
  refine St.lss rfl rfl rfl ?_
  refine St.done ?_
  refine SX.seq ?_
  refine SC.condp rfl (fun c9 => ?_) (fun c9 => ?_)
  · have hlt : i < s.size := by omega
    obtain ⟨ub, hub1, hub2⟩ := text_get s i hlt
    have hui := getD_lt hub i
    refine SC.skip ?_
    refine SX.seq ?_
    refine SC.seq ?_
    refine SC.block ?_
    refine SC.seq ?_
    refine SC.plain ?_
    refine St.move rfl rfl ?_
    refine St.move rfl rfl ?_
    refine St.move rfl rfl ?_
    refine St.indexStr (i := i) rfl rfl rfl (by kernel_rfl) hub1 ?_
    rw [hub2]
    refine St.convI (k := .u32) rfl rfl (by kernel_rfl) (by kernel_rfl) ?_
    rw [wrap_u32_lt _ (by omega)]
    refine St.add rfl rfl rfl ?_
    rw [add_u32 _ _ (by omega)]
    refine St.rem rfl rfl rfl (by omega) ?_
    rw [tmod_adl, show (adlA (u8s s) i + (u8s s).getD i 0) % 65521 = adlA (u8s s) (i + 1) from rfl]
    refine St.assign rfl rfl ?_
    refine St.done ?_
    refine SX.seq ?_
    refine SC.plain ?_
    refine St.move rfl rfl ?_
    refine St.move rfl rfl ?_
    refine St.add rfl rfl rfl ?_
    rw [add_u32 _ _ (by omega)]
    refine St.rem rfl rfl rfl (by omega) ?_
    rw [tmod_adl]
    refine St.assign rfl rfl ?_
    refine St.done ?_
    refine SX.blk ?_
    refine SX.seq ?_
    refine SC.plain ?_
    refine St.move rfl rfl ?_
    refine St.addI rfl rfl rfl (by omega) ?_
    refine St.assign rfl rfl ?_
    refine St.done ?_
    exact SX.again (i + 1) (by omega) (by show s.size - (i + 1) < s.size - i; omega) ⟨rfl, rfl, rfl, rfl, trivial⟩ (List.Perm.refl _)
  · have hie : i = s.size := by omega
    subst hie
    refine SC.exit ?_
    refine SX.seq_exit ?_
    refine SX.seq_exit ?_
    refine SX.hit ?_
    refine SX.seq ?_
    refine SC.seq ?_
    refine SC.plain ?_
    refine St.move rfl rfl ?_
    refine St.shl rfl rfl rfl (by omega) ?_
    rw [shl_16, Nat.mod_eq_of_lt (by omega)]
    refine St.move rfl rfl ?_
    refine St.orI rfl rfl rfl ?_
    rw [or_u32 _ _ (by omega) (by omega)]
    refine St.assign rfl rfl ?_
    refine St.done ?_
    refine SX.seq ?_
    refine SC.ret ?_
    exact SX.ret1 rfl rfl ⟨rfl, by unfold adler; rw [hul]⟩
end Go.Proofs.Ytahafepgmkiabaa
