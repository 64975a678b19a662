/- Walks: the law SumParts. -/
import Derived.Test.YtahafepgmkiabaaS8
set_option linter.unusedVariables false
set_option linter.unusedSimpArgs false
set_option linter.ambiguousOpen false
namespace Go.Proofs.Ytahafepgmkiabaa
open Go Go.Proofs.Ytahafepgmkiabaa.Sep

def fillTo (c m i : Nat) : List Nat := List.replicate i c ++ List.replicate (m - i) 0
theorem fill_len (c m i : Nat) (h : i ≤ m) : (fillTo c m i).length = m := by simp [fillTo]; omega
theorem fill_set (c m i : Nat) (h : i < m) : (bytes (fillTo c m i)).set (0 + ((i : Nat) : Int).toNat * 1) (.int .u8 ((c : Nat) : Int)) = bytes (fillTo c m (i + 1)) := by
  rw [show 0 + ((i : Nat) : Int).toNat * 1 = i by omega]
  unfold fillTo bytes
  rw [List.map_append, List.set_append_right _ _ (by simp), show m - i = (m - (i + 1)) + 1 by omega, List.replicate_succ, List.replicate_succ']
  simp
theorem fill_all (c m : Nat) : fillTo c m m = List.replicate m c := by simp [fillTo]

theorem sumParts_spec (w0 : World) (L : List Chunk) (c : Nat) (n : Int) (hc : c < 256) :
    Meets Try.prog 5 #[.int .u8 ((c : Nat) : Int), .int .i64 n] w0 L (fun r L' => r = .bool true) := by
  refine Meets.of_body [.int .u8 ((c : Nat) : Int), .int .i64 n] Try.func5 rfl Try.ntmps5 rfl ?_
  refine SC.seq ?_
  refine SC.plain ?_
  refine St.assign rfl rfl ?_
  refine St.done ?_
  refine SX.seq ?_
  refine SC.seq ?_
  refine SC.seq ?_
  refine SC.plain ?_
  refine St.move rfl rfl ?_
  refine St.lss rfl rfl rfl ?_
  refine St.move rfl rfl ?_
  refine St.split 10 rfl (fun g10 => ?_) (fun g10 => ?_)
  · refine St.guard_no rfl rfl rfl ?_
    refine St.guard_no rfl rfl rfl ?_
    refine St.pick_true rfl rfl rfl ?_
    refine St.done ?_
    refine SX.seq ?_
    refine SC.cond_true rfl ?_
    refine SC.seq ?_
    refine SC.plain ?_
    refine St.call [] rfl (by kernel_rfl) rfl (awake3_spec w0 _) (fun _ _ _ _ h => h.nil) ?_
    rintro r7 L1 ⟨rfl, rfl⟩
    refine St.assign rfl rfl ?_
    refine St.done ?_
    refine SX.seq ?_
    refine SC.ret ?_
    refine SX.seq_ret ?_
    exact SX.ret1 rfl rfl rfl
  · refine St.guard_yes rfl rfl ?_
    refine St.move rfl rfl ?_
    refine St.guard_yes rfl rfl ?_
    refine St.gtr rfl rfl rfl ?_
    refine St.pick_false rfl rfl rfl ?_
    refine St.done ?_
    refine SX.seq ?_
    refine SC.condp rfl (fun c13 => ?_) (fun c13 => ?_)
    · refine SC.seq ?_
      refine SC.plain ?_
      refine St.call [] rfl (by kernel_rfl) rfl (awake3_spec w0 _) (fun _ _ _ _ h => h.nil) ?_
      rintro r7 L1 ⟨rfl, rfl⟩
      refine St.assign rfl rfl ?_
      refine St.done ?_
      refine SX.seq ?_
      refine SC.ret ?_
      refine SX.seq_ret ?_
      exact SX.ret1 rfl rfl rfl
    · obtain ⟨m, rfl⟩ : ∃ m : Nat, n = (m : Int) := ⟨n.toNat, by omega⟩
      refine SC.skip ?_
      refine SX.seq ?_
      refine SC.seq ?_
      refine SC.plain ?_
      refine St.move rfl rfl ?_
      refine St.makeSl (e := 5) (zv := .int .u8 0) (bytes := 1) rfl rfl rfl (by kernel_rfl) (by omega) (by omega) (by omega) (fun _ _ h => h.nil) (fun p => ?_)
      rw [Int.toNat_natCast, show List.replicate m (Value.int .u8 0) = bytes (fillTo c m 0) by simp [bytes, fillTo]]
      refine St.assign rfl rfl ?_
      refine St.done ?_
      refine SX.seq ?_
      refine SC.seq ?_
      refine SC.seq ?_
      refine SC.plain ?_
      refine St.move rfl rfl ?_
      refine St.lenSl rfl rfl (by kernel_rfl) ?_
      refine St.move rfl rfl ?_
      refine St.done ?_
      refine SX.seq ?_
      refine SC.block ?_
      refine SC.loop (α := Nat) (fun i => i ≤ m) (fun i => [(0, .int .u8 ((c : Nat) : Int)), (1, .int .i64 ((m : Nat) : Int)), (5, .slice (some ⟨p, 0, none⟩) m m), (18, .int .i64 ((m : Nat) : Int)), (19, .int .i64 ((i : Nat) : Int))]) (fun i => [⟨p, bytes (fillTo c m i), 5⟩] :: L) (fun i => m - i) 0 (Nat.zero_le _) ⟨rfl, rfl, rfl, rfl, rfl, trivial⟩ (List.Perm.refl _) ?_
      intro i hi
      have hfl := fill_len c m i hi
      refine SC.seq ?_
      refine SC.plain ?_
      refine St.lss rfl rfl rfl ?_
      refine St.done ?_
      refine SX.seq ?_
      refine SC.seq ?_
      refine SC.condp rfl (fun c20 => ?_) (fun c20 => ?_)
      · refine SC.skip ?_
        refine SX.seq ?_
        refine SC.seq ?_
        refine SC.block ?_
        refine SC.seq ?_
        refine SC.plain ?_
        refine St.move rfl rfl ?_
        refine St.assign rfl rfl ?_
        refine St.done ?_
        refine SX.seq ?_
        refine SC.plain ?_
        refine St.move rfl rfl ?_
        refine St.move rfl rfl ?_
        refine St.move rfl rfl ?_
        refine St.indexSl (e := 5) (sz := 1) rfl rfl rfl (by kernel_rfl) (by omega) ?_
        refine St.store rfl rfl rfl rfl (by kernel_rfl) (by rw [bytes_length, hfl]; omega) (fun _ h => h.nil) ?_
        rw [fill_set _ _ _ (by omega)]
        refine St.done ?_
        refine SX.blk ?_
        refine SX.seq ?_
        refine SC.plain ?_
        refine St.addI rfl rfl rfl (by omega) ?_
        refine St.move rfl rfl ?_
        refine St.done ?_
        exact SX.again (i + 1) (by omega) (by show m - (i + 1) < m - i; omega) ⟨rfl, rfl, rfl, rfl, rfl, trivial⟩ (List.Perm.refl _)
      · have hie : i = m := by omega
        subst hie
        rw [fill_all]
        have hyl : (List.replicate i c).length = i := by simp
        have hys : ∀ b ∈ List.replicate i c, b < 256 := fun b hb => by rw [List.mem_replicate] at hb; omega
        generalize List.replicate i c = ys at hyl hys ⊢
        have hts := text_size ys
        have hut := u8s_text ys hys
        generalize hm : i = m at *
        have hsl := sha1_len ys
        refine SC.exit ?_
        refine SX.seq_exit ?_
        refine SX.seq_exit ?_
        refine SX.hit ?_
        refine SX.seq ?_
        refine SC.seq ?_
        refine SC.plain ?_
        refine St.move rfl rfl ?_
        refine St.toStr (e := 5) (bs := ys) (n := m) rfl rfl (Rd.row (by first | rw [bytes_length, hyl, Nat.mul_one] | (show (bytes ys).length = _; rw [bytes_length, hyl, Nat.mul_one])) mem0) (by kernel_rfl) (by kernel_rfl) (by kernel_rfl) ?_
        refine St.assign rfl rfl ?_
        refine St.done ?_
        refine SX.seq ?_
        refine SC.seq ?_
        refine SC.drawn [(0, true), (3, true), (1, false), (2, true), (4, false), (5, true), (6, true), (7, true), (8, true), (10, true), (9, false), (11, false), (12, true), (13, true), (14, true), (15, true), (17, true), (16, false), (18, false), (19, true), (20, true), (21, true), (22, true), (23, false), (24, true), (25, true), (26, true), (27, true), (28, true), (31, true), (32, true), (29, false), (30, true), (33, true), (34, true), (35, true), (36, false), (37, true), (38, true)] [] ([⟨p, bytes ys, 5⟩] :: L) (by kernel_rfl) (by kernel_rfl) (fun _ h => h) ?_
        refine St.move rfl rfl ?_
        refine St.move rfl rfl ?_
        refine St.call [.slice (some ⟨p, 0, none⟩) m m] rfl (by kernel_rfl) rfl (sha_spec w0 _ _ ys (by rw [hyl]; exact (Rd.row (by first | rw [bytes_length, hyl, Nat.mul_one] | (show (bytes ys).length = _; rw [bytes_length, hyl, Nat.mul_one])) mem0)) (by omega) hys) (fun _ _ _ h hw => by obtain ⟨E1, e, _⟩ := h; rw [e] at hw; exact hw.drop) ?_
        rintro r1 L1 ⟨E1, rfl, hb1⟩
        refine St.grow (E1 :: [⟨p, bytes ys, 5⟩] :: L) (fun _ h => h) (fun _ h => h.drop) ?_
        refine St.toStr (e := 5) (bs := sha1 ys) (n := (sha1 ys).length) rfl rfl (hb1.rd List.mem_cons_self) (by kernel_rfl) (by kernel_rfl) (by kernel_rfl) ?_
        refine St.call [.string (text ys)] rfl (by kernel_rfl) rfl (rsha_spec w0 _ (text ys) (by omega)) (fun _ _ _ h hw => by obtain ⟨E1, e, _⟩ := h; rw [e] at hw; exact hw.drop) ?_
        rw [hut]
        rintro r2 L1 ⟨E2, rfl, hb2⟩
        refine St.grow (E2 :: E1 :: [⟨p, bytes ys, 5⟩] :: L) (fun _ h => h) (fun _ h => h.drop) ?_
        refine St.toStr (e := 5) (bs := sha1 ys) (n := (sha1 ys).length) rfl rfl (hb2.rd List.mem_cons_self) (by kernel_rfl) (by kernel_rfl) (by kernel_rfl) ?_
        refine St.strEql rfl rfl rfl ?_
        refine St.move rfl rfl ?_
        refine St.split 36 rfl (fun g36 => ?_) (fun g36 => ?_)
        · refine St.guard_yes rfl rfl ?_
          refine St.move rfl rfl ?_
          refine St.guard_yes rfl rfl ?_
          refine St.move rfl rfl ?_
          refine St.guard_yes rfl rfl ?_
          refine St.call [.slice (some ⟨p, 0, none⟩) m m] rfl (by kernel_rfl) rfl (crc_spec w0 _ _ ys (by rw [hyl]; exact (Rd.row (by first | rw [bytes_length, hyl, Nat.mul_one] | (show (bytes ys).length = _; rw [bytes_length, hyl, Nat.mul_one])) mem2)) (by omega) hys) (fun _ _ _ h hw => h.1 ▸ hw) ?_
          rintro r3 L1 ⟨rfl, rfl⟩
          refine St.guard_yes rfl rfl ?_
          refine St.call [.string (text ys)] rfl (by kernel_rfl) rfl (rcrc_spec w0 _ (text ys) (by omega)) (fun _ _ _ h hw => h.1 ▸ hw) ?_
          rw [hut]
          rintro r4 L1 ⟨rfl, rfl⟩
          refine St.guard_yes rfl rfl ?_
          refine St.eql rfl rfl rfl ?_
          refine St.pick_true rfl rfl rfl ?_
          refine St.move rfl rfl ?_
          refine St.split 43 rfl (fun g43 => ?_) (fun g43 => ?_)
          · refine St.guard_yes rfl rfl ?_
            refine St.move rfl rfl ?_
            refine St.guard_yes rfl rfl ?_
            refine St.move rfl rfl ?_
            refine St.guard_yes rfl rfl ?_
            refine St.call [.slice (some ⟨p, 0, none⟩) m m] rfl (by kernel_rfl) rfl (adler_spec w0 _ _ ys (by rw [hyl]; exact (Rd.row (by first | rw [bytes_length, hyl, Nat.mul_one] | (show (bytes ys).length = _; rw [bytes_length, hyl, Nat.mul_one])) mem2)) (by omega) hys) (fun _ _ _ h hw => h.1 ▸ hw) ?_
            rintro r5 L1 ⟨rfl, rfl⟩
            refine St.guard_yes rfl rfl ?_
            refine St.call [.string (text ys)] rfl (by kernel_rfl) rfl (radler_spec w0 _ (text ys) (by omega)) (fun _ _ _ h hw => h.1 ▸ hw) ?_
            rw [hut]
            rintro r6 L1 ⟨rfl, rfl⟩
            refine St.guard_yes rfl rfl ?_
            refine St.eql rfl rfl rfl ?_
            refine St.pick_true rfl rfl rfl ?_
            refine St.move rfl rfl ?_
            refine St.split 50 rfl (fun g50 => ?_) (fun g50 => ?_)
            · refine St.guard_yes rfl rfl ?_
              refine St.move rfl rfl ?_
              refine St.guard_yes rfl rfl ?_
              refine St.call [.slice (some ⟨p, 0, none⟩) m m] rfl (by kernel_rfl) rfl (sha_spec w0 _ _ ys (by rw [hyl]; exact (Rd.row (by first | rw [bytes_length, hyl, Nat.mul_one] | (show (bytes ys).length = _; rw [bytes_length, hyl, Nat.mul_one])) mem2)) (by omega) hys) (fun _ _ _ h hw => by obtain ⟨E1, e, _⟩ := h; rw [e] at hw; exact hw.drop) ?_
              rintro r8 L1 ⟨E3, rfl, hb3⟩
              have hb3r := hb3.read
              obtain ⟨b8, o8, A8, c8, rfl, _, _⟩ := hb3r
              refine St.drop ?_
              refine St.guard_yes rfl rfl ?_
              refine St.lenSl rfl rfl (by kernel_rfl) ?_
              refine St.guard_yes rfl rfl ?_
              refine St.eql rfl rfl rfl ?_
              refine St.pick_true rfl rfl rfl ?_
              refine St.move rfl rfl ?_
              refine St.split 56 rfl (fun g56 => ?_) (fun g56 => ?_)
              · refine St.guard_yes rfl rfl ?_
                refine St.move rfl rfl ?_
                refine St.guard_yes rfl rfl ?_
                refine St.move rfl rfl ?_
                refine St.guard_yes rfl rfl ?_
                refine St.mulI rfl rfl rfl (by omega) ?_
                refine St.guard_yes rfl rfl ?_
                refine St.call [.slice (some ⟨p, 0, none⟩) m m] rfl (by kernel_rfl) rfl (hex_spec w0 _ _ ys (by rw [hyl]; exact (Rd.row (by first | rw [bytes_length, hyl, Nat.mul_one] | (show (bytes ys).length = _; rw [bytes_length, hyl, Nat.mul_one])) mem2)) (by omega) hys) (fun _ _ _ h hw => h.1 ▸ hw) ?_
                rintro r9 L1 ⟨rfl, rfl⟩
                refine St.guard_yes rfl rfl ?_
                refine St.lenStr rfl rfl (by kernel_rfl) ?_
                refine St.guard_yes rfl rfl ?_
                refine St.eql rfl rfl rfl ?_
                refine St.pick_true rfl rfl rfl ?_
                refine St.move rfl rfl ?_
                refine St.split 64 rfl (fun g64 => ?_) (fun g64 => ?_)
                · refine St.guard_yes rfl rfl ?_
                  refine St.call [] rfl (by kernel_rfl) rfl (awake3_spec w0 _) (fun _ _ _ h hw => h.1 ▸ hw) ?_
                  rintro r7 L1 ⟨rfl, rfl⟩
                  refine St.pick_true rfl rfl rfl ?_
                  refine St.assign rfl rfl ?_
                  refine St.done ?_
                  refine SX.tail ?_
                  refine St.done ?_
                  refine SX.seq ?_
                  refine SC.ret ?_
                  exact SX.ret1 rfl rfl rfl
                · exact absurd (by rw [text_size, hexOf_len, hyl]; push_cast; rfl) g64
              · exact absurd (by rw [hsl]; rfl) g56
            · exact absurd rfl g50
          · exact absurd rfl g43
        · exact absurd rfl g36
end Go.Proofs.Ytahafepgmkiabaa
