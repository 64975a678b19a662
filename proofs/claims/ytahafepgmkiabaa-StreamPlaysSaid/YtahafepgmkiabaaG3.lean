/- Walks: which bytes are a segment. -/
import Derived.Test.YtahafepgmkiabaaG2
set_option linter.unusedVariables false
set_option linter.unusedSimpArgs false
set_option linter.ambiguousOpen false
namespace Go.Proofs.Ytahafepgmkiabaa
open Go Go.Proofs.Ytahafepgmkiabaa.Sep

theorem isSeg_false {bs : List Nat} (h : ¬ (19 ≤ bs.length ∧ bs.length ≤ 419 ∧ bs.getD 13 0 * 256 + bs.getD 14 0 = bs.length - 19 ∧ 1 ≤ bs.getD 0 0 ∧ bs.getD 0 0 ≤ 5 ∧ crc (bs.take (bs.length - 4)) = num bs (bs.length - 4))) : isSeg bs = false := by
  cases hs : isSeg bs with
  | false => rfl
  | true =>
    unfold isSeg at hs
    simp only [Bool.and_eq_true, decide_eq_true_eq] at hs
    exact absurd ⟨hs.1.1.1.1.1, hs.1.1.1.1.2, hs.1.1.1.2, hs.1.1.2, hs.1.2, hs.2⟩ h
theorem isSeg_true {bs : List Nat} (h1 : 19 ≤ bs.length) (h2 : bs.length ≤ 419) (h3 : bs.getD 13 0 * 256 + bs.getD 14 0 = bs.length - 19) (h4 : 1 ≤ bs.getD 0 0) (h5 : bs.getD 0 0 ≤ 5) (h6 : crc (bs.take (bs.length - 4)) = num bs (bs.length - 4)) : isSeg bs = true := by
  unfold isSeg
  simp only [Bool.and_eq_true, decide_eq_true_eq]
  exact ⟨⟨⟨⟨⟨h1, h2⟩, h3⟩, h4⟩, h5⟩, h6⟩

theorem parse_spec (w0 : World) (L : List Chunk) (v : Value) (bs : List Nat) (hx : Rd w0 L v 1 bs.length (bytes bs)) (hcp : Cap v) (hl : bs.length ≤ 140737488351232) (hb : ∀ b ∈ bs, b < 256) :
    Meets Try.prog 59 #[v] w0 L (ParseR bs L) := by
  have hx0 := hx
  obtain ⟨_, b, o, A, c, rfl, hA, hr⟩ := hx
  refine Meets.of_body [.slice A bs.length c] Try.func59 rfl Try.ntmps59 rfl ?_
  refine SC.seq ?_
  refine SC.plain ?_
  refine St.alloc [.int .i64 0, .int .i64 0, .int .i64 0, .int .i64 0, .slice none 0 0] rfl (by kernel_rfl) (by first | exact fun _ _ h => h.nil | exact fun _ _ h => h | exact fun _ _ h => h.drop | exact fun _ _ h => h.drop.drop | exact fun _ _ h => h.drop.drop.drop) (fun b2 => ?_)
  refine St.assign rfl rfl ?_
  refine St.done ?_
  refine SX.seq ?_
  refine SC.seq ?_
  refine SC.plain ?_
  refine St.move rfl rfl ?_
  refine St.lenSl rfl rfl (by kernel_rfl) ?_
  first | refine St.subN (b := 15) rfl rfl rfl (by omega) (by omega) ?_ | refine St.subI rfl rfl rfl (by omega) ?_
  first | refine St.subN (b := 4) rfl rfl rfl (by omega) (by omega) ?_ | refine St.subI rfl rfl rfl (by omega) ?_
  refine St.assign rfl rfl ?_
  refine St.done ?_
  refine SX.seq ?_
  refine SC.seq ?_
  refine SC.seq ?_
  refine SC.drawn [(0, true), (1, true), (2, true), (3, true), (4, true), (5, true), (6, true), (7, true), (8, true), (9, true), (10, true), (11, true), (12, true), (13, true), (14, true), (15, true), (16, true), (17, true), (18, true), (19, true), (20, true), (21, true), (22, true), (23, true), (24, true), (25, true), (26, true), (27, true), (28, true), (29, true), (30, true), (31, true), (32, true), (33, true), (34, true), (35, true), (36, true), (38, true), (39, true), (40, true), (41, true), (37, false), (42, false), (43, true), (44, true), (45, true)] [] (_) (by kernel_rfl) (by kernel_rfl) (fun _ h => h) ?_
  refine St.move rfl rfl ?_
  refine St.lss rfl rfl rfl ?_
  refine St.move rfl rfl ?_
  refine St.split 11 rfl (fun g11 => ?_) (fun g11 => ?_)
  · refine St.guard_no rfl rfl rfl ?_
    refine St.guard_no rfl rfl rfl ?_
    refine St.pick_true rfl rfl rfl ?_
    refine St.move rfl rfl ?_
    refine St.guard_no rfl rfl rfl ?_
    refine St.guard_no rfl rfl rfl ?_
    refine St.guard_no rfl rfl rfl ?_
    refine St.guard_no rfl rfl rfl ?_
    refine St.guard_no rfl rfl rfl ?_
    refine St.guard_no rfl rfl rfl ?_
    refine St.guard_no rfl rfl rfl ?_
    refine St.guard_no rfl rfl rfl ?_
    refine St.guard_no rfl rfl rfl ?_
    refine St.guard_no rfl rfl rfl ?_
    refine St.guard_no rfl rfl rfl ?_
    refine St.guard_no rfl rfl rfl ?_
    refine St.pick_true rfl rfl rfl ?_
    refine St.move rfl rfl ?_
    refine St.guard_no rfl rfl rfl ?_
    refine St.guard_no rfl rfl rfl ?_
    refine St.guard_no rfl rfl rfl ?_
    refine St.guard_no rfl rfl rfl ?_
    refine St.pick_true rfl rfl rfl ?_
    refine St.move rfl rfl ?_
    refine St.guard_no rfl rfl rfl ?_
    refine St.guard_no rfl rfl rfl ?_
    refine St.guard_no rfl rfl rfl ?_
    refine St.guard_no rfl rfl rfl ?_
    refine St.pick_true rfl rfl rfl ?_
    refine St.move rfl rfl ?_
    refine St.guard_no rfl rfl rfl ?_
    refine St.guard_no rfl rfl rfl ?_
    refine St.guard_no rfl rfl rfl ?_
    refine St.guard_no rfl rfl rfl ?_
    refine St.guard_no rfl rfl rfl ?_
    refine St.guard_no rfl rfl rfl ?_
    refine St.guard_no rfl rfl rfl ?_
    refine St.guard_no rfl rfl rfl ?_
    refine St.guard_no rfl rfl rfl ?_
    refine St.guard_no rfl rfl rfl ?_
    refine St.guard_no rfl rfl rfl ?_
    refine St.guard_no rfl rfl rfl ?_
    refine St.pick_true rfl rfl rfl ?_
    refine St.done ?_
    refine SX.tail ?_
    refine St.done ?_
    refine SX.seq ?_
    refine SC.cond_true rfl ?_
    refine SC.seq ?_
    refine SC.plain ?_
    refine St.build [] noCells rfl rfl (by kernel_rfl) ?_
    refine St.storeN rfl rfl rfl noCells rfl (by kernel_rfl) (by simp [noCells, one]) (by simp [noCells]) (fun _ h => h.nil) ?_
    rw [show splice [.int .i64 0, .int .i64 0, .int .i64 0, .int .i64 0, .slice none 0 0] 0 noCells = noCells from rfl]
    refine St.assign rfl rfl ?_
    refine St.done ?_
    refine SX.seq ?_
    refine SC.ret ?_
    refine SX.seq_ret ?_
    have hno : isSeg bs = false := isSeg_false (by omega)
    refine SX.retCT noCells (.inl rfl) rfl rfl rfl (by kernel_rfl) (HoldsN.of_row mem0) (L' := [] :: L) (fun w hw => hw.drop.perm (List.Perm.refl _)) ⟨.slice none 0 0, [], by rw [noSeg_of hno, hno]; rfl, rfl, by rw [noSeg_of hno]; exact Buf.nil 5 1⟩
  · have h19 : 19 ≤ bs.length := by omega
    have hAe := hA (by omega)
    subst hAe
    have h0b := getD_lt hb 0
    refine St.guard_yes rfl rfl ?_
    refine St.move rfl rfl ?_
    refine St.guard_yes rfl rfl ?_
    refine St.gtr rfl rfl rfl ?_
    refine St.pick_false rfl rfl rfl ?_
    refine St.move rfl rfl ?_
    refine St.split 15 rfl (fun g15 => ?_) (fun g15 => ?_)
    · refine St.guard_no rfl rfl rfl ?_
      refine St.guard_no rfl rfl rfl ?_
      refine St.guard_no rfl rfl rfl ?_
      refine St.guard_no rfl rfl rfl ?_
      refine St.guard_no rfl rfl rfl ?_
      refine St.guard_no rfl rfl rfl ?_
      refine St.guard_no rfl rfl rfl ?_
      refine St.guard_no rfl rfl rfl ?_
      refine St.guard_no rfl rfl rfl ?_
      refine St.guard_no rfl rfl rfl ?_
      refine St.guard_no rfl rfl rfl ?_
      refine St.guard_no rfl rfl rfl ?_
      refine St.pick_true rfl rfl rfl ?_
      refine St.move rfl rfl ?_
      refine St.guard_no rfl rfl rfl ?_
      refine St.guard_no rfl rfl rfl ?_
      refine St.guard_no rfl rfl rfl ?_
      refine St.guard_no rfl rfl rfl ?_
      refine St.pick_true rfl rfl rfl ?_
      refine St.move rfl rfl ?_
      refine St.guard_no rfl rfl rfl ?_
      refine St.guard_no rfl rfl rfl ?_
      refine St.guard_no rfl rfl rfl ?_
      refine St.guard_no rfl rfl rfl ?_
      refine St.pick_true rfl rfl rfl ?_
      refine St.move rfl rfl ?_
      refine St.guard_no rfl rfl rfl ?_
      refine St.guard_no rfl rfl rfl ?_
      refine St.guard_no rfl rfl rfl ?_
      refine St.guard_no rfl rfl rfl ?_
      refine St.guard_no rfl rfl rfl ?_
      refine St.guard_no rfl rfl rfl ?_
      refine St.guard_no rfl rfl rfl ?_
      refine St.guard_no rfl rfl rfl ?_
      refine St.guard_no rfl rfl rfl ?_
      refine St.guard_no rfl rfl rfl ?_
      refine St.guard_no rfl rfl rfl ?_
      refine St.guard_no rfl rfl rfl ?_
      refine St.pick_true rfl rfl rfl ?_
      refine St.done ?_
      refine SX.tail ?_
      refine St.done ?_
      refine SX.seq ?_
      refine SC.cond_true rfl ?_
      refine SC.seq ?_
      refine SC.plain ?_
      refine St.build [] noCells rfl rfl (by kernel_rfl) ?_
      refine St.storeN rfl rfl rfl noCells rfl (by kernel_rfl) (by simp [noCells, one]) (by simp [noCells]) (fun _ h => h.nil) ?_
      rw [show splice [.int .i64 0, .int .i64 0, .int .i64 0, .int .i64 0, .slice none 0 0] 0 noCells = noCells from rfl]
      refine St.assign rfl rfl ?_
      refine St.done ?_
      refine SX.seq ?_
      refine SC.ret ?_
      refine SX.seq_ret ?_
      have hno : isSeg bs = false := isSeg_false (by omega)
      refine SX.retCT noCells (.inl rfl) rfl rfl rfl (by kernel_rfl) (HoldsN.of_row mem0) (L' := [] :: L) (fun w hw => hw.drop.perm (List.Perm.refl _)) ⟨.slice none 0 0, [], by rw [noSeg_of hno, hno]; rfl, rfl, by rw [noSeg_of hno]; exact Buf.nil 5 1⟩
    · refine St.guard_yes rfl rfl ?_
      refine St.move rfl rfl ?_
      refine St.guard_yes rfl rfl ?_
      refine St.indexSl (e := 5) (sz := 1) rfl rfl rfl (by kernel_rfl) (by omega) ?_
      refine St.guard_yes rfl rfl ?_
      first | (refine St.loadB (i := 13) rfl rfl (by kernel_rfl) (HoldsN.mono hr (fun w hw => by first | exact hw | exact hw.drop | exact hw.drop.drop | exact hw.drop.drop.drop | exact hw.drop.drop.drop.drop | exact hw.drop.drop.drop.drop.drop | exact hw.drop.drop.drop.drop.drop.drop | exact hw.drop.drop.drop.drop.drop.drop.drop | exact hw.drop.drop.drop.drop.drop.drop.drop.drop)) rfl (by omega) hb ?_; intro n18 e18 l18) | refine St.load rfl rfl (by kernel_rfl) (by first | exact Holds.row mem0 rfl | exact Holds.row mem1 rfl | exact Holds.row mem2 rfl | exact Holds.row mem3 rfl | exact Holds.row mem4 rfl | exact Holds.row mem5 rfl | exact Holds.row mem6 rfl | exact Holds.row mem7 rfl | exact Holds.row mem8 rfl) ?_
      refine St.guard_yes rfl rfl ?_
      refine St.convS rfl rfl (by kernel_rfl) (by kernel_rfl) (by omega) ?_
      refine St.guard_yes rfl rfl ?_
      first | refine St.shlN (b := 8) rfl rfl rfl (by omega) (by omega) ?_ | refine St.shl rfl rfl rfl (by omega) ?_
      refine St.guard_yes rfl rfl ?_
      refine St.move rfl rfl ?_
      refine St.guard_yes rfl rfl ?_
      refine St.indexSl (e := 5) (sz := 1) rfl rfl rfl (by kernel_rfl) (by omega) ?_
      refine St.guard_yes rfl rfl ?_
      first | (refine St.loadB (i := 14) rfl rfl (by kernel_rfl) (HoldsN.mono hr (fun w hw => by first | exact hw | exact hw.drop | exact hw.drop.drop | exact hw.drop.drop.drop | exact hw.drop.drop.drop.drop | exact hw.drop.drop.drop.drop.drop | exact hw.drop.drop.drop.drop.drop.drop | exact hw.drop.drop.drop.drop.drop.drop.drop | exact hw.drop.drop.drop.drop.drop.drop.drop.drop)) rfl (by omega) hb ?_; intro n23 e23 l23) | refine St.load rfl rfl (by kernel_rfl) (by first | exact Holds.row mem0 rfl | exact Holds.row mem1 rfl | exact Holds.row mem2 rfl | exact Holds.row mem3 rfl | exact Holds.row mem4 rfl | exact Holds.row mem5 rfl | exact Holds.row mem6 rfl | exact Holds.row mem7 rfl | exact Holds.row mem8 rfl) ?_
      refine St.guard_yes rfl rfl ?_
      refine St.convS rfl rfl (by kernel_rfl) (by kernel_rfl) (by omega) ?_
      refine St.guard_yes rfl rfl ?_
      refine St.orN rfl rfl rfl (by omega) (by omega) ?_
      rw [or8 n18 n23 l23]
      refine St.guard_yes rfl rfl ?_
      refine St.move rfl rfl ?_
      refine St.guard_yes rfl rfl ?_
      refine St.neq rfl rfl rfl ?_
      refine St.pick_false rfl rfl rfl ?_
      refine St.move rfl rfl ?_
      refine St.split 29 rfl (fun g29 => ?_) (fun g29 => ?_)
      · refine St.guard_no rfl rfl rfl ?_
        refine St.guard_no rfl rfl rfl ?_
        refine St.guard_no rfl rfl rfl ?_
        refine St.guard_no rfl rfl rfl ?_
        refine St.pick_true rfl rfl rfl ?_
        refine St.move rfl rfl ?_
        refine St.guard_no rfl rfl rfl ?_
        refine St.guard_no rfl rfl rfl ?_
        refine St.guard_no rfl rfl rfl ?_
        refine St.guard_no rfl rfl rfl ?_
        refine St.pick_true rfl rfl rfl ?_
        refine St.move rfl rfl ?_
        refine St.guard_no rfl rfl rfl ?_
        refine St.guard_no rfl rfl rfl ?_
        refine St.guard_no rfl rfl rfl ?_
        refine St.guard_no rfl rfl rfl ?_
        refine St.guard_no rfl rfl rfl ?_
        refine St.guard_no rfl rfl rfl ?_
        refine St.guard_no rfl rfl rfl ?_
        refine St.guard_no rfl rfl rfl ?_
        refine St.guard_no rfl rfl rfl ?_
        refine St.guard_no rfl rfl rfl ?_
        refine St.guard_no rfl rfl rfl ?_
        refine St.guard_no rfl rfl rfl ?_
        refine St.pick_true rfl rfl rfl ?_
        refine St.done ?_
        refine SX.tail ?_
        refine St.done ?_
        refine SX.seq ?_
        refine SC.cond_true rfl ?_
        refine SC.seq ?_
        refine SC.plain ?_
        refine St.build [] noCells rfl rfl (by kernel_rfl) ?_
        refine St.storeN rfl rfl rfl noCells rfl (by kernel_rfl) (by simp [noCells, one]) (by simp [noCells]) (fun _ h => h.nil) ?_
        rw [show splice [.int .i64 0, .int .i64 0, .int .i64 0, .int .i64 0, .slice none 0 0] 0 noCells = noCells from rfl]
        refine St.assign rfl rfl ?_
        refine St.done ?_
        refine SX.seq ?_
        refine SC.ret ?_
        refine SX.seq_ret ?_
        have hno : isSeg bs = false := isSeg_false (by omega)
        refine SX.retCT noCells (.inl rfl) rfl rfl rfl (by kernel_rfl) (HoldsN.of_row mem0) (L' := [] :: L) (fun w hw => hw.drop.perm (List.Perm.refl _)) ⟨.slice none 0 0, [], by rw [noSeg_of hno, hno]; rfl, rfl, by rw [noSeg_of hno]; exact Buf.nil 5 1⟩
      · refine St.guard_yes rfl rfl ?_
        refine St.move rfl rfl ?_
        refine St.guard_yes rfl rfl ?_
        refine St.indexSl (e := 5) (sz := 1) rfl rfl rfl (by kernel_rfl) (by omega) ?_
        refine St.guard_yes rfl rfl ?_
        first | (refine St.loadB (i := 0) rfl rfl (by kernel_rfl) (HoldsN.mono hr (fun w hw => by first | exact hw | exact hw.drop | exact hw.drop.drop | exact hw.drop.drop.drop | exact hw.drop.drop.drop.drop | exact hw.drop.drop.drop.drop.drop | exact hw.drop.drop.drop.drop.drop.drop | exact hw.drop.drop.drop.drop.drop.drop.drop | exact hw.drop.drop.drop.drop.drop.drop.drop.drop)) rfl (by omega) hb ?_; intro n32 e32 l32) | refine St.load rfl rfl (by kernel_rfl) (by first | exact Holds.row mem0 rfl | exact Holds.row mem1 rfl | exact Holds.row mem2 rfl | exact Holds.row mem3 rfl | exact Holds.row mem4 rfl | exact Holds.row mem5 rfl | exact Holds.row mem6 rfl | exact Holds.row mem7 rfl | exact Holds.row mem8 rfl) ?_
        refine St.guard_yes rfl rfl ?_
        refine St.lss rfl rfl rfl ?_
        refine St.pick_false rfl rfl rfl ?_
        refine St.move rfl rfl ?_
        refine St.split 35 rfl (fun g35 => ?_) (fun g35 => ?_)
        · refine St.guard_no rfl rfl rfl ?_
          refine St.guard_no rfl rfl rfl ?_
          refine St.guard_no rfl rfl rfl ?_
          refine St.guard_no rfl rfl rfl ?_
          refine St.pick_true rfl rfl rfl ?_
          refine St.move rfl rfl ?_
          refine St.guard_no rfl rfl rfl ?_
          refine St.guard_no rfl rfl rfl ?_
          refine St.guard_no rfl rfl rfl ?_
          refine St.guard_no rfl rfl rfl ?_
          refine St.guard_no rfl rfl rfl ?_
          refine St.guard_no rfl rfl rfl ?_
          refine St.guard_no rfl rfl rfl ?_
          refine St.guard_no rfl rfl rfl ?_
          refine St.guard_no rfl rfl rfl ?_
          refine St.guard_no rfl rfl rfl ?_
          refine St.guard_no rfl rfl rfl ?_
          refine St.guard_no rfl rfl rfl ?_
          refine St.pick_true rfl rfl rfl ?_
          refine St.done ?_
          refine SX.tail ?_
          refine St.done ?_
          refine SX.seq ?_
          refine SC.cond_true rfl ?_
          refine SC.seq ?_
          refine SC.plain ?_
          refine St.build [] noCells rfl rfl (by kernel_rfl) ?_
          refine St.storeN rfl rfl rfl noCells rfl (by kernel_rfl) (by simp [noCells, one]) (by simp [noCells]) (fun _ h => h.nil) ?_
          rw [show splice [.int .i64 0, .int .i64 0, .int .i64 0, .int .i64 0, .slice none 0 0] 0 noCells = noCells from rfl]
          refine St.assign rfl rfl ?_
          refine St.done ?_
          refine SX.seq ?_
          refine SC.ret ?_
          refine SX.seq_ret ?_
          have hno : isSeg bs = false := isSeg_false (by omega)
          refine SX.retCT noCells (.inl rfl) rfl rfl rfl (by kernel_rfl) (HoldsN.of_row mem0) (L' := [] :: L) (fun w hw => hw.drop.perm (List.Perm.refl _)) ⟨.slice none 0 0, [], by rw [noSeg_of hno, hno]; rfl, rfl, by rw [noSeg_of hno]; exact Buf.nil 5 1⟩
        · refine St.guard_yes rfl rfl ?_
          refine St.move rfl rfl ?_
          refine St.guard_yes rfl rfl ?_
          refine St.indexSl (e := 5) (sz := 1) rfl rfl rfl (by kernel_rfl) (by omega) ?_
          refine St.guard_yes rfl rfl ?_
          first | (refine St.loadB (i := 0) rfl rfl (by kernel_rfl) (HoldsN.mono hr (fun w hw => by first | exact hw | exact hw.drop | exact hw.drop.drop | exact hw.drop.drop.drop | exact hw.drop.drop.drop.drop | exact hw.drop.drop.drop.drop.drop | exact hw.drop.drop.drop.drop.drop.drop | exact hw.drop.drop.drop.drop.drop.drop.drop | exact hw.drop.drop.drop.drop.drop.drop.drop.drop)) rfl (by omega) hb ?_; intro n38 e38 l38) | refine St.load rfl rfl (by kernel_rfl) (by first | exact Holds.row mem0 rfl | exact Holds.row mem1 rfl | exact Holds.row mem2 rfl | exact Holds.row mem3 rfl | exact Holds.row mem4 rfl | exact Holds.row mem5 rfl | exact Holds.row mem6 rfl | exact Holds.row mem7 rfl | exact Holds.row mem8 rfl) ?_
          refine St.guard_yes rfl rfl ?_
          refine St.gtr rfl rfl rfl ?_
          refine St.pick_false rfl rfl rfl ?_
          refine St.move rfl rfl ?_
          refine St.split 41 rfl (fun g41 => ?_) (fun g41 => ?_)
          · refine St.guard_no rfl rfl rfl ?_
            refine St.guard_no rfl rfl rfl ?_
            refine St.guard_no rfl rfl rfl ?_
            refine St.guard_no rfl rfl rfl ?_
            refine St.guard_no rfl rfl rfl ?_
            refine St.guard_no rfl rfl rfl ?_
            refine St.guard_no rfl rfl rfl ?_
            refine St.guard_no rfl rfl rfl ?_
            refine St.guard_no rfl rfl rfl ?_
            refine St.guard_no rfl rfl rfl ?_
            refine St.guard_no rfl rfl rfl ?_
            refine St.guard_no rfl rfl rfl ?_
            refine St.pick_true rfl rfl rfl ?_
            refine St.done ?_
            refine SX.tail ?_
            refine St.done ?_
            refine SX.seq ?_
            refine SC.cond_true rfl ?_
            refine SC.seq ?_
            refine SC.plain ?_
            refine St.build [] noCells rfl rfl (by kernel_rfl) ?_
            refine St.storeN rfl rfl rfl noCells rfl (by kernel_rfl) (by simp [noCells, one]) (by simp [noCells]) (fun _ h => h.nil) ?_
            rw [show splice [.int .i64 0, .int .i64 0, .int .i64 0, .int .i64 0, .slice none 0 0] 0 noCells = noCells from rfl]
            refine St.assign rfl rfl ?_
            refine St.done ?_
            refine SX.seq ?_
            refine SC.ret ?_
            refine SX.seq_ret ?_
            have hno : isSeg bs = false := isSeg_false (by omega)
            refine SX.retCT noCells (.inl rfl) rfl rfl rfl (by kernel_rfl) (HoldsN.of_row mem0) (L' := [] :: L) (fun w hw => hw.drop.perm (List.Perm.refl _)) ⟨.slice none 0 0, [], by rw [noSeg_of hno, hno]; rfl, rfl, by rw [noSeg_of hno]; exact Buf.nil 5 1⟩
          · refine St.guard_yes rfl rfl ?_
            refine St.move rfl rfl ?_
            refine St.guard_yes rfl rfl ?_
            refine St.move rfl rfl ?_
            refine St.guard_yes rfl rfl ?_
            first | refine St.addN (a := 15) rfl rfl rfl (by omega) ?_ | refine St.addI rfl rfl rfl (by omega) ?_
            refine St.guard_yes rfl rfl ?_
            refine St.cutB (e := 5) 0 (bs.length - 4) rfl rfl (by kernel_rfl) hx0 hcp rfl ⟨_, _, rfl, by omega⟩ (by omega) (by omega) (fun v4 h4 _ => ?_)
            rw [List.drop_zero, Nat.sub_zero] at h4
            refine St.guard_yes rfl rfl ?_
            refine St.move rfl rfl ?_
            refine St.guard_yes rfl rfl ?_
            refine St.move rfl rfl ?_
            refine St.guard_yes rfl rfl ?_
            first | refine St.addN (a := 15) rfl rfl rfl (by omega) ?_ | refine St.addI rfl rfl rfl (by omega) ?_
            refine St.guard_yes rfl rfl ?_
            refine St.cutB (e := 5) (bs.length - 4) bs.length rfl rfl (by kernel_rfl) hx0 hcp ⟨_, _, rfl, by omega⟩ rfl (by omega) (by omega) (fun v5 h5 _ => ?_)
            refine St.guard_yes rfl rfl ?_
            refine St.call [_] rfl (by kernel_rfl) rfl (crc_spec w0 _ v4 (bs.take (bs.length - 4)) (Rd.mono h4 (fun w hw => by first | exact hw | exact hw.drop | exact hw.drop.drop | exact hw.drop.drop.drop | exact hw.drop.drop.drop.drop | exact hw.drop.drop.drop.drop.drop | exact hw.drop.drop.drop.drop.drop.drop | exact hw.drop.drop.drop.drop.drop.drop.drop | exact hw.drop.drop.drop.drop.drop.drop.drop.drop)) (by rw [List.length_take]; omega) (take_lt256 hb _)) (fun _ _ _ h hw => h.1 ▸ hw) ?_
            rintro r5 L1 ⟨rfl, rfl⟩
            refine St.guard_yes rfl rfl ?_
            refine St.call [_] rfl (by kernel_rfl) rfl (snum_spec w0 _ v5 _ (Rd.mono h5 (fun w hw => by first | exact hw | exact hw.drop | exact hw.drop.drop | exact hw.drop.drop.drop | exact hw.drop.drop.drop.drop | exact hw.drop.drop.drop.drop.drop | exact hw.drop.drop.drop.drop.drop.drop | exact hw.drop.drop.drop.drop.drop.drop.drop | exact hw.drop.drop.drop.drop.drop.drop.drop.drop)) (by rw [cut_len _ _ _ (by omega) (by omega)]; omega) (cut_lt hb _ _)) (fun _ _ _ h hw => h.1 ▸ hw) ?_
            rintro r6 L1 ⟨rfl, rfl⟩
            rw [num_cut _ _ _ (by omega)]
            have hnl := num_lt hb (bs.length - 4)
            refine St.guard_yes rfl rfl ?_
            first | refine St.convUx un32 rfl rfl (by kernel_rfl) (by kernel_rfl) (by omega) ?_ | refine St.convU un32 rfl rfl (by kernel_rfl) (by kernel_rfl) ?_ | refine St.convZ un32 rfl rfl (by kernel_rfl) (by kernel_rfl) ?_
            refine St.guard_yes rfl rfl ?_
            refine St.neq rfl rfl rfl ?_
            refine St.pick_false rfl rfl rfl ?_
            refine St.done ?_
            refine SX.tail ?_
            refine St.done ?_
            refine SX.seq ?_
            refine SC.condp rfl (fun c54 => ?_) (fun c54 => ?_)
            · refine SC.seq ?_
              refine SC.plain ?_
              refine St.build [] noCells rfl rfl (by kernel_rfl) ?_
              refine St.storeN rfl rfl rfl noCells rfl (by kernel_rfl) (by simp [noCells, one]) (by simp [noCells]) (fun _ h => h.nil) ?_
              rw [show splice [.int .i64 0, .int .i64 0, .int .i64 0, .int .i64 0, .slice none 0 0] 0 noCells = noCells from rfl]
              refine St.assign rfl rfl ?_
              refine St.done ?_
              refine SX.seq ?_
              refine SC.ret ?_
              refine SX.seq_ret ?_
              have hno : isSeg bs = false := isSeg_false (by omega)
              refine SX.retCT noCells (.inl rfl) rfl rfl rfl (by kernel_rfl) (HoldsN.of_row mem0) (L' := [] :: L) (fun w hw => hw.drop.perm (List.Perm.refl _)) ⟨.slice none 0 0, [], by rw [noSeg_of hno, hno]; rfl, rfl, by rw [noSeg_of hno]; exact Buf.nil 5 1⟩
            · have hseg : isSeg bs = true := isSeg_true (by omega) (by omega) (by omega) (by omega) (by omega) (by omega)
              have hfr : segFrom bs = ⟨((bs.getD 0 0 : Nat) : Int), ((num bs 1 : Nat) : Int), ((num bs 5 : Nat) : Int), ((num bs 9 : Nat) : Int), (bs.drop 15).take (bs.length - 19)⟩ := if_pos hseg
              refine SC.skip ?_
              refine SX.seq ?_
              refine SC.seq ?_
              refine SC.drawn [(0, true), (1, true), (2, true), (3, true), (4, true), (5, true), (7, true), (8, true), (10, true), (11, true), (13, true), (14, true), (15, true), (16, true), (6, false), (9, false), (12, false), (17, false), (18, false), (19, true), (20, false), (21, true)] [] (L) (by kernel_rfl) (by kernel_rfl) (fun _ h => h.drop) ?_
              refine St.move rfl rfl ?_
              refine St.indexSl (e := 5) (sz := 1) rfl rfl rfl (by kernel_rfl) (by omega) ?_
              first | (refine St.loadB (i := 0) rfl rfl (by kernel_rfl) (HoldsN.mono hr (fun w hw => by first | exact hw | exact hw.drop | exact hw.drop.drop | exact hw.drop.drop.drop | exact hw.drop.drop.drop.drop | exact hw.drop.drop.drop.drop.drop | exact hw.drop.drop.drop.drop.drop.drop | exact hw.drop.drop.drop.drop.drop.drop.drop | exact hw.drop.drop.drop.drop.drop.drop.drop.drop)) rfl (by omega) hb ?_; intro n58 e58 l58) | refine St.load rfl rfl (by kernel_rfl) (by first | exact Holds.row mem0 rfl | exact Holds.row mem1 rfl | exact Holds.row mem2 rfl | exact Holds.row mem3 rfl | exact Holds.row mem4 rfl | exact Holds.row mem5 rfl | exact Holds.row mem6 rfl | exact Holds.row mem7 rfl | exact Holds.row mem8 rfl) ?_
              refine St.convS rfl rfl (by kernel_rfl) (by kernel_rfl) (by omega) ?_
              refine St.move rfl rfl ?_
              refine St.cutB (e := 5) 1 bs.length rfl rfl (by kernel_rfl) hx0 hcp ⟨_, _, rfl, rfl⟩ rfl (by omega) (by omega) (fun v61 h61 _ => ?_)
              refine St.move rfl rfl ?_
              refine St.cutB (e := 5) 5 bs.length rfl rfl (by kernel_rfl) hx0 hcp ⟨_, _, rfl, rfl⟩ rfl (by omega) (by omega) (fun v64 h64 _ => ?_)
              refine St.move rfl rfl ?_
              refine St.cutB (e := 5) 9 bs.length rfl rfl (by kernel_rfl) hx0 hcp ⟨_, _, rfl, rfl⟩ rfl (by omega) (by omega) (fun v67 h67 _ => ?_)
              refine St.move rfl rfl ?_
              refine St.move rfl rfl ?_
              first | refine St.addN (a := 15) rfl rfl rfl (by omega) ?_ | refine St.addI rfl rfl rfl (by omega) ?_
              refine St.cutB (e := 5) 15 (bs.length - 4) rfl rfl (by kernel_rfl) hx0 hcp ⟨_, _, rfl, rfl⟩ ⟨_, _, rfl, by omega⟩ (by omega) (by omega) (fun v72 h72 _ => ?_)
              rw [show bs.length - 4 - 15 = bs.length - 19 by omega] at h72
              refine St.call [_] rfl (by kernel_rfl) rfl (snum_spec w0 _ v61 _ (Rd.mono h61 (fun w hw => by first | exact hw | exact hw.drop | exact hw.drop.drop | exact hw.drop.drop.drop | exact hw.drop.drop.drop.drop | exact hw.drop.drop.drop.drop.drop | exact hw.drop.drop.drop.drop.drop.drop | exact hw.drop.drop.drop.drop.drop.drop.drop | exact hw.drop.drop.drop.drop.drop.drop.drop.drop)) (by rw [cut_len _ _ _ (by omega) (by omega)]; omega) (cut_lt hb _ _)) (fun _ _ _ h hw => by rw [← h.1] at hw; exact hw.drop) ?_
              rintro r61 L1 ⟨rfl, rfl⟩
              rw [num_cut _ _ _ (by omega)]
              refine St.call [_] rfl (by kernel_rfl) rfl (snum_spec w0 _ v64 _ (Rd.mono h64 (fun w hw => by first | exact hw | exact hw.drop | exact hw.drop.drop | exact hw.drop.drop.drop | exact hw.drop.drop.drop.drop | exact hw.drop.drop.drop.drop.drop | exact hw.drop.drop.drop.drop.drop.drop | exact hw.drop.drop.drop.drop.drop.drop.drop | exact hw.drop.drop.drop.drop.drop.drop.drop.drop)) (by rw [cut_len _ _ _ (by omega) (by omega)]; omega) (cut_lt hb _ _)) (fun _ _ _ h hw => by rw [← h.1] at hw; exact hw.drop) ?_
              rintro r64 L1 ⟨rfl, rfl⟩
              rw [num_cut _ _ _ (by omega)]
              refine St.call [_] rfl (by kernel_rfl) rfl (snum_spec w0 _ v67 _ (Rd.mono h67 (fun w hw => by first | exact hw | exact hw.drop | exact hw.drop.drop | exact hw.drop.drop.drop | exact hw.drop.drop.drop.drop | exact hw.drop.drop.drop.drop.drop | exact hw.drop.drop.drop.drop.drop.drop | exact hw.drop.drop.drop.drop.drop.drop.drop | exact hw.drop.drop.drop.drop.drop.drop.drop.drop)) (by rw [cut_len _ _ _ (by omega) (by omega)]; omega) (cut_lt hb _ _)) (fun _ _ _ h hw => by rw [← h.1] at hw; exact hw.drop) ?_
              rintro r67 L1 ⟨rfl, rfl⟩
              rw [num_cut _ _ _ (by omega)]
              refine St.call [_] rfl (by kernel_rfl) rfl (clone_spec w0 _ v72 ((bs.drop 15).take (bs.length - 19)) (Rd.mono h72 (fun w hw => by first | exact hw | exact hw.drop | exact hw.drop.drop | exact hw.drop.drop.drop | exact hw.drop.drop.drop.drop | exact hw.drop.drop.drop.drop.drop | exact hw.drop.drop.drop.drop.drop.drop | exact hw.drop.drop.drop.drop.drop.drop.drop | exact hw.drop.drop.drop.drop.drop.drop.drop.drop)) (by rw [List.length_take]; omega)) (fun _ _ _ h hw => by obtain ⟨E1, e, _⟩ := h; rw [e] at hw; exact hw.drop.drop) ?_
              rintro r73 L1 ⟨E, rfl, hbc⟩
              refine St.call [_] rfl (by kernel_rfl) rfl (clip_spec w0 _ _ _ _ E hbc) (fun _ _ _ h hw => by rw [← h.1] at hw; exact hw.drop.drop) ?_
              rintro r74 L1 ⟨rfl, hbd⟩
              have hbr := hbd.read
              obtain ⟨_, _, A74, c74, rfl, _, _⟩ := hbr
              subst e58
              refine St.build [(0, .int .i64 ((bs.getD 0 0 : Nat) : Int)), (1, .int .i64 ((num bs 1 : Nat) : Int)), (2, .int .i64 ((num bs 5 : Nat) : Int)), (3, .int .i64 ((num bs 9 : Nat) : Int)), (4, (.slice A74 ((bs.drop 15).take (bs.length - 19)).length c74))] (segCells ⟨((bs.getD 0 0 : Nat) : Int), ((num bs 1 : Nat) : Int), ((num bs 5 : Nat) : Int), ((num bs 9 : Nat) : Int), (bs.drop 15).take (bs.length - 19)⟩ (.slice A74 ((bs.drop 15).take (bs.length - 19)).length c74)) rfl rfl (by kernel_rfl) ?_
              rw [← hfr]
              refine St.storeN1 rfl rfl rfl (segCells (segFrom bs) (.slice A74 ((bs.drop 15).take (bs.length - 19)).length c74)) rfl (by kernel_rfl) (by simp [segCells, one]) (by simp [segCells]) (fun _ h => h.drop.drop) ?_
              rw [show splice [.int .i64 0, .int .i64 0, .int .i64 0, .int .i64 0, .slice none 0 0] 0 (segCells (segFrom bs) (.slice A74 ((bs.drop 15).take (bs.length - 19)).length c74)) = segCells (segFrom bs) (.slice A74 ((bs.drop 15).take (bs.length - 19)).length c74) from rfl]
              refine St.assign rfl rfl ?_
              refine St.done ?_
              refine SX.tail ?_
              refine St.done ?_
              refine SX.seq ?_
              refine SC.ret ?_
              refine SX.retCT (segCells (segFrom bs) (.slice A74 ((bs.drop 15).take (bs.length - 19)).length c74)) (.inl rfl) rfl rfl rfl (by kernel_rfl) (HoldsN.of_row mem1) (L' := E :: L) (fun w hw => (hw.perm (perm12 _ _ _)).drop) ⟨_, E, by rw [hseg], rfl, by rw [hfr]; exact hbd⟩
end Go.Proofs.Ytahafepgmkiabaa
