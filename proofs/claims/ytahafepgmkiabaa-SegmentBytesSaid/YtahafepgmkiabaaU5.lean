/- Walks: the law SegmentBytes. -/
import Derived.Test.YtahafepgmkiabaaU4
set_option linter.unusedVariables false
set_option linter.unusedSimpArgs false
set_option linter.ambiguousOpen false
namespace Go.Proofs.Ytahafepgmkiabaa
open Go Go.Proofs.Ytahafepgmkiabaa.Sep

def GoodSeg (s : Seg) : Prop := 1 ≤ s.ty ∧ s.ty ≤ 5 ∧ 0 ≤ s.id ∧ s.id < 4294967296 ∧ 0 ≤ s.seq ∧ s.seq < 4294967296 ∧ 0 ≤ s.ack ∧ s.ack < 4294967296 ∧ s.data.length ≤ 400
theorem good_back {s : Seg} (hb : ∀ b ∈ s.data, b < 256) (h : GoodSeg s) : isSeg (segOf s) = true ∧ segFrom (segOf s) = s := by
  obtain ⟨h1, h2, h3, h4, h5, h6, h7, h8, h9⟩ := h
  have hs := seg_back hb ⟨h1, h2⟩
  refine ⟨hs.1, ?_⟩
  rw [hs.2, u32i_of h3 h4, u32i_of h5 h6, u32i_of h7 h8, List.take_of_length_le h9]

theorem segmentBytes_spec (w0 : World) (L : List Chunk) (s : Seg) (dv v : Value) (bs : List Nat) (hS : SegIn w0 L s dv) (hv : Rd w0 L v 1 bs.length (bytes bs)) (hcp : Cap v) (hl : bs.length ≤ 140737488351232) (hb : ∀ b ∈ bs, b < 256) :
    Meets Try.prog 11 #[.agg (segCells s dv).toArray, v] w0 L (fun r L' => r = .bool true) := by
  obtain ⟨Ad, cd, rfl⟩ := hS.slice
  refine Meets.of_body [.agg (segCells s _).toArray, v] Try.func11 rfl Try.ntmps11 rfl ?_
  refine SC.seq ?_
  refine SC.plain ?_
  refine St.box (segCells s _) rfl rfl rfl (fun _ _ h => h.nil) (fun b2 => ?_)
  refine St.assign rfl rfl ?_
  refine St.done ?_
  refine SX.seq ?_
  refine SC.seq ?_
  refine SC.plain ?_
  refine St.move rfl rfl ?_
  refine St.call [_] rfl (by kernel_rfl) rfl (parse_spec w0 _ v bs (Rd.mono hv (fun w hw => by first | exact hw | exact hw.drop | exact hw.drop.drop | exact hw.drop.drop.drop | exact hw.drop.drop.drop.drop | exact hw.drop.drop.drop.drop.drop | exact hw.drop.drop.drop.drop.drop.drop | exact hw.drop.drop.drop.drop.drop.drop.drop | exact hw.drop.drop.drop.drop.drop.drop.drop.drop | exact hw.drop.drop.drop.drop.drop.drop.drop.drop.drop | exact hw.drop.drop.drop.drop.drop.drop.drop.drop.drop.drop | exact hw.drop.drop.drop.drop.drop.drop.drop.drop.drop.drop.drop | exact hw.drop.drop.drop.drop.drop.drop.drop.drop.drop.drop.drop.drop | exact hw.drop.drop.drop.drop.drop.drop.drop.drop.drop.drop.drop.drop.drop)) hcp hl hb) (by first | exact fun _ _ _ _ h => h.nil | assumption) ?_
  rintro r1 L1 ⟨dx, Ex, rfl, rfl, hbx⟩
  have hbxr := hbx.read
  obtain ⟨_, _, Ax, cx, rfl, _, _⟩ := hbxr
  refine St.move rfl rfl ?_
  refine St.extract rfl rfl rfl ?_
  refine St.extract rfl rfl rfl ?_
  refine St.alloc [.int .i64 0, .int .i64 0, .int .i64 0, .int .i64 0, .slice none 0 0] rfl (by kernel_rfl) (by first | exact fun _ _ h => h.nil | exact fun _ _ h => h | exact fun _ _ h => h.drop | exact fun _ _ h => h.drop.drop | exact fun _ _ h => h.drop.drop.drop) (fun b5 => ?_)
  refine St.storeN rfl rfl rfl (segCells (segFrom bs) (.slice Ax (segFrom bs).data.length cx)) rfl (by kernel_rfl) (by simp [segCells, one]) (by simp [segCells]) (fun _ h => h.nil) ?_
  rw [show splice [.int .i64 0, .int .i64 0, .int .i64 0, .int .i64 0, .slice none 0 0] 0 (segCells (segFrom bs) (.slice Ax (segFrom bs).data.length cx)) = segCells (segFrom bs) (.slice Ax (segFrom bs).data.length cx) from rfl]
  refine St.assign rfl rfl ?_
  refine St.done ?_
  refine SX.seq ?_
  refine SC.seq ?_
  refine SC.plain ?_
  refine St.move rfl rfl ?_
  refine St.toStr (e := 5) (bs := bs) (n := bs.length) rfl rfl (Rd.mono hv (fun w hw => by first | exact hw | exact hw.drop | exact hw.drop.drop | exact hw.drop.drop.drop | exact hw.drop.drop.drop.drop | exact hw.drop.drop.drop.drop.drop | exact hw.drop.drop.drop.drop.drop.drop | exact hw.drop.drop.drop.drop.drop.drop.drop | exact hw.drop.drop.drop.drop.drop.drop.drop.drop | exact hw.drop.drop.drop.drop.drop.drop.drop.drop.drop | exact hw.drop.drop.drop.drop.drop.drop.drop.drop.drop.drop | exact hw.drop.drop.drop.drop.drop.drop.drop.drop.drop.drop.drop | exact hw.drop.drop.drop.drop.drop.drop.drop.drop.drop.drop.drop.drop | exact hw.drop.drop.drop.drop.drop.drop.drop.drop.drop.drop.drop.drop.drop)) (by kernel_rfl) (by kernel_rfl) (by kernel_rfl) ?_
  refine St.call [_] rfl (by kernel_rfl) rfl (rparse_spec w0 _ (text bs) (by rw [text_size]; omega)) (by first | exact fun _ _ _ _ h => h.nil | assumption) ?_
  rw [u8s_text bs hb]
  rintro r2 L1 ⟨dy, Ey, rfl, rfl, hby⟩
  have hbyr := hby.read
  obtain ⟨_, _, Ay, cy, rfl, _, _⟩ := hbyr
  refine St.move rfl rfl ?_
  refine St.extract rfl rfl rfl ?_
  refine St.extract rfl rfl rfl ?_
  refine St.alloc [.int .i64 0, .int .i64 0, .int .i64 0, .int .i64 0, .slice none 0 0] rfl (by kernel_rfl) (by first | exact fun _ _ h => h.nil | exact fun _ _ h => h | exact fun _ _ h => h.drop | exact fun _ _ h => h.drop.drop | exact fun _ _ h => h.drop.drop.drop) (fun b7 => ?_)
  refine St.storeN rfl rfl rfl (segCells (segFrom bs) (.slice Ay (segFrom bs).data.length cy)) rfl (by kernel_rfl) (by simp [segCells, one]) (by simp [segCells]) (fun _ h => h.nil) ?_
  rw [show splice [.int .i64 0, .int .i64 0, .int .i64 0, .int .i64 0, .slice none 0 0] 0 (segCells (segFrom bs) (.slice Ay (segFrom bs).data.length cy)) = segCells (segFrom bs) (.slice Ay (segFrom bs).data.length cy) from rfl]
  refine St.assign rfl rfl ?_
  refine St.done ?_
  refine SX.seq ?_
  refine SC.seq ?_
  refine SC.seq ?_
  refine SC.drawn [(0, true), (3, true), (1, false), (2, true), (4, false), (5, true), (6, true), (7, true), (8, true), (9, true), (10, true), (11, true), (12, true), (13, true), (14, true), (15, true), (16, true), (17, true), (18, true), (19, true), (20, true), (21, true), (22, true), (23, true), (24, true), (25, true), (26, true), (27, true), (28, true), (29, true), (30, true), (31, true), (32, true), (33, true), (34, true), (35, true), (36, true), (37, true), (38, true), (39, true), (40, true), (41, true), (42, true), (43, true), (44, true), (45, true), (46, true), (47, true)] [] (_) (by kernel_rfl) (by kernel_rfl) (fun _ h => h) ?_
  refine St.loadAgg (segCells s (.slice Ad s.data.length cd)) rfl rfl (by kernel_rfl) (HoldsN.of_row mem4) ?_
  refine St.loadAgg (segCells s (.slice Ad s.data.length cd)) rfl rfl (by kernel_rfl) (HoldsN.of_row mem4) ?_
  refine St.call [_] rfl (by kernel_rfl) rfl (segment_spec w0 _ s _ (Rd.mono hS.rd (fun w hw => by first | exact hw | exact hw.drop | exact hw.drop.drop | exact hw.drop.drop.drop | exact hw.drop.drop.drop.drop | exact hw.drop.drop.drop.drop.drop | exact hw.drop.drop.drop.drop.drop.drop | exact hw.drop.drop.drop.drop.drop.drop.drop | exact hw.drop.drop.drop.drop.drop.drop.drop.drop | exact hw.drop.drop.drop.drop.drop.drop.drop.drop.drop | exact hw.drop.drop.drop.drop.drop.drop.drop.drop.drop.drop | exact hw.drop.drop.drop.drop.drop.drop.drop.drop.drop.drop.drop | exact hw.drop.drop.drop.drop.drop.drop.drop.drop.drop.drop.drop.drop | exact hw.drop.drop.drop.drop.drop.drop.drop.drop.drop.drop.drop.drop.drop)) hS.cap hS.len hS.lt) (fun _ _ _ h hw => by obtain ⟨E1, e, _⟩ := h; rw [e] at hw; exact hw.drop) ?_
  rintro r3 L1 ⟨Es, rfl, hbs⟩
  refine St.grow (Es :: [⟨b7, segCells (segFrom bs) (.slice Ay (segFrom bs).data.length cy), 73⟩] :: Ey :: [⟨b5, segCells (segFrom bs) (.slice Ax (segFrom bs).data.length cx), 73⟩] :: Ex :: [⟨b2, segCells s (.slice Ad s.data.length cd), 73⟩] :: L) (fun _ h => h) (fun _ h => h.drop) ?_
  refine St.toStr (e := 5) (bs := segOf s) (n := (segOf s).length) rfl rfl (hbs.rd (by simp [Lq])) (by kernel_rfl) (by kernel_rfl) (by kernel_rfl) ?_
  refine St.call [_] rfl (by kernel_rfl) rfl (rsegment_spec w0 _ s _ (Rd.mono hS.rd (fun w hw => by first | exact hw | exact hw.drop | exact hw.drop.drop | exact hw.drop.drop.drop | exact hw.drop.drop.drop.drop | exact hw.drop.drop.drop.drop.drop | exact hw.drop.drop.drop.drop.drop.drop | exact hw.drop.drop.drop.drop.drop.drop.drop | exact hw.drop.drop.drop.drop.drop.drop.drop.drop | exact hw.drop.drop.drop.drop.drop.drop.drop.drop.drop | exact hw.drop.drop.drop.drop.drop.drop.drop.drop.drop.drop | exact hw.drop.drop.drop.drop.drop.drop.drop.drop.drop.drop.drop | exact hw.drop.drop.drop.drop.drop.drop.drop.drop.drop.drop.drop.drop | exact hw.drop.drop.drop.drop.drop.drop.drop.drop.drop.drop.drop.drop.drop)) hS.cap hS.len hS.lt) (fun _ _ _ h hw => by rw [← h.1] at hw; exact hw) ?_
  rintro r4 L1 ⟨rfl, rfl⟩
  refine St.strNeq rfl rfl rfl ?_
  refine St.move rfl rfl ?_
  refine St.split 29 rfl (fun g29 => ?_) (fun g29 => ?_)
  · exact absurd rfl g29
  · refine St.guard_yes rfl rfl ?_
    refine St.move rfl rfl ?_
    refine St.guard_yes rfl rfl ?_
    refine St.move rfl rfl ?_
    refine St.guard_yes rfl rfl ?_
    refine St.boolNeq rfl rfl rfl (by kernel_rfl) ?_
    refine St.pick_false rfl rfl rfl ?_
    refine St.move rfl rfl ?_
    refine St.split 34 rfl (fun g34 => ?_) (fun g34 => ?_)
    · exact absurd rfl g34
    · refine St.guard_yes rfl rfl ?_
      refine St.fieldAddr (off := 0) rfl rfl (by kernel_rfl) ?_
      refine St.guard_yes rfl rfl ?_
      refine St.load rfl rfl (by kernel_rfl) (by first | exact Holds.row mem0 rfl | exact Holds.row mem1 rfl | exact Holds.row mem2 rfl | exact Holds.row mem3 rfl | exact Holds.row mem4 rfl | exact Holds.row mem5 rfl | exact Holds.row mem6 rfl | exact Holds.row mem7 rfl | exact Holds.row mem8 rfl) ?_
      refine St.guard_yes rfl rfl ?_
      refine St.fieldAddr (off := 0) rfl rfl (by kernel_rfl) ?_
      refine St.guard_yes rfl rfl ?_
      refine St.load rfl rfl (by kernel_rfl) (by first | exact Holds.row mem0 rfl | exact Holds.row mem1 rfl | exact Holds.row mem2 rfl | exact Holds.row mem3 rfl | exact Holds.row mem4 rfl | exact Holds.row mem5 rfl | exact Holds.row mem6 rfl | exact Holds.row mem7 rfl | exact Holds.row mem8 rfl) ?_
      refine St.guard_yes rfl rfl ?_
      refine St.neq rfl rfl rfl ?_
      refine St.pick_false rfl rfl rfl ?_
      refine St.move rfl rfl ?_
      refine St.split 41 rfl (fun g41 => ?_) (fun g41 => ?_)
      · exact absurd rfl g41
      · refine St.guard_yes rfl rfl ?_
        refine St.fieldAddr (off := 1) rfl rfl (by kernel_rfl) ?_
        refine St.guard_yes rfl rfl ?_
        refine St.load rfl rfl (by kernel_rfl) (by first | exact Holds.row mem0 rfl | exact Holds.row mem1 rfl | exact Holds.row mem2 rfl | exact Holds.row mem3 rfl | exact Holds.row mem4 rfl | exact Holds.row mem5 rfl | exact Holds.row mem6 rfl | exact Holds.row mem7 rfl | exact Holds.row mem8 rfl) ?_
        refine St.guard_yes rfl rfl ?_
        refine St.fieldAddr (off := 1) rfl rfl (by kernel_rfl) ?_
        refine St.guard_yes rfl rfl ?_
        refine St.load rfl rfl (by kernel_rfl) (by first | exact Holds.row mem0 rfl | exact Holds.row mem1 rfl | exact Holds.row mem2 rfl | exact Holds.row mem3 rfl | exact Holds.row mem4 rfl | exact Holds.row mem5 rfl | exact Holds.row mem6 rfl | exact Holds.row mem7 rfl | exact Holds.row mem8 rfl) ?_
        refine St.guard_yes rfl rfl ?_
        refine St.neq rfl rfl rfl ?_
        refine St.pick_false rfl rfl rfl ?_
        refine St.move rfl rfl ?_
        refine St.split 48 rfl (fun g48 => ?_) (fun g48 => ?_)
        · exact absurd rfl g48
        · refine St.guard_yes rfl rfl ?_
          refine St.fieldAddr (off := 2) rfl rfl (by kernel_rfl) ?_
          refine St.guard_yes rfl rfl ?_
          refine St.load rfl rfl (by kernel_rfl) (by first | exact Holds.row mem0 rfl | exact Holds.row mem1 rfl | exact Holds.row mem2 rfl | exact Holds.row mem3 rfl | exact Holds.row mem4 rfl | exact Holds.row mem5 rfl | exact Holds.row mem6 rfl | exact Holds.row mem7 rfl | exact Holds.row mem8 rfl) ?_
          refine St.guard_yes rfl rfl ?_
          refine St.fieldAddr (off := 2) rfl rfl (by kernel_rfl) ?_
          refine St.guard_yes rfl rfl ?_
          refine St.load rfl rfl (by kernel_rfl) (by first | exact Holds.row mem0 rfl | exact Holds.row mem1 rfl | exact Holds.row mem2 rfl | exact Holds.row mem3 rfl | exact Holds.row mem4 rfl | exact Holds.row mem5 rfl | exact Holds.row mem6 rfl | exact Holds.row mem7 rfl | exact Holds.row mem8 rfl) ?_
          refine St.guard_yes rfl rfl ?_
          refine St.neq rfl rfl rfl ?_
          refine St.pick_false rfl rfl rfl ?_
          refine St.move rfl rfl ?_
          refine St.split 55 rfl (fun g55 => ?_) (fun g55 => ?_)
          · exact absurd rfl g55
          · refine St.guard_yes rfl rfl ?_
            refine St.fieldAddr (off := 3) rfl rfl (by kernel_rfl) ?_
            refine St.guard_yes rfl rfl ?_
            refine St.load rfl rfl (by kernel_rfl) (by first | exact Holds.row mem0 rfl | exact Holds.row mem1 rfl | exact Holds.row mem2 rfl | exact Holds.row mem3 rfl | exact Holds.row mem4 rfl | exact Holds.row mem5 rfl | exact Holds.row mem6 rfl | exact Holds.row mem7 rfl | exact Holds.row mem8 rfl) ?_
            refine St.guard_yes rfl rfl ?_
            refine St.fieldAddr (off := 3) rfl rfl (by kernel_rfl) ?_
            refine St.guard_yes rfl rfl ?_
            refine St.load rfl rfl (by kernel_rfl) (by first | exact Holds.row mem0 rfl | exact Holds.row mem1 rfl | exact Holds.row mem2 rfl | exact Holds.row mem3 rfl | exact Holds.row mem4 rfl | exact Holds.row mem5 rfl | exact Holds.row mem6 rfl | exact Holds.row mem7 rfl | exact Holds.row mem8 rfl) ?_
            refine St.guard_yes rfl rfl ?_
            refine St.neq rfl rfl rfl ?_
            refine St.pick_false rfl rfl rfl ?_
            refine St.move rfl rfl ?_
            refine St.split 62 rfl (fun g62 => ?_) (fun g62 => ?_)
            · exact absurd rfl g62
            · refine St.guard_yes rfl rfl ?_
              refine St.fieldAddr (off := 4) rfl rfl (by kernel_rfl) ?_
              refine St.guard_yes rfl rfl ?_
              refine St.load rfl rfl (by kernel_rfl) (by first | exact Holds.row mem0 rfl | exact Holds.row mem1 rfl | exact Holds.row mem2 rfl | exact Holds.row mem3 rfl | exact Holds.row mem4 rfl | exact Holds.row mem5 rfl | exact Holds.row mem6 rfl | exact Holds.row mem7 rfl | exact Holds.row mem8 rfl) ?_
              refine St.guard_yes rfl rfl ?_
              refine St.toStr (e := 5) (bs := (segFrom bs).data) (n := (segFrom bs).data.length) rfl rfl (hbx.rd (by simp [Lq])) (by kernel_rfl) (by kernel_rfl) (by kernel_rfl) ?_
              refine St.guard_yes rfl rfl ?_
              refine St.fieldAddr (off := 4) rfl rfl (by kernel_rfl) ?_
              refine St.guard_yes rfl rfl ?_
              refine St.load rfl rfl (by kernel_rfl) (by first | exact Holds.row mem0 rfl | exact Holds.row mem1 rfl | exact Holds.row mem2 rfl | exact Holds.row mem3 rfl | exact Holds.row mem4 rfl | exact Holds.row mem5 rfl | exact Holds.row mem6 rfl | exact Holds.row mem7 rfl | exact Holds.row mem8 rfl) ?_
              refine St.guard_yes rfl rfl ?_
              refine St.toStr (e := 5) (bs := (segFrom bs).data) (n := (segFrom bs).data.length) rfl rfl (hby.rd (by simp [Lq])) (by kernel_rfl) (by kernel_rfl) (by kernel_rfl) ?_
              refine St.guard_yes rfl rfl ?_
              refine St.strNeq rfl rfl rfl ?_
              refine St.pick_false rfl rfl rfl ?_
              refine St.done ?_
              refine SX.tail ?_
              refine St.done ?_
              refine SX.seq ?_
              refine SC.condp rfl (fun c70 => ?_) (fun c70 => ?_)
              · exact absurd rfl c70
              · refine SC.skip ?_
                refine SX.seq ?_
                refine SC.seq ?_
                refine SC.plain ?_
                refine St.loadAgg (segCells s (.slice Ad s.data.length cd)) rfl rfl (by kernel_rfl) (HoldsN.of_row (memc mem4)) ?_
                refine St.call [_] rfl (by kernel_rfl) rfl (segment_spec w0 _ s _ (Rd.mono hS.rd (fun w hw => by first | exact hw | exact hw.drop | exact hw.drop.drop | exact hw.drop.drop.drop | exact hw.drop.drop.drop.drop | exact hw.drop.drop.drop.drop.drop | exact hw.drop.drop.drop.drop.drop.drop | exact hw.drop.drop.drop.drop.drop.drop.drop | exact hw.drop.drop.drop.drop.drop.drop.drop.drop | exact hw.drop.drop.drop.drop.drop.drop.drop.drop.drop | exact hw.drop.drop.drop.drop.drop.drop.drop.drop.drop.drop | exact hw.drop.drop.drop.drop.drop.drop.drop.drop.drop.drop.drop | exact hw.drop.drop.drop.drop.drop.drop.drop.drop.drop.drop.drop.drop | exact hw.drop.drop.drop.drop.drop.drop.drop.drop.drop.drop.drop.drop.drop)) hS.cap hS.len hS.lt) (by first | exact fun _ _ _ _ h => h.nil | assumption) ?_
                rintro r5 L1 ⟨E5, rfl, hb5⟩
                refine St.call [_] rfl (by kernel_rfl) rfl (parse_spec w0 _ r5 (segOf s) (hb5.rd (by simp)) hb5.cap (by rw [segOf_len, List.length_take]; omega) (segOf_lt hS.lt)) (by first | exact fun _ _ _ _ h => h.nil | assumption) ?_
                rintro r6 L1 ⟨dz, Ez, rfl, rfl, hbz⟩
                have hbzr := hbz.read
                obtain ⟨_, _, Az, cz, rfl, _, _⟩ := hbzr
                refine St.move rfl rfl ?_
                refine St.extract rfl rfl rfl ?_
                refine St.extract rfl rfl rfl ?_
                refine St.alloc [.int .i64 0, .int .i64 0, .int .i64 0, .int .i64 0, .slice none 0 0] rfl (by kernel_rfl) (by first | exact fun _ _ h => h.nil | exact fun _ _ h => h | exact fun _ _ h => h.drop | exact fun _ _ h => h.drop.drop | exact fun _ _ h => h.drop.drop.drop) (fun b9 => ?_)
                refine St.storeN rfl rfl rfl (segCells (segFrom (segOf s)) (.slice Az (segFrom (segOf s)).data.length cz)) rfl (by kernel_rfl) (by simp [segCells, one]) (by simp [segCells]) (fun _ h => h.nil) ?_
                rw [show splice [.int .i64 0, .int .i64 0, .int .i64 0, .int .i64 0, .slice none 0 0] 0 (segCells (segFrom (segOf s)) (.slice Az (segFrom (segOf s)).data.length cz)) = segCells (segFrom (segOf s)) (.slice Az (segFrom (segOf s)).data.length cz) from rfl]
                refine St.assign rfl rfl ?_
                refine St.done ?_
                refine SX.seq ?_
                refine SC.join (α := Bool) (fun g => g = true → GoodSeg s) (fun g => [(2, .pointer (some ⟨b2, 0, none⟩)), (9, .pointer (some ⟨b9, 0, none⟩)), (10, .bool (isSeg (segOf s))), (11, .bool g)]) (fun g => [⟨b9, segCells (segFrom (segOf s)) (.slice Az (segFrom (segOf s)).data.length cz), 73⟩] :: Ez :: E5 :: Es :: [⟨b7, segCells (segFrom bs) (.slice Ay (segFrom bs).data.length cy), 73⟩] :: Ey :: [⟨b5, segCells (segFrom bs) (.slice Ax (segFrom bs).data.length cx), 73⟩] :: Ex :: [⟨b2, segCells s (.slice Ad s.data.length cd), 73⟩] :: L) ?_ ?_
                · intro g hg
                  refine SC.seq ?_
                  refine SC.plain ?_
                  refine St.move rfl rfl ?_
                  refine St.notB rfl rfl ?_
                  refine St.move rfl rfl ?_
                  refine St.splitB 123 rfl (fun g123 => ?_) (fun g123 => ?_)
                  · refine St.guard_no rfl rfl rfl ?_
                    refine St.guard_no rfl rfl rfl ?_
                    refine St.guard_none rfl rfl rfl ?_
                    refine St.guard_none rfl rfl rfl ?_
                    refine St.guard_none rfl rfl rfl ?_
                    refine St.guard_none rfl rfl rfl ?_
                    refine St.guard_none rfl rfl rfl ?_
                    refine St.guard_no rfl rfl rfl ?_
                    refine St.guard_no rfl rfl rfl ?_
                    refine St.guard_none rfl rfl rfl ?_
                    refine St.guard_none rfl rfl rfl ?_
                    refine St.guard_none rfl rfl rfl ?_
                    refine St.guard_none rfl rfl rfl ?_
                    refine St.guard_none rfl rfl rfl ?_
                    refine St.guard_no rfl rfl rfl ?_
                    refine St.guard_no rfl rfl rfl ?_
                    refine St.guard_none rfl rfl rfl ?_
                    refine St.guard_none rfl rfl rfl ?_
                    refine St.guard_none rfl rfl rfl ?_
                    refine St.guard_none rfl rfl rfl ?_
                    refine St.guard_none rfl rfl rfl ?_
                    refine St.guard_no rfl rfl rfl ?_
                    refine St.guard_no rfl rfl rfl ?_
                    refine St.guard_none rfl rfl rfl ?_
                    refine St.guard_none rfl rfl rfl ?_
                    refine St.guard_none rfl rfl rfl ?_
                    refine St.guard_none rfl rfl rfl ?_
                    refine St.guard_none rfl rfl rfl ?_
                    refine St.guard_no rfl rfl rfl ?_
                    refine St.guard_no rfl rfl rfl ?_
                    refine St.guard_none rfl rfl rfl ?_
                    refine St.guard_none rfl rfl rfl ?_
                    refine St.guard_none rfl rfl rfl ?_
                    refine St.guard_none rfl rfl rfl ?_
                    refine St.guard_none rfl rfl rfl ?_
                    refine St.guard_none rfl rfl rfl ?_
                    refine St.guard_none rfl rfl rfl ?_
                    refine St.guard_no rfl rfl rfl ?_
                    refine St.pick_true rfl rfl rfl ?_
                    refine St.move rfl rfl ?_
                    refine St.guard_yes rfl rfl ?_
                    refine St.call [] rfl (by kernel_rfl) rfl (awake18_spec w0 _) (by first | exact fun _ _ _ _ h => h.nil | assumption) ?_
                    rintro r9 L1 ⟨rfl, rfl⟩
                    refine St.pick_true rfl rfl rfl ?_
                    refine St.assign rfl rfl ?_
                    refine St.done ?_
                    refine SX.seq ?_
                    refine SC.ret ?_
                    exact SX.ret1 rfl rfl rfl
                  · have hgs := hg (by simpa using g123)
                    have hbk := good_back hS.lt hgs
                    have hbk2 := hbk.2
                    refine St.guard_yes rfl rfl ?_
                    refine St.move rfl rfl ?_
                    refine St.guard_yes rfl rfl ?_
                    refine St.move rfl rfl ?_
                    refine St.splitB 125 rfl (fun g125 => ?_) (fun g125 => ?_)
                    · refine St.guard_yes rfl rfl ?_
                      refine St.fieldAddr (off := 0) rfl rfl (by kernel_rfl) ?_
                      refine St.guard_yes rfl rfl ?_
                      refine St.load rfl rfl (by kernel_rfl) (by first | exact Holds.row mem0 rfl | exact Holds.row mem1 rfl | exact Holds.row mem2 rfl | exact Holds.row mem3 rfl | exact Holds.row mem4 rfl | exact Holds.row mem5 rfl | exact Holds.row mem6 rfl | exact Holds.row mem7 rfl | exact Holds.row mem8 rfl) ?_
                      refine St.guard_yes rfl rfl ?_
                      refine St.fieldAddr (off := 0) rfl rfl (by kernel_rfl) ?_
                      refine St.guard_yes rfl rfl ?_
                      refine St.load rfl rfl (by kernel_rfl) (by first | exact Holds.row mem0 rfl | exact Holds.row mem1 rfl | exact Holds.row mem2 rfl | exact Holds.row mem3 rfl | exact Holds.row mem4 rfl | exact Holds.row mem5 rfl | exact Holds.row mem6 rfl | exact Holds.row mem7 rfl | exact Holds.row mem8 rfl) ?_
                      refine St.guard_yes rfl rfl ?_
                      refine St.eql rfl rfl rfl ?_
                      refine St.guard_yes rfl rfl ?_
                      refine St.pick_true rfl rfl rfl ?_
                      refine St.guard_yes rfl rfl ?_
                      refine St.move rfl rfl ?_
                      refine St.split 132 rfl (fun g132 => ?_) (fun g132 => ?_)
                      · refine St.guard_yes rfl rfl ?_
                        refine St.fieldAddr (off := 1) rfl rfl (by kernel_rfl) ?_
                        refine St.guard_yes rfl rfl ?_
                        refine St.load rfl rfl (by kernel_rfl) (by first | exact Holds.row mem0 rfl | exact Holds.row mem1 rfl | exact Holds.row mem2 rfl | exact Holds.row mem3 rfl | exact Holds.row mem4 rfl | exact Holds.row mem5 rfl | exact Holds.row mem6 rfl | exact Holds.row mem7 rfl | exact Holds.row mem8 rfl) ?_
                        refine St.guard_yes rfl rfl ?_
                        refine St.fieldAddr (off := 1) rfl rfl (by kernel_rfl) ?_
                        refine St.guard_yes rfl rfl ?_
                        refine St.load rfl rfl (by kernel_rfl) (by first | exact Holds.row mem0 rfl | exact Holds.row mem1 rfl | exact Holds.row mem2 rfl | exact Holds.row mem3 rfl | exact Holds.row mem4 rfl | exact Holds.row mem5 rfl | exact Holds.row mem6 rfl | exact Holds.row mem7 rfl | exact Holds.row mem8 rfl) ?_
                        refine St.guard_yes rfl rfl ?_
                        refine St.eql rfl rfl rfl ?_
                        refine St.guard_yes rfl rfl ?_
                        refine St.pick_true rfl rfl rfl ?_
                        refine St.guard_yes rfl rfl ?_
                        refine St.move rfl rfl ?_
                        refine St.split 139 rfl (fun g139 => ?_) (fun g139 => ?_)
                        · refine St.guard_yes rfl rfl ?_
                          refine St.fieldAddr (off := 2) rfl rfl (by kernel_rfl) ?_
                          refine St.guard_yes rfl rfl ?_
                          refine St.load rfl rfl (by kernel_rfl) (by first | exact Holds.row mem0 rfl | exact Holds.row mem1 rfl | exact Holds.row mem2 rfl | exact Holds.row mem3 rfl | exact Holds.row mem4 rfl | exact Holds.row mem5 rfl | exact Holds.row mem6 rfl | exact Holds.row mem7 rfl | exact Holds.row mem8 rfl) ?_
                          refine St.guard_yes rfl rfl ?_
                          refine St.fieldAddr (off := 2) rfl rfl (by kernel_rfl) ?_
                          refine St.guard_yes rfl rfl ?_
                          refine St.load rfl rfl (by kernel_rfl) (by first | exact Holds.row mem0 rfl | exact Holds.row mem1 rfl | exact Holds.row mem2 rfl | exact Holds.row mem3 rfl | exact Holds.row mem4 rfl | exact Holds.row mem5 rfl | exact Holds.row mem6 rfl | exact Holds.row mem7 rfl | exact Holds.row mem8 rfl) ?_
                          refine St.guard_yes rfl rfl ?_
                          refine St.eql rfl rfl rfl ?_
                          refine St.guard_yes rfl rfl ?_
                          refine St.pick_true rfl rfl rfl ?_
                          refine St.guard_yes rfl rfl ?_
                          refine St.move rfl rfl ?_
                          refine St.split 146 rfl (fun g146 => ?_) (fun g146 => ?_)
                          · refine St.guard_yes rfl rfl ?_
                            refine St.fieldAddr (off := 3) rfl rfl (by kernel_rfl) ?_
                            refine St.guard_yes rfl rfl ?_
                            refine St.load rfl rfl (by kernel_rfl) (by first | exact Holds.row mem0 rfl | exact Holds.row mem1 rfl | exact Holds.row mem2 rfl | exact Holds.row mem3 rfl | exact Holds.row mem4 rfl | exact Holds.row mem5 rfl | exact Holds.row mem6 rfl | exact Holds.row mem7 rfl | exact Holds.row mem8 rfl) ?_
                            refine St.guard_yes rfl rfl ?_
                            refine St.fieldAddr (off := 3) rfl rfl (by kernel_rfl) ?_
                            refine St.guard_yes rfl rfl ?_
                            refine St.load rfl rfl (by kernel_rfl) (by first | exact Holds.row mem0 rfl | exact Holds.row mem1 rfl | exact Holds.row mem2 rfl | exact Holds.row mem3 rfl | exact Holds.row mem4 rfl | exact Holds.row mem5 rfl | exact Holds.row mem6 rfl | exact Holds.row mem7 rfl | exact Holds.row mem8 rfl) ?_
                            refine St.guard_yes rfl rfl ?_
                            refine St.eql rfl rfl rfl ?_
                            refine St.guard_yes rfl rfl ?_
                            refine St.pick_true rfl rfl rfl ?_
                            refine St.guard_yes rfl rfl ?_
                            refine St.move rfl rfl ?_
                            refine St.split 153 rfl (fun g153 => ?_) (fun g153 => ?_)
                            · refine St.guard_yes rfl rfl ?_
                              refine St.fieldAddr (off := 4) rfl rfl (by kernel_rfl) ?_
                              refine St.guard_yes rfl rfl ?_
                              refine St.load rfl rfl (by kernel_rfl) (by first | exact Holds.row mem0 rfl | exact Holds.row mem1 rfl | exact Holds.row mem2 rfl | exact Holds.row mem3 rfl | exact Holds.row mem4 rfl | exact Holds.row mem5 rfl | exact Holds.row mem6 rfl | exact Holds.row mem7 rfl | exact Holds.row mem8 rfl) ?_
                              refine St.guard_yes rfl rfl ?_
                              refine St.toStr (e := 5) (bs := (segFrom (segOf s)).data) (n := (segFrom (segOf s)).data.length) rfl rfl (hbz.rd (by simp [Lq])) (by kernel_rfl) (by kernel_rfl) (by kernel_rfl) ?_
                              refine St.guard_yes rfl rfl ?_
                              refine St.fieldAddr (off := 4) rfl rfl (by kernel_rfl) ?_
                              refine St.guard_yes rfl rfl ?_
                              refine St.load rfl rfl (by kernel_rfl) (by first | exact Holds.row mem0 rfl | exact Holds.row mem1 rfl | exact Holds.row mem2 rfl | exact Holds.row mem3 rfl | exact Holds.row mem4 rfl | exact Holds.row mem5 rfl | exact Holds.row mem6 rfl | exact Holds.row mem7 rfl | exact Holds.row mem8 rfl) ?_
                              refine St.guard_yes rfl rfl ?_
                              refine St.toStr (e := 5) (bs := s.data) (n := s.data.length) rfl rfl (Rd.mono hS.rd (fun w hw => by first | exact hw | exact hw.drop | exact hw.drop.drop | exact hw.drop.drop.drop | exact hw.drop.drop.drop.drop | exact hw.drop.drop.drop.drop.drop | exact hw.drop.drop.drop.drop.drop.drop | exact hw.drop.drop.drop.drop.drop.drop.drop | exact hw.drop.drop.drop.drop.drop.drop.drop.drop | exact hw.drop.drop.drop.drop.drop.drop.drop.drop.drop | exact hw.drop.drop.drop.drop.drop.drop.drop.drop.drop.drop | exact hw.drop.drop.drop.drop.drop.drop.drop.drop.drop.drop.drop | exact hw.drop.drop.drop.drop.drop.drop.drop.drop.drop.drop.drop.drop | exact hw.drop.drop.drop.drop.drop.drop.drop.drop.drop.drop.drop.drop.drop)) (by kernel_rfl) (by kernel_rfl) (by kernel_rfl) ?_
                              refine St.guard_yes rfl rfl ?_
                              refine St.strEql rfl rfl rfl ?_
                              refine St.guard_yes rfl rfl ?_
                              refine St.pick_true rfl rfl rfl ?_
                              refine St.pick_false rfl rfl rfl ?_
                              refine St.move rfl rfl ?_
                              refine St.split 163 rfl (fun g163 => ?_) (fun g163 => ?_)
                              · refine St.guard_yes rfl rfl ?_
                                refine St.call [] rfl (by kernel_rfl) rfl (awake18_spec w0 _) (by first | exact fun _ _ _ _ h => h.nil | assumption) ?_
                                rintro r9 L1 ⟨rfl, rfl⟩
                                refine St.pick_true rfl rfl rfl ?_
                                refine St.assign rfl rfl ?_
                                refine St.done ?_
                                refine SX.seq ?_
                                refine SC.ret ?_
                                exact SX.ret1 rfl rfl rfl
                              · exact absurd (by rw [hbk.2]) g163
                            · exact absurd (by rw [hbk.2]) g153
                          · exact absurd (by rw [hbk.2]) g146
                        · exact absurd (by rw [hbk.2]) g139
                      · exact absurd (by rw [hbk.2]) g132
                    · rw [hbk.1] at g125; cases g125
                · refine SC.plain ?_
                  refine St.fieldAddr (off := 0) rfl rfl (by kernel_rfl) ?_
                  refine St.load rfl rfl (by kernel_rfl) (by first | exact Holds.row mem0 rfl | exact Holds.row mem1 rfl | exact Holds.row mem2 rfl | exact Holds.row mem3 rfl | exact Holds.row mem4 rfl | exact Holds.row mem5 rfl | exact Holds.row mem6 rfl | exact Holds.row mem7 rfl | exact Holds.row mem8 rfl) ?_
                  refine St.geq rfl rfl rfl ?_
                  refine St.move rfl rfl ?_
                  refine St.split 80 rfl (fun g80 => ?_) (fun g80 => ?_)
                  · refine St.guard_yes rfl rfl ?_
                    refine St.fieldAddr (off := 0) rfl rfl (by kernel_rfl) ?_
                    refine St.guard_yes rfl rfl ?_
                    refine St.load rfl rfl (by kernel_rfl) (by first | exact Holds.row mem0 rfl | exact Holds.row mem1 rfl | exact Holds.row mem2 rfl | exact Holds.row mem3 rfl | exact Holds.row mem4 rfl | exact Holds.row mem5 rfl | exact Holds.row mem6 rfl | exact Holds.row mem7 rfl | exact Holds.row mem8 rfl) ?_
                    refine St.guard_yes rfl rfl ?_
                    refine St.leq rfl rfl rfl ?_
                    refine St.pick_true rfl rfl rfl ?_
                    refine St.move rfl rfl ?_
                    refine St.split 85 rfl (fun g85 => ?_) (fun g85 => ?_)
                    · refine St.guard_yes rfl rfl ?_
                      refine St.fieldAddr (off := 1) rfl rfl (by kernel_rfl) ?_
                      refine St.guard_yes rfl rfl ?_
                      refine St.load rfl rfl (by kernel_rfl) (by first | exact Holds.row mem0 rfl | exact Holds.row mem1 rfl | exact Holds.row mem2 rfl | exact Holds.row mem3 rfl | exact Holds.row mem4 rfl | exact Holds.row mem5 rfl | exact Holds.row mem6 rfl | exact Holds.row mem7 rfl | exact Holds.row mem8 rfl) ?_
                      refine St.guard_yes rfl rfl ?_
                      refine St.geq rfl rfl rfl ?_
                      refine St.pick_true rfl rfl rfl ?_
                      refine St.move rfl rfl ?_
                      refine St.split 90 rfl (fun g90 => ?_) (fun g90 => ?_)
                      · refine St.guard_yes rfl rfl ?_
                        refine St.fieldAddr (off := 1) rfl rfl (by kernel_rfl) ?_
                        refine St.guard_yes rfl rfl ?_
                        refine St.load rfl rfl (by kernel_rfl) (by first | exact Holds.row mem0 rfl | exact Holds.row mem1 rfl | exact Holds.row mem2 rfl | exact Holds.row mem3 rfl | exact Holds.row mem4 rfl | exact Holds.row mem5 rfl | exact Holds.row mem6 rfl | exact Holds.row mem7 rfl | exact Holds.row mem8 rfl) ?_
                        refine St.guard_yes rfl rfl ?_
                        refine St.lss rfl rfl rfl ?_
                        refine St.pick_true rfl rfl rfl ?_
                        refine St.move rfl rfl ?_
                        refine St.split 95 rfl (fun g95 => ?_) (fun g95 => ?_)
                        · refine St.guard_yes rfl rfl ?_
                          refine St.fieldAddr (off := 2) rfl rfl (by kernel_rfl) ?_
                          refine St.guard_yes rfl rfl ?_
                          refine St.load rfl rfl (by kernel_rfl) (by first | exact Holds.row mem0 rfl | exact Holds.row mem1 rfl | exact Holds.row mem2 rfl | exact Holds.row mem3 rfl | exact Holds.row mem4 rfl | exact Holds.row mem5 rfl | exact Holds.row mem6 rfl | exact Holds.row mem7 rfl | exact Holds.row mem8 rfl) ?_
                          refine St.guard_yes rfl rfl ?_
                          refine St.geq rfl rfl rfl ?_
                          refine St.pick_true rfl rfl rfl ?_
                          refine St.move rfl rfl ?_
                          refine St.split 100 rfl (fun g100 => ?_) (fun g100 => ?_)
                          · refine St.guard_yes rfl rfl ?_
                            refine St.fieldAddr (off := 2) rfl rfl (by kernel_rfl) ?_
                            refine St.guard_yes rfl rfl ?_
                            refine St.load rfl rfl (by kernel_rfl) (by first | exact Holds.row mem0 rfl | exact Holds.row mem1 rfl | exact Holds.row mem2 rfl | exact Holds.row mem3 rfl | exact Holds.row mem4 rfl | exact Holds.row mem5 rfl | exact Holds.row mem6 rfl | exact Holds.row mem7 rfl | exact Holds.row mem8 rfl) ?_
                            refine St.guard_yes rfl rfl ?_
                            refine St.lss rfl rfl rfl ?_
                            refine St.pick_true rfl rfl rfl ?_
                            refine St.move rfl rfl ?_
                            refine St.split 105 rfl (fun g105 => ?_) (fun g105 => ?_)
                            · refine St.guard_yes rfl rfl ?_
                              refine St.fieldAddr (off := 3) rfl rfl (by kernel_rfl) ?_
                              refine St.guard_yes rfl rfl ?_
                              refine St.load rfl rfl (by kernel_rfl) (by first | exact Holds.row mem0 rfl | exact Holds.row mem1 rfl | exact Holds.row mem2 rfl | exact Holds.row mem3 rfl | exact Holds.row mem4 rfl | exact Holds.row mem5 rfl | exact Holds.row mem6 rfl | exact Holds.row mem7 rfl | exact Holds.row mem8 rfl) ?_
                              refine St.guard_yes rfl rfl ?_
                              refine St.geq rfl rfl rfl ?_
                              refine St.pick_true rfl rfl rfl ?_
                              refine St.move rfl rfl ?_
                              refine St.split 110 rfl (fun g110 => ?_) (fun g110 => ?_)
                              · refine St.guard_yes rfl rfl ?_
                                refine St.fieldAddr (off := 3) rfl rfl (by kernel_rfl) ?_
                                refine St.guard_yes rfl rfl ?_
                                refine St.load rfl rfl (by kernel_rfl) (by first | exact Holds.row mem0 rfl | exact Holds.row mem1 rfl | exact Holds.row mem2 rfl | exact Holds.row mem3 rfl | exact Holds.row mem4 rfl | exact Holds.row mem5 rfl | exact Holds.row mem6 rfl | exact Holds.row mem7 rfl | exact Holds.row mem8 rfl) ?_
                                refine St.guard_yes rfl rfl ?_
                                refine St.lss rfl rfl rfl ?_
                                refine St.pick_true rfl rfl rfl ?_
                                refine St.move rfl rfl ?_
                                refine St.split 115 rfl (fun g115 => ?_) (fun g115 => ?_)
                                · refine St.guard_yes rfl rfl ?_
                                  refine St.fieldAddr (off := 4) rfl rfl (by kernel_rfl) ?_
                                  refine St.guard_yes rfl rfl ?_
                                  refine St.load rfl rfl (by kernel_rfl) (by first | exact Holds.row mem0 rfl | exact Holds.row mem1 rfl | exact Holds.row mem2 rfl | exact Holds.row mem3 rfl | exact Holds.row mem4 rfl | exact Holds.row mem5 rfl | exact Holds.row mem6 rfl | exact Holds.row mem7 rfl | exact Holds.row mem8 rfl) ?_
                                  refine St.guard_yes rfl rfl ?_
                                  refine St.lenSl rfl rfl (by kernel_rfl) ?_
                                  refine St.guard_yes rfl rfl ?_
                                  refine St.leq rfl rfl rfl ?_
                                  refine St.pick_true rfl rfl rfl ?_
                                  refine St.assign rfl rfl ?_
                                  refine St.done ?_
                                  exact SX.some _ (fun h => ⟨by omega, by omega, by omega, by omega, by omega, by omega, by omega, by omega, by have := of_decide_eq_true h; omega⟩) ⟨rfl, rfl, rfl, rfl, trivial⟩ (List.Perm.refl _)
                                · refine St.guard_no rfl rfl rfl ?_
                                  refine St.guard_no rfl rfl rfl ?_
                                  refine St.guard_no rfl rfl rfl ?_
                                  refine St.guard_no rfl rfl rfl ?_
                                  refine St.pick_false rfl rfl rfl ?_
                                  refine St.assign rfl rfl ?_
                                  refine St.done ?_
                                  exact SX.some _ (fun h => by first | cases h | (have := of_decide_eq_true h; omega)) ⟨rfl, rfl, rfl, rfl, trivial⟩ (List.Perm.refl _)
                              · refine St.guard_no rfl rfl rfl ?_
                                refine St.guard_no rfl rfl rfl ?_
                                refine St.guard_no rfl rfl rfl ?_
                                refine St.pick_false rfl rfl rfl ?_
                                refine St.move rfl rfl ?_
                                refine St.guard_no rfl rfl rfl ?_
                                refine St.guard_no rfl rfl rfl ?_
                                refine St.guard_no rfl rfl rfl ?_
                                refine St.guard_no rfl rfl rfl ?_
                                refine St.pick_false rfl rfl rfl ?_
                                refine St.assign rfl rfl ?_
                                refine St.done ?_
                                exact SX.some _ (fun h => by first | cases h | (have := of_decide_eq_true h; omega)) ⟨rfl, rfl, rfl, rfl, trivial⟩ (List.Perm.refl _)
                            · refine St.guard_no rfl rfl rfl ?_
                              refine St.guard_no rfl rfl rfl ?_
                              refine St.guard_no rfl rfl rfl ?_
                              refine St.pick_false rfl rfl rfl ?_
                              refine St.move rfl rfl ?_
                              refine St.guard_no rfl rfl rfl ?_
                              refine St.guard_no rfl rfl rfl ?_
                              refine St.guard_no rfl rfl rfl ?_
                              refine St.pick_false rfl rfl rfl ?_
                              refine St.move rfl rfl ?_
                              refine St.guard_no rfl rfl rfl ?_
                              refine St.guard_no rfl rfl rfl ?_
                              refine St.guard_no rfl rfl rfl ?_
                              refine St.guard_no rfl rfl rfl ?_
                              refine St.pick_false rfl rfl rfl ?_
                              refine St.assign rfl rfl ?_
                              refine St.done ?_
                              exact SX.some _ (fun h => by first | cases h | (have := of_decide_eq_true h; omega)) ⟨rfl, rfl, rfl, rfl, trivial⟩ (List.Perm.refl _)
                          · refine St.guard_no rfl rfl rfl ?_
                            refine St.guard_no rfl rfl rfl ?_
                            refine St.guard_no rfl rfl rfl ?_
                            refine St.pick_false rfl rfl rfl ?_
                            refine St.move rfl rfl ?_
                            refine St.guard_no rfl rfl rfl ?_
                            refine St.guard_no rfl rfl rfl ?_
                            refine St.guard_no rfl rfl rfl ?_
                            refine St.pick_false rfl rfl rfl ?_
                            refine St.move rfl rfl ?_
                            refine St.guard_no rfl rfl rfl ?_
                            refine St.guard_no rfl rfl rfl ?_
                            refine St.guard_no rfl rfl rfl ?_
                            refine St.pick_false rfl rfl rfl ?_
                            refine St.move rfl rfl ?_
                            refine St.guard_no rfl rfl rfl ?_
                            refine St.guard_no rfl rfl rfl ?_
                            refine St.guard_no rfl rfl rfl ?_
                            refine St.guard_no rfl rfl rfl ?_
                            refine St.pick_false rfl rfl rfl ?_
                            refine St.assign rfl rfl ?_
                            refine St.done ?_
                            exact SX.some _ (fun h => by first | cases h | (have := of_decide_eq_true h; omega)) ⟨rfl, rfl, rfl, rfl, trivial⟩ (List.Perm.refl _)
                        · refine St.guard_no rfl rfl rfl ?_
                          refine St.guard_no rfl rfl rfl ?_
                          refine St.guard_no rfl rfl rfl ?_
                          refine St.pick_false rfl rfl rfl ?_
                          refine St.move rfl rfl ?_
                          refine St.guard_no rfl rfl rfl ?_
                          refine St.guard_no rfl rfl rfl ?_
                          refine St.guard_no rfl rfl rfl ?_
                          refine St.pick_false rfl rfl rfl ?_
                          refine St.move rfl rfl ?_
                          refine St.guard_no rfl rfl rfl ?_
                          refine St.guard_no rfl rfl rfl ?_
                          refine St.guard_no rfl rfl rfl ?_
                          refine St.pick_false rfl rfl rfl ?_
                          refine St.move rfl rfl ?_
                          refine St.guard_no rfl rfl rfl ?_
                          refine St.guard_no rfl rfl rfl ?_
                          refine St.guard_no rfl rfl rfl ?_
                          refine St.pick_false rfl rfl rfl ?_
                          refine St.move rfl rfl ?_
                          refine St.guard_no rfl rfl rfl ?_
                          refine St.guard_no rfl rfl rfl ?_
                          refine St.guard_no rfl rfl rfl ?_
                          refine St.guard_no rfl rfl rfl ?_
                          refine St.pick_false rfl rfl rfl ?_
                          refine St.assign rfl rfl ?_
                          refine St.done ?_
                          exact SX.some _ (fun h => by first | cases h | (have := of_decide_eq_true h; omega)) ⟨rfl, rfl, rfl, rfl, trivial⟩ (List.Perm.refl _)
                      · refine St.guard_no rfl rfl rfl ?_
                        refine St.guard_no rfl rfl rfl ?_
                        refine St.guard_no rfl rfl rfl ?_
                        refine St.pick_false rfl rfl rfl ?_
                        refine St.move rfl rfl ?_
                        refine St.guard_no rfl rfl rfl ?_
                        refine St.guard_no rfl rfl rfl ?_
                        refine St.guard_no rfl rfl rfl ?_
                        refine St.pick_false rfl rfl rfl ?_
                        refine St.move rfl rfl ?_
                        refine St.guard_no rfl rfl rfl ?_
                        refine St.guard_no rfl rfl rfl ?_
                        refine St.guard_no rfl rfl rfl ?_
                        refine St.pick_false rfl rfl rfl ?_
                        refine St.move rfl rfl ?_
                        refine St.guard_no rfl rfl rfl ?_
                        refine St.guard_no rfl rfl rfl ?_
                        refine St.guard_no rfl rfl rfl ?_
                        refine St.pick_false rfl rfl rfl ?_
                        refine St.move rfl rfl ?_
                        refine St.guard_no rfl rfl rfl ?_
                        refine St.guard_no rfl rfl rfl ?_
                        refine St.guard_no rfl rfl rfl ?_
                        refine St.pick_false rfl rfl rfl ?_
                        refine St.move rfl rfl ?_
                        refine St.guard_no rfl rfl rfl ?_
                        refine St.guard_no rfl rfl rfl ?_
                        refine St.guard_no rfl rfl rfl ?_
                        refine St.guard_no rfl rfl rfl ?_
                        refine St.pick_false rfl rfl rfl ?_
                        refine St.assign rfl rfl ?_
                        refine St.done ?_
                        exact SX.some _ (fun h => by first | cases h | (have := of_decide_eq_true h; omega)) ⟨rfl, rfl, rfl, rfl, trivial⟩ (List.Perm.refl _)
                    · refine St.guard_no rfl rfl rfl ?_
                      refine St.guard_no rfl rfl rfl ?_
                      refine St.guard_no rfl rfl rfl ?_
                      refine St.pick_false rfl rfl rfl ?_
                      refine St.move rfl rfl ?_
                      refine St.guard_no rfl rfl rfl ?_
                      refine St.guard_no rfl rfl rfl ?_
                      refine St.guard_no rfl rfl rfl ?_
                      refine St.pick_false rfl rfl rfl ?_
                      refine St.move rfl rfl ?_
                      refine St.guard_no rfl rfl rfl ?_
                      refine St.guard_no rfl rfl rfl ?_
                      refine St.guard_no rfl rfl rfl ?_
                      refine St.pick_false rfl rfl rfl ?_
                      refine St.move rfl rfl ?_
                      refine St.guard_no rfl rfl rfl ?_
                      refine St.guard_no rfl rfl rfl ?_
                      refine St.guard_no rfl rfl rfl ?_
                      refine St.pick_false rfl rfl rfl ?_
                      refine St.move rfl rfl ?_
                      refine St.guard_no rfl rfl rfl ?_
                      refine St.guard_no rfl rfl rfl ?_
                      refine St.guard_no rfl rfl rfl ?_
                      refine St.pick_false rfl rfl rfl ?_
                      refine St.move rfl rfl ?_
                      refine St.guard_no rfl rfl rfl ?_
                      refine St.guard_no rfl rfl rfl ?_
                      refine St.guard_no rfl rfl rfl ?_
                      refine St.pick_false rfl rfl rfl ?_
                      refine St.move rfl rfl ?_
                      refine St.guard_no rfl rfl rfl ?_
                      refine St.guard_no rfl rfl rfl ?_
                      refine St.guard_no rfl rfl rfl ?_
                      refine St.guard_no rfl rfl rfl ?_
                      refine St.pick_false rfl rfl rfl ?_
                      refine St.assign rfl rfl ?_
                      refine St.done ?_
                      exact SX.some _ (fun h => by first | cases h | (have := of_decide_eq_true h; omega)) ⟨rfl, rfl, rfl, rfl, trivial⟩ (List.Perm.refl _)
                  · refine St.guard_no rfl rfl rfl ?_
                    refine St.guard_no rfl rfl rfl ?_
                    refine St.guard_no rfl rfl rfl ?_
                    refine St.pick_false rfl rfl rfl ?_
                    refine St.move rfl rfl ?_
                    refine St.guard_no rfl rfl rfl ?_
                    refine St.guard_no rfl rfl rfl ?_
                    refine St.guard_no rfl rfl rfl ?_
                    refine St.pick_false rfl rfl rfl ?_
                    refine St.move rfl rfl ?_
                    refine St.guard_no rfl rfl rfl ?_
                    refine St.guard_no rfl rfl rfl ?_
                    refine St.guard_no rfl rfl rfl ?_
                    refine St.pick_false rfl rfl rfl ?_
                    refine St.move rfl rfl ?_
                    refine St.guard_no rfl rfl rfl ?_
                    refine St.guard_no rfl rfl rfl ?_
                    refine St.guard_no rfl rfl rfl ?_
                    refine St.pick_false rfl rfl rfl ?_
                    refine St.move rfl rfl ?_
                    refine St.guard_no rfl rfl rfl ?_
                    refine St.guard_no rfl rfl rfl ?_
                    refine St.guard_no rfl rfl rfl ?_
                    refine St.pick_false rfl rfl rfl ?_
                    refine St.move rfl rfl ?_
                    refine St.guard_no rfl rfl rfl ?_
                    refine St.guard_no rfl rfl rfl ?_
                    refine St.guard_no rfl rfl rfl ?_
                    refine St.pick_false rfl rfl rfl ?_
                    refine St.move rfl rfl ?_
                    refine St.guard_no rfl rfl rfl ?_
                    refine St.guard_no rfl rfl rfl ?_
                    refine St.guard_no rfl rfl rfl ?_
                    refine St.pick_false rfl rfl rfl ?_
                    refine St.move rfl rfl ?_
                    refine St.guard_no rfl rfl rfl ?_
                    refine St.guard_no rfl rfl rfl ?_
                    refine St.guard_no rfl rfl rfl ?_
                    refine St.guard_no rfl rfl rfl ?_
                    refine St.pick_false rfl rfl rfl ?_
                    refine St.assign rfl rfl ?_
                    refine St.done ?_
                    exact SX.some _ (fun h => by first | cases h | (have := of_decide_eq_true h; omega)) ⟨rfl, rfl, rfl, rfl, trivial⟩ (List.Perm.refl _)
end Go.Proofs.Ytahafepgmkiabaa
