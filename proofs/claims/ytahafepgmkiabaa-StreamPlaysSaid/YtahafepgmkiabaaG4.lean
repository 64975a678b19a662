/- Walks: which bytes are a segment, as the document says. -/
import Derived.Test.YtahafepgmkiabaaG3
import Derived.Test.YtahafepgmkiabaaSepL
set_option linter.unusedVariables false
set_option linter.unusedSimpArgs false
set_option linter.ambiguousOpen false
namespace Go.Proofs.Ytahafepgmkiabaa
open Go Go.Proofs.Ytahafepgmkiabaa.Sep

theorem rd_cut {w0 : World} {L : List Chunk} {A : Option Addr} {c : Nat} {bs : List Nat} (h : Rd w0 L (.slice A bs.length c) 1 bs.length (bytes bs)) (l k : Nat) (hlk : l ≤ k) (hk : k ≤ bs.length) (hc : bs.length ≤ c) :
    Rd w0 L (.slice (if c = l then A else A.map (·.add (l * 1))) (k - l) (c - l)) 1 ((bs.drop l).take (k - l)).length (bytes ((bs.drop l).take (k - l))) := by
  have := h.cut l k c hlk hk (by omega)
  rw [bytes_cut] at this
  rw [cut_len _ _ _ hlk hk]
  exact this

theorem rparse_spec (w0 : World) (L : List Chunk) (str : ByteArray) (hl : str.size ≤ 140737488351232) :
    Meets Try.prog 60 #[.string str] w0 L (ParseR (u8s str) L) := by
  have hsz := u8s_length str
  have hlt := u8s_lt str
  refine Meets.of_body [.string str] Try.func60 rfl Try.ntmps60 rfl ?_
  refine SC.seq ?_
  refine SC.plain ?_
  refine St.alloc [.int .i64 0, .int .i64 0, .int .i64 0, .int .i64 0, .slice none 0 0] rfl (by kernel_rfl) (by first | exact fun _ _ h => h.nil | exact fun _ _ h => h | exact fun _ _ h => h.drop | exact fun _ _ h => h.drop.drop | exact fun _ _ h => h.drop.drop.drop) (fun b2 => ?_)
  refine St.assign rfl rfl ?_
  refine St.done ?_
  refine SX.seq ?_
  refine SC.seq ?_
  refine SC.plain ?_
  refine St.move rfl rfl ?_
  refine St.toBytes (e := 5) rfl rfl (by kernel_rfl) (by kernel_rfl) (by kernel_rfl) (fun _ _ h => h.nil) (fun v Ev hbuf hvne => ?_)
  rw [← hsz] at hbuf
  have hbuf : Buf 5 1 v (bytes (u8s str)) (u8s str).length Ev := hbuf
  have hbv : Rd w0 (Ev :: L) v 1 (u8s str).length (bytes (u8s str)) := hbuf.rd (by simp)
  have hcv := hbuf.cap
  have hbr := hbuf.read
  obtain ⟨b, o, A, c, rfl, hA, hrr⟩ := hbr
  have hcl := hcv.le
  have hr := hrr w0 (Ev :: L) (by simp)
  refine St.perm _ (perm12 _ _ _) ?_
  refine St.assign rfl rfl ?_
  refine St.done ?_
  refine SX.seq ?_
  refine SC.seq ?_
  refine SC.seq ?_
  refine SC.plain ?_
  refine St.move rfl rfl ?_
  refine St.lenSl rfl rfl (by kernel_rfl) ?_
  refine St.lss rfl rfl rfl ?_
  refine St.move rfl rfl ?_
  refine St.split 12 rfl (fun g12 => ?_) (fun g12 => ?_)
  · refine St.guard_no rfl rfl rfl ?_
    refine St.guard_no rfl rfl rfl ?_
    refine St.guard_no rfl rfl rfl ?_
    refine St.pick_true rfl rfl rfl ?_
    refine St.move rfl rfl ?_
    refine St.guard_no rfl rfl rfl ?_
    refine St.guard_no rfl rfl rfl ?_
    refine St.guard_no rfl rfl rfl ?_
    refine St.guard_no rfl rfl rfl ?_
    refine St.pick_true rfl rfl rfl ?_
    refine St.move rfl rfl ?_
    refine St.guard_no rfl rfl rfl ?_
    refine St.guard_no rfl rfl rfl ?_
    refine St.guard_no rfl rfl rfl ?_
    refine St.guard_no rfl rfl rfl ?_
    refine St.pick_true rfl rfl rfl ?_
    refine St.move rfl rfl ?_
    refine St.guard_no rfl rfl rfl ?_
    refine St.guard_no rfl rfl rfl ?_
    refine St.guard_no rfl rfl rfl ?_
    refine St.guard_no rfl rfl rfl ?_
    refine St.guard_no rfl rfl rfl ?_
    refine St.guard_no rfl rfl rfl ?_
    refine St.guard_no rfl rfl rfl ?_
    refine St.guard_no rfl rfl rfl ?_
    refine St.pick_true rfl rfl rfl ?_
    refine St.done ?_
    refine SX.seq ?_
    refine SC.cond_true rfl ?_
    refine SC.seq ?_
    refine SC.plain ?_
    refine St.build [] noCells rfl rfl (by kernel_rfl) ?_
    refine St.storeN rfl rfl rfl noCells rfl (by kernel_rfl) (by simp [noCells, one]) (by simp [noCells]) (fun _ h => h.nil) ?_
    rw [show splice [.int .i64 0, .int .i64 0, .int .i64 0, .int .i64 0, .slice none 0 0] 0 noCells = noCells from rfl]
    refine St.assign rfl rfl ?_
    refine St.done ?_
    refine SX.seq ?_
    refine SC.ret ?_
    refine SX.seq_ret ?_
    have hno : isSeg (u8s str) = false := isSeg_false (by omega)
    refine SX.retCT noCells (.inl rfl) rfl rfl rfl (by kernel_rfl) (HoldsN.of_row mem0) (L' := [] :: L) (fun w hw => hw.drop.drop.perm (List.Perm.refl _)) ⟨.slice none 0 0, [], by rw [noSeg_of hno, hno]; rfl, rfl, by rw [noSeg_of hno]; exact Buf.nil 5 1⟩
  · refine St.guard_yes rfl rfl ?_
    refine St.move rfl rfl ?_
    refine St.guard_yes rfl rfl ?_
    refine St.lenSl rfl rfl (by kernel_rfl) ?_
    refine St.guard_yes rfl rfl ?_
    refine St.gtr rfl rfl rfl ?_
    refine St.pick_false rfl rfl rfl ?_
    refine St.move rfl rfl ?_
    refine St.split 17 rfl (fun g17 => ?_) (fun g17 => ?_)
    · refine St.guard_no rfl rfl rfl ?_
      refine St.guard_no rfl rfl rfl ?_
      refine St.guard_no rfl rfl rfl ?_
      refine St.guard_no rfl rfl rfl ?_
      refine St.pick_true rfl rfl rfl ?_
      refine St.move rfl rfl ?_
      refine St.guard_no rfl rfl rfl ?_
      refine St.guard_no rfl rfl rfl ?_
      refine St.guard_no rfl rfl rfl ?_
      refine St.guard_no rfl rfl rfl ?_
      refine St.pick_true rfl rfl rfl ?_
      refine St.move rfl rfl ?_
      refine St.guard_no rfl rfl rfl ?_
      refine St.guard_no rfl rfl rfl ?_
      refine St.guard_no rfl rfl rfl ?_
      refine St.guard_no rfl rfl rfl ?_
      refine St.guard_no rfl rfl rfl ?_
      refine St.guard_no rfl rfl rfl ?_
      refine St.guard_no rfl rfl rfl ?_
      refine St.guard_no rfl rfl rfl ?_
      refine St.pick_true rfl rfl rfl ?_
      refine St.done ?_
      refine SX.seq ?_
      refine SC.cond_true rfl ?_
      refine SC.seq ?_
      refine SC.plain ?_
      refine St.build [] noCells rfl rfl (by kernel_rfl) ?_
      refine St.storeN rfl rfl rfl noCells rfl (by kernel_rfl) (by simp [noCells, one]) (by simp [noCells]) (fun _ h => h.nil) ?_
      rw [show splice [.int .i64 0, .int .i64 0, .int .i64 0, .int .i64 0, .slice none 0 0] 0 noCells = noCells from rfl]
      refine St.assign rfl rfl ?_
      refine St.done ?_
      refine SX.seq ?_
      refine SC.ret ?_
      refine SX.seq_ret ?_
      have hno : isSeg (u8s str) = false := isSeg_false (by omega)
      refine SX.retCT noCells (.inl rfl) rfl rfl rfl (by kernel_rfl) (HoldsN.of_row mem0) (L' := [] :: L) (fun w hw => hw.drop.drop.perm (List.Perm.refl _)) ⟨.slice none 0 0, [], by rw [noSeg_of hno, hno]; rfl, rfl, by rw [noSeg_of hno]; exact Buf.nil 5 1⟩
    · have h19 : 19 ≤ (u8s str).length := by omega
      have hAe := hA (by omega)
      subst hAe
      have h0b := getD_lt hlt 0
      refine St.guard_yes rfl rfl ?_
      refine St.move rfl rfl ?_
      refine St.guard_yes rfl rfl ?_
      refine St.indexSl (e := 5) (sz := 1) rfl rfl rfl (by kernel_rfl) (by omega) ?_
      refine St.guard_yes rfl rfl ?_
      first | (refine St.loadB (i := 0) rfl rfl (by kernel_rfl) (HoldsN.mono hr (fun w hw => by first | exact hw | exact hw.drop | exact hw.drop.drop | exact hw.drop.drop.drop | exact hw.drop.drop.drop.drop | exact hw.drop.drop.drop.drop.drop | exact hw.drop.drop.drop.drop.drop.drop | exact hw.drop.drop.drop.drop.drop.drop.drop | exact hw.drop.drop.drop.drop.drop.drop.drop.drop)) rfl (by omega) hlt ?_; intro n20 e20 l20) | refine St.load rfl rfl (by kernel_rfl) (by first | exact Holds.row mem0 rfl | exact Holds.row mem1 rfl | exact Holds.row mem2 rfl | exact Holds.row mem3 rfl | exact Holds.row mem4 rfl | exact Holds.row mem5 rfl | exact Holds.row mem6 rfl | exact Holds.row mem7 rfl | exact Holds.row mem8 rfl) ?_
      refine St.guard_yes rfl rfl ?_
      refine St.lss rfl rfl rfl ?_
      refine St.pick_false rfl rfl rfl ?_
      refine St.move rfl rfl ?_
      refine St.split 23 rfl (fun g23 => ?_) (fun g23 => ?_)
      · refine St.guard_no rfl rfl rfl ?_
        refine St.guard_no rfl rfl rfl ?_
        refine St.guard_no rfl rfl rfl ?_
        refine St.guard_no rfl rfl rfl ?_
        refine St.pick_true rfl rfl rfl ?_
        refine St.move rfl rfl ?_
        refine St.guard_no rfl rfl rfl ?_
        refine St.guard_no rfl rfl rfl ?_
        refine St.guard_no rfl rfl rfl ?_
        refine St.guard_no rfl rfl rfl ?_
        refine St.guard_no rfl rfl rfl ?_
        refine St.guard_no rfl rfl rfl ?_
        refine St.guard_no rfl rfl rfl ?_
        refine St.guard_no rfl rfl rfl ?_
        refine St.pick_true rfl rfl rfl ?_
        refine St.done ?_
        refine SX.seq ?_
        refine SC.cond_true rfl ?_
        refine SC.seq ?_
        refine SC.plain ?_
        refine St.build [] noCells rfl rfl (by kernel_rfl) ?_
        refine St.storeN rfl rfl rfl noCells rfl (by kernel_rfl) (by simp [noCells, one]) (by simp [noCells]) (fun _ h => h.nil) ?_
        rw [show splice [.int .i64 0, .int .i64 0, .int .i64 0, .int .i64 0, .slice none 0 0] 0 noCells = noCells from rfl]
        refine St.assign rfl rfl ?_
        refine St.done ?_
        refine SX.seq ?_
        refine SC.ret ?_
        refine SX.seq_ret ?_
        have hno : isSeg (u8s str) = false := isSeg_false (by omega)
        refine SX.retCT noCells (.inl rfl) rfl rfl rfl (by kernel_rfl) (HoldsN.of_row mem0) (L' := [] :: L) (fun w hw => hw.drop.drop.perm (List.Perm.refl _)) ⟨.slice none 0 0, [], by rw [noSeg_of hno, hno]; rfl, rfl, by rw [noSeg_of hno]; exact Buf.nil 5 1⟩
      · refine St.guard_yes rfl rfl ?_
        refine St.move rfl rfl ?_
        refine St.guard_yes rfl rfl ?_
        refine St.indexSl (e := 5) (sz := 1) rfl rfl rfl (by kernel_rfl) (by omega) ?_
        refine St.guard_yes rfl rfl ?_
        first | (refine St.loadB (i := 0) rfl rfl (by kernel_rfl) (HoldsN.mono hr (fun w hw => by first | exact hw | exact hw.drop | exact hw.drop.drop | exact hw.drop.drop.drop | exact hw.drop.drop.drop.drop | exact hw.drop.drop.drop.drop.drop | exact hw.drop.drop.drop.drop.drop.drop | exact hw.drop.drop.drop.drop.drop.drop.drop | exact hw.drop.drop.drop.drop.drop.drop.drop.drop)) rfl (by omega) hlt ?_; intro n26 e26 l26) | refine St.load rfl rfl (by kernel_rfl) (by first | exact Holds.row mem0 rfl | exact Holds.row mem1 rfl | exact Holds.row mem2 rfl | exact Holds.row mem3 rfl | exact Holds.row mem4 rfl | exact Holds.row mem5 rfl | exact Holds.row mem6 rfl | exact Holds.row mem7 rfl | exact Holds.row mem8 rfl) ?_
        refine St.guard_yes rfl rfl ?_
        refine St.gtr rfl rfl rfl ?_
        refine St.pick_false rfl rfl rfl ?_
        refine St.move rfl rfl ?_
        refine St.split 29 rfl (fun g29 => ?_) (fun g29 => ?_)
        · refine St.guard_no rfl rfl rfl ?_
          refine St.guard_no rfl rfl rfl ?_
          refine St.guard_no rfl rfl rfl ?_
          refine St.guard_no rfl rfl rfl ?_
          refine St.guard_no rfl rfl rfl ?_
          refine St.guard_no rfl rfl rfl ?_
          refine St.guard_no rfl rfl rfl ?_
          refine St.guard_no rfl rfl rfl ?_
          refine St.pick_true rfl rfl rfl ?_
          refine St.done ?_
          refine SX.seq ?_
          refine SC.cond_true rfl ?_
          refine SC.seq ?_
          refine SC.plain ?_
          refine St.build [] noCells rfl rfl (by kernel_rfl) ?_
          refine St.storeN rfl rfl rfl noCells rfl (by kernel_rfl) (by simp [noCells, one]) (by simp [noCells]) (fun _ h => h.nil) ?_
          rw [show splice [.int .i64 0, .int .i64 0, .int .i64 0, .int .i64 0, .slice none 0 0] 0 noCells = noCells from rfl]
          refine St.assign rfl rfl ?_
          refine St.done ?_
          refine SX.seq ?_
          refine SC.ret ?_
          refine SX.seq_ret ?_
          have hno : isSeg (u8s str) = false := isSeg_false (by omega)
          refine SX.retCT noCells (.inl rfl) rfl rfl rfl (by kernel_rfl) (HoldsN.of_row mem0) (L' := [] :: L) (fun w hw => hw.drop.drop.perm (List.Perm.refl _)) ⟨.slice none 0 0, [], by rw [noSeg_of hno, hno]; rfl, rfl, by rw [noSeg_of hno]; exact Buf.nil 5 1⟩
        · refine St.guard_yes rfl rfl ?_
          refine St.move rfl rfl ?_
          refine St.guard_yes rfl rfl ?_
          refine St.cutB (e := 5) (13) (15) rfl rfl (by kernel_rfl) hbv hcv ⟨_, _, rfl, rfl⟩ ⟨_, _, rfl, rfl⟩ (by omega) (by omega) (fun v31 h31 _ => ?_)
          refine St.guard_yes rfl rfl ?_
          refine St.call [_] rfl (by kernel_rfl) rfl (get_spec w0 _ v31 _ (Rd.mono h31 (fun w hw => by first | exact hw | exact hw.drop | exact hw.drop.drop | exact hw.drop.drop.drop | exact hw.drop.drop.drop.drop | exact hw.drop.drop.drop.drop.drop | exact hw.drop.drop.drop.drop.drop.drop | exact hw.drop.drop.drop.drop.drop.drop.drop | exact hw.drop.drop.drop.drop.drop.drop.drop.drop)) (by rw [cut_len _ _ _ (by omega) (by omega)]; omega) (cut_lt hlt _ _)) (by first | exact fun _ _ _ _ h => h.nil | exact fun _ _ _ h hw => h.1 ▸ hw) ?_
          rintro r31 L1 ⟨rfl, rfl⟩
          rw [getN_two (by rw [cut_len _ _ _ (by omega) (by omega)]), getD_cut _ _ _ _ (by omega), getD_cut _ _ _ _ (by omega)]
          have h13 := getD_lt hlt 13
          have h14 := getD_lt hlt 14
          simp only [Nat.add_zero, Nat.reduceAdd]
          refine St.guard_yes rfl rfl ?_
          refine St.convS rfl rfl (by kernel_rfl) (by kernel_rfl) (by omega) ?_
          refine St.guard_yes rfl rfl ?_
          refine St.move rfl rfl ?_
          refine St.guard_yes rfl rfl ?_
          refine St.lenSl rfl rfl (by kernel_rfl) ?_
          refine St.guard_yes rfl rfl ?_
          first | refine St.subN (b := 19) rfl rfl rfl (by omega) (by omega) ?_ | refine St.subI rfl rfl rfl (by omega) ?_
          refine St.guard_yes rfl rfl ?_
          refine St.neq rfl rfl rfl ?_
          refine St.pick_false rfl rfl rfl ?_
          refine St.done ?_
          refine SX.seq ?_
          refine SC.condp rfl (fun c38 => ?_) (fun c38 => ?_)
          · refine SC.seq ?_
            refine SC.plain ?_
            refine St.build [] noCells rfl rfl (by kernel_rfl) ?_
            refine St.storeN rfl rfl rfl noCells rfl (by kernel_rfl) (by simp [noCells, one]) (by simp [noCells]) (fun _ h => h.nil) ?_
            rw [show splice [.int .i64 0, .int .i64 0, .int .i64 0, .int .i64 0, .slice none 0 0] 0 noCells = noCells from rfl]
            refine St.assign rfl rfl ?_
            refine St.done ?_
            refine SX.seq ?_
            refine SC.ret ?_
            refine SX.seq_ret ?_
            have hno : isSeg (u8s str) = false := isSeg_false (by omega)
            refine SX.retCT noCells (.inl rfl) rfl rfl rfl (by kernel_rfl) (HoldsN.of_row mem0) (L' := [] :: L) (fun w hw => hw.drop.drop.perm (List.Perm.refl _)) ⟨.slice none 0 0, [], by rw [noSeg_of hno, hno]; rfl, rfl, by rw [noSeg_of hno]; exact Buf.nil 5 1⟩
          · refine SC.skip ?_
            refine SX.seq ?_
            refine SC.seq ?_
            refine SC.plain ?_
            refine St.move rfl rfl ?_
            refine St.lenSl rfl rfl (by kernel_rfl) ?_
            first | refine St.subN (b := 4) rfl rfl rfl (by omega) (by omega) ?_ | refine St.subI rfl rfl rfl (by omega) ?_
            refine St.assign rfl rfl ?_
            refine St.done ?_
            refine SX.seq ?_
            refine SC.seq ?_
            refine SC.seq ?_
            refine SC.drawn [(0, true), (1, true), (2, true), (4, true), (5, true), (6, true), (3, false), (7, false), (8, true), (9, true)] [] (_) (by kernel_rfl) (by kernel_rfl) (fun _ h => h) ?_
            refine St.move rfl rfl ?_
            refine St.move rfl rfl ?_
            refine St.cutB (e := 5) ((u8s str).length - 4) ((u8s str).length) rfl rfl (by kernel_rfl) hbv hcv ⟨_, _, rfl, by omega⟩ rfl (by omega) (by omega) (fun v45 h45 _ => ?_)
            refine St.move rfl rfl ?_
            refine St.move rfl rfl ?_
            refine St.cutStr (l := 0) (h := (u8s str).length - 4) rfl rfl (by kernel_rfl) rfl ⟨_, _, rfl, by omega⟩ (by omega) (by omega) ?_
            refine St.call [_] rfl (by kernel_rfl) rfl (get_spec w0 _ v45 _ (Rd.mono h45 (fun w hw => by first | exact hw | exact hw.drop | exact hw.drop.drop | exact hw.drop.drop.drop | exact hw.drop.drop.drop.drop | exact hw.drop.drop.drop.drop.drop | exact hw.drop.drop.drop.drop.drop.drop | exact hw.drop.drop.drop.drop.drop.drop.drop | exact hw.drop.drop.drop.drop.drop.drop.drop.drop)) (by rw [cut_len _ _ _ (by omega) (by omega)]; omega) (cut_lt hlt _ _)) (by first | exact fun _ _ _ _ h => h.nil | exact fun _ _ _ h hw => h.1 ▸ hw) ?_
            rintro r45 L1 ⟨rfl, rfl⟩
            rw [getN_four (by rw [cut_len _ _ _ (by omega) (by omega)]; omega) (cut_lt hlt _ _), num_cut _ _ _ (by omega)]
            have hnl := num_lt hlt ((u8s str).length - 4)
            have hcrl := crc_lt (take_lt256 hlt ((u8s str).length - 4))
            refine St.call [_] rfl (by kernel_rfl) rfl (rcrc_spec w0 _ _ (by rw [ByteArray.size_extract]; omega)) (by first | exact fun _ _ _ _ h => h.nil | exact fun _ _ _ h hw => h.1 ▸ hw) ?_
            rw [text_cut _ _ (by omega)]
            rintro r50 L1 ⟨rfl, rfl⟩
            first | refine St.convUx un64 rfl rfl (by kernel_rfl) (by kernel_rfl) (by omega) ?_ | refine St.convU un64 rfl rfl (by kernel_rfl) (by kernel_rfl) ?_ | refine St.convZ un64 rfl rfl (by kernel_rfl) (by kernel_rfl) ?_
            refine St.neq rfl rfl rfl ?_
            refine St.done ?_
            refine SX.tail ?_
            refine St.done ?_
            refine SX.seq ?_
            refine SC.condp rfl (fun c52 => ?_) (fun c52 => ?_)
            · refine SC.seq ?_
              refine SC.plain ?_
              refine St.build [] noCells rfl rfl (by kernel_rfl) ?_
              refine St.storeN rfl rfl rfl noCells rfl (by kernel_rfl) (by simp [noCells, one]) (by simp [noCells]) (fun _ h => h.nil) ?_
              rw [show splice [.int .i64 0, .int .i64 0, .int .i64 0, .int .i64 0, .slice none 0 0] 0 noCells = noCells from rfl]
              refine St.assign rfl rfl ?_
              refine St.done ?_
              refine SX.seq ?_
              refine SC.ret ?_
              refine SX.seq_ret ?_
              have hno : isSeg (u8s str) = false := isSeg_false (by omega)
              refine SX.retCT noCells (.inl rfl) rfl rfl rfl (by kernel_rfl) (HoldsN.of_row mem0) (L' := [] :: L) (fun w hw => hw.drop.drop.perm (List.Perm.refl _)) ⟨.slice none 0 0, [], by rw [noSeg_of hno, hno]; rfl, rfl, by rw [noSeg_of hno]; exact Buf.nil 5 1⟩
            · have hseg : isSeg (u8s str) = true := isSeg_true (by omega) (by omega) (by omega) (by omega) (by omega) (by omega)
              have hfr : segFrom (u8s str) = ⟨(((u8s str).getD 0 0 : Nat) : Int), ((num (u8s str) 1 : Nat) : Int), ((num (u8s str) 5 : Nat) : Int), ((num (u8s str) 9 : Nat) : Int), ((u8s str).drop 15).take ((u8s str).length - 19)⟩ := if_pos hseg
              have hn1 := num_lt hlt 1
              have hn5 := num_lt hlt 5
              have hn9 := num_lt hlt 9
              refine SC.skip ?_
              refine SX.seq ?_
              refine SC.seq ?_
              refine SC.drawnA (Ev :: L) (by kernel_rfl) (by kernel_rfl) (fun _ h => h.drop) ?_
              refine SA.q (v0 := ?_) 0 rfl rfl rfl (by kernel_rfl) (by kernel_rfl) ?_ ?_
              rotate_left
              · refine St.move rfl rfl ?_
                refine St.done ?_
                exact SX.qt
              refine SA.q (v0 := ?_) 1 rfl rfl rfl (by kernel_rfl) (by kernel_rfl) ?_ ?_
              rotate_left
              · refine St.indexSl (e := 5) (sz := 1) rfl rfl rfl (by kernel_rfl) (by omega) ?_
                refine St.done ?_
                exact SX.qt
              refine SA.q (v0 := ?_) 2 rfl rfl rfl (by kernel_rfl) (by kernel_rfl) ?_ ?_
              rotate_left
              · refine St.load rfl rfl (by kernel_rfl) (byte_at (i := 0) hr (by omega)) ?_
                refine St.done ?_
                exact SX.qt
              refine SA.q (v0 := ?_) 3 rfl rfl rfl (by kernel_rfl) (by kernel_rfl) ?_ ?_
              rotate_left
              · refine St.convS rfl rfl (by kernel_rfl) (by kernel_rfl) (by omega) ?_
                refine St.done ?_
                exact SX.qt
              refine SA.q (v0 := ?_) 4 rfl rfl rfl (by kernel_rfl) (by kernel_rfl) ?_ ?_
              rotate_left
              · refine St.move rfl rfl ?_
                refine St.done ?_
                exact SX.qt
              refine SA.q (v0 := ?_) 5 rfl rfl rfl (by kernel_rfl) (by kernel_rfl) ?_ ?_
              rotate_left
              · refine St.cut (e := 5) (sz := 1) (l := 1) (h := 5) (m := c) rfl rfl (by kernel_rfl) ⟨_, _, rfl, rfl⟩ ⟨_, _, rfl, rfl⟩ rfl (by omega) (by omega) (by omega) (by simp) ?_
                refine St.done ?_
                exact SX.qt
              refine SA.q (v0 := ?_) 8 rfl rfl rfl (by kernel_rfl) (by kernel_rfl) ?_ ?_
              rotate_left
              · refine St.move rfl rfl ?_
                refine St.done ?_
                exact SX.qt
              refine SA.q (v0 := ?_) 9 rfl rfl rfl (by kernel_rfl) (by kernel_rfl) ?_ ?_
              rotate_left
              · refine St.cut (e := 5) (sz := 1) (l := 5) (h := 9) (m := c) rfl rfl (by kernel_rfl) ⟨_, _, rfl, rfl⟩ ⟨_, _, rfl, rfl⟩ rfl (by omega) (by omega) (by omega) (by simp) ?_
                refine St.done ?_
                exact SX.qt
              refine SA.q (v0 := ?_) 12 rfl rfl rfl (by kernel_rfl) (by kernel_rfl) ?_ ?_
              rotate_left
              · refine St.move rfl rfl ?_
                refine St.done ?_
                exact SX.qt
              refine SA.q (v0 := ?_) 13 rfl rfl rfl (by kernel_rfl) (by kernel_rfl) ?_ ?_
              rotate_left
              · refine St.cut (e := 5) (sz := 1) (l := 9) (h := 13) (m := c) rfl rfl (by kernel_rfl) ⟨_, _, rfl, rfl⟩ ⟨_, _, rfl, rfl⟩ rfl (by omega) (by omega) (by omega) (by simp) ?_
                refine St.done ?_
                exact SX.qt
              refine SA.fork 6 17 rfl rfl (by kernel_rfl) ?_ ?_
              · refine St.call [_] rfl (by kernel_rfl) rfl (get_spec w0 _ _ _ (Rd.mono (rd_cut hbv 1 5 (by omega) (by omega) hcl) (fun w hw => by first | exact hw | exact hw.drop | exact hw.drop.drop | exact hw.drop.drop.drop | exact hw.drop.drop.drop.drop | exact hw.drop.drop.drop.drop.drop | exact hw.drop.drop.drop.drop.drop.drop | exact hw.drop.drop.drop.drop.drop.drop.drop | exact hw.drop.drop.drop.drop.drop.drop.drop.drop)) (by rw [cut_len _ _ _ (by omega) (by omega)]; omega) (cut_lt hlt _ _)) (fun _ _ _ h hw => by rw [← h.1] at hw; first | exact hw.drop | exact hw.drop.drop) ?_
                rintro r59 L1 ⟨rfl, rfl⟩
                rw [getN_four (by rw [cut_len _ _ _ (by omega) (by omega)]) (cut_lt hlt _ _), num_cut _ _ _ (by omega)]
                refine St.done ?_
                refine SX.sa (by first | exact fun _ h => h | exact fun _ h => h.drop | exact fun _ h => h.drop.drop | exact fun _ h => h.drop.drop.drop) ?_
                refine SA.q (v0 := ?_) 7 rfl rfl rfl (by kernel_rfl) (by kernel_rfl) ?_ ?_
                rotate_left
                · refine St.convS rfl rfl (by kernel_rfl) (by kernel_rfl) (by omega) ?_
                  refine St.done ?_
                  exact SX.qt
                refine SA.fork 10 17 rfl rfl (by kernel_rfl) ?_ ?_
                · refine St.call [_] rfl (by kernel_rfl) rfl (get_spec w0 _ _ _ (Rd.mono (rd_cut hbv 5 9 (by omega) (by omega) hcl) (fun w hw => by first | exact hw | exact hw.drop | exact hw.drop.drop | exact hw.drop.drop.drop | exact hw.drop.drop.drop.drop | exact hw.drop.drop.drop.drop.drop | exact hw.drop.drop.drop.drop.drop.drop | exact hw.drop.drop.drop.drop.drop.drop.drop | exact hw.drop.drop.drop.drop.drop.drop.drop.drop)) (by rw [cut_len _ _ _ (by omega) (by omega)]; omega) (cut_lt hlt _ _)) (fun _ _ _ h hw => by rw [← h.1] at hw; first | exact hw.drop | exact hw.drop.drop) ?_
                  rintro r63 L1 ⟨rfl, rfl⟩
                  rw [getN_four (by rw [cut_len _ _ _ (by omega) (by omega)]) (cut_lt hlt _ _), num_cut _ _ _ (by omega)]
                  refine St.done ?_
                  refine SX.sa (by first | exact fun _ h => h | exact fun _ h => h.drop | exact fun _ h => h.drop.drop | exact fun _ h => h.drop.drop.drop) ?_
                  refine SA.q (v0 := ?_) 11 rfl rfl rfl (by kernel_rfl) (by kernel_rfl) ?_ ?_
                  rotate_left
                  · refine St.convS rfl rfl (by kernel_rfl) (by kernel_rfl) (by omega) ?_
                    refine St.done ?_
                    exact SX.qt
                  refine SA.fork 14 17 rfl rfl (by kernel_rfl) ?_ ?_
                  · refine St.call [_] rfl (by kernel_rfl) rfl (get_spec w0 _ _ _ (Rd.mono (rd_cut hbv 9 13 (by omega) (by omega) hcl) (fun w hw => by first | exact hw | exact hw.drop | exact hw.drop.drop | exact hw.drop.drop.drop | exact hw.drop.drop.drop.drop | exact hw.drop.drop.drop.drop.drop | exact hw.drop.drop.drop.drop.drop.drop | exact hw.drop.drop.drop.drop.drop.drop.drop | exact hw.drop.drop.drop.drop.drop.drop.drop.drop)) (by rw [cut_len _ _ _ (by omega) (by omega)]; omega) (cut_lt hlt _ _)) (fun _ _ _ h hw => by rw [← h.1] at hw; first | exact hw.drop | exact hw.drop.drop) ?_
                    rintro r67 L1 ⟨rfl, rfl⟩
                    rw [getN_four (by rw [cut_len _ _ _ (by omega) (by omega)]) (cut_lt hlt _ _), num_cut _ _ _ (by omega)]
                    refine St.done ?_
                    refine SX.sa (by first | exact fun _ h => h | exact fun _ h => h.drop | exact fun _ h => h.drop.drop | exact fun _ h => h.drop.drop.drop) ?_
                    refine SA.q (v0 := ?_) 15 rfl rfl rfl (by kernel_rfl) (by kernel_rfl) ?_ ?_
                    rotate_left
                    · refine St.convS rfl rfl (by kernel_rfl) (by kernel_rfl) (by omega) ?_
                      refine St.done ?_
                      exact SX.qt
                    refine SA.q (v0 := ?_) 16 rfl rfl rfl (by kernel_rfl) (by kernel_rfl) ?_ ?_
                    rotate_left
                    · refine St.build [(0, .int .i64 (((u8s str).getD 0 0 : Nat) : Int)), (1, .int .i64 ((num (u8s str) 1 : Nat) : Int)), (2, .int .i64 ((num (u8s str) 5 : Nat) : Int)), (3, .int .i64 ((num (u8s str) 9 : Nat) : Int))] (segCells ⟨(((u8s str).getD 0 0 : Nat) : Int), ((num (u8s str) 1 : Nat) : Int), ((num (u8s str) 5 : Nat) : Int), ((num (u8s str) 9 : Nat) : Int), ((u8s str).drop 15).take ((u8s str).length - 19)⟩ (.slice none 0 0)) rfl rfl (by kernel_rfl) ?_
                      refine St.done ?_
                      exact SX.qt
                    refine SA.act 17 rfl (by kernel_rfl) ?_
                    refine St.alloc [.int .i64 0, .int .i64 0, .int .i64 0, .int .i64 0, .slice none 0 0] rfl (by kernel_rfl) (by first | exact fun _ _ h => h.nil | exact fun _ _ h => h | exact fun _ _ h => h.drop | exact fun _ _ h => h.drop.drop | exact fun _ _ h => h.drop.drop.drop) (fun b6 => ?_)
                    refine St.done ?_
                    refine SX.sa (by first | exact fun _ h => h | exact fun _ h => h.drop | exact fun _ h => h.drop.drop | exact fun _ h => h.drop.drop.drop) ?_
                    refine SA.act 18 rfl (by kernel_rfl) ?_
                    rw [← hfr]
                    refine St.storeN rfl rfl rfl (segCells (segFrom (u8s str)) (.slice none 0 0)) rfl (by kernel_rfl) (by simp [segCells, one]) (by simp [segCells]) (fun _ h => h.drop.drop) ?_
                    rw [show splice [.int .i64 0, .int .i64 0, .int .i64 0, .int .i64 0, .slice none 0 0] 0 (segCells (segFrom (u8s str)) (.slice none 0 0)) = segCells (segFrom (u8s str)) (.slice none 0 0) from rfl]
                    refine St.done ?_
                    refine SX.sa (by first | exact fun _ h => h | exact fun _ h => h.drop | exact fun _ h => h.drop.drop | exact fun _ h => h.drop.drop.drop) ?_
                    refine SA.end_ (by kernel_rfl) ?_
                    refine SX.seq ?_
                    refine SC.seq ?_
                    refine SC.drawn [(0, true), (1, true), (2, true), (3, true), (4, true), (5, false), (6, true)] [7] (_) (by kernel_rfl) (by kernel_rfl) (fun _ h => h) ?_
                    refine St.fieldAddr (off := 4) rfl rfl (by kernel_rfl) ?_
                    refine St.load rfl rfl (by kernel_rfl) (by first | exact Holds.row mem0 rfl | exact Holds.row mem1 rfl | exact Holds.row mem2 rfl | exact Holds.row mem3 rfl | exact Holds.row mem4 rfl | exact Holds.row mem5 rfl | exact Holds.row mem6 rfl | exact Holds.row mem7 rfl | exact Holds.row mem8 rfl) ?_
                    refine St.move rfl rfl ?_
                    refine St.move rfl rfl ?_
                    refine St.cutB (e := 5) (15) ((u8s str).length - 4) rfl rfl (by kernel_rfl) hbv hcv ⟨_, _, rfl, rfl⟩ ⟨_, _, rfl, by omega⟩ (by omega) (by omega) (fun v75 h75 _ => ?_)
                    rw [show (u8s str).length - 4 - 15 = (u8s str).length - 19 by omega] at h75
                    have h75l : (((u8s str).drop 15).take ((u8s str).length - 19)).length ≤ 419 := by rw [List.length_take]; omega
                    refine St.perm ([] :: [⟨b6, segCells (segFrom (u8s str)) (.slice none 0 0), 73⟩] :: [⟨b2, [.int .i64 0, .int .i64 0, .int .i64 0, .int .i64 0, .slice none 0 0], 73⟩] :: Ev :: L) (List.Perm.refl _) ?_
                    refine St.append (e := 5) (sz := 1) (bytes := 1) (xs := []) (n := 0) (news := bytes (((u8s str).drop 15).take ((u8s str).length - 19))) (m := (((u8s str).drop 15).take ((u8s str).length - 19)).length) rfl rfl rfl (by kernel_rfl) (Buf.nil 5 1) (Rd.mono h75 (fun w hw => by first | exact hw | exact hw.drop | exact hw.drop.drop | exact hw.drop.drop.drop | exact hw.drop.drop.drop.drop | exact hw.drop.drop.drop.drop.drop | exact hw.drop.drop.drop.drop.drop.drop | exact hw.drop.drop.drop.drop.drop.drop.drop | exact hw.drop.drop.drop.drop.drop.drop.drop.drop)) (bytes_one _) (by omega) (by omega) (fun _ _ h => h.drop) (fun v76 E76 hb76 _ => ?_)
                    rw [List.nil_append, Nat.zero_add] at hb76
                    have h76r := hb76.read
                    obtain ⟨_, _, A76, c76, rfl, _, _⟩ := h76r
                    refine St.fieldAddr (off := 4) rfl rfl (by kernel_rfl) ?_
                    refine St.done ?_
                    refine SX.tail ?_
                    refine St.store1 rfl rfl rfl rfl (by kernel_rfl) (Nat.le_of_ble_eq_true rfl) (fun _ h => h.nil) ?_
                    rw [show (segCells (segFrom (u8s str)) (.slice none 0 0)).set (0 + 4) (.slice A76 (((u8s str).drop 15).take ((u8s str).length - 19)).length c76) = segCells (segFrom (u8s str)) (.slice A76 (((u8s str).drop 15).take ((u8s str).length - 19)).length c76) from rfl]
                    refine St.done ?_
                    refine SX.seq ?_
                    refine SC.seq ?_
                    refine SC.plain ?_
                    refine St.loadAgg (segCells (segFrom (u8s str)) (.slice A76 (((u8s str).drop 15).take ((u8s str).length - 19)).length c76)) rfl rfl (by kernel_rfl) (HoldsN.of_row mem1) ?_
                    refine St.storeN2 rfl rfl rfl (segCells (segFrom (u8s str)) (.slice A76 (((u8s str).drop 15).take ((u8s str).length - 19)).length c76)) rfl (by kernel_rfl) (by simp [segCells, one]) (by simp [segCells]) (fun _ h => h.nil) ?_
                    rw [show splice [.int .i64 0, .int .i64 0, .int .i64 0, .int .i64 0, .slice none 0 0] 0 (segCells (segFrom (u8s str)) (.slice A76 (((u8s str).drop 15).take ((u8s str).length - 19)).length c76)) = segCells (segFrom (u8s str)) (.slice A76 (((u8s str).drop 15).take ((u8s str).length - 19)).length c76) from rfl]
                    refine St.assign rfl rfl ?_
                    refine St.done ?_
                    refine SX.seq ?_
                    refine SC.ret ?_
                    refine SX.retCT (segCells (segFrom (u8s str)) (.slice A76 (((u8s str).drop 15).take ((u8s str).length - 19)).length c76)) (.inl rfl) rfl rfl rfl (by kernel_rfl) (HoldsN.of_row mem2) (L' := E76 :: L) (fun w hw => hw.sub (List.Sublist.append (List.Sublist.refl E76) (by simp only [List.flatten_cons, ← List.append_assoc]; exact List.sublist_append_right _ _))) ⟨_, E76, by rw [hseg], rfl, by rw [hfr]; exact hb76⟩
                  · refine St.alloc [.int .i64 0, .int .i64 0, .int .i64 0, .int .i64 0, .slice none 0 0] rfl (by kernel_rfl) (by first | exact fun _ _ h => h.nil | exact fun _ _ h => h | exact fun _ _ h => h.drop | exact fun _ _ h => h.drop.drop | exact fun _ _ h => h.drop.drop.drop) (fun b6 => ?_)
                    refine St.done ?_
                    refine SX.sa (by first | exact fun _ h => h | exact fun _ h => h.drop | exact fun _ h => h.drop.drop | exact fun _ h => h.drop.drop.drop) ?_
                    refine SA.act 14 rfl (by kernel_rfl) ?_
                    refine St.call [_] rfl (by kernel_rfl) rfl (get_spec w0 _ _ _ (Rd.mono (rd_cut hbv 9 13 (by omega) (by omega) hcl) (fun w hw => by first | exact hw | exact hw.drop | exact hw.drop.drop | exact hw.drop.drop.drop | exact hw.drop.drop.drop.drop | exact hw.drop.drop.drop.drop.drop | exact hw.drop.drop.drop.drop.drop.drop | exact hw.drop.drop.drop.drop.drop.drop.drop | exact hw.drop.drop.drop.drop.drop.drop.drop.drop)) (by rw [cut_len _ _ _ (by omega) (by omega)]; omega) (cut_lt hlt _ _)) (fun _ _ _ h hw => by rw [← h.1] at hw; first | exact hw.drop | exact hw.drop.drop) ?_
                    rintro r67 L1 ⟨rfl, rfl⟩
                    rw [getN_four (by rw [cut_len _ _ _ (by omega) (by omega)]) (cut_lt hlt _ _), num_cut _ _ _ (by omega)]
                    refine St.done ?_
                    refine SX.sa (by first | exact fun _ h => h | exact fun _ h => h.drop | exact fun _ h => h.drop.drop | exact fun _ h => h.drop.drop.drop) ?_
                    refine SA.q (v0 := ?_) 15 rfl rfl rfl (by kernel_rfl) (by kernel_rfl) ?_ ?_
                    rotate_left
                    · refine St.convS rfl rfl (by kernel_rfl) (by kernel_rfl) (by omega) ?_
                      refine St.done ?_
                      exact SX.qt
                    refine SA.q (v0 := ?_) 16 rfl rfl rfl (by kernel_rfl) (by kernel_rfl) ?_ ?_
                    rotate_left
                    · refine St.build [(0, .int .i64 (((u8s str).getD 0 0 : Nat) : Int)), (1, .int .i64 ((num (u8s str) 1 : Nat) : Int)), (2, .int .i64 ((num (u8s str) 5 : Nat) : Int)), (3, .int .i64 ((num (u8s str) 9 : Nat) : Int))] (segCells ⟨(((u8s str).getD 0 0 : Nat) : Int), ((num (u8s str) 1 : Nat) : Int), ((num (u8s str) 5 : Nat) : Int), ((num (u8s str) 9 : Nat) : Int), ((u8s str).drop 15).take ((u8s str).length - 19)⟩ (.slice none 0 0)) rfl rfl (by kernel_rfl) ?_
                      refine St.done ?_
                      exact SX.qt
                    refine SA.act 18 rfl (by kernel_rfl) ?_
                    rw [← hfr]
                    refine St.storeN rfl rfl rfl (segCells (segFrom (u8s str)) (.slice none 0 0)) rfl (by kernel_rfl) (by simp [segCells, one]) (by simp [segCells]) (fun _ h => h.drop.drop) ?_
                    rw [show splice [.int .i64 0, .int .i64 0, .int .i64 0, .int .i64 0, .slice none 0 0] 0 (segCells (segFrom (u8s str)) (.slice none 0 0)) = segCells (segFrom (u8s str)) (.slice none 0 0) from rfl]
                    refine St.done ?_
                    refine SX.sa (by first | exact fun _ h => h | exact fun _ h => h.drop | exact fun _ h => h.drop.drop | exact fun _ h => h.drop.drop.drop) ?_
                    refine SA.end_ (by kernel_rfl) ?_
                    refine SX.seq ?_
                    refine SC.seq ?_
                    refine SC.drawn [(0, true), (1, true), (2, true), (3, true), (4, true), (5, false), (6, true)] [7] (_) (by kernel_rfl) (by kernel_rfl) (fun _ h => h) ?_
                    refine St.fieldAddr (off := 4) rfl rfl (by kernel_rfl) ?_
                    refine St.load rfl rfl (by kernel_rfl) (by first | exact Holds.row mem0 rfl | exact Holds.row mem1 rfl | exact Holds.row mem2 rfl | exact Holds.row mem3 rfl | exact Holds.row mem4 rfl | exact Holds.row mem5 rfl | exact Holds.row mem6 rfl | exact Holds.row mem7 rfl | exact Holds.row mem8 rfl) ?_
                    refine St.move rfl rfl ?_
                    refine St.move rfl rfl ?_
                    refine St.cutB (e := 5) (15) ((u8s str).length - 4) rfl rfl (by kernel_rfl) hbv hcv ⟨_, _, rfl, rfl⟩ ⟨_, _, rfl, by omega⟩ (by omega) (by omega) (fun v75 h75 _ => ?_)
                    rw [show (u8s str).length - 4 - 15 = (u8s str).length - 19 by omega] at h75
                    have h75l : (((u8s str).drop 15).take ((u8s str).length - 19)).length ≤ 419 := by rw [List.length_take]; omega
                    refine St.perm ([] :: [⟨b6, segCells (segFrom (u8s str)) (.slice none 0 0), 73⟩] :: [⟨b2, [.int .i64 0, .int .i64 0, .int .i64 0, .int .i64 0, .slice none 0 0], 73⟩] :: Ev :: L) (List.Perm.refl _) ?_
                    refine St.append (e := 5) (sz := 1) (bytes := 1) (xs := []) (n := 0) (news := bytes (((u8s str).drop 15).take ((u8s str).length - 19))) (m := (((u8s str).drop 15).take ((u8s str).length - 19)).length) rfl rfl rfl (by kernel_rfl) (Buf.nil 5 1) (Rd.mono h75 (fun w hw => by first | exact hw | exact hw.drop | exact hw.drop.drop | exact hw.drop.drop.drop | exact hw.drop.drop.drop.drop | exact hw.drop.drop.drop.drop.drop | exact hw.drop.drop.drop.drop.drop.drop | exact hw.drop.drop.drop.drop.drop.drop.drop | exact hw.drop.drop.drop.drop.drop.drop.drop.drop)) (bytes_one _) (by omega) (by omega) (fun _ _ h => h.drop) (fun v76 E76 hb76 _ => ?_)
                    rw [List.nil_append, Nat.zero_add] at hb76
                    have h76r := hb76.read
                    obtain ⟨_, _, A76, c76, rfl, _, _⟩ := h76r
                    refine St.fieldAddr (off := 4) rfl rfl (by kernel_rfl) ?_
                    refine St.done ?_
                    refine SX.tail ?_
                    refine St.store1 rfl rfl rfl rfl (by kernel_rfl) (Nat.le_of_ble_eq_true rfl) (fun _ h => h.nil) ?_
                    rw [show (segCells (segFrom (u8s str)) (.slice none 0 0)).set (0 + 4) (.slice A76 (((u8s str).drop 15).take ((u8s str).length - 19)).length c76) = segCells (segFrom (u8s str)) (.slice A76 (((u8s str).drop 15).take ((u8s str).length - 19)).length c76) from rfl]
                    refine St.done ?_
                    refine SX.seq ?_
                    refine SC.seq ?_
                    refine SC.plain ?_
                    refine St.loadAgg (segCells (segFrom (u8s str)) (.slice A76 (((u8s str).drop 15).take ((u8s str).length - 19)).length c76)) rfl rfl (by kernel_rfl) (HoldsN.of_row mem1) ?_
                    refine St.storeN2 rfl rfl rfl (segCells (segFrom (u8s str)) (.slice A76 (((u8s str).drop 15).take ((u8s str).length - 19)).length c76)) rfl (by kernel_rfl) (by simp [segCells, one]) (by simp [segCells]) (fun _ h => h.nil) ?_
                    rw [show splice [.int .i64 0, .int .i64 0, .int .i64 0, .int .i64 0, .slice none 0 0] 0 (segCells (segFrom (u8s str)) (.slice A76 (((u8s str).drop 15).take ((u8s str).length - 19)).length c76)) = segCells (segFrom (u8s str)) (.slice A76 (((u8s str).drop 15).take ((u8s str).length - 19)).length c76) from rfl]
                    refine St.assign rfl rfl ?_
                    refine St.done ?_
                    refine SX.seq ?_
                    refine SC.ret ?_
                    refine SX.retCT (segCells (segFrom (u8s str)) (.slice A76 (((u8s str).drop 15).take ((u8s str).length - 19)).length c76)) (.inl rfl) rfl rfl rfl (by kernel_rfl) (HoldsN.of_row mem2) (L' := E76 :: L) (fun w hw => hw.sub (List.Sublist.append (List.Sublist.refl E76) (by simp only [List.flatten_cons, ← List.append_assoc]; exact List.sublist_append_right _ _))) ⟨_, E76, by rw [hseg], rfl, by rw [hfr]; exact hb76⟩
                · refine St.alloc [.int .i64 0, .int .i64 0, .int .i64 0, .int .i64 0, .slice none 0 0] rfl (by kernel_rfl) (by first | exact fun _ _ h => h.nil | exact fun _ _ h => h | exact fun _ _ h => h.drop | exact fun _ _ h => h.drop.drop | exact fun _ _ h => h.drop.drop.drop) (fun b6 => ?_)
                  refine St.done ?_
                  refine SX.sa (by first | exact fun _ h => h | exact fun _ h => h.drop | exact fun _ h => h.drop.drop | exact fun _ h => h.drop.drop.drop) ?_
                  refine SA.act 10 rfl (by kernel_rfl) ?_
                  refine St.call [_] rfl (by kernel_rfl) rfl (get_spec w0 _ _ _ (Rd.mono (rd_cut hbv 5 9 (by omega) (by omega) hcl) (fun w hw => by first | exact hw | exact hw.drop | exact hw.drop.drop | exact hw.drop.drop.drop | exact hw.drop.drop.drop.drop | exact hw.drop.drop.drop.drop.drop | exact hw.drop.drop.drop.drop.drop.drop | exact hw.drop.drop.drop.drop.drop.drop.drop | exact hw.drop.drop.drop.drop.drop.drop.drop.drop)) (by rw [cut_len _ _ _ (by omega) (by omega)]; omega) (cut_lt hlt _ _)) (fun _ _ _ h hw => by rw [← h.1] at hw; first | exact hw.drop | exact hw.drop.drop) ?_
                  rintro r63 L1 ⟨rfl, rfl⟩
                  rw [getN_four (by rw [cut_len _ _ _ (by omega) (by omega)]) (cut_lt hlt _ _), num_cut _ _ _ (by omega)]
                  refine St.done ?_
                  refine SX.sa (by first | exact fun _ h => h | exact fun _ h => h.drop | exact fun _ h => h.drop.drop | exact fun _ h => h.drop.drop.drop) ?_
                  refine SA.q (v0 := ?_) 11 rfl rfl rfl (by kernel_rfl) (by kernel_rfl) ?_ ?_
                  rotate_left
                  · refine St.convS rfl rfl (by kernel_rfl) (by kernel_rfl) (by omega) ?_
                    refine St.done ?_
                    exact SX.qt
                  refine SA.act 14 rfl (by kernel_rfl) ?_
                  refine St.call [_] rfl (by kernel_rfl) rfl (get_spec w0 _ _ _ (Rd.mono (rd_cut hbv 9 13 (by omega) (by omega) hcl) (fun w hw => by first | exact hw | exact hw.drop | exact hw.drop.drop | exact hw.drop.drop.drop | exact hw.drop.drop.drop.drop | exact hw.drop.drop.drop.drop.drop | exact hw.drop.drop.drop.drop.drop.drop | exact hw.drop.drop.drop.drop.drop.drop.drop | exact hw.drop.drop.drop.drop.drop.drop.drop.drop)) (by rw [cut_len _ _ _ (by omega) (by omega)]; omega) (cut_lt hlt _ _)) (fun _ _ _ h hw => by rw [← h.1] at hw; first | exact hw.drop | exact hw.drop.drop) ?_
                  rintro r67 L1 ⟨rfl, rfl⟩
                  rw [getN_four (by rw [cut_len _ _ _ (by omega) (by omega)]) (cut_lt hlt _ _), num_cut _ _ _ (by omega)]
                  refine St.done ?_
                  refine SX.sa (by first | exact fun _ h => h | exact fun _ h => h.drop | exact fun _ h => h.drop.drop | exact fun _ h => h.drop.drop.drop) ?_
                  refine SA.q (v0 := ?_) 15 rfl rfl rfl (by kernel_rfl) (by kernel_rfl) ?_ ?_
                  rotate_left
                  · refine St.convS rfl rfl (by kernel_rfl) (by kernel_rfl) (by omega) ?_
                    refine St.done ?_
                    exact SX.qt
                  refine SA.q (v0 := ?_) 16 rfl rfl rfl (by kernel_rfl) (by kernel_rfl) ?_ ?_
                  rotate_left
                  · refine St.build [(0, .int .i64 (((u8s str).getD 0 0 : Nat) : Int)), (1, .int .i64 ((num (u8s str) 1 : Nat) : Int)), (2, .int .i64 ((num (u8s str) 5 : Nat) : Int)), (3, .int .i64 ((num (u8s str) 9 : Nat) : Int))] (segCells ⟨(((u8s str).getD 0 0 : Nat) : Int), ((num (u8s str) 1 : Nat) : Int), ((num (u8s str) 5 : Nat) : Int), ((num (u8s str) 9 : Nat) : Int), ((u8s str).drop 15).take ((u8s str).length - 19)⟩ (.slice none 0 0)) rfl rfl (by kernel_rfl) ?_
                    refine St.done ?_
                    exact SX.qt
                  refine SA.act 18 rfl (by kernel_rfl) ?_
                  rw [← hfr]
                  refine St.storeN rfl rfl rfl (segCells (segFrom (u8s str)) (.slice none 0 0)) rfl (by kernel_rfl) (by simp [segCells, one]) (by simp [segCells]) (fun _ h => h.drop.drop) ?_
                  rw [show splice [.int .i64 0, .int .i64 0, .int .i64 0, .int .i64 0, .slice none 0 0] 0 (segCells (segFrom (u8s str)) (.slice none 0 0)) = segCells (segFrom (u8s str)) (.slice none 0 0) from rfl]
                  refine St.done ?_
                  refine SX.sa (by first | exact fun _ h => h | exact fun _ h => h.drop | exact fun _ h => h.drop.drop | exact fun _ h => h.drop.drop.drop) ?_
                  refine SA.end_ (by kernel_rfl) ?_
                  refine SX.seq ?_
                  refine SC.seq ?_
                  refine SC.drawn [(0, true), (1, true), (2, true), (3, true), (4, true), (5, false), (6, true)] [7] (_) (by kernel_rfl) (by kernel_rfl) (fun _ h => h) ?_
                  refine St.fieldAddr (off := 4) rfl rfl (by kernel_rfl) ?_
                  refine St.load rfl rfl (by kernel_rfl) (by first | exact Holds.row mem0 rfl | exact Holds.row mem1 rfl | exact Holds.row mem2 rfl | exact Holds.row mem3 rfl | exact Holds.row mem4 rfl | exact Holds.row mem5 rfl | exact Holds.row mem6 rfl | exact Holds.row mem7 rfl | exact Holds.row mem8 rfl) ?_
                  refine St.move rfl rfl ?_
                  refine St.move rfl rfl ?_
                  refine St.cutB (e := 5) (15) ((u8s str).length - 4) rfl rfl (by kernel_rfl) hbv hcv ⟨_, _, rfl, rfl⟩ ⟨_, _, rfl, by omega⟩ (by omega) (by omega) (fun v75 h75 _ => ?_)
                  rw [show (u8s str).length - 4 - 15 = (u8s str).length - 19 by omega] at h75
                  have h75l : (((u8s str).drop 15).take ((u8s str).length - 19)).length ≤ 419 := by rw [List.length_take]; omega
                  refine St.perm ([] :: [⟨b6, segCells (segFrom (u8s str)) (.slice none 0 0), 73⟩] :: [⟨b2, [.int .i64 0, .int .i64 0, .int .i64 0, .int .i64 0, .slice none 0 0], 73⟩] :: Ev :: L) (List.Perm.refl _) ?_
                  refine St.append (e := 5) (sz := 1) (bytes := 1) (xs := []) (n := 0) (news := bytes (((u8s str).drop 15).take ((u8s str).length - 19))) (m := (((u8s str).drop 15).take ((u8s str).length - 19)).length) rfl rfl rfl (by kernel_rfl) (Buf.nil 5 1) (Rd.mono h75 (fun w hw => by first | exact hw | exact hw.drop | exact hw.drop.drop | exact hw.drop.drop.drop | exact hw.drop.drop.drop.drop | exact hw.drop.drop.drop.drop.drop | exact hw.drop.drop.drop.drop.drop.drop | exact hw.drop.drop.drop.drop.drop.drop.drop | exact hw.drop.drop.drop.drop.drop.drop.drop.drop)) (bytes_one _) (by omega) (by omega) (fun _ _ h => h.drop) (fun v76 E76 hb76 _ => ?_)
                  rw [List.nil_append, Nat.zero_add] at hb76
                  have h76r := hb76.read
                  obtain ⟨_, _, A76, c76, rfl, _, _⟩ := h76r
                  refine St.fieldAddr (off := 4) rfl rfl (by kernel_rfl) ?_
                  refine St.done ?_
                  refine SX.tail ?_
                  refine St.store1 rfl rfl rfl rfl (by kernel_rfl) (Nat.le_of_ble_eq_true rfl) (fun _ h => h.nil) ?_
                  rw [show (segCells (segFrom (u8s str)) (.slice none 0 0)).set (0 + 4) (.slice A76 (((u8s str).drop 15).take ((u8s str).length - 19)).length c76) = segCells (segFrom (u8s str)) (.slice A76 (((u8s str).drop 15).take ((u8s str).length - 19)).length c76) from rfl]
                  refine St.done ?_
                  refine SX.seq ?_
                  refine SC.seq ?_
                  refine SC.plain ?_
                  refine St.loadAgg (segCells (segFrom (u8s str)) (.slice A76 (((u8s str).drop 15).take ((u8s str).length - 19)).length c76)) rfl rfl (by kernel_rfl) (HoldsN.of_row mem1) ?_
                  refine St.storeN2 rfl rfl rfl (segCells (segFrom (u8s str)) (.slice A76 (((u8s str).drop 15).take ((u8s str).length - 19)).length c76)) rfl (by kernel_rfl) (by simp [segCells, one]) (by simp [segCells]) (fun _ h => h.nil) ?_
                  rw [show splice [.int .i64 0, .int .i64 0, .int .i64 0, .int .i64 0, .slice none 0 0] 0 (segCells (segFrom (u8s str)) (.slice A76 (((u8s str).drop 15).take ((u8s str).length - 19)).length c76)) = segCells (segFrom (u8s str)) (.slice A76 (((u8s str).drop 15).take ((u8s str).length - 19)).length c76) from rfl]
                  refine St.assign rfl rfl ?_
                  refine St.done ?_
                  refine SX.seq ?_
                  refine SC.ret ?_
                  refine SX.retCT (segCells (segFrom (u8s str)) (.slice A76 (((u8s str).drop 15).take ((u8s str).length - 19)).length c76)) (.inl rfl) rfl rfl rfl (by kernel_rfl) (HoldsN.of_row mem2) (L' := E76 :: L) (fun w hw => hw.sub (List.Sublist.append (List.Sublist.refl E76) (by simp only [List.flatten_cons, ← List.append_assoc]; exact List.sublist_append_right _ _))) ⟨_, E76, by rw [hseg], rfl, by rw [hfr]; exact hb76⟩
              · refine St.alloc [.int .i64 0, .int .i64 0, .int .i64 0, .int .i64 0, .slice none 0 0] rfl (by kernel_rfl) (by first | exact fun _ _ h => h.nil | exact fun _ _ h => h | exact fun _ _ h => h.drop | exact fun _ _ h => h.drop.drop | exact fun _ _ h => h.drop.drop.drop) (fun b6 => ?_)
                refine St.done ?_
                refine SX.sa (by first | exact fun _ h => h | exact fun _ h => h.drop | exact fun _ h => h.drop.drop | exact fun _ h => h.drop.drop.drop) ?_
                refine SA.act 6 rfl (by kernel_rfl) ?_
                refine St.call [_] rfl (by kernel_rfl) rfl (get_spec w0 _ _ _ (Rd.mono (rd_cut hbv 1 5 (by omega) (by omega) hcl) (fun w hw => by first | exact hw | exact hw.drop | exact hw.drop.drop | exact hw.drop.drop.drop | exact hw.drop.drop.drop.drop | exact hw.drop.drop.drop.drop.drop | exact hw.drop.drop.drop.drop.drop.drop | exact hw.drop.drop.drop.drop.drop.drop.drop | exact hw.drop.drop.drop.drop.drop.drop.drop.drop)) (by rw [cut_len _ _ _ (by omega) (by omega)]; omega) (cut_lt hlt _ _)) (fun _ _ _ h hw => by rw [← h.1] at hw; first | exact hw.drop | exact hw.drop.drop) ?_
                rintro r59 L1 ⟨rfl, rfl⟩
                rw [getN_four (by rw [cut_len _ _ _ (by omega) (by omega)]) (cut_lt hlt _ _), num_cut _ _ _ (by omega)]
                refine St.done ?_
                refine SX.sa (by first | exact fun _ h => h | exact fun _ h => h.drop | exact fun _ h => h.drop.drop | exact fun _ h => h.drop.drop.drop) ?_
                refine SA.q (v0 := ?_) 7 rfl rfl rfl (by kernel_rfl) (by kernel_rfl) ?_ ?_
                rotate_left
                · refine St.convS rfl rfl (by kernel_rfl) (by kernel_rfl) (by omega) ?_
                  refine St.done ?_
                  exact SX.qt
                refine SA.act 10 rfl (by kernel_rfl) ?_
                refine St.call [_] rfl (by kernel_rfl) rfl (get_spec w0 _ _ _ (Rd.mono (rd_cut hbv 5 9 (by omega) (by omega) hcl) (fun w hw => by first | exact hw | exact hw.drop | exact hw.drop.drop | exact hw.drop.drop.drop | exact hw.drop.drop.drop.drop | exact hw.drop.drop.drop.drop.drop | exact hw.drop.drop.drop.drop.drop.drop | exact hw.drop.drop.drop.drop.drop.drop.drop | exact hw.drop.drop.drop.drop.drop.drop.drop.drop)) (by rw [cut_len _ _ _ (by omega) (by omega)]; omega) (cut_lt hlt _ _)) (fun _ _ _ h hw => by rw [← h.1] at hw; first | exact hw.drop | exact hw.drop.drop) ?_
                rintro r63 L1 ⟨rfl, rfl⟩
                rw [getN_four (by rw [cut_len _ _ _ (by omega) (by omega)]) (cut_lt hlt _ _), num_cut _ _ _ (by omega)]
                refine St.done ?_
                refine SX.sa (by first | exact fun _ h => h | exact fun _ h => h.drop | exact fun _ h => h.drop.drop | exact fun _ h => h.drop.drop.drop) ?_
                refine SA.q (v0 := ?_) 11 rfl rfl rfl (by kernel_rfl) (by kernel_rfl) ?_ ?_
                rotate_left
                · refine St.convS rfl rfl (by kernel_rfl) (by kernel_rfl) (by omega) ?_
                  refine St.done ?_
                  exact SX.qt
                refine SA.act 14 rfl (by kernel_rfl) ?_
                refine St.call [_] rfl (by kernel_rfl) rfl (get_spec w0 _ _ _ (Rd.mono (rd_cut hbv 9 13 (by omega) (by omega) hcl) (fun w hw => by first | exact hw | exact hw.drop | exact hw.drop.drop | exact hw.drop.drop.drop | exact hw.drop.drop.drop.drop | exact hw.drop.drop.drop.drop.drop | exact hw.drop.drop.drop.drop.drop.drop | exact hw.drop.drop.drop.drop.drop.drop.drop | exact hw.drop.drop.drop.drop.drop.drop.drop.drop)) (by rw [cut_len _ _ _ (by omega) (by omega)]; omega) (cut_lt hlt _ _)) (fun _ _ _ h hw => by rw [← h.1] at hw; first | exact hw.drop | exact hw.drop.drop) ?_
                rintro r67 L1 ⟨rfl, rfl⟩
                rw [getN_four (by rw [cut_len _ _ _ (by omega) (by omega)]) (cut_lt hlt _ _), num_cut _ _ _ (by omega)]
                refine St.done ?_
                refine SX.sa (by first | exact fun _ h => h | exact fun _ h => h.drop | exact fun _ h => h.drop.drop | exact fun _ h => h.drop.drop.drop) ?_
                refine SA.q (v0 := ?_) 15 rfl rfl rfl (by kernel_rfl) (by kernel_rfl) ?_ ?_
                rotate_left
                · refine St.convS rfl rfl (by kernel_rfl) (by kernel_rfl) (by omega) ?_
                  refine St.done ?_
                  exact SX.qt
                refine SA.q (v0 := ?_) 16 rfl rfl rfl (by kernel_rfl) (by kernel_rfl) ?_ ?_
                rotate_left
                · refine St.build [(0, .int .i64 (((u8s str).getD 0 0 : Nat) : Int)), (1, .int .i64 ((num (u8s str) 1 : Nat) : Int)), (2, .int .i64 ((num (u8s str) 5 : Nat) : Int)), (3, .int .i64 ((num (u8s str) 9 : Nat) : Int))] (segCells ⟨(((u8s str).getD 0 0 : Nat) : Int), ((num (u8s str) 1 : Nat) : Int), ((num (u8s str) 5 : Nat) : Int), ((num (u8s str) 9 : Nat) : Int), ((u8s str).drop 15).take ((u8s str).length - 19)⟩ (.slice none 0 0)) rfl rfl (by kernel_rfl) ?_
                  refine St.done ?_
                  exact SX.qt
                refine SA.act 18 rfl (by kernel_rfl) ?_
                rw [← hfr]
                refine St.storeN rfl rfl rfl (segCells (segFrom (u8s str)) (.slice none 0 0)) rfl (by kernel_rfl) (by simp [segCells, one]) (by simp [segCells]) (fun _ h => h.drop.drop) ?_
                rw [show splice [.int .i64 0, .int .i64 0, .int .i64 0, .int .i64 0, .slice none 0 0] 0 (segCells (segFrom (u8s str)) (.slice none 0 0)) = segCells (segFrom (u8s str)) (.slice none 0 0) from rfl]
                refine St.done ?_
                refine SX.sa (by first | exact fun _ h => h | exact fun _ h => h.drop | exact fun _ h => h.drop.drop | exact fun _ h => h.drop.drop.drop) ?_
                refine SA.end_ (by kernel_rfl) ?_
                refine SX.seq ?_
                refine SC.seq ?_
                refine SC.drawn [(0, true), (1, true), (2, true), (3, true), (4, true), (5, false), (6, true)] [7] (_) (by kernel_rfl) (by kernel_rfl) (fun _ h => h) ?_
                refine St.fieldAddr (off := 4) rfl rfl (by kernel_rfl) ?_
                refine St.load rfl rfl (by kernel_rfl) (by first | exact Holds.row mem0 rfl | exact Holds.row mem1 rfl | exact Holds.row mem2 rfl | exact Holds.row mem3 rfl | exact Holds.row mem4 rfl | exact Holds.row mem5 rfl | exact Holds.row mem6 rfl | exact Holds.row mem7 rfl | exact Holds.row mem8 rfl) ?_
                refine St.move rfl rfl ?_
                refine St.move rfl rfl ?_
                refine St.cutB (e := 5) (15) ((u8s str).length - 4) rfl rfl (by kernel_rfl) hbv hcv ⟨_, _, rfl, rfl⟩ ⟨_, _, rfl, by omega⟩ (by omega) (by omega) (fun v75 h75 _ => ?_)
                rw [show (u8s str).length - 4 - 15 = (u8s str).length - 19 by omega] at h75
                have h75l : (((u8s str).drop 15).take ((u8s str).length - 19)).length ≤ 419 := by rw [List.length_take]; omega
                refine St.perm ([] :: [⟨b6, segCells (segFrom (u8s str)) (.slice none 0 0), 73⟩] :: [⟨b2, [.int .i64 0, .int .i64 0, .int .i64 0, .int .i64 0, .slice none 0 0], 73⟩] :: Ev :: L) (List.Perm.refl _) ?_
                refine St.append (e := 5) (sz := 1) (bytes := 1) (xs := []) (n := 0) (news := bytes (((u8s str).drop 15).take ((u8s str).length - 19))) (m := (((u8s str).drop 15).take ((u8s str).length - 19)).length) rfl rfl rfl (by kernel_rfl) (Buf.nil 5 1) (Rd.mono h75 (fun w hw => by first | exact hw | exact hw.drop | exact hw.drop.drop | exact hw.drop.drop.drop | exact hw.drop.drop.drop.drop | exact hw.drop.drop.drop.drop.drop | exact hw.drop.drop.drop.drop.drop.drop | exact hw.drop.drop.drop.drop.drop.drop.drop | exact hw.drop.drop.drop.drop.drop.drop.drop.drop)) (bytes_one _) (by omega) (by omega) (fun _ _ h => h.drop) (fun v76 E76 hb76 _ => ?_)
                rw [List.nil_append, Nat.zero_add] at hb76
                have h76r := hb76.read
                obtain ⟨_, _, A76, c76, rfl, _, _⟩ := h76r
                refine St.fieldAddr (off := 4) rfl rfl (by kernel_rfl) ?_
                refine St.done ?_
                refine SX.tail ?_
                refine St.store1 rfl rfl rfl rfl (by kernel_rfl) (Nat.le_of_ble_eq_true rfl) (fun _ h => h.nil) ?_
                rw [show (segCells (segFrom (u8s str)) (.slice none 0 0)).set (0 + 4) (.slice A76 (((u8s str).drop 15).take ((u8s str).length - 19)).length c76) = segCells (segFrom (u8s str)) (.slice A76 (((u8s str).drop 15).take ((u8s str).length - 19)).length c76) from rfl]
                refine St.done ?_
                refine SX.seq ?_
                refine SC.seq ?_
                refine SC.plain ?_
                refine St.loadAgg (segCells (segFrom (u8s str)) (.slice A76 (((u8s str).drop 15).take ((u8s str).length - 19)).length c76)) rfl rfl (by kernel_rfl) (HoldsN.of_row mem1) ?_
                refine St.storeN2 rfl rfl rfl (segCells (segFrom (u8s str)) (.slice A76 (((u8s str).drop 15).take ((u8s str).length - 19)).length c76)) rfl (by kernel_rfl) (by simp [segCells, one]) (by simp [segCells]) (fun _ h => h.nil) ?_
                rw [show splice [.int .i64 0, .int .i64 0, .int .i64 0, .int .i64 0, .slice none 0 0] 0 (segCells (segFrom (u8s str)) (.slice A76 (((u8s str).drop 15).take ((u8s str).length - 19)).length c76)) = segCells (segFrom (u8s str)) (.slice A76 (((u8s str).drop 15).take ((u8s str).length - 19)).length c76) from rfl]
                refine St.assign rfl rfl ?_
                refine St.done ?_
                refine SX.seq ?_
                refine SC.ret ?_
                refine SX.retCT (segCells (segFrom (u8s str)) (.slice A76 (((u8s str).drop 15).take ((u8s str).length - 19)).length c76)) (.inl rfl) rfl rfl rfl (by kernel_rfl) (HoldsN.of_row mem2) (L' := E76 :: L) (fun w hw => hw.sub (List.Sublist.append (List.Sublist.refl E76) (by simp only [List.flatten_cons, ← List.append_assoc]; exact List.sublist_append_right _ _))) ⟨_, E76, by rw [hseg], rfl, by rw [hfr]; exact hb76⟩
end Go.Proofs.Ytahafepgmkiabaa
