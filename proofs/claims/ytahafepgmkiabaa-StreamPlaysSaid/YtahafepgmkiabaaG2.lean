/- Walks: segments as bytes and bytes as segments. -/
import Derived.Test.YtahafepgmkiabaaG1
set_option linter.unusedVariables false
set_option linter.unusedSimpArgs false
set_option linter.ambiguousOpen false
namespace Go.Proofs.Ytahafepgmkiabaa
open Go Go.Proofs.Ytahafepgmkiabaa.Sep

def segCells (s : Seg) (dv : Value) : List Value := [.int .i64 s.ty, .int .i64 s.id, .int .i64 s.seq, .int .i64 s.ack, dv]
def noCells : List Value := [.int .i64 0, .int .i64 0, .int .i64 0, .int .i64 0, .slice none 0 0]
theorem u8i_conv (n : Int) : (n % ((256 : Nat) : Int)).toNat = u8i n := rfl
theorem u32i_conv (n : Int) : (n % ((4294967296 : Nat) : Int)).toNat = u32i n := rfl
theorem take_min (d : List Nat) : (d.drop 0).take (min d.length 400 - 0) = d.take 400 := by
  rw [List.drop_zero, Nat.sub_zero]
  exact List.take_eq_take_iff.2 (by omega)
theorem getD_cut (bs : List Nat) (l k i : Nat) (h : i < k) : ((bs.drop l).take k).getD i 0 = bs.getD (l + i) 0 := by
  rw [List.getD_eq_getElem?_getD, List.getElem?_take, if_pos h, List.getElem?_drop, List.getD_eq_getElem?_getD]
theorem num_cut (bs : List Nat) (l k : Nat) (h : 4 ≤ k) : num ((bs.drop l).take k) 0 = num bs l := by
  unfold num
  rw [getD_cut _ _ _ _ (by omega), getD_cut _ _ _ _ (by omega), getD_cut _ _ _ _ (by omega), getD_cut _ _ _ _ (by omega)]
  rfl
theorem cut_lt {bs : List Nat} (h : ∀ b ∈ bs, b < 256) (l k : Nat) : ∀ b ∈ (bs.drop l).take k, b < 256 := fun b hb => h b (List.mem_of_mem_drop (List.mem_of_mem_take hb))
theorem take_lt256 {bs : List Nat} (h : ∀ b ∈ bs, b < 256) (k : Nat) : ∀ b ∈ bs.take k, b < 256 := fun b hb => h b (List.mem_of_mem_take hb)
theorem cut_len (bs : List Nat) (l k : Nat) (h1 : l ≤ k) (h2 : k ≤ bs.length) : ((bs.drop l).take (k - l)).length = k - l := by rw [List.length_take, List.length_drop]; omega
theorem getN_two {bs : List Nat} (h : bs.length = 2) : getN bs = bs.getD 0 0 * 256 + bs.getD 1 0 := by
  match bs, h with
  | [a, b], _ => simp [getN]
theorem or_mul (a b k : Nat) : (a ||| b) * 2 ^ k = a * 2 ^ k ||| b * 2 ^ k := by
  rw [← Nat.shiftLeft_eq, Nat.shiftLeft_or_distrib, Nat.shiftLeft_eq, Nat.shiftLeft_eq]
theorem getN_four {bs : List Nat} (h : bs.length = 4) (hb : ∀ b ∈ bs, b < 256) : getN bs = num bs 0 := by
  match bs, h with
  | [a, b, c, d], _ =>
    have ha := hb a (by simp)
    have hbb := hb b (by simp)
    have hc := hb c (by simp)
    have hd := hb d (by simp)
    show a * 256 ^ 3 + (b * 256 ^ 2 + (c * 256 ^ 1 + (d * 256 ^ 0 + 0))) = be32 a b c d
    unfold be32
    rw [Nat.mod_eq_of_lt (by omega), Nat.mod_eq_of_lt (by omega), Nat.mod_eq_of_lt (by omega)]
    have s1 : a * 2 ^ 24 ||| b * 2 ^ 16 = (a * 2 ^ 8 + b) * 2 ^ 16 := by
      rw [show a * 2 ^ 24 = (a * 2 ^ 8) * 2 ^ 16 by omega, ← or_mul]
      rw [or8 a b hbb]
    have s2 : (a * 2 ^ 8 + b) * 2 ^ 16 ||| c * 2 ^ 8 = ((a * 2 ^ 8 + b) * 2 ^ 8 + c) * 2 ^ 8 := by
      rw [show (a * 2 ^ 8 + b) * 2 ^ 16 = ((a * 2 ^ 8 + b) * 2 ^ 8) * 2 ^ 8 by omega, ← or_mul]
      rw [or8 _ c hc]
    rw [s1, s2, or8 _ d hd]
    omega
theorem text_cut (s : ByteArray) (k : Nat) (h : k ≤ s.size) : u8s (s.extract 0 k) = (u8s s).take k := by
  unfold u8s
  rw [← List.map_take]
  congr 1
  rw [ByteArray.data_extract, Array.toList_extract]
  simp [List.extract_eq_drop_take']
theorem isSeg_len {bs : List Nat} (h : isSeg bs = true) : 19 ≤ bs.length ∧ bs.length ≤ 419 := by
  unfold isSeg at h
  simp only [Bool.and_eq_true, decide_eq_true_eq] at h
  omega
theorem noSeg_of {bs : List Nat} (h : isSeg bs = false) : segFrom bs = noSeg := by
  unfold segFrom
  rw [if_neg (by rw [h]; simp)]
def ParseR (bs : List Nat) (L : List Chunk) (r : Value) (L' : List Chunk) : Prop :=
  ∃ dv E, r = .tuple #[.agg (segCells (segFrom bs) dv).toArray, .bool (isSeg bs)] ∧ L' = E :: L ∧ Buf 5 1 dv (bytes (segFrom bs).data) (segFrom bs).data.length E

theorem segment_spec (w0 : World) (L : List Chunk) (s : Seg) (dv : Value) (hx : Rd w0 L dv 1 s.data.length (bytes s.data)) (hcp : Cap dv) (hl : s.data.length ≤ 140737488351232) (hb : ∀ b ∈ s.data, b < 256) :
    Meets Try.prog 61 #[.agg (segCells s dv).toArray] w0 L (SumR (segOf s) L) := by
  have hx0 := hx
  obtain ⟨_, b, o, A, c, rfl, hA, hr⟩ := hx
  have hcl := hcp.le
  have htl : (s.data.take 400).length ≤ 400 := by rw [List.length_take]; omega
  have htb : ∀ b ∈ s.data.take 400, b < 256 := take_lt256 hb 400
  refine Meets.of_body [.agg (segCells s _).toArray] Try.func61 rfl Try.ntmps61 rfl ?_
  refine SC.seq ?_
  refine SC.plain ?_
  refine St.box (segCells s _) rfl rfl rfl (fun _ _ h => h.nil) (fun p => ?_)
  refine St.assign rfl rfl ?_
  refine St.done ?_
  refine SX.seq ?_
  refine SC.seq ?_
  refine SC.plain ?_
  refine St.fieldAddr (off := 4) rfl rfl (by kernel_rfl) ?_
  refine St.load rfl rfl (by kernel_rfl) (by first | exact Holds.row mem0 rfl | exact Holds.row mem1 rfl | exact Holds.row mem2 rfl | exact Holds.row mem3 rfl | exact Holds.row mem4 rfl | exact Holds.row mem5 rfl | exact Holds.row mem6 rfl | exact Holds.row mem7 rfl | exact Holds.row mem8 rfl) ?_
  refine St.fieldAddr (off := 4) rfl rfl (by kernel_rfl) ?_
  refine St.load rfl rfl (by kernel_rfl) (by first | exact Holds.row mem0 rfl | exact Holds.row mem1 rfl | exact Holds.row mem2 rfl | exact Holds.row mem3 rfl | exact Holds.row mem4 rfl | exact Holds.row mem5 rfl | exact Holds.row mem6 rfl | exact Holds.row mem7 rfl | exact Holds.row mem8 rfl) ?_
  refine St.lenSl rfl rfl (by kernel_rfl) ?_
  refine St.min2 rfl rfl rfl ?_
  refine St.cutB (e := 5) 0 (min s.data.length 400) rfl rfl (by kernel_rfl) hx0 hcp rfl ⟨_, _, rfl, by omega⟩ (by omega) (by omega) (fun v3 h3 hc3 => ?_)
  rw [take_min] at h3
  have h3r := h3
  obtain ⟨_, b3, o3, A3, c3, rfl, _, _⟩ := h3r
  refine St.assign rfl rfl ?_
  refine St.done ?_
  refine SX.seq ?_
  refine SC.seq ?_
  refine SC.drawn [(0, true), (1, true), (2, true), (4, true), (5, true), (6, true), (8, true), (9, true), (10, true), (12, true), (13, true), (14, true), (3, false), (7, false), (11, false), (15, false), (16, true)] [] (_) (by kernel_rfl) (by kernel_rfl) (fun _ h => h) ?_
  refine St.fieldAddr (off := 0) rfl rfl (by kernel_rfl) ?_
  refine St.load rfl rfl (by kernel_rfl) (by first | exact Holds.row mem0 rfl | exact Holds.row mem1 rfl | exact Holds.row mem2 rfl | exact Holds.row mem3 rfl | exact Holds.row mem4 rfl | exact Holds.row mem5 rfl | exact Holds.row mem6 rfl | exact Holds.row mem7 rfl | exact Holds.row mem8 rfl) ?_
  refine St.convZ un8 rfl rfl (by kernel_rfl) (by kernel_rfl) ?_
  rw [u8i_conv]
  refine St.fieldAddr (off := 1) rfl rfl (by kernel_rfl) ?_
  refine St.load rfl rfl (by kernel_rfl) (by first | exact Holds.row mem0 rfl | exact Holds.row mem1 rfl | exact Holds.row mem2 rfl | exact Holds.row mem3 rfl | exact Holds.row mem4 rfl | exact Holds.row mem5 rfl | exact Holds.row mem6 rfl | exact Holds.row mem7 rfl | exact Holds.row mem8 rfl) ?_
  refine St.convZ un32 rfl rfl (by kernel_rfl) (by kernel_rfl) ?_
  rw [u32i_conv]
  refine St.fieldAddr (off := 2) rfl rfl (by kernel_rfl) ?_
  refine St.load rfl rfl (by kernel_rfl) (by first | exact Holds.row mem0 rfl | exact Holds.row mem1 rfl | exact Holds.row mem2 rfl | exact Holds.row mem3 rfl | exact Holds.row mem4 rfl | exact Holds.row mem5 rfl | exact Holds.row mem6 rfl | exact Holds.row mem7 rfl | exact Holds.row mem8 rfl) ?_
  refine St.convZ un32 rfl rfl (by kernel_rfl) (by kernel_rfl) ?_
  rw [u32i_conv]
  refine St.fieldAddr (off := 3) rfl rfl (by kernel_rfl) ?_
  refine St.load rfl rfl (by kernel_rfl) (by first | exact Holds.row mem0 rfl | exact Holds.row mem1 rfl | exact Holds.row mem2 rfl | exact Holds.row mem3 rfl | exact Holds.row mem4 rfl | exact Holds.row mem5 rfl | exact Holds.row mem6 rfl | exact Holds.row mem7 rfl | exact Holds.row mem8 rfl) ?_
  refine St.convZ un32 rfl rfl (by kernel_rfl) (by kernel_rfl) ?_
  rw [u32i_conv]
  refine St.buildSl (n := 1) (e := 5) [(0, .int .u8 ((u8i s.ty : Nat) : Int))] (bytes [u8i s.ty]) rfl rfl (by kernel_rfl) (fun _ _ h => h.drop) (fun b15 => ?_)
  refine St.call [_, _] rfl (by kernel_rfl) rfl (sfour_spec w0 ([⟨p, segCells s (.slice A s.data.length c), 73⟩] :: L) _ [u8i s.ty] (u32i s.id) _ (Buf.whole rfl) (u32i_lt _) (by simp [four_len])) (fun _ _ _ h hw => by obtain ⟨E1, e, _⟩ := h; rw [e] at hw; exact hw.drop) ?_
  rintro r1 L1 ⟨E1, rfl, hb1⟩
  refine St.call [_, _] rfl (by kernel_rfl) rfl (sfour_spec w0 ([⟨p, segCells s (.slice A s.data.length c), 73⟩] :: L) _ ([u8i s.ty] ++ four (u32i s.id)) (u32i s.seq) _ hb1 (u32i_lt _) (by simp [four_len])) (fun _ _ _ h hw => by obtain ⟨E1, e, _⟩ := h; rw [e] at hw; exact hw.drop) ?_
  rintro r2 L1 ⟨E2, rfl, hb2⟩
  refine St.call [_, _] rfl (by kernel_rfl) rfl (sfour_spec w0 ([⟨p, segCells s (.slice A s.data.length c), 73⟩] :: L) _ ([u8i s.ty] ++ four (u32i s.id) ++ four (u32i s.seq)) (u32i s.ack) _ hb2 (u32i_lt _) (by simp [four_len])) (fun _ _ _ h hw => by obtain ⟨E1, e, _⟩ := h; rw [e] at hw; exact hw.drop) ?_
  rintro r3 L1 ⟨E3, rfl, hb4⟩
  refine St.assign rfl rfl ?_
  refine St.done ?_
  refine SX.tail ?_
  refine St.done ?_
  refine SX.seq ?_
  refine SC.seq ?_
  refine SC.plain ?_
  refine St.move rfl rfl ?_
  refine St.move rfl rfl ?_
  refine St.lenSl rfl rfl (by kernel_rfl) ?_
  first | refine St.shrN (b := 8) rfl rfl rfl (by omega) ?_ | refine St.shr rfl rfl rfl (by omega) ?_
  refine St.convU un8 rfl rfl (by kernel_rfl) (by kernel_rfl) ?_
  refine St.move rfl rfl ?_
  refine St.lenSl rfl rfl (by kernel_rfl) ?_
  refine St.convU un8 rfl rfl (by kernel_rfl) (by kernel_rfl) ?_
  refine St.buildSl (n := 2) (e := 5) [(0, .int .u8 (((s.data.take 400).length / 2 ^ 8 % 256 : Nat) : Int)), (1, .int .u8 (((s.data.take 400).length % 256 : Nat) : Int))] (bytes [(s.data.take 400).length / 256 % 256, (s.data.take 400).length % 256]) rfl rfl (by kernel_rfl) (fun _ _ h => h.nil) (fun b36 => ?_)
  refine St.append1 (e := 5) (sz := 1) (bytes := 1) (xs := bytes ([u8i s.ty] ++ four (u32i s.id) ++ four (u32i s.seq) ++ four (u32i s.ack))) (n := 13) (news := bytes [(s.data.take 400).length / 256 % 256, (s.data.take 400).length % 256]) (m := 2) rfl rfl rfl (by kernel_rfl) hb4 (Rd.row rfl mem0) (bytes_one _) (by omega) (by omega) (fun _ _ h => h.nil) (fun v5 E5 hb5 _ => ?_)
  rw [← bytes_app] at hb5
  refine St.drop ?_
  refine St.move rfl rfl ?_
  refine St.append (e := 5) (sz := 1) (bytes := 1) (xs := bytes ([u8i s.ty] ++ four (u32i s.id) ++ four (u32i s.seq) ++ four (u32i s.ack) ++ [(s.data.take 400).length / 256 % 256, (s.data.take 400).length % 256])) (n := 15) (news := bytes (s.data.take 400)) (m := (s.data.take 400).length) rfl rfl rfl (by kernel_rfl) hb5 (Rd.mono h3 (fun w hw => by first | exact hw | exact hw.drop | exact hw.drop.drop | exact hw.drop.drop.drop | exact hw.drop.drop.drop.drop | exact hw.drop.drop.drop.drop.drop | exact hw.drop.drop.drop.drop.drop.drop | exact hw.drop.drop.drop.drop.drop.drop.drop | exact hw.drop.drop.drop.drop.drop.drop.drop.drop)) (bytes_one _) (by omega) (by omega) (fun _ _ h => h.nil) (fun v6 E6 hb6 _ => ?_)
  rw [← bytes_app] at hb6
  have hbody : ([u8i s.ty] ++ four (u32i s.id) ++ four (u32i s.seq) ++ four (u32i s.ack)) ++ [(s.data.take 400).length / 256 % 256, (s.data.take 400).length % 256] ++ s.data.take 400 = segBody s := by simp [segBody, segHead]
  rw [hbody, ← segBody_len] at hb6
  have hbl := segBody_len s
  have hblt := segBody_lt hb
  refine St.assign rfl rfl ?_
  refine St.done ?_
  refine SX.seq ?_
  refine SC.seq ?_
  refine SC.plain ?_
  refine St.move rfl rfl ?_
  refine St.move rfl rfl ?_
  refine St.call [_] rfl (by kernel_rfl) rfl (crc_spec w0 _ _ (segBody s) (hb6.rd (by simp)) (by omega) hblt) (by first | exact fun _ _ _ _ h => h.nil | assumption) ?_
  rintro r7 L1 ⟨rfl, rfl⟩
  refine St.call [_, _] rfl (by kernel_rfl) rfl (sfour_spec w0 ([⟨p, segCells s (.slice A s.data.length c), 73⟩] :: L) _ (segBody s) (crc (segBody s)) _ hb6 (crc_lt hblt) (by omega)) (by first | exact fun _ _ _ _ h => h.nil | assumption) ?_
  rintro r8 L1 ⟨E8, rfl, hb8⟩
  refine St.call [_] rfl (by kernel_rfl) rfl (clip_spec w0 ([⟨p, segCells s (.slice A s.data.length c), 73⟩] :: L) _ _ _ E8 hb8) (by first | exact fun _ _ _ _ h => h.nil | assumption) ?_
  rintro r9 L1 ⟨rfl, hb9⟩
  rw [show (segBody s).length + 4 = (segOf s).length by rw [segOf_len, segBody_len]; omega] at hb9
  refine St.assign rfl rfl ?_
  refine St.done ?_
  refine SX.seq ?_
  refine SC.ret ?_
  refine SX.perm _ (perm12 _ _ _) ?_
  refine SX.drop ?_
  exact SX.ret1 rfl rfl ⟨E8, rfl, hb9⟩
theorem rsegment_spec (w0 : World) (L : List Chunk) (s : Seg) (dv : Value) (hx : Rd w0 L dv 1 s.data.length (bytes s.data)) (hcp : Cap dv) (hl : s.data.length ≤ 140737488351232) (hb : ∀ b ∈ s.data, b < 256) :
    Meets Try.prog 62 #[.agg (segCells s dv).toArray] w0 L (fun r L' => L = L' ∧ r = .string (text (segOf s))) := by
  have hx0 := hx
  obtain ⟨_, b, o, A, c, rfl, hA, hr⟩ := hx
  have hcl := hcp.le
  have htl : (s.data.take 400).length ≤ 400 := by rw [List.length_take]; omega
  have htb : ∀ b ∈ s.data.take 400, b < 256 := take_lt256 hb 400
  refine Meets.of_body [.agg (segCells s _).toArray] Try.func62 rfl Try.ntmps62 rfl ?_
  refine SC.seq ?_
  refine SC.plain ?_
  refine St.box (segCells s _) rfl rfl rfl (fun _ _ h => h.nil) (fun p => ?_)
  refine St.assign rfl rfl ?_
  refine St.done ?_
  refine SX.seq ?_
  refine SC.seq ?_
  refine SC.plain ?_
  refine St.fieldAddr (off := 4) rfl rfl (by kernel_rfl) ?_
  refine St.load rfl rfl (by kernel_rfl) (by first | exact Holds.row mem0 rfl | exact Holds.row mem1 rfl | exact Holds.row mem2 rfl | exact Holds.row mem3 rfl | exact Holds.row mem4 rfl | exact Holds.row mem5 rfl | exact Holds.row mem6 rfl | exact Holds.row mem7 rfl | exact Holds.row mem8 rfl) ?_
  refine St.assign rfl rfl ?_
  refine St.done ?_
  refine SX.seq ?_
  refine SC.seq ?_
  refine SC.seq ?_
  refine SC.plain ?_
  refine St.move rfl rfl ?_
  refine St.lenSl rfl rfl (by kernel_rfl) ?_
  refine St.gtr rfl rfl rfl ?_
  refine St.done ?_
  refine SX.seq ?_
  refine SC.condp rfl (fun c9 => ?_) (fun c9 => ?_)
  · refine SC.plain ?_
    refine St.move rfl rfl ?_
    refine St.cutB (e := 5) 0 400 rfl rfl (by kernel_rfl) hx0 hcp rfl ⟨_, _, rfl, rfl⟩ (by omega) (by omega) (fun v3 h3 hc3 => ?_)
    rw [show (s.data.drop 0).take (400 - 0) = s.data.take 400 from rfl] at h3
    have h3r := h3
    obtain ⟨_, b3, o3, A3, c3, rfl, _, _⟩ := h3r
    refine St.assign rfl rfl ?_
    refine St.done ?_
    refine SX.seq ?_
    refine SC.seq ?_
    refine SC.plain ?_
    refine St.fieldAddr (off := 0) rfl rfl (by kernel_rfl) ?_
    refine St.load rfl rfl (by kernel_rfl) (by first | exact Holds.row mem0 rfl | exact Holds.row mem1 rfl | exact Holds.row mem2 rfl | exact Holds.row mem3 rfl | exact Holds.row mem4 rfl | exact Holds.row mem5 rfl | exact Holds.row mem6 rfl | exact Holds.row mem7 rfl | exact Holds.row mem8 rfl) ?_
    refine St.convZ un8 rfl rfl (by kernel_rfl) (by kernel_rfl) ?_
    rw [u8i_conv]
    refine St.buildSl (n := 1) (e := 5) [(0, .int .u8 ((u8i s.ty : Nat) : Int))] (bytes [u8i s.ty]) rfl rfl (by kernel_rfl) (fun _ _ h => h.nil) (fun b15 => ?_)
    have hb0 : Buf 5 1 (.slice (some ⟨b15, 0, none⟩) 1 1) (bytes [u8i s.ty]) 1 [⟨b15, bytes [u8i s.ty], 5⟩] := Buf.whole rfl
    refine St.assign rfl rfl ?_
    refine St.done ?_
    refine SX.seq ?_
    refine SC.seq ?_
    refine SC.plain ?_
    refine St.move rfl rfl ?_
    refine St.fieldAddr (off := 1) rfl rfl (by kernel_rfl) ?_
    refine St.load rfl rfl (by kernel_rfl) (by first | exact Holds.row mem0 rfl | exact Holds.row mem1 rfl | exact Holds.row mem2 rfl | exact Holds.row mem3 rfl | exact Holds.row mem4 rfl | exact Holds.row mem5 rfl | exact Holds.row mem6 rfl | exact Holds.row mem7 rfl | exact Holds.row mem8 rfl) ?_
    refine St.convZ un32 rfl rfl (by kernel_rfl) (by kernel_rfl) ?_
    rw [u32i_conv]
    refine St.call [_] rfl (by kernel_rfl) rfl (word4_spec w0 _ (u32i s.id)) (by first | exact fun _ _ _ _ h => h.nil | assumption) ?_
    rintro r5 L1 ⟨Ew5, rfl, hw5⟩
    refine St.append1 (e := 5) (sz := 1) (bytes := 1) (xs := bytes ([u8i s.ty])) (n := 1) (news := bytes (four (u32i s.id))) (m := 4) rfl rfl rfl (by kernel_rfl) hb0 (hw5.rd (by simp)) (bytes_one _) (by omega) (by omega) (fun _ _ h => h.nil) (fun v55 E55 hb1 _ => ?_)
    rw [← bytes_app] at hb1
    refine St.drop ?_
    refine St.assign rfl rfl ?_
    refine St.done ?_
    refine SX.seq ?_
    refine SC.seq ?_
    refine SC.plain ?_
    refine St.move rfl rfl ?_
    refine St.fieldAddr (off := 2) rfl rfl (by kernel_rfl) ?_
    refine St.load rfl rfl (by kernel_rfl) (by first | exact Holds.row mem0 rfl | exact Holds.row mem1 rfl | exact Holds.row mem2 rfl | exact Holds.row mem3 rfl | exact Holds.row mem4 rfl | exact Holds.row mem5 rfl | exact Holds.row mem6 rfl | exact Holds.row mem7 rfl | exact Holds.row mem8 rfl) ?_
    refine St.convZ un32 rfl rfl (by kernel_rfl) (by kernel_rfl) ?_
    rw [u32i_conv]
    refine St.call [_] rfl (by kernel_rfl) rfl (word4_spec w0 _ (u32i s.seq)) (by first | exact fun _ _ _ _ h => h.nil | assumption) ?_
    rintro r6 L1 ⟨Ew6, rfl, hw6⟩
    refine St.append1 (e := 5) (sz := 1) (bytes := 1) (xs := bytes ([u8i s.ty] ++ four (u32i s.id))) (n := 5) (news := bytes (four (u32i s.seq))) (m := 4) rfl rfl rfl (by kernel_rfl) hb1 (hw6.rd (by simp)) (bytes_one _) (by omega) (by omega) (fun _ _ h => h.nil) (fun v66 E66 hb2 _ => ?_)
    rw [← bytes_app] at hb2
    refine St.drop ?_
    refine St.assign rfl rfl ?_
    refine St.done ?_
    refine SX.seq ?_
    refine SC.seq ?_
    refine SC.plain ?_
    refine St.move rfl rfl ?_
    refine St.fieldAddr (off := 3) rfl rfl (by kernel_rfl) ?_
    refine St.load rfl rfl (by kernel_rfl) (by first | exact Holds.row mem0 rfl | exact Holds.row mem1 rfl | exact Holds.row mem2 rfl | exact Holds.row mem3 rfl | exact Holds.row mem4 rfl | exact Holds.row mem5 rfl | exact Holds.row mem6 rfl | exact Holds.row mem7 rfl | exact Holds.row mem8 rfl) ?_
    refine St.convZ un32 rfl rfl (by kernel_rfl) (by kernel_rfl) ?_
    rw [u32i_conv]
    refine St.call [_] rfl (by kernel_rfl) rfl (word4_spec w0 _ (u32i s.ack)) (by first | exact fun _ _ _ _ h => h.nil | assumption) ?_
    rintro r7 L1 ⟨Ew7, rfl, hw7⟩
    refine St.append1 (e := 5) (sz := 1) (bytes := 1) (xs := bytes ([u8i s.ty] ++ four (u32i s.id) ++ four (u32i s.seq))) (n := 9) (news := bytes (four (u32i s.ack))) (m := 4) rfl rfl rfl (by kernel_rfl) hb2 (hw7.rd (by simp)) (bytes_one _) (by omega) (by omega) (fun _ _ h => h.nil) (fun v77 E77 hb3 _ => ?_)
    rw [← bytes_app] at hb3
    refine St.drop ?_
    refine St.assign rfl rfl ?_
    refine St.done ?_
    refine SX.seq ?_
    refine SC.seq ?_
    refine SC.plain ?_
    refine St.move rfl rfl ?_
    refine St.move rfl rfl ?_
    refine St.lenSl rfl rfl (by kernel_rfl) ?_
    first | refine St.shrN (b := 8) rfl rfl rfl (by omega) ?_ | refine St.shr rfl rfl rfl (by omega) ?_
    refine St.convU un8 rfl rfl (by kernel_rfl) (by kernel_rfl) ?_
    refine St.move rfl rfl ?_
    refine St.lenSl rfl rfl (by kernel_rfl) ?_
    refine St.convU un8 rfl rfl (by kernel_rfl) (by kernel_rfl) ?_
    refine St.buildSl (n := 2) (e := 5) [(0, .int .u8 (((s.data.take 400).length / 2 ^ 8 % 256 : Nat) : Int)), (1, .int .u8 (((s.data.take 400).length % 256 : Nat) : Int))] (bytes [(s.data.take 400).length / 256 % 256, (s.data.take 400).length % 256]) rfl rfl (by kernel_rfl) (fun _ _ h => h.nil) (fun b36 => ?_)
    refine St.append1 (e := 5) (sz := 1) (bytes := 1) (xs := bytes ([u8i s.ty] ++ four (u32i s.id) ++ four (u32i s.seq) ++ four (u32i s.ack))) (n := 13) (news := bytes [(s.data.take 400).length / 256 % 256, (s.data.take 400).length % 256]) (m := 2) rfl rfl rfl (by kernel_rfl) hb3 (Rd.row rfl mem0) (bytes_one _) (by omega) (by omega) (fun _ _ h => h.nil) (fun v5 E5 hb5 _ => ?_)
    rw [← bytes_app] at hb5
    refine St.drop ?_
    refine St.assign rfl rfl ?_
    refine St.done ?_
    refine SX.seq ?_
    refine SC.seq ?_
    refine SC.plain ?_
    refine St.move rfl rfl ?_
    refine St.move rfl rfl ?_
    refine St.append (e := 5) (sz := 1) (bytes := 1) (xs := bytes ([u8i s.ty] ++ four (u32i s.id) ++ four (u32i s.seq) ++ four (u32i s.ack) ++ [(s.data.take 400).length / 256 % 256, (s.data.take 400).length % 256])) (n := 15) (news := bytes (s.data.take 400)) (m := (s.data.take 400).length) rfl rfl rfl (by kernel_rfl) hb5 (Rd.mono h3 (fun w hw => by first | exact hw | exact hw.drop | exact hw.drop.drop | exact hw.drop.drop.drop | exact hw.drop.drop.drop.drop | exact hw.drop.drop.drop.drop.drop | exact hw.drop.drop.drop.drop.drop.drop | exact hw.drop.drop.drop.drop.drop.drop.drop | exact hw.drop.drop.drop.drop.drop.drop.drop.drop)) (bytes_one _) (by omega) (by omega) (fun _ _ h => h.nil) (fun v6 E6 hb6 _ => ?_)
    rw [← bytes_app] at hb6
    have hbody : ([u8i s.ty] ++ four (u32i s.id) ++ four (u32i s.seq) ++ four (u32i s.ack)) ++ [(s.data.take 400).length / 256 % 256, (s.data.take 400).length % 256] ++ s.data.take 400 = segBody s := by simp [segBody, segHead]
    rw [hbody, ← segBody_len] at hb6
    have hbl := segBody_len s
    have hblt := segBody_lt hb
    have hbt := text_size (segBody s)
    have hut := u8s_text (segBody s) hblt
    refine St.assign rfl rfl ?_
    refine St.done ?_
    refine SX.seq ?_
    refine SC.seq ?_
    refine SC.plain ?_
    refine St.move rfl rfl ?_
    refine St.move rfl rfl ?_
    refine St.toStr (e := 5) (bs := segBody s) (n := (segBody s).length) rfl rfl (hb6.rd (by simp [Lq])) (by kernel_rfl) (by kernel_rfl) (by kernel_rfl) ?_
    refine St.call [_] rfl (by kernel_rfl) rfl (rcrc_spec w0 _ (text (segBody s)) (by omega)) (by first | exact fun _ _ _ _ h => h.nil | assumption) ?_
    rw [hut]
    rintro r7 L1 ⟨rfl, rfl⟩
    refine St.call [_] rfl (by kernel_rfl) rfl (word4_spec w0 _ (crc (segBody s))) (by first | exact fun _ _ _ _ h => h.nil | assumption) ?_
    rintro r8 L1 ⟨E8, rfl, hw8⟩
    refine St.append1 (e := 5) (sz := 1) (bytes := 1) (xs := bytes (segBody s)) (n := (segBody s).length) (news := bytes (four (crc (segBody s)))) (m := 4) rfl rfl rfl (by kernel_rfl) hb6 (hw8.rd (by simp)) (bytes_one _) (by omega) (by omega) (fun _ _ h => h.nil) (fun v9 E9 hb9 _ => ?_)
    rw [← bytes_app] at hb9
    refine St.drop ?_
    rw [show (segBody s).length + 4 = (segOf s).length by rw [segOf_len, segBody_len]; omega] at hb9
    refine St.toStr (e := 5) (bs := segOf s) (n := (segOf s).length) rfl rfl (hb9.rd (by simp [Lq])) (by kernel_rfl) (by kernel_rfl) (by kernel_rfl) ?_
    refine St.assign rfl rfl ?_
    refine St.done ?_
    refine SX.seq ?_
    refine SC.ret ?_
    refine SX.drop (SX.drop ?_)
    exact SX.ret1 rfl rfl ⟨rfl, rfl⟩
  · have hle : s.data.length = (s.data.take 400).length := by rw [List.length_take]; omega
    have h3 : Rd w0 L (.slice A s.data.length c) 1 (s.data.take 400).length (bytes (s.data.take 400)) := by rw [List.take_of_length_le (by omega)]; exact hx0
    rw [hle] at h3 ⊢
    refine SC.skip ?_
    refine SX.seq ?_
    refine SC.seq ?_
    refine SC.plain ?_
    refine St.fieldAddr (off := 0) rfl rfl (by kernel_rfl) ?_
    refine St.load rfl rfl (by kernel_rfl) (by first | exact Holds.row mem0 rfl | exact Holds.row mem1 rfl | exact Holds.row mem2 rfl | exact Holds.row mem3 rfl | exact Holds.row mem4 rfl | exact Holds.row mem5 rfl | exact Holds.row mem6 rfl | exact Holds.row mem7 rfl | exact Holds.row mem8 rfl) ?_
    refine St.convZ un8 rfl rfl (by kernel_rfl) (by kernel_rfl) ?_
    rw [u8i_conv]
    refine St.buildSl (n := 1) (e := 5) [(0, .int .u8 ((u8i s.ty : Nat) : Int))] (bytes [u8i s.ty]) rfl rfl (by kernel_rfl) (fun _ _ h => h.nil) (fun b15 => ?_)
    have hb0 : Buf 5 1 (.slice (some ⟨b15, 0, none⟩) 1 1) (bytes [u8i s.ty]) 1 [⟨b15, bytes [u8i s.ty], 5⟩] := Buf.whole rfl
    refine St.assign rfl rfl ?_
    refine St.done ?_
    refine SX.seq ?_
    refine SC.seq ?_
    refine SC.plain ?_
    refine St.move rfl rfl ?_
    refine St.fieldAddr (off := 1) rfl rfl (by kernel_rfl) ?_
    refine St.load rfl rfl (by kernel_rfl) (by first | exact Holds.row mem0 rfl | exact Holds.row mem1 rfl | exact Holds.row mem2 rfl | exact Holds.row mem3 rfl | exact Holds.row mem4 rfl | exact Holds.row mem5 rfl | exact Holds.row mem6 rfl | exact Holds.row mem7 rfl | exact Holds.row mem8 rfl) ?_
    refine St.convZ un32 rfl rfl (by kernel_rfl) (by kernel_rfl) ?_
    rw [u32i_conv]
    refine St.call [_] rfl (by kernel_rfl) rfl (word4_spec w0 _ (u32i s.id)) (by first | exact fun _ _ _ _ h => h.nil | assumption) ?_
    rintro r5 L1 ⟨Ew5, rfl, hw5⟩
    refine St.append1 (e := 5) (sz := 1) (bytes := 1) (xs := bytes ([u8i s.ty])) (n := 1) (news := bytes (four (u32i s.id))) (m := 4) rfl rfl rfl (by kernel_rfl) hb0 (hw5.rd (by simp)) (bytes_one _) (by omega) (by omega) (fun _ _ h => h.nil) (fun v55 E55 hb1 _ => ?_)
    rw [← bytes_app] at hb1
    refine St.drop ?_
    refine St.assign rfl rfl ?_
    refine St.done ?_
    refine SX.seq ?_
    refine SC.seq ?_
    refine SC.plain ?_
    refine St.move rfl rfl ?_
    refine St.fieldAddr (off := 2) rfl rfl (by kernel_rfl) ?_
    refine St.load rfl rfl (by kernel_rfl) (by first | exact Holds.row mem0 rfl | exact Holds.row mem1 rfl | exact Holds.row mem2 rfl | exact Holds.row mem3 rfl | exact Holds.row mem4 rfl | exact Holds.row mem5 rfl | exact Holds.row mem6 rfl | exact Holds.row mem7 rfl | exact Holds.row mem8 rfl) ?_
    refine St.convZ un32 rfl rfl (by kernel_rfl) (by kernel_rfl) ?_
    rw [u32i_conv]
    refine St.call [_] rfl (by kernel_rfl) rfl (word4_spec w0 _ (u32i s.seq)) (by first | exact fun _ _ _ _ h => h.nil | assumption) ?_
    rintro r6 L1 ⟨Ew6, rfl, hw6⟩
    refine St.append1 (e := 5) (sz := 1) (bytes := 1) (xs := bytes ([u8i s.ty] ++ four (u32i s.id))) (n := 5) (news := bytes (four (u32i s.seq))) (m := 4) rfl rfl rfl (by kernel_rfl) hb1 (hw6.rd (by simp)) (bytes_one _) (by omega) (by omega) (fun _ _ h => h.nil) (fun v66 E66 hb2 _ => ?_)
    rw [← bytes_app] at hb2
    refine St.drop ?_
    refine St.assign rfl rfl ?_
    refine St.done ?_
    refine SX.seq ?_
    refine SC.seq ?_
    refine SC.plain ?_
    refine St.move rfl rfl ?_
    refine St.fieldAddr (off := 3) rfl rfl (by kernel_rfl) ?_
    refine St.load rfl rfl (by kernel_rfl) (by first | exact Holds.row mem0 rfl | exact Holds.row mem1 rfl | exact Holds.row mem2 rfl | exact Holds.row mem3 rfl | exact Holds.row mem4 rfl | exact Holds.row mem5 rfl | exact Holds.row mem6 rfl | exact Holds.row mem7 rfl | exact Holds.row mem8 rfl) ?_
    refine St.convZ un32 rfl rfl (by kernel_rfl) (by kernel_rfl) ?_
    rw [u32i_conv]
    refine St.call [_] rfl (by kernel_rfl) rfl (word4_spec w0 _ (u32i s.ack)) (by first | exact fun _ _ _ _ h => h.nil | assumption) ?_
    rintro r7 L1 ⟨Ew7, rfl, hw7⟩
    refine St.append1 (e := 5) (sz := 1) (bytes := 1) (xs := bytes ([u8i s.ty] ++ four (u32i s.id) ++ four (u32i s.seq))) (n := 9) (news := bytes (four (u32i s.ack))) (m := 4) rfl rfl rfl (by kernel_rfl) hb2 (hw7.rd (by simp)) (bytes_one _) (by omega) (by omega) (fun _ _ h => h.nil) (fun v77 E77 hb3 _ => ?_)
    rw [← bytes_app] at hb3
    refine St.drop ?_
    refine St.assign rfl rfl ?_
    refine St.done ?_
    refine SX.seq ?_
    refine SC.seq ?_
    refine SC.plain ?_
    refine St.move rfl rfl ?_
    refine St.move rfl rfl ?_
    refine St.lenSl rfl rfl (by kernel_rfl) ?_
    first | refine St.shrN (b := 8) rfl rfl rfl (by omega) ?_ | refine St.shr rfl rfl rfl (by omega) ?_
    refine St.convU un8 rfl rfl (by kernel_rfl) (by kernel_rfl) ?_
    refine St.move rfl rfl ?_
    refine St.lenSl rfl rfl (by kernel_rfl) ?_
    refine St.convU un8 rfl rfl (by kernel_rfl) (by kernel_rfl) ?_
    refine St.buildSl (n := 2) (e := 5) [(0, .int .u8 (((s.data.take 400).length / 2 ^ 8 % 256 : Nat) : Int)), (1, .int .u8 (((s.data.take 400).length % 256 : Nat) : Int))] (bytes [(s.data.take 400).length / 256 % 256, (s.data.take 400).length % 256]) rfl rfl (by kernel_rfl) (fun _ _ h => h.nil) (fun b36 => ?_)
    refine St.append1 (e := 5) (sz := 1) (bytes := 1) (xs := bytes ([u8i s.ty] ++ four (u32i s.id) ++ four (u32i s.seq) ++ four (u32i s.ack))) (n := 13) (news := bytes [(s.data.take 400).length / 256 % 256, (s.data.take 400).length % 256]) (m := 2) rfl rfl rfl (by kernel_rfl) hb3 (Rd.row rfl mem0) (bytes_one _) (by omega) (by omega) (fun _ _ h => h.nil) (fun v5 E5 hb5 _ => ?_)
    rw [← bytes_app] at hb5
    refine St.drop ?_
    refine St.assign rfl rfl ?_
    refine St.done ?_
    refine SX.seq ?_
    refine SC.seq ?_
    refine SC.plain ?_
    refine St.move rfl rfl ?_
    refine St.move rfl rfl ?_
    refine St.append (e := 5) (sz := 1) (bytes := 1) (xs := bytes ([u8i s.ty] ++ four (u32i s.id) ++ four (u32i s.seq) ++ four (u32i s.ack) ++ [(s.data.take 400).length / 256 % 256, (s.data.take 400).length % 256])) (n := 15) (news := bytes (s.data.take 400)) (m := (s.data.take 400).length) rfl rfl rfl (by kernel_rfl) hb5 (Rd.mono h3 (fun w hw => by first | exact hw | exact hw.drop | exact hw.drop.drop | exact hw.drop.drop.drop | exact hw.drop.drop.drop.drop | exact hw.drop.drop.drop.drop.drop | exact hw.drop.drop.drop.drop.drop.drop | exact hw.drop.drop.drop.drop.drop.drop.drop | exact hw.drop.drop.drop.drop.drop.drop.drop.drop)) (bytes_one _) (by omega) (by omega) (fun _ _ h => h.nil) (fun v6 E6 hb6 _ => ?_)
    rw [← bytes_app] at hb6
    have hbody : ([u8i s.ty] ++ four (u32i s.id) ++ four (u32i s.seq) ++ four (u32i s.ack)) ++ [(s.data.take 400).length / 256 % 256, (s.data.take 400).length % 256] ++ s.data.take 400 = segBody s := by simp [segBody, segHead]
    rw [hbody, ← segBody_len] at hb6
    have hbl := segBody_len s
    have hblt := segBody_lt hb
    have hbt := text_size (segBody s)
    have hut := u8s_text (segBody s) hblt
    refine St.assign rfl rfl ?_
    refine St.done ?_
    refine SX.seq ?_
    refine SC.seq ?_
    refine SC.plain ?_
    refine St.move rfl rfl ?_
    refine St.move rfl rfl ?_
    refine St.toStr (e := 5) (bs := segBody s) (n := (segBody s).length) rfl rfl (hb6.rd (by simp [Lq])) (by kernel_rfl) (by kernel_rfl) (by kernel_rfl) ?_
    refine St.call [_] rfl (by kernel_rfl) rfl (rcrc_spec w0 _ (text (segBody s)) (by omega)) (by first | exact fun _ _ _ _ h => h.nil | assumption) ?_
    rw [hut]
    rintro r7 L1 ⟨rfl, rfl⟩
    refine St.call [_] rfl (by kernel_rfl) rfl (word4_spec w0 _ (crc (segBody s))) (by first | exact fun _ _ _ _ h => h.nil | assumption) ?_
    rintro r8 L1 ⟨E8, rfl, hw8⟩
    refine St.append1 (e := 5) (sz := 1) (bytes := 1) (xs := bytes (segBody s)) (n := (segBody s).length) (news := bytes (four (crc (segBody s)))) (m := 4) rfl rfl rfl (by kernel_rfl) hb6 (hw8.rd (by simp)) (bytes_one _) (by omega) (by omega) (fun _ _ h => h.nil) (fun v9 E9 hb9 _ => ?_)
    rw [← bytes_app] at hb9
    refine St.drop ?_
    rw [show (segBody s).length + 4 = (segOf s).length by rw [segOf_len, segBody_len]; omega] at hb9
    refine St.toStr (e := 5) (bs := segOf s) (n := (segOf s).length) rfl rfl (hb9.rd (by simp [Lq])) (by kernel_rfl) (by kernel_rfl) (by kernel_rfl) ?_
    refine St.assign rfl rfl ?_
    refine St.done ?_
    refine SX.seq ?_
    refine SC.ret ?_
    refine SX.drop (SX.drop ?_)
    exact SX.ret1 rfl rfl ⟨rfl, rfl⟩
end Go.Proofs.Ytahafepgmkiabaa
