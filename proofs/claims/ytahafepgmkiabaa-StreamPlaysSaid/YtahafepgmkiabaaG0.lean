/- Plain segments: how they are written, and which bytes are one. -/
import Derived.Test.YtahafepgmkiabaaS5
set_option linter.unusedVariables false
set_option linter.unusedSimpArgs false
namespace Go.Proofs.Ytahafepgmkiabaa
open Go Go.Proofs.Ytahafepgmkiabaa.Sep

/-- A whole number's lowest 32 bits; its lowest 8. -/
def u32i (n : Int) : Nat := (n % 4294967296).toNat
def u8i (n : Int) : Nat := (n % 256).toNat
theorem u32i_lt (n : Int) : u32i n < 4294967296 := by unfold u32i; omega
theorem u8i_lt (n : Int) : u8i n < 256 := by unfold u8i; omega
theorem u32i_of {n : Int} (h0 : 0 ≤ n) (h1 : n < 4294967296) : (u32i n : Int) = n := by unfold u32i; omega
theorem u8i_of {n : Int} (h0 : 0 ≤ n) (h1 : n < 256) : (u8i n : Int) = n := by unfold u8i; omega
structure Seg where
  ty : Int
  id : Int
  seq : Int
  ack : Int
  data : List Nat
def segHead (s : Seg) : List Nat := u8i s.ty :: (four (u32i s.id) ++ (four (u32i s.seq) ++ four (u32i s.ack)))
def segBody (s : Seg) : List Nat := segHead s ++ ((s.data.take 400).length / 256 % 256 :: (s.data.take 400).length % 256 :: s.data.take 400)
def segOf (s : Seg) : List Nat := segBody s ++ four (crc (segBody s))
def num (bs : List Nat) (i : Nat) : Nat := be32 (bs.getD i 0) (bs.getD (i + 1) 0) (bs.getD (i + 2) 0) (bs.getD (i + 3) 0)
def isSeg (bs : List Nat) : Bool :=
  decide (19 ≤ bs.length) && decide (bs.length ≤ 419) && decide (bs.getD 13 0 * 256 + bs.getD 14 0 = bs.length - 19) && decide (1 ≤ bs.getD 0 0) && decide (bs.getD 0 0 ≤ 5) && decide (crc (bs.take (bs.length - 4)) = num bs (bs.length - 4))
def noSeg : Seg := ⟨0, 0, 0, 0, []⟩
def segFrom (bs : List Nat) : Seg := if isSeg bs then ⟨bs.getD 0 0, num bs 1, num bs 5, num bs 9, (bs.drop 15).take (bs.length - 19)⟩ else noSeg
theorem segHead_len (s : Seg) : (segHead s).length = 13 := rfl
theorem segBody_len (s : Seg) : (segBody s).length = 15 + (s.data.take 400).length := by
  simp only [segBody, List.length_append, segHead_len, List.length_cons]; omega
theorem segOf_len (s : Seg) : (segOf s).length = 19 + (s.data.take 400).length := by
  simp only [segOf, List.length_append, segBody_len, four_len]; omega
theorem segHead_lt (s : Seg) : ∀ b ∈ segHead s, b < 256 := by
  intro b hb
  simp only [segHead, List.mem_cons, List.mem_append] at hb
  rcases hb with rfl | hb | hb | hb
  · exact u8i_lt _
  · exact four_lt _ b hb
  · exact four_lt _ b hb
  · exact four_lt _ b hb
theorem segBody_lt {s : Seg} (h : ∀ b ∈ s.data, b < 256) : ∀ b ∈ segBody s, b < 256 := by
  intro b hb
  simp only [segBody, List.mem_append, List.mem_cons] at hb
  rcases hb with hb | rfl | rfl | hb
  · exact segHead_lt s b hb
  · exact Nat.mod_lt _ (by decide)
  · exact Nat.mod_lt _ (by decide)
  · exact h b (List.mem_of_mem_take hb)
theorem segOf_lt {s : Seg} (h : ∀ b ∈ s.data, b < 256) : ∀ b ∈ segOf s, b < 256 := by
  intro b hb
  simp only [segOf, List.mem_append] at hb
  rcases hb with hb | hb
  · exact segBody_lt h b hb
  · exact four_lt _ b hb
theorem seg_take (s : Seg) : (segOf s).take ((segOf s).length - 4) = segBody s := by
  have : (segOf s).length - 4 = (segBody s).length := by rw [segOf_len, segBody_len]; omega
  rw [this]
  unfold segOf
  rw [List.take_left']
  rfl
theorem num_app (a : List Nat) (n : Nat) (hn : n < 4294967296) (b : List Nat) : num (a ++ (four n ++ b)) a.length = n := by
  have g : ∀ j, j < 4 → (a ++ (four n ++ b)).getD (a.length + j) 0 = (four n).getD j 0 := fun j hj => by
    rw [List.getD_eq_getElem?_getD, List.getElem?_append_right (by omega), show a.length + j - a.length = j by omega, List.getElem?_append_left (by rw [four_len]; exact hj), List.getD_eq_getElem?_getD]
  unfold num
  rw [show a.length = a.length + 0 by omega, g 0 (by omega), show a.length + 0 + 1 = a.length + 1 by omega, show a.length + 0 + 2 = a.length + 2 by omega, show a.length + 0 + 3 = a.length + 3 by omega, g 1 (by omega), g 2 (by omega), g 3 (by omega)]
  exact be_four n hn
theorem seg_num (s : Seg) : num (segOf s) ((segOf s).length - 4) = crc (segBody s) % 4294967296 := by
  have e : (segOf s).length - 4 = (segBody s).length := by rw [segOf_len, segBody_len]; omega
  have hm : crc (segBody s) % 4294967296 < 4294967296 := Nat.mod_lt _ (by decide)
  have hf : four (crc (segBody s)) = four (crc (segBody s) % 4294967296) := by
    unfold four
    congr 1
    · omega
    · congr 1
      · omega
      · congr 1
        · omega
        · congr 1; omega
  rw [e]
  unfold segOf
  rw [hf]
  have := num_app (segBody s) (crc (segBody s) % 4294967296) hm []
  rw [List.append_nil] at this
  exact this
/-- What is written is read as it was. -/
theorem seg_back {s : Seg} (hd : ∀ b ∈ s.data, b < 256) (hty : 1 ≤ s.ty ∧ s.ty ≤ 5) : isSeg (segOf s) = true ∧ segFrom (segOf s) = ⟨s.ty, u32i s.id, u32i s.seq, u32i s.ack, s.data.take 400⟩ := by
  have hl : (s.data.take 400).length ≤ 400 := by rw [List.length_take]; omega
  have hn := segOf_len s
  have hb := segBody_lt hd
  have hc := crc_lt hb
  have e0 : (segOf s).getD 0 0 = u8i s.ty := rfl
  have e13 : (segOf s).getD 13 0 = (s.data.take 400).length / 256 % 256 := rfl
  have e14 : (segOf s).getD 14 0 = (s.data.take 400).length % 256 := rfl
  have hu := u8i_of (n := s.ty) (by omega) (by omega)
  have hseg : isSeg (segOf s) = true := by
    unfold isSeg
    rw [e0, e13, e14, seg_take, seg_num, Nat.mod_eq_of_lt hc]
    simp only [Bool.and_eq_true, decide_eq_true_eq]
    exact ⟨⟨⟨⟨⟨by omega, by omega⟩, by omega⟩, by omega⟩, by omega⟩, trivial⟩
  refine ⟨hseg, ?_⟩
  unfold segFrom
  rw [if_pos hseg]
  have n1 : num (segOf s) 1 = u32i s.id := by
    have : segOf s = [u8i s.ty] ++ (four (u32i s.id) ++ (four (u32i s.seq) ++ four (u32i s.ack) ++ ((s.data.take 400).length / 256 % 256 :: (s.data.take 400).length % 256 :: s.data.take 400) ++ four (crc (segBody s)))) := by
      simp [segOf, segBody, segHead]
    rw [this]
    exact num_app [u8i s.ty] _ (u32i_lt _) _
  have n5 : num (segOf s) 5 = u32i s.seq := by
    have : segOf s = ([u8i s.ty] ++ four (u32i s.id)) ++ (four (u32i s.seq) ++ (four (u32i s.ack) ++ ((s.data.take 400).length / 256 % 256 :: (s.data.take 400).length % 256 :: s.data.take 400) ++ four (crc (segBody s)))) := by
      simp [segOf, segBody, segHead]
    rw [this]
    exact num_app ([u8i s.ty] ++ four (u32i s.id)) _ (u32i_lt _) _
  have n9 : num (segOf s) 9 = u32i s.ack := by
    have : segOf s = ([u8i s.ty] ++ four (u32i s.id) ++ four (u32i s.seq)) ++ (four (u32i s.ack) ++ (((s.data.take 400).length / 256 % 256 :: (s.data.take 400).length % 256 :: s.data.take 400) ++ four (crc (segBody s)))) := by
      simp [segOf, segBody, segHead]
    rw [this]
    exact num_app ([u8i s.ty] ++ four (u32i s.id) ++ four (u32i s.seq)) _ (u32i_lt _) _
  have hdrop : ((segOf s).drop 15).take ((segOf s).length - 19) = s.data.take 400 := by
    have : (segOf s).drop 15 = s.data.take 400 ++ four (crc (segBody s)) := rfl
    rw [this, hn, show 19 + (s.data.take 400).length - 19 = (s.data.take 400).length by omega, List.take_left']
    rfl
  rw [e0, n1, n5, n9, hdrop, hu]
end Go.Proofs.Ytahafepgmkiabaa
