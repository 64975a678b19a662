/- Plain: stored blocks, one behind the other, are read as their bytes. -/
import Derived.Test.YtahafepgmkiabaaJ5
set_option linter.unusedVariables false
set_option linter.unusedSimpArgs false
namespace Go.Proofs.Ytahafepgmkiabaa
open Go Go.Proofs.Ytahafepgmkiabaa.Sep Go.Proofs.Ytahafepgmkiabaa.Inf

def blockOf (last : Nat) (l : List Nat) : List Nat := [last, l.length % 256, l.length / 256 % 256, 255 - l.length % 256, 255 - l.length / 256 % 256] ++ l
theorem blockOf_len (last : Nat) (l : List Nat) : (blockOf last l).length = 5 + l.length := by simp [blockOf]; omega
theorem blockOf_lt {last : Nat} {l : List Nat} (h1 : last < 256) (h : ∀ b ∈ l, b < 256) : ∀ b ∈ blockOf last l, b < 256 := by
  intro b hb
  unfold blockOf at hb
  rcases List.mem_append.1 hb with hb | hb
  · simp at hb; omega
  · exact h b hb
theorem body_read {bs : List Nat} {most : Nat} (hb : ∀ b ∈ bs, b < 256) : ∀ (n k : Nat) (o : List Nat), k + n ≤ bs.length → o.length + n ≤ most → storedBody n bs most (8 * k) o = .ok () (8 * (k + n)) (o ++ (bs.drop k).take n)
  | 0, k, o, _, _ => by simp [storedBody, pureR]
  | n + 1, k, o, h, hm => by
    rw [body_succ, bind_of (takeR_ok (by omega)), take8 bs k hb, bind_of (show putR (bs.getD k 0) bs most (8 * k + 8) o = .ok () (8 * k + 8) (o ++ [bs.getD k 0]) from if_neg (by omega)), show 8 * k + 8 = 8 * (k + 1) by omega,
      body_read hb n (k + 1) (o ++ [bs.getD k 0]) (by omega) (by simp; omega), show k + 1 + n = k + (n + 1) by omega, List.append_assoc]
    congr 2
    rw [List.drop_eq_getElem_cons (show k < bs.length by omega), List.take_succ_cons, List.getD_eq_getElem?_getD, List.getElem?_eq_getElem (by omega)]
    rfl
theorem mid_at (pre mid post : List Nat) (i : Nat) (h : i < mid.length) : (pre ++ (mid ++ post)).getD (pre.length + i) 0 = mid.getD i 0 := by
  rw [List.getD_eq_getElem?_getD, List.getElem?_append_right (by omega), Nat.add_sub_cancel_left, List.getElem?_append_left h, List.getD_eq_getElem?_getD]
/-- One stored block at a byte's edge. -/
theorem block_read (F g : Nat) (pre post l : List Nat) (last most : Nat) (o : List Nat) (hlast : last < 2) (hl : l.length ≤ 65535) (hb : ∀ b ∈ pre ++ (blockOf last l ++ post), b < 256) (hm : o.length + l.length ≤ most) :
    rawR F (g + 1) (pre ++ (blockOf last l ++ post)) most (8 * pre.length) o = (if last = 0 then rawR F g else pureR ()) (pre ++ (blockOf last l ++ post)) most (8 * (pre ++ blockOf last l).length) (o ++ l) := by
  have hbl := blockOf_len last l
  have htot : (pre ++ (blockOf last l ++ post)).length = pre.length + (5 + l.length + post.length) := by rw [List.length_append, List.length_append, hbl]
  have g0 := mid_at pre (blockOf last l) post 0 (by omega)
  have g1 := mid_at pre (blockOf last l) post 1 (by omega)
  have g2 := mid_at pre (blockOf last l) post 2 (by omega)
  have g3 := mid_at pre (blockOf last l) post 3 (by omega)
  have g4 := mid_at pre (blockOf last l) post 4 (by omega)
  have e0 : (blockOf last l).getD 0 0 = last := rfl
  have e1 : (blockOf last l).getD 1 0 = l.length % 256 := rfl
  have e2 : (blockOf last l).getD 2 0 = l.length / 256 % 256 := rfl
  have e3 : (blockOf last l).getD 3 0 = 255 - l.length % 256 := rfl
  have e4 : (blockOf last l).getD 4 0 = 255 - l.length / 256 % 256 := rfl
  have hd : ((pre ++ (blockOf last l ++ post)).drop (pre.length + 5)).take l.length = l := by
    rw [List.drop_append, List.drop_eq_nil_of_le (by omega), List.nil_append, Nat.add_sub_cancel_left]
    unfold blockOf
    rw [List.append_assoc, List.drop_append]
    simp
  generalize hW : pre ++ (blockOf last l ++ post) = W at *
  have t1 : takeN W (8 * pre.length) 1 = last := by
    have := take_byte W (8 * pre.length) 1 (by omega)
    rw [this, show 8 * pre.length / 8 = pre.length + 0 by omega, g0, e0, show 8 * pre.length % 8 = 0 by omega]; omega
  have t2 : takeN W (8 * pre.length + 1) 2 = 0 := by
    have := take_byte W (8 * pre.length + 1) 2 (by omega)
    rw [this, show (8 * pre.length + 1) / 8 = pre.length + 0 by omega, g0, e0, show (8 * pre.length + 1) % 8 = 1 by omega]; omega
  rw [raw_succ, bind_of (takeR_ok (by omega)), t1, bind_of (takeR_ok (by omega)), t2]
  have hs : storedR W most (8 * pre.length + 1 + 2) o = .ok () (8 * (pre ++ blockOf last l).length) (o ++ l) := by
    rw [stored_ok (pre.length + 1) (by omega) (by omega) hb]
    rw [show pre.length + 1 + 1 = pre.length + 2 by omega, show pre.length + 1 + 2 = pre.length + 3 by omega, show pre.length + 1 + 3 = pre.length + 4 by omega, g1, g2, g3, g4, e1, e2, e3, e4, ifR_pos (by omega),
      show l.length % 256 + 256 * (l.length / 256 % 256) = l.length by omega, show 8 * (pre.length + 1) + 32 = 8 * (pre.length + 5) by omega, body_read hb l.length (pre.length + 5) o (by omega) hm, hd, List.length_append, hbl, show pre.length + 5 + l.length = pre.length + (5 + l.length) by omega]
  rw [bind_of (show blockR F 0 W most (8 * pre.length + 1 + 2) o = _ from hs)]
def blocksOf : List (List Nat) → List Nat
  | [] => blockOf 1 []
  | l :: ls => blockOf 0 l ++ blocksOf ls
/-- Blocks one behind the other. -/
theorem blocks_read (F g most : Nat) (post : List Nat) : ∀ (ls : List (List Nat)) (pre o : List Nat), (∀ l ∈ ls, l.length ≤ 65535) → (∀ b ∈ pre ++ (blocksOf ls ++ post), b < 256) → o.length + ls.flatten.length ≤ most →
    rawR F (g + ls.length + 1) (pre ++ (blocksOf ls ++ post)) most (8 * pre.length) o = .ok () (8 * (pre ++ blocksOf ls).length) (o ++ ls.flatten)
  | [], pre, o, _, hb, hm => by
    simp only [blocksOf] at hb ⊢
    rw [show g + ([] : List (List Nat)).length + 1 = g + 1 from rfl, block_read F g pre post [] 1 most o (by omega) (by simp) hb (by simpa using hm), ifR_neg (by decide)]
    rfl
  | l :: ls, pre, o, hl, hb, hm => by
    have e : pre ++ (blocksOf (l :: ls) ++ post) = pre ++ (blockOf 0 l ++ (blocksOf ls ++ post)) := by simp only [blocksOf, List.append_assoc]
    have e2 : pre ++ (blockOf 0 l ++ (blocksOf ls ++ post)) = (pre ++ blockOf 0 l) ++ (blocksOf ls ++ post) := by simp only [List.append_assoc]
    rw [List.flatten_cons, List.length_append] at hm
    rw [e] at hb ⊢
    rw [show g + (l :: ls).length + 1 = (g + ls.length + 1) + 1 from rfl, block_read F (g + ls.length + 1) pre (blocksOf ls ++ post) l 0 most o (by omega) (hl l (by simp)) hb (by omega), ifR_pos rfl]
    rw [e2] at hb ⊢
    rw [blocks_read F g most post ls (pre ++ blockOf 0 l) (o ++ l) (fun x hx => hl x (by simp [hx])) hb (by rw [List.length_append]; omega)]
    simp only [blocksOf, List.append_assoc, List.flatten_cons]
end Go.Proofs.Ytahafepgmkiabaa
