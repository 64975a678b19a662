/- Plain: texts written with the fixed codes are read back. -/
import Derived.Test.YtahafepgmkiabaaW0
import Derived.Test.YtahafepgmkiabaaI0
import Derived.Test.YtahafepgmkiabaaJ4
set_option linter.unusedVariables false
set_option linter.unusedSimpArgs false
namespace Go.Proofs.Ytahafepgmkiabaa
open Go Go.Proofs.Ytahafepgmkiabaa.Sep Go.Proofs.Ytahafepgmkiabaa.Inf

theorem lit_get (m : Nat) (h : m < 288) : fixedLit.getD m 0 = litAt m := by
  rw [← fill_lit]
  unfold fillL
  rw [List.getD_eq_getElem?_getD, List.getElem?_append_left (by simp; omega), List.getElem?_map, List.getElem?_range h]; rfl
theorem five_get (m : Nat) (h : m < 32) : fixedDist.getD m 0 = 5 := by
  rw [← fill_dist]
  unfold fillL
  rw [List.getD_eq_getElem?_getD, List.getElem?_append_left (by simp; omega), List.getElem?_map, List.getElem?_range h]; rfl
theorem start7 : start fixedLit 7 = 0 := by kernel_rfl
theorem start8 : start fixedLit 8 = 48 := by kernel_rfl
theorem start9 : start fixedLit 9 = 400 := by kernel_rfl
theorem start5 : start fixedDist 5 = 0 := by kernel_rfl
theorem cnt_step (xs : List Int) (l m : Nat) : cnt xs l (m + 1) = cnt xs l m + (if xs.getD m 0 = (l : Int) then 1 else 0) := rfl
theorem cnt8 : ∀ c, c ≤ 144 → cnt fixedLit 8 c = c
  | 0, _ => rfl
  | c + 1, h => by rw [cnt_step, cnt8 c (by omega), lit_get c (by omega), if_pos (by unfold litAt; rw [if_pos (by omega)]; rfl)]
theorem cnt9lo : ∀ c, c ≤ 144 → cnt fixedLit 9 c = 0
  | 0, _ => rfl
  | c + 1, h => by rw [cnt_step, cnt9lo c (by omega), lit_get c (by omega), if_neg (by unfold litAt; rw [if_pos (by omega)]; decide)]
theorem cnt9 : ∀ c, c ≤ 112 → cnt fixedLit 9 (144 + c) = c
  | 0, _ => cnt9lo 144 (by omega)
  | c + 1, h => by rw [show 144 + (c + 1) = (144 + c) + 1 by omega, cnt_step, cnt9 c (by omega), lit_get _ (by omega), if_pos (by unfold litAt; rw [if_neg (by omega), if_pos (by omega)]; rfl)]
theorem cnt7lo : ∀ c, c ≤ 256 → cnt fixedLit 7 c = 0
  | 0, _ => rfl
  | c + 1, h => by rw [cnt_step, cnt7lo c (by omega), lit_get c (by omega), if_neg (by unfold litAt; split; decide; rw [if_pos (by omega)]; decide)]
theorem cnt7 : ∀ c, c ≤ 24 → cnt fixedLit 7 (256 + c) = c
  | 0, _ => cnt7lo 256 (by omega)
  | c + 1, h => by rw [show 256 + (c + 1) = (256 + c) + 1 by omega, cnt_step, cnt7 c (by omega), lit_get _ (by omega), if_pos (by unfold litAt; rw [if_neg (by omega), if_neg (by omega), if_pos (by omega)]; rfl)]
theorem cnt5 : ∀ c, c ≤ 32 → cnt fixedDist 5 c = c
  | 0, _ => rfl
  | c + 1, h => by rw [cnt_step, cnt5 c (by omega), five_get c (by omega), if_pos (show (5 : Int) = ((5 : Nat) : Int) from rfl)]
/-- The fixed codes, as the document writes them. -/
def litCode (s : Nat) : Nat := if s < 144 then 48 + s else if s < 256 then 400 + (s - 144) else s - 256
def litLen (s : Nat) : Nat := if s < 144 then 8 else if s < 256 then 9 else 7
theorem lit_code (s : Nat) (h : s < 280) : codeOf fixedLit s = litCode s ∧ (fixedLit.getD s 0).toNat = litLen s ∧ 1 ≤ fixedLit.getD s 0 := by
  have hg := lit_get s (by omega)
  unfold litAt at hg
  unfold codeOf litCode litLen
  by_cases h1 : s < 144
  · rw [if_pos h1] at hg; rw [hg, if_pos h1, if_pos h1]
    exact ⟨by show start fixedLit 8 + cnt fixedLit 8 s = _; rw [start8, cnt8 s (by omega)], rfl, by decide⟩
  · by_cases h2 : s < 256
    · rw [if_neg h1, if_pos h2] at hg; rw [hg, if_neg h1, if_pos h2, if_neg h1, if_pos h2]
      refine ⟨?_, rfl, by decide⟩
      show start fixedLit 9 + cnt fixedLit 9 s = _
      have := cnt9 (s - 144) (by omega)
      rw [show 144 + (s - 144) = s by omega] at this
      rw [start9, this]
    · rw [if_neg h1, if_neg h2, if_pos h] at hg; rw [hg, if_neg h1, if_neg h2, if_neg h1, if_neg h2]
      refine ⟨?_, rfl, by decide⟩
      show start fixedLit 7 + cnt fixedLit 7 s = _
      have := cnt7 (s - 256) (by omega)
      rw [show 256 + (s - 256) = s by omega] at this
      rw [start7, this, Nat.zero_add]
theorem dist_code (s : Nat) (h : s < 32) : codeOf fixedDist s = s ∧ (fixedDist.getD s 0).toNat = 5 ∧ 1 ≤ fixedDist.getD s 0 := by
  have hg := five_get s h
  unfold codeOf
  rw [hg]
  exact ⟨by show start fixedDist 5 + cnt fixedDist 5 s = _; rw [start5, cnt5 s (by omega), Nat.zero_add], rfl, by decide⟩
/-- A symbol's bits. -/
def symBits (s : Nat) : List Nat := highBits (litCode s) (litLen s)
theorem symBits_bits (s : Nat) : Bits (symBits s) := highBits_bits _ _
theorem symBits_len (s : Nat) : (symBits s).length = litLen s := highBits_len _ _
theorem sym_read (a b : List Nat) (s : Nat) (hs : s < 280) (h : Bits (a ++ (symBits s ++ b))) (most : Nat) (o : List Nat) : symR fixedLit (pack (a ++ (symBits s ++ b))) most a.length o = .ok (s : Int) (a ++ symBits s).length o := by
  obtain ⟨h1, h2, h3⟩ := lit_code s hs
  have hst := stands_pack (litCode s) (litLen s) h
  rw [← h1, ← h2] at hst
  have := read_back lit_codes (by rw [lit_len]; omega) h3 a.length hst
  unfold symR
  unfold symBits
  rw [h1, h2] at this
  rw [this, if_pos rfl, List.length_append, highBits_len]
theorem dist_read (a b : List Nat) (s : Nat) (hs : s < 32) (h : Bits (a ++ (highBits s 5 ++ b))) (most : Nat) (o : List Nat) : symR fixedDist (pack (a ++ (highBits s 5 ++ b))) most a.length o = .ok (s : Int) (a ++ highBits s 5).length o := by
  obtain ⟨h1, h2, h3⟩ := dist_code s hs
  have hst := stands_pack s 5 h
  rw [← h2] at hst
  have hst2 : Stands (pack (a ++ (highBits s 5 ++ b))) a.length (codeOf fixedDist s) (fixedDist.getD s 0).toNat := by rw [h1]; rw [h2] at hst ⊢; exact hst
  have := read_back dist_codes (by rw [dist_len]; omega) h3 a.length hst2
  unfold symR
  rw [h2] at this
  rw [this, if_pos rfl, List.length_append, highBits_len]
def textBits : List Nat → List Nat
  | [] => []
  | c :: cs => symBits c ++ textBits cs
theorem textBits_bits : ∀ cs, Bits (textBits cs)
  | [] => by intro w h; cases h
  | c :: cs => bits_app (symBits_bits c) (textBits_bits cs)
theorem textBits_snoc : ∀ (cs : List Nat) (c : Nat), textBits (cs ++ [c]) = textBits cs ++ symBits c
  | [], c => by simp [textBits]
  | d :: cs, c => by simp only [List.cons_append, textBits, textBits_snoc cs c, List.append_assoc]
theorem textBits_len : ∀ cs, (textBits cs).length ≤ 9 * cs.length
  | [] => by simp [textBits]
  | c :: cs => by
    have := textBits_len cs
    have h9 : litLen c ≤ 9 := by unfold litLen; split; omega; split <;> omega
    simp only [textBits, List.length_append, symBits_len, List.length_cons]; omega
/-- A text in the fixed codes is read as that text. -/
theorem text_read (ds : List Int) (f most : Nat) : ∀ (cs a b : List Nat) (o : List Nat), (∀ c ∈ cs, c < 256) → Bits (a ++ (textBits cs ++ b)) → o.length + cs.length ≤ most →
    codedR fixedLit ds (f + cs.length) (pack (a ++ (textBits cs ++ b))) most a.length o = codedR fixedLit ds f (pack (a ++ (textBits cs ++ b))) most (a ++ textBits cs).length (o ++ cs)
  | [], a, b, o, _, _, _ => by simp [textBits]
  | c :: cs, a, b, o, hc, hb, hm => by
    have hc0 := hc c (by simp)
    simp only [List.length_cons] at hm
    have e : a ++ (textBits (c :: cs) ++ b) = a ++ (symBits c ++ (textBits cs ++ b)) := by simp only [textBits, List.append_assoc]
    rw [e] at hb ⊢
    rw [show f + (c :: cs).length = (f + cs.length) + 1 from rfl, coded_succ, bind_of (sym_read a (textBits cs ++ b) c (by omega) hb most o), ifR_pos (by omega), Int.toNat_natCast]
    rw [bind_of (show putR c _ most _ o = .ok () _ (o ++ [c]) from if_neg (by omega))]
    have e2 : a ++ (symBits c ++ (textBits cs ++ b)) = (a ++ symBits c) ++ (textBits cs ++ b) := by simp only [List.append_assoc]
    rw [e2] at hb ⊢
    rw [text_read ds f most cs (a ++ symBits c) b (o ++ [c]) (fun x hx => hc x (by simp [hx])) hb (by simp; omega)]
    simp only [textBits, List.append_assoc, List.singleton_append]
end Go.Proofs.Ytahafepgmkiabaa
