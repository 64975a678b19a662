/- Plain: a text and a match in the fixed codes. -/
import Derived.Test.YtahafepgmkiabaaP2
import Derived.Test.YtahafepgmkiabaaJ7
set_option linter.unusedVariables false
set_option linter.unusedSimpArgs false
namespace Go.Proofs.Ytahafepgmkiabaa
open Go Go.Proofs.Ytahafepgmkiabaa.Sep Go.Proofs.Ytahafepgmkiabaa.Inf

def stepC (d : Nat) (o : List Nat) : List Nat := o ++ [o.getD (o.length - d) 0]
/-- What a match makes: so many bytes more, each the one that stands d ahead. -/
def wantTo (d : Nat) (o : List Nat) : Nat → List Nat
  | 0 => o
  | n + 1 => stepC d (wantTo d o n)
theorem want_len (d : Nat) (o : List Nat) : ∀ n, (wantTo d o n).length = o.length + n
  | 0 => rfl
  | n + 1 => by simp only [wantTo, stepC, List.length_append, want_len d o n, List.length_singleton]; omega
theorem want_front (d : Nat) (o : List Nat) : ∀ n, wantTo d (stepC d o) n = wantTo d o (n + 1)
  | 0 => rfl
  | n + 1 => by simp only [wantTo]; rw [want_front d o n]; rfl
theorem getD_lt' {o : List Nat} (h : ∀ b ∈ o, b < 256) (i : Nat) : o.getD i 0 < 256 := getD_lt h i
theorem want_lt {d : Nat} {o : List Nat} (h : ∀ b ∈ o, b < 256) : ∀ n, ∀ b ∈ wantTo d o n, b < 256
  | 0 => h
  | n + 1 => fun b hb => by
    rcases List.mem_append.1 hb with hb | hb
    · exact want_lt h n b hb
    · rw [List.mem_singleton.1 hb]; exact getD_lt (want_lt h n) _
theorem copy_all (d : Nat) {bs : List Nat} {most p : Nat} : ∀ (n : Nat) (o : List Nat), o.length + n ≤ most → copyR d n bs most p o = .ok () p (wantTo d o n)
  | 0, o, _ => rfl
  | n + 1, o, h => by
    rw [copy_succ, bind_of (show putR (o.getD (o.length - d) 0) bs most p o = .ok () p (stepC d o) from if_neg (by omega)), copy_all d n (stepC d o) (by simp only [stepC, List.length_append, List.length_singleton]; omega), want_front]
def matchBits (cs : List Nat) (n d : Nat) : List Nat := [1, 1, 0] ++ (textBits cs ++ (symBits (254 + n) ++ (highBits (d - 1) 5 ++ symBits 256)))
theorem matchBits_bits (cs : List Nat) (n d : Nat) : Bits (matchBits cs n d) :=
  bits_app (by intro w h; simp at h; omega) (bits_app (textBits_bits cs) (bits_app (symBits_bits _) (bits_app (highBits_bits _ _) (symBits_bits 256))))
theorem match_law (F g : Nat) (cs : List Nat) (hc : ∀ c ∈ cs, c < 256) (hF : cs.length + 1 < F) (n d most : Nat) (hn : 3 ≤ n) (hn2 : n ≤ 10) (hd : 1 ≤ d) (hd2 : d ≤ 4) (hm : cs.length + n ≤ most) :
    rawR F (g + 1) (pack (matchBits cs n d)) most 0 [] = (if cs.length < d then .bad 3 else .ok () (matchBits cs n d).length (wantTo d cs n)) := by
  have hb := matchBits_bits cs n d
  have hbr : Bits (textBits cs ++ (symBits (254 + n) ++ (highBits (d - 1) 5 ++ symBits 256))) := bits_app (textBits_bits cs) (bits_app (symBits_bits _) (bits_app (highBits_bits _ _) (symBits_bits 256)))
  unfold matchBits at hb ⊢
  rw [fixed_head F g _ hbr]
  obtain ⟨f, rfl⟩ : ∃ f, F = (f + 2) + cs.length := ⟨F - cs.length - 2, by omega⟩
  have h1 := text_read fixedDist (f + 2) most cs [1, 1, 0] (symBits (254 + n) ++ (highBits (d - 1) 5 ++ symBits 256)) [] hc hb (by simp; omega)
  rw [coded_succ] at h1
  have e1 : [1, 1, 0] ++ (textBits cs ++ (symBits (254 + n) ++ (highBits (d - 1) 5 ++ symBits 256))) = ([1, 1, 0] ++ textBits cs) ++ (symBits (254 + n) ++ (highBits (d - 1) 5 ++ symBits 256)) := by simp only [List.append_assoc]
  have e2 : [1, 1, 0] ++ (textBits cs ++ (symBits (254 + n) ++ (highBits (d - 1) 5 ++ symBits 256))) = (([1, 1, 0] ++ textBits cs) ++ symBits (254 + n)) ++ (highBits (d - 1) 5 ++ symBits 256) := by simp only [List.append_assoc]
  have e3 : [1, 1, 0] ++ (textBits cs ++ (symBits (254 + n) ++ (highBits (d - 1) 5 ++ symBits 256))) = ((([1, 1, 0] ++ textBits cs) ++ symBits (254 + n)) ++ highBits (d - 1) 5) ++ (symBits 256 ++ []) := by simp only [List.append_assoc, List.append_nil]
  have r1 := sym_read ([1, 1, 0] ++ textBits cs) (highBits (d - 1) 5 ++ symBits 256) (254 + n) (by omega) (e1 ▸ hb) most ([] ++ cs)
  have r2 := dist_read (([1, 1, 0] ++ textBits cs) ++ symBits (254 + n)) (symBits 256) (d - 1) (by omega) (e2 ▸ hb) most ([] ++ cs)
  have r3 := sym_read ((([1, 1, 0] ++ textBits cs) ++ symBits (254 + n)) ++ highBits (d - 1) 5) [] 256 (by omega) (e3 ▸ hb) most (wantTo d cs n)
  rw [← e1] at r1
  rw [← e2] at r2
  rw [← e3] at r3
  generalize hW : [1, 1, 0] ++ (textBits cs ++ (symBits (254 + n) ++ (highBits (d - 1) 5 ++ symBits 256))) = W at *
  rw [List.nil_append] at r1 r2 h1
  rw [bind_of r1, ifR_neg (by omega), ifR_neg (by omega), ifR_neg (by omega), Int.toNat_natCast] at h1
  have hlen : ∀ p, lenR (254 + n) (pack W) most p cs = .ok n p cs := fun p => by
    unfold lenR
    rw [ifR_pos (by omega), show 254 + n - 254 = n by omega]; rfl
  have hdist : ∀ p, distR (d - 1) (pack W) most p cs = .ok d p cs := fun p => by
    unfold distR
    rw [ifR_pos (by omega), show d - 1 + 1 = d by omega]; rfl
  have hmt : matchR fixedDist (254 + n) (pack W) most (([1, 1, 0] ++ textBits cs) ++ symBits (254 + n)).length cs = (if cs.length < d then .bad 3 else .ok () ((([1, 1, 0] ++ textBits cs) ++ symBits (254 + n)) ++ highBits (d - 1) 5).length (wantTo d cs n)) := by
    unfold matchR
    rw [bind_of (hlen _), bind_of r2, ifR_neg (by omega), Int.toNat_natCast, bind_of (hdist _), bind_of (show outR (pack W) most _ cs = .ok cs _ cs from rfl)]
    by_cases h : cs.length < d
    · rw [ifR_pos h, if_pos h]; rfl
    · rw [ifR_neg h, if_neg h, copy_all d n cs (by omega)]
  by_cases h : cs.length < d
  · rw [if_pos h] at hmt ⊢
    exact bind_bad (h1.trans (bind_bad hmt))
  · rw [if_neg h] at hmt ⊢
    have h2 := h1.trans ((bind_of hmt).trans ((coded_succ _ _ _ _ _ _ _).trans ((bind_of r3).trans ((ifR_neg (by decide)).trans (ifR_pos (by decide))))))
    refine (bind_of (m := codedR fixedLit fixedDist (f + 2 + cs.length)) (p := 3) (o := []) h2).trans ?_
    have : W.length = (((([1, 1, 0] ++ textBits cs) ++ symBits (254 + n)) ++ highBits (d - 1) 5) ++ symBits 256).length := by rw [← hW]; simp only [List.append_assoc]
    rw [this]; rfl
end Go.Proofs.Ytahafepgmkiabaa
