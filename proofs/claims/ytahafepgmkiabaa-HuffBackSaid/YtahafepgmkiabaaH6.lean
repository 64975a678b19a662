/- The plain law of canonical codes: which number a symbol's code is, and how a reader finds it. -/
import Derived.Test.YtahafepgmkiabaaH4
import Derived.Test.YtahafepgmkiabaaNum
set_option linter.unusedVariables false
set_option linter.unusedSimpArgs false
namespace Go.Proofs.Ytahafepgmkiabaa
open Go Go.Proofs.Ytahafepgmkiabaa.Sep

/-- How many of the first m lengths are l. -/
def cnt (xs : List Int) (l : Nat) : Nat → Nat
  | 0 => 0
  | i + 1 => cnt xs l i + if xs.getD i 0 = (l : Int) then 1 else 0
/-- The number behind the last code of length k. -/
def behind (xs : List Int) : Nat → Nat
  | 0 => 0
  | k + 1 => 2 * behind xs k + cnt xs (k + 1) xs.length
/-- The first code of length k. -/
def start (xs : List Int) (k : Nat) : Nat := 2 * behind xs (k - 1)
def part (xs : List Int) (k : Nat) : Nat → Nat
  | 0 => 0
  | i + 1 => part xs k i + if 1 ≤ xs.getD i 0 ∧ xs.getD i 0 ≤ (k : Int) then 2 ^ (15 - (xs.getD i 0).toNat) else 0
theorem part_succ (xs : List Int) (k : Nat) (hk : k < 15) : ∀ m, part xs (k + 1) m = part xs k m + cnt xs (k + 1) m * 2 ^ (15 - (k + 1))
  | 0 => by simp [part, cnt]
  | i + 1 => by
    have ih := part_succ xs k hk i
    simp only [part, cnt]
    rw [ih]
    by_cases h1 : xs.getD i 0 = ((k + 1 : Nat) : Int)
    · rw [if_pos h1, if_pos ⟨by omega, by omega⟩, if_neg (by omega), h1, Int.toNat_natCast, Nat.add_mul]
      omega
    · rw [if_neg h1]
      by_cases h2 : 1 ≤ xs.getD i 0 ∧ xs.getD i 0 ≤ (k : Int)
      · rw [if_pos h2, if_pos ⟨h2.1, by omega⟩]; simp only [Nat.add_zero]; omega
      · rw [if_neg h2, if_neg (by omega)]; simp
theorem part_zero (xs : List Int) : ∀ m, part xs 0 m = 0
  | 0 => rfl
  | i + 1 => by simp only [part]; rw [part_zero xs i, if_neg (by omega)]
theorem behind_part (xs : List Int) : ∀ k, k ≤ 15 → behind xs k * 2 ^ (15 - k) = part xs k xs.length
  | 0, _ => by simp [behind, part_zero]
  | k + 1, h => by
    rw [part_succ xs k (by omega), ← behind_part xs k (by omega)]
    simp only [behind]
    rw [Nat.add_mul, show 15 - k = (15 - (k + 1)) + 1 by omega, Nat.pow_succ]
    congr 1
    generalize 2 ^ (15 - (k + 1)) = p
    rw [Nat.mul_comm 2 (behind xs k), Nat.mul_assoc, Nat.mul_comm 2 p]
theorem part_mono (xs : List Int) {k k' : Nat} (h : k ≤ k') : ∀ m, part xs k m ≤ part xs k' m
  | 0 => Nat.le_refl _
  | i + 1 => by
    have := part_mono xs h i
    simp only [part]
    by_cases h1 : 1 ≤ xs.getD i 0 ∧ xs.getD i 0 ≤ (k : Int)
    · rw [if_pos h1, if_pos ⟨h1.1, by omega⟩]; omega
    · rw [if_neg h1]; omega
theorem part_kraft (xs : List Int) (ho : lensOk xs = true) : ∀ m, m ≤ xs.length → ((part xs 15 m : Nat) : Int) = kraft (xs.take m)
  | 0, _ => by simp [part, kraft]
  | i + 1, h => by
    have ih := part_kraft xs ho i (by omega)
    rw [take_snocI xs i (by omega), kraft_snoc, ← ih]
    have hb := lens_at ho i
    simp only [part]
    by_cases h1 : 1 ≤ xs.getD i 0
    · rw [if_pos ⟨h1, by omega⟩]
      unfold share
      rw [if_pos (by omega), show (15 - xs.getD i 0).toNat = 15 - (xs.getD i 0).toNat by omega]
      push_cast
      rfl
    · rw [if_neg (by omega)]
      unfold share
      rw [if_neg (by omega)]
      simp
theorem behind_le {xs : List Int} (h : codesE xs = 0) (k : Nat) (hk : k ≤ 15) : behind xs k ≤ 2 ^ k := by
  obtain ⟨ho, hl, hq⟩ := codesE_ok h
  have h1 := behind_part xs k hk
  have h2 := part_mono xs hk xs.length
  have h3 := part_kraft xs ho xs.length (Nat.le_refl _)
  rw [List.take_length] at h3
  have h4 : part xs 15 xs.length ≤ 32768 := by omega
  have h5 : behind xs k * 2 ^ (15 - k) ≤ 2 ^ k * 2 ^ (15 - k) := by
    rw [h1, ← Nat.pow_add, show k + (15 - k) = 15 by omega]
    exact Nat.le_trans h2 h4
  exact Nat.le_of_mul_le_mul_right h5 (Nat.pow_pos (by omega))
theorem cnt_le (xs : List Int) (l : Nat) : ∀ m, cnt xs l m ≤ m
  | 0 => Nat.le_refl _
  | i + 1 => by have := cnt_le xs l i; simp only [cnt]; split <;> omega
theorem cnt_mono (xs : List Int) (l : Nat) {m m' : Nat} (h : m ≤ m') : cnt xs l m ≤ cnt xs l m' := by
  induction h with
  | refl => exact Nat.le_refl _
  | step _ ih => simp only [cnt]; omega
theorem start_cnt {xs : List Int} (h : codesE xs = 0) (k : Nat) (h1 : 1 ≤ k) (hk : k ≤ 15) : start xs k + cnt xs k xs.length ≤ 2 ^ k := by
  have := behind_le h k hk
  obtain ⟨j, rfl⟩ : ∃ j, k = j + 1 := ⟨k - 1, by omega⟩
  simpa [behind, start] using this
theorem pow15 {k : Nat} (hk : k ≤ 15) : (2 : Nat) ^ k ≤ 32768 := Nat.pow_le_pow_right (by omega) hk
theorem wrap32 (n : Nat) (h : n < 4294967296) : IntKind.u32.wrap (n : Int) = n := by
  simp only [IntKind.wrap, show IntKind.u32.bits = 32 by decide, show IntKind.u32.signed = false by decide]
  simp
  omega

theorem inner_at (xs : List Int) (l : Nat) (cs : List Int) (s : Nat) (hc : cs.length = xs.length) (hb : s + cnt xs l xs.length < 4294967296) : ∀ i, i ≤ xs.length →
    (cInner (l : Int) xs i (cs, (s : Int))).2 = ((s + cnt xs l i : Nat) : Int) ∧
    ∀ j, (cInner (l : Int) xs i (cs, (s : Int))).1.getD j 0 = if j < i ∧ xs.getD j 0 = (l : Int) then ((s + cnt xs l j : Nat) : Int) else cs.getD j 0
  | 0, _ => by simp [cInner, cnt]
  | i + 1, h => by
    obtain ⟨i1, i2⟩ := inner_at xs l cs s hc hb i (by omega)
    have hm := cnt_mono xs l h
    by_cases he : xs.getD i 0 = (l : Int)
    · rw [cInner_yes he, i1]
      have hcnt : cnt xs l (i + 1) = cnt xs l i + 1 := by simp only [cnt, if_pos he]
      refine ⟨?_, fun j => ?_⟩
      · rw [hcnt]
        unfold up1
        rw [show ((s + cnt xs l i : Nat) : Int) + 1 = ((s + (cnt xs l i + 1) : Nat) : Int) by push_cast; omega]
        exact wrap32 _ (by omega)
      · simp only [List.getD_eq_getElem?_getD, List.getElem?_set]
        by_cases hj : i = j
        · subst hj
          simp only [if_true]
          rw [if_pos (by rw [cInner_len]; simp; omega)]
          rw [if_pos ⟨by omega, by simpa [List.getD_eq_getElem?_getD] using he⟩]
          rfl
        · rw [if_neg hj]
          have := i2 j
          simp only [List.getD_eq_getElem?_getD] at this
          rw [this]
          by_cases h5 : j < i ∧ xs[j]?.getD 0 = (l : Int)
          · rw [if_pos h5, if_pos ⟨by omega, h5.2⟩]
          · rw [if_neg h5, if_neg (by omega)]
    · rw [cInner_no he]
      have hcnt : cnt xs l (i + 1) = cnt xs l i := by simp only [cnt, if_neg he]; omega
      refine ⟨by rw [hcnt]; exact i1, fun j => ?_⟩
      rw [i2 j]
      by_cases h5 : j < i ∧ xs.getD j 0 = (l : Int)
      · rw [if_pos h5, if_pos ⟨by omega, h5.2⟩]
      · rw [if_neg h5, if_neg (by rintro ⟨h6, h7⟩; have : j = i := by omega
                                  subst this; exact he h7)]
theorem outer_at {xs : List Int} (h : codesE xs = 0) : ∀ k, k ≤ 15 →
    (cOuter xs k).2 = ((behind xs k : Nat) : Int) ∧ ∀ j, j < xs.length → (cOuter xs k).1.getD j 0 = if 1 ≤ xs.getD j 0 ∧ xs.getD j 0 ≤ (k : Int) then ((start xs (xs.getD j 0).toNat + cnt xs (xs.getD j 0).toNat j : Nat) : Int) else 0
  | 0, _ => by
    refine ⟨rfl, fun j hj => ?_⟩
    rw [if_neg (by omega)]
    simp [cOuter, List.getD_eq_getElem?_getD, List.getElem?_replicate, hj]
  | k + 1, hk => by
    obtain ⟨i1, i2⟩ := outer_at h k (by omega)
    have hb := behind_le h k (by omega)
    have hb' := behind_le h (k + 1) hk
    have hp := pow15 hk
    have hsh : shl1 (cOuter xs k).2 = ((2 * behind xs k : Nat) : Int) := by
      rw [i1]
      unfold shl1
      rw [show ((behind xs k : Nat) : Int) * 2 ^ (min (1 : Int).toNat IntKind.u32.bits) = ((2 * behind xs k : Nat) : Int) by
        rw [show min (1 : Int).toNat IntKind.u32.bits = 1 by decide]; push_cast; omega]
      have hp' := pow15 (show k ≤ 15 by omega)
      exact wrap32 _ (by omega)
    simp only [behind] at hb'
    obtain ⟨j1, j2⟩ := inner_at xs (k + 1) (cOuter xs k).1 (2 * behind xs k) (cOuter_len xs k) (by omega) xs.length (Nat.le_refl _)
    simp only [cOuter]
    rw [hsh]
    refine ⟨j1, fun j hj => ?_⟩
    have j2 := j2 j
    rw [show (((k + 1 : Nat) : Int)) = (k : Int) + 1 by push_cast; rfl] at j2
    rw [j2]
    by_cases h5 : xs.getD j 0 = (k : Int) + 1
    · rw [if_pos ⟨hj, h5⟩, if_pos ⟨by omega, by push_cast; omega⟩]
      have : (xs.getD j 0).toNat = k + 1 := by omega
      rw [this]
      simp [start]
    · rw [if_neg (fun x => h5 x.2), i2 j hj]
      by_cases h6 : 1 ≤ xs.getD j 0 ∧ xs.getD j 0 ≤ (k : Int)
      · rw [if_pos h6, if_pos ⟨h6.1, by push_cast; omega⟩]
      · rw [if_neg h6, if_neg (by push_cast; omega)]
/-- The code of a symbol. -/
def codeOf (xs : List Int) (j : Nat) : Nat := start xs (xs.getD j 0).toNat + cnt xs (xs.getD j 0).toNat j
theorem code_at {xs : List Int} (h : codesE xs = 0) (j : Nat) (hj : j < xs.length) (h1 : 1 ≤ xs.getD j 0) : (codesOf xs).getD j 0 = (codeOf xs j : Int) := by
  have hb := lens_at (codesE_ok h).1 j
  have := (outer_at h 15 (by omega)).2 j hj
  rw [if_pos ⟨h1, by omega⟩] at this
  exact this
theorem cnt_lt {xs : List Int} {l j m : Nat} (hj : j < m) (he : xs.getD j 0 = (l : Int)) : cnt xs l j < cnt xs l m := by
  have h1 : cnt xs l (j + 1) = cnt xs l j + 1 := by simp only [cnt, if_pos he]
  have := cnt_mono xs l (show j + 1 ≤ m by omega)
  omega
theorem codeOf_lt {xs : List Int} (h : codesE xs = 0) (j : Nat) (hj : j < xs.length) (h1 : 1 ≤ xs.getD j 0) : codeOf xs j < 2 ^ (xs.getD j 0).toNat := by
  have hb := lens_at (codesE_ok h).1 j
  have h2 := start_cnt h (xs.getD j 0).toNat (by omega) (by omega)
  have h3 := cnt_lt (xs := xs) (l := (xs.getD j 0).toNat) hj (by omega)
  unfold codeOf
  omega

/-- The symbols of length l among the first m. -/
def symsOf (xs : List Int) (l : Nat) : Nat → List Int
  | 0 => []
  | i + 1 => symsOf xs l i ++ if xs.getD i 0 = (l : Int) then [(i : Int)] else []
theorem syms_len (xs : List Int) (l : Nat) : ∀ m, (symsOf xs l m).length = cnt xs l m
  | 0 => rfl
  | i + 1 => by
    simp only [symsOf, cnt, List.length_append, syms_len xs l i]
    split <;> rfl
theorem syms_get {xs : List Int} {l : Nat} : ∀ {m j}, j < m → xs.getD j 0 = (l : Int) → (symsOf xs l m)[cnt xs l j]? = some (j : Int)
  | i + 1, j, h, he => by
    simp only [symsOf]
    by_cases hj : j < i
    · rw [List.getElem?_append_left (by rw [syms_len]; exact cnt_lt hj he)]
      exact syms_get hj he
    · have : j = i := by omega
      subst this
      rw [List.getElem?_append_right (by rw [syms_len]; exact Nat.le_refl _), syms_len, if_pos he, Nat.sub_self]
      rfl
theorem syms_inv {xs : List Int} {l : Nat} : ∀ {m r} {v : Int}, (symsOf xs l m)[r]? = some v → ∃ j : Nat, v = (j : Int) ∧ j < m ∧ xs.getD j 0 = (l : Int) ∧ cnt xs l j = r
  | 0, r, v, h => by simp [symsOf] at h
  | i + 1, r, v, h => by
    simp only [symsOf] at h
    by_cases hr : r < (symsOf xs l i).length
    · rw [List.getElem?_append_left hr] at h
      obtain ⟨j, e, h1, h2, h3⟩ := syms_inv h
      exact ⟨j, e, by omega, h2, h3⟩
    · rw [List.getElem?_append_right (by omega)] at h
      by_cases he : xs.getD i 0 = (l : Int)
      · rw [if_pos he] at h
        have hz : r - (symsOf xs l i).length = 0 := by
          rw [List.getElem?_eq_some_iff] at h
          obtain ⟨h, _⟩ := h
          simpa using h
        rw [hz] at h
        refine ⟨i, by simpa using h.symm, by omega, he, ?_⟩
        rw [← syms_len]; omega
      · rw [if_neg he] at h; simp at h
theorem fold_syms {xs codes : List Int} (ho : lensOk xs = true) : ∀ i, i ≤ xs.length → ∀ l, 1 ≤ l → l < 16 → (newFold codes xs i).2.1.getD l [] = symsOf xs l i
  | 0, _, l, _, h16 => by
    simp only [newFold, symsOf, List.getD_eq_getElem?_getD, List.getElem?_replicate]
    split <;> rfl
  | i + 1, h, l, h1, h16 => by
    have ih := fold_syms (codes := codes) ho i (by omega)
    have hb := lens_at ho i
    have hlen := (newFold_len codes xs i).2
    by_cases hz : xs.getD i 0 = 0
    · rw [new_skip hz, ih l h1 h16]
      simp only [symsOf]
      rw [if_neg (by omega), List.append_nil]
    · rw [new_step hz]
      simp only [symsOf, List.getD_eq_getElem?_getD (l := List.set _ _ _), List.getElem?_set]
      by_cases he : (xs.getD i 0).toNat = l
      · subst he
        rw [if_pos rfl, if_pos (by omega), Option.getD_some, ih _ h1 h16, if_pos (by omega)]
      · rw [if_neg he, ← List.getD_eq_getElem?_getD, ih l h1 h16, if_neg (by omega), List.append_nil]
theorem fold_zero {xs codes : List Int} (ho : lensOk xs = true) : ∀ i, i ≤ xs.length → (newFold codes xs i).2.1.getD 0 [] = []
  | 0, _ => by simp [newFold]
  | i + 1, h => by
    have ih := fold_zero (codes := codes) ho i (by omega)
    have hb := lens_at ho i
    by_cases hz : xs.getD i 0 = 0
    · rw [new_skip hz, ih]
    · rw [new_step hz]
      simp only [List.getD_eq_getElem?_getD (l := List.set _ _ _), List.getElem?_set]
      rw [if_neg (by omega), ← List.getD_eq_getElem?_getD, ih]
theorem fold_first {xs : List Int} (h : codesE xs = 0) : ∀ i, i ≤ xs.length → ∀ l, 1 ≤ l → l < 16 → symsOf xs l i ≠ [] → (newFold (codesOf xs) xs i).1.getD l 0 = (start xs l : Int)
  | 0, _, l, _, _, hne => absurd rfl hne
  | i + 1, hi, l, h1, h16, hne => by
    have ho := (codesE_ok h).1
    have ih := fold_first h i (by omega)
    have hb := lens_at ho i
    have hlen := (newFold_len (codesOf xs) xs i).1
    by_cases hz : xs.getD i 0 = 0
    · rw [new_skip hz]
      refine ih l h1 h16 ?_
      simp only [symsOf] at hne
      rw [if_neg (by omega), List.append_nil] at hne
      exact hne
    · rw [new_step hz]
      simp only
      by_cases he : (xs.getD i 0).toNat = l
      · subst he
        rw [fold_syms ho i (by omega) _ h1 h16]
        by_cases hs : symsOf xs (xs.getD i 0).toNat i = []
        · rw [if_pos hs]
          simp only [List.getD_eq_getElem?_getD (l := List.set _ _ _), List.getElem?_set]
          simp only [if_true]
          rw [if_pos (by omega), Option.getD_some, code_at h i (by omega) (by omega)]
          unfold codeOf
          have : cnt xs (xs.getD i 0).toNat i = 0 := by rw [← syms_len, hs]; rfl
          rw [this]; rfl
        · rw [if_neg hs]; exact ih _ h1 h16 hs
      · have hs : symsOf xs l i ≠ [] := by
          simp only [symsOf] at hne
          rw [if_neg (by omega), List.append_nil] at hne
          exact hne
        have := ih l h1 h16 hs
        split
        · simp only [List.getD_eq_getElem?_getD (l := List.set _ _ _), List.getElem?_set]
          rw [if_neg he, ← List.getD_eq_getElem?_getD]; exact this
        · exact this
theorem fold_deep {xs codes : List Int} (ho : lensOk xs = true) : ∀ i, i ≤ xs.length → 0 ≤ (newFold codes xs i).2.2 ∧ (newFold codes xs i).2.2 ≤ 15 ∧ ∀ j, j < i → xs.getD j 0 ≤ (newFold codes xs i).2.2
  | 0, _ => by simp [newFold]
  | i + 1, h => by
    obtain ⟨a, b, c⟩ := fold_deep (codes := codes) ho i (by omega)
    have hb := lens_at ho i
    by_cases hz : xs.getD i 0 = 0
    · rw [new_skip hz]
      refine ⟨a, b, fun j hj => ?_⟩
      by_cases hji : j < i
      · exact c j hji
      · have : j = i := by omega
        subst this; omega
    · rw [new_step hz]
      refine ⟨by simp only; omega, by simp only; omega, fun j hj => ?_⟩
      simp only
      by_cases hji : j < i
      · have := c j hji; omega
      · have : j = i := by omega
        subst this; omega

/-- The symbol whose code is v, of n bits. -/
def hitAt (xs : List Int) (n v : Nat) : Option Int := if 1 ≤ n ∧ start xs n ≤ v then (symsOf xs n xs.length)[v - start xs n]? else none
theorem hit_of {xs : List Int} {n v i : Nat} (hn : 1 ≤ n) (hi : i < xs.length) (he : xs.getD i 0 = (n : Int)) (hc : codeOf xs i = v) : hitAt xs n v = some (i : Int) := by
  unfold codeOf at hc
  rw [he, Int.toNat_natCast] at hc
  unfold hitAt
  rw [if_pos ⟨hn, by omega⟩, show v - start xs n = cnt xs n i by omega]
  exact syms_get hi he
theorem of_hit {xs : List Int} {n v : Nat} {s : Int} (h : hitAt xs n v = some s) : ∃ i : Nat, s = (i : Int) ∧ i < xs.length ∧ xs.getD i 0 = (n : Int) ∧ 1 ≤ n ∧ codeOf xs i = v := by
  unfold hitAt at h
  split at h
  · rename_i hc
    obtain ⟨j, e, h1, h2, h3⟩ := syms_inv h
    refine ⟨j, e, h1, h2, hc.1, ?_⟩
    unfold codeOf
    rw [h2, Int.toNat_natCast]; omega
  · cases h
/-- Whether a longer code begins with v, of n bits: among the first m symbols. -/
def anyTo (xs : List Int) (n v : Nat) : Nat → Bool
  | 0 => false
  | i + 1 => anyTo xs n v i || (decide ((n : Int) < xs.getD i 0) && decide (codeOf xs i / 2 ^ ((xs.getD i 0).toNat - n) = v))
theorem any_iff (xs : List Int) (n v : Nat) : ∀ m, anyTo xs n v m = true ↔ ∃ i, i < m ∧ (n : Int) < xs.getD i 0 ∧ codeOf xs i / 2 ^ ((xs.getD i 0).toNat - n) = v
  | 0 => by simp [anyTo]
  | i + 1 => by
    simp only [anyTo, Bool.or_eq_true, Bool.and_eq_true, decide_eq_true_eq, any_iff xs n v i]
    constructor
    · rintro (⟨j, h1, h2⟩ | h)
      · exact ⟨j, by omega, h2⟩
      · exact ⟨i, by omega, h⟩
    · rintro ⟨j, h1, h2⟩
      by_cases hj : j < i
      · exact .inl ⟨j, hj, h2⟩
      · have : j = i := by omega
        subst this; exact .inr h2
/-- Do codes of length l begin with v, of n bits? By their first one and their number. -/
def reach (xs : List Int) (n v l : Nat) : Prop := 0 < cnt xs l xs.length ∧ start xs l < (v + 1) * 2 ^ (l - n) ∧ v * 2 ^ (l - n) < start xs l + cnt xs l xs.length
theorem reach_of {xs : List Int} {n v i : Nat} (hi : i < xs.length) (h : (n : Int) < xs.getD i 0) (he : codeOf xs i / 2 ^ ((xs.getD i 0).toNat - n) = v) : reach xs n v (xs.getD i 0).toNat := by
  have h1 := cnt_lt (xs := xs) (l := (xs.getD i 0).toNat) hi (by omega)
  have hp : 0 < 2 ^ ((xs.getD i 0).toNat - n) := Nat.pow_pos (by omega)
  have h2 := Nat.div_mul_le_self (codeOf xs i) (2 ^ ((xs.getD i 0).toNat - n))
  have h3 := Nat.lt_div_mul_add (a := codeOf xs i) hp
  unfold reach
  unfold codeOf at *
  rw [he] at h2 h3
  refine ⟨by omega, ?_, by omega⟩
  rw [Nat.add_mul, Nat.one_mul]; omega
theorem of_reach {xs : List Int} {n v l : Nat} (hl : n < l) (h : reach xs n v l) : ∃ i, i < xs.length ∧ xs.getD i 0 = (l : Int) ∧ codeOf xs i / 2 ^ (l - n) = v := by
  obtain ⟨h1, h2, h3⟩ := h
  have hp : 0 < 2 ^ (l - n) := Nat.pow_pos (by omega)
  have hm : (v + 1) * 2 ^ (l - n) = v * 2 ^ (l - n) + 2 ^ (l - n) := by rw [Nat.add_mul, Nat.one_mul]
  obtain ⟨c, c1, c2, c3, c4⟩ : ∃ c, start xs l ≤ c ∧ c < start xs l + cnt xs l xs.length ∧ v * 2 ^ (l - n) ≤ c ∧ c < (v + 1) * 2 ^ (l - n) :=
    ⟨max (start xs l) (v * 2 ^ (l - n)), by omega, by omega, by omega, by omega⟩
  have hr : c - start xs l < (symsOf xs l xs.length).length := by rw [syms_len]; omega
  obtain ⟨j, e, j1, j2, j3⟩ := syms_inv (List.getElem?_eq_getElem hr)
  refine ⟨j, j1, j2, ?_⟩
  have : codeOf xs j = c := by unfold codeOf; rw [j2, Int.toNat_natCast]; omega
  rw [this]
  exact Nat.div_eq_of_lt_le c3 (by simpa using c4)
theorem any_reach (xs : List Int) (n v : Nat) (ho : lensOk xs = true) (d : Nat) (hd : ∀ j, j < xs.length → xs.getD j 0 ≤ (d : Int)) : anyTo xs n v xs.length = true ↔ ∃ l, n < l ∧ l ≤ d ∧ reach xs n v l := by
  rw [any_iff]
  constructor
  · rintro ⟨i, h1, h2, h3⟩
    have := hd i h1
    exact ⟨_, by omega, by omega, reach_of h1 h2 h3⟩
  · rintro ⟨l, h1, h2, h3⟩
    obtain ⟨i, a, b, c⟩ := of_reach h1 h3
    exact ⟨i, a, by omega, by rw [b, Int.toNat_natCast]; exact c⟩
/-- What a reader of a code answers: symbol, error, and where it stands. -/
def readFrom (xs : List Int) (bs : List Nat) : (n v at_ : Nat) → (fuel : Nat) → Int × Int × Nat
  | n, v, p, 0 => (0, 3, p)
  | n, v, p, k + 1 => match hitAt xs n v with
    | some s => (s, 0, p)
    | none => if anyTo xs n v xs.length = false then (0, 3, p) else if p = 8 * bs.length then (0, 4, p) else readFrom xs bs (n + 1) (2 * v + bitAt bs p) (p + 1) k
def readSym (xs : List Int) (bs : List Nat) (p : Nat) : Int × Int × Nat := readFrom xs bs 0 0 p 16
end Go.Proofs.Ytahafepgmkiabaa
