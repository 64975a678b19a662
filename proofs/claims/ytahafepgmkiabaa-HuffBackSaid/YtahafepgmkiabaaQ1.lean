/- The law HuffLeast, plain: the lengths are a whole code, for just the symbols that come, none too long; their cost is the document's. -/
import Derived.Test.YtahafepgmkiabaaZ9
set_option linter.unusedVariables false
set_option linter.unusedSimpArgs false
namespace Go.Proofs.Ytahafepgmkiabaa
open Go
theorem share_nat {k : Nat} (h : k ≤ 15) : share ((k : Nat) : Int) = ((if 0 < k then 2 ^ (15 - k) else 0 : Nat) : Int) := by
  unfold share
  by_cases hk : 0 < k
  · rw [if_pos (by omega), if_pos hk, show (15 - (k : Int)).toNat = 15 - k by omega]; push_cast; rfl
  · rw [if_neg (by omega), if_neg hk]; rfl
theorem kraft_fl (n : Nat) {f : Nat → Nat} (hf : ∀ k, f k ≤ 15) : kraft (fl n f) = (((List.range n).map fun k => if 0 < f k then 2 ^ (15 - f k) else 0).sum : Nat) := by
  unfold kraft fl
  rw [List.map_map]
  generalize List.range n = l
  induction l with
  | nil => rfl
  | cons a l ih => rw [List.map_cons, List.sum_cons, ih, List.map_cons, List.sum_cons, Function.comp, share_nat (hf a)]; omega
theorem sum_off {g : Nat → Nat} {p : Nat → Bool} {l : List Nat} (h : ∀ k ∈ l, p k = false → g k = 0) : (l.map g).sum = ((l.filter p).map g).sum := by
  induction l with
  | nil => rfl
  | cons a l ih =>
    have ih' := ih (fun k hk => h k (by simp [hk]))
    cases hp : p a with
    | true => rw [List.filter_cons_of_pos hp, List.map_cons, List.map_cons, List.sum_cons, List.sum_cons, ih']
    | false => rw [List.filter_cons_of_neg (by rw [hp]; simp), List.map_cons, List.sum_cons, ih', h a (by simp) hp, Nat.zero_add]
theorem sumTo_map {U : List Nat} {g : Nat → Nat} {q : Nat → Nat} (h : ∀ r k, U[r]? = some k → g k = q r) : (U.map g).sum = PM.sumTo U.length q := by
  unfold PM.sumTo
  congr 1
  apply List.ext_getElem?
  intro r
  rw [List.getElem?_map, List.getElem?_map]
  by_cases hr : r < U.length
  · rw [List.getElem?_eq_getElem hr, List.getElem?_eq_getElem (by rw [List.length_range]; exact hr)]
    simp only [Option.map_some, List.getElem_range]
    rw [h r _ (List.getElem?_eq_getElem hr)]
  · rw [List.getElem?_eq_none (by omega), List.getElem?_eq_none (by rw [List.length_range]; omega)]; rfl
theorem bad_range {cs : List Int} {most : Int} (hnb : ¬ BadL cs most) : (1 ≤ most ∧ most ≤ 15 ∧ cs.length ≤ 400) ∧ (∀ i, 0 ≤ cs.getD i 0 ∧ cs.getD i 0 ≤ 1073741824) ∧ (coinsTo cs cs.length).length ≤ 2 ^ most.toNat := by
  unfold BadL at hnb
  refine ⟨⟨by omega, by omega, by omega⟩, fun i => ?_, ?_⟩
  · by_cases hi : i < cs.length
    · by_cases h : cs.getD i 0 < 0 ∨ 1073741824 < cs.getD i 0
      · exact absurd (.inr (.inr (.inr (.inl ⟨i, hi, h⟩)))) hnb
      · omega
    · rw [List.getD_eq_getElem?_getD, List.getElem?_eq_none (by omega)]; simp
  · rcases Nat.lt_or_ge (2 ^ most.toNat) (coinsTo cs cs.length).length with h | h
    · exact absurd (.inr (.inr (.inr (.inr h)))) hnb
    · exact h
theorem least_each {cs : List Int} {most : Int} {f : Nat → Nat} (hnb : ¬ BadL cs most) (h : LenIs cs most.toNat f) : (∀ k, k < cs.length → (0 < f k ↔ 0 < cs.getD k 0)) ∧ (∀ k, (f k : Int) ≤ most) := by
  obtain ⟨⟨hm1, hm2, _⟩, _⟩ := bad_range hnb
  rcases lenIs_cases hnb h with ⟨ha, hb⟩ | ⟨U, qs, hR, hp⟩
  · refine ⟨fun k hk => ?_, fun k => ?_⟩
    · rw [hb k, List.count_pos_iff, symTo_mem]
      exact ⟨fun h => h.2, fun h => ⟨hk, h⟩⟩
    · rw [hb k]
      have : (symTo cs cs.length).count k ≤ (symTo cs cs.length).length := List.count_le_length
      omega
  · refine ⟨fun k hk => ?_, fun k => ?_⟩
    · rcases hR.all k with ⟨r, hr, hrk, he⟩ | ⟨hk2, he⟩
      · have := hR.pos (by omega) hr
        exact ⟨fun _ => ((hR.mem k).1 (List.mem_of_getElem? hrk)).2, fun _ => by omega⟩
      · exact ⟨fun h => by omega, fun h => absurd ((hR.mem k).2 ⟨hk, h⟩) hk2⟩
    · rcases hR.all k with ⟨r, hr, hrk, he⟩ | ⟨hk2, he⟩
      · have := hR.le_m r; omega
      · omega
theorem sym_coins (cs : List Int) : (symTo cs cs.length).length = (coinsTo cs cs.length).length := by
  rw [← coinsTo_ins]
  exact flat_single_len fun c hc => by obtain ⟨j, _, rfl, _⟩ := coinsTo_mem hc; rfl
theorem least_whole {cs : List Int} {most : Int} {f : Nat → Nat} (hnb : ¬ BadL cs most) (h : LenIs cs most.toNat f) (h2 : 1 < (coinsTo cs cs.length).length) : (lensOk (fl cs.length f) && decide (kraft (fl cs.length f) = 32768)) = true := by
  obtain ⟨⟨hm1, hm2, _⟩, _⟩ := bad_range hnb
  have hle := (least_each hnb h).2
  rw [Bool.and_eq_true, decide_eq_true_eq]
  refine ⟨?_, ?_⟩
  · unfold lensOk
    rw [List.all_eq_true]
    intro x hx
    obtain ⟨k, _, rfl⟩ := List.mem_map.1 hx
    have := hle k
    simp only [Bool.and_eq_true, decide_eq_true_eq]
    omega
  · rw [kraft_fl _ (fun k => by have := hle k; omega)]
    rcases lenIs_cases hnb h with ⟨ha, _⟩ | ⟨U, qs, hR, hp⟩
    · rw [sym_coins] at ha; omega
    · have hk := hR.kraft (by omega)
      rw [sum_off (p := fun i => decide (0 < cs.getD i 0)) (fun k hk hp0 => by
        have := (least_each hnb h).1 k (List.mem_range.1 hk)
        simp only [decide_eq_false_iff_not] at hp0
        rw [if_neg (by omega)])]
      have hs : (((symTo cs cs.length).map fun k => if 0 < f k then 2 ^ (15 - f k) else 0).sum) = (U.map fun k => if 0 < f k then 2 ^ (15 - f k) else 0).sum := (hp.symm.map _).sum_nat
      show ((((symTo cs cs.length).map fun k => if 0 < f k then 2 ^ (15 - f k) else 0).sum : Nat) : Int) = 32768
      rw [hs, sumTo_map (q := fun r => 2 ^ (15 - most.toNat) * 2 ^ (most.toNat - PM.len qs r)) (fun r k hrk => by
        have hr := (List.getElem?_eq_some_iff.1 hrk).1
        have h1 := hR.pos (by omega) hr
        have h3 := hR.le_m r
        rw [hR.len r k hrk, if_pos (by omega), ← Nat.pow_add]
        congr 1; omega)]
      have hmul : ∀ n (c : Nat) (q : Nat → Nat), PM.sumTo n (fun r => c * q r) = c * PM.sumTo n q := by
        intro n c q
        induction n with
        | zero => rfl
        | succ n ih => rw [PM.sumTo_succ, PM.sumTo_succ, ih, Nat.mul_add]
      rw [hmul, hk, ← Nat.pow_add, show 15 - most.toNat + most.toNat = 15 by omega]
      rfl
theorem dot_congr {a b c : List Int} : ∀ n, (∀ i, i < n → a.getD i 0 * b.getD i 0 = a.getD i 0 * c.getD i 0) → dot a b n = dot a c n
  | 0, _ => rfl
  | n + 1, h => by simp only [dot]; rw [dot_congr n (fun i hi => h i (by omega)), h n (by omega)]
/-- The coins in order, which the document sorts too. -/
theorem least_cs {cs : List Int} {m : Nat} {f : Nat → Nat} (h : LenIs cs m f) : ∃ Cs, Stab.Up PM.Coin.worth Cs ∧ Stab.Alike PM.Coin.worth Cs (coinsTo cs cs.length) ∧
    (2 ≤ (coinsTo cs cs.length).length → f = fun k => PM.cnt k ((PM.row Cs (m - 1)).take (2 * Cs.length - 2))) := by
  rcases h with ⟨h1, h2⟩ | ⟨h1, Cs, h2, h3, h4, h5⟩
  · refine ⟨coinsTo cs cs.length, ?_, Stab.Alike.refl _ _, fun h => by omega⟩
    match hc : coinsTo cs cs.length, h1 with
    | [], _ => exact List.Pairwise.nil
    | [x], _ => exact List.pairwise_singleton _ _
  · exact ⟨Cs, h2, h3, fun _ => funext h5⟩
/-- One symbol at most: its length or one, the cost is the same. -/
theorem least_one {cs : List Int} {most : Int} {f : Nat → Nat} (hnb : ¬ BadL cs most) (h : LenIs cs most.toNat f) (h1 : (coinsTo cs cs.length).length < 2) : dot cs (fl cs.length f) cs.length = dot cs (fl cs.length (fun k => if k < cs.length then 1 else 0)) cs.length := by
  apply dot_congr
  intro i hi
  rw [fl_get, fl_get, if_pos hi, if_pos hi, if_pos hi]
  have he := (least_each hnb h).1 i hi
  have hb := (bad_range hnb).2.1 i
  by_cases hc : cs.getD i 0 = 0
  · rw [hc]; simp
  · have h2 : 0 < f i := he.2 (by omega)
    rcases lenIs_cases hnb h with ⟨ha, hb⟩ | ⟨U, qs, hR, hp⟩
    · have : (symTo cs cs.length).count i ≤ (symTo cs cs.length).length := List.count_le_length
      have := hb i
      have h3 : f i = 1 := by omega
      rw [h3]
    · have h4 := hp.length_eq
      have h5 := hR.two
      rw [sym_coins] at h4
      omega
theorem coinsTo_le (cs : List Int) : ∀ k, (coinsTo cs k).length ≤ k
  | 0 => Nat.le_refl _
  | k + 1 => by
    have := coinsTo_le cs k
    by_cases h : 0 < cs.getD k 0
    · rw [coinsTo_yes h, List.length_append, List.length_singleton]; omega
    · rw [coinsTo_no h]; omega
/-- Which counts are out of reach, among the first i. -/
def BadTo (cs : List Int) (most : Int) (i : Nat) : Prop := most < 1 ∨ 15 < most ∨ 400 < cs.length ∨ ∃ j, j < i ∧ (cs.getD j 0 < 0 ∨ 1073741824 < cs.getD j 0)
theorem badTo_next {cs : List Int} {most : Int} {i : Nat} : BadTo cs most (i + 1) ↔ BadTo cs most i ∨ (cs.getD i 0 < 0 ∨ 1073741824 < cs.getD i 0) := by
  unfold BadTo
  constructor
  · rintro (h | h | h | ⟨j, hj, h⟩)
    · exact .inl (.inl h)
    · exact .inl (.inr (.inl h))
    · exact .inl (.inr (.inr (.inl h)))
    · by_cases hji : j = i
      · subst hji; exact .inr h
      · exact .inl (.inr (.inr (.inr ⟨j, by omega, h⟩)))
  · rintro ((h | h | h | ⟨j, hj, h⟩) | h)
    · exact .inl h
    · exact .inr (.inl h)
    · exact .inr (.inr (.inl h))
    · exact .inr (.inr (.inr ⟨j, by omega, h⟩))
    · exact .inr (.inr (.inr ⟨i, by omega, h⟩))
theorem badTo_zero {cs : List Int} {most : Int} : BadTo cs most 0 ↔ (most < 1 ∨ 15 < most ∨ 400 < cs.length) := by
  unfold BadTo
  constructor
  · rintro (h | h | h | ⟨j, hj, h⟩)
    · exact .inl h
    · exact .inr (.inl h)
    · exact .inr (.inr h)
    · omega
  · rintro (h | h | h)
    · exact .inl h
    · exact .inr (.inl h)
    · exact .inr (.inr (.inl h))
theorem badL_to {cs : List Int} {most : Int} : BadL cs most ↔ BadTo cs most cs.length ∨ 2 ^ most.toNat < (coinsTo cs cs.length).length := by
  unfold BadL BadTo
  constructor
  · rintro (h | h | h | h | h)
    · exact .inl (.inl h)
    · exact .inl (.inr (.inl h))
    · exact .inl (.inr (.inr (.inl h)))
    · exact .inl (.inr (.inr (.inr h)))
    · exact .inr h
  · rintro ((h | h | h | h) | h)
    · exact .inl h
    · exact .inr (.inl h)
    · exact .inr (.inr (.inl h))
    · exact .inr (.inr (.inr (.inl h)))
    · exact .inr (.inr (.inr (.inr h)))
end Go.Proofs.Ytahafepgmkiabaa
