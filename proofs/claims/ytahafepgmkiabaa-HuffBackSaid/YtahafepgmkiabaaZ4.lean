/- What lengths by package-merge are: ranks of the symbols, nested numbers of coins, a whole code. -/
import Derived.Test.YtahafepgmkiabaaZ3
set_option linter.unusedVariables false
set_option linter.unusedSimpArgs false
namespace Go.Proofs.Ytahafepgmkiabaa
open Go
deriving instance DecidableEq for PM.Coin
theorem alike_perm {f : PM.Coin → Int} {a b : List PM.Coin} (h : Stab.Alike f a b) : a.Perm b := by
  rw [List.perm_iff_count]
  intro c
  have hk := h (f c)
  unfold Stab.ofKey at hk
  have e : ∀ l : List PM.Coin, List.count c (l.filter (fun x => decide (f x = f c))) = List.count c l := fun l => List.count_filter (by simp)
  rw [← e a, ← e b, hk]
/-- The symbols of the coins of the first k counts. -/
def symTo (cs : List Int) (k : Nat) : List Nat := (List.range k).filter fun i => decide (0 < cs.getD i 0)
theorem coinsTo_ins (cs : List Int) : ∀ k, (coinsTo cs k).flatMap PM.Coin.ins = symTo cs k
  | 0 => rfl
  | k + 1 => by
    have ih := coinsTo_ins cs k
    unfold symTo at ih ⊢
    rw [List.range_succ, List.filter_append]
    by_cases h : 0 < cs.getD k 0
    · rw [coinsTo_yes h, List.flatMap_append, ih, List.filter_cons_of_pos (by rw [decide_eq_true_eq]; exact h)]; rfl
    · rw [coinsTo_no h, ih, List.filter_cons_of_neg (by rw [decide_eq_true_eq]; exact h), List.filter_nil, List.append_nil]
theorem symTo_nodup (cs : List Int) (k : Nat) : (symTo cs k).Nodup := List.nodup_range.filter _
theorem symTo_mem {cs : List Int} {k j : Nat} : j ∈ symTo cs k ↔ j < k ∧ 0 < cs.getD j 0 := by simp [symTo]
theorem flat_single {C : List PM.Coin} (h : ∀ c ∈ C, c.ins.length = 1) (a : Nat) : (C.take a).flatMap PM.Coin.ins = (C.flatMap PM.Coin.ins).take a := by
  induction C generalizing a with
  | nil => simp
  | cons c C ih =>
    cases a with
    | zero => simp
    | succ a =>
      have h1 := h c (by simp)
      rw [List.take_succ_cons, List.flatMap_cons, List.flatMap_cons, ih (fun c hc => h c (by simp [hc]))]
      match hc : c.ins, h1 with
      | [x], _ => simp
theorem flat_single_len {C : List PM.Coin} (h : ∀ c ∈ C, c.ins.length = 1) : (C.flatMap PM.Coin.ins).length = C.length := by
  induction C with
  | nil => rfl
  | cons c C ih => rw [List.flatMap_cons, List.length_append, ih (fun c hc => h c (by simp [hc])), h c (by simp), List.length_cons]; omega
theorem flat_single_get {C : List PM.Coin} (h : ∀ c ∈ C, c.ins.length = 1) {r k : Nat} (hk : (C.flatMap PM.Coin.ins)[r]? = some k) : ∃ c, C[r]? = some c ∧ c.ins = [k] := by
  induction C generalizing r with
  | nil => simp at hk
  | cons c C ih =>
    have h1 := h c (by simp)
    rw [List.flatMap_cons] at hk
    match hc : c.ins, h1 with
    | [x], _ =>
      rw [hc] at hk
      cases r with
      | zero => simp at hk; subst hk; exact ⟨c, rfl, hc⟩
      | succ r => simp at hk; obtain ⟨d, hd, hdi⟩ := ih (fun c hc => h c (by simp [hc])) hk; exact ⟨d, by simpa using hd, hdi⟩
theorem count_rank {U : List Nat} (hn : U.Nodup) {r k : Nat} (hr : U[r]? = some k) (a : Nat) : (U.take a).count k = if r < a then 1 else 0 := by
  obtain ⟨hlt, he⟩ := List.getElem?_eq_some_iff.1 hr
  split
  · rename_i h
    have h1 : k ∈ U.take a := List.mem_of_getElem? (i := r) (by rw [List.getElem?_take, if_pos h]; exact hr)
    have h2 : (U.take a).Nodup := hn.sublist (List.take_sublist _ _)
    exact h2.count.trans (if_pos h1)
  · rename_i h
    refine List.count_eq_zero_of_not_mem fun hm => ?_
    obtain ⟨i, hi⟩ := List.getElem?_of_mem hm
    rw [List.getElem?_take] at hi
    split at hi
    · rename_i hia
      obtain ⟨hi1, hi2⟩ := List.getElem?_eq_some_iff.1 hi
      exact List.pairwise_iff_getElem.1 hn i r hi1 hlt (by omega) (hi2.trans he.symm)
    · cases hi
theorem sum_if (qs : List Nat) (r : Nat) : (qs.map fun a => if r < a then 1 else 0).sum = PM.len qs r := by
  induction qs with
  | nil => rfl
  | cons a qs ih => rw [List.map_cons, List.sum_cons, ih, PM.len_cons]
theorem sum_zero (qs : List Nat) (f : Nat → Nat) (h : ∀ a, f a = 0) : (qs.map f).sum = 0 := by
  induction qs with
  | nil => rfl
  | cons a qs ih => rw [List.map_cons, List.sum_cons, ih, h]
/-- Lengths by package-merge: the symbols in an order of their counts, and nested numbers of coins. -/
structure Ranked (cs : List Int) (m : Nat) (f : Nat → Nat) (U qs : List Nat) : Prop where
  nd : U.Nodup
  mem : ∀ k, k ∈ U ↔ k < cs.length ∧ 0 < cs.getD k 0
  two : 2 ≤ U.length
  up : ∀ r s i j : Nat, r ≤ s → U[r]? = some i → U[s]? = some j → cs.getD i 0 ≤ cs.getD j 0
  lm : qs.length = m
  pw : qs.Pairwise (fun a b => b ≤ a)
  le : ∀ a ∈ qs, a ≤ U.length
  V : PM.V qs = 2 ^ (m - 1) * (2 * U.length - 2)
  len : ∀ r k, U[r]? = some k → f k = PM.len qs r
  none : ∀ k, k ∉ U → f k = 0
  flat : (∀ i ∈ U, ∀ j ∈ U, cs.getD i 0 = cs.getD j 0) → PM.Chain U.length qs
theorem ranked {cs : List Int} {m : Nat} {f : Nat → Nat} (hm : 1 ≤ m) (h2 : 2 ≤ (coinsTo cs cs.length).length) (hr : (coinsTo cs cs.length).length ≤ 2 ^ m) {Cs : List PM.Coin} (hu : Stab.Up PM.Coin.worth Cs) (ha : Stab.Alike PM.Coin.worth Cs (coinsTo cs cs.length))
    (hf : ∀ k, f k = PM.cnt k ((PM.row Cs (m - 1)).take (2 * Cs.length - 2))) : ∃ U qs, Ranked cs m f U qs ∧ U.Perm (symTo cs cs.length) := by
  have hp := alike_perm ha
  have hmem : ∀ c ∈ Cs, ∃ j, j < cs.length ∧ c = ⟨cs.getD j 0, [j]⟩ ∧ 0 < cs.getD j 0 := fun c hc => coinsTo_mem (hp.mem_iff.1 hc)
  have hone : ∀ c ∈ Cs, c.ins.length = 1 := fun c hc => by obtain ⟨j, _, rfl, _⟩ := hmem c hc; rfl
  have hUp : (Cs.flatMap PM.Coin.ins).Perm (symTo cs cs.length) := by rw [← coinsTo_ins]; exact hp.flatMap_right _
  have hUl := flat_single_len hone
  have hCl := hp.length_eq
  have hpos : ∀ x ∈ Cs, 1 ≤ x.worth := fun c hc => by obtain ⟨j, _, rfl, h⟩ := hmem c hc; exact h
  have hroom := PM.room Cs (m - 1) (by rw [hCl, show m - 1 + 1 = m by omega]; exact hr)
  obtain ⟨qs, hl, hpw, hle, hcnt, hV, _, _, hch⟩ := PM.rows Cs hu hpos (m - 1) (2 * Cs.length - 2) (by omega)
  have hget : ∀ {r k : Nat}, (Cs.flatMap PM.Coin.ins)[r]? = some k → Cs[r]? = some ⟨cs.getD k 0, [k]⟩ := by
    intro r k hk
    obtain ⟨c, hc, hci⟩ := flat_single_get hone hk
    obtain ⟨j, _, rfl, _⟩ := hmem c (List.mem_of_getElem? hc)
    simp only [List.cons.injEq, and_true] at hci
    subst hci
    exact hc
  have hcc : ∀ k a, PM.cnt k (Cs.take a) = ((Cs.flatMap PM.Coin.ins).take a).count k := fun k a => by unfold PM.cnt; rw [flat_single hone]
  refine ⟨Cs.flatMap PM.Coin.ins, qs, ⟨hUp.nodup_iff.2 (symTo_nodup _ _), fun k => by rw [hUp.mem_iff, symTo_mem], by omega, ?_, by omega, hpw, by rw [hUl]; exact hle, by rw [hUl]; exact hV, ?_, ?_, ?_⟩, hUp⟩
  · intro r s i j hrs hi hj
    have h1 := hget hi
    have h2 := hget hj
    obtain ⟨hr1, hr2⟩ := List.getElem?_eq_some_iff.1 h1
    obtain ⟨hs1, hs2⟩ := List.getElem?_eq_some_iff.1 h2
    rcases Nat.lt_or_eq_of_le hrs with h | h
    · have := List.pairwise_iff_getElem.1 hu r s hr1 hs1 h
      rw [hr2, hs2] at this
      exact this
    · subst h
      rw [hi] at hj; injection hj with hj; subst hj; exact Int.le_refl _
  · intro r k hk
    rw [hf k, hcnt k, ← sum_if]
    congr 1
    apply List.map_congr_left
    intro a _
    rw [hcc, count_rank (hUp.nodup_iff.2 (symTo_nodup _ _)) hk]
  · intro k hk
    rw [hf k, hcnt k]
    refine sum_zero _ _ fun a => ?_
    rw [hcc]
    exact List.count_eq_zero_of_not_mem fun h => hk (List.mem_of_mem_take h)
  · intro hall
    rw [hUl]
    refine hch fun x hx y hy => ?_
    obtain ⟨i, hi1, rfl, hi2⟩ := hmem x hx
    obtain ⟨j, hj1, rfl, hj2⟩ := hmem y hy
    exact hall i (hUp.mem_iff.2 (symTo_mem.2 ⟨hi1, hi2⟩)) j (hUp.mem_iff.2 (symTo_mem.2 ⟨hj1, hj2⟩))
/-- The lengths of counts that are not bad. -/
theorem lenIs_cases {cs : List Int} {most : Int} {f : Nat → Nat} (hnb : ¬ BadL cs most) (h : LenIs cs most.toNat f) :
    ((symTo cs cs.length).length < 2 ∧ ∀ k, f k = (symTo cs cs.length).count k) ∨ (∃ U qs, Ranked cs most.toNat f U qs ∧ U.Perm (symTo cs cs.length)) := by
  have hsl : (symTo cs cs.length).length = (coinsTo cs cs.length).length := by
    rw [← coinsTo_ins]
    exact flat_single_len fun c hc => by obtain ⟨j, _, rfl, _⟩ := coinsTo_mem hc; rfl
  unfold BadL at hnb
  rcases h with ⟨h1, h2⟩ | ⟨h1, Cs, h2, h3, _, h5⟩
  · exact .inl ⟨by omega, fun k => by rw [h2 k, ← coinsTo_ins]; rfl⟩
  · exact .inr (ranked (by omega) h1 (by
      rcases Nat.lt_or_ge (2 ^ most.toNat) (coinsTo cs cs.length).length with h | h
      · exact absurd (.inr (.inr (.inr (.inr h)))) hnb
      · exact h) h2 h3 h5)
theorem often_law {cs : List Int} {most : Int} {f : Nat → Nat} (hnb : ¬ BadL cs most) (h : LenIs cs most.toNat f) {i j : Nat} (hi : i < cs.length) (hj : j < cs.length) (h1 : cs.getD j 0 < cs.getD i 0) (h2 : 0 < cs.getD j 0) : f i ≤ f j := by
  have hii : 0 < cs.getD i 0 := by omega
  rcases lenIs_cases hnb h with ⟨ha, hb⟩ | ⟨U, qs, hR, _⟩
  · exfalso
    have m1 := symTo_mem.2 ⟨hi, hii⟩
    have m2 := symTo_mem.2 ⟨hj, h2⟩
    match hs : symTo cs cs.length, ha with
    | [], _ => rw [hs] at m1; cases m1
    | [x], _ =>
      rw [hs] at m1 m2
      have := List.mem_singleton.1 m1
      have := List.mem_singleton.1 m2
      subst_vars
      omega
  · obtain ⟨r, hr⟩ := List.getElem?_of_mem ((hR.mem i).2 ⟨hi, hii⟩)
    obtain ⟨s, hs⟩ := List.getElem?_of_mem ((hR.mem j).2 ⟨hj, h2⟩)
    rw [hR.len r i hr, hR.len s j hs]
    apply PM.len_mono
    rcases Nat.lt_or_ge s r with h | h
    · omega
    · have := hR.up r s i j h hr hs
      omega
end Go.Proofs.Ytahafepgmkiabaa
