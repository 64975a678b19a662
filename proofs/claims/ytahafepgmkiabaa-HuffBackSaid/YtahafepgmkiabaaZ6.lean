/- The law HuffFlat, plain: counts that are alike make lengths that differ by one at most; lengths are a whole code. -/
import Derived.Test.YtahafepgmkiabaaZ4
set_option linter.unusedVariables false
set_option linter.unusedSimpArgs false
namespace Go.Proofs.Ytahafepgmkiabaa
open Go
theorem V_le {A : Nat} : ∀ qs : List Nat, (∀ a ∈ qs, a ≤ A) → PM.V qs + A ≤ 2 ^ qs.length * A
  | [], _ => by simp [PM.V]
  | a :: qs, h => by
    have ih := V_le qs (fun x hx => h x (by simp [hx]))
    have h1 : 2 ^ qs.length * a ≤ 2 ^ qs.length * A := Nat.mul_le_mul_left _ (h a (by simp))
    have h2 : 2 ^ (qs.length + 1) * A = 2 ^ qs.length * A + 2 ^ qs.length * A := by rw [Nat.pow_succ, Nat.mul_assoc, Nat.two_mul, Nat.mul_add]
    simp only [PM.V, List.length_cons]
    omega
namespace Ranked
variable {cs : List Int} {m : Nat} {f : Nat → Nat} {U qs : List Nat}
theorem pow (hm : 1 ≤ m) (n : Nat) (hn : 2 ≤ n) : 2 ^ (m - 1) * (2 * n - 2) + 2 ^ m = n * 2 ^ m := by
  obtain ⟨k, rfl⟩ : ∃ k, m = k + 1 := ⟨m - 1, by omega⟩
  obtain ⟨j, rfl⟩ : ∃ j, n = j + 1 := ⟨n - 1, by omega⟩
  rw [show k + 1 - 1 = k by omega, show 2 * (j + 1) - 2 = 2 * j by omega, Nat.pow_succ, ← Nat.mul_assoc, Nat.add_mul, Nat.one_mul, Nat.mul_comm j, Nat.mul_assoc (2 ^ k) 2 j]
theorem pos (h : Ranked cs m f U qs) (hm : 1 ≤ m) {r : Nat} (hr : r < U.length) : 1 ≤ PM.len qs r := by
  have h2 := h.two
  match hq : qs, h.lm with
  | [], hl => simp at hl; omega
  | a :: qs', hl =>
    have hpw := h.pw
    have hle := h.le
    have hV := h.V
    have hp := pow hm U.length h2
    have ha : a = U.length := by
      have ha1 := hle a (by simp)
      rcases Nat.lt_or_eq_of_le ha1 with hlt | he
      · exfalso
        have hall : ∀ x ∈ a :: qs', x ≤ U.length - 1 := by
          intro x hx
          rcases List.mem_cons.1 hx with rfl | hx
          · omega
          · have := (List.pairwise_cons.1 hpw).1 x hx; omega
        have hv := V_le _ hall
        rw [hl, hV] at hv
        have h3 : 2 ^ m * (U.length - 1) + 2 ^ m = U.length * 2 ^ m := by
          obtain ⟨j, hj⟩ : ∃ j, U.length = j + 1 := ⟨U.length - 1, by omega⟩
          rw [hj, Nat.add_sub_cancel, Nat.add_mul, Nat.one_mul, Nat.mul_comm]
        omega
      · exact he
    rw [PM.len_cons, if_pos (by omega)]
    omega
theorem kraft (h : Ranked cs m f U qs) (hm : 1 ≤ m) : PM.sumTo U.length (fun r => 2 ^ (m - PM.len qs r)) = 2 ^ m := by
  have hk := PM.kraft qs U.length h.pw h.le
  rw [h.lm, h.V] at hk
  have hp := pow hm U.length h.two
  omega
theorem le_m (h : Ranked cs m f U qs) (r : Nat) : PM.len qs r ≤ m := h.lm ▸ PM.len_le qs r
theorem all (h : Ranked cs m f U qs) (k : Nat) : (∃ r, r < U.length ∧ U[r]? = some k ∧ f k = PM.len qs r) ∨ (k ∉ U ∧ f k = 0) := by
  by_cases hk : k ∈ U
  · obtain ⟨r, hr⟩ := List.getElem?_of_mem hk
    exact .inl ⟨r, (List.getElem?_eq_some_iff.1 hr).1, hr, h.len r k hr⟩
  · exact .inr ⟨hk, h.none k hk⟩
theorem fits (h : Ranked cs m f U qs) (hm : 1 ≤ m) {l : Nat} (hl : ∀ k, f k ≤ l) (hlm : l ≤ m) : U.length ≤ 2 ^ l := by
  have hk := h.kraft hm
  have hge := PM.sumTo_ge U.length (fun r => 2 ^ (m - PM.len qs r)) (2 ^ (m - l)) (fun r hr => by
    obtain ⟨k, hk⟩ : ∃ k, U[r]? = some k := ⟨_, List.getElem?_eq_getElem hr⟩
    have := hl k
    rw [h.len r k hk] at this
    exact Nat.pow_le_pow_right (by decide) (by omega))
  rw [hk] at hge
  have he : 2 ^ m = 2 ^ l * 2 ^ (m - l) := by rw [← Nat.pow_add]; congr 1; omega
  rw [he] at hge
  exact Nat.le_of_mul_le_mul_right hge (Nat.two_pow_pos _)
end Ranked
theorem flat_law {cs : List Int} {f : Nat → Nat} (hnb : ¬ BadL cs 15) (h : LenIs cs 15 f) (hflat : ∀ i j, i < cs.length → j < cs.length → 0 < cs.getD i 0 → 0 < cs.getD j 0 → cs.getD i 0 = cs.getD j 0) :
    (∀ k, k < cs.length → (0 < f k ↔ 0 < cs.getD k 0)) ∧ (∀ k, f k ≤ 15) ∧ ((symTo cs cs.length).length = 1 → ∀ k, f k ≤ 1) ∧ (∀ i j, 0 < f i → 0 < f j → f i ≤ f j + 1) ∧
      (∀ l, l ≤ 15 → (∀ k, f k ≤ l) → 2 ≤ (symTo cs cs.length).length → (symTo cs cs.length).length ≤ 2 ^ l) := by
  rcases lenIs_cases hnb h with ⟨ha, hb⟩ | ⟨U, qs, hR, hp⟩
  · have h1 : ∀ k, f k ≤ 1 := fun k => by
      rw [hb k]
      have : (symTo cs cs.length).count k ≤ (symTo cs cs.length).length := List.count_le_length
      omega
    refine ⟨fun k hk => ?_, fun k => by have := h1 k; omega, fun _ => h1, fun i j _ _ => by have := h1 i; omega, fun l _ _ h2 => by omega⟩
    rw [hb k, List.count_pos_iff, symTo_mem]
    exact ⟨fun h => h.2, fun h => ⟨hk, h⟩⟩
  · have hl := hp.length_eq
    have h2 := hR.two
    have hR' : Ranked cs 15 f U qs := hR
    have hch := hR'.flat (fun i hi j hj => hflat i j ((hR.mem i).1 hi).1 ((hR.mem j).1 hj).1 ((hR.mem i).1 hi).2 ((hR.mem j).1 hj).2)
    refine ⟨fun k hk => ?_, fun k => ?_, fun h1 => by omega, fun i j hi hj => ?_, fun l hl15 hlk _ => by rw [← hl]; exact hR'.fits (by decide) hlk hl15⟩
    · rcases hR'.all k with ⟨r, hr, hrk, he⟩ | ⟨hk2, he⟩
      · have := hR'.pos (by decide) hr
        exact ⟨fun _ => ((hR.mem k).1 (List.mem_of_getElem? hrk)).2, fun _ => by omega⟩
      · exact ⟨fun h => by omega, fun h => absurd ((hR.mem k).2 ⟨hk, h⟩) hk2⟩
    · rcases hR'.all k with ⟨r, hr, hrk, he⟩ | ⟨hk2, he⟩
      · have := hR'.le_m r; omega
      · omega
    · rcases hR'.all i with ⟨r, hr, _, he⟩ | ⟨_, he⟩
      · rcases hR'.all j with ⟨s, hs, _, he2⟩ | ⟨_, he2⟩
        · have := PM.chain_len U.length qs hch hR.le r s hr hs
          omega
        · omega
      · omega
/-- Counts that are all alike, some of them none. -/
def fcs (bs : List Bool) (c : Int) (n : Nat) : List Int := (List.range n).map fun k => if bs.getD k false = true then 0 else c
theorem fcs_len (bs : List Bool) (c : Int) (n : Nat) : (fcs bs c n).length = n := by simp [fcs]
theorem fcs_get {bs : List Bool} {c : Int} {n k : Nat} (h : k < n) : (fcs bs c n).getD k 0 = if bs.getD k false = true then 0 else c := by
  simp [fcs, List.getD_eq_getElem?_getD, h]
theorem fcs_succ (bs : List Bool) (c : Int) (n : Nat) : fcs bs c (n + 1) = fcs bs c n ++ [if bs.getD n false = true then 0 else c] := by
  simp [fcs, List.range_succ]
def fal (bs : List Bool) (n : Nat) : Nat := ((List.range n).filter fun k => !bs.getD k false).length
theorem fal_succ (bs : List Bool) (n : Nat) : fal bs (n + 1) = fal bs n + (if bs.getD n false = true then 0 else 1) := by
  unfold fal
  rw [List.range_succ, List.filter_append, List.length_append]
  congr 1
  cases h : bs.getD n false <;> simp only [List.getD_eq_getElem?_getD] at h <;> simp [h]
theorem fal_le (bs : List Bool) (n : Nat) : fal bs n ≤ n := by
  have := List.length_filter_le (fun k => !bs.getD k false) (List.range n)
  rw [List.length_range] at this
  exact this
theorem fal_sym (bs : List Bool) {c : Int} (hc : 0 < c) (n : Nat) : (symTo (fcs bs c n) (fcs bs c n).length).length = fal bs n := by
  rw [fcs_len]
  unfold symTo fal
  congr 1
  apply List.filter_congr
  intro k hk
  rw [fcs_get (List.mem_range.1 hk)]
  cases bs.getD k false <;> simp [hc]
theorem fcs_good (bs : List Bool) {c : Int} (hc : 0 < c) (hc2 : c ≤ 1073741824) {n : Nat} (hn : n ≤ 300) : ¬ BadL (fcs bs c n) 15 := by
  intro h
  unfold BadL at h
  rcases h with h | h | h | ⟨i, hi, h⟩ | h
  · omega
  · omega
  · rw [fcs_len] at h; omega
  · rw [fcs_len] at hi
    rw [fcs_get hi] at h
    split at h <;> omega
  · have h1 : (coinsTo (fcs bs c n) (fcs bs c n).length).length = (symTo (fcs bs c n) (fcs bs c n).length).length := by
      rw [← coinsTo_ins]
      exact (flat_single_len fun c hc => by obtain ⟨j, _, rfl, _⟩ := coinsTo_mem hc; rfl).symm
    rw [h1, fal_sym bs hc] at h
    have := fal_le bs n
    have h2 : 2 ^ (15 : Int).toNat = 32768 := rfl
    omega
/-- What the law asks of the shortest and the longest. -/
theorem flat_end {bs : List Bool} {c : Int} (hc : 0 < c) (hc2 : c ≤ 1073741824) {n : Nat} (hn : n ≤ 300) {f : Nat → Nat} (h : LenIs (fcs bs c n) 15 f) {s l : Nat}
    (h1 : ∀ k, k < n → 0 < f k → s ≤ f k ∧ f k ≤ l) (h2 : (s = 99 ∧ l = 0 ∧ ∀ k, k < n → f k = 0) ∨ (∃ k1 k2, k1 < n ∧ k2 < n ∧ 0 < f k1 ∧ 0 < f k2 ∧ f k1 = s ∧ f k2 = l)) :
    fal bs n = 0 ∨ (s ≤ l ∧ l ≤ s + 1 ∧ (1 < fal bs n ∨ l = 1) ∧ fal bs n ≤ 2 ^ l ∧ 2 ^ l ≤ 32768 ∧ l ≤ 15) := by
  have hnb := fcs_good bs hc hc2 hn
  obtain ⟨p1, p2, p3, p4, p5⟩ := flat_law hnb h (fun i j hi hj h1 h2 => by
    rw [fcs_len] at hi hj
    rw [fcs_get hi] at h1 ⊢
    rw [fcs_get hj] at h2 ⊢
    split at h1 <;> split at h2 <;> simp_all)
  rw [fcs_len] at p1
  rw [fal_sym bs hc] at p3 p5
  rcases Nat.eq_zero_or_pos (fal bs n) with h0 | hp
  · exact .inl h0
  · right
    obtain ⟨k, hk⟩ : ∃ k, k ∈ symTo (fcs bs c n) (fcs bs c n).length := by
      have := fal_sym bs hc n
      match hs : symTo (fcs bs c n) (fcs bs c n).length with
      | [] => rw [hs] at this; simp at this; omega
      | k :: r => exact ⟨k, by simp⟩
    rw [symTo_mem, fcs_len] at hk
    have hfk := (p1 k hk.1).2 hk.2
    rcases h2 with ⟨_, _, h2⟩ | ⟨k1, k2, hk1, hk2, hf1, hf2, rfl, rfl⟩
    · have := h2 k hk.1; omega
    · have hall : ∀ k, f k ≤ f k2 := by
        intro j
        by_cases hj : j < n
        · rcases Nat.eq_zero_or_pos (f j) with h | h
          · omega
          · exact (h1 j hj h).2
        · have : f j = 0 := by
            rcases lenIs_cases hnb h with ⟨_, hb⟩ | ⟨U, qs, hR, _⟩
            · rw [hb j]
              exact List.count_eq_zero_of_not_mem fun hm => hj (by have := (symTo_mem.1 hm).1; rwa [fcs_len] at this)
            · exact hR.none j fun hm => hj (by have := ((hR.mem j).1 hm).1; rwa [fcs_len] at this)
          omega
      have hpw : 2 ^ f k2 ≤ 2 ^ 15 := Nat.pow_le_pow_right (by decide) (p2 k2)
      refine ⟨(h1 k1 hk1 hf1).2, p4 k2 k1 hf2 hf1, ?_, ?_, hpw, p2 k2⟩
      · rcases Nat.lt_or_ge 1 (fal bs n) with h | h
        · exact .inl h
        · have := p3 (by omega) k2
          exact .inr (by omega)
      · rcases Nat.lt_or_ge 1 (fal bs n) with h | h
        · exact p5 _ (p2 k2) hall h
        · have : 1 ≤ 2 ^ f k2 := Nat.one_le_two_pow
          omega
end Go.Proofs.Ytahafepgmkiabaa
