/- Package-merge, plain. -/
import Derived.Test.YtahafepgmkiabaaStab
namespace Go.Proofs.Ytahafepgmkiabaa.PM
open Stab
structure Coin where
  worth : Int
  ins : List Nat

def packs : List Coin → List Coin
  | a :: b :: t => ⟨a.worth + b.worth, a.ins ++ b.ins⟩ :: packs t
  | _ => []

def merge : List Coin → List Coin → List Coin
  | [], q => q
  | c :: cs, [] => c :: cs
  | c :: cs, p :: ps => if c.worth ≤ p.worth then c :: merge cs (p :: ps) else p :: merge (c :: cs) ps
termination_by c p => c.length + p.length

def row (C : List Coin) : Nat → List Coin
  | 0 => C
  | t + 1 => merge C (packs (row C t))

def cnt (i : Nat) (l : List Coin) : Nat := (l.flatMap Coin.ins).count i
theorem cnt_append (i : Nat) (a b : List Coin) : cnt i (a ++ b) = cnt i a + cnt i b := by simp [cnt, List.flatMap_append]
theorem cnt_cons (i : Nat) (a : Coin) (b : List Coin) : cnt i (a :: b) = a.ins.count i + cnt i b := by simp [cnt]
theorem cnt_nil (i : Nat) : cnt i [] = 0 := rfl

theorem packs_length : ∀ l : List Coin, (packs l).length = l.length / 2
  | [] => rfl
  | [_] => by simp [packs]
  | a :: b :: t => by simp only [packs, List.length_cons, packs_length t]; omega

theorem packs_mem : ∀ (l : List Coin) (x : Coin), x ∈ packs l → ∃ a b, a ∈ l ∧ b ∈ l ∧ x.worth = a.worth + b.worth
  | [], x, h => by simp [packs] at h
  | [_], x, h => by simp [packs] at h
  | a :: b :: t, x, h => by
    simp only [packs, List.mem_cons] at h
    rcases h with rfl | h
    · exact ⟨a, b, by simp, by simp, rfl⟩
    · obtain ⟨c, d, hc, hd, e⟩ := packs_mem t x h
      exact ⟨c, d, by simp [hc], by simp [hd], e⟩

theorem packs_up : ∀ (l : List Coin), Up Coin.worth l → Up Coin.worth (packs l)
  | [], _ => List.Pairwise.nil
  | [_], _ => List.Pairwise.nil
  | a :: b :: t, h => by
    simp only [Up, List.pairwise_cons] at h
    obtain ⟨h1, h2, h3⟩ := h
    refine List.pairwise_cons.2 ⟨fun x hx => ?_, packs_up t h3⟩
    obtain ⟨c, d, hc, hd, e⟩ := packs_mem t x hx
    have e1 := h1 c (by simp [hc])
    have e2 := h2 d hd
    show a.worth + b.worth ≤ x.worth
    omega

theorem packs_take : ∀ (l : List Coin) (b i : Nat), 2 * b ≤ l.length → cnt i ((packs l).take b) = cnt i (l.take (2 * b))
  | l, 0, i, _ => by simp [cnt]
  | [], b + 1, i, h => by simp at h
  | [_], b + 1, i, h => by simp at h; omega
  | x :: y :: t, b + 1, i, h => by
    have e : 2 * (b + 1) = (2 * b) + 1 + 1 := by omega
    rw [e]
    simp only [packs, List.take_succ_cons, cnt_cons, List.count_append]
    rw [packs_take t b i (by simp at h; omega)]
    omega

/-- The last package is at least one more than whatever was packed. -/
theorem packs_last : ∀ (l : List Coin) (b : Nat), 0 < b → 2 * b ≤ l.length → Up Coin.worth l → (∀ x ∈ l, 1 ≤ x.worth) →
    ∃ y ∈ (packs l).take b, ∀ x ∈ l.take (2 * b), x.worth + 1 ≤ y.worth
  | l, 0, h, _, _, _ => absurd h (by omega)
  | [], b + 1, _, h, _, _ => by simp at h
  | [_], b + 1, _, h, _, _ => by simp at h; omega
  | x :: y :: t, b + 1, _, h, hu, hp => by
    simp only [Up, List.pairwise_cons] at hu
    obtain ⟨h1, h2, h3⟩ := hu
    have e : 2 * (b + 1) = (2 * b) + 1 + 1 := by omega
    have px := hp x (by simp)
    have py := hp y (by simp)
    have hxy := h1 y (by simp)
    rcases Nat.eq_zero_or_pos b with rfl | hb
    · refine ⟨⟨x.worth + y.worth, x.ins ++ y.ins⟩, by simp [packs], fun z hz => ?_⟩
      simp at hz
      rcases hz with rfl | rfl
      · show z.worth + 1 ≤ z.worth + y.worth; omega
      · show z.worth + 1 ≤ x.worth + z.worth; omega
    · obtain ⟨w, hw, hall⟩ := packs_last t b hb (by simp at h; omega) h3 (fun z hz => hp z (by simp [hz]))
      refine ⟨w, by simp only [packs, List.take_succ_cons]; exact List.mem_cons_of_mem _ hw, fun z hz => ?_⟩
      rw [e, List.take_succ_cons, List.take_succ_cons] at hz
      have ht : ∃ q, q ∈ t.take (2 * b) := by
        cases t with
        | nil => simp at h; omega
        | cons q t => exact ⟨q, by rw [show 2 * b = (2 * b - 1) + 1 by omega, List.take_succ_cons]; simp⟩
      obtain ⟨q, hq⟩ := ht
      have hqw := hall q hq
      have hqt := List.mem_of_mem_take hq
      simp only [List.mem_cons] at hz
      rcases hz with rfl | rfl | hz
      · have := h1 q (by simp [hqt]); omega
      · have := h2 q hqt; omega
      · exact hall z hz

theorem merge_nil (c : List Coin) : merge c [] = c := by cases c <;> simp [merge]
theorem merge_length : ∀ c p : List Coin, (merge c p).length = c.length + p.length := by
  intro c p
  induction c, p using merge.induct with
  | case1 q => simp [merge]
  | case2 c cs => simp [merge]
  | case3 c cs p ps h ih => simp only [merge, if_pos h, List.length_cons, ih]; omega
  | case4 c cs p ps h ih => simp only [merge, if_neg h, List.length_cons] at ih ⊢; rw [ih]; omega
theorem merge_mem (x : Coin) : ∀ c p : List Coin, x ∈ merge c p ↔ x ∈ c ∨ x ∈ p := by
  intro c p
  induction c, p using merge.induct with
  | case1 q => simp [merge]
  | case2 c cs => simp [merge]
  | case3 c cs p ps h ih => simp only [merge, if_pos h, List.mem_cons, ih]; grind
  | case4 c cs p ps h ih => simp only [merge, if_neg h, List.mem_cons, ih]; grind
theorem merge_up : ∀ c p : List Coin, Up Coin.worth c → Up Coin.worth p → Up Coin.worth (merge c p) := by
  intro c p
  induction c, p using merge.induct with
  | case1 q => intro _ h; simpa [merge] using h
  | case2 c cs => intro h _; simpa [merge] using h
  | case3 c cs p ps h ih =>
    intro hc hp
    simp only [merge, if_pos h]
    refine List.pairwise_cons.2 ⟨fun x hx => ?_, ih (List.pairwise_cons.1 hc).2 hp⟩
    rcases (merge_mem x cs (p :: ps)).1 hx with hx | hx
    · exact (List.pairwise_cons.1 hc).1 x hx
    · rcases List.mem_cons.1 hx with rfl | hx
      · exact h
      · exact Int.le_trans h ((List.pairwise_cons.1 hp).1 x hx)
  | case4 c cs p ps h ih =>
    intro hc hp
    simp only [merge, if_neg h]
    refine List.pairwise_cons.2 ⟨fun x hx => ?_, ih hc (List.pairwise_cons.1 hp).2⟩
    rcases (merge_mem x (c :: cs) ps).1 hx with hx | hx
    · rcases List.mem_cons.1 hx with rfl | hx
      · omega
      · have := (List.pairwise_cons.1 hc).1 x hx; omega
    · exact (List.pairwise_cons.1 hp).1 x hx
theorem merge_alike : ∀ c p : List Coin, Up Coin.worth c → Alike Coin.worth (merge c p) (c ++ p) := by
  intro c p
  induction c, p using merge.induct with
  | case1 q => intro _; simp [merge]; exact Alike.refl _ _
  | case2 c cs => intro _; simp [merge]; exact Alike.refl _ _
  | case3 c cs p ps h ih =>
    intro hc
    simp only [merge, if_pos h]
    exact Alike.append (a := [c]) (b := [c]) (Alike.refl _ _) (ih (List.pairwise_cons.1 hc).2)
  | case4 c cs p ps h ih =>
    intro hc
    simp only [merge, if_neg h]
    have h1 := Alike.append (a := [p]) (b := [p]) (Alike.refl _ _) (ih hc)
    refine h1.trans (fun k => ?_)
    simp only [ofKey_append]
    by_cases hk : p.worth = k
    · have : ofKey Coin.worth k (c :: cs) = [] := by
        simp only [ofKey, List.filter_eq_nil_iff]
        intro x hx
        have : c.worth ≤ x.worth := by
          rcases List.mem_cons.1 hx with rfl | hx
          · exact Int.le_refl _
          · exact (List.pairwise_cons.1 hc).1 x hx
        simp; omega
      rw [this]; simp [ofKey, List.filter_cons]; split <;> simp
    · have : ofKey Coin.worth k [p] = [] := by simp [ofKey, hk]
      rw [this, show p :: ps = [p] ++ ps from rfl, ofKey_append, this]; simp

/-- The first m of a merge are the first of the coins and the first of the packages. -/
theorem take_merge : ∀ (m : Nat) (c p : List Coin), m ≤ c.length + p.length → Up Coin.worth c →
    ∃ a b, a + b = m ∧ a ≤ c.length ∧ b ≤ p.length ∧ (∀ i, cnt i ((merge c p).take m) = cnt i (c.take a) + cnt i (p.take b)) ∧
      (∀ x ∈ c.take a, x ∈ (merge c p).take m) ∧ (∀ z, c[a]? = some z → ∀ x ∈ p.take b, x.worth < z.worth)
  | 0, c, p, _, _ => ⟨0, 0, rfl, by omega, by omega, fun i => by simp [cnt], by simp, by simp⟩
  | m + 1, [], p, h, _ => ⟨0, m + 1, by omega, by simp, by simpa using h, fun i => by simp [merge, cnt], by simp, by simp⟩
  | m + 1, c :: cs, [], h, _ => ⟨m + 1, 0, by omega, by simpa using h, by simp, fun i => by simp [merge, cnt], by simp [merge], by simp⟩
  | m + 1, c :: cs, p :: ps, h, hu => by
    by_cases hc : c.worth ≤ p.worth
    · obtain ⟨a, b, e, ha, hb, hcnt, hmem, hsep⟩ := take_merge m cs (p :: ps) (by simp at h ⊢; omega) (List.pairwise_cons.1 hu).2
      refine ⟨a + 1, b, by omega, by simp; omega, hb, fun i => ?_, fun x hx => ?_, fun z hz => hsep z (by simpa using hz)⟩
      · simp only [merge, if_pos hc, List.take_succ_cons, cnt_cons, hcnt i]; omega
      · simp only [merge, if_pos hc, List.take_succ_cons, List.mem_cons] at hx ⊢
        rcases hx with hx | hx
        · exact .inl hx
        · exact .inr (hmem x hx)
    · obtain ⟨a, b, e, ha, hb, hcnt, hmem, hsep⟩ := take_merge m (c :: cs) ps (by simp at h ⊢; omega) hu
      refine ⟨a, b + 1, by omega, ha, by simp; omega, fun i => ?_, fun x hx => ?_, fun z hz x hx => ?_⟩
      · simp only [merge, if_neg hc, List.take_succ_cons, cnt_cons, hcnt i]; omega
      · simp only [merge, if_neg hc, List.take_succ_cons, List.mem_cons]
        exact .inr (hmem x hx)
      · rw [List.take_succ_cons, List.mem_cons] at hx
        rcases hx with rfl | hx
        · have hz' : z ∈ c :: cs := List.mem_of_getElem? hz
          rcases List.mem_cons.1 hz' with rfl | hz'
          · omega
          · have := (List.pairwise_cons.1 hu).1 z hz'; omega
        · exact hsep z hz x hx

/-- The weight of numbers of coins, the widest level first. -/
def V : List Nat → Nat
  | [] => 0
  | a :: as => 2 ^ as.length * a + V as
/-- Nobody is begun before all are at the level above. -/
def Chain (n : Nat) : List Nat → Prop
  | [] => True
  | a :: as => (a < n → ∀ x ∈ as, x = 0) ∧ Chain n as

theorem row_up (C : List Coin) (h : Up Coin.worth C) : ∀ t, Up Coin.worth (row C t)
  | 0 => h
  | t + 1 => merge_up _ _ h (packs_up _ (row_up C h t))
theorem row_pos (C : List Coin) (h : ∀ x ∈ C, 1 ≤ x.worth) : ∀ t, ∀ x ∈ row C t, 1 ≤ x.worth
  | 0 => h
  | t + 1 => fun x hx => by
    rcases (merge_mem x _ _).1 hx with hx | hx
    · exact h x hx
    · obtain ⟨a, b, ha, hb, e⟩ := packs_mem _ x hx
      have := row_pos C h t a ha
      have := row_pos C h t b hb
      omega
theorem row_length (C : List Coin) (t : Nat) : (row C (t + 1)).length = C.length + (row C t).length / 2 := by
  simp only [row, merge_length, packs_length]

theorem rows (C : List Coin) (hu : Up Coin.worth C) (hp : ∀ x ∈ C, 1 ≤ x.worth) : ∀ (t m : Nat), m ≤ (row C t).length →
    ∃ as : List Nat, as.length = t + 1 ∧ as.Pairwise (fun a b => b ≤ a) ∧ (∀ a ∈ as, a ≤ C.length) ∧
      (∀ i, cnt i ((row C t).take m) = (as.map fun a => cnt i (C.take a)).sum) ∧ V as = 2 ^ t * m ∧
      (∀ a, as.head? = some a → ∀ x ∈ C.take a, x ∈ (row C t).take m) ∧ (m = 0 → ∀ a ∈ as, a = 0) ∧
      ((∀ x ∈ C, ∀ y ∈ C, x.worth = y.worth) → Chain C.length as)
  | 0, m, hm => ⟨[m], rfl, by simp, by simpa [row] using hm, fun i => by simp [row], by simp [V], by simp [row], by simp,
      fun _ => by simp [Chain]⟩
  | t + 1, m, hm => by
    obtain ⟨a, b, e, ha, hb, hcnt, hmem, hsep⟩ := take_merge m C (packs (row C t)) (by simpa [row, merge_length] using hm) hu
    have hb2 : 2 * b ≤ (row C t).length := by rw [packs_length] at hb; omega
    obtain ⟨as, hl, hpw, hle, hc, hV, hhead, hzero, hflat⟩ := rows C hu hp t (2 * b) hb2
    have hnest : ∀ x ∈ as, x ≤ a := by
      have hh : ∀ x, as.head? = some x → x ≤ a := by
        intro x hx
        rcases Nat.lt_or_ge a x with hlt | hge
        · exfalso
          have hxl : x ≤ C.length := hle x (List.mem_of_head? hx)
          have haC : a < C.length := by omega
          have hz : C[a]? = some C[a] := List.getElem?_eq_getElem haC
          have hin : C[a] ∈ C.take x := by
            rw [List.mem_take_iff_getElem]
            exact ⟨a, by omega, rfl⟩
          have hin2 := hhead x hx _ hin
          have hbpos : 0 < b := by
            rcases Nat.eq_zero_or_pos b with rfl | h
            · simp at hin2
            · exact h
          obtain ⟨y, hy, hall⟩ := packs_last (row C t) b hbpos hb2 (row_up C hu t) (row_pos C hp t)
          have h1 := hall _ hin2
          have h2 := hsep _ hz y hy
          omega
        · exact hge
      intro x hx
      cases as with
      | nil => simp at hx
      | cons y ys =>
        have hy := hh y rfl
        rcases List.mem_cons.1 hx with rfl | hx
        · exact hy
        · exact Nat.le_trans ((List.pairwise_cons.1 hpw).1 x hx) hy
    refine ⟨a :: as, by simp [hl], List.pairwise_cons.2 ⟨hnest, hpw⟩, ?_, fun i => ?_, ?_, ?_, ?_, ?_⟩
    · intro x hx
      rcases List.mem_cons.1 hx with rfl | hx
      · exact ha
      · exact hle x hx
    · simp only [row, List.map_cons, List.sum_cons, hcnt i, packs_take _ _ _ hb2, hc i]
    · simp only [V, hl, hV]
      rw [← e, Nat.pow_succ, Nat.mul_add]
      have : 2 ^ t * (2 * b) = 2 ^ t * 2 * b := by rw [Nat.mul_assoc]
      omega
    · intro x hx y hy
      simp at hx
      subst hx
      exact hmem y hy
    · intro h0 x hx
      have ha0 : a = 0 := by omega
      have hb0 : 2 * b = 0 := by omega
      rcases List.mem_cons.1 hx with rfl | hx
      · exact ha0
      · exact hzero hb0 x hx
    · intro hf
      refine ⟨fun hlt => ?_, hflat hf⟩
      have hz : C[a]? = some C[a] := List.getElem?_eq_getElem hlt
      have hbz : b = 0 := by
        rcases Nat.eq_zero_or_pos b with h | h
        · exact h
        · exfalso
          obtain ⟨y, hy, hall⟩ := packs_last (row C t) b h hb2 (row_up C hu t) (row_pos C hp t)
          have h2 := hsep _ hz y hy
          obtain ⟨c, d, hc', hd', e'⟩ := packs_mem _ y (List.mem_of_mem_take hy)
          have lo : ∀ t, ∀ x ∈ row C t, (C[a]).worth ≤ x.worth := by
            intro t
            induction t with
            | zero => intro x hx; have := hf (C[a]) (List.getElem_mem hlt) x hx; omega
            | succ t ih =>
              intro x hx
              rcases (merge_mem x _ _).1 hx with hx | hx
              · have := hf (C[a]) (List.getElem_mem hlt) x hx; omega
              · obtain ⟨u, v, hu', hv', e2⟩ := packs_mem _ x hx
                have := ih u hu'
                have := row_pos C hp t v hv'
                omega
          have := lo t c hc'
          have := row_pos C hp t d hd'
          omega
      exact hzero (by omega)

/-- How long a code the symbol of a rank gets. -/
def len (as : List Nat) (r : Nat) : Nat := (as.filter (fun a => r < a)).length
theorem len_le (as : List Nat) (r : Nat) : len as r ≤ as.length := List.length_filter_le _ _
theorem len_cons (a : Nat) (as : List Nat) (r : Nat) : len (a :: as) r = (if r < a then 1 else 0) + len as r := by
  simp only [len, List.filter_cons]; split <;> simp_all <;> omega
theorem len_zero (as : List Nat) (r : Nat) (h : ∀ a ∈ as, a ≤ r) : len as r = 0 := by
  simp only [len, List.length_eq_zero_iff, List.filter_eq_nil_iff]; intro a ha; have := h a ha; simp; omega
theorem len_mono (as : List Nat) (r s : Nat) (h : r ≤ s) : len as s ≤ len as r := by
  induction as with
  | nil => simp [len]
  | cons a as ih => rw [len_cons, len_cons]; split <;> split <;> omega

def sumTo (n : Nat) (f : Nat → Nat) : Nat := ((List.range n).map f).sum
theorem sumTo_succ (n : Nat) (f : Nat → Nat) : sumTo (n + 1) f = sumTo n f + f n := by simp [sumTo, List.range_succ]
theorem sumTo_congr (n : Nat) (f g : Nat → Nat) (h : ∀ r, r < n → f r = g r) : sumTo n f = sumTo n g := by
  induction n with
  | zero => rfl
  | succ n ih => rw [sumTo_succ, sumTo_succ, ih (fun r hr => h r (by omega)), h n (by omega)]
theorem sumTo_split (n a : Nat) (f : Nat → Nat) (h : a ≤ n) (k : Nat) (hk : ∀ r, a ≤ r → r < n → f r = k) : sumTo n f = sumTo a f + (n - a) * k := by
  induction n with
  | zero => have : a = 0 := by omega
            subst this; simp
  | succ n ih =>
    by_cases e : a = n + 1
    · subst e; simp
    · rw [sumTo_succ, ih (by omega) (fun r h1 h2 => hk r h1 (by omega)), hk n (by omega) (by omega), show n + 1 - a = (n - a) + 1 by omega, Nat.add_mul]
      omega

theorem kraft : ∀ (as : List Nat) (n : Nat), as.Pairwise (fun a b => b ≤ a) → (∀ a ∈ as, a ≤ n) →
    sumTo n (fun r => 2 ^ (as.length - len as r)) + V as = n * 2 ^ as.length
  | [], n, _, _ => by
    rw [sumTo_split n 0 _ (by omega) 1 (fun r _ _ => by simp [len])]
    simp [sumTo, V]
  | a :: as, n, hp, hle => by
    have ha : a ≤ n := hle a (by simp)
    obtain ⟨h1, h2⟩ := List.pairwise_cons.1 hp
    have ih := kraft as a h2 h1
    rw [sumTo_split n a _ ha (2 ^ (as.length + 1)) (fun r hr _ => by
      rw [len_zero (a :: as) r (fun x hx => by
        rcases List.mem_cons.1 hx with rfl | hx
        · exact hr
        · have := h1 x hx; omega)]
      simp)]
    rw [sumTo_congr a _ (fun r => 2 ^ (as.length - len as r)) (fun r hr => by
      rw [len_cons, if_pos hr, List.length_cons]
      congr 1; omega)]
    simp only [V, List.length_cons]
    have e1 : (n - a) * 2 ^ (as.length + 1) = n * 2 ^ (as.length + 1) - a * 2 ^ (as.length + 1) := Nat.sub_mul _ _ _
    have e2 : a * 2 ^ (as.length + 1) = 2 * (a * 2 ^ as.length) := by rw [Nat.pow_succ]; rw [← Nat.mul_assoc]; omega
    have e3 : 2 ^ as.length * a = a * 2 ^ as.length := Nat.mul_comm _ _
    have e4 : a * 2 ^ (as.length + 1) ≤ n * 2 ^ (as.length + 1) := Nat.mul_le_mul_right _ ha
    omega

theorem chain_len (n : Nat) : ∀ (as : List Nat), Chain n as → (∀ a ∈ as, a ≤ n) → ∀ r s, r < n → s < n → len as r ≤ len as s + 1
  | [], _, _, r, s, _, _ => by simp [len]
  | a :: as, hc, hle, r, s, hr, hs => by
    rw [len_cons, len_cons]
    have ih := chain_len n as hc.2 (fun x hx => hle x (by simp [hx])) r s hr hs
    by_cases h : a < n
    · have z := hc.1 h
      rw [len_zero as r (fun x hx => by have := z x hx; omega), len_zero as s (fun x hx => by have := z x hx; omega)]
      split <;> split <;> omega
    · have : a = n := by have := hle a (by simp); omega
      subst this
      rw [if_pos hr, if_pos hs]
      omega

theorem sumTo_pos_le (n : Nat) (f : Nat → Nat) (r : Nat) (hr : r < n) : f r ≤ sumTo n f := by
  induction n with
  | zero => omega
  | succ n ih =>
    rw [sumTo_succ]
    by_cases e : r = n
    · subst e; omega
    · have := ih (by omega); omega
theorem sumTo_ge (n : Nat) (f : Nat → Nat) (k : Nat) (h : ∀ r, r < n → k ≤ f r) : n * k ≤ sumTo n f := by
  induction n with
  | zero => simp
  | succ n ih => rw [sumTo_succ, Nat.add_mul]; have := ih (fun r hr => h r (by omega)); have := h n (by omega); omega

/-- There is room enough. -/
theorem room (C : List Coin) (t : Nat) (h : C.length ≤ 2 ^ (t + 1)) : 2 * C.length ≤ (row C t).length + 2 := by
  have key : ∀ t, ∃ d, 2 * C.length = (row C t).length + d ∧ d * 2 ^ t + 1 ≤ C.length + 2 ^ t ∨ 2 * C.length ≤ (row C t).length := by
    intro t
    induction t with
    | zero => exact ⟨C.length, .inl ⟨by simp [row]; omega, by simp⟩⟩
    | succ t ih =>
      rw [row_length]
      obtain ⟨d, ⟨e, hd⟩ | h⟩ := ih
      · refine ⟨C.length - (row C t).length / 2, .inl ⟨by omega, ?_⟩⟩
        have h1 : 2 * (C.length - (row C t).length / 2) ≤ d + 1 := by omega
        have h2 : 2 * (C.length - (row C t).length / 2) * 2 ^ t ≤ (d + 1) * 2 ^ t := Nat.mul_le_mul_right _ h1
        rw [Nat.add_mul] at h2
        have h3 : (C.length - (row C t).length / 2) * 2 ^ (t + 1) = 2 * (C.length - (row C t).length / 2) * 2 ^ t := by
          rw [Nat.pow_succ, Nat.mul_comm (2 ^ t) 2, ← Nat.mul_assoc, Nat.mul_comm _ 2]
        rw [h3, Nat.pow_succ]
        omega
      · exact ⟨0, .inr (by omega)⟩
  obtain ⟨d, ⟨e, hd⟩ | h'⟩ := key t
  · have hlt : d ≤ 2 := by
      rcases Nat.lt_or_ge 2 d with h3 | h3
      · have : 3 * 2 ^ t ≤ d * 2 ^ t := Nat.mul_le_mul_right _ h3
        rw [Nat.pow_succ] at h
        omega
      · exact h3
    omega
  · omega
end Go.Proofs.Ytahafepgmkiabaa.PM
