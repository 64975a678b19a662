/- Plain stable sorting by a strict weak order: what is in order, what keeps the order of equals, what merges. -/
namespace Go.Proofs.Ytahafepgmkiabaa.Srt
variable {α : Type}

/-- A strict weak order. -/
structure Swo (lt : α → α → Bool) : Prop where
  asym : ∀ x y, lt x y = true → lt y x = false
  trans : ∀ x y z, lt y x = false → lt z y = false → lt z x = false
def eqv (lt : α → α → Bool) (x y : α) : Bool := !lt x y && !lt y x
def Up (lt : α → α → Bool) (l : List α) : Prop := l.Pairwise (fun x y => lt y x = false)
/-- Of those that are equal the same, in the same order. -/
def Alike (lt : α → α → Bool) (a b : List α) : Prop := ∀ z, a.filter (eqv lt z) = b.filter (eqv lt z)

section
variable {lt : α → α → Bool}
theorem Swo.irr (h : Swo lt) (x : α) : lt x x = false := by
  cases hx : lt x x with
  | false => rfl
  | true => have := h.asym x x hx; rw [hx] at this; cases this
theorem Alike.refl (a : List α) : Alike lt a a := fun _ => rfl
theorem Alike.symm {a b : List α} (h : Alike lt a b) : Alike lt b a := fun z => (h z).symm
theorem Alike.trans {a b c : List α} (h : Alike lt a b) (g : Alike lt b c) : Alike lt a c := fun z => (h z).trans (g z)
theorem Alike.append {a b c d : List α} (h : Alike lt a b) (g : Alike lt c d) : Alike lt (a ++ c) (b ++ d) := fun z => by
  rw [List.filter_append, List.filter_append, h z, g z]
theorem eqv_refl (h : Swo lt) (x : α) : eqv lt x x = true := by unfold eqv; rw [h.irr]; rfl
theorem Alike.mem (hs : Swo lt) {a b : List α} (h : Alike lt a b) {x : α} (hx : x ∈ a) : x ∈ b := by
  have : x ∈ a.filter (eqv lt x) := List.mem_filter.2 ⟨hx, eqv_refl hs x⟩
  rw [h x] at this
  exact (List.mem_filter.1 this).1
/-- What is less than all ahead of it may go ahead. -/
theorem Alike.swap (hs : Swo lt) {X Y : List α} (h : ∀ x ∈ X, ∀ y ∈ Y, lt y x = true) : Alike lt (X ++ Y) (Y ++ X) := fun z => by
  rw [List.filter_append, List.filter_append]
  by_cases hx : X.filter (eqv lt z) = []
  · rw [hx, List.append_nil, List.nil_append]
  · have hy : Y.filter (eqv lt z) = [] := by
      rw [List.filter_eq_nil_iff]
      intro y hy hz
      obtain ⟨x, hx⟩ := List.exists_mem_of_ne_nil _ hx
      obtain ⟨hx, hzx⟩ := List.mem_filter.1 hx
      unfold eqv at hz hzx
      simp only [Bool.and_eq_true, Bool.not_eq_true'] at hz hzx
      have := hs.trans x z y hzx.1 hz.2
      rw [h x hx y hy] at this
      cases this
    rw [hy, List.append_nil, List.nil_append]
theorem Up.app {A B : List α} : Up lt (A ++ B) ↔ Up lt A ∧ Up lt B ∧ ∀ a ∈ A, ∀ b ∈ B, lt b a = false := List.pairwise_append
theorem unique (hs : Swo lt) : ∀ {a b : List α}, Up lt a → Up lt b → Alike lt a b → a = b
  | [], [], _, _, _ => rfl
  | [], y :: b, _, _, h => by have := h.symm.mem hs (List.mem_cons_self (a := y) (l := b)); simp at this
  | x :: a, [], _, _, h => by have := h.mem hs (List.mem_cons_self (a := x) (l := a)); simp at this
  | x :: a, y :: b, ha, hb, h => by
    have le_head : ∀ {u v : α} {l : List α}, Up lt (u :: l) → v ∈ u :: l → lt v u = false := by
      intro u v l hu hv
      rcases List.mem_cons.1 hv with rfl | hv
      · exact hs.irr _
      · exact (List.pairwise_cons.1 hu).1 v hv
    have h1 : lt y x = false := le_head ha (h.symm.mem hs List.mem_cons_self)
    have h2 : lt x y = false := le_head hb (h.mem hs List.mem_cons_self)
    have he := h x
    have exy : eqv lt x y = true := by unfold eqv; rw [h1, h2]; rfl
    rw [List.filter_cons_of_pos (eqv_refl hs x), List.filter_cons_of_pos exy] at he
    injection he with e1 e2
    subst e1
    have : Alike lt a b := by
      intro z
      have hz := h z
      by_cases hzx : eqv lt z x = true
      · rw [List.filter_cons_of_pos hzx, List.filter_cons_of_pos hzx] at hz
        injection hz
      · rw [List.filter_cons_of_neg hzx, List.filter_cons_of_neg hzx] at hz
        exact hz
    rw [unique hs (List.pairwise_cons.1 ha).2 (List.pairwise_cons.1 hb).2 this]
/-- Two parts, each merged by itself. -/
theorem sym_step (hs : Swo lt) {A1 A2 B1 B2 M1 M2 : List α} (hA : Up lt (A1 ++ A2)) (hB : Up lt (B1 ++ B2)) (h12 : ∀ x ∈ A1, ∀ y ∈ B2, lt y x = false) (h21 : ∀ x ∈ A2, ∀ y ∈ B1, lt y x = true)
    (u1 : Up lt M1) (a1 : Alike lt M1 (A1 ++ B1)) (u2 : Up lt M2) (a2 : Alike lt M2 (A2 ++ B2)) : Up lt (M1 ++ M2) ∧ Alike lt (M1 ++ M2) (A1 ++ A2 ++ (B1 ++ B2)) := by
  obtain ⟨_, _, hAA⟩ := Up.app.1 hA
  obtain ⟨_, _, hBB⟩ := Up.app.1 hB
  refine ⟨Up.app.2 ⟨u1, u2, fun x hx y hy => ?_⟩, ?_⟩
  · have hx' := a1.mem hs hx
    have hy' := a2.mem hs hy
    rcases List.mem_append.1 hx' with hx' | hx' <;> rcases List.mem_append.1 hy' with hy' | hy'
    · exact hAA x hx' y hy'
    · exact h12 x hx' y hy'
    · exact hs.asym _ _ (h21 y hy' x hx')
    · exact hBB x hx' y hy'
  · refine (a1.append a2).trans ?_
    have e1 : A1 ++ B1 ++ (A2 ++ B2) = A1 ++ ((B1 ++ A2) ++ B2) := by simp
    have e2 : A1 ++ A2 ++ (B1 ++ B2) = A1 ++ ((A2 ++ B1) ++ B2) := by simp
    rw [e1, e2]
    exact (Alike.refl A1).append ((Alike.swap hs h21).symm.append (Alike.refl B2))
theorem up_take {l : List α} (h : Up lt l) (n : Nat) : Up lt (l.take n) := h.sublist (List.take_sublist n l)
theorem up_drop {l : List α} (h : Up lt l) (n : Nat) : Up lt (l.drop n) := h.sublist (List.drop_sublist n l)
theorem up_get {l : List α} (h : Up lt l) {i j : Nat} {x y : α} (hij : i < j) (hx : l[i]? = some x) (hy : l[j]? = some y) : lt y x = false := by
  obtain ⟨hi, rfl⟩ := List.getElem?_eq_some_iff.1 hx
  obtain ⟨hj, rfl⟩ := List.getElem?_eq_some_iff.1 hy
  exact List.pairwise_iff_getElem.1 h i j hi hj hij
theorem up_le (hs : Swo lt) {l : List α} (h : Up lt l) {i j : Nat} {x y : α} (hij : i ≤ j) (hx : l[i]? = some x) (hy : l[j]? = some y) : lt y x = false := by
  rcases Nat.lt_or_eq_of_le hij with hl | rfl
  · exact up_get h hl hx hy
  · rw [hx] at hy; injection hy with hy; subst hy; exact hs.irr _
theorem mem_take_get {l : List α} {n : Nat} {x : α} (h : x ∈ l.take n) : ∃ i, i < n ∧ l[i]? = some x := by
  obtain ⟨i, hi⟩ := List.getElem?_of_mem h
  rw [List.getElem?_take] at hi
  split at hi
  · exact ⟨i, by assumption, hi⟩
  · cases hi
theorem mem_drop_get {l : List α} {n : Nat} {x : α} (h : x ∈ l.drop n) : ∃ i, n ≤ i ∧ l[i]? = some x := by
  obtain ⟨i, hi⟩ := List.getElem?_of_mem h
  rw [List.getElem?_drop] at hi
  exact ⟨n + i, by omega, hi⟩
theorem bound12 (hs : Swo lt) {A B : List α} (hA : Up lt A) (hB : Up lt B) {s e : Nat} (h : s = 0 ∨ B.length ≤ e ∨ ∃ x y, A[s - 1]? = some x ∧ B[e]? = some y ∧ lt y x = false) : ∀ x ∈ A.take s, ∀ y ∈ B.drop e, lt y x = false := by
  intro x hx y hy
  obtain ⟨i, hi, hxi⟩ := mem_take_get hx
  obtain ⟨j, hj, hyj⟩ := mem_drop_get hy
  rcases h with rfl | h | ⟨u, v, hu, hv, hl⟩
  · omega
  · have := (List.getElem?_eq_some_iff.1 hyj).1; omega
  · have h1 := up_le hs hA (show i ≤ s - 1 by omega) hxi hu
    have h2 := up_le hs hB hj hv hyj
    exact hs.trans _ _ _ (hs.trans _ _ _ h1 hl) h2
theorem bound21 (hs : Swo lt) {A B : List α} (hA : Up lt A) (hB : Up lt B) {s e : Nat} (h : A.length ≤ s ∨ e = 0 ∨ ∃ x y, A[s]? = some x ∧ B[e - 1]? = some y ∧ lt y x = true) : ∀ x ∈ A.drop s, ∀ y ∈ B.take e, lt y x = true := by
  intro x hx y hy
  obtain ⟨i, hi, hxi⟩ := mem_drop_get hx
  obtain ⟨j, hj, hyj⟩ := mem_take_get hy
  rcases h with h | rfl | ⟨u, v, hu, hv, hl⟩
  · have := (List.getElem?_eq_some_iff.1 hxi).1; omega
  · omega
  · have h1 := up_le hs hA hi hu hxi
    have h2 := up_le hs hB (show j ≤ e - 1 by omega) hyj hv
    cases hyx : lt y x with
    | true => rfl
    | false =>
      -- u ≤ x ≤ y ≤ v
      have := hs.trans _ _ _ (hs.trans _ _ _ h1 hyx) h2
      rw [hl] at this
      cases this
/-- One more among those that are in order. -/
theorem ins_step (hs : Swo lt) {T1 T2 : List α} {x : α} (hT : Up lt (T1 ++ T2)) (h2 : ∀ t ∈ T2, lt x t = true) (h1 : T1 = [] ∨ ∃ T t, T1 = T ++ [t] ∧ lt x t = false) : Up lt (T1 ++ x :: T2) ∧ Alike lt (T1 ++ x :: T2) (T1 ++ T2 ++ [x]) := by
  obtain ⟨u1, u2, _⟩ := Up.app.1 hT
  have hlow : ∀ t ∈ T1, lt x t = false := by
    rcases h1 with rfl | ⟨T, t, rfl, ht⟩
    · simp
    · intro z hz
      rcases List.mem_append.1 hz with hz | hz
      · have := (Up.app.1 u1).2.2 z hz t (by simp)
        exact hs.trans _ _ _ this ht
      · rcases List.mem_singleton.1 hz with rfl; exact ht
  have hone : Up lt [x] := List.pairwise_singleton _ _
  have := sym_step hs (A1 := T1) (A2 := T2) (B1 := [x]) (B2 := []) (M1 := T1 ++ [x]) (M2 := T2) hT (by simpa using hone) (by simp) (fun t ht y hy => by rcases List.mem_singleton.1 hy with rfl; exact h2 t ht)
    (Up.app.2 ⟨u1, hone, fun t ht y hy => by rcases List.mem_singleton.1 hy with rfl; exact hlow t ht⟩) (Alike.refl _) u2 (by rw [List.append_nil]; exact Alike.refl _)
  simpa using this
/-! blocks -/
def UpR (lt : α → α → Bool) (a b : Nat) (l : List α) : Prop := ∀ i j x y, a ≤ i → i < j → j < b → l[i]? = some x → l[j]? = some y → lt y x = false
theorem get_left {P M S : List α} {i : Nat} (h : i < P.length) : (P ++ (M ++ S))[i]? = P[i]? := List.getElem?_append_left h
theorem get_mid {P M S : List α} {i : Nat} (h : P.length ≤ i) (h' : i < P.length + M.length) : (P ++ (M ++ S))[i]? = M[i - P.length]? := by
  rw [List.getElem?_append_right h, List.getElem?_append_left (by omega)]
theorem get_right {P M S : List α} {i : Nat} (h : P.length + M.length ≤ i) : (P ++ (M ++ S))[i]? = S[i - P.length - M.length]? := by
  rw [List.getElem?_append_right (by omega), List.getElem?_append_right (by omega)]
theorem get_same {P M M' S : List α} (hl : M'.length = M.length) {i : Nat} (h : i < P.length ∨ P.length + M.length ≤ i) : (P ++ (M' ++ S))[i]? = (P ++ (M ++ S))[i]? := by
  rcases h with h | h
  · rw [get_left h, get_left h]
  · rw [get_right h, get_right (by omega), hl]
theorem upR_mid {P M S : List α} (h : UpR lt P.length (P.length + M.length) (P ++ (M ++ S))) : Up lt M := by
  unfold Up
  rw [List.pairwise_iff_getElem]
  intro i j hi hj hij
  refine h (P.length + i) (P.length + j) _ _ (by omega) (by omega) (by omega) ?_ ?_
  · rw [get_mid (by omega) (by omega), show P.length + i - P.length = i by omega, List.getElem?_eq_getElem hi]
  · rw [get_mid (by omega) (by omega), show P.length + j - P.length = j by omega, List.getElem?_eq_getElem hj]
theorem mid_upR {P M S : List α} (h : Up lt M) : UpR lt P.length (P.length + M.length) (P ++ (M ++ S)) := by
  intro i j x y h1 h2 h3 hx hy
  rw [get_mid h1 (by omega)] at hx
  rw [get_mid (by omega) h3] at hy
  exact up_get h (by omega) hx hy
/-- In order up to c within blocks of d, from c on within blocks of e. -/
def Blk (lt : α → α → Bool) (d e c : Nat) (l : List α) : Prop :=
  ∀ i j x y, i < j → l[i]? = some x → l[j]? = some y → ((j < c → i / d = j / d → lt y x = false) ∧ (c ≤ i → i / e = j / e → lt y x = false))
theorem Blk.up {d e : Nat} {l : List α} (hd : l.length ≤ d) (h : Blk lt d e l.length l) : Up lt l := by
  unfold Up
  rw [List.pairwise_iff_getElem]
  intro i j hi hj hij
  refine (h i j _ _ hij (List.getElem?_eq_getElem hi) (List.getElem?_eq_getElem hj)).1 hj ?_
  rw [Nat.div_eq_of_lt (by omega), Nat.div_eq_of_lt (by omega)]
theorem Blk.part {d e c : Nat} {P M S : List α} (h : Blk lt d e c (P ++ (M ++ S))) (hc : c ≤ P.length) (q : Nat) (h1 : e * q ≤ P.length) (h2 : P.length + M.length ≤ e * q + e) (he : 0 < e) : Up lt M := by
  refine upR_mid (P := P) (S := S) fun i j x y hi hij hj hx hy => ?_
  refine (h i j x y hij hx hy).2 (by omega) ?_
  have d1 : i / e = q := by rw [Nat.div_eq_iff he]; exact ⟨by rw [Nat.mul_comm]; omega, by rw [Nat.mul_comm]; omega⟩
  have d2 : j / e = q := by rw [Nat.div_eq_iff he]; exact ⟨by rw [Nat.mul_comm]; omega, by rw [Nat.mul_comm]; omega⟩
  rw [d1, d2]
/-- The next block is in order. -/
theorem Blk.next {d e q : Nat} {P M M' S : List α} (hl : M'.length = M.length) (hP : P.length = d * q) (hd : 0 < d) (hu : Up lt M') (h : Blk lt d e P.length (P ++ (M ++ S))) : Blk lt d e (P.length + M.length) (P ++ (M' ++ S)) := by
  intro i j x y hij hx hy
  refine ⟨fun hj hdj => ?_, fun hi hej => ?_⟩
  · by_cases hjp : j < P.length
    · rw [get_same hl (.inl (by omega))] at hx
      rw [get_same hl (.inl hjp)] at hy
      exact (h i j x y hij hx hy).1 hjp hdj
    · have hip : P.length ≤ i := by
        have h1 : q ≤ j / d := by rw [Nat.le_div_iff_mul_le hd, Nat.mul_comm]; omega
        have h2 : q ≤ i / d := by omega
        rw [Nat.le_div_iff_mul_le hd, Nat.mul_comm] at h2
        omega
      exact mid_upR (P := P) (S := S) hu i j x y hip hij (by omega) hx hy
  · rw [get_same hl (.inr hi)] at hx
    rw [get_same hl (.inr (by omega))] at hy
    exact (h i j x y hij hx hy).2 (by omega) hej
/-- All the blocks are done: a new beginning, twice as wide. -/
theorem Blk.again {d e : Nat} {l : List α} (h : Blk lt d e l.length l) (d' : Nat) : Blk lt d' d 0 l := fun i j x y hij hx hy =>
  ⟨fun hj => by omega, fun _ hd => (h i j x y hij hx hy).1 (List.getElem?_eq_some_iff.1 hy).1 hd⟩
theorem Blk.zero {d : Nat} (l : List α) : Blk lt d 1 0 l := fun i j x y hij hx hy => ⟨fun hj => by omega, fun _ h => by rw [Nat.div_one, Nat.div_one] at h; omega⟩
/-- What is left over lies within one block. -/
theorem Blk.rest {d e q : Nat} {l : List α} (hde : d = 2 * e) (he : 0 < e) (c : Nat) (hc : c = d * q) (hr : l.length ≤ c + e) (h : Blk lt d e c l) : Blk lt d e l.length l := by
  intro i j x y hij hx hy
  have hj := (List.getElem?_eq_some_iff.1 hy).1
  refine ⟨fun _ hdj => ?_, fun hi => by omega⟩
  by_cases hjc : j < c
  · exact (h i j x y hij hx hy).1 hjc hdj
  · have hic : c ≤ i := by
      have h1 : q ≤ j / d := by rw [Nat.le_div_iff_mul_le (by omega), Nat.mul_comm]; omega
      have h2 : q ≤ i / d := by omega
      rw [Nat.le_div_iff_mul_le (by omega), Nat.mul_comm] at h2
      omega
    refine (h i j x y hij hx hy).2 hic ?_
    have e1 : c = e * (2 * q) := by rw [hc, hde, Nat.mul_comm 2 e, Nat.mul_assoc]
    have d1 : i / e = 2 * q := by rw [Nat.div_eq_iff he]; exact ⟨by rw [Nat.mul_comm]; omega, by rw [Nat.mul_comm]; omega⟩
    have d2 : j / e = 2 * q := by rw [Nat.div_eq_iff he]; exact ⟨by rw [Nat.mul_comm]; omega, by rw [Nat.mul_comm]; omega⟩
    rw [d1, d2]
end
end Go.Proofs.Ytahafepgmkiabaa.Srt
