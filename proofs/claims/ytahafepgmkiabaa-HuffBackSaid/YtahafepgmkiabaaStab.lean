/- Stable sorting, plain: a list that is sorted by a key and keeps, key by key, the order of equals is one list. -/
namespace Go.Proofs.Ytahafepgmkiabaa.Stab
variable {α : Type}

/-- Sorted by a key. -/
def Up (f : α → Int) (l : List α) : Prop := l.Pairwise (fun a b => f a ≤ f b)
/-- The elements of one key, in their order. -/
def ofKey (f : α → Int) (k : Int) (l : List α) : List α := l.filter (fun a => f a = k)
/-- Key by key the same elements in the same order. -/
def Alike (f : α → Int) (a b : List α) : Prop := ∀ k, ofKey f k a = ofKey f k b

theorem Alike.refl (f : α → Int) (a : List α) : Alike f a a := fun _ => rfl
theorem Alike.symm {f : α → Int} {a b : List α} (h : Alike f a b) : Alike f b a := fun k => (h k).symm
theorem Alike.trans {f : α → Int} {a b c : List α} (h : Alike f a b) (g : Alike f b c) : Alike f a c := fun k => (h k).trans (g k)
theorem ofKey_append (f : α → Int) (k : Int) (a b : List α) : ofKey f k (a ++ b) = ofKey f k a ++ ofKey f k b := by simp [ofKey]
theorem Alike.append {f : α → Int} {a b c d : List α} (h : Alike f a b) (g : Alike f c d) : Alike f (a ++ c) (b ++ d) := fun k => by
  rw [ofKey_append, ofKey_append, h k, g k]

theorem Alike.mem {f : α → Int} {a b : List α} (h : Alike f a b) {x : α} (hx : x ∈ a) : x ∈ b := by
  have : x ∈ ofKey f (f x) a := by simp [ofKey, hx]
  rw [h (f x)] at this
  simp [ofKey] at this
  exact this

theorem unique {f : α → Int} : ∀ {a b : List α}, Up f a → Up f b → Alike f a b → a = b
  | [], [], _, _, _ => rfl
  | [], y :: b, _, _, h => by have := h.symm.mem (List.mem_cons_self (a := y) (l := b)); simp at this
  | x :: a, [], _, _, h => by have := h.mem (List.mem_cons_self (a := x) (l := a)); simp at this
  | x :: a, y :: b, ha, hb, h => by
    have hxy : f x ≤ f y := by
      have hm : y ∈ x :: a := h.symm.mem List.mem_cons_self
      rcases List.mem_cons.1 hm with e | e
      · rw [e]; exact Int.le_refl _
      · exact (List.pairwise_cons.1 ha).1 y e
    have hyx : f y ≤ f x := by
      have hm : x ∈ y :: b := h.mem List.mem_cons_self
      rcases List.mem_cons.1 hm with e | e
      · rw [e]; exact Int.le_refl _
      · exact (List.pairwise_cons.1 hb).1 x e
    have hk : f x = f y := Int.le_antisymm hxy hyx
    have he := h (f x)
    have e1 : ofKey f (f x) (x :: a) = x :: ofKey f (f x) a := by simp [ofKey]
    have e2 : ofKey f (f x) (y :: b) = y :: ofKey f (f x) b := by simp [ofKey, hk]
    rw [e1, e2] at he
    injection he with he1 he2
    subst he1
    have : Alike f a b := by
      intro k
      have hk' := h k
      by_cases hkx : f x = k
      · subst hkx; exact he2
      · have g1 : ofKey f k (x :: a) = ofKey f k a := by simp [ofKey, hkx]
        have g2 : ofKey f k (x :: b) = ofKey f k b := by simp [ofKey, hkx]
        rw [g1, g2] at hk'
        exact hk'
    rw [unique (List.pairwise_cons.1 ha).2 (List.pairwise_cons.1 hb).2 this]
end Go.Proofs.Ytahafepgmkiabaa.Stab
