/- Rows of elements of several cells: reading one, putting one; what a comparison has to do. -/
import Derived.Test.YtahafepgmkiabaaSepR
import Derived.Test.YtahafepgmkiabaaY0
import Derived.Test.YtahafepgmkiabaaRows
set_option linter.unusedVariables false
set_option linter.unusedSimpArgs false
set_option linter.ambiguousOpen false
namespace Go.Proofs.Ytahafepgmkiabaa
open Go Go.Proofs.Ytahafepgmkiabaa.Sep

section
variable {α : Type} {cl : α → List Value} {sz : Nat}
theorem flat_len (hcl : ∀ x, (cl x).length = sz) : ∀ l : List α, (l.flatMap cl).length = l.length * sz
  | [] => by simp
  | x :: l => by rw [List.flatMap_cons, List.length_append, hcl, flat_len hcl l, List.length_cons, Nat.add_mul]; omega
theorem flat_app (a b : List α) : (a ++ b).flatMap cl = a.flatMap cl ++ b.flatMap cl := List.flatMap_append
theorem srow_at (hcl : ∀ x, (cl x).length = sz) {w0 : World} {L : List Chunk} {b : Nat} {e : TypeId} {pre tail : List Value} {l : List α} (L1 L2 : List α) {y : α} {i : Nat} (h : l = L1 ++ y :: L2) (hi : i = L1.length) :
    HoldsN w0 (([⟨b, pre ++ (l.flatMap cl ++ tail), e⟩] : Chunk) :: L) b (pre.length + ((i : Nat) : Int).toNat * sz) (cl y) := by
  intro w hw j u hu
  have hr := (hw.rows ⟨b, pre ++ (l.flatMap cl ++ tail), e⟩ (by simp)).2
  rw [hr.cell]
  have hlt := (List.getElem?_eq_some_iff.1 hu).1
  subst h hi
  rw [flat_app, List.flatMap_cons, Int.toNat_natCast]
  have hf := flat_len hcl L1
  rw [List.getElem?_append_right (by omega), List.append_assoc, List.append_assoc, List.getElem?_append_right (by omega), List.getElem?_append_left (by omega)]
  rw [← hu]
  congr 1
  omega
theorem srow_room (hcl : ∀ x, (cl x).length = sz) {pre tail : List Value} {l : List α} (L1 L2 : List α) {y x : α} {i : Nat} (h : l = L1 ++ y :: L2) (hi : i = L1.length) : pre.length + ((i : Nat) : Int).toNat * sz + (cl x).length ≤ (pre ++ (l.flatMap cl ++ tail)).length := by
  subst h hi
  rw [List.length_append, List.length_append, flat_len hcl, List.length_append, List.length_cons, hcl, Int.toNat_natCast]
  have : (L1.length + (L2.length + 1)) * sz = L1.length * sz + sz + L2.length * sz := by rw [Nat.add_mul, Nat.add_mul]; omega
  omega
theorem srow_put (hcl : ∀ x, (cl x).length = sz) {pre tail : List Value} {l : List α} (L1 L2 : List α) {y : α} (x : α) {i : Nat} (h : l = L1 ++ y :: L2) (hi : i = L1.length) :
    splice (pre ++ (l.flatMap cl ++ tail)) (pre.length + ((i : Nat) : Int).toNat * sz) (cl x) = pre ++ ((L1 ++ x :: L2).flatMap cl ++ tail) := by
  subst h hi
  have hf := flat_len hcl L1
  unfold splice
  rw [Int.toNat_natCast, flat_app, flat_app, List.flatMap_cons, List.flatMap_cons]
  have e1 : pre.length + L1.length * sz = (pre ++ L1.flatMap cl).length := by rw [List.length_append, hf]
  have e2 : pre.length + L1.length * sz + (cl x).length = (pre ++ (L1.flatMap cl ++ cl y)).length := by rw [List.length_append, List.length_append, hf, hcl, hcl]; omega
  have e3 : pre ++ ((L1.flatMap cl ++ (cl y ++ L2.flatMap cl)) ++ tail) = (pre ++ L1.flatMap cl) ++ (cl y ++ (L2.flatMap cl ++ tail)) := by simp
  have e4 : pre ++ ((L1.flatMap cl ++ (cl y ++ L2.flatMap cl)) ++ tail) = (pre ++ (L1.flatMap cl ++ cl y)) ++ (L2.flatMap cl ++ tail) := by simp
  rw [e2, e4, List.drop_left, ← e4, e3, e1, List.take_left]
  simp
/-- What a comparison does: it changes nothing, and is below zero where the first is less. -/
def Cmp (cl : α → List Value) (w0 : World) (g : FuncId) (lt : α → α → Bool) (D : α → Prop) : Prop :=
  ∀ x y, D x → D y → ∀ L : List Chunk, Meets Try.prog g #[.agg (cl x).toArray, .agg (cl y).toArray] w0 L (fun r L' => L = L' ∧ ∃ k : Int, r = .int .i64 k ∧ (k < 0 ↔ lt x y = true))
end
theorem split_at {α : Type} (l : List α) (n : Nat) (h : n ≤ l.length) : ∃ a b, l = a ++ b ∧ a.length = n := ⟨l.take n, l.drop n, (List.take_append_drop n l).symm, by rw [List.length_take]; omega⟩
theorem split_end {α : Type} (l : List α) (n : Nat) (h : n ≤ l.length) : ∃ a b, l = a ++ b ∧ b.length = n := ⟨l.take (l.length - n), l.drop (l.length - n), (List.take_append_drop _ l).symm, by rw [List.length_drop]; omega⟩
theorem cons_of {α : Type} {l : List α} (h : 0 < l.length) : ∃ x r, l = x :: r := by
  cases l with
  | nil => simp at h
  | cons x r => exact ⟨x, r, rfl⟩
theorem snoc_of {α : Type} {l : List α} (h : 0 < l.length) : ∃ r x, l = r ++ [x] := ⟨l.dropLast, l.getLast (by intro h0; rw [h0] at h; simp at h), (List.dropLast_concat_getLast _).symm⟩
/-- A coin: its worth, where its symbols lie, and which they are (no cell tells the last). -/
structure CoinV where
  worth : Int
  A : Option Addr
  n : Nat
  c : Nat
  ins : List Nat
def CoinV.cells (x : CoinV) : List Value := [.int .i64 x.worth, .slice x.A x.n x.c]
theorem CoinV.len (x : CoinV) : x.cells.length = 2 := rfl
end Go.Proofs.Ytahafepgmkiabaa
