/- More rules of the walk over owned rows: where several ways meet again. -/
import Derived.Test.YtahafepgmkiabaaSepL
set_option linter.unusedVariables false
set_option linter.unusedSimpArgs false
namespace Go.Proofs.Ytahafepgmkiabaa.Sep
open Go Go.RowKit
section join
variable {C : Cx} {Q : Post} {env : Env} {L : List Chunk}
/-- One of a family of states. -/
def Some1 {α : Type} (C : Cx) (I : α → Prop) (env' : α → Env) (L' : α → List Chunk) : Act → World → Prop :=
  fun a w => ∃ y, I y ∧ Fr C.n (env' y) a ∧ Own C.w0 (L' y) w
/-- Whatever way x takes, it comes to one of a family of states; from each of them y goes on. -/
theorem SC.join {α : Type} {x y : Code} (I : α → Prop) (env' : α → Env) (L' : α → List Chunk) (h2 : ∀ s, I s → SC C y Q (env' s) (L' s)) (h1 : SC C x (Q.seq (Some1 C I env' L')) env L) : SC C (x.seq y) Q env L := by
  intro a w hf ho
  refine wp_seq (Code.wp_mono ?_ (h1 a w hf ho))
  intro e a' w' hq
  cases e with
  | normal =>
    obtain ⟨s, hs, hf', ho'⟩ := hq
    exact h2 s hs a' w' hf' ho'
  | exit id => exact hq
  | goto l => exact hq
  | ret => exact hq
  | panic c => exact hq
  | outgrown => exact hq
theorem SX.some {α : Type} {I : α → Prop} {env' : α → Env} {L' : α → List Chunk} (y : α) (hI : I y) (hs : Sub (env' y) env) (hp : L.flatten.Perm (L' y).flatten) : SX C .normal (Q.seq (Some1 C I env' L')) env L :=
  fun a w hf ho => ⟨y, hI, hf.keep hs, ho.perm hp⟩
end join
theorem perm25 (a b c d e : Chunk) (L : List Chunk) : (a :: b :: c :: d :: e :: L).flatten.Perm (c :: d :: e :: a :: b :: L).flatten :=
  (((List.perm_middle (l₁ := [c, d, e])).trans (List.Perm.cons a (List.perm_middle (l₁ := [c, d, e]))))).symm.flatten
end Go.Proofs.Ytahafepgmkiabaa.Sep
