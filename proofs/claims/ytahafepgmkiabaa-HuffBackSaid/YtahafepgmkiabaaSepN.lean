/- More rules of the walk over owned rows: less that is spoken of; blocks that change places. -/
import Derived.Test.YtahafepgmkiabaaSepM
import Derived.Scope
set_option linter.unusedVariables false
set_option linter.unusedSimpArgs false
namespace Go.Proofs.Ytahafepgmkiabaa.Sep
open Go Go.RowKit
theorem sub_flat {α : Type} : ∀ {a b : List (List α)}, a.Sublist b → a.flatten.Sublist b.flatten
  | _, _, .slnil => List.Sublist.refl _
  | _, _, .cons x h => by rw [List.flatten_cons]; exact (sub_flat h).trans (List.sublist_append_right _ _)
  | _, _, .cons_cons x h => by rw [List.flatten_cons, List.flatten_cons]; exact List.Sublist.append (List.Sublist.refl _) (sub_flat h)
section weak
variable {C : Cx} {ops : Array Oper} {Q : Post} {Lr : List Chunk} {κ : List (Bool × Oper)} {env : Env} {L : List Chunk}
theorem St.weak (L' : List Chunk) (hs : L'.Sublist L) (h : St C ops Q Lr κ env L') : St C ops Q Lr κ env L := fun a w hf ho hr => h a w hf (ho.sub (sub_flat hs)) hr
theorem SC.weak {c : Code} (L' : List Chunk) (hs : L'.Sublist L) (h : SC C c Q env L') : SC C c Q env L := fun a w hf ho => h a w hf (ho.sub (sub_flat hs))
theorem SX.weak {e : Exit} (L' : List Chunk) (hs : L'.Sublist L) (h : SX C e Q env L') : SX C e Q env L := fun a w hf ho => h a w hf (ho.sub (sub_flat hs))
end weak
/-! scopes and labels that nothing jumps to -/
def Post.ng (Q : Post) : Post := ⟨Exit.noGoto Q.q, fun c a w h => Q.calm c a w h⟩
section scope
variable {C : Cx} {Q : Post} {env : Env} {L : List Chunk}
theorem SC.scope {c : Code} (h : SC C c Q.ng env L) : SC C (.scope c) Q env L := fun a w hf ho => wp_scope_straight (h a w hf ho)
theorem SC.label {l : Nat} (h : SX C .normal Q env L) : SC C (.label l) Q env L := fun a w hf ho => wp_label (h a w hf ho)
theorem SX.ng (h : SX C .normal Q env L) : SX C .normal Q.ng env L := h
theorem SX.ng_ret (h : SX C .ret Q env L) : SX C .ret Q.ng env L := h
end scope
/-- Two blocks change places. -/
theorem perm_block (A B L : List Chunk) : (A ++ (B ++ L)).flatten.Perm (B ++ (A ++ L)).flatten := by
  rw [← List.append_assoc, ← List.append_assoc]
  exact (List.perm_append_comm.append_right L).flatten
theorem perm33 (a b c d e f : Chunk) (L : List Chunk) : (a :: b :: c :: d :: e :: f :: L).flatten.Perm (d :: e :: f :: a :: b :: c :: L).flatten := perm_block [a, b, c] [d, e, f] L
end Go.Proofs.Ytahafepgmkiabaa.Sep
