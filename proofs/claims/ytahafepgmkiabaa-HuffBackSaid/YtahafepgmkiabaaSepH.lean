/- More rules of the walk over owned rows: a guard whose own operation was passed over. -/
import Derived.Test.YtahafepgmkiabaaSepG
set_option linter.unusedVariables false
set_option linter.unusedSimpArgs false
namespace Go.Proofs.Ytahafepgmkiabaa.Sep
open Go Go.RowKit
section steps
variable {C : Cx} {ops : Array Oper} {Q : Post} {Lr : List Chunk} {κ : List (Bool × Oper)} {env : Env} {L : List Chunk} {f : Bool}
  {dst : Option Tmp} {op : Op} {ty : TypeId} {pos : String} {after : Array Edge} {v : Value} {x y z : Operand}
theorem St.guard_none {j : Nat} {want : Bool} {d : Tmp} (hd : dok C.n dst = true) (hj : (ops[j]?).bind (·.dst) = some d) (hb : lk env d = some undef) (h : St C ops Q Lr κ (upd dst undef env) L) :
    St C ops Q Lr ((f, ⟨dst, op, ty, pos, after, some (j, want)⟩) :: κ) env L := by
  intro a w hf ho hr
  have hy : yielded ops a.tmps j = none := by
    unfold yielded
    rw [hj]
    simp only [Option.bind_some, hf.has d _ hb]
    rfl
  have hw : Region.wanted (⟨dst, op, ty, pos, after, some (j, want)⟩ : Oper) (yielded ops a.tmps) = false := by
    simp [Region.wanted, hy]
  have h := h _ w (hf.put undef hd) ho hr
  cases f with
  | true => exact ⟨_, fun _ h => h, undef, .inr ⟨hw, rfl⟩, hr, h⟩
  | false =>
    unfold Run wpO
    rw [hw, if_neg (by simp)]
    exact ⟨hr, h⟩
end steps
end Go.Proofs.Ytahafepgmkiabaa.Sep
