/- More rules of the walk over owned rows: functions that keep variables. -/
import Derived.Test.YtahafepgmkiabaaSepN
set_option linter.unusedVariables false
set_option linter.unusedSimpArgs false
namespace Go.Proofs.Ytahafepgmkiabaa.Sep
open Go Go.RowKit
section steps
variable {C : Cx} {ops : Array Oper} {Q : Post} {Lr : List Chunk} {κ : List (Bool × Oper)} {env : Env} {L : List Chunk} {f : Bool}
  {dst : Option Tmp} {ty : TypeId} {pos : String} {after : Array Edge} {v u : Value} {x y z : Operand}
theorem St.makeFunc {g : FuncId} {caps : Array Operand} (vs : List Value) (hd : dok C.n dst = true) (ha : evl env caps.toList = some vs)
    (h : St C ops Q Lr κ (upd dst (.func (.func g) #[] vs.toArray) env) L) : St C ops Q Lr ((f, ⟨dst, .makeFunc (.func g) #[] caps, ty, pos, after, none⟩) :: κ) env L :=
  St.plain hd rfl (fun a w hf => by
    have hm : caps.map a.eval = vs.toArray := by
      apply Array.ext'
      rw [Array.toList_map]; exact evl_map hf ha
    simp [execOp, Instr.makeFunc, hm]) h
end steps
end Go.Proofs.Ytahafepgmkiabaa.Sep
