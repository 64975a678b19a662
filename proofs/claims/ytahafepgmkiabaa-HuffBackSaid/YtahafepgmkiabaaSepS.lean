/- More rules of the walk over owned rows: append(nil, make n); lists of slices. -/
import Derived.Test.YtahafepgmkiabaaSepR
import Derived.Lib.AppendZeros
set_option linter.unusedVariables false
set_option linter.unusedSimpArgs false
namespace Go.Proofs.Ytahafepgmkiabaa.Sep
open Go Go.RowKit Go.Lib
section steps
variable {C : Cx} {ops : Array Oper} {Q : Post} {Lr : List Chunk} {κ : List (Bool × Oper)} {env : Env} {L : List Chunk} {f : Bool}
  {dst : Option Tmp} {ty : TypeId} {pos : String} {after : Array Edge} {v u : Value} {x y z : Operand}
def isIntTy (P : Program) (t : TypeId) : Bool := match P.underlying t with
  | some (.int _) => true
  | _ => false
theorem St.appendZ {t tn e : TypeId} {sz bytes n : Nat} {k : IntKind} (hd : dok C.n dst = true) (hx : ev env x = some (.slice none 0 0)) (hy : ev env y = some (.int k (n : Int))) (ht : growTy C.P t = some (e, sz, bytes)) (htn : isIntTy C.P tn = true)
    (h0 : 0 < n) (hs : 0 < sz) (h48 : n * bytes ≤ 281474976710656) (hmax : n ≤ 9223372036854775807) (hc : ∀ b cs w, Own C.w0 ([⟨b, cs, e⟩] :: L) w → Own C.w0 Lr w)
    (h : ∀ b cap cs, n ≤ cap → cs.length = cap * sz → St C ops Q Lr κ (upd dst (.slice (some ⟨b, 0, none⟩) n cap) env) ([⟨b, cs, e⟩] :: L)) :
    St C ops Q Lr ((false, ⟨dst, .call ⟨.builtin .append, #[x, y], #[t, tn]⟩, ty, pos, after, none⟩) :: κ) env L :=
  St.make (R := fun v' L1 => ∃ b cap cs, v' = .slice (some ⟨b, 0, none⟩) n cap ∧ L1 = [⟨b, cs, e⟩] :: L ∧ n ≤ cap ∧ cs.length = cap * sz) hd rfl (fun a w hf ho => by
    unfold growTy at ht
    split at ht
    · rename_i e' hu
      simp only [Option.bind_eq_some_iff] at ht
      obtain ⟨i, hi, zv, hz, ht⟩ := ht
      split at ht
      · rename_i hzs
        simp only [Option.some.injEq, Prod.mk.injEq] at ht
        obtain ⟨rfl, rfl, rfl⟩ := ht
        unfold isIntTy at htn
        split at htn
        · rename_i kn hkn
          have hr := run_append_nil_zeros (P := C.P) w t tn ty e' i zv k kn hu hkn hi hz n h0 hs (by omega) h48
          have hcap : n ≤ grownCap w n 0 e' := grownCap_ge _ _ _ _
          refine ⟨_, _, w.drew.alloc (.cells (Builtin.zeroCells zv.cells n ++ Builtin.zeroCells zv.cells (grownCap w n 0 e' - n)) e'), ?_, ⟨w.heap.size, grownCap w n 0 e', (Builtin.zeroCells zv.cells n ++ Builtin.zeroCells zv.cells (grownCap w n 0 e' - n)).toList, rfl, rfl, hcap, ?_⟩, ?_⟩
          · simp [execOp, resolve, invoke, builtin, hf.eval hx, hf.eval hy, hr]
          · rw [Array.length_toList, Array.size_append, zeroCells_size, zeroCells_size, hzs, ← Nat.add_mul]
            congr 1; omega
          · have := (ho.drew).alloc (Builtin.zeroCells zv.cells n ++ Builtin.zeroCells zv.cells (grownCap w n 0 e' - n)).toList e'
            rw [Array.toArray_toList] at this
            exact this
        · cases htn
      · cases ht
    · cases ht)
    (fun v' L1 w ⟨b, cap, cs, _, h1, _⟩ hw => hc b cs w (by rw [← h1]; exact hw)) (fun v' L1 ⟨b, cap, cs, h1, h2, h3, h4⟩ => by subst h1 h2; exact h b cap cs h3 h4)
theorem HoldsN.at {w0 : World} {b o : Nat} {cs : List Value} (h : HoldsN w0 L b o cs) (i : Nat) {v : Value} (hv : cs[i]? = some v) : Holds w0 L ⟨b, o + ((i : Nat) : Int).toNat * 1, none⟩ v := by
  rw [Int.toNat_natCast, Nat.mul_one]; exact h.one i hv
end steps
def tot (l : List (Value × Nat × List Value)) : Nat := (l.map (fun u => u.2.1)).sum
theorem tot_app (a b : List (Value × Nat × List Value)) : tot (a ++ b) = tot a + tot b := by simp [tot]
theorem tot_cons (a : Value × Nat × List Value) (b : List (Value × Nat × List Value)) : tot (a :: b) = a.2.1 + tot b := by simp [tot]
theorem tot_nil : tot [] = 0 := rfl
end Go.Proofs.Ytahafepgmkiabaa.Sep
