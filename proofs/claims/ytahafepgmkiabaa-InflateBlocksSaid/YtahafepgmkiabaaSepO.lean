/- More rules of the walk over owned rows: cuts of arrays and of whole numbers. -/
import Derived.Test.YtahafepgmkiabaaSepN
import Derived.Test.YtahafepgmkiabaaH1
set_option linter.unusedVariables false
set_option linter.unusedSimpArgs false
namespace Go.Proofs.Ytahafepgmkiabaa.Sep
open Go Go.RowKit Go.Proofs.Ytahafepgmkiabaa
theorem ints_cut (xs : List Int) (l k : Nat) : ((ints xs).drop (l * 1)).take (k * 1) = ints ((xs.drop l).take k) := by
  simp [ints, List.map_drop, List.map_take]
section steps
variable {C : Cx} {ops : Array Oper} {Q : Post} {Lr : List Chunk} {κ : List (Bool × Oper)} {env : Env} {L : List Chunk} {f : Bool}
  {dst : Option Tmp} {ty : TypeId} {pos : String} {after : Array Edge} {v u : Value} {x y z : Operand}
theorem St.cutArr {t : TypeId} {b o n sz h : Nat} {hi : Option Operand} (hd : dok C.n dst = true) (hx : ev env x = some (.pointer (some ⟨b, o, none⟩))) (ht : arrTy C.P t = some (n, sz)) (hh : Bd env hi n h) (h1 : h ≤ n)
    (hk : St C ops Q Lr κ (upd dst (.slice (some ⟨b, o, none⟩) h n) env) L) : St C ops Q Lr ((f, ⟨dst, .slice t x none hi none, ty, pos, after, none⟩) :: κ) env L :=
  St.plain hd rfl (fun a w hf => by
    unfold arrTy at ht
    split at ht
    · rename_i n' e hu
      simp only [Option.map_eq_some_iff, Prod.mk.injEq] at ht
      obtain ⟨j, hj, h1', h2'⟩ := ht
      subst h1' h2'
      have hb := run_bounds (P := C.P) (w := w) (lo := none) (mx := none) hf false (show Bd env none 0 0 from rfl) hh (show Bd env none n' n' from rfl) (Nat.zero_le _) h1 (Nat.le_refl _) (by simp)
      simp only [Option.map_none] at hb
      have ha : (if n' = 0 then (⟨b, o, none⟩ : Addr) else (⟨b, o, none⟩ : Addr).add (0 * j.size)) = ⟨b, o, none⟩ := by split <;> simp [add_off]
      simp [execOp, hf.eval hx, Instr.sliceAt, Instr.sureAddr, run_underlying hu, hb, sizeOf, typeInfo, hj]
      simpa using ha
    · cases ht) hk
theorem St.cutI {t e : TypeId} {lo hi : Option Operand} {L1 : List Chunk} {bs : List Int} (l h : Nat) (hd : dok C.n dst = true) (hx : ev env x = some v) (ht : sliceTy C.P t = some (e, 1)) (hr : Rd C.w0 L1 v 1 bs.length (ints bs)) (hcp : Cap v)
    (hl : Bd env lo 0 l) (hh : Bd env hi bs.length h) (h1 : l ≤ h) (h2 : h ≤ bs.length)
    (hk : ∀ v', Rd C.w0 L1 v' 1 ((bs.drop l).take (h - l)).length (ints ((bs.drop l).take (h - l))) → Cap v' → St C ops Q Lr κ (upd dst v' env) L) :
    St C ops Q Lr ((f, ⟨dst, .slice t x lo hi none, ty, pos, after, none⟩) :: κ) env L := by
  have hr' := hr
  obtain ⟨_, b, o, A, c, rfl, hA, hh0⟩ := hr'
  have hnc := hcp.le
  have hc := hr.cut l h c h1 h2 (by omega)
  rw [ints_cut] at hc
  have hlen : ((bs.drop l).take (h - l)).length = h - l := by rw [List.length_take, List.length_drop]; omega
  refine St.cut hd hx ht hl hh rfl h1 (by omega) (Nat.le_refl _) (by simp) (hk _ ?_ ⟨_, _, _, rfl, by omega⟩)
  rw [hlen]; exact hc
end steps
theorem perm_front3 (Es : List Chunk) (a b c : Chunk) (L : List Chunk) : (Es ++ a :: b :: c :: L).flatten.Perm (a :: b :: c :: (Es ++ L)).flatten := by
  have h := (List.perm_append_comm (l₁ := Es) (l₂ := [a, b, c])).append_right L
  simp only [List.append_assoc, List.cons_append, List.nil_append] at h
  exact h.flatten
end Go.Proofs.Ytahafepgmkiabaa.Sep
