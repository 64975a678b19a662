/- The rules of the walk over owned rows: operations that only compute. -/
import Derived.Test.YtahafepgmkiabaaSepB
set_option linter.unusedVariables false
set_option linter.unusedSimpArgs false
namespace Go.Proofs.Ytahafepgmkiabaa.Sep
open Go Go.RowKit

section steps
variable {C : Cx} {ops : Array Oper} {Q : Post} {Lr : List Chunk} {κ : List (Bool × Oper)} {env : Env} {L : List Chunk} {f : Bool}
  {dst : Option Tmp} {ty : TypeId} {pos : String} {after : Array Edge} {v : Value} {x y z : Operand}

theorem St.move (hd : dok C.n dst = true) (hx : ev env x = some v) (h : St C ops Q Lr κ (upd dst v env) L) : St C ops Q Lr ((f, ⟨dst, .move x, ty, pos, after, none⟩) :: κ) env L :=
  St.plain hd rfl (fun a w hf => by simp [execOp, hf.eval hx]) h
theorem St.assign (hd : dok C.n dst = true) (hx : ev env x = some v) (h : St C ops Q Lr κ (upd dst v env) L) : St C ops Q Lr ((f, ⟨dst, .assign x, ty, pos, after, none⟩) :: κ) env L :=
  St.plain hd rfl (fun a w hf => by simp [execOp, hf.eval hx]) h
theorem St.pick_true (hd : dok C.n dst = true) (hc : ev env x = some (.bool true)) (hx : ev env y = some v) (h : St C ops Q Lr κ (upd dst v env) L) : St C ops Q Lr ((f, ⟨dst, .pick x y z, ty, pos, after, none⟩) :: κ) env L :=
  St.plain hd rfl (fun a w hf => by simp [execOp, hf.eval hx, hf.eval hc, asBool]) h
theorem St.pick_false (hd : dok C.n dst = true) (hc : ev env x = some (.bool false)) (hx : ev env z = some v) (h : St C ops Q Lr κ (upd dst v env) L) : St C ops Q Lr ((f, ⟨dst, .pick x y z, ty, pos, after, none⟩) :: κ) env L :=
  St.plain hd rfl (fun a w hf => by simp [execOp, hf.eval hx, hf.eval hc, asBool]) h
theorem St.extract {vs : Array Value} {i : Nat} (hd : dok C.n dst = true) (hx : ev env x = some (.tuple vs)) (hi : vs[i]? = some v) (h : St C ops Q Lr κ (upd dst v env) L) :
    St C ops Q Lr ((f, ⟨dst, .extract x i, ty, pos, after, none⟩) :: κ) env L :=
  St.plain hd rfl (fun a w hf => by simp [execOp, hf.eval hx, Instr.extract, hi]) h
theorem St.nilCheck {A : Addr} (hd : dok C.n dst = true) (hx : ev env x = some (.pointer (some A))) (h : St C ops Q Lr κ (upd dst (.pointer (some A)) env) L) :
    St C ops Q Lr ((f, ⟨dst, .nilCheck x, ty, pos, after, none⟩) :: κ) env L :=
  St.plain hd rfl (fun a w hf => by simp [execOp, hf.eval hx]) h
theorem St.notB {b : Bool} (hd : dok C.n dst = true) (hx : ev env x = some (.bool b)) (h : St C ops Q Lr κ (upd dst (.bool (!b)) env) L) {t : TypeId} :
    St C ops Q Lr ((f, ⟨dst, .unOp .not t x, ty, pos, after, none⟩) :: κ) env L :=
  St.plain hd rfl (fun a w hf => by simp [execOp, hf.eval hx, Op.unary]) h
theorem St.neg {k : IntKind} {a : Int} (hd : dok C.n dst = true) (hx : ev env x = some (.int k a)) (h : St C ops Q Lr κ (upd dst (.int k (k.wrap (0 - a))) env) L) {t : TypeId} :
    St C ops Q Lr ((f, ⟨dst, .unOp .neg t x, ty, pos, after, none⟩) :: κ) env L :=
  St.plain hd rfl (fun a w hf => by simp [execOp, hf.eval hx, Op.unary, Op.intArith]) h
theorem St.compl {k : IntKind} {a : Int} (hd : dok C.n dst = true) (hx : ev env x = some (.int k a)) (h : St C ops Q Lr κ (upd dst (.int k (bits .xor k (if k.signed then -1 else k.max) a)) env) L) {t : TypeId} :
    St C ops Q Lr ((f, ⟨dst, .unOp .xor t x, ty, pos, after, none⟩) :: κ) env L :=
  St.plain hd rfl (fun a w hf => by simp [execOp, hf.eval hx, Op.unary, Op.intBits, bits]) h

/-! whole numbers -/
theorem run_bin {P : Program} {op : BinOp} {t : TypeId} {k : IntKind} {a b : Int} {x y : Operand} {ρ : Operand → Value} {w : World} {r : Value} (hx : ρ x = .int k a) (hy : ρ y = .int k b)
    (hr : (binOp op t (.int k a) (.int k b)).run P w = .ok r w) : (do eqGuard op t x y (ρ x) (ρ y); binOp op t (ρ x) (ρ y) : Sem Value).run P w = .ok r w := by
  rw [hx, hy]
  have : (eqGuard op t x y (.int k a) (.int k b)) = pure () := by unfold eqGuard; split <;> rfl
  rw [this]
  simpa using hr
theorem St.bin {k : IntKind} {a b : Int} {op : BinOp} {t t' : TypeId} (hd : dok C.n dst = true) (hx : ev env x = some (.int k a)) (hy : ev env y = some (.int k b)) (hr : ∀ w, (binOp op t (.int k a) (.int k b)).run C.P w = .ok v w)
    (h : St C ops Q Lr κ (upd dst v env) L) : St C ops Q Lr ((f, ⟨dst, .binOp op t x y t', ty, pos, after, none⟩) :: κ) env L :=
  St.plain hd rfl (fun a w hf => by
    have := run_bin (P := C.P) (w := w) (hf.eval hx) (hf.eval hy) (hr w)
    simp only [execOp]
    rw [Sem.run_bind, this]
    rfl) h
section ints
variable {k : IntKind} {a b : Int} {t t' : TypeId} (hd : dok C.n dst = true) (hx : ev env x = some (.int k a)) (hy : ev env y = some (.int k b))
include hd hx hy
theorem St.add (h : St C ops Q Lr κ (upd dst (.int k (k.wrap (a + b))) env) L) : St C ops Q Lr ((f, ⟨dst, .binOp .add t x y t', ty, pos, after, none⟩) :: κ) env L :=
  St.bin hd hx hy (fun w => by simp [binOp, Op.intArith]) h
theorem St.sub (h : St C ops Q Lr κ (upd dst (.int k (k.wrap (a - b))) env) L) : St C ops Q Lr ((f, ⟨dst, .binOp .sub t x y t', ty, pos, after, none⟩) :: κ) env L :=
  St.bin hd hx hy (fun w => by simp [binOp, Op.intArith]) h
theorem St.mul (h : St C ops Q Lr κ (upd dst (.int k (k.wrap (a * b))) env) L) : St C ops Q Lr ((f, ⟨dst, .binOp .mul t x y t', ty, pos, after, none⟩) :: κ) env L :=
  St.bin hd hx hy (fun w => by simp [binOp, Op.intArith]) h
theorem St.quo (hb : b ≠ 0) (h : St C ops Q Lr κ (upd dst (.int k (k.wrap (a.tdiv b))) env) L) : St C ops Q Lr ((f, ⟨dst, .binOp .quo t x y t', ty, pos, after, none⟩) :: κ) env L :=
  St.bin hd hx hy (fun w => by simp [binOp, Op.intDiv, hb]) h
theorem St.rem (hb : b ≠ 0) (h : St C ops Q Lr κ (upd dst (.int k (a.tmod b)) env) L) : St C ops Q Lr ((f, ⟨dst, .binOp .rem t x y t', ty, pos, after, none⟩) :: κ) env L :=
  St.bin hd hx hy (fun w => by simp [binOp, Op.intDiv, hb]) h
theorem St.andI (h : St C ops Q Lr κ (upd dst (.int k (bits .and k a b)) env) L) : St C ops Q Lr ((f, ⟨dst, .binOp .and t x y t', ty, pos, after, none⟩) :: κ) env L :=
  St.bin hd hx hy (fun w => by simp [binOp, Op.intBits, bits]) h
theorem St.orI (h : St C ops Q Lr κ (upd dst (.int k (bits .or k a b)) env) L) : St C ops Q Lr ((f, ⟨dst, .binOp .or t x y t', ty, pos, after, none⟩) :: κ) env L :=
  St.bin hd hx hy (fun w => by simp [binOp, Op.intBits, bits]) h
theorem St.xorI (h : St C ops Q Lr κ (upd dst (.int k (bits .xor k a b)) env) L) : St C ops Q Lr ((f, ⟨dst, .binOp .xor t x y t', ty, pos, after, none⟩) :: κ) env L :=
  St.bin hd hx hy (fun w => by simp [binOp, Op.intBits, bits]) h
theorem St.eql (h : St C ops Q Lr κ (upd dst (.bool (decide (a = b))) env) L) : St C ops Q Lr ((f, ⟨dst, .binOp .eql t x y t', ty, pos, after, none⟩) :: κ) env L :=
  St.bin hd hx hy (fun w => by simp [binOp, Op.intCmp]; rfl) h
theorem St.neq (h : St C ops Q Lr κ (upd dst (.bool (decide (a ≠ b))) env) L) : St C ops Q Lr ((f, ⟨dst, .binOp .neq t x y t', ty, pos, after, none⟩) :: κ) env L :=
  St.bin hd hx hy (fun w => by simp [binOp, Op.intCmp, bne]; rfl) h
theorem St.lss (h : St C ops Q Lr κ (upd dst (.bool (decide (a < b))) env) L) : St C ops Q Lr ((f, ⟨dst, .binOp .lss t x y t', ty, pos, after, none⟩) :: κ) env L :=
  St.bin hd hx hy (fun w => by simp [binOp, Op.intCmp]) h
theorem St.leq (h : St C ops Q Lr κ (upd dst (.bool (decide (a ≤ b))) env) L) : St C ops Q Lr ((f, ⟨dst, .binOp .leq t x y t', ty, pos, after, none⟩) :: κ) env L :=
  St.bin hd hx hy (fun w => by simp [binOp, Op.intCmp]) h
theorem St.gtr (h : St C ops Q Lr κ (upd dst (.bool (decide (b < a))) env) L) : St C ops Q Lr ((f, ⟨dst, .binOp .gtr t x y t', ty, pos, after, none⟩) :: κ) env L :=
  St.bin hd hx hy (fun w => by simp [binOp, Op.intCmp]) h
theorem St.geq (h : St C ops Q Lr κ (upd dst (.bool (decide (b ≤ a))) env) L) : St C ops Q Lr ((f, ⟨dst, .binOp .geq t x y t', ty, pos, after, none⟩) :: κ) env L :=
  St.bin hd hx hy (fun w => by simp [binOp, Op.intCmp]) h
end ints
theorem St.addI {a b : Int} {t t' : TypeId} (hd : dok C.n dst = true) (hx : ev env x = some (.int .i64 a)) (hy : ev env y = some (.int .i64 b)) (hb : -9223372036854775808 ≤ a + b ∧ a + b ≤ 9223372036854775807)
    (h : St C ops Q Lr κ (upd dst (.int .i64 (a + b)) env) L) : St C ops Q Lr ((f, ⟨dst, .binOp .add t x y t', ty, pos, after, none⟩) :: κ) env L :=
  St.add hd hx hy (by rw [IntWalk.i64_in _ hb]; exact h)
theorem St.subI {a b : Int} {t t' : TypeId} (hd : dok C.n dst = true) (hx : ev env x = some (.int .i64 a)) (hy : ev env y = some (.int .i64 b)) (hb : -9223372036854775808 ≤ a - b ∧ a - b ≤ 9223372036854775807)
    (h : St C ops Q Lr κ (upd dst (.int .i64 (a - b)) env) L) : St C ops Q Lr ((f, ⟨dst, .binOp .sub t x y t', ty, pos, after, none⟩) :: κ) env L :=
  St.sub hd hx hy (by rw [IntWalk.i64_in _ hb]; exact h)
theorem St.mulI {a b : Int} {t t' : TypeId} (hd : dok C.n dst = true) (hx : ev env x = some (.int .i64 a)) (hy : ev env y = some (.int .i64 b)) (hb : -9223372036854775808 ≤ a * b ∧ a * b ≤ 9223372036854775807)
    (h : St C ops Q Lr κ (upd dst (.int .i64 (a * b)) env) L) : St C ops Q Lr ((f, ⟨dst, .binOp .mul t x y t', ty, pos, after, none⟩) :: κ) env L :=
  St.mul hd hx hy (by rw [IntWalk.i64_in _ hb]; exact h)
theorem St.shl {k k' : IntKind} {a b : Int} {t t' : TypeId} (hd : dok C.n dst = true) (hx : ev env x = some (.int k a)) (hy : ev env y = some (.int k' b)) (hb : 0 ≤ b)
    (h : St C ops Q Lr κ (upd dst (.int k (k.wrap (a * 2 ^ (min b.toNat k.bits)))) env) L) : St C ops Q Lr ((f, ⟨dst, .binOp .shl t x y t', ty, pos, after, none⟩) :: κ) env L :=
  St.plain hd rfl (fun a w hf => by
    simp only [execOp, hf.eval hx, hf.eval hy]
    rw [Sem.run_bind, Sem.run_bind]
    simp [eqGuard, binOp, Op.shift, show ¬ b < 0 by omega]) h
theorem St.shr {k k' : IntKind} {a b : Int} {t t' : TypeId} (hd : dok C.n dst = true) (hx : ev env x = some (.int k a)) (hy : ev env y = some (.int k' b)) (hb : 0 ≤ b)
    (h : St C ops Q Lr κ (upd dst (.int k (a.fdiv (2 ^ (min b.toNat k.bits)))) env) L) : St C ops Q Lr ((f, ⟨dst, .binOp .shr t x y t', ty, pos, after, none⟩) :: κ) env L :=
  St.plain hd rfl (fun a w hf => by
    simp only [execOp, hf.eval hx, hf.eval hy]
    rw [Sem.run_bind, Sem.run_bind]
    simp [eqGuard, binOp, Op.shift, show ¬ b < 0 by omega]) h
end steps
end Go.Proofs.Ytahafepgmkiabaa.Sep
