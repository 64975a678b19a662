/- More rules of the walk over owned rows: cuts of what is read, mixed results, whole rows stored. -/
import Derived.Test.YtahafepgmkiabaaSepJ
set_option linter.unusedVariables false
set_option linter.unusedSimpArgs false
namespace Go.Proofs.Ytahafepgmkiabaa.Sep
open Go Go.RowKit

/-- A slice no longer than its room. -/
def Cap (v : Value) : Prop := ∃ A n c, v = .slice A n c ∧ n ≤ c
theorem Cap.le {A : Option Addr} {n c : Nat} (h : Cap (.slice A n c)) : n ≤ c := by
  obtain ⟨A', n', c', e, h⟩ := h
  injection e with _ e1 e2
  subst e1 e2; exact h
theorem Cap.nil : Cap (.slice none 0 0) := ⟨_, _, _, rfl, Nat.le_refl _⟩
theorem Buf.cap {e : TypeId} {sz n : Nat} {v : Value} {xs : List Value} {E : Chunk} (h : Buf e sz v xs n E) : Cap v := by
  obtain ⟨_, ⟨rfl, rfl, _⟩ | ⟨b, pre, cap, tail, rfl, _, h1, _⟩⟩ := h
  · exact Cap.nil
  · exact ⟨_, _, _, rfl, h1⟩
/-- A part of what is read. -/
theorem Rd.cut {w0 : World} {L : List Chunk} {A : Option Addr} {sz n c : Nat} {xs : List Value} (h : Rd w0 L (.slice A n c) sz n xs) (l k m : Nat) (hlk : l ≤ k) (hk : k ≤ n) (hm : k ≤ m) :
    Rd w0 L (.slice (if m = l then A else A.map (·.add (l * sz))) (k - l) (m - l)) sz (k - l) ((xs.drop (l * sz)).take ((k - l) * sz)) := by
  obtain ⟨hx, b, o, A', c2, hv, hA, hh⟩ := h
  injection hv with h1 _ h2
  subst h1 h2
  have hkl : k * sz = l * sz + (k - l) * sz := by rw [← Nat.add_mul]; congr 1; omega
  have hkn : k * sz ≤ n * sz := Nat.mul_le_mul_right _ hk
  refine ⟨by rw [List.length_take, List.length_drop, hx]; omega, b, o + l * sz, _, m - l, rfl, fun hp => ?_, fun w hw j u hu => ?_⟩
  · rw [if_neg (by omega), hA (by omega)]
    simp [add_off]
  · rw [List.getElem?_take] at hu
    split at hu
    · rw [List.getElem?_drop] at hu
      rw [Nat.add_assoc]
      exact hh w hw _ u hu
    · cases hu
theorem bytes_cut (bs : List Nat) (l k : Nat) : ((bytes bs).drop (l * 1)).take (k * 1) = bytes ((bs.drop l).take k) := by
  simp [bytes, List.map_drop, List.map_take]
section steps
variable {C : Cx} {ops : Array Oper} {Q : Post} {Lr : List Chunk} {κ : List (Bool × Oper)} {env : Env} {L : List Chunk} {f : Bool}
  {dst : Option Tmp} {ty : TypeId} {pos : String} {after : Array Edge} {v u : Value} {x y z : Operand}
/-- A cut of bytes that are read: a new value, and what it reads as. -/
theorem St.cutB {t e : TypeId} {lo hi : Option Operand} {L1 : List Chunk} {bs : List Nat} (l h : Nat) (hd : dok C.n dst = true) (hx : ev env x = some v) (ht : sliceTy C.P t = some (e, 1)) (hr : Rd C.w0 L1 v 1 bs.length (bytes bs)) (hcp : Cap v)
    (hl : Bd env lo 0 l) (hh : Bd env hi bs.length h) (h1 : l ≤ h) (h2 : h ≤ bs.length)
    (hk : ∀ v', Rd C.w0 L1 v' 1 ((bs.drop l).take (h - l)).length (bytes ((bs.drop l).take (h - l))) → Cap v' → St C ops Q Lr κ (upd dst v' env) L) :
    St C ops Q Lr ((f, ⟨dst, .slice t x lo hi none, ty, pos, after, none⟩) :: κ) env L := by
  have hr' := hr
  obtain ⟨_, b, o, A, c, rfl, hA, hh0⟩ := hr'
  have hnc := hcp.le
  have hc := hr.cut l h c h1 h2 (by omega)
  rw [bytes_cut] at hc
  have hlen : ((bs.drop l).take (h - l)).length = h - l := by rw [List.length_take, List.length_drop]; omega
  refine St.cut hd hx ht hl hh rfl h1 (by omega) (Nat.le_refl _) (by simp) (hk _ ?_ ⟨_, _, _, rfl, by omega⟩)
  rw [hlen]; exact hc
/-- A slice cut at its own length, also in room. -/
theorem St.clip {t e : TypeId} {n sz : Nat} {E : Chunk} {xs : List Value} {hi mx : Operand} (hd : dok C.n dst = true) (hx : ev env x = some v) (ht : sliceTy C.P t = some (e, sz)) (hb : Buf e sz v xs n E)
    (hh : ∃ k, ev env hi = some (.int k (n : Int))) (hm : ∃ k, ev env mx = some (.int k (n : Int)))
    (hk : ∀ v', Buf e sz v' xs n E → St C ops Q Lr κ (upd dst v' env) L) :
    St C ops Q Lr ((f, ⟨dst, .slice t x none (some hi) (some mx), ty, pos, after, none⟩) :: κ) env L := by
  obtain ⟨k1, hh⟩ := hh
  obtain ⟨k2, hm⟩ := hm
  have hb' := hb
  obtain ⟨hl, ⟨rfl, rfl, rfl⟩ | ⟨b, pre, cap, tail, rfl, rfl, h1, h2⟩⟩ := hb'
  · refine St.cut (l := 0) (h := 0) (m := 0) hd hx ht rfl ⟨_, _, hh, rfl⟩ ⟨_, _, hm, rfl⟩ (by omega) (by omega) (by omega) (by simp) ?_
    exact hk _ hb
  · refine St.cut (l := 0) (h := n) (m := n) hd hx ht rfl ⟨_, _, hh, rfl⟩ ⟨_, _, hm, rfl⟩ (by omega) (by omega) (by omega) (by simp) ?_
    have e1 : (if n = 0 then (some ⟨b, pre.length, none⟩ : Option Addr) else (some ⟨b, pre.length, none⟩ : Option Addr).map (·.add (0 * sz))) = some ⟨b, pre.length, none⟩ := by
      split
      · rfl
      · simp [add_off]
    rw [e1]
    exact hk _ ⟨hl, .inr ⟨b, pre, n, tail, by simp, rfl, Nat.le_refl _, by simp⟩⟩
end steps
theorem splice_all (cs ds : List Value) (h : ds.length = cs.length) : splice cs 0 ds = ds := by
  simp [splice, h]
section ends
variable {C : Cx} {env : Env} {L : List Chunk} {fn : Func} {R : Value → List Chunk → Prop}
theorem SX.retCT {e : Exit} {t t' : Tmp} {ty : TypeId} {b o : Nat} {v' : Value} (cs : List Value) (he : e = .ret ∨ e = .normal) (hr : fn.results = #[.cell t ty, .tmp t']) (hv : lk env t = some (.pointer (some ⟨b, o, none⟩))) (hv' : lk env t' = some v')
    (ht : aggTy C.P ty = some cs.length) (hc : HoldsN C.w0 L b o cs) {L' : List Chunk} (hs : ∀ w, Own C.w0 L w → Own C.w0 L' w) (h : R (.tuple #[.agg cs.toArray, v']) L') : SX C e (Fin C.P fn C.w0 R) env L := fun a w hf ho => by
  have key : (results fn a.tmps).run C.P w = .ok (.tuple #[.agg cs.toArray, v']) w := by
    simp [results, hr, Array.getD_eq_getD_getElem?, hf.has t _ hv, hf.has t' _ hv', asAddr, run_loadVar_agg ht (hc w ho)]
  rcases he with rfl | rfl
  · exact ⟨hf.defers, _, key, _, L', rfl, h, hs _ ho⟩
  · exact ⟨hf.defers, _, key, _, L', rfl, h, hs _ ho⟩
end ends
theorem or8 (a b : Nat) (h : b < 256) : a * 2 ^ 8 ||| b = a * 256 + b := by
  rw [Nat.or_comm, or_add b a 8 (by omega)]; omega
end Go.Proofs.Ytahafepgmkiabaa.Sep
