/- The rules of the walk over owned rows: what the printer of walks uses besides. -/
import Derived.Test.YtahafepgmkiabaaSepF
set_option linter.unusedVariables false
set_option linter.unusedSimpArgs false
namespace Go.Proofs.Ytahafepgmkiabaa.Sep
open Go Go.RowKit

section codes
variable {C : Cx} {Q : Post} {env : Env} {L : List Chunk}
theorem SC.cond_true {x : Operand} {t e : Code} (hx : ev env x = some (.bool true)) (h1 : SC C t Q env L) : SC C (.cond x t e) Q env L := SC.cond hx (fun _ => h1) (fun h => by cases h)
theorem SC.cond_false {x : Operand} {t e : Code} (hx : ev env x = some (.bool false)) (h2 : SC C e Q env L) : SC C (.cond x t e) Q env L := SC.cond hx (fun h => by cases h) (fun _ => h2)
end codes
section steps
variable {C : Cx} {ops : Array Oper} {Q : Post} {Lr : List Chunk} {κ : List (Bool × Oper)} {env : Env} {L : List Chunk} {f : Bool}
  {dst : Option Tmp} {op : Op} {ty : TypeId} {pos : String} {after : Array Edge} {v : Value} {x y z : Operand}
theorem sub_self : ∀ (env : Env), ∀ k v, lk env k = some v → lk env k = some v := fun _ _ _ h => h
theorem St.same (env' : Env) (hs : ∀ k v, lk env' k = some v → lk env k = some v) (h : St C ops Q Lr κ env' L) : St C ops Q Lr κ env L := fun a w hf ho hr => h a w ⟨hf.size, hf.defers, fun k v hk => hf.has k v (hs k v hk)⟩ ho hr
theorem St.shadow {d : Tmp} {u : Value} (hd : lk env d = some u) (h : St C ops Q Lr κ ((d, u) :: env) L) : St C ops Q Lr κ env L := St.same ((d, u) :: env) (fun k v hk => by
  simp only [lk] at hk
  cases hb : Nat.beq d k with
  | true =>
    have : d = k := Nat.eq_of_beq_eq_true hb
    subst this
    rw [hb] at hk
    simp only [cond_true] at hk
    rw [hd, hk]
  | false =>
    rw [hb] at hk
    exact hk) h
theorem St.split (d : Tmp) {p : Prop} [Decidable p] (hd : lk env d = some (.bool (decide p))) (h1 : p → St C ops Q Lr κ ((d, .bool true) :: env) L) (h2 : ¬ p → St C ops Q Lr κ ((d, .bool false) :: env) L) : St C ops Q Lr κ env L := by
  by_cases hp : p
  · exact St.shadow (by rw [hd, decide_eq_true hp]) (h1 hp)
  · exact St.shadow (by rw [hd, decide_eq_false hp]) (h2 hp)
theorem St.splitB (d : Tmp) {b : Bool} (hd : lk env d = some (.bool b)) (h1 : b = true → St C ops Q Lr κ ((d, .bool true) :: env) L) (h2 : b = false → St C ops Q Lr κ ((d, .bool false) :: env) L) : St C ops Q Lr κ env L := by
  cases b with
  | true => exact St.shadow hd (h1 rfl)
  | false => exact St.shadow hd (h2 rfl)
theorem St.guard_yes {j : Nat} {want : Bool} {d : Tmp} (hj : (ops[j]?).bind (·.dst) = some d) (hb : lk env d = some (.bool want)) (h : St C ops Q Lr ((f, ⟨dst, op, ty, pos, after, none⟩) :: κ) env L) :
    St C ops Q Lr ((f, ⟨dst, op, ty, pos, after, some (j, want)⟩) :: κ) env L := by
  intro a w hf ho hr
  have hy : yielded ops a.tmps j = some want := by
    unfold yielded
    rw [hj]
    simp only [Option.bind_some, hf.has d _ hb]
  have hw : Region.wanted (⟨dst, op, ty, pos, after, some (j, want)⟩ : Oper) (yielded ops a.tmps) = true := by
    simp [Region.wanted, hy]
  have hw' : Region.wanted (⟨dst, op, ty, pos, after, none⟩ : Oper) (yielded ops a.tmps) = true := by simp [Region.wanted]
  have h := h a w hf ho hr
  cases f with
  | true =>
    obtain ⟨S', hs', v, hv, hS, hk⟩ := h
    refine ⟨S', hs', v, ?_, hS, hk⟩
    rcases hv with ⟨_, hv⟩ | ⟨hv, _⟩
    · exact .inl ⟨hw, hv⟩
    · rw [hw'] at hv; cases hv
  | false =>
    unfold Run wpO at h ⊢
    rw [hw, if_pos rfl]
    rw [hw', if_pos rfl] at h
    exact h
theorem St.guard_no {j : Nat} {want : Bool} {d : Tmp} (hd : dok C.n dst = true) (hj : (ops[j]?).bind (·.dst) = some d) (hb : lk env d = some (.bool (!want))) (h : St C ops Q Lr κ (upd dst undef env) L) :
    St C ops Q Lr ((f, ⟨dst, op, ty, pos, after, some (j, want)⟩) :: κ) env L :=
  St.guard hd hj hb (fun he => by cases want <;> cases he) (fun _ => h)
/-! strings, bools, nil -/
theorem toList_eq (a b : ByteArray) : (a.toList == b.toList) = decide (a = b) := by
  by_cases h : a = b
  · subst h; simp
  · have : a.toList ≠ b.toList := fun e => h (by
      rw [ByteArray.toList_eq] at e
      rw [ByteArray.toList_eq] at e
      cases a; cases b
      simpa using e)
    simp [h, this]
theorem run_equal_bool {P : Program} {t : TypeId} {a b : Bool} {w : World} (ht : P.underlying t = some .bool) : (Op.equal t (.bool a) (.bool b)).run P w = .ok (a == b) w := by
  unfold Op.equal Op.maxDepth Op.equalIn
  rw [Sem.run_bind, run_underlying ht]
  simp
theorem St.boolEql {t t' : TypeId} {a b : Bool} (hd : dok C.n dst = true) (hx : ev env x = some (.bool a)) (hy : ev env y = some (.bool b)) (ht : C.P.underlying t = some .bool)
    (h : St C ops Q Lr κ (upd dst (.bool (decide (a = b))) env) L) : St C ops Q Lr ((f, ⟨dst, .binOp .eql t x y t', ty, pos, after, none⟩) :: κ) env L :=
  St.plain hd rfl (fun fr w hf => by
    simp only [execOp, hf.eval hx, hf.eval hy]
    rw [Sem.run_bind, Sem.run_bind]
    simp [eqGuard, binOp, run_equal_bool ht]
    cases a <;> cases b <;> rfl) h
theorem St.boolNeq {t t' : TypeId} {a b : Bool} (hd : dok C.n dst = true) (hx : ev env x = some (.bool a)) (hy : ev env y = some (.bool b)) (ht : C.P.underlying t = some .bool)
    (h : St C ops Q Lr κ (upd dst (.bool (decide (a ≠ b))) env) L) : St C ops Q Lr ((f, ⟨dst, .binOp .neq t x y t', ty, pos, after, none⟩) :: κ) env L :=
  St.plain hd rfl (fun fr w hf => by
    simp only [execOp, hf.eval hx, hf.eval hy]
    rw [Sem.run_bind, Sem.run_bind]
    simp [eqGuard, binOp, run_equal_bool ht]
    cases a <;> cases b <;> rfl) h
def ptrTy (P : Program) (t : TypeId) : Bool := match P.underlying t with
  | some (.pointer _) => true
  | _ => false
theorem run_equal_ptr {P : Program} {t : TypeId} {A : Option Addr} {w : World} (ht : ptrTy P t = true) : (Op.equal t (.pointer A) (.pointer none)).run P w = .ok A.isNone w := by
  unfold ptrTy at ht
  split at ht
  · rename_i e hu
    unfold Op.equal Op.maxDepth Op.equalIn
    rw [Sem.run_bind, run_underlying hu]
    cases A <;> simp
  · cases ht
theorem St.ptrEql {t t' : TypeId} {A : Option Addr} (hd : dok C.n dst = true) (hx : ev env x = some (.pointer A)) (hy : ev env y = some (.pointer none)) (ht : ptrTy C.P t = true)
    (h : St C ops Q Lr κ (upd dst (.bool A.isNone) env) L) : St C ops Q Lr ((f, ⟨dst, .binOp .eql t x y t', ty, pos, after, none⟩) :: κ) env L :=
  St.plain hd rfl (fun fr w hf => by
    simp only [execOp, hf.eval hx, hf.eval hy]
    rw [Sem.run_bind, Sem.run_bind]
    simp [eqGuard, binOp, run_equal_ptr ht]) h
theorem St.ptrNeq {t t' : TypeId} {A : Option Addr} (hd : dok C.n dst = true) (hx : ev env x = some (.pointer A)) (hy : ev env y = some (.pointer none)) (ht : ptrTy C.P t = true)
    (h : St C ops Q Lr κ (upd dst (.bool (!A.isNone)) env) L) : St C ops Q Lr ((f, ⟨dst, .binOp .neq t x y t', ty, pos, after, none⟩) :: κ) env L :=
  St.plain hd rfl (fun fr w hf => by
    simp only [execOp, hf.eval hx, hf.eval hy]
    rw [Sem.run_bind, Sem.run_bind]
    simp [eqGuard, binOp, run_equal_ptr ht]) h
theorem run_equal_sl {P : Program} {t : TypeId} {A : Option Addr} {n c : Nat} {w : World} (ht : (sliceTy P t).isSome = true) : (Op.equal t (.slice A n c) (.slice none 0 0)).run P w = .ok A.isNone w := by
  obtain ⟨p, hp⟩ := Option.isSome_iff_exists.1 ht
  unfold sliceTy at hp
  split at hp
  · rename_i e hu
    unfold Op.equal Op.maxDepth Op.equalIn
    rw [Sem.run_bind, run_underlying hu]
    cases A <;> simp
  · cases hp
theorem St.slEql {t t' : TypeId} {A : Option Addr} {n c : Nat} (hd : dok C.n dst = true) (hx : ev env x = some (.slice A n c)) (hy : ev env y = some (.slice none 0 0)) (ht : (sliceTy C.P t).isSome = true)
    (h : St C ops Q Lr κ (upd dst (.bool A.isNone) env) L) : St C ops Q Lr ((f, ⟨dst, .binOp .eql t x y t', ty, pos, after, none⟩) :: κ) env L :=
  St.plain hd rfl (fun fr w hf => by
    simp only [execOp, hf.eval hx, hf.eval hy]
    rw [Sem.run_bind, Sem.run_bind]
    simp [eqGuard, binOp, run_equal_sl ht]) h
/-! strings -/
section strs
variable {s u : ByteArray} {t t' : TypeId} (hd : dok C.n dst = true) (hx : ev env x = some (.string s)) (hy : ev env y = some (.string u))
include hd hx hy
theorem St.strBin {op : BinOp} {r : Value} (hr : ∀ w, (Op.stringOp op s u).run C.P w = .ok r w) (hb : binOp op t (.string s) (.string u) = Op.stringOp op s u) (h : St C ops Q Lr κ (upd dst r env) L) :
    St C ops Q Lr ((f, ⟨dst, .binOp op t x y t', ty, pos, after, none⟩) :: κ) env L :=
  St.plain hd rfl (fun fr w hf => by
    simp only [execOp, hf.eval hx, hf.eval hy]
    have he : eqGuard op t x y (.string s) (.string u) = pure () := by unfold eqGuard; split <;> rfl
    rw [he, hb, Sem.run_bind]
    simp [hr w]) h
theorem St.strEql (h : St C ops Q Lr κ (upd dst (.bool (decide (s = u))) env) L) : St C ops Q Lr ((f, ⟨dst, .binOp .eql t x y t', ty, pos, after, none⟩) :: κ) env L :=
  St.strBin hd hx hy (fun w => by simp [Op.stringOp, toList_eq]) rfl h
theorem St.strNeq (h : St C ops Q Lr κ (upd dst (.bool (decide (s ≠ u))) env) L) : St C ops Q Lr ((f, ⟨dst, .binOp .neq t x y t', ty, pos, after, none⟩) :: κ) env L :=
  St.strBin hd hx hy (fun w => by simp [Op.stringOp, toList_eq]) rfl h
theorem St.strLss (h : St C ops Q Lr κ (upd dst (.bool (Op.bytesLess s.toList u.toList)) env) L) : St C ops Q Lr ((f, ⟨dst, .binOp .lss t x y t', ty, pos, after, none⟩) :: κ) env L :=
  St.strBin hd hx hy (fun w => by simp [Op.stringOp]) rfl h
theorem St.strLeq (h : St C ops Q Lr κ (upd dst (.bool (Op.bytesLess s.toList u.toList || (s.toList == u.toList))) env) L) : St C ops Q Lr ((f, ⟨dst, .binOp .leq t x y t', ty, pos, after, none⟩) :: κ) env L :=
  St.strBin hd hx hy (fun w => by simp [Op.stringOp]) rfl h
theorem St.strGtr (h : St C ops Q Lr κ (upd dst (.bool (!(Op.bytesLess s.toList u.toList || (s.toList == u.toList)))) env) L) : St C ops Q Lr ((f, ⟨dst, .binOp .gtr t x y t', ty, pos, after, none⟩) :: κ) env L :=
  St.strBin hd hx hy (fun w => by simp [Op.stringOp]) rfl h
theorem St.strGeq (h : St C ops Q Lr κ (upd dst (.bool (!(Op.bytesLess s.toList u.toList))) env) L) : St C ops Q Lr ((f, ⟨dst, .binOp .geq t x y t', ty, pos, after, none⟩) :: κ) env L :=
  St.strBin hd hx hy (fun w => by simp [Op.stringOp]) rfl h
theorem St.strAdd (hb : (s.size : Int) + u.size ≤ 9223372036854775807) (h : St C ops Q Lr κ (upd dst (.string (s ++ u)) env) L) : St C ops Q Lr ((f, ⟨dst, .binOp .add t x y t', ty, pos, after, none⟩) :: κ) env L :=
  St.strBin hd hx hy (fun w => by
    have : ¬ (9223372036854775807 : Int) < (s.size : Int) + u.size := by omega
    simp [Op.stringOp, IntKind.max, this, IntKind.bits, IntKind.signed]) rfl h
end strs
end steps
theorem Holds.row {w0 : World} {L : List Chunk} {b o : Nat} {cs : List Value} {e : TypeId} {v : Value} (h : (⟨b, cs, e⟩ : Ent) ∈ L.flatten) (hv : cs[o]? = some v) : Holds w0 L ⟨b, o, none⟩ v := fun w hw => by
  rw [(hw.rows _ h).2.cell]; exact hv
theorem mem0 {x : Ent} {L : List Chunk} : x ∈ List.flatten ([x] :: L) := by simp
theorem mem1 {x : Ent} {c : Chunk} {L : List Chunk} : x ∈ List.flatten (c :: [x] :: L) := by simp
theorem mem2 {x : Ent} {c d : Chunk} {L : List Chunk} : x ∈ List.flatten (c :: d :: [x] :: L) := by simp
theorem memc {x : Ent} {c : Chunk} {L : List Chunk} (h : x ∈ L.flatten) : x ∈ List.flatten (c :: L) := by simp only [List.flatten_cons, List.mem_append]; exact .inr h
theorem HoldsN.int {w0 : World} {L : List Chunk} {b o : Nat} {k : IntKind} {xs : List Int} (h : HoldsN w0 L b o (xs.map (Value.int k))) (i : Int) (h0 : 0 ≤ i) (h1 : i < xs.length) : Holds w0 L ⟨b, o + i.toNat * 1, none⟩ (.int k (xs.getD i.toNat 0)) := fun w hw => by
  rw [Nat.mul_one]
  have hl : i.toNat < xs.length := by omega
  exact h w hw i.toNat _ (by simp [List.getD_eq_getElem?_getD, List.getElem?_eq_getElem hl])
theorem HoldsN.nat {w0 : World} {L : List Chunk} {b o : Nat} {k : IntKind} {xs : List Int} (h : HoldsN w0 L b o (xs.map (Value.int k))) (i : Nat) (h1 : i < xs.length) : Holds w0 L ⟨b, o + (i : Int).toNat * 1, none⟩ (.int k (xs.getD i 0)) :=
  h.int i (by omega) (by omega)
end Go.Proofs.Ytahafepgmkiabaa.Sep
