/- The rules of the walk over owned rows: addresses, loads, stores, new rows. -/
import Derived.Test.YtahafepgmkiabaaSepC
set_option linter.unusedVariables false
set_option linter.unusedSimpArgs false
namespace Go.Proofs.Ytahafepgmkiabaa.Sep
open Go Go.RowKit

/-! ### What the program says of a type -/
def scal (P : Program) (t : TypeId) : Bool := match P.underlying t with
  | some (.struct _) => false
  | some (.array _ _) => false
  | some _ => (P.info? t).map (·.size) == some 1
  | none => false
def aggTy (P : Program) (t : TypeId) : Option Nat := match P.underlying t with
  | some (.struct _) => (P.info? t).map (·.size)
  | some (.array _ _) => (P.info? t).map (·.size)
  | _ => none
def intTy (P : Program) (t : TypeId) : Option IntKind := match P.underlying t with
  | some (.int k) => some k
  | _ => none
def sliceTy (P : Program) (t : TypeId) : Option (TypeId × Nat) := match P.underlying t with
  | some (.slice e) => (P.info? e).map fun i => (e, i.size)
  | _ => none
def arrTy (P : Program) (t : TypeId) : Option (Nat × Nat) := match P.underlying t with
  | some (.array n e) => (P.info? e).map fun i => (n, i.size)
  | _ => none
def fieldTy (P : Program) (t : TypeId) (i : Nat) : Option Nat := match P.underlying t with
  | some (.struct fs) => (fs[i]?).bind fun f => (P.info? f.type).bind fun j => if j.size = 0 then none else some f.offset
  | _ => none

theorem add_off (b o n : Nat) : (⟨b, o, none⟩ : Addr).add n = ⟨b, o + n, none⟩ := by
  unfold Addr.add
  split
  · rename_i h; rw [h]; rfl
  · rfl

/-- A cell that reads so in every world that owns L. -/
def Holds (w0 : World) (L : List Chunk) (A : Addr) (v : Value) : Prop := ∀ w, Own w0 L w → w.cell? A = some v
def HoldsN (w0 : World) (L : List Chunk) (b o : Nat) (cs : List Value) : Prop := ∀ w, Own w0 L w → ∀ j u, cs[j]? = some u → w.cell? ⟨b, o + j, none⟩ = some u
theorem HoldsN.one {w0 : World} {L : List Chunk} {b o : Nat} {cs : List Value} (h : HoldsN w0 L b o cs) (j : Nat) {v : Value} (hv : cs[j]? = some v) : Holds w0 L ⟨b, o + j, none⟩ v := fun w hw => h w hw j v hv
theorem HoldsN.part {w0 : World} {L : List Chunk} {b o : Nat} {cs : List Value} (h : HoldsN w0 L b o cs) (k : Nat) (ds : List Value) (hd : ∀ j u, ds[j]? = some u → cs[k + j]? = some u) : HoldsN w0 L b (o + k) ds := fun w hw j u hu => by
  rw [Nat.add_assoc]; exact h w hw (k + j) u (hd j u hu)
theorem HoldsN.of_row {w0 : World} {L : List Chunk} {b : Nat} {cs : List Value} {e : TypeId} (h : (⟨b, cs, e⟩ : Ent) ∈ L.flatten) : HoldsN w0 L b 0 cs := fun w hw j u hu => by
  rw [(hw.rows _ h).2.cell, Nat.zero_add]; exact hu
theorem HoldsN.mono {w0 : World} {L L' : List Chunk} {b o : Nat} {cs : List Value} (h : HoldsN w0 L b o cs) (hs : ∀ w, Own w0 L' w → Own w0 L w) : HoldsN w0 L' b o cs := fun w hw => h w (hs w hw)
theorem HoldsN.cons {w0 : World} {L : List Chunk} {c : Chunk} {b o : Nat} {cs : List Value} (h : HoldsN w0 L b o cs) : HoldsN w0 (c :: L) b o cs := h.mono fun w hw => hw.drop
/-- Old memory. -/
theorem HoldsN.old {w0 : World} {L : List Chunk} {b o : Nat} {cs : List Value} (hb : b < w0.heap.size) (h : ∀ j u, cs[j]? = some u → w0.cell? ⟨b, o + j, none⟩ = some u) : HoldsN w0 L b o cs := fun w hw j u hu => by
  rw [hw.below.cell (p := ⟨b, o + j, none⟩) hb]; exact h j u hu

section steps
variable {C : Cx} {ops : Array Oper} {Q : Post} {Lr : List Chunk} {κ : List (Bool × Oper)} {env : Env} {L : List Chunk} {f : Bool}
  {dst : Option Tmp} {ty : TypeId} {pos : String} {after : Array Edge} {v : Value} {x y z : Operand}

theorem St.fieldAddr {s : TypeId} {b o i off : Nat} (hd : dok C.n dst = true) (hx : ev env x = some (.pointer (some ⟨b, o, none⟩))) (ht : fieldTy C.P s i = some off)
    (h : St C ops Q Lr κ (upd dst (.pointer (some ⟨b, o + off, none⟩)) env) L) : St C ops Q Lr ((f, ⟨dst, .fieldAddr s x i, ty, pos, after, none⟩) :: κ) env L :=
  St.plain hd rfl (fun a w hf => by
    unfold fieldTy at ht
    split at ht
    · rename_i fs hu
      simp only [Option.bind_eq_some_iff] at ht
      obtain ⟨fl, hfl, j, hj, hz⟩ := ht
      split at hz
      · cases hz
      · rename_i hz0
        injection hz with hz
        subst hz
        simp [execOp, hf.eval hx, Instr.fieldAt, run_underlying hu, hfl, Instr.sureAddr, fieldPlace, sizeOf, typeInfo, hj, hz0, add_off]
    · cases ht) h
theorem St.indexSl {t e : TypeId} {k : IntKind} {i : Int} {b o n c sz : Nat} (hd : dok C.n dst = true) (hx : ev env x = some (.slice (some ⟨b, o, none⟩) n c)) (hy : ev env y = some (.int k i)) (ht : sliceTy C.P t = some (e, sz))
    (hi : 0 ≤ i ∧ i < n) (h : St C ops Q Lr κ (upd dst (.pointer (some ⟨b, o + i.toNat * sz, none⟩)) env) L) : St C ops Q Lr ((f, ⟨dst, .indexAddr t x y, ty, pos, after, none⟩) :: κ) env L :=
  St.plain hd rfl (fun a w hf => by
    unfold sliceTy at ht
    split at ht
    · rename_i e' hu
      simp only [Option.map_eq_some_iff, Prod.mk.injEq] at ht
      obtain ⟨j, hj, h1, h2⟩ := ht
      subst h1 h2
      simp [execOp, hf.eval hx, hf.eval hy, Instr.indexAt, asIntOf, run_underlying hu, hi.1, hi.2, sizeOf, typeInfo, hj, add_off]
    · cases ht) h
theorem St.indexArr {t : TypeId} {k : IntKind} {i : Int} {b o n sz : Nat} (hd : dok C.n dst = true) (hx : ev env x = some (.pointer (some ⟨b, o, none⟩))) (hy : ev env y = some (.int k i)) (ht : arrTy C.P t = some (n, sz))
    (hi : 0 ≤ i ∧ i < n) (h : St C ops Q Lr κ (upd dst (.pointer (some ⟨b, o + i.toNat * sz, none⟩)) env) L) : St C ops Q Lr ((f, ⟨dst, .indexAddr t x y, ty, pos, after, none⟩) :: κ) env L :=
  St.plain hd rfl (fun a w hf => by
    unfold arrTy at ht
    split at ht
    · rename_i n' e hu
      simp only [Option.map_eq_some_iff, Prod.mk.injEq] at ht
      obtain ⟨j, hj, h1, h2⟩ := ht
      subst h1 h2
      simp [execOp, hf.eval hx, hf.eval hy, Instr.indexAt, Instr.sureAddr, asIntOf, run_underlying hu, hi.1, hi.2, sizeOf, typeInfo, hj, add_off]
    · cases ht) h
theorem run_load1 {P : Program} {t : TypeId} {A : Addr} {w : World} (ht : scal P t = true) (hc : w.cell? A = some v) : (Instr.loadAt t (.pointer (some A))).run P w = .ok v w := by
  unfold scal at ht
  have hag : (isAgg t).run P w = .ok false w := by
    cases hu : P.underlying t with
    | none => simp [hu] at ht
    | some d =>
      rw [hu] at ht
      unfold isAgg
      rw [Sem.run_bind, run_underlying hu]
      cases d <;> first | rfl | (simp at ht)
  simp [Instr.loadAt, Instr.sureAddr, loadVar, hag, load, Sem.run, hc]
theorem St.load {t : TypeId} {A : Addr} (hd : dok C.n dst = true) (hx : ev env x = some (.pointer (some A))) (ht : scal C.P t = true) (hv : Holds C.w0 (Lq f Lr L) A v)
    (h : St C ops Q Lr κ (upd dst v env) L) : St C ops Q Lr ((f, ⟨dst, .load t x, ty, pos, after, none⟩) :: κ) env L :=
  St.quiet hd rfl rfl (fun a w hf ho => by simp [execOp, hf.eval hx, run_load1 ht (hv w ho)]) h
theorem St.loadAgg {t : TypeId} {b o : Nat} (cs : List Value) (hd : dok C.n dst = true) (hx : ev env x = some (.pointer (some ⟨b, o, none⟩))) (ht : aggTy C.P t = some cs.length) (hv : HoldsN C.w0 (Lq f Lr L) b o cs)
    (h : St C ops Q Lr κ (upd dst (.agg cs.toArray) env) L) : St C ops Q Lr ((f, ⟨dst, .load t x, ty, pos, after, none⟩) :: κ) env L :=
  St.quiet hd rfl rfl (fun a w hf ho => by
    have hl : (loadCells ⟨b, o, none⟩ cs.length).run C.P w = .ok cs.toArray w := run_loadCells_list w _ cs fun j u hu => by rw [add_off]; exact hv w ho j u hu
    have hs : (sizeOf t).run C.P w = .ok cs.length w ∧ (isAgg t).run C.P w = .ok true w := by
      unfold aggTy at ht
      cases hu : C.P.underlying t with
      | none => simp [hu] at ht
      | some d =>
        rw [hu] at ht
        have hm : (C.P.info? t).map (·.size) = some cs.length := by cases d <;> first | exact ht | exact nomatch ht
        obtain ⟨j, hj, hjs⟩ := Option.map_eq_some_iff.1 hm
        refine ⟨by simp [sizeOf, typeInfo, hj, hjs], ?_⟩
        cases d <;> first | (simp at ht; done) | simp [isAgg, run_underlying hu]
    simp [execOp, hf.eval hx, Instr.loadAt, Instr.sureAddr, loadVar, hs.1, hs.2, hl]) h
theorem St.convI {s t : TypeId} {k k' : IntKind} {n : Int} (hd : dok C.n dst = true) (hx : ev env x = some (.int k' n)) (hs : (intTy C.P s).isSome = true) (ht : intTy C.P t = some k)
    (h : St C ops Q Lr κ (upd dst (.int k (k.wrap n)) env) L) : St C ops Q Lr ((f, ⟨dst, .convert s t x, ty, pos, after, none⟩) :: κ) env L :=
  St.plain hd rfl (fun a w hf => by
    obtain ⟨ks, hks⟩ := Option.isSome_iff_exists.1 hs
    unfold intTy at ht hks
    split at ht
    · rename_i k1 hu
      split at hks
      · rename_i k2 hu2
        injection ht with ht
        subst ht
        simp [execOp, hf.eval hx, convert, run_underlying hu, run_underlying hu2, Conv.intToInt]
      · cases hks
    · cases ht) h
theorem St.lenSl {t : TypeId} {A : Option Addr} {n c : Nat} (hd : dok C.n dst = true) (hx : ev env x = some (.slice A n c)) (ht : (sliceTy C.P t).isSome = true)
    (h : St C ops Q Lr κ (upd dst (.int .i64 n) env) L) : St C ops Q Lr ((f, ⟨dst, .call ⟨.builtin .len, #[x], #[t]⟩, ty, pos, after, none⟩) :: κ) env L :=
  St.plain hd rfl (fun a w hf => by
    obtain ⟨p, hp⟩ := Option.isSome_iff_exists.1 ht
    unfold sliceTy at hp
    split at hp
    · rename_i e hu
      simp [execOp, resolve, invoke, builtin, Builtin.len_, hf.eval hx, run_underlying hu, goInt]
    · cases hp) h
theorem St.lenStr {t : TypeId} {s : ByteArray} (hd : dok C.n dst = true) (hx : ev env x = some (.string s)) (ht : C.P.underlying t = some .string)
    (h : St C ops Q Lr κ (upd dst (.int .i64 s.size) env) L) : St C ops Q Lr ((f, ⟨dst, .call ⟨.builtin .len, #[x], #[t]⟩, ty, pos, after, none⟩) :: κ) env L :=
  St.plain hd rfl (fun a w hf => by simp [execOp, resolve, invoke, builtin, Builtin.len_, hf.eval hx, run_underlying ht, goInt]) h
theorem St.capSl {t : TypeId} {A : Option Addr} {n c : Nat} (hd : dok C.n dst = true) (hx : ev env x = some (.slice A n c)) (ht : (sliceTy C.P t).isSome = true)
    (h : St C ops Q Lr κ (upd dst (.int .i64 c) env) L) : St C ops Q Lr ((f, ⟨dst, .call ⟨.builtin .cap, #[x], #[t]⟩, ty, pos, after, none⟩) :: κ) env L :=
  St.plain hd rfl (fun a w hf => by
    obtain ⟨p, hp⟩ := Option.isSome_iff_exists.1 ht
    unfold sliceTy at hp
    split at hp
    · rename_i e hu
      simp [execOp, resolve, invoke, builtin, Builtin.cap_, hf.eval hx, run_underlying hu, goInt]
    · cases hp) h
theorem St.max2 {t t' : TypeId} {k : IntKind} {a b : Int} (hd : dok C.n dst = true) (hx : ev env x = some (.int k a)) (hy : ev env y = some (.int k b))
    (h : St C ops Q Lr κ (upd dst (.int k (max a b)) env) L) : St C ops Q Lr ((f, ⟨dst, .call ⟨.builtin .max, #[x, y], #[t, t']⟩, ty, pos, after, none⟩) :: κ) env L :=
  St.plain hd rfl (fun c w hf => by
    simp [execOp, resolve, invoke, builtin, Builtin.max_, Builtin.max2, hf.eval hx, hf.eval hy]
    split <;> omega) h
theorem St.min2 {t t' : TypeId} {k : IntKind} {a b : Int} (hd : dok C.n dst = true) (hx : ev env x = some (.int k a)) (hy : ev env y = some (.int k b))
    (h : St C ops Q Lr κ (upd dst (.int k (min a b)) env) L) : St C ops Q Lr ((f, ⟨dst, .call ⟨.builtin .min, #[x, y], #[t, t']⟩, ty, pos, after, none⟩) :: κ) env L :=
  St.plain hd rfl (fun c w hf => by
    simp [execOp, resolve, invoke, builtin, Builtin.min_, Builtin.min2, hf.eval hx, hf.eval hy]
    split <;> omega) h
end steps
end Go.Proofs.Ytahafepgmkiabaa.Sep
