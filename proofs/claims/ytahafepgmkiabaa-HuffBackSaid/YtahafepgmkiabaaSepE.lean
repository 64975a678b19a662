/- The rules of the walk over owned rows: what makes or turns rows; calls. -/
import Derived.Test.YtahafepgmkiabaaSepD
import Derived.Laws.BytesArg
set_option linter.unusedVariables false
set_option linter.unusedSimpArgs false
namespace Go.Proofs.Ytahafepgmkiabaa.Sep
open Go Go.RowKit

/-- A value of one cell. -/
def one : Value → Bool
  | .agg _ => false
  | .tuple _ => false
  | _ => true
theorem cells_one {v : Value} (h : one v = true) : v.cells = #[v] := by cases v <;> first | rfl | (simp [one] at h)
/-- What a row holds behind a store of several cells. -/
def splice (cs : List Value) (o : Nat) (ds : List Value) : List Value := cs.take o ++ ds ++ cs.drop (o + ds.length)
theorem splice_length (cs : List Value) (o : Nat) (ds : List Value) (h : o + ds.length ≤ cs.length) : (splice cs o ds).length = cs.length := by
  simp [splice]; omega
theorem splice_nil (cs : List Value) (o : Nat) : splice cs o [] = cs := by simp [splice]
theorem splice_cons (cs : List Value) (o : Nat) (d : Value) (ds : List Value) (h : o < cs.length) : splice (cs.set o d) (o + 1) ds = splice cs o (d :: ds) := by
  simp only [splice, List.length_cons]
  rw [List.take_set, List.drop_set, if_pos (by omega)]
  have : (cs.take (o + 1)).set o d = cs.take o ++ [d] := by
    apply List.ext_getElem?
    intro k
    rw [List.getElem?_set]
    simp only [List.length_take]
    by_cases hk : o = k
    · subst hk
      simp [Nat.min_eq_left (show o + 1 ≤ cs.length by omega), Nat.min_eq_left (show o ≤ cs.length by omega)]
    · rw [if_neg hk]
      rcases Nat.lt_or_ge k o with hlt | hge
      · rw [List.getElem?_append_left (by simp; omega), List.getElem?_take, List.getElem?_take, if_pos (by omega), if_pos hlt]
      · rw [List.getElem?_append_right (by simp; omega), List.getElem?_take, if_neg (by omega)]
        simp [Nat.min_eq_left (show o ≤ cs.length by omega)]
        rw [show k - o = (k - o - 1) + 1 by omega]
        simp
  rw [this]
  simp [Nat.add_assoc, Nat.add_comm 1]

theorem run_storeCells_own {P : Program} {w0 : World} {b : Nat} {e : TypeId} {L0 : List Chunk} (o : Nat) : ∀ (ds : List Value) (i : Nat) (cs : List Value) (w : World), Own w0 ([⟨b, cs, e⟩] :: L0) w → o + i + ds.length ≤ cs.length → (∀ v ∈ ds, one v = true) →
    ∃ w', (storeCells ⟨b, o, none⟩ ds i).run P w = .ok () w' ∧ Own w0 ([⟨b, splice cs (o + i) ds, e⟩] :: L0) w'
  | [], i, cs, w, h, _, _ => ⟨w, by simp [storeCells], by rw [splice_nil]; exact h⟩
  | d :: ds, i, cs, w, h, hl, h1 => by
    have hr := (h.rows ⟨b, cs, e⟩ (by simp)).2
    have hlt : o + i < cs.length := by simp at hl; omega
    have hc : w.cell? ⟨b, o + i, none⟩ = some cs[o + i] := by rw [hr.cell]; exact List.getElem?_eq_getElem hlt
    have hfz := hr.free (o + i) hlt
    have hset := setCell_row hr (o + i) d
    have ho := h.setRow (cs.set (o + i) d) (by simp)
    rw [← hset] at ho
    obtain ⟨w', hrun, how⟩ := run_storeCells_own (P := P) o ds (i + 1) (cs.set (o + i) d) _ ho (by simp at hl ⊢; omega) (fun v hv => h1 v (by simp [hv]))
    refine ⟨w', ?_, ?_⟩
    · have hd1 := h1 d (by simp)
      unfold storeCells
      rw [Sem.run_bind]
      have : (store ((⟨b, o, none⟩ : Addr).add i) d).run P w = .ok () (w.setCell ⟨b, o + i, none⟩ d) := by
        rw [add_off]
        cases d <;> first | (simp [one] at hd1; done) | simp [store, Sem.run, hc, hfz]
      rw [this]
      simpa using hrun
    · rw [show o + (i + 1) = o + i + 1 by omega, splice_cons _ _ _ _ hlt] at how
      exact how

section steps
variable {C : Cx} {ops : Array Oper} {Q : Post} {Lr : List Chunk} {κ : List (Bool × Oper)} {env : Env} {L : List Chunk} {f : Bool}
  {dst : Option Tmp} {ty : TypeId} {pos : String} {after : Array Edge} {v : Value} {x y z : Operand}

/-- A store into the first row. -/
theorem St.storeN {t : TypeId} {b o : Nat} {cs : List Value} {e : TypeId} (hd : dok C.n dst = true) (hx : ev env x = some (.pointer (some ⟨b, o, none⟩))) (hy : ev env y = some v) (ds : List Value) (hv : v.cells.toList = ds)
    (hs : (C.P.info? t).map (·.size) = some ds.length) (h1 : ∀ u ∈ ds, one u = true) (ho : o + ds.length ≤ cs.length) (hc : ∀ w, Own C.w0 ([⟨b, splice cs o ds, e⟩] :: L) w → Own C.w0 Lr w)
    (h : St C ops Q Lr κ (upd dst undef env) ([⟨b, splice cs o ds, e⟩] :: L)) : St C ops Q Lr ((false, ⟨dst, .store t x y, ty, pos, after, none⟩) :: κ) env ([⟨b, cs, e⟩] :: L) :=
  St.act (L' := fun u L1 => u = undef ∧ L1 = [⟨b, splice cs o ds, e⟩] :: L) hd rfl (fun a w K hf ho' hK => by
    obtain ⟨w', hrun, how⟩ := run_storeCells_own (P := C.P) (e := e) o ds 0 cs w ho' (by simpa using ho) h1
    obtain ⟨j, hj, hjs⟩ := Option.map_eq_some_iff.1 hs
    have hsz : v.cells.size = ds.length := by rw [← hv]; simp
    have hst : (Instr.storeAt t (.pointer (some ⟨b, o, none⟩)) v).run C.P w = .ok () w' := by
      simp [Instr.storeAt, Instr.sureAddr, storeVar, sizeOf, typeInfo, hj, hsz, hjs, hv, hrun]
    have he : (execOp a.eval (⟨dst, .store t x y, ty, pos, after, none⟩ : Oper)).run C.P w = .ok .skip w' := by simp [execOp, hf.eval hx, hf.eval hy, hst]
    unfold Oper.wp
    rw [he]
    exact hK undef _ w' ⟨rfl, rfl⟩ (by simpa using how))
    (fun u L1 ⟨h1, h2⟩ => by subst h1 h2; exact h) (fun u L1 w ⟨_, h2⟩ hw => hc w (by rw [← h2]; exact hw))

theorem Cov.nil (w0 : World) (L : List Chunk) : ∀ w, Own w0 L w → Own w0 [] w := fun w h => h.nil
theorem Cov.drop {w0 : World} {Lr : List Chunk} (c : Chunk) (L : List Chunk) (h : ∀ w, Own w0 L w → Own w0 Lr w) : ∀ w, Own w0 (c :: L) w → Own w0 Lr w := fun w hw => h w hw.drop

/-- A value that an operation makes, with what is owned behind it. -/
theorem St.make {o : Oper} {R : Value → List Chunk → Prop} (hd : dok C.n o.dst = true) (hg : o.guard = none)
    (hq : ∀ a w, Fr C.n env a → Own C.w0 L w → ∃ v L1 w', (execOp a.eval o).run C.P w = .ok (.value v) w' ∧ R v L1 ∧ Own C.w0 L1 w')
    (hc : ∀ v L1 w, R v L1 → Own C.w0 L1 w → Own C.w0 Lr w) (h : ∀ v L1, R v L1 → St C ops Q Lr κ (upd o.dst v env) L1) : St C ops Q Lr ((false, o) :: κ) env L :=
  St.act (L' := R) hd hg (fun a w K hf ho hK => by
    obtain ⟨v, L1, w', hr, hR, ho'⟩ := hq a w hf ho
    unfold Oper.wp
    rw [hr]
    exact hK v L1 w' hR ho') h hc

theorem St.store {t : TypeId} {b o : Nat} {cs : List Value} {e : TypeId} (hd : dok C.n dst = true) (hx : ev env x = some (.pointer (some ⟨b, o, none⟩))) (hy : ev env y = some v) (h1 : one v = true)
    (hs : scal C.P t = true) (ho : o < cs.length) (hc : ∀ w, Own C.w0 ([⟨b, cs.set o v, e⟩] :: L) w → Own C.w0 Lr w)
    (h : St C ops Q Lr κ (upd dst undef env) ([⟨b, cs.set o v, e⟩] :: L)) : St C ops Q Lr ((false, ⟨dst, .store t x y, ty, pos, after, none⟩) :: κ) env ([⟨b, cs, e⟩] :: L) := by
  have hsz : (C.P.info? t).map (·.size) = some [v].length := by
    unfold scal at hs
    cases hu : C.P.underlying t with
    | none => simp [hu] at hs
    | some d => rw [hu] at hs; cases d <;> first | (simp at hs; done) | simpa using hs
  have e1 : splice cs o [v] = cs.set o v := by rw [← splice_cons _ _ _ _ ho, splice_nil]
  refine St.storeN hd hx hy [v] (by rw [cells_one h1]) hsz (by simpa using h1) (by simp; omega) ?_ ?_
  · rw [e1]; exact hc
  · rw [e1]; exact h

def zeroTy (P : Program) (t : TypeId) : Option (List Value) := (P.info? t).bind fun i => i.zero.map (·.cells.toList)
theorem St.alloc {t : TypeId} (zs : List Value) (hd : dok C.n dst = true) (hz : zeroTy C.P t = some zs) (hc : ∀ b w, Own C.w0 ([⟨b, zs, t⟩] :: L) w → Own C.w0 Lr w)
    (h : ∀ b, St C ops Q Lr κ (upd dst (.pointer (some ⟨b, 0, none⟩)) env) ([⟨b, zs, t⟩] :: L)) : St C ops Q Lr ((false, ⟨dst, .alloc t, ty, pos, after, none⟩) :: κ) env L :=
  St.make (R := fun v L1 => ∃ b, v = .pointer (some ⟨b, 0, none⟩) ∧ L1 = [⟨b, zs, t⟩] :: L) hd rfl (fun a w hf ho => by
    unfold zeroTy at hz
    simp only [Option.bind_eq_some_iff, Option.map_eq_some_iff] at hz
    obtain ⟨i, hi, zv, hzv, hzs⟩ := hz
    refine ⟨_, _, _, ?_, ⟨w.heap.size, rfl, rfl⟩, ho.alloc zs t⟩
    have : zv.cells = zs.toArray := by rw [← hzs]
    simp [execOp, Instr.alloc, zeroValue, typeInfo, hi, hzv, newVar, newRow, newObj, Sem.run, this])
    (fun v L1 w ⟨b, _, h2⟩ hw => hc b w (by rw [← h2]; exact hw)) (fun v L1 ⟨b, h1, h2⟩ => by subst h1 h2; exact h b)
theorem St.box {t : TypeId} (zs : List Value) (hd : dok C.n dst = true) (hx : ev env x = some v) (hz : v.cells.toList = zs) (hc : ∀ b w, Own C.w0 ([⟨b, zs, t⟩] :: L) w → Own C.w0 Lr w)
    (h : ∀ b, St C ops Q Lr κ (upd dst (.pointer (some ⟨b, 0, none⟩)) env) ([⟨b, zs, t⟩] :: L)) : St C ops Q Lr ((false, ⟨dst, .box t x, ty, pos, after, none⟩) :: κ) env L :=
  St.make (R := fun v L1 => ∃ b, v = .pointer (some ⟨b, 0, none⟩) ∧ L1 = [⟨b, zs, t⟩] :: L) hd rfl (fun a w hf ho => by
    refine ⟨_, _, _, ?_, ⟨w.heap.size, rfl, rfl⟩, ho.alloc zs t⟩
    have : v.cells = zs.toArray := by rw [← hz]
    simp [execOp, hf.eval hx, Instr.box, newVar, newRow, newObj, Sem.run, this])
    (fun v L1 w ⟨b, _, h2⟩ hw => hc b w (by rw [← h2]; exact hw)) (fun v L1 ⟨b, h1, h2⟩ => by subst h1 h2; exact h b)

/-! parts -/
def evs (env : Env) : List (Nat × Operand) → Option (List (Nat × Value))
  | [] => some []
  | (i, x) :: r => (ev env x).bind fun v => (evs env r).map fun s => (i, v) :: s
theorem evs_map {n : Nat} {a : Act} (hf : Fr n env a) : ∀ {l : List (Nat × Operand)} {vs : List (Nat × Value)}, evs env l = some vs → l.map (fun p => (p.1, a.eval p.2)) = vs
  | [], vs, h => by simp [evs] at h; simp [h]
  | (i, x) :: r, vs, h => by
    simp only [evs, Option.bind_eq_some_iff, Option.map_eq_some_iff] at h
    obtain ⟨v, hv, s, hs, rfl⟩ := h
    simp [hf.eval hv, evs_map hf hs]
def buildTy (P : Program) (t : TypeId) (vs : List (Nat × Value)) : Option (List Value) :=
  ((P.info? t).bind (·.zero)).bind fun z => match P.underlying t with
  | some (.struct fs) => ((fs.toList.mapM fun f => (P.info? f.type).map fun i => (f.offset, i.size)).bind fun places => (Instr.fill (places.toArray[·]?) z.cells vs).map (·.toList))
  | some (.array _ e) => (P.info? e).bind fun i => (Instr.fill (fun k => some (k * i.size, i.size)) z.cells vs).map (·.toList)
  | _ => none
theorem run_mapM_places {P : Program} {w : World} : ∀ (fs : List Field) (places : List (Nat × Nat)), (fs.mapM fun f => (P.info? f.type).map fun i => (f.offset, i.size)) = some places →
    (fs.mapM fun f => (do pure (f.offset, ← sizeOf f.type) : Sem (Nat × Nat))).run P w = .ok places w
  | [], places, h => by simp at h; subst h; simp
  | f :: fs, places, h => by
    simp only [List.mapM_cons, Option.bind_eq_bind, Option.bind_eq_some_iff, Option.map_eq_some_iff, Option.pure_def, Option.some.injEq] at h
    obtain ⟨p, ⟨i, hi, rfl⟩, ps, hps, rfl⟩ := h
    have ih := run_mapM_places (P := P) (w := w) fs ps hps
    have hsz : (sizeOf f.type).run P w = .ok i.size w := by simp [sizeOf, typeInfo, hi]
    rw [List.mapM_cons]
    simp only [Sem.run_bind, hsz, Result.andThen_ok, Sem.run_pure, ih]
theorem St.build {t : TypeId} {ps : Array (Nat × Operand)} (vs : List (Nat × Value)) (cs : List Value) (hd : dok C.n dst = true) (hx : evs env ps.toList = some vs) (hb : buildTy C.P t vs = some cs)
    (h : St C ops Q Lr κ (upd dst (.agg cs.toArray) env) L) : St C ops Q Lr ((f, ⟨dst, .build t ps, ty, pos, after, none⟩) :: κ) env L :=
  St.plain hd rfl (fun a w hf => by
    have hm : (ps.map fun (i, x) => (i, a.eval x)).toList = vs := by
      rw [Array.toList_map]; exact evs_map hf hx
    unfold buildTy at hb
    simp only [Option.bind_eq_some_iff] at hb
    obtain ⟨z, ⟨i, hi, hz⟩, hb⟩ := hb
    split at hb
    · rename_i fs hu
      simp only [Option.bind_eq_some_iff, Option.map_eq_some_iff] at hb
      obtain ⟨places, hp, cells, hf', rfl⟩ := hb
      have hr := run_mapM_places (P := C.P) (w := w) fs.toList places hp
      have hr' : (fs.mapM fun f => (do pure (f.offset, ← sizeOf f.type) : Sem (Nat × Nat))).run C.P w = .ok places.toArray w := by
        rw [← Array.toArray_toList (xs := fs), List.mapM_toArray, Sem.run_map, hr]; rfl
      have hzv : (zeroValue t).run C.P w = .ok z w := by simp [zeroValue, typeInfo, hi, hz]
      have hbr : (Instr.build t (ps.map fun (i, x) => (i, a.eval x))).run C.P w = .ok (.agg cells) w := by
        unfold Instr.build
        simp only [Sem.run_bind, hzv, Result.andThen_ok, run_underlying hu, hr', hm, hf', Sem.run_pure]
      simp [execOp, hbr]
    · rename_i n e hu
      simp only [Option.bind_eq_some_iff, Option.map_eq_some_iff] at hb
      obtain ⟨j, hj, cells, hf', rfl⟩ := hb
      have hzv : (zeroValue t).run C.P w = .ok z w := by simp [zeroValue, typeInfo, hi, hz]
      have hsz : (sizeOf e).run C.P w = .ok j.size w := by simp [sizeOf, typeInfo, hj]
      have hbr : (Instr.build t (ps.map fun (i, x) => (i, a.eval x))).run C.P w = .ok (.agg cells) w := by
        unfold Instr.build
        simp only [Sem.run_bind, hzv, Result.andThen_ok, run_underlying hu, hsz, hm, hf', Sem.run_pure]
      simp [execOp, hbr]
    · cases hb) h

/-! a literal slice, a made one -/
def buildSl (P : Program) (t : TypeId) (len : Nat) (vs : List (Nat × Value)) : Option (TypeId × List Value) := match P.underlying t with
  | some (.slice e) => (P.info? e).bind fun i => i.zero.bind fun z =>
      if len * i.size > 2 ^ 24 ∨ len * i.size = 0 then none
      else (Instr.fill (fun k => some (k * i.size, i.size)) ((Array.range (len * i.size)).map (z.cells[· % z.cells.size]!)) vs).map fun cs => (e, cs.toList)
  | _ => none
theorem St.buildSl {t e : TypeId} {n : Nat} {ps : Array (Nat × Operand)} (vs : List (Nat × Value)) (cs : List Value) (hd : dok C.n dst = true) (hx : evs env ps.toList = some vs) (hb : buildSl C.P t n vs = some (e, cs))
    (hc : ∀ b w, Own C.w0 ([⟨b, cs, e⟩] :: L) w → Own C.w0 Lr w)
    (h : ∀ b, St C ops Q Lr κ (upd dst (.slice (some ⟨b, 0, none⟩) n n) env) ([⟨b, cs, e⟩] :: L)) : St C ops Q Lr ((false, ⟨dst, .buildSlice t n ps, ty, pos, after, none⟩) :: κ) env L :=
  St.make (R := fun v L1 => ∃ b, v = .slice (some ⟨b, 0, none⟩) n n ∧ L1 = [⟨b, cs, e⟩] :: L) hd rfl (fun a w hf ho => by
    have hm : (ps.map fun (i, x) => (i, a.eval x)).toList = vs := by
      rw [Array.toList_map]; exact evs_map hf hx
    unfold Sep.buildSl at hb
    split at hb
    · rename_i e' hu
      simp only [Option.bind_eq_some_iff] at hb
      obtain ⟨i, hi, z, hz, hb⟩ := hb
      split at hb
      · cases hb
      · rename_i hlim
        simp only [not_or] at hlim
        simp only [Option.map_eq_some_iff, Prod.mk.injEq] at hb
        obtain ⟨cells, hfl, rfl, rfl⟩ := hb
        have hzv : (zeroValue e').run C.P w = .ok z w := by simp [zeroValue, typeInfo, hi, hz]
        have hsz : (sizeOf e').run C.P w = .ok i.size w := by simp [sizeOf, typeInfo, hi]
        have hbr : (Instr.buildSlice t n (ps.map fun (i, x) => (i, a.eval x))).run C.P w = .ok (.slice (some ⟨w.heap.size, 0, none⟩) n n) (w.alloc (.cells cells.toList.toArray e')) := by
          unfold Instr.buildSlice
          simp only [Sem.run_bind, Result.andThen_ok, run_underlying hu, hsz, if_neg hlim.1, if_neg hlim.2, hzv, hm, Sem.run_pure, hfl, newRow, newObj]
          simp [Sem.run]
        refine ⟨_, _, _, by simp only [execOp]; rw [Sem.run_bind, hbr]; rfl, ⟨w.heap.size, rfl, rfl⟩, ho.alloc _ _⟩
    · cases hb)
    (fun v L1 w ⟨b, _, h2⟩ hw => hc b w (by rw [← h2]; exact hw)) (fun v L1 ⟨b, h1, h2⟩ => by subst h1 h2; exact h b)
/-- No element at all: a row of no cell. -/
theorem St.buildSl0 {t e : TypeId} {sz : Nat} (hd : dok C.n dst = true) (ht : sliceTy C.P t = some (e, sz))
    (hc : ∀ b w, Own C.w0 ([⟨b, [], e⟩] :: L) w → Own C.w0 Lr w)
    (h : ∀ b, St C ops Q Lr κ (upd dst (.slice (some ⟨b, 0, none⟩) 0 0) env) ([⟨b, [], e⟩] :: L)) : St C ops Q Lr ((false, ⟨dst, .buildSlice t 0 #[], ty, pos, after, none⟩) :: κ) env L :=
  St.make (R := fun v L1 => ∃ b, v = .slice (some ⟨b, 0, none⟩) 0 0 ∧ L1 = [⟨b, [], e⟩] :: L) hd rfl (fun a w hf ho => by
    unfold sliceTy at ht
    split at ht
    · rename_i e' hu
      simp only [Option.map_eq_some_iff, Prod.mk.injEq] at ht
      obtain ⟨i, hi, rfl, rfl⟩ := ht
      have hbr : (Instr.buildSlice t 0 #[]).run C.P w = .ok (.slice (some ⟨w.heap.size, 0, none⟩) 0 0) (w.alloc (.cells #[] e')) := by
        unfold Instr.buildSlice
        simp [run_underlying hu, sizeOf, typeInfo, hi, Instr.fill, newRow, newObj, Sem.run, Array.range_zero']
      refine ⟨_, _, _, by simp only [execOp]; rw [Sem.run_bind]; simp only [List.map_toArray, List.map_nil]; rw [hbr]; rfl, ⟨w.heap.size, rfl, rfl⟩, ho.alloc [] _⟩
    · cases ht)
    (fun v L1 w ⟨b, _, h2⟩ hw => hc b w (by rw [← h2]; exact hw)) (fun v L1 ⟨b, h1, h2⟩ => by subst h1 h2; exact h b)

def elemTy (P : Program) (t : TypeId) : Option (TypeId × Value × Nat) := match P.underlying t with
  | some (.slice e) => (P.info? e).bind fun i => i.zero.bind fun z => if i.size = 1 ∧ one z = true then some (e, z, i.bytes) else none
  | _ => none
/-- make([]T, l, c), T of one cell. -/
theorem St.makeSl {t e : TypeId} {zv : Value} {bytes : Nat} {l c : Int} (hd : dok C.n dst = true) (hx : ev env x = some (.int .i64 l)) (hy : ev env y = some (.int .i64 c)) (ht : elemTy C.P t = some (e, zv, bytes))
    (hl : 0 ≤ l ∧ l ≤ c) (hcap : (bytes : Int) * c ≤ 281474976710656) (hcm : c ≤ 9223372036854775807)
    (hc : ∀ b w, Own C.w0 ([⟨b, List.replicate c.toNat zv, e⟩] :: L) w → Own C.w0 Lr w)
    (h : ∀ b, St C ops Q Lr κ (upd dst (.slice (some ⟨b, 0, none⟩) l.toNat c.toNat) env) ([⟨b, List.replicate c.toNat zv, e⟩] :: L)) : St C ops Q Lr ((false, ⟨dst, .makeSlice t x y, ty, pos, after, none⟩) :: κ) env L :=
  St.make (R := fun v L1 => ∃ b, v = .slice (some ⟨b, 0, none⟩) l.toNat c.toNat ∧ L1 = [⟨b, List.replicate c.toNat zv, e⟩] :: L) hd rfl (fun a w hf ho => by
    unfold elemTy at ht
    split at ht
    · rename_i e' hu
      simp only [Option.bind_eq_some_iff] at ht
      obtain ⟨i, hi, z, hz, ht⟩ := ht
      split at ht
      · rename_i hsz
        simp only [Option.some.injEq, Prod.mk.injEq] at ht
        obtain ⟨rfl, rfl, rfl⟩ := ht
        have hr := run_make (P := C.P) w t e' i z hu hi hz .i64 .i64 l c hl.1 hl.2 hcap hcm
        refine ⟨_, _, _, by simp only [execOp, hf.eval hx, hf.eval hy]; rw [Sem.run_bind, hr]; rfl, ⟨w.heap.size, rfl, rfl⟩, ?_⟩
        have hcells : madeCells z.cells (c.toNat * i.size) = (List.replicate c.toNat z).toArray := by
          rw [cells_one hsz.2, hsz.1, Nat.mul_one]
          unfold madeCells
          apply Array.ext_getElem?
          intro j
          have h0 : ∀ m : Nat, (#[z] : Array Value)[m % 1]! = z := fun m => by rw [Nat.mod_one]; rfl
          have h1 : (#[z] : Array Value).size = 1 := rfl
          simp only [h1, h0]
          by_cases hj : j < c.toNat <;> simp [hj]
        rw [hcells]
        exact ho.alloc _ _
      · cases ht
    · cases ht)
    (fun v L1 w ⟨b, _, h2⟩ hw => hc b w (by rw [← h2]; exact hw)) (fun v L1 ⟨b, h1, h2⟩ => by subst h1 h2; exact h b)
end steps
end Go.Proofs.Ytahafepgmkiabaa.Sep
