/- More rules of the walk over owned rows: results in variables, cuts, elements of arrays and strings, texts and bytes. -/
import Derived.Test.YtahafepgmkiabaaSepH
set_option linter.unusedVariables false
set_option linter.unusedSimpArgs false
namespace Go.Proofs.Ytahafepgmkiabaa.Sep
open Go Go.RowKit

/-! ### results that are variables -/
theorem run_loadVar_agg {P : Program} {w : World} {t : TypeId} {b o : Nat} {cs : List Value} (ht : aggTy P t = some cs.length) (h : ∀ j u, cs[j]? = some u → w.cell? ⟨b, o + j, none⟩ = some u) :
    (loadVar t ⟨b, o, none⟩).run P w = .ok (.agg cs.toArray) w := by
  have hl : (loadCells ⟨b, o, none⟩ cs.length).run P w = .ok cs.toArray w := run_loadCells_list w _ cs fun j u hu => by rw [add_off]; exact h j u hu
  have hs : (sizeOf t).run P w = .ok cs.length w ∧ (isAgg t).run P w = .ok true w := by
    unfold aggTy at ht
    cases hu : P.underlying t with
    | none => simp [hu] at ht
    | some d =>
      rw [hu] at ht
      have hm : (P.info? t).map (·.size) = some cs.length := by cases d <;> first | exact ht | exact nomatch ht
      obtain ⟨j, hj, hjs⟩ := Option.map_eq_some_iff.1 hm
      refine ⟨by simp [sizeOf, typeInfo, hj, hjs], ?_⟩
      cases d <;> first | (simp at ht; done) | simp [isAgg, run_underlying hu]
  simp [loadVar, hs.1, hs.2, hl]
theorem run_loadVar_one {P : Program} {w : World} {t : TypeId} {A : Addr} {v : Value} (ht : scal P t = true) (hc : w.cell? A = some v) : (loadVar t A).run P w = .ok v w := by
  unfold scal at ht
  have hag : (isAgg t).run P w = .ok false w := by
    cases hu : P.underlying t with
    | none => simp [hu] at ht
    | some d =>
      rw [hu] at ht
      unfold isAgg
      rw [Sem.run_bind, run_underlying hu]
      cases d <;> first | rfl | (simp at ht)
  simp [loadVar, hag, load, Sem.run, hc]
section ends
variable {C : Cx} {env : Env} {L : List Chunk} {fn : Func} {R : Value → List Chunk → Prop}
theorem SX.retC {e : Exit} {t : Tmp} {ty : TypeId} {b o : Nat} (cs : List Value) (he : e = .ret ∨ e = .normal) (hr : fn.results = #[.cell t ty]) (hv : lk env t = some (.pointer (some ⟨b, o, none⟩))) (ht : aggTy C.P ty = some cs.length) (hc : HoldsN C.w0 L b o cs)
    {L' : List Chunk} (hs : ∀ w, Own C.w0 L w → Own C.w0 L' w) (h : R (.agg cs.toArray) L') : SX C e (Fin C.P fn C.w0 R) env L := fun a w hf ho => by
  have key : (results fn a.tmps).run C.P w = .ok (.agg cs.toArray) w := by
    simp [results, hr, Array.getD_eq_getD_getElem?, hf.has t _ hv, asAddr, run_loadVar_agg ht (hc w ho)]
  rcases he with rfl | rfl
  · exact ⟨hf.defers, _, key, _, L', rfl, h, hs _ ho⟩
  · exact ⟨hf.defers, _, key, _, L', rfl, h, hs _ ho⟩
theorem SX.retCC {e : Exit} {t t' : Tmp} {ty ty' : TypeId} {b o b' o' : Nat} (cs cs' : List Value) (he : e = .ret ∨ e = .normal) (hr : fn.results = #[.cell t ty, .cell t' ty']) (hv : lk env t = some (.pointer (some ⟨b, o, none⟩))) (hv' : lk env t' = some (.pointer (some ⟨b', o', none⟩)))
    (ht : aggTy C.P ty = some cs.length) (hc : HoldsN C.w0 L b o cs) (ht' : aggTy C.P ty' = some cs'.length) (hc' : HoldsN C.w0 L b' o' cs') {L' : List Chunk} (hs : ∀ w, Own C.w0 L w → Own C.w0 L' w) (h : R (.tuple #[.agg cs.toArray, .agg cs'.toArray]) L') : SX C e (Fin C.P fn C.w0 R) env L := fun a w hf ho => by
  have key : (results fn a.tmps).run C.P w = .ok (.tuple #[.agg cs.toArray, .agg cs'.toArray]) w := by
    simp [results, hr, Array.getD_eq_getD_getElem?, hf.has t _ hv, hf.has t' _ hv', asAddr, run_loadVar_agg ht (hc w ho), run_loadVar_agg ht' (hc' w ho)]
  rcases he with rfl | rfl
  · exact ⟨hf.defers, _, key, _, L', rfl, h, hs _ ho⟩
  · exact ⟨hf.defers, _, key, _, L', rfl, h, hs _ ho⟩
theorem SX.retV {e : Exit} {t : Tmp} {ty : TypeId} {A : Addr} {v : Value} (he : e = .ret ∨ e = .normal) (hr : fn.results = #[.cell t ty]) (hv : lk env t = some (.pointer (some A))) (ht : scal C.P ty = true) (hc : Holds C.w0 L A v)
    {L' : List Chunk} (hs : ∀ w, Own C.w0 L w → Own C.w0 L' w) (h : R v L') : SX C e (Fin C.P fn C.w0 R) env L := fun a w hf ho => by
  have key : (results fn a.tmps).run C.P w = .ok v w := by
    simp [results, hr, Array.getD_eq_getD_getElem?, hf.has t _ hv, asAddr, run_loadVar_one ht (hc w ho)]
  rcases he with rfl | rfl
  · exact ⟨hf.defers, _, key, _, L', rfl, h, hs _ ho⟩
  · exact ⟨hf.defers, _, key, _, L', rfl, h, hs _ ho⟩
end ends

/-! ### a mark behind the row -/
theorem Own.mark {w0 w : World} {L : List Chunk} {b : Nat} {cs : List Value} {e : TypeId} (h : Own w0 ([⟨b, cs, e⟩] :: L) w) : Own w0 ([⟨b, cs, e⟩] :: L) (w.freeze ⟨b, cs.length, none⟩ 1) := by
  have hb := h.rows ⟨b, cs, e⟩ (by simp)
  have hn := h.nodup
  simp only [List.flatten_cons, List.singleton_append, List.map_cons, List.nodup_cons] at hn
  have hother : ∀ k, k ≠ b → (w.freeze ⟨b, cs.length, none⟩ 1).heap[k]? = w.heap[k]? := fun k hk => by
    unfold World.freeze
    rw [if_neg (by omega)]
    simp only [Array.getElem?_modify]
    rw [if_neg (fun x => hk x.symm)]
  refine ⟨⟨h.below.os, h.below.tape, h.below.output, ?_, fun k hk => ?_⟩, fun x hx => ?_, h.nodup⟩
  · unfold World.freeze; rw [if_neg (by omega)]; simpa using h.below.size
  · rw [hother k (by have := hb.1; simp at this; omega)]
    exact h.below.block k hk
  · simp only [List.flatten_cons, List.singleton_append, List.mem_cons] at hx
    rcases hx with rfl | hx
    · obtain ⟨h1, fr, h2, h3⟩ := hb
      refine ⟨h1, if fr.1 == fr.2 then (cs.length, cs.length + 1) else (min fr.1 cs.length, max fr.2 (cs.length + 1)), ?_, ?_⟩
      · unfold Clean at *
        by_cases he : fr.1 = fr.2
        · simp [he]
        · rcases h2 with h2 | h2
          · left
            simp only [beq_eq_false_iff_ne.mpr he]
            exact Nat.le_min.mpr ⟨h2, Nat.le_refl _⟩
          · exact absurd h2 he
      · unfold World.freeze
        rw [if_neg (by omega)]
        simp only [Array.getElem?_modify, if_true]
        show Option.map _ w.heap[b]? = _
        rw [h3]
        rfl
    · obtain ⟨h1, fr, h2, h3⟩ := h.rows x (by simp [hx])
      refine ⟨h1, fr, h2, ?_⟩
      rw [hother x.b (fun he => hn.1 (List.mem_map.2 ⟨x, hx, he⟩))]
      exact h3
theorem RowAt.shape {w : World} {b : Nat} {cs : List Value} {e : TypeId} (h : RowAt w b cs e) : w.shape? b = some (e, cs.length) := by
  obtain ⟨fr, _, h⟩ := h
  unfold World.shape?
  rw [h]
  simp

/-- The text of bytes. -/
def text (bs : List Nat) : ByteArray := (bs.map fun (n : Nat) => (n : Int)).foldl (fun r n => r.push (UInt8.ofNat n.toNat)) ByteArray.empty
theorem text_data_aux : ∀ (l : List Int) (s : ByteArray), (l.foldl (fun r n => r.push (UInt8.ofNat n.toNat)) s).data.toList = s.data.toList ++ l.map (fun n => UInt8.ofNat n.toNat)
  | [], s => by simp
  | n :: l, s => by
    rw [List.foldl_cons, text_data_aux l]
    simp [ByteArray.push]
theorem text_data (bs : List Nat) : (text bs).data.toList = bs.map UInt8.ofNat := by
  unfold text
  rw [text_data_aux]
  simp only [List.map_map]
  show [] ++ _ = _
  rw [List.nil_append]
  apply List.map_congr_left
  intro n _
  show UInt8.ofNat ((n : Int).toNat) = UInt8.ofNat n
  rw [Int.toNat_natCast]
theorem text_size (bs : List Nat) : (text bs).size = bs.length := by
  have := congrArg List.length (text_data bs)
  rw [List.length_map, Array.length_toList] at this
  exact this
def byteVals (bs : List Nat) : List Value := bs.map fun (n : Nat) => Value.int .u8 (n : Int)
def u8s (s : ByteArray) : List Nat := s.data.toList.map UInt8.toNat
theorem u8s_lt (s : ByteArray) : ∀ b ∈ u8s s, b < 256 := fun b hb => by
  obtain ⟨x, _, rfl⟩ := List.mem_map.1 hb
  exact x.toNat_lt
theorem u8s_length (s : ByteArray) : (u8s s).length = s.size := by
  unfold u8s
  rw [List.length_map, Array.length_toList]; rfl
theorem u8s_text (bs : List Nat) (h : ∀ b ∈ bs, b < 256) : u8s (text bs) = bs := by
  unfold u8s
  rw [text_data, List.map_map]
  conv => rhs; rw [← List.map_id bs]
  apply List.map_congr_left
  intro n hn
  have := h n hn
  simp only [Function.comp, id]
  rw [UInt8.toNat_ofNat']
  exact Nat.mod_eq_of_lt this
theorem text_u8s (s : ByteArray) : text (u8s s) = s := by
  apply ByteArray.ext
  apply Array.ext'
  rw [text_data]
  unfold u8s
  rw [List.map_map]
  conv => rhs; rw [← List.map_id s.data.toList]
  apply List.map_congr_left
  intro n _
  simp
theorem text_inj {a b : List Nat} (ha : ∀ x ∈ a, x < 256) (hb : ∀ x ∈ b, x < 256) : text a = text b ↔ a = b :=
  ⟨fun h => by rw [← u8s_text a ha, ← u8s_text b hb, h], fun h => by rw [h]⟩

/-- A bound of a cut: none, or a number. -/
def Bd (env : Env) (x : Option Operand) (d n : Nat) : Prop := match x with
  | none => n = d
  | some x => ∃ k i, ev env x = some (.int k i) ∧ i = (n : Int)
theorem run_bound {env : Env} {x : Operand} {a : Act} {w : World} {P : Program} {n : Nat} {m : Nat} {fn : Nat} (hf : Fr fn env a) (h : Bd env (some x) m n) (d : Nat) (hd : n ≤ d) (code : BoundsCode) : (Instr.sliceBound (a.eval x) d code).run P w = .ok n w := by
  obtain ⟨k, i, h1, rfl⟩ := h
  simp [Instr.sliceBound, hf.eval h1, asIntOf, show ((n : Nat) : Int) ≤ (d : Int) by omega]
theorem run_bounds {env : Env} {lo hi mx : Option Operand} {a : Act} {w : World} {P : Program} {l h m n c : Nat} {fn : Nat} (hf : Fr fn env a) (b : Bool) (hl : Bd env lo 0 l) (hh : Bd env hi n h) (hm : Bd env mx c m) (h1 : l ≤ h) (h2 : h ≤ m) (h3 : m ≤ c) (hx : mx.isSome = true → hi.isSome = true) :
    (Instr.sliceBounds b n c (lo.map a.eval) (hi.map a.eval) (mx.map a.eval)).run P w = .ok (l, h, m) w := by
  unfold Instr.sliceBounds
  cases mx with
  | none =>
    have hm : m = c := hm
    subst hm
    cases hi with
    | none =>
      have hh : h = n := hh
      subst hh
      cases lo with
      | none => have hl : l = 0 := hl; subst hl; simp
      | some x => simp [run_bound hf hl h h1]
    | some y =>
      cases lo with
      | none => have hl : l = 0 := hl; subst hl; simp [run_bound hf hh m h2]
      | some x => simp [run_bound hf hl h h1, run_bound hf hh m h2]
  | some z =>
    cases hi with
    | none => simp at hx
    | some y =>
      cases lo with
      | none => have hl : l = 0 := hl; subst hl; simp [run_bound hf hh m h2, run_bound hf hm c h3]
      | some x => simp [run_bound hf hl h h1, run_bound hf hh m h2, run_bound hf hm c h3]

section steps
variable {C : Cx} {ops : Array Oper} {Q : Post} {Lr : List Chunk} {κ : List (Bool × Oper)} {env : Env} {L : List Chunk} {f : Bool}
  {dst : Option Tmp} {ty : TypeId} {pos : String} {after : Array Edge} {v u : Value} {x y z : Operand}

theorem St.cut {t e : TypeId} {A : Option Addr} {n c sz l h m : Nat} {lo hi mx : Option Operand} (hd : dok C.n dst = true) (hx : ev env x = some (.slice A n c)) (ht : sliceTy C.P t = some (e, sz)) (hl : Bd env lo 0 l) (hh : Bd env hi n h) (hm : Bd env mx c m)
    (h1 : l ≤ h) (h2 : h ≤ m) (h3 : m ≤ c) (hxx : mx.isSome = true → hi.isSome = true) (hk : St C ops Q Lr κ (upd dst (.slice (if m = l then A else A.map (·.add (l * sz))) (h - l) (m - l)) env) L) :
    St C ops Q Lr ((f, ⟨dst, .slice t x lo hi mx, ty, pos, after, none⟩) :: κ) env L :=
  St.plain hd rfl (fun a w hf => by
    unfold sliceTy at ht
    split at ht
    · rename_i e' hu
      simp only [Option.map_eq_some_iff, Prod.mk.injEq] at ht
      obtain ⟨j, hj, h1', h2'⟩ := ht
      subst h1' h2'
      simp [execOp, hf.eval hx, Instr.sliceAt, Instr.slice, run_underlying hu, run_bounds hf true hl hh hm h1 h2 h3 hxx, sizeOf, typeInfo, hj]
    · cases ht) hk
theorem St.cutStr {t : TypeId} {s : ByteArray} {l h : Nat} {lo hi : Option Operand} (hd : dok C.n dst = true) (hx : ev env x = some (.string s)) (ht : C.P.underlying t = some .string) (hl : Bd env lo 0 l) (hh : Bd env hi s.size h)
    (h1 : l ≤ h) (h2 : h ≤ s.size) (hk : St C ops Q Lr κ (upd dst (.string (s.extract l h)) env) L) :
    St C ops Q Lr ((f, ⟨dst, .slice t x lo hi none, ty, pos, after, none⟩) :: κ) env L :=
  St.plain hd rfl (fun a w hf => by
    have hb := run_bounds (P := C.P) (w := w) (mx := none) hf false hl hh (show Bd env none s.size s.size from rfl) h1 h2 (Nat.le_refl _) (by simp)
    simp only [Option.map_none] at hb
    simp [execOp, hf.eval hx, Instr.sliceAt, Instr.slice, run_underlying ht, hb]) hk
theorem St.indexStr {t : TypeId} {k : IntKind} {s : ByteArray} {i : Nat} {b : UInt8} (hd : dok C.n dst = true) (hx : ev env x = some (.string s)) (hy : ev env y = some (.int k (i : Int))) (ht : C.P.underlying t = some .string) (hb : s[i]? = some b)
    (hk : St C ops Q Lr κ (upd dst (.int .u8 ((b.toNat : Nat) : Int)) env) L) : St C ops Q Lr ((f, ⟨dst, .index t x y, ty, pos, after, none⟩) :: κ) env L :=
  St.plain hd rfl (fun a w hf => by
    simp [execOp, hf.eval hx, hf.eval hy, Instr.index, asIntOf, run_underlying ht, hb]) hk
theorem St.indexAgg {t : TypeId} {k : IntKind} {cs : List Value} {i : Int} {n sz : Nat} (hd : dok C.n dst = true) (hx : ev env x = some (.agg cs.toArray)) (hy : ev env y = some (.int k i)) (ht : arrTy C.P t = some (n, sz))
    (hs : (match C.P.underlying t with | some (.array _ e) => scal C.P e | _ => false) = true) (hi : 0 ≤ i ∧ i < n) (hv : cs[i.toNat * sz]? = some v)
    (hk : St C ops Q Lr κ (upd dst v env) L) : St C ops Q Lr ((f, ⟨dst, .index t x y, ty, pos, after, none⟩) :: κ) env L :=
  St.plain hd rfl (fun a w hf => by
    unfold arrTy at ht
    split at ht
    · rename_i n' e hu
      rw [hu] at hs
      simp only [Option.map_eq_some_iff, Prod.mk.injEq] at ht
      obtain ⟨j, hj, h1, h2⟩ := ht
      subst h1 h2
      have hag : (isAgg e).run C.P w = .ok false w := by
        simp only at hs
        unfold scal at hs
        cases hu2 : C.P.underlying e with
        | none => simp [hu2] at hs
        | some d =>
          rw [hu2] at hs
          unfold isAgg
          rw [Sem.run_bind, run_underlying hu2]
          cases d <;> first | rfl | (simp at hs)
      simp [execOp, hf.eval hx, hf.eval hy, Instr.index, asIntOf, run_underlying hu, hi.1, hi.2, sizeOf, typeInfo, hj, part, hag, hv]
    · cases ht) hk
/-- Bytes as a text. -/
theorem St.toStr {s t e : TypeId} {n : Nat} {bs : List Nat} (hd : dok C.n dst = true) (hx : ev env x = some v) (hr : Rd C.w0 (Lq f Lr L) v 1 n (byteVals bs)) (hs : C.P.underlying s = some (.slice e)) (he : C.P.underlying e = some (.int .u8)) (ht : C.P.underlying t = some .string)
    (hk : St C ops Q Lr κ (upd dst (.string (text bs)) env) L) : St C ops Q Lr ((f, ⟨dst, .convert s t x, ty, pos, after, none⟩) :: κ) env L :=
  St.quiet hd rfl rfl (fun a w hf ho => by
    obtain ⟨hl, b, o, A, c, rfl, hA, hh⟩ := hr
    have hbl : bs.length = n := by simpa [byteVals] using hl
    have hconv := run_convert_bytes_string (P := C.P) w s t e A n c hs he ht
    cases A with
    | none =>
      have : n = 0 := by rcases Nat.eq_zero_or_pos n with h | h; exact h; exact absurd (hA h) (by simp)
      subst this
      have hbs : bs = [] := List.eq_nil_of_length_eq_zero hbl
      subst hbs
      simp [execOp, hf.eval hx, hconv, Conv.bytesToString, text]
    | some A =>
      have hload : (loadCells A n).run C.P w = .ok ((bs.map fun (n : Nat) => (n : Int)).map (Value.int .u8)).toArray w := by
        have e1 : (bs.map fun (n : Nat) => (n : Int)).map (Value.int .u8) = byteVals bs := by simp [byteVals]
        rw [e1]
        rcases Nat.eq_zero_or_pos n with h | h
        · subst h
          have hbs : bs = [] := List.eq_nil_of_length_eq_zero hbl
          subst hbs
          simp [loadCells, loadCellsFrom, byteVals]
        · have := hA h
          injection this with this
          subst this
          have := run_loadCells_list (P := C.P) w ⟨b, o, none⟩ (byteVals bs) (fun j u hu => by rw [add_off]; exact hh w ho j u hu)
          rw [show (byteVals bs).length = n by simp [byteVals, hbl]] at this
          exact this
      have := run_bytesToString (P := C.P) w A n c _ hload
      simp [execOp, hf.eval hx, hconv, this, text]) hk
/-- A text as bytes: a new row. -/
theorem St.toBytes {s t e : TypeId} {str : ByteArray} (hd : dok C.n dst = true) (hx : ev env x = some (.string str)) (hs : C.P.underlying s = some .string) (ht : C.P.underlying t = some (.slice e)) (he : C.P.underlying e = some (.int .u8))
    (hc : ∀ E w, Own C.w0 (E :: L) w → Own C.w0 Lr w) (hk : ∀ v E, Buf e 1 v (byteVals (u8s str)) str.size E → v ≠ .slice none 0 0 → St C ops Q Lr κ (upd dst v env) (E :: L)) :
    St C ops Q Lr ((false, ⟨dst, .convert s t x, ty, pos, after, none⟩) :: κ) env L :=
  St.make (R := fun v L1 => ∃ E, L1 = E :: L ∧ Buf e 1 v (byteVals (u8s str)) str.size E ∧ v ≠ .slice none 0 0) hd rfl (fun a w hf ho => by
    have hge := grownCap_ge w str.size 0 e
    have hnf : (Question.appendCap str.size 0 e).forced = false := rfl
    have hp := (ho.drew).alloc (byteVals (u8s str) ++ List.replicate (grownCap w str.size 0 e - str.size) (Value.int .u8 0)) e
    have hm := hp.mark
    have hsz : (byteVals (u8s str)).length = str.size := by simp [byteVals, u8s_length]
    have hcells : (str.data.map fun b => Value.int .u8 b.toNat) ++ Array.replicate (grownCap w str.size 0 e - str.size) (Value.int .u8 0) = (byteVals (u8s str) ++ List.replicate (grownCap w str.size 0 e - str.size) (Value.int .u8 0)).toArray := by
      apply Array.ext'
      simp [byteVals, u8s]
    have hb : Buf e 1 (.slice (some ⟨w.heap.size, 0, none⟩) str.size (grownCap w str.size 0 e)) (byteVals (u8s str)) str.size [⟨w.heap.size, byteVals (u8s str) ++ List.replicate (grownCap w str.size 0 e - str.size) (Value.int .u8 0), e⟩] :=
      Buf.made (by rw [hsz]; omega) (by simp) hge
    refine ⟨_, _, _, ?_, ⟨_, rfl, hb, by simp⟩, hm⟩
    have hsh : (({ w with drawn := w.drawn + 1 } : World).alloc (.cells (byteVals (u8s str) ++ List.replicate (grownCap w str.size 0 e - str.size) (Value.int .u8 0)).toArray e)).shape? w.heap.size = some (e, (byteVals (u8s str) ++ List.replicate (grownCap w str.size 0 e - str.size) (Value.int .u8 0)).length) := (hp.rows ⟨w.heap.size, byteVals (u8s str) ++ List.replicate (grownCap w str.size 0 e - str.size) (Value.int .u8 0), e⟩ (by simp)).2.shape
    have hchoose : (choose (.appendCap str.size 0 e)).run C.P w = .ok (grownCap w str.size 0 e) w.drew := by
      rw [run_choose_drew, hnf]; rfl
    have hnew : (newRow e ((str.data.map fun b => Value.int .u8 b.toNat) ++ Array.replicate (grownCap w str.size 0 e - str.size) (Value.int .u8 0))).run C.P w.drew = .ok ⟨w.heap.size, 0, none⟩ (w.drew.alloc (.cells (byteVals (u8s str) ++ List.replicate (grownCap w str.size 0 e - str.size) (Value.int .u8 0)).toArray e)) := by
      rw [hcells]; simp [newRow]
    have hmark : (markStringish ⟨w.heap.size, 0, none⟩).run C.P (w.drew.alloc (.cells (byteVals (u8s str) ++ List.replicate (grownCap w str.size 0 e - str.size) (Value.int .u8 0)).toArray e)) = .ok () ((w.drew.alloc (.cells (byteVals (u8s str) ++ List.replicate (grownCap w str.size 0 e - str.size) (Value.int .u8 0)).toArray e)).freeze ⟨w.heap.size, (byteVals (u8s str) ++ List.replicate (grownCap w str.size 0 e - str.size) (Value.int .u8 0)).length, none⟩ 1) := by
      unfold markStringish
      rw [Sem.run_bind, run_shape]
      have hsh' : (w.drew.alloc (.cells (byteVals (u8s str) ++ List.replicate (grownCap w str.size 0 e - str.size) (Value.int .u8 0)).toArray e)).shape? w.heap.size = some (e, (byteVals (u8s str) ++ List.replicate (grownCap w str.size 0 e - str.size) (Value.int .u8 0)).length) := hsh
      simp only [hsh', Result.andThen]
      rfl
    have hall : (Conv.stringToBytes e str).run C.P w = .ok (.slice (some ⟨w.heap.size, 0, none⟩) str.size (grownCap w str.size 0 e)) ((w.drew.alloc (.cells (byteVals (u8s str) ++ List.replicate (grownCap w str.size 0 e - str.size) (Value.int .u8 0)).toArray e)).freeze ⟨w.heap.size, (byteVals (u8s str) ++ List.replicate (grownCap w str.size 0 e - str.size) (Value.int .u8 0)).length, none⟩ 1) := by
      unfold Conv.stringToBytes
      rw [Sem.run_bind, hchoose]
      simp only [Result.andThen]
      rw [Sem.run_bind, hnew]
      simp only [Result.andThen]
      rw [Sem.run_bind, hmark]
      rfl
    have hconv : (convert s t (.string str)).run C.P w = (Conv.stringToBytes e str).run C.P w := by
      simp [convert, run_underlying hs, run_underlying ht, run_underlying he]
    simp only [execOp, hf.eval hx]
    rw [Sem.run_bind, hconv, hall]
    rfl)
    (fun v L1 w ⟨E, h1, _⟩ hw => hc E w (by rw [← h1]; exact hw)) (fun v L1 ⟨E, h1, h2, h3⟩ => by subst h1; exact hk v E h2 h3)
/-- Bytes as bytes: the row is marked, nothing else. -/
theorem St.mark {t e e' : TypeId} {b o n c : Nat} {cs : List Value} (hd : dok C.n dst = true) (hx : ev env x = some (.slice (some ⟨b, o, none⟩) n c)) (ht : C.P.underlying t = some (.slice e)) (he : C.P.underlying e = some (.int .u8))
    (hc : ∀ w, Own C.w0 ([⟨b, cs, e'⟩] :: L) w → Own C.w0 Lr w) (hk : St C ops Q Lr κ (upd dst (.slice (some ⟨b, o, none⟩) n c) env) ([⟨b, cs, e'⟩] :: L)) :
    St C ops Q Lr ((false, ⟨dst, .convert t t x, ty, pos, after, none⟩) :: κ) env ([⟨b, cs, e'⟩] :: L) :=
  St.make (R := fun v L1 => v = .slice (some ⟨b, o, none⟩) n c ∧ L1 = [⟨b, cs, e'⟩] :: L) hd rfl (fun a w hf ho => by
    refine ⟨_, _, _, ?_, ⟨rfl, rfl⟩, ho.mark⟩
    have hsh : w.shape? b = some (e', cs.length) := (ho.rows ⟨b, cs, e'⟩ (by simp)).2.shape
    have hmark : (markStringish ⟨b, o, none⟩).run C.P w = .ok () (w.freeze ⟨b, cs.length, none⟩ 1) := by
      unfold markStringish
      rw [Sem.run_bind, run_shape]
      simp only [hsh, Result.andThen]
      rfl
    have hconv : (convert t t (.slice (some ⟨b, o, none⟩) n c)).run C.P w = .ok (.slice (some ⟨b, o, none⟩) n c) (w.freeze ⟨b, cs.length, none⟩ 1) := by
      simp [convert, run_underlying ht, run_underlying he, hmark]
    simp only [execOp, hf.eval hx]
    rw [Sem.run_bind, hconv]
    rfl)
    (fun v L1 w ⟨_, h1⟩ hw => hc w (by rw [← h1]; exact hw)) (fun v L1 ⟨h1, h2⟩ => by subst h1 h2; exact hk)
/-- A cut of a slice that owns its row: its end. -/
theorem Buf.drop {e : TypeId} {sz n c : Nat} {A : Option Addr} {xs : List Value} {E : Chunk} (h : Buf e sz (.slice A n c) xs n E) (l : Nat) (hl : l ≤ n) :
    n ≤ c ∧ Buf e sz (.slice (if c = l then A else A.map (·.add (l * sz))) (n - l) (c - l)) (xs.drop (l * sz)) (n - l) E := by
  obtain ⟨hx, ⟨hv, rfl, rfl⟩ | ⟨b, pre, cap, tail, hv, rfl, h1, h2⟩⟩ := h
  · injection hv with hA h0 hc
    subst hA hc
    have : l = 0 := by omega
    subst this
    exact ⟨Nat.le_refl _, by simp [hx], .inl ⟨by simp, rfl, rfl⟩⟩
  · injection hv with hA _ hc
    subst hA hc
    refine ⟨h1, by rw [List.length_drop, hx, ← Nat.sub_mul], .inr ?_⟩
    by_cases hcl : c = l
    · subst hcl
      have : n = c := by omega
      subst this
      refine ⟨b, pre, 0, xs ++ tail, by simp, by simp [hx], by omega, by simp⟩
    · refine ⟨b, pre ++ xs.take (l * sz), c - l, tail, ?_, ?_, by omega, ?_⟩
      · have : (pre ++ xs.take (l * sz)).length = pre.length + l * sz := by
          rw [List.length_append, List.length_take, Nat.min_eq_left]
          rw [hx]; exact Nat.mul_le_mul_right _ hl
        rw [this, if_neg hcl]
        simp [add_off]
      · simp [List.append_assoc]
        rw [← List.append_assoc, List.take_append_drop]
      · have : c - l - (n - l) = c - n := by omega
        rw [this]; exact h2
theorem Rd.drop {w0 : World} {L : List Chunk} {A : Option Addr} {sz n c : Nat} {xs : List Value} (h : Rd w0 L (.slice A n c) sz n xs) (l : Nat) (hl : l ≤ n) (c' : Nat) :
    Rd w0 L (.slice (if c = l then A else A.map (·.add (l * sz))) (n - l) c') sz (n - l) (xs.drop (l * sz)) ∨ (c = l ∧ l < n) := by
  obtain ⟨hx, b, o, A', c2, hv, hA, hh⟩ := h
  injection hv with h1 _ h2
  subst h1 h2
  by_cases hcl : c = l
  · by_cases hln : l < n
    · exact .inr ⟨hcl, hln⟩
    · have : n = l := by omega
      subst this
      left
      refine ⟨by simp [hx], b, o, _, c', rfl, by omega, fun w hw j u hu => ?_⟩
      rw [List.drop_eq_nil_of_le (by omega)] at hu
      simp at hu
  · left
    refine ⟨by rw [List.length_drop, hx, ← Nat.sub_mul], b, o + l * sz, _, c', rfl, fun hp => ?_, fun w hw j u hu => ?_⟩
    · rw [if_neg hcl, hA (by omega)]
      simp [add_off]
    · rw [List.getElem?_drop] at hu
      rw [Nat.add_assoc]
      exact hh w hw _ u hu
end steps
end Go.Proofs.Ytahafepgmkiabaa.Sep
