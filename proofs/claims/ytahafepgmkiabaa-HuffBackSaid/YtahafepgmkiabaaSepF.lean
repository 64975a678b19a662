/- The rules of the walk over owned rows: slices that grow, cuts, calls, strings. -/
import Derived.Test.YtahafepgmkiabaaSepE
set_option linter.unusedVariables false
set_option linter.unusedSimpArgs false
namespace Go.Proofs.Ytahafepgmkiabaa.Sep
open Go Go.RowKit

/-! ### A slice that owns its row -/
/-- The value v is a slice of n elements of sz cells; its cells are xs; E is what it owns: nothing, or the one row. -/
def Buf (e : TypeId) (sz : Nat) (v : Value) (xs : List Value) (n : Nat) (E : Chunk) : Prop :=
  xs.length = n * sz ∧ ((v = .slice none 0 0 ∧ n = 0 ∧ E = []) ∨
    ∃ b pre cap tail, v = .slice (some ⟨b, pre.length, none⟩) n cap ∧ E = [⟨b, pre ++ (xs ++ tail), e⟩] ∧ n ≤ cap ∧ (cap - n) * sz ≤ tail.length)
theorem Buf.nil (e : TypeId) (sz : Nat) : Buf e sz (.slice none 0 0) [] 0 [] := ⟨by simp, .inl ⟨rfl, rfl, rfl⟩⟩
theorem Buf.whole {e : TypeId} {sz n b : Nat} {cs : List Value} (h : cs.length = n * sz) : Buf e sz (.slice (some ⟨b, 0, none⟩) n n) cs n [⟨b, cs, e⟩] :=
  ⟨h, .inr ⟨b, [], n, [], rfl, by simp, Nat.le_refl _, by simp⟩⟩
/-- Made with room: make([]T, n, c). -/
theorem Buf.made {e : TypeId} {sz n c b : Nat} {xs cs : List Value} (hx : xs.length = n * sz) (hc : cs.length = (c - n) * sz) (h : n ≤ c) : Buf e sz (.slice (some ⟨b, 0, none⟩) n c) xs n [⟨b, xs ++ cs, e⟩] :=
  ⟨hx, .inr ⟨b, [], c, cs, rfl, by simp, h, Nat.le_of_eq hc.symm⟩⟩
theorem Buf.len {e : TypeId} {sz n : Nat} {v : Value} {xs : List Value} {E : Chunk} (h : Buf e sz v xs n E) : xs.length = n * sz := h.1
/-- The shape, and what it reads as. -/
theorem Buf.read {e : TypeId} {sz n : Nat} {v : Value} {xs : List Value} {E : Chunk} (h : Buf e sz v xs n E) :
    ∃ b o A c, v = .slice A n c ∧ (0 < n → A = some ⟨b, o, none⟩) ∧ ∀ w0 L, E ∈ L → HoldsN w0 L b o xs := by
  obtain ⟨hl, ⟨rfl, rfl, rfl⟩ | ⟨b, pre, cap, tail, rfl, rfl, h1, h2⟩⟩ := h
  · refine ⟨0, 0, none, 0, rfl, by omega, fun w0 L _ w _ j u hu => ?_⟩
    have : xs = [] := List.eq_nil_of_length_eq_zero (by simpa using hl)
    subst this
    simp at hu
  · refine ⟨b, pre.length, _, cap, rfl, fun _ => rfl, fun w0 L hE w hw j u hu => ?_⟩
    have hm : (⟨b, pre ++ (xs ++ tail), e⟩ : Ent) ∈ L.flatten := List.mem_flatten.2 ⟨_, hE, by simp⟩
    rw [(hw.rows _ hm).2.cell]
    have hj : j < xs.length := (List.getElem?_eq_some_iff.1 hu).1
    rw [List.getElem?_append_right (by omega), show pre.length + j - pre.length = j by omega, List.getElem?_append_left hj]
    exact hu

/-- A slice that is read: n elements of sz cells. -/
def Rd (w0 : World) (L : List Chunk) (v : Value) (sz n : Nat) (xs : List Value) : Prop :=
  xs.length = n * sz ∧ ∃ b o A c, v = .slice A n c ∧ (0 < n → A = some ⟨b, o, none⟩) ∧ HoldsN w0 L b o xs
theorem Buf.rd {e : TypeId} {sz n : Nat} {v : Value} {xs : List Value} {E : Chunk} (h : Buf e sz v xs n E) {w0 : World} {L : List Chunk} (hE : E ∈ L) : Rd w0 L v sz n xs := by
  obtain ⟨b, o, A, c, h1, h2, h3⟩ := h.read
  exact ⟨h.1, b, o, A, c, h1, h2, h3 w0 L hE⟩
theorem Rd.mono {w0 : World} {L L' : List Chunk} {v : Value} {sz n : Nat} {xs : List Value} (h : Rd w0 L v sz n xs) (hs : ∀ w, Own w0 L' w → Own w0 L w) : Rd w0 L' v sz n xs := by
  obtain ⟨h0, b, o, A, c, h1, h2, h3⟩ := h
  exact ⟨h0, b, o, A, c, h1, h2, h3.mono hs⟩
theorem Rd.cons {w0 : World} {L : List Chunk} {v : Value} {sz n : Nat} {xs : List Value} (h : Rd w0 L v sz n xs) {c : Chunk} : Rd w0 (c :: L) v sz n xs := h.mono fun w hw => hw.drop
theorem Rd.nil (w0 : World) (L : List Chunk) (sz : Nat) : Rd w0 L (.slice none 0 0) sz 0 [] := ⟨by simp, 0, 0, none, 0, rfl, by omega, fun w hw j u hu => by simp at hu⟩
theorem Rd.row {w0 : World} {L : List Chunk} {b n c sz : Nat} {cs : List Value} {e : TypeId} (hl : cs.length = n * sz) (h : (⟨b, cs, e⟩ : Ent) ∈ L.flatten) : Rd w0 L (.slice (some ⟨b, 0, none⟩) n c) sz n cs :=
  ⟨hl, b, 0, _, c, rfl, fun _ => rfl, HoldsN.of_row h⟩

theorem zeroCells_size (z : Array Value) (n : Nat) : (Builtin.zeroCells z n).size = n * z.size := by simp [Builtin.zeroCells]

theorem run_append_buf {P : Program} {w0 w : World} {t ty e : TypeId} {i : TypeInfo} {z : Value} {sz n m : Nat} {v x : Value} {xs news : List Value} {E : Chunk} {L : List Chunk} (ht : P.underlying t = some (.slice e)) (hi : P.info? e = some i) (hz : i.zero = some z) (hsz : i.size = sz) (hzs : z.cells.size = sz)
    (hb : Buf e sz v xs n E) (ho : Own w0 (E :: L) w) (hx : Rd w0 (E :: L) x sz m news) (h1 : ∀ u ∈ news, one u = true) (hbytes : (n + m) * i.bytes ≤ 140737488355328) (hmax : n + m ≤ 9223372036854775807) :
    ∃ v' E' w', (Builtin.append_ #[t, t] ty #[v, x]).run P w = .ok v' w' ∧ Buf e sz v' (xs ++ news) (n + m) E' ∧ Own w0 (E' :: L) w' ∧ (v' = .slice none 0 0 ↔ v = .slice none 0 0 ∧ m = 0) := by
  subst hsz
  obtain ⟨hnl, xb, xo, xA, xc, rfl, hxA, hxh⟩ := hx
  have hf : ∀ w', Own w0 (E :: L) w' → (Builtin.firstCells i.size m (.slice xA m xc)).run P w' = .ok news.toArray w' := by
    intro w' ho'
    rcases Nat.eq_zero_or_pos m with rfl | hm
    · have : news = [] := List.eq_nil_of_length_eq_zero (by simpa using hnl)
      subst this
      cases xA <;> simp [Builtin.firstCells, loadCells, loadCellsFrom]
    · rw [hxA hm]
      exact run_firstCells_some w' i.size m _ m xc news hnl fun j u hu => by rw [add_off]; exact hxh w' ho' j u hu
  have hlen : (xs ++ news).length = (n + m) * i.size := by rw [List.length_append, hb.1, hnl, Nat.add_mul]
  -- a new row
  have grown : ∀ old, old < n + m → ∀ (xs' : List Value), xs' = xs → Own w0 L w →
      ∃ E', Buf e i.size (.slice (some ⟨w.heap.size, 0, none⟩) (n + m) (grownCap w (n + m) old e)) (xs ++ news) (n + m) E' ∧
        Own w0 (E' :: L) (w.drew.alloc (.cells (xs'.toArray ++ news.toArray ++ Builtin.zeroCells z.cells (grownCap w (n + m) old e - (n + m))) e)) := by
    intro old hold xs' hxs' hoL
    subst hxs'
    refine ⟨[⟨w.heap.size, (xs' ++ news) ++ (Builtin.zeroCells z.cells (grownCap w (n + m) old e - (n + m))).toList, e⟩], ?_, ?_⟩
    · exact Buf.made hlen (by rw [Array.length_toList, zeroCells_size, hzs]) (grownCap_ge _ _ _ _)
    · have := (hoL.drew).alloc ((xs' ++ news) ++ (Builtin.zeroCells z.cells (grownCap w (n + m) old e - (n + m))).toList) e
      have he : (((xs' ++ news) ++ (Builtin.zeroCells z.cells (grownCap w (n + m) old e - (n + m))).toList).toArray) = xs'.toArray ++ news.toArray ++ Builtin.zeroCells z.cells (grownCap w (n + m) old e - (n + m)) := by
        apply Array.ext'
        simp
      rw [he] at this
      exact this
  obtain ⟨hl, ⟨rfl, rfl, rfl⟩ | ⟨b, pre, cap, tail, rfl, rfl, hnc, htl⟩⟩ := hb
  · have hxs : xs = [] := List.eq_nil_of_length_eq_zero (by simpa using hl)
    subst hxs
    rcases Nat.eq_zero_or_pos m with rfl | hm
    · have : news = [] := List.eq_nil_of_length_eq_zero (by simpa using hnl)
      subst this
      refine ⟨.slice none 0 0, [], w, ?_, Buf.nil _ _, ho, by simp⟩
      have hf0 := hf w ho
      simp [Builtin.append_, run_underlying ht, sizeOf, typeInfo, hi, Builtin.lenOf, hf0]
    · have hA := hxA hm
      subst hA
      have hr := run_append_nil (P := P) w t ty e i z ht hi hz ⟨xb, xo, none⟩ m xc news hnl (fun j u hu => by rw [add_off]; exact hxh w ho j u hu) hm (by omega) (by simp only [Nat.zero_add] at hbytes; omega)
      obtain ⟨E', hB, hO⟩ := grown 0 (by omega) [] rfl ho.drop
      simp only [Nat.zero_add, List.nil_append, Array.empty_append] at hB hO ⊢
      exact ⟨_, E', _, hr, hB, hO, by simp; omega⟩
  · have hrow := (ho.rows ⟨b, pre ++ (xs ++ tail), e⟩ (by simp)).2
    by_cases hroom : n + m ≤ cap
    · have hfit : pre.length + n * i.size + 0 + news.length ≤ (pre ++ (xs ++ tail)).length := by
        simp only [List.length_append, hl, hnl, Nat.add_zero]
        have h3 : m * i.size ≤ (cap - n) * i.size := Nat.mul_le_mul_right _ (by omega)
        omega
      obtain ⟨w', hst, how⟩ := run_storeCells_own (P := P) (e := e) (pre.length + n * i.size) news 0 _ w ho hfit h1
      have hsp : splice (pre ++ (xs ++ tail)) (pre.length + n * i.size + 0) news = pre ++ ((xs ++ news) ++ tail.drop news.length) := by
        have hpx : pre.length + n * i.size = (pre ++ xs).length := by simp [hl]
        unfold splice
        rw [Nat.add_zero, hpx, ← List.append_assoc, List.take_left, List.drop_append, List.drop_eq_nil_of_le (by omega)]
        simp [List.append_assoc]
      rw [hsp] at how
      refine ⟨.slice (some ⟨b, pre.length, none⟩) (n + m) cap, _, w', ?_, ⟨hlen, .inr ⟨b, pre, cap, tail.drop news.length, rfl, rfl, hroom, ?_⟩⟩, how, by simp⟩
      · have hf0 := hf w ho
        simp [Builtin.append_, run_underlying ht, sizeOf, typeInfo, hi, Builtin.lenOf, hroom, hf0, add_off, hst]
      · rw [List.length_drop, hnl]
        have h3 : (cap - (n + m)) * i.size + m * i.size = (cap - n) * i.size := by rw [← Nat.add_mul]; congr 1; omega
        omega
    · have hm : 0 < m := by omega
      have hA := hxA hm
      subst hA
      have hr := run_append_grow (P := P) w t ty e i z ht hi hz ⟨b, pre.length, none⟩ n cap xs hl (fun j u hu => by
          rw [add_off, hrow.cell]
          have hj : j < xs.length := (List.getElem?_eq_some_iff.1 hu).1
          rw [List.getElem?_append_right (by omega), show pre.length + j - pre.length = j by omega, List.getElem?_append_left hj]
          exact hu) ⟨xb, xo, none⟩ m xc news hnl (fun j u hu => by rw [add_off]; exact hxh w ho j u hu) (by omega) (by omega) (growslice_fits (by omega) hbytes)
      obtain ⟨E', hB, hO⟩ := grown cap (by omega) xs rfl ho.drop
      exact ⟨_, E', _, hr, hB, hO, by simp⟩

/-- What append wants of the program: a slice type, its element, the element's size, its bytes. -/
def growTy (P : Program) (t : TypeId) : Option (TypeId × Nat × Nat) := match P.underlying t with
  | some (.slice e) => (P.info? e).bind fun i => i.zero.bind fun z => if z.cells.size = i.size then some (e, i.size, i.bytes) else none
  | _ => none
section steps
variable {C : Cx} {ops : Array Oper} {Q : Post} {Lr : List Chunk} {κ : List (Bool × Oper)} {env : Env} {L : List Chunk} {f : Bool}
  {dst : Option Tmp} {ty : TypeId} {pos : String} {after : Array Edge} {v u : Value} {x y z : Operand}

theorem St.append {t e : TypeId} {sz bytes n m : Nat} {xs news : List Value} {E : Chunk} (hd : dok C.n dst = true) (hx : ev env x = some v) (hy : ev env y = some u) (ht : growTy C.P t = some (e, sz, bytes))
    (hb : Buf e sz v xs n E) (hr : Rd C.w0 (E :: L) u sz m news) (h1 : ∀ c ∈ news, one c = true) (hbytes : (n + m) * bytes ≤ 140737488355328) (hmax : n + m ≤ 9223372036854775807)
    (hc : ∀ E' w, Own C.w0 (E' :: L) w → Own C.w0 Lr w)
    (h : ∀ v' E', Buf e sz v' (xs ++ news) (n + m) E' → (v' = .slice none 0 0 ↔ v = .slice none 0 0 ∧ m = 0) → St C ops Q Lr κ (upd dst v' env) (E' :: L)) :
    St C ops Q Lr ((false, ⟨dst, .call ⟨.builtin .append, #[x, y], #[t, t]⟩, ty, pos, after, none⟩) :: κ) env (E :: L) :=
  St.make (R := fun v' L1 => ∃ E', L1 = E' :: L ∧ Buf e sz v' (xs ++ news) (n + m) E' ∧ (v' = .slice none 0 0 ↔ v = .slice none 0 0 ∧ m = 0)) hd rfl (fun a w hf ho => by
    unfold growTy at ht
    split at ht
    · rename_i e' hu
      simp only [Option.bind_eq_some_iff] at ht
      obtain ⟨i, hi, zv, hz, ht⟩ := ht
      split at ht
      · rename_i hzs
        simp only [Option.some.injEq, Prod.mk.injEq] at ht
        obtain ⟨rfl, rfl, rfl⟩ := ht
        obtain ⟨v', E', w', hrun, hB, hO, hn⟩ := run_append_buf (P := C.P) (ty := ty) hu hi hz rfl hzs hb ho hr h1 hbytes hmax
        refine ⟨v', E' :: L, w', ?_, ⟨E', rfl, hB, hn⟩, hO⟩
        simp [execOp, resolve, invoke, builtin, hf.eval hx, hf.eval hy, hrun]
      · cases ht
    · cases ht)
    (fun v' L1 w ⟨E', h1, _⟩ hw => hc E' w (by rw [← h1]; exact hw)) (fun v' L1 ⟨E', h1, h2, h3⟩ => by subst h1; exact h v' E' h2 h3)

/-! calls -/
def callable (P : Program) (g : FuncId) : Bool := match P.funcs[g]? with
  | some fn => !(fn.name == "runtime.NumGoroutine") && fn.body.isSome
  | none => false
theorem run_callFunc {P : Program} {g : FuncId} (h : callable P g = true) (args : Array Value) (w : World) : (callFunc g args).run P w = .ok (.enter g args) w := by
  unfold callable at h
  split at h
  · rename_i fn hf
    simp only [Bool.and_eq_true, Bool.not_eq_true'] at h
    obtain ⟨c, hc⟩ := Option.isSome_iff_exists.1 h.2
    have hne : ¬ fn.name = "runtime.NumGoroutine" := by simpa using h.1
    simp [callFunc, hf, hne, hc]
  · cases h
def evl (env : Env) : List Operand → Option (List Value)
  | [] => some []
  | x :: r => (ev env x).bind fun v => (evl env r).map fun s => v :: s
theorem evl_map {n : Nat} {a : Act} (hf : Fr n env a) : ∀ {l : List Operand} {vs : List Value}, evl env l = some vs → l.map a.eval = vs
  | [], vs, h => by simp [evl] at h; simp [h]
  | x :: r, vs, h => by
    simp only [evl, Option.bind_eq_some_iff, Option.map_eq_some_iff] at h
    obtain ⟨v, hv, s, hs, rfl⟩ := h
    simp [hf.eval hv, evl_map hf hs]
theorem St.callv {g : FuncId} {cap : Array Value} {args : Array Operand} {tys : Array TypeId} {R : Value → List Chunk → Prop} (vs : List Value) (hd : dok C.n dst = true) (hg : callable C.P g = true)
    (hx : ev env x = some (.func (.func g) #[] cap)) (ha : evl env args.toList = some vs) (hs : Meets C.P g (vs.toArray ++ cap) C.w0 L R)
    (hc : ∀ v L1 w, R v L1 → Own C.w0 L1 w → Own C.w0 Lr w) (h : ∀ v L1, R v L1 → St C ops Q Lr κ (upd dst v env) L1) : St C ops Q Lr ((false, ⟨dst, .call ⟨.value x, args, tys⟩, ty, pos, after, none⟩) :: κ) env L :=
  St.act (L' := R) hd rfl (fun a w K hf ho hK => by
    have hm : args.map a.eval = vs.toArray := by
      apply Array.ext'
      rw [Array.toList_map]; exact evl_map hf ha
    have he : (execOp a.eval (⟨dst, .call ⟨.value x, args, tys⟩, ty, pos, after, none⟩ : Oper)).run C.P w = .ok (.enter g (vs.toArray ++ cap)) w := by
      simp [execOp, resolve, Deferred.ofValue, hf.eval hx, hm, invoke, run_callFunc hg]
    unfold Oper.wp
    rw [he, Oper.upon_enter]
    refine (hs w ho).mono fun e w' hE => ?_
    obtain ⟨v, L', rfl, hR, ho'⟩ := hE
    exact hK v L' w' hR ho') h hc
theorem St.call {g : FuncId} {args : Array Operand} {tys : Array TypeId} {R : Value → List Chunk → Prop} (vs : List Value) (hd : dok C.n dst = true) (hg : callable C.P g = true)
    (ha : evl env args.toList = some vs) (hs : Meets C.P g vs.toArray C.w0 L R)
    (hc : ∀ v L1 w, R v L1 → Own C.w0 L1 w → Own C.w0 Lr w) (h : ∀ v L1, R v L1 → St C ops Q Lr κ (upd dst v env) L1) : St C ops Q Lr ((false, ⟨dst, .call ⟨.value (.func g), args, tys⟩, ty, pos, after, none⟩) :: κ) env L :=
  St.callv vs hd hg rfl ha (by simpa using hs) hc h
end steps

/-! the body of a function -/
def enumEnv : Nat → List Value → Env
  | _, [] => []
  | k, v :: r => (k, v) :: enumEnv (k + 1) r
theorem enumEnv_lk : ∀ (vs : List Value) (k j : Nat) (v : Value), lk (enumEnv k vs) j = some v → k ≤ j ∧ vs[j - k]? = some v
  | [], k, j, v, h => by simp [enumEnv, lk] at h
  | u :: r, k, j, v, h => by
    simp only [enumEnv, lk] at h
    cases hb : Nat.beq k j with
    | true =>
      have : k = j := Nat.eq_of_beq_eq_true hb
      subst this
      rw [hb] at h
      simp only [cond_true] at h
      simp [h]
    | false =>
      have hne : k ≠ j := Nat.ne_of_beq_eq_false hb
      rw [hb] at h
      simp only [cond_false] at h
      obtain ⟨h1, h2⟩ := enumEnv_lk r (k + 1) j v h
      refine ⟨by omega, ?_⟩
      rw [show j - k = (j - (k + 1)) + 1 by omega]
      simpa using h2
theorem Meets.of_body {P : Program} {g : FuncId} {fn : Func} {c : Code} {n : Nat} (vs : List Value) {w0 : World} {L : List Chunk} {R : Value → List Chunk → Prop} (hf : P.funcs[g]? = some fn) (hb : fn.body = some c) (hn : fn.ntmps = n) (hl : Nat.ble vs.length n = true)
    (h : SC ⟨P, n, w0⟩ c (Fin P fn w0 R) (enumEnv 0 vs) L) : Meets P g vs.toArray w0 L R := by
  intro w ho
  refine calls_of_wp hf hb (h _ w ?_ ho)
  have hle : vs.length ≤ n := by simpa using hl
  refine ⟨by simp [hn]; omega, rfl, fun k v hk => ?_⟩
  obtain ⟨_, hk'⟩ := enumEnv_lk vs 0 k v hk
  rw [Nat.sub_zero] at hk'
  have hlt : k < vs.length := (List.getElem?_eq_some_iff.1 hk').1
  show (vs.toArray ++ Array.replicate _ undef)[k]? = some v
  rw [Array.getElem?_append_left (by simpa using hlt)]
  simpa using hk'
section ends
variable {C : Cx} {env : Env} {L : List Chunk} {fn : Func} {R : Value → List Chunk → Prop}
theorem SX.ret1 {t : Tmp} {v : Value} (hr : fn.results = #[.tmp t]) (hv : lk env t = some v) (h : R v L) : SX C .ret (Fin C.P fn C.w0 R) env L := fun a w hf ho =>
  ⟨hf.defers, v, by simp [results, hr, Array.getD_eq_getD_getElem?, hf.has t v hv], v, L, rfl, h, ho⟩
theorem SX.ret0 {e : Exit} (he : e = .ret ∨ e = .normal) (hr : fn.results = #[]) (h : R (.tuple #[]) L) : SX C e (Fin C.P fn C.w0 R) env L := fun a w hf ho => by
  rcases he with rfl | rfl
  · exact ⟨hf.defers, _, by simp [results, hr], _, L, rfl, h, ho⟩
  · exact ⟨hf.defers, _, by simp [results, hr], _, L, rfl, h, ho⟩
theorem SX.ret2 {t t' : Tmp} {v v' : Value} (hr : fn.results = #[.tmp t, .tmp t']) (hv : lk env t = some v) (hv' : lk env t' = some v') (h : R (.tuple #[v, v']) L) : SX C .ret (Fin C.P fn C.w0 R) env L := fun a w hf ho =>
  ⟨hf.defers, .tuple #[v, v'], by simp [results, hr, Array.getD_eq_getD_getElem?, hf.has t v hv, hf.has t' v' hv'], _, L, rfl, h, ho⟩
theorem SX.ret3 {t t' t'' : Tmp} {v v' v'' : Value} (hr : fn.results = #[.tmp t, .tmp t', .tmp t'']) (hv : lk env t = some v) (hv' : lk env t' = some v') (hv'' : lk env t'' = some v'') (h : R (.tuple #[v, v', v'']) L) : SX C .ret (Fin C.P fn C.w0 R) env L := fun a w hf ho =>
  ⟨hf.defers, .tuple #[v, v', v''], by simp [results, hr, Array.getD_eq_getD_getElem?, hf.has t v hv, hf.has t' v' hv', hf.has t'' v'' hv''], _, L, rfl, h, ho⟩
end ends
end Go.Proofs.Ytahafepgmkiabaa.Sep
