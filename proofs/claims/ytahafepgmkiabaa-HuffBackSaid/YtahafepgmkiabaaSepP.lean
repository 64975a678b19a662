/- More rules of the walk over owned rows: append, up to growslice's own bound. -/
import Derived.Test.YtahafepgmkiabaaSepF
import Derived.Deep.DeepAppendWide
set_option linter.unusedVariables false
set_option linter.unusedSimpArgs false
namespace Go.Proofs.Ytahafepgmkiabaa.Sep
open Go Go.RowKit

theorem run_append_bufW {P : Program} {w0 w : World} {t ty e : TypeId} {i : TypeInfo} {z : Value} {sz n m : Nat} {v x : Value} {xs news : List Value} {E : Chunk} {L : List Chunk} (ht : P.underlying t = some (.slice e)) (hi : P.info? e = some i) (hz : i.zero = some z) (hsz : i.size = sz) (hzs : z.cells.size = sz)
    (hb : Buf e sz v xs n E) (ho : Own w0 (E :: L) w) (hx : Rd w0 (E :: L) x sz m news) (h1 : ∀ u ∈ news, one u = true) (hbytes : ((n + m) + (n + m) / 4 + 192) * i.bytes ≤ 281474976710656) (hmax : n + m ≤ 9223372036854775807) :
    ∃ v' E' w', (Builtin.append_ #[t, t] ty #[v, x]).run P w = .ok v' w' ∧ Buf e sz v' (xs ++ news) (n + m) E' ∧ Own w0 (E' :: L) w' ∧ (v' = .slice none 0 0 ↔ v = .slice none 0 0 ∧ m = 0) := by
  subst hsz
  obtain ⟨hnl, xb, xo, xA, xc, rfl, hxA, hxh⟩ := hx
  have hf : ∀ w', Own w0 (E :: L) w' → (Builtin.firstCells i.size m (.slice xA m xc)).run P w' = .ok news.toArray w' := by
    intro w' ho'
    rcases Nat.eq_zero_or_pos m with rfl | hm
    · have : news = [] := List.eq_nil_of_length_eq_zero (by simpa using hnl)
      subst this
      cases xA <;> simp [Builtin.firstCells, loadCells, loadCellsFrom]
    · rw [hxA hm]
      exact run_firstCells_some w' i.size m _ m xc news hnl fun j u hu => by rw [add_off]; exact hxh w' ho' j u hu
  have hlen : (xs ++ news).length = (n + m) * i.size := by rw [List.length_append, hb.1, hnl, Nat.add_mul]
  -- a new row
  have grown : ∀ old, old < n + m → ∀ (xs' : List Value), xs' = xs → Own w0 L w →
      ∃ E', Buf e i.size (.slice (some ⟨w.heap.size, 0, none⟩) (n + m) (grownCap w (n + m) old e)) (xs ++ news) (n + m) E' ∧
        Own w0 (E' :: L) (w.drew.alloc (.cells (xs'.toArray ++ news.toArray ++ Builtin.zeroCells z.cells (grownCap w (n + m) old e - (n + m))) e)) := by
    intro old hold xs' hxs' hoL
    subst hxs'
    refine ⟨[⟨w.heap.size, (xs' ++ news) ++ (Builtin.zeroCells z.cells (grownCap w (n + m) old e - (n + m))).toList, e⟩], ?_, ?_⟩
    · exact Buf.made hlen (by rw [Array.length_toList, zeroCells_size, hzs]) (grownCap_ge _ _ _ _)
    · have := (hoL.drew).alloc ((xs' ++ news) ++ (Builtin.zeroCells z.cells (grownCap w (n + m) old e - (n + m))).toList) e
      have he : (((xs' ++ news) ++ (Builtin.zeroCells z.cells (grownCap w (n + m) old e - (n + m))).toList).toArray) = xs'.toArray ++ news.toArray ++ Builtin.zeroCells z.cells (grownCap w (n + m) old e - (n + m)) := by
        apply Array.ext'
        simp
      rw [he] at this
      exact this
  obtain ⟨hl, ⟨rfl, rfl, rfl⟩ | ⟨b, pre, cap, tail, rfl, rfl, hnc, htl⟩⟩ := hb
  · have hxs : xs = [] := List.eq_nil_of_length_eq_zero (by simpa using hl)
    subst hxs
    rcases Nat.eq_zero_or_pos m with rfl | hm
    · have : news = [] := List.eq_nil_of_length_eq_zero (by simpa using hnl)
      subst this
      refine ⟨.slice none 0 0, [], w, ?_, Buf.nil _ _, ho, by simp⟩
      have hf0 := hf w ho
      simp [Builtin.append_, run_underlying ht, sizeOf, typeInfo, hi, Builtin.lenOf, hf0]
    · have hA := hxA hm
      subst hA
      have hr := run_append_nil (P := P) w t ty e i z ht hi hz ⟨xb, xo, none⟩ m xc news hnl (fun j u hu => by rw [add_off]; exact hxh w ho j u hu) hm (by omega) (Nat.le_trans (Nat.mul_le_mul_right _ (by omega)) hbytes)
      obtain ⟨E', hB, hO⟩ := grown 0 (by omega) [] rfl ho.drop
      simp only [Nat.zero_add, List.nil_append, Array.empty_append] at hB hO ⊢
      exact ⟨_, E', _, hr, hB, hO, by simp; omega⟩
  · have hrow := (ho.rows ⟨b, pre ++ (xs ++ tail), e⟩ (by simp)).2
    by_cases hroom : n + m ≤ cap
    · have hfit : pre.length + n * i.size + 0 + news.length ≤ (pre ++ (xs ++ tail)).length := by
        simp only [List.length_append, hl, hnl, Nat.add_zero]
        have h3 : m * i.size ≤ (cap - n) * i.size := Nat.mul_le_mul_right _ (by omega)
        omega
      obtain ⟨w', hst, how⟩ := run_storeCells_own (P := P) (e := e) (pre.length + n * i.size) news 0 _ w ho hfit h1
      have hsp : splice (pre ++ (xs ++ tail)) (pre.length + n * i.size + 0) news = pre ++ ((xs ++ news) ++ tail.drop news.length) := by
        have hpx : pre.length + n * i.size = (pre ++ xs).length := by simp [hl]
        unfold splice
        rw [Nat.add_zero, hpx, ← List.append_assoc, List.take_left, List.drop_append, List.drop_eq_nil_of_le (by omega)]
        simp [List.append_assoc]
      rw [hsp] at how
      refine ⟨.slice (some ⟨b, pre.length, none⟩) (n + m) cap, _, w', ?_, ⟨hlen, .inr ⟨b, pre, cap, tail.drop news.length, rfl, rfl, hroom, ?_⟩⟩, how, by simp⟩
      · have hf0 := hf w ho
        simp [Builtin.append_, run_underlying ht, sizeOf, typeInfo, hi, Builtin.lenOf, hroom, hf0, add_off, hst]
      · rw [List.length_drop, hnl]
        have h3 : (cap - (n + m)) * i.size + m * i.size = (cap - n) * i.size := by rw [← Nat.add_mul]; congr 1; omega
        omega
    · have hm : 0 < m := by omega
      have hA := hxA hm
      subst hA
      have hr := run_append_grow (P := P) w t ty e i z ht hi hz ⟨b, pre.length, none⟩ n cap xs hl (fun j u hu => by
          rw [add_off, hrow.cell]
          have hj : j < xs.length := (List.getElem?_eq_some_iff.1 hu).1
          rw [List.getElem?_append_right (by omega), show pre.length + j - pre.length = j by omega, List.getElem?_append_left hj]
          exact hu) ⟨xb, xo, none⟩ m xc news hnl (fun j u hu => by rw [add_off]; exact hxh w ho j u hu) (by omega) (by omega) (growslice_fits_wide (by omega) hbytes)
      obtain ⟨E', hB, hO⟩ := grown cap (by omega) xs rfl ho.drop
      exact ⟨_, E', _, hr, hB, hO, by simp⟩

section steps
variable {C : Cx} {ops : Array Oper} {Q : Post} {Lr : List Chunk} {κ : List (Bool × Oper)} {env : Env} {L : List Chunk} {f : Bool}
  {dst : Option Tmp} {ty : TypeId} {pos : String} {after : Array Edge} {v u : Value} {x y z : Operand}

theorem St.appendW {t e : TypeId} {sz bytes n m : Nat} {xs news : List Value} {E : Chunk} (hd : dok C.n dst = true) (hx : ev env x = some v) (hy : ev env y = some u) (ht : growTy C.P t = some (e, sz, bytes))
    (hb : Buf e sz v xs n E) (hr : Rd C.w0 (E :: L) u sz m news) (h1 : ∀ c ∈ news, one c = true) (hbytes : ((n + m) + (n + m) / 4 + 192) * bytes ≤ 281474976710656) (hmax : n + m ≤ 9223372036854775807)
    (hc : ∀ E' w, Own C.w0 (E' :: L) w → Own C.w0 Lr w)
    (h : ∀ v' E', Buf e sz v' (xs ++ news) (n + m) E' → (v' = .slice none 0 0 ↔ v = .slice none 0 0 ∧ m = 0) → St C ops Q Lr κ (upd dst v' env) (E' :: L)) :
    St C ops Q Lr ((false, ⟨dst, .call ⟨.builtin .append, #[x, y], #[t, t]⟩, ty, pos, after, none⟩) :: κ) env (E :: L) :=
  St.make (R := fun v' L1 => ∃ E', L1 = E' :: L ∧ Buf e sz v' (xs ++ news) (n + m) E' ∧ (v' = .slice none 0 0 ↔ v = .slice none 0 0 ∧ m = 0)) hd rfl (fun a w hf ho => by
    unfold growTy at ht
    split at ht
    · rename_i e' hu
      simp only [Option.bind_eq_some_iff] at ht
      obtain ⟨i, hi, zv, hz, ht⟩ := ht
      split at ht
      · rename_i hzs
        simp only [Option.some.injEq, Prod.mk.injEq] at ht
        obtain ⟨rfl, rfl, rfl⟩ := ht
        obtain ⟨v', E', w', hrun, hB, hO, hn⟩ := run_append_bufW (P := C.P) (ty := ty) hu hi hz rfl hzs hb ho hr h1 hbytes hmax
        refine ⟨v', E' :: L, w', ?_, ⟨E', rfl, hB, hn⟩, hO⟩
        simp [execOp, resolve, invoke, builtin, hf.eval hx, hf.eval hy, hrun]
      · cases ht
    · cases ht)
    (fun v' L1 w ⟨E', h1, _⟩ hw => hc E' w (by rw [← h1]; exact hw)) (fun v' L1 ⟨E', h1, h2, h3⟩ => by subst h1; exact h v' E' h2 h3)

/-! calls -/
end steps
end Go.Proofs.Ytahafepgmkiabaa.Sep
