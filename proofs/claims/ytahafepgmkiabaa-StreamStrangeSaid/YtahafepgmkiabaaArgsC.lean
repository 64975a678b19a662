/- What comes in, read as the walks want it: bytes within their weight, segments. -/
import Derived.Test.YtahafepgmkiabaaArgsB
import Derived.Test.YtahafepgmkiabaaU2
import Derived.SizedLaws
set_option linter.unusedVariables false
set_option linter.unusedSimpArgs false
set_option linter.ambiguousOpen false
namespace Go.Proofs.Ytahafepgmkiabaa
open Go Go.ChangeShapes Go.WideShapes Go.ChangeAt Go.RowKit Go.Proofs.Ytahafepgmkiabaa.Sep

section
variable {H : Type} {enc : TypeId × Value → H} {P : Program} {W : World} {base : Nat} {spare : Nat → Bool} {held : Bool}
/-- Bytes that came in: how long they are, and that the slice has room for them. -/
theorem in_bytes2 {t e : TypeId} {fuel : Nat} {c : List Value} {d : DataW H} {ps : List MemPlace} (hu : P.underlying t = some (.slice e)) (he : P.underlying e = some (.int .u8)) (hce : P.cellsOf e = 1) (hB : P.bytesOf e = 1) (h : DataW.trod enc P W base spare held fuel t c = some (d, ps)) (hw : ∀ n ∈ d.weights P t, n ≤ reachBytes) :
    ∃ (v : Value) (bs : List Nat), c = [v] ∧ Rd W [] v 1 bs.length (bytes bs) ∧ Cap v ∧ bs.length ≤ 140737488351232 ∧ ∀ b ∈ bs, b < 256 := by
  obtain ⟨v, bs, hc, hr, hb, _⟩ := in_bytes hu he hce h
  refine ⟨v, bs, hc, hr, ?_, ?_, hb⟩
  · rcases open_ints hu he hce h with ⟨hcs, hx⟩ | ⟨x, l, cp, zs, hcs, _, hl, hm, hz, hx, hcell, hwz⟩
    · rw [hc] at hcs
      injection hcs with hcs
      subst hcs
      exact Cap.nil
    · rw [hc] at hcs
      injection hcs with hcs
      subst hcs
      exact ⟨_, _, _, rfl, hl⟩
  · rcases open_ints hu he hce h with ⟨hcs, hx⟩ | ⟨x, l, cp, zs, hcs, _, hl, hm, hz, hx, hcell, hwz⟩
    · rw [hc] at hcs
      injection hcs with hcs
      subst hcs
      obtain ⟨_, _, _, _, _, hv, _, _⟩ := hr
      injection hv with _ h2 _
      omega
    · rw [hc] at hcs
      injection hcs with hcs
      subst hcs
      obtain ⟨_, _, _, _, _, hv, _, _⟩ := hr
      injection hv with _ h2 _
      have hd : d = .slice (lits .u8 (zs.take l)) (lits .u8 (zs.drop l)) := (Prod.mk.inj hx).1
      have := hw (((lits .u8 (zs.take l) : List (DataW H)).length + (lits .u8 (zs.drop l) : List (DataW H)).length) * P.bytesOf e) (by rw [hd]; simp [DataW.weights, hu])
      rw [hB] at this
      simp only [lits, List.length_map, List.length_take, List.length_drop] at this
      have h3 : reachBytes = 140737488351232 := rfl
      have hlz : l ≤ zs.length := by rw [hz]; split <;> omega
      omega
theorem in_cap {t e : TypeId} {a : Option Addr} {len cap : Nat} {d : DataW H} {ps : List MemPlace} (hu : P.underlying t = some (.slice e)) (h : DataW.Trod enc P W base spare held t (.slice a len cap) d ps) : Cap (.slice a len cap) := by
  obtain ⟨fuel, hf⟩ := h
  rcases DataW.trod_slice hu hf with ⟨hcs, _⟩ | ⟨x0, l, c, elems, rest, n, _, hcs, _, _, hl, _⟩
  · have hcs : [Value.slice a len cap] = [.slice none 0 0] := hcs
    injection hcs with hcs
    rw [hcs]; exact Cap.nil
  · have hcs : [Value.slice a len cap] = [.slice (some x0) l c] := hcs
    injection hcs with hcs
    rw [hcs]; exact ⟨_, _, _, rfl, hl⟩
theorem weights_at : ∀ {ts : List TypeId} {ds : List (DataW H)} {j : Nat} {t : TypeId} {d : DataW H}, ts[j]? = some t → ds[j]? = some d → (∀ n ∈ DataW.weightsEach P ts ds, n ≤ reachBytes) → ∀ n ∈ d.weights P t, n ≤ reachBytes := fun ht hd h n hn => h n (DataW.weights_mem_each ht hd n hn)
theorem cells5 {c : List Value} (h : c.length = 5) : ∃ a b d e f, c = [a, b, d, e, f] := by
  match c, h with
  | [a, b, d, e, f], _ => exact ⟨a, b, d, e, f, rfl⟩
end
section
variable {H : Type} {enc : TypeId × Value → H} {W : World} {base : Nat} {spare : Nat → Bool} {held : Bool}
/-- A segment that came in. -/
theorem in_seg {fuel : Nat} {c : List Value} {d : DataW H} {ps : List MemPlace} (h : DataW.trod enc Try.prog W base spare held fuel 73 c = some (d, ps)) (hw : ∀ n ∈ d.weights Try.prog 73, n ≤ reachBytes) :
    ∃ s dv, c = segCells s dv ∧ SegIn W [] s dv ∧ (-9223372036854775808 ≤ s.ty ∧ s.ty ≤ 9223372036854775807) := by
  obtain ⟨xs, n, hf, hx, hlen, hxl, hall⟩ := DataW.trod_struct Try.underlying73 h
  have h5 : c.length = 5 := by rw [hlen]; kernel_rfl
  obtain ⟨c0, c1, c2, c3, c4, rfl⟩ := cells5 h5
  have e3 : Try.prog.cellsOf 3 = 1 := by kernel_rfl
  have e35 : Try.prog.cellsOf 35 = 1 := by kernel_rfl
  have hxs : xs.length = 5 := hxl
  have g0 : DataW.trod enc Try.prog W base spare held n 3 (([c0, c1, c2, c3, c4].drop 0).take (Try.prog.cellsOf 3)) = xs[0]? := hall 0 _ rfl
  have g1 : DataW.trod enc Try.prog W base spare held n 3 (([c0, c1, c2, c3, c4].drop 1).take (Try.prog.cellsOf 3)) = xs[1]? := hall 1 _ rfl
  have g2 : DataW.trod enc Try.prog W base spare held n 3 (([c0, c1, c2, c3, c4].drop 2).take (Try.prog.cellsOf 3)) = xs[2]? := hall 2 _ rfl
  have g3 : DataW.trod enc Try.prog W base spare held n 3 (([c0, c1, c2, c3, c4].drop 3).take (Try.prog.cellsOf 3)) = xs[3]? := hall 3 _ rfl
  have g4 : DataW.trod enc Try.prog W base spare held n 35 (([c0, c1, c2, c3, c4].drop 4).take (Try.prog.cellsOf 35)) = xs[4]? := hall 4 _ rfl
  simp only [e3, e35, List.drop_zero, List.drop_succ_cons, List.take_succ_cons, List.take_zero] at g0 g1 g2 g3 g4
  rw [List.getElem?_eq_getElem (by omega)] at g0 g1 g2 g3 g4
  obtain ⟨n0, hc0, _, hw0⟩ := DataW.trod_int Try.underlying3 g0
  obtain ⟨n1, hc1, _, hw1⟩ := DataW.trod_int Try.underlying3 g1
  obtain ⟨n2, hc2, _, hw2⟩ := DataW.trod_int Try.underlying3 g2
  obtain ⟨n3, hc3, _, hw3⟩ := DataW.trod_int Try.underlying3 g3
  injection hc0 with hc0
  injection hc1 with hc1
  injection hc2 with hc2
  injection hc3 with hc3
  subst hc0 hc1 hc2 hc3
  have hd : d = .agg (xs.map (·.1)) := (Prod.mk.inj hx).1
  have hw4 : ∀ n ∈ (xs[4]'(by omega)).1.weights Try.prog 35, n ≤ reachBytes := by
    refine weights_at (P := Try.prog) (ts := [3, 3, 3, 3, 35]) (ds := xs.map (·.1)) (j := 4) rfl (by rw [List.getElem?_map, List.getElem?_eq_getElem (by omega)]; rfl) (fun n hn => hw n ?_)
    rw [hd]
    simp only [DataW.weights, Try.underlying73]
    exact hn
  obtain ⟨v, bs, hc4, hr, hcap, hbl, hb⟩ := in_bytes2 Try.underlying35 Try.underlying5 (by kernel_rfl) (by kernel_rfl) g4 hw4
  injection hc4 with hc4
  subst hc4
  exact ⟨⟨n0, n1, n2, n3, bs⟩, _, rfl, ⟨hr, hcap, hbl, hb⟩, wf_i64 hw0⟩
end
end Go.Proofs.Ytahafepgmkiabaa
