/- What comes in, read as the walks want it: bytes within their weight, segments. -/
import Derived.Test.YtahafepgmkiabaaArgsD
import Derived.Test.YtahafepgmkiabaaU2
import Derived.SizedLaws
set_option linter.unusedVariables false
set_option linter.unusedSimpArgs false
set_option linter.ambiguousOpen false
namespace Go.Proofs.Ytahafepgmkiabaa
open Go Go.ChangeShapes Go.WideShapes Go.ChangeAt Go.RowKit Go.Proofs.Ytahafepgmkiabaa.Sep

section
variable {H : Type} {enc : TypeId × Value → H} {P : Program} {W : World} {base : Nat} {spare : Nat → Bool} {held : Bool}
theorem cells5 {c : List Value} (h : c.length = 5) : ∃ a b d e f, c = [a, b, d, e, f] := by
  match c, h with
  | [a, b, d, e, f], _ => exact ⟨a, b, d, e, f, rfl⟩
end
section
variable {H : Type} {enc : TypeId × Value → H} {W : World} {base : Nat} {spare : Nat → Bool} {held : Bool}
/-- A segment that came in. -/
theorem in_seg {fuel : Nat} {c : List Value} {d : DataW H} {ps : List MemPlace} (h : DataW.trod enc Try.prog W base spare held fuel 73 c = some (d, ps)) (hw : ∀ n ∈ d.weights Try.prog 73, n ≤ reachBytes) :
    ∃ s dv, c = segCells s dv ∧ SegIn W [] s dv ∧ (-9223372036854775808 ≤ s.ty ∧ s.ty ≤ 9223372036854775807) := by
  obtain ⟨xs, n, hf, hx, hlen, hxl, hall⟩ := DataW.trod_struct Try.underlying73 h
  have h5 : c.length = 5 := by rw [hlen]; kernel_rfl
  obtain ⟨c0, c1, c2, c3, c4, rfl⟩ := cells5 h5
  have e3 : Try.prog.cellsOf 3 = 1 := by kernel_rfl
  have e35 : Try.prog.cellsOf 35 = 1 := by kernel_rfl
  have hxs : xs.length = 5 := hxl
  have g0 : DataW.trod enc Try.prog W base spare held n 3 (([c0, c1, c2, c3, c4].drop 0).take (Try.prog.cellsOf 3)) = xs[0]? := hall 0 _ rfl
  have g1 : DataW.trod enc Try.prog W base spare held n 3 (([c0, c1, c2, c3, c4].drop 1).take (Try.prog.cellsOf 3)) = xs[1]? := hall 1 _ rfl
  have g2 : DataW.trod enc Try.prog W base spare held n 3 (([c0, c1, c2, c3, c4].drop 2).take (Try.prog.cellsOf 3)) = xs[2]? := hall 2 _ rfl
  have g3 : DataW.trod enc Try.prog W base spare held n 3 (([c0, c1, c2, c3, c4].drop 3).take (Try.prog.cellsOf 3)) = xs[3]? := hall 3 _ rfl
  have g4 : DataW.trod enc Try.prog W base spare held n 35 (([c0, c1, c2, c3, c4].drop 4).take (Try.prog.cellsOf 35)) = xs[4]? := hall 4 _ rfl
  simp only [e3, e35, List.drop_zero, List.drop_succ_cons, List.take_succ_cons, List.take_zero] at g0 g1 g2 g3 g4
  rw [List.getElem?_eq_getElem (by omega)] at g0 g1 g2 g3 g4
  obtain ⟨n0, hc0, _, hw0⟩ := DataW.trod_int Try.underlying3 g0
  obtain ⟨n1, hc1, _, hw1⟩ := DataW.trod_int Try.underlying3 g1
  obtain ⟨n2, hc2, _, hw2⟩ := DataW.trod_int Try.underlying3 g2
  obtain ⟨n3, hc3, _, hw3⟩ := DataW.trod_int Try.underlying3 g3
  injection hc0 with hc0
  injection hc1 with hc1
  injection hc2 with hc2
  injection hc3 with hc3
  subst hc0 hc1 hc2 hc3
  have hd : d = .agg (xs.map (·.1)) := (Prod.mk.inj hx).1
  have hw4 : ∀ n ∈ (xs[4]'(by omega)).1.weights Try.prog 35, n ≤ reachBytes := by
    refine weights_at (P := Try.prog) (ts := [3, 3, 3, 3, 35]) (ds := xs.map (·.1)) (j := 4) rfl (by rw [List.getElem?_map, List.getElem?_eq_getElem (by omega)]; rfl) (fun n hn => hw n ?_)
    rw [hd]
    simp only [DataW.weights, Try.underlying73]
    exact hn
  obtain ⟨v, bs, hc4, hr, hcap, hbl, hb⟩ := in_bytes2 Try.underlying35 Try.underlying5 (by kernel_rfl) (by kernel_rfl) g4 hw4
  injection hc4 with hc4
  subst hc4
  exact ⟨⟨n0, n1, n2, n3, bs⟩, _, rfl, ⟨hr, hcap, hbl, hb⟩, wf_i64 hw0⟩
end
end Go.Proofs.Ytahafepgmkiabaa
