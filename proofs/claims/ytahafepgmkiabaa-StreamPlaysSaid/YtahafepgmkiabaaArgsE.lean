/- What comes in, read as the walks want it: scripts of calls. -/
import Derived.Test.YtahafepgmkiabaaArgsD
import Derived.Test.YtahafepgmkiabaaV7
import Derived.SizedLaws
set_option linter.unusedVariables false
set_option linter.unusedSimpArgs false
set_option linter.ambiguousOpen false
namespace Go.Proofs.Ytahafepgmkiabaa
open Go Go.ChangeShapes Go.WideShapes Go.ChangeAt Go.RowKit Go.Proofs.Ytahafepgmkiabaa.Sep

section
variable {H : Type} {enc : TypeId × Value → H} {P : Program} {W : World} {base : Nat} {spare : Nat → Bool} {held : Bool}
theorem cells4 {c : List Value} (h : c.length = 4) : ∃ a b d e, c = [a, b, d, e] := by
  match c, h with
  | [a, b, d, e], _ => exact ⟨a, b, d, e, rfl⟩
theorem weights_all : ∀ {e : TypeId} {ds : List (DataW H)} {d : DataW H}, d ∈ ds → ∀ n ∈ d.weights P e, n ∈ DataW.weightsAll P e ds
  | e, d0 :: ds, d, h, n, hn => by
    simp only [DataW.weightsAll, List.mem_append]
    rcases List.mem_cons.1 h with rfl | h
    · exact .inl hn
    · exact .inr (weights_all h n hn)
/-- The elements of a slice weigh no more than may be. -/
theorem weights_elem {t e : TypeId} {ds rest : List (DataW H)} (hu : P.underlying t = some (.slice e)) (hw : ∀ n ∈ (DataW.slice ds rest).weights P t, n ≤ reachBytes) {d : DataW H} (hd : d ∈ ds) : ∀ n ∈ d.weights P e, n ≤ reachBytes := fun n hn => by
  refine hw n ?_
  simp only [DataW.weights, hu]
  exact List.mem_cons_of_mem _ (List.mem_append.2 (.inl (weights_all hd n hn)))
theorem weights_len {t e : TypeId} {ds rest : List (DataW H)} (hu : P.underlying t = some (.slice e)) (hw : ∀ n ∈ (DataW.slice ds rest).weights P t, n ≤ reachBytes) {B : Nat} (hB : P.bytesOf e = B) : ds.length * B ≤ reachBytes := by
  have := hw ((ds.length + rest.length) * P.bytesOf e) (by simp only [DataW.weights, hu]; exact List.mem_cons_self)
  rw [hB, Nat.add_mul] at this
  omega
end
section
variable {H : Type} {enc : TypeId × Value → H} {W : World} {base : Nat} {spare : Nat → Bool} {held : Bool}
/-- A call of a script that came in. -/
theorem in_op {fuel : Nat} {c : List Value} {d : DataW H} {ps : List MemPlace} (h : DataW.trod enc Try.prog W base spare held fuel 102 c = some (d, ps)) (hw : ∀ n ∈ d.weights Try.prog 102, n ≤ reachBytes) :
    ∃ o : OpV, c = o.cells ∧ OpV.In W [] o := by
  obtain ⟨xs, n, hf, hx, hlen, hxl, hall⟩ := DataW.trod_struct Try.underlying102 h
  have h4 : c.length = 4 := by rw [hlen]; kernel_rfl
  obtain ⟨c0, c1, c2, c3, rfl⟩ := cells4 h4
  have e3 : Try.prog.cellsOf 3 = 1 := by kernel_rfl
  have e35 : Try.prog.cellsOf 35 = 1 := by kernel_rfl
  have hxs : xs.length = 4 := hxl
  have g0 : DataW.trod enc Try.prog W base spare held n 3 (([c0, c1, c2, c3].drop 0).take (Try.prog.cellsOf 3)) = xs[0]? := hall 0 _ rfl
  have g1 : DataW.trod enc Try.prog W base spare held n 3 (([c0, c1, c2, c3].drop 1).take (Try.prog.cellsOf 3)) = xs[1]? := hall 1 _ rfl
  have g2 : DataW.trod enc Try.prog W base spare held n 3 (([c0, c1, c2, c3].drop 2).take (Try.prog.cellsOf 3)) = xs[2]? := hall 2 _ rfl
  have g3 : DataW.trod enc Try.prog W base spare held n 35 (([c0, c1, c2, c3].drop 3).take (Try.prog.cellsOf 35)) = xs[3]? := hall 3 _ rfl
  simp only [e3, e35, List.drop_zero, List.drop_succ_cons, List.take_succ_cons, List.take_zero] at g0 g1 g2 g3
  rw [List.getElem?_eq_getElem (by omega)] at g0 g1 g2 g3
  obtain ⟨n0, hc0, _, hw0⟩ := DataW.trod_int Try.underlying3 g0
  obtain ⟨n1, hc1, _, hw1⟩ := DataW.trod_int Try.underlying3 g1
  obtain ⟨n2, hc2, _, hw2⟩ := DataW.trod_int Try.underlying3 g2
  injection hc0 with hc0
  injection hc1 with hc1
  injection hc2 with hc2
  subst hc0 hc1 hc2
  have hd : d = .agg (xs.map (·.1)) := (Prod.mk.inj hx).1
  have hw4 : ∀ n ∈ (xs[3]'(by omega)).1.weights Try.prog 35, n ≤ reachBytes := by
    refine weights_at (P := Try.prog) (ts := [3, 3, 3, 35]) (ds := xs.map (·.1)) (j := 3) rfl (by rw [List.getElem?_map, List.getElem?_eq_getElem (by omega)]; rfl) (fun n hn => hw n ?_)
    rw [hd]
    simp only [DataW.weights, Try.underlying102]
    exact hn
  obtain ⟨v, bs, hc4, hr, hcap, hbl, hb⟩ := in_bytes2 Try.underlying35 Try.underlying5 (by kernel_rfl) (by kernel_rfl) g3 hw4
  injection hc4 with hc4
  subst hc4
  exact ⟨⟨n0, n1, n2, bs, _⟩, rfl, ⟨hr, hcap, hbl, hb⟩, wf_i64 hw0, wf_i64 hw1, wf_i64 hw2⟩
/-- A script that came in. -/
theorem in_ops {a : Option Addr} {len cap : Nat} {d : DataW H} {ps : List MemPlace} (h : DataW.Trod enc Try.prog W base spare held 97 (.slice a len cap) d ps) (hw : ∀ n ∈ d.weights Try.prog 97, n ≤ reachBytes) :
    ∃ ops : List OpV, ops.length = len ∧ Rd W [] (.slice a len cap) 4 len (ops.flatMap OpV.cells) ∧ (∀ o ∈ ops, OpV.In W [] o) ∧ len ≤ 140737488351232 := by
  obtain ⟨fuel, hf⟩ := h
  obtain ⟨css, ds, rest, n, h1, h2, h3, h4, h5, h6⟩ := in_elems Try.underlying97 (by kernel_rfl : Try.prog.cellsOf 102 = 4) (by decide) hf
  rcases Nat.eq_zero_or_pos len with h0 | hp
  · subst h0
    have : css = [] := List.eq_nil_of_length_eq_zero h1
    subst this
    exact ⟨[], rfl, h5, by simp, by simp⟩
  · have h3' : d = .slice ds rest := by rcases h3 with h3 | h3; omega; exact h3
    rw [h3'] at hw
    have hlen := weights_len Try.underlying97 hw (B := 48) (by kernel_rfl)
    have key : ∀ (css : List (List Value)) (ds' : List (DataW H)), css.length = ds'.length → (∀ d ∈ ds', d ∈ ds) → (∀ (i : Nat) (c : List Value) (d : DataW H), css[i]? = some c → ds'[i]? = some d → ∃ ps, DataW.trod enc Try.prog W base spare held n 102 c = some (d, ps)) →
        ∃ ops : List OpV, ops.length = css.length ∧ css.flatten = ops.flatMap OpV.cells ∧ ∀ o ∈ ops, OpV.In W [] o := by
      intro css
      induction css with
      | nil => intro ds' _ _ _; exact ⟨[], rfl, rfl, by simp⟩
      | cons c css ih =>
        intro ds' hl hm hall
        cases ds' with
        | nil => simp at hl
        | cons d0 ds' =>
          obtain ⟨ps, hp⟩ := hall 0 c d0 rfl rfl
          obtain ⟨o, ho, hi⟩ := in_op hp (weights_elem Try.underlying97 hw (hm d0 List.mem_cons_self))
          obtain ⟨ops, g1, g2, g3⟩ := ih ds' (by simpa using hl) (fun d hd => hm d (List.mem_cons_of_mem _ hd)) (fun i c' d' hc' hd' => hall (i + 1) c' d' hc' hd')
          exact ⟨o :: ops, by simp [g1], by rw [List.flatten_cons, List.flatMap_cons, ho, g2], fun o' ho' => by
            rcases List.mem_cons.1 ho' with rfl | ho'
            · exact hi
            · exact g3 o' ho'⟩
    obtain ⟨ops, g1, g2, g3⟩ := key css ds (by omega) (fun _ h => h) h6
    rw [g2] at h5
    have hr : reachBytes = 140737488351232 := rfl
    exact ⟨ops, by omega, h5, g3, by omega⟩
end
end Go.Proofs.Ytahafepgmkiabaa
