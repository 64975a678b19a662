/- What comes in, read as the walks want it: lists of truth values. -/
import Derived.Test.YtahafepgmkiabaaArgsD
import Derived.SizedLaws
set_option linter.unusedVariables false
set_option linter.unusedSimpArgs false
set_option linter.ambiguousOpen false
namespace Go.Proofs.Ytahafepgmkiabaa
open Go Go.ChangeShapes Go.WideShapes Go.ChangeAt Go.RowKit Go.Proofs.Ytahafepgmkiabaa.Sep

section
variable {H : Type} {enc : TypeId × Value → H} {P : Program} {W : World} {base : Nat} {spare : Nat → Bool} {held : Bool}
/-- Truth values that came in. -/
theorem in_bools {t e : TypeId} {a : Option Addr} {len cap : Nat} {d : DataW H} {ps : List MemPlace} (hu : P.underlying t = some (.slice e)) (he : P.underlying e = some .bool) (hc : P.cellsOf e = 1) (hB : P.bytesOf e = 1) (h : DataW.Trod enc P W base spare held t (.slice a len cap) d ps) (hw : ∀ n ∈ d.weights P t, n ≤ reachBytes) :
    ∃ bs : List Bool, bs.length = len ∧ Rd W [] (.slice a len cap) 1 len (bs.map Value.bool) ∧ len ≤ 140737488351232 := by
  obtain ⟨fuel, hf⟩ := h
  obtain ⟨css, ds, rest, n, h1, h2, h3, h4, h5, h6⟩ := in_elems hu hc (by decide) hf
  rcases Nat.eq_zero_or_pos len with h0 | hp
  · subst h0
    have : css = [] := List.eq_nil_of_length_eq_zero h1
    subst this
    exact ⟨[], rfl, h5, by simp⟩
  · have h3' : d = .slice ds rest := by rcases h3 with h3 | h3; omega; exact h3
    rw [h3'] at hw
    have hlen : ds.length ≤ reachBytes := by
      have := hw ((ds.length + rest.length) * P.bytesOf e) (by simp only [DataW.weights, hu]; exact List.mem_cons_self)
      rw [hB] at this
      omega
    have key : ∀ (css : List (List Value)) (ds' : List (DataW H)), css.length = ds'.length → (∀ (i : Nat) (c : List Value) (d : DataW H), css[i]? = some c → ds'[i]? = some d → ∃ ps, DataW.trod enc P W base spare held n e c = some (d, ps)) →
        ∃ bs : List Bool, bs.length = css.length ∧ css.flatten = bs.map Value.bool := by
      intro css
      induction css with
      | nil => intro ds' _ _; exact ⟨[], rfl, rfl⟩
      | cons c css ih =>
        intro ds' hl hall
        cases ds' with
        | nil => simp at hl
        | cons d0 ds' =>
          obtain ⟨ps, hp⟩ := hall 0 c d0 rfl rfl
          obtain ⟨b, hb, _⟩ := DataW.trod_bool he hp
          obtain ⟨bs, g1, g2⟩ := ih ds' (by simpa using hl) (fun i c' d' hc' hd' => hall (i + 1) c' d' hc' hd')
          exact ⟨b :: bs, by simp [g1], by rw [List.flatten_cons, List.map_cons, hb, g2]; rfl⟩
    obtain ⟨bs, g1, g2⟩ := key css ds (by omega) h6
    rw [g2] at h5
    have hr : reachBytes = 140737488351232 := rfl
    exact ⟨bs, by omega, h5, by omega⟩
end
end Go.Proofs.Ytahafepgmkiabaa
