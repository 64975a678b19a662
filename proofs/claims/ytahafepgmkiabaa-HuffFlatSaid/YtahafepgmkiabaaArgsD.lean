/- What comes in, read as the walks want it: bytes within their weight. -/
import Derived.Test.YtahafepgmkiabaaArgsB
import Derived.Test.YtahafepgmkiabaaSepK
import Derived.SizedLaws
set_option linter.unusedVariables false
set_option linter.unusedSimpArgs false
set_option linter.ambiguousOpen false
namespace Go.Proofs.Ytahafepgmkiabaa
open Go Go.ChangeShapes Go.WideShapes Go.ChangeAt Go.RowKit Go.Proofs.Ytahafepgmkiabaa.Sep

section
variable {H : Type} {enc : TypeId × Value → H} {P : Program} {W : World} {base : Nat} {spare : Nat → Bool} {held : Bool}
/-- Bytes that came in: how long they are, and that the slice has room for them. -/
theorem in_bytes2 {t e : TypeId} {fuel : Nat} {c : List Value} {d : DataW H} {ps : List MemPlace} (hu : P.underlying t = some (.slice e)) (he : P.underlying e = some (.int .u8)) (hce : P.cellsOf e = 1) (hB : P.bytesOf e = 1) (h : DataW.trod enc P W base spare held fuel t c = some (d, ps)) (hw : ∀ n ∈ d.weights P t, n ≤ reachBytes) :
    ∃ (v : Value) (bs : List Nat), c = [v] ∧ Rd W [] v 1 bs.length (bytes bs) ∧ Cap v ∧ bs.length ≤ 140737488351232 ∧ ∀ b ∈ bs, b < 256 := by
  obtain ⟨v, bs, hc, hr, hb, _⟩ := in_bytes hu he hce h
  refine ⟨v, bs, hc, hr, ?_, ?_, hb⟩
  · rcases open_ints hu he hce h with ⟨hcs, hx⟩ | ⟨x, l, cp, zs, hcs, _, hl, hm, hz, hx, hcell, hwz⟩
    · rw [hc] at hcs
      injection hcs with hcs
      subst hcs
      exact Cap.nil
    · rw [hc] at hcs
      injection hcs with hcs
      subst hcs
      exact ⟨_, _, _, rfl, hl⟩
  · rcases open_ints hu he hce h with ⟨hcs, hx⟩ | ⟨x, l, cp, zs, hcs, _, hl, hm, hz, hx, hcell, hwz⟩
    · rw [hc] at hcs
      injection hcs with hcs
      subst hcs
      obtain ⟨_, _, _, _, _, hv, _, _⟩ := hr
      injection hv with _ h2 _
      omega
    · rw [hc] at hcs
      injection hcs with hcs
      subst hcs
      obtain ⟨_, _, _, _, _, hv, _, _⟩ := hr
      injection hv with _ h2 _
      have hd : d = .slice (lits .u8 (zs.take l)) (lits .u8 (zs.drop l)) := (Prod.mk.inj hx).1
      have := hw (((lits .u8 (zs.take l) : List (DataW H)).length + (lits .u8 (zs.drop l) : List (DataW H)).length) * P.bytesOf e) (by rw [hd]; simp [DataW.weights, hu])
      rw [hB] at this
      simp only [lits, List.length_map, List.length_take, List.length_drop] at this
      have h3 : reachBytes = 140737488351232 := rfl
      have hlz : l ≤ zs.length := by rw [hz]; split <;> omega
      omega
theorem in_cap {t e : TypeId} {a : Option Addr} {len cap : Nat} {d : DataW H} {ps : List MemPlace} (hu : P.underlying t = some (.slice e)) (h : DataW.Trod enc P W base spare held t (.slice a len cap) d ps) : Cap (.slice a len cap) := by
  obtain ⟨fuel, hf⟩ := h
  rcases DataW.trod_slice hu hf with ⟨hcs, _⟩ | ⟨x0, l, c, elems, rest, n, _, hcs, _, _, hl, _⟩
  · have hcs : [Value.slice a len cap] = [.slice none 0 0] := hcs
    injection hcs with hcs
    rw [hcs]; exact Cap.nil
  · have hcs : [Value.slice a len cap] = [.slice (some x0) l c] := hcs
    injection hcs with hcs
    rw [hcs]; exact ⟨_, _, _, rfl, hl⟩
theorem weights_at : ∀ {ts : List TypeId} {ds : List (DataW H)} {j : Nat} {t : TypeId} {d : DataW H}, ts[j]? = some t → ds[j]? = some d → (∀ n ∈ DataW.weightsEach P ts ds, n ≤ reachBytes) → ∀ n ∈ d.weights P t, n ≤ reachBytes := fun ht hd h n hn => h n (DataW.weights_mem_each ht hd n hn)
end
end Go.Proofs.Ytahafepgmkiabaa
