/- What comes in, read as the walks want it. -/
import Derived.Test.YtahafepgmkiabaaSepG
import Derived.ProofKit
import Derived.OpenShut
import Derived.ChangeOld
import Derived.SizedLaws
import Derived.ChangeSlices
set_option linter.unusedVariables false
set_option linter.unusedSimpArgs false
set_option linter.ambiguousOpen false
namespace Go.Proofs.Ytahafepgmkiabaa
open Go Go.ChangeShapes Go.WideShapes Go.ChangeAt Go.RowKit Go.Proofs.Ytahafepgmkiabaa.Sep

theorem add_at {x : Addr} {W : World} {v : Value} {i : Nat} (h : W.cell? (x.add i) = some v) : x.add i = ⟨x.block, x.off + i, none⟩ ∧ x.block < W.heap.size := by
  obtain ⟨b, o, sp⟩ := x
  have hs : ((⟨b, o, sp⟩ : Addr).add i).spot = none := World.cell?_spot h
  have hb := World.block_lt_of_cell? W _ h
  unfold Addr.add at hs hb ⊢
  split
  · rename_i h0
    rw [if_pos h0] at hs hb
    simp only at hs hb
    subst hs
    subst h0
    exact ⟨rfl, hb⟩
  · rename_i h0
    rw [if_neg h0] at hb
    exact ⟨rfl, hb⟩

/-- A slice of whole numbers that came in. -/
theorem in_ints {H : Type} {enc : TypeId × Value → H} {P : Program} {W : World} {base : Nat} {spare : Nat → Bool} {held : Bool} {t e : TypeId} {k : IntKind} {a : Option Addr} {len cap : Nat} {d : DataW H} {ps : List MemPlace}
    (hu : P.underlying t = some (.slice e)) (he : P.underlying e = some (.int k)) (hc : P.cellsOf e = 1) (h : DataW.Trod enc P W base spare held t (.slice a len cap) d ps) :
    ∃ xs : List Int, xs.length = len ∧ Rd W [] (.slice a len cap) 1 len (xs.map (Value.int k)) ∧ (∀ n ∈ xs, (Lit.int k n).wf = true) ∧ ∃ zs rest, d = .slice zs rest ∧ zs.length = len ∨ len = 0 := by
  obtain ⟨fuel, hf⟩ := h
  rcases open_ints hu he hc hf with ⟨hcs, _⟩ | ⟨x, l, c, zs, hcs, _, hl, hm, hz, hx, hcell, hwz⟩
  · simp [Value.cells] at hcs
    obtain ⟨rfl, rfl, rfl⟩ := hcs
    exact ⟨[], rfl, Rd.nil _ _ _, by simp, [], [], .inr rfl⟩
  · simp [Value.cells] at hcs
    obtain ⟨rfl, rfl, rfl⟩ := hcs
    have hlz : len ≤ zs.length := by rw [hz]; split <;> omega
    obtain ⟨hd, _⟩ := Prod.mk.inj hx
    refine ⟨zs.take len, by simp; omega, ⟨by simp; omega, x.block, x.off, _, cap, rfl, fun hp => ?_, ?_⟩, fun n hn => hwz n (List.mem_of_mem_take hn), _, _, .inl ⟨hd, by simp [lits]; omega⟩⟩
    · have h0 := add_at (hcell 0 (by omega))
      have : x.add 0 = x := by simp [Addr.add]
      rw [this] at h0
      rw [h0.1, Nat.add_zero]
    · rcases Nat.eq_zero_or_pos len with h0 | hp
      · subst h0
        exact fun w _ j u hu => by simp at hu
      · refine HoldsN.old (add_at (hcell 0 (by omega))).2 fun j u hu => ?_
        have hj : j < ((zs.take len).map (Value.int k)).length := (List.getElem?_eq_some_iff.1 hu).1
        have hj' : j < zs.length := by simp at hj; omega
        have hcj := hcell j hj'
        rw [(add_at hcj).1] at hcj
        rw [hcj]
        rw [List.getElem?_map, List.getElem?_take, if_pos (by simp at hj; omega), List.getElem?_eq_getElem hj'] at hu
        rw [List.getD_eq_getElem?_getD, List.getElem?_eq_getElem hj']
        simpa using hu
theorem wf_i64 {n : Int} (h : (Lit.int .i64 n).wf = true) : -9223372036854775808 ≤ n ∧ n ≤ 9223372036854775807 := by
  simpa [Lit.wf, IntKind.min, IntKind.max, IntKind.signed, IntKind.bits] using h
theorem wf_u8 {n : Int} (h : (Lit.int .u8 n).wf = true) : 0 ≤ n ∧ n ≤ 255 := by
  simpa [Lit.wf, IntKind.min, IntKind.max, IntKind.signed, IntKind.bits] using h
theorem wf_u32 {n : Int} (h : (Lit.int .u32 n).wf = true) : 0 ≤ n ∧ n ≤ 4294967295 := by
  simpa [Lit.wf, IntKind.min, IntKind.max, IntKind.signed, IntKind.bits] using h
/-- No slice takes more than its weight allows. -/
theorem in_sized {H : Type} {enc : TypeId × Value → H} {P : Program} {W : World} {base : Nat} {spare : Nat → Bool} {held : Bool} {t e : TypeId} {k : IntKind} {a : Option Addr} {len cap : Nat} {d : DataW H} {ps : List MemPlace} {ts : List TypeId} {ds : List (DataW H)} {j : Nat}
    (hsz : (DataW.weightsEach P ts ds).all (· ≤ reachBytes) = true) (ht : ts[j]? = some t) (hd : ds[j]? = some d) (hu : P.underlying t = some (.slice e)) (he : P.underlying e = some (.int k)) (hc : P.cellsOf e = 1) {B : Nat} (hB : P.bytesOf e = B)
    (h : DataW.Trod enc P W base spare held t (.slice a len cap) d ps) : len * B ≤ 140737488351232 := by
  obtain ⟨xs, h1, _, _, zs, rest, h2 | h2⟩ := in_ints hu he hc h
  · obtain ⟨rfl, h2⟩ := h2
    have z := sized_slice hsz ht hd hu
    rw [hB] at z
    exact Nat.le_trans (Nat.mul_le_mul_right _ (by omega)) z
  · subst h2; simp
end Go.Proofs.Ytahafepgmkiabaa
