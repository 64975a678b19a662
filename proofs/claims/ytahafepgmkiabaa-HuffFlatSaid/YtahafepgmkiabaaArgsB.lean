/- What comes in, read as the walks want it: slices of anything, texts, pieces of bytes, and their bulk. -/
import Derived.Test.YtahafepgmkiabaaArgs
import Derived.Test.YtahafepgmkiabaaNum
import Derived.Test.YtahafepgmkiabaaRows
import Derived.ChangeArms
set_option linter.unusedVariables false
set_option linter.unusedSimpArgs false
set_option linter.ambiguousOpen false
namespace Go.Proofs.Ytahafepgmkiabaa
open Go Go.ChangeShapes Go.WideShapes Go.ChangeAt Go.RowKit Go.Proofs.Ytahafepgmkiabaa.Sep

section
variable {H : Type} {enc : TypeId × Value → H} {P : Program} {W : World} {base : Nat} {spare : Nat → Bool} {held : Bool}
/-- The elements of a slice that came in: each one's cells, and what it reads as. -/
theorem in_elems {t q : TypeId} {sz fuel : Nat} {a : Option Addr} {len cap : Nat} {x : DataW H × List MemPlace} (hu : P.underlying t = some (.slice q)) (hc : P.cellsOf q = sz) (h0 : 0 < sz)
    (h : DataW.trod enc P W base spare held fuel t [.slice a len cap] = some x) :
    ∃ (css : List (List Value)) (ds rest : List (DataW H)) (n : Nat), css.length = len ∧ ds.length = len ∧ (len = 0 ∨ x.1 = .slice ds rest) ∧ (∀ c ∈ css, c.length = sz) ∧
      Rd W [] (.slice a len cap) sz len css.flatten ∧ ∀ (i : Nat) (c : List Value) (d : DataW H), css[i]? = some c → ds[i]? = some d → ∃ ps, DataW.trod enc P W base spare held n q c = some (d, ps) := by
  rcases DataW.trod_slice hu h with ⟨hcs, _⟩ | ⟨x0, l, c, elems, rest, n, hf, hcs, hx, hb, hl, hm, hlen, hel, _, _⟩
  · simp only [List.cons.injEq, Value.slice.injEq, and_true] at hcs
    obtain ⟨rfl, rfl, rfl⟩ := hcs
    exact ⟨[], [], [], 0, rfl, rfl, .inl rfl, by simp, Rd.nil _ _ _, by simp⟩
  · simp only [List.cons.injEq, Value.slice.injEq, and_true] at hcs
    obtain ⟨rfl, rfl, rfl⟩ := hcs
    rw [hc] at hel
    have each : ∀ i, i < len → ∃ c, W.cells? base (x0.add (i * sz)) sz = some c ∧ ∃ y, elems[i]? = some y ∧ DataW.trod enc P W base spare held n q c = some y := by
      intro i hi
      have h1 := hel i hi
      rw [List.getElem?_eq_getElem (by omega)] at h1
      obtain ⟨c, hc1, hc2⟩ := Option.bind_eq_some_iff.1 h1
      exact ⟨c, hc1, _, List.getElem?_eq_getElem (by omega), hc2⟩
    let css : List (List Value) := (List.range len).map fun i => (W.cells? base (x0.add (i * sz)) sz).getD []
    have hcl : css.length = len := by simp [css]
    have hget : ∀ i, i < len → ∃ c, css[i]? = some c ∧ W.cells? base (x0.add (i * sz)) sz = some c := by
      intro i hi
      obtain ⟨c, h1, _⟩ := each i hi
      exact ⟨c, by simp [css, hi, h1], h1⟩
    have hsz : ∀ c ∈ css, c.length = sz := by
      intro c hcm
      obtain ⟨i, hi⟩ := List.getElem?_of_mem hcm
      have hil : i < len := by have := (List.getElem?_eq_some_iff.1 hi).1; omega
      obtain ⟨c', h1, h2⟩ := hget i hil
      rw [hi] at h1
      injection h1 with h1
      subst h1
      exact (World.cells?_some h2).2.1
    have hflat : css.flatten.length = len * sz := by
      rw [List.length_flatten]
      have : css.map List.length = List.replicate len sz := by
        apply List.ext_getElem?
        intro i
        rw [List.getElem?_map]
        by_cases hi : i < len
        · obtain ⟨c, h1, h2⟩ := hget i hi
          rw [h1, List.getElem?_replicate, if_pos hi]
          simp [hsz c (List.mem_of_getElem? h1)]
        · rw [List.getElem?_eq_none (by omega), List.getElem?_eq_none (by simp; omega)]; rfl
      rw [this]
      simp
    have hflatget : ∀ (l : List (List Value)), (∀ c ∈ l, c.length = sz) → ∀ i j, j < sz → l.flatten[i * sz + j]? = (l[i]?).bind (·[j]?) := by
      intro l
      induction l with
      | nil => intro _ i j _; simp
      | cons c l ih =>
        intro hl i j hj
        have hc0 := hl c List.mem_cons_self
        cases i with
        | zero =>
          simp only [List.flatten_cons, Nat.zero_mul, Nat.zero_add, List.getElem?_cons_zero, Option.bind_some]
          rw [List.getElem?_append_left (by omega)]
        | succ i =>
          simp only [List.flatten_cons, List.getElem?_cons_succ]
          rw [List.getElem?_append_right (by rw [Nat.succ_mul]; omega), hc0, show (i + 1) * sz + j - sz = i * sz + j by rw [Nat.succ_mul]; omega]
          exact ih (fun c' h' => hl c' (List.mem_cons_of_mem _ h')) i j hj
    refine ⟨css, elems.map (·.1), rest.map (·.1), n, hcl, by simp [hlen], .inr (by rw [hx]), hsz, ⟨hflat, x0.block, x0.off, _, cap, rfl, fun hp => ?_, ?_⟩, ?_⟩
    · obtain ⟨c, h1, h2⟩ := hget 0 hp
      have h3 := (World.cells?_some h2).2.2 0 h0
      have hl0 := (World.cells?_some h2).2.1
      rw [List.getElem?_eq_getElem (by omega)] at h3
      have h4 := add_at (i := 0) (x := x0.add (0 * sz)) h3
      have e0 : x0.add (0 * sz) = x0 := by simp [Addr.add]
      rw [e0] at h4
      have e1 : x0.add 0 = x0 := by simp [Addr.add]
      rw [e1] at h4
      rw [h4.1, Nat.add_zero]
    · rcases Nat.eq_zero_or_pos len with hz | hp
      · intro w hw j u hu
        have : css.flatten = [] := List.eq_nil_of_length_eq_zero (by rw [hflat, hz]; omega)
        rw [this] at hu; simp at hu
      · have key : ∀ i j, i < len → j < sz → ∃ u, css.flatten[i * sz + j]? = some u ∧ W.cell? ⟨x0.block, x0.off + (i * sz + j), none⟩ = some u ∧ x0.block < W.heap.size := by
          intro i j hi hj
          obtain ⟨c, h1, h2⟩ := hget i hi
          have h3 := (World.cells?_some h2).2.2 j hj
          have hl0 := (World.cells?_some h2).2.1
          rw [List.getElem?_eq_getElem (by omega)] at h3
          refine ⟨c[j]'(by omega), ?_, ?_, ?_⟩
          · rw [hflatget css hsz i j hj, h1, Option.bind_some, List.getElem?_eq_getElem (by omega)]
          · have h4 := add_at h3
            have hbk : (x0.add (i * sz)).block = x0.block := block_add _ _
            have hoff : (x0.add (i * sz)).off + j = x0.off + (i * sz + j) := by
              have : (x0.add (i * sz)).off = x0.off + i * sz := by
                unfold Addr.add
                split
                · rename_i hh; rw [hh]; omega
                · rfl
              rw [this]; omega
            rw [h4.1, hbk, hoff] at h3
            exact h3
          · have h4 := (add_at h3).2
            rwa [block_add] at h4
        have hblk : x0.block < W.heap.size := by obtain ⟨_, _, _, h⟩ := key 0 0 hp h0; exact h
        refine HoldsN.old hblk fun j u hu => ?_
        have hj : j < len * sz := by have := (List.getElem?_eq_some_iff.1 hu).1; omega
        have hdm : j = j / sz * sz + j % sz := by rw [Nat.mul_comm]; exact (Nat.div_add_mod j sz).symm
        obtain ⟨u', h1, h2, _⟩ := key (j / sz) (j % sz) (by rw [Nat.div_lt_iff_lt_mul h0]; exact hj) (Nat.mod_lt _ h0)
        rw [← hdm] at h1 h2
        rw [hu] at h1
        injection h1 with h1
        rw [h1]; exact h2
    · intro i c d hic hid
      have hil : i < len := by have := (List.getElem?_eq_some_iff.1 hic).1; omega
      obtain ⟨c', h1, y, h2, h3⟩ := each i hil
      obtain ⟨c2, g1, g2⟩ := hget i hil
      rw [hic] at g1
      injection g1 with g1
      subst g1
      rw [g2] at h1
      injection h1 with h1
      subst h1
      rw [List.getElem?_map, h2] at hid
      simp only [Option.map_some, Option.some.injEq] at hid
      exact ⟨y.2, by rw [h3, ← hid]⟩
/-- Bytes that came in, out of a reading of one cell. -/
theorem in_bytes {t e : TypeId} {fuel : Nat} {c : List Value} {d : DataW H} {ps : List MemPlace} (hu : P.underlying t = some (.slice e)) (he : P.underlying e = some (.int .u8)) (hce : P.cellsOf e = 1) (h : DataW.trod enc P W base spare held fuel t c = some (d, ps)) :
    ∃ (v : Value) (bs : List Nat), c = [v] ∧ Rd W [] v 1 bs.length (bytes bs) ∧ (∀ b ∈ bs, b < 256) ∧ bs.length ≤ Rows.uptoBulk d := by
  rcases open_ints hu he hce h with ⟨hcs, hx⟩ | ⟨x, l, cp, zs, hcs, _, hl, hm, hz, hx, hcell, hwz⟩
  · subst hcs
    exact ⟨_, [], rfl, Rd.nil _ _ _, by simp, Nat.zero_le _⟩
  · subst hcs
    have hlz : l ≤ zs.length := by rw [hz]; split <;> omega
    have hwt : ∀ n ∈ zs.take l, 0 ≤ n ∧ n ≤ 255 := fun n hn => wf_u8 (hwz n (List.mem_of_mem_take hn))
    obtain ⟨bs, h1, h2, h3⟩ := nats_of hwt
    have hbl : bs.length = l := by rw [h1, List.length_take]; omega
    refine ⟨_, bs, rfl, ?_, h3, ?_⟩
    · subst hbl
      refine ⟨by simp [bytes], x.block, x.off, _, cp, rfl, fun hp => ?_, ?_⟩
      · have h0 := add_at (hcell 0 (by omega))
        have : x.add 0 = x := by simp [Addr.add]
        rw [this] at h0
        rw [h0.1, Nat.add_zero]
      · rcases Nat.eq_zero_or_pos bs.length with h0 | hp
        · have : bs = [] := List.eq_nil_of_length_eq_zero h0
          subst this
          exact fun w _ j u hu => by simp [bytes] at hu
        · refine HoldsN.old (add_at (hcell 0 (by omega))).2 fun j u hu => ?_
          have hj : j < bs.length := by have := (List.getElem?_eq_some_iff.1 hu).1; simpa [bytes] using this
          have hj' : j < zs.length := by omega
          have hcj := hcell j hj'
          rw [(add_at hcj).1] at hcj
          rw [hcj]
          rw [← h2, List.getElem?_map, List.getElem?_take, if_pos hj, List.getElem?_eq_getElem hj'] at hu
          rw [List.getD_eq_getElem?_getD, List.getElem?_eq_getElem hj']
          simpa using hu
    · have hd : d = .slice (lits .u8 (zs.take l)) (lits .u8 (zs.drop l)) := (Prod.mk.inj hx).1
      rw [hd]
      have key : ∀ zs : List Int, zs.length ≤ Rows.uptoBulkAll (lits .u8 zs : List (DataW H)) := by
        intro zs
        induction zs with
        | nil => exact Nat.zero_le _
        | cons z zs ih =>
          have e : (lits .u8 (z :: zs) : List (DataW H)) = .lit (.int .u8 z) :: lits .u8 zs := rfl
          rw [e]
          simp only [Rows.uptoBulkAll, Rows.uptoBulk, List.length_cons]
          omega
      have := key (zs.take l)
      simp only [Rows.uptoBulk]
      rw [List.length_take] at this
      omega
/-- Pieces of bytes that came in. -/
theorem in_parts {t q e : TypeId} {a : Option Addr} {len cap : Nat} {d : DataW H} {ps : List MemPlace} (hu : P.underlying t = some (.slice q)) (hq : P.underlying q = some (.slice e)) (he : P.underlying e = some (.int .u8)) (hcq : P.cellsOf q = 1) (hce : P.cellsOf e = 1)
    (h : DataW.Trod enc P W base spare held t (.slice a len cap) d ps) :
    ∃ (vs : List Value) (bss : List (List Nat)), vs.length = len ∧ bss.length = len ∧ Rd W [] (.slice a len cap) 1 len vs ∧ (bss.map List.length).sum ≤ Rows.uptoBulk d ∧
      ∀ (i : Nat) (v : Value) (bs : List Nat), vs[i]? = some v → bss[i]? = some bs → Rd W [] v 1 bs.length (bytes bs) ∧ ∀ b ∈ bs, b < 256 := by
  obtain ⟨fuel, hf⟩ := h
  obtain ⟨css, ds, rest, n, h1, h2, h3, h4, h5, h6⟩ := in_elems hu hcq (by decide) hf
  have each : ∀ (css : List (List Value)) (ds : List (DataW H)), css.length = ds.length → (∀ (i : Nat) (c : List Value) (d : DataW H), css[i]? = some c → ds[i]? = some d → ∃ ps, DataW.trod enc P W base spare held n q c = some (d, ps)) →
      ∃ (vs : List Value) (bss : List (List Nat)), vs.length = css.length ∧ bss.length = css.length ∧ css.flatten = vs ∧ (bss.map List.length).sum ≤ Rows.uptoBulkAll ds ∧ ∀ (i : Nat) (v : Value) (bs : List Nat), vs[i]? = some v → bss[i]? = some bs → Rd W [] v 1 bs.length (bytes bs) ∧ ∀ b ∈ bs, b < 256 := by
    intro css
    induction css with
    | nil => intro ds _ _; exact ⟨[], [], rfl, rfl, rfl, Nat.zero_le _, by simp⟩
    | cons c css ih =>
      intro ds hl hall
      cases ds with
      | nil => simp at hl
      | cons d ds =>
        obtain ⟨ps, hp⟩ := hall 0 c d rfl rfl
        obtain ⟨v, bs, rfl, hr, hb, hbulk⟩ := in_bytes hq he hce hp
        obtain ⟨vs, bss, g1, g2, g3, g4, g5⟩ := ih ds (by simpa using hl) (fun i c' d' hc' hd' => hall (i + 1) c' d' hc' hd')
        refine ⟨v :: vs, bs :: bss, by simp [g1], by simp [g2], by simp [g3], ?_, ?_⟩
        · simp only [List.map_cons, List.sum_cons, Rows.uptoBulkAll]; omega
        · intro i v' bs' hv hb'
          cases i with
          | zero =>
            simp only [List.getElem?_cons_zero, Option.some.injEq] at hv hb'
            subst hv hb'
            exact ⟨hr, hb⟩
          | succ i => exact g5 i v' bs' hv hb'
  obtain ⟨vs, bss, g1, g2, g3, g4, g5⟩ := each css ds (by omega) h6
  rw [g3] at h5
  refine ⟨vs, bss, by omega, by omega, h5, ?_, g5⟩
  rcases h3 with h0 | h3
  · have : bss = [] := List.eq_nil_of_length_eq_zero (by omega)
    subst this
    exact Nat.zero_le _
  · have h3' : d = .slice ds rest := h3
    rw [h3']
    simp only [Rows.uptoBulk]
    omega
/-- The bulk of one of the arguments. -/
theorem bulk_mem : ∀ {ds : List (DataW H)} {j : Nat} {d : DataW H}, ds[j]? = some d → Rows.uptoBulk d ≤ Rows.uptoBulkAll ds
  | d0 :: ds, 0, d, h => by
    simp only [List.getElem?_cons_zero, Option.some.injEq] at h
    subst h
    simp only [Rows.uptoBulkAll]; omega
  | d0 :: ds, j + 1, d, h => by
    have := bulk_mem (ds := ds) (j := j) (d := d) h
    simp only [Rows.uptoBulkAll]; omega
  | [], j, d, h => by simp at h
end
end Go.Proofs.Ytahafepgmkiabaa
