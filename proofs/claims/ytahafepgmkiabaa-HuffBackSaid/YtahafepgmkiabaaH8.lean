/- Walks: a symbol read by a code, the program's way and the document's. -/
import Derived.Test.YtahafepgmkiabaaH7
set_option linter.unusedVariables false
set_option linter.unusedSimpArgs false
set_option linter.ambiguousOpen false
namespace Go.Proofs.Ytahafepgmkiabaa
open Go Go.Proofs.Ytahafepgmkiabaa.Sep

def sy (xs : List Int) (l : Nat) : List Int := if l = 0 then [] else symsOf xs l xs.length
def firstOf (xs : List Int) (l : Nat) : Nat := if sy xs l = [] then 0 else start xs l
theorem sy_len (xs : List Int) (l : Nat) : (sy xs l).length ≤ xs.length := by
  unfold sy
  split
  · simp
  · rw [syms_len]; exact cnt_le _ _ _
theorem fold_none {xs : List Int} (h : codesE xs = 0) : ∀ i, i ≤ xs.length → ∀ l, l < 16 → (l = 0 ∨ symsOf xs l i = []) → (newFold (codesOf xs) xs i).1.getD l 0 = 0
  | 0, _, l, h16, _ => by
    simp only [newFold, List.getD_eq_getElem?_getD, List.getElem?_replicate]
    split <;> rfl
  | i + 1, hi, l, h16, hne => by
    have ho := (codesE_ok h).1
    have ih := fold_none h i (by omega) l h16
    have hb := lens_at ho i
    have hne' : l = 0 ∨ (symsOf xs l i = [] ∧ xs.getD i 0 ≠ (l : Int)) := by
      rcases hne with h0 | hne
      · exact .inl h0
      · simp only [symsOf] at hne
        by_cases he : xs.getD i 0 = (l : Int)
        · rw [if_pos he] at hne; simp at hne
        · rw [if_neg he, List.append_nil] at hne; exact .inr ⟨hne, he⟩
    have ih := ih (hne'.imp id (fun x => x.1))
    by_cases hz : xs.getD i 0 = 0
    · rw [new_skip hz]; exact ih
    · rw [new_step hz]
      simp only
      have hl : ¬ (xs.getD i 0).toNat = l := by
        rcases hne' with h0 | ⟨_, h0⟩ <;> omega
      split
      · simp only [List.getD_eq_getElem?_getD (l := List.set _ _ _), List.getElem?_set]
        rw [if_neg hl, ← List.getD_eq_getElem?_getD]; exact ih
      · exact ih
theorem first_eq {xs : List Int} (h : codesE xs = 0) (l : Nat) (h16 : l < 16) : (newFold (codesOf xs) xs xs.length).1.getD l 0 = (firstOf xs l : Int) := by
  unfold firstOf sy
  by_cases h0 : l = 0
  · rw [if_pos h0, if_pos rfl]
    exact fold_none h _ (Nat.le_refl _) l h16 (.inl h0)
  · rw [if_neg h0]
    by_cases hs : symsOf xs l xs.length = []
    · rw [if_pos hs]; exact fold_none h _ (Nat.le_refl _) l h16 (.inr hs)
    · rw [if_neg hs]; exact fold_first h _ (Nat.le_refl _) l (by omega) h16 hs
theorem sy_eq {xs : List Int} (h : codesE xs = 0) (l : Nat) (h16 : l < 16) : (newFold (codesOf xs) xs xs.length).2.1.getD l [] = sy xs l := by
  unfold sy
  by_cases h0 : l = 0
  · subst h0; rw [if_pos rfl]; exact fold_zero (codesE_ok h).1 _ (Nat.le_refl _)
  · rw [if_neg h0]; exact fold_syms (codesE_ok h).1 _ (Nat.le_refl _) l (by omega) h16
theorem first_lt {xs : List Int} (h : codesE xs = 0) (l : Nat) (h16 : l < 16) : firstOf xs l + (sy xs l).length ≤ 32768 := by
  unfold firstOf
  by_cases hs : sy xs l = []
  · rw [if_pos hs, hs]; simp
  · rw [if_neg hs]
    have h0 : l ≠ 0 := fun e => hs (by unfold sy; rw [if_pos e])
    unfold sy
    rw [if_neg h0, syms_len]
    exact Nat.le_trans (start_cnt h l (by omega) (by omega)) (pow15 (by omega))
theorem hit_yes {xs : List Int} {n v : Nat} (hn : 1 ≤ n) (h1 : firstOf xs n ≤ v) (h2 : v - firstOf xs n < (sy xs n).length) : hitAt xs n v = some ((sy xs n).getD (v - firstOf xs n) 0) := by
  have hne : sy xs n ≠ [] := fun e => by rw [e] at h2; simp at h2
  have hf : firstOf xs n = start xs n := if_neg hne
  have hs : sy xs n = symsOf xs n xs.length := if_neg (by omega)
  unfold hitAt
  rw [hf] at h1 h2 ⊢
  rw [if_pos ⟨hn, h1⟩, ← hs, List.getD_eq_getElem?_getD, List.getElem?_eq_getElem h2]; rfl
theorem hit_no {xs : List Int} {n v : Nat} (h : ¬ (1 ≤ n ∧ firstOf xs n ≤ v ∧ v - firstOf xs n < (sy xs n).length)) : hitAt xs n v = none := by
  unfold hitAt
  by_cases hc : 1 ≤ n ∧ start xs n ≤ v
  · rw [if_pos hc]
    have hs : sy xs n = symsOf xs n xs.length := if_neg (by omega)
    by_cases hne : sy xs n = []
    · rw [← hs, hne]; rfl
    · have hf : firstOf xs n = start xs n := if_neg hne
      rw [hf] at h
      rw [← hs, List.getElem?_eq_none (by omega)]
  · rw [if_neg hc]
/-- A code for reading, as it can be read. -/
def CodeRd (w0 : World) (L : List Chunk) (p : Nat) (xs : List Int) : Prop :=
  ∃ (vs : List Value) (d : Nat), d ≤ 15 ∧ (∀ j, j < xs.length → xs.getD j 0 ≤ (d : Int)) ∧ Holds w0 L ⟨p, 0 + 32, none⟩ (.int .i64 ((d : Nat) : Int)) ∧
    ∀ l : Nat, l < 16 → Holds w0 L ⟨p, 0 + 16 + (l : Int).toNat * 1, none⟩ (vs.getD l undef) ∧ Rd w0 L (vs.getD l undef) 1 (sy xs l).length (ints (sy xs l)) ∧
      Holds w0 L ⟨p, 0 + 0 + (l : Int).toNat * 1, none⟩ (.int .u32 ((firstOf xs l : Nat) : Int))
theorem CodeRd.mono {w0 : World} {L L' : List Chunk} {p : Nat} {xs : List Int} (h : CodeRd w0 L p xs) (hs : ∀ w, Own w0 L' w → Own w0 L w) : CodeRd w0 L' p xs := by
  obtain ⟨vs, d, h1, h2, h3, h4⟩ := h
  exact ⟨vs, d, h1, h2, fun w hw => h3 w (hs w hw), fun l hl => ⟨fun w hw => (h4 l hl).1 w (hs w hw), (h4 l hl).2.1.mono hs, fun w hw => (h4 l hl).2.2 w (hs w hw)⟩⟩
theorem CodeRd.cons {w0 : World} {L : List Chunk} {c : Chunk} {p : Nat} {xs : List Int} (h : CodeRd w0 L p xs) : CodeRd w0 (c :: L) p xs := h.mono fun w hw => hw.drop
theorem CodeAt.rd {w0 : World} {L : List Chunk} {p : Nat} {xs : List Int} {E : List Chunk} (h : CodeAt p xs E) (he : codesE xs = 0) : CodeRd w0 (E ++ L) p xs := by
  obtain ⟨vs, Es, hs, rfl⟩ := h
  obtain ⟨h1, h2, h3⟩ := hs
  have hf := (newFold_len (codesOf xs) xs xs.length).1
  have hd := fold_deep (codes := codesOf xs) (codesE_ok he).1 xs.length (Nat.le_refl _)
  have hrow : HoldsN w0 ([⟨p, crow (newFold (codesOf xs) xs xs.length).1 vs (newFold (codesOf xs) xs xs.length).2.2, 154⟩] :: (Es ++ L)) p 0 (crow (newFold (codesOf xs) xs xs.length).1 vs (newFold (codesOf xs) xs xs.length).2.2) := HoldsN.of_row mem0
  obtain ⟨d, hde⟩ : ∃ d : Nat, (newFold (codesOf xs) xs xs.length).2.2 = (d : Int) := ⟨_, (Int.toNat_of_nonneg hd.1).symm⟩
  rw [hde] at hd hrow ⊢
  refine ⟨vs, d, by omega, hd.2.2, hrow.one (0 + 32) (crow_deep hf h1), fun l hl => ⟨?_, ?_, ?_⟩⟩
  · have := hrow.one (0 + 16 + l) (crow_val hf h1 l hl)
    rw [Nat.zero_add] at this
    rw [Int.toNat_natCast, Nat.mul_one]; exact this
  · have := h3 l hl
    rw [sy_eq he l hl] at this
    exact this.rd (E := Es.getD l []) (by
      rw [List.getD_eq_getElem?_getD, List.getElem?_eq_getElem (by omega)]
      simp [List.mem_append])
  · have := hrow.one l (crow_first hf h1 l hl)
    rw [first_eq he l hl] at this
    rw [Int.toNat_natCast, Nat.mul_one]; exact this
theorem read_step {xs : List Int} {bs : List Nat} {n v p k : Nat} : readFrom xs bs n v p (k + 1) = (match hitAt xs n v with
    | some s => (s, 0, p)
    | none => if anyTo xs n v xs.length = false then (0, 3, p) else if p = 8 * bs.length then (0, 4, p) else readFrom xs bs (n + 1) (2 * v + bitAt bs p) (p + 1) k) := rfl
theorem none_longer {xs : List Int} (ho : lensOk xs = true) (n v : Nat) (hn : 15 ≤ n) : anyTo xs n v xs.length = false := by
  by_cases h : anyTo xs n v xs.length = true
  · rw [any_iff] at h
    obtain ⟨i, _, h2, _⟩ := h
    have := lens_at ho i
    omega
  · simpa using h
theorem shift_lt {v n l : Nat} (hv : v < 2 ^ n) (hnl : n ≤ l) (hl : l ≤ 15) : (v + 1) * 2 ^ (l - n) ≤ 32768 := by
  have h1 : (v + 1) * 2 ^ (l - n) ≤ 2 ^ n * 2 ^ (l - n) := Nat.mul_le_mul_right _ hv
  rw [← Nat.pow_add, show n + (l - n) = l by omega] at h1
  have := pow15 hl
  omega

theorem more_spec (w0 : World) (L : List Chunk) (xs : List Int) (p v n : Nat) (he : codesE xs = 0) (hC : CodeRd w0 L p xs) (hv : v < 2 ^ n) (hn : n ≤ 15) :
    Meets Try.prog 105 #[.pointer (some ⟨p, 0, none⟩), .int .u32 ((v : Nat) : Int), .int .i64 ((n : Nat) : Int)] w0 L (fun r L' => L = L' ∧ r = .bool (anyTo xs n v xs.length)) := by
  obtain ⟨vs, d, hd, hdx, hdeep, hrow⟩ := hC
  have har := any_reach xs n v (codesE_ok he).1 d hdx
  have hlen := (codesE_ok he).2.1
  have hv15 := Nat.lt_of_lt_of_le hv (pow15 hn)
  refine Meets.of_body [.pointer (some ⟨p, 0, none⟩), .int .u32 ((v : Nat) : Int), .int .i64 ((n : Nat) : Int)] Try.func105 rfl Try.ntmps105 rfl ?_
  refine SC.seq ?_
  refine SC.plain ?_
  refine St.assign rfl rfl ?_
  refine St.done ?_
  refine SX.seq ?_
  refine SC.seq ?_
  refine SC.seq ?_
  refine SC.plain ?_
  refine St.move rfl rfl ?_
  refine St.addI rfl rfl rfl (by omega) ?_
  refine St.assign rfl rfl ?_
  refine St.done ?_
  refine SX.seq ?_
  refine SC.block ?_
  refine SC.loop (α := Nat) (fun l => n < l ∧ l ≤ 16 ∧ ∀ k, n < k → k < l → ¬ reach xs n v k) (fun l => [(0, .pointer (some ⟨p, 0, none⟩)), (1, .int .u32 ((v : Nat) : Int)), (2, .int .i64 ((n : Nat) : Int)), (7, .int .i64 ((l : Nat) : Int))]) (fun _ => L) (fun l => 16 - l) (n + 1) ⟨by omega, by omega, fun l h1 h2 => by omega⟩ ⟨rfl, rfl, rfl, rfl, trivial⟩ (List.Perm.refl _) ?_
  rintro l ⟨hl1, hl2, hl3⟩
  refine SC.seq ?_
  refine SC.seq ?_
  refine SC.plain ?_
  refine St.move rfl rfl ?_
  refine St.move rfl rfl ?_
  refine St.nilCheck rfl rfl ?_
  refine St.fieldAddr (off := 32) rfl rfl (by kernel_rfl) ?_
  refine St.load rfl rfl (by kernel_rfl) hdeep ?_
  refine St.leq rfl rfl rfl ?_
  refine St.done ?_
  refine SX.seq ?_
  refine SC.condp rfl (fun c18 => ?_) (fun c18 => ?_)
  · obtain ⟨hval, hrd, hfst⟩ := hrow l (by omega)
    obtain ⟨_, b, o, A, c, hvl, hA, hr⟩ := hrd
    rw [hvl] at hval
    have hsl := sy_len xs l
    have hf32 := first_lt he l (by omega)
    have hsh := shift_lt hv (show n ≤ l by omega) (show l ≤ 15 by omega)
    have hpw : 0 < 2 ^ (l - n) := Nat.pow_pos (by omega)
    have hsy : sy xs l = symsOf xs l xs.length := if_neg (by omega)
    have hsyl : (sy xs l).length = cnt xs l xs.length := by rw [hsy, syms_len]
    have hmm : (v + 1) * 2 ^ (l - n) = v * 2 ^ (l - n) + 2 ^ (l - n) := by rw [Nat.add_mul, Nat.one_mul]
    refine SC.skip ?_
    refine SX.seq ?_
    refine SC.seq ?_
    refine SC.block ?_
    refine SC.seq ?_
    refine SC.plain ?_
    refine St.move rfl rfl ?_
    refine St.move rfl rfl ?_
    refine St.nilCheck rfl rfl ?_
    refine St.fieldAddr (off := 16) rfl rfl (by kernel_rfl) ?_
    refine St.indexArr (n := 16) (sz := 1) rfl rfl rfl (by kernel_rfl) (by omega) ?_
    refine St.load rfl rfl (by kernel_rfl) hval ?_
    refine St.lenSl rfl rfl (by kernel_rfl) ?_
    refine St.convI (k := .u32) rfl rfl (by kernel_rfl) (by kernel_rfl) ?_
    rw [wrap_u32_lt _ (by omega)]
    refine St.assign rfl rfl ?_
    refine St.done ?_
    refine SX.seq ?_
    refine SC.seq ?_
    refine SC.drawn [(0, true), (1, true), (2, true), (3, true), (4, true), (5, true), (6, true), (7, true), (8, true), (9, true), (10, true), (11, true), (12, true)] [] (_) (by kernel_rfl) (by kernel_rfl) (fun _ h => h) ?_
    refine St.move rfl rfl ?_
    refine St.move rfl rfl ?_
    refine St.move rfl rfl ?_
    refine St.subI rfl rfl rfl (by omega) ?_
    rw [show ((l : Nat) : Int) - ((n : Nat) : Int) = ((l - n : Nat) : Int) by omega]
    refine St.shl rfl rfl rfl (by omega) ?_
    rw [shl_u32 _ _ (by omega), Nat.mod_eq_of_lt (by omega)]
    refine St.move rfl rfl ?_
    refine St.add rfl rfl rfl ?_
    rw [show IntKind.u32.wrap (((v : Nat) : Int) + 1) = ((v + 1 : Nat) : Int) from add_u32 v 1 (by omega)]
    refine St.move rfl rfl ?_
    refine St.move rfl rfl ?_
    refine St.subI rfl rfl rfl (by omega) ?_
    rw [show ((l : Nat) : Int) - ((n : Nat) : Int) = ((l - n : Nat) : Int) by omega]
    refine St.shl rfl rfl rfl (by omega) ?_
    rw [shl_u32 _ _ (by omega), Nat.mod_eq_of_lt (by omega)]
    refine St.assign rfl rfl ?_
    refine St.assign rfl rfl ?_
    refine St.done ?_
    refine SX.tail ?_
    refine St.done ?_
    refine SX.seq ?_
    refine SC.seq ?_
    refine SC.plain ?_
    refine St.move rfl rfl ?_
    refine St.gtr rfl rfl rfl ?_
    refine St.move rfl rfl ?_
    refine St.split 42 rfl (fun g42 => ?_) (fun g42 => ?_)
    · have hfe : firstOf xs l = start xs l := if_neg (fun e => by rw [e] at g42; simp at g42)
      refine St.guard_yes rfl rfl ?_
      refine St.move rfl rfl ?_
      refine St.guard_yes rfl rfl ?_
      refine St.move rfl rfl ?_
      refine St.guard_yes rfl rfl ?_
      refine St.nilCheck rfl rfl ?_
      refine St.guard_yes rfl rfl ?_
      refine St.fieldAddr (off := 0) rfl rfl (by kernel_rfl) ?_
      refine St.guard_yes rfl rfl ?_
      refine St.indexArr (n := 16) (sz := 1) rfl rfl rfl (by kernel_rfl) (by omega) ?_
      refine St.guard_yes rfl rfl ?_
      refine St.load rfl rfl (by kernel_rfl) hfst ?_
      refine St.guard_yes rfl rfl ?_
      refine St.move rfl rfl ?_
      refine St.guard_yes rfl rfl ?_
      refine St.lss rfl rfl rfl ?_
      refine St.pick_true rfl rfl rfl ?_
      refine St.move rfl rfl ?_
      refine St.split 52 rfl (fun g52 => ?_) (fun g52 => ?_)
      · refine St.guard_yes rfl rfl ?_
        refine St.move rfl rfl ?_
        refine St.guard_yes rfl rfl ?_
        refine St.move rfl rfl ?_
        refine St.guard_yes rfl rfl ?_
        refine St.nilCheck rfl rfl ?_
        refine St.guard_yes rfl rfl ?_
        refine St.fieldAddr (off := 0) rfl rfl (by kernel_rfl) ?_
        refine St.guard_yes rfl rfl ?_
        refine St.indexArr (n := 16) (sz := 1) rfl rfl rfl (by kernel_rfl) (by omega) ?_
        refine St.guard_yes rfl rfl ?_
        refine St.load rfl rfl (by kernel_rfl) hfst ?_
        refine St.guard_yes rfl rfl ?_
        refine St.move rfl rfl ?_
        refine St.guard_yes rfl rfl ?_
        refine St.add rfl rfl rfl ?_
        rw [add_u32 _ _ (by omega)]
        refine St.guard_yes rfl rfl ?_
        refine St.move rfl rfl ?_
        refine St.guard_yes rfl rfl ?_
        refine St.gtr rfl rfl rfl ?_
        refine St.pick_true rfl rfl rfl ?_
        refine St.done ?_
        refine SX.seq ?_
        refine SC.condp rfl (fun c63 => ?_) (fun c63 => ?_)
        · have hyes : anyTo xs n v xs.length = true := har.mpr ⟨l, by omega, by omega, by omega, by omega, by omega⟩
          rw [hyes]
          refine SC.seq ?_
          refine SC.plain ?_
          refine St.assign rfl rfl ?_
          refine St.done ?_
          refine SX.seq ?_
          refine SC.ret ?_
          refine SX.blk_ret ?_
          refine SX.seq_ret ?_
          refine SX.seq_ret ?_
          refine SX.blk_ret ?_
          refine SX.seq_ret ?_
          exact SX.ret1 rfl rfl ⟨rfl, rfl⟩
        · have hno : ¬ reach xs n v l := fun ⟨_, _, h1⟩ => by omega
          refine SC.skip ?_
          refine SX.blk ?_
          refine SX.seq ?_
          refine SC.plain ?_
          refine St.move rfl rfl ?_
          refine St.addI rfl rfl rfl (by omega) ?_
          refine St.assign rfl rfl ?_
          refine St.done ?_
          exact SX.again (l + 1) ⟨by omega, by omega, fun k h1 h2 => if hk : k = l then hk ▸ hno else hl3 k h1 (by omega)⟩ (by show 16 - (l + 1) < 16 - l; omega) ⟨rfl, rfl, rfl, rfl, trivial⟩ (List.Perm.refl _)
      · have hno : ¬ reach xs n v l := fun ⟨_, h1, _⟩ => by omega
        refine St.guard_no rfl rfl rfl ?_
        refine St.guard_no rfl rfl rfl ?_
        refine St.guard_no rfl rfl rfl ?_
        refine St.guard_no rfl rfl rfl ?_
        refine St.guard_no rfl rfl rfl ?_
        refine St.guard_no rfl rfl rfl ?_
        refine St.guard_no rfl rfl rfl ?_
        refine St.guard_no rfl rfl rfl ?_
        refine St.guard_no rfl rfl rfl ?_
        refine St.guard_no rfl rfl rfl ?_
        refine St.pick_false rfl rfl rfl ?_
        refine St.done ?_
        refine SX.seq ?_
        refine SC.cond_false rfl ?_
        refine SC.skip ?_
        refine SX.blk ?_
        refine SX.seq ?_
        refine SC.plain ?_
        refine St.move rfl rfl ?_
        refine St.addI rfl rfl rfl (by omega) ?_
        refine St.assign rfl rfl ?_
        refine St.done ?_
        exact SX.again (l + 1) ⟨by omega, by omega, fun k h1 h2 => if hk : k = l then hk ▸ hno else hl3 k h1 (by omega)⟩ (by show 16 - (l + 1) < 16 - l; omega) ⟨rfl, rfl, rfl, rfl, trivial⟩ (List.Perm.refl _)
    · have hno : ¬ reach xs n v l := fun ⟨h1, _, _⟩ => by omega
      refine St.guard_no rfl rfl rfl ?_
      refine St.guard_no rfl rfl rfl ?_
      refine St.guard_no rfl rfl rfl ?_
      refine St.guard_no rfl rfl rfl ?_
      refine St.guard_no rfl rfl rfl ?_
      refine St.guard_no rfl rfl rfl ?_
      refine St.guard_no rfl rfl rfl ?_
      refine St.guard_no rfl rfl rfl ?_
      refine St.pick_false rfl rfl rfl ?_
      refine St.move rfl rfl ?_
      refine St.guard_no rfl rfl rfl ?_
      refine St.guard_no rfl rfl rfl ?_
      refine St.guard_no rfl rfl rfl ?_
      refine St.guard_no rfl rfl rfl ?_
      refine St.guard_no rfl rfl rfl ?_
      refine St.guard_no rfl rfl rfl ?_
      refine St.guard_no rfl rfl rfl ?_
      refine St.guard_no rfl rfl rfl ?_
      refine St.guard_no rfl rfl rfl ?_
      refine St.guard_no rfl rfl rfl ?_
      refine St.pick_false rfl rfl rfl ?_
      refine St.done ?_
      refine SX.seq ?_
      refine SC.cond_false rfl ?_
      refine SC.skip ?_
      refine SX.blk ?_
      refine SX.seq ?_
      refine SC.plain ?_
      refine St.move rfl rfl ?_
      refine St.addI rfl rfl rfl (by omega) ?_
      refine St.assign rfl rfl ?_
      refine St.done ?_
      exact SX.again (l + 1) ⟨by omega, by omega, fun k h1 h2 => if hk : k = l then hk ▸ hno else hl3 k h1 (by omega)⟩ (by show 16 - (l + 1) < 16 - l; omega) ⟨rfl, rfl, rfl, rfl, trivial⟩ (List.Perm.refl _)
  · have hfin : anyTo xs n v xs.length = false := by
      by_cases hy : anyTo xs n v xs.length = true
      · obtain ⟨k, k1, k2, k3⟩ := har.mp hy; exact absurd k3 (hl3 k k1 (by omega))
      · simpa using hy
    rw [hfin]
    refine SC.exit ?_
    refine SX.seq_exit ?_
    refine SX.seq_exit ?_
    refine SX.hit ?_
    refine SX.seq ?_
    refine SC.seq ?_
    refine SC.plain ?_
    refine St.assign rfl rfl ?_
    refine St.done ?_
    refine SX.seq ?_
    refine SC.ret ?_
    exact SX.ret1 rfl rfl ⟨rfl, rfl⟩
/-- What reading a symbol answers. -/
def SymR (p : Nat) (ty : TypeId) (k : IntKind) (v : Value) (xs : List Int) (bs : List Nat) (at_ : Nat) (L : List Chunk) (r : Value) (L' : List Chunk) : Prop :=
  r = .tuple #[.int .i64 (readSym xs bs at_).1, .int k (readSym xs bs at_).2.1] ∧ [⟨p, [v, .int .i64 ((readSym xs bs at_).2.2 : Nat)], ty⟩] :: L = L'
theorem cread_spec (w0 : World) (L : List Chunk) (v : Value) (xs : List Int) (bs : List Nat) (p q at_ : Nat) (he : codesE xs = 0) (hC : CodeRd w0 L p xs) (hx : Rd w0 L v 1 bs.length (bytes bs)) (hl : bs.length ≤ 150000000000000) (hb : ∀ b ∈ bs, b < 256) (hat : at_ ≤ 8 * bs.length) :
    Meets Try.prog 37 #[.pointer (some ⟨p, 0, none⟩), .pointer (some ⟨q, 0, none⟩)] w0 ([⟨q, [v, .int .i64 ((at_ : Nat) : Int)], 156⟩] :: L) (SymR q 156 .i64 v xs bs at_ L) := by
  have hC' := hC
  obtain ⟨vs, d, hd, hdx, hdeep, hrow⟩ := hC'
  have hlen := (codesE_ok he).2.1
  refine Meets.of_body [.pointer (some ⟨p, 0, none⟩), .pointer (some ⟨q, 0, none⟩)] Try.func37 rfl Try.ntmps37 rfl ?_
  refine SC.seq ?_
  refine SC.plain ?_
  refine St.assign rfl rfl ?_
  refine St.assign rfl rfl ?_
  refine St.done ?_
  refine SX.seq ?_
  refine SC.seq ?_
  refine SC.plain ?_
  refine St.assign rfl rfl ?_
  refine St.done ?_
  refine SX.seq ?_
  refine SC.seq ?_
  refine SC.plain ?_
  refine St.assign rfl rfl ?_
  refine St.done ?_
  refine SX.seq ?_
  refine SC.block ?_
  refine SC.loop (α := Nat × Nat × Nat) (fun s => s.1 ≤ 15 ∧ s.2.1 < 2 ^ s.1 ∧ s.2.2 ≤ 8 * bs.length ∧ readFrom xs bs s.1 s.2.1 s.2.2 (16 - s.1) = readSym xs bs at_) (fun s => [(0, .pointer (some ⟨p, 0, none⟩)), (1, .pointer (some ⟨q, 0, none⟩)), (6, .int .u32 ((s.2.1 : Nat) : Int)), (7, .int .i64 ((s.1 : Nat) : Int))]) (fun s => [⟨q, [v, .int .i64 ((s.2.2 : Nat) : Int)], 156⟩] :: L) (fun s => 16 - s.1) (0, 0, at_) ⟨Nat.zero_le _, Nat.one_pos, hat, rfl⟩ ⟨rfl, rfl, rfl, rfl, trivial⟩ (List.Perm.refl _) ?_
  rintro ⟨n, u, t⟩ ⟨hn, hu, ht, hrd⟩
  simp only at hn hu ht hrd
  show SC _ _ _ [(0, .pointer (some ⟨p, 0, none⟩)), (1, .pointer (some ⟨q, 0, none⟩)), (6, .int .u32 ((u : Nat) : Int)), (7, .int .i64 ((n : Nat) : Int))] ([⟨q, [v, .int .i64 ((t : Nat) : Int)], 156⟩] :: L)
  rw [show 16 - n = (15 - n) + 1 by omega, read_step] at hrd
  obtain ⟨hval, hrdn, hfst⟩ := hrow n (by omega)
  obtain ⟨_, b, o, A, c, hvl, hA, hr⟩ := hrdn
  rw [hvl] at hval
  have hsl := sy_len xs n
  have hf32 := first_lt he n (by omega)
  have hu15 := Nat.lt_of_lt_of_le hu (pow15 hn)
  refine SC.seq ?_
  refine SC.block ?_
  refine SC.seq ?_
  refine SC.seq ?_
  refine SC.plain ?_
  refine St.move rfl rfl ?_
  refine St.move rfl rfl ?_
  refine St.nilCheck rfl rfl ?_
  refine St.fieldAddr (off := 16) rfl rfl (by kernel_rfl) ?_
  refine St.indexArr (n := 16) (sz := 1) rfl rfl rfl (by kernel_rfl) (by omega) ?_
  refine St.load rfl rfl (by kernel_rfl) (fun w hw => hval w hw.drop) ?_
  refine St.lenSl rfl rfl (by kernel_rfl) ?_
  refine St.convI (k := .u32) rfl rfl (by kernel_rfl) (by kernel_rfl) ?_
  rw [wrap_u32_lt _ (by omega)]
  refine St.assign rfl rfl ?_
  refine St.done ?_
  refine SX.seq ?_
  refine SC.seq ?_
  refine SC.plain ?_
  refine St.move rfl rfl ?_
  refine St.gtr rfl rfl rfl ?_
  refine St.move rfl rfl ?_
  refine St.split 23 rfl (fun g23 => ?_) (fun g23 => ?_)
  · refine St.guard_yes rfl rfl ?_
    refine St.move rfl rfl ?_
    refine St.guard_yes rfl rfl ?_
    refine St.move rfl rfl ?_
    refine St.guard_yes rfl rfl ?_
    refine St.move rfl rfl ?_
    refine St.guard_yes rfl rfl ?_
    refine St.nilCheck rfl rfl ?_
    refine St.guard_yes rfl rfl ?_
    refine St.fieldAddr (off := 0) rfl rfl (by kernel_rfl) ?_
    refine St.guard_yes rfl rfl ?_
    refine St.indexArr (n := 16) (sz := 1) rfl rfl rfl (by kernel_rfl) (by omega) ?_
    refine St.guard_yes rfl rfl ?_
    refine St.load rfl rfl (by kernel_rfl) (fun w hw => hfst w hw.drop) ?_
    refine St.guard_yes rfl rfl ?_
    refine St.geq rfl rfl rfl ?_
    refine St.pick_true rfl rfl rfl ?_
    refine St.move rfl rfl ?_
    refine St.split 33 rfl (fun g33 => ?_) (fun g33 => ?_)
    · refine St.guard_yes rfl rfl ?_
      refine St.move rfl rfl ?_
      refine St.guard_yes rfl rfl ?_
      refine St.move rfl rfl ?_
      refine St.guard_yes rfl rfl ?_
      refine St.move rfl rfl ?_
      refine St.guard_yes rfl rfl ?_
      refine St.nilCheck rfl rfl ?_
      refine St.guard_yes rfl rfl ?_
      refine St.fieldAddr (off := 0) rfl rfl (by kernel_rfl) ?_
      refine St.guard_yes rfl rfl ?_
      refine St.indexArr (n := 16) (sz := 1) rfl rfl rfl (by kernel_rfl) (by omega) ?_
      refine St.guard_yes rfl rfl ?_
      refine St.load rfl rfl (by kernel_rfl) (fun w hw => hfst w hw.drop) ?_
      refine St.guard_yes rfl rfl ?_
      refine St.sub rfl rfl rfl ?_
      rw [sub_u32 _ _ (by omega) (by omega)]
      refine St.guard_yes rfl rfl ?_
      refine St.move rfl rfl ?_
      refine St.guard_yes rfl rfl ?_
      refine St.lss rfl rfl rfl ?_
      refine St.pick_true rfl rfl rfl ?_
      refine St.done ?_
      refine SX.seq ?_
      refine SC.condp rfl (fun c44 => ?_) (fun c44 => ?_)
      · have hyes := hit_yes (xs := xs) (n := n) (v := u) (by omega) (by omega) (by omega)
        rw [hyes] at hrd
        simp only at hrd
        have hAe := hA (by omega)
        subst hAe
        refine SC.seq ?_
        refine SC.drawn [(0, true), (1, true), (2, true), (3, true), (4, true), (5, true), (6, true), (7, true), (8, true), (9, true), (10, true), (11, true), (12, true), (13, true), (14, true), (15, true), (16, true), (17, true)] [] ([⟨q, [v, .int .i64 ((t : Nat) : Int)], 156⟩] :: L) (by kernel_rfl) (by kernel_rfl) (fun _ h => h) ?_
        refine St.move rfl rfl ?_
        refine St.move rfl rfl ?_
        refine St.nilCheck rfl rfl ?_
        refine St.fieldAddr (off := 16) rfl rfl (by kernel_rfl) ?_
        refine St.indexArr (n := 16) (sz := 1) rfl rfl rfl (by kernel_rfl) (by omega) ?_
        refine St.load rfl rfl (by kernel_rfl) (fun w hw => hval w hw.drop) ?_
        refine St.move rfl rfl ?_
        refine St.move rfl rfl ?_
        refine St.move rfl rfl ?_
        refine St.nilCheck rfl rfl ?_
        refine St.fieldAddr (off := 0) rfl rfl (by kernel_rfl) ?_
        refine St.indexArr (n := 16) (sz := 1) rfl rfl rfl (by kernel_rfl) (by omega) ?_
        refine St.load rfl rfl (by kernel_rfl) (fun w hw => hfst w hw.drop) ?_
        refine St.sub rfl rfl rfl ?_
        rw [sub_u32 _ _ (by omega) (by omega)]
        refine St.indexSl (e := 3) (sz := 1) rfl rfl rfl (by kernel_rfl) (by omega) ?_
        refine St.load rfl rfl (by kernel_rfl) (hr.cons.nat (u - firstOf xs n) (by omega)) ?_
        refine St.assign rfl rfl ?_
        refine St.assign rfl rfl ?_
        refine St.done ?_
        refine SX.tail ?_
        refine St.done ?_
        refine SX.seq ?_
        refine SC.ret ?_
        refine SX.seq_ret ?_
        refine SX.blk_ret ?_
        refine SX.seq_ret ?_
        refine SX.seq_ret ?_
        refine SX.blk_ret ?_
        exact SX.ret2 rfl rfl rfl ⟨by rw [← hrd], by rw [← hrd]⟩
      · have hno := hit_no (xs := xs) (n := n) (v := u) (by omega)
        rw [hno] at hrd
        simp only at hrd
        refine SC.skip ?_
        refine SX.seq ?_
        refine SC.seq ?_
        refine SC.seq ?_
        refine SC.plain ?_
        refine St.move rfl rfl ?_
        refine St.eql rfl rfl rfl ?_
        refine St.move rfl rfl ?_
        refine St.split 63 rfl (fun g63 => ?_) (fun g63 => ?_)
        · rw [if_pos (none_longer (codesE_ok he).1 n u (by omega))] at hrd
          refine St.guard_no rfl rfl rfl ?_
          refine St.guard_no rfl rfl rfl ?_
          refine St.guard_no rfl rfl rfl ?_
          refine St.guard_no rfl rfl rfl ?_
          refine St.guard_no rfl rfl rfl ?_
          refine St.pick_true rfl rfl rfl ?_
          refine St.done ?_
          refine SX.seq ?_
          refine SC.cond_true rfl ?_
          refine SC.seq ?_
          refine SC.plain ?_
          refine St.assign rfl rfl ?_
          refine St.assign rfl rfl ?_
          refine St.done ?_
          refine SX.seq ?_
          refine SC.ret ?_
          refine SX.seq_ret ?_
          refine SX.blk_ret ?_
          refine SX.seq_ret ?_
          refine SX.seq_ret ?_
          refine SX.blk_ret ?_
          exact SX.ret2 rfl rfl rfl ⟨by rw [← hrd], by rw [← hrd]⟩
        · refine St.guard_yes rfl rfl ?_
          refine St.move rfl rfl ?_
          refine St.guard_yes rfl rfl ?_
          refine St.move rfl rfl ?_
          refine St.guard_yes rfl rfl ?_
          refine St.move rfl rfl ?_
          refine St.guard_yes rfl rfl ?_
          refine St.call [.pointer (some ⟨p, 0, none⟩), .int .u32 ((u : Nat) : Int), .int .i64 ((n : Nat) : Int)] rfl (by kernel_rfl) rfl (more_spec w0 _ xs p u n he hC.cons hu (by omega)) (fun _ _ _ _ h => h.nil) ?_
          rintro r L1 ⟨rfl, rfl⟩
          refine St.guard_yes rfl rfl ?_
          refine St.notB rfl rfl ?_
          refine St.pick_false rfl rfl rfl ?_
          refine St.done ?_
          refine SX.seq ?_
          refine SC.cond rfl (fun hm => ?_) (fun hm => ?_)
          · have hm2 : anyTo xs n u xs.length = false := by simpa using hm
            rw [if_pos hm2] at hrd
            refine SC.seq ?_
            refine SC.plain ?_
            refine St.assign rfl rfl ?_
            refine St.assign rfl rfl ?_
            refine St.done ?_
            refine SX.seq ?_
            refine SC.ret ?_
            refine SX.seq_ret ?_
            refine SX.blk_ret ?_
            refine SX.seq_ret ?_
            refine SX.seq_ret ?_
            refine SX.blk_ret ?_
            exact SX.ret2 rfl rfl rfl ⟨by rw [← hrd], by rw [← hrd]⟩
          · have hm2 : anyTo xs n u xs.length = true := by simpa using hm
            rw [if_neg (by rw [hm2]; decide)] at hrd
            refine SC.skip ?_
            refine SX.seq ?_
            refine SC.seq ?_
            refine SC.plain ?_
            refine St.move rfl rfl ?_
            refine St.call [.pointer (some ⟨q, 0, none⟩), .int .i64 1] rfl (by kernel_rfl) rfl (take_spec w0 L v bs q t 1 hx hl hb ht (by decide)) (fun _ _ _ _ h => h.nil) ?_
            rintro r L1 (⟨h1, rfl, rfl⟩ | ⟨h1, rfl, rfl⟩)
            · rw [if_neg (by omega)] at hrd
              have hbl := bit_lt bs t
              rw [take_one]
              refine St.move rfl rfl ?_
              refine St.extract rfl rfl rfl ?_
              refine St.extract rfl rfl rfl ?_
              refine St.assign rfl rfl ?_
              refine St.assign rfl rfl ?_
              refine St.done ?_
              refine SX.seq ?_
              refine SC.seq ?_
              refine SC.seq ?_
              refine SC.plain ?_
              refine St.move rfl rfl ?_
              refine St.notB rfl rfl ?_
              refine St.done ?_
              refine SX.seq ?_
              refine SC.cond_false rfl ?_
              refine SC.skip ?_
              refine SX.seq ?_
              refine SC.plain ?_
              refine St.move rfl rfl ?_
              refine St.shl rfl rfl rfl (by omega) ?_
              rw [shl1_u32 u (by omega)]
              refine St.move rfl rfl ?_
              refine St.orI rfl rfl rfl ?_
              rw [or_u32 _ _ (by omega) (by omega), or_bit u _ hbl]
              refine St.assign rfl rfl ?_
              refine St.done ?_
              refine SX.blk ?_
              refine SX.seq ?_
              refine SC.plain ?_
              refine St.move rfl rfl ?_
              refine St.addI rfl rfl rfl (by omega) ?_
              refine St.assign rfl rfl ?_
              refine St.done ?_
              exact SX.again (n + 1, 2 * u + bitAt bs t, t + 1) ⟨by simp only; omega, by simp only; rw [Nat.pow_succ]; omega, by simp only; omega, by simp only; rw [show 16 - (n + 1) = 15 - n by omega]; exact hrd⟩ (by simp only; omega) ⟨rfl, rfl, rfl, rfl, trivial⟩ (List.Perm.refl _)
            · rw [if_pos (by omega)] at hrd
              refine St.move rfl rfl ?_
              refine St.extract rfl rfl rfl ?_
              refine St.extract rfl rfl rfl ?_
              refine St.assign rfl rfl ?_
              refine St.assign rfl rfl ?_
              refine St.done ?_
              refine SX.seq ?_
              refine SC.seq ?_
              refine SC.seq ?_
              refine SC.plain ?_
              refine St.move rfl rfl ?_
              refine St.notB rfl rfl ?_
              refine St.done ?_
              refine SX.seq ?_
              refine SC.cond_true rfl ?_
              refine SC.seq ?_
              refine SC.plain ?_
              refine St.assign rfl rfl ?_
              refine St.assign rfl rfl ?_
              refine St.done ?_
              refine SX.seq ?_
              refine SC.ret ?_
              refine SX.seq_ret ?_
              refine SX.blk_ret ?_
              refine SX.seq_ret ?_
              refine SX.seq_ret ?_
              refine SX.blk_ret ?_
              exact SX.ret2 rfl rfl rfl ⟨by rw [← hrd], by rw [← hrd]⟩
    · have hno := hit_no (xs := xs) (n := n) (v := u) (by omega)
      rw [hno] at hrd
      simp only at hrd
      refine St.guard_no rfl rfl rfl ?_
      refine St.guard_no rfl rfl rfl ?_
      refine St.guard_no rfl rfl rfl ?_
      refine St.guard_no rfl rfl rfl ?_
      refine St.guard_no rfl rfl rfl ?_
      refine St.guard_no rfl rfl rfl ?_
      refine St.guard_no rfl rfl rfl ?_
      refine St.guard_no rfl rfl rfl ?_
      refine St.guard_no rfl rfl rfl ?_
      refine St.guard_no rfl rfl rfl ?_
      refine St.pick_false rfl rfl rfl ?_
      refine St.done ?_
      refine SX.seq ?_
      refine SC.cond_false rfl ?_
      refine SC.skip ?_
      refine SX.seq ?_
      refine SC.seq ?_
      refine SC.seq ?_
      refine SC.plain ?_
      refine St.move rfl rfl ?_
      refine St.eql rfl rfl rfl ?_
      refine St.move rfl rfl ?_
      refine St.split 63 rfl (fun g63 => ?_) (fun g63 => ?_)
      · rw [if_pos (none_longer (codesE_ok he).1 n u (by omega))] at hrd
        refine St.guard_no rfl rfl rfl ?_
        refine St.guard_no rfl rfl rfl ?_
        refine St.guard_no rfl rfl rfl ?_
        refine St.guard_no rfl rfl rfl ?_
        refine St.guard_no rfl rfl rfl ?_
        refine St.pick_true rfl rfl rfl ?_
        refine St.done ?_
        refine SX.seq ?_
        refine SC.cond_true rfl ?_
        refine SC.seq ?_
        refine SC.plain ?_
        refine St.assign rfl rfl ?_
        refine St.assign rfl rfl ?_
        refine St.done ?_
        refine SX.seq ?_
        refine SC.ret ?_
        refine SX.seq_ret ?_
        refine SX.blk_ret ?_
        refine SX.seq_ret ?_
        refine SX.seq_ret ?_
        refine SX.blk_ret ?_
        exact SX.ret2 rfl rfl rfl ⟨by rw [← hrd], by rw [← hrd]⟩
      · refine St.guard_yes rfl rfl ?_
        refine St.move rfl rfl ?_
        refine St.guard_yes rfl rfl ?_
        refine St.move rfl rfl ?_
        refine St.guard_yes rfl rfl ?_
        refine St.move rfl rfl ?_
        refine St.guard_yes rfl rfl ?_
        refine St.call [.pointer (some ⟨p, 0, none⟩), .int .u32 ((u : Nat) : Int), .int .i64 ((n : Nat) : Int)] rfl (by kernel_rfl) rfl (more_spec w0 _ xs p u n he hC.cons hu (by omega)) (fun _ _ _ _ h => h.nil) ?_
        rintro r L1 ⟨rfl, rfl⟩
        refine St.guard_yes rfl rfl ?_
        refine St.notB rfl rfl ?_
        refine St.pick_false rfl rfl rfl ?_
        refine St.done ?_
        refine SX.seq ?_
        refine SC.cond rfl (fun hm => ?_) (fun hm => ?_)
        · have hm2 : anyTo xs n u xs.length = false := by simpa using hm
          rw [if_pos hm2] at hrd
          refine SC.seq ?_
          refine SC.plain ?_
          refine St.assign rfl rfl ?_
          refine St.assign rfl rfl ?_
          refine St.done ?_
          refine SX.seq ?_
          refine SC.ret ?_
          refine SX.seq_ret ?_
          refine SX.blk_ret ?_
          refine SX.seq_ret ?_
          refine SX.seq_ret ?_
          refine SX.blk_ret ?_
          exact SX.ret2 rfl rfl rfl ⟨by rw [← hrd], by rw [← hrd]⟩
        · have hm2 : anyTo xs n u xs.length = true := by simpa using hm
          rw [if_neg (by rw [hm2]; decide)] at hrd
          refine SC.skip ?_
          refine SX.seq ?_
          refine SC.seq ?_
          refine SC.plain ?_
          refine St.move rfl rfl ?_
          refine St.call [.pointer (some ⟨q, 0, none⟩), .int .i64 1] rfl (by kernel_rfl) rfl (take_spec w0 L v bs q t 1 hx hl hb ht (by decide)) (fun _ _ _ _ h => h.nil) ?_
          rintro r L1 (⟨h1, rfl, rfl⟩ | ⟨h1, rfl, rfl⟩)
          · rw [if_neg (by omega)] at hrd
            have hbl := bit_lt bs t
            rw [take_one]
            refine St.move rfl rfl ?_
            refine St.extract rfl rfl rfl ?_
            refine St.extract rfl rfl rfl ?_
            refine St.assign rfl rfl ?_
            refine St.assign rfl rfl ?_
            refine St.done ?_
            refine SX.seq ?_
            refine SC.seq ?_
            refine SC.seq ?_
            refine SC.plain ?_
            refine St.move rfl rfl ?_
            refine St.notB rfl rfl ?_
            refine St.done ?_
            refine SX.seq ?_
            refine SC.cond_false rfl ?_
            refine SC.skip ?_
            refine SX.seq ?_
            refine SC.plain ?_
            refine St.move rfl rfl ?_
            refine St.shl rfl rfl rfl (by omega) ?_
            rw [shl1_u32 u (by omega)]
            refine St.move rfl rfl ?_
            refine St.orI rfl rfl rfl ?_
            rw [or_u32 _ _ (by omega) (by omega), or_bit u _ hbl]
            refine St.assign rfl rfl ?_
            refine St.done ?_
            refine SX.blk ?_
            refine SX.seq ?_
            refine SC.plain ?_
            refine St.move rfl rfl ?_
            refine St.addI rfl rfl rfl (by omega) ?_
            refine St.assign rfl rfl ?_
            refine St.done ?_
            exact SX.again (n + 1, 2 * u + bitAt bs t, t + 1) ⟨by simp only; omega, by simp only; rw [Nat.pow_succ]; omega, by simp only; omega, by simp only; rw [show 16 - (n + 1) = 15 - n by omega]; exact hrd⟩ (by simp only; omega) ⟨rfl, rfl, rfl, rfl, trivial⟩ (List.Perm.refl _)
          · rw [if_pos (by omega)] at hrd
            refine St.move rfl rfl ?_
            refine St.extract rfl rfl rfl ?_
            refine St.extract rfl rfl rfl ?_
            refine St.assign rfl rfl ?_
            refine St.assign rfl rfl ?_
            refine St.done ?_
            refine SX.seq ?_
            refine SC.seq ?_
            refine SC.seq ?_
            refine SC.plain ?_
            refine St.move rfl rfl ?_
            refine St.notB rfl rfl ?_
            refine St.done ?_
            refine SX.seq ?_
            refine SC.cond_true rfl ?_
            refine SC.seq ?_
            refine SC.plain ?_
            refine St.assign rfl rfl ?_
            refine St.assign rfl rfl ?_
            refine St.done ?_
            refine SX.seq ?_
            refine SC.ret ?_
            refine SX.seq_ret ?_
            refine SX.blk_ret ?_
            refine SX.seq_ret ?_
            refine SX.seq_ret ?_
            refine SX.blk_ret ?_
            exact SX.ret2 rfl rfl rfl ⟨by rw [← hrd], by rw [← hrd]⟩
  · have hno := hit_no (xs := xs) (n := n) (v := u) (by omega)
    rw [hno] at hrd
    simp only at hrd
    refine St.guard_no rfl rfl rfl ?_
    refine St.guard_no rfl rfl rfl ?_
    refine St.guard_no rfl rfl rfl ?_
    refine St.guard_no rfl rfl rfl ?_
    refine St.guard_no rfl rfl rfl ?_
    refine St.guard_no rfl rfl rfl ?_
    refine St.guard_no rfl rfl rfl ?_
    refine St.guard_no rfl rfl rfl ?_
    refine St.pick_false rfl rfl rfl ?_
    refine St.move rfl rfl ?_
    refine St.guard_no rfl rfl rfl ?_
    refine St.guard_no rfl rfl rfl ?_
    refine St.guard_no rfl rfl rfl ?_
    refine St.guard_no rfl rfl rfl ?_
    refine St.guard_no rfl rfl rfl ?_
    refine St.guard_no rfl rfl rfl ?_
    refine St.guard_no rfl rfl rfl ?_
    refine St.guard_no rfl rfl rfl ?_
    refine St.guard_no rfl rfl rfl ?_
    refine St.guard_no rfl rfl rfl ?_
    refine St.pick_false rfl rfl rfl ?_
    refine St.done ?_
    refine SX.seq ?_
    refine SC.cond_false rfl ?_
    refine SC.skip ?_
    refine SX.seq ?_
    refine SC.seq ?_
    refine SC.seq ?_
    refine SC.plain ?_
    refine St.move rfl rfl ?_
    refine St.eql rfl rfl rfl ?_
    refine St.move rfl rfl ?_
    refine St.split 63 rfl (fun g63 => ?_) (fun g63 => ?_)
    · rw [if_pos (none_longer (codesE_ok he).1 n u (by omega))] at hrd
      refine St.guard_no rfl rfl rfl ?_
      refine St.guard_no rfl rfl rfl ?_
      refine St.guard_no rfl rfl rfl ?_
      refine St.guard_no rfl rfl rfl ?_
      refine St.guard_no rfl rfl rfl ?_
      refine St.pick_true rfl rfl rfl ?_
      refine St.done ?_
      refine SX.seq ?_
      refine SC.cond_true rfl ?_
      refine SC.seq ?_
      refine SC.plain ?_
      refine St.assign rfl rfl ?_
      refine St.assign rfl rfl ?_
      refine St.done ?_
      refine SX.seq ?_
      refine SC.ret ?_
      refine SX.seq_ret ?_
      refine SX.blk_ret ?_
      refine SX.seq_ret ?_
      refine SX.seq_ret ?_
      refine SX.blk_ret ?_
      exact SX.ret2 rfl rfl rfl ⟨by rw [← hrd], by rw [← hrd]⟩
    · refine St.guard_yes rfl rfl ?_
      refine St.move rfl rfl ?_
      refine St.guard_yes rfl rfl ?_
      refine St.move rfl rfl ?_
      refine St.guard_yes rfl rfl ?_
      refine St.move rfl rfl ?_
      refine St.guard_yes rfl rfl ?_
      refine St.call [.pointer (some ⟨p, 0, none⟩), .int .u32 ((u : Nat) : Int), .int .i64 ((n : Nat) : Int)] rfl (by kernel_rfl) rfl (more_spec w0 _ xs p u n he hC.cons hu (by omega)) (fun _ _ _ _ h => h.nil) ?_
      rintro r L1 ⟨rfl, rfl⟩
      refine St.guard_yes rfl rfl ?_
      refine St.notB rfl rfl ?_
      refine St.pick_false rfl rfl rfl ?_
      refine St.done ?_
      refine SX.seq ?_
      refine SC.cond rfl (fun hm => ?_) (fun hm => ?_)
      · have hm2 : anyTo xs n u xs.length = false := by simpa using hm
        rw [if_pos hm2] at hrd
        refine SC.seq ?_
        refine SC.plain ?_
        refine St.assign rfl rfl ?_
        refine St.assign rfl rfl ?_
        refine St.done ?_
        refine SX.seq ?_
        refine SC.ret ?_
        refine SX.seq_ret ?_
        refine SX.blk_ret ?_
        refine SX.seq_ret ?_
        refine SX.seq_ret ?_
        refine SX.blk_ret ?_
        exact SX.ret2 rfl rfl rfl ⟨by rw [← hrd], by rw [← hrd]⟩
      · have hm2 : anyTo xs n u xs.length = true := by simpa using hm
        rw [if_neg (by rw [hm2]; decide)] at hrd
        refine SC.skip ?_
        refine SX.seq ?_
        refine SC.seq ?_
        refine SC.plain ?_
        refine St.move rfl rfl ?_
        refine St.call [.pointer (some ⟨q, 0, none⟩), .int .i64 1] rfl (by kernel_rfl) rfl (take_spec w0 L v bs q t 1 hx hl hb ht (by decide)) (fun _ _ _ _ h => h.nil) ?_
        rintro r L1 (⟨h1, rfl, rfl⟩ | ⟨h1, rfl, rfl⟩)
        · rw [if_neg (by omega)] at hrd
          have hbl := bit_lt bs t
          rw [take_one]
          refine St.move rfl rfl ?_
          refine St.extract rfl rfl rfl ?_
          refine St.extract rfl rfl rfl ?_
          refine St.assign rfl rfl ?_
          refine St.assign rfl rfl ?_
          refine St.done ?_
          refine SX.seq ?_
          refine SC.seq ?_
          refine SC.seq ?_
          refine SC.plain ?_
          refine St.move rfl rfl ?_
          refine St.notB rfl rfl ?_
          refine St.done ?_
          refine SX.seq ?_
          refine SC.cond_false rfl ?_
          refine SC.skip ?_
          refine SX.seq ?_
          refine SC.plain ?_
          refine St.move rfl rfl ?_
          refine St.shl rfl rfl rfl (by omega) ?_
          rw [shl1_u32 u (by omega)]
          refine St.move rfl rfl ?_
          refine St.orI rfl rfl rfl ?_
          rw [or_u32 _ _ (by omega) (by omega), or_bit u _ hbl]
          refine St.assign rfl rfl ?_
          refine St.done ?_
          refine SX.blk ?_
          refine SX.seq ?_
          refine SC.plain ?_
          refine St.move rfl rfl ?_
          refine St.addI rfl rfl rfl (by omega) ?_
          refine St.assign rfl rfl ?_
          refine St.done ?_
          exact SX.again (n + 1, 2 * u + bitAt bs t, t + 1) ⟨by simp only; omega, by simp only; rw [Nat.pow_succ]; omega, by simp only; omega, by simp only; rw [show 16 - (n + 1) = 15 - n by omega]; exact hrd⟩ (by simp only; omega) ⟨rfl, rfl, rfl, rfl, trivial⟩ (List.Perm.refl _)
        · rw [if_pos (by omega)] at hrd
          refine St.move rfl rfl ?_
          refine St.extract rfl rfl rfl ?_
          refine St.extract rfl rfl rfl ?_
          refine St.assign rfl rfl ?_
          refine St.assign rfl rfl ?_
          refine St.done ?_
          refine SX.seq ?_
          refine SC.seq ?_
          refine SC.seq ?_
          refine SC.plain ?_
          refine St.move rfl rfl ?_
          refine St.notB rfl rfl ?_
          refine St.done ?_
          refine SX.seq ?_
          refine SC.cond_true rfl ?_
          refine SC.seq ?_
          refine SC.plain ?_
          refine St.assign rfl rfl ?_
          refine St.assign rfl rfl ?_
          refine St.done ?_
          refine SX.seq ?_
          refine SC.ret ?_
          refine SX.seq_ret ?_
          refine SX.blk_ret ?_
          refine SX.seq_ret ?_
          refine SX.seq_ret ?_
          refine SX.blk_ret ?_
          exact SX.ret2 rfl rfl rfl ⟨by rw [← hrd], by rw [← hrd]⟩
end Go.Proofs.Ytahafepgmkiabaa
