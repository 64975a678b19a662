/- Walks: the document's reading of a symbol, and the law HuffReads. -/
import Derived.Test.YtahafepgmkiabaaH8
import Derived.Test.YtahafepgmkiabaaH5
set_option linter.unusedVariables false
set_option linter.unusedSimpArgs false
set_option linter.ambiguousOpen false
namespace Go.Proofs.Ytahafepgmkiabaa
open Go Go.Proofs.Ytahafepgmkiabaa.Sep

theorem no_hit {xs : List Int} {n u : Nat} (h : ∀ j, j < xs.length → ¬ (xs.getD j 0 = (n : Int) ∧ 1 ≤ n ∧ codeOf xs j = u)) : hitAt xs n u = none := by
  cases hh : hitAt xs n u with
  | none => rfl
  | some s =>
    obtain ⟨i, _, h1, h2, h3, h4⟩ := of_hit hh
    exact absurd ⟨h2, h3, h4⟩ (h i h1)
theorem readFrom_le {xs : List Int} {bs : List Nat} : ∀ (k n u t : Nat), t ≤ 8 * bs.length → t ≤ (readFrom xs bs n u t k).2.2 ∧ (readFrom xs bs n u t k).2.2 ≤ 8 * bs.length
  | 0, n, u, t, h => ⟨Nat.le_refl _, h⟩
  | k + 1, n, u, t, h => by
    rw [read_step]
    split
    · exact ⟨Nat.le_refl _, h⟩
    · split
      · exact ⟨Nat.le_refl _, h⟩
      · split
        · exact ⟨Nat.le_refl _, h⟩
        · have := readFrom_le (xs := xs) (bs := bs) k (n + 1) (2 * u + bitAt bs t) (t + 1) (by omega)
          exact ⟨by omega, this.2⟩
theorem readSym_le {xs : List Int} {bs : List Nat} {t : Nat} (h : t ≤ 8 * bs.length) : t ≤ (readSym xs bs t).2.2 ∧ (readSym xs bs t).2.2 ≤ 8 * bs.length := readFrom_le 16 0 0 t h

theorem rread_spec (w0 : World) (L : List Chunk) (v v2 : Value) (xs : List Int) (bs : List Nat) (q at_ : Nat) (he : codesE xs = 0) (hx : Rd w0 L v 1 xs.length (ints xs)) (hx2 : Rd w0 L v2 1 bs.length (bytes bs)) (hl : bs.length ≤ 150000000000000) (hb : ∀ b ∈ bs, b < 256) (hat : at_ ≤ 8 * bs.length) :
    Meets Try.prog 38 #[v, .pointer (some ⟨q, 0, none⟩)] w0 ([⟨q, [v2, .int .i64 ((at_ : Nat) : Int)], 40⟩] :: L) (SymR q 40 .i64 v2 xs bs at_ L) := by
  have hx' := hx
  have hlen := (codesE_ok he).2.1
  have ho := (codesE_ok he).1
  obtain ⟨_, b0, o, A, c, rfl, hA, hr⟩ := hx'
  refine Meets.of_body [.slice A xs.length c, .pointer (some ⟨q, 0, none⟩)] Try.func38 rfl Try.ntmps38 rfl ?_
  refine SC.seq ?_
  refine SC.plain ?_
  refine St.assign rfl rfl ?_
  refine St.assign rfl rfl ?_
  refine St.done ?_
  refine SX.seq ?_
  refine SC.seq ?_
  refine SC.plain ?_
  refine St.move rfl rfl ?_
  refine St.call [.slice A xs.length c] rfl (by kernel_rfl) rfl (rcodes_spec w0 _ _ xs hx.cons (by omega)) (fun _ _ _ _ h => h.nil) ?_
  rintro r L1 (⟨hE2, _⟩ | ⟨_, b, rfl, rfl⟩)
  · exact absurd he hE2
  refine St.perm _ (perm12 _ _ _) ?_
  refine St.move rfl rfl ?_
  refine St.extract rfl rfl rfl ?_
  refine St.extract rfl rfl rfl ?_
  refine St.assign rfl rfl ?_
  refine St.assign rfl rfl ?_
  refine St.done ?_
  refine SX.seq ?_
  refine SC.seq ?_
  refine SC.plain ?_
  refine St.assign rfl rfl ?_
  refine St.done ?_
  refine SX.seq ?_
  refine SC.seq ?_
  refine SC.plain ?_
  refine St.assign rfl rfl ?_
  refine St.done ?_
  refine SX.seq ?_
  refine SC.seq ?_
  refine SC.seq ?_
  refine SC.plain ?_
  refine St.assign rfl rfl ?_
  refine St.done ?_
  refine SX.seq ?_
  refine SC.block ?_
  refine SC.loop (α := Nat × Nat × Nat) (fun s => s.1 ≤ 16 ∧ s.2.1 < 2 ^ s.1 ∧ s.2.2 ≤ 8 * bs.length ∧ readFrom xs bs s.1 s.2.1 s.2.2 (16 - s.1) = readSym xs bs at_) (fun s => [(0, .slice A xs.length c), (1, .pointer (some ⟨q, 0, none⟩)), (6, .slice (some ⟨b, 0, none⟩) xs.length xs.length), (9, .int .u32 ((s.2.1 : Nat) : Int)), (10, .int .i64 ((s.1 : Nat) : Int))]) (fun s => [⟨q, [v2, .int .i64 ((s.2.2 : Nat) : Int)], 40⟩] :: [⟨b, u32s (codesOf xs), 33⟩] :: L) (fun s => 16 - s.1) (0, 0, at_) ⟨Nat.zero_le _, Nat.one_pos, hat, rfl⟩ ⟨rfl, rfl, rfl, rfl, rfl, trivial⟩ (List.Perm.refl _) ?_
  rintro ⟨n, u, t⟩ ⟨hn, hu, ht, hrd⟩
  simp only at hn hu ht hrd
  show SC _ _ _ [(0, .slice A xs.length c), (1, .pointer (some ⟨q, 0, none⟩)), (6, .slice (some ⟨b, 0, none⟩) xs.length xs.length), (9, .int .u32 ((u : Nat) : Int)), (10, .int .i64 ((n : Nat) : Int))] ([⟨q, [v2, .int .i64 ((t : Nat) : Int)], 40⟩] :: [⟨b, u32s (codesOf xs), 33⟩] :: L)
  refine SC.seq ?_
  refine SC.seq ?_
  refine SC.plain ?_
  refine St.move rfl rfl ?_
  refine St.leq rfl rfl rfl ?_
  refine St.done ?_
  refine SX.seq ?_
  refine SC.condp rfl (fun c18 => ?_) (fun c18 => ?_)
  · have hn15 : n ≤ 15 := by omega
    rw [show 16 - n = (15 - n) + 1 by omega, read_step] at hrd
    have hu15 := Nat.lt_of_lt_of_le hu (pow15 hn15)
    refine SC.skip ?_
    refine SX.seq ?_
    refine SC.seq ?_
    refine SC.block ?_
    refine SC.seq ?_
    refine SC.plain ?_
    refine St.assign rfl rfl ?_
    refine St.done ?_
    refine SX.seq ?_
    refine SC.seq ?_
    refine SC.seq ?_
    refine SC.plain ?_
    refine St.assign rfl rfl ?_
    refine St.done ?_
    refine SX.seq ?_
    refine SC.block ?_
    refine SC.loop (α := Nat) (fun i => i ≤ xs.length ∧ ∀ j, j < i → ¬ (xs.getD j 0 = (n : Int) ∧ 1 ≤ n ∧ codeOf xs j = u)) (fun i => [(0, .slice A xs.length c), (1, .pointer (some ⟨q, 0, none⟩)), (6, .slice (some ⟨b, 0, none⟩) xs.length xs.length), (8, .bool (anyTo xs n u i)), (9, .int .u32 ((u : Nat) : Int)), (10, .int .i64 ((n : Nat) : Int)), (11, .int .i64 ((i : Nat) : Int))]) (fun _ => [⟨q, [v2, .int .i64 ((t : Nat) : Int)], 40⟩] :: [⟨b, u32s (codesOf xs), 33⟩] :: L) (fun i => xs.length - i) 0 ⟨Nat.zero_le _, fun j hj => by omega⟩ ⟨rfl, rfl, rfl, rfl, rfl, rfl, rfl, trivial⟩ (List.Perm.refl _) ?_
    rintro i ⟨hi, hnone⟩
    refine SC.seq ?_
    refine SC.seq ?_
    refine SC.plain ?_
    refine St.move rfl rfl ?_
    refine St.move rfl rfl ?_
    refine St.lenSl rfl rfl (by kernel_rfl) ?_
    refine St.lss rfl rfl rfl ?_
    refine St.done ?_
    refine SX.seq ?_
    refine SC.condp rfl (fun c24 => ?_) (fun c24 => ?_)
    · have hlt : i < xs.length := by omega
      have hAe := hA (by omega)
      subst hAe
      have hcl := codesOf_len xs
      have hla := lens_at ho i
      have h1 : HoldsN w0 ([⟨q, [v2, .int .i64 ((t : Nat) : Int)], 40⟩] :: [⟨b, u32s (codesOf xs), 33⟩] :: L) b 0 (u32s (codesOf xs)) := HoldsN.of_row mem1
      refine SC.skip ?_
      refine SX.seq ?_
      refine SC.seq ?_
      refine SC.block ?_
      refine SC.seq ?_
      refine SC.seq ?_
      refine SC.plain ?_
      refine St.move rfl rfl ?_
      refine St.move rfl rfl ?_
      refine St.indexSl (e := 3) (sz := 1) rfl rfl rfl (by kernel_rfl) (by omega) ?_
      refine St.load rfl rfl (by kernel_rfl) (hr.cons.cons.nat i (by omega)) ?_
      refine St.move rfl rfl ?_
      refine St.eql rfl rfl rfl ?_
      refine St.move rfl rfl ?_
      refine St.split 33 rfl (fun g33 => ?_) (fun g33 => ?_)
      · refine St.guard_yes rfl rfl ?_
        refine St.move rfl rfl ?_
        refine St.guard_yes rfl rfl ?_
        refine St.gtr rfl rfl rfl ?_
        refine St.pick_true rfl rfl rfl ?_
        refine St.move rfl rfl ?_
        refine St.split 37 rfl (fun g37 => ?_) (fun g37 => ?_)
        · refine St.guard_yes rfl rfl ?_
          refine St.move rfl rfl ?_
          refine St.guard_yes rfl rfl ?_
          refine St.move rfl rfl ?_
          refine St.guard_yes rfl rfl ?_
          refine St.indexSl (e := 33) (sz := 1) rfl rfl rfl (by kernel_rfl) (by omega) ?_
          refine St.guard_yes rfl rfl ?_
          refine St.load rfl rfl (by kernel_rfl) (h1.nat (k := .u32) (xs := codesOf xs) i (by omega)) ?_
          rw [code_at he i (by omega) (by omega)]
          refine St.guard_yes rfl rfl ?_
          refine St.move rfl rfl ?_
          refine St.guard_yes rfl rfl ?_
          refine St.eql rfl rfl rfl ?_
          refine St.pick_true rfl rfl rfl ?_
          refine St.done ?_
          refine SX.seq ?_
          refine SC.condp rfl (fun c44 => ?_) (fun c44 => ?_)
          · have hh := hit_of (xs := xs) (n := n) (v := u) (i := i) (by omega) hlt g33 (by omega)
            rw [hh] at hrd
            simp only at hrd
            refine SC.seq ?_
            refine SC.plain ?_
            refine St.move rfl rfl ?_
            refine St.assign rfl rfl ?_
            refine St.assign rfl rfl ?_
            refine St.done ?_
            refine SX.seq ?_
            refine SC.ret ?_
            refine SX.seq_ret ?_
            refine SX.blk_ret ?_
            refine SX.seq_ret ?_
            refine SX.seq_ret ?_
            refine SX.blk_ret ?_
            refine SX.seq_ret ?_
            refine SX.blk_ret ?_
            refine SX.seq_ret ?_
            refine SX.seq_ret ?_
            refine SX.blk_ret ?_
            refine SX.seq_ret ?_
            refine SX.perm _ (perm12 _ _ _) (SX.drop ?_)
            exact SX.ret2 rfl rfl rfl ⟨by rw [← hrd], by rw [← hrd]⟩
          · have hnm : ¬ (xs.getD i 0 = (n : Int) ∧ 1 ≤ n ∧ codeOf xs i = u) := fun ⟨_, _, h3⟩ => by omega
            refine SC.skip ?_
            refine SX.seq ?_
            refine SC.drawn [(0, true), (1, true), (2, true), (3, true), (4, true), (5, true), (6, true), (7, true), (8, true), (9, true), (10, true), (11, true), (12, true), (13, true), (14, true), (15, true), (16, true), (17, true), (18, true), (19, true), (20, true), (21, true), (22, true), (23, true), (24, true)] [] ([⟨q, [v2, .int .i64 ((t : Nat) : Int)], 40⟩] :: [⟨b, u32s (codesOf xs), 33⟩] :: L) (by kernel_rfl) (by kernel_rfl) (fun _ h => h) ?_
            refine St.move rfl rfl ?_
            refine St.move rfl rfl ?_
            refine St.splitB 47 rfl (fun ha => ?_) (fun ha => ?_)
            · have hs : anyTo xs n u (i + 1) = true := by simp only [anyTo, ha, Bool.true_or]
              refine St.guard_no rfl rfl rfl ?_
              refine St.guard_no rfl rfl rfl ?_
              refine St.guard_no rfl rfl rfl ?_
              refine St.guard_no rfl rfl rfl ?_
              refine St.guard_no rfl rfl rfl ?_
              refine St.guard_no rfl rfl rfl ?_
              refine St.guard_no rfl rfl rfl ?_
              refine St.guard_none rfl rfl rfl ?_
              refine St.guard_none rfl rfl rfl ?_
              refine St.guard_none rfl rfl rfl ?_
              refine St.guard_none rfl rfl rfl ?_
              refine St.guard_none rfl rfl rfl ?_
              refine St.guard_none rfl rfl rfl ?_
              refine St.guard_none rfl rfl rfl ?_
              refine St.guard_none rfl rfl rfl ?_
              refine St.guard_none rfl rfl rfl ?_
              refine St.guard_none rfl rfl rfl ?_
              refine St.guard_none rfl rfl rfl ?_
              refine St.guard_none rfl rfl rfl ?_
              refine St.guard_none rfl rfl rfl ?_
              refine St.guard_no rfl rfl rfl ?_
              refine St.pick_true rfl rfl rfl ?_
              refine St.assign rfl rfl ?_
              refine St.done ?_
              refine SX.tail ?_
              refine St.done ?_
              refine SX.blk ?_
              refine SX.seq ?_
              refine SC.plain ?_
              refine St.move rfl rfl ?_
              refine St.addI rfl rfl rfl (by omega) ?_
              refine St.assign rfl rfl ?_
              refine St.done ?_
              exact SX.again (i + 1) ⟨by omega, fun j hj => if hj2 : j = i then hj2 ▸ hnm else hnone j (by omega)⟩ (by show xs.length - (i + 1) < xs.length - i; omega) ⟨rfl, rfl, rfl, by rw [hs]; rfl, rfl, rfl, rfl, trivial⟩ (List.Perm.refl _)
            · refine St.guard_yes rfl rfl ?_
              refine St.move rfl rfl ?_
              refine St.guard_yes rfl rfl ?_
              refine St.move rfl rfl ?_
              refine St.guard_yes rfl rfl ?_
              refine St.indexSl (e := 3) (sz := 1) rfl rfl rfl (by kernel_rfl) (by omega) ?_
              refine St.guard_yes rfl rfl ?_
              refine St.load rfl rfl (by kernel_rfl) (hr.cons.cons.nat i (by omega)) ?_
              refine St.guard_yes rfl rfl ?_
              refine St.move rfl rfl ?_
              refine St.guard_yes rfl rfl ?_
              refine St.gtr rfl rfl rfl ?_
              refine St.guard_yes rfl rfl ?_
              refine St.move rfl rfl ?_
              refine St.split 54 rfl (fun g54 => ?_) (fun g54 => ?_)
              · refine St.guard_yes rfl rfl ?_
                refine St.move rfl rfl ?_
                refine St.guard_yes rfl rfl ?_
                refine St.move rfl rfl ?_
                refine St.guard_yes rfl rfl ?_
                refine St.indexSl (e := 33) (sz := 1) rfl rfl rfl (by kernel_rfl) (by omega) ?_
                refine St.guard_yes rfl rfl ?_
                refine St.load rfl rfl (by kernel_rfl) (h1.nat (k := .u32) (xs := codesOf xs) i (by omega)) ?_
                rw [code_at he i (by omega) (by omega)]
                refine St.guard_yes rfl rfl ?_
                refine St.move rfl rfl ?_
                refine St.guard_yes rfl rfl ?_
                refine St.move rfl rfl ?_
                refine St.guard_yes rfl rfl ?_
                refine St.indexSl (e := 3) (sz := 1) rfl rfl rfl (by kernel_rfl) (by omega) ?_
                refine St.guard_yes rfl rfl ?_
                refine St.load rfl rfl (by kernel_rfl) (hr.cons.cons.nat i (by omega)) ?_
                refine St.guard_yes rfl rfl ?_
                refine St.move rfl rfl ?_
                refine St.guard_yes rfl rfl ?_
                refine St.subI rfl rfl rfl (by omega) ?_
                rw [show xs.getD i 0 - ((n : Nat) : Int) = (((xs.getD i 0).toNat - n : Nat) : Int) by omega]
                refine St.guard_yes rfl rfl ?_
                refine St.shr rfl rfl rfl (by omega) ?_
                rw [shr_u32 _ _ (by omega)]
                refine St.guard_yes rfl rfl ?_
                refine St.move rfl rfl ?_
                refine St.guard_yes rfl rfl ?_
                refine St.eql rfl rfl rfl ?_
                have hs : anyTo xs n u (i + 1) = decide (((codeOf xs i / 2 ^ ((xs.getD i 0).toNat - n) : Nat) : Int) = ((u : Nat) : Int)) := by
                  simp only [anyTo, ha, Bool.false_or, decide_eq_true g54, Bool.true_and]
                  exact decide_eq_decide.mpr (by omega)
                refine St.guard_yes rfl rfl ?_
                refine St.pick_true rfl rfl rfl ?_
                refine St.pick_false rfl rfl rfl ?_
                refine St.assign rfl rfl ?_
                refine St.done ?_
                refine SX.tail ?_
                refine St.done ?_
                refine SX.blk ?_
                refine SX.seq ?_
                refine SC.plain ?_
                refine St.move rfl rfl ?_
                refine St.addI rfl rfl rfl (by omega) ?_
                refine St.assign rfl rfl ?_
                refine St.done ?_
                exact SX.again (i + 1) ⟨by omega, fun j hj => if hj2 : j = i then hj2 ▸ hnm else hnone j (by omega)⟩ (by show xs.length - (i + 1) < xs.length - i; omega) ⟨rfl, rfl, rfl, by rw [hs]; rfl, rfl, rfl, rfl, trivial⟩ (List.Perm.refl _)
              · have hs : anyTo xs n u (i + 1) = false := by simp only [anyTo, ha, Bool.false_or, decide_eq_false g54, Bool.false_and]
                refine St.guard_no rfl rfl rfl ?_
                refine St.guard_no rfl rfl rfl ?_
                refine St.guard_no rfl rfl rfl ?_
                refine St.guard_no rfl rfl rfl ?_
                refine St.guard_no rfl rfl rfl ?_
                refine St.guard_no rfl rfl rfl ?_
                refine St.guard_no rfl rfl rfl ?_
                refine St.guard_no rfl rfl rfl ?_
                refine St.guard_no rfl rfl rfl ?_
                refine St.guard_no rfl rfl rfl ?_
                refine St.guard_no rfl rfl rfl ?_
                refine St.guard_no rfl rfl rfl ?_
                refine St.guard_no rfl rfl rfl ?_
                refine St.guard_yes rfl rfl ?_
                refine St.pick_false rfl rfl rfl ?_
                refine St.pick_false rfl rfl rfl ?_
                refine St.assign rfl rfl ?_
                refine St.done ?_
                refine SX.tail ?_
                refine St.done ?_
                refine SX.blk ?_
                refine SX.seq ?_
                refine SC.plain ?_
                refine St.move rfl rfl ?_
                refine St.addI rfl rfl rfl (by omega) ?_
                refine St.assign rfl rfl ?_
                refine St.done ?_
                exact SX.again (i + 1) ⟨by omega, fun j hj => if hj2 : j = i then hj2 ▸ hnm else hnone j (by omega)⟩ (by show xs.length - (i + 1) < xs.length - i; omega) ⟨rfl, rfl, rfl, by rw [hs]; rfl, rfl, rfl, rfl, trivial⟩ (List.Perm.refl _)
        · have hnm : ¬ (xs.getD i 0 = (n : Int) ∧ 1 ≤ n ∧ codeOf xs i = u) := fun ⟨_, h2, _⟩ => by omega
          refine St.guard_no rfl rfl rfl ?_
          refine St.guard_no rfl rfl rfl ?_
          refine St.guard_no rfl rfl rfl ?_
          refine St.guard_no rfl rfl rfl ?_
          refine St.guard_no rfl rfl rfl ?_
          refine St.guard_no rfl rfl rfl ?_
          refine St.pick_false rfl rfl rfl ?_
          refine St.done ?_
          refine SX.seq ?_
          refine SC.cond_false rfl ?_
          refine SC.skip ?_
          refine SX.seq ?_
          refine SC.drawn [(0, true), (1, true), (2, true), (3, true), (4, true), (5, true), (6, true), (7, true), (8, true), (9, true), (10, true), (11, true), (12, true), (13, true), (14, true), (15, true), (16, true), (17, true), (18, true), (19, true), (20, true), (21, true), (22, true), (23, true), (24, true)] [] ([⟨q, [v2, .int .i64 ((t : Nat) : Int)], 40⟩] :: [⟨b, u32s (codesOf xs), 33⟩] :: L) (by kernel_rfl) (by kernel_rfl) (fun _ h => h) ?_
          refine St.move rfl rfl ?_
          refine St.move rfl rfl ?_
          refine St.splitB 47 rfl (fun ha => ?_) (fun ha => ?_)
          · have hs : anyTo xs n u (i + 1) = true := by simp only [anyTo, ha, Bool.true_or]
            refine St.guard_no rfl rfl rfl ?_
            refine St.guard_no rfl rfl rfl ?_
            refine St.guard_no rfl rfl rfl ?_
            refine St.guard_no rfl rfl rfl ?_
            refine St.guard_no rfl rfl rfl ?_
            refine St.guard_no rfl rfl rfl ?_
            refine St.guard_no rfl rfl rfl ?_
            refine St.guard_none rfl rfl rfl ?_
            refine St.guard_none rfl rfl rfl ?_
            refine St.guard_none rfl rfl rfl ?_
            refine St.guard_none rfl rfl rfl ?_
            refine St.guard_none rfl rfl rfl ?_
            refine St.guard_none rfl rfl rfl ?_
            refine St.guard_none rfl rfl rfl ?_
            refine St.guard_none rfl rfl rfl ?_
            refine St.guard_none rfl rfl rfl ?_
            refine St.guard_none rfl rfl rfl ?_
            refine St.guard_none rfl rfl rfl ?_
            refine St.guard_none rfl rfl rfl ?_
            refine St.guard_none rfl rfl rfl ?_
            refine St.guard_no rfl rfl rfl ?_
            refine St.pick_true rfl rfl rfl ?_
            refine St.assign rfl rfl ?_
            refine St.done ?_
            refine SX.tail ?_
            refine St.done ?_
            refine SX.blk ?_
            refine SX.seq ?_
            refine SC.plain ?_
            refine St.move rfl rfl ?_
            refine St.addI rfl rfl rfl (by omega) ?_
            refine St.assign rfl rfl ?_
            refine St.done ?_
            exact SX.again (i + 1) ⟨by omega, fun j hj => if hj2 : j = i then hj2 ▸ hnm else hnone j (by omega)⟩ (by show xs.length - (i + 1) < xs.length - i; omega) ⟨rfl, rfl, rfl, by rw [hs]; rfl, rfl, rfl, rfl, trivial⟩ (List.Perm.refl _)
          · refine St.guard_yes rfl rfl ?_
            refine St.move rfl rfl ?_
            refine St.guard_yes rfl rfl ?_
            refine St.move rfl rfl ?_
            refine St.guard_yes rfl rfl ?_
            refine St.indexSl (e := 3) (sz := 1) rfl rfl rfl (by kernel_rfl) (by omega) ?_
            refine St.guard_yes rfl rfl ?_
            refine St.load rfl rfl (by kernel_rfl) (hr.cons.cons.nat i (by omega)) ?_
            refine St.guard_yes rfl rfl ?_
            refine St.move rfl rfl ?_
            refine St.guard_yes rfl rfl ?_
            refine St.gtr rfl rfl rfl ?_
            refine St.guard_yes rfl rfl ?_
            refine St.move rfl rfl ?_
            refine St.split 54 rfl (fun g54 => ?_) (fun g54 => ?_)
            · refine St.guard_yes rfl rfl ?_
              refine St.move rfl rfl ?_
              refine St.guard_yes rfl rfl ?_
              refine St.move rfl rfl ?_
              refine St.guard_yes rfl rfl ?_
              refine St.indexSl (e := 33) (sz := 1) rfl rfl rfl (by kernel_rfl) (by omega) ?_
              refine St.guard_yes rfl rfl ?_
              refine St.load rfl rfl (by kernel_rfl) (h1.nat (k := .u32) (xs := codesOf xs) i (by omega)) ?_
              rw [code_at he i (by omega) (by omega)]
              refine St.guard_yes rfl rfl ?_
              refine St.move rfl rfl ?_
              refine St.guard_yes rfl rfl ?_
              refine St.move rfl rfl ?_
              refine St.guard_yes rfl rfl ?_
              refine St.indexSl (e := 3) (sz := 1) rfl rfl rfl (by kernel_rfl) (by omega) ?_
              refine St.guard_yes rfl rfl ?_
              refine St.load rfl rfl (by kernel_rfl) (hr.cons.cons.nat i (by omega)) ?_
              refine St.guard_yes rfl rfl ?_
              refine St.move rfl rfl ?_
              refine St.guard_yes rfl rfl ?_
              refine St.subI rfl rfl rfl (by omega) ?_
              rw [show xs.getD i 0 - ((n : Nat) : Int) = (((xs.getD i 0).toNat - n : Nat) : Int) by omega]
              refine St.guard_yes rfl rfl ?_
              refine St.shr rfl rfl rfl (by omega) ?_
              rw [shr_u32 _ _ (by omega)]
              refine St.guard_yes rfl rfl ?_
              refine St.move rfl rfl ?_
              refine St.guard_yes rfl rfl ?_
              refine St.eql rfl rfl rfl ?_
              have hs : anyTo xs n u (i + 1) = decide (((codeOf xs i / 2 ^ ((xs.getD i 0).toNat - n) : Nat) : Int) = ((u : Nat) : Int)) := by
                simp only [anyTo, ha, Bool.false_or, decide_eq_true g54, Bool.true_and]
                exact decide_eq_decide.mpr (by omega)
              refine St.guard_yes rfl rfl ?_
              refine St.pick_true rfl rfl rfl ?_
              refine St.pick_false rfl rfl rfl ?_
              refine St.assign rfl rfl ?_
              refine St.done ?_
              refine SX.tail ?_
              refine St.done ?_
              refine SX.blk ?_
              refine SX.seq ?_
              refine SC.plain ?_
              refine St.move rfl rfl ?_
              refine St.addI rfl rfl rfl (by omega) ?_
              refine St.assign rfl rfl ?_
              refine St.done ?_
              exact SX.again (i + 1) ⟨by omega, fun j hj => if hj2 : j = i then hj2 ▸ hnm else hnone j (by omega)⟩ (by show xs.length - (i + 1) < xs.length - i; omega) ⟨rfl, rfl, rfl, by rw [hs]; rfl, rfl, rfl, rfl, trivial⟩ (List.Perm.refl _)
            · have hs : anyTo xs n u (i + 1) = false := by simp only [anyTo, ha, Bool.false_or, decide_eq_false g54, Bool.false_and]
              refine St.guard_no rfl rfl rfl ?_
              refine St.guard_no rfl rfl rfl ?_
              refine St.guard_no rfl rfl rfl ?_
              refine St.guard_no rfl rfl rfl ?_
              refine St.guard_no rfl rfl rfl ?_
              refine St.guard_no rfl rfl rfl ?_
              refine St.guard_no rfl rfl rfl ?_
              refine St.guard_no rfl rfl rfl ?_
              refine St.guard_no rfl rfl rfl ?_
              refine St.guard_no rfl rfl rfl ?_
              refine St.guard_no rfl rfl rfl ?_
              refine St.guard_no rfl rfl rfl ?_
              refine St.guard_no rfl rfl rfl ?_
              refine St.guard_yes rfl rfl ?_
              refine St.pick_false rfl rfl rfl ?_
              refine St.pick_false rfl rfl rfl ?_
              refine St.assign rfl rfl ?_
              refine St.done ?_
              refine SX.tail ?_
              refine St.done ?_
              refine SX.blk ?_
              refine SX.seq ?_
              refine SC.plain ?_
              refine St.move rfl rfl ?_
              refine St.addI rfl rfl rfl (by omega) ?_
              refine St.assign rfl rfl ?_
              refine St.done ?_
              exact SX.again (i + 1) ⟨by omega, fun j hj => if hj2 : j = i then hj2 ▸ hnm else hnone j (by omega)⟩ (by show xs.length - (i + 1) < xs.length - i; omega) ⟨rfl, rfl, rfl, by rw [hs]; rfl, rfl, rfl, rfl, trivial⟩ (List.Perm.refl _)
      · have hnm : ¬ (xs.getD i 0 = (n : Int) ∧ 1 ≤ n ∧ codeOf xs i = u) := fun ⟨h1, _, _⟩ => g33 h1
        refine St.guard_no rfl rfl rfl ?_
        refine St.guard_no rfl rfl rfl ?_
        refine St.pick_false rfl rfl rfl ?_
        refine St.move rfl rfl ?_
        refine St.guard_no rfl rfl rfl ?_
        refine St.guard_no rfl rfl rfl ?_
        refine St.guard_no rfl rfl rfl ?_
        refine St.guard_no rfl rfl rfl ?_
        refine St.guard_no rfl rfl rfl ?_
        refine St.guard_no rfl rfl rfl ?_
        refine St.pick_false rfl rfl rfl ?_
        refine St.done ?_
        refine SX.seq ?_
        refine SC.cond_false rfl ?_
        refine SC.skip ?_
        refine SX.seq ?_
        refine SC.drawn [(0, true), (1, true), (2, true), (3, true), (4, true), (5, true), (6, true), (7, true), (8, true), (9, true), (10, true), (11, true), (12, true), (13, true), (14, true), (15, true), (16, true), (17, true), (18, true), (19, true), (20, true), (21, true), (22, true), (23, true), (24, true)] [] ([⟨q, [v2, .int .i64 ((t : Nat) : Int)], 40⟩] :: [⟨b, u32s (codesOf xs), 33⟩] :: L) (by kernel_rfl) (by kernel_rfl) (fun _ h => h) ?_
        refine St.move rfl rfl ?_
        refine St.move rfl rfl ?_
        refine St.splitB 47 rfl (fun ha => ?_) (fun ha => ?_)
        · have hs : anyTo xs n u (i + 1) = true := by simp only [anyTo, ha, Bool.true_or]
          refine St.guard_no rfl rfl rfl ?_
          refine St.guard_no rfl rfl rfl ?_
          refine St.guard_no rfl rfl rfl ?_
          refine St.guard_no rfl rfl rfl ?_
          refine St.guard_no rfl rfl rfl ?_
          refine St.guard_no rfl rfl rfl ?_
          refine St.guard_no rfl rfl rfl ?_
          refine St.guard_none rfl rfl rfl ?_
          refine St.guard_none rfl rfl rfl ?_
          refine St.guard_none rfl rfl rfl ?_
          refine St.guard_none rfl rfl rfl ?_
          refine St.guard_none rfl rfl rfl ?_
          refine St.guard_none rfl rfl rfl ?_
          refine St.guard_none rfl rfl rfl ?_
          refine St.guard_none rfl rfl rfl ?_
          refine St.guard_none rfl rfl rfl ?_
          refine St.guard_none rfl rfl rfl ?_
          refine St.guard_none rfl rfl rfl ?_
          refine St.guard_none rfl rfl rfl ?_
          refine St.guard_none rfl rfl rfl ?_
          refine St.guard_no rfl rfl rfl ?_
          refine St.pick_true rfl rfl rfl ?_
          refine St.assign rfl rfl ?_
          refine St.done ?_
          refine SX.tail ?_
          refine St.done ?_
          refine SX.blk ?_
          refine SX.seq ?_
          refine SC.plain ?_
          refine St.move rfl rfl ?_
          refine St.addI rfl rfl rfl (by omega) ?_
          refine St.assign rfl rfl ?_
          refine St.done ?_
          exact SX.again (i + 1) ⟨by omega, fun j hj => if hj2 : j = i then hj2 ▸ hnm else hnone j (by omega)⟩ (by show xs.length - (i + 1) < xs.length - i; omega) ⟨rfl, rfl, rfl, by rw [hs]; rfl, rfl, rfl, rfl, trivial⟩ (List.Perm.refl _)
        · refine St.guard_yes rfl rfl ?_
          refine St.move rfl rfl ?_
          refine St.guard_yes rfl rfl ?_
          refine St.move rfl rfl ?_
          refine St.guard_yes rfl rfl ?_
          refine St.indexSl (e := 3) (sz := 1) rfl rfl rfl (by kernel_rfl) (by omega) ?_
          refine St.guard_yes rfl rfl ?_
          refine St.load rfl rfl (by kernel_rfl) (hr.cons.cons.nat i (by omega)) ?_
          refine St.guard_yes rfl rfl ?_
          refine St.move rfl rfl ?_
          refine St.guard_yes rfl rfl ?_
          refine St.gtr rfl rfl rfl ?_
          refine St.guard_yes rfl rfl ?_
          refine St.move rfl rfl ?_
          refine St.split 54 rfl (fun g54 => ?_) (fun g54 => ?_)
          · refine St.guard_yes rfl rfl ?_
            refine St.move rfl rfl ?_
            refine St.guard_yes rfl rfl ?_
            refine St.move rfl rfl ?_
            refine St.guard_yes rfl rfl ?_
            refine St.indexSl (e := 33) (sz := 1) rfl rfl rfl (by kernel_rfl) (by omega) ?_
            refine St.guard_yes rfl rfl ?_
            refine St.load rfl rfl (by kernel_rfl) (h1.nat (k := .u32) (xs := codesOf xs) i (by omega)) ?_
            rw [code_at he i (by omega) (by omega)]
            refine St.guard_yes rfl rfl ?_
            refine St.move rfl rfl ?_
            refine St.guard_yes rfl rfl ?_
            refine St.move rfl rfl ?_
            refine St.guard_yes rfl rfl ?_
            refine St.indexSl (e := 3) (sz := 1) rfl rfl rfl (by kernel_rfl) (by omega) ?_
            refine St.guard_yes rfl rfl ?_
            refine St.load rfl rfl (by kernel_rfl) (hr.cons.cons.nat i (by omega)) ?_
            refine St.guard_yes rfl rfl ?_
            refine St.move rfl rfl ?_
            refine St.guard_yes rfl rfl ?_
            refine St.subI rfl rfl rfl (by omega) ?_
            rw [show xs.getD i 0 - ((n : Nat) : Int) = (((xs.getD i 0).toNat - n : Nat) : Int) by omega]
            refine St.guard_yes rfl rfl ?_
            refine St.shr rfl rfl rfl (by omega) ?_
            rw [shr_u32 _ _ (by omega)]
            refine St.guard_yes rfl rfl ?_
            refine St.move rfl rfl ?_
            refine St.guard_yes rfl rfl ?_
            refine St.eql rfl rfl rfl ?_
            have hs : anyTo xs n u (i + 1) = decide (((codeOf xs i / 2 ^ ((xs.getD i 0).toNat - n) : Nat) : Int) = ((u : Nat) : Int)) := by
              simp only [anyTo, ha, Bool.false_or, decide_eq_true g54, Bool.true_and]
              exact decide_eq_decide.mpr (by omega)
            refine St.guard_yes rfl rfl ?_
            refine St.pick_true rfl rfl rfl ?_
            refine St.pick_false rfl rfl rfl ?_
            refine St.assign rfl rfl ?_
            refine St.done ?_
            refine SX.tail ?_
            refine St.done ?_
            refine SX.blk ?_
            refine SX.seq ?_
            refine SC.plain ?_
            refine St.move rfl rfl ?_
            refine St.addI rfl rfl rfl (by omega) ?_
            refine St.assign rfl rfl ?_
            refine St.done ?_
            exact SX.again (i + 1) ⟨by omega, fun j hj => if hj2 : j = i then hj2 ▸ hnm else hnone j (by omega)⟩ (by show xs.length - (i + 1) < xs.length - i; omega) ⟨rfl, rfl, rfl, by rw [hs]; rfl, rfl, rfl, rfl, trivial⟩ (List.Perm.refl _)
          · have hs : anyTo xs n u (i + 1) = false := by simp only [anyTo, ha, Bool.false_or, decide_eq_false g54, Bool.false_and]
            refine St.guard_no rfl rfl rfl ?_
            refine St.guard_no rfl rfl rfl ?_
            refine St.guard_no rfl rfl rfl ?_
            refine St.guard_no rfl rfl rfl ?_
            refine St.guard_no rfl rfl rfl ?_
            refine St.guard_no rfl rfl rfl ?_
            refine St.guard_no rfl rfl rfl ?_
            refine St.guard_no rfl rfl rfl ?_
            refine St.guard_no rfl rfl rfl ?_
            refine St.guard_no rfl rfl rfl ?_
            refine St.guard_no rfl rfl rfl ?_
            refine St.guard_no rfl rfl rfl ?_
            refine St.guard_no rfl rfl rfl ?_
            refine St.guard_yes rfl rfl ?_
            refine St.pick_false rfl rfl rfl ?_
            refine St.pick_false rfl rfl rfl ?_
            refine St.assign rfl rfl ?_
            refine St.done ?_
            refine SX.tail ?_
            refine St.done ?_
            refine SX.blk ?_
            refine SX.seq ?_
            refine SC.plain ?_
            refine St.move rfl rfl ?_
            refine St.addI rfl rfl rfl (by omega) ?_
            refine St.assign rfl rfl ?_
            refine St.done ?_
            exact SX.again (i + 1) ⟨by omega, fun j hj => if hj2 : j = i then hj2 ▸ hnm else hnone j (by omega)⟩ (by show xs.length - (i + 1) < xs.length - i; omega) ⟨rfl, rfl, rfl, by rw [hs]; rfl, rfl, rfl, rfl, trivial⟩ (List.Perm.refl _)
    · have hie : i = xs.length := by omega
      subst hie
      rw [no_hit hnone] at hrd
      simp only at hrd
      refine SC.exit ?_
      refine SX.seq_exit ?_
      refine SX.seq_exit ?_
      refine SX.hit ?_
      refine SX.seq ?_
      refine SC.seq ?_
      refine SC.seq ?_
      refine SC.plain ?_
      refine St.move rfl rfl ?_
      refine St.notB rfl rfl ?_
      refine St.done ?_
      refine SX.seq ?_
      refine SC.cond rfl (fun hm => ?_) (fun hm => ?_)
      · have hm2 : anyTo xs n u xs.length = false := by simpa using hm
        rw [if_pos hm2] at hrd
        refine SC.seq ?_
        refine SC.plain ?_
        refine St.assign rfl rfl ?_
        refine St.assign rfl rfl ?_
        refine St.done ?_
        refine SX.seq ?_
        refine SC.ret ?_
        refine SX.seq_ret ?_
        refine SX.blk_ret ?_
        refine SX.seq_ret ?_
        refine SX.seq_ret ?_
        refine SX.blk_ret ?_
        refine SX.seq_ret ?_
        refine SX.perm _ (perm12 _ _ _) (SX.drop ?_)
        exact SX.ret2 rfl rfl rfl ⟨by rw [← hrd], by rw [← hrd]⟩
      · have hm2 : anyTo xs n u xs.length = true := by simpa using hm
        rw [if_neg (by rw [hm2]; decide)] at hrd
        refine SC.skip ?_
        refine SX.seq ?_
        refine SC.seq ?_
        refine SC.seq ?_
        refine SC.plain ?_
        refine St.move rfl rfl ?_
        refine St.call [.pointer (some ⟨q, 0, none⟩)] rfl (by kernel_rfl) rfl (left_spec w0 _ v2 bs q t hx2.cons hl ht) (fun _ _ _ _ h => h.nil) ?_
        rintro r L1 ⟨rfl, rfl⟩
        refine St.eql rfl rfl rfl ?_
        refine St.done ?_
        refine SX.seq ?_
        refine SC.condp rfl (fun c74 => ?_) (fun c74 => ?_)
        · rw [if_pos (by omega)] at hrd
          refine SC.seq ?_
          refine SC.plain ?_
          refine St.assign rfl rfl ?_
          refine St.assign rfl rfl ?_
          refine St.done ?_
          refine SX.seq ?_
          refine SC.ret ?_
          refine SX.seq_ret ?_
          refine SX.blk_ret ?_
          refine SX.seq_ret ?_
          refine SX.seq_ret ?_
          refine SX.blk_ret ?_
          refine SX.seq_ret ?_
          refine SX.perm _ (perm12 _ _ _) (SX.drop ?_)
          exact SX.ret2 rfl rfl rfl ⟨by rw [← hrd], by rw [← hrd]⟩
        · rw [if_neg (by omega)] at hrd
          have hbl := bit_lt bs t
          refine SC.skip ?_
          refine SX.seq ?_
          refine SC.plain ?_
          refine St.move rfl rfl ?_
          refine St.shl rfl rfl rfl (by omega) ?_
          rw [shl1_u32 u (by omega)]
          refine St.move rfl rfl ?_
          refine St.call [.pointer (some ⟨q, 0, none⟩)] rfl (by kernel_rfl) rfl (one_spec w0 _ v2 bs q t hx2.cons hl hb (by omega)) (fun _ _ _ _ h => h.nil) ?_
          rintro r L1 ⟨rfl, rfl⟩
          refine St.orI rfl rfl rfl ?_
          rw [or_u32 _ _ (by omega) (by omega), or_bit u _ hbl]
          refine St.assign rfl rfl ?_
          refine St.done ?_
          refine SX.blk ?_
          refine SX.seq ?_
          refine SC.plain ?_
          refine St.move rfl rfl ?_
          refine St.addI rfl rfl rfl (by omega) ?_
          refine St.assign rfl rfl ?_
          refine St.done ?_
          exact SX.again (n + 1, 2 * u + bitAt bs t, t + 1) ⟨by simp only; omega, by simp only; rw [Nat.pow_succ]; omega, by simp only; omega, by simp only; rw [show 16 - (n + 1) = 15 - n by omega]; exact hrd⟩ (by simp only; omega) ⟨rfl, rfl, rfl, rfl, rfl, trivial⟩ (List.Perm.refl _)
  · have hn16 : n = 16 := by omega
    subst hn16
    have hrd : (0, 3, t) = readSym xs bs at_ := hrd
    refine SC.exit ?_
    refine SX.seq_exit ?_
    refine SX.seq_exit ?_
    refine SX.hit ?_
    refine SX.seq ?_
    refine SC.seq ?_
    refine SC.plain ?_
    refine St.assign rfl rfl ?_
    refine St.assign rfl rfl ?_
    refine St.done ?_
    refine SX.seq ?_
    refine SC.ret ?_
    refine SX.perm _ (perm12 _ _ _) (SX.drop ?_)
    exact SX.ret2 rfl rfl rfl ⟨by rw [← hrd], by rw [← hrd]⟩
theorem huffReads_spec (w0 : World) (L : List Chunk) (v v2 : Value) (xs : List Int) (bs : List Nat) (hx : Rd w0 L v 1 xs.length (ints xs)) (hl : xs.length ≤ 35184372088832) (hx2 : Rd w0 L v2 1 bs.length (bytes bs)) (hl2 : bs.length ≤ 150000000000000) (hb : ∀ b ∈ bs, b < 256) :
    Meets Try.prog 4 #[v, v2] w0 L (fun r L' => r = .bool true) := by
  have hx2' := hx2
  obtain ⟨_, b2, o2, A2, c2, rfl, _, _⟩ := hx2'
  refine Meets.of_body [v, .slice A2 bs.length c2] Try.func4 rfl Try.ntmps4 rfl ?_
  refine SC.seq ?_
  refine SC.plain ?_
  refine St.assign rfl rfl ?_
  refine St.done ?_
  refine SX.seq ?_
  refine SC.seq ?_
  refine SC.plain ?_
  refine St.move rfl rfl ?_
  refine St.call [v] rfl (by kernel_rfl) rfl (new_spec w0 L v xs hx hl) (fun _ _ _ _ h => h.nil) ?_
  rintro r L1 (⟨hE, rfl, rfl⟩ | ⟨hE, p, E, rfl, hCE, rfl⟩)
  · refine St.move rfl rfl ?_
    refine St.extract rfl rfl rfl ?_
    refine St.extract rfl rfl rfl ?_
    refine St.assign rfl rfl ?_
    refine St.assign rfl rfl ?_
    refine St.done ?_
    refine SX.seq ?_
    refine SC.seq ?_
    refine SC.seq ?_
    refine SC.plain ?_
    refine St.move rfl rfl ?_
    refine St.neq rfl rfl rfl ?_
    refine St.done ?_
    refine SX.seq ?_
    refine SC.condp rfl (fun c20 => ?_) (fun c20 => ?_)
    · refine SC.seq ?_
      refine SC.plain ?_
      refine St.move rfl rfl ?_
      refine St.ptrEql rfl rfl rfl (by kernel_rfl) ?_
      refine St.move rfl rfl ?_
      refine St.guard_yes rfl rfl ?_
      refine St.call [] rfl (by kernel_rfl) rfl (awake5_spec w0 _) (fun _ _ _ _ h => h.nil) ?_
      rintro r L1 ⟨rfl, rfl⟩
      refine St.pick_true rfl rfl rfl ?_
      refine St.assign rfl rfl ?_
      refine St.done ?_
      refine SX.seq ?_
      refine SC.ret ?_
      refine SX.seq_ret ?_
      exact SX.ret1 rfl rfl rfl
    · exact absurd hE c20
  · have hC : CodeRd w0 (E ++ L) p xs := hCE.rd hE
    refine St.move rfl rfl ?_
    refine St.extract rfl rfl rfl ?_
    refine St.extract rfl rfl rfl ?_
    refine St.assign rfl rfl ?_
    refine St.assign rfl rfl ?_
    refine St.done ?_
    refine SX.seq ?_
    refine SC.seq ?_
    refine SC.seq ?_
    refine SC.plain ?_
    refine St.move rfl rfl ?_
    refine St.neq rfl rfl rfl ?_
    refine St.done ?_
    refine SX.seq ?_
    refine SC.condp rfl (fun c20 => ?_) (fun c20 => ?_)
    · exact absurd rfl c20
    · refine SC.skip ?_
      refine SX.seq ?_
      refine SC.seq ?_
      refine SC.plain ?_
      refine St.move rfl rfl ?_
      refine St.call [.slice A2 bs.length c2] rfl (by kernel_rfl) rfl (bread_spec w0 _ _ bs (hx2.mono fun w h => Own.right E h) hl2) (fun _ _ _ _ h => h.nil) ?_
      rintro r L1 ⟨rp, v3, Eb, rfl, hbuf, rfl⟩
      refine St.assign rfl rfl ?_
      refine St.done ?_
      refine SX.seq ?_
      refine SC.seq ?_
      refine SC.plain ?_
      refine St.move rfl rfl ?_
      refine St.build [(0, .slice A2 bs.length c2)] [.slice A2 bs.length c2, .int .i64 ((0 : Nat) : Int)] rfl rfl (by kernel_rfl) ?_
      refine St.box [.slice A2 bs.length c2, .int .i64 ((0 : Nat) : Int)] rfl rfl rfl (fun _ _ h => h.nil) (fun wp => ?_)
      refine St.perm _ (perm12 _ _ _) ?_
      refine St.assign rfl rfl ?_
      refine St.done ?_
      refine SX.seq ?_
      refine SC.seq ?_
      refine SC.seq ?_
      refine SC.plain ?_
      refine St.assign rfl rfl ?_
      refine St.done ?_
      refine SX.seq ?_
      refine SC.block ?_
      refine SC.loop (α := Nat × Nat) (fun s => s.1 ≤ 200 ∧ s.2 ≤ 8 * bs.length) (fun s => [(0, v), (5, .pointer (some ⟨p, 0, none⟩)), (7, .pointer (some ⟨rp, 0, none⟩)), (8, .pointer (some ⟨wp, 0, none⟩)), (9, .int .i64 ((s.1 : Nat) : Int))]) (fun s => [⟨rp, [v3, .int .i64 ((s.2 : Nat) : Int)], 156⟩] :: [⟨wp, [.slice A2 bs.length c2, .int .i64 ((s.2 : Nat) : Int)], 40⟩] :: Eb :: (E ++ L)) (fun s => 200 - s.1) (0, 0) ⟨Nat.zero_le _, Nat.zero_le _⟩ ⟨rfl, rfl, rfl, rfl, rfl, trivial⟩ (List.Perm.refl _) ?_
      rintro ⟨i, t⟩ ⟨hi, ht⟩
      simp only at hi ht
      show SC _ _ _ [(0, v), (5, .pointer (some ⟨p, 0, none⟩)), (7, .pointer (some ⟨rp, 0, none⟩)), (8, .pointer (some ⟨wp, 0, none⟩)), (9, .int .i64 ((i : Nat) : Int))] ([⟨rp, [v3, .int .i64 ((t : Nat) : Int)], 156⟩] :: [⟨wp, [.slice A2 bs.length c2, .int .i64 ((t : Nat) : Int)], 40⟩] :: Eb :: (E ++ L))
      have hle := readSym_le (xs := xs) ht
      refine SC.seq ?_
      refine SC.seq ?_
      refine SC.plain ?_
      refine St.move rfl rfl ?_
      refine St.lss rfl rfl rfl ?_
      refine St.done ?_
      refine SX.seq ?_
      refine SC.condp rfl (fun c32 => ?_) (fun c32 => ?_)
      · refine SC.skip ?_
        refine SX.seq ?_
        refine SC.seq ?_
        refine SC.block ?_
        refine SC.seq ?_
        refine SC.plain ?_
        refine St.move rfl rfl ?_
        refine St.move rfl rfl ?_
        refine St.call [.pointer (some ⟨p, 0, none⟩), .pointer (some ⟨rp, 0, none⟩)] rfl (by kernel_rfl) rfl (cread_spec w0 _ v3 xs bs p rp t hE hC.cons.cons (hbuf.rd (List.mem_cons_of_mem _ List.mem_cons_self)) hl2 hb ht) (fun _ _ _ _ h => h.nil) ?_
        rintro r L1 ⟨rfl, rfl⟩
        refine St.move rfl rfl ?_
        refine St.extract rfl rfl rfl ?_
        refine St.extract rfl rfl rfl ?_
        refine St.assign rfl rfl ?_
        refine St.assign rfl rfl ?_
        refine St.done ?_
        refine SX.seq ?_
        refine SC.seq ?_
        refine SC.plain ?_
        refine St.move rfl rfl ?_
        refine St.move rfl rfl ?_
        refine St.perm _ (perm12 _ _ _) ?_
        refine St.call [v, .pointer (some ⟨wp, 0, none⟩)] rfl (by kernel_rfl) rfl (rread_spec w0 _ v _ xs bs wp t hE (hx.mono fun w h => Own.right E h.drop.drop) (hx2.mono fun w h => Own.right E h.drop.drop) hl2 hb ht) (fun _ _ _ _ h => h.nil) ?_
        rintro r L1 ⟨rfl, rfl⟩
        refine St.move rfl rfl ?_
        refine St.extract rfl rfl rfl ?_
        refine St.extract rfl rfl rfl ?_
        refine St.assign rfl rfl ?_
        refine St.assign rfl rfl ?_
        refine St.done ?_
        refine SX.seq ?_
        refine SC.seq ?_
        refine SC.seq ?_
        refine SC.plain ?_
        refine St.move rfl rfl ?_
        refine St.move rfl rfl ?_
        refine St.neq rfl rfl rfl ?_
        refine St.move rfl rfl ?_
        refine St.split 50 rfl (fun g50 => ?_) (fun g50 => ?_)
        · exact absurd rfl g50
        · refine St.guard_yes rfl rfl ?_
          refine St.move rfl rfl ?_
          refine St.guard_yes rfl rfl ?_
          refine St.move rfl rfl ?_
          refine St.guard_yes rfl rfl ?_
          refine St.neq rfl rfl rfl ?_
          refine St.pick_false rfl rfl rfl ?_
          refine St.done ?_
          refine SX.seq ?_
          refine SC.condp rfl (fun c54 => ?_) (fun c54 => ?_)
          · exact absurd rfl c54
          · refine SC.skip ?_
            refine SX.seq ?_
            refine SC.seq ?_
            refine SC.seq ?_
            refine SC.plain ?_
            refine St.move rfl rfl ?_
            refine St.neq rfl rfl rfl ?_
            refine St.done ?_
            refine SX.seq ?_
            refine SC.condp rfl (fun c56 => ?_) (fun c56 => ?_)
            · refine SC.exit ?_
              refine SX.seq_exit ?_
              refine SX.miss rfl ?_
              refine SX.seq_exit ?_
              refine SX.seq_exit ?_
              refine SX.hit ?_
              refine SX.seq ?_
              refine SC.seq ?_
              refine SC.plain ?_
              refine St.call [] rfl (by kernel_rfl) rfl (awake5_spec w0 _) (fun _ _ _ _ h => h.nil) ?_
              rintro r L1 ⟨rfl, rfl⟩
              refine St.assign rfl rfl ?_
              refine St.done ?_
              refine SX.seq ?_
              refine SC.ret ?_
              exact SX.ret1 rfl rfl rfl
            · refine SC.skip ?_
              refine SX.seq ?_
              refine SC.seq ?_
              refine SC.plain ?_
              refine St.move rfl rfl ?_
              refine St.perm _ (perm12 _ _ _) ?_
              refine St.call [.pointer (some ⟨rp, 0, none⟩)] rfl (by kernel_rfl) rfl (used_spec w0 _ v3 rp _ (by omega)) (fun _ _ _ _ h => h.nil) ?_
              rintro r L1 ⟨rfl, rfl⟩
              refine St.move rfl rfl ?_
              refine St.perm _ (perm12 _ _ _) ?_
              refine St.call [.pointer (some ⟨wp, 0, none⟩)] rfl (by kernel_rfl) rfl (rused_spec w0 _ _ wp _ (by omega)) (fun _ _ _ _ h => h.nil) ?_
              rintro r L1 ⟨rfl, rfl⟩
              refine St.perm _ (perm12 _ _ _) ?_
              refine St.neq rfl rfl rfl ?_
              refine St.done ?_
              refine SX.seq ?_
              refine SC.condp rfl (fun c61 => ?_) (fun c61 => ?_)
              · exact absurd rfl c61
              · refine SC.skip ?_
                refine SX.blk ?_
                refine SX.seq ?_
                refine SC.plain ?_
                refine St.move rfl rfl ?_
                refine St.addI rfl rfl rfl (by omega) ?_
                refine St.assign rfl rfl ?_
                refine St.done ?_
                exact SX.again (i + 1, (readSym xs bs t).2.2) ⟨by simp only; omega, hle.2⟩ (by simp only; omega) ⟨rfl, rfl, rfl, rfl, rfl, trivial⟩ (List.Perm.refl _)
      · refine SC.exit ?_
        refine SX.seq_exit ?_
        refine SX.seq_exit ?_
        refine SX.hit ?_
        refine SX.seq ?_
        refine SC.seq ?_
        refine SC.plain ?_
        refine St.call [] rfl (by kernel_rfl) rfl (awake5_spec w0 _) (fun _ _ _ _ h => h.nil) ?_
        rintro r L1 ⟨rfl, rfl⟩
        refine St.assign rfl rfl ?_
        refine St.done ?_
        refine SX.seq ?_
        refine SC.ret ?_
        exact SX.ret1 rfl rfl rfl
end Go.Proofs.Ytahafepgmkiabaa
