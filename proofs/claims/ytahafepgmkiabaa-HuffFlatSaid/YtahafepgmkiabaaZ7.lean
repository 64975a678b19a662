/- Walks: the law HuffFlat. -/
import Derived.Test.YtahafepgmkiabaaZ6
import Derived.Test.YtahafepgmkiabaaH5
import Derived.Test.YtahafepgmkiabaaSepR
set_option linter.unusedVariables false
set_option linter.unusedSimpArgs false
set_option linter.ambiguousOpen false
namespace Go.Proofs.Ytahafepgmkiabaa
open Go Go.Proofs.Ytahafepgmkiabaa.Sep
theorem mask20 (n : Int) : bits .and .i64 n 1048575 = n % 1048576 := maskI n 20 (by decide)

theorem flat_next {f : Nat → Nat} {j s l : Nat} (h0 : 0 < f j) (h1 : ∀ k, k < j → 0 < f k → s ≤ f k ∧ f k ≤ l) (h2 : (s = 99 ∧ l = 0 ∧ ∀ k, k < j → f k = 0) ∨ (∃ k1 k2, k1 < j ∧ k2 < j ∧ 0 < f k1 ∧ 0 < f k2 ∧ f k1 = s ∧ f k2 = l)) (h3 : f j ≤ 15) :
    ∃ k1 k2, k1 < j + 1 ∧ k2 < j + 1 ∧ 0 < f k1 ∧ 0 < f k2 ∧ f k1 = min s (f j) ∧ f k2 = max l (f j) := by
  rcases h2 with ⟨rfl, rfl, _⟩ | ⟨k1, k2, hk1, hk2, hf1, hf2, rfl, rfl⟩
  · exact ⟨j, j, by omega, by omega, h0, h0, by omega, by omega⟩
  · have ha : ∃ q, q < j + 1 ∧ 0 < f q ∧ f q = min (f k1) (f j) := by
      rcases Nat.le_total (f k1) (f j) with h | h
      · exact ⟨k1, by omega, hf1, by omega⟩
      · exact ⟨j, by omega, h0, by omega⟩
    have hb : ∃ q, q < j + 1 ∧ 0 < f q ∧ f q = max (f k2) (f j) := by
      rcases Nat.le_total (f k2) (f j) with h | h
      · exact ⟨j, by omega, h0, by omega⟩
      · exact ⟨k2, by omega, hf2, by omega⟩
    obtain ⟨q1, a1, a2, a3⟩ := ha
    obtain ⟨q2, b1, b2, b3⟩ := hb
    exact ⟨q1, q2, a1, b1, a2, b2, a3, b3⟩
theorem huffFlat_spec (w0 : World) (L : List Chunk) (n0 c0 : Int) (u : Value) (bs : List Bool) (hr : Rd w0 L u 1 bs.length (bs.map Value.bool)) (hl : bs.length ≤ 4611686018427387904) :
    Meets Try.prog 14 #[.int .i64 n0, .int .i64 c0, u] w0 L (fun r L' => r = .bool true) := by
  obtain ⟨_, bb0, ob0, Ab, cb, rfl, hAb, hhb⟩ := hr
  refine Meets.of_body [.int .i64 n0, .int .i64 c0, .slice Ab bs.length cb] Try.func14 rfl Try.ntmps14 rfl ?_
  refine SC.seq ?_
  refine SC.plain ?_
  refine St.assign rfl rfl ?_
  refine St.done ?_
  refine SX.seq ?_
  refine SC.seq ?_
  refine SC.plain ?_
  refine St.move rfl rfl ?_
  refine St.rem rfl rfl rfl (by decide) ?_
  have hm1 := Int.tmod_lt_of_pos n0 (show (0 : Int) < 300 by decide)
  have hm2 := Int.lt_tmod_of_pos n0 (show (0 : Int) < 300 by decide)
  refine St.addI rfl rfl rfl (by omega) ?_
  refine St.rem rfl rfl rfl (by decide) ?_
  have hm3 := Int.tmod_lt_of_pos (n0.tmod 300 + 300) (show (0 : Int) < 300 by decide)
  have hm4 := Int.tmod_nonneg (a := n0.tmod 300 + 300) 300 (by omega)
  obtain ⟨n, hn⟩ : ∃ n : Nat, (n0.tmod 300 + 300).tmod 300 = (n : Int) := ⟨((n0.tmod 300 + 300).tmod 300).toNat, by omega⟩
  rw [hn]
  rw [hn] at hm3
  refine St.move rfl rfl ?_
  refine St.andI rfl rfl rfl ?_
  rw [mask20]
  refine St.addI rfl rfl rfl (by omega) ?_
  obtain ⟨c, hc⟩ : ∃ c, c = c0 % 1048576 + 1 := ⟨_, rfl⟩
  rw [← hc]
  have hc1 : 0 < c := by omega
  have hc2 : c ≤ 1073741824 := by omega
  refine St.assign rfl rfl ?_
  refine St.assign rfl rfl ?_
  refine St.done ?_
  refine SX.seq ?_
  refine SC.seq ?_
  refine SC.plain ?_
  refine St.assign rfl rfl ?_
  refine St.done ?_
  refine SX.seq ?_
  refine SC.seq ?_
  refine SC.plain ?_
  refine St.assign rfl rfl ?_
  refine St.done ?_
  refine SX.seq ?_
  refine SC.seq ?_
  refine SC.seq ?_
  refine SC.plain ?_
  refine St.assign rfl rfl ?_
  refine St.done ?_
  refine SX.seq ?_
  refine SC.block ?_
  refine SC.loop (α := Nat × Value × Chunk) (fun s => s.1 ≤ n ∧ Buf 3 1 s.2.1 (ints (fcs bs c s.1)) s.1 s.2.2) (fun s => [(0, .int .i64 ((n : Nat) : Int)), (1, .int .i64 c), (2, .slice Ab bs.length cb), (7, s.2.1), (9, .int .i64 ((s.1 : Nat) : Int)), (8, .int .i64 ((fal bs s.1 : Nat) : Int))]) (fun s => s.2.2 :: L) (fun s => n - s.1) (0, _, []) ⟨Nat.zero_le _, Buf.nil _ _⟩ ⟨rfl, rfl, rfl, rfl, rfl, rfl, trivial⟩ (List.Perm.refl _) ?_
  rintro ⟨i, v7, E⟩ ⟨hi, hbf⟩
  simp only at hi hbf ⊢
  have hfl := fal_le bs i
  refine SC.seq ?_
  refine SC.seq ?_
  refine SC.plain ?_
  refine St.move rfl rfl ?_
  refine St.move rfl rfl ?_
  refine St.lss rfl rfl rfl ?_
  refine St.done ?_
  refine SX.seq ?_
  refine SC.condp rfl (fun c24 => ?_) (fun c24 => ?_)
  · refine SC.skip ?_
    refine SX.seq ?_
    refine SC.seq ?_
    refine SC.block ?_
    refine SC.seq ?_
    refine SC.plain ?_
    refine St.move rfl rfl ?_
    refine St.move rfl rfl ?_
    refine St.lenSl rfl rfl (by kernel_rfl) ?_
    refine St.lss rfl rfl rfl ?_
    refine St.move rfl rfl ?_
    refine St.split 31 rfl (fun g31 => ?_) (fun g31 => ?_)
    · refine St.guard_yes rfl rfl ?_
      refine St.move rfl rfl ?_
      refine St.guard_yes rfl rfl ?_
      refine St.move rfl rfl ?_
      refine St.guard_yes rfl rfl ?_
      obtain rfl := hAb (by omega)
      refine St.indexSl (e := 4) (sz := 1) rfl rfl rfl (by kernel_rfl) (by omega) ?_
      refine St.guard_yes rfl rfl ?_
      refine St.load rfl rfl (by kernel_rfl) (hhb.cons.at i (v := .bool (bs.getD i false)) (by rw [List.getElem?_map, List.getD_eq_getElem?_getD, List.getElem?_eq_getElem (show i < bs.length by omega)]; rfl)) ?_
      refine St.pick_true rfl rfl rfl ?_
      refine St.done ?_
      refine SX.seq ?_
      refine SC.cond rfl (fun hb => ?_) (fun hb => ?_)
      · refine SC.plain ?_
        refine St.move rfl rfl ?_
        refine St.buildSl (n := 1) (e := 3) [(0, .int .i64 0)] [.int .i64 0] rfl rfl (by kernel_rfl) (fun _ _ h => h.nil) (fun bb => ?_)
        refine St.append1 (e := 3) (sz := 1) (bytes := 8) (m := 1) rfl rfl rfl (by kernel_rfl) hbf (Rd.row rfl mem0) (by simp [one]) (by omega) (by omega) (fun _ _ h => h.nil) (fun v2 E2 hb2 _ => ?_)
        rw [show ints (fcs bs c i) ++ [.int .i64 0] = ints (fcs bs c (i + 1)) by rw [fcs_succ, if_pos hb]; simp [ints]] at hb2
        refine St.assign rfl rfl ?_
        refine St.done ?_
        refine SX.blk ?_
        refine SX.seq ?_
        refine SC.plain ?_
        refine St.move rfl rfl ?_
        first | refine St.addN (b := 1) rfl rfl rfl (by omega) ?_ | refine St.addI rfl rfl rfl (by omega) ?_
        refine St.assign rfl rfl ?_
        refine St.done ?_
        refine SX.drop ?_
        exact SX.again (i + 1, v2, E2) ⟨by simp only; omega, hb2⟩ (by simp only; omega) ⟨rfl, rfl, rfl, rfl, rfl, by rw [fal_succ, if_pos hb]; rfl, trivial⟩ (List.Perm.refl _)
      · replace hb : ¬ bs.getD i false = true := by rw [hb]; simp
        refine SC.seq ?_
        refine SC.plain ?_
        refine St.move rfl rfl ?_
        refine St.move rfl rfl ?_
        refine St.buildSl (n := 1) (e := 3) [(0, .int .i64 c)] [.int .i64 c] rfl rfl (by kernel_rfl) (fun _ _ h => h.nil) (fun bb => ?_)
        refine St.append1 (e := 3) (sz := 1) (bytes := 8) (m := 1) rfl rfl rfl (by kernel_rfl) hbf (Rd.row rfl mem0) (by simp [one]) (by omega) (by omega) (fun _ _ h => h.nil) (fun v2 E2 hb2 _ => ?_)
        rw [show ints (fcs bs c i) ++ [.int .i64 c] = ints (fcs bs c (i + 1)) by rw [fcs_succ, if_neg hb]; simp [ints]] at hb2
        refine St.assign rfl rfl ?_
        refine St.done ?_
        refine SX.seq ?_
        refine SC.plain ?_
        refine St.move rfl rfl ?_
        first | refine St.addN (b := 1) rfl rfl rfl (by omega) ?_ | refine St.addI rfl rfl rfl (by omega) ?_
        refine St.assign rfl rfl ?_
        refine St.done ?_
        refine SX.blk ?_
        refine SX.seq ?_
        refine SC.plain ?_
        refine St.move rfl rfl ?_
        first | refine St.addN (b := 1) rfl rfl rfl (by omega) ?_ | refine St.addI rfl rfl rfl (by omega) ?_
        refine St.assign rfl rfl ?_
        refine St.done ?_
        refine SX.drop ?_
        exact SX.again (i + 1, v2, E2) ⟨by simp only; omega, hb2⟩ (by simp only; omega) ⟨rfl, rfl, rfl, rfl, rfl, by rw [fal_succ, if_neg hb]; rfl, trivial⟩ (List.Perm.refl _)
    · have hb : ¬ bs.getD i false = true := by rw [List.getD_eq_getElem?_getD, List.getElem?_eq_none (by omega)]; simp
      refine St.guard_no rfl rfl rfl ?_
      refine St.guard_no rfl rfl rfl ?_
      refine St.guard_no rfl rfl rfl ?_
      refine St.guard_no rfl rfl rfl ?_
      refine St.pick_false rfl rfl rfl ?_
      refine St.done ?_
      refine SX.seq ?_
      refine SC.cond_false rfl ?_
      refine SC.seq ?_
      refine SC.plain ?_
      refine St.move rfl rfl ?_
      refine St.move rfl rfl ?_
      refine St.buildSl (n := 1) (e := 3) [(0, .int .i64 c)] [.int .i64 c] rfl rfl (by kernel_rfl) (fun _ _ h => h.nil) (fun bb => ?_)
      refine St.append1 (e := 3) (sz := 1) (bytes := 8) (m := 1) rfl rfl rfl (by kernel_rfl) hbf (Rd.row rfl mem0) (by simp [one]) (by omega) (by omega) (fun _ _ h => h.nil) (fun v2 E2 hb2 _ => ?_)
      rw [show ints (fcs bs c i) ++ [.int .i64 c] = ints (fcs bs c (i + 1)) by rw [fcs_succ, if_neg hb]; simp [ints]] at hb2
      refine St.assign rfl rfl ?_
      refine St.done ?_
      refine SX.seq ?_
      refine SC.plain ?_
      refine St.move rfl rfl ?_
      first | refine St.addN (b := 1) rfl rfl rfl (by omega) ?_ | refine St.addI rfl rfl rfl (by omega) ?_
      refine St.assign rfl rfl ?_
      refine St.done ?_
      refine SX.blk ?_
      refine SX.seq ?_
      refine SC.plain ?_
      refine St.move rfl rfl ?_
      first | refine St.addN (b := 1) rfl rfl rfl (by omega) ?_ | refine St.addI rfl rfl rfl (by omega) ?_
      refine St.assign rfl rfl ?_
      refine St.done ?_
      refine SX.drop ?_
      exact SX.again (i + 1, v2, E2) ⟨by simp only; omega, hb2⟩ (by simp only; omega) ⟨rfl, rfl, rfl, rfl, rfl, by rw [fal_succ, if_neg hb]; rfl, trivial⟩ (List.Perm.refl _)
  · obtain rfl : i = n := by omega
    refine SC.exit ?_
    refine SX.seq_exit ?_
    refine SX.seq_exit ?_
    refine SX.hit ?_
    refine SX.seq ?_
    refine SC.seq ?_
    refine SC.plain ?_
    refine St.move rfl rfl ?_
    refine St.call [_, _] rfl (by kernel_rfl) rfl (lengths_spec w0 (E :: L) _ (fcs bs c i) 15 (by rw [fcs_len]; exact hbf.rd (by simp))) (fun _ _ _ _ h => h.nil) ?_
    rintro r1 L1 (⟨hbad, _, _⟩ | ⟨hnb, v, E2, f, rfl, rfl, hbf2, hL⟩)
    · exact absurd hbad (fcs_good bs hc1 hc2 (by omega))
    rw [fcs_len] at hbf2
    obtain ⟨bv, ov, Av, cv, rfl, hAv, hh⟩ := hbf2.read
    have hf0 := hh w0 (E2 :: E :: L) (by simp)
    obtain ⟨b7, o7, A7, c7, rfl, hA7, hh70⟩ := hbf.read
    have hh7 := hh70 w0 (E2 :: E :: L) (by simp)
    obtain ⟨p1, p2, p3, p4, p5⟩ := flat_law hnb hL (fun i1 j1 hi1 hj1 h1 h2 => by rw [fcs_len] at hi1 hj1; rw [fcs_get hi1] at h1 ⊢; rw [fcs_get hj1] at h2 ⊢; split at h1 <;> split at h2 <;> simp_all)
    rw [fcs_len] at p1
    refine St.move rfl rfl ?_
    refine St.extract rfl rfl rfl ?_
    refine St.extract rfl rfl rfl ?_
    refine St.assign rfl rfl ?_
    refine St.assign rfl rfl ?_
    refine St.done ?_
    refine SX.seq ?_
    refine SC.seq ?_
    refine SC.seq ?_
    refine SC.plain ?_
    refine St.move rfl rfl ?_
    refine St.neq rfl rfl rfl ?_
    refine St.move rfl rfl ?_
    refine St.split 53 rfl (fun g53 => ?_) (fun g53 => ?_)
    · exfalso; omega
    · refine St.guard_yes rfl rfl ?_
      refine St.move rfl rfl ?_
      refine St.guard_yes rfl rfl ?_
      refine St.lenSl rfl rfl (by kernel_rfl) ?_
      refine St.guard_yes rfl rfl ?_
      refine St.move rfl rfl ?_
      refine St.guard_yes rfl rfl ?_
      refine St.neq rfl rfl rfl ?_
      refine St.pick_false rfl rfl rfl ?_
      refine St.done ?_
      refine SX.seq ?_
      refine SC.condp rfl (fun c58 => ?_) (fun c58 => ?_)
      · exfalso; omega
      · refine SC.skip ?_
        refine SX.seq ?_
        refine SC.seq ?_
        refine SC.plain ?_
        refine St.assign rfl rfl ?_
        refine St.assign rfl rfl ?_
        refine St.done ?_
        refine SX.seq ?_
        refine SC.seq ?_
        refine SC.seq ?_
        refine SC.plain ?_
        refine St.assign rfl rfl ?_
        refine St.done ?_
        refine SX.seq ?_
        refine SC.block ?_
        refine SC.loop (α := Nat × Nat × Nat) (fun s => s.1 ≤ i ∧ (∀ k, k < s.1 → 0 < f k → s.2.1 ≤ f k ∧ f k ≤ s.2.2) ∧ ((s.2.1 = 99 ∧ s.2.2 = 0 ∧ ∀ k, k < s.1 → f k = 0) ∨ (∃ k1 k2, k1 < s.1 ∧ k2 < s.1 ∧ 0 < f k1 ∧ 0 < f k2 ∧ f k1 = s.2.1 ∧ f k2 = s.2.2))) (fun s => [(0, .int .i64 ((i : Nat) : Int)), (7, .slice A7 i c7), (8, .int .i64 ((fal bs i : Nat) : Int)), (10, .slice Av i cv), (14, .int .i64 ((s.1 : Nat) : Int)), (12, .int .i64 ((s.2.1 : Nat) : Int)), (13, .int .i64 ((s.2.2 : Nat) : Int))]) (fun _ => E2 :: E :: L) (fun s => i - s.1) (0, 99, 0) ⟨Nat.zero_le _, by intro k hk; simp only at hk; omega, .inl ⟨rfl, rfl, by intro k hk; simp only at hk; omega⟩⟩ ⟨rfl, rfl, rfl, rfl, rfl, rfl, rfl, trivial⟩ (List.Perm.refl _) ?_
        rintro ⟨j, s, l⟩ ⟨hj, hq1, hq2⟩
        simp only at hj hq1 hq2 ⊢
        refine SC.seq ?_
        refine SC.seq ?_
        refine SC.plain ?_
        refine St.move rfl rfl ?_
        refine St.move rfl rfl ?_
        refine St.lss rfl rfl rfl ?_
        refine St.done ?_
        refine SX.seq ?_
        refine SC.condp rfl (fun c61 => ?_) (fun c61 => ?_)
        · refine SC.skip ?_
          refine SX.seq ?_
          refine SC.seq ?_
          refine SC.block ?_
          refine SC.seq ?_
          refine SC.seq ?_
          obtain rfl := hA7 (by omega)
          obtain rfl := hAv (by omega)
          refine SC.drawn [(0, true), (1, true), (2, true), (3, true), (4, true), (5, true), (6, true), (7, true), (8, true), (9, true), (10, true)] [] (_) (by kernel_rfl) (by kernel_rfl) (fun _ h => h) ?_
          refine St.move rfl rfl ?_
          refine St.move rfl rfl ?_
          refine St.indexSl (e := 3) (sz := 1) rfl rfl rfl (by kernel_rfl) (by omega) ?_
          refine St.load rfl rfl (by kernel_rfl) (hf0.at j (lrow_get (by omega))) ?_
          refine St.gtr rfl rfl rfl ?_
          refine St.move rfl rfl ?_
          refine St.move rfl rfl ?_
          refine St.indexSl (e := 3) (sz := 1) rfl rfl rfl (by kernel_rfl) (by omega) ?_
          refine St.load rfl rfl (by kernel_rfl) (HoldsN.nat (xs := fcs bs c i) (k := .i64) hh7 j (by rw [fcs_len]; omega)) ?_
          refine St.gtr rfl rfl rfl ?_
          refine St.boolNeq rfl rfl rfl (by kernel_rfl) ?_
          refine St.done ?_
          refine SX.tail ?_
          refine St.done ?_
          refine SX.seq ?_
          refine SC.condp rfl (fun c74 => ?_) (fun c74 => ?_)
          · exact absurd (Bool.eq_iff_iff.2 (by simp only [decide_eq_true_eq]; have := p1 j (by omega); omega)) c74
          · refine SC.skip ?_
            refine SX.seq ?_
            refine SC.seq ?_
            refine SC.plain ?_
            refine St.move rfl rfl ?_
            refine St.move rfl rfl ?_
            refine St.indexSl (e := 3) (sz := 1) rfl rfl rfl (by kernel_rfl) (by omega) ?_
            refine St.load rfl rfl (by kernel_rfl) (hf0.at j (lrow_get (by omega))) ?_
            refine St.gtr rfl rfl rfl ?_
            refine St.done ?_
            refine SX.seq ?_
            refine SC.condp rfl (fun c79 => ?_) (fun c79 => ?_)
            · refine SC.drawn [(0, true), (1, true), (2, true), (3, true), (4, true), (5, true), (6, true), (7, true), (8, true), (9, true), (10, true), (11, true), (12, true), (13, true)] [] (_) (by kernel_rfl) (by kernel_rfl) (fun _ h => h) ?_
              refine St.move rfl rfl ?_
              refine St.move rfl rfl ?_
              refine St.move rfl rfl ?_
              refine St.indexSl (e := 3) (sz := 1) rfl rfl rfl (by kernel_rfl) (by omega) ?_
              refine St.load rfl rfl (by kernel_rfl) (hf0.at j (lrow_get (by omega))) ?_
              refine St.min2 rfl rfl rfl ?_
              rw [show min ((s : Nat) : Int) ((f j : Nat) : Int) = ((min s (f j) : Nat) : Int) by omega]
              refine St.move rfl rfl ?_
              refine St.move rfl rfl ?_
              refine St.move rfl rfl ?_
              refine St.indexSl (e := 3) (sz := 1) rfl rfl rfl (by kernel_rfl) (by omega) ?_
              refine St.load rfl rfl (by kernel_rfl) (hf0.at j (lrow_get (by omega))) ?_
              refine St.max2 rfl rfl rfl ?_
              rw [show max ((l : Nat) : Int) ((f j : Nat) : Int) = ((max l (f j) : Nat) : Int) by omega]
              refine St.assign rfl rfl ?_
              refine St.assign rfl rfl ?_
              refine St.done ?_
              refine SX.tail ?_
              refine St.done ?_
              refine SX.blk ?_
              refine SX.seq ?_
              refine SC.plain ?_
              refine St.move rfl rfl ?_
              first | refine St.addN (b := 1) rfl rfl rfl (by omega) ?_ | refine St.addI rfl rfl rfl (by omega) ?_
              refine St.assign rfl rfl ?_
              refine St.done ?_
              exact SX.again (j + 1, min s (f j), max l (f j)) ⟨by simp only; omega, fun k hk h0 => by simp only at hk ⊢; by_cases hkj : k = j; subst hkj; omega; have := hq1 k (by omega) h0; omega, .inr (flat_next (by omega) hq1 hq2 (p2 j))⟩ (by simp only; omega) ⟨rfl, rfl, rfl, rfl, rfl, rfl, rfl, trivial⟩ (List.Perm.refl _)
            · refine SC.skip ?_
              refine SX.blk ?_
              refine SX.seq ?_
              refine SC.plain ?_
              refine St.move rfl rfl ?_
              first | refine St.addN (b := 1) rfl rfl rfl (by omega) ?_ | refine St.addI rfl rfl rfl (by omega) ?_
              refine St.assign rfl rfl ?_
              refine St.done ?_
              have hfj : f j = 0 := by omega
              exact SX.again (j + 1, s, l) ⟨by simp only; omega, fun k hk h0 => by simp only at hk ⊢; by_cases hkj : k = j; subst hkj; omega; exact hq1 k (by omega) h0, by rcases hq2 with ⟨h1, h2, h3⟩ | ⟨k1, k2, h1, h2, h3⟩; exact .inl ⟨h1, h2, fun k hk => by simp only at hk; by_cases hkj : k = j; subst hkj; exact hfj; exact h3 k (by omega)⟩; exact .inr ⟨k1, k2, by simp only; omega, by simp only; omega, h3⟩⟩ (by simp only; omega) ⟨rfl, rfl, rfl, rfl, rfl, rfl, rfl, trivial⟩ (List.Perm.refl _)
        · obtain rfl : j = i := by omega
          have hfin := flat_end hc1 hc2 (by omega) hL hq1 hq2
          refine SC.exit ?_
          refine SX.seq_exit ?_
          refine SX.seq_exit ?_
          refine SX.hit ?_
          refine SX.seq ?_
          refine SC.seq ?_
          refine SC.plain ?_
          refine St.move rfl rfl ?_
          refine St.eql rfl rfl rfl ?_
          refine St.move rfl rfl ?_
          refine St.split 94 rfl (fun g94 => ?_) (fun g94 => ?_)
          · refine St.guard_no rfl rfl rfl ?_
            refine St.guard_no rfl rfl rfl ?_
            refine St.guard_no rfl rfl rfl ?_
            refine St.guard_no rfl rfl rfl ?_
            refine St.guard_no rfl rfl rfl ?_
            refine St.guard_none rfl rfl rfl ?_
            refine St.guard_none rfl rfl rfl ?_
            refine St.guard_none rfl rfl rfl ?_
            refine St.guard_none rfl rfl rfl ?_
            refine St.guard_none rfl rfl rfl ?_
            refine St.guard_none rfl rfl rfl ?_
            refine St.guard_no rfl rfl rfl ?_
            refine St.guard_no rfl rfl rfl ?_
            refine St.guard_none rfl rfl rfl ?_
            refine St.guard_none rfl rfl rfl ?_
            refine St.guard_none rfl rfl rfl ?_
            refine St.guard_none rfl rfl rfl ?_
            refine St.guard_no rfl rfl rfl ?_
            refine St.pick_true rfl rfl rfl ?_
            refine St.move rfl rfl ?_
            refine St.guard_yes rfl rfl ?_
            refine St.call [] rfl (by kernel_rfl) rfl (awake5_spec w0 _) (fun _ _ _ _ h => h.nil) ?_
            rintro ra La ⟨rfl, rfl⟩
            refine St.pick_true rfl rfl rfl ?_
            refine St.assign rfl rfl ?_
            refine St.done ?_
            refine SX.seq ?_
            refine SC.ret ?_
            exact SX.ret1 rfl rfl rfl
          · refine St.guard_yes rfl rfl ?_
            refine St.move rfl rfl ?_
            refine St.guard_yes rfl rfl ?_
            refine St.move rfl rfl ?_
            refine St.guard_yes rfl rfl ?_
            refine St.subN rfl rfl rfl (by omega) (by omega) ?_
            refine St.guard_yes rfl rfl ?_
            refine St.leq rfl rfl rfl ?_
            refine St.guard_yes rfl rfl ?_
            refine St.move rfl rfl ?_
            refine St.split 99 rfl (fun g99 => ?_) (fun g99 => ?_)
            · refine St.guard_yes rfl rfl ?_
              refine St.move rfl rfl ?_
              refine St.guard_yes rfl rfl ?_
              refine St.gtr rfl rfl rfl ?_
              refine St.guard_yes rfl rfl ?_
              refine St.move rfl rfl ?_
              refine St.split 102 rfl (fun g102 => ?_) (fun g102 => ?_)
              · refine St.guard_no rfl rfl rfl ?_
                refine St.guard_no rfl rfl rfl ?_
                refine St.guard_yes rfl rfl ?_
                refine St.pick_true rfl rfl rfl ?_
                refine St.guard_yes rfl rfl ?_
                refine St.pick_true rfl rfl rfl ?_
                refine St.guard_yes rfl rfl ?_
                refine St.move rfl rfl ?_
                refine St.guard_yes rfl rfl ?_
                refine St.move rfl rfl ?_
                refine St.guard_yes rfl rfl ?_
                refine St.shlN (a := 1) rfl rfl rfl (by omega) (by omega) ?_
                refine St.guard_yes rfl rfl ?_
                refine St.move rfl rfl ?_
                refine St.guard_yes rfl rfl ?_
                refine St.geq rfl rfl rfl ?_
                refine St.guard_yes rfl rfl ?_
                refine St.pick_true rfl rfl rfl ?_
                refine St.pick_false rfl rfl rfl ?_
                refine St.move rfl rfl ?_
                refine St.split 114 rfl (fun g114 => ?_) (fun g114 => ?_)
                · refine St.guard_yes rfl rfl ?_
                  refine St.call [] rfl (by kernel_rfl) rfl (awake5_spec w0 _) (fun _ _ _ _ h => h.nil) ?_
                  rintro ra La ⟨rfl, rfl⟩
                  refine St.pick_true rfl rfl rfl ?_
                  refine St.assign rfl rfl ?_
                  refine St.done ?_
                  refine SX.seq ?_
                  refine SC.ret ?_
                  exact SX.ret1 rfl rfl rfl
                · exfalso; omega
              · refine St.guard_yes rfl rfl ?_
                refine St.move rfl rfl ?_
                refine St.guard_yes rfl rfl ?_
                refine St.eql rfl rfl rfl ?_
                refine St.guard_yes rfl rfl ?_
                refine St.pick_false rfl rfl rfl ?_
                refine St.guard_yes rfl rfl ?_
                refine St.pick_true rfl rfl rfl ?_
                refine St.guard_yes rfl rfl ?_
                refine St.move rfl rfl ?_
                refine St.split 107 rfl (fun g107 => ?_) (fun g107 => ?_)
                · refine St.guard_yes rfl rfl ?_
                  refine St.move rfl rfl ?_
                  refine St.guard_yes rfl rfl ?_
                  refine St.shlN (a := 1) rfl rfl rfl (by omega) (by omega) ?_
                  refine St.guard_yes rfl rfl ?_
                  refine St.move rfl rfl ?_
                  refine St.guard_yes rfl rfl ?_
                  refine St.geq rfl rfl rfl ?_
                  refine St.guard_yes rfl rfl ?_
                  refine St.pick_true rfl rfl rfl ?_
                  refine St.pick_false rfl rfl rfl ?_
                  refine St.move rfl rfl ?_
                  refine St.split 114 rfl (fun g114 => ?_) (fun g114 => ?_)
                  · refine St.guard_yes rfl rfl ?_
                    refine St.call [] rfl (by kernel_rfl) rfl (awake5_spec w0 _) (fun _ _ _ _ h => h.nil) ?_
                    rintro ra La ⟨rfl, rfl⟩
                    refine St.pick_true rfl rfl rfl ?_
                    refine St.assign rfl rfl ?_
                    refine St.done ?_
                    refine SX.seq ?_
                    refine SC.ret ?_
                    exact SX.ret1 rfl rfl rfl
                  · exfalso; omega
                · exfalso; omega
            · exfalso; omega
end Go.Proofs.Ytahafepgmkiabaa
