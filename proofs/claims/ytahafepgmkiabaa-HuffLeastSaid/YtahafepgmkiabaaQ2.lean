/- Walks: the law HuffLeast. -/
import Derived.Test.YtahafepgmkiabaaQ1
import Derived.Test.YtahafepgmkiabaaH5
set_option linter.unusedVariables false
set_option linter.unusedSimpArgs false
set_option linter.ambiguousOpen false
namespace Go.Proofs.Ytahafepgmkiabaa
open Go Go.Proofs.Ytahafepgmkiabaa.Sep

theorem huffLeast_spec (w0 : World) (L : List Chunk) (u : Value) (cs : List Int) (most : Int) (hr : Rd w0 L u 1 cs.length (ints cs)) (hl : cs.length ≤ 4611686018427387904) :
    Meets Try.prog 15 #[u, .int .i64 most] w0 L (fun r L' => r = .bool true) := by
  have hr0 := hr
  obtain ⟨_, bcs, ocs, Ac, cc, rfl, hAc, hcs⟩ := hr
  refine Meets.of_body [.slice Ac cs.length cc, .int .i64 most] Try.func15 rfl Try.ntmps15 rfl ?_
  refine SC.seq ?_
  refine SC.plain ?_
  refine St.assign rfl rfl ?_
  refine St.done ?_
  refine SX.seq ?_
  refine SC.seq ?_
  refine SC.plain ?_
  refine St.move rfl rfl ?_
  refine St.move rfl rfl ?_
  refine St.call [_, _] rfl (by kernel_rfl) rfl (lengths_spec w0 L _ cs most hr0) (fun _ _ _ _ h => h.nil) ?_
  rintro r1 L1 (⟨hbad, rfl, rfl⟩ | ⟨hnb, v, E, f, rfl, rfl, hbf, hL⟩)
  · refine St.move rfl rfl ?_
    refine St.extract rfl rfl rfl ?_
    refine St.extract rfl rfl rfl ?_
    refine St.assign rfl rfl ?_
    refine St.assign rfl rfl ?_
    refine St.done ?_
    refine SX.seq ?_
    refine SC.seq ?_
    refine SC.plain ?_
    refine St.assign rfl rfl ?_
    refine St.done ?_
    refine SX.seq ?_
    refine SC.join (α := Bool) (fun b => b = true ↔ BadTo cs most 0) (fun b => [(0, .slice Ac cs.length cc), (1, .int .i64 most), (5, .slice none 0 0), (6, .int .i64 1), (7, .int .i64 0), (8, .bool b)]) (fun _ => L1) ?_ ?_
    · rintro b0 hb0
      refine SC.seq ?_
      refine SC.seq ?_
      refine SC.plain ?_
      refine St.assign rfl rfl ?_
      refine St.done ?_
      refine SX.seq ?_
      refine SC.block ?_
      refine SC.loop (α := Nat × Bool) (fun s => s.1 ≤ cs.length ∧ (s.2 = true ↔ BadTo cs most s.1)) (fun s => [(0, .slice Ac cs.length cc), (1, .int .i64 most), (5, .slice none 0 0), (6, .int .i64 1), (7, .int .i64 (((coinsTo cs s.1).length : Nat) : Int)), (8, .bool s.2), (9, .int .i64 ((s.1 : Nat) : Int))]) (fun _ => L1) (fun s => cs.length - s.1) (0, b0) ⟨Nat.zero_le _, hb0⟩ ⟨rfl, rfl, rfl, rfl, rfl, rfl, rfl, trivial⟩ (List.Perm.refl _) ?_
      rintro ⟨i, b⟩ ⟨hi, hb⟩
      simp only at hi hb ⊢
      refine SC.seq ?_
      refine SC.seq ?_
      refine SC.plain ?_
      refine St.move rfl rfl ?_
      refine St.move rfl rfl ?_
      refine St.lenSl rfl rfl (by kernel_rfl) ?_
      refine St.lss rfl rfl rfl ?_
      refine St.done ?_
      refine SX.seq ?_
      refine SC.condp rfl (fun c31 => ?_) (fun c31 => ?_)
      · obtain rfl := hAc (by omega)
        have hcl := coinsTo_le cs i
        refine SC.skip ?_
        refine SX.seq ?_
        refine SC.seq ?_
        refine SC.block ?_
        refine SC.join (α := Bool) (fun b => b = true ↔ BadTo cs most (i + 1)) (fun b => [(0, .slice (some ⟨bcs, ocs, none⟩) cs.length cc), (1, .int .i64 most), (5, .slice none 0 0), (6, .int .i64 1), (7, .int .i64 (((coinsTo cs i).length : Nat) : Int)), (8, .bool b), (9, .int .i64 ((i : Nat) : Int))]) (fun _ => L1) ?_ ?_
        · rintro b2 hb2
          refine SC.seq ?_
          refine SC.plain ?_
          refine St.move rfl rfl ?_
          refine St.move rfl rfl ?_
          refine St.indexSl (e := 3) (sz := 1) rfl rfl rfl (by kernel_rfl) (by omega) ?_
          refine St.load rfl rfl (by kernel_rfl) (HoldsN.nat (xs := cs) (k := .i64) hcs i (by omega)) ?_
          refine St.gtr rfl rfl rfl ?_
          refine St.done ?_
          refine SX.seq ?_
          refine SC.condp rfl (fun c53 => ?_) (fun c53 => ?_)
          · refine SC.plain ?_
            refine St.move rfl rfl ?_
            first | refine St.addN (b := 1) rfl rfl rfl (by omega) ?_ | refine St.addI rfl rfl rfl (by omega) ?_
            refine St.assign rfl rfl ?_
            refine St.done ?_
            refine SX.blk ?_
            refine SX.seq ?_
            refine SC.plain ?_
            refine St.move rfl rfl ?_
            first | refine St.addN (b := 1) rfl rfl rfl (by omega) ?_ | refine St.addI rfl rfl rfl (by omega) ?_
            refine St.assign rfl rfl ?_
            refine St.done ?_
            exact SX.again (i + 1, b2) ⟨by simp only; omega, hb2⟩ (by simp only; omega) ⟨rfl, rfl, rfl, rfl, by rw [coinsTo_yes (by omega), List.length_append]; rfl, rfl, rfl, trivial⟩ (List.Perm.refl _)
          · refine SC.skip ?_
            refine SX.blk ?_
            refine SX.seq ?_
            refine SC.plain ?_
            refine St.move rfl rfl ?_
            first | refine St.addN (b := 1) rfl rfl rfl (by omega) ?_ | refine St.addI rfl rfl rfl (by omega) ?_
            refine St.assign rfl rfl ?_
            refine St.done ?_
            exact SX.again (i + 1, b2) ⟨by simp only; omega, hb2⟩ (by simp only; omega) ⟨rfl, rfl, rfl, rfl, by rw [coinsTo_no (by omega)]; rfl, rfl, rfl, trivial⟩ (List.Perm.refl _)
        · refine SC.plain ?_
          refine St.move rfl rfl ?_
          refine St.move rfl rfl ?_
          refine St.splitB 35 rfl (fun g35 => ?_) (fun g35 => ?_)
          · refine St.guard_no rfl rfl rfl ?_
            refine St.guard_no rfl rfl rfl ?_
            refine St.guard_no rfl rfl rfl ?_
            refine St.guard_no rfl rfl rfl ?_
            refine St.guard_no rfl rfl rfl ?_
            refine St.pick_true rfl rfl rfl ?_
            refine St.move rfl rfl ?_
            refine St.guard_no rfl rfl rfl ?_
            refine St.guard_no rfl rfl rfl ?_
            refine St.guard_no rfl rfl rfl ?_
            refine St.guard_no rfl rfl rfl ?_
            refine St.guard_no rfl rfl rfl ?_
            refine St.pick_true rfl rfl rfl ?_
            refine St.assign rfl rfl ?_
            refine St.done ?_
            exact SX.some true ⟨fun _ => badTo_next.2 (.inl (hb.1 g35)), fun _ => rfl⟩ ⟨rfl, rfl, rfl, rfl, rfl, rfl, rfl, trivial⟩ (List.Perm.refl _)
          · refine St.guard_yes rfl rfl ?_
            refine St.move rfl rfl ?_
            refine St.guard_yes rfl rfl ?_
            refine St.move rfl rfl ?_
            refine St.guard_yes rfl rfl ?_
            refine St.indexSl (e := 3) (sz := 1) rfl rfl rfl (by kernel_rfl) (by omega) ?_
            refine St.guard_yes rfl rfl ?_
            refine St.load rfl rfl (by kernel_rfl) (HoldsN.nat (xs := cs) (k := .i64) hcs i (by omega)) ?_
            refine St.guard_yes rfl rfl ?_
            refine St.lss rfl rfl rfl ?_
            refine St.pick_false rfl rfl rfl ?_
            refine St.move rfl rfl ?_
            refine St.split 42 rfl (fun g42 => ?_) (fun g42 => ?_)
            · refine St.guard_no rfl rfl rfl ?_
              refine St.guard_no rfl rfl rfl ?_
              refine St.guard_no rfl rfl rfl ?_
              refine St.guard_no rfl rfl rfl ?_
              refine St.guard_no rfl rfl rfl ?_
              refine St.pick_true rfl rfl rfl ?_
              refine St.assign rfl rfl ?_
              refine St.done ?_
              exact SX.some true ⟨fun _ => badTo_next.2 (.inr (.inl (by omega))), fun _ => rfl⟩ ⟨rfl, rfl, rfl, rfl, rfl, rfl, rfl, trivial⟩ (List.Perm.refl _)
            · refine St.guard_yes rfl rfl ?_
              refine St.move rfl rfl ?_
              refine St.guard_yes rfl rfl ?_
              refine St.move rfl rfl ?_
              refine St.guard_yes rfl rfl ?_
              refine St.indexSl (e := 3) (sz := 1) rfl rfl rfl (by kernel_rfl) (by omega) ?_
              refine St.guard_yes rfl rfl ?_
              refine St.load rfl rfl (by kernel_rfl) (HoldsN.nat (xs := cs) (k := .i64) hcs i (by omega)) ?_
              refine St.guard_yes rfl rfl ?_
              refine St.gtr rfl rfl rfl ?_
              refine St.pick_false rfl rfl rfl ?_
              refine St.assign rfl rfl ?_
              refine St.done ?_
              exact SX.some (decide (cs.getD i 0 > 1073741824)) (by rw [decide_eq_true_eq, badTo_next, ← hb, g35]; exact ⟨fun h => .inr (.inr h), fun h => by rcases h with h | h | h; cases h; omega; exact h⟩) ⟨rfl, rfl, rfl, rfl, rfl, rfl, rfl, trivial⟩ (List.Perm.refl _)
      · obtain rfl : i = cs.length := by omega
        have hcl := coinsTo_le cs cs.length
        refine SC.exit ?_
        refine SX.seq_exit ?_
        refine SX.seq_exit ?_
        refine SX.hit ?_
        refine SX.seq ?_
        refine SC.seq ?_
        refine SC.plain ?_
        refine St.move rfl rfl ?_
        refine St.move rfl rfl ?_
        refine St.splitB 57 rfl (fun g57 => ?_) (fun g57 => ?_)
        · refine St.guard_no rfl rfl rfl ?_
          refine St.guard_no rfl rfl rfl ?_
          refine St.guard_no rfl rfl rfl ?_
          refine St.guard_no rfl rfl rfl ?_
          refine St.pick_true rfl rfl rfl ?_
          refine St.assign rfl rfl ?_
          refine St.done ?_
          refine SX.seq ?_
          refine SC.seq ?_
          refine SC.seq ?_
          refine SC.plain ?_
          refine St.move rfl rfl ?_
          refine St.done ?_
          refine SX.seq ?_
          refine SC.cond_true rfl ?_
          refine SC.seq ?_
          refine SC.plain ?_
          refine St.move rfl rfl ?_
          refine St.eql rfl rfl rfl ?_
          refine St.move rfl rfl ?_
          refine St.split 66 rfl (fun g66 => ?_) (fun g66 => ?_)
          · refine St.guard_yes rfl rfl ?_
            refine St.move rfl rfl ?_
            refine St.guard_yes rfl rfl ?_
            refine St.lenSl rfl rfl (by kernel_rfl) ?_
            refine St.guard_yes rfl rfl ?_
            refine St.eql rfl rfl rfl ?_
            refine St.pick_true rfl rfl rfl ?_
            refine St.move rfl rfl ?_
            refine St.split 71 rfl (fun g71 => ?_) (fun g71 => ?_)
            · refine St.guard_yes rfl rfl ?_
              refine St.call [] rfl (by kernel_rfl) rfl (awake5_spec w0 _) (fun _ _ _ _ h => h.nil) ?_
              rintro ra La ⟨rfl, rfl⟩
              refine St.pick_true rfl rfl rfl ?_
              refine St.assign rfl rfl ?_
              refine St.done ?_
              refine SX.seq ?_
              refine SC.ret ?_
              refine SX.seq_ret ?_
              exact SX.ret1 rfl rfl rfl
            · exfalso; omega
          · exfalso; omega
        · have hnt : ¬ BadTo cs most cs.length := fun h => by rw [hb.2 h] at g57; cases g57
          have hmm : 1 ≤ most ∧ most ≤ 15 ∧ cs.length ≤ 400 := ⟨by rcases Int.lt_or_le most 1 with h | h; exact absurd (.inl h) hnt; exact h, by rcases Int.lt_or_le 15 most with h | h; exact absurd (.inr (.inl h)) hnt; exact h, by rcases Nat.lt_or_ge 400 cs.length with h | h; exact absurd (.inr (.inr (.inl h))) hnt; exact h⟩
          have hpow : 2 ^ most.toNat ≤ 2 ^ 15 := Nat.pow_le_pow_right (by omega) (by omega)
          rw [show 2 ^ 15 = 32768 from rfl] at hpow
          refine St.guard_yes rfl rfl ?_
          refine St.move rfl rfl ?_
          refine St.guard_yes rfl rfl ?_
          refine St.move rfl rfl ?_
          refine St.guard_yes rfl rfl ?_
          refine St.shlN (a := 1) (b := most.toNat) rfl rfl (by rw [show ((most.toNat : Nat) : Int) = most by omega]; rfl) (by omega) (by omega) ?_
          refine St.guard_yes rfl rfl ?_
          refine St.gtr rfl rfl rfl ?_
          refine St.pick_false rfl rfl rfl ?_
          refine St.assign rfl rfl ?_
          refine St.done ?_
          refine SX.seq ?_
          refine SC.seq ?_
          refine SC.seq ?_
          refine SC.plain ?_
          refine St.move rfl rfl ?_
          refine St.done ?_
          refine SX.seq ?_
          refine SC.condp rfl (fun c63 => ?_) (fun c63 => ?_)
          · refine SC.seq ?_
            refine SC.plain ?_
            refine St.move rfl rfl ?_
            refine St.eql rfl rfl rfl ?_
            refine St.move rfl rfl ?_
            refine St.split 66 rfl (fun g66 => ?_) (fun g66 => ?_)
            · refine St.guard_yes rfl rfl ?_
              refine St.move rfl rfl ?_
              refine St.guard_yes rfl rfl ?_
              refine St.lenSl rfl rfl (by kernel_rfl) ?_
              refine St.guard_yes rfl rfl ?_
              refine St.eql rfl rfl rfl ?_
              refine St.pick_true rfl rfl rfl ?_
              refine St.move rfl rfl ?_
              refine St.split 71 rfl (fun g71 => ?_) (fun g71 => ?_)
              · refine St.guard_yes rfl rfl ?_
                refine St.call [] rfl (by kernel_rfl) rfl (awake5_spec w0 _) (fun _ _ _ _ h => h.nil) ?_
                rintro ra La ⟨rfl, rfl⟩
                refine St.pick_true rfl rfl rfl ?_
                refine St.assign rfl rfl ?_
                refine St.done ?_
                refine SX.seq ?_
                refine SC.ret ?_
                refine SX.seq_ret ?_
                exact SX.ret1 rfl rfl rfl
              · exfalso; omega
            · exfalso; omega
          · exact absurd (badL_to.1 hbad) (by rintro (h | h); exact hnt h; omega)
    · refine SC.plain ?_
      refine St.move rfl rfl ?_
      refine St.lss rfl rfl rfl ?_
      refine St.move rfl rfl ?_
      refine St.split 19 rfl (fun g19 => ?_) (fun g19 => ?_)
      · refine St.guard_no rfl rfl rfl ?_
        refine St.guard_no rfl rfl rfl ?_
        refine St.pick_true rfl rfl rfl ?_
        refine St.move rfl rfl ?_
        refine St.guard_no rfl rfl rfl ?_
        refine St.guard_no rfl rfl rfl ?_
        refine St.guard_no rfl rfl rfl ?_
        refine St.pick_true rfl rfl rfl ?_
        refine St.assign rfl rfl ?_
        refine St.done ?_
        exact SX.some true ⟨fun _ => badTo_zero.2 (.inl (by omega)), fun _ => rfl⟩ ⟨rfl, rfl, rfl, rfl, rfl, rfl, trivial⟩ (List.Perm.refl _)
      · refine St.guard_yes rfl rfl ?_
        refine St.move rfl rfl ?_
        refine St.guard_yes rfl rfl ?_
        refine St.gtr rfl rfl rfl ?_
        refine St.pick_false rfl rfl rfl ?_
        refine St.move rfl rfl ?_
        refine St.split 23 rfl (fun g23 => ?_) (fun g23 => ?_)
        · refine St.guard_no rfl rfl rfl ?_
          refine St.guard_no rfl rfl rfl ?_
          refine St.guard_no rfl rfl rfl ?_
          refine St.pick_true rfl rfl rfl ?_
          refine St.assign rfl rfl ?_
          refine St.done ?_
          exact SX.some true ⟨fun _ => badTo_zero.2 (.inr (.inl (by omega))), fun _ => rfl⟩ ⟨rfl, rfl, rfl, rfl, rfl, rfl, trivial⟩ (List.Perm.refl _)
        · refine St.guard_yes rfl rfl ?_
          refine St.move rfl rfl ?_
          refine St.guard_yes rfl rfl ?_
          refine St.lenSl rfl rfl (by kernel_rfl) ?_
          refine St.guard_yes rfl rfl ?_
          refine St.gtr rfl rfl rfl ?_
          refine St.pick_false rfl rfl rfl ?_
          refine St.assign rfl rfl ?_
          refine St.done ?_
          exact SX.some (decide (((cs.length : Nat) : Int) > 400)) (by rw [decide_eq_true_eq, badTo_zero]; omega) ⟨rfl, rfl, rfl, rfl, rfl, rfl, trivial⟩ (List.Perm.refl _)
  · obtain ⟨bv, ov, Av, cv, rfl, hAv, hh⟩ := hbf.read
    have hf0 := hh w0 (E :: L) (by simp)
    refine St.move rfl rfl ?_
    refine St.extract rfl rfl rfl ?_
    refine St.extract rfl rfl rfl ?_
    refine St.assign rfl rfl ?_
    refine St.assign rfl rfl ?_
    refine St.done ?_
    refine SX.seq ?_
    refine SC.seq ?_
    refine SC.plain ?_
    refine St.assign rfl rfl ?_
    refine St.done ?_
    refine SX.seq ?_
    refine SC.join (α := Bool) (fun b => b = true ↔ BadTo cs most 0) (fun b => [(0, .slice Ac cs.length cc), (1, .int .i64 most), (5, .slice Av cs.length cv), (6, .int .i64 0), (7, .int .i64 0), (8, .bool b)]) (fun _ => E :: L) ?_ ?_
    · rintro b0 hb0
      refine SC.seq ?_
      refine SC.seq ?_
      refine SC.plain ?_
      refine St.assign rfl rfl ?_
      refine St.done ?_
      refine SX.seq ?_
      refine SC.block ?_
      refine SC.loop (α := Nat × Bool) (fun s => s.1 ≤ cs.length ∧ (s.2 = true ↔ BadTo cs most s.1)) (fun s => [(0, .slice Ac cs.length cc), (1, .int .i64 most), (5, .slice Av cs.length cv), (6, .int .i64 0), (7, .int .i64 (((coinsTo cs s.1).length : Nat) : Int)), (8, .bool s.2), (9, .int .i64 ((s.1 : Nat) : Int))]) (fun _ => E :: L) (fun s => cs.length - s.1) (0, b0) ⟨Nat.zero_le _, hb0⟩ ⟨rfl, rfl, rfl, rfl, rfl, rfl, rfl, trivial⟩ (List.Perm.refl _) ?_
      rintro ⟨i, b⟩ ⟨hi, hb⟩
      simp only at hi hb ⊢
      refine SC.seq ?_
      refine SC.seq ?_
      refine SC.plain ?_
      refine St.move rfl rfl ?_
      refine St.move rfl rfl ?_
      refine St.lenSl rfl rfl (by kernel_rfl) ?_
      refine St.lss rfl rfl rfl ?_
      refine St.done ?_
      refine SX.seq ?_
      refine SC.condp rfl (fun c31 => ?_) (fun c31 => ?_)
      · obtain rfl := hAc (by omega)
        have hcl := coinsTo_le cs i
        refine SC.skip ?_
        refine SX.seq ?_
        refine SC.seq ?_
        refine SC.block ?_
        refine SC.join (α := Bool) (fun b => b = true ↔ BadTo cs most (i + 1)) (fun b => [(0, .slice (some ⟨bcs, ocs, none⟩) cs.length cc), (1, .int .i64 most), (5, .slice Av cs.length cv), (6, .int .i64 0), (7, .int .i64 (((coinsTo cs i).length : Nat) : Int)), (8, .bool b), (9, .int .i64 ((i : Nat) : Int))]) (fun _ => E :: L) ?_ ?_
        · rintro b2 hb2
          refine SC.seq ?_
          refine SC.plain ?_
          refine St.move rfl rfl ?_
          refine St.move rfl rfl ?_
          refine St.indexSl (e := 3) (sz := 1) rfl rfl rfl (by kernel_rfl) (by omega) ?_
          refine St.load rfl rfl (by kernel_rfl) (HoldsN.nat (xs := cs) (k := .i64) hcs.cons i (by omega)) ?_
          refine St.gtr rfl rfl rfl ?_
          refine St.done ?_
          refine SX.seq ?_
          refine SC.condp rfl (fun c53 => ?_) (fun c53 => ?_)
          · refine SC.plain ?_
            refine St.move rfl rfl ?_
            first | refine St.addN (b := 1) rfl rfl rfl (by omega) ?_ | refine St.addI rfl rfl rfl (by omega) ?_
            refine St.assign rfl rfl ?_
            refine St.done ?_
            refine SX.blk ?_
            refine SX.seq ?_
            refine SC.plain ?_
            refine St.move rfl rfl ?_
            first | refine St.addN (b := 1) rfl rfl rfl (by omega) ?_ | refine St.addI rfl rfl rfl (by omega) ?_
            refine St.assign rfl rfl ?_
            refine St.done ?_
            exact SX.again (i + 1, b2) ⟨by simp only; omega, hb2⟩ (by simp only; omega) ⟨rfl, rfl, rfl, rfl, by rw [coinsTo_yes (by omega), List.length_append]; rfl, rfl, rfl, trivial⟩ (List.Perm.refl _)
          · refine SC.skip ?_
            refine SX.blk ?_
            refine SX.seq ?_
            refine SC.plain ?_
            refine St.move rfl rfl ?_
            first | refine St.addN (b := 1) rfl rfl rfl (by omega) ?_ | refine St.addI rfl rfl rfl (by omega) ?_
            refine St.assign rfl rfl ?_
            refine St.done ?_
            exact SX.again (i + 1, b2) ⟨by simp only; omega, hb2⟩ (by simp only; omega) ⟨rfl, rfl, rfl, rfl, by rw [coinsTo_no (by omega)]; rfl, rfl, rfl, trivial⟩ (List.Perm.refl _)
        · refine SC.plain ?_
          refine St.move rfl rfl ?_
          refine St.move rfl rfl ?_
          refine St.splitB 35 rfl (fun g35 => ?_) (fun g35 => ?_)
          · refine St.guard_no rfl rfl rfl ?_
            refine St.guard_no rfl rfl rfl ?_
            refine St.guard_no rfl rfl rfl ?_
            refine St.guard_no rfl rfl rfl ?_
            refine St.guard_no rfl rfl rfl ?_
            refine St.pick_true rfl rfl rfl ?_
            refine St.move rfl rfl ?_
            refine St.guard_no rfl rfl rfl ?_
            refine St.guard_no rfl rfl rfl ?_
            refine St.guard_no rfl rfl rfl ?_
            refine St.guard_no rfl rfl rfl ?_
            refine St.guard_no rfl rfl rfl ?_
            refine St.pick_true rfl rfl rfl ?_
            refine St.assign rfl rfl ?_
            refine St.done ?_
            exact SX.some true ⟨fun _ => badTo_next.2 (.inl (hb.1 g35)), fun _ => rfl⟩ ⟨rfl, rfl, rfl, rfl, rfl, rfl, rfl, trivial⟩ (List.Perm.refl _)
          · refine St.guard_yes rfl rfl ?_
            refine St.move rfl rfl ?_
            refine St.guard_yes rfl rfl ?_
            refine St.move rfl rfl ?_
            refine St.guard_yes rfl rfl ?_
            refine St.indexSl (e := 3) (sz := 1) rfl rfl rfl (by kernel_rfl) (by omega) ?_
            refine St.guard_yes rfl rfl ?_
            refine St.load rfl rfl (by kernel_rfl) (HoldsN.nat (xs := cs) (k := .i64) hcs.cons i (by omega)) ?_
            refine St.guard_yes rfl rfl ?_
            refine St.lss rfl rfl rfl ?_
            refine St.pick_false rfl rfl rfl ?_
            refine St.move rfl rfl ?_
            refine St.split 42 rfl (fun g42 => ?_) (fun g42 => ?_)
            · refine St.guard_no rfl rfl rfl ?_
              refine St.guard_no rfl rfl rfl ?_
              refine St.guard_no rfl rfl rfl ?_
              refine St.guard_no rfl rfl rfl ?_
              refine St.guard_no rfl rfl rfl ?_
              refine St.pick_true rfl rfl rfl ?_
              refine St.assign rfl rfl ?_
              refine St.done ?_
              exact SX.some true ⟨fun _ => badTo_next.2 (.inr (.inl (by omega))), fun _ => rfl⟩ ⟨rfl, rfl, rfl, rfl, rfl, rfl, rfl, trivial⟩ (List.Perm.refl _)
            · refine St.guard_yes rfl rfl ?_
              refine St.move rfl rfl ?_
              refine St.guard_yes rfl rfl ?_
              refine St.move rfl rfl ?_
              refine St.guard_yes rfl rfl ?_
              refine St.indexSl (e := 3) (sz := 1) rfl rfl rfl (by kernel_rfl) (by omega) ?_
              refine St.guard_yes rfl rfl ?_
              refine St.load rfl rfl (by kernel_rfl) (HoldsN.nat (xs := cs) (k := .i64) hcs.cons i (by omega)) ?_
              refine St.guard_yes rfl rfl ?_
              refine St.gtr rfl rfl rfl ?_
              refine St.pick_false rfl rfl rfl ?_
              refine St.assign rfl rfl ?_
              refine St.done ?_
              exact SX.some (decide (cs.getD i 0 > 1073741824)) (by rw [decide_eq_true_eq, badTo_next, ← hb, g35]; exact ⟨fun h => .inr (.inr h), fun h => by rcases h with h | h | h; cases h; omega; exact h⟩) ⟨rfl, rfl, rfl, rfl, rfl, rfl, rfl, trivial⟩ (List.Perm.refl _)
      · obtain rfl : i = cs.length := by omega
        have hcl := coinsTo_le cs cs.length
        refine SC.exit ?_
        refine SX.seq_exit ?_
        refine SX.seq_exit ?_
        refine SX.hit ?_
        refine SX.seq ?_
        refine SC.seq ?_
        refine SC.plain ?_
        refine St.move rfl rfl ?_
        refine St.move rfl rfl ?_
        refine St.splitB 57 rfl (fun g57 => ?_) (fun g57 => ?_)
        · exact absurd (badL_to.2 (.inl (hb.1 g57))) hnb
        · have hnt : ¬ BadTo cs most cs.length := fun h => by rw [hb.2 h] at g57; cases g57
          have hmm : 1 ≤ most ∧ most ≤ 15 ∧ cs.length ≤ 400 := ⟨by rcases Int.lt_or_le most 1 with h | h; exact absurd (.inl h) hnt; exact h, by rcases Int.lt_or_le 15 most with h | h; exact absurd (.inr (.inl h)) hnt; exact h, by rcases Nat.lt_or_ge 400 cs.length with h | h; exact absurd (.inr (.inr (.inl h))) hnt; exact h⟩
          have hpow : 2 ^ most.toNat ≤ 2 ^ 15 := Nat.pow_le_pow_right (by omega) (by omega)
          rw [show 2 ^ 15 = 32768 from rfl] at hpow
          refine St.guard_yes rfl rfl ?_
          refine St.move rfl rfl ?_
          refine St.guard_yes rfl rfl ?_
          refine St.move rfl rfl ?_
          refine St.guard_yes rfl rfl ?_
          refine St.shlN (a := 1) (b := most.toNat) rfl rfl (by rw [show ((most.toNat : Nat) : Int) = most by omega]; rfl) (by omega) (by omega) ?_
          refine St.guard_yes rfl rfl ?_
          refine St.gtr rfl rfl rfl ?_
          refine St.pick_false rfl rfl rfl ?_
          refine St.assign rfl rfl ?_
          refine St.done ?_
          refine SX.seq ?_
          refine SC.seq ?_
          refine SC.seq ?_
          refine SC.plain ?_
          refine St.move rfl rfl ?_
          refine St.done ?_
          refine SX.seq ?_
          refine SC.condp rfl (fun c63 => ?_) (fun c63 => ?_)
          · exact absurd (badL_to.2 (.inr (by omega))) hnb
          · refine SC.skip ?_
            refine SX.seq ?_
            refine SC.seq ?_
            refine SC.seq ?_
            refine SC.plain ?_
            refine St.move rfl rfl ?_
            refine St.neq rfl rfl rfl ?_
            refine St.move rfl rfl ?_
            refine St.split 76 rfl (fun g76 => ?_) (fun g76 => ?_)
            · exfalso; omega
            · refine St.guard_yes rfl rfl ?_
              refine St.move rfl rfl ?_
              refine St.guard_yes rfl rfl ?_
              refine St.lenSl rfl rfl (by kernel_rfl) ?_
              refine St.guard_yes rfl rfl ?_
              refine St.move rfl rfl ?_
              refine St.guard_yes rfl rfl ?_
              refine St.lenSl rfl rfl (by kernel_rfl) ?_
              refine St.guard_yes rfl rfl ?_
              refine St.neq rfl rfl rfl ?_
              refine St.pick_false rfl rfl rfl ?_
              refine St.done ?_
              refine SX.seq ?_
              refine SC.condp rfl (fun c82 => ?_) (fun c82 => ?_)
              · exfalso; omega
              · refine SC.skip ?_
                refine SX.seq ?_
                refine SC.seq ?_
                refine SC.seq ?_
                refine SC.plain ?_
                refine St.assign rfl rfl ?_
                refine St.done ?_
                refine SX.seq ?_
                refine SC.block ?_
                obtain ⟨hl1, hl2⟩ := least_each hnb hL
                refine SC.loop (α := Nat) (fun s => s ≤ cs.length) (fun s => [(0, .slice Ac cs.length cc), (1, .int .i64 most), (5, .slice Av cs.length cv), (7, .int .i64 (((coinsTo cs cs.length).length : Nat) : Int)), (10, .int .i64 ((s : Nat) : Int))]) (fun _ => E :: L) (fun s => cs.length - s) 0 (Nat.zero_le _) ⟨rfl, rfl, rfl, rfl, rfl, trivial⟩ (List.Perm.refl _) ?_
                rintro i hi2
                try simp only at hi2 ⊢
                refine SC.seq ?_
                refine SC.seq ?_
                refine SC.plain ?_
                refine St.move rfl rfl ?_
                refine St.move rfl rfl ?_
                refine St.lenSl rfl rfl (by kernel_rfl) ?_
                refine St.lss rfl rfl rfl ?_
                refine St.done ?_
                refine SX.seq ?_
                refine SC.condp rfl (fun c86 => ?_) (fun c86 => ?_)
                · refine SC.skip ?_
                  refine SX.seq ?_
                  refine SC.seq ?_
                  refine SC.block ?_
                  refine SC.seq ?_
                  obtain rfl := hAc (by omega)
                  obtain rfl := hAv (by omega)
                  have hl1i := hl1 i (by omega)
                  have hl2i := hl2 i
                  refine SC.drawn [(0, true), (1, true), (2, true), (3, true), (4, true), (5, true), (6, true), (7, true), (8, true), (9, true), (10, true), (11, true), (12, true), (13, true), (14, true), (15, true), (16, true), (17, true), (18, true), (19, true), (20, true), (21, true), (22, true), (23, true), (24, true), (25, true)] [] (_) (by kernel_rfl) (by kernel_rfl) (fun _ h => h) ?_
                  refine St.move rfl rfl ?_
                  refine St.move rfl rfl ?_
                  refine St.indexSl (e := 3) (sz := 1) rfl rfl rfl (by kernel_rfl) (by omega) ?_
                  refine St.load rfl rfl (by kernel_rfl) (hf0.at i (lrow_get (by omega))) ?_
                  refine St.gtr rfl rfl rfl ?_
                  refine St.move rfl rfl ?_
                  refine St.move rfl rfl ?_
                  refine St.indexSl (e := 3) (sz := 1) rfl rfl rfl (by kernel_rfl) (by omega) ?_
                  refine St.load rfl rfl (by kernel_rfl) (HoldsN.nat (xs := cs) (k := .i64) hcs.cons i (by omega)) ?_
                  refine St.gtr rfl rfl rfl ?_
                  refine St.boolNeq rfl rfl rfl (by kernel_rfl) ?_
                  refine St.move rfl rfl ?_
                  refine St.split 100 rfl (fun g100 => ?_) (fun g100 => ?_)
                  · exact absurd (Bool.eq_iff_iff.2 (by simp only [decide_eq_true_eq]; omega)) g100
                  · refine St.guard_yes rfl rfl ?_
                    refine St.move rfl rfl ?_
                    refine St.guard_yes rfl rfl ?_
                    refine St.move rfl rfl ?_
                    refine St.guard_yes rfl rfl ?_
                    refine St.indexSl (e := 3) (sz := 1) rfl rfl rfl (by kernel_rfl) (by omega) ?_
                    refine St.guard_yes rfl rfl ?_
                    refine St.load rfl rfl (by kernel_rfl) (hf0.at i (lrow_get (by omega))) ?_
                    refine St.guard_yes rfl rfl ?_
                    refine St.lss rfl rfl rfl ?_
                    refine St.pick_false rfl rfl rfl ?_
                    refine St.move rfl rfl ?_
                    refine St.split 107 rfl (fun g107 => ?_) (fun g107 => ?_)
                    · exfalso; omega
                    · refine St.guard_yes rfl rfl ?_
                      refine St.move rfl rfl ?_
                      refine St.guard_yes rfl rfl ?_
                      refine St.move rfl rfl ?_
                      refine St.guard_yes rfl rfl ?_
                      refine St.indexSl (e := 3) (sz := 1) rfl rfl rfl (by kernel_rfl) (by omega) ?_
                      refine St.guard_yes rfl rfl ?_
                      refine St.load rfl rfl (by kernel_rfl) (hf0.at i (lrow_get (by omega))) ?_
                      refine St.guard_yes rfl rfl ?_
                      refine St.move rfl rfl ?_
                      refine St.guard_yes rfl rfl ?_
                      refine St.gtr rfl rfl rfl ?_
                      refine St.pick_false rfl rfl rfl ?_
                      refine St.done ?_
                      refine SX.tail ?_
                      refine St.done ?_
                      refine SX.seq ?_
                      refine SC.condp rfl (fun c114 => ?_) (fun c114 => ?_)
                      · exfalso; omega
                      · refine SC.skip ?_
                        refine SX.blk ?_
                        refine SX.seq ?_
                        refine SC.plain ?_
                        refine St.move rfl rfl ?_
                        first | refine St.addN (b := 1) rfl rfl rfl (by omega) ?_ | refine St.addI rfl rfl rfl (by omega) ?_
                        refine St.assign rfl rfl ?_
                        refine St.done ?_
                        exact SX.again (i + 1) (show i + 1 ≤ cs.length by omega) (by omega) ⟨rfl, rfl, rfl, rfl, rfl, trivial⟩ (List.Perm.refl _)
                · refine SC.exit ?_
                  refine SX.seq_exit ?_
                  refine SX.seq_exit ?_
                  refine SX.hit ?_
                  refine SX.seq ?_
                  refine SC.seq ?_
                  refine SC.seq ?_
                  refine SC.plain ?_
                  refine St.move rfl rfl ?_
                  refine St.gtr rfl rfl rfl ?_
                  refine St.move rfl rfl ?_
                  refine St.split 117 rfl (fun g117 => ?_) (fun g117 => ?_)
                  · refine St.guard_yes rfl rfl ?_
                    refine St.move rfl rfl ?_
                    refine St.guard_yes rfl rfl ?_
                    refine St.call [_] rfl (by kernel_rfl) rfl (complete_spec w0 (E :: L) _ (fl cs.length f) (by rw [fl_len, fl_row]; exact hbf.rd (by simp)) (by rw [fl_len]; omega)) (fun _ _ _ _ h => h.nil) ?_
                    rintro r2 L2 ⟨rfl, rfl⟩
                    rw [least_whole hnb hL (by omega)]
                    refine St.guard_yes rfl rfl ?_
                    refine St.notB rfl rfl ?_
                    refine St.pick_true rfl rfl rfl ?_
                    refine St.done ?_
                    refine SX.seq ?_
                    refine SC.cond rfl (fun c121 => ?_) (fun c121 => ?_)
                    · cases c121
                    · refine SC.skip ?_
                      refine SX.seq ?_
                      refine SC.seq ?_
                      refine SC.plain ?_
                      refine St.move rfl rfl ?_
                      refine St.lenSl rfl rfl (by kernel_rfl) ?_
                      refine St.gtr rfl rfl rfl ?_
                      refine St.move rfl rfl ?_
                      refine St.split 125 rfl (fun g125 => ?_) (fun g125 => ?_)
                      · refine St.guard_no rfl rfl rfl ?_
                        refine St.guard_no rfl rfl rfl ?_
                        refine St.guard_no rfl rfl rfl ?_
                        refine St.guard_no rfl rfl rfl ?_
                        refine St.guard_no rfl rfl rfl ?_
                        refine St.guard_no rfl rfl rfl ?_
                        refine St.guard_no rfl rfl rfl ?_
                        refine St.pick_true rfl rfl rfl ?_
                        refine St.move rfl rfl ?_
                        refine St.guard_yes rfl rfl ?_
                        refine St.call [] rfl (by kernel_rfl) rfl (awake5_spec w0 _) (fun _ _ _ _ h => h.nil) ?_
                        rintro ra La ⟨rfl, rfl⟩
                        refine St.pick_true rfl rfl rfl ?_
                        refine St.assign rfl rfl ?_
                        refine St.done ?_
                        refine SX.seq ?_
                        refine SC.ret ?_
                        exact SX.ret1 rfl rfl rfl
                      · refine St.guard_yes rfl rfl ?_
                        refine St.move rfl rfl ?_
                        refine St.guard_yes rfl rfl ?_
                        refine St.move rfl rfl ?_
                        refine St.guard_yes rfl rfl ?_
                        refine St.call [_, _] rfl (by kernel_rfl) rfl (cost_spec w0 (E :: L) _ _ cs (fl cs.length f) hr0.cons (by rw [fl_len, fl_row]; exact hbf.rd (by simp)) (by omega) (by rw [fl_len]; omega) (bad_range hnb).2.1 (fun k => by rw [fl_get]; have := hl2 k; split <;> omega)) (fun _ _ _ _ h => h.nil) ?_
                        rintro r3 L3 ⟨rfl, rfl⟩
                        rw [fl_len, Nat.min_self]
                        refine St.guard_yes rfl rfl ?_
                        refine St.move rfl rfl ?_
                        refine St.guard_yes rfl rfl ?_
                        refine St.move rfl rfl ?_
                        refine St.guard_yes rfl rfl ?_
                        obtain ⟨Cs, hCu, hCa, hCf⟩ := least_cs hL
                        obtain ⟨m, rfl⟩ : ∃ m : Nat, most = (m : Int) := ⟨most.toNat, by omega⟩
                        rw [Int.toNat_natCast] at hCf
                        refine St.call [_, _] rfl (by kernel_rfl) rfl (least_spec w0 (E :: L) _ cs m hr0.cons (by omega) (by omega) (by omega) (bad_range hnb).2.1 (bad_range hnb).2.2 Cs hCu hCa) (fun _ _ _ _ h => h.nil) ?_
                        rintro r4 L4 h4
                        obtain rfl : r4 = .int .i64 (dot cs (fl cs.length f) cs.length) := by rcases h4 with ⟨h, rfl⟩ | ⟨h, rfl⟩; rw [least_one hnb hL h]; rw [hCf h]
                        refine St.guard_yes rfl rfl ?_
                        refine St.eql rfl rfl rfl ?_
                        refine St.pick_false rfl rfl rfl ?_
                        refine St.move rfl rfl ?_
                        refine St.split 134 rfl (fun g134 => ?_) (fun g134 => ?_)
                        · refine St.guard_yes rfl rfl ?_
                          refine St.call [] rfl (by kernel_rfl) rfl (awake5_spec w0 _) (fun _ _ _ _ h => h.nil) ?_
                          rintro ra La ⟨rfl, rfl⟩
                          refine St.pick_true rfl rfl rfl ?_
                          refine St.assign rfl rfl ?_
                          refine St.done ?_
                          refine SX.seq ?_
                          refine SC.ret ?_
                          exact SX.ret1 rfl rfl rfl
                        · exact absurd rfl g134
                  · refine St.guard_no rfl rfl rfl ?_
                    refine St.guard_no rfl rfl rfl ?_
                    refine St.guard_no rfl rfl rfl ?_
                    refine St.pick_false rfl rfl rfl ?_
                    refine St.done ?_
                    refine SX.seq ?_
                    refine SC.cond_false rfl ?_
                    refine SC.skip ?_
                    refine SX.seq ?_
                    refine SC.seq ?_
                    refine SC.plain ?_
                    refine St.move rfl rfl ?_
                    refine St.lenSl rfl rfl (by kernel_rfl) ?_
                    refine St.gtr rfl rfl rfl ?_
                    refine St.move rfl rfl ?_
                    refine St.split 125 rfl (fun g125 => ?_) (fun g125 => ?_)
                    · refine St.guard_no rfl rfl rfl ?_
                      refine St.guard_no rfl rfl rfl ?_
                      refine St.guard_no rfl rfl rfl ?_
                      refine St.guard_no rfl rfl rfl ?_
                      refine St.guard_no rfl rfl rfl ?_
                      refine St.guard_no rfl rfl rfl ?_
                      refine St.guard_no rfl rfl rfl ?_
                      refine St.pick_true rfl rfl rfl ?_
                      refine St.move rfl rfl ?_
                      refine St.guard_yes rfl rfl ?_
                      refine St.call [] rfl (by kernel_rfl) rfl (awake5_spec w0 _) (fun _ _ _ _ h => h.nil) ?_
                      rintro ra La ⟨rfl, rfl⟩
                      refine St.pick_true rfl rfl rfl ?_
                      refine St.assign rfl rfl ?_
                      refine St.done ?_
                      refine SX.seq ?_
                      refine SC.ret ?_
                      exact SX.ret1 rfl rfl rfl
                    · refine St.guard_yes rfl rfl ?_
                      refine St.move rfl rfl ?_
                      refine St.guard_yes rfl rfl ?_
                      refine St.move rfl rfl ?_
                      refine St.guard_yes rfl rfl ?_
                      refine St.call [_, _] rfl (by kernel_rfl) rfl (cost_spec w0 (E :: L) _ _ cs (fl cs.length f) hr0.cons (by rw [fl_len, fl_row]; exact hbf.rd (by simp)) (by omega) (by rw [fl_len]; omega) (bad_range hnb).2.1 (fun k => by rw [fl_get]; have := hl2 k; split <;> omega)) (fun _ _ _ _ h => h.nil) ?_
                      rintro r3 L3 ⟨rfl, rfl⟩
                      rw [fl_len, Nat.min_self]
                      refine St.guard_yes rfl rfl ?_
                      refine St.move rfl rfl ?_
                      refine St.guard_yes rfl rfl ?_
                      refine St.move rfl rfl ?_
                      refine St.guard_yes rfl rfl ?_
                      obtain ⟨Cs, hCu, hCa, hCf⟩ := least_cs hL
                      obtain ⟨m, rfl⟩ : ∃ m : Nat, most = (m : Int) := ⟨most.toNat, by omega⟩
                      rw [Int.toNat_natCast] at hCf
                      refine St.call [_, _] rfl (by kernel_rfl) rfl (least_spec w0 (E :: L) _ cs m hr0.cons (by omega) (by omega) (by omega) (bad_range hnb).2.1 (bad_range hnb).2.2 Cs hCu hCa) (fun _ _ _ _ h => h.nil) ?_
                      rintro r4 L4 h4
                      obtain rfl : r4 = .int .i64 (dot cs (fl cs.length f) cs.length) := by rcases h4 with ⟨h, rfl⟩ | ⟨h, rfl⟩; rw [least_one hnb hL h]; rw [hCf h]
                      refine St.guard_yes rfl rfl ?_
                      refine St.eql rfl rfl rfl ?_
                      refine St.pick_false rfl rfl rfl ?_
                      refine St.move rfl rfl ?_
                      refine St.split 134 rfl (fun g134 => ?_) (fun g134 => ?_)
                      · refine St.guard_yes rfl rfl ?_
                        refine St.call [] rfl (by kernel_rfl) rfl (awake5_spec w0 _) (fun _ _ _ _ h => h.nil) ?_
                        rintro ra La ⟨rfl, rfl⟩
                        refine St.pick_true rfl rfl rfl ?_
                        refine St.assign rfl rfl ?_
                        refine St.done ?_
                        refine SX.seq ?_
                        refine SC.ret ?_
                        exact SX.ret1 rfl rfl rfl
                      · exact absurd rfl g134
    · refine SC.plain ?_
      refine St.move rfl rfl ?_
      refine St.lss rfl rfl rfl ?_
      refine St.move rfl rfl ?_
      refine St.split 19 rfl (fun g19 => ?_) (fun g19 => ?_)
      · refine St.guard_no rfl rfl rfl ?_
        refine St.guard_no rfl rfl rfl ?_
        refine St.pick_true rfl rfl rfl ?_
        refine St.move rfl rfl ?_
        refine St.guard_no rfl rfl rfl ?_
        refine St.guard_no rfl rfl rfl ?_
        refine St.guard_no rfl rfl rfl ?_
        refine St.pick_true rfl rfl rfl ?_
        refine St.assign rfl rfl ?_
        refine St.done ?_
        exact SX.some true ⟨fun _ => badTo_zero.2 (.inl (by omega)), fun _ => rfl⟩ ⟨rfl, rfl, rfl, rfl, rfl, rfl, trivial⟩ (List.Perm.refl _)
      · refine St.guard_yes rfl rfl ?_
        refine St.move rfl rfl ?_
        refine St.guard_yes rfl rfl ?_
        refine St.gtr rfl rfl rfl ?_
        refine St.pick_false rfl rfl rfl ?_
        refine St.move rfl rfl ?_
        refine St.split 23 rfl (fun g23 => ?_) (fun g23 => ?_)
        · refine St.guard_no rfl rfl rfl ?_
          refine St.guard_no rfl rfl rfl ?_
          refine St.guard_no rfl rfl rfl ?_
          refine St.pick_true rfl rfl rfl ?_
          refine St.assign rfl rfl ?_
          refine St.done ?_
          exact SX.some true ⟨fun _ => badTo_zero.2 (.inr (.inl (by omega))), fun _ => rfl⟩ ⟨rfl, rfl, rfl, rfl, rfl, rfl, trivial⟩ (List.Perm.refl _)
        · refine St.guard_yes rfl rfl ?_
          refine St.move rfl rfl ?_
          refine St.guard_yes rfl rfl ?_
          refine St.lenSl rfl rfl (by kernel_rfl) ?_
          refine St.guard_yes rfl rfl ?_
          refine St.gtr rfl rfl rfl ?_
          refine St.pick_false rfl rfl rfl ?_
          refine St.assign rfl rfl ?_
          refine St.done ?_
          exact SX.some (decide (((cs.length : Nat) : Int) > 400)) (by rw [decide_eq_true_eq, badTo_zero]; omega) ⟨rfl, rfl, rfl, rfl, rfl, rfl, trivial⟩ (List.Perm.refl _)
end Go.Proofs.Ytahafepgmkiabaa
