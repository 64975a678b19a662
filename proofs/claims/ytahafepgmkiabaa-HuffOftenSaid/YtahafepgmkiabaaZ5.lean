/- Walks: the law HuffOften. -/
import Derived.Test.YtahafepgmkiabaaZ4
import Derived.Test.YtahafepgmkiabaaH5
set_option linter.unusedVariables false
set_option linter.unusedSimpArgs false
set_option linter.ambiguousOpen false
namespace Go.Proofs.Ytahafepgmkiabaa
open Go Go.Proofs.Ytahafepgmkiabaa.Sep

theorem huffOften_spec (w0 : World) (L : List Chunk) (u : Value) (cs : List Int) (most : Int) (hr : Rd w0 L u 1 cs.length (ints cs)) (hl : cs.length ≤ 4611686018427387904) :
    Meets Try.prog 16 #[u, .int .i64 most] w0 L (fun r L' => r = .bool true) := by
  have hr2 := hr
  obtain ⟨_, bcs, ocs, Ac, cc, rfl, hAc, hcs⟩ := hr2
  refine Meets.of_body [.slice Ac cs.length cc, .int .i64 most] Try.func16 rfl Try.ntmps16 rfl ?_
  refine SC.seq ?_
  refine SC.plain ?_
  refine St.assign rfl rfl ?_
  refine St.done ?_
  refine SX.seq ?_
  refine SC.seq ?_
  refine SC.plain ?_
  refine St.move rfl rfl ?_
  refine St.move rfl rfl ?_
  refine St.call [_, _] rfl (by kernel_rfl) rfl (lengths_spec w0 L _ cs most hr) (fun _ _ _ _ h => h.nil) ?_
  rintro r1 L1 (⟨hbad, rfl, rfl⟩ | ⟨hnb, v, E, f, rfl, rfl, hbf, hL⟩)
  · refine St.move rfl rfl ?_
    refine St.extract rfl rfl rfl ?_
    refine St.extract rfl rfl rfl ?_
    refine St.assign rfl rfl ?_
    refine St.assign rfl rfl ?_
    refine St.done ?_
    refine SX.seq ?_
    refine SC.seq ?_
    refine SC.seq ?_
    refine SC.plain ?_
    refine St.move rfl rfl ?_
    refine St.neq rfl rfl rfl ?_
    refine St.move rfl rfl ?_
    refine St.split 17 rfl (fun g17 => ?_) (fun g17 => ?_)
    · refine St.guard_no rfl rfl rfl ?_
      refine St.guard_no rfl rfl rfl ?_
      refine St.guard_no rfl rfl rfl ?_
      refine St.guard_no rfl rfl rfl ?_
      refine St.guard_no rfl rfl rfl ?_
      refine St.pick_true rfl rfl rfl ?_
      refine St.done ?_
      refine SX.seq ?_
      refine SC.cond_true rfl ?_
      refine SC.seq ?_
      refine SC.plain ?_
      refine St.move rfl rfl ?_
      refine St.eql rfl rfl rfl ?_
      refine St.move rfl rfl ?_
      refine St.split 26 rfl (fun g26 => ?_) (fun g26 => ?_)
      · refine St.guard_yes rfl rfl ?_
        refine St.call [] rfl (by kernel_rfl) rfl (awake5_spec w0 _) (fun _ _ _ _ h => h.nil) ?_
        rintro ra La ⟨rfl, rfl⟩
        refine St.pick_true rfl rfl rfl ?_
        refine St.assign rfl rfl ?_
        refine St.done ?_
        refine SX.seq ?_
        refine SC.ret ?_
        refine SX.seq_ret ?_
        exact SX.ret1 rfl rfl rfl
      · exfalso; omega
    · exfalso; omega
  · obtain ⟨bv, ov, Av, cv, rfl, hAv, hh⟩ := hbf.read
    have hf0 := hh w0 (E :: L) (by simp)
    refine St.move rfl rfl ?_
    refine St.extract rfl rfl rfl ?_
    refine St.extract rfl rfl rfl ?_
    refine St.assign rfl rfl ?_
    refine St.assign rfl rfl ?_
    refine St.done ?_
    refine SX.seq ?_
    refine SC.seq ?_
    refine SC.seq ?_
    refine SC.plain ?_
    refine St.move rfl rfl ?_
    refine St.neq rfl rfl rfl ?_
    refine St.move rfl rfl ?_
    refine St.split 17 rfl (fun g17 => ?_) (fun g17 => ?_)
    · exfalso; omega
    · refine St.guard_yes rfl rfl ?_
      refine St.move rfl rfl ?_
      refine St.guard_yes rfl rfl ?_
      refine St.lenSl rfl rfl (by kernel_rfl) ?_
      refine St.guard_yes rfl rfl ?_
      refine St.move rfl rfl ?_
      refine St.guard_yes rfl rfl ?_
      refine St.lenSl rfl rfl (by kernel_rfl) ?_
      refine St.guard_yes rfl rfl ?_
      refine St.neq rfl rfl rfl ?_
      refine St.pick_false rfl rfl rfl ?_
      refine St.done ?_
      refine SX.seq ?_
      refine SC.condp rfl (fun c23 => ?_) (fun c23 => ?_)
      · exfalso; omega
      · refine SC.skip ?_
        refine SX.seq ?_
        refine SC.seq ?_
        refine SC.seq ?_
        refine SC.plain ?_
        refine St.assign rfl rfl ?_
        refine St.done ?_
        refine SX.seq ?_
        refine SC.block ?_
        refine SC.loop (α := Nat) (fun s => s ≤ cs.length) (fun s => [(0, .slice Ac cs.length cc), (5, .slice Av cs.length cv), (7, .int .i64 ((s : Nat) : Int))]) (fun _ => E :: L) (fun s => cs.length - s) 0 (Nat.zero_le _) ⟨rfl, rfl, rfl, trivial⟩ (List.Perm.refl _) ?_
        rintro i hi
        try simp only at hi ⊢
        refine SC.seq ?_
        refine SC.seq ?_
        refine SC.plain ?_
        refine St.move rfl rfl ?_
        refine St.move rfl rfl ?_
        refine St.lenSl rfl rfl (by kernel_rfl) ?_
        refine St.lss rfl rfl rfl ?_
        refine St.done ?_
        refine SX.seq ?_
        refine SC.condp rfl (fun c32 => ?_) (fun c32 => ?_)
        · refine SC.skip ?_
          refine SX.seq ?_
          refine SC.seq ?_
          refine SC.block ?_
          refine SC.seq ?_
          refine SC.plain ?_
          refine St.assign rfl rfl ?_
          refine St.done ?_
          refine SX.seq ?_
          refine SC.block ?_
          refine SC.loop (α := Nat) (fun s => s ≤ cs.length) (fun s => [(0, .slice Ac cs.length cc), (5, .slice Av cs.length cv), (7, .int .i64 ((i : Nat) : Int)), (8, .int .i64 ((s : Nat) : Int))]) (fun _ => E :: L) (fun s => cs.length - s) 0 (Nat.zero_le _) ⟨rfl, rfl, rfl, rfl, trivial⟩ (List.Perm.refl _) ?_
          rintro j hj
          try simp only at hj ⊢
          refine SC.seq ?_
          refine SC.seq ?_
          refine SC.plain ?_
          refine St.move rfl rfl ?_
          refine St.move rfl rfl ?_
          refine St.lenSl rfl rfl (by kernel_rfl) ?_
          refine St.lss rfl rfl rfl ?_
          refine St.done ?_
          refine SX.seq ?_
          refine SC.condp rfl (fun c38 => ?_) (fun c38 => ?_)
          · refine SC.skip ?_
            refine SX.seq ?_
            refine SC.seq ?_
            refine SC.block ?_
            refine SC.seq ?_
            obtain rfl := hAc (by omega)
            obtain rfl := hAv (by omega)
            refine SC.drawn [(0, true), (1, true), (2, true), (3, true), (4, true), (5, true), (6, true), (7, true), (8, true), (9, true), (10, true), (11, true), (12, true), (13, true), (14, true), (15, true), (16, true), (17, true), (18, true), (19, true), (20, true), (21, true), (22, true), (23, true), (24, true), (25, true), (26, true)] [] (_) (by kernel_rfl) (by kernel_rfl) (fun _ h => h) ?_
            refine St.move rfl rfl ?_
            refine St.move rfl rfl ?_
            refine St.indexSl (e := 3) (sz := 1) rfl rfl rfl (by kernel_rfl) (by omega) ?_
            refine St.load rfl rfl (by kernel_rfl) (HoldsN.nat (xs := cs) (k := .i64) hcs.cons i (by omega)) ?_
            refine St.move rfl rfl ?_
            refine St.move rfl rfl ?_
            refine St.indexSl (e := 3) (sz := 1) rfl rfl rfl (by kernel_rfl) (by omega) ?_
            refine St.load rfl rfl (by kernel_rfl) (HoldsN.nat (xs := cs) (k := .i64) hcs.cons j (by omega)) ?_
            refine St.gtr rfl rfl rfl ?_
            refine St.move rfl rfl ?_
            refine St.split 50 rfl (fun g50 => ?_) (fun g50 => ?_)
            · refine St.guard_yes rfl rfl ?_
              refine St.move rfl rfl ?_
              refine St.guard_yes rfl rfl ?_
              refine St.move rfl rfl ?_
              refine St.guard_yes rfl rfl ?_
              refine St.indexSl (e := 3) (sz := 1) rfl rfl rfl (by kernel_rfl) (by omega) ?_
              refine St.guard_yes rfl rfl ?_
              refine St.load rfl rfl (by kernel_rfl) (HoldsN.nat (xs := cs) (k := .i64) hcs.cons j (by omega)) ?_
              refine St.guard_yes rfl rfl ?_
              refine St.gtr rfl rfl rfl ?_
              refine St.pick_true rfl rfl rfl ?_
              refine St.move rfl rfl ?_
              refine St.split 57 rfl (fun g57 => ?_) (fun g57 => ?_)
              · refine St.guard_yes rfl rfl ?_
                refine St.move rfl rfl ?_
                refine St.guard_yes rfl rfl ?_
                refine St.move rfl rfl ?_
                refine St.guard_yes rfl rfl ?_
                refine St.indexSl (e := 3) (sz := 1) rfl rfl rfl (by kernel_rfl) (by omega) ?_
                refine St.guard_yes rfl rfl ?_
                refine St.load rfl rfl (by kernel_rfl) (hf0.at i (lrow_get (by omega))) ?_
                refine St.guard_yes rfl rfl ?_
                refine St.move rfl rfl ?_
                refine St.guard_yes rfl rfl ?_
                refine St.move rfl rfl ?_
                refine St.guard_yes rfl rfl ?_
                refine St.indexSl (e := 3) (sz := 1) rfl rfl rfl (by kernel_rfl) (by omega) ?_
                refine St.guard_yes rfl rfl ?_
                refine St.load rfl rfl (by kernel_rfl) (hf0.at j (lrow_get (by omega))) ?_
                refine St.guard_yes rfl rfl ?_
                refine St.gtr rfl rfl rfl ?_
                refine St.pick_true rfl rfl rfl ?_
                refine St.done ?_
                refine SX.tail ?_
                refine St.done ?_
                refine SX.seq ?_
                refine SC.condp rfl (fun c67 => ?_) (fun c67 => ?_)
                · exact absurd (often_law hnb hL (i := i) (j := j) (by omega) (by omega) (by omega) (by omega)) (by omega)
                · refine SC.skip ?_
                  refine SX.blk ?_
                  refine SX.seq ?_
                  refine SC.plain ?_
                  refine St.move rfl rfl ?_
                  first | refine St.addN (b := 1) rfl rfl rfl (by omega) ?_ | refine St.addI rfl rfl rfl (by omega) ?_
                  refine St.assign rfl rfl ?_
                  refine St.done ?_
                  exact SX.again (j + 1) (show j + 1 ≤ cs.length by omega) (by omega) ⟨rfl, rfl, rfl, rfl, trivial⟩ (List.Perm.refl _)
              · refine St.guard_no rfl rfl rfl ?_
                refine St.guard_no rfl rfl rfl ?_
                refine St.guard_no rfl rfl rfl ?_
                refine St.guard_no rfl rfl rfl ?_
                refine St.guard_no rfl rfl rfl ?_
                refine St.guard_no rfl rfl rfl ?_
                refine St.guard_no rfl rfl rfl ?_
                refine St.guard_no rfl rfl rfl ?_
                refine St.guard_no rfl rfl rfl ?_
                refine St.pick_false rfl rfl rfl ?_
                refine St.done ?_
                refine SX.tail ?_
                refine St.done ?_
                refine SX.seq ?_
                refine SC.cond_false rfl ?_
                refine SC.skip ?_
                refine SX.blk ?_
                refine SX.seq ?_
                refine SC.plain ?_
                refine St.move rfl rfl ?_
                first | refine St.addN (b := 1) rfl rfl rfl (by omega) ?_ | refine St.addI rfl rfl rfl (by omega) ?_
                refine St.assign rfl rfl ?_
                refine St.done ?_
                exact SX.again (j + 1) (show j + 1 ≤ cs.length by omega) (by omega) ⟨rfl, rfl, rfl, rfl, trivial⟩ (List.Perm.refl _)
            · refine St.guard_no rfl rfl rfl ?_
              refine St.guard_no rfl rfl rfl ?_
              refine St.guard_no rfl rfl rfl ?_
              refine St.guard_no rfl rfl rfl ?_
              refine St.guard_no rfl rfl rfl ?_
              refine St.pick_false rfl rfl rfl ?_
              refine St.move rfl rfl ?_
              refine St.guard_no rfl rfl rfl ?_
              refine St.guard_no rfl rfl rfl ?_
              refine St.guard_no rfl rfl rfl ?_
              refine St.guard_no rfl rfl rfl ?_
              refine St.guard_no rfl rfl rfl ?_
              refine St.guard_no rfl rfl rfl ?_
              refine St.guard_no rfl rfl rfl ?_
              refine St.guard_no rfl rfl rfl ?_
              refine St.guard_no rfl rfl rfl ?_
              refine St.pick_false rfl rfl rfl ?_
              refine St.done ?_
              refine SX.tail ?_
              refine St.done ?_
              refine SX.seq ?_
              refine SC.cond_false rfl ?_
              refine SC.skip ?_
              refine SX.blk ?_
              refine SX.seq ?_
              refine SC.plain ?_
              refine St.move rfl rfl ?_
              first | refine St.addN (b := 1) rfl rfl rfl (by omega) ?_ | refine St.addI rfl rfl rfl (by omega) ?_
              refine St.assign rfl rfl ?_
              refine St.done ?_
              exact SX.again (j + 1) (show j + 1 ≤ cs.length by omega) (by omega) ⟨rfl, rfl, rfl, rfl, trivial⟩ (List.Perm.refl _)
          · refine SC.exit ?_
            refine SX.seq_exit ?_
            refine SX.seq_exit ?_
            refine SX.hit ?_
            refine SX.blk ?_
            refine SX.seq ?_
            refine SC.plain ?_
            refine St.move rfl rfl ?_
            first | refine St.addN (b := 1) rfl rfl rfl (by omega) ?_ | refine St.addI rfl rfl rfl (by omega) ?_
            refine St.assign rfl rfl ?_
            refine St.done ?_
            exact SX.again (i + 1) (show i + 1 ≤ cs.length by omega) (by omega) ⟨rfl, rfl, rfl, trivial⟩ (List.Perm.refl _)
        · refine SC.exit ?_
          refine SX.seq_exit ?_
          refine SX.seq_exit ?_
          refine SX.hit ?_
          refine SX.seq ?_
          refine SC.seq ?_
          refine SC.plain ?_
          refine St.call [] rfl (by kernel_rfl) rfl (awake5_spec w0 _) (fun _ _ _ _ h => h.nil) ?_
          rintro ra La ⟨rfl, rfl⟩
          refine St.assign rfl rfl ?_
          refine St.done ?_
          refine SX.seq ?_
          refine SC.ret ?_
          exact SX.ret1 rfl rfl rfl
end Go.Proofs.Ytahafepgmkiabaa
