/- Walks: what the document fixes of codes (awake), and the law HuffCodes. -/
import Derived.Test.YtahafepgmkiabaaH4
set_option linter.unusedVariables false
set_option linter.unusedSimpArgs false
set_option linter.ambiguousOpen false
namespace Go.Proofs.Ytahafepgmkiabaa
open Go Go.Proofs.Ytahafepgmkiabaa.Sep

theorem codes_a : codesOf [2, 1, 3, 3] = [2, 0, 6, 7] := by decide
theorem codesE_a : codesE [2, 1, 3, 3] = 0 := by decide
theorem codesE_b : codesE [1, 1, 1] = 3 := by decide

theorem awake5_spec (w0 : World) (L : List Chunk) : Meets Try.prog 35 #[] w0 L (fun r L' => L = L' ∧ r = .bool true) := by
  refine Meets.of_body [] Try.func35 rfl Try.ntmps35 rfl ?_
  refine SC.seq ?_
  refine SC.plain ?_
  refine St.assign rfl rfl ?_
  refine St.done ?_
  refine SX.seq ?_
  refine SC.seq ?_
  refine SC.plain ?_
  refine St.buildSl (e := 3) [(0, .int .i64 2), (1, .int .i64 1), (2, .int .i64 3), (3, .int .i64 3)] (ints [2, 1, 3, 3]) rfl rfl (by kernel_rfl) (fun _ _ h => h.nil) (fun p => ?_)
  refine St.call [.slice (some ⟨p, 0, none⟩) 4 4] rfl (by kernel_rfl) rfl (codes_spec w0 _ _ [2, 1, 3, 3] (Rd.row rfl mem0) (by decide)) (fun _ _ _ _ h => h.nil) ?_
  rintro r L1 (⟨hE, _, _⟩ | ⟨_, q, rfl, rfl⟩)
  · exact absurd codesE_a hE
  rw [codes_a]
  refine St.move rfl rfl ?_
  refine St.extract rfl rfl rfl ?_
  refine St.extract rfl rfl rfl ?_
  refine St.assign rfl rfl ?_
  refine St.assign rfl rfl ?_
  refine St.done ?_
  refine SX.seq ?_
  refine SC.seq ?_
  refine SC.plain ?_
  refine St.buildSl (e := 3) [(0, .int .i64 1), (1, .int .i64 1), (2, .int .i64 1)] (ints [1, 1, 1]) rfl rfl (by kernel_rfl) (fun _ _ h => h.nil) (fun p2 => ?_)
  refine St.call [.slice (some ⟨p2, 0, none⟩) 3 3] rfl (by kernel_rfl) rfl (codes_spec w0 _ _ [1, 1, 1] (Rd.row rfl mem0) (by decide)) (fun _ _ _ _ h => h.nil) ?_
  rintro r L1 (⟨_, rfl, rfl⟩ | ⟨hE, _⟩)
  rotate_left
  · exact absurd hE (by rw [codesE_b]; decide)
  rw [codesE_b]
  refine St.move rfl rfl ?_
  refine St.extract rfl rfl rfl ?_
  refine St.extract rfl rfl rfl ?_
  refine St.assign rfl rfl ?_
  refine St.assign rfl rfl ?_
  refine St.done ?_
  refine SX.seq ?_
  refine SC.seq ?_
  refine SC.plain ?_
  refine St.move rfl rfl ?_
  refine St.eql rfl rfl rfl ?_
  refine St.move rfl rfl ?_
  refine St.split 17 rfl (fun g17 => ?_) (fun g17 => ?_)
  · refine St.guard_yes rfl rfl ?_
    refine St.move rfl rfl ?_
    refine St.guard_yes rfl rfl ?_
    refine St.eql rfl rfl rfl ?_
    refine St.pick_true rfl rfl rfl ?_
    refine St.move rfl rfl ?_
    refine St.split 21 rfl (fun g21 => ?_) (fun g21 => ?_)
    · refine St.guard_yes rfl rfl ?_
      refine St.move rfl rfl ?_
      refine St.guard_yes rfl rfl ?_
      refine St.lenSl rfl rfl (by kernel_rfl) ?_
      refine St.guard_yes rfl rfl ?_
      refine St.eql rfl rfl rfl ?_
      refine St.pick_true rfl rfl rfl ?_
      refine St.move rfl rfl ?_
      refine St.split 26 rfl (fun g26 => ?_) (fun g26 => ?_)
      · refine St.guard_yes rfl rfl ?_
        refine St.move rfl rfl ?_
        refine St.guard_yes rfl rfl ?_
        refine St.indexSl (e := 33) (sz := 1) rfl rfl rfl (by kernel_rfl) (by omega) ?_
        refine St.guard_yes rfl rfl ?_
        refine St.load rfl rfl (by kernel_rfl) (Holds.row mem1 (v := .int .u32 2) rfl) ?_
        refine St.guard_yes rfl rfl ?_
        refine St.eql rfl rfl rfl ?_
        refine St.pick_true rfl rfl rfl ?_
        refine St.move rfl rfl ?_
        refine St.split 32 rfl (fun g32 => ?_) (fun g32 => ?_)
        · refine St.guard_yes rfl rfl ?_
          refine St.move rfl rfl ?_
          refine St.guard_yes rfl rfl ?_
          refine St.indexSl (e := 33) (sz := 1) rfl rfl rfl (by kernel_rfl) (by omega) ?_
          refine St.guard_yes rfl rfl ?_
          refine St.load rfl rfl (by kernel_rfl) (Holds.row mem1 (v := .int .u32 6) rfl) ?_
          refine St.guard_yes rfl rfl ?_
          refine St.eql rfl rfl rfl ?_
          refine St.pick_true rfl rfl rfl ?_
          refine St.move rfl rfl ?_
          refine St.split 38 rfl (fun g38 => ?_) (fun g38 => ?_)
          · refine St.guard_yes rfl rfl ?_
            refine St.move rfl rfl ?_
            refine St.guard_yes rfl rfl ?_
            refine St.indexSl (e := 33) (sz := 1) rfl rfl rfl (by kernel_rfl) (by omega) ?_
            refine St.guard_yes rfl rfl ?_
            refine St.load rfl rfl (by kernel_rfl) (Holds.row mem1 (v := .int .u32 7) rfl) ?_
            refine St.guard_yes rfl rfl ?_
            refine St.eql rfl rfl rfl ?_
            refine St.pick_true rfl rfl rfl ?_
            refine St.move rfl rfl ?_
            refine St.split 44 rfl (fun g44 => ?_) (fun g44 => ?_)
            · refine St.guard_yes rfl rfl ?_
              refine St.buildSl (e := 3) [(0, .int .i64 1), (1, .int .i64 1)] (ints [1, 1]) rfl rfl (by kernel_rfl) (fun _ _ h => h.nil) (fun p3 => ?_)
              refine St.guard_yes rfl rfl ?_
              refine St.call [.slice (some ⟨p3, 0, none⟩) 2 2] rfl (by kernel_rfl) rfl (complete_spec w0 _ _ [1, 1] (Rd.row rfl mem0) (by decide)) (fun _ _ _ _ h => h.nil) ?_
              rintro r L1 ⟨rfl, rfl⟩
              rw [show (lensOk [1, 1] && decide (kraft [1, 1] = 32768)) = true by decide]
              refine St.pick_true rfl rfl rfl ?_
              refine St.move rfl rfl ?_
              refine St.guard_yes rfl rfl ?_
              refine St.buildSl (e := 3) [(0, .int .i64 5), (1, .int .i64 1), (2, .int .i64 1)] (ints [5, 1, 1]) rfl rfl (by kernel_rfl) (fun _ _ h => h.nil) (fun p4 => ?_)
              refine St.guard_yes rfl rfl ?_
              refine St.buildSl (e := 3) [(0, .int .i64 1), (1, .int .i64 2), (2, .int .i64 2)] (ints [1, 2, 2]) rfl rfl (by kernel_rfl) (fun _ _ h => h.nil) (fun p5 => ?_)
              refine St.guard_yes rfl rfl ?_
              refine St.call [.slice (some ⟨p4, 0, none⟩) 3 3, .slice (some ⟨p5, 0, none⟩) 3 3] rfl (by kernel_rfl) rfl (cost_spec w0 _ _ _ [5, 1, 1] [1, 2, 2] (Rd.row rfl mem1) (Rd.row rfl mem0) (by decide) (by decide) ?_ ?_) (fun _ _ _ _ h => h.nil) ?_
              · intro i; rcases i with _ | _ | _ | i <;> simp
              · intro i; rcases i with _ | _ | _ | i <;> simp
              rintro r L1 ⟨rfl, rfl⟩
              refine St.guard_yes rfl rfl ?_
              refine St.eql rfl rfl rfl ?_
              refine St.pick_true rfl rfl rfl ?_
              refine St.assign rfl rfl ?_
              refine St.done ?_
              refine SX.seq ?_
              refine SC.ret ?_
              refine SX.drop (SX.drop (SX.drop (SX.drop (SX.drop (SX.drop ?_)))))
              exact SX.ret1 rfl rfl ⟨rfl, rfl⟩
            · exact absurd rfl g44
          · exact absurd rfl g38
        · exact absurd rfl g32
      · exact absurd rfl g26
    · exact absurd rfl g21
  · exact absurd rfl g17
-- unused note ('split', 3, 33)
theorem comp_eq (xs : List Int) : (lensOk xs && decide (kraft xs = 32768)) = decide (weightOf xs = 32768) := by
  unfold weightOf
  cases lensOk xs <;> simp
theorem huffCodes_spec (w0 : World) (L : List Chunk) (v : Value) (xs : List Int) (hx : Rd w0 L v 1 xs.length (ints xs)) (hl : xs.length ≤ 35184372088832) :
    Meets Try.prog 3 #[v] w0 L (fun r L' => r = .bool true) := by
  refine Meets.of_body [v] Try.func3 rfl Try.ntmps3 rfl ?_
  refine SC.seq ?_
  refine SC.plain ?_
  refine St.assign rfl rfl ?_
  refine St.done ?_
  refine SX.seq ?_
  refine SC.seq ?_
  refine SC.plain ?_
  refine St.move rfl rfl ?_
  refine St.call [v] rfl (by kernel_rfl) rfl (codes_spec w0 L v xs hx hl) (fun _ _ _ _ h => h.nil) ?_
  rintro r L1 (⟨hE, rfl, rfl⟩ | ⟨hE, q, rfl, rfl⟩)
  · refine St.move rfl rfl ?_
    refine St.extract rfl rfl rfl ?_
    refine St.extract rfl rfl rfl ?_
    refine St.assign rfl rfl ?_
    refine St.assign rfl rfl ?_
    refine St.done ?_
    refine SX.seq ?_
    refine SC.seq ?_
    refine SC.plain ?_
    refine St.move rfl rfl ?_
    refine St.call [v] rfl (by kernel_rfl) rfl (rcodes_spec w0 _ v xs hx hl) (fun _ _ _ _ h => h.nil) ?_
    rintro r L1 (⟨_, rfl, rfl⟩ | ⟨hE2, _⟩)
    rotate_left
    · exact absurd hE2 hE
    refine St.move rfl rfl ?_
    refine St.extract rfl rfl rfl ?_
    refine St.extract rfl rfl rfl ?_
    refine St.assign rfl rfl ?_
    refine St.assign rfl rfl ?_
    refine St.done ?_
    refine SX.seq ?_
    refine SC.seq ?_
    refine SC.plain ?_
    refine St.move rfl rfl ?_
    refine St.call [v] rfl (by kernel_rfl) rfl (new_spec w0 _ v xs hx hl) (fun _ _ _ _ h => h.nil) ?_
    rintro r L1 (⟨_, rfl, rfl⟩ | ⟨hE2, _⟩)
    rotate_left
    · exact absurd hE2 hE
    refine St.move rfl rfl ?_
    refine St.extract rfl rfl rfl ?_
    refine St.extract rfl rfl rfl ?_
    refine St.assign rfl rfl ?_
    refine St.assign rfl rfl ?_
    refine St.done ?_
    refine SX.seq ?_
    refine SC.seq ?_
    refine SC.seq ?_
    refine SC.plain ?_
    refine St.move rfl rfl ?_
    refine St.move rfl rfl ?_
    refine St.neq rfl rfl rfl ?_
    refine St.move rfl rfl ?_
    refine St.split 28 rfl (fun g28 => ?_) (fun g28 => ?_)
    · exact absurd rfl g28
    · refine St.guard_yes rfl rfl ?_
      refine St.move rfl rfl ?_
      refine St.guard_yes rfl rfl ?_
      refine St.move rfl rfl ?_
      refine St.guard_yes rfl rfl ?_
      refine St.neq rfl rfl rfl ?_
      refine St.pick_false rfl rfl rfl ?_
      refine St.move rfl rfl ?_
      refine St.split 33 rfl (fun g33 => ?_) (fun g33 => ?_)
      · exact absurd rfl g33
      · refine St.guard_yes rfl rfl ?_
        refine St.move rfl rfl ?_
        refine St.guard_yes rfl rfl ?_
        refine St.ptrEql rfl rfl rfl (by kernel_rfl) ?_
        refine St.guard_yes rfl rfl ?_
        refine St.move rfl rfl ?_
        refine St.guard_yes rfl rfl ?_
        refine St.neq rfl rfl rfl ?_
        refine St.guard_yes rfl rfl ?_
        refine St.boolNeq rfl rfl rfl (by kernel_rfl) ?_
        refine St.pick_false rfl rfl rfl ?_
        refine St.move rfl rfl ?_
        refine St.split 40 rfl (fun g40 => ?_) (fun g40 => ?_)
        · exact absurd (by simp [hE]) g40
        · refine St.guard_yes rfl rfl ?_
          refine St.move rfl rfl ?_
          refine St.guard_yes rfl rfl ?_
          refine St.lenSl rfl rfl (by kernel_rfl) ?_
          refine St.guard_yes rfl rfl ?_
          refine St.move rfl rfl ?_
          refine St.guard_yes rfl rfl ?_
          refine St.lenSl rfl rfl (by kernel_rfl) ?_
          refine St.guard_yes rfl rfl ?_
          refine St.neq rfl rfl rfl ?_
          refine St.pick_false rfl rfl rfl ?_
          refine St.move rfl rfl ?_
          refine St.split 47 rfl (fun g47 => ?_) (fun g47 => ?_)
          · exact absurd rfl g47
          · refine St.guard_yes rfl rfl ?_
            refine St.move rfl rfl ?_
            refine St.guard_yes rfl rfl ?_
            refine St.call [v] rfl (by kernel_rfl) rfl (complete_spec w0 _ v xs hx hl) (fun _ _ _ _ h => h.nil) ?_
            rintro r L1 ⟨rfl, rfl⟩
            refine St.guard_yes rfl rfl ?_
            refine St.move rfl rfl ?_
            refine St.guard_yes rfl rfl ?_
            refine St.call [v] rfl (by kernel_rfl) rfl (rcomplete_spec w0 _ v xs hx hl) (fun _ _ _ _ h => h.nil) ?_
            rintro r L1 ⟨rfl, rfl⟩
            refine St.guard_yes rfl rfl ?_
            refine St.boolNeq rfl rfl rfl (by kernel_rfl) ?_
            refine St.pick_false rfl rfl rfl ?_
            refine St.done ?_
            refine SX.seq ?_
            refine SC.condp rfl (fun c53 => ?_) (fun c53 => ?_)
            · exact absurd (comp_eq xs) c53
            · refine SC.skip ?_
              refine SX.seq ?_
              refine SC.seq ?_
              refine SC.seq ?_
              refine SC.plain ?_
              refine St.assign rfl rfl ?_
              refine St.done ?_
              refine SX.seq ?_
              refine SC.block ?_
              refine SC.loop (α := Unit) (fun _ => True) (fun _ => [(3, .slice none 0 0), (9, .int .i64 0)]) (fun _ => _) (fun _ => 0) () trivial ⟨rfl, rfl, trivial⟩ (List.Perm.refl _) ?_
              intro _ _
              refine SC.seq ?_
              refine SC.seq ?_
              refine SC.plain ?_
              refine St.move rfl rfl ?_
              refine St.move rfl rfl ?_
              refine St.lenSl rfl rfl (by kernel_rfl) ?_
              refine St.lss rfl rfl rfl ?_
              refine St.done ?_
              refine SX.seq ?_
              refine SC.condp rfl (fun c57 => ?_) (fun c57 => ?_)
              · exact absurd c57 (by decide)
              · refine SC.exit ?_
                refine SX.seq_exit ?_
                refine SX.seq_exit ?_
                refine SX.hit ?_
                refine SX.seq ?_
                refine SC.seq ?_
                refine SC.plain ?_
                refine St.call [] rfl (by kernel_rfl) rfl (awake5_spec w0 _) (fun _ _ _ _ h => h.nil) ?_
                rintro r L1 ⟨rfl, rfl⟩
                refine St.assign rfl rfl ?_
                refine St.done ?_
                refine SX.seq ?_
                refine SC.ret ?_
                exact SX.ret1 rfl rfl rfl
  · refine St.move rfl rfl ?_
    refine St.extract rfl rfl rfl ?_
    refine St.extract rfl rfl rfl ?_
    refine St.assign rfl rfl ?_
    refine St.assign rfl rfl ?_
    refine St.done ?_
    refine SX.seq ?_
    refine SC.seq ?_
    refine SC.plain ?_
    refine St.move rfl rfl ?_
    refine St.call [v] rfl (by kernel_rfl) rfl (rcodes_spec w0 _ v xs hx.cons hl) (fun _ _ _ _ h => h.nil) ?_
    rintro r L1 (⟨hE2, _⟩ | ⟨_, q2, rfl, rfl⟩)
    · exact absurd hE hE2
    refine St.move rfl rfl ?_
    refine St.extract rfl rfl rfl ?_
    refine St.extract rfl rfl rfl ?_
    refine St.assign rfl rfl ?_
    refine St.assign rfl rfl ?_
    refine St.done ?_
    refine SX.seq ?_
    refine SC.seq ?_
    refine SC.plain ?_
    refine St.move rfl rfl ?_
    refine St.call [v] rfl (by kernel_rfl) rfl (new_spec w0 _ v xs hx.cons.cons hl) (fun _ _ _ _ h => h.nil) ?_
    rintro r L1 (⟨hE2, _⟩ | ⟨_, p, E, rfl, hCE, rfl⟩)
    · exact absurd hE hE2
    have hx3 : Rd w0 (E ++ [⟨q2, u32s (codesOf xs), 33⟩] :: [⟨q, u32s (codesOf xs), 33⟩] :: L) v 1 xs.length (ints xs) := hx.mono fun w h => (Own.right E h).drop.drop
    refine St.move rfl rfl ?_
    refine St.extract rfl rfl rfl ?_
    refine St.extract rfl rfl rfl ?_
    refine St.assign rfl rfl ?_
    refine St.assign rfl rfl ?_
    refine St.done ?_
    refine SX.seq ?_
    refine SC.seq ?_
    refine SC.seq ?_
    refine SC.plain ?_
    refine St.move rfl rfl ?_
    refine St.move rfl rfl ?_
    refine St.neq rfl rfl rfl ?_
    refine St.move rfl rfl ?_
    refine St.split 28 rfl (fun g28 => ?_) (fun g28 => ?_)
    · exact absurd rfl g28
    · refine St.guard_yes rfl rfl ?_
      refine St.move rfl rfl ?_
      refine St.guard_yes rfl rfl ?_
      refine St.move rfl rfl ?_
      refine St.guard_yes rfl rfl ?_
      refine St.neq rfl rfl rfl ?_
      refine St.pick_false rfl rfl rfl ?_
      refine St.move rfl rfl ?_
      refine St.split 33 rfl (fun g33 => ?_) (fun g33 => ?_)
      · exact absurd rfl g33
      · refine St.guard_yes rfl rfl ?_
        refine St.move rfl rfl ?_
        refine St.guard_yes rfl rfl ?_
        refine St.ptrEql rfl rfl rfl (by kernel_rfl) ?_
        refine St.guard_yes rfl rfl ?_
        refine St.move rfl rfl ?_
        refine St.guard_yes rfl rfl ?_
        refine St.neq rfl rfl rfl ?_
        refine St.guard_yes rfl rfl ?_
        refine St.boolNeq rfl rfl rfl (by kernel_rfl) ?_
        refine St.pick_false rfl rfl rfl ?_
        refine St.move rfl rfl ?_
        refine St.split 40 rfl (fun g40 => ?_) (fun g40 => ?_)
        · exact absurd rfl g40
        · refine St.guard_yes rfl rfl ?_
          refine St.move rfl rfl ?_
          refine St.guard_yes rfl rfl ?_
          refine St.lenSl rfl rfl (by kernel_rfl) ?_
          refine St.guard_yes rfl rfl ?_
          refine St.move rfl rfl ?_
          refine St.guard_yes rfl rfl ?_
          refine St.lenSl rfl rfl (by kernel_rfl) ?_
          refine St.guard_yes rfl rfl ?_
          refine St.neq rfl rfl rfl ?_
          refine St.pick_false rfl rfl rfl ?_
          refine St.move rfl rfl ?_
          refine St.split 47 rfl (fun g47 => ?_) (fun g47 => ?_)
          · exact absurd rfl g47
          · refine St.guard_yes rfl rfl ?_
            refine St.move rfl rfl ?_
            refine St.guard_yes rfl rfl ?_
            refine St.call [v] rfl (by kernel_rfl) rfl (complete_spec w0 _ v xs hx3 hl) (fun _ _ _ _ h => h.nil) ?_
            rintro r L1 ⟨rfl, rfl⟩
            refine St.guard_yes rfl rfl ?_
            refine St.move rfl rfl ?_
            refine St.guard_yes rfl rfl ?_
            refine St.call [v] rfl (by kernel_rfl) rfl (rcomplete_spec w0 _ v xs hx3 hl) (fun _ _ _ _ h => h.nil) ?_
            rintro r L1 ⟨rfl, rfl⟩
            refine St.guard_yes rfl rfl ?_
            refine St.boolNeq rfl rfl rfl (by kernel_rfl) ?_
            refine St.pick_false rfl rfl rfl ?_
            refine St.done ?_
            refine SX.seq ?_
            refine SC.condp rfl (fun c53 => ?_) (fun c53 => ?_)
            · exact absurd (comp_eq xs) c53
            · refine SC.skip ?_
              refine SX.seq ?_
              refine SC.seq ?_
              refine SC.seq ?_
              refine SC.plain ?_
              refine St.assign rfl rfl ?_
              refine St.done ?_
              refine SX.seq ?_
              refine SC.block ?_
              refine SC.loop (α := Nat) (fun i => i ≤ xs.length) (fun i => [(3, .slice (some ⟨q, 0, none⟩) xs.length xs.length), (5, .slice (some ⟨q2, 0, none⟩) xs.length xs.length), (9, .int .i64 i)]) (fun _ => _) (fun i => xs.length - i) 0 (by omega) ⟨rfl, rfl, rfl, trivial⟩ (List.Perm.refl _) ?_
              intro i hi
              have h1 : HoldsN w0 (E ++ [⟨q2, u32s (codesOf xs), 33⟩] :: [⟨q, u32s (codesOf xs), 33⟩] :: L) q 0 (u32s (codesOf xs)) := (HoldsN.of_row mem1).mono fun w h => Own.right E h
              have h2 : HoldsN w0 (E ++ [⟨q2, u32s (codesOf xs), 33⟩] :: [⟨q, u32s (codesOf xs), 33⟩] :: L) q2 0 (u32s (codesOf xs)) := (HoldsN.of_row mem0).mono fun w h => Own.right E h
              have hcl := codesOf_len xs
              refine SC.seq ?_
              refine SC.seq ?_
              refine SC.plain ?_
              refine St.move rfl rfl ?_
              refine St.move rfl rfl ?_
              refine St.lenSl rfl rfl (by kernel_rfl) ?_
              refine St.lss rfl rfl rfl ?_
              refine St.done ?_
              refine SX.seq ?_
              refine SC.condp rfl (fun c57 => ?_) (fun c57 => ?_)
              · refine SC.skip ?_
                refine SX.seq ?_
                refine SC.seq ?_
                refine SC.block ?_
                refine SC.seq ?_
                refine SC.drawn [(0, true), (1, true), (2, true), (3, true), (4, true), (5, true), (6, true), (7, true), (8, true)] [] (E ++ [⟨q2, u32s (codesOf xs), 33⟩] :: [⟨q, u32s (codesOf xs), 33⟩] :: L) (by kernel_rfl) (by kernel_rfl) (fun _ h => h) ?_
                refine St.move rfl rfl ?_
                refine St.move rfl rfl ?_
                refine St.indexSl (e := 33) (sz := 1) rfl rfl rfl (by kernel_rfl) (by omega) ?_
                refine St.load rfl rfl (by kernel_rfl) (h1.nat (k := .u32) (xs := codesOf xs) i (by omega)) ?_
                refine St.move rfl rfl ?_
                refine St.move rfl rfl ?_
                refine St.indexSl (e := 33) (sz := 1) rfl rfl rfl (by kernel_rfl) (by omega) ?_
                refine St.load rfl rfl (by kernel_rfl) (h2.nat (k := .u32) (xs := codesOf xs) i (by omega)) ?_
                refine St.neq rfl rfl rfl ?_
                refine St.done ?_
                refine SX.tail ?_
                refine St.done ?_
                refine SX.seq ?_
                refine SC.condp rfl (fun c68 => ?_) (fun c68 => ?_)
                · exact absurd rfl c68
                · refine SC.skip ?_
                  refine SX.blk ?_
                  refine SX.seq ?_
                  refine SC.plain ?_
                  refine St.move rfl rfl ?_
                  refine St.addI rfl rfl rfl (by omega) ?_
                  refine St.assign rfl rfl ?_
                  refine St.done ?_
                  exact SX.again (i + 1) (by omega) (by show xs.length - (i + 1) < xs.length - i; omega) ⟨rfl, rfl, rfl, trivial⟩ (List.Perm.refl _)
              · refine SC.exit ?_
                refine SX.seq_exit ?_
                refine SX.seq_exit ?_
                refine SX.hit ?_
                refine SX.seq ?_
                refine SC.seq ?_
                refine SC.plain ?_
                refine St.call [] rfl (by kernel_rfl) rfl (awake5_spec w0 _) (fun _ _ _ _ h => h.nil) ?_
                rintro r L1 ⟨rfl, rfl⟩
                refine St.assign rfl rfl ?_
                refine St.done ?_
                refine SX.seq ?_
                refine SC.ret ?_
                exact SX.ret1 rfl rfl rfl
end Go.Proofs.Ytahafepgmkiabaa
