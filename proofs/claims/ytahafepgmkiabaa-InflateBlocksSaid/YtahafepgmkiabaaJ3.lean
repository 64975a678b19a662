/- Walks: inflating: complete codes, lengths of codes, the fixed codes. -/
import Derived.Test.YtahafepgmkiabaaJ2
import Derived.Test.YtahafepgmkiabaaSepO
import Derived.Test.YtahafepgmkiabaaSepM
set_option linter.unusedVariables false
set_option linter.unusedSimpArgs false
set_option linter.ambiguousOpen false
namespace Go.Proofs.Ytahafepgmkiabaa
open Go Go.Proofs.Ytahafepgmkiabaa.Sep Go.Proofs.Ytahafepgmkiabaa.Inf

def WholeR (few : Bool) (xs : List Int) (L : List Chunk) (r : Value) (L' : List Chunk) : Prop :=
  (wholeOk few xs = true ∧ codesE xs = 0 ∧ ∃ p E, r = .tuple #[.pointer (some ⟨p, 0, none⟩), .int .i64 0] ∧ CodeAt p xs E ∧ L' = E ++ L) ∨ (wholeOk few xs = false ∧ r = .tuple #[.pointer none, .int .i64 3] ∧ L' = L)
def onesTo (xs : List Int) (i : Nat) : Bool := (xs.take i).all (fun x => x == 0 || x == 1)
def cntTo (xs : List Int) (i : Nat) : Nat := ((xs.take i).filter (fun x => x ≠ 0)).length
theorem take_succ' (xs : List Int) (i : Nat) (h : i < xs.length) : xs.take (i + 1) = xs.take i ++ [xs.getD i 0] := by
  rw [List.take_add_one, List.getElem?_eq_getElem h, List.getD_eq_getElem?_getD, List.getElem?_eq_getElem h]; rfl
theorem ones_succ (xs : List Int) (i : Nat) (h : i < xs.length) : onesTo xs (i + 1) = (onesTo xs i && (xs.getD i 0 == 0 || xs.getD i 0 == 1)) := by
  unfold onesTo; rw [take_succ' xs i h, List.all_append]; simp only [List.all_cons, List.all_nil, Bool.and_true]
theorem cnt_succ (xs : List Int) (i : Nat) (h : i < xs.length) : cntTo xs (i + 1) = cntTo xs i + (if xs.getD i 0 = 0 then 0 else 1) := by
  unfold cntTo; rw [take_succ' xs i h, List.filter_append, List.length_append]; congr 1
  by_cases h0 : xs.getD i 0 = 0
  · rw [if_pos h0, List.filter_cons_of_neg (by simpa using h0)]; rfl
  · rw [if_neg h0, List.filter_cons_of_pos (by simpa using h0)]; rfl
theorem cntTo_le (xs : List Int) (i : Nat) : cntTo xs i ≤ xs.length :=
  Nat.le_trans (List.length_filter_le _ _) (by rw [List.length_take]; omega)
theorem isOne_eq (xs : List Int) : isOne xs = (onesTo xs xs.length && decide (cntTo xs xs.length < 2)) := by
  unfold isOne onesTo cntTo; rw [List.take_length]
/-- A reader that stands elsewhere. -/
theorem RIn.on {w0 : World} {L L1 : List Chunk} {rv : Value} {bs : List Nat} {most at_ : Nat} {out : List Nat} {ov : Value} {Eo : Chunk} (h : RIn w0 L1 rv bs most at_ out ov Eo) (hx : Rd w0 L rv 1 bs.length (bytes bs)) : RIn w0 L rv bs most at_ out ov Eo :=
  ⟨hx, h.len, h.lt, h.at_, h.big, h.buf, h.room, h.outB, h.cap⟩
def orderI : List Int := [16, 17, 18, 0, 8, 7, 9, 6, 10, 5, 11, 4, 12, 3, 13, 2, 14, 1, 15]

theorem iwhole_spec (w0 : World) (L : List Chunk) (v : Value) (xs : List Int) (few : Bool) (hx : Rd w0 L v 1 xs.length (ints xs)) (hl : xs.length ≤ 35184372088832) :
    Meets Try.prog 200 #[v, .bool few] w0 L (WholeR few xs L) := by
  have hx0 := hx
  obtain ⟨_, b, o, A, c, rfl, hA, hr⟩ := hx
  refine Meets.of_body [.slice A xs.length c, .bool few] Try.func200 rfl Try.ntmps200 rfl ?_
  refine SC.seq ?_
  refine SC.plain ?_
  refine St.assign rfl rfl ?_
  refine St.assign rfl rfl ?_
  refine St.done ?_
  refine SX.seq ?_
  refine SC.seq ?_
  refine SC.plain ?_
  refine St.move rfl rfl ?_
  refine St.call [_] rfl (by kernel_rfl) rfl (new_spec w0 L _ xs hx0 hl) (fun _ _ _ _ h => h.nil) ?_
  rintro r1 L1 (⟨he, rfl, rfl⟩ | ⟨he, pc, E, rfl, hE, rfl⟩)
  · refine St.move rfl rfl ?_
    refine St.extract rfl rfl rfl ?_
    refine St.extract rfl rfl rfl ?_
    refine St.assign rfl rfl ?_
    refine St.assign rfl rfl ?_
    refine St.done ?_
    refine SX.seq ?_
    refine SC.seq ?_
    refine SC.seq ?_
    refine SC.plain ?_
    refine St.move rfl rfl ?_
    refine St.neq rfl rfl rfl ?_
    refine St.done ?_
    refine SX.seq ?_
    refine SC.condp rfl (fun c18 => ?_) (fun c18 => ?_)
    · refine SC.seq ?_
      refine SC.plain ?_
      refine St.assign rfl rfl ?_
      refine St.assign rfl rfl ?_
      refine St.done ?_
      refine SX.seq ?_
      refine SC.ret ?_
      refine SX.seq_ret ?_
      exact SX.ret2 rfl rfl rfl (.inr ⟨by unfold wholeOk; rw [decide_eq_false he, Bool.false_and], rfl, rfl⟩)
    · exfalso; omega
  · have hlens := (codesE_ok he).1
    have hsub : ∀ w, Own w0 (E ++ L) w → Own w0 L w := fun w hw => Own.right E hw
    refine St.move rfl rfl ?_
    refine St.extract rfl rfl rfl ?_
    refine St.extract rfl rfl rfl ?_
    refine St.assign rfl rfl ?_
    refine St.assign rfl rfl ?_
    refine St.done ?_
    refine SX.seq ?_
    refine SC.seq ?_
    refine SC.seq ?_
    refine SC.plain ?_
    refine St.move rfl rfl ?_
    refine St.neq rfl rfl rfl ?_
    refine St.done ?_
    refine SX.seq ?_
    refine SC.condp rfl (fun c18 => ?_) (fun c18 => ?_)
    · exfalso; omega
    · refine SC.skip ?_
      refine SX.seq ?_
      refine SC.seq ?_
      refine SC.plain ?_
      refine St.assign rfl rfl ?_
      refine St.assign rfl rfl ?_
      refine St.done ?_
      refine SX.seq ?_
      refine SC.seq ?_
      refine SC.seq ?_
      refine SC.plain ?_
      refine St.move rfl rfl ?_
      refine St.lenSl rfl rfl (by kernel_rfl) ?_
      refine St.move rfl rfl ?_
      refine St.done ?_
      refine SX.seq ?_
      refine SC.block ?_
      refine SC.loop (α := Nat) (fun i => i ≤ xs.length) (fun i => [(0, .slice A xs.length c), (1, .bool few), (6, .pointer (some ⟨pc, 0, none⟩)), (8, .int .i64 ((cntTo xs i : Nat) : Int)), (9, .bool (onesTo xs i)), (19, .slice A xs.length c), (20, .int .i64 ((xs.length : Nat) : Int)), (21, .int .i64 ((i : Nat) : Int))]) (fun _ => E ++ L) (fun i => xs.length - i) 0 (Nat.zero_le _) ⟨rfl, rfl, rfl, rfl, rfl, rfl, rfl, rfl, trivial⟩ (List.Perm.refl _) ?_
      intro i hi
      refine SC.seq ?_
      refine SC.plain ?_
      refine St.lss rfl rfl rfl ?_
      refine St.done ?_
      refine SX.seq ?_
      refine SC.seq ?_
      refine SC.condp rfl (fun c22 => ?_) (fun c22 => ?_)
      · have hlt : i < xs.length := by omega
        have hli := lens_at hlens i
        have hcs := cnt_succ xs i hlt
        have hos := ones_succ xs i hlt
        have hcl := cntTo_le xs i
        obtain rfl := hA (by omega)
        refine SC.skip ?_
        refine SX.seq ?_
        refine SC.seq ?_
        refine SC.block ?_
        refine SC.seq ?_
        refine SC.plain ?_
        refine St.indexSl (e := 3) (sz := 1) rfl rfl rfl (by kernel_rfl) (by omega) ?_
        refine St.load rfl rfl (by kernel_rfl) ((hr.mono hsub).nat i hlt) ?_
        refine St.assign rfl rfl ?_
        refine St.done ?_
        refine SX.seq ?_
        refine SC.seq ?_
        refine SC.plain ?_
        refine St.move rfl rfl ?_
        refine St.gtr rfl rfl rfl ?_
        refine St.done ?_
        refine SX.seq ?_
        refine SC.condp rfl (fun c26 => ?_) (fun c26 => ?_)
        · refine SC.seq ?_
          refine SC.plain ?_
          refine St.move rfl rfl ?_
          first | refine St.addN (b := 1) rfl rfl rfl (by omega) ?_ | refine St.addI rfl rfl rfl (by omega) ?_
          refine St.assign rfl rfl ?_
          refine St.done ?_
          refine SX.seq ?_
          refine SC.plain ?_
          refine St.move rfl rfl ?_
          refine St.move rfl rfl ?_
          refine St.splitB 30 rfl (fun g30 => ?_) (fun g30 => ?_)
          · refine St.guard_yes rfl rfl ?_
            refine St.move rfl rfl ?_
            refine St.guard_yes rfl rfl ?_
            refine St.eql rfl rfl rfl ?_
            refine St.pick_true rfl rfl rfl ?_
            refine St.assign rfl rfl ?_
            refine St.done ?_
            refine SX.blk ?_
            refine SX.seq ?_
            refine SC.plain ?_
            first | refine St.addN (b := 1) rfl rfl rfl (by omega) ?_ | refine St.addI rfl rfl rfl (by omega) ?_
            refine St.move rfl rfl ?_
            refine St.done ?_
            first
              | (have hc1 : cntTo xs (i + 1) = cntTo xs i + 1 := by rw [hcs, if_neg (by omega)]
                 have h0 : (xs.getD i 0 == 0) = false := by rw [beq_eq_false_iff_ne]; omega
                 have ho1 : onesTo xs (i + 1) = decide (xs.getD i 0 = 1) := by rw [hos, g30, h0, Bool.true_and, Bool.false_or]; rfl
                 exact SX.again (i + 1) (by omega) (by show xs.length - (i + 1) < xs.length - i; omega) ⟨rfl, rfl, rfl, by rw [hc1]; rfl, by rw [ho1]; rfl, rfl, rfl, rfl, trivial⟩ (List.Perm.refl _))
              | (have hc1 : cntTo xs (i + 1) = cntTo xs i + 1 := by rw [hcs, if_neg (by omega)]
                 have ho1 : onesTo xs (i + 1) = false := by rw [hos, g30, Bool.false_and]
                 exact SX.again (i + 1) (by omega) (by show xs.length - (i + 1) < xs.length - i; omega) ⟨rfl, rfl, rfl, by rw [hc1]; rfl, by rw [ho1]; rfl, rfl, rfl, rfl, trivial⟩ (List.Perm.refl _))
              | (have hc1 : cntTo xs (i + 1) = cntTo xs i := by rw [hcs, if_pos (by omega)]; rfl
                 have ho1 : onesTo xs (i + 1) = onesTo xs i := by rw [hos, show (xs.getD i 0 == 0) = true from by rw [beq_iff_eq]; omega, Bool.true_or, Bool.and_true]
                 exact SX.again (i + 1) (by omega) (by show xs.length - (i + 1) < xs.length - i; omega) ⟨rfl, rfl, rfl, by rw [hc1]; rfl, by rw [ho1]; rfl, rfl, rfl, rfl, trivial⟩ (List.Perm.refl _))
          · refine St.guard_no rfl rfl rfl ?_
            refine St.guard_no rfl rfl rfl ?_
            refine St.pick_false rfl rfl rfl ?_
            refine St.assign rfl rfl ?_
            refine St.done ?_
            refine SX.blk ?_
            refine SX.seq ?_
            refine SC.plain ?_
            first | refine St.addN (b := 1) rfl rfl rfl (by omega) ?_ | refine St.addI rfl rfl rfl (by omega) ?_
            refine St.move rfl rfl ?_
            refine St.done ?_
            first
              | (have hc1 : cntTo xs (i + 1) = cntTo xs i + 1 := by rw [hcs, if_neg (by omega)]
                 have h0 : (xs.getD i 0 == 0) = false := by rw [beq_eq_false_iff_ne]; omega
                 have ho1 : onesTo xs (i + 1) = decide (xs.getD i 0 = 1) := by rw [hos, g30, h0, Bool.true_and, Bool.false_or]; rfl
                 exact SX.again (i + 1) (by omega) (by show xs.length - (i + 1) < xs.length - i; omega) ⟨rfl, rfl, rfl, by rw [hc1]; rfl, by rw [ho1]; rfl, rfl, rfl, rfl, trivial⟩ (List.Perm.refl _))
              | (have hc1 : cntTo xs (i + 1) = cntTo xs i + 1 := by rw [hcs, if_neg (by omega)]
                 have ho1 : onesTo xs (i + 1) = false := by rw [hos, g30, Bool.false_and]
                 exact SX.again (i + 1) (by omega) (by show xs.length - (i + 1) < xs.length - i; omega) ⟨rfl, rfl, rfl, by rw [hc1]; rfl, by rw [ho1]; rfl, rfl, rfl, rfl, trivial⟩ (List.Perm.refl _))
              | (have hc1 : cntTo xs (i + 1) = cntTo xs i := by rw [hcs, if_pos (by omega)]; rfl
                 have ho1 : onesTo xs (i + 1) = onesTo xs i := by rw [hos, show (xs.getD i 0 == 0) = true from by rw [beq_iff_eq]; omega, Bool.true_or, Bool.and_true]
                 exact SX.again (i + 1) (by omega) (by show xs.length - (i + 1) < xs.length - i; omega) ⟨rfl, rfl, rfl, by rw [hc1]; rfl, by rw [ho1]; rfl, rfl, rfl, rfl, trivial⟩ (List.Perm.refl _))
        · refine SC.skip ?_
          refine SX.blk ?_
          refine SX.seq ?_
          refine SC.plain ?_
          first | refine St.addN (b := 1) rfl rfl rfl (by omega) ?_ | refine St.addI rfl rfl rfl (by omega) ?_
          refine St.move rfl rfl ?_
          refine St.done ?_
          first
            | (have hc1 : cntTo xs (i + 1) = cntTo xs i + 1 := by rw [hcs, if_neg (by omega)]
               have h0 : (xs.getD i 0 == 0) = false := by rw [beq_eq_false_iff_ne]; omega
               have ho1 : onesTo xs (i + 1) = decide (xs.getD i 0 = 1) := by rw [hos, g30, h0, Bool.true_and, Bool.false_or]; rfl
               exact SX.again (i + 1) (by omega) (by show xs.length - (i + 1) < xs.length - i; omega) ⟨rfl, rfl, rfl, by rw [hc1]; rfl, by rw [ho1]; rfl, rfl, rfl, rfl, trivial⟩ (List.Perm.refl _))
            | (have hc1 : cntTo xs (i + 1) = cntTo xs i + 1 := by rw [hcs, if_neg (by omega)]
               have ho1 : onesTo xs (i + 1) = false := by rw [hos, g30, Bool.false_and]
               exact SX.again (i + 1) (by omega) (by show xs.length - (i + 1) < xs.length - i; omega) ⟨rfl, rfl, rfl, by rw [hc1]; rfl, by rw [ho1]; rfl, rfl, rfl, rfl, trivial⟩ (List.Perm.refl _))
            | (have hc1 : cntTo xs (i + 1) = cntTo xs i := by rw [hcs, if_pos (by omega)]; rfl
               have ho1 : onesTo xs (i + 1) = onesTo xs i := by rw [hos, show (xs.getD i 0 == 0) = true from by rw [beq_iff_eq]; omega, Bool.true_or, Bool.and_true]
               exact SX.again (i + 1) (by omega) (by show xs.length - (i + 1) < xs.length - i; omega) ⟨rfl, rfl, rfl, by rw [hc1]; rfl, by rw [ho1]; rfl, rfl, rfl, rfl, trivial⟩ (List.Perm.refl _))
      · obtain rfl : i = xs.length := by omega
        have hwe : wholeOk few xs = (decide (kraft xs = 32768) || (few && (onesTo xs xs.length && decide (cntTo xs xs.length < 2)))) := by unfold wholeOk; rw [isOne_eq, decide_eq_true he, Bool.true_and]
        refine SC.exit ?_
        refine SX.seq_exit ?_
        refine SX.seq_exit ?_
        refine SX.hit ?_
        refine SX.seq ?_
        refine SC.seq ?_
        refine SC.seq ?_
        refine SC.plain ?_
        refine St.move rfl rfl ?_
        refine St.call [_] rfl (by kernel_rfl) rfl (complete_spec w0 _ _ xs (hx0.mono hsub) hl) (by first | exact fun _ _ _ _ h => h.nil | assumption) ?_
        rintro r2 L2 ⟨rfl, rfl⟩
        refine St.notB rfl rfl ?_
        refine St.move rfl rfl ?_
        refine St.splitB 38 rfl (fun g38 => ?_) (fun g38 => ?_)
        · refine St.guard_yes rfl rfl ?_
          refine St.move rfl rfl ?_
          refine St.guard_yes rfl rfl ?_
          refine St.move rfl rfl ?_
          refine St.splitB 40 rfl (fun g40 => ?_) (fun g40 => ?_)
          · refine St.guard_yes rfl rfl ?_
            refine St.move rfl rfl ?_
            refine St.guard_yes rfl rfl ?_
            refine St.lss rfl rfl rfl ?_
            refine St.guard_yes rfl rfl ?_
            refine St.pick_true rfl rfl rfl ?_
            refine St.guard_yes rfl rfl ?_
            refine St.move rfl rfl ?_
            refine St.split 44 rfl (fun g44 => ?_) (fun g44 => ?_)
            · refine St.guard_yes rfl rfl ?_
              refine St.move rfl rfl ?_
              refine St.guard_yes rfl rfl ?_
              refine St.pick_true rfl rfl rfl ?_
              refine St.guard_yes rfl rfl ?_
              refine St.notB rfl rfl ?_
              refine St.pick_true rfl rfl rfl ?_
              refine St.done ?_
              refine SX.seq ?_
              refine SC.cond rfl (fun c48 => ?_) (fun c48 => ?_)
              · refine SC.seq ?_
                refine SC.plain ?_
                refine St.assign rfl rfl ?_
                refine St.assign rfl rfl ?_
                refine St.done ?_
                refine SX.seq ?_
                refine SC.ret ?_
                refine SX.seq_ret ?_
                first
                  | have hN : decide (cntTo xs xs.length < 2) = true := decide_eq_true (by omega)
                  | have hN : decide (cntTo xs xs.length < 2) = false := decide_eq_false (by omega)
                  | skip
                rw [hlens, Bool.true_and] at g38
                first
                  | (have hw : wholeOk few xs = true := by rw [hwe]; simp_all
                     exact SX.ret2 rfl rfl rfl (.inl ⟨hw, he, pc, E, rfl, hE, rfl⟩))
                  | (have hw : wholeOk few xs = false := by rw [hwe]; simp_all
                     refine SX.weak L (List.sublist_append_right E L) ?_
                     exact SX.ret2 rfl rfl rfl (.inr ⟨hw, rfl, rfl⟩))
                  | (exfalso; simp_all)
                  | (exfalso; simp_all; omega)
              · refine SC.skip ?_
                refine SX.seq ?_
                refine SC.seq ?_
                refine SC.plain ?_
                refine St.move rfl rfl ?_
                refine St.assign rfl rfl ?_
                refine St.assign rfl rfl ?_
                refine St.done ?_
                refine SX.seq ?_
                refine SC.ret ?_
                first
                  | have hN : decide (cntTo xs xs.length < 2) = true := decide_eq_true (by omega)
                  | have hN : decide (cntTo xs xs.length < 2) = false := decide_eq_false (by omega)
                  | skip
                rw [hlens, Bool.true_and] at g38
                first
                  | (have hw : wholeOk few xs = true := by rw [hwe]; simp_all
                     exact SX.ret2 rfl rfl rfl (.inl ⟨hw, he, pc, E, rfl, hE, rfl⟩))
                  | (have hw : wholeOk few xs = false := by rw [hwe]; simp_all
                     refine SX.weak L (List.sublist_append_right E L) ?_
                     exact SX.ret2 rfl rfl rfl (.inr ⟨hw, rfl, rfl⟩))
                  | (exfalso; simp_all)
                  | (exfalso; simp_all; omega)
            · refine St.guard_no rfl rfl rfl ?_
              refine St.guard_yes rfl rfl ?_
              refine St.pick_false rfl rfl rfl ?_
              refine St.guard_yes rfl rfl ?_
              refine St.notB rfl rfl ?_
              refine St.pick_true rfl rfl rfl ?_
              refine St.done ?_
              refine SX.seq ?_
              refine SC.cond rfl (fun c48 => ?_) (fun c48 => ?_)
              · refine SC.seq ?_
                refine SC.plain ?_
                refine St.assign rfl rfl ?_
                refine St.assign rfl rfl ?_
                refine St.done ?_
                refine SX.seq ?_
                refine SC.ret ?_
                refine SX.seq_ret ?_
                first
                  | have hN : decide (cntTo xs xs.length < 2) = true := decide_eq_true (by omega)
                  | have hN : decide (cntTo xs xs.length < 2) = false := decide_eq_false (by omega)
                  | skip
                rw [hlens, Bool.true_and] at g38
                first
                  | (have hw : wholeOk few xs = true := by rw [hwe]; simp_all
                     exact SX.ret2 rfl rfl rfl (.inl ⟨hw, he, pc, E, rfl, hE, rfl⟩))
                  | (have hw : wholeOk few xs = false := by rw [hwe]; simp_all
                     refine SX.weak L (List.sublist_append_right E L) ?_
                     exact SX.ret2 rfl rfl rfl (.inr ⟨hw, rfl, rfl⟩))
                  | (exfalso; simp_all)
                  | (exfalso; simp_all; omega)
              · refine SC.skip ?_
                refine SX.seq ?_
                refine SC.seq ?_
                refine SC.plain ?_
                refine St.move rfl rfl ?_
                refine St.assign rfl rfl ?_
                refine St.assign rfl rfl ?_
                refine St.done ?_
                refine SX.seq ?_
                refine SC.ret ?_
                first
                  | have hN : decide (cntTo xs xs.length < 2) = true := decide_eq_true (by omega)
                  | have hN : decide (cntTo xs xs.length < 2) = false := decide_eq_false (by omega)
                  | skip
                rw [hlens, Bool.true_and] at g38
                first
                  | (have hw : wholeOk few xs = true := by rw [hwe]; simp_all
                     exact SX.ret2 rfl rfl rfl (.inl ⟨hw, he, pc, E, rfl, hE, rfl⟩))
                  | (have hw : wholeOk few xs = false := by rw [hwe]; simp_all
                     refine SX.weak L (List.sublist_append_right E L) ?_
                     exact SX.ret2 rfl rfl rfl (.inr ⟨hw, rfl, rfl⟩))
                  | (exfalso; simp_all)
                  | (exfalso; simp_all; omega)
          · refine St.guard_no rfl rfl rfl ?_
            refine St.guard_no rfl rfl rfl ?_
            refine St.guard_yes rfl rfl ?_
            refine St.pick_false rfl rfl rfl ?_
            refine St.guard_yes rfl rfl ?_
            refine St.move rfl rfl ?_
            refine St.guard_no rfl rfl rfl ?_
            refine St.guard_yes rfl rfl ?_
            refine St.pick_false rfl rfl rfl ?_
            refine St.guard_yes rfl rfl ?_
            refine St.notB rfl rfl ?_
            refine St.pick_true rfl rfl rfl ?_
            refine St.done ?_
            refine SX.seq ?_
            refine SC.cond rfl (fun c48 => ?_) (fun c48 => ?_)
            · refine SC.seq ?_
              refine SC.plain ?_
              refine St.assign rfl rfl ?_
              refine St.assign rfl rfl ?_
              refine St.done ?_
              refine SX.seq ?_
              refine SC.ret ?_
              refine SX.seq_ret ?_
              first
                | have hN : decide (cntTo xs xs.length < 2) = true := decide_eq_true (by omega)
                | have hN : decide (cntTo xs xs.length < 2) = false := decide_eq_false (by omega)
                | skip
              rw [hlens, Bool.true_and] at g38
              first
                | (have hw : wholeOk few xs = true := by rw [hwe]; simp_all
                   exact SX.ret2 rfl rfl rfl (.inl ⟨hw, he, pc, E, rfl, hE, rfl⟩))
                | (have hw : wholeOk few xs = false := by rw [hwe]; simp_all
                   refine SX.weak L (List.sublist_append_right E L) ?_
                   exact SX.ret2 rfl rfl rfl (.inr ⟨hw, rfl, rfl⟩))
                | (exfalso; simp_all)
                | (exfalso; simp_all; omega)
            · refine SC.skip ?_
              refine SX.seq ?_
              refine SC.seq ?_
              refine SC.plain ?_
              refine St.move rfl rfl ?_
              refine St.assign rfl rfl ?_
              refine St.assign rfl rfl ?_
              refine St.done ?_
              refine SX.seq ?_
              refine SC.ret ?_
              first
                | have hN : decide (cntTo xs xs.length < 2) = true := decide_eq_true (by omega)
                | have hN : decide (cntTo xs xs.length < 2) = false := decide_eq_false (by omega)
                | skip
              rw [hlens, Bool.true_and] at g38
              first
                | (have hw : wholeOk few xs = true := by rw [hwe]; simp_all
                   exact SX.ret2 rfl rfl rfl (.inl ⟨hw, he, pc, E, rfl, hE, rfl⟩))
                | (have hw : wholeOk few xs = false := by rw [hwe]; simp_all
                   refine SX.weak L (List.sublist_append_right E L) ?_
                   exact SX.ret2 rfl rfl rfl (.inr ⟨hw, rfl, rfl⟩))
                | (exfalso; simp_all)
                | (exfalso; simp_all; omega)
        · refine St.guard_no rfl rfl rfl ?_
          refine St.guard_no rfl rfl rfl ?_
          refine St.guard_none rfl rfl rfl ?_
          refine St.guard_none rfl rfl rfl ?_
          refine St.guard_no rfl rfl rfl ?_
          refine St.guard_no rfl rfl rfl ?_
          refine St.guard_none rfl rfl rfl ?_
          refine St.guard_no rfl rfl rfl ?_
          refine St.guard_no rfl rfl rfl ?_
          refine St.pick_false rfl rfl rfl ?_
          refine St.done ?_
          refine SX.seq ?_
          refine SC.cond_false rfl ?_
          refine SC.skip ?_
          refine SX.seq ?_
          refine SC.seq ?_
          refine SC.plain ?_
          refine St.move rfl rfl ?_
          refine St.assign rfl rfl ?_
          refine St.assign rfl rfl ?_
          refine St.done ?_
          refine SX.seq ?_
          refine SC.ret ?_
          first
            | have hN : decide (cntTo xs xs.length < 2) = true := decide_eq_true (by omega)
            | have hN : decide (cntTo xs xs.length < 2) = false := decide_eq_false (by omega)
            | skip
          rw [hlens, Bool.true_and] at g38
          first
            | (have hw : wholeOk few xs = true := by rw [hwe]; simp_all
               exact SX.ret2 rfl rfl rfl (.inl ⟨hw, he, pc, E, rfl, hE, rfl⟩))
            | (have hw : wholeOk few xs = false := by rw [hwe]; simp_all
               refine SX.weak L (List.sublist_append_right E L) ?_
               exact SX.ret2 rfl rfl rfl (.inr ⟨hw, rfl, rfl⟩))
            | (exfalso; simp_all)
            | (exfalso; simp_all; omega)
theorem iorder_spec (w0 : World) (L : List Chunk) : Meets Try.prog 199 #[] w0 L (fun r L' => L = L' ∧ r = .agg (ints orderI).toArray) := by
  refine Meets.of_body [] Try.func199 rfl Try.ntmps199 rfl ?_
  refine SC.seq ?_
  refine SC.plain ?_
  refine St.alloc (List.replicate 19 (.int .i64 0)) rfl (by kernel_rfl) (fun _ _ h => h.nil) (fun b0 => ?_)
  refine St.done ?_
  refine SX.seq ?_
  refine SC.seq ?_
  refine SC.plain ?_
  refine St.build [(0, .int .i64 16), (1, .int .i64 17), (2, .int .i64 18), (3, .int .i64 0), (4, .int .i64 8), (5, .int .i64 7), (6, .int .i64 9), (7, .int .i64 6), (8, .int .i64 10), (9, .int .i64 5), (10, .int .i64 11), (11, .int .i64 4), (12, .int .i64 12), (13, .int .i64 3), (14, .int .i64 13), (15, .int .i64 2), (16, .int .i64 14), (17, .int .i64 1), (18, .int .i64 15)] (ints orderI) rfl rfl (by kernel_rfl) ?_
  refine St.storeN rfl rfl rfl (ints orderI) rfl (by kernel_rfl) (by simp [ints, orderI, one]) (by simp [ints, orderI]) (fun _ h => h.nil) ?_
  rw [show splice (List.replicate 19 (.int .i64 0)) 0 (ints orderI) = ints orderI from rfl]
  refine St.done ?_
  refine SX.seq ?_
  refine SC.ret ?_
  exact SX.retC (ints orderI) (.inl rfl) rfl rfl (by kernel_rfl) (HoldsN.of_row mem0) (fun _ h => h.drop) ⟨rfl, rfl⟩
def AnsL (w0 : World) (g : Got (List Int)) (p q : Nat) (rv : Value) (bs : List Nat) (most : Nat) (L : List Chunk) (r : Value) (L' : List Chunk) : Prop := match g with
  | .ok l t o => ∃ v E', r = .tuple #[v, .int .i64 0] ∧ Buf 3 1 v (ints l) l.length E' ∧ ∃ ov Eo, RIn w0 L rv bs most t o ov Eo ∧ L' = RdL p q rv ov t most Eo (E' :: L)
  | .bad e => r = .tuple #[.slice none 0 0, .int .i64 e] ∧ e ≠ 0 ∧ L' = L
section ansl
variable {w0 : World} {g : Got (List Int)} {p q : Nat} {rv : Value} {bs : List Nat} {most : Nat} {L L' : List Chunk} {r : Value}
theorem AnsL.cases (h : AnsL w0 g p q rv bs most L r L') : (∃ l t1 o1 v E' v1 E1, g = .ok l t1 o1 ∧ r = .tuple #[v, .int .i64 0] ∧ Buf 3 1 v (ints l) l.length E' ∧ RIn w0 L rv bs most t1 o1 v1 E1 ∧ L' = RdL p q rv v1 t1 most E1 (E' :: L)) ∨ (∃ e, g = .bad e ∧ r = .tuple #[.slice none 0 0, .int .i64 e] ∧ e ≠ 0 ∧ L = L') := by
  unfold AnsL at h
  cases g with
  | ok a t o => obtain ⟨v, E, h1, h2, v2, E2, h3, h4⟩ := h; exact .inl ⟨a, t, o, v, E, v2, E2, rfl, h1, h2, h3, h4⟩
  | bad e => exact .inr ⟨e, rfl, h.1, h.2.1, h.2.2.symm⟩
theorem AnsL.ok {l : List Int} {t : Nat} {o : List Nat} {ov v : Value} {Eo E : Chunk} (h : g = .ok l t o) (hb : Buf 3 1 v (ints l) l.length E) (hR : RIn w0 L rv bs most t o ov Eo) : AnsL w0 g p q rv bs most L (.tuple #[v, .int .i64 0]) (RdL p q rv ov t most Eo (E :: L)) := by
  subst h; exact ⟨v, E, rfl, hb, ov, Eo, hR, rfl⟩
theorem AnsL.bad {e : Int} (h : g = .bad e) (h0 : e ≠ 0) : AnsL w0 g p q rv bs most L (.tuple #[.slice none 0 0, .int .i64 e]) L := by
  subst h; exact ⟨rfl, h0, rfl⟩
end ansl
theorem lengths_succ (own : List Int) (n f : Nat) (l : List Int) (bs : List Nat) (most p : Nat) (o : List Nat) : lengthsR own n (f + 1) l bs most p o = (if l.length < n then bindR (symR own) fun s => if s < 16 then lengthsR own n f (l ++ [s]) else
      bindR (takeR (if s = 17 then 3 else if s = 18 then 7 else 2)) fun more =>
        if (s = 16 ∧ l.length = 0) ∨ n - l.length < (if s = 18 then 11 else 3) + more then failR 3
        else lengthsR own n f (l ++ List.replicate ((if s = 18 then 11 else 3) + more) (if s = 16 then l.getD (l.length - 1) 0 else 0))
    else pureR l) bs most p o := rfl
theorem ints_one (xs : List Int) : ∀ c ∈ ints xs, one c = true := by
  intro c hc
  obtain ⟨x, _, rfl⟩ := List.mem_map.1 hc
  rfl
theorem ints_app (a b : List Int) : ints (a ++ b) = ints a ++ ints b := by simp [ints]

theorem ilengths_spec (w0 : World) (L : List Chunk) (p q : Nat) (rv ov : Value) (bs : List Nat) (most at_ : Nat) (out : List Nat) (Eo : Chunk) (hR : RIn w0 L rv bs most at_ out ov Eo) (pc n : Nat) (own : List Int) (hn : n ≤ 10000) (ho19 : own.length = 19) (hc0 : codesE own = 0) (hC : CodeRd w0 L pc own) (F : Nat) (hF : n < F) :
    Meets Try.prog 201 #[.pointer (some ⟨p, 0, none⟩), .pointer (some ⟨pc, 0, none⟩), .int .i64 ((n : Nat) : Int)] w0 (RdL p q rv ov at_ most Eo L) (AnsL w0 (lengthsR own n F [] bs most at_ out) p q rv bs most L) := by
  have hx := hR.rd
  have hl := hR.len
  have hb := hR.lt
  have hat := hR.at_
  have hmost := hR.big
  have hroom := hR.room
  refine Meets.of_body [.pointer (some ⟨p, 0, none⟩), .pointer (some ⟨pc, 0, none⟩), .int .i64 ((n : Nat) : Int)] Try.func201 rfl Try.ntmps201 rfl ?_
  refine SC.seq ?_
  refine SC.plain ?_
  refine St.assign rfl rfl ?_
  refine St.assign rfl rfl ?_
  refine St.done ?_
  refine SX.seq ?_
  refine SC.seq ?_
  refine SC.plain ?_
  refine St.assign rfl rfl ?_
  refine St.done ?_
  refine SX.seq ?_
  refine SC.seq ?_
  refine SC.block ?_
  refine SC.loop (α := Nat × Nat × List Nat × Value × Chunk × List Int × Value × Chunk) (fun s_ => n - s_.2.2.2.2.2.1.length < s_.1 ∧ s_.2.2.2.2.2.1.length ≤ n ∧ RIn w0 L rv bs most s_.2.1 s_.2.2.1 s_.2.2.2.1 s_.2.2.2.2.1 ∧ Buf 3 1 s_.2.2.2.2.2.2.1 (ints s_.2.2.2.2.2.1) s_.2.2.2.2.2.1.length s_.2.2.2.2.2.2.2 ∧ lengthsR own n F [] bs most at_ out = lengthsR own n s_.1 s_.2.2.2.2.2.1 bs most s_.2.1 s_.2.2.1) (fun s_ => [(0, .pointer (some ⟨p, 0, none⟩)), (1, .pointer (some ⟨pc, 0, none⟩)), (2, .int .i64 ((n : Nat) : Int)), (8, s_.2.2.2.2.2.2.1)]) (fun s_ => RdL p q rv s_.2.2.2.1 s_.2.1 most s_.2.2.2.2.1 (s_.2.2.2.2.2.2.2 :: L)) (fun s_ => s_.1) (F, at_, out, ov, Eo, [], .slice none 0 0, []) ⟨by simp only [List.length_nil]; omega, Nat.zero_le _, hR, Buf.nil 3 1, rfl⟩ ⟨rfl, rfl, rfl, rfl, trivial⟩ (List.Perm.refl _) ?_
  rintro ⟨f, t, o, v, E, l, vo, Eb⟩ ⟨hf, hln, hRi, hbi, hmi⟩
  simp only at hf hln hRi hbi hmi
  obtain ⟨f, rfl⟩ : ∃ f1, f = f1 + 1 := ⟨f - 1, by omega⟩
  rw [lengths_succ] at hmi
  obtain ⟨bo, oo, Ao, co, rfl, hAo, hro⟩ := hbi.read
  show SC _ _ _ [(0, .pointer (some ⟨p, 0, none⟩)), (1, .pointer (some ⟨pc, 0, none⟩)), (2, .int .i64 ((n : Nat) : Int)), (8, (.slice Ao l.length co))] (RdL p q rv v t most E (Eb :: L))
  unfold RdL
  refine SC.seq ?_
  refine SC.seq ?_
  refine SC.plain ?_
  refine St.move rfl rfl ?_
  refine St.lenSl rfl rfl (by kernel_rfl) ?_
  refine St.move rfl rfl ?_
  refine St.lss rfl rfl rfl ?_
  refine St.done ?_
  refine SX.seq ?_
  refine SC.condp rfl (fun c18 => ?_) (fun c18 => ?_)
  · have hm1 := hmi.trans (ifR_pos (by omega))
    refine SC.skip ?_
    refine SX.seq ?_
    refine SC.block ?_
    refine SC.seq ?_
    refine SC.plain ?_
    refine St.move rfl rfl ?_
    refine St.move rfl rfl ?_
    refine St.nilCheck rfl rfl ?_
    refine St.fieldAddr (off := 0) rfl rfl (by kernel_rfl) ?_
    refine St.load rfl rfl (by kernel_rfl) (by first | exact Holds.row mem0 rfl | exact Holds.row mem1 rfl | exact Holds.row mem2 rfl | exact Holds.row mem3 rfl | exact Holds.row mem4 rfl | exact Holds.row mem5 rfl | exact Holds.row mem6 rfl | exact Holds.row mem7 rfl | exact Holds.row mem8 rfl) ?_
    refine St.perm _ (perm12 _ _ _) ?_
    refine St.call [_, _] rfl (by kernel_rfl) rfl (cread_spec w0 _ rv own bs pc q t hc0 (hC.mono fun w hw => hw.drop.drop.drop) (hx.mono fun w hw => hw.drop.drop.drop) hl hb hRi.at_) (fun _ _ _ _ h => h.nil) ?_
    rintro r2 L2 h2
    rcases h2.cases most o hRi.at_ with ⟨d, t2, hg2, hd1, hd2, hd3, rfl, rfl⟩ | ⟨e, n2, t2, hg2, hne, rfl, rfl⟩
    · have hm2 := hm1.trans (bind_of hg2)
      have hR2 : RIn w0 L rv bs most t2 o v E := ⟨hRi.rd, hRi.len, hRi.lt, hd3, hRi.big, hRi.buf, hRi.room, hRi.outB, hRi.cap⟩
      refine St.perm (RdL p q rv v t2 most E (Eb :: L)) (perm12 _ _ _) ?_
      unfold RdL
      refine St.move rfl rfl ?_
      refine St.extract rfl rfl rfl ?_
      refine St.extract rfl rfl rfl ?_
      refine St.assign rfl rfl ?_
      refine St.assign rfl rfl ?_
      refine St.done ?_
      refine SX.seq ?_
      refine SC.seq ?_
      refine SC.seq ?_
      refine SC.plain ?_
      refine St.move rfl rfl ?_
      refine St.neq rfl rfl rfl ?_
      refine St.done ?_
      refine SX.seq ?_
      refine SC.condp rfl (fun c29 => ?_) (fun c29 => ?_)
      · exfalso; omega
      · refine SC.skip ?_
        refine SX.seq ?_
        refine SC.seq ?_
        refine SC.seq ?_
        refine SC.plain ?_
        refine St.move rfl rfl ?_
        refine St.lss rfl rfl rfl ?_
        refine St.done ?_
        refine SX.seq ?_
        refine SC.condp rfl (fun c32 => ?_) (fun c32 => ?_)
        · have hm4 := hm2.trans (ifR_pos (by omega))
          refine SC.seq ?_
          refine SC.plain ?_
          refine St.move rfl rfl ?_
          refine St.move rfl rfl ?_
          refine St.buildSl (n := 1) (e := 3) [(0, .int .i64 ((d : Nat) : Int))] (ints [(d : Int)]) rfl rfl (by kernel_rfl) (fun _ _ h => h.nil) (fun b5 => ?_)
          refine St.append4 (e := 3) (sz := 1) (bytes := 8) (xs := ints l) (n := l.length) (news := ints [(d : Int)]) (m := 1) rfl rfl rfl (by kernel_rfl) hbi (Rd.row rfl mem0) (ints_one _) (by omega) (by omega) (fun _ _ h => h.nil) (fun v2 E2 hb2 _ => ?_)
          rw [← ints_app] at hb2
          refine St.drop ?_
          refine St.assign rfl rfl ?_
          refine St.done ?_
          refine SX.seq ?_
          refine SC.exit ?_
          refine SX.seq_exit ?_
          refine SX.hit ?_
          first
            | exact SX.again (f, t2, o, v, E, l ++ [(d : Int)], v2, E2) ⟨by simp only [List.length_append, List.length_singleton]; omega, by simp only [List.length_append, List.length_singleton]; omega, hR2, by simp only [List.length_append, List.length_singleton]; exact hb2, hm4⟩ (by simp only; omega) ⟨rfl, rfl, rfl, rfl, trivial⟩ (List.Perm.refl _)
            | exact SX.again (f, t3, o3, v3, E3, l ++ List.replicate (K + a3) (if (d : Int) = 16 then l.getD (l.length - 1) 0 else 0), vj, Ej) ⟨by simp only [List.length_append, List.length_replicate]; omega, by simp only [List.length_append, List.length_replicate]; omega, hR3.on hx, by simp only [List.length_append, List.length_replicate]; exact hbj, hm5⟩ (by simp only; omega) ⟨rfl, rfl, rfl, rfl, trivial⟩ (List.Perm.refl _)
        · obtain ⟨W, hW⟩ : ∃ W : Nat, W = (if (d : Int) = 17 then 3 else if (d : Int) = 18 then 7 else 2) := ⟨_, rfl⟩
          obtain ⟨K, hK⟩ : ∃ K : Nat, K = (if (d : Int) = 18 then 11 else 3) := ⟨_, rfl⟩
          have hm3 : lengthsR own n F [] bs most at_ out = bindR (takeR W) (fun more => if ((d : Int) = 16 ∧ l.length = 0) ∨ n - l.length < K + more then failR 3 else lengthsR own n f (l ++ List.replicate (K + more) (if (d : Int) = 16 then l.getD (l.length - 1) 0 else 0))) bs most t2 o := by subst hW hK; exact hm2.trans (ifR_neg (by omega))
          have hW7 : W ≤ 7 := by rw [hW]; split; omega; split <;> omega
          have hK11 : K ≤ 11 ∧ 1 ≤ K := by rw [hK]; split <;> omega
          refine SC.skip ?_
          refine SX.seq ?_
          refine SC.seq ?_
          refine SC.plain ?_
          refine St.assign rfl rfl ?_
          refine St.assign rfl rfl ?_
          refine St.assign rfl rfl ?_
          refine St.done ?_
          refine SX.seq ?_
          refine SC.join (α := Unit) (fun _ => True) (fun _ => [(0, .pointer (some ⟨p, 0, none⟩)), (1, .pointer (some ⟨pc, 0, none⟩)), (2, .int .i64 ((n : Nat) : Int)), (8, (.slice Ao l.length co)), (9, .int .i64 ((d : Nat) : Int)), (12, .int .i64 ((K : Nat) : Int)), (13, .int .i64 ((W : Nat) : Int))]) (fun _ => RdL p q rv v t2 most E (Eb :: L)) ?_ ?_
          · rintro ⟨⟩ -
            show SC _ _ _ [(0, .pointer (some ⟨p, 0, none⟩)), (1, .pointer (some ⟨pc, 0, none⟩)), (2, .int .i64 ((n : Nat) : Int)), (8, (.slice Ao l.length co)), (9, .int .i64 ((d : Nat) : Int)), (12, .int .i64 ((K : Nat) : Int)), (13, .int .i64 ((W : Nat) : Int))] (RdL p q rv v t2 most E (Eb :: L))
            refine SC.seq ?_
            refine SC.seq ?_
            refine SC.plain ?_
            refine St.move rfl rfl ?_
            refine St.move rfl rfl ?_
            refine St.call [_, _] rfl (by kernel_rfl) rfl (itake_spec w0 (Eb :: L) p q rv v bs most t2 o E (hR2.on hx.cons) W (by omega)) (fun _ _ _ _ h => h.nil) ?_
            rintro r3 L3 h3
            rcases h3.cases with ⟨a3, t3, o3, v3, E3, hg3, rfl, hR3, rfl⟩ | ⟨e, hg3, rfl, hne, rfl⟩
            · have hm4 := hm3.trans (bind_of hg3)
              have ha3 := takeR_lt hg3
              have hpW : 2 ^ W ≤ 2 ^ 7 := Nat.pow_le_pow_right (by decide) hW7
              unfold RdL
              refine St.move rfl rfl ?_
              refine St.extract rfl rfl rfl ?_
              refine St.extract rfl rfl rfl ?_
              refine St.assign rfl rfl ?_
              refine St.assign rfl rfl ?_
              refine St.done ?_
              refine SX.seq ?_
              refine SC.seq ?_
              refine SC.plain ?_
              refine St.move rfl rfl ?_
              refine St.neq rfl rfl rfl ?_
              refine St.done ?_
              refine SX.seq ?_
              refine SC.condp rfl (fun c49 => ?_) (fun c49 => ?_)
              · exfalso; omega
              · refine SC.skip ?_
                refine SX.seq ?_
                refine SC.join (α := Unit) (fun _ => ¬(((d : Int) = 16 ∧ l.length = 0) ∨ n - l.length < K + a3)) (fun _ => [(0, .pointer (some ⟨p, 0, none⟩)), (1, .pointer (some ⟨pc, 0, none⟩)), (2, .int .i64 ((n : Nat) : Int)), (8, (.slice Ao l.length co)), (9, .int .i64 ((d : Nat) : Int)), (11, .int .i64 ((a3 : Nat) : Int)), (12, .int .i64 ((K : Nat) : Int))]) (fun _ => RdL p q rv v3 t3 most E3 (Eb :: L)) ?_ ?_
                · rintro ⟨⟩ hno
                  have hm5 := hm4.trans (ifR_neg hno)
                  show SC _ _ _ [(0, .pointer (some ⟨p, 0, none⟩)), (1, .pointer (some ⟨pc, 0, none⟩)), (2, .int .i64 ((n : Nat) : Int)), (8, (.slice Ao l.length co)), (9, .int .i64 ((d : Nat) : Int)), (11, .int .i64 ((a3 : Nat) : Int)), (12, .int .i64 ((K : Nat) : Int))] (RdL p q rv v3 t3 most E3 (Eb :: L))
                  unfold RdL
                  refine SC.seq ?_
                  refine SC.plain ?_
                  refine St.assign rfl rfl ?_
                  refine St.done ?_
                  refine SX.seq ?_
                  refine SC.join (α := Unit) (fun _ => True) (fun _ => [(0, .pointer (some ⟨p, 0, none⟩)), (1, .pointer (some ⟨pc, 0, none⟩)), (2, .int .i64 ((n : Nat) : Int)), (8, (.slice Ao l.length co)), (11, .int .i64 ((a3 : Nat) : Int)), (12, .int .i64 ((K : Nat) : Int)), (14, .int .i64 (if (d : Int) = 16 then l.getD (l.length - 1) 0 else 0))]) (fun _ => RdL p q rv v3 t3 most E3 (Eb :: L)) ?_ ?_
                  · rintro ⟨⟩ -
                    show SC _ _ _ [(0, .pointer (some ⟨p, 0, none⟩)), (1, .pointer (some ⟨pc, 0, none⟩)), (2, .int .i64 ((n : Nat) : Int)), (8, (.slice Ao l.length co)), (11, .int .i64 ((a3 : Nat) : Int)), (12, .int .i64 ((K : Nat) : Int)), (14, .int .i64 (if (d : Int) = 16 then l.getD (l.length - 1) 0 else 0))] (RdL p q rv v3 t3 most E3 (Eb :: L))
                    refine SC.seq ?_
                    refine SC.plain ?_
                    refine St.move rfl rfl ?_
                    refine St.move rfl rfl ?_
                    first | refine St.addN rfl rfl rfl (by omega) ?_ | refine St.addI rfl rfl rfl (by omega) ?_
                    refine St.move rfl rfl ?_
                    refine St.done ?_
                    refine SX.seq ?_
                    refine SC.block ?_
                    refine SC.loop (α := Nat × Value × Chunk) (fun s_ => s_.1 ≤ K + a3 ∧ Buf 3 1 s_.2.1 (ints (l ++ List.replicate s_.1 (if (d : Int) = 16 then l.getD (l.length - 1) 0 else 0))) (l.length + s_.1) s_.2.2) (fun s_ => [(0, .pointer (some ⟨p, 0, none⟩)), (1, .pointer (some ⟨pc, 0, none⟩)), (2, .int .i64 ((n : Nat) : Int)), (8, s_.2.1), (14, .int .i64 (if (d : Int) = 16 then l.getD (l.length - 1) 0 else 0)), (78, .int .i64 ((K + a3 : Nat) : Int)), (79, .int .i64 ((s_.1 : Nat) : Int))]) (fun s_ => RdL p q rv v3 t3 most E3 (s_.2.2 :: L)) (fun s_ => K + a3 - s_.1) (0, _, Eb) ⟨Nat.zero_le _, by simp only [List.replicate_zero, List.append_nil]; exact hbi⟩ ⟨rfl, rfl, rfl, rfl, rfl, rfl, rfl, trivial⟩ (List.Perm.refl _) ?_
                    rintro ⟨j, vj, Ej⟩ ⟨hj, hbj⟩
                    simp only at hj hbj
                    show SC _ _ _ [(0, .pointer (some ⟨p, 0, none⟩)), (1, .pointer (some ⟨pc, 0, none⟩)), (2, .int .i64 ((n : Nat) : Int)), (8, vj), (14, .int .i64 (if (d : Int) = 16 then l.getD (l.length - 1) 0 else 0)), (78, .int .i64 ((K + a3 : Nat) : Int)), (79, .int .i64 ((j : Nat) : Int))] (RdL p q rv v3 t3 most E3 (Ej :: L))
                    unfold RdL
                    refine SC.seq ?_
                    refine SC.plain ?_
                    refine St.lss rfl rfl rfl ?_
                    refine St.done ?_
                    refine SX.seq ?_
                    refine SC.seq ?_
                    refine SC.condp rfl (fun c80 => ?_) (fun c80 => ?_)
                    · refine SC.skip ?_
                      refine SX.seq ?_
                      refine SC.seq ?_
                      refine SC.block ?_
                      refine SC.plain ?_
                      refine St.move rfl rfl ?_
                      refine St.move rfl rfl ?_
                      refine St.buildSl (n := 1) (e := 3) [(0, .int .i64 (if (d : Int) = 16 then l.getD (l.length - 1) 0 else 0))] (ints [(if (d : Int) = 16 then l.getD (l.length - 1) 0 else 0)]) rfl rfl (by kernel_rfl) (fun _ _ h => h.nil) (fun b5 => ?_)
                      refine St.append4 (e := 3) (sz := 1) (bytes := 8) (xs := ints (l ++ List.replicate j (if (d : Int) = 16 then l.getD (l.length - 1) 0 else 0))) (n := l.length + j) (news := ints [(if (d : Int) = 16 then l.getD (l.length - 1) 0 else 0)]) (m := 1) rfl rfl rfl (by kernel_rfl) hbj (Rd.row rfl mem0) (ints_one _) (by omega) (by omega) (fun _ _ h => h.nil) (fun v2 E2 hb2 _ => ?_)
                      rw [← ints_app] at hb2
                      refine St.drop ?_
                      refine St.assign rfl rfl ?_
                      refine St.done ?_
                      refine SX.blk ?_
                      refine SX.seq ?_
                      refine SC.plain ?_
                      first | refine St.addN (b := 1) rfl rfl rfl (by omega) ?_ | refine St.addI rfl rfl rfl (by omega) ?_
                      refine St.move rfl rfl ?_
                      refine St.done ?_
                      exact SX.again (j + 1, v2, E2) ⟨by simp only; omega, by simp only; rw [List.replicate_succ', ← List.append_assoc]; exact hb2⟩ (by simp only; omega) ⟨rfl, rfl, rfl, rfl, rfl, rfl, rfl, trivial⟩ (List.Perm.refl _)
                    · refine SC.exit ?_
                      refine SX.seq_exit ?_
                      refine SX.seq_exit ?_
                      refine SX.hit ?_
                      obtain rfl : j = K + a3 := by omega
                      refine SX.blk ?_
                      first
                        | exact SX.again (f, t2, o, v, E, l ++ [(d : Int)], v2, E2) ⟨by simp only [List.length_append, List.length_singleton]; omega, by simp only [List.length_append, List.length_singleton]; omega, hR2, by simp only [List.length_append, List.length_singleton]; exact hb2, hm4⟩ (by simp only; omega) ⟨rfl, rfl, rfl, rfl, trivial⟩ (List.Perm.refl _)
                        | exact SX.again (f, t3, o3, v3, E3, l ++ List.replicate (K + a3) (if (d : Int) = 16 then l.getD (l.length - 1) 0 else 0), vj, Ej) ⟨by simp only [List.length_append, List.length_replicate]; omega, by simp only [List.length_append, List.length_replicate]; omega, hR3.on hx, by simp only [List.length_append, List.length_replicate]; exact hbj, hm5⟩ (by simp only; omega) ⟨rfl, rfl, rfl, rfl, trivial⟩ (List.Perm.refl _)
                  · refine SC.seq ?_
                    refine SC.plain ?_
                    refine St.move rfl rfl ?_
                    refine St.eql rfl rfl rfl ?_
                    refine St.done ?_
                    refine SX.seq ?_
                    refine SC.condp rfl (fun c69 => ?_) (fun c69 => ?_)
                    · obtain rfl := hAo (by omega)
                      have hrr := hro w0 (RdL p q rv v3 t3 most E3 (Eb :: L)) (by simp [RdL])
                      refine SC.plain ?_
                      refine St.move rfl rfl ?_
                      refine St.move rfl rfl ?_
                      refine St.lenSl rfl rfl (by kernel_rfl) ?_
                      first | refine St.subN (b := 1) rfl rfl rfl (by omega) (by omega) ?_ | refine St.subI rfl rfl rfl (by omega) ?_
                      refine St.indexSl (e := 3) (sz := 1) rfl rfl rfl (by kernel_rfl) (by omega) ?_
                      refine St.load rfl rfl (by kernel_rfl) (hrr.nat (l.length - 1) (by omega)) ?_
                      refine St.assign rfl rfl ?_
                      refine St.done ?_
                      exact SX.some () trivial ⟨rfl, rfl, rfl, rfl, rfl, rfl, by first | (rw [if_pos (by omega)]; rfl) | (rw [if_neg (by omega)]; rfl), trivial⟩ (List.Perm.refl _)
                    · refine SC.skip ?_
                      exact SX.some () trivial ⟨rfl, rfl, rfl, rfl, rfl, rfl, by first | (rw [if_pos (by omega)]; rfl) | (rw [if_neg (by omega)]; rfl), trivial⟩ (List.Perm.refl _)
                · refine SC.seq ?_
                  refine SC.plain ?_
                  refine St.move rfl rfl ?_
                  refine St.eql rfl rfl rfl ?_
                  refine St.move rfl rfl ?_
                  refine St.split 53 rfl (fun g53 => ?_) (fun g53 => ?_)
                  · refine St.guard_yes rfl rfl ?_
                    refine St.move rfl rfl ?_
                    refine St.guard_yes rfl rfl ?_
                    refine St.lenSl rfl rfl (by kernel_rfl) ?_
                    refine St.guard_yes rfl rfl ?_
                    refine St.eql rfl rfl rfl ?_
                    refine St.pick_true rfl rfl rfl ?_
                    refine St.move rfl rfl ?_
                    refine St.split 58 rfl (fun g58 => ?_) (fun g58 => ?_)
                    · refine St.guard_no rfl rfl rfl ?_
                      refine St.guard_no rfl rfl rfl ?_
                      refine St.guard_no rfl rfl rfl ?_
                      refine St.guard_no rfl rfl rfl ?_
                      refine St.guard_no rfl rfl rfl ?_
                      refine St.guard_no rfl rfl rfl ?_
                      refine St.guard_no rfl rfl rfl ?_
                      refine St.guard_no rfl rfl rfl ?_
                      refine St.pick_true rfl rfl rfl ?_
                      refine St.done ?_
                      refine SX.seq ?_
                      refine SC.cond_true rfl ?_
                      refine SC.seq ?_
                      refine SC.plain ?_
                      refine St.assign rfl rfl ?_
                      refine St.assign rfl rfl ?_
                      refine St.done ?_
                      refine SX.seq ?_
                      refine SC.ret ?_
                      refine SX.seq_ret ?_
                      refine SX.blk_ret ?_
                      refine SX.seq_ret ?_
                      refine SX.blk_ret ?_
                      refine SX.seq_ret ?_
                      refine SX.weak L (.cons _ (.cons _ (.cons _ (.cons _ (List.Sublist.refl _))))) ?_
                      exact SX.ret2 rfl rfl rfl (AnsL.bad (hm4.trans (ifR_pos (by omega))) (by decide))
                    · refine St.guard_yes rfl rfl ?_
                      refine St.move rfl rfl ?_
                      refine St.guard_yes rfl rfl ?_
                      refine St.move rfl rfl ?_
                      refine St.guard_yes rfl rfl ?_
                      first | refine St.addN rfl rfl rfl (by omega) ?_ | refine St.addI rfl rfl rfl (by omega) ?_
                      refine St.guard_yes rfl rfl ?_
                      refine St.move rfl rfl ?_
                      refine St.guard_yes rfl rfl ?_
                      refine St.move rfl rfl ?_
                      refine St.guard_yes rfl rfl ?_
                      refine St.lenSl rfl rfl (by kernel_rfl) ?_
                      refine St.guard_yes rfl rfl ?_
                      first | refine St.subN rfl rfl rfl (by omega) (by omega) ?_ | refine St.subI rfl rfl rfl (by omega) ?_
                      refine St.guard_yes rfl rfl ?_
                      refine St.gtr rfl rfl rfl ?_
                      refine St.pick_false rfl rfl rfl ?_
                      refine St.done ?_
                      refine SX.seq ?_
                      refine SC.condp rfl (fun c67 => ?_) (fun c67 => ?_)
                      · refine SC.seq ?_
                        refine SC.plain ?_
                        refine St.assign rfl rfl ?_
                        refine St.assign rfl rfl ?_
                        refine St.done ?_
                        refine SX.seq ?_
                        refine SC.ret ?_
                        refine SX.seq_ret ?_
                        refine SX.blk_ret ?_
                        refine SX.seq_ret ?_
                        refine SX.blk_ret ?_
                        refine SX.seq_ret ?_
                        refine SX.weak L (.cons _ (.cons _ (.cons _ (.cons _ (List.Sublist.refl _))))) ?_
                        exact SX.ret2 rfl rfl rfl (AnsL.bad (hm4.trans (ifR_pos (by omega))) (by decide))
                      · refine SC.skip ?_
                        exact SX.some () (by omega) ⟨rfl, rfl, rfl, rfl, rfl, rfl, rfl, trivial⟩ (List.Perm.refl _)
                  · refine St.guard_no rfl rfl rfl ?_
                    refine St.guard_no rfl rfl rfl ?_
                    refine St.guard_no rfl rfl rfl ?_
                    refine St.pick_false rfl rfl rfl ?_
                    refine St.move rfl rfl ?_
                    refine St.guard_yes rfl rfl ?_
                    refine St.move rfl rfl ?_
                    refine St.guard_yes rfl rfl ?_
                    refine St.move rfl rfl ?_
                    refine St.guard_yes rfl rfl ?_
                    first | refine St.addN rfl rfl rfl (by omega) ?_ | refine St.addI rfl rfl rfl (by omega) ?_
                    refine St.guard_yes rfl rfl ?_
                    refine St.move rfl rfl ?_
                    refine St.guard_yes rfl rfl ?_
                    refine St.move rfl rfl ?_
                    refine St.guard_yes rfl rfl ?_
                    refine St.lenSl rfl rfl (by kernel_rfl) ?_
                    refine St.guard_yes rfl rfl ?_
                    first | refine St.subN rfl rfl rfl (by omega) (by omega) ?_ | refine St.subI rfl rfl rfl (by omega) ?_
                    refine St.guard_yes rfl rfl ?_
                    refine St.gtr rfl rfl rfl ?_
                    refine St.pick_false rfl rfl rfl ?_
                    refine St.done ?_
                    refine SX.seq ?_
                    refine SC.condp rfl (fun c67 => ?_) (fun c67 => ?_)
                    · refine SC.seq ?_
                      refine SC.plain ?_
                      refine St.assign rfl rfl ?_
                      refine St.assign rfl rfl ?_
                      refine St.done ?_
                      refine SX.seq ?_
                      refine SC.ret ?_
                      refine SX.seq_ret ?_
                      refine SX.blk_ret ?_
                      refine SX.seq_ret ?_
                      refine SX.blk_ret ?_
                      refine SX.seq_ret ?_
                      refine SX.weak L (.cons _ (.cons _ (.cons _ (.cons _ (List.Sublist.refl _))))) ?_
                      exact SX.ret2 rfl rfl rfl (AnsL.bad (hm4.trans (ifR_pos (by omega))) (by decide))
                    · refine SC.skip ?_
                      exact SX.some () (by omega) ⟨rfl, rfl, rfl, rfl, rfl, rfl, rfl, trivial⟩ (List.Perm.refl _)
            · have hm4 := hm3.trans (bind_bad hg3)
              refine St.move rfl rfl ?_
              refine St.extract rfl rfl rfl ?_
              refine St.extract rfl rfl rfl ?_
              refine St.assign rfl rfl ?_
              refine St.assign rfl rfl ?_
              refine St.done ?_
              refine SX.seq ?_
              refine SC.seq ?_
              refine SC.plain ?_
              refine St.move rfl rfl ?_
              refine St.neq rfl rfl rfl ?_
              refine St.done ?_
              refine SX.seq ?_
              refine SC.condp rfl (fun c49 => ?_) (fun c49 => ?_)
              · refine SC.seq ?_
                refine SC.plain ?_
                refine St.move rfl rfl ?_
                refine St.assign rfl rfl ?_
                refine St.assign rfl rfl ?_
                refine St.done ?_
                refine SX.seq ?_
                refine SC.ret ?_
                refine SX.seq_ret ?_
                refine SX.blk_ret ?_
                refine SX.seq_ret ?_
                refine SX.blk_ret ?_
                refine SX.seq_ret ?_
                refine SX.weak L (.cons _ (List.Sublist.refl _)) ?_
                exact SX.ret2 rfl rfl rfl (AnsL.bad hm4 hne)
              · exfalso; omega
          · refine SC.seq ?_
            refine SC.plain ?_
            refine St.move rfl rfl ?_
            refine St.done ?_
            refine SX.seq ?_
            refine SC.block ?_
            refine SC.seq ?_
            refine SC.plain ?_
            refine St.eql rfl rfl rfl ?_
            refine St.assign rfl rfl ?_
            refine St.done ?_
            refine SX.seq ?_
            refine SC.condp rfl (fun c38 => ?_) (fun c38 => ?_)
            · refine SC.plain ?_
              refine St.assign rfl rfl ?_
              refine St.done ?_
              refine SX.blk ?_
              exact SX.some () trivial ⟨rfl, rfl, rfl, rfl, rfl, by rw [hK]; first | (rw [if_pos (by omega)]; rfl) | (rw [if_neg (by omega)]; rfl), by rw [hW]; first | (rw [if_pos (by omega)]; rfl) | (rw [if_neg (by omega), if_pos (by omega)]; rfl) | (rw [if_neg (by omega), if_neg (by omega)]; rfl), trivial⟩ (List.Perm.refl _)
            · refine SC.seq ?_
              refine SC.plain ?_
              refine St.eql rfl rfl rfl ?_
              refine St.assign rfl rfl ?_
              refine St.done ?_
              refine SX.seq ?_
              refine SC.condp rfl (fun c40 => ?_) (fun c40 => ?_)
              · refine SC.plain ?_
                refine St.assign rfl rfl ?_
                refine St.assign rfl rfl ?_
                refine St.done ?_
                refine SX.blk ?_
                exact SX.some () trivial ⟨rfl, rfl, rfl, rfl, rfl, by rw [hK]; first | (rw [if_pos (by omega)]; rfl) | (rw [if_neg (by omega)]; rfl), by rw [hW]; first | (rw [if_pos (by omega)]; rfl) | (rw [if_neg (by omega), if_pos (by omega)]; rfl) | (rw [if_neg (by omega), if_neg (by omega)]; rfl), trivial⟩ (List.Perm.refl _)
              · refine SC.skip ?_
                refine SX.blk ?_
                exact SX.some () trivial ⟨rfl, rfl, rfl, rfl, rfl, by rw [hK]; first | (rw [if_pos (by omega)]; rfl) | (rw [if_neg (by omega)]; rfl), by rw [hW]; first | (rw [if_pos (by omega)]; rfl) | (rw [if_neg (by omega), if_pos (by omega)]; rfl) | (rw [if_neg (by omega), if_neg (by omega)]; rfl), trivial⟩ (List.Perm.refl _)
    · have hm2 := hm1.trans (bind_bad hg2)
      refine St.move rfl rfl ?_
      refine St.extract rfl rfl rfl ?_
      refine St.extract rfl rfl rfl ?_
      refine St.assign rfl rfl ?_
      refine St.assign rfl rfl ?_
      refine St.done ?_
      refine SX.seq ?_
      refine SC.seq ?_
      refine SC.seq ?_
      refine SC.plain ?_
      refine St.move rfl rfl ?_
      refine St.neq rfl rfl rfl ?_
      refine St.done ?_
      refine SX.seq ?_
      refine SC.condp rfl (fun c29 => ?_) (fun c29 => ?_)
      · refine SC.seq ?_
        refine SC.plain ?_
        refine St.move rfl rfl ?_
        refine St.assign rfl rfl ?_
        refine St.assign rfl rfl ?_
        refine St.done ?_
        refine SX.seq ?_
        refine SC.ret ?_
        refine SX.seq_ret ?_
        refine SX.blk_ret ?_
        refine SX.seq_ret ?_
        refine SX.blk_ret ?_
        refine SX.seq_ret ?_
        refine SX.weak L (.cons _ (.cons _ (.cons _ (.cons _ (List.Sublist.refl _))))) ?_
        exact SX.ret2 rfl rfl rfl (AnsL.bad hm2 hne)
      · exfalso; omega
  · refine SC.exit ?_
    refine SX.seq_exit ?_
    refine SX.seq_exit ?_
    refine SX.hit ?_
    refine SX.seq ?_
    refine SC.seq ?_
    refine SC.plain ?_
    refine St.move rfl rfl ?_
    refine St.assign rfl rfl ?_
    refine St.assign rfl rfl ?_
    refine St.done ?_
    refine SX.seq ?_
    refine SC.ret ?_
    exact SX.ret2 rfl rfl rfl (AnsL.ok (hmi.trans (ifR_neg (by omega))) hbi hRi)
end Go.Proofs.Ytahafepgmkiabaa
