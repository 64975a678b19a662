/- Walks: what the document fixes of streams (awake). -/
import Derived.Test.YtahafepgmkiabaaU3
import Derived.Test.YtahafepgmkiabaaSepN
set_option linter.unusedVariables false
set_option linter.unusedSimpArgs false
set_option linter.ambiguousOpen false
namespace Go.Proofs.Ytahafepgmkiabaa
open Go Go.Proofs.Ytahafepgmkiabaa.Sep

def syn7 : List Nat := segOf ⟨1, 7, 0, 0, []⟩
theorem syn7_seg : isSeg syn7 = true ∧ segFrom syn7 = ⟨1, 7, 0, 0, []⟩ := seg_back (s := ⟨1, 7, 0, 0, []⟩) (by simp) (by decide)
theorem aw1 : (enNew 7 1).outp 0 = ({ enNew 7 1 with asked := true, at_ := 0 }, [syn7]) := rfl
theorem aw2 : ({ enNew 7 1 with asked := true, at_ := 0 } : En).outp 3 = ({ enNew 7 1 with asked := true, at_ := 0 }, []) := rfl
theorem aw3 : ({ enNew 7 1 with asked := true, at_ := 0 } : En).outp 8 = ({ enNew 7 1 with asked := true, at_ := 8 }, [syn7]) := rfl
theorem aw4 : (enNew 7 2).inp syn7 0 = { enNew 7 2 with st := 3, owes := true } := by
  unfold En.inp
  rw [syn7_seg.1, syn7_seg.2]
  rfl
theorem aw5 : ({ enNew 7 2 with st := 3, owes := true } : En).st = 3 := rfl
theorem aw6 : (({ enNew 7 2 with st := 3, owes := true } : En).outp 0).2.length = 1 := rfl
theorem list1 {α : Type} {l : List α} (h : l.length = 1) : ∃ x, l = [x] := by
  match l, h with
  | [x], _ => exact ⟨x, rfl⟩
theorem list0 {α : Type} {l : List α} (h : l.length = 0) : l = [] := List.eq_nil_of_length_eq_zero h
theorem clock0 : Clock 0 := by unfold Clock; decide
theorem clock3 : Clock 3 := by unfold Clock; decide
theorem clock8 : Clock 8 := by unfold Clock; decide

theorem awake18_spec (w0 : World) (L : List Chunk) : Meets Try.prog 63 #[] w0 L (fun r L' => L = L' ∧ r = .bool true) := by
  refine Meets.of_body [] Try.func63 rfl Try.ntmps63 rfl ?_
  refine SC.seq ?_
  refine SC.plain ?_
  refine St.assign rfl rfl ?_
  refine St.done ?_
  refine SX.seq ?_
  refine SC.seq ?_
  refine SC.plain ?_
  refine St.call [.int .i64 7] rfl (by kernel_rfl) rfl (dial_spec w0 L 7) (by first | exact fun _ _ _ _ h => h.nil | assumption) ?_
  rintro r1 L1 ⟨p, rfl, ov0, iv0, at0, Eo0, Ei0, hB0, rfl⟩
  refine St.assign rfl rfl ?_
  refine St.done ?_
  refine SX.seq ?_
  refine SC.seq ?_
  refine SC.plain ?_
  refine St.call [.int .i64 7] rfl (by kernel_rfl) rfl (listen_spec w0 _ 7) (by first | exact fun _ _ _ _ h => h.nil | assumption) ?_
  rintro r2 L1 ⟨q, rfl, ov1, iv1, at1, Eo1, Ei1, hB1, rfl⟩
  refine St.perm (EnL p (enNew 7 1) ov0 iv0 at0 Eo0 Ei0 (EnL q (enNew 7 2) ov1 iv1 at1 Eo1 Ei1 L)) (perm33 _ _ _ _ _ _ _) ?_
  refine St.assign rfl rfl ?_
  refine St.done ?_
  refine SX.seq ?_
  refine SC.seq ?_
  refine SC.seq ?_
  refine SC.plain ?_
  refine St.move rfl rfl ?_
  refine St.ptrEql rfl rfl rfl (by kernel_rfl) ?_
  refine St.move rfl rfl ?_
  refine St.guard_yes rfl rfl ?_
  refine St.move rfl rfl ?_
  refine St.guard_yes rfl rfl ?_
  refine St.ptrEql rfl rfl rfl (by kernel_rfl) ?_
  refine St.pick_false rfl rfl rfl ?_
  refine St.done ?_
  refine SX.seq ?_
  refine SC.cond_false rfl ?_
  refine SC.skip ?_
  refine SX.seq ?_
  refine SC.seq ?_
  refine SC.plain ?_
  refine St.move rfl rfl ?_
  refine St.call [_, _] rfl (by kernel_rfl) rfl (out18_spec w0 _ p _ _ _ _ _ _ hB0 0 clock0) (fun _ _ _ _ h => h.nil) ?_
  rw [aw1]
  rintro r3 L1 ⟨vs, Eb, Es, ov2, iv2, at2, Eo2, Ei2, hb, hos, hB2, rfl⟩
  obtain ⟨E1, rfl⟩ := list1 hos.2.1
  obtain ⟨v1, rfl⟩ := list1 hos.1
  have hseg := hos.2.2 0 v1 syn7 E1 rfl rfl rfl
  have hbr := hb.read
  obtain ⟨ba, oa, Aa, ca, rfl, hAa, hha⟩ := hbr
  have hAe := hAa (by decide)
  subst hAe
  refine St.move rfl rfl ?_
  refine St.call [_, _] rfl (by kernel_rfl) rfl (out18_spec w0 _ p _ _ _ _ _ _ hB2 3 clock3) (fun _ _ _ _ h => h.nil) ?_
  rw [aw2]
  rintro r4 L1 ⟨vs2, Eb2, Es2, ov3, iv3, at3, Eo3, Ei3, hb2, hos2, hB3, rfl⟩
  have hz := list0 hos2.2.1
  subst hz
  have hbr2 := hb2.read
  obtain ⟨_, _, A2, c2, rfl, _, _⟩ := hbr2
  refine St.move rfl rfl ?_
  refine St.call [_, _] rfl (by kernel_rfl) rfl (out18_spec w0 _ p _ _ _ _ _ _ hB3 8 clock8) (fun _ _ _ _ h => h.nil) ?_
  rw [aw3]
  rintro r5 L1 ⟨vs3, Eb3, Es3, ov4, iv4, at4, Eo4, Ei4, hb3, hos3, hB4, rfl⟩
  obtain ⟨E3, rfl⟩ := list1 hos3.2.1
  have hbr3 := hb3.read
  obtain ⟨_, _, A3, c3, rfl, _, _⟩ := hbr3
  refine St.weak (EnL p { enNew 7 1 with asked := true, at_ := 8 } ov4 iv4 at4 Eo4 Ei4 (Eb :: E1 :: EnL q (enNew 7 2) ov1 iv1 at1 Eo1 Ei1 L)) (.cons_cons _ (.cons_cons _ (.cons_cons _ (.cons _ (.cons _ (.cons _ (List.Sublist.refl _))))))) ?_
  refine St.assign rfl rfl ?_
  refine St.assign rfl rfl ?_
  refine St.assign rfl rfl ?_
  refine St.done ?_
  refine SX.seq ?_
  refine SC.seq ?_
  refine SC.seq ?_
  refine SC.plain ?_
  refine St.move rfl rfl ?_
  refine St.lenSl rfl rfl (by kernel_rfl) ?_
  refine St.neq rfl rfl rfl ?_
  refine St.move rfl rfl ?_
  refine St.split 23 rfl (fun g23 => ?_) (fun g23 => ?_)
  · exact absurd rfl g23
  · refine St.guard_yes rfl rfl ?_
    refine St.move rfl rfl ?_
    refine St.guard_yes rfl rfl ?_
    refine St.lenSl rfl rfl (by kernel_rfl) ?_
    refine St.guard_yes rfl rfl ?_
    refine St.neq rfl rfl rfl ?_
    refine St.pick_false rfl rfl rfl ?_
    refine St.move rfl rfl ?_
    refine St.split 28 rfl (fun g28 => ?_) (fun g28 => ?_)
    · exact absurd rfl g28
    · refine St.guard_yes rfl rfl ?_
      refine St.move rfl rfl ?_
      refine St.guard_yes rfl rfl ?_
      refine St.lenSl rfl rfl (by kernel_rfl) ?_
      refine St.guard_yes rfl rfl ?_
      refine St.neq rfl rfl rfl ?_
      refine St.pick_false rfl rfl rfl ?_
      refine St.done ?_
      refine SX.seq ?_
      refine SC.condp rfl (fun c32 => ?_) (fun c32 => ?_)
      · exact absurd rfl c32
      · refine SC.skip ?_
        refine SX.seq ?_
        refine SC.seq ?_
        refine SC.plain ?_
        refine St.move rfl rfl ?_
        refine St.move rfl rfl ?_
        refine St.indexSl (e := 35) (sz := 1) rfl rfl rfl (by kernel_rfl) (by decide) ?_
        refine St.load rfl rfl (by kernel_rfl) (fun w hw => hha w0 [Eb] (by simp) w (hw.sub (sub_flat (.cons _ (.cons _ (.cons _ (.cons_cons _ (List.nil_sublist _))))))) 0 v1 rfl) ?_
        refine St.perm (EnL q (enNew 7 2) ov1 iv1 at1 Eo1 Ei1 (EnL p { enNew 7 1 with asked := true, at_ := 8 } ov4 iv4 at4 Eo4 Ei4 (Eb :: E1 :: L))) (perm_block [_, _, _, _, _] [_, _, _] L) ?_
        refine St.call [_, _, _] rfl (by kernel_rfl) rfl (in18_spec w0 _ q _ _ _ _ _ _ hB1 v1 syn7 (hseg.rd (by simp [EnL])) hseg.cap (by decide) (segOf_lt (by simp)) 0 clock0) (fun _ _ _ _ h => h.nil) ?_
        rw [aw4]
        rintro r6 L1 ⟨ov5, iv5, at5, Eo5, Ei5, hB5, rfl⟩
        refine St.done ?_
        refine SX.seq ?_
        refine SC.seq ?_
        refine SC.plain ?_
        refine St.move rfl rfl ?_
        refine St.call [_] rfl (by kernel_rfl) rfl (state18_spec w0 _ q _ _ _ _ _ _ hB5) (fun _ _ _ _ h => h.nil) ?_
        rintro r7 L1 ⟨rfl, rfl⟩
        refine St.eql rfl rfl rfl ?_
        refine St.move rfl rfl ?_
        refine St.split 41 rfl (fun g41 => ?_) (fun g41 => ?_)
        · refine St.guard_yes rfl rfl ?_
          refine St.move rfl rfl ?_
          refine St.guard_yes rfl rfl ?_
          refine St.call [_, _] rfl (by kernel_rfl) rfl (out18_spec w0 _ q _ _ _ _ _ _ hB5 0 clock0) (fun _ _ _ _ h => h.nil) ?_
          rintro r8 L1 ⟨vs6, Eb6, Es6, ov6, iv6, at6, Eo6, Ei6, hb6, hos6, hB6, rfl⟩
          rw [aw6] at hb6
          have hbr6 := hb6.read
          obtain ⟨_, _, A6, c6, rfl, _, _⟩ := hbr6
          refine St.weak (EnL p { enNew 7 1 with asked := true, at_ := 8 } ov4 iv4 at4 Eo4 Ei4 L) (.cons _ (.cons _ (.cons _ (.cons _ (List.Sublist.trans (.cons_cons _ (.cons_cons _ (.cons_cons _ (.cons _ (.cons _ (List.Sublist.refl _)))))) (List.sublist_append_right _ _)))))) ?_
          refine St.guard_yes rfl rfl ?_
          refine St.lenSl rfl rfl (by kernel_rfl) ?_
          refine St.guard_yes rfl rfl ?_
          refine St.eql rfl rfl rfl ?_
          refine St.pick_true rfl rfl rfl ?_
          refine St.move rfl rfl ?_
          refine St.split 47 rfl (fun g47 => ?_) (fun g47 => ?_)
          · refine St.guard_yes rfl rfl ?_
            refine St.move rfl rfl ?_
            refine St.guard_yes rfl rfl ?_
            refine St.call [_] rfl (by kernel_rfl) rfl (state18_spec w0 _ p _ _ _ _ _ _ hB4) (fun _ _ _ _ h => h.nil) ?_
            rintro r9 L1 ⟨rfl, rfl⟩
            refine St.weak L (.cons _ (.cons _ (.cons _ (List.Sublist.refl _)))) ?_
            refine St.guard_yes rfl rfl ?_
            refine St.eql rfl rfl rfl ?_
            refine St.pick_true rfl rfl rfl ?_
            refine St.assign rfl rfl ?_
            refine St.done ?_
            refine SX.seq ?_
            refine SC.ret ?_
            exact SX.ret1 rfl rfl ⟨rfl, rfl⟩
          · exact absurd rfl g47
        · exact absurd rfl g41
end Go.Proofs.Ytahafepgmkiabaa
