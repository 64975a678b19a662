/- Walks: the law StreamWindow. -/
import Derived.Test.YtahafepgmkiabaaU6
import Derived.Test.YtahafepgmkiabaaV0
import Derived.Test.YtahafepgmkiabaaV1
import Derived.Test.YtahafepgmkiabaaSepQ
set_option linter.unusedVariables false
set_option linter.unusedSimpArgs false
set_option linter.ambiguousOpen false
namespace Go.Proofs.Ytahafepgmkiabaa
open Go Go.Proofs.Ytahafepgmkiabaa.Sep

theorem segFrom_num {bs : List Nat} (hb : ∀ b ∈ bs, b < 256) : 0 ≤ (segFrom bs).seq ∧ (segFrom bs).seq < 4294967296 ∧ (segFrom bs).data.length ≤ bs.length := by
  have g : ∀ j, bs.getD j 0 < 256 := fun j => by
    rw [List.getD_eq_getElem?_getD]
    cases h : bs[j]? with
    | none => simp
    | some x => simpa using hb x (List.mem_of_getElem? h)
  have h0 := g 5
  have h1 := g 6
  have h2 := g 7
  have h3 := g 8
  unfold segFrom
  split
  · have e : num bs 5 < 4294967296 := be32_lt h3
    refine ⟨by simp only; omega, by simp only; omega, ?_⟩
    simp only [List.length_take, List.length_drop]
    omega
  · simp [noSeg]
theorem scan_cons (s : List Nat) (r : List (List Nat)) (f e : Int) : scan (s :: r) f e = if isSeg s = true ∧ (segFrom s).ty = 3 ∧ (segFrom s).data.length ≤ 400 ∧ 1 ≤ (segFrom s).data.length then scan r (if f < 0 then (segFrom s).seq else f) ((segFrom s).seq + (segFrom s).data.length) else (0, 0, false) := rfl
theorem wS_last {n k f : Nat} {at_ : Int} (hn : n ≤ 20000) (h1 : k ≤ f) (h2 : f ≤ n) (h3 : 0 ≤ at_ ∧ at_ ≤ 4) (h4 : k = f → f = n) :
    ∃ e l G F, (wS n k f at_).outp 30 = (e, l) ∧ e.st = 3 ∧ scan l (-1) 0 = (G, F, true) ∧ ((k < f ∧ G = k) ∨ (k = f ∧ f = n ∧ G = -1)) := by
  by_cases hlt : k < f
  · rw [wS_again hlt (by omega) (by omega)]
    obtain ⟨f', l, at', ho, _, _, _, hc⟩ := wS_scan (n := n) (una := k) (next := k) (at_ := 30) (now := 30) hn (Nat.le_refl _) (by omega) (by omega) (by simp)
    rcases hc with ⟨_, _, _, _, _, hs⟩ | ⟨hno, _⟩
    · exact ⟨_, l, k, f', ho, rfl, hs, .inl ⟨hlt, rfl⟩⟩
    · omega
  · have he : k = f := by omega
    obtain ⟨f', l, at', ho, _, _, _, hc⟩ := wS_scan (n := n) (una := k) (next := f) (at_ := at_) (now := 30) hn h1 h2 (by omega) (by rw [decide_eq_false hlt]; rfl)
    have := h4 he
    rcases hc with ⟨h, _⟩ | ⟨hno, _, _, _, hs⟩
    · omega
    · exact ⟨_, l, -1, 0, ho, rfl, hs, .inr ⟨he, this, rfl⟩⟩
theorem outp_few (e : En) (now : Int) : (e.outp now).2.length ≤ 13 := by
  unfold En.outp
  split
  · split <;> simp
  · split
    · rw [sends_eq]
      have := pieces_few (e.back now) 11 (e.back now).next
      have h1 : (acksOf (e.back now)).length ≤ 1 := by unfold acksOf; split <;> simp
      have h2 : (finsOf (e.back now)).length ≤ 1 := by unfold finsOf; split <;> simp
      simp only [List.length_append]
      omega
    · simp
theorem clock30 : Clock 30 := by unfold Clock; decide
theorem clock4 : Clock 4 := by unfold Clock; decide

theorem sent_spec (w0 : World) (L : List Chunk) (q p : Nat) (e : En) (ov iv : Value) (at_ : Int) (Eo Ei : Chunk) (hB : EnB e ov iv at_ Eo Ei) (now : Int) (hn : Clock now) :
    Meets Try.prog 69 #[.int .i64 now, .pointer (some ⟨q, 0, none⟩)] w0 ([⟨q, [.pointer (some ⟨p, 0, none⟩)], 80⟩] :: EnL p e ov iv at_ Eo Ei L) (fun r L' => r = .tuple #[.int .i64 (scan (e.outp now).2 (-1) 0).1, .int .i64 (scan (e.outp now).2 (-1) 0).2.1, .bool (scan (e.outp now).2 (-1) 0).2.2] ∧ ∃ ov2 iv2 at2 Eo2 Ei2, EnB (e.outp now).1 ov2 iv2 at2 Eo2 Ei2 ∧ L' = [⟨q, [.pointer (some ⟨p, 0, none⟩)], 80⟩] :: EnL p (e.outp now).1 ov2 iv2 at2 Eo2 Ei2 L) := by
  have hby : ∀ s ∈ (e.outp now).2, s.length ≤ 419 ∧ ∀ b ∈ s, b < 256 := fun s hs => ⟨(outp_from hB.ok hn s hs).len, (outp_from hB.ok hn s hs).lt⟩
  have hfew := outp_few e now
  refine Meets.of_body [.int .i64 now, .pointer (some ⟨q, 0, none⟩)] Try.func69 rfl Try.ntmps69 rfl ?_
  refine SC.seq ?_
  refine SC.plain ?_
  refine St.assign rfl rfl ?_
  refine St.assign rfl rfl ?_
  refine St.assign rfl rfl ?_
  refine St.done ?_
  refine SX.seq ?_
  refine SC.seq ?_
  refine SC.plain ?_
  refine St.assign rfl rfl ?_
  refine St.assign rfl rfl ?_
  refine St.done ?_
  refine SX.seq ?_
  refine SC.seq ?_
  refine SC.plain ?_
  refine St.load rfl rfl (by kernel_rfl) (by first | exact Holds.row mem0 rfl | exact Holds.row mem1 rfl | exact Holds.row mem2 rfl | exact Holds.row mem3 rfl | exact Holds.row mem4 rfl | exact Holds.row mem5 rfl | exact Holds.row mem6 rfl | exact Holds.row mem7 rfl | exact Holds.row mem8 rfl) ?_
  refine St.move rfl rfl ?_
  refine St.perm (EnL p e ov iv at_ Eo Ei ([⟨q, [.pointer (some ⟨p, 0, none⟩)], 80⟩] :: L)) (perm_block [_] [_, _, _] L) ?_
  refine St.call [_, _] rfl (by kernel_rfl) rfl (out18_spec w0 _ p _ _ _ _ _ _ hB now hn) (fun _ _ _ _ h => h.nil) ?_
  generalize e.outp now = eo at *
  obtain ⟨e2, l⟩ := eo
  simp only at hby hfew ⊢
  rintro r2 L1 ⟨vs, Eb, Es, ov2, iv2, at2, Eo2, Ei2, hb, hos, hB2, rfl⟩
  have hbr := hb.read
  obtain ⟨ba, oa, Aa, ca, rfl, hAa, hha⟩ := hbr
  refine St.perm ([⟨q, [.pointer (some ⟨p, 0, none⟩)], 80⟩] :: EnL p e2 ov2 iv2 at2 Eo2 Ei2 (Eb :: (Es ++ L))) ?_ ?_
  · exact (List.perm_middle (l₁ := [_, _, _, Eb] ++ Es) (a := [⟨q, [.pointer (some ⟨p, 0, none⟩)], 80⟩]) (l₂ := L)).flatten
  refine St.assign rfl rfl ?_
  refine St.done ?_
  refine SX.seq ?_
  refine SC.seq ?_
  refine SC.seq ?_
  refine SC.plain ?_
  refine St.assign rfl rfl ?_
  refine St.done ?_
  refine SX.seq ?_
  refine SC.block ?_
  refine SC.loop (α := Nat × Int × Int) (fun s => s.1 ≤ l.length ∧ scan (l.drop s.1) s.2.1 s.2.2 = scan l (-1) 0 ∧ -1 ≤ s.2.1 ∧ s.2.1 < 4294967296 ∧ 0 ≤ s.2.2 ∧ s.2.2 ≤ 4294968000) (fun s => [(0, .int .i64 now), (1, .pointer (some ⟨q, 0, none⟩)), (6, .int .i64 s.2.1), (7, .int .i64 s.2.2), (8, .slice Aa l.length ca), (9, .int .i64 ((s.1 : Nat) : Int))]) (fun _ => [⟨q, [.pointer (some ⟨p, 0, none⟩)], 80⟩] :: EnL p e2 ov2 iv2 at2 Eo2 Ei2 (Eb :: (Es ++ L))) (fun s => l.length - s.1) (0, -1, 0) ⟨Nat.zero_le _, rfl, by decide, by decide, by decide, by decide⟩ ⟨rfl, rfl, rfl, rfl, rfl, rfl, trivial⟩ (List.Perm.refl _) ?_
  rintro ⟨i, fi, en⟩ ⟨hi, hsc, hf1, hf2, he1, he2⟩
  simp only at hi hsc hf1 hf2 he1 he2 ⊢
  refine SC.seq ?_
  refine SC.seq ?_
  refine SC.plain ?_
  refine St.move rfl rfl ?_
  refine St.move rfl rfl ?_
  refine St.lenSl rfl rfl (by kernel_rfl) ?_
  refine St.lss rfl rfl rfl ?_
  refine St.done ?_
  refine SX.seq ?_
  refine SC.condp rfl (fun c18 => ?_) (fun c18 => ?_)
  · have hil : i < l.length := by omega
    have hAe := hAa (by omega)
    subst hAe
    obtain ⟨s, hs⟩ : ∃ s, l[i]? = some s := ⟨_, List.getElem?_eq_getElem hil⟩
    obtain ⟨v, hv⟩ : ∃ v, vs[i]? = some v := ⟨_, List.getElem?_eq_getElem (by rw [hos.1]; exact hil)⟩
    obtain ⟨E, hE⟩ : ∃ E, Es[i]? = some E := ⟨_, List.getElem?_eq_getElem (by rw [hos.2.1]; exact hil)⟩
    have hseg := hos.2.2 i v s E hv hs hE
    have hEm := List.mem_of_getElem? hE
    have hsb := hby s (List.mem_of_getElem? hs)
    have hnum := segFrom_num hsb.2
    have hdr : l.drop i = s :: l.drop (i + 1) := by rw [List.drop_eq_getElem_cons hil]; congr 1; rw [List.getElem?_eq_getElem hil] at hs; exact Option.some.inj hs
    rw [hdr, scan_cons] at hsc
    refine SC.skip ?_
    refine SX.seq ?_
    refine SC.seq ?_
    refine SC.block ?_
    refine SC.seq ?_
    refine SC.plain ?_
    refine St.move rfl rfl ?_
    refine St.move rfl rfl ?_
    refine St.indexSl (e := 35) (sz := 1) rfl rfl rfl (by kernel_rfl) (by omega) ?_
    refine St.load rfl rfl (by kernel_rfl) (fun w hw => by have := hha w0 [Eb] (by simp) w (hw.sub (sub_flat (.cons _ (.cons _ (.cons _ (.cons _ (.cons_cons _ (List.nil_sublist _)))))))) i v hv; simpa using this) ?_
    refine St.call [_] rfl (by kernel_rfl) rfl (parse_spec w0 _ v s (hseg.rd (by simp [EnL, hEm])) hseg.cap (by omega) hsb.2) (fun _ _ _ _ h => h.nil) ?_
    rintro r6 L1 ⟨dv, Ed, rfl, rfl, hbd⟩
    have hbdr := hbd.read
    obtain ⟨_, _, Ad, cd, rfl, _, _⟩ := hbdr
    refine St.move rfl rfl ?_
    refine St.extract rfl rfl rfl ?_
    refine St.extract rfl rfl rfl ?_
    refine St.alloc [.int .i64 0, .int .i64 0, .int .i64 0, .int .i64 0, .slice none 0 0] rfl (by kernel_rfl) (by first | exact fun _ _ h => h.nil | exact fun _ _ h => h | exact fun _ _ h => h.drop | exact fun _ _ h => h.drop.drop | exact fun _ _ h => h.drop.drop.drop) (fun b10 => ?_)
    refine St.storeN rfl rfl rfl (segCells (segFrom s) (.slice Ad (segFrom s).data.length cd)) rfl (by kernel_rfl) (by simp [segCells, one]) (by simp [segCells]) (fun _ h => h.nil) ?_
    rw [show splice [.int .i64 0, .int .i64 0, .int .i64 0, .int .i64 0, .slice none 0 0] 0 (segCells (segFrom s) (.slice Ad (segFrom s).data.length cd)) = segCells (segFrom s) (.slice Ad (segFrom s).data.length cd) from rfl]
    refine St.assign rfl rfl ?_
    refine St.done ?_
    refine SX.seq ?_
    refine SC.seq ?_
    refine SC.seq ?_
    refine SC.plain ?_
    refine St.move rfl rfl ?_
    refine St.notB rfl rfl ?_
    refine St.move rfl rfl ?_
    refine St.splitB 31 rfl (fun g31 => ?_) (fun g31 => ?_)
    · refine St.guard_no rfl rfl rfl ?_
      refine St.guard_no rfl rfl rfl ?_
      refine St.guard_no rfl rfl rfl ?_
      refine St.pick_true rfl rfl rfl ?_
      refine St.move rfl rfl ?_
      refine St.guard_no rfl rfl rfl ?_
      refine St.guard_no rfl rfl rfl ?_
      refine St.guard_no rfl rfl rfl ?_
      refine St.guard_no rfl rfl rfl ?_
      refine St.pick_true rfl rfl rfl ?_
      refine St.move rfl rfl ?_
      refine St.guard_no rfl rfl rfl ?_
      refine St.guard_no rfl rfl rfl ?_
      refine St.guard_no rfl rfl rfl ?_
      refine St.guard_no rfl rfl rfl ?_
      refine St.pick_true rfl rfl rfl ?_
      refine St.done ?_
      refine SX.seq ?_
      refine SC.cond_true rfl ?_
      refine SC.seq ?_
      refine SC.plain ?_
      refine St.assign rfl rfl ?_
      refine St.assign rfl rfl ?_
      refine St.assign rfl rfl ?_
      refine St.done ?_
      refine SX.seq ?_
      refine SC.ret ?_
      refine SX.seq_ret ?_
      refine SX.blk_ret ?_
      refine SX.seq_ret ?_
      refine SX.seq_ret ?_
      refine SX.blk_ret ?_
      refine SX.seq_ret ?_
      have hbad : ¬ (isSeg s = true ∧ (segFrom s).ty = 3 ∧ (segFrom s).data.length ≤ 400 ∧ 1 ≤ (segFrom s).data.length) := by rintro ⟨k1, k2, k3, k4⟩; first | omega | (rw [k1] at g31; cases g31)
      rw [if_neg hbad] at hsc
      refine SX.weak ([⟨q, [.pointer (some ⟨p, 0, none⟩)], 80⟩] :: EnL p e2 ov2 iv2 at2 Eo2 Ei2 L) (.cons _ (.cons _ (.cons_cons _ (.cons_cons _ (.cons_cons _ (.cons_cons _ (.cons _ (List.sublist_append_right _ _)))))))) ?_
      exact SX.ret3 rfl rfl rfl rfl ⟨by rw [← hsc], ov2, iv2, at2, Eo2, Ei2, hB2, rfl⟩
    · refine St.guard_yes rfl rfl ?_
      refine St.fieldAddr (off := 0) rfl rfl (by kernel_rfl) ?_
      refine St.guard_yes rfl rfl ?_
      refine St.load rfl rfl (by kernel_rfl) (by first | exact Holds.row mem0 rfl | exact Holds.row mem1 rfl | exact Holds.row mem2 rfl | exact Holds.row mem3 rfl | exact Holds.row mem4 rfl | exact Holds.row mem5 rfl | exact Holds.row mem6 rfl | exact Holds.row mem7 rfl | exact Holds.row mem8 rfl) ?_
      refine St.guard_yes rfl rfl ?_
      refine St.neq rfl rfl rfl ?_
      refine St.pick_false rfl rfl rfl ?_
      refine St.move rfl rfl ?_
      refine St.split 36 rfl (fun g36 => ?_) (fun g36 => ?_)
      · refine St.guard_no rfl rfl rfl ?_
        refine St.guard_no rfl rfl rfl ?_
        refine St.guard_no rfl rfl rfl ?_
        refine St.guard_no rfl rfl rfl ?_
        refine St.pick_true rfl rfl rfl ?_
        refine St.move rfl rfl ?_
        refine St.guard_no rfl rfl rfl ?_
        refine St.guard_no rfl rfl rfl ?_
        refine St.guard_no rfl rfl rfl ?_
        refine St.guard_no rfl rfl rfl ?_
        refine St.pick_true rfl rfl rfl ?_
        refine St.done ?_
        refine SX.seq ?_
        refine SC.cond_true rfl ?_
        refine SC.seq ?_
        refine SC.plain ?_
        refine St.assign rfl rfl ?_
        refine St.assign rfl rfl ?_
        refine St.assign rfl rfl ?_
        refine St.done ?_
        refine SX.seq ?_
        refine SC.ret ?_
        refine SX.seq_ret ?_
        refine SX.blk_ret ?_
        refine SX.seq_ret ?_
        refine SX.seq_ret ?_
        refine SX.blk_ret ?_
        refine SX.seq_ret ?_
        have hbad : ¬ (isSeg s = true ∧ (segFrom s).ty = 3 ∧ (segFrom s).data.length ≤ 400 ∧ 1 ≤ (segFrom s).data.length) := by rintro ⟨k1, k2, k3, k4⟩; first | omega | (rw [k1] at g31; cases g31)
        rw [if_neg hbad] at hsc
        refine SX.weak ([⟨q, [.pointer (some ⟨p, 0, none⟩)], 80⟩] :: EnL p e2 ov2 iv2 at2 Eo2 Ei2 L) (.cons _ (.cons _ (.cons_cons _ (.cons_cons _ (.cons_cons _ (.cons_cons _ (.cons _ (List.sublist_append_right _ _)))))))) ?_
        exact SX.ret3 rfl rfl rfl rfl ⟨by rw [← hsc], ov2, iv2, at2, Eo2, Ei2, hB2, rfl⟩
      · refine St.guard_yes rfl rfl ?_
        refine St.fieldAddr (off := 4) rfl rfl (by kernel_rfl) ?_
        refine St.guard_yes rfl rfl ?_
        refine St.load rfl rfl (by kernel_rfl) (by first | exact Holds.row mem0 rfl | exact Holds.row mem1 rfl | exact Holds.row mem2 rfl | exact Holds.row mem3 rfl | exact Holds.row mem4 rfl | exact Holds.row mem5 rfl | exact Holds.row mem6 rfl | exact Holds.row mem7 rfl | exact Holds.row mem8 rfl) ?_
        refine St.guard_yes rfl rfl ?_
        refine St.lenSl rfl rfl (by kernel_rfl) ?_
        refine St.guard_yes rfl rfl ?_
        refine St.gtr rfl rfl rfl ?_
        refine St.pick_false rfl rfl rfl ?_
        refine St.move rfl rfl ?_
        refine St.split 42 rfl (fun g42 => ?_) (fun g42 => ?_)
        · refine St.guard_no rfl rfl rfl ?_
          refine St.guard_no rfl rfl rfl ?_
          refine St.guard_no rfl rfl rfl ?_
          refine St.guard_no rfl rfl rfl ?_
          refine St.pick_true rfl rfl rfl ?_
          refine St.done ?_
          refine SX.seq ?_
          refine SC.cond_true rfl ?_
          refine SC.seq ?_
          refine SC.plain ?_
          refine St.assign rfl rfl ?_
          refine St.assign rfl rfl ?_
          refine St.assign rfl rfl ?_
          refine St.done ?_
          refine SX.seq ?_
          refine SC.ret ?_
          refine SX.seq_ret ?_
          refine SX.blk_ret ?_
          refine SX.seq_ret ?_
          refine SX.seq_ret ?_
          refine SX.blk_ret ?_
          refine SX.seq_ret ?_
          have hbad : ¬ (isSeg s = true ∧ (segFrom s).ty = 3 ∧ (segFrom s).data.length ≤ 400 ∧ 1 ≤ (segFrom s).data.length) := by rintro ⟨k1, k2, k3, k4⟩; first | omega | (rw [k1] at g31; cases g31)
          rw [if_neg hbad] at hsc
          refine SX.weak ([⟨q, [.pointer (some ⟨p, 0, none⟩)], 80⟩] :: EnL p e2 ov2 iv2 at2 Eo2 Ei2 L) (.cons _ (.cons _ (.cons_cons _ (.cons_cons _ (.cons_cons _ (.cons_cons _ (.cons _ (List.sublist_append_right _ _)))))))) ?_
          exact SX.ret3 rfl rfl rfl rfl ⟨by rw [← hsc], ov2, iv2, at2, Eo2, Ei2, hB2, rfl⟩
        · refine St.guard_yes rfl rfl ?_
          refine St.fieldAddr (off := 4) rfl rfl (by kernel_rfl) ?_
          refine St.guard_yes rfl rfl ?_
          refine St.load rfl rfl (by kernel_rfl) (by first | exact Holds.row mem0 rfl | exact Holds.row mem1 rfl | exact Holds.row mem2 rfl | exact Holds.row mem3 rfl | exact Holds.row mem4 rfl | exact Holds.row mem5 rfl | exact Holds.row mem6 rfl | exact Holds.row mem7 rfl | exact Holds.row mem8 rfl) ?_
          refine St.guard_yes rfl rfl ?_
          refine St.lenSl rfl rfl (by kernel_rfl) ?_
          refine St.guard_yes rfl rfl ?_
          refine St.lss rfl rfl rfl ?_
          refine St.pick_false rfl rfl rfl ?_
          refine St.done ?_
          refine SX.seq ?_
          refine SC.condp rfl (fun c47 => ?_) (fun c47 => ?_)
          · refine SC.seq ?_
            refine SC.plain ?_
            refine St.assign rfl rfl ?_
            refine St.assign rfl rfl ?_
            refine St.assign rfl rfl ?_
            refine St.done ?_
            refine SX.seq ?_
            refine SC.ret ?_
            refine SX.seq_ret ?_
            refine SX.blk_ret ?_
            refine SX.seq_ret ?_
            refine SX.seq_ret ?_
            refine SX.blk_ret ?_
            refine SX.seq_ret ?_
            have hbad : ¬ (isSeg s = true ∧ (segFrom s).ty = 3 ∧ (segFrom s).data.length ≤ 400 ∧ 1 ≤ (segFrom s).data.length) := by rintro ⟨k1, k2, k3, k4⟩; first | omega | (rw [k1] at g31; cases g31)
            rw [if_neg hbad] at hsc
            refine SX.weak ([⟨q, [.pointer (some ⟨p, 0, none⟩)], 80⟩] :: EnL p e2 ov2 iv2 at2 Eo2 Ei2 L) (.cons _ (.cons _ (.cons_cons _ (.cons_cons _ (.cons_cons _ (.cons_cons _ (.cons _ (List.sublist_append_right _ _)))))))) ?_
            exact SX.ret3 rfl rfl rfl rfl ⟨by rw [← hsc], ov2, iv2, at2, Eo2, Ei2, hB2, rfl⟩
          · have hgood : isSeg s = true ∧ (segFrom s).ty = 3 ∧ (segFrom s).data.length ≤ 400 ∧ 1 ≤ (segFrom s).data.length := ⟨by simpa using g31, by omega, by omega, by omega⟩
            rw [if_pos hgood] at hsc
            refine SC.skip ?_
            refine SX.seq ?_
            refine SC.seq ?_
            refine SC.seq ?_
            refine SC.plain ?_
            refine St.move rfl rfl ?_
            refine St.lss rfl rfl rfl ?_
            refine St.done ?_
            refine SX.seq ?_
            refine SC.condp rfl (fun c49 => ?_) (fun c49 => ?_)
            · refine SC.plain ?_
              refine St.fieldAddr (off := 2) rfl rfl (by kernel_rfl) ?_
              refine St.load rfl rfl (by kernel_rfl) (by first | exact Holds.row mem0 rfl | exact Holds.row mem1 rfl | exact Holds.row mem2 rfl | exact Holds.row mem3 rfl | exact Holds.row mem4 rfl | exact Holds.row mem5 rfl | exact Holds.row mem6 rfl | exact Holds.row mem7 rfl | exact Holds.row mem8 rfl) ?_
              refine St.assign rfl rfl ?_
              refine St.done ?_
              refine SX.seq ?_
              refine SC.plain ?_
              refine St.fieldAddr (off := 2) rfl rfl (by kernel_rfl) ?_
              refine St.load rfl rfl (by kernel_rfl) (by first | exact Holds.row mem0 rfl | exact Holds.row mem1 rfl | exact Holds.row mem2 rfl | exact Holds.row mem3 rfl | exact Holds.row mem4 rfl | exact Holds.row mem5 rfl | exact Holds.row mem6 rfl | exact Holds.row mem7 rfl | exact Holds.row mem8 rfl) ?_
              refine St.fieldAddr (off := 4) rfl rfl (by kernel_rfl) ?_
              refine St.load rfl rfl (by kernel_rfl) (by first | exact Holds.row mem0 rfl | exact Holds.row mem1 rfl | exact Holds.row mem2 rfl | exact Holds.row mem3 rfl | exact Holds.row mem4 rfl | exact Holds.row mem5 rfl | exact Holds.row mem6 rfl | exact Holds.row mem7 rfl | exact Holds.row mem8 rfl) ?_
              refine St.lenSl rfl rfl (by kernel_rfl) ?_
              first | refine St.addN rfl rfl rfl (by omega) ?_ | refine St.addI rfl rfl rfl (by omega) ?_
              refine St.assign rfl rfl ?_
              refine St.done ?_
              refine SX.blk ?_
              refine SX.seq ?_
              refine SC.plain ?_
              refine St.move rfl rfl ?_
              first | refine St.addN (b := 1) rfl rfl rfl (by omega) ?_ | refine St.addI rfl rfl rfl (by omega) ?_
              refine St.assign rfl rfl ?_
              refine St.done ?_
              refine SX.weak ([⟨q, [.pointer (some ⟨p, 0, none⟩)], 80⟩] :: EnL p e2 ov2 iv2 at2 Eo2 Ei2 (Eb :: (Es ++ L))) (.cons _ (.cons _ (List.Sublist.refl _))) ?_
              first
              | exact SX.again (i + 1, (segFrom s).seq, (segFrom s).seq + (((segFrom s).data.length : Nat) : Int)) ⟨by simp only; omega, by simp only; rw [← hsc, if_pos c49], by simp only; omega, by simp only; omega, by simp only; omega, by simp only; omega⟩ (by simp only; omega) ⟨rfl, rfl, rfl, rfl, rfl, rfl, trivial⟩ (List.Perm.refl _)
              | exact SX.again (i + 1, fi, (segFrom s).seq + (((segFrom s).data.length : Nat) : Int)) ⟨by simp only; omega, by simp only; rw [← hsc, if_neg c49], by simp only; omega, by simp only; omega, by simp only; omega, by simp only; omega⟩ (by simp only; omega) ⟨rfl, rfl, rfl, rfl, rfl, rfl, trivial⟩ (List.Perm.refl _)
            · refine SC.skip ?_
              refine SX.seq ?_
              refine SC.plain ?_
              refine St.fieldAddr (off := 2) rfl rfl (by kernel_rfl) ?_
              refine St.load rfl rfl (by kernel_rfl) (by first | exact Holds.row mem0 rfl | exact Holds.row mem1 rfl | exact Holds.row mem2 rfl | exact Holds.row mem3 rfl | exact Holds.row mem4 rfl | exact Holds.row mem5 rfl | exact Holds.row mem6 rfl | exact Holds.row mem7 rfl | exact Holds.row mem8 rfl) ?_
              refine St.fieldAddr (off := 4) rfl rfl (by kernel_rfl) ?_
              refine St.load rfl rfl (by kernel_rfl) (by first | exact Holds.row mem0 rfl | exact Holds.row mem1 rfl | exact Holds.row mem2 rfl | exact Holds.row mem3 rfl | exact Holds.row mem4 rfl | exact Holds.row mem5 rfl | exact Holds.row mem6 rfl | exact Holds.row mem7 rfl | exact Holds.row mem8 rfl) ?_
              refine St.lenSl rfl rfl (by kernel_rfl) ?_
              first | refine St.addN rfl rfl rfl (by omega) ?_ | refine St.addI rfl rfl rfl (by omega) ?_
              refine St.assign rfl rfl ?_
              refine St.done ?_
              refine SX.blk ?_
              refine SX.seq ?_
              refine SC.plain ?_
              refine St.move rfl rfl ?_
              first | refine St.addN (b := 1) rfl rfl rfl (by omega) ?_ | refine St.addI rfl rfl rfl (by omega) ?_
              refine St.assign rfl rfl ?_
              refine St.done ?_
              refine SX.weak ([⟨q, [.pointer (some ⟨p, 0, none⟩)], 80⟩] :: EnL p e2 ov2 iv2 at2 Eo2 Ei2 (Eb :: (Es ++ L))) (.cons _ (.cons _ (List.Sublist.refl _))) ?_
              first
              | exact SX.again (i + 1, (segFrom s).seq, (segFrom s).seq + (((segFrom s).data.length : Nat) : Int)) ⟨by simp only; omega, by simp only; rw [← hsc, if_pos c49], by simp only; omega, by simp only; omega, by simp only; omega, by simp only; omega⟩ (by simp only; omega) ⟨rfl, rfl, rfl, rfl, rfl, rfl, trivial⟩ (List.Perm.refl _)
              | exact SX.again (i + 1, fi, (segFrom s).seq + (((segFrom s).data.length : Nat) : Int)) ⟨by simp only; omega, by simp only; rw [← hsc, if_neg c49], by simp only; omega, by simp only; omega, by simp only; omega, by simp only; omega⟩ (by simp only; omega) ⟨rfl, rfl, rfl, rfl, rfl, rfl, trivial⟩ (List.Perm.refl _)
  · refine SC.exit ?_
    refine SX.seq_exit ?_
    refine SX.seq_exit ?_
    refine SX.hit ?_
    refine SX.seq ?_
    refine SC.seq ?_
    refine SC.plain ?_
    refine St.move rfl rfl ?_
    refine St.move rfl rfl ?_
    refine St.assign rfl rfl ?_
    refine St.assign rfl rfl ?_
    refine St.assign rfl rfl ?_
    refine St.done ?_
    refine SX.seq ?_
    refine SC.ret ?_
    have hend : i = l.length := by omega
    rw [hend, List.drop_length] at hsc
    have hsc : (fi, en, true) = scan l (-1) 0 := hsc
    refine SX.weak ([⟨q, [.pointer (some ⟨p, 0, none⟩)], 80⟩] :: EnL p e2 ov2 iv2 at2 Eo2 Ei2 L) (.cons_cons _ (.cons_cons _ (.cons_cons _ (.cons_cons _ (.cons _ (List.sublist_append_right _ _)))))) ?_
    exact SX.ret3 rfl rfl rfl rfl ⟨by rw [← hsc], ov2, iv2, at2, Eo2, Ei2, hB2, rfl⟩
theorem streamWindow_spec (w0 : World) (L : List Chunk) (n ack : Int) (hn : -9223372036854775808 ≤ n ∧ n ≤ 9223372036854775807) (hack : -9223372036854775808 ≤ ack ∧ ack ≤ 9223372036854775807) :
    Meets Try.prog 13 #[.int .i64 n, .int .i64 ack] w0 L (fun r L' => r = .bool true) := by
  refine Meets.of_body [.int .i64 n, .int .i64 ack] Try.func13 rfl Try.ntmps13 rfl ?_
  refine SC.seq ?_
  refine SC.plain ?_
  refine St.assign rfl rfl ?_
  refine St.done ?_
  refine SX.seq ?_
  refine SC.seq ?_
  have hm0 := Int.tmod_lt_of_pos n (by decide : (0 : Int) < 20000)
  refine SC.plain ?_
  refine St.move rfl rfl ?_
  refine St.rem rfl rfl rfl (by decide) ?_
  refine St.assign rfl rfl ?_
  refine St.done ?_
  refine SX.seq ?_
  refine SC.seq ?_
  refine SC.seq ?_
  refine SC.plain ?_
  refine St.move rfl rfl ?_
  refine St.lss rfl rfl rfl ?_
  refine St.done ?_
  refine SX.seq ?_
  refine SC.condp rfl (fun c20 => ?_) (fun c20 => ?_)
  · refine SC.seq ?_
    refine SC.plain ?_
    refine St.call [] rfl (by kernel_rfl) rfl (awake18_spec w0 _) (by first | exact fun _ _ _ _ h => h.nil | assumption) ?_
    rintro r3 L1 ⟨rfl, rfl⟩
    refine St.assign rfl rfl ?_
    refine St.done ?_
    refine SX.seq ?_
    refine SC.ret ?_
    refine SX.seq_ret ?_
    exact SX.ret1 rfl rfl rfl
  · obtain ⟨m, hm⟩ : ∃ m : Nat, n.tmod 20000 = (m : Int) := ⟨(n.tmod 20000).toNat, by omega⟩
    rw [hm]
    have hm1 : 1 ≤ m := by omega
    have hm2 : m ≤ 20000 := by omega
    refine SC.skip ?_
    refine SX.seq ?_
    refine SC.seq ?_
    refine SC.plain ?_
    refine St.call [.int .i64 5] rfl (by kernel_rfl) rfl (dial_spec w0 L 5) (by first | exact fun _ _ _ _ h => h.nil | assumption) ?_
    rintro r4 L1 ⟨p, rfl, ov0, iv0, at0, Eo0, Ei0, hB0, rfl⟩
    refine St.alloc [.pointer none] rfl (by kernel_rfl) (by first | exact fun _ _ h => h.nil | exact fun _ _ h => h | exact fun _ _ h => h.drop | exact fun _ _ h => h.drop.drop | exact fun _ _ h => h.drop.drop.drop) (fun b5 => ?_)
    first | refine St.store rfl rfl rfl rfl (by kernel_rfl) (Nat.le_of_ble_eq_true rfl) (by first | exact fun _ h => h.nil | exact fun _ h => h | exact fun _ h => h.drop | exact fun _ h => h.drop.drop | exact fun _ h => h.drop.drop.drop) ?_ | refine St.store1 rfl rfl rfl rfl (by kernel_rfl) (Nat.le_of_ble_eq_true rfl) (by first | exact fun _ h => h.nil | exact fun _ h => h | exact fun _ h => h.drop | exact fun _ h => h.drop.drop | exact fun _ h => h.drop.drop.drop) ?_ | refine St.store2 rfl rfl rfl rfl (by kernel_rfl) (Nat.le_of_ble_eq_true rfl) (by first | exact fun _ h => h.nil | exact fun _ h => h | exact fun _ h => h.drop | exact fun _ h => h.drop.drop | exact fun _ h => h.drop.drop.drop) ?_ | refine St.store3 rfl rfl rfl rfl (by kernel_rfl) (Nat.le_of_ble_eq_true rfl) (by first | exact fun _ h => h.nil | exact fun _ h => h | exact fun _ h => h.drop | exact fun _ h => h.drop.drop | exact fun _ h => h.drop.drop.drop) ?_ | refine St.store4 rfl rfl rfl rfl (by kernel_rfl) (Nat.le_of_ble_eq_true rfl) (by first | exact fun _ h => h.nil | exact fun _ h => h | exact fun _ h => h.drop | exact fun _ h => h.drop.drop | exact fun _ h => h.drop.drop.drop) ?_ | refine St.store5 rfl rfl rfl rfl (by kernel_rfl) (Nat.le_of_ble_eq_true rfl) (by first | exact fun _ h => h.nil | exact fun _ h => h | exact fun _ h => h.drop | exact fun _ h => h.drop.drop | exact fun _ h => h.drop.drop.drop) ?_
    refine St.done ?_
    refine SX.seq ?_
    refine SC.seq ?_
    refine SC.seq ?_
    refine SC.drawn [(0, true), (1, true), (2, true), (3, true), (4, true), (5, false), (6, false), (7, true), (8, true), (9, true), (10, true), (11, false), (12, true), (13, true), (14, true)] [] ([[⟨b5, [.pointer (some ⟨p, 0, none⟩)], 80⟩]]) (by kernel_rfl) (by kernel_rfl) (fun w hw => hw.sub (sub_flat (.cons_cons _ (List.nil_sublist _)))) ?_
    refine St.load rfl rfl (by kernel_rfl) (by first | exact Holds.row mem0 rfl | exact Holds.row mem1 rfl | exact Holds.row mem2 rfl | exact Holds.row mem3 rfl | exact Holds.row mem4 rfl | exact Holds.row mem5 rfl | exact Holds.row mem6 rfl | exact Holds.row mem7 rfl | exact Holds.row mem8 rfl) ?_
    refine St.ptrEql rfl rfl rfl (by kernel_rfl) ?_
    refine St.move rfl rfl ?_
    refine St.guard_yes rfl rfl ?_
    refine St.load rfl rfl (by kernel_rfl) (by first | exact Holds.row mem0 rfl | exact Holds.row mem1 rfl | exact Holds.row mem2 rfl | exact Holds.row mem3 rfl | exact Holds.row mem4 rfl | exact Holds.row mem5 rfl | exact Holds.row mem6 rfl | exact Holds.row mem7 rfl | exact Holds.row mem8 rfl) ?_
    refine St.guard_yes rfl rfl ?_
    refine St.move rfl rfl ?_
    refine St.guard_yes rfl rfl ?_
    refine St.makeSl (e := 5) (zv := .int .u8 0) (bytes := 1) (l := (m : Int)) (c := (m : Int)) rfl rfl rfl (by kernel_rfl) (by omega) (by omega) (by omega) (fun _ w hw => hw.drop.sub (sub_flat (.cons_cons _ (List.nil_sublist _)))) (fun bm => ?_)
    rw [Int.toNat_natCast]
    have hrep : List.replicate m (Value.int .u8 0) = bytes (List.replicate m 0) := by simp [bytes]
    rw [hrep]
    refine St.guard_yes rfl rfl ?_
    refine St.perm (EnL p (enNew 5 1) ov0 iv0 at0 Eo0 Ei0 ([⟨bm, bytes (List.replicate m 0), 5⟩] :: [⟨b5, [.pointer (some ⟨p, 0, none⟩)], 80⟩] :: L)) (perm_block [_, _] [_, _, _] L) ?_
    have hrd : Rd w0 ([⟨bm, bytes (List.replicate m 0), 5⟩] :: [⟨b5, [.pointer (some ⟨p, 0, none⟩)], 80⟩] :: L) (.slice (some ⟨bm, 0, none⟩) m m) 1 (List.replicate m 0).length (bytes (List.replicate m 0)) := by rw [List.length_replicate]; exact Rd.row (e := 5) (by simp [bytes]) mem0
    refine St.call [_, _] rfl (by kernel_rfl) rfl (write18_spec w0 _ p _ _ _ _ _ _ hB0 _ (List.replicate m 0) hrd (by simp; omega) (by intro b hb; have := List.eq_of_mem_replicate hb; omega)) (by rintro _ _ w ⟨_, ov, iv, at_, Eo, Ei, _, rfl⟩ hw; exact hw.sub (sub_flat (.cons _ (.cons _ (.cons _ (.cons _ (.cons_cons _ (List.nil_sublist _)))))))) ?_
    rw [w_write hm2]
    rintro r5 L1 ⟨rfl, ov1, iv1, at1, Eo1, Ei1, hB1, rfl⟩
    refine St.guard_yes rfl rfl ?_
    refine St.neq rfl rfl rfl ?_
    refine St.pick_false rfl rfl rfl ?_
    refine St.move rfl rfl ?_
    refine St.split 32 rfl (fun g32 => ?_) (fun g32 => ?_)
    · exact absurd rfl g32
    · refine St.guard_yes rfl rfl ?_
      refine St.load rfl rfl (by kernel_rfl) (by first | exact Holds.row mem0 rfl | exact Holds.row mem1 rfl | exact Holds.row mem2 rfl | exact Holds.row mem3 rfl | exact Holds.row mem4 rfl | exact Holds.row mem5 rfl | exact Holds.row mem6 rfl | exact Holds.row mem7 rfl | exact Holds.row mem8 rfl) ?_
      refine St.guard_yes rfl rfl ?_
      refine St.call [_, _] rfl (by kernel_rfl) rfl (out18_spec w0 _ p _ _ _ _ _ _ hB1 0 clock0) (by rintro _ _ w ⟨_, _, _, ov, iv, at_, Eo, Ei, _, _, _, rfl⟩ hw; exact hw.sub (sub_flat (.cons _ (.cons _ (.cons _ (.cons _ (List.Sublist.trans (.cons _ (.cons_cons _ (List.nil_sublist _))) (List.sublist_append_right _ _)))))))) ?_
      rw [w_syn]
      rintro r6 L1 ⟨vs, Eb, Es, ov2, iv2, at2, Eo2, Ei2, hb, hos, hB2, rfl⟩
      have hbr := hb.read
      obtain ⟨ba, oa, Aa, ca, rfl, _, _⟩ := hbr
      refine St.guard_yes rfl rfl ?_
      refine St.lenSl rfl rfl (by kernel_rfl) ?_
      refine St.guard_yes rfl rfl ?_
      refine St.neq rfl rfl rfl ?_
      refine St.pick_false rfl rfl rfl ?_
      refine St.done ?_
      refine SX.tail ?_
      refine St.done ?_
      refine SX.seq ?_
      refine SC.condp rfl (fun c37 => ?_) (fun c37 => ?_)
      · exact absurd rfl c37
      · refine SC.weak (EnL p (wB m) ov2 iv2 at2 Eo2 Ei2 ([⟨b5, [.pointer (some ⟨p, 0, none⟩)], 80⟩] :: L)) (.cons_cons _ (.cons_cons _ (.cons_cons _ (.cons _ (List.Sublist.trans (.cons _ (List.Sublist.refl _)) (List.sublist_append_right _ _)))))) ?_
        refine SC.perm ([⟨b5, [.pointer (some ⟨p, 0, none⟩)], 80⟩] :: EnL p (wB m) ov2 iv2 at2 Eo2 Ei2 (L)) (perm_block [_, _, _] [_] L) ?_
        refine SC.skip ?_
        refine SX.seq ?_
        refine SC.seq ?_
        refine SC.drawn [(0, true), (1, true), (2, false), (3, false)] [4] ([[⟨b5, [.pointer (some ⟨p, 0, none⟩)], 80⟩]]) (by kernel_rfl) (by kernel_rfl) (fun w hw => hw.sub (sub_flat (.cons_cons _ (List.nil_sublist _)))) ?_
        refine St.load rfl rfl (by kernel_rfl) (by first | exact Holds.row mem0 rfl | exact Holds.row mem1 rfl | exact Holds.row mem2 rfl | exact Holds.row mem3 rfl | exact Holds.row mem4 rfl | exact Holds.row mem5 rfl | exact Holds.row mem6 rfl | exact Holds.row mem7 rfl | exact Holds.row mem8 rfl) ?_
        refine St.build [(0, .int .i64 2), (1, .int .i64 5)] (segCells ⟨2, 5, 0, 0, []⟩ (.slice none 0 0)) rfl rfl (by kernel_rfl) ?_
        refine St.call [_] rfl (by kernel_rfl) rfl (rsegment_in w0 _ ⟨2, 5, 0, 0, []⟩ _ (SegIn.none (w0 := w0) (L := _) _ _ _ _)) (by rintro _ _ w ⟨rfl, rfl⟩ hw; exact hw.sub (sub_flat (.cons_cons _ (List.nil_sublist _)))) ?_
        rintro r7 L1 ⟨rfl, rfl⟩
        refine St.toBytes (e := 5) rfl rfl (by kernel_rfl) (by kernel_rfl) (by kernel_rfl) (fun _ w hw => hw.drop.sub (sub_flat (.cons_cons _ (List.nil_sublist _)))) (fun vb7 E7 hb7 _ => ?_)
        rw [u8s_text (segOf ⟨2, 5, 0, 0, []⟩) (segOf_lt (by simp)), text_size] at hb7
        have hb7 : Buf 5 1 vb7 (bytes (segOf ⟨2, 5, 0, 0, []⟩)) (segOf ⟨2, 5, 0, 0, []⟩).length E7 := hb7
        refine St.done ?_
        refine SX.tail ?_
        refine St.perm (EnL p (wB m) ov2 iv2 at2 Eo2 Ei2 (E7 :: [⟨b5, [.pointer (some ⟨p, 0, none⟩)], 80⟩] :: L)) (perm_block [_, _] [_, _, _] L) ?_
        refine St.call [_, _, _] rfl (by kernel_rfl) rfl (in18_spec w0 _ p _ _ _ _ _ _ hB2 vb7 _ (hb7.rd (by simp [EnL])) hb7.cap (by rw [segOf_len]; simp) (segOf_lt (by simp)) 0 clock0) (fun _ _ _ _ h => h.nil) ?_
        rw [w_open]
        rintro r7 L1 ⟨ov3, iv3, at3, Eo3, Ei3, hB3, rfl⟩
        refine St.done ?_
        refine SX.weak (EnL p (wS m 0 0 0) ov3 iv3 at3 Eo3 Ei3 ([⟨b5, [.pointer (some ⟨p, 0, none⟩)], 80⟩] :: L)) (.cons_cons _ (.cons_cons _ (.cons_cons _ (.cons _ (List.Sublist.refl _))))) ?_
        refine SX.perm ([⟨b5, [.pointer (some ⟨p, 0, none⟩)], 80⟩] :: EnL p (wS m 0 0 0) ov3 iv3 at3 Eo3 Ei3 (L)) (perm_block [_, _, _] [_] L) ?_
        refine SX.seq ?_
        refine SC.seq ?_
        refine SC.plain ?_
        refine St.makeFunc [.pointer (some ⟨b5, 0, none⟩)] rfl rfl ?_
        refine St.assign rfl rfl ?_
        refine St.done ?_
        refine SX.seq ?_
        refine SC.seq ?_
        obtain ⟨f1, l1, t1, hout1, hat1, _, hf1, hc1⟩ := wS_scan (n := m) (una := 0) (next := 0) (at_ := 0) (now := 1) hm2 (Nat.le_refl _) (Nat.zero_le _) (by omega) (by simp)
        obtain ⟨hf1a, hf1b, hf1c, hsc1⟩ : 0 < f1 ∧ f1 ≤ 4400 ∧ min m 4000 ≤ f1 ∧ scan l1 (-1) 0 = (((0 : Nat) : Int), (f1 : Int), true) := by rcases hc1 with ⟨_, _, h1, h2, h3, h4⟩ | ⟨h, _⟩; exact ⟨h1, by omega, by omega, h4⟩; omega
        refine SC.plain ?_
        refine St.move rfl rfl ?_
        refine St.callv (cap := #[.pointer (some ⟨b5, 0, none⟩)]) [.int .i64 1] rfl (by kernel_rfl) rfl rfl (sent_spec w0 L b5 p (wS m 0 0 0) ov3 iv3 at3 Eo3 Ei3 hB3 1 clock1) (fun _ _ _ _ h => h.nil) ?_
        rw [hout1]
        dsimp only
        rw [hsc1]
        dsimp only
        rintro r4 L1 ⟨rfl, ov4, iv4, at4, Eo4, Ei4, hB4, rfl⟩
        refine St.move rfl rfl ?_
        refine St.extract rfl rfl rfl ?_
        refine St.extract rfl rfl rfl ?_
        refine St.extract rfl rfl rfl ?_
        refine St.assign rfl rfl ?_
        refine St.assign rfl rfl ?_
        refine St.assign rfl rfl ?_
        refine St.done ?_
        refine SX.seq ?_
        refine SC.seq ?_
        have hq2 : (decide (0 < f1) && (decide (t1 ≤ 9223372036854775799) && decide (t1 + 8 ≤ 2))) = false := by rw [decide_eq_false (by omega : ¬ t1 + 8 ≤ 2)]; simp
        obtain ⟨f2, l2, t2, hout2, _, _, _, hc2⟩ := wS_scan (n := m) (una := 0) (next := f1) (at_ := t1) (now := 2) hm2 (Nat.zero_le _) hf1 (by omega) hq2
        obtain ⟨rfl, rfl, hsc2⟩ : f2 = f1 ∧ t2 = t1 ∧ scan l2 (-1) 0 = (-1, 0, true) := by rcases hc2 with ⟨_, _, h1, h2, h3, h4⟩ | ⟨_, h1, h2, _, h3⟩; omega; exact ⟨h1, h2, h3⟩
        refine SC.plain ?_
        refine St.move rfl rfl ?_
        refine St.callv (cap := #[.pointer (some ⟨b5, 0, none⟩)]) [.int .i64 2] rfl (by kernel_rfl) rfl rfl (sent_spec w0 L b5 p (wS m 0 f2 t2) ov4 iv4 at4 Eo4 Ei4 hB4 2 clock2) (fun _ _ _ _ h => h.nil) ?_
        rw [hout2]
        dsimp only
        rw [hsc2]
        dsimp only
        rintro r5 L1 ⟨rfl, ov5, iv5, at5, Eo5, Ei5, hB5, rfl⟩
        refine St.move rfl rfl ?_
        refine St.extract rfl rfl rfl ?_
        refine St.extract rfl rfl rfl ?_
        refine St.extract rfl rfl rfl ?_
        refine St.assign rfl rfl ?_
        refine St.assign rfl rfl ?_
        refine St.assign rfl rfl ?_
        refine St.done ?_
        refine SX.seq ?_
        refine SC.seq ?_
        refine SC.seq ?_
        refine SC.plain ?_
        refine St.move rfl rfl ?_
        refine St.notB rfl rfl ?_
        refine St.move rfl rfl ?_
        refine St.guard_yes rfl rfl ?_
        refine St.move rfl rfl ?_
        refine St.guard_yes rfl rfl ?_
        refine St.notB rfl rfl ?_
        refine St.pick_false rfl rfl rfl ?_
        refine St.move rfl rfl ?_
        refine St.guard_yes rfl rfl ?_
        refine St.move rfl rfl ?_
        refine St.guard_yes rfl rfl ?_
        refine St.neq rfl rfl rfl ?_
        refine St.pick_false rfl rfl rfl ?_
        refine St.move rfl rfl ?_
        refine St.split 66 rfl (fun g66 => ?_) (fun g66 => ?_)
        · exfalso; omega
        · refine St.guard_yes rfl rfl ?_
          refine St.move rfl rfl ?_
          refine St.guard_yes rfl rfl ?_
          refine St.gtr rfl rfl rfl ?_
          refine St.pick_false rfl rfl rfl ?_
          refine St.move rfl rfl ?_
          refine St.split 70 rfl (fun g70 => ?_) (fun g70 => ?_)
          · exfalso; omega
          · refine St.guard_yes rfl rfl ?_
            refine St.move rfl rfl ?_
            refine St.guard_yes rfl rfl ?_
            refine St.move rfl rfl ?_
            refine St.guard_yes rfl rfl ?_
            refine St.min2 rfl rfl rfl ?_
            refine St.guard_yes rfl rfl ?_
            refine St.lss rfl rfl rfl ?_
            refine St.pick_false rfl rfl rfl ?_
            refine St.move rfl rfl ?_
            refine St.split 76 rfl (fun g76 => ?_) (fun g76 => ?_)
            · exfalso; omega
            · refine St.guard_yes rfl rfl ?_
              refine St.move rfl rfl ?_
              refine St.guard_yes rfl rfl ?_
              refine St.geq rfl rfl rfl ?_
              refine St.pick_false rfl rfl rfl ?_
              refine St.done ?_
              refine SX.seq ?_
              refine SC.condp rfl (fun c79 => ?_) (fun c79 => ?_)
              · exact absurd c79 (by decide)
              · refine SC.skip ?_
                refine SX.seq ?_
                refine SC.seq ?_
                refine SC.keep [(0, .int .i64 (m : Int)), (1, .int .i64 ack), (8, .int .i64 (f2 : Int)), (5, .pointer (some ⟨b5, 0, none⟩)), (6, .func (.func 69) #[] [.pointer (some ⟨b5, 0, none⟩)].toArray)] ⟨rfl, rfl, rfl, rfl, rfl, trivial⟩ ?_
                have hb1 : (0 : Int) < ((f2 + 1 : Nat) : Int) := by omega
                have hk1 := Int.tmod_lt_of_pos ack hb1
                have hk2 := Int.lt_tmod_of_pos ack hb1
                have hk3 := Int.tmod_lt_of_pos (ack.tmod ((f2 + 1 : Nat) : Int) + (f2 : Int) + 1) hb1
                have hk4 := Int.tmod_nonneg (a := ack.tmod ((f2 + 1 : Nat) : Int) + (f2 : Int) + 1) ((f2 + 1 : Nat) : Int) (by omega)
                refine SC.plain ?_
                refine St.move rfl rfl ?_
                refine St.move rfl rfl ?_
                first | refine St.addN (b := 1) rfl rfl rfl (by omega) ?_ | refine St.addI rfl rfl rfl (by omega) ?_
                first | refine St.remN rfl rfl rfl (by omega) ?_ | refine St.rem rfl rfl rfl (by omega) ?_
                refine St.move rfl rfl ?_
                first | refine St.addN rfl rfl rfl (by omega) ?_ | refine St.addI rfl rfl rfl (by omega) ?_
                first | refine St.addN (b := 1) rfl rfl rfl (by omega) ?_ | refine St.addI rfl rfl rfl (by omega) ?_
                refine St.move rfl rfl ?_
                first | refine St.addN (b := 1) rfl rfl rfl (by omega) ?_ | refine St.addI rfl rfl rfl (by omega) ?_
                first | refine St.remN rfl rfl rfl (by omega) ?_ | refine St.rem rfl rfl rfl (by omega) ?_
                refine St.assign rfl rfl ?_
                refine St.done ?_
                obtain ⟨k, hk⟩ : ∃ k : Nat, (ack.tmod ((f2 + 1 : Nat) : Int) + (f2 : Int) + 1).tmod ((f2 + 1 : Nat) : Int) = (k : Int) := ⟨((ack.tmod ((f2 + 1 : Nat) : Int) + (f2 : Int) + 1).tmod ((f2 + 1 : Nat) : Int)).toNat, by omega⟩
                rw [hk]
                have hkf : k ≤ f2 := by omega
                refine SX.seq ?_
                refine SC.seq ?_
                have hback := wS_ack (n := m) (b := f2) (k := k) (at_ := t2) hkf hf1 hm2
                obtain ⟨t3, ht3, ht3a⟩ : ∃ t3 : Int, (if k = 0 then t2 else 3) = t3 ∧ 0 ≤ t3 ∧ t3 ≤ 3 := ⟨_, rfl, by split <;> omega⟩
                rw [ht3] at hback
                refine SC.drawn [(0, true), (1, true), (2, true), (3, false), (4, false)] [5] ([[⟨b5, [.pointer (some ⟨p, 0, none⟩)], 80⟩]]) (by kernel_rfl) (by kernel_rfl) (fun w hw => hw.sub (sub_flat (.cons_cons _ (List.nil_sublist _)))) ?_
                refine St.load rfl rfl (by kernel_rfl) (by first | exact Holds.row mem0 rfl | exact Holds.row mem1 rfl | exact Holds.row mem2 rfl | exact Holds.row mem3 rfl | exact Holds.row mem4 rfl | exact Holds.row mem5 rfl | exact Holds.row mem6 rfl | exact Holds.row mem7 rfl | exact Holds.row mem8 rfl) ?_
                refine St.move rfl rfl ?_
                refine St.build [(0, .int .i64 2), (1, .int .i64 5), (3, .int .i64 (k : Int))] (segCells ⟨2, 5, 0, (k : Int), []⟩ (.slice none 0 0)) rfl rfl (by kernel_rfl) ?_
                refine St.call [_] rfl (by kernel_rfl) rfl (rsegment_in w0 _ ⟨2, 5, 0, (k : Int), []⟩ _ (SegIn.none (w0 := w0) (L := _) _ _ _ _)) (by rintro _ _ w ⟨rfl, rfl⟩ hw; exact hw.sub (sub_flat (.cons_cons _ (List.nil_sublist _)))) ?_
                rintro r14 L1 ⟨rfl, rfl⟩
                refine St.toBytes (e := 5) rfl rfl (by kernel_rfl) (by kernel_rfl) (by kernel_rfl) (fun _ w hw => hw.drop.sub (sub_flat (.cons_cons _ (List.nil_sublist _)))) (fun vb14 E14 hb14 _ => ?_)
                rw [u8s_text (segOf ⟨2, 5, 0, (k : Int), []⟩) (segOf_lt (by simp)), text_size] at hb14
                have hb14 : Buf 5 1 vb14 (bytes (segOf ⟨2, 5, 0, (k : Int), []⟩)) (segOf ⟨2, 5, 0, (k : Int), []⟩).length E14 := hb14
                refine St.done ?_
                refine SX.tail ?_
                refine St.perm (EnL p (wS m 0 f2 t2) ov5 iv5 at5 Eo5 Ei5 (E14 :: [⟨b5, [.pointer (some ⟨p, 0, none⟩)], 80⟩] :: L)) (perm_block [_, _] [_, _, _] L) ?_
                refine St.call [_, _, _] rfl (by kernel_rfl) rfl (in18_spec w0 _ p _ _ _ _ _ _ hB5 vb14 _ (hb14.rd (by simp [EnL])) hb14.cap (by rw [segOf_len]; simp) (segOf_lt (by simp)) 3 clock3) (fun _ _ _ _ h => h.nil) ?_
                rw [hback]
                rintro r14 L1 ⟨ov6, iv6, at6, Eo6, Ei6, hB6, rfl⟩
                refine St.done ?_
                refine SX.weak (EnL p (wS m k f2 t3) ov6 iv6 at6 Eo6 Ei6 ([⟨b5, [.pointer (some ⟨p, 0, none⟩)], 80⟩] :: L)) (.cons_cons _ (.cons_cons _ (.cons_cons _ (.cons _ (List.Sublist.refl _))))) ?_
                refine SX.perm ([⟨b5, [.pointer (some ⟨p, 0, none⟩)], 80⟩] :: EnL p (wS m k f2 t3) ov6 iv6 at6 Eo6 Ei6 (L)) (perm_block [_, _, _] [_] L) ?_
                refine SX.seq ?_
                refine SC.seq ?_
                have hq4 : (decide (k < f2) && (decide (t3 ≤ 9223372036854775799) && decide (t3 + 8 ≤ 4))) = false := by rw [decide_eq_false (by omega : ¬ t3 + 8 ≤ 4)]; simp
                obtain ⟨f4, l4, t4, hout4, hat4, hf4a, hf4b, hc4⟩ := wS_scan (n := m) (una := k) (next := f2) (at_ := t3) (now := 4) hm2 hkf hf1 (by omega) hq4
                obtain ⟨D, F, hsc4, hD⟩ : ∃ D F : Int, scan l4 (-1) 0 = (D, F, true) ∧ ((D = f2 ∧ F = f4 ∧ f2 < m ∧ f2 < k + 4000 ∧ f2 < f4 ∧ f4 ≤ k + 4400) ∨ (D = -1 ∧ F = 0 ∧ f4 = f2 ∧ ¬ (f2 < m ∧ f2 < k + 4000))) := by rcases hc4 with ⟨h1, h2, h3, h4, _, h5⟩ | ⟨h1, h2, _, _, h5⟩; exact ⟨_, _, h5, .inl ⟨rfl, rfl, h1, h2, h3, h4⟩⟩; exact ⟨_, _, h5, .inr ⟨rfl, rfl, h2, h1⟩⟩
                refine SC.plain ?_
                refine St.move rfl rfl ?_
                refine St.callv (cap := #[.pointer (some ⟨b5, 0, none⟩)]) [.int .i64 4] rfl (by kernel_rfl) rfl rfl (sent_spec w0 L b5 p (wS m k f2 t3) ov6 iv6 at6 Eo6 Ei6 hB6 4 clock4) (fun _ _ _ _ h => h.nil) ?_
                rw [hout4]
                dsimp only
                rw [hsc4]
                dsimp only
                rintro r7 L1 ⟨rfl, ov7, iv7, at7, Eo7, Ei7, hB7, rfl⟩
                refine St.move rfl rfl ?_
                refine St.extract rfl rfl rfl ?_
                refine St.extract rfl rfl rfl ?_
                refine St.extract rfl rfl rfl ?_
                refine St.assign rfl rfl ?_
                refine St.assign rfl rfl ?_
                refine St.assign rfl rfl ?_
                refine St.done ?_
                refine SX.seq ?_
                refine SC.seq ?_
                refine SC.seq ?_
                refine SC.keep [(0, .int .i64 (m : Int)), (1, .int .i64 (k : Int)), (8, .int .i64 (f2 : Int)), (9, .bool true), (13, .int .i64 D), (14, .int .i64 F), (5, .pointer (some ⟨b5, 0, none⟩)), (6, .func (.func 69) #[] [.pointer (some ⟨b5, 0, none⟩)].toArray)] ⟨rfl, rfl, rfl, rfl, rfl, rfl, rfl, rfl, trivial⟩ ?_
                refine SC.plain ?_
                refine St.move rfl rfl ?_
                refine St.notB rfl rfl ?_
                refine St.move rfl rfl ?_
                refine St.guard_yes rfl rfl ?_
                refine St.move rfl rfl ?_
                refine St.guard_yes rfl rfl ?_
                refine St.geq rfl rfl rfl ?_
                refine St.guard_yes rfl rfl ?_
                refine St.move rfl rfl ?_
                refine St.split 107 rfl (fun g107 => ?_) (fun g107 => ?_)
                · refine St.guard_yes rfl rfl ?_
                  refine St.move rfl rfl ?_
                  refine St.guard_yes rfl rfl ?_
                  refine St.move rfl rfl ?_
                  refine St.guard_yes rfl rfl ?_
                  refine St.neq rfl rfl rfl ?_
                  refine St.guard_yes rfl rfl ?_
                  refine St.move rfl rfl ?_
                  refine St.split 111 rfl (fun g111 => ?_) (fun g111 => ?_)
                  · refine St.guard_no rfl rfl rfl ?_
                    refine St.guard_no rfl rfl rfl ?_
                    refine St.guard_no rfl rfl rfl ?_
                    refine St.guard_no rfl rfl rfl ?_
                    refine St.guard_yes rfl rfl ?_
                    refine St.pick_true rfl rfl rfl ?_
                    refine St.guard_yes rfl rfl ?_
                    refine St.pick_true rfl rfl rfl ?_
                    refine St.pick_false rfl rfl rfl ?_
                    refine St.move rfl rfl ?_
                    refine St.guard_no rfl rfl rfl ?_
                    refine St.guard_no rfl rfl rfl ?_
                    refine St.guard_no rfl rfl rfl ?_
                    refine St.guard_none rfl rfl rfl ?_
                    refine St.guard_none rfl rfl rfl ?_
                    refine St.guard_none rfl rfl rfl ?_
                    refine St.guard_no rfl rfl rfl ?_
                    refine St.guard_no rfl rfl rfl ?_
                    refine St.guard_none rfl rfl rfl ?_
                    refine St.guard_none rfl rfl rfl ?_
                    refine St.guard_none rfl rfl rfl ?_
                    refine St.guard_none rfl rfl rfl ?_
                    refine St.guard_no rfl rfl rfl ?_
                    refine St.pick_true rfl rfl rfl ?_
                    refine St.done ?_
                    refine SX.seq ?_
                    refine SC.cond_true rfl ?_
                    refine SC.seq ?_
                    refine SC.plain ?_
                    refine St.assign rfl rfl ?_
                    refine St.done ?_
                    refine SX.seq ?_
                    refine SC.ret ?_
                    refine SX.seq_ret ?_
                    first | exact SX.ret1 rfl rfl rfl | (exfalso; omega)
                  · refine St.guard_yes rfl rfl ?_
                    refine St.move rfl rfl ?_
                    refine St.guard_yes rfl rfl ?_
                    refine St.move rfl rfl ?_
                    refine St.guard_yes rfl rfl ?_
                    first | refine St.addN (b := 4400) rfl rfl rfl (by omega) ?_ | refine St.addI rfl rfl rfl (by omega) ?_
                    refine St.guard_yes rfl rfl ?_
                    refine St.gtr rfl rfl rfl ?_
                    refine St.guard_yes rfl rfl ?_
                    refine St.pick_false rfl rfl rfl ?_
                    refine St.guard_yes rfl rfl ?_
                    refine St.pick_true rfl rfl rfl ?_
                    refine St.pick_false rfl rfl rfl ?_
                    refine St.move rfl rfl ?_
                    refine St.split 119 rfl (fun g119 => ?_) (fun g119 => ?_)
                    · refine St.guard_no rfl rfl rfl ?_
                      refine St.guard_no rfl rfl rfl ?_
                      refine St.guard_no rfl rfl rfl ?_
                      refine St.guard_none rfl rfl rfl ?_
                      refine St.guard_none rfl rfl rfl ?_
                      refine St.guard_none rfl rfl rfl ?_
                      refine St.guard_no rfl rfl rfl ?_
                      refine St.guard_no rfl rfl rfl ?_
                      refine St.guard_none rfl rfl rfl ?_
                      refine St.guard_none rfl rfl rfl ?_
                      refine St.guard_none rfl rfl rfl ?_
                      refine St.guard_none rfl rfl rfl ?_
                      refine St.guard_no rfl rfl rfl ?_
                      refine St.pick_true rfl rfl rfl ?_
                      refine St.done ?_
                      refine SX.seq ?_
                      refine SC.cond_true rfl ?_
                      refine SC.seq ?_
                      refine SC.plain ?_
                      refine St.assign rfl rfl ?_
                      refine St.done ?_
                      refine SX.seq ?_
                      refine SC.ret ?_
                      refine SX.seq_ret ?_
                      first | exact SX.ret1 rfl rfl rfl | (exfalso; omega)
                    · refine St.guard_yes rfl rfl ?_
                      refine St.move rfl rfl ?_
                      refine St.guard_yes rfl rfl ?_
                      refine St.lss rfl rfl rfl ?_
                      refine St.guard_yes rfl rfl ?_
                      refine St.move rfl rfl ?_
                      refine St.split 122 rfl (fun g122 => ?_) (fun g122 => ?_)
                      · refine St.guard_yes rfl rfl ?_
                        refine St.move rfl rfl ?_
                        refine St.guard_yes rfl rfl ?_
                        refine St.move rfl rfl ?_
                        refine St.guard_yes rfl rfl ?_
                        refine St.lss rfl rfl rfl ?_
                        refine St.guard_yes rfl rfl ?_
                        refine St.pick_true rfl rfl rfl ?_
                        refine St.guard_yes rfl rfl ?_
                        refine St.move rfl rfl ?_
                        refine St.split 127 rfl (fun g127 => ?_) (fun g127 => ?_)
                        · refine St.guard_yes rfl rfl ?_
                          refine St.move rfl rfl ?_
                          refine St.guard_yes rfl rfl ?_
                          refine St.move rfl rfl ?_
                          refine St.guard_yes rfl rfl ?_
                          first | refine St.addN (b := 4000) rfl rfl rfl (by omega) ?_ | refine St.addI rfl rfl rfl (by omega) ?_
                          refine St.guard_yes rfl rfl ?_
                          refine St.lss rfl rfl rfl ?_
                          refine St.guard_yes rfl rfl ?_
                          refine St.pick_true rfl rfl rfl ?_
                          refine St.pick_false rfl rfl rfl ?_
                          refine St.done ?_
                          refine SX.seq ?_
                          refine SC.condp rfl (fun c133 => ?_) (fun c133 => ?_)
                          · refine SC.seq ?_
                            refine SC.plain ?_
                            refine St.assign rfl rfl ?_
                            refine St.done ?_
                            refine SX.seq ?_
                            refine SC.ret ?_
                            refine SX.seq_ret ?_
                            first | exact SX.ret1 rfl rfl rfl | (exfalso; omega)
                          · refine SC.skip ?_
                            refine SX.seq ?_
                            refine SC.seq ?_
                            refine SC.seq ?_
                            refine SC.keep [(0, .int .i64 (m : Int)), (1, .int .i64 (k : Int)), (8, .int .i64 (f2 : Int)), (13, .int .i64 D), (14, .int .i64 F), (5, .pointer (some ⟨b5, 0, none⟩)), (6, .func (.func 69) #[] [.pointer (some ⟨b5, 0, none⟩)].toArray)] ⟨rfl, rfl, rfl, rfl, rfl, rfl, rfl, trivial⟩ ?_
                            refine SC.plain ?_
                            refine St.move rfl rfl ?_
                            refine St.geq rfl rfl rfl ?_
                            refine St.done ?_
                            refine SX.seq ?_
                            refine SC.condp rfl (fun c135 => ?_) (fun c135 => ?_)
                            · refine SC.plain ?_
                              refine St.move rfl rfl ?_
                              refine St.assign rfl rfl ?_
                              refine St.done ?_
                              refine SX.seq ?_
                              refine SC.seq ?_
                              have h8 : 1 = 1 := rfl
                              obtain ⟨e5, l5, G, F5, hout5, hst5, hsc5, hG⟩ := wS_last (n := m) (k := k) (f := f4) (at_ := t4) hm2 (by omega) hf4b (by omega) (by omega)
                              refine SC.plain ?_
                              refine St.move rfl rfl ?_
                              refine St.callv (cap := #[.pointer (some ⟨b5, 0, none⟩)]) [.int .i64 30] rfl (by kernel_rfl) rfl rfl (sent_spec w0 L b5 p (wS m k f4 t4) ov7 iv7 at7 Eo7 Ei7 hB7 30 clock30) (fun _ _ _ _ h => h.nil) ?_
                              rw [hout5]
                              dsimp only
                              rw [hsc5]
                              dsimp only
                              rintro r8 L1 ⟨rfl, ov8, iv8, at8, Eo8, Ei8, hB8, rfl⟩
                              refine St.move rfl rfl ?_
                              refine St.extract rfl rfl rfl ?_
                              refine St.extract rfl rfl rfl ?_
                              refine St.extract rfl rfl rfl ?_
                              refine St.assign rfl rfl ?_
                              refine St.assign rfl rfl ?_
                              refine St.assign rfl rfl ?_
                              refine St.done ?_
                              refine SX.seq ?_
                              refine SC.seq ?_
                              refine SC.plain ?_
                              refine St.move rfl rfl ?_
                              refine St.move rfl rfl ?_
                              refine St.guard_yes rfl rfl ?_
                              refine St.move rfl rfl ?_
                              refine St.guard_yes rfl rfl ?_
                              refine St.move rfl rfl ?_
                              refine St.guard_yes rfl rfl ?_
                              refine St.eql rfl rfl rfl ?_
                              refine St.guard_yes rfl rfl ?_
                              refine St.move rfl rfl ?_
                              refine St.split 148 rfl (fun g148 => ?_) (fun g148 => ?_)
                              · refine St.guard_yes rfl rfl ?_
                                refine St.move rfl rfl ?_
                                refine St.guard_yes rfl rfl ?_
                                refine St.move rfl rfl ?_
                                refine St.guard_yes rfl rfl ?_
                                refine St.eql rfl rfl rfl ?_
                                refine St.guard_yes rfl rfl ?_
                                refine St.pick_true rfl rfl rfl ?_
                                refine St.guard_yes rfl rfl ?_
                                refine St.move rfl rfl ?_
                                refine St.split 153 rfl (fun g153 => ?_) (fun g153 => ?_)
                                · refine St.guard_yes rfl rfl ?_
                                  refine St.move rfl rfl ?_
                                  refine St.guard_yes rfl rfl ?_
                                  refine St.lss rfl rfl rfl ?_
                                  refine St.guard_yes rfl rfl ?_
                                  refine St.pick_true rfl rfl rfl ?_
                                  refine St.guard_yes rfl rfl ?_
                                  refine St.move rfl rfl ?_
                                  refine St.split 157 rfl (fun g157 => ?_) (fun g157 => ?_)
                                  · refine St.guard_no rfl rfl rfl ?_
                                    refine St.guard_no rfl rfl rfl ?_
                                    refine St.guard_no rfl rfl rfl ?_
                                    refine St.guard_yes rfl rfl ?_
                                    refine St.pick_true rfl rfl rfl ?_
                                    refine St.pick_true rfl rfl rfl ?_
                                    refine St.move rfl rfl ?_
                                    refine St.guard_yes rfl rfl ?_
                                    refine St.load rfl rfl (by kernel_rfl) (by first | exact Holds.row mem0 rfl | exact Holds.row mem1 rfl | exact Holds.row mem2 rfl | exact Holds.row mem3 rfl | exact Holds.row mem4 rfl | exact Holds.row mem5 rfl | exact Holds.row mem6 rfl | exact Holds.row mem7 rfl | exact Holds.row mem8 rfl) ?_
                                    refine St.guard_yes rfl rfl ?_
                                    refine St.perm (EnL p e5 ov8 iv8 at8 Eo8 Ei8 ([⟨b5, [.pointer (some ⟨p, 0, none⟩)], 80⟩] :: L)) (perm_block [_] [_, _, _] L) ?_
                                    refine St.call [_] rfl (by kernel_rfl) rfl (state18_spec w0 _ p _ _ _ _ _ _ hB8) (fun _ _ _ _ h => h.nil) ?_
                                    rintro r12 L1 ⟨rfl, rfl⟩
                                    rw [hst5]
                                    refine St.guard_yes rfl rfl ?_
                                    refine St.eql rfl rfl rfl ?_
                                    refine St.pick_true rfl rfl rfl ?_
                                    refine St.move rfl rfl ?_
                                    refine St.split 168 rfl (fun g168 => ?_) (fun g168 => ?_)
                                    · refine St.guard_yes rfl rfl ?_
                                      refine St.call [] rfl (by kernel_rfl) rfl (awake18_spec w0 _) (by first | exact fun _ _ _ _ h => h.nil | assumption) ?_
                                      rintro r13 L1 ⟨rfl, rfl⟩
                                      refine St.pick_true rfl rfl rfl ?_
                                      refine St.assign rfl rfl ?_
                                      refine St.done ?_
                                      refine SX.seq ?_
                                      refine SC.ret ?_
                                      first | exact SX.ret1 rfl rfl rfl | (exfalso; omega)
                                    · refine St.guard_no rfl rfl rfl ?_
                                      refine St.pick_false rfl rfl rfl ?_
                                      refine St.assign rfl rfl ?_
                                      refine St.done ?_
                                      refine SX.seq ?_
                                      refine SC.ret ?_
                                      first | exact SX.ret1 rfl rfl rfl | (exfalso; omega)
                                  · refine St.guard_yes rfl rfl ?_
                                    refine St.move rfl rfl ?_
                                    refine St.guard_yes rfl rfl ?_
                                    refine St.move rfl rfl ?_
                                    refine St.guard_yes rfl rfl ?_
                                    refine St.eql rfl rfl rfl ?_
                                    refine St.guard_yes rfl rfl ?_
                                    refine St.pick_false rfl rfl rfl ?_
                                    refine St.pick_true rfl rfl rfl ?_
                                    refine St.move rfl rfl ?_
                                    refine St.split 163 rfl (fun g163 => ?_) (fun g163 => ?_)
                                    · refine St.guard_yes rfl rfl ?_
                                      refine St.load rfl rfl (by kernel_rfl) (by first | exact Holds.row mem0 rfl | exact Holds.row mem1 rfl | exact Holds.row mem2 rfl | exact Holds.row mem3 rfl | exact Holds.row mem4 rfl | exact Holds.row mem5 rfl | exact Holds.row mem6 rfl | exact Holds.row mem7 rfl | exact Holds.row mem8 rfl) ?_
                                      refine St.guard_yes rfl rfl ?_
                                      refine St.perm (EnL p e5 ov8 iv8 at8 Eo8 Ei8 ([⟨b5, [.pointer (some ⟨p, 0, none⟩)], 80⟩] :: L)) (perm_block [_] [_, _, _] L) ?_
                                      refine St.call [_] rfl (by kernel_rfl) rfl (state18_spec w0 _ p _ _ _ _ _ _ hB8) (fun _ _ _ _ h => h.nil) ?_
                                      rintro r12 L1 ⟨rfl, rfl⟩
                                      rw [hst5]
                                      refine St.guard_yes rfl rfl ?_
                                      refine St.eql rfl rfl rfl ?_
                                      refine St.pick_true rfl rfl rfl ?_
                                      refine St.move rfl rfl ?_
                                      refine St.split 168 rfl (fun g168 => ?_) (fun g168 => ?_)
                                      · refine St.guard_yes rfl rfl ?_
                                        refine St.call [] rfl (by kernel_rfl) rfl (awake18_spec w0 _) (by first | exact fun _ _ _ _ h => h.nil | assumption) ?_
                                        rintro r13 L1 ⟨rfl, rfl⟩
                                        refine St.pick_true rfl rfl rfl ?_
                                        refine St.assign rfl rfl ?_
                                        refine St.done ?_
                                        refine SX.seq ?_
                                        refine SC.ret ?_
                                        first | exact SX.ret1 rfl rfl rfl | (exfalso; omega)
                                      · refine St.guard_no rfl rfl rfl ?_
                                        refine St.pick_false rfl rfl rfl ?_
                                        refine St.assign rfl rfl ?_
                                        refine St.done ?_
                                        refine SX.seq ?_
                                        refine SC.ret ?_
                                        first | exact SX.ret1 rfl rfl rfl | (exfalso; omega)
                                    · refine St.guard_no rfl rfl rfl ?_
                                      refine St.guard_no rfl rfl rfl ?_
                                      refine St.guard_no rfl rfl rfl ?_
                                      refine St.pick_false rfl rfl rfl ?_
                                      refine St.move rfl rfl ?_
                                      refine St.guard_no rfl rfl rfl ?_
                                      refine St.pick_false rfl rfl rfl ?_
                                      refine St.assign rfl rfl ?_
                                      refine St.done ?_
                                      refine SX.seq ?_
                                      refine SC.ret ?_
                                      first | exact SX.ret1 rfl rfl rfl | (exfalso; omega)
                                · refine St.guard_no rfl rfl rfl ?_
                                  refine St.guard_no rfl rfl rfl ?_
                                  refine St.guard_yes rfl rfl ?_
                                  refine St.pick_false rfl rfl rfl ?_
                                  refine St.guard_yes rfl rfl ?_
                                  refine St.move rfl rfl ?_
                                  refine St.guard_yes rfl rfl ?_
                                  refine St.move rfl rfl ?_
                                  refine St.guard_yes rfl rfl ?_
                                  refine St.move rfl rfl ?_
                                  refine St.guard_yes rfl rfl ?_
                                  refine St.eql rfl rfl rfl ?_
                                  refine St.guard_yes rfl rfl ?_
                                  refine St.pick_false rfl rfl rfl ?_
                                  refine St.pick_true rfl rfl rfl ?_
                                  refine St.move rfl rfl ?_
                                  refine St.split 163 rfl (fun g163 => ?_) (fun g163 => ?_)
                                  · refine St.guard_yes rfl rfl ?_
                                    refine St.load rfl rfl (by kernel_rfl) (by first | exact Holds.row mem0 rfl | exact Holds.row mem1 rfl | exact Holds.row mem2 rfl | exact Holds.row mem3 rfl | exact Holds.row mem4 rfl | exact Holds.row mem5 rfl | exact Holds.row mem6 rfl | exact Holds.row mem7 rfl | exact Holds.row mem8 rfl) ?_
                                    refine St.guard_yes rfl rfl ?_
                                    refine St.perm (EnL p e5 ov8 iv8 at8 Eo8 Ei8 ([⟨b5, [.pointer (some ⟨p, 0, none⟩)], 80⟩] :: L)) (perm_block [_] [_, _, _] L) ?_
                                    refine St.call [_] rfl (by kernel_rfl) rfl (state18_spec w0 _ p _ _ _ _ _ _ hB8) (fun _ _ _ _ h => h.nil) ?_
                                    rintro r12 L1 ⟨rfl, rfl⟩
                                    rw [hst5]
                                    refine St.guard_yes rfl rfl ?_
                                    refine St.eql rfl rfl rfl ?_
                                    refine St.pick_true rfl rfl rfl ?_
                                    refine St.move rfl rfl ?_
                                    refine St.split 168 rfl (fun g168 => ?_) (fun g168 => ?_)
                                    · refine St.guard_yes rfl rfl ?_
                                      refine St.call [] rfl (by kernel_rfl) rfl (awake18_spec w0 _) (by first | exact fun _ _ _ _ h => h.nil | assumption) ?_
                                      rintro r13 L1 ⟨rfl, rfl⟩
                                      refine St.pick_true rfl rfl rfl ?_
                                      refine St.assign rfl rfl ?_
                                      refine St.done ?_
                                      refine SX.seq ?_
                                      refine SC.ret ?_
                                      first | exact SX.ret1 rfl rfl rfl | (exfalso; omega)
                                    · refine St.guard_no rfl rfl rfl ?_
                                      refine St.pick_false rfl rfl rfl ?_
                                      refine St.assign rfl rfl ?_
                                      refine St.done ?_
                                      refine SX.seq ?_
                                      refine SC.ret ?_
                                      first | exact SX.ret1 rfl rfl rfl | (exfalso; omega)
                                  · refine St.guard_no rfl rfl rfl ?_
                                    refine St.guard_no rfl rfl rfl ?_
                                    refine St.guard_no rfl rfl rfl ?_
                                    refine St.pick_false rfl rfl rfl ?_
                                    refine St.move rfl rfl ?_
                                    refine St.guard_no rfl rfl rfl ?_
                                    refine St.pick_false rfl rfl rfl ?_
                                    refine St.assign rfl rfl ?_
                                    refine St.done ?_
                                    refine SX.seq ?_
                                    refine SC.ret ?_
                                    first | exact SX.ret1 rfl rfl rfl | (exfalso; omega)
                              · refine St.guard_no rfl rfl rfl ?_
                                refine St.guard_no rfl rfl rfl ?_
                                refine St.guard_no rfl rfl rfl ?_
                                refine St.guard_yes rfl rfl ?_
                                refine St.pick_false rfl rfl rfl ?_
                                refine St.guard_yes rfl rfl ?_
                                refine St.move rfl rfl ?_
                                refine St.guard_no rfl rfl rfl ?_
                                refine St.guard_no rfl rfl rfl ?_
                                refine St.guard_yes rfl rfl ?_
                                refine St.pick_false rfl rfl rfl ?_
                                refine St.guard_yes rfl rfl ?_
                                refine St.move rfl rfl ?_
                                refine St.guard_yes rfl rfl ?_
                                refine St.move rfl rfl ?_
                                refine St.guard_yes rfl rfl ?_
                                refine St.move rfl rfl ?_
                                refine St.guard_yes rfl rfl ?_
                                refine St.eql rfl rfl rfl ?_
                                refine St.guard_yes rfl rfl ?_
                                refine St.pick_false rfl rfl rfl ?_
                                refine St.pick_true rfl rfl rfl ?_
                                refine St.move rfl rfl ?_
                                refine St.split 163 rfl (fun g163 => ?_) (fun g163 => ?_)
                                · refine St.guard_yes rfl rfl ?_
                                  refine St.load rfl rfl (by kernel_rfl) (by first | exact Holds.row mem0 rfl | exact Holds.row mem1 rfl | exact Holds.row mem2 rfl | exact Holds.row mem3 rfl | exact Holds.row mem4 rfl | exact Holds.row mem5 rfl | exact Holds.row mem6 rfl | exact Holds.row mem7 rfl | exact Holds.row mem8 rfl) ?_
                                  refine St.guard_yes rfl rfl ?_
                                  refine St.perm (EnL p e5 ov8 iv8 at8 Eo8 Ei8 ([⟨b5, [.pointer (some ⟨p, 0, none⟩)], 80⟩] :: L)) (perm_block [_] [_, _, _] L) ?_
                                  refine St.call [_] rfl (by kernel_rfl) rfl (state18_spec w0 _ p _ _ _ _ _ _ hB8) (fun _ _ _ _ h => h.nil) ?_
                                  rintro r12 L1 ⟨rfl, rfl⟩
                                  rw [hst5]
                                  refine St.guard_yes rfl rfl ?_
                                  refine St.eql rfl rfl rfl ?_
                                  refine St.pick_true rfl rfl rfl ?_
                                  refine St.move rfl rfl ?_
                                  refine St.split 168 rfl (fun g168 => ?_) (fun g168 => ?_)
                                  · refine St.guard_yes rfl rfl ?_
                                    refine St.call [] rfl (by kernel_rfl) rfl (awake18_spec w0 _) (by first | exact fun _ _ _ _ h => h.nil | assumption) ?_
                                    rintro r13 L1 ⟨rfl, rfl⟩
                                    refine St.pick_true rfl rfl rfl ?_
                                    refine St.assign rfl rfl ?_
                                    refine St.done ?_
                                    refine SX.seq ?_
                                    refine SC.ret ?_
                                    first | exact SX.ret1 rfl rfl rfl | (exfalso; omega)
                                  · refine St.guard_no rfl rfl rfl ?_
                                    refine St.pick_false rfl rfl rfl ?_
                                    refine St.assign rfl rfl ?_
                                    refine St.done ?_
                                    refine SX.seq ?_
                                    refine SC.ret ?_
                                    first | exact SX.ret1 rfl rfl rfl | (exfalso; omega)
                                · refine St.guard_no rfl rfl rfl ?_
                                  refine St.guard_no rfl rfl rfl ?_
                                  refine St.guard_no rfl rfl rfl ?_
                                  refine St.pick_false rfl rfl rfl ?_
                                  refine St.move rfl rfl ?_
                                  refine St.guard_no rfl rfl rfl ?_
                                  refine St.pick_false rfl rfl rfl ?_
                                  refine St.assign rfl rfl ?_
                                  refine St.done ?_
                                  refine SX.seq ?_
                                  refine SC.ret ?_
                                  first | exact SX.ret1 rfl rfl rfl | (exfalso; omega)
                            · refine SC.skip ?_
                              refine SX.seq ?_
                              refine SC.seq ?_
                              have h8 : 1 = 1 := rfl
                              obtain ⟨e5, l5, G, F5, hout5, hst5, hsc5, hG⟩ := wS_last (n := m) (k := k) (f := f4) (at_ := t4) hm2 (by omega) hf4b (by omega) (by omega)
                              refine SC.plain ?_
                              refine St.move rfl rfl ?_
                              refine St.callv (cap := #[.pointer (some ⟨b5, 0, none⟩)]) [.int .i64 30] rfl (by kernel_rfl) rfl rfl (sent_spec w0 L b5 p (wS m k f4 t4) ov7 iv7 at7 Eo7 Ei7 hB7 30 clock30) (fun _ _ _ _ h => h.nil) ?_
                              rw [hout5]
                              dsimp only
                              rw [hsc5]
                              dsimp only
                              rintro r8 L1 ⟨rfl, ov8, iv8, at8, Eo8, Ei8, hB8, rfl⟩
                              refine St.move rfl rfl ?_
                              refine St.extract rfl rfl rfl ?_
                              refine St.extract rfl rfl rfl ?_
                              refine St.extract rfl rfl rfl ?_
                              refine St.assign rfl rfl ?_
                              refine St.assign rfl rfl ?_
                              refine St.assign rfl rfl ?_
                              refine St.done ?_
                              refine SX.seq ?_
                              refine SC.seq ?_
                              refine SC.plain ?_
                              refine St.move rfl rfl ?_
                              refine St.move rfl rfl ?_
                              refine St.guard_yes rfl rfl ?_
                              refine St.move rfl rfl ?_
                              refine St.guard_yes rfl rfl ?_
                              refine St.move rfl rfl ?_
                              refine St.guard_yes rfl rfl ?_
                              refine St.eql rfl rfl rfl ?_
                              refine St.guard_yes rfl rfl ?_
                              refine St.move rfl rfl ?_
                              refine St.split 148 rfl (fun g148 => ?_) (fun g148 => ?_)
                              · refine St.guard_yes rfl rfl ?_
                                refine St.move rfl rfl ?_
                                refine St.guard_yes rfl rfl ?_
                                refine St.move rfl rfl ?_
                                refine St.guard_yes rfl rfl ?_
                                refine St.eql rfl rfl rfl ?_
                                refine St.guard_yes rfl rfl ?_
                                refine St.pick_true rfl rfl rfl ?_
                                refine St.guard_yes rfl rfl ?_
                                refine St.move rfl rfl ?_
                                refine St.split 153 rfl (fun g153 => ?_) (fun g153 => ?_)
                                · refine St.guard_yes rfl rfl ?_
                                  refine St.move rfl rfl ?_
                                  refine St.guard_yes rfl rfl ?_
                                  refine St.lss rfl rfl rfl ?_
                                  refine St.guard_yes rfl rfl ?_
                                  refine St.pick_true rfl rfl rfl ?_
                                  refine St.guard_yes rfl rfl ?_
                                  refine St.move rfl rfl ?_
                                  refine St.split 157 rfl (fun g157 => ?_) (fun g157 => ?_)
                                  · refine St.guard_no rfl rfl rfl ?_
                                    refine St.guard_no rfl rfl rfl ?_
                                    refine St.guard_no rfl rfl rfl ?_
                                    refine St.guard_yes rfl rfl ?_
                                    refine St.pick_true rfl rfl rfl ?_
                                    refine St.pick_true rfl rfl rfl ?_
                                    refine St.move rfl rfl ?_
                                    refine St.guard_yes rfl rfl ?_
                                    refine St.load rfl rfl (by kernel_rfl) (by first | exact Holds.row mem0 rfl | exact Holds.row mem1 rfl | exact Holds.row mem2 rfl | exact Holds.row mem3 rfl | exact Holds.row mem4 rfl | exact Holds.row mem5 rfl | exact Holds.row mem6 rfl | exact Holds.row mem7 rfl | exact Holds.row mem8 rfl) ?_
                                    refine St.guard_yes rfl rfl ?_
                                    refine St.perm (EnL p e5 ov8 iv8 at8 Eo8 Ei8 ([⟨b5, [.pointer (some ⟨p, 0, none⟩)], 80⟩] :: L)) (perm_block [_] [_, _, _] L) ?_
                                    refine St.call [_] rfl (by kernel_rfl) rfl (state18_spec w0 _ p _ _ _ _ _ _ hB8) (fun _ _ _ _ h => h.nil) ?_
                                    rintro r12 L1 ⟨rfl, rfl⟩
                                    rw [hst5]
                                    refine St.guard_yes rfl rfl ?_
                                    refine St.eql rfl rfl rfl ?_
                                    refine St.pick_true rfl rfl rfl ?_
                                    refine St.move rfl rfl ?_
                                    refine St.split 168 rfl (fun g168 => ?_) (fun g168 => ?_)
                                    · refine St.guard_yes rfl rfl ?_
                                      refine St.call [] rfl (by kernel_rfl) rfl (awake18_spec w0 _) (by first | exact fun _ _ _ _ h => h.nil | assumption) ?_
                                      rintro r13 L1 ⟨rfl, rfl⟩
                                      refine St.pick_true rfl rfl rfl ?_
                                      refine St.assign rfl rfl ?_
                                      refine St.done ?_
                                      refine SX.seq ?_
                                      refine SC.ret ?_
                                      first | exact SX.ret1 rfl rfl rfl | (exfalso; omega)
                                    · refine St.guard_no rfl rfl rfl ?_
                                      refine St.pick_false rfl rfl rfl ?_
                                      refine St.assign rfl rfl ?_
                                      refine St.done ?_
                                      refine SX.seq ?_
                                      refine SC.ret ?_
                                      first | exact SX.ret1 rfl rfl rfl | (exfalso; omega)
                                  · refine St.guard_yes rfl rfl ?_
                                    refine St.move rfl rfl ?_
                                    refine St.guard_yes rfl rfl ?_
                                    refine St.move rfl rfl ?_
                                    refine St.guard_yes rfl rfl ?_
                                    refine St.eql rfl rfl rfl ?_
                                    refine St.guard_yes rfl rfl ?_
                                    refine St.pick_false rfl rfl rfl ?_
                                    refine St.pick_true rfl rfl rfl ?_
                                    refine St.move rfl rfl ?_
                                    refine St.split 163 rfl (fun g163 => ?_) (fun g163 => ?_)
                                    · refine St.guard_yes rfl rfl ?_
                                      refine St.load rfl rfl (by kernel_rfl) (by first | exact Holds.row mem0 rfl | exact Holds.row mem1 rfl | exact Holds.row mem2 rfl | exact Holds.row mem3 rfl | exact Holds.row mem4 rfl | exact Holds.row mem5 rfl | exact Holds.row mem6 rfl | exact Holds.row mem7 rfl | exact Holds.row mem8 rfl) ?_
                                      refine St.guard_yes rfl rfl ?_
                                      refine St.perm (EnL p e5 ov8 iv8 at8 Eo8 Ei8 ([⟨b5, [.pointer (some ⟨p, 0, none⟩)], 80⟩] :: L)) (perm_block [_] [_, _, _] L) ?_
                                      refine St.call [_] rfl (by kernel_rfl) rfl (state18_spec w0 _ p _ _ _ _ _ _ hB8) (fun _ _ _ _ h => h.nil) ?_
                                      rintro r12 L1 ⟨rfl, rfl⟩
                                      rw [hst5]
                                      refine St.guard_yes rfl rfl ?_
                                      refine St.eql rfl rfl rfl ?_
                                      refine St.pick_true rfl rfl rfl ?_
                                      refine St.move rfl rfl ?_
                                      refine St.split 168 rfl (fun g168 => ?_) (fun g168 => ?_)
                                      · refine St.guard_yes rfl rfl ?_
                                        refine St.call [] rfl (by kernel_rfl) rfl (awake18_spec w0 _) (by first | exact fun _ _ _ _ h => h.nil | assumption) ?_
                                        rintro r13 L1 ⟨rfl, rfl⟩
                                        refine St.pick_true rfl rfl rfl ?_
                                        refine St.assign rfl rfl ?_
                                        refine St.done ?_
                                        refine SX.seq ?_
                                        refine SC.ret ?_
                                        first | exact SX.ret1 rfl rfl rfl | (exfalso; omega)
                                      · refine St.guard_no rfl rfl rfl ?_
                                        refine St.pick_false rfl rfl rfl ?_
                                        refine St.assign rfl rfl ?_
                                        refine St.done ?_
                                        refine SX.seq ?_
                                        refine SC.ret ?_
                                        first | exact SX.ret1 rfl rfl rfl | (exfalso; omega)
                                    · refine St.guard_no rfl rfl rfl ?_
                                      refine St.guard_no rfl rfl rfl ?_
                                      refine St.guard_no rfl rfl rfl ?_
                                      refine St.pick_false rfl rfl rfl ?_
                                      refine St.move rfl rfl ?_
                                      refine St.guard_no rfl rfl rfl ?_
                                      refine St.pick_false rfl rfl rfl ?_
                                      refine St.assign rfl rfl ?_
                                      refine St.done ?_
                                      refine SX.seq ?_
                                      refine SC.ret ?_
                                      first | exact SX.ret1 rfl rfl rfl | (exfalso; omega)
                                · refine St.guard_no rfl rfl rfl ?_
                                  refine St.guard_no rfl rfl rfl ?_
                                  refine St.guard_yes rfl rfl ?_
                                  refine St.pick_false rfl rfl rfl ?_
                                  refine St.guard_yes rfl rfl ?_
                                  refine St.move rfl rfl ?_
                                  refine St.guard_yes rfl rfl ?_
                                  refine St.move rfl rfl ?_
                                  refine St.guard_yes rfl rfl ?_
                                  refine St.move rfl rfl ?_
                                  refine St.guard_yes rfl rfl ?_
                                  refine St.eql rfl rfl rfl ?_
                                  refine St.guard_yes rfl rfl ?_
                                  refine St.pick_false rfl rfl rfl ?_
                                  refine St.pick_true rfl rfl rfl ?_
                                  refine St.move rfl rfl ?_
                                  refine St.split 163 rfl (fun g163 => ?_) (fun g163 => ?_)
                                  · refine St.guard_yes rfl rfl ?_
                                    refine St.load rfl rfl (by kernel_rfl) (by first | exact Holds.row mem0 rfl | exact Holds.row mem1 rfl | exact Holds.row mem2 rfl | exact Holds.row mem3 rfl | exact Holds.row mem4 rfl | exact Holds.row mem5 rfl | exact Holds.row mem6 rfl | exact Holds.row mem7 rfl | exact Holds.row mem8 rfl) ?_
                                    refine St.guard_yes rfl rfl ?_
                                    refine St.perm (EnL p e5 ov8 iv8 at8 Eo8 Ei8 ([⟨b5, [.pointer (some ⟨p, 0, none⟩)], 80⟩] :: L)) (perm_block [_] [_, _, _] L) ?_
                                    refine St.call [_] rfl (by kernel_rfl) rfl (state18_spec w0 _ p _ _ _ _ _ _ hB8) (fun _ _ _ _ h => h.nil) ?_
                                    rintro r12 L1 ⟨rfl, rfl⟩
                                    rw [hst5]
                                    refine St.guard_yes rfl rfl ?_
                                    refine St.eql rfl rfl rfl ?_
                                    refine St.pick_true rfl rfl rfl ?_
                                    refine St.move rfl rfl ?_
                                    refine St.split 168 rfl (fun g168 => ?_) (fun g168 => ?_)
                                    · refine St.guard_yes rfl rfl ?_
                                      refine St.call [] rfl (by kernel_rfl) rfl (awake18_spec w0 _) (by first | exact fun _ _ _ _ h => h.nil | assumption) ?_
                                      rintro r13 L1 ⟨rfl, rfl⟩
                                      refine St.pick_true rfl rfl rfl ?_
                                      refine St.assign rfl rfl ?_
                                      refine St.done ?_
                                      refine SX.seq ?_
                                      refine SC.ret ?_
                                      first | exact SX.ret1 rfl rfl rfl | (exfalso; omega)
                                    · refine St.guard_no rfl rfl rfl ?_
                                      refine St.pick_false rfl rfl rfl ?_
                                      refine St.assign rfl rfl ?_
                                      refine St.done ?_
                                      refine SX.seq ?_
                                      refine SC.ret ?_
                                      first | exact SX.ret1 rfl rfl rfl | (exfalso; omega)
                                  · refine St.guard_no rfl rfl rfl ?_
                                    refine St.guard_no rfl rfl rfl ?_
                                    refine St.guard_no rfl rfl rfl ?_
                                    refine St.pick_false rfl rfl rfl ?_
                                    refine St.move rfl rfl ?_
                                    refine St.guard_no rfl rfl rfl ?_
                                    refine St.pick_false rfl rfl rfl ?_
                                    refine St.assign rfl rfl ?_
                                    refine St.done ?_
                                    refine SX.seq ?_
                                    refine SC.ret ?_
                                    first | exact SX.ret1 rfl rfl rfl | (exfalso; omega)
                              · refine St.guard_no rfl rfl rfl ?_
                                refine St.guard_no rfl rfl rfl ?_
                                refine St.guard_no rfl rfl rfl ?_
                                refine St.guard_yes rfl rfl ?_
                                refine St.pick_false rfl rfl rfl ?_
                                refine St.guard_yes rfl rfl ?_
                                refine St.move rfl rfl ?_
                                refine St.guard_no rfl rfl rfl ?_
                                refine St.guard_no rfl rfl rfl ?_
                                refine St.guard_yes rfl rfl ?_
                                refine St.pick_false rfl rfl rfl ?_
                                refine St.guard_yes rfl rfl ?_
                                refine St.move rfl rfl ?_
                                refine St.guard_yes rfl rfl ?_
                                refine St.move rfl rfl ?_
                                refine St.guard_yes rfl rfl ?_
                                refine St.move rfl rfl ?_
                                refine St.guard_yes rfl rfl ?_
                                refine St.eql rfl rfl rfl ?_
                                refine St.guard_yes rfl rfl ?_
                                refine St.pick_false rfl rfl rfl ?_
                                refine St.pick_true rfl rfl rfl ?_
                                refine St.move rfl rfl ?_
                                refine St.split 163 rfl (fun g163 => ?_) (fun g163 => ?_)
                                · refine St.guard_yes rfl rfl ?_
                                  refine St.load rfl rfl (by kernel_rfl) (by first | exact Holds.row mem0 rfl | exact Holds.row mem1 rfl | exact Holds.row mem2 rfl | exact Holds.row mem3 rfl | exact Holds.row mem4 rfl | exact Holds.row mem5 rfl | exact Holds.row mem6 rfl | exact Holds.row mem7 rfl | exact Holds.row mem8 rfl) ?_
                                  refine St.guard_yes rfl rfl ?_
                                  refine St.perm (EnL p e5 ov8 iv8 at8 Eo8 Ei8 ([⟨b5, [.pointer (some ⟨p, 0, none⟩)], 80⟩] :: L)) (perm_block [_] [_, _, _] L) ?_
                                  refine St.call [_] rfl (by kernel_rfl) rfl (state18_spec w0 _ p _ _ _ _ _ _ hB8) (fun _ _ _ _ h => h.nil) ?_
                                  rintro r12 L1 ⟨rfl, rfl⟩
                                  rw [hst5]
                                  refine St.guard_yes rfl rfl ?_
                                  refine St.eql rfl rfl rfl ?_
                                  refine St.pick_true rfl rfl rfl ?_
                                  refine St.move rfl rfl ?_
                                  refine St.split 168 rfl (fun g168 => ?_) (fun g168 => ?_)
                                  · refine St.guard_yes rfl rfl ?_
                                    refine St.call [] rfl (by kernel_rfl) rfl (awake18_spec w0 _) (by first | exact fun _ _ _ _ h => h.nil | assumption) ?_
                                    rintro r13 L1 ⟨rfl, rfl⟩
                                    refine St.pick_true rfl rfl rfl ?_
                                    refine St.assign rfl rfl ?_
                                    refine St.done ?_
                                    refine SX.seq ?_
                                    refine SC.ret ?_
                                    first | exact SX.ret1 rfl rfl rfl | (exfalso; omega)
                                  · refine St.guard_no rfl rfl rfl ?_
                                    refine St.pick_false rfl rfl rfl ?_
                                    refine St.assign rfl rfl ?_
                                    refine St.done ?_
                                    refine SX.seq ?_
                                    refine SC.ret ?_
                                    first | exact SX.ret1 rfl rfl rfl | (exfalso; omega)
                                · refine St.guard_no rfl rfl rfl ?_
                                  refine St.guard_no rfl rfl rfl ?_
                                  refine St.guard_no rfl rfl rfl ?_
                                  refine St.pick_false rfl rfl rfl ?_
                                  refine St.move rfl rfl ?_
                                  refine St.guard_no rfl rfl rfl ?_
                                  refine St.pick_false rfl rfl rfl ?_
                                  refine St.assign rfl rfl ?_
                                  refine St.done ?_
                                  refine SX.seq ?_
                                  refine SC.ret ?_
                                  first | exact SX.ret1 rfl rfl rfl | (exfalso; omega)
                        · refine St.guard_no rfl rfl rfl ?_
                          refine St.guard_no rfl rfl rfl ?_
                          refine St.guard_no rfl rfl rfl ?_
                          refine St.guard_no rfl rfl rfl ?_
                          refine St.guard_yes rfl rfl ?_
                          refine St.pick_false rfl rfl rfl ?_
                          refine St.pick_false rfl rfl rfl ?_
                          refine St.done ?_
                          refine SX.seq ?_
                          refine SC.cond_false rfl ?_
                          refine SC.skip ?_
                          refine SX.seq ?_
                          refine SC.seq ?_
                          refine SC.seq ?_
                          refine SC.keep [(0, .int .i64 (m : Int)), (1, .int .i64 (k : Int)), (8, .int .i64 (f2 : Int)), (13, .int .i64 D), (14, .int .i64 F), (5, .pointer (some ⟨b5, 0, none⟩)), (6, .func (.func 69) #[] [.pointer (some ⟨b5, 0, none⟩)].toArray)] ⟨rfl, rfl, rfl, rfl, rfl, rfl, rfl, trivial⟩ ?_
                          refine SC.plain ?_
                          refine St.move rfl rfl ?_
                          refine St.geq rfl rfl rfl ?_
                          refine St.done ?_
                          refine SX.seq ?_
                          refine SC.condp rfl (fun c135 => ?_) (fun c135 => ?_)
                          · refine SC.plain ?_
                            refine St.move rfl rfl ?_
                            refine St.assign rfl rfl ?_
                            refine St.done ?_
                            refine SX.seq ?_
                            refine SC.seq ?_
                            have h8 : 1 = 1 := rfl
                            obtain ⟨e5, l5, G, F5, hout5, hst5, hsc5, hG⟩ := wS_last (n := m) (k := k) (f := f4) (at_ := t4) hm2 (by omega) hf4b (by omega) (by omega)
                            refine SC.plain ?_
                            refine St.move rfl rfl ?_
                            refine St.callv (cap := #[.pointer (some ⟨b5, 0, none⟩)]) [.int .i64 30] rfl (by kernel_rfl) rfl rfl (sent_spec w0 L b5 p (wS m k f4 t4) ov7 iv7 at7 Eo7 Ei7 hB7 30 clock30) (fun _ _ _ _ h => h.nil) ?_
                            rw [hout5]
                            dsimp only
                            rw [hsc5]
                            dsimp only
                            rintro r8 L1 ⟨rfl, ov8, iv8, at8, Eo8, Ei8, hB8, rfl⟩
                            refine St.move rfl rfl ?_
                            refine St.extract rfl rfl rfl ?_
                            refine St.extract rfl rfl rfl ?_
                            refine St.extract rfl rfl rfl ?_
                            refine St.assign rfl rfl ?_
                            refine St.assign rfl rfl ?_
                            refine St.assign rfl rfl ?_
                            refine St.done ?_
                            refine SX.seq ?_
                            refine SC.seq ?_
                            refine SC.plain ?_
                            refine St.move rfl rfl ?_
                            refine St.move rfl rfl ?_
                            refine St.guard_yes rfl rfl ?_
                            refine St.move rfl rfl ?_
                            refine St.guard_yes rfl rfl ?_
                            refine St.move rfl rfl ?_
                            refine St.guard_yes rfl rfl ?_
                            refine St.eql rfl rfl rfl ?_
                            refine St.guard_yes rfl rfl ?_
                            refine St.move rfl rfl ?_
                            refine St.split 148 rfl (fun g148 => ?_) (fun g148 => ?_)
                            · refine St.guard_yes rfl rfl ?_
                              refine St.move rfl rfl ?_
                              refine St.guard_yes rfl rfl ?_
                              refine St.move rfl rfl ?_
                              refine St.guard_yes rfl rfl ?_
                              refine St.eql rfl rfl rfl ?_
                              refine St.guard_yes rfl rfl ?_
                              refine St.pick_true rfl rfl rfl ?_
                              refine St.guard_yes rfl rfl ?_
                              refine St.move rfl rfl ?_
                              refine St.split 153 rfl (fun g153 => ?_) (fun g153 => ?_)
                              · refine St.guard_yes rfl rfl ?_
                                refine St.move rfl rfl ?_
                                refine St.guard_yes rfl rfl ?_
                                refine St.lss rfl rfl rfl ?_
                                refine St.guard_yes rfl rfl ?_
                                refine St.pick_true rfl rfl rfl ?_
                                refine St.guard_yes rfl rfl ?_
                                refine St.move rfl rfl ?_
                                refine St.split 157 rfl (fun g157 => ?_) (fun g157 => ?_)
                                · refine St.guard_no rfl rfl rfl ?_
                                  refine St.guard_no rfl rfl rfl ?_
                                  refine St.guard_no rfl rfl rfl ?_
                                  refine St.guard_yes rfl rfl ?_
                                  refine St.pick_true rfl rfl rfl ?_
                                  refine St.pick_true rfl rfl rfl ?_
                                  refine St.move rfl rfl ?_
                                  refine St.guard_yes rfl rfl ?_
                                  refine St.load rfl rfl (by kernel_rfl) (by first | exact Holds.row mem0 rfl | exact Holds.row mem1 rfl | exact Holds.row mem2 rfl | exact Holds.row mem3 rfl | exact Holds.row mem4 rfl | exact Holds.row mem5 rfl | exact Holds.row mem6 rfl | exact Holds.row mem7 rfl | exact Holds.row mem8 rfl) ?_
                                  refine St.guard_yes rfl rfl ?_
                                  refine St.perm (EnL p e5 ov8 iv8 at8 Eo8 Ei8 ([⟨b5, [.pointer (some ⟨p, 0, none⟩)], 80⟩] :: L)) (perm_block [_] [_, _, _] L) ?_
                                  refine St.call [_] rfl (by kernel_rfl) rfl (state18_spec w0 _ p _ _ _ _ _ _ hB8) (fun _ _ _ _ h => h.nil) ?_
                                  rintro r12 L1 ⟨rfl, rfl⟩
                                  rw [hst5]
                                  refine St.guard_yes rfl rfl ?_
                                  refine St.eql rfl rfl rfl ?_
                                  refine St.pick_true rfl rfl rfl ?_
                                  refine St.move rfl rfl ?_
                                  refine St.split 168 rfl (fun g168 => ?_) (fun g168 => ?_)
                                  · refine St.guard_yes rfl rfl ?_
                                    refine St.call [] rfl (by kernel_rfl) rfl (awake18_spec w0 _) (by first | exact fun _ _ _ _ h => h.nil | assumption) ?_
                                    rintro r13 L1 ⟨rfl, rfl⟩
                                    refine St.pick_true rfl rfl rfl ?_
                                    refine St.assign rfl rfl ?_
                                    refine St.done ?_
                                    refine SX.seq ?_
                                    refine SC.ret ?_
                                    first | exact SX.ret1 rfl rfl rfl | (exfalso; omega)
                                  · refine St.guard_no rfl rfl rfl ?_
                                    refine St.pick_false rfl rfl rfl ?_
                                    refine St.assign rfl rfl ?_
                                    refine St.done ?_
                                    refine SX.seq ?_
                                    refine SC.ret ?_
                                    first | exact SX.ret1 rfl rfl rfl | (exfalso; omega)
                                · refine St.guard_yes rfl rfl ?_
                                  refine St.move rfl rfl ?_
                                  refine St.guard_yes rfl rfl ?_
                                  refine St.move rfl rfl ?_
                                  refine St.guard_yes rfl rfl ?_
                                  refine St.eql rfl rfl rfl ?_
                                  refine St.guard_yes rfl rfl ?_
                                  refine St.pick_false rfl rfl rfl ?_
                                  refine St.pick_true rfl rfl rfl ?_
                                  refine St.move rfl rfl ?_
                                  refine St.split 163 rfl (fun g163 => ?_) (fun g163 => ?_)
                                  · refine St.guard_yes rfl rfl ?_
                                    refine St.load rfl rfl (by kernel_rfl) (by first | exact Holds.row mem0 rfl | exact Holds.row mem1 rfl | exact Holds.row mem2 rfl | exact Holds.row mem3 rfl | exact Holds.row mem4 rfl | exact Holds.row mem5 rfl | exact Holds.row mem6 rfl | exact Holds.row mem7 rfl | exact Holds.row mem8 rfl) ?_
                                    refine St.guard_yes rfl rfl ?_
                                    refine St.perm (EnL p e5 ov8 iv8 at8 Eo8 Ei8 ([⟨b5, [.pointer (some ⟨p, 0, none⟩)], 80⟩] :: L)) (perm_block [_] [_, _, _] L) ?_
                                    refine St.call [_] rfl (by kernel_rfl) rfl (state18_spec w0 _ p _ _ _ _ _ _ hB8) (fun _ _ _ _ h => h.nil) ?_
                                    rintro r12 L1 ⟨rfl, rfl⟩
                                    rw [hst5]
                                    refine St.guard_yes rfl rfl ?_
                                    refine St.eql rfl rfl rfl ?_
                                    refine St.pick_true rfl rfl rfl ?_
                                    refine St.move rfl rfl ?_
                                    refine St.split 168 rfl (fun g168 => ?_) (fun g168 => ?_)
                                    · refine St.guard_yes rfl rfl ?_
                                      refine St.call [] rfl (by kernel_rfl) rfl (awake18_spec w0 _) (by first | exact fun _ _ _ _ h => h.nil | assumption) ?_
                                      rintro r13 L1 ⟨rfl, rfl⟩
                                      refine St.pick_true rfl rfl rfl ?_
                                      refine St.assign rfl rfl ?_
                                      refine St.done ?_
                                      refine SX.seq ?_
                                      refine SC.ret ?_
                                      first | exact SX.ret1 rfl rfl rfl | (exfalso; omega)
                                    · refine St.guard_no rfl rfl rfl ?_
                                      refine St.pick_false rfl rfl rfl ?_
                                      refine St.assign rfl rfl ?_
                                      refine St.done ?_
                                      refine SX.seq ?_
                                      refine SC.ret ?_
                                      first | exact SX.ret1 rfl rfl rfl | (exfalso; omega)
                                  · refine St.guard_no rfl rfl rfl ?_
                                    refine St.guard_no rfl rfl rfl ?_
                                    refine St.guard_no rfl rfl rfl ?_
                                    refine St.pick_false rfl rfl rfl ?_
                                    refine St.move rfl rfl ?_
                                    refine St.guard_no rfl rfl rfl ?_
                                    refine St.pick_false rfl rfl rfl ?_
                                    refine St.assign rfl rfl ?_
                                    refine St.done ?_
                                    refine SX.seq ?_
                                    refine SC.ret ?_
                                    first | exact SX.ret1 rfl rfl rfl | (exfalso; omega)
                              · refine St.guard_no rfl rfl rfl ?_
                                refine St.guard_no rfl rfl rfl ?_
                                refine St.guard_yes rfl rfl ?_
                                refine St.pick_false rfl rfl rfl ?_
                                refine St.guard_yes rfl rfl ?_
                                refine St.move rfl rfl ?_
                                refine St.guard_yes rfl rfl ?_
                                refine St.move rfl rfl ?_
                                refine St.guard_yes rfl rfl ?_
                                refine St.move rfl rfl ?_
                                refine St.guard_yes rfl rfl ?_
                                refine St.eql rfl rfl rfl ?_
                                refine St.guard_yes rfl rfl ?_
                                refine St.pick_false rfl rfl rfl ?_
                                refine St.pick_true rfl rfl rfl ?_
                                refine St.move rfl rfl ?_
                                refine St.split 163 rfl (fun g163 => ?_) (fun g163 => ?_)
                                · refine St.guard_yes rfl rfl ?_
                                  refine St.load rfl rfl (by kernel_rfl) (by first | exact Holds.row mem0 rfl | exact Holds.row mem1 rfl | exact Holds.row mem2 rfl | exact Holds.row mem3 rfl | exact Holds.row mem4 rfl | exact Holds.row mem5 rfl | exact Holds.row mem6 rfl | exact Holds.row mem7 rfl | exact Holds.row mem8 rfl) ?_
                                  refine St.guard_yes rfl rfl ?_
                                  refine St.perm (EnL p e5 ov8 iv8 at8 Eo8 Ei8 ([⟨b5, [.pointer (some ⟨p, 0, none⟩)], 80⟩] :: L)) (perm_block [_] [_, _, _] L) ?_
                                  refine St.call [_] rfl (by kernel_rfl) rfl (state18_spec w0 _ p _ _ _ _ _ _ hB8) (fun _ _ _ _ h => h.nil) ?_
                                  rintro r12 L1 ⟨rfl, rfl⟩
                                  rw [hst5]
                                  refine St.guard_yes rfl rfl ?_
                                  refine St.eql rfl rfl rfl ?_
                                  refine St.pick_true rfl rfl rfl ?_
                                  refine St.move rfl rfl ?_
                                  refine St.split 168 rfl (fun g168 => ?_) (fun g168 => ?_)
                                  · refine St.guard_yes rfl rfl ?_
                                    refine St.call [] rfl (by kernel_rfl) rfl (awake18_spec w0 _) (by first | exact fun _ _ _ _ h => h.nil | assumption) ?_
                                    rintro r13 L1 ⟨rfl, rfl⟩
                                    refine St.pick_true rfl rfl rfl ?_
                                    refine St.assign rfl rfl ?_
                                    refine St.done ?_
                                    refine SX.seq ?_
                                    refine SC.ret ?_
                                    first | exact SX.ret1 rfl rfl rfl | (exfalso; omega)
                                  · refine St.guard_no rfl rfl rfl ?_
                                    refine St.pick_false rfl rfl rfl ?_
                                    refine St.assign rfl rfl ?_
                                    refine St.done ?_
                                    refine SX.seq ?_
                                    refine SC.ret ?_
                                    first | exact SX.ret1 rfl rfl rfl | (exfalso; omega)
                                · refine St.guard_no rfl rfl rfl ?_
                                  refine St.guard_no rfl rfl rfl ?_
                                  refine St.guard_no rfl rfl rfl ?_
                                  refine St.pick_false rfl rfl rfl ?_
                                  refine St.move rfl rfl ?_
                                  refine St.guard_no rfl rfl rfl ?_
                                  refine St.pick_false rfl rfl rfl ?_
                                  refine St.assign rfl rfl ?_
                                  refine St.done ?_
                                  refine SX.seq ?_
                                  refine SC.ret ?_
                                  first | exact SX.ret1 rfl rfl rfl | (exfalso; omega)
                            · refine St.guard_no rfl rfl rfl ?_
                              refine St.guard_no rfl rfl rfl ?_
                              refine St.guard_no rfl rfl rfl ?_
                              refine St.guard_yes rfl rfl ?_
                              refine St.pick_false rfl rfl rfl ?_
                              refine St.guard_yes rfl rfl ?_
                              refine St.move rfl rfl ?_
                              refine St.guard_no rfl rfl rfl ?_
                              refine St.guard_no rfl rfl rfl ?_
                              refine St.guard_yes rfl rfl ?_
                              refine St.pick_false rfl rfl rfl ?_
                              refine St.guard_yes rfl rfl ?_
                              refine St.move rfl rfl ?_
                              refine St.guard_yes rfl rfl ?_
                              refine St.move rfl rfl ?_
                              refine St.guard_yes rfl rfl ?_
                              refine St.move rfl rfl ?_
                              refine St.guard_yes rfl rfl ?_
                              refine St.eql rfl rfl rfl ?_
                              refine St.guard_yes rfl rfl ?_
                              refine St.pick_false rfl rfl rfl ?_
                              refine St.pick_true rfl rfl rfl ?_
                              refine St.move rfl rfl ?_
                              refine St.split 163 rfl (fun g163 => ?_) (fun g163 => ?_)
                              · refine St.guard_yes rfl rfl ?_
                                refine St.load rfl rfl (by kernel_rfl) (by first | exact Holds.row mem0 rfl | exact Holds.row mem1 rfl | exact Holds.row mem2 rfl | exact Holds.row mem3 rfl | exact Holds.row mem4 rfl | exact Holds.row mem5 rfl | exact Holds.row mem6 rfl | exact Holds.row mem7 rfl | exact Holds.row mem8 rfl) ?_
                                refine St.guard_yes rfl rfl ?_
                                refine St.perm (EnL p e5 ov8 iv8 at8 Eo8 Ei8 ([⟨b5, [.pointer (some ⟨p, 0, none⟩)], 80⟩] :: L)) (perm_block [_] [_, _, _] L) ?_
                                refine St.call [_] rfl (by kernel_rfl) rfl (state18_spec w0 _ p _ _ _ _ _ _ hB8) (fun _ _ _ _ h => h.nil) ?_
                                rintro r12 L1 ⟨rfl, rfl⟩
                                rw [hst5]
                                refine St.guard_yes rfl rfl ?_
                                refine St.eql rfl rfl rfl ?_
                                refine St.pick_true rfl rfl rfl ?_
                                refine St.move rfl rfl ?_
                                refine St.split 168 rfl (fun g168 => ?_) (fun g168 => ?_)
                                · refine St.guard_yes rfl rfl ?_
                                  refine St.call [] rfl (by kernel_rfl) rfl (awake18_spec w0 _) (by first | exact fun _ _ _ _ h => h.nil | assumption) ?_
                                  rintro r13 L1 ⟨rfl, rfl⟩
                                  refine St.pick_true rfl rfl rfl ?_
                                  refine St.assign rfl rfl ?_
                                  refine St.done ?_
                                  refine SX.seq ?_
                                  refine SC.ret ?_
                                  first | exact SX.ret1 rfl rfl rfl | (exfalso; omega)
                                · refine St.guard_no rfl rfl rfl ?_
                                  refine St.pick_false rfl rfl rfl ?_
                                  refine St.assign rfl rfl ?_
                                  refine St.done ?_
                                  refine SX.seq ?_
                                  refine SC.ret ?_
                                  first | exact SX.ret1 rfl rfl rfl | (exfalso; omega)
                              · refine St.guard_no rfl rfl rfl ?_
                                refine St.guard_no rfl rfl rfl ?_
                                refine St.guard_no rfl rfl rfl ?_
                                refine St.pick_false rfl rfl rfl ?_
                                refine St.move rfl rfl ?_
                                refine St.guard_no rfl rfl rfl ?_
                                refine St.pick_false rfl rfl rfl ?_
                                refine St.assign rfl rfl ?_
                                refine St.done ?_
                                refine SX.seq ?_
                                refine SC.ret ?_
                                first | exact SX.ret1 rfl rfl rfl | (exfalso; omega)
                          · refine SC.skip ?_
                            refine SX.seq ?_
                            refine SC.seq ?_
                            have h8 : 1 = 1 := rfl
                            obtain ⟨e5, l5, G, F5, hout5, hst5, hsc5, hG⟩ := wS_last (n := m) (k := k) (f := f4) (at_ := t4) hm2 (by omega) hf4b (by omega) (by omega)
                            refine SC.plain ?_
                            refine St.move rfl rfl ?_
                            refine St.callv (cap := #[.pointer (some ⟨b5, 0, none⟩)]) [.int .i64 30] rfl (by kernel_rfl) rfl rfl (sent_spec w0 L b5 p (wS m k f4 t4) ov7 iv7 at7 Eo7 Ei7 hB7 30 clock30) (fun _ _ _ _ h => h.nil) ?_
                            rw [hout5]
                            dsimp only
                            rw [hsc5]
                            dsimp only
                            rintro r8 L1 ⟨rfl, ov8, iv8, at8, Eo8, Ei8, hB8, rfl⟩
                            refine St.move rfl rfl ?_
                            refine St.extract rfl rfl rfl ?_
                            refine St.extract rfl rfl rfl ?_
                            refine St.extract rfl rfl rfl ?_
                            refine St.assign rfl rfl ?_
                            refine St.assign rfl rfl ?_
                            refine St.assign rfl rfl ?_
                            refine St.done ?_
                            refine SX.seq ?_
                            refine SC.seq ?_
                            refine SC.plain ?_
                            refine St.move rfl rfl ?_
                            refine St.move rfl rfl ?_
                            refine St.guard_yes rfl rfl ?_
                            refine St.move rfl rfl ?_
                            refine St.guard_yes rfl rfl ?_
                            refine St.move rfl rfl ?_
                            refine St.guard_yes rfl rfl ?_
                            refine St.eql rfl rfl rfl ?_
                            refine St.guard_yes rfl rfl ?_
                            refine St.move rfl rfl ?_
                            refine St.split 148 rfl (fun g148 => ?_) (fun g148 => ?_)
                            · refine St.guard_yes rfl rfl ?_
                              refine St.move rfl rfl ?_
                              refine St.guard_yes rfl rfl ?_
                              refine St.move rfl rfl ?_
                              refine St.guard_yes rfl rfl ?_
                              refine St.eql rfl rfl rfl ?_
                              refine St.guard_yes rfl rfl ?_
                              refine St.pick_true rfl rfl rfl ?_
                              refine St.guard_yes rfl rfl ?_
                              refine St.move rfl rfl ?_
                              refine St.split 153 rfl (fun g153 => ?_) (fun g153 => ?_)
                              · refine St.guard_yes rfl rfl ?_
                                refine St.move rfl rfl ?_
                                refine St.guard_yes rfl rfl ?_
                                refine St.lss rfl rfl rfl ?_
                                refine St.guard_yes rfl rfl ?_
                                refine St.pick_true rfl rfl rfl ?_
                                refine St.guard_yes rfl rfl ?_
                                refine St.move rfl rfl ?_
                                refine St.split 157 rfl (fun g157 => ?_) (fun g157 => ?_)
                                · refine St.guard_no rfl rfl rfl ?_
                                  refine St.guard_no rfl rfl rfl ?_
                                  refine St.guard_no rfl rfl rfl ?_
                                  refine St.guard_yes rfl rfl ?_
                                  refine St.pick_true rfl rfl rfl ?_
                                  refine St.pick_true rfl rfl rfl ?_
                                  refine St.move rfl rfl ?_
                                  refine St.guard_yes rfl rfl ?_
                                  refine St.load rfl rfl (by kernel_rfl) (by first | exact Holds.row mem0 rfl | exact Holds.row mem1 rfl | exact Holds.row mem2 rfl | exact Holds.row mem3 rfl | exact Holds.row mem4 rfl | exact Holds.row mem5 rfl | exact Holds.row mem6 rfl | exact Holds.row mem7 rfl | exact Holds.row mem8 rfl) ?_
                                  refine St.guard_yes rfl rfl ?_
                                  refine St.perm (EnL p e5 ov8 iv8 at8 Eo8 Ei8 ([⟨b5, [.pointer (some ⟨p, 0, none⟩)], 80⟩] :: L)) (perm_block [_] [_, _, _] L) ?_
                                  refine St.call [_] rfl (by kernel_rfl) rfl (state18_spec w0 _ p _ _ _ _ _ _ hB8) (fun _ _ _ _ h => h.nil) ?_
                                  rintro r12 L1 ⟨rfl, rfl⟩
                                  rw [hst5]
                                  refine St.guard_yes rfl rfl ?_
                                  refine St.eql rfl rfl rfl ?_
                                  refine St.pick_true rfl rfl rfl ?_
                                  refine St.move rfl rfl ?_
                                  refine St.split 168 rfl (fun g168 => ?_) (fun g168 => ?_)
                                  · refine St.guard_yes rfl rfl ?_
                                    refine St.call [] rfl (by kernel_rfl) rfl (awake18_spec w0 _) (by first | exact fun _ _ _ _ h => h.nil | assumption) ?_
                                    rintro r13 L1 ⟨rfl, rfl⟩
                                    refine St.pick_true rfl rfl rfl ?_
                                    refine St.assign rfl rfl ?_
                                    refine St.done ?_
                                    refine SX.seq ?_
                                    refine SC.ret ?_
                                    first | exact SX.ret1 rfl rfl rfl | (exfalso; omega)
                                  · refine St.guard_no rfl rfl rfl ?_
                                    refine St.pick_false rfl rfl rfl ?_
                                    refine St.assign rfl rfl ?_
                                    refine St.done ?_
                                    refine SX.seq ?_
                                    refine SC.ret ?_
                                    first | exact SX.ret1 rfl rfl rfl | (exfalso; omega)
                                · refine St.guard_yes rfl rfl ?_
                                  refine St.move rfl rfl ?_
                                  refine St.guard_yes rfl rfl ?_
                                  refine St.move rfl rfl ?_
                                  refine St.guard_yes rfl rfl ?_
                                  refine St.eql rfl rfl rfl ?_
                                  refine St.guard_yes rfl rfl ?_
                                  refine St.pick_false rfl rfl rfl ?_
                                  refine St.pick_true rfl rfl rfl ?_
                                  refine St.move rfl rfl ?_
                                  refine St.split 163 rfl (fun g163 => ?_) (fun g163 => ?_)
                                  · refine St.guard_yes rfl rfl ?_
                                    refine St.load rfl rfl (by kernel_rfl) (by first | exact Holds.row mem0 rfl | exact Holds.row mem1 rfl | exact Holds.row mem2 rfl | exact Holds.row mem3 rfl | exact Holds.row mem4 rfl | exact Holds.row mem5 rfl | exact Holds.row mem6 rfl | exact Holds.row mem7 rfl | exact Holds.row mem8 rfl) ?_
                                    refine St.guard_yes rfl rfl ?_
                                    refine St.perm (EnL p e5 ov8 iv8 at8 Eo8 Ei8 ([⟨b5, [.pointer (some ⟨p, 0, none⟩)], 80⟩] :: L)) (perm_block [_] [_, _, _] L) ?_
                                    refine St.call [_] rfl (by kernel_rfl) rfl (state18_spec w0 _ p _ _ _ _ _ _ hB8) (fun _ _ _ _ h => h.nil) ?_
                                    rintro r12 L1 ⟨rfl, rfl⟩
                                    rw [hst5]
                                    refine St.guard_yes rfl rfl ?_
                                    refine St.eql rfl rfl rfl ?_
                                    refine St.pick_true rfl rfl rfl ?_
                                    refine St.move rfl rfl ?_
                                    refine St.split 168 rfl (fun g168 => ?_) (fun g168 => ?_)
                                    · refine St.guard_yes rfl rfl ?_
                                      refine St.call [] rfl (by kernel_rfl) rfl (awake18_spec w0 _) (by first | exact fun _ _ _ _ h => h.nil | assumption) ?_
                                      rintro r13 L1 ⟨rfl, rfl⟩
                                      refine St.pick_true rfl rfl rfl ?_
                                      refine St.assign rfl rfl ?_
                                      refine St.done ?_
                                      refine SX.seq ?_
                                      refine SC.ret ?_
                                      first | exact SX.ret1 rfl rfl rfl | (exfalso; omega)
                                    · refine St.guard_no rfl rfl rfl ?_
                                      refine St.pick_false rfl rfl rfl ?_
                                      refine St.assign rfl rfl ?_
                                      refine St.done ?_
                                      refine SX.seq ?_
                                      refine SC.ret ?_
                                      first | exact SX.ret1 rfl rfl rfl | (exfalso; omega)
                                  · refine St.guard_no rfl rfl rfl ?_
                                    refine St.guard_no rfl rfl rfl ?_
                                    refine St.guard_no rfl rfl rfl ?_
                                    refine St.pick_false rfl rfl rfl ?_
                                    refine St.move rfl rfl ?_
                                    refine St.guard_no rfl rfl rfl ?_
                                    refine St.pick_false rfl rfl rfl ?_
                                    refine St.assign rfl rfl ?_
                                    refine St.done ?_
                                    refine SX.seq ?_
                                    refine SC.ret ?_
                                    first | exact SX.ret1 rfl rfl rfl | (exfalso; omega)
                              · refine St.guard_no rfl rfl rfl ?_
                                refine St.guard_no rfl rfl rfl ?_
                                refine St.guard_yes rfl rfl ?_
                                refine St.pick_false rfl rfl rfl ?_
                                refine St.guard_yes rfl rfl ?_
                                refine St.move rfl rfl ?_
                                refine St.guard_yes rfl rfl ?_
                                refine St.move rfl rfl ?_
                                refine St.guard_yes rfl rfl ?_
                                refine St.move rfl rfl ?_
                                refine St.guard_yes rfl rfl ?_
                                refine St.eql rfl rfl rfl ?_
                                refine St.guard_yes rfl rfl ?_
                                refine St.pick_false rfl rfl rfl ?_
                                refine St.pick_true rfl rfl rfl ?_
                                refine St.move rfl rfl ?_
                                refine St.split 163 rfl (fun g163 => ?_) (fun g163 => ?_)
                                · refine St.guard_yes rfl rfl ?_
                                  refine St.load rfl rfl (by kernel_rfl) (by first | exact Holds.row mem0 rfl | exact Holds.row mem1 rfl | exact Holds.row mem2 rfl | exact Holds.row mem3 rfl | exact Holds.row mem4 rfl | exact Holds.row mem5 rfl | exact Holds.row mem6 rfl | exact Holds.row mem7 rfl | exact Holds.row mem8 rfl) ?_
                                  refine St.guard_yes rfl rfl ?_
                                  refine St.perm (EnL p e5 ov8 iv8 at8 Eo8 Ei8 ([⟨b5, [.pointer (some ⟨p, 0, none⟩)], 80⟩] :: L)) (perm_block [_] [_, _, _] L) ?_
                                  refine St.call [_] rfl (by kernel_rfl) rfl (state18_spec w0 _ p _ _ _ _ _ _ hB8) (fun _ _ _ _ h => h.nil) ?_
                                  rintro r12 L1 ⟨rfl, rfl⟩
                                  rw [hst5]
                                  refine St.guard_yes rfl rfl ?_
                                  refine St.eql rfl rfl rfl ?_
                                  refine St.pick_true rfl rfl rfl ?_
                                  refine St.move rfl rfl ?_
                                  refine St.split 168 rfl (fun g168 => ?_) (fun g168 => ?_)
                                  · refine St.guard_yes rfl rfl ?_
                                    refine St.call [] rfl (by kernel_rfl) rfl (awake18_spec w0 _) (by first | exact fun _ _ _ _ h => h.nil | assumption) ?_
                                    rintro r13 L1 ⟨rfl, rfl⟩
                                    refine St.pick_true rfl rfl rfl ?_
                                    refine St.assign rfl rfl ?_
                                    refine St.done ?_
                                    refine SX.seq ?_
                                    refine SC.ret ?_
                                    first | exact SX.ret1 rfl rfl rfl | (exfalso; omega)
                                  · refine St.guard_no rfl rfl rfl ?_
                                    refine St.pick_false rfl rfl rfl ?_
                                    refine St.assign rfl rfl ?_
                                    refine St.done ?_
                                    refine SX.seq ?_
                                    refine SC.ret ?_
                                    first | exact SX.ret1 rfl rfl rfl | (exfalso; omega)
                                · refine St.guard_no rfl rfl rfl ?_
                                  refine St.guard_no rfl rfl rfl ?_
                                  refine St.guard_no rfl rfl rfl ?_
                                  refine St.pick_false rfl rfl rfl ?_
                                  refine St.move rfl rfl ?_
                                  refine St.guard_no rfl rfl rfl ?_
                                  refine St.pick_false rfl rfl rfl ?_
                                  refine St.assign rfl rfl ?_
                                  refine St.done ?_
                                  refine SX.seq ?_
                                  refine SC.ret ?_
                                  first | exact SX.ret1 rfl rfl rfl | (exfalso; omega)
                            · refine St.guard_no rfl rfl rfl ?_
                              refine St.guard_no rfl rfl rfl ?_
                              refine St.guard_no rfl rfl rfl ?_
                              refine St.guard_yes rfl rfl ?_
                              refine St.pick_false rfl rfl rfl ?_
                              refine St.guard_yes rfl rfl ?_
                              refine St.move rfl rfl ?_
                              refine St.guard_no rfl rfl rfl ?_
                              refine St.guard_no rfl rfl rfl ?_
                              refine St.guard_yes rfl rfl ?_
                              refine St.pick_false rfl rfl rfl ?_
                              refine St.guard_yes rfl rfl ?_
                              refine St.move rfl rfl ?_
                              refine St.guard_yes rfl rfl ?_
                              refine St.move rfl rfl ?_
                              refine St.guard_yes rfl rfl ?_
                              refine St.move rfl rfl ?_
                              refine St.guard_yes rfl rfl ?_
                              refine St.eql rfl rfl rfl ?_
                              refine St.guard_yes rfl rfl ?_
                              refine St.pick_false rfl rfl rfl ?_
                              refine St.pick_true rfl rfl rfl ?_
                              refine St.move rfl rfl ?_
                              refine St.split 163 rfl (fun g163 => ?_) (fun g163 => ?_)
                              · refine St.guard_yes rfl rfl ?_
                                refine St.load rfl rfl (by kernel_rfl) (by first | exact Holds.row mem0 rfl | exact Holds.row mem1 rfl | exact Holds.row mem2 rfl | exact Holds.row mem3 rfl | exact Holds.row mem4 rfl | exact Holds.row mem5 rfl | exact Holds.row mem6 rfl | exact Holds.row mem7 rfl | exact Holds.row mem8 rfl) ?_
                                refine St.guard_yes rfl rfl ?_
                                refine St.perm (EnL p e5 ov8 iv8 at8 Eo8 Ei8 ([⟨b5, [.pointer (some ⟨p, 0, none⟩)], 80⟩] :: L)) (perm_block [_] [_, _, _] L) ?_
                                refine St.call [_] rfl (by kernel_rfl) rfl (state18_spec w0 _ p _ _ _ _ _ _ hB8) (fun _ _ _ _ h => h.nil) ?_
                                rintro r12 L1 ⟨rfl, rfl⟩
                                rw [hst5]
                                refine St.guard_yes rfl rfl ?_
                                refine St.eql rfl rfl rfl ?_
                                refine St.pick_true rfl rfl rfl ?_
                                refine St.move rfl rfl ?_
                                refine St.split 168 rfl (fun g168 => ?_) (fun g168 => ?_)
                                · refine St.guard_yes rfl rfl ?_
                                  refine St.call [] rfl (by kernel_rfl) rfl (awake18_spec w0 _) (by first | exact fun _ _ _ _ h => h.nil | assumption) ?_
                                  rintro r13 L1 ⟨rfl, rfl⟩
                                  refine St.pick_true rfl rfl rfl ?_
                                  refine St.assign rfl rfl ?_
                                  refine St.done ?_
                                  refine SX.seq ?_
                                  refine SC.ret ?_
                                  first | exact SX.ret1 rfl rfl rfl | (exfalso; omega)
                                · refine St.guard_no rfl rfl rfl ?_
                                  refine St.pick_false rfl rfl rfl ?_
                                  refine St.assign rfl rfl ?_
                                  refine St.done ?_
                                  refine SX.seq ?_
                                  refine SC.ret ?_
                                  first | exact SX.ret1 rfl rfl rfl | (exfalso; omega)
                              · refine St.guard_no rfl rfl rfl ?_
                                refine St.guard_no rfl rfl rfl ?_
                                refine St.guard_no rfl rfl rfl ?_
                                refine St.pick_false rfl rfl rfl ?_
                                refine St.move rfl rfl ?_
                                refine St.guard_no rfl rfl rfl ?_
                                refine St.pick_false rfl rfl rfl ?_
                                refine St.assign rfl rfl ?_
                                refine St.done ?_
                                refine SX.seq ?_
                                refine SC.ret ?_
                                first | exact SX.ret1 rfl rfl rfl | (exfalso; omega)
                      · refine St.guard_no rfl rfl rfl ?_
                        refine St.guard_no rfl rfl rfl ?_
                        refine St.guard_no rfl rfl rfl ?_
                        refine St.guard_yes rfl rfl ?_
                        refine St.pick_false rfl rfl rfl ?_
                        refine St.guard_yes rfl rfl ?_
                        refine St.move rfl rfl ?_
                        refine St.guard_no rfl rfl rfl ?_
                        refine St.guard_no rfl rfl rfl ?_
                        refine St.guard_no rfl rfl rfl ?_
                        refine St.guard_no rfl rfl rfl ?_
                        refine St.guard_yes rfl rfl ?_
                        refine St.pick_false rfl rfl rfl ?_
                        refine St.pick_false rfl rfl rfl ?_
                        refine St.done ?_
                        refine SX.seq ?_
                        refine SC.cond_false rfl ?_
                        refine SC.skip ?_
                        refine SX.seq ?_
                        refine SC.seq ?_
                        refine SC.seq ?_
                        refine SC.keep [(0, .int .i64 (m : Int)), (1, .int .i64 (k : Int)), (8, .int .i64 (f2 : Int)), (13, .int .i64 D), (14, .int .i64 F), (5, .pointer (some ⟨b5, 0, none⟩)), (6, .func (.func 69) #[] [.pointer (some ⟨b5, 0, none⟩)].toArray)] ⟨rfl, rfl, rfl, rfl, rfl, rfl, rfl, trivial⟩ ?_
                        refine SC.plain ?_
                        refine St.move rfl rfl ?_
                        refine St.geq rfl rfl rfl ?_
                        refine St.done ?_
                        refine SX.seq ?_
                        refine SC.condp rfl (fun c135 => ?_) (fun c135 => ?_)
                        · refine SC.plain ?_
                          refine St.move rfl rfl ?_
                          refine St.assign rfl rfl ?_
                          refine St.done ?_
                          refine SX.seq ?_
                          refine SC.seq ?_
                          have h8 : 1 = 1 := rfl
                          obtain ⟨e5, l5, G, F5, hout5, hst5, hsc5, hG⟩ := wS_last (n := m) (k := k) (f := f4) (at_ := t4) hm2 (by omega) hf4b (by omega) (by omega)
                          refine SC.plain ?_
                          refine St.move rfl rfl ?_
                          refine St.callv (cap := #[.pointer (some ⟨b5, 0, none⟩)]) [.int .i64 30] rfl (by kernel_rfl) rfl rfl (sent_spec w0 L b5 p (wS m k f4 t4) ov7 iv7 at7 Eo7 Ei7 hB7 30 clock30) (fun _ _ _ _ h => h.nil) ?_
                          rw [hout5]
                          dsimp only
                          rw [hsc5]
                          dsimp only
                          rintro r8 L1 ⟨rfl, ov8, iv8, at8, Eo8, Ei8, hB8, rfl⟩
                          refine St.move rfl rfl ?_
                          refine St.extract rfl rfl rfl ?_
                          refine St.extract rfl rfl rfl ?_
                          refine St.extract rfl rfl rfl ?_
                          refine St.assign rfl rfl ?_
                          refine St.assign rfl rfl ?_
                          refine St.assign rfl rfl ?_
                          refine St.done ?_
                          refine SX.seq ?_
                          refine SC.seq ?_
                          refine SC.plain ?_
                          refine St.move rfl rfl ?_
                          refine St.move rfl rfl ?_
                          refine St.guard_yes rfl rfl ?_
                          refine St.move rfl rfl ?_
                          refine St.guard_yes rfl rfl ?_
                          refine St.move rfl rfl ?_
                          refine St.guard_yes rfl rfl ?_
                          refine St.eql rfl rfl rfl ?_
                          refine St.guard_yes rfl rfl ?_
                          refine St.move rfl rfl ?_
                          refine St.split 148 rfl (fun g148 => ?_) (fun g148 => ?_)
                          · refine St.guard_yes rfl rfl ?_
                            refine St.move rfl rfl ?_
                            refine St.guard_yes rfl rfl ?_
                            refine St.move rfl rfl ?_
                            refine St.guard_yes rfl rfl ?_
                            refine St.eql rfl rfl rfl ?_
                            refine St.guard_yes rfl rfl ?_
                            refine St.pick_true rfl rfl rfl ?_
                            refine St.guard_yes rfl rfl ?_
                            refine St.move rfl rfl ?_
                            refine St.split 153 rfl (fun g153 => ?_) (fun g153 => ?_)
                            · refine St.guard_yes rfl rfl ?_
                              refine St.move rfl rfl ?_
                              refine St.guard_yes rfl rfl ?_
                              refine St.lss rfl rfl rfl ?_
                              refine St.guard_yes rfl rfl ?_
                              refine St.pick_true rfl rfl rfl ?_
                              refine St.guard_yes rfl rfl ?_
                              refine St.move rfl rfl ?_
                              refine St.split 157 rfl (fun g157 => ?_) (fun g157 => ?_)
                              · refine St.guard_no rfl rfl rfl ?_
                                refine St.guard_no rfl rfl rfl ?_
                                refine St.guard_no rfl rfl rfl ?_
                                refine St.guard_yes rfl rfl ?_
                                refine St.pick_true rfl rfl rfl ?_
                                refine St.pick_true rfl rfl rfl ?_
                                refine St.move rfl rfl ?_
                                refine St.guard_yes rfl rfl ?_
                                refine St.load rfl rfl (by kernel_rfl) (by first | exact Holds.row mem0 rfl | exact Holds.row mem1 rfl | exact Holds.row mem2 rfl | exact Holds.row mem3 rfl | exact Holds.row mem4 rfl | exact Holds.row mem5 rfl | exact Holds.row mem6 rfl | exact Holds.row mem7 rfl | exact Holds.row mem8 rfl) ?_
                                refine St.guard_yes rfl rfl ?_
                                refine St.perm (EnL p e5 ov8 iv8 at8 Eo8 Ei8 ([⟨b5, [.pointer (some ⟨p, 0, none⟩)], 80⟩] :: L)) (perm_block [_] [_, _, _] L) ?_
                                refine St.call [_] rfl (by kernel_rfl) rfl (state18_spec w0 _ p _ _ _ _ _ _ hB8) (fun _ _ _ _ h => h.nil) ?_
                                rintro r12 L1 ⟨rfl, rfl⟩
                                rw [hst5]
                                refine St.guard_yes rfl rfl ?_
                                refine St.eql rfl rfl rfl ?_
                                refine St.pick_true rfl rfl rfl ?_
                                refine St.move rfl rfl ?_
                                refine St.split 168 rfl (fun g168 => ?_) (fun g168 => ?_)
                                · refine St.guard_yes rfl rfl ?_
                                  refine St.call [] rfl (by kernel_rfl) rfl (awake18_spec w0 _) (by first | exact fun _ _ _ _ h => h.nil | assumption) ?_
                                  rintro r13 L1 ⟨rfl, rfl⟩
                                  refine St.pick_true rfl rfl rfl ?_
                                  refine St.assign rfl rfl ?_
                                  refine St.done ?_
                                  refine SX.seq ?_
                                  refine SC.ret ?_
                                  first | exact SX.ret1 rfl rfl rfl | (exfalso; omega)
                                · refine St.guard_no rfl rfl rfl ?_
                                  refine St.pick_false rfl rfl rfl ?_
                                  refine St.assign rfl rfl ?_
                                  refine St.done ?_
                                  refine SX.seq ?_
                                  refine SC.ret ?_
                                  first | exact SX.ret1 rfl rfl rfl | (exfalso; omega)
                              · refine St.guard_yes rfl rfl ?_
                                refine St.move rfl rfl ?_
                                refine St.guard_yes rfl rfl ?_
                                refine St.move rfl rfl ?_
                                refine St.guard_yes rfl rfl ?_
                                refine St.eql rfl rfl rfl ?_
                                refine St.guard_yes rfl rfl ?_
                                refine St.pick_false rfl rfl rfl ?_
                                refine St.pick_true rfl rfl rfl ?_
                                refine St.move rfl rfl ?_
                                refine St.split 163 rfl (fun g163 => ?_) (fun g163 => ?_)
                                · refine St.guard_yes rfl rfl ?_
                                  refine St.load rfl rfl (by kernel_rfl) (by first | exact Holds.row mem0 rfl | exact Holds.row mem1 rfl | exact Holds.row mem2 rfl | exact Holds.row mem3 rfl | exact Holds.row mem4 rfl | exact Holds.row mem5 rfl | exact Holds.row mem6 rfl | exact Holds.row mem7 rfl | exact Holds.row mem8 rfl) ?_
                                  refine St.guard_yes rfl rfl ?_
                                  refine St.perm (EnL p e5 ov8 iv8 at8 Eo8 Ei8 ([⟨b5, [.pointer (some ⟨p, 0, none⟩)], 80⟩] :: L)) (perm_block [_] [_, _, _] L) ?_
                                  refine St.call [_] rfl (by kernel_rfl) rfl (state18_spec w0 _ p _ _ _ _ _ _ hB8) (fun _ _ _ _ h => h.nil) ?_
                                  rintro r12 L1 ⟨rfl, rfl⟩
                                  rw [hst5]
                                  refine St.guard_yes rfl rfl ?_
                                  refine St.eql rfl rfl rfl ?_
                                  refine St.pick_true rfl rfl rfl ?_
                                  refine St.move rfl rfl ?_
                                  refine St.split 168 rfl (fun g168 => ?_) (fun g168 => ?_)
                                  · refine St.guard_yes rfl rfl ?_
                                    refine St.call [] rfl (by kernel_rfl) rfl (awake18_spec w0 _) (by first | exact fun _ _ _ _ h => h.nil | assumption) ?_
                                    rintro r13 L1 ⟨rfl, rfl⟩
                                    refine St.pick_true rfl rfl rfl ?_
                                    refine St.assign rfl rfl ?_
                                    refine St.done ?_
                                    refine SX.seq ?_
                                    refine SC.ret ?_
                                    first | exact SX.ret1 rfl rfl rfl | (exfalso; omega)
                                  · refine St.guard_no rfl rfl rfl ?_
                                    refine St.pick_false rfl rfl rfl ?_
                                    refine St.assign rfl rfl ?_
                                    refine St.done ?_
                                    refine SX.seq ?_
                                    refine SC.ret ?_
                                    first | exact SX.ret1 rfl rfl rfl | (exfalso; omega)
                                · refine St.guard_no rfl rfl rfl ?_
                                  refine St.guard_no rfl rfl rfl ?_
                                  refine St.guard_no rfl rfl rfl ?_
                                  refine St.pick_false rfl rfl rfl ?_
                                  refine St.move rfl rfl ?_
                                  refine St.guard_no rfl rfl rfl ?_
                                  refine St.pick_false rfl rfl rfl ?_
                                  refine St.assign rfl rfl ?_
                                  refine St.done ?_
                                  refine SX.seq ?_
                                  refine SC.ret ?_
                                  first | exact SX.ret1 rfl rfl rfl | (exfalso; omega)
                            · refine St.guard_no rfl rfl rfl ?_
                              refine St.guard_no rfl rfl rfl ?_
                              refine St.guard_yes rfl rfl ?_
                              refine St.pick_false rfl rfl rfl ?_
                              refine St.guard_yes rfl rfl ?_
                              refine St.move rfl rfl ?_
                              refine St.guard_yes rfl rfl ?_
                              refine St.move rfl rfl ?_
                              refine St.guard_yes rfl rfl ?_
                              refine St.move rfl rfl ?_
                              refine St.guard_yes rfl rfl ?_
                              refine St.eql rfl rfl rfl ?_
                              refine St.guard_yes rfl rfl ?_
                              refine St.pick_false rfl rfl rfl ?_
                              refine St.pick_true rfl rfl rfl ?_
                              refine St.move rfl rfl ?_
                              refine St.split 163 rfl (fun g163 => ?_) (fun g163 => ?_)
                              · refine St.guard_yes rfl rfl ?_
                                refine St.load rfl rfl (by kernel_rfl) (by first | exact Holds.row mem0 rfl | exact Holds.row mem1 rfl | exact Holds.row mem2 rfl | exact Holds.row mem3 rfl | exact Holds.row mem4 rfl | exact Holds.row mem5 rfl | exact Holds.row mem6 rfl | exact Holds.row mem7 rfl | exact Holds.row mem8 rfl) ?_
                                refine St.guard_yes rfl rfl ?_
                                refine St.perm (EnL p e5 ov8 iv8 at8 Eo8 Ei8 ([⟨b5, [.pointer (some ⟨p, 0, none⟩)], 80⟩] :: L)) (perm_block [_] [_, _, _] L) ?_
                                refine St.call [_] rfl (by kernel_rfl) rfl (state18_spec w0 _ p _ _ _ _ _ _ hB8) (fun _ _ _ _ h => h.nil) ?_
                                rintro r12 L1 ⟨rfl, rfl⟩
                                rw [hst5]
                                refine St.guard_yes rfl rfl ?_
                                refine St.eql rfl rfl rfl ?_
                                refine St.pick_true rfl rfl rfl ?_
                                refine St.move rfl rfl ?_
                                refine St.split 168 rfl (fun g168 => ?_) (fun g168 => ?_)
                                · refine St.guard_yes rfl rfl ?_
                                  refine St.call [] rfl (by kernel_rfl) rfl (awake18_spec w0 _) (by first | exact fun _ _ _ _ h => h.nil | assumption) ?_
                                  rintro r13 L1 ⟨rfl, rfl⟩
                                  refine St.pick_true rfl rfl rfl ?_
                                  refine St.assign rfl rfl ?_
                                  refine St.done ?_
                                  refine SX.seq ?_
                                  refine SC.ret ?_
                                  first | exact SX.ret1 rfl rfl rfl | (exfalso; omega)
                                · refine St.guard_no rfl rfl rfl ?_
                                  refine St.pick_false rfl rfl rfl ?_
                                  refine St.assign rfl rfl ?_
                                  refine St.done ?_
                                  refine SX.seq ?_
                                  refine SC.ret ?_
                                  first | exact SX.ret1 rfl rfl rfl | (exfalso; omega)
                              · refine St.guard_no rfl rfl rfl ?_
                                refine St.guard_no rfl rfl rfl ?_
                                refine St.guard_no rfl rfl rfl ?_
                                refine St.pick_false rfl rfl rfl ?_
                                refine St.move rfl rfl ?_
                                refine St.guard_no rfl rfl rfl ?_
                                refine St.pick_false rfl rfl rfl ?_
                                refine St.assign rfl rfl ?_
                                refine St.done ?_
                                refine SX.seq ?_
                                refine SC.ret ?_
                                first | exact SX.ret1 rfl rfl rfl | (exfalso; omega)
                          · refine St.guard_no rfl rfl rfl ?_
                            refine St.guard_no rfl rfl rfl ?_
                            refine St.guard_no rfl rfl rfl ?_
                            refine St.guard_yes rfl rfl ?_
                            refine St.pick_false rfl rfl rfl ?_
                            refine St.guard_yes rfl rfl ?_
                            refine St.move rfl rfl ?_
                            refine St.guard_no rfl rfl rfl ?_
                            refine St.guard_no rfl rfl rfl ?_
                            refine St.guard_yes rfl rfl ?_
                            refine St.pick_false rfl rfl rfl ?_
                            refine St.guard_yes rfl rfl ?_
                            refine St.move rfl rfl ?_
                            refine St.guard_yes rfl rfl ?_
                            refine St.move rfl rfl ?_
                            refine St.guard_yes rfl rfl ?_
                            refine St.move rfl rfl ?_
                            refine St.guard_yes rfl rfl ?_
                            refine St.eql rfl rfl rfl ?_
                            refine St.guard_yes rfl rfl ?_
                            refine St.pick_false rfl rfl rfl ?_
                            refine St.pick_true rfl rfl rfl ?_
                            refine St.move rfl rfl ?_
                            refine St.split 163 rfl (fun g163 => ?_) (fun g163 => ?_)
                            · refine St.guard_yes rfl rfl ?_
                              refine St.load rfl rfl (by kernel_rfl) (by first | exact Holds.row mem0 rfl | exact Holds.row mem1 rfl | exact Holds.row mem2 rfl | exact Holds.row mem3 rfl | exact Holds.row mem4 rfl | exact Holds.row mem5 rfl | exact Holds.row mem6 rfl | exact Holds.row mem7 rfl | exact Holds.row mem8 rfl) ?_
                              refine St.guard_yes rfl rfl ?_
                              refine St.perm (EnL p e5 ov8 iv8 at8 Eo8 Ei8 ([⟨b5, [.pointer (some ⟨p, 0, none⟩)], 80⟩] :: L)) (perm_block [_] [_, _, _] L) ?_
                              refine St.call [_] rfl (by kernel_rfl) rfl (state18_spec w0 _ p _ _ _ _ _ _ hB8) (fun _ _ _ _ h => h.nil) ?_
                              rintro r12 L1 ⟨rfl, rfl⟩
                              rw [hst5]
                              refine St.guard_yes rfl rfl ?_
                              refine St.eql rfl rfl rfl ?_
                              refine St.pick_true rfl rfl rfl ?_
                              refine St.move rfl rfl ?_
                              refine St.split 168 rfl (fun g168 => ?_) (fun g168 => ?_)
                              · refine St.guard_yes rfl rfl ?_
                                refine St.call [] rfl (by kernel_rfl) rfl (awake18_spec w0 _) (by first | exact fun _ _ _ _ h => h.nil | assumption) ?_
                                rintro r13 L1 ⟨rfl, rfl⟩
                                refine St.pick_true rfl rfl rfl ?_
                                refine St.assign rfl rfl ?_
                                refine St.done ?_
                                refine SX.seq ?_
                                refine SC.ret ?_
                                first | exact SX.ret1 rfl rfl rfl | (exfalso; omega)
                              · refine St.guard_no rfl rfl rfl ?_
                                refine St.pick_false rfl rfl rfl ?_
                                refine St.assign rfl rfl ?_
                                refine St.done ?_
                                refine SX.seq ?_
                                refine SC.ret ?_
                                first | exact SX.ret1 rfl rfl rfl | (exfalso; omega)
                            · refine St.guard_no rfl rfl rfl ?_
                              refine St.guard_no rfl rfl rfl ?_
                              refine St.guard_no rfl rfl rfl ?_
                              refine St.pick_false rfl rfl rfl ?_
                              refine St.move rfl rfl ?_
                              refine St.guard_no rfl rfl rfl ?_
                              refine St.pick_false rfl rfl rfl ?_
                              refine St.assign rfl rfl ?_
                              refine St.done ?_
                              refine SX.seq ?_
                              refine SC.ret ?_
                              first | exact SX.ret1 rfl rfl rfl | (exfalso; omega)
                        · refine SC.skip ?_
                          refine SX.seq ?_
                          refine SC.seq ?_
                          have h8 : 1 = 1 := rfl
                          obtain ⟨e5, l5, G, F5, hout5, hst5, hsc5, hG⟩ := wS_last (n := m) (k := k) (f := f4) (at_ := t4) hm2 (by omega) hf4b (by omega) (by omega)
                          refine SC.plain ?_
                          refine St.move rfl rfl ?_
                          refine St.callv (cap := #[.pointer (some ⟨b5, 0, none⟩)]) [.int .i64 30] rfl (by kernel_rfl) rfl rfl (sent_spec w0 L b5 p (wS m k f4 t4) ov7 iv7 at7 Eo7 Ei7 hB7 30 clock30) (fun _ _ _ _ h => h.nil) ?_
                          rw [hout5]
                          dsimp only
                          rw [hsc5]
                          dsimp only
                          rintro r8 L1 ⟨rfl, ov8, iv8, at8, Eo8, Ei8, hB8, rfl⟩
                          refine St.move rfl rfl ?_
                          refine St.extract rfl rfl rfl ?_
                          refine St.extract rfl rfl rfl ?_
                          refine St.extract rfl rfl rfl ?_
                          refine St.assign rfl rfl ?_
                          refine St.assign rfl rfl ?_
                          refine St.assign rfl rfl ?_
                          refine St.done ?_
                          refine SX.seq ?_
                          refine SC.seq ?_
                          refine SC.plain ?_
                          refine St.move rfl rfl ?_
                          refine St.move rfl rfl ?_
                          refine St.guard_yes rfl rfl ?_
                          refine St.move rfl rfl ?_
                          refine St.guard_yes rfl rfl ?_
                          refine St.move rfl rfl ?_
                          refine St.guard_yes rfl rfl ?_
                          refine St.eql rfl rfl rfl ?_
                          refine St.guard_yes rfl rfl ?_
                          refine St.move rfl rfl ?_
                          refine St.split 148 rfl (fun g148 => ?_) (fun g148 => ?_)
                          · refine St.guard_yes rfl rfl ?_
                            refine St.move rfl rfl ?_
                            refine St.guard_yes rfl rfl ?_
                            refine St.move rfl rfl ?_
                            refine St.guard_yes rfl rfl ?_
                            refine St.eql rfl rfl rfl ?_
                            refine St.guard_yes rfl rfl ?_
                            refine St.pick_true rfl rfl rfl ?_
                            refine St.guard_yes rfl rfl ?_
                            refine St.move rfl rfl ?_
                            refine St.split 153 rfl (fun g153 => ?_) (fun g153 => ?_)
                            · refine St.guard_yes rfl rfl ?_
                              refine St.move rfl rfl ?_
                              refine St.guard_yes rfl rfl ?_
                              refine St.lss rfl rfl rfl ?_
                              refine St.guard_yes rfl rfl ?_
                              refine St.pick_true rfl rfl rfl ?_
                              refine St.guard_yes rfl rfl ?_
                              refine St.move rfl rfl ?_
                              refine St.split 157 rfl (fun g157 => ?_) (fun g157 => ?_)
                              · refine St.guard_no rfl rfl rfl ?_
                                refine St.guard_no rfl rfl rfl ?_
                                refine St.guard_no rfl rfl rfl ?_
                                refine St.guard_yes rfl rfl ?_
                                refine St.pick_true rfl rfl rfl ?_
                                refine St.pick_true rfl rfl rfl ?_
                                refine St.move rfl rfl ?_
                                refine St.guard_yes rfl rfl ?_
                                refine St.load rfl rfl (by kernel_rfl) (by first | exact Holds.row mem0 rfl | exact Holds.row mem1 rfl | exact Holds.row mem2 rfl | exact Holds.row mem3 rfl | exact Holds.row mem4 rfl | exact Holds.row mem5 rfl | exact Holds.row mem6 rfl | exact Holds.row mem7 rfl | exact Holds.row mem8 rfl) ?_
                                refine St.guard_yes rfl rfl ?_
                                refine St.perm (EnL p e5 ov8 iv8 at8 Eo8 Ei8 ([⟨b5, [.pointer (some ⟨p, 0, none⟩)], 80⟩] :: L)) (perm_block [_] [_, _, _] L) ?_
                                refine St.call [_] rfl (by kernel_rfl) rfl (state18_spec w0 _ p _ _ _ _ _ _ hB8) (fun _ _ _ _ h => h.nil) ?_
                                rintro r12 L1 ⟨rfl, rfl⟩
                                rw [hst5]
                                refine St.guard_yes rfl rfl ?_
                                refine St.eql rfl rfl rfl ?_
                                refine St.pick_true rfl rfl rfl ?_
                                refine St.move rfl rfl ?_
                                refine St.split 168 rfl (fun g168 => ?_) (fun g168 => ?_)
                                · refine St.guard_yes rfl rfl ?_
                                  refine St.call [] rfl (by kernel_rfl) rfl (awake18_spec w0 _) (by first | exact fun _ _ _ _ h => h.nil | assumption) ?_
                                  rintro r13 L1 ⟨rfl, rfl⟩
                                  refine St.pick_true rfl rfl rfl ?_
                                  refine St.assign rfl rfl ?_
                                  refine St.done ?_
                                  refine SX.seq ?_
                                  refine SC.ret ?_
                                  first | exact SX.ret1 rfl rfl rfl | (exfalso; omega)
                                · refine St.guard_no rfl rfl rfl ?_
                                  refine St.pick_false rfl rfl rfl ?_
                                  refine St.assign rfl rfl ?_
                                  refine St.done ?_
                                  refine SX.seq ?_
                                  refine SC.ret ?_
                                  first | exact SX.ret1 rfl rfl rfl | (exfalso; omega)
                              · refine St.guard_yes rfl rfl ?_
                                refine St.move rfl rfl ?_
                                refine St.guard_yes rfl rfl ?_
                                refine St.move rfl rfl ?_
                                refine St.guard_yes rfl rfl ?_
                                refine St.eql rfl rfl rfl ?_
                                refine St.guard_yes rfl rfl ?_
                                refine St.pick_false rfl rfl rfl ?_
                                refine St.pick_true rfl rfl rfl ?_
                                refine St.move rfl rfl ?_
                                refine St.split 163 rfl (fun g163 => ?_) (fun g163 => ?_)
                                · refine St.guard_yes rfl rfl ?_
                                  refine St.load rfl rfl (by kernel_rfl) (by first | exact Holds.row mem0 rfl | exact Holds.row mem1 rfl | exact Holds.row mem2 rfl | exact Holds.row mem3 rfl | exact Holds.row mem4 rfl | exact Holds.row mem5 rfl | exact Holds.row mem6 rfl | exact Holds.row mem7 rfl | exact Holds.row mem8 rfl) ?_
                                  refine St.guard_yes rfl rfl ?_
                                  refine St.perm (EnL p e5 ov8 iv8 at8 Eo8 Ei8 ([⟨b5, [.pointer (some ⟨p, 0, none⟩)], 80⟩] :: L)) (perm_block [_] [_, _, _] L) ?_
                                  refine St.call [_] rfl (by kernel_rfl) rfl (state18_spec w0 _ p _ _ _ _ _ _ hB8) (fun _ _ _ _ h => h.nil) ?_
                                  rintro r12 L1 ⟨rfl, rfl⟩
                                  rw [hst5]
                                  refine St.guard_yes rfl rfl ?_
                                  refine St.eql rfl rfl rfl ?_
                                  refine St.pick_true rfl rfl rfl ?_
                                  refine St.move rfl rfl ?_
                                  refine St.split 168 rfl (fun g168 => ?_) (fun g168 => ?_)
                                  · refine St.guard_yes rfl rfl ?_
                                    refine St.call [] rfl (by kernel_rfl) rfl (awake18_spec w0 _) (by first | exact fun _ _ _ _ h => h.nil | assumption) ?_
                                    rintro r13 L1 ⟨rfl, rfl⟩
                                    refine St.pick_true rfl rfl rfl ?_
                                    refine St.assign rfl rfl ?_
                                    refine St.done ?_
                                    refine SX.seq ?_
                                    refine SC.ret ?_
                                    first | exact SX.ret1 rfl rfl rfl | (exfalso; omega)
                                  · refine St.guard_no rfl rfl rfl ?_
                                    refine St.pick_false rfl rfl rfl ?_
                                    refine St.assign rfl rfl ?_
                                    refine St.done ?_
                                    refine SX.seq ?_
                                    refine SC.ret ?_
                                    first | exact SX.ret1 rfl rfl rfl | (exfalso; omega)
                                · refine St.guard_no rfl rfl rfl ?_
                                  refine St.guard_no rfl rfl rfl ?_
                                  refine St.guard_no rfl rfl rfl ?_
                                  refine St.pick_false rfl rfl rfl ?_
                                  refine St.move rfl rfl ?_
                                  refine St.guard_no rfl rfl rfl ?_
                                  refine St.pick_false rfl rfl rfl ?_
                                  refine St.assign rfl rfl ?_
                                  refine St.done ?_
                                  refine SX.seq ?_
                                  refine SC.ret ?_
                                  first | exact SX.ret1 rfl rfl rfl | (exfalso; omega)
                            · refine St.guard_no rfl rfl rfl ?_
                              refine St.guard_no rfl rfl rfl ?_
                              refine St.guard_yes rfl rfl ?_
                              refine St.pick_false rfl rfl rfl ?_
                              refine St.guard_yes rfl rfl ?_
                              refine St.move rfl rfl ?_
                              refine St.guard_yes rfl rfl ?_
                              refine St.move rfl rfl ?_
                              refine St.guard_yes rfl rfl ?_
                              refine St.move rfl rfl ?_
                              refine St.guard_yes rfl rfl ?_
                              refine St.eql rfl rfl rfl ?_
                              refine St.guard_yes rfl rfl ?_
                              refine St.pick_false rfl rfl rfl ?_
                              refine St.pick_true rfl rfl rfl ?_
                              refine St.move rfl rfl ?_
                              refine St.split 163 rfl (fun g163 => ?_) (fun g163 => ?_)
                              · refine St.guard_yes rfl rfl ?_
                                refine St.load rfl rfl (by kernel_rfl) (by first | exact Holds.row mem0 rfl | exact Holds.row mem1 rfl | exact Holds.row mem2 rfl | exact Holds.row mem3 rfl | exact Holds.row mem4 rfl | exact Holds.row mem5 rfl | exact Holds.row mem6 rfl | exact Holds.row mem7 rfl | exact Holds.row mem8 rfl) ?_
                                refine St.guard_yes rfl rfl ?_
                                refine St.perm (EnL p e5 ov8 iv8 at8 Eo8 Ei8 ([⟨b5, [.pointer (some ⟨p, 0, none⟩)], 80⟩] :: L)) (perm_block [_] [_, _, _] L) ?_
                                refine St.call [_] rfl (by kernel_rfl) rfl (state18_spec w0 _ p _ _ _ _ _ _ hB8) (fun _ _ _ _ h => h.nil) ?_
                                rintro r12 L1 ⟨rfl, rfl⟩
                                rw [hst5]
                                refine St.guard_yes rfl rfl ?_
                                refine St.eql rfl rfl rfl ?_
                                refine St.pick_true rfl rfl rfl ?_
                                refine St.move rfl rfl ?_
                                refine St.split 168 rfl (fun g168 => ?_) (fun g168 => ?_)
                                · refine St.guard_yes rfl rfl ?_
                                  refine St.call [] rfl (by kernel_rfl) rfl (awake18_spec w0 _) (by first | exact fun _ _ _ _ h => h.nil | assumption) ?_
                                  rintro r13 L1 ⟨rfl, rfl⟩
                                  refine St.pick_true rfl rfl rfl ?_
                                  refine St.assign rfl rfl ?_
                                  refine St.done ?_
                                  refine SX.seq ?_
                                  refine SC.ret ?_
                                  first | exact SX.ret1 rfl rfl rfl | (exfalso; omega)
                                · refine St.guard_no rfl rfl rfl ?_
                                  refine St.pick_false rfl rfl rfl ?_
                                  refine St.assign rfl rfl ?_
                                  refine St.done ?_
                                  refine SX.seq ?_
                                  refine SC.ret ?_
                                  first | exact SX.ret1 rfl rfl rfl | (exfalso; omega)
                              · refine St.guard_no rfl rfl rfl ?_
                                refine St.guard_no rfl rfl rfl ?_
                                refine St.guard_no rfl rfl rfl ?_
                                refine St.pick_false rfl rfl rfl ?_
                                refine St.move rfl rfl ?_
                                refine St.guard_no rfl rfl rfl ?_
                                refine St.pick_false rfl rfl rfl ?_
                                refine St.assign rfl rfl ?_
                                refine St.done ?_
                                refine SX.seq ?_
                                refine SC.ret ?_
                                first | exact SX.ret1 rfl rfl rfl | (exfalso; omega)
                          · refine St.guard_no rfl rfl rfl ?_
                            refine St.guard_no rfl rfl rfl ?_
                            refine St.guard_no rfl rfl rfl ?_
                            refine St.guard_yes rfl rfl ?_
                            refine St.pick_false rfl rfl rfl ?_
                            refine St.guard_yes rfl rfl ?_
                            refine St.move rfl rfl ?_
                            refine St.guard_no rfl rfl rfl ?_
                            refine St.guard_no rfl rfl rfl ?_
                            refine St.guard_yes rfl rfl ?_
                            refine St.pick_false rfl rfl rfl ?_
                            refine St.guard_yes rfl rfl ?_
                            refine St.move rfl rfl ?_
                            refine St.guard_yes rfl rfl ?_
                            refine St.move rfl rfl ?_
                            refine St.guard_yes rfl rfl ?_
                            refine St.move rfl rfl ?_
                            refine St.guard_yes rfl rfl ?_
                            refine St.eql rfl rfl rfl ?_
                            refine St.guard_yes rfl rfl ?_
                            refine St.pick_false rfl rfl rfl ?_
                            refine St.pick_true rfl rfl rfl ?_
                            refine St.move rfl rfl ?_
                            refine St.split 163 rfl (fun g163 => ?_) (fun g163 => ?_)
                            · refine St.guard_yes rfl rfl ?_
                              refine St.load rfl rfl (by kernel_rfl) (by first | exact Holds.row mem0 rfl | exact Holds.row mem1 rfl | exact Holds.row mem2 rfl | exact Holds.row mem3 rfl | exact Holds.row mem4 rfl | exact Holds.row mem5 rfl | exact Holds.row mem6 rfl | exact Holds.row mem7 rfl | exact Holds.row mem8 rfl) ?_
                              refine St.guard_yes rfl rfl ?_
                              refine St.perm (EnL p e5 ov8 iv8 at8 Eo8 Ei8 ([⟨b5, [.pointer (some ⟨p, 0, none⟩)], 80⟩] :: L)) (perm_block [_] [_, _, _] L) ?_
                              refine St.call [_] rfl (by kernel_rfl) rfl (state18_spec w0 _ p _ _ _ _ _ _ hB8) (fun _ _ _ _ h => h.nil) ?_
                              rintro r12 L1 ⟨rfl, rfl⟩
                              rw [hst5]
                              refine St.guard_yes rfl rfl ?_
                              refine St.eql rfl rfl rfl ?_
                              refine St.pick_true rfl rfl rfl ?_
                              refine St.move rfl rfl ?_
                              refine St.split 168 rfl (fun g168 => ?_) (fun g168 => ?_)
                              · refine St.guard_yes rfl rfl ?_
                                refine St.call [] rfl (by kernel_rfl) rfl (awake18_spec w0 _) (by first | exact fun _ _ _ _ h => h.nil | assumption) ?_
                                rintro r13 L1 ⟨rfl, rfl⟩
                                refine St.pick_true rfl rfl rfl ?_
                                refine St.assign rfl rfl ?_
                                refine St.done ?_
                                refine SX.seq ?_
                                refine SC.ret ?_
                                first | exact SX.ret1 rfl rfl rfl | (exfalso; omega)
                              · refine St.guard_no rfl rfl rfl ?_
                                refine St.pick_false rfl rfl rfl ?_
                                refine St.assign rfl rfl ?_
                                refine St.done ?_
                                refine SX.seq ?_
                                refine SC.ret ?_
                                first | exact SX.ret1 rfl rfl rfl | (exfalso; omega)
                            · refine St.guard_no rfl rfl rfl ?_
                              refine St.guard_no rfl rfl rfl ?_
                              refine St.guard_no rfl rfl rfl ?_
                              refine St.pick_false rfl rfl rfl ?_
                              refine St.move rfl rfl ?_
                              refine St.guard_no rfl rfl rfl ?_
                              refine St.pick_false rfl rfl rfl ?_
                              refine St.assign rfl rfl ?_
                              refine St.done ?_
                              refine SX.seq ?_
                              refine SC.ret ?_
                              first | exact SX.ret1 rfl rfl rfl | (exfalso; omega)
                · refine St.guard_no rfl rfl rfl ?_
                  refine St.guard_no rfl rfl rfl ?_
                  refine St.guard_no rfl rfl rfl ?_
                  refine St.guard_no rfl rfl rfl ?_
                  refine St.guard_none rfl rfl rfl ?_
                  refine St.guard_none rfl rfl rfl ?_
                  refine St.guard_none rfl rfl rfl ?_
                  refine St.guard_none rfl rfl rfl ?_
                  refine St.guard_no rfl rfl rfl ?_
                  refine St.guard_yes rfl rfl ?_
                  refine St.pick_false rfl rfl rfl ?_
                  refine St.pick_false rfl rfl rfl ?_
                  refine St.move rfl rfl ?_
                  refine St.guard_yes rfl rfl ?_
                  refine St.move rfl rfl ?_
                  refine St.guard_yes rfl rfl ?_
                  refine St.lss rfl rfl rfl ?_
                  refine St.guard_yes rfl rfl ?_
                  refine St.move rfl rfl ?_
                  refine St.split 122 rfl (fun g122 => ?_) (fun g122 => ?_)
                  · refine St.guard_yes rfl rfl ?_
                    refine St.move rfl rfl ?_
                    refine St.guard_yes rfl rfl ?_
                    refine St.move rfl rfl ?_
                    refine St.guard_yes rfl rfl ?_
                    refine St.lss rfl rfl rfl ?_
                    refine St.guard_yes rfl rfl ?_
                    refine St.pick_true rfl rfl rfl ?_
                    refine St.guard_yes rfl rfl ?_
                    refine St.move rfl rfl ?_
                    refine St.split 127 rfl (fun g127 => ?_) (fun g127 => ?_)
                    · refine St.guard_yes rfl rfl ?_
                      refine St.move rfl rfl ?_
                      refine St.guard_yes rfl rfl ?_
                      refine St.move rfl rfl ?_
                      refine St.guard_yes rfl rfl ?_
                      first | refine St.addN (b := 4000) rfl rfl rfl (by omega) ?_ | refine St.addI rfl rfl rfl (by omega) ?_
                      refine St.guard_yes rfl rfl ?_
                      refine St.lss rfl rfl rfl ?_
                      refine St.guard_yes rfl rfl ?_
                      refine St.pick_true rfl rfl rfl ?_
                      refine St.pick_false rfl rfl rfl ?_
                      refine St.done ?_
                      refine SX.seq ?_
                      refine SC.condp rfl (fun c133 => ?_) (fun c133 => ?_)
                      · refine SC.seq ?_
                        refine SC.plain ?_
                        refine St.assign rfl rfl ?_
                        refine St.done ?_
                        refine SX.seq ?_
                        refine SC.ret ?_
                        refine SX.seq_ret ?_
                        first | exact SX.ret1 rfl rfl rfl | (exfalso; omega)
                      · refine SC.skip ?_
                        refine SX.seq ?_
                        refine SC.seq ?_
                        refine SC.seq ?_
                        refine SC.keep [(0, .int .i64 (m : Int)), (1, .int .i64 (k : Int)), (8, .int .i64 (f2 : Int)), (13, .int .i64 D), (14, .int .i64 F), (5, .pointer (some ⟨b5, 0, none⟩)), (6, .func (.func 69) #[] [.pointer (some ⟨b5, 0, none⟩)].toArray)] ⟨rfl, rfl, rfl, rfl, rfl, rfl, rfl, trivial⟩ ?_
                        refine SC.plain ?_
                        refine St.move rfl rfl ?_
                        refine St.geq rfl rfl rfl ?_
                        refine St.done ?_
                        refine SX.seq ?_
                        refine SC.condp rfl (fun c135 => ?_) (fun c135 => ?_)
                        · refine SC.plain ?_
                          refine St.move rfl rfl ?_
                          refine St.assign rfl rfl ?_
                          refine St.done ?_
                          refine SX.seq ?_
                          refine SC.seq ?_
                          have h8 : 1 = 1 := rfl
                          obtain ⟨e5, l5, G, F5, hout5, hst5, hsc5, hG⟩ := wS_last (n := m) (k := k) (f := f4) (at_ := t4) hm2 (by omega) hf4b (by omega) (by omega)
                          refine SC.plain ?_
                          refine St.move rfl rfl ?_
                          refine St.callv (cap := #[.pointer (some ⟨b5, 0, none⟩)]) [.int .i64 30] rfl (by kernel_rfl) rfl rfl (sent_spec w0 L b5 p (wS m k f4 t4) ov7 iv7 at7 Eo7 Ei7 hB7 30 clock30) (fun _ _ _ _ h => h.nil) ?_
                          rw [hout5]
                          dsimp only
                          rw [hsc5]
                          dsimp only
                          rintro r8 L1 ⟨rfl, ov8, iv8, at8, Eo8, Ei8, hB8, rfl⟩
                          refine St.move rfl rfl ?_
                          refine St.extract rfl rfl rfl ?_
                          refine St.extract rfl rfl rfl ?_
                          refine St.extract rfl rfl rfl ?_
                          refine St.assign rfl rfl ?_
                          refine St.assign rfl rfl ?_
                          refine St.assign rfl rfl ?_
                          refine St.done ?_
                          refine SX.seq ?_
                          refine SC.seq ?_
                          refine SC.plain ?_
                          refine St.move rfl rfl ?_
                          refine St.move rfl rfl ?_
                          refine St.guard_yes rfl rfl ?_
                          refine St.move rfl rfl ?_
                          refine St.guard_yes rfl rfl ?_
                          refine St.move rfl rfl ?_
                          refine St.guard_yes rfl rfl ?_
                          refine St.eql rfl rfl rfl ?_
                          refine St.guard_yes rfl rfl ?_
                          refine St.move rfl rfl ?_
                          refine St.split 148 rfl (fun g148 => ?_) (fun g148 => ?_)
                          · refine St.guard_yes rfl rfl ?_
                            refine St.move rfl rfl ?_
                            refine St.guard_yes rfl rfl ?_
                            refine St.move rfl rfl ?_
                            refine St.guard_yes rfl rfl ?_
                            refine St.eql rfl rfl rfl ?_
                            refine St.guard_yes rfl rfl ?_
                            refine St.pick_true rfl rfl rfl ?_
                            refine St.guard_yes rfl rfl ?_
                            refine St.move rfl rfl ?_
                            refine St.split 153 rfl (fun g153 => ?_) (fun g153 => ?_)
                            · refine St.guard_yes rfl rfl ?_
                              refine St.move rfl rfl ?_
                              refine St.guard_yes rfl rfl ?_
                              refine St.lss rfl rfl rfl ?_
                              refine St.guard_yes rfl rfl ?_
                              refine St.pick_true rfl rfl rfl ?_
                              refine St.guard_yes rfl rfl ?_
                              refine St.move rfl rfl ?_
                              refine St.split 157 rfl (fun g157 => ?_) (fun g157 => ?_)
                              · refine St.guard_no rfl rfl rfl ?_
                                refine St.guard_no rfl rfl rfl ?_
                                refine St.guard_no rfl rfl rfl ?_
                                refine St.guard_yes rfl rfl ?_
                                refine St.pick_true rfl rfl rfl ?_
                                refine St.pick_true rfl rfl rfl ?_
                                refine St.move rfl rfl ?_
                                refine St.guard_yes rfl rfl ?_
                                refine St.load rfl rfl (by kernel_rfl) (by first | exact Holds.row mem0 rfl | exact Holds.row mem1 rfl | exact Holds.row mem2 rfl | exact Holds.row mem3 rfl | exact Holds.row mem4 rfl | exact Holds.row mem5 rfl | exact Holds.row mem6 rfl | exact Holds.row mem7 rfl | exact Holds.row mem8 rfl) ?_
                                refine St.guard_yes rfl rfl ?_
                                refine St.perm (EnL p e5 ov8 iv8 at8 Eo8 Ei8 ([⟨b5, [.pointer (some ⟨p, 0, none⟩)], 80⟩] :: L)) (perm_block [_] [_, _, _] L) ?_
                                refine St.call [_] rfl (by kernel_rfl) rfl (state18_spec w0 _ p _ _ _ _ _ _ hB8) (fun _ _ _ _ h => h.nil) ?_
                                rintro r12 L1 ⟨rfl, rfl⟩
                                rw [hst5]
                                refine St.guard_yes rfl rfl ?_
                                refine St.eql rfl rfl rfl ?_
                                refine St.pick_true rfl rfl rfl ?_
                                refine St.move rfl rfl ?_
                                refine St.split 168 rfl (fun g168 => ?_) (fun g168 => ?_)
                                · refine St.guard_yes rfl rfl ?_
                                  refine St.call [] rfl (by kernel_rfl) rfl (awake18_spec w0 _) (by first | exact fun _ _ _ _ h => h.nil | assumption) ?_
                                  rintro r13 L1 ⟨rfl, rfl⟩
                                  refine St.pick_true rfl rfl rfl ?_
                                  refine St.assign rfl rfl ?_
                                  refine St.done ?_
                                  refine SX.seq ?_
                                  refine SC.ret ?_
                                  first | exact SX.ret1 rfl rfl rfl | (exfalso; omega)
                                · refine St.guard_no rfl rfl rfl ?_
                                  refine St.pick_false rfl rfl rfl ?_
                                  refine St.assign rfl rfl ?_
                                  refine St.done ?_
                                  refine SX.seq ?_
                                  refine SC.ret ?_
                                  first | exact SX.ret1 rfl rfl rfl | (exfalso; omega)
                              · refine St.guard_yes rfl rfl ?_
                                refine St.move rfl rfl ?_
                                refine St.guard_yes rfl rfl ?_
                                refine St.move rfl rfl ?_
                                refine St.guard_yes rfl rfl ?_
                                refine St.eql rfl rfl rfl ?_
                                refine St.guard_yes rfl rfl ?_
                                refine St.pick_false rfl rfl rfl ?_
                                refine St.pick_true rfl rfl rfl ?_
                                refine St.move rfl rfl ?_
                                refine St.split 163 rfl (fun g163 => ?_) (fun g163 => ?_)
                                · refine St.guard_yes rfl rfl ?_
                                  refine St.load rfl rfl (by kernel_rfl) (by first | exact Holds.row mem0 rfl | exact Holds.row mem1 rfl | exact Holds.row mem2 rfl | exact Holds.row mem3 rfl | exact Holds.row mem4 rfl | exact Holds.row mem5 rfl | exact Holds.row mem6 rfl | exact Holds.row mem7 rfl | exact Holds.row mem8 rfl) ?_
                                  refine St.guard_yes rfl rfl ?_
                                  refine St.perm (EnL p e5 ov8 iv8 at8 Eo8 Ei8 ([⟨b5, [.pointer (some ⟨p, 0, none⟩)], 80⟩] :: L)) (perm_block [_] [_, _, _] L) ?_
                                  refine St.call [_] rfl (by kernel_rfl) rfl (state18_spec w0 _ p _ _ _ _ _ _ hB8) (fun _ _ _ _ h => h.nil) ?_
                                  rintro r12 L1 ⟨rfl, rfl⟩
                                  rw [hst5]
                                  refine St.guard_yes rfl rfl ?_
                                  refine St.eql rfl rfl rfl ?_
                                  refine St.pick_true rfl rfl rfl ?_
                                  refine St.move rfl rfl ?_
                                  refine St.split 168 rfl (fun g168 => ?_) (fun g168 => ?_)
                                  · refine St.guard_yes rfl rfl ?_
                                    refine St.call [] rfl (by kernel_rfl) rfl (awake18_spec w0 _) (by first | exact fun _ _ _ _ h => h.nil | assumption) ?_
                                    rintro r13 L1 ⟨rfl, rfl⟩
                                    refine St.pick_true rfl rfl rfl ?_
                                    refine St.assign rfl rfl ?_
                                    refine St.done ?_
                                    refine SX.seq ?_
                                    refine SC.ret ?_
                                    first | exact SX.ret1 rfl rfl rfl | (exfalso; omega)
                                  · refine St.guard_no rfl rfl rfl ?_
                                    refine St.pick_false rfl rfl rfl ?_
                                    refine St.assign rfl rfl ?_
                                    refine St.done ?_
                                    refine SX.seq ?_
                                    refine SC.ret ?_
                                    first | exact SX.ret1 rfl rfl rfl | (exfalso; omega)
                                · refine St.guard_no rfl rfl rfl ?_
                                  refine St.guard_no rfl rfl rfl ?_
                                  refine St.guard_no rfl rfl rfl ?_
                                  refine St.pick_false rfl rfl rfl ?_
                                  refine St.move rfl rfl ?_
                                  refine St.guard_no rfl rfl rfl ?_
                                  refine St.pick_false rfl rfl rfl ?_
                                  refine St.assign rfl rfl ?_
                                  refine St.done ?_
                                  refine SX.seq ?_
                                  refine SC.ret ?_
                                  first | exact SX.ret1 rfl rfl rfl | (exfalso; omega)
                            · refine St.guard_no rfl rfl rfl ?_
                              refine St.guard_no rfl rfl rfl ?_
                              refine St.guard_yes rfl rfl ?_
                              refine St.pick_false rfl rfl rfl ?_
                              refine St.guard_yes rfl rfl ?_
                              refine St.move rfl rfl ?_
                              refine St.guard_yes rfl rfl ?_
                              refine St.move rfl rfl ?_
                              refine St.guard_yes rfl rfl ?_
                              refine St.move rfl rfl ?_
                              refine St.guard_yes rfl rfl ?_
                              refine St.eql rfl rfl rfl ?_
                              refine St.guard_yes rfl rfl ?_
                              refine St.pick_false rfl rfl rfl ?_
                              refine St.pick_true rfl rfl rfl ?_
                              refine St.move rfl rfl ?_
                              refine St.split 163 rfl (fun g163 => ?_) (fun g163 => ?_)
                              · refine St.guard_yes rfl rfl ?_
                                refine St.load rfl rfl (by kernel_rfl) (by first | exact Holds.row mem0 rfl | exact Holds.row mem1 rfl | exact Holds.row mem2 rfl | exact Holds.row mem3 rfl | exact Holds.row mem4 rfl | exact Holds.row mem5 rfl | exact Holds.row mem6 rfl | exact Holds.row mem7 rfl | exact Holds.row mem8 rfl) ?_
                                refine St.guard_yes rfl rfl ?_
                                refine St.perm (EnL p e5 ov8 iv8 at8 Eo8 Ei8 ([⟨b5, [.pointer (some ⟨p, 0, none⟩)], 80⟩] :: L)) (perm_block [_] [_, _, _] L) ?_
                                refine St.call [_] rfl (by kernel_rfl) rfl (state18_spec w0 _ p _ _ _ _ _ _ hB8) (fun _ _ _ _ h => h.nil) ?_
                                rintro r12 L1 ⟨rfl, rfl⟩
                                rw [hst5]
                                refine St.guard_yes rfl rfl ?_
                                refine St.eql rfl rfl rfl ?_
                                refine St.pick_true rfl rfl rfl ?_
                                refine St.move rfl rfl ?_
                                refine St.split 168 rfl (fun g168 => ?_) (fun g168 => ?_)
                                · refine St.guard_yes rfl rfl ?_
                                  refine St.call [] rfl (by kernel_rfl) rfl (awake18_spec w0 _) (by first | exact fun _ _ _ _ h => h.nil | assumption) ?_
                                  rintro r13 L1 ⟨rfl, rfl⟩
                                  refine St.pick_true rfl rfl rfl ?_
                                  refine St.assign rfl rfl ?_
                                  refine St.done ?_
                                  refine SX.seq ?_
                                  refine SC.ret ?_
                                  first | exact SX.ret1 rfl rfl rfl | (exfalso; omega)
                                · refine St.guard_no rfl rfl rfl ?_
                                  refine St.pick_false rfl rfl rfl ?_
                                  refine St.assign rfl rfl ?_
                                  refine St.done ?_
                                  refine SX.seq ?_
                                  refine SC.ret ?_
                                  first | exact SX.ret1 rfl rfl rfl | (exfalso; omega)
                              · refine St.guard_no rfl rfl rfl ?_
                                refine St.guard_no rfl rfl rfl ?_
                                refine St.guard_no rfl rfl rfl ?_
                                refine St.pick_false rfl rfl rfl ?_
                                refine St.move rfl rfl ?_
                                refine St.guard_no rfl rfl rfl ?_
                                refine St.pick_false rfl rfl rfl ?_
                                refine St.assign rfl rfl ?_
                                refine St.done ?_
                                refine SX.seq ?_
                                refine SC.ret ?_
                                first | exact SX.ret1 rfl rfl rfl | (exfalso; omega)
                          · refine St.guard_no rfl rfl rfl ?_
                            refine St.guard_no rfl rfl rfl ?_
                            refine St.guard_no rfl rfl rfl ?_
                            refine St.guard_yes rfl rfl ?_
                            refine St.pick_false rfl rfl rfl ?_
                            refine St.guard_yes rfl rfl ?_
                            refine St.move rfl rfl ?_
                            refine St.guard_no rfl rfl rfl ?_
                            refine St.guard_no rfl rfl rfl ?_
                            refine St.guard_yes rfl rfl ?_
                            refine St.pick_false rfl rfl rfl ?_
                            refine St.guard_yes rfl rfl ?_
                            refine St.move rfl rfl ?_
                            refine St.guard_yes rfl rfl ?_
                            refine St.move rfl rfl ?_
                            refine St.guard_yes rfl rfl ?_
                            refine St.move rfl rfl ?_
                            refine St.guard_yes rfl rfl ?_
                            refine St.eql rfl rfl rfl ?_
                            refine St.guard_yes rfl rfl ?_
                            refine St.pick_false rfl rfl rfl ?_
                            refine St.pick_true rfl rfl rfl ?_
                            refine St.move rfl rfl ?_
                            refine St.split 163 rfl (fun g163 => ?_) (fun g163 => ?_)
                            · refine St.guard_yes rfl rfl ?_
                              refine St.load rfl rfl (by kernel_rfl) (by first | exact Holds.row mem0 rfl | exact Holds.row mem1 rfl | exact Holds.row mem2 rfl | exact Holds.row mem3 rfl | exact Holds.row mem4 rfl | exact Holds.row mem5 rfl | exact Holds.row mem6 rfl | exact Holds.row mem7 rfl | exact Holds.row mem8 rfl) ?_
                              refine St.guard_yes rfl rfl ?_
                              refine St.perm (EnL p e5 ov8 iv8 at8 Eo8 Ei8 ([⟨b5, [.pointer (some ⟨p, 0, none⟩)], 80⟩] :: L)) (perm_block [_] [_, _, _] L) ?_
                              refine St.call [_] rfl (by kernel_rfl) rfl (state18_spec w0 _ p _ _ _ _ _ _ hB8) (fun _ _ _ _ h => h.nil) ?_
                              rintro r12 L1 ⟨rfl, rfl⟩
                              rw [hst5]
                              refine St.guard_yes rfl rfl ?_
                              refine St.eql rfl rfl rfl ?_
                              refine St.pick_true rfl rfl rfl ?_
                              refine St.move rfl rfl ?_
                              refine St.split 168 rfl (fun g168 => ?_) (fun g168 => ?_)
                              · refine St.guard_yes rfl rfl ?_
                                refine St.call [] rfl (by kernel_rfl) rfl (awake18_spec w0 _) (by first | exact fun _ _ _ _ h => h.nil | assumption) ?_
                                rintro r13 L1 ⟨rfl, rfl⟩
                                refine St.pick_true rfl rfl rfl ?_
                                refine St.assign rfl rfl ?_
                                refine St.done ?_
                                refine SX.seq ?_
                                refine SC.ret ?_
                                first | exact SX.ret1 rfl rfl rfl | (exfalso; omega)
                              · refine St.guard_no rfl rfl rfl ?_
                                refine St.pick_false rfl rfl rfl ?_
                                refine St.assign rfl rfl ?_
                                refine St.done ?_
                                refine SX.seq ?_
                                refine SC.ret ?_
                                first | exact SX.ret1 rfl rfl rfl | (exfalso; omega)
                            · refine St.guard_no rfl rfl rfl ?_
                              refine St.guard_no rfl rfl rfl ?_
                              refine St.guard_no rfl rfl rfl ?_
                              refine St.pick_false rfl rfl rfl ?_
                              refine St.move rfl rfl ?_
                              refine St.guard_no rfl rfl rfl ?_
                              refine St.pick_false rfl rfl rfl ?_
                              refine St.assign rfl rfl ?_
                              refine St.done ?_
                              refine SX.seq ?_
                              refine SC.ret ?_
                              first | exact SX.ret1 rfl rfl rfl | (exfalso; omega)
                        · refine SC.skip ?_
                          refine SX.seq ?_
                          refine SC.seq ?_
                          have h8 : 1 = 1 := rfl
                          obtain ⟨e5, l5, G, F5, hout5, hst5, hsc5, hG⟩ := wS_last (n := m) (k := k) (f := f4) (at_ := t4) hm2 (by omega) hf4b (by omega) (by omega)
                          refine SC.plain ?_
                          refine St.move rfl rfl ?_
                          refine St.callv (cap := #[.pointer (some ⟨b5, 0, none⟩)]) [.int .i64 30] rfl (by kernel_rfl) rfl rfl (sent_spec w0 L b5 p (wS m k f4 t4) ov7 iv7 at7 Eo7 Ei7 hB7 30 clock30) (fun _ _ _ _ h => h.nil) ?_
                          rw [hout5]
                          dsimp only
                          rw [hsc5]
                          dsimp only
                          rintro r8 L1 ⟨rfl, ov8, iv8, at8, Eo8, Ei8, hB8, rfl⟩
                          refine St.move rfl rfl ?_
                          refine St.extract rfl rfl rfl ?_
                          refine St.extract rfl rfl rfl ?_
                          refine St.extract rfl rfl rfl ?_
                          refine St.assign rfl rfl ?_
                          refine St.assign rfl rfl ?_
                          refine St.assign rfl rfl ?_
                          refine St.done ?_
                          refine SX.seq ?_
                          refine SC.seq ?_
                          refine SC.plain ?_
                          refine St.move rfl rfl ?_
                          refine St.move rfl rfl ?_
                          refine St.guard_yes rfl rfl ?_
                          refine St.move rfl rfl ?_
                          refine St.guard_yes rfl rfl ?_
                          refine St.move rfl rfl ?_
                          refine St.guard_yes rfl rfl ?_
                          refine St.eql rfl rfl rfl ?_
                          refine St.guard_yes rfl rfl ?_
                          refine St.move rfl rfl ?_
                          refine St.split 148 rfl (fun g148 => ?_) (fun g148 => ?_)
                          · refine St.guard_yes rfl rfl ?_
                            refine St.move rfl rfl ?_
                            refine St.guard_yes rfl rfl ?_
                            refine St.move rfl rfl ?_
                            refine St.guard_yes rfl rfl ?_
                            refine St.eql rfl rfl rfl ?_
                            refine St.guard_yes rfl rfl ?_
                            refine St.pick_true rfl rfl rfl ?_
                            refine St.guard_yes rfl rfl ?_
                            refine St.move rfl rfl ?_
                            refine St.split 153 rfl (fun g153 => ?_) (fun g153 => ?_)
                            · refine St.guard_yes rfl rfl ?_
                              refine St.move rfl rfl ?_
                              refine St.guard_yes rfl rfl ?_
                              refine St.lss rfl rfl rfl ?_
                              refine St.guard_yes rfl rfl ?_
                              refine St.pick_true rfl rfl rfl ?_
                              refine St.guard_yes rfl rfl ?_
                              refine St.move rfl rfl ?_
                              refine St.split 157 rfl (fun g157 => ?_) (fun g157 => ?_)
                              · refine St.guard_no rfl rfl rfl ?_
                                refine St.guard_no rfl rfl rfl ?_
                                refine St.guard_no rfl rfl rfl ?_
                                refine St.guard_yes rfl rfl ?_
                                refine St.pick_true rfl rfl rfl ?_
                                refine St.pick_true rfl rfl rfl ?_
                                refine St.move rfl rfl ?_
                                refine St.guard_yes rfl rfl ?_
                                refine St.load rfl rfl (by kernel_rfl) (by first | exact Holds.row mem0 rfl | exact Holds.row mem1 rfl | exact Holds.row mem2 rfl | exact Holds.row mem3 rfl | exact Holds.row mem4 rfl | exact Holds.row mem5 rfl | exact Holds.row mem6 rfl | exact Holds.row mem7 rfl | exact Holds.row mem8 rfl) ?_
                                refine St.guard_yes rfl rfl ?_
                                refine St.perm (EnL p e5 ov8 iv8 at8 Eo8 Ei8 ([⟨b5, [.pointer (some ⟨p, 0, none⟩)], 80⟩] :: L)) (perm_block [_] [_, _, _] L) ?_
                                refine St.call [_] rfl (by kernel_rfl) rfl (state18_spec w0 _ p _ _ _ _ _ _ hB8) (fun _ _ _ _ h => h.nil) ?_
                                rintro r12 L1 ⟨rfl, rfl⟩
                                rw [hst5]
                                refine St.guard_yes rfl rfl ?_
                                refine St.eql rfl rfl rfl ?_
                                refine St.pick_true rfl rfl rfl ?_
                                refine St.move rfl rfl ?_
                                refine St.split 168 rfl (fun g168 => ?_) (fun g168 => ?_)
                                · refine St.guard_yes rfl rfl ?_
                                  refine St.call [] rfl (by kernel_rfl) rfl (awake18_spec w0 _) (by first | exact fun _ _ _ _ h => h.nil | assumption) ?_
                                  rintro r13 L1 ⟨rfl, rfl⟩
                                  refine St.pick_true rfl rfl rfl ?_
                                  refine St.assign rfl rfl ?_
                                  refine St.done ?_
                                  refine SX.seq ?_
                                  refine SC.ret ?_
                                  first | exact SX.ret1 rfl rfl rfl | (exfalso; omega)
                                · refine St.guard_no rfl rfl rfl ?_
                                  refine St.pick_false rfl rfl rfl ?_
                                  refine St.assign rfl rfl ?_
                                  refine St.done ?_
                                  refine SX.seq ?_
                                  refine SC.ret ?_
                                  first | exact SX.ret1 rfl rfl rfl | (exfalso; omega)
                              · refine St.guard_yes rfl rfl ?_
                                refine St.move rfl rfl ?_
                                refine St.guard_yes rfl rfl ?_
                                refine St.move rfl rfl ?_
                                refine St.guard_yes rfl rfl ?_
                                refine St.eql rfl rfl rfl ?_
                                refine St.guard_yes rfl rfl ?_
                                refine St.pick_false rfl rfl rfl ?_
                                refine St.pick_true rfl rfl rfl ?_
                                refine St.move rfl rfl ?_
                                refine St.split 163 rfl (fun g163 => ?_) (fun g163 => ?_)
                                · refine St.guard_yes rfl rfl ?_
                                  refine St.load rfl rfl (by kernel_rfl) (by first | exact Holds.row mem0 rfl | exact Holds.row mem1 rfl | exact Holds.row mem2 rfl | exact Holds.row mem3 rfl | exact Holds.row mem4 rfl | exact Holds.row mem5 rfl | exact Holds.row mem6 rfl | exact Holds.row mem7 rfl | exact Holds.row mem8 rfl) ?_
                                  refine St.guard_yes rfl rfl ?_
                                  refine St.perm (EnL p e5 ov8 iv8 at8 Eo8 Ei8 ([⟨b5, [.pointer (some ⟨p, 0, none⟩)], 80⟩] :: L)) (perm_block [_] [_, _, _] L) ?_
                                  refine St.call [_] rfl (by kernel_rfl) rfl (state18_spec w0 _ p _ _ _ _ _ _ hB8) (fun _ _ _ _ h => h.nil) ?_
                                  rintro r12 L1 ⟨rfl, rfl⟩
                                  rw [hst5]
                                  refine St.guard_yes rfl rfl ?_
                                  refine St.eql rfl rfl rfl ?_
                                  refine St.pick_true rfl rfl rfl ?_
                                  refine St.move rfl rfl ?_
                                  refine St.split 168 rfl (fun g168 => ?_) (fun g168 => ?_)
                                  · refine St.guard_yes rfl rfl ?_
                                    refine St.call [] rfl (by kernel_rfl) rfl (awake18_spec w0 _) (by first | exact fun _ _ _ _ h => h.nil | assumption) ?_
                                    rintro r13 L1 ⟨rfl, rfl⟩
                                    refine St.pick_true rfl rfl rfl ?_
                                    refine St.assign rfl rfl ?_
                                    refine St.done ?_
                                    refine SX.seq ?_
                                    refine SC.ret ?_
                                    first | exact SX.ret1 rfl rfl rfl | (exfalso; omega)
                                  · refine St.guard_no rfl rfl rfl ?_
                                    refine St.pick_false rfl rfl rfl ?_
                                    refine St.assign rfl rfl ?_
                                    refine St.done ?_
                                    refine SX.seq ?_
                                    refine SC.ret ?_
                                    first | exact SX.ret1 rfl rfl rfl | (exfalso; omega)
                                · refine St.guard_no rfl rfl rfl ?_
                                  refine St.guard_no rfl rfl rfl ?_
                                  refine St.guard_no rfl rfl rfl ?_
                                  refine St.pick_false rfl rfl rfl ?_
                                  refine St.move rfl rfl ?_
                                  refine St.guard_no rfl rfl rfl ?_
                                  refine St.pick_false rfl rfl rfl ?_
                                  refine St.assign rfl rfl ?_
                                  refine St.done ?_
                                  refine SX.seq ?_
                                  refine SC.ret ?_
                                  first | exact SX.ret1 rfl rfl rfl | (exfalso; omega)
                            · refine St.guard_no rfl rfl rfl ?_
                              refine St.guard_no rfl rfl rfl ?_
                              refine St.guard_yes rfl rfl ?_
                              refine St.pick_false rfl rfl rfl ?_
                              refine St.guard_yes rfl rfl ?_
                              refine St.move rfl rfl ?_
                              refine St.guard_yes rfl rfl ?_
                              refine St.move rfl rfl ?_
                              refine St.guard_yes rfl rfl ?_
                              refine St.move rfl rfl ?_
                              refine St.guard_yes rfl rfl ?_
                              refine St.eql rfl rfl rfl ?_
                              refine St.guard_yes rfl rfl ?_
                              refine St.pick_false rfl rfl rfl ?_
                              refine St.pick_true rfl rfl rfl ?_
                              refine St.move rfl rfl ?_
                              refine St.split 163 rfl (fun g163 => ?_) (fun g163 => ?_)
                              · refine St.guard_yes rfl rfl ?_
                                refine St.load rfl rfl (by kernel_rfl) (by first | exact Holds.row mem0 rfl | exact Holds.row mem1 rfl | exact Holds.row mem2 rfl | exact Holds.row mem3 rfl | exact Holds.row mem4 rfl | exact Holds.row mem5 rfl | exact Holds.row mem6 rfl | exact Holds.row mem7 rfl | exact Holds.row mem8 rfl) ?_
                                refine St.guard_yes rfl rfl ?_
                                refine St.perm (EnL p e5 ov8 iv8 at8 Eo8 Ei8 ([⟨b5, [.pointer (some ⟨p, 0, none⟩)], 80⟩] :: L)) (perm_block [_] [_, _, _] L) ?_
                                refine St.call [_] rfl (by kernel_rfl) rfl (state18_spec w0 _ p _ _ _ _ _ _ hB8) (fun _ _ _ _ h => h.nil) ?_
                                rintro r12 L1 ⟨rfl, rfl⟩
                                rw [hst5]
                                refine St.guard_yes rfl rfl ?_
                                refine St.eql rfl rfl rfl ?_
                                refine St.pick_true rfl rfl rfl ?_
                                refine St.move rfl rfl ?_
                                refine St.split 168 rfl (fun g168 => ?_) (fun g168 => ?_)
                                · refine St.guard_yes rfl rfl ?_
                                  refine St.call [] rfl (by kernel_rfl) rfl (awake18_spec w0 _) (by first | exact fun _ _ _ _ h => h.nil | assumption) ?_
                                  rintro r13 L1 ⟨rfl, rfl⟩
                                  refine St.pick_true rfl rfl rfl ?_
                                  refine St.assign rfl rfl ?_
                                  refine St.done ?_
                                  refine SX.seq ?_
                                  refine SC.ret ?_
                                  first | exact SX.ret1 rfl rfl rfl | (exfalso; omega)
                                · refine St.guard_no rfl rfl rfl ?_
                                  refine St.pick_false rfl rfl rfl ?_
                                  refine St.assign rfl rfl ?_
                                  refine St.done ?_
                                  refine SX.seq ?_
                                  refine SC.ret ?_
                                  first | exact SX.ret1 rfl rfl rfl | (exfalso; omega)
                              · refine St.guard_no rfl rfl rfl ?_
                                refine St.guard_no rfl rfl rfl ?_
                                refine St.guard_no rfl rfl rfl ?_
                                refine St.pick_false rfl rfl rfl ?_
                                refine St.move rfl rfl ?_
                                refine St.guard_no rfl rfl rfl ?_
                                refine St.pick_false rfl rfl rfl ?_
                                refine St.assign rfl rfl ?_
                                refine St.done ?_
                                refine SX.seq ?_
                                refine SC.ret ?_
                                first | exact SX.ret1 rfl rfl rfl | (exfalso; omega)
                          · refine St.guard_no rfl rfl rfl ?_
                            refine St.guard_no rfl rfl rfl ?_
                            refine St.guard_no rfl rfl rfl ?_
                            refine St.guard_yes rfl rfl ?_
                            refine St.pick_false rfl rfl rfl ?_
                            refine St.guard_yes rfl rfl ?_
                            refine St.move rfl rfl ?_
                            refine St.guard_no rfl rfl rfl ?_
                            refine St.guard_no rfl rfl rfl ?_
                            refine St.guard_yes rfl rfl ?_
                            refine St.pick_false rfl rfl rfl ?_
                            refine St.guard_yes rfl rfl ?_
                            refine St.move rfl rfl ?_
                            refine St.guard_yes rfl rfl ?_
                            refine St.move rfl rfl ?_
                            refine St.guard_yes rfl rfl ?_
                            refine St.move rfl rfl ?_
                            refine St.guard_yes rfl rfl ?_
                            refine St.eql rfl rfl rfl ?_
                            refine St.guard_yes rfl rfl ?_
                            refine St.pick_false rfl rfl rfl ?_
                            refine St.pick_true rfl rfl rfl ?_
                            refine St.move rfl rfl ?_
                            refine St.split 163 rfl (fun g163 => ?_) (fun g163 => ?_)
                            · refine St.guard_yes rfl rfl ?_
                              refine St.load rfl rfl (by kernel_rfl) (by first | exact Holds.row mem0 rfl | exact Holds.row mem1 rfl | exact Holds.row mem2 rfl | exact Holds.row mem3 rfl | exact Holds.row mem4 rfl | exact Holds.row mem5 rfl | exact Holds.row mem6 rfl | exact Holds.row mem7 rfl | exact Holds.row mem8 rfl) ?_
                              refine St.guard_yes rfl rfl ?_
                              refine St.perm (EnL p e5 ov8 iv8 at8 Eo8 Ei8 ([⟨b5, [.pointer (some ⟨p, 0, none⟩)], 80⟩] :: L)) (perm_block [_] [_, _, _] L) ?_
                              refine St.call [_] rfl (by kernel_rfl) rfl (state18_spec w0 _ p _ _ _ _ _ _ hB8) (fun _ _ _ _ h => h.nil) ?_
                              rintro r12 L1 ⟨rfl, rfl⟩
                              rw [hst5]
                              refine St.guard_yes rfl rfl ?_
                              refine St.eql rfl rfl rfl ?_
                              refine St.pick_true rfl rfl rfl ?_
                              refine St.move rfl rfl ?_
                              refine St.split 168 rfl (fun g168 => ?_) (fun g168 => ?_)
                              · refine St.guard_yes rfl rfl ?_
                                refine St.call [] rfl (by kernel_rfl) rfl (awake18_spec w0 _) (by first | exact fun _ _ _ _ h => h.nil | assumption) ?_
                                rintro r13 L1 ⟨rfl, rfl⟩
                                refine St.pick_true rfl rfl rfl ?_
                                refine St.assign rfl rfl ?_
                                refine St.done ?_
                                refine SX.seq ?_
                                refine SC.ret ?_
                                first | exact SX.ret1 rfl rfl rfl | (exfalso; omega)
                              · refine St.guard_no rfl rfl rfl ?_
                                refine St.pick_false rfl rfl rfl ?_
                                refine St.assign rfl rfl ?_
                                refine St.done ?_
                                refine SX.seq ?_
                                refine SC.ret ?_
                                first | exact SX.ret1 rfl rfl rfl | (exfalso; omega)
                            · refine St.guard_no rfl rfl rfl ?_
                              refine St.guard_no rfl rfl rfl ?_
                              refine St.guard_no rfl rfl rfl ?_
                              refine St.pick_false rfl rfl rfl ?_
                              refine St.move rfl rfl ?_
                              refine St.guard_no rfl rfl rfl ?_
                              refine St.pick_false rfl rfl rfl ?_
                              refine St.assign rfl rfl ?_
                              refine St.done ?_
                              refine SX.seq ?_
                              refine SC.ret ?_
                              first | exact SX.ret1 rfl rfl rfl | (exfalso; omega)
                    · refine St.guard_no rfl rfl rfl ?_
                      refine St.guard_no rfl rfl rfl ?_
                      refine St.guard_no rfl rfl rfl ?_
                      refine St.guard_no rfl rfl rfl ?_
                      refine St.guard_yes rfl rfl ?_
                      refine St.pick_false rfl rfl rfl ?_
                      refine St.pick_false rfl rfl rfl ?_
                      refine St.done ?_
                      refine SX.seq ?_
                      refine SC.cond_false rfl ?_
                      refine SC.skip ?_
                      refine SX.seq ?_
                      refine SC.seq ?_
                      refine SC.seq ?_
                      refine SC.keep [(0, .int .i64 (m : Int)), (1, .int .i64 (k : Int)), (8, .int .i64 (f2 : Int)), (13, .int .i64 D), (14, .int .i64 F), (5, .pointer (some ⟨b5, 0, none⟩)), (6, .func (.func 69) #[] [.pointer (some ⟨b5, 0, none⟩)].toArray)] ⟨rfl, rfl, rfl, rfl, rfl, rfl, rfl, trivial⟩ ?_
                      refine SC.plain ?_
                      refine St.move rfl rfl ?_
                      refine St.geq rfl rfl rfl ?_
                      refine St.done ?_
                      refine SX.seq ?_
                      refine SC.condp rfl (fun c135 => ?_) (fun c135 => ?_)
                      · refine SC.plain ?_
                        refine St.move rfl rfl ?_
                        refine St.assign rfl rfl ?_
                        refine St.done ?_
                        refine SX.seq ?_
                        refine SC.seq ?_
                        have h8 : 1 = 1 := rfl
                        obtain ⟨e5, l5, G, F5, hout5, hst5, hsc5, hG⟩ := wS_last (n := m) (k := k) (f := f4) (at_ := t4) hm2 (by omega) hf4b (by omega) (by omega)
                        refine SC.plain ?_
                        refine St.move rfl rfl ?_
                        refine St.callv (cap := #[.pointer (some ⟨b5, 0, none⟩)]) [.int .i64 30] rfl (by kernel_rfl) rfl rfl (sent_spec w0 L b5 p (wS m k f4 t4) ov7 iv7 at7 Eo7 Ei7 hB7 30 clock30) (fun _ _ _ _ h => h.nil) ?_
                        rw [hout5]
                        dsimp only
                        rw [hsc5]
                        dsimp only
                        rintro r8 L1 ⟨rfl, ov8, iv8, at8, Eo8, Ei8, hB8, rfl⟩
                        refine St.move rfl rfl ?_
                        refine St.extract rfl rfl rfl ?_
                        refine St.extract rfl rfl rfl ?_
                        refine St.extract rfl rfl rfl ?_
                        refine St.assign rfl rfl ?_
                        refine St.assign rfl rfl ?_
                        refine St.assign rfl rfl ?_
                        refine St.done ?_
                        refine SX.seq ?_
                        refine SC.seq ?_
                        refine SC.plain ?_
                        refine St.move rfl rfl ?_
                        refine St.move rfl rfl ?_
                        refine St.guard_yes rfl rfl ?_
                        refine St.move rfl rfl ?_
                        refine St.guard_yes rfl rfl ?_
                        refine St.move rfl rfl ?_
                        refine St.guard_yes rfl rfl ?_
                        refine St.eql rfl rfl rfl ?_
                        refine St.guard_yes rfl rfl ?_
                        refine St.move rfl rfl ?_
                        refine St.split 148 rfl (fun g148 => ?_) (fun g148 => ?_)
                        · refine St.guard_yes rfl rfl ?_
                          refine St.move rfl rfl ?_
                          refine St.guard_yes rfl rfl ?_
                          refine St.move rfl rfl ?_
                          refine St.guard_yes rfl rfl ?_
                          refine St.eql rfl rfl rfl ?_
                          refine St.guard_yes rfl rfl ?_
                          refine St.pick_true rfl rfl rfl ?_
                          refine St.guard_yes rfl rfl ?_
                          refine St.move rfl rfl ?_
                          refine St.split 153 rfl (fun g153 => ?_) (fun g153 => ?_)
                          · refine St.guard_yes rfl rfl ?_
                            refine St.move rfl rfl ?_
                            refine St.guard_yes rfl rfl ?_
                            refine St.lss rfl rfl rfl ?_
                            refine St.guard_yes rfl rfl ?_
                            refine St.pick_true rfl rfl rfl ?_
                            refine St.guard_yes rfl rfl ?_
                            refine St.move rfl rfl ?_
                            refine St.split 157 rfl (fun g157 => ?_) (fun g157 => ?_)
                            · refine St.guard_no rfl rfl rfl ?_
                              refine St.guard_no rfl rfl rfl ?_
                              refine St.guard_no rfl rfl rfl ?_
                              refine St.guard_yes rfl rfl ?_
                              refine St.pick_true rfl rfl rfl ?_
                              refine St.pick_true rfl rfl rfl ?_
                              refine St.move rfl rfl ?_
                              refine St.guard_yes rfl rfl ?_
                              refine St.load rfl rfl (by kernel_rfl) (by first | exact Holds.row mem0 rfl | exact Holds.row mem1 rfl | exact Holds.row mem2 rfl | exact Holds.row mem3 rfl | exact Holds.row mem4 rfl | exact Holds.row mem5 rfl | exact Holds.row mem6 rfl | exact Holds.row mem7 rfl | exact Holds.row mem8 rfl) ?_
                              refine St.guard_yes rfl rfl ?_
                              refine St.perm (EnL p e5 ov8 iv8 at8 Eo8 Ei8 ([⟨b5, [.pointer (some ⟨p, 0, none⟩)], 80⟩] :: L)) (perm_block [_] [_, _, _] L) ?_
                              refine St.call [_] rfl (by kernel_rfl) rfl (state18_spec w0 _ p _ _ _ _ _ _ hB8) (fun _ _ _ _ h => h.nil) ?_
                              rintro r12 L1 ⟨rfl, rfl⟩
                              rw [hst5]
                              refine St.guard_yes rfl rfl ?_
                              refine St.eql rfl rfl rfl ?_
                              refine St.pick_true rfl rfl rfl ?_
                              refine St.move rfl rfl ?_
                              refine St.split 168 rfl (fun g168 => ?_) (fun g168 => ?_)
                              · refine St.guard_yes rfl rfl ?_
                                refine St.call [] rfl (by kernel_rfl) rfl (awake18_spec w0 _) (by first | exact fun _ _ _ _ h => h.nil | assumption) ?_
                                rintro r13 L1 ⟨rfl, rfl⟩
                                refine St.pick_true rfl rfl rfl ?_
                                refine St.assign rfl rfl ?_
                                refine St.done ?_
                                refine SX.seq ?_
                                refine SC.ret ?_
                                first | exact SX.ret1 rfl rfl rfl | (exfalso; omega)
                              · refine St.guard_no rfl rfl rfl ?_
                                refine St.pick_false rfl rfl rfl ?_
                                refine St.assign rfl rfl ?_
                                refine St.done ?_
                                refine SX.seq ?_
                                refine SC.ret ?_
                                first | exact SX.ret1 rfl rfl rfl | (exfalso; omega)
                            · refine St.guard_yes rfl rfl ?_
                              refine St.move rfl rfl ?_
                              refine St.guard_yes rfl rfl ?_
                              refine St.move rfl rfl ?_
                              refine St.guard_yes rfl rfl ?_
                              refine St.eql rfl rfl rfl ?_
                              refine St.guard_yes rfl rfl ?_
                              refine St.pick_false rfl rfl rfl ?_
                              refine St.pick_true rfl rfl rfl ?_
                              refine St.move rfl rfl ?_
                              refine St.split 163 rfl (fun g163 => ?_) (fun g163 => ?_)
                              · refine St.guard_yes rfl rfl ?_
                                refine St.load rfl rfl (by kernel_rfl) (by first | exact Holds.row mem0 rfl | exact Holds.row mem1 rfl | exact Holds.row mem2 rfl | exact Holds.row mem3 rfl | exact Holds.row mem4 rfl | exact Holds.row mem5 rfl | exact Holds.row mem6 rfl | exact Holds.row mem7 rfl | exact Holds.row mem8 rfl) ?_
                                refine St.guard_yes rfl rfl ?_
                                refine St.perm (EnL p e5 ov8 iv8 at8 Eo8 Ei8 ([⟨b5, [.pointer (some ⟨p, 0, none⟩)], 80⟩] :: L)) (perm_block [_] [_, _, _] L) ?_
                                refine St.call [_] rfl (by kernel_rfl) rfl (state18_spec w0 _ p _ _ _ _ _ _ hB8) (fun _ _ _ _ h => h.nil) ?_
                                rintro r12 L1 ⟨rfl, rfl⟩
                                rw [hst5]
                                refine St.guard_yes rfl rfl ?_
                                refine St.eql rfl rfl rfl ?_
                                refine St.pick_true rfl rfl rfl ?_
                                refine St.move rfl rfl ?_
                                refine St.split 168 rfl (fun g168 => ?_) (fun g168 => ?_)
                                · refine St.guard_yes rfl rfl ?_
                                  refine St.call [] rfl (by kernel_rfl) rfl (awake18_spec w0 _) (by first | exact fun _ _ _ _ h => h.nil | assumption) ?_
                                  rintro r13 L1 ⟨rfl, rfl⟩
                                  refine St.pick_true rfl rfl rfl ?_
                                  refine St.assign rfl rfl ?_
                                  refine St.done ?_
                                  refine SX.seq ?_
                                  refine SC.ret ?_
                                  first | exact SX.ret1 rfl rfl rfl | (exfalso; omega)
                                · refine St.guard_no rfl rfl rfl ?_
                                  refine St.pick_false rfl rfl rfl ?_
                                  refine St.assign rfl rfl ?_
                                  refine St.done ?_
                                  refine SX.seq ?_
                                  refine SC.ret ?_
                                  first | exact SX.ret1 rfl rfl rfl | (exfalso; omega)
                              · refine St.guard_no rfl rfl rfl ?_
                                refine St.guard_no rfl rfl rfl ?_
                                refine St.guard_no rfl rfl rfl ?_
                                refine St.pick_false rfl rfl rfl ?_
                                refine St.move rfl rfl ?_
                                refine St.guard_no rfl rfl rfl ?_
                                refine St.pick_false rfl rfl rfl ?_
                                refine St.assign rfl rfl ?_
                                refine St.done ?_
                                refine SX.seq ?_
                                refine SC.ret ?_
                                first | exact SX.ret1 rfl rfl rfl | (exfalso; omega)
                          · refine St.guard_no rfl rfl rfl ?_
                            refine St.guard_no rfl rfl rfl ?_
                            refine St.guard_yes rfl rfl ?_
                            refine St.pick_false rfl rfl rfl ?_
                            refine St.guard_yes rfl rfl ?_
                            refine St.move rfl rfl ?_
                            refine St.guard_yes rfl rfl ?_
                            refine St.move rfl rfl ?_
                            refine St.guard_yes rfl rfl ?_
                            refine St.move rfl rfl ?_
                            refine St.guard_yes rfl rfl ?_
                            refine St.eql rfl rfl rfl ?_
                            refine St.guard_yes rfl rfl ?_
                            refine St.pick_false rfl rfl rfl ?_
                            refine St.pick_true rfl rfl rfl ?_
                            refine St.move rfl rfl ?_
                            refine St.split 163 rfl (fun g163 => ?_) (fun g163 => ?_)
                            · refine St.guard_yes rfl rfl ?_
                              refine St.load rfl rfl (by kernel_rfl) (by first | exact Holds.row mem0 rfl | exact Holds.row mem1 rfl | exact Holds.row mem2 rfl | exact Holds.row mem3 rfl | exact Holds.row mem4 rfl | exact Holds.row mem5 rfl | exact Holds.row mem6 rfl | exact Holds.row mem7 rfl | exact Holds.row mem8 rfl) ?_
                              refine St.guard_yes rfl rfl ?_
                              refine St.perm (EnL p e5 ov8 iv8 at8 Eo8 Ei8 ([⟨b5, [.pointer (some ⟨p, 0, none⟩)], 80⟩] :: L)) (perm_block [_] [_, _, _] L) ?_
                              refine St.call [_] rfl (by kernel_rfl) rfl (state18_spec w0 _ p _ _ _ _ _ _ hB8) (fun _ _ _ _ h => h.nil) ?_
                              rintro r12 L1 ⟨rfl, rfl⟩
                              rw [hst5]
                              refine St.guard_yes rfl rfl ?_
                              refine St.eql rfl rfl rfl ?_
                              refine St.pick_true rfl rfl rfl ?_
                              refine St.move rfl rfl ?_
                              refine St.split 168 rfl (fun g168 => ?_) (fun g168 => ?_)
                              · refine St.guard_yes rfl rfl ?_
                                refine St.call [] rfl (by kernel_rfl) rfl (awake18_spec w0 _) (by first | exact fun _ _ _ _ h => h.nil | assumption) ?_
                                rintro r13 L1 ⟨rfl, rfl⟩
                                refine St.pick_true rfl rfl rfl ?_
                                refine St.assign rfl rfl ?_
                                refine St.done ?_
                                refine SX.seq ?_
                                refine SC.ret ?_
                                first | exact SX.ret1 rfl rfl rfl | (exfalso; omega)
                              · refine St.guard_no rfl rfl rfl ?_
                                refine St.pick_false rfl rfl rfl ?_
                                refine St.assign rfl rfl ?_
                                refine St.done ?_
                                refine SX.seq ?_
                                refine SC.ret ?_
                                first | exact SX.ret1 rfl rfl rfl | (exfalso; omega)
                            · refine St.guard_no rfl rfl rfl ?_
                              refine St.guard_no rfl rfl rfl ?_
                              refine St.guard_no rfl rfl rfl ?_
                              refine St.pick_false rfl rfl rfl ?_
                              refine St.move rfl rfl ?_
                              refine St.guard_no rfl rfl rfl ?_
                              refine St.pick_false rfl rfl rfl ?_
                              refine St.assign rfl rfl ?_
                              refine St.done ?_
                              refine SX.seq ?_
                              refine SC.ret ?_
                              first | exact SX.ret1 rfl rfl rfl | (exfalso; omega)
                        · refine St.guard_no rfl rfl rfl ?_
                          refine St.guard_no rfl rfl rfl ?_
                          refine St.guard_no rfl rfl rfl ?_
                          refine St.guard_yes rfl rfl ?_
                          refine St.pick_false rfl rfl rfl ?_
                          refine St.guard_yes rfl rfl ?_
                          refine St.move rfl rfl ?_
                          refine St.guard_no rfl rfl rfl ?_
                          refine St.guard_no rfl rfl rfl ?_
                          refine St.guard_yes rfl rfl ?_
                          refine St.pick_false rfl rfl rfl ?_
                          refine St.guard_yes rfl rfl ?_
                          refine St.move rfl rfl ?_
                          refine St.guard_yes rfl rfl ?_
                          refine St.move rfl rfl ?_
                          refine St.guard_yes rfl rfl ?_
                          refine St.move rfl rfl ?_
                          refine St.guard_yes rfl rfl ?_
                          refine St.eql rfl rfl rfl ?_
                          refine St.guard_yes rfl rfl ?_
                          refine St.pick_false rfl rfl rfl ?_
                          refine St.pick_true rfl rfl rfl ?_
                          refine St.move rfl rfl ?_
                          refine St.split 163 rfl (fun g163 => ?_) (fun g163 => ?_)
                          · refine St.guard_yes rfl rfl ?_
                            refine St.load rfl rfl (by kernel_rfl) (by first | exact Holds.row mem0 rfl | exact Holds.row mem1 rfl | exact Holds.row mem2 rfl | exact Holds.row mem3 rfl | exact Holds.row mem4 rfl | exact Holds.row mem5 rfl | exact Holds.row mem6 rfl | exact Holds.row mem7 rfl | exact Holds.row mem8 rfl) ?_
                            refine St.guard_yes rfl rfl ?_
                            refine St.perm (EnL p e5 ov8 iv8 at8 Eo8 Ei8 ([⟨b5, [.pointer (some ⟨p, 0, none⟩)], 80⟩] :: L)) (perm_block [_] [_, _, _] L) ?_
                            refine St.call [_] rfl (by kernel_rfl) rfl (state18_spec w0 _ p _ _ _ _ _ _ hB8) (fun _ _ _ _ h => h.nil) ?_
                            rintro r12 L1 ⟨rfl, rfl⟩
                            rw [hst5]
                            refine St.guard_yes rfl rfl ?_
                            refine St.eql rfl rfl rfl ?_
                            refine St.pick_true rfl rfl rfl ?_
                            refine St.move rfl rfl ?_
                            refine St.split 168 rfl (fun g168 => ?_) (fun g168 => ?_)
                            · refine St.guard_yes rfl rfl ?_
                              refine St.call [] rfl (by kernel_rfl) rfl (awake18_spec w0 _) (by first | exact fun _ _ _ _ h => h.nil | assumption) ?_
                              rintro r13 L1 ⟨rfl, rfl⟩
                              refine St.pick_true rfl rfl rfl ?_
                              refine St.assign rfl rfl ?_
                              refine St.done ?_
                              refine SX.seq ?_
                              refine SC.ret ?_
                              first | exact SX.ret1 rfl rfl rfl | (exfalso; omega)
                            · refine St.guard_no rfl rfl rfl ?_
                              refine St.pick_false rfl rfl rfl ?_
                              refine St.assign rfl rfl ?_
                              refine St.done ?_
                              refine SX.seq ?_
                              refine SC.ret ?_
                              first | exact SX.ret1 rfl rfl rfl | (exfalso; omega)
                          · refine St.guard_no rfl rfl rfl ?_
                            refine St.guard_no rfl rfl rfl ?_
                            refine St.guard_no rfl rfl rfl ?_
                            refine St.pick_false rfl rfl rfl ?_
                            refine St.move rfl rfl ?_
                            refine St.guard_no rfl rfl rfl ?_
                            refine St.pick_false rfl rfl rfl ?_
                            refine St.assign rfl rfl ?_
                            refine St.done ?_
                            refine SX.seq ?_
                            refine SC.ret ?_
                            first | exact SX.ret1 rfl rfl rfl | (exfalso; omega)
                      · refine SC.skip ?_
                        refine SX.seq ?_
                        refine SC.seq ?_
                        have h8 : 1 = 1 := rfl
                        obtain ⟨e5, l5, G, F5, hout5, hst5, hsc5, hG⟩ := wS_last (n := m) (k := k) (f := f4) (at_ := t4) hm2 (by omega) hf4b (by omega) (by omega)
                        refine SC.plain ?_
                        refine St.move rfl rfl ?_
                        refine St.callv (cap := #[.pointer (some ⟨b5, 0, none⟩)]) [.int .i64 30] rfl (by kernel_rfl) rfl rfl (sent_spec w0 L b5 p (wS m k f4 t4) ov7 iv7 at7 Eo7 Ei7 hB7 30 clock30) (fun _ _ _ _ h => h.nil) ?_
                        rw [hout5]
                        dsimp only
                        rw [hsc5]
                        dsimp only
                        rintro r8 L1 ⟨rfl, ov8, iv8, at8, Eo8, Ei8, hB8, rfl⟩
                        refine St.move rfl rfl ?_
                        refine St.extract rfl rfl rfl ?_
                        refine St.extract rfl rfl rfl ?_
                        refine St.extract rfl rfl rfl ?_
                        refine St.assign rfl rfl ?_
                        refine St.assign rfl rfl ?_
                        refine St.assign rfl rfl ?_
                        refine St.done ?_
                        refine SX.seq ?_
                        refine SC.seq ?_
                        refine SC.plain ?_
                        refine St.move rfl rfl ?_
                        refine St.move rfl rfl ?_
                        refine St.guard_yes rfl rfl ?_
                        refine St.move rfl rfl ?_
                        refine St.guard_yes rfl rfl ?_
                        refine St.move rfl rfl ?_
                        refine St.guard_yes rfl rfl ?_
                        refine St.eql rfl rfl rfl ?_
                        refine St.guard_yes rfl rfl ?_
                        refine St.move rfl rfl ?_
                        refine St.split 148 rfl (fun g148 => ?_) (fun g148 => ?_)
                        · refine St.guard_yes rfl rfl ?_
                          refine St.move rfl rfl ?_
                          refine St.guard_yes rfl rfl ?_
                          refine St.move rfl rfl ?_
                          refine St.guard_yes rfl rfl ?_
                          refine St.eql rfl rfl rfl ?_
                          refine St.guard_yes rfl rfl ?_
                          refine St.pick_true rfl rfl rfl ?_
                          refine St.guard_yes rfl rfl ?_
                          refine St.move rfl rfl ?_
                          refine St.split 153 rfl (fun g153 => ?_) (fun g153 => ?_)
                          · refine St.guard_yes rfl rfl ?_
                            refine St.move rfl rfl ?_
                            refine St.guard_yes rfl rfl ?_
                            refine St.lss rfl rfl rfl ?_
                            refine St.guard_yes rfl rfl ?_
                            refine St.pick_true rfl rfl rfl ?_
                            refine St.guard_yes rfl rfl ?_
                            refine St.move rfl rfl ?_
                            refine St.split 157 rfl (fun g157 => ?_) (fun g157 => ?_)
                            · refine St.guard_no rfl rfl rfl ?_
                              refine St.guard_no rfl rfl rfl ?_
                              refine St.guard_no rfl rfl rfl ?_
                              refine St.guard_yes rfl rfl ?_
                              refine St.pick_true rfl rfl rfl ?_
                              refine St.pick_true rfl rfl rfl ?_
                              refine St.move rfl rfl ?_
                              refine St.guard_yes rfl rfl ?_
                              refine St.load rfl rfl (by kernel_rfl) (by first | exact Holds.row mem0 rfl | exact Holds.row mem1 rfl | exact Holds.row mem2 rfl | exact Holds.row mem3 rfl | exact Holds.row mem4 rfl | exact Holds.row mem5 rfl | exact Holds.row mem6 rfl | exact Holds.row mem7 rfl | exact Holds.row mem8 rfl) ?_
                              refine St.guard_yes rfl rfl ?_
                              refine St.perm (EnL p e5 ov8 iv8 at8 Eo8 Ei8 ([⟨b5, [.pointer (some ⟨p, 0, none⟩)], 80⟩] :: L)) (perm_block [_] [_, _, _] L) ?_
                              refine St.call [_] rfl (by kernel_rfl) rfl (state18_spec w0 _ p _ _ _ _ _ _ hB8) (fun _ _ _ _ h => h.nil) ?_
                              rintro r12 L1 ⟨rfl, rfl⟩
                              rw [hst5]
                              refine St.guard_yes rfl rfl ?_
                              refine St.eql rfl rfl rfl ?_
                              refine St.pick_true rfl rfl rfl ?_
                              refine St.move rfl rfl ?_
                              refine St.split 168 rfl (fun g168 => ?_) (fun g168 => ?_)
                              · refine St.guard_yes rfl rfl ?_
                                refine St.call [] rfl (by kernel_rfl) rfl (awake18_spec w0 _) (by first | exact fun _ _ _ _ h => h.nil | assumption) ?_
                                rintro r13 L1 ⟨rfl, rfl⟩
                                refine St.pick_true rfl rfl rfl ?_
                                refine St.assign rfl rfl ?_
                                refine St.done ?_
                                refine SX.seq ?_
                                refine SC.ret ?_
                                first | exact SX.ret1 rfl rfl rfl | (exfalso; omega)
                              · refine St.guard_no rfl rfl rfl ?_
                                refine St.pick_false rfl rfl rfl ?_
                                refine St.assign rfl rfl ?_
                                refine St.done ?_
                                refine SX.seq ?_
                                refine SC.ret ?_
                                first | exact SX.ret1 rfl rfl rfl | (exfalso; omega)
                            · refine St.guard_yes rfl rfl ?_
                              refine St.move rfl rfl ?_
                              refine St.guard_yes rfl rfl ?_
                              refine St.move rfl rfl ?_
                              refine St.guard_yes rfl rfl ?_
                              refine St.eql rfl rfl rfl ?_
                              refine St.guard_yes rfl rfl ?_
                              refine St.pick_false rfl rfl rfl ?_
                              refine St.pick_true rfl rfl rfl ?_
                              refine St.move rfl rfl ?_
                              refine St.split 163 rfl (fun g163 => ?_) (fun g163 => ?_)
                              · refine St.guard_yes rfl rfl ?_
                                refine St.load rfl rfl (by kernel_rfl) (by first | exact Holds.row mem0 rfl | exact Holds.row mem1 rfl | exact Holds.row mem2 rfl | exact Holds.row mem3 rfl | exact Holds.row mem4 rfl | exact Holds.row mem5 rfl | exact Holds.row mem6 rfl | exact Holds.row mem7 rfl | exact Holds.row mem8 rfl) ?_
                                refine St.guard_yes rfl rfl ?_
                                refine St.perm (EnL p e5 ov8 iv8 at8 Eo8 Ei8 ([⟨b5, [.pointer (some ⟨p, 0, none⟩)], 80⟩] :: L)) (perm_block [_] [_, _, _] L) ?_
                                refine St.call [_] rfl (by kernel_rfl) rfl (state18_spec w0 _ p _ _ _ _ _ _ hB8) (fun _ _ _ _ h => h.nil) ?_
                                rintro r12 L1 ⟨rfl, rfl⟩
                                rw [hst5]
                                refine St.guard_yes rfl rfl ?_
                                refine St.eql rfl rfl rfl ?_
                                refine St.pick_true rfl rfl rfl ?_
                                refine St.move rfl rfl ?_
                                refine St.split 168 rfl (fun g168 => ?_) (fun g168 => ?_)
                                · refine St.guard_yes rfl rfl ?_
                                  refine St.call [] rfl (by kernel_rfl) rfl (awake18_spec w0 _) (by first | exact fun _ _ _ _ h => h.nil | assumption) ?_
                                  rintro r13 L1 ⟨rfl, rfl⟩
                                  refine St.pick_true rfl rfl rfl ?_
                                  refine St.assign rfl rfl ?_
                                  refine St.done ?_
                                  refine SX.seq ?_
                                  refine SC.ret ?_
                                  first | exact SX.ret1 rfl rfl rfl | (exfalso; omega)
                                · refine St.guard_no rfl rfl rfl ?_
                                  refine St.pick_false rfl rfl rfl ?_
                                  refine St.assign rfl rfl ?_
                                  refine St.done ?_
                                  refine SX.seq ?_
                                  refine SC.ret ?_
                                  first | exact SX.ret1 rfl rfl rfl | (exfalso; omega)
                              · refine St.guard_no rfl rfl rfl ?_
                                refine St.guard_no rfl rfl rfl ?_
                                refine St.guard_no rfl rfl rfl ?_
                                refine St.pick_false rfl rfl rfl ?_
                                refine St.move rfl rfl ?_
                                refine St.guard_no rfl rfl rfl ?_
                                refine St.pick_false rfl rfl rfl ?_
                                refine St.assign rfl rfl ?_
                                refine St.done ?_
                                refine SX.seq ?_
                                refine SC.ret ?_
                                first | exact SX.ret1 rfl rfl rfl | (exfalso; omega)
                          · refine St.guard_no rfl rfl rfl ?_
                            refine St.guard_no rfl rfl rfl ?_
                            refine St.guard_yes rfl rfl ?_
                            refine St.pick_false rfl rfl rfl ?_
                            refine St.guard_yes rfl rfl ?_
                            refine St.move rfl rfl ?_
                            refine St.guard_yes rfl rfl ?_
                            refine St.move rfl rfl ?_
                            refine St.guard_yes rfl rfl ?_
                            refine St.move rfl rfl ?_
                            refine St.guard_yes rfl rfl ?_
                            refine St.eql rfl rfl rfl ?_
                            refine St.guard_yes rfl rfl ?_
                            refine St.pick_false rfl rfl rfl ?_
                            refine St.pick_true rfl rfl rfl ?_
                            refine St.move rfl rfl ?_
                            refine St.split 163 rfl (fun g163 => ?_) (fun g163 => ?_)
                            · refine St.guard_yes rfl rfl ?_
                              refine St.load rfl rfl (by kernel_rfl) (by first | exact Holds.row mem0 rfl | exact Holds.row mem1 rfl | exact Holds.row mem2 rfl | exact Holds.row mem3 rfl | exact Holds.row mem4 rfl | exact Holds.row mem5 rfl | exact Holds.row mem6 rfl | exact Holds.row mem7 rfl | exact Holds.row mem8 rfl) ?_
                              refine St.guard_yes rfl rfl ?_
                              refine St.perm (EnL p e5 ov8 iv8 at8 Eo8 Ei8 ([⟨b5, [.pointer (some ⟨p, 0, none⟩)], 80⟩] :: L)) (perm_block [_] [_, _, _] L) ?_
                              refine St.call [_] rfl (by kernel_rfl) rfl (state18_spec w0 _ p _ _ _ _ _ _ hB8) (fun _ _ _ _ h => h.nil) ?_
                              rintro r12 L1 ⟨rfl, rfl⟩
                              rw [hst5]
                              refine St.guard_yes rfl rfl ?_
                              refine St.eql rfl rfl rfl ?_
                              refine St.pick_true rfl rfl rfl ?_
                              refine St.move rfl rfl ?_
                              refine St.split 168 rfl (fun g168 => ?_) (fun g168 => ?_)
                              · refine St.guard_yes rfl rfl ?_
                                refine St.call [] rfl (by kernel_rfl) rfl (awake18_spec w0 _) (by first | exact fun _ _ _ _ h => h.nil | assumption) ?_
                                rintro r13 L1 ⟨rfl, rfl⟩
                                refine St.pick_true rfl rfl rfl ?_
                                refine St.assign rfl rfl ?_
                                refine St.done ?_
                                refine SX.seq ?_
                                refine SC.ret ?_
                                first | exact SX.ret1 rfl rfl rfl | (exfalso; omega)
                              · refine St.guard_no rfl rfl rfl ?_
                                refine St.pick_false rfl rfl rfl ?_
                                refine St.assign rfl rfl ?_
                                refine St.done ?_
                                refine SX.seq ?_
                                refine SC.ret ?_
                                first | exact SX.ret1 rfl rfl rfl | (exfalso; omega)
                            · refine St.guard_no rfl rfl rfl ?_
                              refine St.guard_no rfl rfl rfl ?_
                              refine St.guard_no rfl rfl rfl ?_
                              refine St.pick_false rfl rfl rfl ?_
                              refine St.move rfl rfl ?_
                              refine St.guard_no rfl rfl rfl ?_
                              refine St.pick_false rfl rfl rfl ?_
                              refine St.assign rfl rfl ?_
                              refine St.done ?_
                              refine SX.seq ?_
                              refine SC.ret ?_
                              first | exact SX.ret1 rfl rfl rfl | (exfalso; omega)
                        · refine St.guard_no rfl rfl rfl ?_
                          refine St.guard_no rfl rfl rfl ?_
                          refine St.guard_no rfl rfl rfl ?_
                          refine St.guard_yes rfl rfl ?_
                          refine St.pick_false rfl rfl rfl ?_
                          refine St.guard_yes rfl rfl ?_
                          refine St.move rfl rfl ?_
                          refine St.guard_no rfl rfl rfl ?_
                          refine St.guard_no rfl rfl rfl ?_
                          refine St.guard_yes rfl rfl ?_
                          refine St.pick_false rfl rfl rfl ?_
                          refine St.guard_yes rfl rfl ?_
                          refine St.move rfl rfl ?_
                          refine St.guard_yes rfl rfl ?_
                          refine St.move rfl rfl ?_
                          refine St.guard_yes rfl rfl ?_
                          refine St.move rfl rfl ?_
                          refine St.guard_yes rfl rfl ?_
                          refine St.eql rfl rfl rfl ?_
                          refine St.guard_yes rfl rfl ?_
                          refine St.pick_false rfl rfl rfl ?_
                          refine St.pick_true rfl rfl rfl ?_
                          refine St.move rfl rfl ?_
                          refine St.split 163 rfl (fun g163 => ?_) (fun g163 => ?_)
                          · refine St.guard_yes rfl rfl ?_
                            refine St.load rfl rfl (by kernel_rfl) (by first | exact Holds.row mem0 rfl | exact Holds.row mem1 rfl | exact Holds.row mem2 rfl | exact Holds.row mem3 rfl | exact Holds.row mem4 rfl | exact Holds.row mem5 rfl | exact Holds.row mem6 rfl | exact Holds.row mem7 rfl | exact Holds.row mem8 rfl) ?_
                            refine St.guard_yes rfl rfl ?_
                            refine St.perm (EnL p e5 ov8 iv8 at8 Eo8 Ei8 ([⟨b5, [.pointer (some ⟨p, 0, none⟩)], 80⟩] :: L)) (perm_block [_] [_, _, _] L) ?_
                            refine St.call [_] rfl (by kernel_rfl) rfl (state18_spec w0 _ p _ _ _ _ _ _ hB8) (fun _ _ _ _ h => h.nil) ?_
                            rintro r12 L1 ⟨rfl, rfl⟩
                            rw [hst5]
                            refine St.guard_yes rfl rfl ?_
                            refine St.eql rfl rfl rfl ?_
                            refine St.pick_true rfl rfl rfl ?_
                            refine St.move rfl rfl ?_
                            refine St.split 168 rfl (fun g168 => ?_) (fun g168 => ?_)
                            · refine St.guard_yes rfl rfl ?_
                              refine St.call [] rfl (by kernel_rfl) rfl (awake18_spec w0 _) (by first | exact fun _ _ _ _ h => h.nil | assumption) ?_
                              rintro r13 L1 ⟨rfl, rfl⟩
                              refine St.pick_true rfl rfl rfl ?_
                              refine St.assign rfl rfl ?_
                              refine St.done ?_
                              refine SX.seq ?_
                              refine SC.ret ?_
                              first | exact SX.ret1 rfl rfl rfl | (exfalso; omega)
                            · refine St.guard_no rfl rfl rfl ?_
                              refine St.pick_false rfl rfl rfl ?_
                              refine St.assign rfl rfl ?_
                              refine St.done ?_
                              refine SX.seq ?_
                              refine SC.ret ?_
                              first | exact SX.ret1 rfl rfl rfl | (exfalso; omega)
                          · refine St.guard_no rfl rfl rfl ?_
                            refine St.guard_no rfl rfl rfl ?_
                            refine St.guard_no rfl rfl rfl ?_
                            refine St.pick_false rfl rfl rfl ?_
                            refine St.move rfl rfl ?_
                            refine St.guard_no rfl rfl rfl ?_
                            refine St.pick_false rfl rfl rfl ?_
                            refine St.assign rfl rfl ?_
                            refine St.done ?_
                            refine SX.seq ?_
                            refine SC.ret ?_
                            first | exact SX.ret1 rfl rfl rfl | (exfalso; omega)
                  · refine St.guard_no rfl rfl rfl ?_
                    refine St.guard_no rfl rfl rfl ?_
                    refine St.guard_no rfl rfl rfl ?_
                    refine St.guard_yes rfl rfl ?_
                    refine St.pick_false rfl rfl rfl ?_
                    refine St.guard_yes rfl rfl ?_
                    refine St.move rfl rfl ?_
                    refine St.guard_no rfl rfl rfl ?_
                    refine St.guard_no rfl rfl rfl ?_
                    refine St.guard_no rfl rfl rfl ?_
                    refine St.guard_no rfl rfl rfl ?_
                    refine St.guard_yes rfl rfl ?_
                    refine St.pick_false rfl rfl rfl ?_
                    refine St.pick_false rfl rfl rfl ?_
                    refine St.done ?_
                    refine SX.seq ?_
                    refine SC.cond_false rfl ?_
                    refine SC.skip ?_
                    refine SX.seq ?_
                    refine SC.seq ?_
                    refine SC.seq ?_
                    refine SC.keep [(0, .int .i64 (m : Int)), (1, .int .i64 (k : Int)), (8, .int .i64 (f2 : Int)), (13, .int .i64 D), (14, .int .i64 F), (5, .pointer (some ⟨b5, 0, none⟩)), (6, .func (.func 69) #[] [.pointer (some ⟨b5, 0, none⟩)].toArray)] ⟨rfl, rfl, rfl, rfl, rfl, rfl, rfl, trivial⟩ ?_
                    refine SC.plain ?_
                    refine St.move rfl rfl ?_
                    refine St.geq rfl rfl rfl ?_
                    refine St.done ?_
                    refine SX.seq ?_
                    refine SC.condp rfl (fun c135 => ?_) (fun c135 => ?_)
                    · refine SC.plain ?_
                      refine St.move rfl rfl ?_
                      refine St.assign rfl rfl ?_
                      refine St.done ?_
                      refine SX.seq ?_
                      refine SC.seq ?_
                      have h8 : 1 = 1 := rfl
                      obtain ⟨e5, l5, G, F5, hout5, hst5, hsc5, hG⟩ := wS_last (n := m) (k := k) (f := f4) (at_ := t4) hm2 (by omega) hf4b (by omega) (by omega)
                      refine SC.plain ?_
                      refine St.move rfl rfl ?_
                      refine St.callv (cap := #[.pointer (some ⟨b5, 0, none⟩)]) [.int .i64 30] rfl (by kernel_rfl) rfl rfl (sent_spec w0 L b5 p (wS m k f4 t4) ov7 iv7 at7 Eo7 Ei7 hB7 30 clock30) (fun _ _ _ _ h => h.nil) ?_
                      rw [hout5]
                      dsimp only
                      rw [hsc5]
                      dsimp only
                      rintro r8 L1 ⟨rfl, ov8, iv8, at8, Eo8, Ei8, hB8, rfl⟩
                      refine St.move rfl rfl ?_
                      refine St.extract rfl rfl rfl ?_
                      refine St.extract rfl rfl rfl ?_
                      refine St.extract rfl rfl rfl ?_
                      refine St.assign rfl rfl ?_
                      refine St.assign rfl rfl ?_
                      refine St.assign rfl rfl ?_
                      refine St.done ?_
                      refine SX.seq ?_
                      refine SC.seq ?_
                      refine SC.plain ?_
                      refine St.move rfl rfl ?_
                      refine St.move rfl rfl ?_
                      refine St.guard_yes rfl rfl ?_
                      refine St.move rfl rfl ?_
                      refine St.guard_yes rfl rfl ?_
                      refine St.move rfl rfl ?_
                      refine St.guard_yes rfl rfl ?_
                      refine St.eql rfl rfl rfl ?_
                      refine St.guard_yes rfl rfl ?_
                      refine St.move rfl rfl ?_
                      refine St.split 148 rfl (fun g148 => ?_) (fun g148 => ?_)
                      · refine St.guard_yes rfl rfl ?_
                        refine St.move rfl rfl ?_
                        refine St.guard_yes rfl rfl ?_
                        refine St.move rfl rfl ?_
                        refine St.guard_yes rfl rfl ?_
                        refine St.eql rfl rfl rfl ?_
                        refine St.guard_yes rfl rfl ?_
                        refine St.pick_true rfl rfl rfl ?_
                        refine St.guard_yes rfl rfl ?_
                        refine St.move rfl rfl ?_
                        refine St.split 153 rfl (fun g153 => ?_) (fun g153 => ?_)
                        · refine St.guard_yes rfl rfl ?_
                          refine St.move rfl rfl ?_
                          refine St.guard_yes rfl rfl ?_
                          refine St.lss rfl rfl rfl ?_
                          refine St.guard_yes rfl rfl ?_
                          refine St.pick_true rfl rfl rfl ?_
                          refine St.guard_yes rfl rfl ?_
                          refine St.move rfl rfl ?_
                          refine St.split 157 rfl (fun g157 => ?_) (fun g157 => ?_)
                          · refine St.guard_no rfl rfl rfl ?_
                            refine St.guard_no rfl rfl rfl ?_
                            refine St.guard_no rfl rfl rfl ?_
                            refine St.guard_yes rfl rfl ?_
                            refine St.pick_true rfl rfl rfl ?_
                            refine St.pick_true rfl rfl rfl ?_
                            refine St.move rfl rfl ?_
                            refine St.guard_yes rfl rfl ?_
                            refine St.load rfl rfl (by kernel_rfl) (by first | exact Holds.row mem0 rfl | exact Holds.row mem1 rfl | exact Holds.row mem2 rfl | exact Holds.row mem3 rfl | exact Holds.row mem4 rfl | exact Holds.row mem5 rfl | exact Holds.row mem6 rfl | exact Holds.row mem7 rfl | exact Holds.row mem8 rfl) ?_
                            refine St.guard_yes rfl rfl ?_
                            refine St.perm (EnL p e5 ov8 iv8 at8 Eo8 Ei8 ([⟨b5, [.pointer (some ⟨p, 0, none⟩)], 80⟩] :: L)) (perm_block [_] [_, _, _] L) ?_
                            refine St.call [_] rfl (by kernel_rfl) rfl (state18_spec w0 _ p _ _ _ _ _ _ hB8) (fun _ _ _ _ h => h.nil) ?_
                            rintro r12 L1 ⟨rfl, rfl⟩
                            rw [hst5]
                            refine St.guard_yes rfl rfl ?_
                            refine St.eql rfl rfl rfl ?_
                            refine St.pick_true rfl rfl rfl ?_
                            refine St.move rfl rfl ?_
                            refine St.split 168 rfl (fun g168 => ?_) (fun g168 => ?_)
                            · refine St.guard_yes rfl rfl ?_
                              refine St.call [] rfl (by kernel_rfl) rfl (awake18_spec w0 _) (by first | exact fun _ _ _ _ h => h.nil | assumption) ?_
                              rintro r13 L1 ⟨rfl, rfl⟩
                              refine St.pick_true rfl rfl rfl ?_
                              refine St.assign rfl rfl ?_
                              refine St.done ?_
                              refine SX.seq ?_
                              refine SC.ret ?_
                              first | exact SX.ret1 rfl rfl rfl | (exfalso; omega)
                            · refine St.guard_no rfl rfl rfl ?_
                              refine St.pick_false rfl rfl rfl ?_
                              refine St.assign rfl rfl ?_
                              refine St.done ?_
                              refine SX.seq ?_
                              refine SC.ret ?_
                              first | exact SX.ret1 rfl rfl rfl | (exfalso; omega)
                          · refine St.guard_yes rfl rfl ?_
                            refine St.move rfl rfl ?_
                            refine St.guard_yes rfl rfl ?_
                            refine St.move rfl rfl ?_
                            refine St.guard_yes rfl rfl ?_
                            refine St.eql rfl rfl rfl ?_
                            refine St.guard_yes rfl rfl ?_
                            refine St.pick_false rfl rfl rfl ?_
                            refine St.pick_true rfl rfl rfl ?_
                            refine St.move rfl rfl ?_
                            refine St.split 163 rfl (fun g163 => ?_) (fun g163 => ?_)
                            · refine St.guard_yes rfl rfl ?_
                              refine St.load rfl rfl (by kernel_rfl) (by first | exact Holds.row mem0 rfl | exact Holds.row mem1 rfl | exact Holds.row mem2 rfl | exact Holds.row mem3 rfl | exact Holds.row mem4 rfl | exact Holds.row mem5 rfl | exact Holds.row mem6 rfl | exact Holds.row mem7 rfl | exact Holds.row mem8 rfl) ?_
                              refine St.guard_yes rfl rfl ?_
                              refine St.perm (EnL p e5 ov8 iv8 at8 Eo8 Ei8 ([⟨b5, [.pointer (some ⟨p, 0, none⟩)], 80⟩] :: L)) (perm_block [_] [_, _, _] L) ?_
                              refine St.call [_] rfl (by kernel_rfl) rfl (state18_spec w0 _ p _ _ _ _ _ _ hB8) (fun _ _ _ _ h => h.nil) ?_
                              rintro r12 L1 ⟨rfl, rfl⟩
                              rw [hst5]
                              refine St.guard_yes rfl rfl ?_
                              refine St.eql rfl rfl rfl ?_
                              refine St.pick_true rfl rfl rfl ?_
                              refine St.move rfl rfl ?_
                              refine St.split 168 rfl (fun g168 => ?_) (fun g168 => ?_)
                              · refine St.guard_yes rfl rfl ?_
                                refine St.call [] rfl (by kernel_rfl) rfl (awake18_spec w0 _) (by first | exact fun _ _ _ _ h => h.nil | assumption) ?_
                                rintro r13 L1 ⟨rfl, rfl⟩
                                refine St.pick_true rfl rfl rfl ?_
                                refine St.assign rfl rfl ?_
                                refine St.done ?_
                                refine SX.seq ?_
                                refine SC.ret ?_
                                first | exact SX.ret1 rfl rfl rfl | (exfalso; omega)
                              · refine St.guard_no rfl rfl rfl ?_
                                refine St.pick_false rfl rfl rfl ?_
                                refine St.assign rfl rfl ?_
                                refine St.done ?_
                                refine SX.seq ?_
                                refine SC.ret ?_
                                first | exact SX.ret1 rfl rfl rfl | (exfalso; omega)
                            · refine St.guard_no rfl rfl rfl ?_
                              refine St.guard_no rfl rfl rfl ?_
                              refine St.guard_no rfl rfl rfl ?_
                              refine St.pick_false rfl rfl rfl ?_
                              refine St.move rfl rfl ?_
                              refine St.guard_no rfl rfl rfl ?_
                              refine St.pick_false rfl rfl rfl ?_
                              refine St.assign rfl rfl ?_
                              refine St.done ?_
                              refine SX.seq ?_
                              refine SC.ret ?_
                              first | exact SX.ret1 rfl rfl rfl | (exfalso; omega)
                        · refine St.guard_no rfl rfl rfl ?_
                          refine St.guard_no rfl rfl rfl ?_
                          refine St.guard_yes rfl rfl ?_
                          refine St.pick_false rfl rfl rfl ?_
                          refine St.guard_yes rfl rfl ?_
                          refine St.move rfl rfl ?_
                          refine St.guard_yes rfl rfl ?_
                          refine St.move rfl rfl ?_
                          refine St.guard_yes rfl rfl ?_
                          refine St.move rfl rfl ?_
                          refine St.guard_yes rfl rfl ?_
                          refine St.eql rfl rfl rfl ?_
                          refine St.guard_yes rfl rfl ?_
                          refine St.pick_false rfl rfl rfl ?_
                          refine St.pick_true rfl rfl rfl ?_
                          refine St.move rfl rfl ?_
                          refine St.split 163 rfl (fun g163 => ?_) (fun g163 => ?_)
                          · refine St.guard_yes rfl rfl ?_
                            refine St.load rfl rfl (by kernel_rfl) (by first | exact Holds.row mem0 rfl | exact Holds.row mem1 rfl | exact Holds.row mem2 rfl | exact Holds.row mem3 rfl | exact Holds.row mem4 rfl | exact Holds.row mem5 rfl | exact Holds.row mem6 rfl | exact Holds.row mem7 rfl | exact Holds.row mem8 rfl) ?_
                            refine St.guard_yes rfl rfl ?_
                            refine St.perm (EnL p e5 ov8 iv8 at8 Eo8 Ei8 ([⟨b5, [.pointer (some ⟨p, 0, none⟩)], 80⟩] :: L)) (perm_block [_] [_, _, _] L) ?_
                            refine St.call [_] rfl (by kernel_rfl) rfl (state18_spec w0 _ p _ _ _ _ _ _ hB8) (fun _ _ _ _ h => h.nil) ?_
                            rintro r12 L1 ⟨rfl, rfl⟩
                            rw [hst5]
                            refine St.guard_yes rfl rfl ?_
                            refine St.eql rfl rfl rfl ?_
                            refine St.pick_true rfl rfl rfl ?_
                            refine St.move rfl rfl ?_
                            refine St.split 168 rfl (fun g168 => ?_) (fun g168 => ?_)
                            · refine St.guard_yes rfl rfl ?_
                              refine St.call [] rfl (by kernel_rfl) rfl (awake18_spec w0 _) (by first | exact fun _ _ _ _ h => h.nil | assumption) ?_
                              rintro r13 L1 ⟨rfl, rfl⟩
                              refine St.pick_true rfl rfl rfl ?_
                              refine St.assign rfl rfl ?_
                              refine St.done ?_
                              refine SX.seq ?_
                              refine SC.ret ?_
                              first | exact SX.ret1 rfl rfl rfl | (exfalso; omega)
                            · refine St.guard_no rfl rfl rfl ?_
                              refine St.pick_false rfl rfl rfl ?_
                              refine St.assign rfl rfl ?_
                              refine St.done ?_
                              refine SX.seq ?_
                              refine SC.ret ?_
                              first | exact SX.ret1 rfl rfl rfl | (exfalso; omega)
                          · refine St.guard_no rfl rfl rfl ?_
                            refine St.guard_no rfl rfl rfl ?_
                            refine St.guard_no rfl rfl rfl ?_
                            refine St.pick_false rfl rfl rfl ?_
                            refine St.move rfl rfl ?_
                            refine St.guard_no rfl rfl rfl ?_
                            refine St.pick_false rfl rfl rfl ?_
                            refine St.assign rfl rfl ?_
                            refine St.done ?_
                            refine SX.seq ?_
                            refine SC.ret ?_
                            first | exact SX.ret1 rfl rfl rfl | (exfalso; omega)
                      · refine St.guard_no rfl rfl rfl ?_
                        refine St.guard_no rfl rfl rfl ?_
                        refine St.guard_no rfl rfl rfl ?_
                        refine St.guard_yes rfl rfl ?_
                        refine St.pick_false rfl rfl rfl ?_
                        refine St.guard_yes rfl rfl ?_
                        refine St.move rfl rfl ?_
                        refine St.guard_no rfl rfl rfl ?_
                        refine St.guard_no rfl rfl rfl ?_
                        refine St.guard_yes rfl rfl ?_
                        refine St.pick_false rfl rfl rfl ?_
                        refine St.guard_yes rfl rfl ?_
                        refine St.move rfl rfl ?_
                        refine St.guard_yes rfl rfl ?_
                        refine St.move rfl rfl ?_
                        refine St.guard_yes rfl rfl ?_
                        refine St.move rfl rfl ?_
                        refine St.guard_yes rfl rfl ?_
                        refine St.eql rfl rfl rfl ?_
                        refine St.guard_yes rfl rfl ?_
                        refine St.pick_false rfl rfl rfl ?_
                        refine St.pick_true rfl rfl rfl ?_
                        refine St.move rfl rfl ?_
                        refine St.split 163 rfl (fun g163 => ?_) (fun g163 => ?_)
                        · refine St.guard_yes rfl rfl ?_
                          refine St.load rfl rfl (by kernel_rfl) (by first | exact Holds.row mem0 rfl | exact Holds.row mem1 rfl | exact Holds.row mem2 rfl | exact Holds.row mem3 rfl | exact Holds.row mem4 rfl | exact Holds.row mem5 rfl | exact Holds.row mem6 rfl | exact Holds.row mem7 rfl | exact Holds.row mem8 rfl) ?_
                          refine St.guard_yes rfl rfl ?_
                          refine St.perm (EnL p e5 ov8 iv8 at8 Eo8 Ei8 ([⟨b5, [.pointer (some ⟨p, 0, none⟩)], 80⟩] :: L)) (perm_block [_] [_, _, _] L) ?_
                          refine St.call [_] rfl (by kernel_rfl) rfl (state18_spec w0 _ p _ _ _ _ _ _ hB8) (fun _ _ _ _ h => h.nil) ?_
                          rintro r12 L1 ⟨rfl, rfl⟩
                          rw [hst5]
                          refine St.guard_yes rfl rfl ?_
                          refine St.eql rfl rfl rfl ?_
                          refine St.pick_true rfl rfl rfl ?_
                          refine St.move rfl rfl ?_
                          refine St.split 168 rfl (fun g168 => ?_) (fun g168 => ?_)
                          · refine St.guard_yes rfl rfl ?_
                            refine St.call [] rfl (by kernel_rfl) rfl (awake18_spec w0 _) (by first | exact fun _ _ _ _ h => h.nil | assumption) ?_
                            rintro r13 L1 ⟨rfl, rfl⟩
                            refine St.pick_true rfl rfl rfl ?_
                            refine St.assign rfl rfl ?_
                            refine St.done ?_
                            refine SX.seq ?_
                            refine SC.ret ?_
                            first | exact SX.ret1 rfl rfl rfl | (exfalso; omega)
                          · refine St.guard_no rfl rfl rfl ?_
                            refine St.pick_false rfl rfl rfl ?_
                            refine St.assign rfl rfl ?_
                            refine St.done ?_
                            refine SX.seq ?_
                            refine SC.ret ?_
                            first | exact SX.ret1 rfl rfl rfl | (exfalso; omega)
                        · refine St.guard_no rfl rfl rfl ?_
                          refine St.guard_no rfl rfl rfl ?_
                          refine St.guard_no rfl rfl rfl ?_
                          refine St.pick_false rfl rfl rfl ?_
                          refine St.move rfl rfl ?_
                          refine St.guard_no rfl rfl rfl ?_
                          refine St.pick_false rfl rfl rfl ?_
                          refine St.assign rfl rfl ?_
                          refine St.done ?_
                          refine SX.seq ?_
                          refine SC.ret ?_
                          first | exact SX.ret1 rfl rfl rfl | (exfalso; omega)
                    · refine SC.skip ?_
                      refine SX.seq ?_
                      refine SC.seq ?_
                      have h8 : 1 = 1 := rfl
                      obtain ⟨e5, l5, G, F5, hout5, hst5, hsc5, hG⟩ := wS_last (n := m) (k := k) (f := f4) (at_ := t4) hm2 (by omega) hf4b (by omega) (by omega)
                      refine SC.plain ?_
                      refine St.move rfl rfl ?_
                      refine St.callv (cap := #[.pointer (some ⟨b5, 0, none⟩)]) [.int .i64 30] rfl (by kernel_rfl) rfl rfl (sent_spec w0 L b5 p (wS m k f4 t4) ov7 iv7 at7 Eo7 Ei7 hB7 30 clock30) (fun _ _ _ _ h => h.nil) ?_
                      rw [hout5]
                      dsimp only
                      rw [hsc5]
                      dsimp only
                      rintro r8 L1 ⟨rfl, ov8, iv8, at8, Eo8, Ei8, hB8, rfl⟩
                      refine St.move rfl rfl ?_
                      refine St.extract rfl rfl rfl ?_
                      refine St.extract rfl rfl rfl ?_
                      refine St.extract rfl rfl rfl ?_
                      refine St.assign rfl rfl ?_
                      refine St.assign rfl rfl ?_
                      refine St.assign rfl rfl ?_
                      refine St.done ?_
                      refine SX.seq ?_
                      refine SC.seq ?_
                      refine SC.plain ?_
                      refine St.move rfl rfl ?_
                      refine St.move rfl rfl ?_
                      refine St.guard_yes rfl rfl ?_
                      refine St.move rfl rfl ?_
                      refine St.guard_yes rfl rfl ?_
                      refine St.move rfl rfl ?_
                      refine St.guard_yes rfl rfl ?_
                      refine St.eql rfl rfl rfl ?_
                      refine St.guard_yes rfl rfl ?_
                      refine St.move rfl rfl ?_
                      refine St.split 148 rfl (fun g148 => ?_) (fun g148 => ?_)
                      · refine St.guard_yes rfl rfl ?_
                        refine St.move rfl rfl ?_
                        refine St.guard_yes rfl rfl ?_
                        refine St.move rfl rfl ?_
                        refine St.guard_yes rfl rfl ?_
                        refine St.eql rfl rfl rfl ?_
                        refine St.guard_yes rfl rfl ?_
                        refine St.pick_true rfl rfl rfl ?_
                        refine St.guard_yes rfl rfl ?_
                        refine St.move rfl rfl ?_
                        refine St.split 153 rfl (fun g153 => ?_) (fun g153 => ?_)
                        · refine St.guard_yes rfl rfl ?_
                          refine St.move rfl rfl ?_
                          refine St.guard_yes rfl rfl ?_
                          refine St.lss rfl rfl rfl ?_
                          refine St.guard_yes rfl rfl ?_
                          refine St.pick_true rfl rfl rfl ?_
                          refine St.guard_yes rfl rfl ?_
                          refine St.move rfl rfl ?_
                          refine St.split 157 rfl (fun g157 => ?_) (fun g157 => ?_)
                          · refine St.guard_no rfl rfl rfl ?_
                            refine St.guard_no rfl rfl rfl ?_
                            refine St.guard_no rfl rfl rfl ?_
                            refine St.guard_yes rfl rfl ?_
                            refine St.pick_true rfl rfl rfl ?_
                            refine St.pick_true rfl rfl rfl ?_
                            refine St.move rfl rfl ?_
                            refine St.guard_yes rfl rfl ?_
                            refine St.load rfl rfl (by kernel_rfl) (by first | exact Holds.row mem0 rfl | exact Holds.row mem1 rfl | exact Holds.row mem2 rfl | exact Holds.row mem3 rfl | exact Holds.row mem4 rfl | exact Holds.row mem5 rfl | exact Holds.row mem6 rfl | exact Holds.row mem7 rfl | exact Holds.row mem8 rfl) ?_
                            refine St.guard_yes rfl rfl ?_
                            refine St.perm (EnL p e5 ov8 iv8 at8 Eo8 Ei8 ([⟨b5, [.pointer (some ⟨p, 0, none⟩)], 80⟩] :: L)) (perm_block [_] [_, _, _] L) ?_
                            refine St.call [_] rfl (by kernel_rfl) rfl (state18_spec w0 _ p _ _ _ _ _ _ hB8) (fun _ _ _ _ h => h.nil) ?_
                            rintro r12 L1 ⟨rfl, rfl⟩
                            rw [hst5]
                            refine St.guard_yes rfl rfl ?_
                            refine St.eql rfl rfl rfl ?_
                            refine St.pick_true rfl rfl rfl ?_
                            refine St.move rfl rfl ?_
                            refine St.split 168 rfl (fun g168 => ?_) (fun g168 => ?_)
                            · refine St.guard_yes rfl rfl ?_
                              refine St.call [] rfl (by kernel_rfl) rfl (awake18_spec w0 _) (by first | exact fun _ _ _ _ h => h.nil | assumption) ?_
                              rintro r13 L1 ⟨rfl, rfl⟩
                              refine St.pick_true rfl rfl rfl ?_
                              refine St.assign rfl rfl ?_
                              refine St.done ?_
                              refine SX.seq ?_
                              refine SC.ret ?_
                              first | exact SX.ret1 rfl rfl rfl | (exfalso; omega)
                            · refine St.guard_no rfl rfl rfl ?_
                              refine St.pick_false rfl rfl rfl ?_
                              refine St.assign rfl rfl ?_
                              refine St.done ?_
                              refine SX.seq ?_
                              refine SC.ret ?_
                              first | exact SX.ret1 rfl rfl rfl | (exfalso; omega)
                          · refine St.guard_yes rfl rfl ?_
                            refine St.move rfl rfl ?_
                            refine St.guard_yes rfl rfl ?_
                            refine St.move rfl rfl ?_
                            refine St.guard_yes rfl rfl ?_
                            refine St.eql rfl rfl rfl ?_
                            refine St.guard_yes rfl rfl ?_
                            refine St.pick_false rfl rfl rfl ?_
                            refine St.pick_true rfl rfl rfl ?_
                            refine St.move rfl rfl ?_
                            refine St.split 163 rfl (fun g163 => ?_) (fun g163 => ?_)
                            · refine St.guard_yes rfl rfl ?_
                              refine St.load rfl rfl (by kernel_rfl) (by first | exact Holds.row mem0 rfl | exact Holds.row mem1 rfl | exact Holds.row mem2 rfl | exact Holds.row mem3 rfl | exact Holds.row mem4 rfl | exact Holds.row mem5 rfl | exact Holds.row mem6 rfl | exact Holds.row mem7 rfl | exact Holds.row mem8 rfl) ?_
                              refine St.guard_yes rfl rfl ?_
                              refine St.perm (EnL p e5 ov8 iv8 at8 Eo8 Ei8 ([⟨b5, [.pointer (some ⟨p, 0, none⟩)], 80⟩] :: L)) (perm_block [_] [_, _, _] L) ?_
                              refine St.call [_] rfl (by kernel_rfl) rfl (state18_spec w0 _ p _ _ _ _ _ _ hB8) (fun _ _ _ _ h => h.nil) ?_
                              rintro r12 L1 ⟨rfl, rfl⟩
                              rw [hst5]
                              refine St.guard_yes rfl rfl ?_
                              refine St.eql rfl rfl rfl ?_
                              refine St.pick_true rfl rfl rfl ?_
                              refine St.move rfl rfl ?_
                              refine St.split 168 rfl (fun g168 => ?_) (fun g168 => ?_)
                              · refine St.guard_yes rfl rfl ?_
                                refine St.call [] rfl (by kernel_rfl) rfl (awake18_spec w0 _) (by first | exact fun _ _ _ _ h => h.nil | assumption) ?_
                                rintro r13 L1 ⟨rfl, rfl⟩
                                refine St.pick_true rfl rfl rfl ?_
                                refine St.assign rfl rfl ?_
                                refine St.done ?_
                                refine SX.seq ?_
                                refine SC.ret ?_
                                first | exact SX.ret1 rfl rfl rfl | (exfalso; omega)
                              · refine St.guard_no rfl rfl rfl ?_
                                refine St.pick_false rfl rfl rfl ?_
                                refine St.assign rfl rfl ?_
                                refine St.done ?_
                                refine SX.seq ?_
                                refine SC.ret ?_
                                first | exact SX.ret1 rfl rfl rfl | (exfalso; omega)
                            · refine St.guard_no rfl rfl rfl ?_
                              refine St.guard_no rfl rfl rfl ?_
                              refine St.guard_no rfl rfl rfl ?_
                              refine St.pick_false rfl rfl rfl ?_
                              refine St.move rfl rfl ?_
                              refine St.guard_no rfl rfl rfl ?_
                              refine St.pick_false rfl rfl rfl ?_
                              refine St.assign rfl rfl ?_
                              refine St.done ?_
                              refine SX.seq ?_
                              refine SC.ret ?_
                              first | exact SX.ret1 rfl rfl rfl | (exfalso; omega)
                        · refine St.guard_no rfl rfl rfl ?_
                          refine St.guard_no rfl rfl rfl ?_
                          refine St.guard_yes rfl rfl ?_
                          refine St.pick_false rfl rfl rfl ?_
                          refine St.guard_yes rfl rfl ?_
                          refine St.move rfl rfl ?_
                          refine St.guard_yes rfl rfl ?_
                          refine St.move rfl rfl ?_
                          refine St.guard_yes rfl rfl ?_
                          refine St.move rfl rfl ?_
                          refine St.guard_yes rfl rfl ?_
                          refine St.eql rfl rfl rfl ?_
                          refine St.guard_yes rfl rfl ?_
                          refine St.pick_false rfl rfl rfl ?_
                          refine St.pick_true rfl rfl rfl ?_
                          refine St.move rfl rfl ?_
                          refine St.split 163 rfl (fun g163 => ?_) (fun g163 => ?_)
                          · refine St.guard_yes rfl rfl ?_
                            refine St.load rfl rfl (by kernel_rfl) (by first | exact Holds.row mem0 rfl | exact Holds.row mem1 rfl | exact Holds.row mem2 rfl | exact Holds.row mem3 rfl | exact Holds.row mem4 rfl | exact Holds.row mem5 rfl | exact Holds.row mem6 rfl | exact Holds.row mem7 rfl | exact Holds.row mem8 rfl) ?_
                            refine St.guard_yes rfl rfl ?_
                            refine St.perm (EnL p e5 ov8 iv8 at8 Eo8 Ei8 ([⟨b5, [.pointer (some ⟨p, 0, none⟩)], 80⟩] :: L)) (perm_block [_] [_, _, _] L) ?_
                            refine St.call [_] rfl (by kernel_rfl) rfl (state18_spec w0 _ p _ _ _ _ _ _ hB8) (fun _ _ _ _ h => h.nil) ?_
                            rintro r12 L1 ⟨rfl, rfl⟩
                            rw [hst5]
                            refine St.guard_yes rfl rfl ?_
                            refine St.eql rfl rfl rfl ?_
                            refine St.pick_true rfl rfl rfl ?_
                            refine St.move rfl rfl ?_
                            refine St.split 168 rfl (fun g168 => ?_) (fun g168 => ?_)
                            · refine St.guard_yes rfl rfl ?_
                              refine St.call [] rfl (by kernel_rfl) rfl (awake18_spec w0 _) (by first | exact fun _ _ _ _ h => h.nil | assumption) ?_
                              rintro r13 L1 ⟨rfl, rfl⟩
                              refine St.pick_true rfl rfl rfl ?_
                              refine St.assign rfl rfl ?_
                              refine St.done ?_
                              refine SX.seq ?_
                              refine SC.ret ?_
                              first | exact SX.ret1 rfl rfl rfl | (exfalso; omega)
                            · refine St.guard_no rfl rfl rfl ?_
                              refine St.pick_false rfl rfl rfl ?_
                              refine St.assign rfl rfl ?_
                              refine St.done ?_
                              refine SX.seq ?_
                              refine SC.ret ?_
                              first | exact SX.ret1 rfl rfl rfl | (exfalso; omega)
                          · refine St.guard_no rfl rfl rfl ?_
                            refine St.guard_no rfl rfl rfl ?_
                            refine St.guard_no rfl rfl rfl ?_
                            refine St.pick_false rfl rfl rfl ?_
                            refine St.move rfl rfl ?_
                            refine St.guard_no rfl rfl rfl ?_
                            refine St.pick_false rfl rfl rfl ?_
                            refine St.assign rfl rfl ?_
                            refine St.done ?_
                            refine SX.seq ?_
                            refine SC.ret ?_
                            first | exact SX.ret1 rfl rfl rfl | (exfalso; omega)
                      · refine St.guard_no rfl rfl rfl ?_
                        refine St.guard_no rfl rfl rfl ?_
                        refine St.guard_no rfl rfl rfl ?_
                        refine St.guard_yes rfl rfl ?_
                        refine St.pick_false rfl rfl rfl ?_
                        refine St.guard_yes rfl rfl ?_
                        refine St.move rfl rfl ?_
                        refine St.guard_no rfl rfl rfl ?_
                        refine St.guard_no rfl rfl rfl ?_
                        refine St.guard_yes rfl rfl ?_
                        refine St.pick_false rfl rfl rfl ?_
                        refine St.guard_yes rfl rfl ?_
                        refine St.move rfl rfl ?_
                        refine St.guard_yes rfl rfl ?_
                        refine St.move rfl rfl ?_
                        refine St.guard_yes rfl rfl ?_
                        refine St.move rfl rfl ?_
                        refine St.guard_yes rfl rfl ?_
                        refine St.eql rfl rfl rfl ?_
                        refine St.guard_yes rfl rfl ?_
                        refine St.pick_false rfl rfl rfl ?_
                        refine St.pick_true rfl rfl rfl ?_
                        refine St.move rfl rfl ?_
                        refine St.split 163 rfl (fun g163 => ?_) (fun g163 => ?_)
                        · refine St.guard_yes rfl rfl ?_
                          refine St.load rfl rfl (by kernel_rfl) (by first | exact Holds.row mem0 rfl | exact Holds.row mem1 rfl | exact Holds.row mem2 rfl | exact Holds.row mem3 rfl | exact Holds.row mem4 rfl | exact Holds.row mem5 rfl | exact Holds.row mem6 rfl | exact Holds.row mem7 rfl | exact Holds.row mem8 rfl) ?_
                          refine St.guard_yes rfl rfl ?_
                          refine St.perm (EnL p e5 ov8 iv8 at8 Eo8 Ei8 ([⟨b5, [.pointer (some ⟨p, 0, none⟩)], 80⟩] :: L)) (perm_block [_] [_, _, _] L) ?_
                          refine St.call [_] rfl (by kernel_rfl) rfl (state18_spec w0 _ p _ _ _ _ _ _ hB8) (fun _ _ _ _ h => h.nil) ?_
                          rintro r12 L1 ⟨rfl, rfl⟩
                          rw [hst5]
                          refine St.guard_yes rfl rfl ?_
                          refine St.eql rfl rfl rfl ?_
                          refine St.pick_true rfl rfl rfl ?_
                          refine St.move rfl rfl ?_
                          refine St.split 168 rfl (fun g168 => ?_) (fun g168 => ?_)
                          · refine St.guard_yes rfl rfl ?_
                            refine St.call [] rfl (by kernel_rfl) rfl (awake18_spec w0 _) (by first | exact fun _ _ _ _ h => h.nil | assumption) ?_
                            rintro r13 L1 ⟨rfl, rfl⟩
                            refine St.pick_true rfl rfl rfl ?_
                            refine St.assign rfl rfl ?_
                            refine St.done ?_
                            refine SX.seq ?_
                            refine SC.ret ?_
                            first | exact SX.ret1 rfl rfl rfl | (exfalso; omega)
                          · refine St.guard_no rfl rfl rfl ?_
                            refine St.pick_false rfl rfl rfl ?_
                            refine St.assign rfl rfl ?_
                            refine St.done ?_
                            refine SX.seq ?_
                            refine SC.ret ?_
                            first | exact SX.ret1 rfl rfl rfl | (exfalso; omega)
                        · refine St.guard_no rfl rfl rfl ?_
                          refine St.guard_no rfl rfl rfl ?_
                          refine St.guard_no rfl rfl rfl ?_
                          refine St.pick_false rfl rfl rfl ?_
                          refine St.move rfl rfl ?_
                          refine St.guard_no rfl rfl rfl ?_
                          refine St.pick_false rfl rfl rfl ?_
                          refine St.assign rfl rfl ?_
                          refine St.done ?_
                          refine SX.seq ?_
                          refine SC.ret ?_
                          first | exact SX.ret1 rfl rfl rfl | (exfalso; omega)
end Go.Proofs.Ytahafepgmkiabaa
