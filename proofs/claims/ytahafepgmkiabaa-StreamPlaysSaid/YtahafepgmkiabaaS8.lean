/- Walks: the law SumIs. -/
import Derived.Test.YtahafepgmkiabaaS7
set_option linter.unusedVariables false
set_option linter.unusedSimpArgs false
set_option linter.ambiguousOpen false
namespace Go.Proofs.Ytahafepgmkiabaa
open Go Go.Proofs.Ytahafepgmkiabaa.Sep

theorem sumIs_spec (w0 : World) (L : List Chunk) (v : Value) (ys : List Nat) (hx : Rd w0 L v 1 ys.length (bytes ys)) (hl : ys.length ≤ 140737488351232) (hys : ∀ b ∈ ys, b < 256) :
    Meets Try.prog 6 #[v] w0 L (fun r L' => r = .bool true) := by
  have hts := text_size ys
  have hut := u8s_text ys hys
  refine Meets.of_body [v] Try.func6 rfl Try.ntmps6 rfl ?_
  refine SC.seq ?_
  refine SC.plain ?_
  refine St.assign rfl rfl ?_
  refine St.done ?_
  refine SX.seq ?_
  refine SC.seq ?_
  refine SC.plain ?_
  refine St.move rfl rfl ?_
  refine St.toStr (e := 5) (bs := ys) (n := ys.length) rfl rfl hx (by kernel_rfl) (by kernel_rfl) (by kernel_rfl) ?_
  refine St.assign rfl rfl ?_
  refine St.done ?_
  refine SX.seq ?_
  refine SC.seq ?_
  refine SC.drawn [(0, true), (3, true), (1, false), (2, true), (4, false), (5, true), (6, true), (7, true), (8, true), (10, true), (9, false), (11, false), (12, true), (13, true), (14, true), (15, true), (17, true), (16, false), (18, false), (19, true), (20, true), (21, true), (22, true), (23, true), (24, true), (25, true), (26, true), (27, true), (28, false), (29, true), (30, true)] [] (L) (by kernel_rfl) (by kernel_rfl) (fun _ h => h) ?_
  refine St.move rfl rfl ?_
  refine St.move rfl rfl ?_
  refine St.call [v] rfl (by kernel_rfl) rfl (sha_spec w0 _ v ys hx (by omega) hys) (fun _ _ _ h hw => by obtain ⟨E1, e, _⟩ := h; rw [e] at hw; exact hw.drop) ?_
  rintro r1 L1 ⟨E1, rfl, hb1⟩
  refine St.grow (E1 :: L) (fun _ h => h) (fun _ h => h.drop) ?_
  refine St.toStr (e := 5) (bs := sha1 ys) (n := (sha1 ys).length) rfl rfl (hb1.rd List.mem_cons_self) (by kernel_rfl) (by kernel_rfl) (by kernel_rfl) ?_
  refine St.call [.string (text ys)] rfl (by kernel_rfl) rfl (rsha_spec w0 _ (text ys) (by omega)) (fun _ _ _ h hw => by obtain ⟨E1, e, _⟩ := h; rw [e] at hw; exact hw.drop) ?_
  rw [hut]
  rintro r2 L1 ⟨E2, rfl, hb2⟩
  refine St.grow (E2 :: E1 :: L) (fun _ h => h) (fun _ h => h.drop) ?_
  refine St.toStr (e := 5) (bs := sha1 ys) (n := (sha1 ys).length) rfl rfl (hb2.rd List.mem_cons_self) (by kernel_rfl) (by kernel_rfl) (by kernel_rfl) ?_
  refine St.strEql rfl rfl rfl ?_
  refine St.move rfl rfl ?_
  refine St.split 13 rfl (fun g13 => ?_) (fun g13 => ?_)
  · refine St.guard_yes rfl rfl ?_
    refine St.move rfl rfl ?_
    refine St.guard_yes rfl rfl ?_
    refine St.move rfl rfl ?_
    refine St.guard_yes rfl rfl ?_
    refine St.call [v] rfl (by kernel_rfl) rfl (crc_spec w0 _ v ys hx.cons.cons (by omega) hys) (fun _ _ _ h hw => h.1 ▸ hw) ?_
    rintro r3 L1 ⟨rfl, rfl⟩
    refine St.guard_yes rfl rfl ?_
    refine St.call [.string (text ys)] rfl (by kernel_rfl) rfl (rcrc_spec w0 _ (text ys) (by omega)) (fun _ _ _ h hw => h.1 ▸ hw) ?_
    rw [hut]
    rintro r4 L1 ⟨rfl, rfl⟩
    refine St.guard_yes rfl rfl ?_
    refine St.eql rfl rfl rfl ?_
    refine St.pick_true rfl rfl rfl ?_
    refine St.move rfl rfl ?_
    refine St.split 20 rfl (fun g20 => ?_) (fun g20 => ?_)
    · refine St.guard_yes rfl rfl ?_
      refine St.move rfl rfl ?_
      refine St.guard_yes rfl rfl ?_
      refine St.move rfl rfl ?_
      refine St.guard_yes rfl rfl ?_
      refine St.call [v] rfl (by kernel_rfl) rfl (adler_spec w0 _ v ys hx.cons.cons (by omega) hys) (fun _ _ _ h hw => h.1 ▸ hw) ?_
      rintro r5 L1 ⟨rfl, rfl⟩
      refine St.guard_yes rfl rfl ?_
      refine St.call [.string (text ys)] rfl (by kernel_rfl) rfl (radler_spec w0 _ (text ys) (by omega)) (fun _ _ _ h hw => h.1 ▸ hw) ?_
      rw [hut]
      rintro r6 L1 ⟨rfl, rfl⟩
      refine St.guard_yes rfl rfl ?_
      refine St.eql rfl rfl rfl ?_
      refine St.pick_true rfl rfl rfl ?_
      refine St.move rfl rfl ?_
      refine St.split 27 rfl (fun g27 => ?_) (fun g27 => ?_)
      · refine St.guard_yes rfl rfl ?_
        refine St.move rfl rfl ?_
        refine St.guard_yes rfl rfl ?_
        refine St.toStr (e := 5) (bs := ys) (n := ys.length) rfl rfl (hx.cons.cons) (by kernel_rfl) (by kernel_rfl) (by kernel_rfl) ?_
        refine St.guard_yes rfl rfl ?_
        refine St.move rfl rfl ?_
        refine St.guard_yes rfl rfl ?_
        refine St.strEql rfl rfl rfl ?_
        refine St.pick_true rfl rfl rfl ?_
        refine St.move rfl rfl ?_
        refine St.split 33 rfl (fun g33 => ?_) (fun g33 => ?_)
        · refine St.guard_yes rfl rfl ?_
          refine St.call [] rfl (by kernel_rfl) rfl (awake3_spec w0 _) (fun _ _ _ h hw => h.1 ▸ hw) ?_
          rintro r7 L1 ⟨rfl, rfl⟩
          refine St.pick_true rfl rfl rfl ?_
          refine St.assign rfl rfl ?_
          refine St.done ?_
          refine SX.tail ?_
          refine St.done ?_
          refine SX.seq ?_
          refine SC.ret ?_
          exact SX.ret1 rfl rfl rfl
        · exact absurd rfl g33
      · exact absurd rfl g27
    · exact absurd rfl g20
  · exact absurd rfl g13
end Go.Proofs.Ytahafepgmkiabaa
