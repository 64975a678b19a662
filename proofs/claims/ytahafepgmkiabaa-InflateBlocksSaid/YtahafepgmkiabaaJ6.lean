/- Walks: inflating: a stream with a head and a sum; the fixed tries. -/
import Derived.Test.YtahafepgmkiabaaJ5
import Derived.Test.YtahafepgmkiabaaS5
set_option linter.unusedVariables false
set_option linter.unusedSimpArgs false
set_option linter.ambiguousOpen false
namespace Go.Proofs.Ytahafepgmkiabaa
open Go Go.Proofs.Ytahafepgmkiabaa.Sep Go.Proofs.Ytahafepgmkiabaa.Inf

def headBad (a b : Nat) : Prop := (a &&& 15) ≠ 8 ∨ 7 < a / 2 ^ 4 ∨ (a * 256 + b) % 31 ≠ 0 ∨ (b &&& 32) ≠ 0
instance (a b : Nat) : Decidable (headBad a b) := by unfold headBad; infer_instance
def sumAt (bs : List Nat) (n : Nat) : Nat := be32 (bs.getD n 0) (bs.getD (n + 1) 0) (bs.getD (n + 2) 0) (bs.getD (n + 3) 0)
/-- What a stream with head and sum comes to. -/
def zlibTail (bs : List Nat) (g : Got Unit) : Res := match g with
  | .bad e => ([], 0, e)
  | .ok _ t o => if bs.length - ((t + 7) / 8 + 2) < 4 then ([], 0, 4) else if sumAt bs ((t + 7) / 8 + 2) ≠ adler o then ([], 0, 6) else (o, (t + 7) / 8 + 2 + 4, 0)
def zlibG (F : Nat) (bs : List Nat) (most : Nat) : Res := if bs.length < 2 then ([], 0, 4) else if headBad (bs.getD 0 0) (bs.getD 1 0) then ([], 0, 3) else zlibTail bs (rawR F F (bs.drop 2) most 0 [])
theorem sum_be {a b c d : Nat} (ha : a < 256) (hb : b < 256) (hc : c < 256) : be32 a b c d = a * 2 ^ 24 ||| b * 2 ^ 16 ||| c * 2 ^ 8 ||| d := by
  unfold be32
  rw [Nat.mod_eq_of_lt (by omega), Nat.mod_eq_of_lt (by omega), Nat.mod_eq_of_lt (by omega)]

theorem izlib_spec (w0 : World) (L : List Chunk) (v0 : Value) (bs : List Nat) (hv : Rd w0 L v0 1 bs.length (bytes bs)) (hcp : Cap v0) (hl : bs.length ≤ 150000000000000) (hb : ∀ b ∈ bs, b < 256) (m : Int) (hm0 : m ≤ 70368744177664) (F : Nat) (hF : 8 * bs.length < F) :
    Meets Try.prog 54 #[v0, .int .i64 m] w0 L (ResA (zlibG F bs m.toNat) L) := by
  have hv0 := hv
  obtain ⟨_, b0, o0, A0, c0, rfl, hA0, hr⟩ := hv
  refine Meets.of_body [.slice A0 bs.length c0, .int .i64 m] Try.func54 rfl Try.ntmps54 rfl ?_
  refine SC.seq ?_
  refine SC.plain ?_
  refine St.assign rfl rfl ?_
  refine St.assign rfl rfl ?_
  refine St.assign rfl rfl ?_
  refine St.done ?_
  refine SX.seq ?_
  refine SC.seq ?_
  refine SC.seq ?_
  refine SC.plain ?_
  refine St.move rfl rfl ?_
  refine St.lenSl rfl rfl (by kernel_rfl) ?_
  refine St.lss rfl rfl rfl ?_
  refine St.done ?_
  refine SX.seq ?_
  refine SC.condp rfl (fun c10 => ?_) (fun c10 => ?_)
  · have hm : zlibG F bs m.toNat = ([], 0, 4) := if_pos (by omega)
    refine SC.seq ?_
    refine SC.plain ?_
    refine St.assign rfl rfl ?_
    refine St.assign rfl rfl ?_
    refine St.assign rfl rfl ?_
    refine St.done ?_
    refine SX.seq ?_
    refine SC.ret ?_
    refine SX.seq_ret ?_
    refine SX.weak L (by (try simp only [RdL]); repeat (first | exact List.Sublist.refl _ | apply List.Sublist.cons | apply List.sublist_append_of_sublist_right)) ?_
    refine SX.perm ([] :: L) (List.Perm.refl _) ?_
    rw [hm]
    exact SX.ret3 rfl rfl rfl rfl (ResA.bad L)
  · obtain rfl := hA0 (by omega)
    refine SC.skip ?_
    refine SX.seq ?_
    refine SC.seq ?_
    refine SC.seq ?_
    refine SC.drawn [(0, true), (1, true), (2, true), (3, true), (4, true), (5, true), (6, true), (7, true), (8, true), (9, true), (10, true), (11, true), (12, true), (13, true), (14, true), (15, true), (16, true), (17, true), (18, true), (19, true), (20, true), (21, true), (22, true), (23, true), (24, true), (25, true), (26, true), (27, true), (28, true), (29, true), (30, true), (31, true), (32, true)] [] (_) (by kernel_rfl) (by kernel_rfl) (fun _ h => h) ?_
    refine St.move rfl rfl ?_
    refine St.indexSl (e := 5) (sz := 1) rfl rfl rfl (by kernel_rfl) (by omega) ?_
    first | (refine St.loadB (i := 0) rfl rfl (by kernel_rfl) (HoldsN.mono hr (fun w hw => by first | exact hw | exact hw.drop | exact hw.drop.drop | exact hw.drop.drop.drop | exact hw.drop.drop.drop.drop | exact hw.drop.drop.drop.drop.drop | exact hw.drop.drop.drop.drop.drop.drop | exact hw.drop.drop.drop.drop.drop.drop.drop | exact hw.drop.drop.drop.drop.drop.drop.drop.drop | exact hw.drop.drop.drop.drop.drop.drop.drop.drop.drop | exact hw.drop.drop.drop.drop.drop.drop.drop.drop.drop.drop | exact hw.drop.drop.drop.drop.drop.drop.drop.drop.drop.drop.drop | exact hw.drop.drop.drop.drop.drop.drop.drop.drop.drop.drop.drop.drop | exact hw.drop.drop.drop.drop.drop.drop.drop.drop.drop.drop.drop.drop.drop)) rfl (by omega) hb ?_; intro n13 e13 l13) | refine St.load rfl rfl (by kernel_rfl) (by first | exact Holds.row mem0 rfl | exact Holds.row mem1 rfl | exact Holds.row mem2 rfl | exact Holds.row mem3 rfl | exact Holds.row mem4 rfl | exact Holds.row mem5 rfl | exact Holds.row mem6 rfl | exact Holds.row mem7 rfl | exact Holds.row mem8 rfl) ?_
    first | refine St.andU un8 (b := 15) rfl rfl rfl (by omega) (by omega) ?_ | refine St.andI rfl rfl rfl ?_
    refine St.neq rfl rfl rfl ?_
    refine St.move rfl rfl ?_
    refine St.split 16 rfl (fun g16 => ?_) (fun g16 => ?_)
    · refine St.guard_no rfl rfl rfl ?_
      refine St.guard_no rfl rfl rfl ?_
      refine St.guard_no rfl rfl rfl ?_
      refine St.guard_no rfl rfl rfl ?_
      refine St.guard_no rfl rfl rfl ?_
      refine St.pick_true rfl rfl rfl ?_
      refine St.move rfl rfl ?_
      refine St.guard_no rfl rfl rfl ?_
      refine St.guard_no rfl rfl rfl ?_
      refine St.guard_no rfl rfl rfl ?_
      refine St.guard_no rfl rfl rfl ?_
      refine St.guard_no rfl rfl rfl ?_
      refine St.guard_no rfl rfl rfl ?_
      refine St.guard_no rfl rfl rfl ?_
      refine St.guard_no rfl rfl rfl ?_
      refine St.guard_no rfl rfl rfl ?_
      refine St.guard_no rfl rfl rfl ?_
      refine St.guard_no rfl rfl rfl ?_
      refine St.guard_no rfl rfl rfl ?_
      refine St.pick_true rfl rfl rfl ?_
      refine St.move rfl rfl ?_
      refine St.guard_no rfl rfl rfl ?_
      refine St.guard_no rfl rfl rfl ?_
      refine St.guard_no rfl rfl rfl ?_
      refine St.guard_no rfl rfl rfl ?_
      refine St.guard_no rfl rfl rfl ?_
      refine St.pick_true rfl rfl rfl ?_
      refine St.done ?_
      refine SX.tail ?_
      refine St.done ?_
      refine SX.seq ?_
      refine SC.cond_true rfl ?_
      refine SC.seq ?_
      refine SC.plain ?_
      refine St.assign rfl rfl ?_
      refine St.assign rfl rfl ?_
      refine St.assign rfl rfl ?_
      refine St.done ?_
      refine SX.seq ?_
      refine SC.ret ?_
      refine SX.seq_ret ?_
      have hm : zlibG F bs m.toNat = ([], 0, 3) := (if_neg (by omega)).trans (if_pos (.inl (fun h => g16 (by rw [e13, h]; rfl))))
      refine SX.weak L (by (try simp only [RdL]); repeat (first | exact List.Sublist.refl _ | apply List.Sublist.cons | apply List.sublist_append_of_sublist_right)) ?_
      refine SX.perm ([] :: L) (List.Perm.refl _) ?_
      rw [hm]
      exact SX.ret3 rfl rfl rfl rfl (ResA.bad L)
    · refine St.guard_yes rfl rfl ?_
      refine St.move rfl rfl ?_
      refine St.guard_yes rfl rfl ?_
      refine St.indexSl (e := 5) (sz := 1) rfl rfl rfl (by kernel_rfl) (by omega) ?_
      refine St.guard_yes rfl rfl ?_
      first | (refine St.loadB (i := 0) rfl rfl (by kernel_rfl) (HoldsN.mono hr (fun w hw => by first | exact hw | exact hw.drop | exact hw.drop.drop | exact hw.drop.drop.drop | exact hw.drop.drop.drop.drop | exact hw.drop.drop.drop.drop.drop | exact hw.drop.drop.drop.drop.drop.drop | exact hw.drop.drop.drop.drop.drop.drop.drop | exact hw.drop.drop.drop.drop.drop.drop.drop.drop | exact hw.drop.drop.drop.drop.drop.drop.drop.drop.drop | exact hw.drop.drop.drop.drop.drop.drop.drop.drop.drop.drop | exact hw.drop.drop.drop.drop.drop.drop.drop.drop.drop.drop.drop | exact hw.drop.drop.drop.drop.drop.drop.drop.drop.drop.drop.drop.drop | exact hw.drop.drop.drop.drop.drop.drop.drop.drop.drop.drop.drop.drop.drop)) rfl (by omega) hb ?_; intro n19 e19 l19) | refine St.load rfl rfl (by kernel_rfl) (by first | exact Holds.row mem0 rfl | exact Holds.row mem1 rfl | exact Holds.row mem2 rfl | exact Holds.row mem3 rfl | exact Holds.row mem4 rfl | exact Holds.row mem5 rfl | exact Holds.row mem6 rfl | exact Holds.row mem7 rfl | exact Holds.row mem8 rfl) ?_
      refine St.guard_yes rfl rfl ?_
      first | refine St.shrU un8 (b := 4) rfl rfl rfl (by show _ ≤ (8 : Nat); omega) ?_ | refine St.shr rfl rfl rfl (by omega) ?_
      refine St.guard_yes rfl rfl ?_
      refine St.gtr rfl rfl rfl ?_
      refine St.pick_false rfl rfl rfl ?_
      refine St.move rfl rfl ?_
      refine St.split 23 rfl (fun g23 => ?_) (fun g23 => ?_)
      · refine St.guard_no rfl rfl rfl ?_
        refine St.guard_no rfl rfl rfl ?_
        refine St.guard_no rfl rfl rfl ?_
        refine St.guard_no rfl rfl rfl ?_
        refine St.guard_no rfl rfl rfl ?_
        refine St.guard_no rfl rfl rfl ?_
        refine St.guard_no rfl rfl rfl ?_
        refine St.guard_no rfl rfl rfl ?_
        refine St.guard_no rfl rfl rfl ?_
        refine St.guard_no rfl rfl rfl ?_
        refine St.guard_no rfl rfl rfl ?_
        refine St.guard_no rfl rfl rfl ?_
        refine St.pick_true rfl rfl rfl ?_
        refine St.move rfl rfl ?_
        refine St.guard_no rfl rfl rfl ?_
        refine St.guard_no rfl rfl rfl ?_
        refine St.guard_no rfl rfl rfl ?_
        refine St.guard_no rfl rfl rfl ?_
        refine St.guard_no rfl rfl rfl ?_
        refine St.pick_true rfl rfl rfl ?_
        refine St.done ?_
        refine SX.tail ?_
        refine St.done ?_
        refine SX.seq ?_
        refine SC.cond_true rfl ?_
        refine SC.seq ?_
        refine SC.plain ?_
        refine St.assign rfl rfl ?_
        refine St.assign rfl rfl ?_
        refine St.assign rfl rfl ?_
        refine St.done ?_
        refine SX.seq ?_
        refine SC.ret ?_
        refine SX.seq_ret ?_
        have hm : zlibG F bs m.toNat = ([], 0, 3) := (if_neg (by omega)).trans (if_pos (.inr (.inl (by rw [← e19]; omega))))
        refine SX.weak L (by (try simp only [RdL]); repeat (first | exact List.Sublist.refl _ | apply List.Sublist.cons | apply List.sublist_append_of_sublist_right)) ?_
        refine SX.perm ([] :: L) (List.Perm.refl _) ?_
        rw [hm]
        exact SX.ret3 rfl rfl rfl rfl (ResA.bad L)
      · refine St.guard_yes rfl rfl ?_
        refine St.move rfl rfl ?_
        refine St.guard_yes rfl rfl ?_
        refine St.indexSl (e := 5) (sz := 1) rfl rfl rfl (by kernel_rfl) (by omega) ?_
        refine St.guard_yes rfl rfl ?_
        first | (refine St.loadB (i := 0) rfl rfl (by kernel_rfl) (HoldsN.mono hr (fun w hw => by first | exact hw | exact hw.drop | exact hw.drop.drop | exact hw.drop.drop.drop | exact hw.drop.drop.drop.drop | exact hw.drop.drop.drop.drop.drop | exact hw.drop.drop.drop.drop.drop.drop | exact hw.drop.drop.drop.drop.drop.drop.drop | exact hw.drop.drop.drop.drop.drop.drop.drop.drop | exact hw.drop.drop.drop.drop.drop.drop.drop.drop.drop | exact hw.drop.drop.drop.drop.drop.drop.drop.drop.drop.drop | exact hw.drop.drop.drop.drop.drop.drop.drop.drop.drop.drop.drop | exact hw.drop.drop.drop.drop.drop.drop.drop.drop.drop.drop.drop.drop | exact hw.drop.drop.drop.drop.drop.drop.drop.drop.drop.drop.drop.drop.drop)) rfl (by omega) hb ?_; intro n26 e26 l26) | refine St.load rfl rfl (by kernel_rfl) (by first | exact Holds.row mem0 rfl | exact Holds.row mem1 rfl | exact Holds.row mem2 rfl | exact Holds.row mem3 rfl | exact Holds.row mem4 rfl | exact Holds.row mem5 rfl | exact Holds.row mem6 rfl | exact Holds.row mem7 rfl | exact Holds.row mem8 rfl) ?_
        refine St.guard_yes rfl rfl ?_
        refine St.convS rfl rfl (by kernel_rfl) (by kernel_rfl) (by omega) ?_
        refine St.guard_yes rfl rfl ?_
        first | refine St.shlN (b := 8) rfl rfl rfl (by omega) (by omega) ?_ | refine St.shl rfl rfl rfl (by omega) ?_
        refine St.guard_yes rfl rfl ?_
        refine St.move rfl rfl ?_
        refine St.guard_yes rfl rfl ?_
        refine St.indexSl (e := 5) (sz := 1) rfl rfl rfl (by kernel_rfl) (by omega) ?_
        refine St.guard_yes rfl rfl ?_
        first | (refine St.loadB (i := 1) rfl rfl (by kernel_rfl) (HoldsN.mono hr (fun w hw => by first | exact hw | exact hw.drop | exact hw.drop.drop | exact hw.drop.drop.drop | exact hw.drop.drop.drop.drop | exact hw.drop.drop.drop.drop.drop | exact hw.drop.drop.drop.drop.drop.drop | exact hw.drop.drop.drop.drop.drop.drop.drop | exact hw.drop.drop.drop.drop.drop.drop.drop.drop | exact hw.drop.drop.drop.drop.drop.drop.drop.drop.drop | exact hw.drop.drop.drop.drop.drop.drop.drop.drop.drop.drop | exact hw.drop.drop.drop.drop.drop.drop.drop.drop.drop.drop.drop | exact hw.drop.drop.drop.drop.drop.drop.drop.drop.drop.drop.drop.drop | exact hw.drop.drop.drop.drop.drop.drop.drop.drop.drop.drop.drop.drop.drop)) rfl (by omega) hb ?_; intro n31 e31 l31) | refine St.load rfl rfl (by kernel_rfl) (by first | exact Holds.row mem0 rfl | exact Holds.row mem1 rfl | exact Holds.row mem2 rfl | exact Holds.row mem3 rfl | exact Holds.row mem4 rfl | exact Holds.row mem5 rfl | exact Holds.row mem6 rfl | exact Holds.row mem7 rfl | exact Holds.row mem8 rfl) ?_
        refine St.guard_yes rfl rfl ?_
        refine St.convS rfl rfl (by kernel_rfl) (by kernel_rfl) (by omega) ?_
        refine St.guard_yes rfl rfl ?_
        refine St.orN rfl rfl rfl (by omega) (by omega) ?_
        rw [or8 _ _ (by assumption)]
        refine St.guard_yes rfl rfl ?_
        first | refine St.remN (b := 31) rfl rfl rfl (by omega) ?_ | refine St.rem rfl rfl rfl (by omega) ?_
        refine St.guard_yes rfl rfl ?_
        refine St.neq rfl rfl rfl ?_
        refine St.pick_false rfl rfl rfl ?_
        refine St.move rfl rfl ?_
        refine St.split 37 rfl (fun g37 => ?_) (fun g37 => ?_)
        · refine St.guard_no rfl rfl rfl ?_
          refine St.guard_no rfl rfl rfl ?_
          refine St.guard_no rfl rfl rfl ?_
          refine St.guard_no rfl rfl rfl ?_
          refine St.guard_no rfl rfl rfl ?_
          refine St.pick_true rfl rfl rfl ?_
          refine St.done ?_
          refine SX.tail ?_
          refine St.done ?_
          refine SX.seq ?_
          refine SC.cond_true rfl ?_
          refine SC.seq ?_
          refine SC.plain ?_
          refine St.assign rfl rfl ?_
          refine St.assign rfl rfl ?_
          refine St.assign rfl rfl ?_
          refine St.done ?_
          refine SX.seq ?_
          refine SC.ret ?_
          refine SX.seq_ret ?_
          have hm : zlibG F bs m.toNat = ([], 0, 3) := (if_neg (by omega)).trans (if_pos (.inr (.inr (.inl (by rw [← e26, ← e31]; omega)))))
          refine SX.weak L (by (try simp only [RdL]); repeat (first | exact List.Sublist.refl _ | apply List.Sublist.cons | apply List.sublist_append_of_sublist_right)) ?_
          refine SX.perm ([] :: L) (List.Perm.refl _) ?_
          rw [hm]
          exact SX.ret3 rfl rfl rfl rfl (ResA.bad L)
        · refine St.guard_yes rfl rfl ?_
          refine St.move rfl rfl ?_
          refine St.guard_yes rfl rfl ?_
          refine St.indexSl (e := 5) (sz := 1) rfl rfl rfl (by kernel_rfl) (by omega) ?_
          refine St.guard_yes rfl rfl ?_
          first | (refine St.loadB (i := 1) rfl rfl (by kernel_rfl) (HoldsN.mono hr (fun w hw => by first | exact hw | exact hw.drop | exact hw.drop.drop | exact hw.drop.drop.drop | exact hw.drop.drop.drop.drop | exact hw.drop.drop.drop.drop.drop | exact hw.drop.drop.drop.drop.drop.drop | exact hw.drop.drop.drop.drop.drop.drop.drop | exact hw.drop.drop.drop.drop.drop.drop.drop.drop | exact hw.drop.drop.drop.drop.drop.drop.drop.drop.drop | exact hw.drop.drop.drop.drop.drop.drop.drop.drop.drop.drop | exact hw.drop.drop.drop.drop.drop.drop.drop.drop.drop.drop.drop | exact hw.drop.drop.drop.drop.drop.drop.drop.drop.drop.drop.drop.drop | exact hw.drop.drop.drop.drop.drop.drop.drop.drop.drop.drop.drop.drop.drop)) rfl (by omega) hb ?_; intro n40 e40 l40) | refine St.load rfl rfl (by kernel_rfl) (by first | exact Holds.row mem0 rfl | exact Holds.row mem1 rfl | exact Holds.row mem2 rfl | exact Holds.row mem3 rfl | exact Holds.row mem4 rfl | exact Holds.row mem5 rfl | exact Holds.row mem6 rfl | exact Holds.row mem7 rfl | exact Holds.row mem8 rfl) ?_
          refine St.guard_yes rfl rfl ?_
          first | refine St.andU un8 (b := 32) rfl rfl rfl (by omega) (by omega) ?_ | refine St.andI rfl rfl rfl ?_
          refine St.guard_yes rfl rfl ?_
          refine St.neq rfl rfl rfl ?_
          refine St.pick_false rfl rfl rfl ?_
          refine St.done ?_
          refine SX.tail ?_
          refine St.done ?_
          refine SX.seq ?_
          refine SC.condp rfl (fun c43 => ?_) (fun c43 => ?_)
          · have hm : zlibG F bs m.toNat = ([], 0, 3) := (if_neg (by omega)).trans (if_pos (.inr (.inr (.inr (fun h => c43 (by rw [e40, h]; rfl))))))
            refine SC.seq ?_
            refine SC.plain ?_
            refine St.assign rfl rfl ?_
            refine St.assign rfl rfl ?_
            refine St.assign rfl rfl ?_
            refine St.done ?_
            refine SX.seq ?_
            refine SC.ret ?_
            refine SX.seq_ret ?_
            refine SX.weak L (by (try simp only [RdL]); repeat (first | exact List.Sublist.refl _ | apply List.Sublist.cons | apply List.sublist_append_of_sublist_right)) ?_
            refine SX.perm ([] :: L) (List.Perm.refl _) ?_
            rw [hm]
            exact SX.ret3 rfl rfl rfl rfl (ResA.bad L)
          · have hhead : ¬ headBad (bs.getD 0 0) (bs.getD 1 0) := by
              rw [← e13]
              rintro (h | h | h | h)
              · exact h (by exact_mod_cast Decidable.not_not.1 g16)
              · rw [e13, ← e19] at h; omega
              · rw [e13, ← e26, ← e31] at h; omega
              · rw [← e40] at h; exact h (by exact_mod_cast Decidable.not_not.1 c43)
            refine SC.skip ?_
            refine SX.seq ?_
            refine SC.seq ?_
            refine SC.plain ?_
            refine St.move rfl rfl ?_
            refine St.cutB (e := 5) 2 bs.length rfl rfl (by kernel_rfl) hv0 hcp ⟨_, _, rfl, rfl⟩ rfl (by omega) (by omega) (fun v3 h3 _ => ?_)
            rw [List.take_of_length_le (by rw [List.length_drop]; omega)] at h3
            refine St.move rfl rfl ?_
            refine St.call [_, _] rfl (by kernel_rfl) rfl (iraw_spec w0 _ v3 (bs.drop 2) h3 (by rw [List.length_drop]; omega) (fun b h => hb b (List.mem_of_mem_drop h)) m hm0 F (by rw [List.length_drop]; omega)) (fun _ _ _ _ h => h.nil) ?_
            rintro r1 L1 ⟨⟨v4, E4, rfl, hb4, rfl⟩, hok⟩
            have hz : zlibG F bs m.toNat = zlibTail bs (rawR F F (bs.drop 2) m.toNat 0 []) := (if_neg (by omega)).trans (if_neg hhead)
            rcases hg : rawR F F (bs.drop 2) m.toNat 0 [] with ⟨u, t, o⟩ | e
            · rw [hg] at hb4 hok hz
              obtain ⟨hol, htl, hob⟩ := hok.ok _ _ _ rfl
              rw [List.length_drop] at htl
              have hb4r := hb4.read
              obtain ⟨b4, o4, A4, c4, rfl, _, _⟩ := hb4r
              simp only [rawRes] at hb4 ⊢
              refine St.move rfl rfl ?_
              refine St.extract rfl rfl rfl ?_
              refine St.extract rfl rfl rfl ?_
              refine St.extract rfl rfl rfl ?_
              refine St.assign rfl rfl ?_
              refine St.assign rfl rfl ?_
              refine St.assign rfl rfl ?_
              refine St.done ?_
              refine SX.seq ?_
              refine SC.seq ?_
              refine SC.seq ?_
              refine SC.plain ?_
              refine St.move rfl rfl ?_
              refine St.neq rfl rfl rfl ?_
              refine St.done ?_
              refine SX.seq ?_
              refine SC.condp rfl (fun c53 => ?_) (fun c53 => ?_)
              · exfalso; omega
              · refine SC.skip ?_
                refine SX.seq ?_
                refine SC.seq ?_
                refine SC.plain ?_
                refine St.move rfl rfl ?_
                first | refine St.addN (b := 2) rfl rfl rfl (by omega) ?_ | refine St.addI rfl rfl rfl (by omega) ?_
                refine St.assign rfl rfl ?_
                refine St.done ?_
                refine SX.seq ?_
                refine SC.seq ?_
                refine SC.seq ?_
                refine SC.plain ?_
                refine St.move rfl rfl ?_
                refine St.lenSl rfl rfl (by kernel_rfl) ?_
                refine St.move rfl rfl ?_
                first | refine St.subN rfl rfl rfl (by omega) (by omega) ?_ | refine St.subI rfl rfl rfl (by omega) ?_
                refine St.lss rfl rfl rfl ?_
                refine St.done ?_
                refine SX.seq ?_
                refine SC.condp rfl (fun c61 => ?_) (fun c61 => ?_)
                · have hm : zlibG F bs m.toNat = ([], 0, 4) := hz.trans (if_pos (by omega))
                  refine SC.seq ?_
                  refine SC.plain ?_
                  refine St.assign rfl rfl ?_
                  refine St.assign rfl rfl ?_
                  refine St.assign rfl rfl ?_
                  refine St.done ?_
                  refine SX.seq ?_
                  refine SC.ret ?_
                  refine SX.seq_ret ?_
                  refine SX.weak L (by (try simp only [RdL]); repeat (first | exact List.Sublist.refl _ | apply List.Sublist.cons | apply List.sublist_append_of_sublist_right)) ?_
                  refine SX.perm ([] :: L) (List.Perm.refl _) ?_
                  rw [hm]
                  exact SX.ret3 rfl rfl rfl rfl (ResA.bad L)
                · refine SC.skip ?_
                  refine SX.seq ?_
                  refine SC.seq ?_
                  refine SC.seq ?_
                  refine SC.drawn [(0, true), (1, true), (2, true), (3, true), (4, true), (5, true), (6, true), (7, true), (8, true), (9, true), (10, true), (11, true), (12, true), (13, true), (14, true), (15, true), (16, true), (17, true), (18, true), (19, true), (20, true), (21, true), (22, true), (23, true), (24, true), (25, true), (26, true), (27, true), (28, true), (29, true), (30, false), (31, true)] [] (_) (by kernel_rfl) (by kernel_rfl) (fun _ h => h) ?_
                  refine St.move rfl rfl ?_
                  refine St.move rfl rfl ?_
                  refine St.indexSl (e := 5) (sz := 1) rfl rfl rfl (by kernel_rfl) (by omega) ?_
                  first | (refine St.loadB rfl rfl (by kernel_rfl) (HoldsN.mono hr (fun w hw => by first | exact hw | exact hw.drop | exact hw.drop.drop | exact hw.drop.drop.drop | exact hw.drop.drop.drop.drop | exact hw.drop.drop.drop.drop.drop | exact hw.drop.drop.drop.drop.drop.drop | exact hw.drop.drop.drop.drop.drop.drop.drop | exact hw.drop.drop.drop.drop.drop.drop.drop.drop | exact hw.drop.drop.drop.drop.drop.drop.drop.drop.drop | exact hw.drop.drop.drop.drop.drop.drop.drop.drop.drop.drop | exact hw.drop.drop.drop.drop.drop.drop.drop.drop.drop.drop.drop | exact hw.drop.drop.drop.drop.drop.drop.drop.drop.drop.drop.drop.drop | exact hw.drop.drop.drop.drop.drop.drop.drop.drop.drop.drop.drop.drop.drop)) rfl (by omega) hb ?_; intro n65 e65 l65) | refine St.load rfl rfl (by kernel_rfl) (by first | exact Holds.row mem0 rfl | exact Holds.row mem1 rfl | exact Holds.row mem2 rfl | exact Holds.row mem3 rfl | exact Holds.row mem4 rfl | exact Holds.row mem5 rfl | exact Holds.row mem6 rfl | exact Holds.row mem7 rfl | exact Holds.row mem8 rfl) ?_
                  first | refine St.convUx un32 rfl rfl (by kernel_rfl) (by kernel_rfl) (by omega) ?_ | refine St.convU un32 rfl rfl (by kernel_rfl) (by kernel_rfl) ?_ | refine St.convZ un32 rfl rfl (by kernel_rfl) (by kernel_rfl) ?_
                  first | refine St.shlUx un32 (b := 24) rfl rfl rfl (by show _ ≤ (32 : Nat); omega) (by omega) ?_ | refine St.shlU un32 (b := 24) rfl rfl rfl (by show _ ≤ (32 : Nat); omega) ?_ | refine St.shl rfl rfl rfl (by omega) ?_
                  refine St.move rfl rfl ?_
                  refine St.move rfl rfl ?_
                  first | refine St.addN (b := 1) rfl rfl rfl (by omega) ?_ | refine St.addI rfl rfl rfl (by omega) ?_
                  refine St.indexSl (e := 5) (sz := 1) rfl rfl rfl (by kernel_rfl) (by omega) ?_
                  first | (refine St.loadB rfl rfl (by kernel_rfl) (HoldsN.mono hr (fun w hw => by first | exact hw | exact hw.drop | exact hw.drop.drop | exact hw.drop.drop.drop | exact hw.drop.drop.drop.drop | exact hw.drop.drop.drop.drop.drop | exact hw.drop.drop.drop.drop.drop.drop | exact hw.drop.drop.drop.drop.drop.drop.drop | exact hw.drop.drop.drop.drop.drop.drop.drop.drop | exact hw.drop.drop.drop.drop.drop.drop.drop.drop.drop | exact hw.drop.drop.drop.drop.drop.drop.drop.drop.drop.drop | exact hw.drop.drop.drop.drop.drop.drop.drop.drop.drop.drop.drop | exact hw.drop.drop.drop.drop.drop.drop.drop.drop.drop.drop.drop.drop | exact hw.drop.drop.drop.drop.drop.drop.drop.drop.drop.drop.drop.drop.drop)) rfl (by omega) hb ?_; intro n72 e72 l72) | refine St.load rfl rfl (by kernel_rfl) (by first | exact Holds.row mem0 rfl | exact Holds.row mem1 rfl | exact Holds.row mem2 rfl | exact Holds.row mem3 rfl | exact Holds.row mem4 rfl | exact Holds.row mem5 rfl | exact Holds.row mem6 rfl | exact Holds.row mem7 rfl | exact Holds.row mem8 rfl) ?_
                  first | refine St.convUx un32 rfl rfl (by kernel_rfl) (by kernel_rfl) (by omega) ?_ | refine St.convU un32 rfl rfl (by kernel_rfl) (by kernel_rfl) ?_ | refine St.convZ un32 rfl rfl (by kernel_rfl) (by kernel_rfl) ?_
                  first | refine St.shlUx un32 (b := 16) rfl rfl rfl (by show _ ≤ (32 : Nat); omega) (by omega) ?_ | refine St.shlU un32 (b := 16) rfl rfl rfl (by show _ ≤ (32 : Nat); omega) ?_ | refine St.shl rfl rfl rfl (by omega) ?_
                  first | refine St.orU un32 rfl rfl rfl (by omega) (by omega) ?_ | refine St.orI rfl rfl rfl ?_
                  refine St.move rfl rfl ?_
                  refine St.move rfl rfl ?_
                  first | refine St.addN (b := 2) rfl rfl rfl (by omega) ?_ | refine St.addI rfl rfl rfl (by omega) ?_
                  refine St.indexSl (e := 5) (sz := 1) rfl rfl rfl (by kernel_rfl) (by omega) ?_
                  first | (refine St.loadB rfl rfl (by kernel_rfl) (HoldsN.mono hr (fun w hw => by first | exact hw | exact hw.drop | exact hw.drop.drop | exact hw.drop.drop.drop | exact hw.drop.drop.drop.drop | exact hw.drop.drop.drop.drop.drop | exact hw.drop.drop.drop.drop.drop.drop | exact hw.drop.drop.drop.drop.drop.drop.drop | exact hw.drop.drop.drop.drop.drop.drop.drop.drop | exact hw.drop.drop.drop.drop.drop.drop.drop.drop.drop | exact hw.drop.drop.drop.drop.drop.drop.drop.drop.drop.drop | exact hw.drop.drop.drop.drop.drop.drop.drop.drop.drop.drop.drop | exact hw.drop.drop.drop.drop.drop.drop.drop.drop.drop.drop.drop.drop | exact hw.drop.drop.drop.drop.drop.drop.drop.drop.drop.drop.drop.drop.drop)) rfl (by omega) hb ?_; intro n80 e80 l80) | refine St.load rfl rfl (by kernel_rfl) (by first | exact Holds.row mem0 rfl | exact Holds.row mem1 rfl | exact Holds.row mem2 rfl | exact Holds.row mem3 rfl | exact Holds.row mem4 rfl | exact Holds.row mem5 rfl | exact Holds.row mem6 rfl | exact Holds.row mem7 rfl | exact Holds.row mem8 rfl) ?_
                  first | refine St.convUx un32 rfl rfl (by kernel_rfl) (by kernel_rfl) (by omega) ?_ | refine St.convU un32 rfl rfl (by kernel_rfl) (by kernel_rfl) ?_ | refine St.convZ un32 rfl rfl (by kernel_rfl) (by kernel_rfl) ?_
                  first | refine St.shlUx un32 (b := 8) rfl rfl rfl (by show _ ≤ (32 : Nat); omega) (by omega) ?_ | refine St.shlU un32 (b := 8) rfl rfl rfl (by show _ ≤ (32 : Nat); omega) ?_ | refine St.shl rfl rfl rfl (by omega) ?_
                  refine St.orU un32 rfl rfl rfl (or_lt (by omega) (by omega)) (by omega) ?_
                  refine St.move rfl rfl ?_
                  refine St.move rfl rfl ?_
                  first | refine St.addN (b := 3) rfl rfl rfl (by omega) ?_ | refine St.addI rfl rfl rfl (by omega) ?_
                  refine St.indexSl (e := 5) (sz := 1) rfl rfl rfl (by kernel_rfl) (by omega) ?_
                  first | (refine St.loadB rfl rfl (by kernel_rfl) (HoldsN.mono hr (fun w hw => by first | exact hw | exact hw.drop | exact hw.drop.drop | exact hw.drop.drop.drop | exact hw.drop.drop.drop.drop | exact hw.drop.drop.drop.drop.drop | exact hw.drop.drop.drop.drop.drop.drop | exact hw.drop.drop.drop.drop.drop.drop.drop | exact hw.drop.drop.drop.drop.drop.drop.drop.drop | exact hw.drop.drop.drop.drop.drop.drop.drop.drop.drop | exact hw.drop.drop.drop.drop.drop.drop.drop.drop.drop.drop | exact hw.drop.drop.drop.drop.drop.drop.drop.drop.drop.drop.drop | exact hw.drop.drop.drop.drop.drop.drop.drop.drop.drop.drop.drop.drop | exact hw.drop.drop.drop.drop.drop.drop.drop.drop.drop.drop.drop.drop.drop)) rfl (by omega) hb ?_; intro n88 e88 l88) | refine St.load rfl rfl (by kernel_rfl) (by first | exact Holds.row mem0 rfl | exact Holds.row mem1 rfl | exact Holds.row mem2 rfl | exact Holds.row mem3 rfl | exact Holds.row mem4 rfl | exact Holds.row mem5 rfl | exact Holds.row mem6 rfl | exact Holds.row mem7 rfl | exact Holds.row mem8 rfl) ?_
                  first | refine St.convUx un32 rfl rfl (by kernel_rfl) (by kernel_rfl) (by omega) ?_ | refine St.convU un32 rfl rfl (by kernel_rfl) (by kernel_rfl) ?_ | refine St.convZ un32 rfl rfl (by kernel_rfl) (by kernel_rfl) ?_
                  refine St.orU un32 rfl rfl rfl (or_lt (or_lt (by omega) (by omega)) (by omega)) (by omega) ?_
                  refine St.move rfl rfl ?_
                  refine St.call [_] rfl (by kernel_rfl) rfl (adler_spec w0 _ _ o (hb4.rd (by simp)) (by omega) hob) (fun _ _ _ h hw => by rw [← h.1] at hw; exact hw) ?_
                  rintro r5 L5 ⟨rfl, rfl⟩
                  have hs : sumAt bs ((t + 7) / 8 + 2) = n65 * 2 ^ 24 ||| n72 * 2 ^ 16 ||| n80 * 2 ^ 8 ||| n88 := by unfold sumAt; rw [← e65, ← e72, ← e80, ← e88]; exact sum_be l65 l72 l80
                  refine St.neq rfl rfl rfl ?_
                  refine St.done ?_
                  refine SX.tail ?_
                  refine St.done ?_
                  refine SX.seq ?_
                  refine SC.condp rfl (fun c93 => ?_) (fun c93 => ?_)
                  · have hm : zlibG F bs m.toNat = ([], 0, 6) := hz.trans ((if_neg (by omega)).trans (if_pos (fun h => c93 (by rw [← hs, h]))))
                    refine SC.seq ?_
                    refine SC.plain ?_
                    refine St.assign rfl rfl ?_
                    refine St.assign rfl rfl ?_
                    refine St.assign rfl rfl ?_
                    refine St.done ?_
                    refine SX.seq ?_
                    refine SC.ret ?_
                    refine SX.seq_ret ?_
                    refine SX.weak L (by (try simp only [RdL]); repeat (first | exact List.Sublist.refl _ | apply List.Sublist.cons | apply List.sublist_append_of_sublist_right)) ?_
                    refine SX.perm ([] :: L) (List.Perm.refl _) ?_
                    rw [hm]
                    exact SX.ret3 rfl rfl rfl rfl (ResA.bad L)
                  · have hm : zlibG F bs m.toNat = (o, (t + 7) / 8 + 2 + 4, 0) := hz.trans ((if_neg (by omega)).trans (if_neg (fun h => h (by rw [hs]; exact_mod_cast Decidable.not_not.1 c93))))
                    refine SC.skip ?_
                    refine SX.seq ?_
                    refine SC.seq ?_
                    refine SC.plain ?_
                    refine St.move rfl rfl ?_
                    refine St.move rfl rfl ?_
                    first | refine St.addN (b := 4) rfl rfl rfl (by omega) ?_ | refine St.addI rfl rfl rfl (by omega) ?_
                    refine St.assign rfl rfl ?_
                    refine St.assign rfl rfl ?_
                    refine St.assign rfl rfl ?_
                    refine St.done ?_
                    refine SX.seq ?_
                    refine SC.ret ?_
                    rw [hm]
                    exact SX.ret3 rfl rfl rfl rfl ⟨_, _, rfl, hb4, rfl⟩
            · rw [hg] at hb4 hok hz
              have hne := hok.bad _ rfl
              have hm : zlibG F bs m.toNat = ([], 0, e) := hz
              simp only [rawRes] at hb4 ⊢
              refine St.move rfl rfl ?_
              refine St.extract rfl rfl rfl ?_
              refine St.extract rfl rfl rfl ?_
              refine St.extract rfl rfl rfl ?_
              refine St.assign rfl rfl ?_
              refine St.assign rfl rfl ?_
              refine St.assign rfl rfl ?_
              refine St.done ?_
              refine SX.seq ?_
              refine SC.seq ?_
              refine SC.seq ?_
              refine SC.plain ?_
              refine St.move rfl rfl ?_
              refine St.neq rfl rfl rfl ?_
              refine St.done ?_
              refine SX.seq ?_
              refine SC.condp rfl (fun c53 => ?_) (fun c53 => ?_)
              · refine SC.seq ?_
                refine SC.plain ?_
                refine St.move rfl rfl ?_
                refine St.assign rfl rfl ?_
                refine St.assign rfl rfl ?_
                refine St.assign rfl rfl ?_
                refine St.done ?_
                refine SX.seq ?_
                refine SC.ret ?_
                refine SX.seq_ret ?_
                refine SX.weak L (by (try simp only [RdL]); repeat (first | exact List.Sublist.refl _ | apply List.Sublist.cons | apply List.sublist_append_of_sublist_right)) ?_
                refine SX.perm ([] :: L) (List.Perm.refl _) ?_
                rw [hm]
                exact SX.ret3 rfl rfl rfl rfl (ResA.bad L)
              · exfalso; omega
theorem awake6_spec (w0 : World) (L : List Chunk) : Meets Try.prog 53 #[] w0 L (fun r L' => r = .bool true) := by
  refine Meets.of_body [] Try.func53 rfl Try.ntmps53 rfl ?_
  refine SC.seq ?_
  refine SC.plain ?_
  refine St.assign rfl rfl ?_
  refine St.done ?_
  refine SX.seq ?_
  refine SC.seq ?_
  refine SC.plain ?_
  refine St.buildSl (n := 7) (e := 5) [(0, .int .u8 1), (1, .int .u8 2), (2, .int .u8 0), (3, .int .u8 253), (4, .int .u8 255), (5, .int .u8 97), (6, .int .u8 98)] (bytes [1, 2, 0, 253, 255, 97, 98]) rfl rfl (by kernel_rfl) (fun _ _ h => h.nil) (fun b1 => ?_)
  refine St.call [_, _] rfl (by kernel_rfl) rfl (iraw_spec w0 _ (.slice (some ⟨b1, 0, none⟩) 7 7) [1, 2, 0, 253, 255, 97, 98] (Rd.row rfl mem0) (by decide) (by decide) 10 (by omega) 57 (by decide)) (fun _ _ _ _ h => h.nil) ?_
  rintro r1 L1 ⟨⟨v1, E1, rfl, hb1, rfl⟩, -⟩
  rw [show rawR 57 57 [1, 2, 0, 253, 255, 97, 98] (Int.toNat 10) 0 [] = .ok () 56 [97, 98] from by kernel_rfl] at hb1 ⊢
  simp only [rawRes] at hb1 ⊢
  have hb1r := hb1.read
  obtain ⟨c1, o1, A1, d1, rfl, _, _⟩ := hb1r
  refine St.move rfl rfl ?_
  refine St.extract rfl rfl rfl ?_
  refine St.extract rfl rfl rfl ?_
  refine St.extract rfl rfl rfl ?_
  refine St.assign rfl rfl ?_
  refine St.assign rfl rfl ?_
  refine St.assign rfl rfl ?_
  refine St.done ?_
  refine SX.seq ?_
  refine SC.seq ?_
  refine SC.plain ?_
  refine St.buildSl (n := 1) (e := 5) [(0, .int .u8 7)] (bytes [7]) rfl rfl (by kernel_rfl) (fun _ _ h => h.nil) (fun b2 => ?_)
  refine St.call [_, _] rfl (by kernel_rfl) rfl (iraw_spec w0 _ (.slice (some ⟨b2, 0, none⟩) 1 1) [7] (Rd.row rfl mem0) (by decide) (by decide) 10 (by omega) 9 (by decide)) (fun _ _ _ _ h => h.nil) ?_
  rintro r2 L2 ⟨⟨v2, E2, rfl, hb2, rfl⟩, -⟩
  rw [show rawR 9 9 [7] (Int.toNat 10) 0 [] = .bad 3 from by kernel_rfl] at hb2 ⊢
  simp only [rawRes] at hb2 ⊢
  refine St.move rfl rfl ?_
  refine St.extract rfl rfl rfl ?_
  refine St.extract rfl rfl rfl ?_
  refine St.extract rfl rfl rfl ?_
  refine St.assign rfl rfl ?_
  refine St.assign rfl rfl ?_
  refine St.assign rfl rfl ?_
  refine St.done ?_
  refine SX.seq ?_
  refine SC.seq ?_
  refine SC.plain ?_
  refine St.buildSl (n := 11) (e := 5) [(0, .int .u8 120), (1, .int .u8 1), (2, .int .u8 1), (3, .int .u8 0), (4, .int .u8 0), (5, .int .u8 255), (6, .int .u8 255), (7, .int .u8 0), (8, .int .u8 0), (9, .int .u8 0), (10, .int .u8 1)] (bytes [120, 1, 1, 0, 0, 255, 255, 0, 0, 0, 1]) rfl rfl (by kernel_rfl) (fun _ _ h => h.nil) (fun b3 => ?_)
  refine St.call [_, _] rfl (by kernel_rfl) rfl (izlib_spec w0 _ (.slice (some ⟨b3, 0, none⟩) 11 11) [120, 1, 1, 0, 0, 255, 255, 0, 0, 0, 1] (Rd.row rfl mem0) ⟨_, _, _, rfl, Nat.le_refl _⟩ (by decide) (by decide) 10 (by omega) 89 (by decide)) (fun _ _ _ _ h => h.nil) ?_
  rintro r3 L3 ⟨v3, E3, rfl, hb3, rfl⟩
  rw [show zlibG 89 [120, 1, 1, 0, 0, 255, 255, 0, 0, 0, 1] (Int.toNat 10) = ([], 11, 0) from by kernel_rfl] at hb3 ⊢
  refine St.move rfl rfl ?_
  refine St.extract rfl rfl rfl ?_
  refine St.extract rfl rfl rfl ?_
  refine St.extract rfl rfl rfl ?_
  refine St.assign rfl rfl ?_
  refine St.assign rfl rfl ?_
  refine St.assign rfl rfl ?_
  refine St.done ?_
  refine SX.seq ?_
  refine SC.seq ?_
  refine SC.plain ?_
  refine St.move rfl rfl ?_
  refine St.toStr (e := 5) (bs := [97, 98]) (n := 2) rfl rfl (hb1.rd (by simp [Lq])) (by kernel_rfl) (by kernel_rfl) (by kernel_rfl) ?_
  refine St.strEql rfl rfl rfl ?_
  refine St.move rfl rfl ?_
  refine St.split 31 rfl (fun g31 => ?_) (fun g31 => ?_)
  · refine St.guard_yes rfl rfl ?_
    refine St.move rfl rfl ?_
    refine St.guard_yes rfl rfl ?_
    refine St.eql rfl rfl rfl ?_
    refine St.pick_true rfl rfl rfl ?_
    refine St.move rfl rfl ?_
    refine St.split 35 rfl (fun g35 => ?_) (fun g35 => ?_)
    · refine St.guard_yes rfl rfl ?_
      refine St.move rfl rfl ?_
      refine St.guard_yes rfl rfl ?_
      refine St.eql rfl rfl rfl ?_
      refine St.pick_true rfl rfl rfl ?_
      refine St.move rfl rfl ?_
      refine St.split 39 rfl (fun g39 => ?_) (fun g39 => ?_)
      · refine St.guard_yes rfl rfl ?_
        refine St.move rfl rfl ?_
        refine St.guard_yes rfl rfl ?_
        refine St.eql rfl rfl rfl ?_
        refine St.pick_true rfl rfl rfl ?_
        refine St.move rfl rfl ?_
        refine St.split 43 rfl (fun g43 => ?_) (fun g43 => ?_)
        · refine St.guard_yes rfl rfl ?_
          refine St.move rfl rfl ?_
          refine St.guard_yes rfl rfl ?_
          refine St.eql rfl rfl rfl ?_
          refine St.pick_true rfl rfl rfl ?_
          refine St.move rfl rfl ?_
          refine St.split 47 rfl (fun g47 => ?_) (fun g47 => ?_)
          · refine St.guard_yes rfl rfl ?_
            refine St.move rfl rfl ?_
            refine St.guard_yes rfl rfl ?_
            refine St.eql rfl rfl rfl ?_
            refine St.pick_true rfl rfl rfl ?_
            refine St.assign rfl rfl ?_
            refine St.done ?_
            refine SX.seq ?_
            refine SC.ret ?_
            exact SX.ret1 rfl rfl rfl
          · exact absurd rfl g47
        · exact absurd rfl g43
      · exact absurd rfl g39
    · exact absurd rfl g35
  · exact absurd rfl g31
end Go.Proofs.Ytahafepgmkiabaa
