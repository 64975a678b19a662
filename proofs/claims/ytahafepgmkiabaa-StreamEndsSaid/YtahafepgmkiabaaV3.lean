/- Plain streams: when datagrams go through, all that was written comes, and both ends are done, within some rounds. -/
import Derived.Test.YtahafepgmkiabaaV0
import Derived.Test.YtahafepgmkiabaaV2
set_option linter.unusedVariables false
set_option linter.unusedSimpArgs false
namespace Go.Proofs.Ytahafepgmkiabaa
open Go Go.Proofs.Ytahafepgmkiabaa.Sep

/-! time -/
structure Tm (e : En) (now : Int) : Prop where
  le : e.at_ ≤ now
  late : e.waits = true ∨ (e.st = 1 ∧ e.asked = true) → e.at_ + 8 ≤ now
theorem Tm.next {e : En} {now : Int} (h : e.at_ ≤ now) : Tm e (now + 8) := ⟨by omega, fun _ => by omega⟩
theorem outp_at (e : En) (now : Int) : (e.outp now).1.at_ = e.at_ ∨ (e.outp now).1.at_ = now := by
  unfold En.outp
  split
  · split
    · exact .inr rfl
    · exact .inl rfl
  · split
    · rw [sends_eq]
      simp only
      split
      · exact .inr rfl
      · unfold En.back
        split
        · exact .inr rfl
        · exact .inl rfl
    · exact .inl rfl
theorem inp_at (e : En) (s : List Nat) (now : Int) : (e.inp s now).at_ = e.at_ ∨ (e.inp s now).at_ = now := by
  unfold En.inp
  split
  · exact .inl rfl
  · unfold En.seg
    split
    · exact .inl rfl
    · split
      · split <;> exact .inl rfl
      · split
        · split <;> exact .inl rfl
        · unfold En.open_
          split
          · exact .inl rfl
          · split
            · unfold En.ack
              split
              · exact .inr rfl
              · exact .inl rfl
            · split
              · unfold En.data
                split <;> exact .inl rfl
              · split <;> exact .inl rfl
theorem gets_at {now : Int} : ∀ (l : List (List Nat)) {e : En}, e.at_ ≤ now → (gets e now l).at_ ≤ now
  | [], e, h => h
  | s :: l, e, h => gets_at l (e := e.inp s now) (by rcases inp_at e s now with h1 | h1 <;> omega)
theorem outp_le {e : En} {now : Int} (h : e.at_ ≤ now) : (e.outp now).1.at_ ≤ now := by rcases outp_at e now with h1 | h1 <;> omega
theorem Tm.due {e : En} {now : Int} (h : Tm e now) (hn : Clock now) (hw : e.waits = true) : e.due now = true := by
  have := h.late (.inl hw)
  have := hn.2
  unfold En.due
  simp only [Bool.and_eq_true, decide_eq_true_eq]
  omega
/-! what comes of what an end sends -/
theorem gets_pieces {S : En} (okS : S.Ok) (idS : S.id = 9) (h3S : S.st = 3) {now : Int} : ∀ (f n : Nat) {R : En}, Dir S R → R.id = 9 → R.st = 3 → OnGrid S.out.length S.una → S.una ≤ n → n ≤ S.una + 4000 → OnGrid S.out.length n → n ≤ R.inn.length →
    gets R now (S.pieces f n).1 = { R with inn := S.out.take (max R.inn.length (S.pieces f n).2), owes := R.owes || !(S.pieces f n).1.isEmpty }
  | 0, n, R, hd, idR, hR, hu, hun, hun2, hg, hle => by
    simp only [En.pieces, gets_nil, List.isEmpty_nil, Bool.not_true, Bool.or_false]
    rw [show max R.inn.length n = R.inn.length by omega, ← prefix_take hd.pre]
  | f + 1, n, R, hd, idR, hR, hu, hun, hun2, hg, hle => by
    by_cases hc : n < S.out.length ∧ n < S.una + 4000
    · rw [pieces_more S f n hc]
      simp only [gets_cons]
      have hsh := hd.short
      have e := inp_say (S := S) (R := R) idS idR (by omega) (ty := 3) (seq := n) (ack := 0) (d := (S.out.drop n).take (min 400 (S.out.length - n))) (by decide) (by omega) (by decide) (by rw [piece_len]; omega) (piece_lt okS n) now
      have e : R.inp (S.say 3 n 0 ((S.out.drop n).take (min 400 (S.out.length - n)))) now = _ := e
      rw [seg_data3 hR] at e
      rw [e]
      have hg0 := hg
      have hu0 := hu
      have hi0 := hd.gi
      unfold OnGrid at hg0 hu0 hi0
      have hw : n + min 400 (S.out.length - n) ≤ S.una + 4000 := by omega
      have hg2 : OnGrid S.out.length (n + min 400 (S.out.length - n)) := by unfold OnGrid; omega
      have hd2 := hd.data h3S hg hc.1 hw
      have hp := pieces_le S f (n + min 400 (S.out.length - n)) (by omega)
      by_cases he : n = R.inn.length
      · have hno : R.other = false := by
          cases ho : R.other with
          | false => rfl
          | true => have := hd.oth ho; omega
        have e2 : R.data n ((S.out.drop n).take (min 400 (S.out.length - n))) = { R with inn := S.out.take (n + min 400 (S.out.length - n)), owes := true } := by
          unfold En.data
          rw [if_pos ⟨by omega, by rw [piece_len]; omega, hno⟩, next_piece hd hc.1 he]
        rw [e2] at hd2 ⊢
        have hl : (S.out.take (n + min 400 (S.out.length - n))).length = n + min 400 (S.out.length - n) := by rw [List.length_take]; omega
        rw [gets_pieces okS idS h3S f _ hd2 idR hR hu (by omega) hw hg2 (by simp only [hl]; omega)]
        simp only [hl, Bool.true_or, List.isEmpty_cons, Bool.not_false, Bool.or_true]
        rw [show max (n + min 400 (S.out.length - n)) (S.pieces f (n + min 400 (S.out.length - n))).2 = max R.inn.length (S.pieces f (n + min 400 (S.out.length - n))).2 by omega]
      · have e2 : R.data n ((S.out.drop n).take (min 400 (S.out.length - n))) = { R with owes := true } := by
          unfold En.data
          rw [if_neg (by omega)]
        rw [e2] at hd2 ⊢
        rw [gets_pieces okS idS h3S f _ hd2 idR hR hu (by omega) hw hg2 (by simp only; omega)]
        simp only [Bool.true_or, List.isEmpty_cons, Bool.not_false, Bool.or_true]
    · rw [pieces_end S _ n hc]
      simp only [gets_nil, List.isEmpty_nil, Bool.not_true, Bool.or_false]
      rw [show max R.inn.length n = R.inn.length by omega, ← prefix_take hd.pre]
theorem gets_far {S : En} (okS : S.Ok) (idS : S.id = 9) (hsh : S.out.length ≤ 30000) {now : Int} : ∀ (f n : Nat) {R : En}, R.id = 9 → R.st = 3 → R.inn.length < n →
    gets R now (S.pieces f n).1 = { R with owes := R.owes || !(S.pieces f n).1.isEmpty }
  | 0, n, R, idR, hR, hlt => by simp [En.pieces, gets_nil]
  | f + 1, n, R, idR, hR, hlt => by
    by_cases hc : n < S.out.length ∧ n < S.una + 4000
    · rw [pieces_more S f n hc]
      simp only [gets_cons]
      have e := inp_say (S := S) (R := R) idS idR (by omega) (ty := 3) (seq := n) (ack := 0) (d := (S.out.drop n).take (min 400 (S.out.length - n))) (by decide) (by omega) (by decide) (by rw [piece_len]; omega) (piece_lt okS n) now
      have e : R.inp (S.say 3 n 0 ((S.out.drop n).take (min 400 (S.out.length - n)))) now = _ := e
      rw [seg_data3 hR] at e
      have e2 : R.data n ((S.out.drop n).take (min 400 (S.out.length - n))) = { R with owes := true } := by
        unfold En.data
        rw [if_neg (by omega)]
      rw [e, e2, gets_far (R := { R with owes := true }) okS idS hsh f _ idR hR (by simp only; omega)]
      simp only [Bool.true_or, List.isEmpty_cons, Bool.not_false, Bool.or_true]
    · rw [pieces_end S _ n hc]
      simp [gets_nil]
/-- Behind an acknowledgment of S's, if it owes one. -/
def ackd (S R : En) (now : Int) : En := if S.owes then R.ack ((S.inn.length + (if S.other then 1 else 0) : Nat) : Int) now else R
theorem ackd_keeps (S R : En) (now : Int) : (ackd S R now).out = R.out ∧ (ackd S R now).id = R.id ∧ (ackd S R now).inn = R.inn ∧ (ackd S R now).other = R.other ∧ (ackd S R now).owes = R.owes ∧ (ackd S R now).st = R.st ∧ (ackd S R now).next = R.next ∧ (ackd S R now).endSent = R.endSent ∧ (ackd S R now).closed = R.closed ∧ (ackd S R now).read = R.read := by
  unfold ackd
  generalize (S.inn.length + (if S.other then 1 else 0)) = k
  split
  · unfold En.ack; split <;> exact ⟨rfl, rfl, rfl, rfl, rfl, rfl, rfl, rfl, rfl, rfl⟩
  · exact ⟨rfl, rfl, rfl, rfl, rfl, rfl, rfl, rfl, rfl, rfl⟩
theorem gets_acks {S b R : En} {now : Int} (h1 : b.owes = S.owes) (h2 : b.inn = S.inn) (h3 : b.other = S.other) (idb : b.id = 9) (idR : R.id = 9) (hR : R.st = 3) (hin : S.inn.length ≤ 1048576) : gets R now (acksOf b) = ackd S R now := by
  unfold acksOf ackd
  rw [h1, h2, h3]
  split
  · rw [gets_cons, gets_nil]
    have e := inp_say (S := b) (R := R) idb idR (by omega) (ty := 2) (seq := 0) (ack := S.inn.length + (if S.other then 1 else 0)) (d := []) (by decide) (by decide) (by split <;> omega) (by decide) (by simp) now
    have e : R.inp (b.say 2 0 (S.inn.length + (if S.other then 1 else 0) : Nat) []) now = _ := e
    rw [e, seg_ack3 hR]
  · rfl
theorem gets_fins {b R : En} {now : Int} (idb : b.id = 9) (idR : R.id = 9) (hR : R.st = 3) (hout : b.out.length ≤ 30000) : gets R now (finsOf b) = if finOf b then { R with other := R.other || decide (((b.out.length : Nat) : Int) = (R.inn.length : Int)), owes := true } else R := by
  unfold finsOf
  by_cases hf : finOf b = true
  · rw [if_pos hf, if_pos hf, gets_cons, gets_nil]
    have hl : (b.pieces 11 b.next).2 = b.out.length := by unfold finOf at hf; simp only [Bool.and_eq_true, decide_eq_true_eq] at hf; exact hf.2
    rw [hl]
    have e := inp_say (S := b) (R := R) idb idR (by omega) (ty := 4) (seq := b.out.length) (ack := 0) (d := []) (by decide) (by omega) (by decide) (by decide) (by simp) now
    have e : R.inp (b.say 4 b.out.length 0 []) now = _ := e
    rw [e, seg_fin3 hR]
    rfl
  · rw [if_neg hf, if_neg hf]; rfl
theorem back_clean {S : En} (okS : S.Ok) {now : Int} (hw : S.waits = true → S.due now = true) : (S.back now).next = S.una ∧ (S.back now).una = S.una ∧ (S.back now).endSent = S.endAcked ∧ (S.back now).endAcked = S.endAcked := by
  cases h : S.waits with
  | true =>
    rw [back_pos (by rw [h, hw h]; rfl)]
    exact ⟨rfl, rfl, rfl, rfl⟩
  | false =>
    rw [back_neg (by rw [h]; rfl)]
    unfold En.waits at h
    simp only [Bool.or_eq_false_iff, decide_eq_false_iff_not, Bool.and_eq_false_iff, Bool.not_eq_false'] at h
    have hu := okS.una
    refine ⟨by omega, rfl, ?_, rfl⟩
    cases ha : S.endAcked with
    | true => exact (okS.acked ha).1
    | false => rcases h.2 with h | h
               · exact h
               · rw [ha] at h; cases h
theorem back_same (S : En) (now : Int) : (S.back now).owes = S.owes ∧ (S.back now).other = S.other ∧ (S.back now).closed = S.closed := by
  unfold En.back
  split <;> exact ⟨rfl, rfl, rfl⟩
/-- What an end sends that sends all from what was acknowledged on. -/
theorem send_all {S R : En} (h : Pair S R) (h3 : S.st = 3) (h3' : R.st = 3) {now : Int} (hn : Clock now) (hw : S.waits = true → S.due now = true) :
    (S.outp now).1.una = S.una ∧ (S.outp now).1.endAcked = S.endAcked ∧ (S.outp now).1.next = min (S.una + 4000) S.out.length ∧ (S.outp now).1.endSent = decide (S.out.length ≤ S.una + 4000) ∧ (S.outp now).1.owes = false ∧ (S.outp now).1.other = S.other ∧
    ∃ i o w, gets R now (S.outp now).2 = { ackd S R now with inn := i, other := o, owes := w } ∧ i.length = min (S.una + 4000) S.out.length ∧ o = decide (S.out.length ≤ S.una + 4000) ∧ (S.una = S.out.length ∧ S.endAcked = true → w = R.owes) ∧ (¬ (S.una = S.out.length ∧ S.endAcked = true) → w = true) := by
  have e : S.outp now = S.sends now := by unfold En.outp; rw [if_neg (by omega), if_pos h3]
  rw [e, sends_eq]
  obtain ⟨c1, c2, c3, c4⟩ := back_clean h.okS hw
  obtain ⟨k1, k2, k3, k4, k5⟩ := back_keeps S now
  obtain ⟨m1, m2, m3⟩ := back_same S now
  have hb := back_dir h.sr now
  have hbok := back_ok h.okS hn
  have hcl := h.sr.closed
  have hacked := h.okS.acked
  have hinn := h.okS.inn
  generalize S.back now = b at *
  have idb : b.id = 9 := k2.trans h.idS
  have hp := pieces_good b hb.gu 11 b.next hb.gn hbok.una hb.win
  have hfar := pieces_far b 11 b.next hbok.next (by omega)
  have hle := pieces_le b 11 b.next hbok.next
  have hpe : (b.pieces 11 b.next).2 = min (S.una + 4000) S.out.length := by rw [← k1, ← c2]; omega
  have hfin : finOf b = (!S.endAcked && decide (S.out.length ≤ S.una + 4000)) := by
    unfold finOf
    rw [m3, hcl, c3, Bool.true_and, hpe, k1]
    congr 1
    exact decide_eq_decide.2 (by omega)
  refine ⟨c2, c4, hpe, ?_, rfl, m2, ?_⟩
  · show (b.endSent || finOf b) = _
    rw [hfin, c3]
    cases ha : S.endAcked with
    | true => have := (hacked ha).2; simp; omega
    | false => simp
  · have hsd : Dir b R := hb
    have ha1 : gets R now (acksOf b) = ackd S R now := gets_acks m1 k3 m2 idb h.idR h3' hinn
    obtain ⟨a1, a2, a3, a4, a5, a6, _⟩ := ackd_keeps S R now
    have hd1 : Dir b (ackd S R now) := hb.setR a3 a4
    have ha2 := gets_pieces hbok idb (k5.trans h3) (now := now) 11 b.next hd1 (a2.trans h.idR) (a6.trans h3') hb.gu hbok.una hb.win hb.gn (by rw [a3, c1]; exact h.sr.lo)
    have hmax : max (ackd S R now).inn.length (b.pieces 11 b.next).2 = (b.pieces 11 b.next).2 := by
      rw [a3, hpe]
      have := h.sr.hi
      have := h.sr.gi.1
      omega
    rw [hmax] at ha2
    have hil : (b.out.take (b.pieces 11 b.next).2).length = min (S.una + 4000) S.out.length := by rw [List.length_take, hpe, k1]; omega
    have hpe0 := pieces_some b 10 b.next
    rw [c1, k1, c2] at hpe0
    have hgu := h.sr.gu.1
    simp only [gets_app]
    rw [ha1, ha2, gets_fins idb (by exact a2.trans h.idR) (by exact a6.trans h3') (by rw [k1]; exact h.sr.short), hfin]
    rw [c1] at hil ⊢
    cases ha : S.endAcked with
    | true =>
      have hau := (hacked ha).2
      have hnil := hpe0.2 (by omega)
      rw [hnil]
      simp only [Bool.not_true, Bool.false_and, Bool.false_eq_true, if_false, List.isEmpty_nil, Bool.or_false]
      refine ⟨_, _, _, rfl, hil, ?_, fun _ => a5, fun hx => absurd ⟨hau, trivial⟩ hx⟩
      rw [a4, h.sr.ack ha]
      symm
      simp
      omega
    | false =>
      simp only [Bool.not_false, Bool.true_and, decide_eq_true_eq]
      by_cases hl : S.out.length ≤ S.una + 4000
      · rw [if_pos hl]
        refine ⟨_, _, _, rfl, hil, ?_, fun hx => by simp at hx, fun _ => rfl⟩
        show ((ackd S R now).other || decide (((b.out.length : Nat) : Int) = (((b.out.take (b.pieces 11 S.una).2).length : Nat) : Int))) = _
        rw [hil, k1, decide_eq_true (by omega : ((S.out.length : Nat) : Int) = ((min (S.una + 4000) S.out.length : Nat) : Int)), Bool.or_true, decide_eq_true hl]
      · rw [if_neg hl]
        have hne : ((b.pieces 11 S.una).1 = []) → False := fun hx => (hpe0.1 hx) (by omega)
        refine ⟨_, _, _, rfl, hil, ?_, fun hx => by simp at hx, fun _ => ?_⟩
        · rw [a4, decide_eq_false hl]
          cases ho : R.other with
          | false => rfl
          | true =>
            have := h.sr.oth ho
            have := h.sr.hi
            omega
        · cases hq : (b.pieces 11 S.una).1 with
          | nil => exact (hne hq).elim
          | cons x y => simp
/-- What an end sends that goes on behind what was sent and not acknowledged. -/
theorem send_part {S R : En} (h : Pair S R) (h3 : S.st = 3) (h3' : R.st = 3) {now : Int} (hn : Clock now) (hw : S.waits = true) (hd : S.due now = false) (hq1 : R.inn.length = S.una) (hq2 : R.other = S.endAcked) :
    (S.outp now).1.una = S.una ∧ (S.outp now).1.endAcked = S.endAcked ∧ (S.outp now).1.owes = false ∧ (S.outp now).1.other = S.other ∧ ∃ w, gets R now (S.outp now).2 = { ackd S R now with owes := w } := by
  have e : S.outp now = S.sends now := by unfold En.outp; rw [if_neg (by omega), if_pos h3]
  rw [e, sends_eq, back_neg (by rw [hw, hd]; rfl)]
  refine ⟨rfl, rfl, rfl, rfl, ?_⟩
  have hinn := h.okS.inn
  have ha1 : gets R now (acksOf S) = ackd S R now := gets_acks rfl rfl rfl h.idS h.idR h3' hinn
  obtain ⟨a1, a2, a3, a4, a5, a6, _⟩ := ackd_keeps S R now
  have hun := h.okS.una
  simp only [gets_app]
  rw [ha1]
  by_cases hlt : S.una < S.next
  · rw [gets_far h.okS h.idS h.sr.short 11 S.next (a2.trans h.idR) (a6.trans h3') (by rw [a3]; omega), gets_fins h.idS (by exact a2.trans h.idR) (by exact a6.trans h3') h.sr.short]
    have hnl := h.okS.next
    split
    · refine ⟨true, ?_⟩
      have : decide (((S.out.length : Nat) : Int) = (((ackd S R now).inn.length : Nat) : Int)) = false := by rw [a3]; simp; omega
      simp only [this, Bool.or_false]
    · exact ⟨_, rfl⟩
  · unfold En.waits at hw
    rw [decide_eq_false hlt, Bool.false_or, Bool.and_eq_true, Bool.not_eq_true'] at hw
    have hs := (h.okS.sent hw.1).1
    have hp : S.pieces 11 S.next = ([], S.next) := pieces_end S 11 S.next (by omega)
    have hf : finOf S = false := by unfold finOf; rw [hw.1]; simp
    rw [hp, gets_nil, gets_fins h.idS (a2.trans h.idR) (a6.trans h3') h.sr.short, hf]
    simp only [Bool.false_eq_true, if_false]
    exact ⟨(ackd S R now).owes, rfl⟩
end Go.Proofs.Ytahafepgmkiabaa
