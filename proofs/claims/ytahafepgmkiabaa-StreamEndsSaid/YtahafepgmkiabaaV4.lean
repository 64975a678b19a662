/- Plain streams: rounds in which datagrams go through: both ends open, all comes, both are done. -/
import Derived.Test.YtahafepgmkiabaaV3
set_option linter.unusedVariables false
set_option linter.unusedSimpArgs false
namespace Go.Proofs.Ytahafepgmkiabaa
open Go Go.Proofs.Ytahafepgmkiabaa.Sep

/-- All that S sent came to R, which will say so. -/
def P1 (S R : En) : Prop := S.next = R.inn.length ∧ S.endSent = R.other ∧ ((S.una < S.next ∨ S.endAcked ≠ S.endSent) → R.owes = true)
/-- S knows all that came to R. -/
def Q1 (S R : En) : Prop := R.inn.length = S.una ∧ R.other = S.endAcked
theorem ackd_cases {S R : En} (h : Dir R S) (now : Int) :
    (ackd S R now = R ∧ (S.owes = true → ¬ (R.una + (if R.endAcked then 1 else 0) < S.inn.length + (if S.other then 1 else 0) ∧ S.inn.length + (if S.other then 1 else 0) ≤ R.next + (if R.endSent then 1 else 0)))) ∨
    (S.owes = true ∧ R.una + (if R.endAcked then 1 else 0) < S.inn.length + (if S.other then 1 else 0) ∧ ackd S R now = { R with una := S.inn.length, endAcked := S.other, at_ := now }) := by
  unfold ackd
  cases ho : S.owes with
  | false => exact .inl ⟨rfl, fun h => by cases h⟩
  | true =>
    simp only [if_true]
    unfold En.ack En.acksTo En.sentTo
    by_cases hc : R.una + (if R.endAcked then 1 else 0) < S.inn.length + (if S.other then 1 else 0) ∧ S.inn.length + (if S.other then 1 else 0) ≤ R.next + (if R.endSent then 1 else 0)
    · refine .inr ⟨trivial, hc.1, ?_⟩
      rw [if_pos (by omega)]
      have hi := h.gi.1
      have hoth := h.oth
      rw [Int.toNat_natCast]
      cases hot : S.other with
      | true => have := hoth hot; simp; omega
      | false => simp; omega
    · refine .inl ⟨?_, fun _ => hc⟩
      rw [if_neg (by omega)]
def rnd (e0 e1 : En) (now : Int) : En × En := (gets (e0.outp now).1 now ((gets e1 now (e0.outp now).2).outp now).2, ((gets e1 now (e0.outp now).2).outp now).1)
theorem acked_sent {e : En} (h : e.Ok) (hle : e.next + (if e.endSent then 1 else 0) ≤ e.una + (if e.endAcked then 1 else 0)) : e.una = e.next ∧ e.endAcked = e.endSent := by
  have hu := h.una
  have ha := h.acked
  cases h1 : e.endAcked with
  | true =>
    have h2 := ha h1
    rw [h1, h2.1] at hle
    simp at hle
    exact ⟨by omega, h2.1.symm⟩
  | false =>
    rw [h1] at hle
    cases h2 : e.endSent with
    | true => rw [h2] at hle; simp at hle; omega
    | false => rw [h2] at hle; simp at hle; exact ⟨by omega, rfl⟩
/-- A round between two ends that are open. -/
theorem round3 {e0 e1 : En} {now : Int} (h : Pair e0 e1) (s0 : e0.st = 3) (s1 : e1.st = 3) (t0 : Tm e0 now) (t1 : Tm e1 now) (hn : Clock now) :
    ((rnd e0 e1 now).1.una = min (e0.una + 4000) e0.out.length ∧ (rnd e0 e1 now).1.endAcked = decide (e0.out.length ≤ e0.una + 4000) ∧ (rnd e0 e1 now).2.owes = false ∧
      (rnd e0 e1 now).2.inn.length = (rnd e0 e1 now).1.una ∧ (rnd e0 e1 now).2.other = (rnd e0 e1 now).1.endAcked) ∧
    (P1 (rnd e0 e1 now).2 (rnd e0 e1 now).1 ∨ Q1 (rnd e0 e1 now).2 (rnd e0 e1 now).1) ∧ (P1 e1 e0 ∨ Q1 e1 e0 → P1 (rnd e0 e1 now).2 (rnd e0 e1 now).1) ∧
    (P1 e1 e0 → (rnd e0 e1 now).2.una = e1.next ∧ (rnd e0 e1 now).2.endAcked = e1.endSent ∧ (rnd e0 e1 now).2.next = min (e1.next + 4000) e1.out.length ∧ (rnd e0 e1 now).2.endSent = decide (e1.out.length ≤ e1.next + 4000) ∧
      (e1.next = e1.out.length → e1.endSent = true → (rnd e0 e1 now).1.owes = false)) := by
  obtain ⟨u0, a0, n0, x0, w0, ot0, i, o, w, hg, hi, ho, hw1, hw2⟩ := send_all h s0 s1 hn (fun hw => t0.due hn hw)
  have hp := pair_turn h hn (l := (e0.outp now).2) (fun s hs => hs)
  have hk := outp_keeps e0 now
  unfold rnd
  generalize hE0 : (e0.outp now).1 = f0 at *
  generalize hE1 : gets e1 now (e0.outp now).2 = f1 at *
  have hak := ackd_keeps e0 e1 now
  have f1inn : f1.inn.length = min (e0.una + 4000) e0.out.length := by rw [hg]; exact hi
  have f1oth : f1.other = decide (e0.out.length ≤ e0.una + 4000) := by rw [hg]; exact ho
  have f1st : f1.st = 3 := by rw [hg]; exact hak.2.2.2.2.2.1.trans s1
  have f0st : f0.st = 3 := hk.2.2.2.2.trans s0
  have f1out : f1.out = e1.out := by rw [hg]; exact hak.1
  have f1next : f1.next = e1.next := by rw [hg]; exact hak.2.2.2.2.2.2.1
  have f1sent : f1.endSent = e1.endSent := by rw [hg]; exact hak.2.2.2.2.2.2.2.1
  have f1una : f1.una = (ackd e0 e1 now).una := by rw [hg]
  have f1ack : f1.endAcked = (ackd e0 e1 now).endAcked := by rw [hg]
  have f1at : f1.at_ = (ackd e0 e1 now).at_ := by rw [hg]
  have f1owes : f1.owes = w := by rw [hg]
  -- what the first end knows behind the second one's acknowledgment
  have A : (ackd f1 f0 now).una = min (e0.una + 4000) e0.out.length ∧ (ackd f1 f0 now).endAcked = decide (e0.out.length ≤ e0.una + 4000) := by
    rcases ackd_cases hp.sr now with ⟨he, hno⟩ | ⟨_, _, he⟩
    · rw [he]
      by_cases hfull : e0.una = e0.out.length ∧ e0.endAcked = true
      · refine ⟨by omega, ?_⟩
        rw [a0, hfull.2]; symm; simp; omega
      · have hno := hno (by rw [f1owes]; exact hw2 hfull)
        rw [f1inn, f1oth, ← n0, ← x0] at hno
        have := acked_sent hp.okS (by omega)
        exact ⟨this.1.trans n0, this.2.trans x0⟩
    · rw [he]
      exact ⟨f1inn, f1oth⟩
  have hak2 := ackd_keeps f1 f0 now
  have hD : P1 e1 e0 → f1.una = e1.next ∧ f1.endAcked = e1.endSent := by
    intro hP
    rw [f1una, f1ack]
    rcases ackd_cases h.rs now with ⟨he, hno⟩ | ⟨_, _, he⟩
    · rw [he]
      by_cases hq : e1.una < e1.next ∨ e1.endAcked ≠ e1.endSent
      · have hno := hno (hP.2.2 hq)
        rw [← hP.1, ← hP.2.1] at hno
        exact acked_sent h.okR (by omega)
      · have := h.okR.una
        exact ⟨by omega, by cases h1 : e1.endAcked <;> cases h2 : e1.endSent <;> simp_all⟩
    · rw [he]
      exact ⟨hP.1.symm, hP.2.1.symm⟩
  by_cases hun : f1.waits = true ∧ f1.due now = false
  · rcases ackd_cases h.rs now with ⟨he, hno⟩ | ⟨_, hlt, he⟩
    · exfalso
      have hwt : e1.waits = true := by
        have := hun.1
        unfold En.waits at this ⊢
        rw [f1una, f1ack, f1next, f1sent, he] at this
        exact this
      have hdue := t1.due hn hwt
      have := hun.2
      unfold En.due at this hdue
      rw [f1at, he, hdue] at this
      cases this
    · rw [he] at f1una f1ack
      simp only at f1una f1ack
      obtain ⟨v1, v2, v3, v4, w', hg'⟩ := send_part hp.symm f1st f0st hn hun.1 hun.2 (by rw [hk.2.2.1]; exact f1una.symm) (by rw [ot0]; exact f1ack.symm)
      have hk2 := outp_keeps f1 now
      generalize (f1.outp now).1 = g1 at *
      generalize gets f0 now (f1.outp now).2 = g0 at *
      have g0una : g0.una = (ackd f1 f0 now).una := by rw [hg']
      have g0ack : g0.endAcked = (ackd f1 f0 now).endAcked := by rw [hg']
      have g0inn : g0.inn = e0.inn := by rw [hg']; exact hak2.2.2.1.trans hk.2.2.1
      have g0oth : g0.other = e0.other := by rw [hg']; exact hak2.2.2.2.1.trans ot0
      have hQ : Q1 g1 g0 := ⟨by rw [g0inn, v1, f1una], by rw [g0oth, v2, f1ack]⟩
      have noP : ¬ P1 e1 e0 := fun hP => by
        have hx := hD hP
        have := hun.1
        unfold En.waits at this
        rw [hx.1, hx.2, f1next, f1sent] at this
        cases h2 : e1.endSent <;> simp [h2] at this
      refine ⟨⟨by rw [g0una, A.1], by rw [g0ack, A.2], v3, by rw [hk2.2.2.1, f1inn, g0una, A.1], by rw [v4, f1oth, g0ack, A.2]⟩, .inr hQ, fun hx => ?_, fun hP => absurd hP noP⟩
      rcases hx with hP | hQ0
      · exact absurd hP noP
      · exfalso
        rw [hQ0.1, hQ0.2] at hlt
        omega
  · have hwd : f1.waits = true → f1.due now = true := fun hw => by
      cases hd : f1.due now with
      | true => rfl
      | false => exact absurd ⟨hw, hd⟩ hun
    obtain ⟨v1, v2, v3, v4, v5, v6, i', o', w', hg', hi', ho', hw1', hw2'⟩ := send_all hp.symm f1st f0st hn hwd
    have hk2 := outp_keeps f1 now
    generalize (f1.outp now).1 = g1 at *
    generalize gets f0 now (f1.outp now).2 = g0 at *
    have g0una : g0.una = (ackd f1 f0 now).una := by rw [hg']
    have g0ack : g0.endAcked = (ackd f1 f0 now).endAcked := by rw [hg']
    have g0inn : g0.inn = i' := by rw [hg']
    have g0oth : g0.other = o' := by rw [hg']
    have g0owes : g0.owes = w' := by rw [hg']
    have hP' : P1 g1 g0 := by
      refine ⟨by rw [g0inn, v3, hi'], by rw [g0oth, v4, ho'], fun hx => ?_⟩
      rw [g0owes]
      refine hw2' fun hfull => ?_
      rw [v1, v2, v3, v4, hfull.2] at hx
      rcases hx with hx | hx
      · omega
      · apply hx
        symm
        simp
        omega
    refine ⟨⟨by rw [g0una, A.1], by rw [g0ack, A.2], v5, by rw [hk2.2.2.1, f1inn, g0una, A.1], by rw [v6, f1oth, g0ack, A.2]⟩, .inl hP', fun _ => hP', fun hP => ?_⟩
    have hx := hD hP
    refine ⟨by rw [v1, hx.1], by rw [v2, hx.2], by rw [v3, hx.1, f1out], by rw [v4, hx.1, f1out], fun h1 h2 => ?_⟩
    rw [g0owes, hw1' ⟨by rw [hx.1, h1, f1out], by rw [hx.2, h2]⟩, w0]
/-! the first round -/
theorem inp_st {S R : En} (h : Pair S R) {s : List Nat} (g : Good S s) {now : Int} (hn : Clock now) : (R.inp s now).st = R.st ∨ (R.inp s now).st = 3 := by
  have key : ∀ (ty : Nat) (seq ack : Int) (d : List Nat), (∀ b ∈ d, b < 256) → 1 ≤ ty → ty ≤ 4 → (R.inp (S.say ty seq ack d) now).st = R.st ∨ (R.inp (S.say ty seq ack d) now).st = 3 := by
    intro ty seq ack d hd h1 h4
    have hb := seg_back (s := ⟨ty, S.id, seq, ack, d⟩) hd (by simp only; omega)
    unfold En.inp En.say
    rw [hb.2]
    split
    · exact .inl rfl
    · unfold En.seg
      rw [if_neg (by simp only; omega)]
      split
      · split
        · exact .inr rfl
        · exact .inl rfl
      · split
        · split
          · exact .inr rfl
          · exact .inl rfl
        · left
          unfold En.open_
          split
          · rfl
          · split
            · unfold En.ack; split <;> rfl
            · split
              · unfold En.data; split <;> rfl
              · split <;> rfl
  rcases g with ⟨_, rfl⟩ | ⟨_, rfl⟩ | ⟨_, n, rfl, _⟩ | ⟨_, rfl, _⟩
  · exact key 1 0 0 [] (by simp) (by decide) (by decide)
  · exact key 2 0 _ [] (by simp) (by decide) (by decide)
  · exact key 3 n 0 _ (piece_lt h.okS n) (by decide) (by decide)
  · exact key 4 _ 0 [] (by simp) (by decide) (by decide)
theorem gets_st {S : En} {now : Int} (hn : Clock now) : ∀ (l : List (List Nat)) {R : En}, Pair S R → (∀ s ∈ l, Good S s) → (gets R now l).st = R.st ∨ (gets R now l).st = 3
  | [], R, h, _ => .inl rfl
  | s :: l, R, h, hg => by
    have h1 := inp_st h (hg s (by simp)) hn
    have h2 := gets_st hn l (pair_inp h (hg s (by simp)) hn) (fun s hs => hg s (by simp [hs]))
    rw [gets_cons]
    omega
theorem round1 {e0 e1 : En} {now : Int} (h : Pair e0 e1) (s0 : e0.st ≠ 2) (s1 : e1.st ≠ 1) (t0 : Tm e0 now) (hn : Clock now) : (rnd e0 e1 now).1.st = 3 ∧ (rnd e0 e1 now).2.st = 3 := by
  have hout := pair_outp h hn
  have hp := pair_turn h hn (l := (e0.outp now).2) (fun s hs => hs)
  have hk := outp_keeps e0 now
  have hs := h.sts
  by_cases h3 : e0.st = 3
  · have hst := gets_st hn _ hout.1 hout.2
    have hp2 := pair_outp hp.symm hn
    have hst2 := gets_st hn _ hp2.1.symm.symm hp2.2
    have hk2 := outp_keeps (gets e1 now (e0.outp now).2) now
    have hfin := (pair_turn hp.symm hn (l := ((gets e1 now (e0.outp now).2).outp now).2) (fun s hs => hs)).sts
    unfold rnd
    simp only
    have h00 : (e0.outp now).1.st = 3 := hk.2.2.2.2.trans h3
    omega
  · have h1 : e0.st = 1 := by omega
    have hd : (!e0.asked || e0.due now) = true := by
      cases ha : e0.asked with
      | false => rfl
      | true =>
        have := t0.late (.inr ⟨h1, ha⟩)
        have := hn.2
        unfold En.due
        simp
        omega
    have e : e0.outp now = ({ e0 with asked := true, at_ := now }, [e0.say 1 0 0 []]) := by unfold En.outp; rw [if_pos h1, if_pos hd]
    unfold rnd
    rw [e] at hp hout ⊢
    simp only at hp hout ⊢
    have hst : (gets e1 now [e0.say 1 0 0 []]).st = 3 ∧ (gets e1 now [e0.say 1 0 0 []]).owes = true := by
      rw [gets_cons, gets_nil]
      have e := inp_say (S := e0) (R := e1) h.idS h.idR (by omega) (ty := 1) (seq := 0) (ack := 0) (d := []) (by decide) (by decide) (by decide) (by decide) (by simp) now
      have e : e1.inp (e0.say 1 0 0 []) now = _ := e
      rw [e]
      rcases hs with hs | hs | hs | hs | hs
      · rw [seg_syn2 hs.2]; exact ⟨rfl, rfl⟩
      · omega
      · rw [seg_syn3 hs.2]; exact ⟨hs.2, rfl⟩
      · omega
      · omega
    generalize gets e1 now [e0.say 1 0 0 []] = f1 at *
    have hun := hp.sr.unop (by simp only; omega)
    have hp2 := pair_outp hp.symm hn
    have hk2 := outp_keeps f1 now
    have hb := back_keeps f1 now
    have hb2 := back_same f1 now
    have eo : f1.outp now = f1.sends now := by unfold En.outp; rw [if_neg (by omega), if_pos hst.1]
    have hl : ∃ l, (f1.outp now).2 = f1.say 2 0 (0 : Nat) [] :: l := by
      rw [eo, sends_eq]
      have : acksOf (f1.back now) = [f1.say 2 0 (0 : Nat) []] := by
        unfold acksOf
        rw [hb2.1, hst.2, hb.2.2.1, hun.2.2.1, hb2.2.1, hun.2.2.2]
        unfold En.say
        rw [hb.2.1]
        rfl
      rw [this]
      exact ⟨_, rfl⟩
    obtain ⟨l, hl⟩ := hl
    rw [hl] at hp2 ⊢
    rw [gets_cons]
    have hone := pair_inp hp2.1 (hp2.2 _ List.mem_cons_self) hn
    have est : (({ e0 with asked := true, at_ := now } : En).inp (f1.say 2 0 (0 : Nat) []) now).st = 3 := by
      have e := inp_say (S := f1) (R := { e0 with asked := true, at_ := now }) hp.idR hp.idS (by show e0.st ≠ 4; omega) (ty := 2) (seq := 0) (ack := 0) (d := []) (by decide) (by decide) (by decide) (by decide) (by simp) now
      have e : ({ e0 with asked := true, at_ := now } : En).inp (f1.say 2 0 (0 : Nat) []) now = _ := e
      rw [e, seg_ack1 (R := { e0 with asked := true, at_ := now }) h1, if_pos rfl]
    have hrest := gets_st hn l hone (fun s hs => hp2.2 s (List.mem_cons_of_mem _ hs))
    refine ⟨by omega, hk2.2.2.2.2.trans hst.1⟩
/-! stages -/
structure Stage (j : Nat) (e0 e1 : En) : Prop where
  op : 1 ≤ j → e0.st = 3 ∧ e1.st = 3
  a1 : 2 ≤ j → min (4000 * (j - 1)) e0.out.length ≤ e0.una
  a2 : 2 ≤ j → e0.out.length ≤ 4000 * (j - 1) → e0.endAcked = true
  rest : 2 ≤ j → e1.owes = false ∧ e1.inn.length = e0.una ∧ e1.other = e0.endAcked
  pq : 2 ≤ j → P1 e1 e0 ∨ Q1 e1 e0
  p : 3 ≤ j → P1 e1 e0
  b1 : 4 ≤ j → min (4000 * (j - 3)) e1.out.length ≤ e1.next
  b2 : 4 ≤ j → e1.out.length ≤ 4000 * (j - 3) → e1.endSent = true
  c : 13 ≤ j → e1.una = e1.out.length ∧ e1.endAcked = true ∧ e0.owes = false
theorem Stage.zero (e0 e1 : En) : Stage 0 e0 e1 where
  op := fun h => by omega
  a1 := fun h => by omega
  a2 := fun h => by omega
  rest := fun h => by omega
  pq := fun h => by omega
  p := fun h => by omega
  b1 := fun h => by omega
  b2 := fun h => by omega
  c := fun h => by omega
theorem gets_out {now : Int} : ∀ (l : List (List Nat)) (e : En), (gets e now l).out = e.out
  | [], e => rfl
  | s :: l, e => by rw [gets_cons, gets_out l, (inp_keeps e s now).1]
theorem Stage.next {j : Nat} {e0 e1 : En} {now : Int} (hs : Stage j e0 e1) (h : Pair e0 e1) (s0 : e0.st ≠ 2) (s1 : e1.st ≠ 1) (t0 : Tm e0 now) (t1 : Tm e1 now) (hn : Clock now) : Stage (j + 1) (rnd e0 e1 now).1 (rnd e0 e1 now).2 := by
  have o0 : (rnd e0 e1 now).1.out = e0.out := by unfold rnd; rw [gets_out, (outp_keeps e0 now).1]
  have o1 : (rnd e0 e1 now).2.out = e1.out := by unfold rnd; rw [(outp_keeps _ now).1, gets_out]
  have r1 := round1 h s0 s1 t0 hn
  have sh0 := h.sr.short
  have sh1 := h.rs.short
  have hnx := h.okR.next
  rcases Nat.eq_zero_or_pos j with rfl | hj
  · exact { op := fun _ => r1, a1 := fun h => by omega, a2 := fun h => by omega, rest := fun h => by omega, pq := fun h => by omega, p := fun h => by omega, b1 := fun h => by omega, b2 := fun h => by omega, c := fun h => by omega }
  · have hop := hs.op hj
    obtain ⟨⟨g1, g2, g3, g4, g5⟩, g6, g7, g8⟩ := round3 h hop.1 hop.2 t0 t1 hn
    have ha1 : min (4000 * j) e0.out.length ≤ e0.una + 4000 := by
      rcases Nat.lt_or_ge j 2 with hj2 | hj2
      · omega
      · have := hs.a1 hj2; omega
    refine { op := fun _ => r1, a1 := fun _ => ?_, a2 := fun _ hl => ?_, rest := fun _ => ⟨g3, g4, g5⟩, pq := fun _ => g6, p := fun h3 => g7 (hs.pq (by omega)), b1 := fun h4 => ?_, b2 := fun h4 hl => ?_, c := fun h13 => ?_ }
    · rw [g1, o0]; omega
    · rw [o0] at hl
      rw [g2]; simp; omega
    · have hP := hs.p (by omega)
      rw [(g8 hP).2.2.1, o1]
      rcases Nat.lt_or_ge j 4 with hj4 | hj4
      · omega
      · have := hs.b1 hj4; omega
    · have hP := hs.p (by omega)
      rw [o1] at hl
      rw [(g8 hP).2.2.2.1]
      simp
      rcases Nat.lt_or_ge j 4 with hj4 | hj4
      · omega
      · have := hs.b1 hj4; omega
    · have hP := hs.p (by omega)
      have hb1 := hs.b1 (by omega)
      have hb2 := hs.b2 (by omega) (by omega)
      obtain ⟨d1, d2, d3, d4, d5⟩ := g8 hP
      exact ⟨by rw [d1, o1]; omega, by rw [d2, hb2], d5 (by omega) hb2⟩
/-- In the end. -/
theorem Stage.end_ {j : Nat} {e0 e1 : En} (hs : Stage j e0 e1) (h : Pair e0 e1) (hj : 13 ≤ j) : e1.inn = e0.out ∧ e0.inn = e1.out ∧ e0.done = true ∧ e1.done = true ∧ e0.idle = true ∧ e1.idle = true := by
  have sh0 := h.sr.short
  have sh1 := h.rs.short
  have hop := hs.op (by omega)
  have a1 := hs.a1 (by omega)
  have a2 := hs.a2 (by omega) (by omega)
  have hr := hs.rest (by omega)
  have hP := hs.p (by omega)
  have hc := hs.c hj
  have u0 := h.okS.una
  have x0 := h.okS.next
  have u1 := h.okR.una
  have x1 := h.okR.next
  have k0 := h.okS.acked a2
  have k1 := h.okR.acked hc.2.1
  have p0 := prefix_take h.sr.pre
  have p1 := prefix_take h.rs.pre
  refine ⟨?_, ?_, ?_, ?_, ?_, ?_⟩
  · rw [p0, List.take_of_length_le (by omega)]
  · rw [p1, List.take_of_length_le (by have := hP.1; omega)]
  · unfold En.done; rw [a2, ← hP.2.1, k1.1]; rfl
  · unfold En.done; rw [hc.2.1, hr.2.2, a2]; rfl
  · unfold En.idle En.waits
    rw [hop.1, a2, k0.1, hc.2.2]
    simp
    omega
  · unfold En.idle En.waits
    rw [hop.2, hc.2.1, k1.1, hr.1]
    simp
    omega
end Go.Proofs.Ytahafepgmkiabaa
