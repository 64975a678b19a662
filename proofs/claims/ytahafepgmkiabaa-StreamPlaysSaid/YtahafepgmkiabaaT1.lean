/- Plain streams: what holds of an end holds behind each call; what an end sends. -/
import Derived.Test.YtahafepgmkiabaaT0
set_option linter.unusedVariables false
set_option linter.unusedSimpArgs false
namespace Go.Proofs.Ytahafepgmkiabaa
open Go Go.Proofs.Ytahafepgmkiabaa.Sep

theorem new_ok (id : Int) (st : Nat) (h : 1 ≤ st ∧ st ≤ 4) : (enNew id st).Ok where
  id := u32i_lt id
  st := h
  room := by simp [enNew]
  una := by simp [enNew]
  next := by simp [enNew]
  sent := by simp [enNew]
  acked := by simp [enNew]
  inn := by simp [enNew]
  read := by simp [enNew]
  at_ := by simp [enNew]
  outB := by simp [enNew]
  innB := by simp [enNew]
theorem write_ok {e : En} (h : e.Ok) {bs : List Nat} (hb : ∀ b ∈ bs, b < 256) : (e.write bs).1.Ok := by
  unfold En.write
  split
  · exact h
  · split
    · exact h
    · rename_i hc
      split
      · exact h
      · rename_i h1 h2
        have hn := h.next
        have hr := h.room
        have ns : e.endSent = false := by
          cases hs : e.endSent with
          | false => rfl
          | true => exact absurd (h.sent hs).2 hc
        have na : e.endAcked = false := by
          cases hs : e.endAcked with
          | false => rfl
          | true => have := (h.acked hs).1; rw [ns] at this; cases this
        exact { id := h.id, st := h.st, room := by simp; omega, una := h.una, next := by simp; omega, sent := fun hs => (by simp only [ns] at hs; cases hs), acked := fun hs => (by simp only [na] at hs; cases hs),
                inn := h.inn, read := h.read, at_ := h.at_, outB := fun b hm => (List.mem_append.1 hm).elim (h.outB b) (hb b), innB := h.innB }
theorem close_ok {e : En} (h : e.Ok) : e.close.1.Ok := by
  unfold En.close
  split
  · exact h
  · exact { id := h.id, st := h.st, room := h.room, una := h.una, next := h.next, sent := fun hs => ⟨(h.sent hs).1, rfl⟩, acked := h.acked, inn := h.inn, read := h.read, at_ := h.at_, outB := h.outB, innB := h.innB }
theorem take_ok {e : En} (h : e.Ok) : e.take.1.Ok :=
  { id := h.id, st := h.st, room := h.room, una := h.una, next := h.next, sent := h.sent, acked := h.acked, inn := h.inn, read := Nat.le_refl _, at_ := h.at_, outB := h.outB, innB := h.innB }
def Clock (now : Int) : Prop := -9223372036854775808 ≤ now ∧ now ≤ 9223372036854775807
theorem ack_ok {e : En} (h : e.Ok) {n now : Int} (hn : Clock now) : (e.ack n now).Ok := by
  unfold En.ack
  split
  · rename_i hc
    have hu := h.una
    have hx := h.next
    have hst : (e.sentTo : Int) ≤ e.out.length + 1 := by
      unfold En.sentTo
      split <;> omega
    have key : min n.toNat e.out.length ≤ e.next := by
      unfold En.sentTo at hc
      split at hc
      · rename_i hs
        have := (h.sent hs).1
        omega
      · omega
    refine { id := h.id, st := h.st, room := h.room, una := key, next := h.next, sent := h.sent, acked := fun ha => ?_, inn := h.inn, read := h.read, at_ := hn, outB := h.outB, innB := h.innB }
    have ha : (e.out.length : Int) < n := of_decide_eq_true ha
    refine ⟨?_, by simp only; omega⟩
    cases hs : e.endSent with
    | true => rfl
    | false =>
      unfold En.sentTo at hc
      rw [hs] at hc
      simp at hc
      omega
  · exact h
theorem data_ok {e : En} (h : e.Ok) (seq : Int) {d : List Nat} (hd : ∀ b ∈ d, b < 256) : (e.data seq d).Ok := by
  unfold En.data
  split
  · rename_i hc
    have hi := h.inn
    have hr := h.read
    exact { id := h.id, st := h.st, room := h.room, una := h.una, next := h.next, sent := h.sent, acked := h.acked, inn := by simp; omega, read := by simp; omega, at_ := h.at_, outB := h.outB, innB := fun b hm => (List.mem_append.1 hm).elim (h.innB b) (hd b) }
  · exact { id := h.id, st := h.st, room := h.room, una := h.una, next := h.next, sent := h.sent, acked := h.acked, inn := h.inn, read := h.read, at_ := h.at_, outB := h.outB, innB := h.innB }
theorem owes_ok {e : En} (h : e.Ok) (b : Bool) : ({ e with owes := b } : En).Ok :=
  { id := h.id, st := h.st, room := h.room, una := h.una, next := h.next, sent := h.sent, acked := h.acked, inn := h.inn, read := h.read, at_ := h.at_, outB := h.outB, innB := h.innB }
theorem st_ok {e : En} (h : e.Ok) (n : Nat) (hn : 1 ≤ n ∧ n ≤ 4) : ({ e with st := n } : En).Ok :=
  { id := h.id, st := hn, room := h.room, una := h.una, next := h.next, sent := h.sent, acked := h.acked, inn := h.inn, read := h.read, at_ := h.at_, outB := h.outB, innB := h.innB }
theorem fin_ok {e : En} (h : e.Ok) (seq : Int) : (e.fin seq).Ok :=
  { id := h.id, st := h.st, room := h.room, una := h.una, next := h.next, sent := h.sent, acked := h.acked, inn := h.inn, read := h.read, at_ := h.at_, outB := h.outB, innB := h.innB }
theorem open_ok {e : En} (h : e.Ok) {s : Seg} {now : Int} (hn : Clock now) (hs : ∀ b ∈ s.data, b < 256) : (e.open_ s now).Ok := by
  unfold En.open_
  split
  · exact owes_ok h true
  · split
    · exact ack_ok h hn
    · split
      · exact data_ok h _ hs
      · split
        · exact fin_ok h _
        · exact h
theorem seg_ok {e : En} (h : e.Ok) {s : Seg} {now : Int} (hn : Clock now) (hs : ∀ b ∈ s.data, b < 256) : (e.seg s now).Ok := by
  unfold En.seg
  split
  · exact st_ok h 4 (by decide)
  · split
    · split
      · exact st_ok h 3 (by decide)
      · exact h
    · split
      · split
        · exact owes_ok (st_ok h 3 (by decide)) true
        · exact h
      · exact open_ok h hn hs
theorem segFrom_lt {bs : List Nat} (hb : ∀ b ∈ bs, b < 256) : ∀ b ∈ (segFrom bs).data, b < 256 := by
  unfold segFrom
  split
  · intro b hm
    exact hb b (List.mem_of_mem_drop (List.mem_of_mem_take hm))
  · intro b hm; simp [noSeg] at hm
theorem inp_ok {e : En} (h : e.Ok) {bs : List Nat} {now : Int} (hn : Clock now) (hb : ∀ b ∈ bs, b < 256) : (e.inp bs now).Ok := by
  unfold En.inp
  split
  · exact h
  · exact seg_ok h hn (segFrom_lt hb)
theorem back_ok {e : En} (h : e.Ok) {now : Int} (hn : Clock now) : (e.back now).Ok := by
  unfold En.back
  split
  · have hu := h.una
    have hx := h.next
    refine { id := h.id, st := h.st, room := h.room, una := Nat.le_refl _, next := by simp only; omega, sent := fun hs => ?_, acked := fun hs => ⟨hs, (h.acked hs).2⟩, inn := h.inn, read := h.read, at_ := hn, outB := h.outB, innB := h.innB }
    have := h.acked hs
    exact ⟨this.2, (h.sent this.1).2⟩
  · exact h
theorem pieces_le (e : En) : ∀ f n, n ≤ e.out.length → n ≤ (e.pieces f n).2 ∧ (e.pieces f n).2 ≤ e.out.length
  | 0, n, h => ⟨Nat.le_refl _, h⟩
  | f + 1, n, h => by
    simp only [En.pieces]
    split
    · have := pieces_le e f (n + min 400 (e.out.length - n)) (by omega)
      exact ⟨by omega, this.2⟩
    · exact ⟨Nat.le_refl _, h⟩
theorem pieces_nil (e : En) : ∀ f n, (e.pieces f n).1 = [] → (e.pieces f n).2 = n
  | 0, n, h => rfl
  | f + 1, n, h => by
    simp only [En.pieces] at h ⊢
    split at h
    · cases h
    · rename_i hc; rw [if_neg hc]
theorem sends_ok {e : En} (h : e.Ok) {now : Int} (hn : Clock now) : (e.sends now).1.Ok := by
  have hb := back_ok h hn
  unfold En.sends
  simp only
  generalize e.back now = b at hb ⊢
  have hu := hb.una
  have hx := hb.next
  have hp := pieces_le b 11 b.next hx
  refine { id := hb.id, st := hb.st, room := hb.room, una := by simp only; omega, next := hp.2, sent := fun hs => ?_, acked := fun ha => ?_, inn := hb.inn, read := hb.read, at_ := ?_, outB := hb.outB, innB := hb.innB }
  · simp only [Bool.or_eq_true, Bool.and_eq_true, decide_eq_true_eq, Bool.not_eq_true'] at hs
    rcases hs with hs | ⟨⟨h1, h2⟩, h3⟩
    · have := hb.sent hs
      exact ⟨by simp only; omega, this.2⟩
    · exact ⟨h3, h1⟩
  · have := hb.acked ha
    exact ⟨by simp [this.1], this.2⟩
  · simp only
    split
    · exact hn
    · exact hb.at_
theorem outp_ok {e : En} (h : e.Ok) {now : Int} (hn : Clock now) : (e.outp now).1.Ok := by
  unfold En.outp
  split
  · split
    · exact { id := h.id, st := h.st, room := h.room, una := h.una, next := h.next, sent := h.sent, acked := h.acked, inn := h.inn, read := h.read, at_ := hn, outB := h.outB, innB := h.innB }
    · exact h
  · split
    · exact sends_ok h hn
    · exact h
/-- What an end sends: segments of its own; data are a piece of what is to be sent. -/
def Sent (e : En) (s : List Nat) : Prop :=
  ∃ (ty : Nat) (seq ack : Nat) (d : List Nat), s = e.say ty seq ack d ∧ 1 ≤ ty ∧ ty ≤ 4 ∧ seq ≤ e.out.length ∧ ack ≤ e.inn.length + 1 ∧ (ty = 3 → seq < e.out.length ∧ d = (e.out.drop seq).take (min 400 (e.out.length - seq))) ∧ (ty ≠ 3 → d = [])
theorem pieces_sent (e : En) : ∀ f n, n ≤ e.out.length → ∀ s ∈ (e.pieces f n).1, Sent e s
  | 0, n, _, s, h => by simp [En.pieces] at h
  | f + 1, n, hn, s, h => by
    simp only [En.pieces] at h
    split at h
    · rename_i hc
      rcases List.mem_cons.1 h with rfl | h
      · exact ⟨3, n, 0, _, rfl, by decide, by decide, hn, by omega, fun _ => ⟨hc.1, rfl⟩, fun h => absurd rfl h⟩
      · exact pieces_sent e f _ (by omega) s h
    · simp at h
end Go.Proofs.Ytahafepgmkiabaa
