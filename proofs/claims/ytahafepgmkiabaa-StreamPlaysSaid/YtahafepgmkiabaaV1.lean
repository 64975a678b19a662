/- Plain streams: whatever is lost, doubled or turned in order, what came is the beginning of what was sent. -/
import Derived.Test.YtahafepgmkiabaaU3
set_option linter.unusedVariables false
set_option linter.unusedSimpArgs false
namespace Go.Proofs.Ytahafepgmkiabaa
open Go Go.Proofs.Ytahafepgmkiabaa.Sep

/-- A datagram of an end: its data stand in what is to be sent. -/
def From (id : Nat) (out : List Nat) (s : List Nat) : Prop :=
  ∃ (ty seq ack : Nat) (d : List Nat), s = segOf ⟨ty, id, seq, ack, d⟩ ∧ 1 ≤ ty ∧ ty ≤ 4 ∧ seq < 4294967296 ∧ ack < 4294967296 ∧ d.length ≤ 400 ∧ (∀ b ∈ d, b < 256) ∧ (ty = 3 → d = (out.drop seq).take d.length)
theorem From.mono {id : Nat} {out out' s : List Nat} (h : From id out s) (hp : out <+: out') : From id out' s := by
  obtain ⟨ty, seq, ack, d, h1, h2, h3, h4, h5, h6, h7, h8⟩ := h
  refine ⟨ty, seq, ack, d, h1, h2, h3, h4, h5, h6, h7, fun h => ?_⟩
  have hd := h8 h
  obtain ⟨t, rfl⟩ := hp
  have hl := congrArg List.length hd
  rw [List.length_take, List.length_drop] at hl
  rcases Nat.eq_zero_or_pos d.length with h0 | h0
  · rw [h0, List.take_zero]; exact List.eq_nil_of_length_eq_zero h0
  · rw [List.drop_append_of_le_length (by omega), List.take_append_of_le_length (by rw [List.length_drop]; omega)]
    exact hd
theorem From.lt {id : Nat} {out s : List Nat} (h : From id out s) : ∀ b ∈ s, b < 256 := by
  obtain ⟨ty, seq, ack, d, rfl, h2, h3, h4, h5, h6, h7, h8⟩ := h
  exact segOf_lt h7
theorem From.len {id : Nat} {out s : List Nat} (h : From id out s) : s.length ≤ 419 := by
  obtain ⟨ty, seq, ack, d, rfl, h2, h3, h4, h5, h6, h7, h8⟩ := h
  rw [segOf_len, List.length_take]
  simp only
  omega
theorem From.read {id : Nat} {out s : List Nat} (hid : id < 4294967296) (h : From id out s) : ∃ (ty seq ack : Nat) (d : List Nat), isSeg s = true ∧ segFrom s = ⟨ty, id, seq, ack, d⟩ ∧ 1 ≤ ty ∧ ty ≤ 4 ∧ d.length ≤ 400 ∧ (ty = 3 → d = (out.drop seq).take d.length) := by
  obtain ⟨ty, seq, ack, d, rfl, h2, h3, h4, h5, h6, h7, h8⟩ := h
  have h := seg_back (s := ⟨ty, id, seq, ack, d⟩) h7 (by simp only; omega)
  refine ⟨ty, seq, ack, d, h.1, h.2.trans ?_, h2, h3, h6, h8⟩
  simp only
  rw [u32i_of (by omega) (by omega), u32i_of (by omega) (by omega), u32i_of (by omega) (by omega), List.take_of_length_le h6]
theorem pieces_from {e : En} (he : e.Ok) : ∀ f n, n ≤ e.out.length → ∀ s ∈ (e.pieces f n).1, From e.id e.out s
  | 0, n, _, s, h => by simp [En.pieces] at h
  | f + 1, n, hn, s, h => by
    simp only [En.pieces] at h
    split at h
    · rename_i hc
      have hr := he.room
      rcases List.mem_cons.1 h with rfl | h
      · have hl : ((e.out.drop n).take (min 400 (e.out.length - n))).length = min 400 (e.out.length - n) := by rw [List.length_take, List.length_drop]; omega
        exact ⟨3, n, 0, _, rfl, by decide, by decide, by omega, by decide, by omega, fun b hb => he.outB b (List.mem_of_mem_drop (List.mem_of_mem_take hb)), fun _ => by rw [hl]⟩
      · exact pieces_from he f _ (by omega) s h
    · simp at h
theorem back_keeps (e : En) (now : Int) : (e.back now).out = e.out ∧ (e.back now).id = e.id ∧ (e.back now).inn = e.inn ∧ (e.back now).read = e.read ∧ (e.back now).st = e.st := by
  unfold En.back
  split <;> exact ⟨rfl, rfl, rfl, rfl, rfl⟩
theorem outp_keeps (e : En) (now : Int) : (e.outp now).1.out = e.out ∧ (e.outp now).1.id = e.id ∧ (e.outp now).1.inn = e.inn ∧ (e.outp now).1.read = e.read ∧ (e.outp now).1.st = e.st := by
  unfold En.outp
  split
  · split <;> exact ⟨rfl, rfl, rfl, rfl, rfl⟩
  · split
    · rw [sends_eq]; exact back_keeps e now
    · exact ⟨rfl, rfl, rfl, rfl, rfl⟩
theorem outp_from {e : En} (he : e.Ok) {now : Int} (hn : Clock now) : ∀ s ∈ (e.outp now).2, From e.id e.out s := by
  intro s hs
  have hi := he.inn
  have small : ∀ (ty seq ack : Nat), 1 ≤ ty → ty ≤ 4 → ty ≠ 3 → seq ≤ 1048577 → ack ≤ 1048577 → From e.id e.out (e.say ty seq ack []) := fun ty seq ack h1 h2 h3 h4 h5 =>
    ⟨ty, seq, ack, [], rfl, h1, h2, by omega, by omega, by simp, by simp, fun h => absurd h h3⟩
  unfold En.outp at hs
  split at hs
  · split at hs
    · rcases List.mem_singleton.1 hs with rfl
      exact small 1 0 0 (by decide) (by decide) (by decide) (by decide) (by decide)
    · simp at hs
  · split at hs
    · rw [sends_eq] at hs
      have hb := back_ok he hn
      obtain ⟨k1, k2, k3, _, _⟩ := back_keeps e now
      have ho := hb.room
      have hp := pieces_le (e.back now) 11 (e.back now).next hb.next
      have hsay : ∀ ty seq ack d, (e.back now).say ty seq ack d = e.say ty seq ack d := fun ty seq ack d => by unfold En.say; rw [k2]
      simp only [List.mem_append] at hs
      rcases hs with hs | hs | hs
      · unfold acksOf at hs
        split at hs
        · rcases List.mem_singleton.1 hs with rfl
          rw [hsay, k3]
          refine small 2 0 _ (by decide) (by decide) (by decide) (by decide) ?_
          split <;> omega
        · simp at hs
      · rw [← k1, ← k2]; exact pieces_from hb 11 _ hb.next s hs
      · unfold finsOf at hs
        split at hs
        · rcases List.mem_singleton.1 hs with rfl
          rw [hsay]
          exact small 4 _ 0 (by decide) (by decide) (by decide) (by omega) (by decide)
        · simp at hs
    · simp at hs
theorem ack_keeps (e : En) (n now : Int) : (e.ack n now).out = e.out ∧ (e.ack n now).id = e.id ∧ (e.ack n now).inn = e.inn ∧ (e.ack n now).read = e.read := by
  unfold En.ack
  split <;> exact ⟨rfl, rfl, rfl, rfl⟩
theorem seg_keeps (e : En) (s : Seg) (now : Int) : (e.seg s now).out = e.out ∧ (e.seg s now).id = e.id ∧ (e.seg s now).read = e.read ∧ ((e.seg s now).inn = e.inn ∨ (s.ty = 3 ∧ s.seq = (e.inn.length : Int) ∧ (e.seg s now).inn = e.inn ++ s.data)) := by
  unfold En.seg
  split
  · exact ⟨rfl, rfl, rfl, .inl rfl⟩
  · split
    · split <;> exact ⟨rfl, rfl, rfl, .inl rfl⟩
    · split
      · split <;> exact ⟨rfl, rfl, rfl, .inl rfl⟩
      · unfold En.open_
        split
        · exact ⟨rfl, rfl, rfl, .inl rfl⟩
        · split
          · have := ack_keeps e s.ack now
            exact ⟨this.1, this.2.1, this.2.2.2, .inl this.2.2.1⟩
          · split
            · rename_i h3
              unfold En.data
              split
              · rename_i hc
                exact ⟨rfl, rfl, rfl, .inr ⟨h3, hc.1, rfl⟩⟩
              · exact ⟨rfl, rfl, rfl, .inl rfl⟩
            · split <;> exact ⟨rfl, rfl, rfl, .inl rfl⟩
theorem inp_keeps (e : En) (s : List Nat) (now : Int) : (e.inp s now).out = e.out ∧ (e.inp s now).id = e.id ∧ (e.inp s now).read = e.read := by
  unfold En.inp
  split
  · exact ⟨rfl, rfl, rfl⟩
  · have := seg_keeps e (segFrom s) now
    exact ⟨this.1, this.2.1, this.2.2.1⟩
theorem prefix_take {a b : List Nat} (h : a <+: b) : a = b.take a.length := by
  obtain ⟨t, rfl⟩ := h
  simp
theorem inp_prefix {e : En} {o s : List Nat} (now : Int) {id : Nat} (hid : id < 4294967296) (hf : From id o s) (hp : e.inn <+: o) : (e.inp s now).inn <+: o := by
  unfold En.inp
  split
  · exact hp
  · obtain ⟨ty, seq, ack, d, h1, h2, h3, h4, h5, h6⟩ := hf.read hid
    rcases (seg_keeps e (segFrom s) now).2.2.2 with h | ⟨h7, h8, h9⟩
    · rw [h]; exact hp
    · rw [h9]
      rw [h2] at h7 h8 ⊢
      simp only at h7 h8 ⊢
      have hd := h6 (by omega)
      have hs : seq = e.inn.length := by omega
      rw [hs] at hd
      obtain ⟨t, rfl⟩ := hp
      rw [List.drop_left] at hd
      rw [hd]
      exact List.prefix_append_right_inj e.inn |>.2 (List.take_prefix _ _)
end Go.Proofs.Ytahafepgmkiabaa
