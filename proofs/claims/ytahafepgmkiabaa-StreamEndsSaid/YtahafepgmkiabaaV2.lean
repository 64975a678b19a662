/- Plain streams: two ends between which datagrams go through or are lost: what holds of both at any time. -/
import Derived.Test.YtahafepgmkiabaaV1
set_option linter.unusedVariables false
set_option linter.unusedSimpArgs false
namespace Go.Proofs.Ytahafepgmkiabaa
open Go Go.Proofs.Ytahafepgmkiabaa.Sep

/-- An end behind a list of datagrams. -/
def gets (e : En) (now : Int) (l : List (List Nat)) : En := l.foldl (fun e s => e.inp s now) e
theorem gets_nil (e : En) (now : Int) : gets e now [] = e := rfl
theorem gets_cons (e : En) (now : Int) (s : List Nat) (l : List (List Nat)) : gets e now (s :: l) = gets (e.inp s now) now l := rfl
theorem gets_app (e : En) (now : Int) (a b : List (List Nat)) : gets e now (a ++ b) = gets (gets e now a) now b := List.foldl_append
/-- A place where a piece begins or all ends. -/
def OnGrid (len n : Nat) : Prop := n ≤ len ∧ (n % 400 = 0 ∨ n = len)
/-- What holds of one end's sending and the other one's receiving. -/
structure Dir (S R : En) : Prop where
  closed : S.closed = true
  short : S.out.length ≤ 30000
  gu : OnGrid S.out.length S.una
  gn : OnGrid S.out.length S.next
  gi : OnGrid S.out.length R.inn.length
  pre : R.inn <+: S.out
  lo : S.una ≤ R.inn.length
  hi : R.inn.length ≤ S.una + 4000
  win : S.next ≤ S.una + 4000
  oth : R.other = true → R.inn.length = S.out.length
  ack : S.endAcked = true → R.other = true
  unop : S.st ≠ 3 → S.next = 0 ∧ S.endSent = false ∧ R.inn = [] ∧ R.other = false
structure Pair (S R : En) : Prop where
  okS : S.Ok
  okR : R.Ok
  idS : S.id = 9
  idR : R.id = 9
  sr : Dir S R
  rs : Dir R S
  sts : (S.st = 1 ∧ R.st = 2) ∨ (S.st = 2 ∧ R.st = 1) ∨ (S.st = 1 ∧ R.st = 3) ∨ (S.st = 3 ∧ R.st = 1) ∨ (S.st = 3 ∧ R.st = 3)
theorem Pair.symm {S R : En} (h : Pair S R) : Pair R S where
  okS := h.okR
  okR := h.okS
  idS := h.idR
  idR := h.idS
  sr := h.rs
  rs := h.sr
  sts := by rcases h.sts with h | h | h | h | h <;> simp [h]
/-- What a datagram of an end is. -/
def Good (S : En) (s : List Nat) : Prop :=
  (S.st = 1 ∧ s = S.say 1 0 0 []) ∨ (S.st = 3 ∧ s = S.say 2 0 (S.inn.length + (if S.other then 1 else 0) : Nat) []) ∨
  (S.st = 3 ∧ ∃ n : Nat, s = S.say 3 n 0 ((S.out.drop n).take (min 400 (S.out.length - n))) ∧ OnGrid S.out.length n ∧ n < S.out.length ∧ n + min 400 (S.out.length - n) ≤ S.una + 4000) ∨
  (S.st = 3 ∧ s = S.say 4 S.out.length 0 [] ∧ S.out.length ≤ S.una + 4000)
/-- A datagram comes in. -/
theorem inp_say {S R : En} (hS : S.id = 9) (hR : R.id = 9) (h4 : R.st ≠ 4) {ty seq ack : Nat} {d : List Nat} (hty : 1 ≤ ty ∧ ty ≤ 5) (hs : seq < 4294967296) (ha : ack < 4294967296) (hl : d.length ≤ 400) (hd : ∀ b ∈ d, b < 256) (now : Int) :
    R.inp (S.say ty seq ack d) now = R.seg ⟨ty, (9 : Nat), seq, ack, d⟩ now := by
  have h := seg_back (s := ⟨ty, S.id, seq, ack, d⟩) hd (by simp only; omega)
  have e : segFrom (segOf ⟨ty, S.id, seq, ack, d⟩) = ⟨ty, (9 : Nat), seq, ack, d⟩ := by
    refine h.2.trans ?_
    simp only
    rw [hS, u32i_of (by omega) (by omega), u32i_of (by omega) (by omega), u32i_of (by omega) (by omega), List.take_of_length_le hl]
  unfold En.inp En.say
  rw [h.1, e]
  simp only
  rw [if_neg (by rw [hR]; simp; exact h4)]
theorem piece_len (S : En) (n : Nat) : ((S.out.drop n).take (min 400 (S.out.length - n))).length = min 400 (S.out.length - n) := by rw [List.length_take, List.length_drop]; omega
theorem piece_lt {S : En} (h : S.Ok) (n : Nat) : ∀ b ∈ (S.out.drop n).take (min 400 (S.out.length - n)), b < 256 := fun b hb => h.outB b (List.mem_of_mem_drop (List.mem_of_mem_take hb))
theorem Good.lt {S : En} (h : S.Ok) {s : List Nat} (g : Good S s) : ∀ b ∈ s, b < 256 := by
  rcases g with ⟨_, rfl⟩ | ⟨_, rfl⟩ | ⟨_, n, rfl, _⟩ | ⟨_, rfl, _⟩
  · exact segOf_lt (by simp)
  · exact segOf_lt (by simp)
  · exact segOf_lt (piece_lt h n)
  · exact segOf_lt (by simp)
/-- One more of the pieces. -/
theorem next_piece {S R : En} (hd : Dir S R) {n : Nat} (hn : n < S.out.length) (he : n = R.inn.length) : R.inn ++ (S.out.drop n).take (min 400 (S.out.length - n)) = S.out.take (n + min 400 (S.out.length - n)) := by
  have hp := prefix_take hd.pre
  rw [← he] at hp
  rw [hp, ← List.take_add]
/-! what a datagram does -/
section segs
variable {R : En} {id seq ack : Nat} {now : Int} {d : List Nat}
theorem seg_syn2 (h : R.st = 2) : R.seg ⟨(1 : Nat), id, seq, ack, d⟩ now = { R with st := 3, owes := true } := by simp [En.seg, h]
theorem seg_syn3 (h : R.st = 3) : R.seg ⟨(1 : Nat), id, seq, ack, d⟩ now = { R with owes := true } := by simp [En.seg, En.open_, h]
theorem seg_ack1 (h : R.st = 1) : R.seg ⟨(2 : Nat), id, seq, ack, d⟩ now = if ack = 0 then { R with st := 3 } else R := by simp [En.seg, h]
theorem seg_ack3 (h : R.st = 3) : R.seg ⟨(2 : Nat), id, seq, ack, d⟩ now = R.ack ack now := by simp [En.seg, En.open_, h]
theorem seg_data1 (h : R.st = 1) : R.seg ⟨(3 : Nat), id, seq, ack, d⟩ now = R := by simp [En.seg, h]
theorem seg_data3 (h : R.st = 3) : R.seg ⟨(3 : Nat), id, seq, ack, d⟩ now = R.data seq d := by simp [En.seg, En.open_, h]
theorem seg_fin1 (h : R.st = 1) : R.seg ⟨(4 : Nat), id, seq, ack, d⟩ now = R := by simp [En.seg, h]
theorem seg_fin3 (h : R.st = 3) : R.seg ⟨(4 : Nat), id, seq, ack, d⟩ now = R.fin seq := by simp [En.seg, En.open_, h]
end segs
theorem Dir.setR {S R R' : En} (h : Dir S R) (h1 : R'.inn = R.inn) (h2 : R'.other = R.other) : Dir S R' where
  closed := h.closed
  short := h.short
  gu := h.gu
  gn := h.gn
  gi := by rw [h1]; exact h.gi
  pre := by rw [h1]; exact h.pre
  lo := by rw [h1]; exact h.lo
  hi := by rw [h1]; exact h.hi
  win := h.win
  oth := by rw [h1, h2]; exact h.oth
  ack := by rw [h2]; exact h.ack
  unop := by rw [h1, h2]; exact h.unop
theorem Dir.setS {S S' R : En} (h : Dir S R) (h1 : S'.out = S.out) (h2 : S'.closed = S.closed) (h3 : S'.una = S.una) (h4 : S'.next = S.next) (h5 : S'.endSent = S.endSent) (h6 : S'.endAcked = S.endAcked) (h7 : S'.st ≠ 3 → S.st ≠ 3) : Dir S' R where
  closed := by rw [h2]; exact h.closed
  short := by rw [h1]; exact h.short
  gu := by rw [h1, h3]; exact h.gu
  gn := by rw [h1, h4]; exact h.gn
  gi := by rw [h1]; exact h.gi
  pre := by rw [h1]; exact h.pre
  lo := by rw [h3]; exact h.lo
  hi := by rw [h3]; exact h.hi
  win := by rw [h3, h4]; exact h.win
  oth := by rw [h1]; exact h.oth
  ack := by rw [h6]; exact h.ack
  unop := fun hs => by rw [h4, h5]; exact h.unop (h7 hs)
theorem Dir.acked {S R : En} (h : Dir R S) (now : Int) : Dir (R.ack ((S.inn.length + (if S.other then 1 else 0) : Nat) : Int) now) S := by
  have hi := h.gi.1
  have hlo := h.lo
  have hoth := h.oth
  unfold En.ack
  by_cases hc : (R.acksTo : Int) < ((S.inn.length + (if S.other then 1 else 0) : Nat) : Int) ∧ ((S.inn.length + (if S.other then 1 else 0) : Nat) : Int) ≤ (R.sentTo : Int)
  · rw [if_pos hc]
    have e : min ((S.inn.length + (if S.other then 1 else 0) : Nat) : Int).toNat R.out.length = S.inn.length := by
      rw [Int.toNat_natCast]
      cases ho : S.other with
      | true => have := hoth ho; simp; omega
      | false => simp; omega
    exact {
      closed := h.closed
      short := h.short
      gu := by simp only [e]; exact h.gi
      gn := h.gn
      gi := h.gi
      pre := h.pre
      lo := by simp only [e]; exact Nat.le_refl _
      hi := by simp only [e]; omega
      win := by simp only [e]; have := h.win; omega
      oth := h.oth
      ack := fun ha => by
        cases ho : S.other with
        | true => rfl
        | false =>
          rw [ho] at ha
          have ha := of_decide_eq_true ha
          simp at ha
          omega
      unop := h.unop }
  · rw [if_neg hc]; exact h
theorem Dir.data {S R : En} (h : Dir S R) (h3 : S.st = 3) {n : Nat} (hg : OnGrid S.out.length n) (hn : n < S.out.length) (hw : n + min 400 (S.out.length - n) ≤ S.una + 4000) : Dir S (R.data n ((S.out.drop n).take (min 400 (S.out.length - n)))) := by
  unfold En.data
  split
  · rename_i hc
    have he : n = R.inn.length := by omega
    have hp := next_piece h hn he
    have hl : (R.inn ++ (S.out.drop n).take (min 400 (S.out.length - n))).length = n + min 400 (S.out.length - n) := by rw [List.length_append, piece_len]; omega
    have hlo := h.lo
    exact {
      closed := h.closed
      short := h.short
      gu := h.gu
      gn := h.gn
      gi := by
        show OnGrid S.out.length (R.inn ++ (S.out.drop n).take (min 400 (S.out.length - n))).length
        rw [hl]
        unfold OnGrid at hg ⊢
        omega
      pre := by
        show (R.inn ++ (S.out.drop n).take (min 400 (S.out.length - n))) <+: S.out
        rw [hp]; exact List.take_prefix _ _
      lo := by show S.una ≤ (R.inn ++ (S.out.drop n).take (min 400 (S.out.length - n))).length; rw [hl]; omega
      hi := by show (R.inn ++ (S.out.drop n).take (min 400 (S.out.length - n))).length ≤ _; rw [hl]; exact hw
      win := h.win
      oth := fun ho => by have ho : R.other = true := ho; rw [hc.2.2] at ho; cases ho
      ack := h.ack
      unop := fun hs => absurd h3 hs }
  · exact h.setR rfl rfl
theorem Dir.fin {S R : En} (h : Dir S R) (h3 : S.st = 3) : Dir S (R.fin S.out.length) where
  closed := h.closed
  short := h.short
  gu := h.gu
  gn := h.gn
  gi := h.gi
  pre := h.pre
  lo := h.lo
  hi := h.hi
  win := h.win
  oth := fun ho => by
    have ho : (R.other || decide (((S.out.length : Nat) : Int) = (R.inn.length : Int))) = true := ho
    show R.inn.length = _
    rcases Bool.or_eq_true_iff.1 ho with ho | ho
    · exact h.oth ho
    · have := of_decide_eq_true ho; omega
  ack := fun ha => by show (R.other || _) = true; rw [h.ack ha]; rfl
  unop := fun hs => absurd h3 hs
/-- A datagram that comes in keeps what holds of both. -/
theorem pair_inp {S R : En} (h : Pair S R) {s : List Nat} (g : Good S s) {now : Int} (hn : Clock now) : Pair S (R.inp s now) := by
  have hok := inp_ok h.okR hn (g.lt h.okS)
  have h4 : R.st ≠ 4 := by rcases h.sts with h | h | h | h | h <;> omega
  have hk := inp_keeps R s now
  have hidR := hk.2.1.trans h.idR
  have hrs := h.rs
  have hsr := h.sr
  have hinn := h.okS.inn
  have hro := h.okS.room
  rcases g with ⟨hst, rfl⟩ | ⟨hst, rfl⟩ | ⟨hst, n, rfl, hg, hnl, hw⟩ | ⟨hst, rfl, hw⟩
  · have e := inp_say (S := S) (R := R) h.idS h.idR h4 (ty := 1) (seq := 0) (ack := 0) (d := []) (by decide) (by decide) (by decide) (by decide) (by simp) now
    have e : R.inp (S.say 1 0 0 []) now = _ := e
    rcases h.sts with hs | hs | hs | hs | hs
    · rw [seg_syn2 hs.2] at e
      rw [e] at hok hidR ⊢
      exact ⟨h.okS, hok, h.idS, hidR, hsr.setR rfl rfl, hrs.setS rfl rfl rfl rfl rfl rfl (fun hx => absurd rfl hx), .inr (.inr (.inl ⟨hs.1, rfl⟩))⟩
    · omega
    · rw [seg_syn3 hs.2] at e
      rw [e] at hok hidR ⊢
      exact ⟨h.okS, hok, h.idS, hidR, hsr.setR rfl rfl, hrs.setS rfl rfl rfl rfl rfl rfl (fun hx => hx), .inr (.inr (.inl ⟨hs.1, hs.2⟩))⟩
    · omega
    · omega
  · have e := inp_say (S := S) (R := R) h.idS h.idR h4 (ty := 2) (seq := 0) (ack := S.inn.length + (if S.other then 1 else 0)) (d := []) (by decide) (by decide) (by split <;> omega) (by decide) (by simp) now
    have e : R.inp (S.say 2 0 (S.inn.length + (if S.other then 1 else 0) : Nat) []) now = _ := e
    have hack := hrs.acked now
    generalize (S.inn.length + (if S.other then 1 else 0)) = k at *
    rcases h.sts with hs | hs | hs | hs | hs
    · omega
    · omega
    · omega
    · rw [seg_ack1 hs.2] at e
      rw [e] at hok hidR ⊢
      split at hok
      · rename_i h0
        rw [if_pos h0] at hidR ⊢
        exact ⟨h.okS, hok, h.idS, hidR, hsr.setR rfl rfl, hrs.setS rfl rfl rfl rfl rfl rfl (fun hx => absurd rfl hx), .inr (.inr (.inr (.inr ⟨hs.1, rfl⟩)))⟩
      · rename_i h0
        rw [if_neg h0]
        exact h
    · rw [seg_ack3 hs.2] at e
      rw [e] at hok hidR ⊢
      have hka := ack_keeps R (k : Int) now
      have hst3 : (R.ack (k : Int) now).st = 3 := by unfold En.ack; split <;> exact hs.2
      have hot : (R.ack (k : Int) now).other = R.other := by unfold En.ack; split <;> rfl
      exact ⟨h.okS, hok, h.idS, hidR, hsr.setR hka.2.2.1 hot, hack, .inr (.inr (.inr (.inr ⟨hs.1, hst3⟩)))⟩
  · have e := inp_say (S := S) (R := R) h.idS h.idR h4 (ty := 3) (seq := n) (ack := 0) (d := (S.out.drop n).take (min 400 (S.out.length - n))) (by decide) (by omega) (by decide) (by rw [piece_len]; omega) (piece_lt h.okS n) now
    have e : R.inp (S.say 3 n 0 ((S.out.drop n).take (min 400 (S.out.length - n)))) now = _ := e
    rcases h.sts with hs | hs | hs | hs | hs
    · omega
    · omega
    · omega
    · rw [seg_data1 hs.2] at e
      rw [e]; exact h
    · rw [seg_data3 hs.2] at e
      rw [e] at hok hidR ⊢
      have hd := hsr.data hst hg hnl hw
      refine ⟨h.okS, hok, h.idS, hidR, hd, ?_, .inr (.inr (.inr (.inr ⟨hs.1, ?_⟩)))⟩
      · unfold En.data
        split <;> exact hrs.setS rfl rfl rfl rfl rfl rfl (fun hx => hx)
      · unfold En.data
        split <;> exact hs.2
  · have e := inp_say (S := S) (R := R) h.idS h.idR h4 (ty := 4) (seq := S.out.length) (ack := 0) (d := []) (by decide) (by omega) (by decide) (by decide) (by simp) now
    have e : R.inp (S.say 4 S.out.length 0 []) now = _ := e
    rcases h.sts with hs | hs | hs | hs | hs
    · omega
    · omega
    · omega
    · rw [seg_fin1 hs.2] at e
      rw [e]; exact h
    · rw [seg_fin3 hs.2] at e
      rw [e] at hok hidR ⊢
      exact ⟨h.okS, hok, h.idS, hidR, hsr.fin hst, hrs.setS rfl rfl rfl rfl rfl rfl (fun hx => hx), .inr (.inr (.inr (.inr ⟨hs.1, hs.2⟩)))⟩
theorem pair_gets {S : En} {now : Int} (hn : Clock now) : ∀ (l : List (List Nat)) {R : En}, Pair S R → (∀ s ∈ l, Good S s) → Pair S (gets R now l)
  | [], R, h, _ => h
  | s :: l, R, h, hg => pair_gets hn l (pair_inp h (hg s (by simp)) hn) (fun s hs => hg s (by simp [hs]))
/-! what an end sends -/
theorem pieces_good (e : En) (hu : OnGrid e.out.length e.una) : ∀ f n, OnGrid e.out.length n → e.una ≤ n → n ≤ e.una + 4000 →
    OnGrid e.out.length (e.pieces f n).2 ∧ (e.pieces f n).2 ≤ e.una + 4000 ∧ n ≤ (e.pieces f n).2 ∧ ∀ s ∈ (e.pieces f n).1, ∃ m : Nat, s = e.say 3 m 0 ((e.out.drop m).take (min 400 (e.out.length - m))) ∧ OnGrid e.out.length m ∧ m < e.out.length ∧ m + min 400 (e.out.length - m) ≤ e.una + 4000
  | 0, n, hn, h1, h2 => ⟨hn, h2, Nat.le_refl _, by simp [En.pieces]⟩
  | f + 1, n, hn, h1, h2 => by
    by_cases hc : n < e.out.length ∧ n < e.una + 4000
    · have hn' := hn
      unfold OnGrid at hn hu
      have g : OnGrid e.out.length (n + min 400 (e.out.length - n)) := by unfold OnGrid; omega
      have hle : n + min 400 (e.out.length - n) ≤ e.una + 4000 := by omega
      have ih := pieces_good e hu f _ g (by omega) hle
      rw [pieces_more e f n hc]
      refine ⟨ih.1, ih.2.1, by have := ih.2.2.1; simp only; omega, fun s hs => ?_⟩
      rcases List.mem_cons.1 hs with rfl | hs
      · exact ⟨n, rfl, hn', hc.1, hle⟩
      · exact ih.2.2.2 s hs
    · rw [pieces_end e _ n hc]
      exact ⟨hn, h2, Nat.le_refl _, by simp⟩
theorem back_dir {S R : En} (h : Dir S R) (now : Int) : Dir (S.back now) R := by
  unfold En.back
  split
  · exact { closed := h.closed, short := h.short, gu := h.gu, gn := h.gu, gi := h.gi, pre := h.pre, lo := h.lo, hi := h.hi, win := by simp only; omega, oth := h.oth, ack := h.ack,
            unop := fun hs => by
              have := h.unop hs
              refine ⟨?_, ?_, this.2.2⟩
              · have h1 := h.lo
                rw [this.2.2.1] at h1
                simpa using h1
              · cases ha : S.endAcked with
                | false => rfl
                | true => have := h.ack ha; rw [(h.unop hs).2.2.2] at this; cases this }
  · exact h
theorem pair_outp {S R : En} (h : Pair S R) {now : Int} (hn : Clock now) : Pair (S.outp now).1 R ∧ ∀ s ∈ (S.outp now).2, Good (S.outp now).1 s := by
  have hok := outp_ok h.okS hn
  have hk := outp_keeps S now
  have hid := hk.2.1.trans h.idS
  have hsr := h.sr
  have hrs := h.rs
  have hsts := h.sts
  by_cases h1 : S.st = 1
  · by_cases hd : (!S.asked || S.due now) = true
    · have e : S.outp now = ({ S with asked := true, at_ := now }, [S.say 1 0 0 []]) := by unfold En.outp; rw [if_pos h1, if_pos hd]
      rw [e] at hok hid ⊢
      refine ⟨⟨hok, h.okR, hid, h.idR, hsr.setS rfl rfl rfl rfl rfl rfl (fun hx => hx), hrs.setR rfl rfl, hsts⟩, fun s hs => ?_⟩
      rcases List.mem_singleton.1 hs with rfl
      exact .inl ⟨h1, rfl⟩
    · have e : S.outp now = (S, []) := by unfold En.outp; rw [if_pos h1, if_neg hd]
      rw [e]; exact ⟨h, by simp⟩
  · by_cases h3 : S.st = 3
    · have e : S.outp now = S.sends now := by unfold En.outp; rw [if_neg h1, if_pos h3]
      rw [e, sends_eq] at hok hid ⊢
      have hb := back_dir hsr now
      obtain ⟨k1, k2, k3, k4, k5⟩ := back_keeps S now
      have hbok := back_ok h.okS hn
      have hoth : (S.back now).other = S.other := by unfold En.back; split <;> rfl
      generalize S.back now = b at *
      have hp := pieces_good b hb.gu 11 b.next hb.gn hbok.una hb.win
      have hb3 : b.st = 3 := k5.trans h3
      refine ⟨⟨hok, h.okR, hid, h.idR, ?_, ?_, ?_⟩, fun s hs => ?_⟩
      · exact { closed := hb.closed, short := hb.short, gu := hb.gu, gn := hp.1, gi := hb.gi, pre := hb.pre, lo := hb.lo, hi := hb.hi, win := hp.2.1, oth := hb.oth, ack := hb.ack, unop := fun hs => absurd hb3 hs }
      · exact hrs.setR k3 hoth
      · simp only [k5]; exact hsts
      · simp only [List.mem_append] at hs
        rcases hs with hs | hs | hs
        · unfold acksOf at hs
          split at hs
          · rcases List.mem_singleton.1 hs with rfl
            exact .inr (.inl ⟨hb3, rfl⟩)
          · simp at hs
        · obtain ⟨m, rfl, g1, g2, g3⟩ := hp.2.2.2 s hs
          exact .inr (.inr (.inl ⟨hb3, m, rfl, g1, g2, g3⟩))
        · unfold finsOf at hs
          split at hs
          · rename_i hf
            rcases List.mem_singleton.1 hs with rfl
            unfold finOf at hf
            have hl : (b.pieces 11 b.next).2 = b.out.length := by simp only [Bool.and_eq_true, decide_eq_true_eq] at hf; exact hf.2
            rw [hl]
            refine .inr (.inr (.inr ⟨hb3, rfl, ?_⟩))
            rw [← hl]; exact hp.2.1
          · simp at hs
    · have e : S.outp now = (S, []) := by unfold En.outp; rw [if_neg h1, if_neg h3]
      rw [e]; exact ⟨h, by simp⟩
/-- One turn: what S sends comes to R, or some of it. -/
theorem pair_turn {S R : En} (h : Pair S R) {now : Int} (hn : Clock now) {l : List (List Nat)} (hl : ∀ s ∈ l, s ∈ (S.outp now).2) : Pair (S.outp now).1 (gets R now l) :=
  pair_gets hn l (pair_outp h hn).1 fun s hs => (pair_outp h hn).2 s (hl s hs)
end Go.Proofs.Ytahafepgmkiabaa
