/- Plain streams: the rounds of the law StreamEnds. -/
import Derived.Test.YtahafepgmkiabaaV4
import Derived.Test.YtahafepgmkiabaaSepR
set_option linter.unusedVariables false
set_option linter.unusedSimpArgs false
namespace Go.Proofs.Ytahafepgmkiabaa
open Go Go.Proofs.Ytahafepgmkiabaa.Sep

structure Rr (a b : List Nat) (R i : Nat) (now : Int) (e0 e1 : En) : Prop where
  pair : Pair e0 e1
  t0 : Tm e0 now
  t1 : Tm e1 now
  o0 : e0.out = a
  o1 : e1.out = b
  s0 : e0.st ≠ 2
  s1 : e1.st ≠ 1
  stage : Stage (i - R) e0 e1
  rd0 : e0.read = e0.inn.length
  rd1 : e1.read = e1.inn.length
/-- S sends; some of it comes to V, all of it from round R on. -/
def Turn (R i : Nat) (now : Int) (S V S' V' : En) : Prop :=
  ∃ d, (∀ s ∈ d, s ∈ (S.outp now).2) ∧ (R ≤ i → d = (S.outp now).2) ∧ S' = (S.outp now).1 ∧ V' = gets V now d
theorem gets_snoc (e : En) (now : Int) (d : List (List Nat)) (s : List Nat) : gets e now (d ++ [s]) = (gets e now d).inp s now := by rw [gets_app]; rfl
theorem gets_read {now : Int} : ∀ (l : List (List Nat)) (e : En), (gets e now l).read = e.read
  | [], e => rfl
  | s :: l, e => by rw [gets_cons, gets_read l, (inp_keeps e s now).2.2]
theorem gets_id {now : Int} : ∀ (l : List (List Nat)) (e : En), (gets e now l).id = e.id
  | [], e => rfl
  | s :: l, e => by rw [gets_cons, gets_id l, (inp_keeps e s now).2.1]
theorem Pair.take {S R : En} (h : Pair S R) : Pair S.take.1 R.take.1 where
  okS := take_ok h.okS
  okR := take_ok h.okR
  idS := h.idS
  idR := h.idR
  sr := (h.sr.setS (S' := S.take.1) rfl rfl rfl rfl rfl rfl (fun h => h)).setR (R' := R.take.1) rfl rfl
  rs := (h.rs.setS (S' := R.take.1) rfl rfl rfl rfl rfl rfl (fun h => h)).setR (R' := S.take.1) rfl rfl
  sts := h.sts
theorem Stage.take {j : Nat} {e0 e1 : En} (h : Stage j e0 e1) : Stage j e0.take.1 e1.take.1 :=
  ⟨h.op, h.a1, h.a2, h.rest, h.pq, h.p, h.b1, h.b2, h.c⟩
theorem Turn.pair {R i : Nat} {now : Int} {S V S' V' : En} (t : Turn R i now S V S' V') (h : Pair S V) (hn : Clock now) : Pair S' V' := by
  obtain ⟨d, h1, _, rfl, rfl⟩ := t
  exact pair_turn h hn h1
theorem Turn.st {R i : Nat} {now : Int} {S V S' V' : En} (t : Turn R i now S V S' V') (h : Pair S V) (hn : Clock now) : S'.st = S.st ∧ (V'.st = V.st ∨ V'.st = 3) := by
  obtain ⟨d, h1, _, rfl, rfl⟩ := t
  have hp := pair_outp h hn
  exact ⟨(outp_keeps S now).2.2.2.2, gets_st hn d hp.1 (fun s hs => hp.2 s (h1 s hs))⟩
theorem Turn.keeps {R i : Nat} {now : Int} {S V S' V' : En} (t : Turn R i now S V S' V') : S'.out = S.out ∧ V'.out = V.out ∧ S'.read = S.read ∧ V'.read = V.read ∧ S'.inn = S.inn := by
  obtain ⟨d, h1, _, rfl, rfl⟩ := t
  have hk := outp_keeps S now
  exact ⟨hk.1, gets_out d V, hk.2.2.2.1, gets_read d V, hk.2.2.1⟩
theorem Turn.at_ {R i : Nat} {now : Int} {S V S' V' : En} (t : Turn R i now S V S' V') (hS : S.at_ ≤ now) (hV : V.at_ ≤ now) : S'.at_ ≤ now ∧ V'.at_ ≤ now := by
  obtain ⟨d, h1, _, rfl, rfl⟩ := t
  exact ⟨outp_le hS, gets_at d hV⟩
theorem Rr.next {a b : List Nat} {R i : Nat} {now : Int} {e0 e1 f0 f1 g0 g1 : En} (h : Rr a b R i now e0 e1) (hn : Clock now) (t1 : Turn R i now e0 e1 f0 f1) (t2 : Turn R i now f1 f0 g1 g0) :
    Rr a b R (i + 1) (now + 8) g0.take.1 g1.take.1 ∧ e0.inn ++ g0.take.2 = g0.inn ∧ e1.inn ++ g1.take.2 = g1.inn := by
  have p1 := t1.pair h.pair hn
  have p2 := (t2.pair p1.symm hn).symm
  have a1 := t1.at_ h.t0.le h.t1.le
  have a2 := t2.at_ a1.2 a1.1
  have k1 := t1.keeps
  have k2 := t2.keeps
  have st1 := t1.st h.pair hn
  have st2 := t2.st p1.symm hn
  have o0 : g0.out = a := k2.2.1.trans (k1.1.trans h.o0)
  have o1 : g1.out = b := k2.1.trans (k1.2.1.trans h.o1)
  have r0 : g0.read = e0.inn.length := (k2.2.2.2.1.trans k1.2.2.1).trans h.rd0
  have r1 : g1.read = e1.inn.length := (k2.2.2.1.trans k1.2.2.2.1).trans h.rd1
  refine ⟨⟨p2.take, ⟨?_, ?_⟩, ⟨?_, ?_⟩, o0, o1, ?_, ?_, ?_, rfl, rfl⟩, ?_, ?_⟩
  · show g0.at_ ≤ now + 8; omega
  · intro _; show g0.at_ + 8 ≤ now + 8; omega
  · show g1.at_ ≤ now + 8; omega
  · intro _; show g1.at_ + 8 ≤ now + 8; omega
  · show g0.st ≠ 2
    have := h.s0
    omega
  · show g1.st ≠ 1
    have := h.s1
    omega
  · rcases Nat.lt_or_ge i R with hlt | hge
    · rw [show i + 1 - R = 0 by omega]; exact Stage.zero _ _
    · rw [show i + 1 - R = (i - R) + 1 by omega]
      refine Stage.take ?_
      have hs := h.stage.next h.pair h.s0 h.s1 h.t0 h.t1 hn
      obtain ⟨d, _, hd, e3, e4⟩ := t1
      obtain ⟨d', _, hd', e5, e6⟩ := t2
      have hd := hd hge
      have hd' := hd' hge
      unfold rnd at hs
      rw [e6, e5, hd', e4, e3, hd]
      exact hs
  · have q0 := prefix_take h.pair.rs.pre
    have q1 := prefix_take p2.rs.pre
    have hle := p2.okS.read
    rw [r0] at hle
    have e : e0.inn = g0.inn.take e0.inn.length := by
      rw [q1, o1, List.take_take, Nat.min_eq_left hle, ← h.o1]; exact q0
    show e0.inn ++ g0.inn.drop g0.read = g0.inn
    rw [r0]
    conv => lhs; lhs; rw [e]
    exact List.take_append_drop _ _
  · have q0 := prefix_take h.pair.sr.pre
    have q1 := prefix_take p2.sr.pre
    have hle := p2.okR.read
    rw [r1] at hle
    have e : e1.inn = g1.inn.take e1.inn.length := by
      rw [q1, o0, List.take_take, Nat.min_eq_left hle, ← h.o0]; exact q0
    show e1.inn ++ g1.inn.drop g1.read = g1.inn
    rw [r1]
    conv => lhs; lhs; rw [e]
    exact List.take_append_drop _ _
/-- An end that is to send bytes and then is done. -/
def enFull (st : Nat) (a : List Nat) : En := { enNew 9 st with out := a, closed := true }
theorem full_ok {st : Nat} {a : List Nat} (hs : 1 ≤ st ∧ st ≤ 4) (hl : a.length ≤ 30000) (ha : ∀ b ∈ a, b < 256) : (enFull st a).Ok where
  id := by simp [enFull, enNew, u32i]
  st := hs
  room := by simp only [enFull]; omega
  una := by simp [enFull, enNew]
  next := by simp [enFull, enNew]
  sent := by simp [enFull, enNew]
  acked := by simp [enFull, enNew]
  inn := by simp [enFull, enNew]
  read := by simp [enFull, enNew]
  at_ := by simp [enFull, enNew]
  outB := ha
  innB := by simp [enFull, enNew]
theorem full_dir {s t : Nat} {a b : List Nat} (hl : a.length ≤ 30000) : Dir (enFull s a) (enFull t b) where
  closed := rfl
  short := hl
  gu := by simp [OnGrid, enFull, enNew]
  gn := by simp [OnGrid, enFull, enNew]
  gi := by simp [OnGrid, enFull, enNew]
  pre := by simp [enFull, enNew]
  lo := by simp [enFull, enNew]
  hi := by simp [enFull, enNew]
  win := by simp [enFull, enNew]
  oth := by simp [enFull, enNew]
  ack := by simp [enFull, enNew]
  unop := by simp [enFull, enNew]
theorem full_rr {a b : List Nat} {R : Nat} (hl : a.length + b.length ≤ 30000) (ha : ∀ x ∈ a, x < 256) (hb : ∀ x ∈ b, x < 256) : Rr a b R 0 0 (enFull 1 a) (enFull 2 b) where
  pair := ⟨full_ok (by decide) (by omega) ha, full_ok (by decide) (by omega) hb, by simp [enFull, enNew, u32i], by simp [enFull, enNew, u32i], full_dir (by omega), full_dir (by omega), .inl ⟨rfl, rfl⟩⟩
  t0 := ⟨by simp [enFull, enNew], by simp [enFull, enNew, En.waits]⟩
  t1 := ⟨by simp [enFull, enNew], by simp [enFull, enNew, En.waits]⟩
  o0 := rfl
  o1 := rfl
  s0 := by simp [enFull, enNew]
  s1 := by simp [enFull, enNew]
  stage := by rw [Nat.zero_sub]; exact Stage.zero _ _
  rd0 := rfl
  rd1 := rfl
theorem full_write {st : Nat} {a : List Nat} (hs : st = 1 ∨ st = 2) (hl : a.length ≤ 30000) : (enNew 9 st).write a = ({ enNew 9 st with out := a }, 0) := by
  unfold En.write
  rw [if_neg (by rcases hs with rfl | rfl <;> simp [enNew]), if_neg (by simp [enNew]), if_neg (by simp [enNew]; omega)]
  simp [enNew]
theorem full_close {st : Nat} {a : List Nat} (hs : st = 1 ∨ st = 2) : ({ enNew 9 st with out := a } : En).close = (enFull st a, 0) := by
  unfold En.close
  rw [if_neg (by rcases hs with rfl | rfl <;> simp [enNew])]
  rfl
theorem Rr.end_ {a b : List Nat} {R i : Nat} {now : Int} {e0 e1 : En} (h : Rr a b R i now e0 e1) (hi : R + 13 ≤ i) : e1.inn = a ∧ e0.inn = b ∧ e0.done = true ∧ e1.done = true ∧ e0.idle = true ∧ e1.idle = true := by
  have := h.stage.end_ h.pair (by omega)
  rw [h.o0, h.o1] at this
  exact this
/-! the two turns of a round -/
def Md (R i : Nat) (now : Int) (e0 e1 : En) (k : Nat) (f0 f1 : En) : Prop :=
  (k = 0 ∧ f0 = e0 ∧ f1 = e1) ∨ (k = 1 ∧ Turn R i now e0 e1 f0 f1) ∨ (k = 2 ∧ ∃ g0 g1, Turn R i now e0 e1 g0 g1 ∧ Turn R i now g1 g0 f1 f0)
end Go.Proofs.Ytahafepgmkiabaa
