/- Walks: the ends of streams: small methods. -/
import Derived.Test.YtahafepgmkiabaaG4
set_option linter.unusedVariables false
set_option linter.unusedSimpArgs false
set_option linter.ambiguousOpen false
namespace Go.Proofs.Ytahafepgmkiabaa
open Go Go.Proofs.Ytahafepgmkiabaa.Sep

/-- An end's row. -/
def enRow (e : En) (ov iv : Value) (at_ : Int) : List Value :=
  [.int .u32 ((e.id : Nat) : Int), .int .i64 ((e.st : Nat) : Int), .bool e.asked, ov, .int .i64 ((e.una : Nat) : Int), .int .i64 ((e.next : Nat) : Int), .int .i64 at_, .bool e.closed, .bool e.endSent, .bool e.endAcked, iv, .int .i64 ((e.read : Nat) : Int), .bool e.other, .bool e.owes]
structure EnB (e : En) (ov iv : Value) (at_ : Int) (Eo Ei : Chunk) : Prop where
  out : Buf 5 1 ov (bytes e.out) e.out.length Eo
  inn : Buf 5 1 iv (bytes e.inn) e.inn.length Ei
  tm : at_ = e.at_ ∨ (e.endAcked = true ∧ e.st ≠ 1)
  clock : Clock at_
  ok : e.Ok
def EnL (p : Nat) (e : En) (ov iv : Value) (at_ : Int) (Eo Ei : Chunk) (L : List Chunk) : List Chunk := [⟨p, enRow e ov iv at_, 185⟩] :: Eo :: Ei :: L
def EnAt (p : Nat) (e : En) (L L' : List Chunk) : Prop := ∃ ov iv at_ Eo Ei, EnB e ov iv at_ Eo Ei ∧ L' = EnL p e ov iv at_ Eo Ei L
def dueAt (at_ now : Int) : Bool := decide (at_ ≤ 9223372036854775799) && decide (at_ + 8 ≤ now)
theorem due_eq (e : En) (now : Int) : e.due now = dueAt e.at_ now := rfl
theorem EnB.slices {e : En} {ov iv : Value} {at_ : Int} {Eo Ei : Chunk} (h : EnB e ov iv at_ Eo Ei) : (∃ A c, ov = .slice A e.out.length c) ∧ (∃ A c, iv = .slice A e.inn.length c) := by
  obtain ⟨b, o, A, c, h1, _, _⟩ := h.out.read
  obtain ⟨b2, o2, A2, c2, h2, _, _⟩ := h.inn.read
  exact ⟨⟨A, c, h1⟩, ⟨A2, c2, h2⟩⟩

theorem dial_spec (w0 : World) (L : List Chunk) (id : Int) :
    Meets Try.prog 65 #[.int .i64 id] w0 L (fun r L' => ∃ p, r = .pointer (some ⟨p, 0, none⟩) ∧ EnAt p (enNew id 1) L L') := by
  refine Meets.of_body [.int .i64 id] Try.func65 rfl Try.ntmps65 rfl ?_
  refine SC.seq ?_
  refine SC.plain ?_
  refine St.assign rfl rfl ?_
  refine St.done ?_
  refine SX.seq ?_
  refine SC.seq ?_
  refine SC.plain ?_
  refine St.move rfl rfl ?_
  refine St.convZ un32 rfl rfl (by kernel_rfl) (by kernel_rfl) ?_
  rw [u32i_conv]
  refine St.build [(0, .int .u32 ((u32i id : Nat) : Int)), (1, .int .i64 1)] (enRow (enNew id 1) (.slice none 0 0) (.slice none 0 0) 0) rfl rfl (by kernel_rfl) ?_
  refine St.box (enRow (enNew id 1) (.slice none 0 0) (.slice none 0 0) 0) rfl rfl rfl (fun _ _ h => h.nil) (fun p => ?_)
  refine St.assign rfl rfl ?_
  refine St.done ?_
  refine SX.seq ?_
  refine SC.ret ?_
  refine SX.perm ([⟨p, enRow (enNew id 1) (.slice none 0 0) (.slice none 0 0) 0, 185⟩] :: [] :: [] :: L) (List.Perm.refl _) ?_
  exact SX.ret1 rfl rfl ⟨p, rfl, .slice none 0 0, .slice none 0 0, 0, [], [], ⟨Buf.nil 5 1, Buf.nil 5 1, .inl rfl, by unfold Clock; decide, new_ok id 1 (by decide)⟩, rfl⟩
theorem listen_spec (w0 : World) (L : List Chunk) (id : Int) :
    Meets Try.prog 74 #[.int .i64 id] w0 L (fun r L' => ∃ p, r = .pointer (some ⟨p, 0, none⟩) ∧ EnAt p (enNew id 2) L L') := by
  refine Meets.of_body [.int .i64 id] Try.func74 rfl Try.ntmps74 rfl ?_
  refine SC.seq ?_
  refine SC.plain ?_
  refine St.assign rfl rfl ?_
  refine St.done ?_
  refine SX.seq ?_
  refine SC.seq ?_
  refine SC.plain ?_
  refine St.move rfl rfl ?_
  refine St.convZ un32 rfl rfl (by kernel_rfl) (by kernel_rfl) ?_
  rw [u32i_conv]
  refine St.build [(0, .int .u32 ((u32i id : Nat) : Int)), (1, .int .i64 2)] (enRow (enNew id 2) (.slice none 0 0) (.slice none 0 0) 0) rfl rfl (by kernel_rfl) ?_
  refine St.box (enRow (enNew id 2) (.slice none 0 0) (.slice none 0 0) 0) rfl rfl rfl (fun _ _ h => h.nil) (fun p => ?_)
  refine St.assign rfl rfl ?_
  refine St.done ?_
  refine SX.seq ?_
  refine SC.ret ?_
  refine SX.perm ([⟨p, enRow (enNew id 2) (.slice none 0 0) (.slice none 0 0) 0, 185⟩] :: [] :: [] :: L) (List.Perm.refl _) ?_
  exact SX.ret1 rfl rfl ⟨p, rfl, .slice none 0 0, .slice none 0 0, 0, [], [], ⟨Buf.nil 5 1, Buf.nil 5 1, .inl rfl, by unfold Clock; decide, new_ok id 2 (by decide)⟩, rfl⟩
theorem due_spec (w0 : World) (L : List Chunk) (p : Nat) (e : En) (ov iv : Value) (at_ : Int) (Eo Ei : Chunk) (hB : EnB e ov iv at_ Eo Ei) (now : Int) (hn : Clock now) :
    Meets Try.prog 126 #[.pointer (some ⟨p, 0, none⟩), .int .i64 now] w0 (EnL p e ov iv at_ Eo Ei L) (fun r L' => EnL p e ov iv at_ Eo Ei L = L' ∧ r = .bool (dueAt at_ now)) := by
  obtain ⟨⟨Ao, co, rfl⟩, ⟨Ai, ci, rfl⟩⟩ := hB.slices
  have hok := hB.ok
  have hr1 := hok.room
  have hr2 := hok.inn
  have hu := hok.una
  have hx := hok.next
  have hid := hok.id
  have hst := hok.st
  have hcl := hB.clock
  unfold Clock at hcl hn
  unfold EnL
  refine Meets.of_body [.pointer (some ⟨p, 0, none⟩), .int .i64 now] Try.func126 rfl Try.ntmps126 rfl ?_
  refine SC.seq ?_
  refine SC.plain ?_
  refine St.assign rfl rfl ?_
  refine St.done ?_
  refine SX.seq ?_
  refine SC.seq ?_
  refine SC.plain ?_
  refine St.move rfl rfl ?_
  refine St.nilCheck rfl rfl ?_
  refine St.fieldAddr (off := 6) rfl rfl (by kernel_rfl) ?_
  refine St.load rfl rfl (by kernel_rfl) (by first | exact Holds.row mem0 rfl | exact Holds.row mem1 rfl | exact Holds.row mem2 rfl | exact Holds.row mem3 rfl | exact Holds.row mem4 rfl | exact Holds.row mem5 rfl | exact Holds.row mem6 rfl | exact Holds.row mem7 rfl | exact Holds.row mem8 rfl) ?_
  refine St.leq rfl rfl rfl ?_
  refine St.move rfl rfl ?_
  refine St.split 10 rfl (fun g10 => ?_) (fun g10 => ?_)
  · refine St.guard_yes rfl rfl ?_
    refine St.move rfl rfl ?_
    refine St.guard_yes rfl rfl ?_
    refine St.move rfl rfl ?_
    refine St.guard_yes rfl rfl ?_
    refine St.nilCheck rfl rfl ?_
    refine St.guard_yes rfl rfl ?_
    refine St.fieldAddr (off := 6) rfl rfl (by kernel_rfl) ?_
    refine St.guard_yes rfl rfl ?_
    refine St.load rfl rfl (by kernel_rfl) (by first | exact Holds.row mem0 rfl | exact Holds.row mem1 rfl | exact Holds.row mem2 rfl | exact Holds.row mem3 rfl | exact Holds.row mem4 rfl | exact Holds.row mem5 rfl | exact Holds.row mem6 rfl | exact Holds.row mem7 rfl | exact Holds.row mem8 rfl) ?_
    refine St.guard_yes rfl rfl ?_
    refine St.addI rfl rfl rfl (by omega) ?_
    refine St.guard_yes rfl rfl ?_
    refine St.geq rfl rfl rfl ?_
    refine St.pick_true rfl rfl rfl ?_
    refine St.assign rfl rfl ?_
    refine St.done ?_
    refine SX.seq ?_
    refine SC.ret ?_
    exact SX.ret1 rfl rfl ⟨rfl, by unfold dueAt; rw [decide_eq_true g10, Bool.true_and]⟩
  · refine St.guard_no rfl rfl rfl ?_
    refine St.guard_no rfl rfl rfl ?_
    refine St.guard_no rfl rfl rfl ?_
    refine St.guard_no rfl rfl rfl ?_
    refine St.guard_no rfl rfl rfl ?_
    refine St.guard_no rfl rfl rfl ?_
    refine St.guard_no rfl rfl rfl ?_
    refine St.pick_false rfl rfl rfl ?_
    refine St.assign rfl rfl ?_
    refine St.done ?_
    refine SX.seq ?_
    refine SC.ret ?_
    exact SX.ret1 rfl rfl ⟨rfl, by unfold dueAt; rw [decide_eq_false g10, Bool.false_and]⟩
theorem waits_spec (w0 : World) (L : List Chunk) (p : Nat) (e : En) (ov iv : Value) (at_ : Int) (Eo Ei : Chunk) (hB : EnB e ov iv at_ Eo Ei) :
    Meets Try.prog 144 #[.pointer (some ⟨p, 0, none⟩)] w0 (EnL p e ov iv at_ Eo Ei L) (fun r L' => EnL p e ov iv at_ Eo Ei L = L' ∧ r = .bool e.waits) := by
  obtain ⟨⟨Ao, co, rfl⟩, ⟨Ai, ci, rfl⟩⟩ := hB.slices
  have hok := hB.ok
  have hr1 := hok.room
  have hr2 := hok.inn
  have hu := hok.una
  have hx := hok.next
  have hid := hok.id
  have hst := hok.st
  unfold EnL
  refine Meets.of_body [.pointer (some ⟨p, 0, none⟩)] Try.func144 rfl Try.ntmps144 rfl ?_
  refine SC.seq ?_
  refine SC.plain ?_
  refine St.assign rfl rfl ?_
  refine St.done ?_
  refine SX.seq ?_
  refine SC.seq ?_
  refine SC.drawn [(0, true), (1, true), (2, true), (3, true), (4, true), (5, true), (6, true), (7, true), (8, true), (9, true), (10, true), (11, true), (12, true), (13, true), (14, true), (15, true), (16, true), (17, true), (18, true), (19, true), (20, true), (21, true), (22, true)] [] (_) (by kernel_rfl) (by kernel_rfl) (fun _ h => h) ?_
  refine St.move rfl rfl ?_
  refine St.nilCheck rfl rfl ?_
  refine St.fieldAddr (off := 5) rfl rfl (by kernel_rfl) ?_
  refine St.load rfl rfl (by kernel_rfl) (by first | exact Holds.row mem0 rfl | exact Holds.row mem1 rfl | exact Holds.row mem2 rfl | exact Holds.row mem3 rfl | exact Holds.row mem4 rfl | exact Holds.row mem5 rfl | exact Holds.row mem6 rfl | exact Holds.row mem7 rfl | exact Holds.row mem8 rfl) ?_
  refine St.move rfl rfl ?_
  refine St.nilCheck rfl rfl ?_
  refine St.fieldAddr (off := 4) rfl rfl (by kernel_rfl) ?_
  refine St.load rfl rfl (by kernel_rfl) (by first | exact Holds.row mem0 rfl | exact Holds.row mem1 rfl | exact Holds.row mem2 rfl | exact Holds.row mem3 rfl | exact Holds.row mem4 rfl | exact Holds.row mem5 rfl | exact Holds.row mem6 rfl | exact Holds.row mem7 rfl | exact Holds.row mem8 rfl) ?_
  refine St.gtr rfl rfl rfl ?_
  refine St.move rfl rfl ?_
  refine St.split 12 rfl (fun g12 => ?_) (fun g12 => ?_)
  · refine St.guard_no rfl rfl rfl ?_
    refine St.guard_no rfl rfl rfl ?_
    refine St.guard_no rfl rfl rfl ?_
    refine St.guard_no rfl rfl rfl ?_
    refine St.guard_no rfl rfl rfl ?_
    refine St.guard_none rfl rfl rfl ?_
    refine St.guard_none rfl rfl rfl ?_
    refine St.guard_none rfl rfl rfl ?_
    refine St.guard_none rfl rfl rfl ?_
    refine St.guard_none rfl rfl rfl ?_
    refine St.guard_no rfl rfl rfl ?_
    refine St.pick_true rfl rfl rfl ?_
    refine St.assign rfl rfl ?_
    refine St.done ?_
    refine SX.tail ?_
    refine St.done ?_
    refine SX.seq ?_
    refine SC.ret ?_
    exact SX.ret1 rfl rfl ⟨rfl, by unfold En.waits; rw [decide_eq_true (by omega), Bool.true_or]⟩
  · refine St.guard_yes rfl rfl ?_
    refine St.move rfl rfl ?_
    refine St.guard_yes rfl rfl ?_
    refine St.nilCheck rfl rfl ?_
    refine St.guard_yes rfl rfl ?_
    refine St.fieldAddr (off := 8) rfl rfl (by kernel_rfl) ?_
    refine St.guard_yes rfl rfl ?_
    refine St.load rfl rfl (by kernel_rfl) (by first | exact Holds.row mem0 rfl | exact Holds.row mem1 rfl | exact Holds.row mem2 rfl | exact Holds.row mem3 rfl | exact Holds.row mem4 rfl | exact Holds.row mem5 rfl | exact Holds.row mem6 rfl | exact Holds.row mem7 rfl | exact Holds.row mem8 rfl) ?_
    refine St.guard_yes rfl rfl ?_
    refine St.move rfl rfl ?_
    refine St.splitB 17 rfl (fun g17 => ?_) (fun g17 => ?_)
    · refine St.guard_yes rfl rfl ?_
      refine St.move rfl rfl ?_
      refine St.guard_yes rfl rfl ?_
      refine St.nilCheck rfl rfl ?_
      refine St.guard_yes rfl rfl ?_
      refine St.fieldAddr (off := 9) rfl rfl (by kernel_rfl) ?_
      refine St.guard_yes rfl rfl ?_
      refine St.load rfl rfl (by kernel_rfl) (by first | exact Holds.row mem0 rfl | exact Holds.row mem1 rfl | exact Holds.row mem2 rfl | exact Holds.row mem3 rfl | exact Holds.row mem4 rfl | exact Holds.row mem5 rfl | exact Holds.row mem6 rfl | exact Holds.row mem7 rfl | exact Holds.row mem8 rfl) ?_
      refine St.guard_yes rfl rfl ?_
      refine St.notB rfl rfl ?_
      refine St.guard_yes rfl rfl ?_
      refine St.pick_true rfl rfl rfl ?_
      refine St.pick_false rfl rfl rfl ?_
      refine St.assign rfl rfl ?_
      refine St.done ?_
      refine SX.tail ?_
      refine St.done ?_
      refine SX.seq ?_
      refine SC.ret ?_
      exact SX.ret1 rfl rfl ⟨rfl, by unfold En.waits; rw [decide_eq_false (by omega), Bool.false_or, g17, Bool.true_and]⟩
    · refine St.guard_no rfl rfl rfl ?_
      refine St.guard_no rfl rfl rfl ?_
      refine St.guard_no rfl rfl rfl ?_
      refine St.guard_no rfl rfl rfl ?_
      refine St.guard_no rfl rfl rfl ?_
      refine St.guard_yes rfl rfl ?_
      refine St.pick_false rfl rfl rfl ?_
      refine St.pick_false rfl rfl rfl ?_
      refine St.assign rfl rfl ?_
      refine St.done ?_
      refine SX.tail ?_
      refine St.done ?_
      refine SX.seq ?_
      refine SC.ret ?_
      exact SX.ret1 rfl rfl ⟨rfl, by unfold En.waits; rw [decide_eq_false (by omega), Bool.false_or, g17, Bool.false_and]⟩
theorem write18_spec (w0 : World) (L : List Chunk) (p : Nat) (e : En) (ov iv : Value) (at_ : Int) (Eo Ei : Chunk) (hB : EnB e ov iv at_ Eo Ei) (v : Value) (bs : List Nat) (hv : Rd w0 L v 1 bs.length (bytes bs)) (hl : bs.length ≤ 140737488351232) (hb : ∀ b ∈ bs, b < 256) :
    Meets Try.prog 66 #[.pointer (some ⟨p, 0, none⟩), v] w0 (EnL p e ov iv at_ Eo Ei L) (fun r L' => r = .int .i64 (e.write bs).2 ∧ EnAt p (e.write bs).1 L L') := by
  obtain ⟨⟨Ao, co, rfl⟩, ⟨Ai, ci, rfl⟩⟩ := hB.slices
  have hok := hB.ok
  have hr1 := hok.room
  have hr2 := hok.inn
  have hu := hok.una
  have hx := hok.next
  have hid := hok.id
  have hst := hok.st
  have hv0 := hv
  have hwok := write_ok hok hb
  obtain ⟨_, vb, vo, vA, vc, rfl, _, _⟩ := hv
  unfold EnL
  refine Meets.of_body [.pointer (some ⟨p, 0, none⟩), .slice vA bs.length vc] Try.func66 rfl Try.ntmps66 rfl ?_
  refine SC.seq ?_
  refine SC.plain ?_
  refine St.assign rfl rfl ?_
  refine St.done ?_
  refine SX.seq ?_
  refine SC.seq ?_
  refine SC.block ?_
  refine SC.seq ?_
  refine SC.plain ?_
  refine St.move rfl rfl ?_
  refine St.nilCheck rfl rfl ?_
  refine St.fieldAddr (off := 1) rfl rfl (by kernel_rfl) ?_
  refine St.load rfl rfl (by kernel_rfl) (by first | exact Holds.row mem0 rfl | exact Holds.row mem1 rfl | exact Holds.row mem2 rfl | exact Holds.row mem3 rfl | exact Holds.row mem4 rfl | exact Holds.row mem5 rfl | exact Holds.row mem6 rfl | exact Holds.row mem7 rfl | exact Holds.row mem8 rfl) ?_
  refine St.eql rfl rfl rfl ?_
  refine St.assign rfl rfl ?_
  refine St.done ?_
  refine SX.seq ?_
  refine SC.condp rfl (fun c5 => ?_) (fun c5 => ?_)
  · refine SC.seq ?_
    refine SC.plain ?_
    refine St.assign rfl rfl ?_
    refine St.done ?_
    refine SX.seq ?_
    refine SC.ret ?_
    refine SX.blk_ret ?_
    refine SX.seq_ret ?_
    have hw : e.write bs = (e, 81) := if_pos (by omega)
    rw [hw]
    exact SX.ret1 rfl rfl ⟨rfl, _, _, at_, Eo, Ei, hB, rfl⟩
  · refine SC.seq ?_
    refine SC.plain ?_
    refine St.move rfl rfl ?_
    refine St.nilCheck rfl rfl ?_
    refine St.fieldAddr (off := 7) rfl rfl (by kernel_rfl) ?_
    refine St.load rfl rfl (by kernel_rfl) (by first | exact Holds.row mem0 rfl | exact Holds.row mem1 rfl | exact Holds.row mem2 rfl | exact Holds.row mem3 rfl | exact Holds.row mem4 rfl | exact Holds.row mem5 rfl | exact Holds.row mem6 rfl | exact Holds.row mem7 rfl | exact Holds.row mem8 rfl) ?_
    refine St.assign rfl rfl ?_
    refine St.done ?_
    refine SX.seq ?_
    refine SC.cond rfl (fun c11 => ?_) (fun c11 => ?_)
    · refine SC.seq ?_
      refine SC.plain ?_
      refine St.assign rfl rfl ?_
      refine St.done ?_
      refine SX.seq ?_
      refine SC.ret ?_
      refine SX.blk_ret ?_
      refine SX.seq_ret ?_
      have hw : e.write bs = (e, 1) := (if_neg (by omega)).trans (if_pos c11)
      rw [hw]
      exact SX.ret1 rfl rfl ⟨rfl, _, _, at_, Eo, Ei, hB, rfl⟩
    · refine SC.seq ?_
      refine SC.plain ?_
      refine St.move rfl rfl ?_
      refine St.lenSl rfl rfl (by kernel_rfl) ?_
      refine St.move rfl rfl ?_
      refine St.nilCheck rfl rfl ?_
      refine St.fieldAddr (off := 3) rfl rfl (by kernel_rfl) ?_
      refine St.load rfl rfl (by kernel_rfl) (by first | exact Holds.row mem0 rfl | exact Holds.row mem1 rfl | exact Holds.row mem2 rfl | exact Holds.row mem3 rfl | exact Holds.row mem4 rfl | exact Holds.row mem5 rfl | exact Holds.row mem6 rfl | exact Holds.row mem7 rfl | exact Holds.row mem8 rfl) ?_
      refine St.lenSl rfl rfl (by kernel_rfl) ?_
      first | refine St.subN (a := 1048576) rfl rfl rfl (by omega) (by omega) ?_ | refine St.subI rfl rfl rfl (by omega) ?_
      refine St.gtr rfl rfl rfl ?_
      refine St.assign rfl rfl ?_
      refine St.done ?_
      refine SX.seq ?_
      refine SC.condp rfl (fun c16 => ?_) (fun c16 => ?_)
      · refine SC.seq ?_
        refine SC.plain ?_
        refine St.assign rfl rfl ?_
        refine St.done ?_
        refine SX.seq ?_
        refine SC.ret ?_
        refine SX.blk_ret ?_
        refine SX.seq_ret ?_
        have hw : e.write bs = (e, 60) := (if_neg (by omega)).trans ((if_neg (by rw [c11]; simp)).trans (if_pos (by omega)))
        rw [hw]
        exact SX.ret1 rfl rfl ⟨rfl, _, _, at_, Eo, Ei, hB, rfl⟩
      · refine SC.skip ?_
        refine SX.blk ?_
        refine SX.seq ?_
        refine SC.seq ?_
        refine SC.plain ?_
        refine St.move rfl rfl ?_
        refine St.move rfl rfl ?_
        refine St.nilCheck rfl rfl ?_
        refine St.fieldAddr (off := 3) rfl rfl (by kernel_rfl) ?_
        refine St.load rfl rfl (by kernel_rfl) (by first | exact Holds.row mem0 rfl | exact Holds.row mem1 rfl | exact Holds.row mem2 rfl | exact Holds.row mem3 rfl | exact Holds.row mem4 rfl | exact Holds.row mem5 rfl | exact Holds.row mem6 rfl | exact Holds.row mem7 rfl | exact Holds.row mem8 rfl) ?_
        refine St.move rfl rfl ?_
        have hw : e.write bs = ({ e with out := e.out ++ bs }, 0) := (if_neg (by omega)).trans ((if_neg (by rw [c11]; simp)).trans (if_neg (by omega)))
        refine St.append1 (e := 5) (sz := 1) (bytes := 1) (xs := bytes e.out) (n := e.out.length) (news := bytes bs) (m := bs.length) rfl rfl rfl (by kernel_rfl) hB.out (Rd.mono hv0 (fun w hw => by first | exact hw | exact hw.drop | exact hw.drop.drop | exact hw.drop.drop.drop | exact hw.drop.drop.drop.drop | exact hw.drop.drop.drop.drop.drop | exact hw.drop.drop.drop.drop.drop.drop | exact hw.drop.drop.drop.drop.drop.drop.drop | exact hw.drop.drop.drop.drop.drop.drop.drop.drop)) (bytes_one _) (by omega) (by omega) (fun _ _ h => h.nil) (fun v2 E2 hb2 _ => ?_)
        rw [← bytes_app] at hb2
        have hb2r := hb2.read
        obtain ⟨_, _, A2, c2, rfl, _, _⟩ := hb2r
        refine St.nilCheck rfl rfl ?_
        refine St.fieldAddr (off := 3) rfl rfl (by kernel_rfl) ?_
        first | refine St.store rfl rfl rfl rfl (by kernel_rfl) (Nat.le_of_ble_eq_true rfl) (by first | exact fun _ h => h.nil | exact fun _ h => h | exact fun _ h => h.drop | exact fun _ h => h.drop.drop | exact fun _ h => h.drop.drop.drop) ?_ | refine St.store1 rfl rfl rfl rfl (by kernel_rfl) (Nat.le_of_ble_eq_true rfl) (by first | exact fun _ h => h.nil | exact fun _ h => h | exact fun _ h => h.drop | exact fun _ h => h.drop.drop | exact fun _ h => h.drop.drop.drop) ?_ | refine St.store2 rfl rfl rfl rfl (by kernel_rfl) (Nat.le_of_ble_eq_true rfl) (by first | exact fun _ h => h.nil | exact fun _ h => h | exact fun _ h => h.drop | exact fun _ h => h.drop.drop | exact fun _ h => h.drop.drop.drop) ?_ | refine St.store3 rfl rfl rfl rfl (by kernel_rfl) (Nat.le_of_ble_eq_true rfl) (by first | exact fun _ h => h.nil | exact fun _ h => h | exact fun _ h => h.drop | exact fun _ h => h.drop.drop | exact fun _ h => h.drop.drop.drop) ?_ | refine St.store4 rfl rfl rfl rfl (by kernel_rfl) (Nat.le_of_ble_eq_true rfl) (by first | exact fun _ h => h.nil | exact fun _ h => h | exact fun _ h => h.drop | exact fun _ h => h.drop.drop | exact fun _ h => h.drop.drop.drop) ?_ | refine St.store5 rfl rfl rfl rfl (by kernel_rfl) (Nat.le_of_ble_eq_true rfl) (by first | exact fun _ h => h.nil | exact fun _ h => h | exact fun _ h => h.drop | exact fun _ h => h.drop.drop | exact fun _ h => h.drop.drop.drop) ?_
        refine St.done ?_
        refine SX.seq ?_
        refine SC.seq ?_
        refine SC.plain ?_
        refine St.assign rfl rfl ?_
        refine St.done ?_
        refine SX.seq ?_
        refine SC.ret ?_
        rw [hw] at hwok ⊢
        exact SX.ret1 rfl rfl ⟨rfl, _, _, at_, E2, Ei, ⟨by rw [List.length_append]; exact hb2, hB.inn, hB.tm, hB.clock, hwok⟩, by rw [EnL]; simp only [List.length_append]; rfl⟩
theorem close18_spec (w0 : World) (L : List Chunk) (p : Nat) (e : En) (ov iv : Value) (at_ : Int) (Eo Ei : Chunk) (hB : EnB e ov iv at_ Eo Ei) :
    Meets Try.prog 76 #[.pointer (some ⟨p, 0, none⟩)] w0 (EnL p e ov iv at_ Eo Ei L) (fun r L' => r = .int .i64 e.close.2 ∧ EnAt p e.close.1 L L') := by
  obtain ⟨⟨Ao, co, rfl⟩, ⟨Ai, ci, rfl⟩⟩ := hB.slices
  have hok := hB.ok
  have hr1 := hok.room
  have hr2 := hok.inn
  have hu := hok.una
  have hx := hok.next
  have hid := hok.id
  have hst := hok.st
  have hcok := close_ok hok
  unfold EnL
  refine Meets.of_body [.pointer (some ⟨p, 0, none⟩)] Try.func76 rfl Try.ntmps76 rfl ?_
  refine SC.seq ?_
  refine SC.plain ?_
  refine St.assign rfl rfl ?_
  refine St.done ?_
  refine SX.seq ?_
  refine SC.seq ?_
  refine SC.seq ?_
  refine SC.plain ?_
  refine St.move rfl rfl ?_
  refine St.nilCheck rfl rfl ?_
  refine St.fieldAddr (off := 1) rfl rfl (by kernel_rfl) ?_
  refine St.load rfl rfl (by kernel_rfl) (by first | exact Holds.row mem0 rfl | exact Holds.row mem1 rfl | exact Holds.row mem2 rfl | exact Holds.row mem3 rfl | exact Holds.row mem4 rfl | exact Holds.row mem5 rfl | exact Holds.row mem6 rfl | exact Holds.row mem7 rfl | exact Holds.row mem8 rfl) ?_
  refine St.eql rfl rfl rfl ?_
  refine St.done ?_
  refine SX.seq ?_
  refine SC.condp rfl (fun c7 => ?_) (fun c7 => ?_)
  · refine SC.seq ?_
    refine SC.plain ?_
    refine St.assign rfl rfl ?_
    refine St.done ?_
    refine SX.seq ?_
    refine SC.ret ?_
    refine SX.seq_ret ?_
    have hw : e.close = (e, 81) := if_pos (by omega)
    rw [hw]
    exact SX.ret1 rfl rfl ⟨rfl, _, _, at_, Eo, Ei, hB, rfl⟩
  · refine SC.skip ?_
    refine SX.seq ?_
    refine SC.seq ?_
    refine SC.plain ?_
    refine St.move rfl rfl ?_
    refine St.nilCheck rfl rfl ?_
    refine St.fieldAddr (off := 7) rfl rfl (by kernel_rfl) ?_
    first | refine St.store rfl rfl rfl rfl (by kernel_rfl) (Nat.le_of_ble_eq_true rfl) (by first | exact fun _ h => h.nil | exact fun _ h => h | exact fun _ h => h.drop | exact fun _ h => h.drop.drop | exact fun _ h => h.drop.drop.drop) ?_ | refine St.store1 rfl rfl rfl rfl (by kernel_rfl) (Nat.le_of_ble_eq_true rfl) (by first | exact fun _ h => h.nil | exact fun _ h => h | exact fun _ h => h.drop | exact fun _ h => h.drop.drop | exact fun _ h => h.drop.drop.drop) ?_ | refine St.store2 rfl rfl rfl rfl (by kernel_rfl) (Nat.le_of_ble_eq_true rfl) (by first | exact fun _ h => h.nil | exact fun _ h => h | exact fun _ h => h.drop | exact fun _ h => h.drop.drop | exact fun _ h => h.drop.drop.drop) ?_ | refine St.store3 rfl rfl rfl rfl (by kernel_rfl) (Nat.le_of_ble_eq_true rfl) (by first | exact fun _ h => h.nil | exact fun _ h => h | exact fun _ h => h.drop | exact fun _ h => h.drop.drop | exact fun _ h => h.drop.drop.drop) ?_ | refine St.store4 rfl rfl rfl rfl (by kernel_rfl) (Nat.le_of_ble_eq_true rfl) (by first | exact fun _ h => h.nil | exact fun _ h => h | exact fun _ h => h.drop | exact fun _ h => h.drop.drop | exact fun _ h => h.drop.drop.drop) ?_ | refine St.store5 rfl rfl rfl rfl (by kernel_rfl) (Nat.le_of_ble_eq_true rfl) (by first | exact fun _ h => h.nil | exact fun _ h => h | exact fun _ h => h.drop | exact fun _ h => h.drop.drop | exact fun _ h => h.drop.drop.drop) ?_
    refine St.done ?_
    refine SX.seq ?_
    refine SC.seq ?_
    refine SC.plain ?_
    refine St.assign rfl rfl ?_
    refine St.done ?_
    refine SX.seq ?_
    refine SC.ret ?_
    have hw : e.close = ({ e with closed := true }, 0) := if_neg (by omega)
    rw [hw] at hcok ⊢
    exact SX.ret1 rfl rfl ⟨rfl, _, _, at_, Eo, Ei, ⟨hB.out, hB.inn, hB.tm, hB.clock, hcok⟩, rfl⟩
theorem state18_spec (w0 : World) (L : List Chunk) (p : Nat) (e : En) (ov iv : Value) (at_ : Int) (Eo Ei : Chunk) (hB : EnB e ov iv at_ Eo Ei) :
    Meets Try.prog 70 #[.pointer (some ⟨p, 0, none⟩)] w0 (EnL p e ov iv at_ Eo Ei L) (fun r L' => EnL p e ov iv at_ Eo Ei L = L' ∧ r = .int .i64 ((e.st : Nat) : Int)) := by
  obtain ⟨⟨Ao, co, rfl⟩, ⟨Ai, ci, rfl⟩⟩ := hB.slices
  have hok := hB.ok
  have hr1 := hok.room
  have hr2 := hok.inn
  have hu := hok.una
  have hx := hok.next
  have hid := hok.id
  have hst := hok.st
  unfold EnL
  refine Meets.of_body [.pointer (some ⟨p, 0, none⟩)] Try.func70 rfl Try.ntmps70 rfl ?_
  refine SC.seq ?_
  refine SC.plain ?_
  refine St.assign rfl rfl ?_
  refine St.done ?_
  refine SX.seq ?_
  refine SC.seq ?_
  refine SC.plain ?_
  refine St.move rfl rfl ?_
  refine St.nilCheck rfl rfl ?_
  refine St.fieldAddr (off := 1) rfl rfl (by kernel_rfl) ?_
  refine St.load rfl rfl (by kernel_rfl) (by first | exact Holds.row mem0 rfl | exact Holds.row mem1 rfl | exact Holds.row mem2 rfl | exact Holds.row mem3 rfl | exact Holds.row mem4 rfl | exact Holds.row mem5 rfl | exact Holds.row mem6 rfl | exact Holds.row mem7 rfl | exact Holds.row mem8 rfl) ?_
  refine St.assign rfl rfl ?_
  refine St.done ?_
  refine SX.seq ?_
  refine SC.ret ?_
  exact SX.ret1 rfl rfl ⟨rfl, rfl⟩
theorem done18_spec (w0 : World) (L : List Chunk) (p : Nat) (e : En) (ov iv : Value) (at_ : Int) (Eo Ei : Chunk) (hB : EnB e ov iv at_ Eo Ei) :
    Meets Try.prog 86 #[.pointer (some ⟨p, 0, none⟩)] w0 (EnL p e ov iv at_ Eo Ei L) (fun r L' => EnL p e ov iv at_ Eo Ei L = L' ∧ r = .bool e.done) := by
  obtain ⟨⟨Ao, co, rfl⟩, ⟨Ai, ci, rfl⟩⟩ := hB.slices
  have hok := hB.ok
  have hr1 := hok.room
  have hr2 := hok.inn
  have hu := hok.una
  have hx := hok.next
  have hid := hok.id
  have hst := hok.st
  unfold EnL
  refine Meets.of_body [.pointer (some ⟨p, 0, none⟩)] Try.func86 rfl Try.ntmps86 rfl ?_
  refine SC.seq ?_
  refine SC.plain ?_
  refine St.assign rfl rfl ?_
  refine St.done ?_
  refine SX.seq ?_
  refine SC.seq ?_
  refine SC.plain ?_
  refine St.move rfl rfl ?_
  refine St.nilCheck rfl rfl ?_
  refine St.fieldAddr (off := 9) rfl rfl (by kernel_rfl) ?_
  refine St.load rfl rfl (by kernel_rfl) (by first | exact Holds.row mem0 rfl | exact Holds.row mem1 rfl | exact Holds.row mem2 rfl | exact Holds.row mem3 rfl | exact Holds.row mem4 rfl | exact Holds.row mem5 rfl | exact Holds.row mem6 rfl | exact Holds.row mem7 rfl | exact Holds.row mem8 rfl) ?_
  refine St.move rfl rfl ?_
  refine St.splitB 7 rfl (fun g7 => ?_) (fun g7 => ?_)
  · refine St.guard_yes rfl rfl ?_
    refine St.move rfl rfl ?_
    refine St.guard_yes rfl rfl ?_
    refine St.nilCheck rfl rfl ?_
    refine St.guard_yes rfl rfl ?_
    refine St.fieldAddr (off := 12) rfl rfl (by kernel_rfl) ?_
    refine St.guard_yes rfl rfl ?_
    refine St.load rfl rfl (by kernel_rfl) (by first | exact Holds.row mem0 rfl | exact Holds.row mem1 rfl | exact Holds.row mem2 rfl | exact Holds.row mem3 rfl | exact Holds.row mem4 rfl | exact Holds.row mem5 rfl | exact Holds.row mem6 rfl | exact Holds.row mem7 rfl | exact Holds.row mem8 rfl) ?_
    refine St.pick_true rfl rfl rfl ?_
    refine St.assign rfl rfl ?_
    refine St.done ?_
    refine SX.seq ?_
    refine SC.ret ?_
    exact SX.ret1 rfl rfl ⟨rfl, by unfold En.done; first | rw [g8, Bool.true_and] | rw [g7, Bool.true_and] | rw [g6, Bool.true_and]⟩
  · refine St.guard_no rfl rfl rfl ?_
    refine St.guard_no rfl rfl rfl ?_
    refine St.guard_no rfl rfl rfl ?_
    refine St.guard_no rfl rfl rfl ?_
    refine St.pick_false rfl rfl rfl ?_
    refine St.assign rfl rfl ?_
    refine St.done ?_
    refine SX.seq ?_
    refine SC.ret ?_
    exact SX.ret1 rfl rfl ⟨rfl, by unfold En.done; first | rw [g8, Bool.false_and] | rw [g7, Bool.false_and] | rw [g6, Bool.false_and]⟩
theorem idle18_spec (w0 : World) (L : List Chunk) (p : Nat) (e : En) (ov iv : Value) (at_ : Int) (Eo Ei : Chunk) (hB : EnB e ov iv at_ Eo Ei) :
    Meets Try.prog 87 #[.pointer (some ⟨p, 0, none⟩)] w0 (EnL p e ov iv at_ Eo Ei L) (fun r L' => EnL p e ov iv at_ Eo Ei L = L' ∧ r = .bool e.idle) := by
  obtain ⟨⟨Ao, co, rfl⟩, ⟨Ai, ci, rfl⟩⟩ := hB.slices
  have hok := hB.ok
  have hr1 := hok.room
  have hr2 := hok.inn
  have hu := hok.una
  have hx := hok.next
  have hid := hok.id
  have hst := hok.st
  have hd4 : decide (e.st = 4) = decide ((e.st : Int) = 4) := decide_eq_decide.2 (by omega)
  have hd1 : decide (e.st ≠ 1) = decide (¬ (e.st : Int) = 1) := decide_eq_decide.2 (by omega)
  have hdn : decide (e.next = e.out.length) = decide ((e.next : Int) = (e.out.length : Int)) := decide_eq_decide.2 (by omega)
  unfold EnL
  refine Meets.of_body [.pointer (some ⟨p, 0, none⟩)] Try.func87 rfl Try.ntmps87 rfl ?_
  refine SC.seq ?_
  refine SC.plain ?_
  refine St.assign rfl rfl ?_
  refine St.done ?_
  refine SX.seq ?_
  refine SC.seq ?_
  refine SC.seq ?_
  refine SC.plain ?_
  refine St.move rfl rfl ?_
  refine St.nilCheck rfl rfl ?_
  refine St.fieldAddr (off := 1) rfl rfl (by kernel_rfl) ?_
  refine St.load rfl rfl (by kernel_rfl) (by first | exact Holds.row mem0 rfl | exact Holds.row mem1 rfl | exact Holds.row mem2 rfl | exact Holds.row mem3 rfl | exact Holds.row mem4 rfl | exact Holds.row mem5 rfl | exact Holds.row mem6 rfl | exact Holds.row mem7 rfl | exact Holds.row mem8 rfl) ?_
  refine St.done ?_
  refine SX.seq ?_
  refine SC.block ?_
  refine SC.seq ?_
  refine SC.plain ?_
  refine St.eql rfl rfl rfl ?_
  refine St.assign rfl rfl ?_
  refine St.done ?_
  refine SX.seq ?_
  refine SC.condp rfl (fun c7 => ?_) (fun c7 => ?_)
  · refine SC.seq ?_
    refine SC.plain ?_
    refine St.assign rfl rfl ?_
    refine St.done ?_
    refine SX.seq ?_
    refine SC.ret ?_
    refine SX.blk_ret ?_
    refine SX.seq_ret ?_
    exact SX.ret1 rfl rfl ⟨rfl, by unfold En.idle; rw [hd4, hd1, hdn]; simp_all⟩
  · refine SC.seq ?_
    refine SC.plain ?_
    refine St.eql rfl rfl rfl ?_
    refine St.assign rfl rfl ?_
    refine St.done ?_
    refine SX.seq ?_
    refine SC.condp rfl (fun c9 => ?_) (fun c9 => ?_)
    · refine SC.seq ?_
      refine SC.plain ?_
      refine St.assign rfl rfl ?_
      refine St.done ?_
      refine SX.seq ?_
      refine SC.ret ?_
      refine SX.blk_ret ?_
      refine SX.seq_ret ?_
      exact SX.ret1 rfl rfl ⟨rfl, by unfold En.idle; rw [hd4, hd1, hdn]; simp_all⟩
    · refine SC.skip ?_
      refine SX.blk ?_
      refine SX.seq ?_
      refine SC.seq ?_
      refine SC.drawn [(0, true), (1, false), (2, true), (3, true), (4, true), (5, true), (6, true), (7, true), (8, true), (9, true), (10, true), (11, true), (12, true), (13, true), (14, true), (15, true), (16, true), (17, true), (18, true), (19, true), (20, true), (21, true), (22, true), (23, true), (24, true), (25, true), (26, true), (27, true), (28, true), (29, true), (30, true), (31, true), (32, true), (33, true), (34, true), (35, true)] [] (_) (by kernel_rfl) (by kernel_rfl) (fun _ h => h) ?_
      refine St.move rfl rfl ?_
      refine St.call [_] rfl (by kernel_rfl) rfl (waits_spec w0 L p e _ _ at_ Eo Ei hB) (fun _ _ _ h hw => by rw [← h.1] at hw; exact hw) ?_
      rintro r1 L1 ⟨rfl, rfl⟩
      unfold EnL
      refine St.notB rfl rfl ?_
      refine St.move rfl rfl ?_
      refine St.splitB 14 rfl (fun g14 => ?_) (fun g14 => ?_)
      · refine St.guard_yes rfl rfl ?_
        refine St.move rfl rfl ?_
        refine St.guard_yes rfl rfl ?_
        refine St.nilCheck rfl rfl ?_
        refine St.guard_yes rfl rfl ?_
        refine St.fieldAddr (off := 5) rfl rfl (by kernel_rfl) ?_
        refine St.guard_yes rfl rfl ?_
        refine St.load rfl rfl (by kernel_rfl) (by first | exact Holds.row mem0 rfl | exact Holds.row mem1 rfl | exact Holds.row mem2 rfl | exact Holds.row mem3 rfl | exact Holds.row mem4 rfl | exact Holds.row mem5 rfl | exact Holds.row mem6 rfl | exact Holds.row mem7 rfl | exact Holds.row mem8 rfl) ?_
        refine St.guard_yes rfl rfl ?_
        refine St.move rfl rfl ?_
        refine St.guard_yes rfl rfl ?_
        refine St.nilCheck rfl rfl ?_
        refine St.guard_yes rfl rfl ?_
        refine St.fieldAddr (off := 3) rfl rfl (by kernel_rfl) ?_
        refine St.guard_yes rfl rfl ?_
        refine St.load rfl rfl (by kernel_rfl) (by first | exact Holds.row mem0 rfl | exact Holds.row mem1 rfl | exact Holds.row mem2 rfl | exact Holds.row mem3 rfl | exact Holds.row mem4 rfl | exact Holds.row mem5 rfl | exact Holds.row mem6 rfl | exact Holds.row mem7 rfl | exact Holds.row mem8 rfl) ?_
        refine St.guard_yes rfl rfl ?_
        refine St.lenSl rfl rfl (by kernel_rfl) ?_
        refine St.guard_yes rfl rfl ?_
        refine St.eql rfl rfl rfl ?_
        refine St.pick_true rfl rfl rfl ?_
        refine St.move rfl rfl ?_
        refine St.split 26 rfl (fun g26 => ?_) (fun g26 => ?_)
        · refine St.guard_yes rfl rfl ?_
          refine St.move rfl rfl ?_
          refine St.guard_yes rfl rfl ?_
          refine St.nilCheck rfl rfl ?_
          refine St.guard_yes rfl rfl ?_
          refine St.fieldAddr (off := 7) rfl rfl (by kernel_rfl) ?_
          refine St.guard_yes rfl rfl ?_
          refine St.load rfl rfl (by kernel_rfl) (by first | exact Holds.row mem0 rfl | exact Holds.row mem1 rfl | exact Holds.row mem2 rfl | exact Holds.row mem3 rfl | exact Holds.row mem4 rfl | exact Holds.row mem5 rfl | exact Holds.row mem6 rfl | exact Holds.row mem7 rfl | exact Holds.row mem8 rfl) ?_
          refine St.guard_yes rfl rfl ?_
          refine St.notB rfl rfl ?_
          refine St.guard_yes rfl rfl ?_
          refine St.move rfl rfl ?_
          refine St.splitB 32 rfl (fun g32 => ?_) (fun g32 => ?_)
          · refine St.guard_no rfl rfl rfl ?_
            refine St.guard_no rfl rfl rfl ?_
            refine St.guard_no rfl rfl rfl ?_
            refine St.guard_no rfl rfl rfl ?_
            refine St.guard_yes rfl rfl ?_
            refine St.pick_true rfl rfl rfl ?_
            refine St.pick_true rfl rfl rfl ?_
            refine St.move rfl rfl ?_
            refine St.guard_yes rfl rfl ?_
            refine St.move rfl rfl ?_
            refine St.guard_yes rfl rfl ?_
            refine St.nilCheck rfl rfl ?_
            refine St.guard_yes rfl rfl ?_
            refine St.fieldAddr (off := 13) rfl rfl (by kernel_rfl) ?_
            refine St.guard_yes rfl rfl ?_
            refine St.load rfl rfl (by kernel_rfl) (by first | exact Holds.row mem0 rfl | exact Holds.row mem1 rfl | exact Holds.row mem2 rfl | exact Holds.row mem3 rfl | exact Holds.row mem4 rfl | exact Holds.row mem5 rfl | exact Holds.row mem6 rfl | exact Holds.row mem7 rfl | exact Holds.row mem8 rfl) ?_
            refine St.guard_yes rfl rfl ?_
            refine St.notB rfl rfl ?_
            refine St.pick_true rfl rfl rfl ?_
            refine St.assign rfl rfl ?_
            refine St.done ?_
            refine SX.tail ?_
            refine St.done ?_
            refine SX.seq ?_
            refine SC.ret ?_
            exact SX.ret1 rfl rfl ⟨rfl, by unfold En.idle; rw [hd4, hd1, hdn]; simp_all⟩
          · refine St.guard_yes rfl rfl ?_
            refine St.move rfl rfl ?_
            refine St.guard_yes rfl rfl ?_
            refine St.nilCheck rfl rfl ?_
            refine St.guard_yes rfl rfl ?_
            refine St.fieldAddr (off := 9) rfl rfl (by kernel_rfl) ?_
            refine St.guard_yes rfl rfl ?_
            refine St.load rfl rfl (by kernel_rfl) (by first | exact Holds.row mem0 rfl | exact Holds.row mem1 rfl | exact Holds.row mem2 rfl | exact Holds.row mem3 rfl | exact Holds.row mem4 rfl | exact Holds.row mem5 rfl | exact Holds.row mem6 rfl | exact Holds.row mem7 rfl | exact Holds.row mem8 rfl) ?_
            refine St.guard_yes rfl rfl ?_
            refine St.pick_false rfl rfl rfl ?_
            refine St.pick_true rfl rfl rfl ?_
            refine St.move rfl rfl ?_
            refine St.splitB 39 rfl (fun g39 => ?_) (fun g39 => ?_)
            · refine St.guard_yes rfl rfl ?_
              refine St.move rfl rfl ?_
              refine St.guard_yes rfl rfl ?_
              refine St.nilCheck rfl rfl ?_
              refine St.guard_yes rfl rfl ?_
              refine St.fieldAddr (off := 13) rfl rfl (by kernel_rfl) ?_
              refine St.guard_yes rfl rfl ?_
              refine St.load rfl rfl (by kernel_rfl) (by first | exact Holds.row mem0 rfl | exact Holds.row mem1 rfl | exact Holds.row mem2 rfl | exact Holds.row mem3 rfl | exact Holds.row mem4 rfl | exact Holds.row mem5 rfl | exact Holds.row mem6 rfl | exact Holds.row mem7 rfl | exact Holds.row mem8 rfl) ?_
              refine St.guard_yes rfl rfl ?_
              refine St.notB rfl rfl ?_
              refine St.pick_true rfl rfl rfl ?_
              refine St.assign rfl rfl ?_
              refine St.done ?_
              refine SX.tail ?_
              refine St.done ?_
              refine SX.seq ?_
              refine SC.ret ?_
              exact SX.ret1 rfl rfl ⟨rfl, by unfold En.idle; rw [hd4, hd1, hdn]; simp_all⟩
            · refine St.guard_no rfl rfl rfl ?_
              refine St.guard_no rfl rfl rfl ?_
              refine St.guard_no rfl rfl rfl ?_
              refine St.guard_no rfl rfl rfl ?_
              refine St.guard_no rfl rfl rfl ?_
              refine St.pick_false rfl rfl rfl ?_
              refine St.assign rfl rfl ?_
              refine St.done ?_
              refine SX.tail ?_
              refine St.done ?_
              refine SX.seq ?_
              refine SC.ret ?_
              exact SX.ret1 rfl rfl ⟨rfl, by unfold En.idle; rw [hd4, hd1, hdn]; simp_all⟩
        · refine St.guard_no rfl rfl rfl ?_
          refine St.guard_no rfl rfl rfl ?_
          refine St.guard_no rfl rfl rfl ?_
          refine St.guard_no rfl rfl rfl ?_
          refine St.guard_no rfl rfl rfl ?_
          refine St.guard_no rfl rfl rfl ?_
          refine St.guard_none rfl rfl rfl ?_
          refine St.guard_none rfl rfl rfl ?_
          refine St.guard_none rfl rfl rfl ?_
          refine St.guard_none rfl rfl rfl ?_
          refine St.guard_no rfl rfl rfl ?_
          refine St.pick_false rfl rfl rfl ?_
          refine St.move rfl rfl ?_
          refine St.guard_no rfl rfl rfl ?_
          refine St.guard_no rfl rfl rfl ?_
          refine St.guard_no rfl rfl rfl ?_
          refine St.guard_no rfl rfl rfl ?_
          refine St.guard_no rfl rfl rfl ?_
          refine St.pick_false rfl rfl rfl ?_
          refine St.assign rfl rfl ?_
          refine St.done ?_
          refine SX.tail ?_
          refine St.done ?_
          refine SX.seq ?_
          refine SC.ret ?_
          exact SX.ret1 rfl rfl ⟨rfl, by unfold En.idle; rw [hd4, hd1, hdn]; simp_all⟩
      · refine St.guard_no rfl rfl rfl ?_
        refine St.guard_no rfl rfl rfl ?_
        refine St.guard_no rfl rfl rfl ?_
        refine St.guard_no rfl rfl rfl ?_
        refine St.guard_no rfl rfl rfl ?_
        refine St.guard_no rfl rfl rfl ?_
        refine St.guard_no rfl rfl rfl ?_
        refine St.guard_no rfl rfl rfl ?_
        refine St.guard_no rfl rfl rfl ?_
        refine St.guard_no rfl rfl rfl ?_
        refine St.pick_false rfl rfl rfl ?_
        refine St.move rfl rfl ?_
        refine St.guard_no rfl rfl rfl ?_
        refine St.guard_no rfl rfl rfl ?_
        refine St.guard_no rfl rfl rfl ?_
        refine St.guard_no rfl rfl rfl ?_
        refine St.guard_no rfl rfl rfl ?_
        refine St.guard_no rfl rfl rfl ?_
        refine St.guard_none rfl rfl rfl ?_
        refine St.guard_none rfl rfl rfl ?_
        refine St.guard_none rfl rfl rfl ?_
        refine St.guard_none rfl rfl rfl ?_
        refine St.guard_no rfl rfl rfl ?_
        refine St.pick_false rfl rfl rfl ?_
        refine St.move rfl rfl ?_
        refine St.guard_no rfl rfl rfl ?_
        refine St.guard_no rfl rfl rfl ?_
        refine St.guard_no rfl rfl rfl ?_
        refine St.guard_no rfl rfl rfl ?_
        refine St.guard_no rfl rfl rfl ?_
        refine St.pick_false rfl rfl rfl ?_
        refine St.assign rfl rfl ?_
        refine St.done ?_
        refine SX.tail ?_
        refine St.done ?_
        refine SX.seq ?_
        refine SC.ret ?_
        exact SX.ret1 rfl rfl ⟨rfl, by unfold En.idle; rw [hd4, hd1, hdn]; simp_all⟩
theorem read18_spec (w0 : World) (L : List Chunk) (p : Nat) (e : En) (ov iv : Value) (at_ : Int) (Eo Ei : Chunk) (hB : EnB e ov iv at_ Eo Ei) :
    Meets Try.prog 75 #[.pointer (some ⟨p, 0, none⟩)] w0 (EnL p e ov iv at_ Eo Ei L) (fun r L' => ∃ E, Buf 5 1 r (bytes e.take.2) e.take.2.length E ∧ ∃ L1, EnAt p e.take.1 L L1 ∧ L' = E :: L1) := by
  obtain ⟨⟨Ao, co, rfl⟩, ⟨Ai, ci, rfl⟩⟩ := hB.slices
  have hok := hB.ok
  have hr1 := hok.room
  have hr2 := hok.inn
  have hu := hok.una
  have hx := hok.next
  have hid := hok.id
  have hst := hok.st
  have htok := take_ok hok
  have hrd := hok.read
  unfold EnL
  refine Meets.of_body [.pointer (some ⟨p, 0, none⟩)] Try.func75 rfl Try.ntmps75 rfl ?_
  refine SC.seq ?_
  refine SC.plain ?_
  refine St.assign rfl rfl ?_
  refine St.done ?_
  refine SX.seq ?_
  refine SC.seq ?_
  refine SC.drawn [(0, true), (1, true), (2, true), (3, true), (4, true), (5, true), (6, true), (7, true), (8, true), (9, false), (10, false), (11, true)] [] (_) (by kernel_rfl) (by kernel_rfl) (fun _ h => h) ?_
  refine St.move rfl rfl ?_
  refine St.nilCheck rfl rfl ?_
  refine St.fieldAddr (off := 10) rfl rfl (by kernel_rfl) ?_
  refine St.load rfl rfl (by kernel_rfl) (by first | exact Holds.row mem0 rfl | exact Holds.row mem1 rfl | exact Holds.row mem2 rfl | exact Holds.row mem3 rfl | exact Holds.row mem4 rfl | exact Holds.row mem5 rfl | exact Holds.row mem6 rfl | exact Holds.row mem7 rfl | exact Holds.row mem8 rfl) ?_
  refine St.move rfl rfl ?_
  refine St.nilCheck rfl rfl ?_
  refine St.fieldAddr (off := 11) rfl rfl (by kernel_rfl) ?_
  refine St.load rfl rfl (by kernel_rfl) (by first | exact Holds.row mem0 rfl | exact Holds.row mem1 rfl | exact Holds.row mem2 rfl | exact Holds.row mem3 rfl | exact Holds.row mem4 rfl | exact Holds.row mem5 rfl | exact Holds.row mem6 rfl | exact Holds.row mem7 rfl | exact Holds.row mem8 rfl) ?_
  refine St.cutB (e := 5) e.read e.inn.length rfl rfl (by kernel_rfl) (hB.inn.rd (L := EnL p e (.slice Ao e.out.length co) (.slice Ai e.inn.length ci) at_ Eo Ei L) (by simp [EnL])) hB.inn.cap ⟨_, _, rfl, rfl⟩ rfl (by omega) (by omega) (fun v3 h3 _ => ?_)
  rw [show (e.inn.drop e.read).take (e.inn.length - e.read) = e.inn.drop e.read from List.take_of_length_le (by rw [List.length_drop]; omega)] at h3
  refine St.call [_] rfl (by kernel_rfl) rfl (clone_spec w0 _ v3 (e.inn.drop e.read) h3 (by rw [List.length_drop]; omega)) (fun _ _ _ h hw => by obtain ⟨E1, e, _⟩ := h; rw [e] at hw; exact hw.drop) ?_
  rintro r4 L1 ⟨E4, rfl, hb4⟩
  refine St.call [_] rfl (by kernel_rfl) rfl (clip_spec w0 _ _ _ _ E4 hb4) (fun _ _ _ h hw => by rw [← h.1] at hw; exact hw.drop) ?_
  rintro r5 L1 ⟨rfl, hb5⟩
  refine St.assign rfl rfl ?_
  refine St.done ?_
  refine SX.tail ?_
  refine St.done ?_
  refine SX.seq ?_
  refine SC.seq ?_
  refine SC.plain ?_
  refine St.move rfl rfl ?_
  refine St.move rfl rfl ?_
  refine St.nilCheck rfl rfl ?_
  refine St.fieldAddr (off := 10) rfl rfl (by kernel_rfl) ?_
  refine St.load rfl rfl (by kernel_rfl) (by first | exact Holds.row mem0 rfl | exact Holds.row mem1 rfl | exact Holds.row mem2 rfl | exact Holds.row mem3 rfl | exact Holds.row mem4 rfl | exact Holds.row mem5 rfl | exact Holds.row mem6 rfl | exact Holds.row mem7 rfl | exact Holds.row mem8 rfl) ?_
  refine St.lenSl rfl rfl (by kernel_rfl) ?_
  refine St.nilCheck rfl rfl ?_
  refine St.fieldAddr (off := 11) rfl rfl (by kernel_rfl) ?_
  first | refine St.store rfl rfl rfl rfl (by kernel_rfl) (Nat.le_of_ble_eq_true rfl) (by first | exact fun _ h => h.nil | exact fun _ h => h | exact fun _ h => h.drop | exact fun _ h => h.drop.drop | exact fun _ h => h.drop.drop.drop) ?_ | refine St.store1 rfl rfl rfl rfl (by kernel_rfl) (Nat.le_of_ble_eq_true rfl) (by first | exact fun _ h => h.nil | exact fun _ h => h | exact fun _ h => h.drop | exact fun _ h => h.drop.drop | exact fun _ h => h.drop.drop.drop) ?_ | refine St.store2 rfl rfl rfl rfl (by kernel_rfl) (Nat.le_of_ble_eq_true rfl) (by first | exact fun _ h => h.nil | exact fun _ h => h | exact fun _ h => h.drop | exact fun _ h => h.drop.drop | exact fun _ h => h.drop.drop.drop) ?_ | refine St.store3 rfl rfl rfl rfl (by kernel_rfl) (Nat.le_of_ble_eq_true rfl) (by first | exact fun _ h => h.nil | exact fun _ h => h | exact fun _ h => h.drop | exact fun _ h => h.drop.drop | exact fun _ h => h.drop.drop.drop) ?_ | refine St.store4 rfl rfl rfl rfl (by kernel_rfl) (Nat.le_of_ble_eq_true rfl) (by first | exact fun _ h => h.nil | exact fun _ h => h | exact fun _ h => h.drop | exact fun _ h => h.drop.drop | exact fun _ h => h.drop.drop.drop) ?_ | refine St.store5 rfl rfl rfl rfl (by kernel_rfl) (Nat.le_of_ble_eq_true rfl) (by first | exact fun _ h => h.nil | exact fun _ h => h | exact fun _ h => h.drop | exact fun _ h => h.drop.drop | exact fun _ h => h.drop.drop.drop) ?_
  refine St.done ?_
  refine SX.seq ?_
  refine SC.seq ?_
  refine SC.plain ?_
  refine St.move rfl rfl ?_
  refine St.assign rfl rfl ?_
  refine St.done ?_
  refine SX.seq ?_
  refine SC.ret ?_
  exact SX.ret1 rfl rfl ⟨E4, hb5, _, ⟨_, _, at_, Eo, Ei, ⟨hB.out, hB.inn, hB.tm, hB.clock, htok⟩, rfl⟩, rfl⟩
end Go.Proofs.Ytahafepgmkiabaa
