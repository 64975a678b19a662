/- Walks: the ends of streams: what datagrams do. -/
import Derived.Test.YtahafepgmkiabaaU1
import Derived.Test.YtahafepgmkiabaaSepM
set_option linter.unusedVariables false
set_option linter.unusedSimpArgs false
set_option linter.ambiguousOpen false
namespace Go.Proofs.Ytahafepgmkiabaa
open Go Go.Proofs.Ytahafepgmkiabaa.Sep

/-- A segment that is handed over: its cells, and its data, which can be read. -/
structure SegIn (w0 : World) (L : List Chunk) (s : Seg) (dv : Value) : Prop where
  rd : Rd w0 L dv 1 s.data.length (bytes s.data)
  cap : Cap dv
  len : s.data.length ≤ 140737488351232
  lt : ∀ b ∈ s.data, b < 256
theorem SegIn.mono {w0 : World} {L L' : List Chunk} {s : Seg} {dv : Value} (h : SegIn w0 L s dv) (hs : ∀ w, Own w0 L' w → Own w0 L w) : SegIn w0 L' s dv := ⟨h.rd.mono hs, h.cap, h.len, h.lt⟩
theorem SegIn.none {w0 : World} {L : List Chunk} (ty id seq ack : Int) : SegIn w0 L ⟨ty, id, seq, ack, []⟩ (.slice none 0 0) := ⟨Rd.nil _ _ _, Cap.nil, by simp, by simp⟩
theorem _root_.Go.Proofs.Ytahafepgmkiabaa.Sep.Own.skip2 {w0 w : World} {a b c d : Chunk} {L : List Chunk} (h : Own w0 (a :: b :: c :: d :: L) w) : Own w0 (a :: b :: L) w :=
  h.sub (by
    simp only [List.flatten_cons]
    exact List.Sublist.append (List.Sublist.refl _) (List.Sublist.append (List.Sublist.refl _) ((List.sublist_append_right _ _).trans (List.sublist_append_right _ _))))
theorem SegIn.slice {w0 : World} {L : List Chunk} {s : Seg} {dv : Value} (h : SegIn w0 L s dv) : ∃ A c, dv = .slice A s.data.length c := by
  obtain ⟨_, b, o, A, c, h1, _, _⟩ := h.rd
  exact ⟨A, c, h1⟩

theorem say_spec (w0 : World) (M : List Chunk) (p id : Nat) (s : Seg) (dv : Value) (hid : Holds w0 M ⟨p, 0 + 0, none⟩ (.int .u32 ((id : Nat) : Int))) (hlt : id < 4294967296) (hS : SegIn w0 M s dv) :
    Meets Try.prog 127 #[.pointer (some ⟨p, 0, none⟩), .agg (segCells s dv).toArray] w0 M (SumR (segOf { s with id := (id : Int) }) M) := by
  have hsi := hS
  obtain ⟨Ad, cd, rfl⟩ := hS.slice
  refine Meets.of_body [.pointer (some ⟨p, 0, none⟩), .agg (segCells s _).toArray] Try.func127 rfl Try.ntmps127 rfl ?_
  refine SC.seq ?_
  refine SC.plain ?_
  refine St.box (segCells s _) rfl rfl rfl (fun _ _ h => h.nil) (fun q => ?_)
  refine St.assign rfl rfl ?_
  refine St.done ?_
  refine SX.seq ?_
  refine SC.seq ?_
  refine SC.plain ?_
  refine St.move rfl rfl ?_
  refine St.nilCheck rfl rfl ?_
  refine St.fieldAddr (off := 0) rfl rfl (by kernel_rfl) ?_
  refine St.load rfl rfl (by kernel_rfl) (fun w hw => hid w hw.drop) ?_
  refine St.convS rfl rfl (by kernel_rfl) (by kernel_rfl) (by omega) ?_
  refine St.fieldAddr (off := 1) rfl rfl (by kernel_rfl) ?_
  refine St.store rfl rfl rfl rfl (by kernel_rfl) (Nat.le_of_ble_eq_true rfl) (fun _ h => h.nil) ?_
  rw [show (segCells s (.slice Ad s.data.length cd)).set (0 + 1) (.int .i64 ((id : Nat) : Int)) = segCells { s with id := ((id : Nat) : Int) } (.slice Ad s.data.length cd) from rfl]
  refine St.done ?_
  refine SX.seq ?_
  refine SC.seq ?_
  refine SC.plain ?_
  refine St.loadAgg (segCells { s with id := ((id : Nat) : Int) } (.slice Ad s.data.length cd)) rfl rfl (by kernel_rfl) (HoldsN.of_row mem0) ?_
  refine St.call [_] rfl (by kernel_rfl) rfl (segment_spec w0 _ { s with id := ((id : Nat) : Int) } (.slice Ad s.data.length cd) (Rd.mono hsi.rd (fun w hw => by first | exact hw | exact hw.drop | exact hw.drop.drop | exact hw.drop.drop.drop | exact hw.drop.drop.drop.drop | exact hw.drop.drop.drop.drop.drop | exact hw.drop.drop.drop.drop.drop.drop | exact hw.drop.drop.drop.drop.drop.drop.drop | exact hw.drop.drop.drop.drop.drop.drop.drop.drop)) hsi.cap hsi.len hsi.lt) (by first | exact fun _ _ _ _ h => h.nil | assumption) ?_
  rintro r L1 ⟨E, rfl, hb⟩
  refine St.perm _ (perm12 _ _ _) ?_
  refine St.drop ?_
  refine St.assign rfl rfl ?_
  refine St.done ?_
  refine SX.seq ?_
  refine SC.ret ?_
  exact SX.ret1 rfl rfl ⟨E, rfl, hb⟩
theorem acked_spec (w0 : World) (L : List Chunk) (p : Nat) (e : En) (ov iv : Value) (at_ : Int) (Eo Ei : Chunk) (hB : EnB e ov iv at_ Eo Ei) (n now : Int) (hn : Clock now) (h1 : e.st ≠ 1) :
    Meets Try.prog 202 #[.pointer (some ⟨p, 0, none⟩), .int .i64 n, .int .i64 now] w0 (EnL p e ov iv at_ Eo Ei L) (fun r L' => EnAt p (e.ack n now) L L') := by
  obtain ⟨⟨Ao, co, rfl⟩, ⟨Ai, ci, rfl⟩⟩ := hB.slices
  have hok := hB.ok
  have hr1 := hok.room
  have hr2 := hok.inn
  have hu := hok.una
  have hx := hok.next
  have hid := hok.id
  have hst := hok.st
  have haok := ack_ok hok (n := n) hn
  have hsent := hok.sent
  have hack := hok.acked
  unfold EnL
  refine Meets.of_body [.pointer (some ⟨p, 0, none⟩), .int .i64 n, .int .i64 now] Try.func202 rfl Try.ntmps202 rfl ?_
  refine SC.seq ?_
  refine SC.plain ?_
  refine St.move rfl rfl ?_
  refine St.nilCheck rfl rfl ?_
  refine St.fieldAddr (off := 5) rfl rfl (by kernel_rfl) ?_
  refine St.load rfl rfl (by kernel_rfl) (by first | exact Holds.row mem0 rfl | exact Holds.row mem1 rfl | exact Holds.row mem2 rfl | exact Holds.row mem3 rfl | exact Holds.row mem4 rfl | exact Holds.row mem5 rfl | exact Holds.row mem6 rfl | exact Holds.row mem7 rfl | exact Holds.row mem8 rfl) ?_
  refine St.assign rfl rfl ?_
  refine St.done ?_
  refine SX.seq ?_
  refine SC.seq ?_
  refine SC.seq ?_
  refine SC.plain ?_
  refine St.move rfl rfl ?_
  refine St.nilCheck rfl rfl ?_
  refine St.fieldAddr (off := 8) rfl rfl (by kernel_rfl) ?_
  refine St.load rfl rfl (by kernel_rfl) (by first | exact Holds.row mem0 rfl | exact Holds.row mem1 rfl | exact Holds.row mem2 rfl | exact Holds.row mem3 rfl | exact Holds.row mem4 rfl | exact Holds.row mem5 rfl | exact Holds.row mem6 rfl | exact Holds.row mem7 rfl | exact Holds.row mem8 rfl) ?_
  refine St.done ?_
  refine SX.seq ?_
  refine SC.cond rfl (fun c14 => ?_) (fun c14 => ?_)
  · refine SC.plain ?_
    refine St.move rfl rfl ?_
    first | refine St.addN (b := 1) rfl rfl rfl (by omega) ?_ | refine St.addI rfl rfl rfl (by omega) ?_
    refine St.assign rfl rfl ?_
    refine St.done ?_
    refine SX.seq ?_
    refine SC.seq ?_
    refine SC.seq ?_
    refine SC.plain ?_
    refine St.move rfl rfl ?_
    refine St.move rfl rfl ?_
    refine St.nilCheck rfl rfl ?_
    refine St.fieldAddr (off := 4) rfl rfl (by kernel_rfl) ?_
    refine St.load rfl rfl (by kernel_rfl) (by first | exact Holds.row mem0 rfl | exact Holds.row mem1 rfl | exact Holds.row mem2 rfl | exact Holds.row mem3 rfl | exact Holds.row mem4 rfl | exact Holds.row mem5 rfl | exact Holds.row mem6 rfl | exact Holds.row mem7 rfl | exact Holds.row mem8 rfl) ?_
    refine St.leq rfl rfl rfl ?_
    refine St.move rfl rfl ?_
    refine St.split 23 rfl (fun g23 => ?_) (fun g23 => ?_)
    · refine St.guard_no rfl rfl rfl ?_
      refine St.guard_no rfl rfl rfl ?_
      refine St.guard_no rfl rfl rfl ?_
      refine St.pick_true rfl rfl rfl ?_
      refine St.done ?_
      refine SX.seq ?_
      refine SC.cond_true rfl ?_
      refine SC.ret ?_
      refine SX.seq_ret ?_
      have hw : e.ack n now = e := if_neg (by
        unfold En.acksTo En.sentTo
        rw [c14]
        simp only [if_true, if_false, Bool.false_eq_true]
        split <;> omega)
      rw [hw]
      exact SX.ret0 (.inl rfl) rfl ⟨_, _, at_, Eo, Ei, hB, rfl⟩
    · refine St.guard_yes rfl rfl ?_
      refine St.move rfl rfl ?_
      refine St.guard_yes rfl rfl ?_
      refine St.move rfl rfl ?_
      refine St.guard_yes rfl rfl ?_
      refine St.gtr rfl rfl rfl ?_
      refine St.pick_false rfl rfl rfl ?_
      refine St.done ?_
      refine SX.seq ?_
      refine SC.condp rfl (fun c27 => ?_) (fun c27 => ?_)
      · refine SC.ret ?_
        refine SX.seq_ret ?_
        have hw : e.ack n now = e := if_neg (by
          unfold En.acksTo En.sentTo
          rw [c14]
          simp only [if_true, if_false, Bool.false_eq_true]
          split <;> omega)
        rw [hw]
        exact SX.ret0 (.inl rfl) rfl ⟨_, _, at_, Eo, Ei, hB, rfl⟩
      · refine SC.skip ?_
        refine SX.seq ?_
        refine SC.seq ?_
        refine SC.seq ?_
        refine SC.plain ?_
        refine St.move rfl rfl ?_
        refine St.move rfl rfl ?_
        refine St.nilCheck rfl rfl ?_
        refine St.fieldAddr (off := 3) rfl rfl (by kernel_rfl) ?_
        refine St.load rfl rfl (by kernel_rfl) (by first | exact Holds.row mem0 rfl | exact Holds.row mem1 rfl | exact Holds.row mem2 rfl | exact Holds.row mem3 rfl | exact Holds.row mem4 rfl | exact Holds.row mem5 rfl | exact Holds.row mem6 rfl | exact Holds.row mem7 rfl | exact Holds.row mem8 rfl) ?_
        refine St.lenSl rfl rfl (by kernel_rfl) ?_
        refine St.gtr rfl rfl rfl ?_
        refine St.done ?_
        refine SX.seq ?_
        refine SC.condp rfl (fun c34 => ?_) (fun c34 => ?_)
        · refine SC.seq ?_
          refine SC.plain ?_
          refine St.move rfl rfl ?_
          refine St.nilCheck rfl rfl ?_
          refine St.fieldAddr (off := 3) rfl rfl (by kernel_rfl) ?_
          refine St.load rfl rfl (by kernel_rfl) (by first | exact Holds.row mem0 rfl | exact Holds.row mem1 rfl | exact Holds.row mem2 rfl | exact Holds.row mem3 rfl | exact Holds.row mem4 rfl | exact Holds.row mem5 rfl | exact Holds.row mem6 rfl | exact Holds.row mem7 rfl | exact Holds.row mem8 rfl) ?_
          refine St.lenSl rfl rfl (by kernel_rfl) ?_
          refine St.assign rfl rfl ?_
          refine St.done ?_
          refine SX.seq ?_
          refine SC.plain ?_
          refine St.move rfl rfl ?_
          refine St.nilCheck rfl rfl ?_
          refine St.fieldAddr (off := 9) rfl rfl (by kernel_rfl) ?_
          first | refine St.store rfl rfl rfl rfl (by kernel_rfl) (Nat.le_of_ble_eq_true rfl) (by first | exact fun _ h => h.nil | exact fun _ h => h | exact fun _ h => h.drop | exact fun _ h => h.drop.drop | exact fun _ h => h.drop.drop.drop) ?_ | refine St.store1 rfl rfl rfl rfl (by kernel_rfl) (Nat.le_of_ble_eq_true rfl) (by first | exact fun _ h => h.nil | exact fun _ h => h | exact fun _ h => h.drop | exact fun _ h => h.drop.drop | exact fun _ h => h.drop.drop.drop) ?_ | refine St.store2 rfl rfl rfl rfl (by kernel_rfl) (Nat.le_of_ble_eq_true rfl) (by first | exact fun _ h => h.nil | exact fun _ h => h | exact fun _ h => h.drop | exact fun _ h => h.drop.drop | exact fun _ h => h.drop.drop.drop) ?_ | refine St.store3 rfl rfl rfl rfl (by kernel_rfl) (Nat.le_of_ble_eq_true rfl) (by first | exact fun _ h => h.nil | exact fun _ h => h | exact fun _ h => h.drop | exact fun _ h => h.drop.drop | exact fun _ h => h.drop.drop.drop) ?_ | refine St.store4 rfl rfl rfl rfl (by kernel_rfl) (Nat.le_of_ble_eq_true rfl) (by first | exact fun _ h => h.nil | exact fun _ h => h | exact fun _ h => h.drop | exact fun _ h => h.drop.drop | exact fun _ h => h.drop.drop.drop) ?_ | refine St.store5 rfl rfl rfl rfl (by kernel_rfl) (Nat.le_of_ble_eq_true rfl) (by first | exact fun _ h => h.nil | exact fun _ h => h | exact fun _ h => h.drop | exact fun _ h => h.drop.drop | exact fun _ h => h.drop.drop.drop) ?_
          refine St.done ?_
          refine SX.seq ?_
          refine SC.plain ?_
          refine St.move rfl rfl ?_
          refine St.move rfl rfl ?_
          refine St.move rfl rfl ?_
          refine St.move rfl rfl ?_
          refine St.nilCheck rfl rfl ?_
          refine St.fieldAddr (off := 4) rfl rfl (by kernel_rfl) ?_
          first | refine St.store rfl rfl rfl rfl (by kernel_rfl) (Nat.le_of_ble_eq_true rfl) (by first | exact fun _ h => h.nil | exact fun _ h => h | exact fun _ h => h.drop | exact fun _ h => h.drop.drop | exact fun _ h => h.drop.drop.drop) ?_ | refine St.store1 rfl rfl rfl rfl (by kernel_rfl) (Nat.le_of_ble_eq_true rfl) (by first | exact fun _ h => h.nil | exact fun _ h => h | exact fun _ h => h.drop | exact fun _ h => h.drop.drop | exact fun _ h => h.drop.drop.drop) ?_ | refine St.store2 rfl rfl rfl rfl (by kernel_rfl) (Nat.le_of_ble_eq_true rfl) (by first | exact fun _ h => h.nil | exact fun _ h => h | exact fun _ h => h.drop | exact fun _ h => h.drop.drop | exact fun _ h => h.drop.drop.drop) ?_ | refine St.store3 rfl rfl rfl rfl (by kernel_rfl) (Nat.le_of_ble_eq_true rfl) (by first | exact fun _ h => h.nil | exact fun _ h => h | exact fun _ h => h.drop | exact fun _ h => h.drop.drop | exact fun _ h => h.drop.drop.drop) ?_ | refine St.store4 rfl rfl rfl rfl (by kernel_rfl) (Nat.le_of_ble_eq_true rfl) (by first | exact fun _ h => h.nil | exact fun _ h => h | exact fun _ h => h.drop | exact fun _ h => h.drop.drop | exact fun _ h => h.drop.drop.drop) ?_ | refine St.store5 rfl rfl rfl rfl (by kernel_rfl) (Nat.le_of_ble_eq_true rfl) (by first | exact fun _ h => h.nil | exact fun _ h => h | exact fun _ h => h.drop | exact fun _ h => h.drop.drop | exact fun _ h => h.drop.drop.drop) ?_
          refine St.nilCheck rfl rfl ?_
          refine St.fieldAddr (off := 6) rfl rfl (by kernel_rfl) ?_
          first | refine St.store rfl rfl rfl rfl (by kernel_rfl) (Nat.le_of_ble_eq_true rfl) (by first | exact fun _ h => h.nil | exact fun _ h => h | exact fun _ h => h.drop | exact fun _ h => h.drop.drop | exact fun _ h => h.drop.drop.drop) ?_ | refine St.store1 rfl rfl rfl rfl (by kernel_rfl) (Nat.le_of_ble_eq_true rfl) (by first | exact fun _ h => h.nil | exact fun _ h => h | exact fun _ h => h.drop | exact fun _ h => h.drop.drop | exact fun _ h => h.drop.drop.drop) ?_ | refine St.store2 rfl rfl rfl rfl (by kernel_rfl) (Nat.le_of_ble_eq_true rfl) (by first | exact fun _ h => h.nil | exact fun _ h => h | exact fun _ h => h.drop | exact fun _ h => h.drop.drop | exact fun _ h => h.drop.drop.drop) ?_ | refine St.store3 rfl rfl rfl rfl (by kernel_rfl) (Nat.le_of_ble_eq_true rfl) (by first | exact fun _ h => h.nil | exact fun _ h => h | exact fun _ h => h.drop | exact fun _ h => h.drop.drop | exact fun _ h => h.drop.drop.drop) ?_ | refine St.store4 rfl rfl rfl rfl (by kernel_rfl) (Nat.le_of_ble_eq_true rfl) (by first | exact fun _ h => h.nil | exact fun _ h => h | exact fun _ h => h.drop | exact fun _ h => h.drop.drop | exact fun _ h => h.drop.drop.drop) ?_ | refine St.store5 rfl rfl rfl rfl (by kernel_rfl) (Nat.le_of_ble_eq_true rfl) (by first | exact fun _ h => h.nil | exact fun _ h => h | exact fun _ h => h.drop | exact fun _ h => h.drop.drop | exact fun _ h => h.drop.drop.drop) ?_
          refine St.done ?_
          have hs14 := hsent c14
          by_cases ha : e.endAcked = true
          · have hu2 := (hack ha).2
            have hw : e.ack n now = e := if_neg (by
              unfold En.acksTo En.sentTo
              rw [if_pos ha, if_pos c14]
              omega)
            rw [hw]
            refine SX.ret0 (.inr rfl) rfl ⟨_, _, now, Eo, Ei, ⟨hB.out, hB.inn, .inr ⟨ha, h1⟩, hn, hok⟩, ?_⟩
            unfold EnL enRow
            rw [ha, hu2]
            rfl
          · have ha' : e.endAcked = false := by simpa using ha
            have hw : e.ack n now = { e with una := min n.toNat e.out.length, endAcked := decide ((e.out.length : Int) < n), at_ := now } := if_pos (by
              unfold En.acksTo En.sentTo
              rw [if_neg ha, if_pos c14]
              omega)
            rw [hw] at haok ⊢
            refine SX.ret0 (.inr rfl) rfl ⟨_, _, now, Eo, Ei, ⟨hB.out, hB.inn, .inl rfl, hn, haok⟩, ?_⟩
            unfold EnL enRow
            rw [decide_eq_true c34, show min n.toNat e.out.length = e.out.length by omega]
            rfl
        · refine SC.skip ?_
          refine SX.seq ?_
          refine SC.plain ?_
          refine St.move rfl rfl ?_
          refine St.move rfl rfl ?_
          refine St.move rfl rfl ?_
          refine St.move rfl rfl ?_
          refine St.nilCheck rfl rfl ?_
          refine St.fieldAddr (off := 4) rfl rfl (by kernel_rfl) ?_
          first | refine St.store rfl rfl rfl rfl (by kernel_rfl) (Nat.le_of_ble_eq_true rfl) (by first | exact fun _ h => h.nil | exact fun _ h => h | exact fun _ h => h.drop | exact fun _ h => h.drop.drop | exact fun _ h => h.drop.drop.drop) ?_ | refine St.store1 rfl rfl rfl rfl (by kernel_rfl) (Nat.le_of_ble_eq_true rfl) (by first | exact fun _ h => h.nil | exact fun _ h => h | exact fun _ h => h.drop | exact fun _ h => h.drop.drop | exact fun _ h => h.drop.drop.drop) ?_ | refine St.store2 rfl rfl rfl rfl (by kernel_rfl) (Nat.le_of_ble_eq_true rfl) (by first | exact fun _ h => h.nil | exact fun _ h => h | exact fun _ h => h.drop | exact fun _ h => h.drop.drop | exact fun _ h => h.drop.drop.drop) ?_ | refine St.store3 rfl rfl rfl rfl (by kernel_rfl) (Nat.le_of_ble_eq_true rfl) (by first | exact fun _ h => h.nil | exact fun _ h => h | exact fun _ h => h.drop | exact fun _ h => h.drop.drop | exact fun _ h => h.drop.drop.drop) ?_ | refine St.store4 rfl rfl rfl rfl (by kernel_rfl) (Nat.le_of_ble_eq_true rfl) (by first | exact fun _ h => h.nil | exact fun _ h => h | exact fun _ h => h.drop | exact fun _ h => h.drop.drop | exact fun _ h => h.drop.drop.drop) ?_ | refine St.store5 rfl rfl rfl rfl (by kernel_rfl) (Nat.le_of_ble_eq_true rfl) (by first | exact fun _ h => h.nil | exact fun _ h => h | exact fun _ h => h.drop | exact fun _ h => h.drop.drop | exact fun _ h => h.drop.drop.drop) ?_
          refine St.nilCheck rfl rfl ?_
          refine St.fieldAddr (off := 6) rfl rfl (by kernel_rfl) ?_
          first | refine St.store rfl rfl rfl rfl (by kernel_rfl) (Nat.le_of_ble_eq_true rfl) (by first | exact fun _ h => h.nil | exact fun _ h => h | exact fun _ h => h.drop | exact fun _ h => h.drop.drop | exact fun _ h => h.drop.drop.drop) ?_ | refine St.store1 rfl rfl rfl rfl (by kernel_rfl) (Nat.le_of_ble_eq_true rfl) (by first | exact fun _ h => h.nil | exact fun _ h => h | exact fun _ h => h.drop | exact fun _ h => h.drop.drop | exact fun _ h => h.drop.drop.drop) ?_ | refine St.store2 rfl rfl rfl rfl (by kernel_rfl) (Nat.le_of_ble_eq_true rfl) (by first | exact fun _ h => h.nil | exact fun _ h => h | exact fun _ h => h.drop | exact fun _ h => h.drop.drop | exact fun _ h => h.drop.drop.drop) ?_ | refine St.store3 rfl rfl rfl rfl (by kernel_rfl) (Nat.le_of_ble_eq_true rfl) (by first | exact fun _ h => h.nil | exact fun _ h => h | exact fun _ h => h.drop | exact fun _ h => h.drop.drop | exact fun _ h => h.drop.drop.drop) ?_ | refine St.store4 rfl rfl rfl rfl (by kernel_rfl) (Nat.le_of_ble_eq_true rfl) (by first | exact fun _ h => h.nil | exact fun _ h => h | exact fun _ h => h.drop | exact fun _ h => h.drop.drop | exact fun _ h => h.drop.drop.drop) ?_ | refine St.store5 rfl rfl rfl rfl (by kernel_rfl) (Nat.le_of_ble_eq_true rfl) (by first | exact fun _ h => h.nil | exact fun _ h => h | exact fun _ h => h.drop | exact fun _ h => h.drop.drop | exact fun _ h => h.drop.drop.drop) ?_
          refine St.done ?_
          have ha : ¬ e.endAcked = true := fun ha => by have := (hack ha).2; omega
          have ha' : e.endAcked = false := by simpa using ha
          have hw : e.ack n now = { e with una := min n.toNat e.out.length, endAcked := decide ((e.out.length : Int) < n), at_ := now } := if_pos (by
            unfold En.acksTo En.sentTo
            rw [c14, ha']
            simp only [if_true, if_false, Bool.false_eq_true]
            omega)
          rw [hw] at haok ⊢
          refine SX.ret0 (.inr rfl) rfl ⟨_, _, now, Eo, Ei, ⟨hB.out, hB.inn, .inl rfl, hn, haok⟩, ?_⟩
          unfold EnL enRow
          rw [decide_eq_false c34, show ((min n.toNat e.out.length : Nat) : Int) = n by omega, ha']
          rfl
  · refine SC.skip ?_
    refine SX.seq ?_
    refine SC.seq ?_
    refine SC.seq ?_
    refine SC.plain ?_
    refine St.move rfl rfl ?_
    refine St.move rfl rfl ?_
    refine St.nilCheck rfl rfl ?_
    refine St.fieldAddr (off := 4) rfl rfl (by kernel_rfl) ?_
    refine St.load rfl rfl (by kernel_rfl) (by first | exact Holds.row mem0 rfl | exact Holds.row mem1 rfl | exact Holds.row mem2 rfl | exact Holds.row mem3 rfl | exact Holds.row mem4 rfl | exact Holds.row mem5 rfl | exact Holds.row mem6 rfl | exact Holds.row mem7 rfl | exact Holds.row mem8 rfl) ?_
    refine St.leq rfl rfl rfl ?_
    refine St.move rfl rfl ?_
    refine St.split 23 rfl (fun g23 => ?_) (fun g23 => ?_)
    · refine St.guard_no rfl rfl rfl ?_
      refine St.guard_no rfl rfl rfl ?_
      refine St.guard_no rfl rfl rfl ?_
      refine St.pick_true rfl rfl rfl ?_
      refine St.done ?_
      refine SX.seq ?_
      refine SC.cond_true rfl ?_
      refine SC.ret ?_
      refine SX.seq_ret ?_
      have hw : e.ack n now = e := if_neg (by
        unfold En.acksTo En.sentTo
        rw [c14]
        simp only [if_true, if_false, Bool.false_eq_true]
        split <;> omega)
      rw [hw]
      exact SX.ret0 (.inl rfl) rfl ⟨_, _, at_, Eo, Ei, hB, rfl⟩
    · refine St.guard_yes rfl rfl ?_
      refine St.move rfl rfl ?_
      refine St.guard_yes rfl rfl ?_
      refine St.move rfl rfl ?_
      refine St.guard_yes rfl rfl ?_
      refine St.gtr rfl rfl rfl ?_
      refine St.pick_false rfl rfl rfl ?_
      refine St.done ?_
      refine SX.seq ?_
      refine SC.condp rfl (fun c27 => ?_) (fun c27 => ?_)
      · refine SC.ret ?_
        refine SX.seq_ret ?_
        have hw : e.ack n now = e := if_neg (by
          unfold En.acksTo En.sentTo
          rw [c14]
          simp only [if_true, if_false, Bool.false_eq_true]
          split <;> omega)
        rw [hw]
        exact SX.ret0 (.inl rfl) rfl ⟨_, _, at_, Eo, Ei, hB, rfl⟩
      · refine SC.skip ?_
        refine SX.seq ?_
        refine SC.seq ?_
        refine SC.seq ?_
        refine SC.plain ?_
        refine St.move rfl rfl ?_
        refine St.move rfl rfl ?_
        refine St.nilCheck rfl rfl ?_
        refine St.fieldAddr (off := 3) rfl rfl (by kernel_rfl) ?_
        refine St.load rfl rfl (by kernel_rfl) (by first | exact Holds.row mem0 rfl | exact Holds.row mem1 rfl | exact Holds.row mem2 rfl | exact Holds.row mem3 rfl | exact Holds.row mem4 rfl | exact Holds.row mem5 rfl | exact Holds.row mem6 rfl | exact Holds.row mem7 rfl | exact Holds.row mem8 rfl) ?_
        refine St.lenSl rfl rfl (by kernel_rfl) ?_
        refine St.gtr rfl rfl rfl ?_
        refine St.done ?_
        refine SX.seq ?_
        refine SC.condp rfl (fun c34 => ?_) (fun c34 => ?_)
        · refine SC.seq ?_
          refine SC.plain ?_
          refine St.move rfl rfl ?_
          refine St.nilCheck rfl rfl ?_
          refine St.fieldAddr (off := 3) rfl rfl (by kernel_rfl) ?_
          refine St.load rfl rfl (by kernel_rfl) (by first | exact Holds.row mem0 rfl | exact Holds.row mem1 rfl | exact Holds.row mem2 rfl | exact Holds.row mem3 rfl | exact Holds.row mem4 rfl | exact Holds.row mem5 rfl | exact Holds.row mem6 rfl | exact Holds.row mem7 rfl | exact Holds.row mem8 rfl) ?_
          refine St.lenSl rfl rfl (by kernel_rfl) ?_
          refine St.assign rfl rfl ?_
          refine St.done ?_
          refine SX.seq ?_
          refine SC.plain ?_
          refine St.move rfl rfl ?_
          refine St.nilCheck rfl rfl ?_
          refine St.fieldAddr (off := 9) rfl rfl (by kernel_rfl) ?_
          first | refine St.store rfl rfl rfl rfl (by kernel_rfl) (Nat.le_of_ble_eq_true rfl) (by first | exact fun _ h => h.nil | exact fun _ h => h | exact fun _ h => h.drop | exact fun _ h => h.drop.drop | exact fun _ h => h.drop.drop.drop) ?_ | refine St.store1 rfl rfl rfl rfl (by kernel_rfl) (Nat.le_of_ble_eq_true rfl) (by first | exact fun _ h => h.nil | exact fun _ h => h | exact fun _ h => h.drop | exact fun _ h => h.drop.drop | exact fun _ h => h.drop.drop.drop) ?_ | refine St.store2 rfl rfl rfl rfl (by kernel_rfl) (Nat.le_of_ble_eq_true rfl) (by first | exact fun _ h => h.nil | exact fun _ h => h | exact fun _ h => h.drop | exact fun _ h => h.drop.drop | exact fun _ h => h.drop.drop.drop) ?_ | refine St.store3 rfl rfl rfl rfl (by kernel_rfl) (Nat.le_of_ble_eq_true rfl) (by first | exact fun _ h => h.nil | exact fun _ h => h | exact fun _ h => h.drop | exact fun _ h => h.drop.drop | exact fun _ h => h.drop.drop.drop) ?_ | refine St.store4 rfl rfl rfl rfl (by kernel_rfl) (Nat.le_of_ble_eq_true rfl) (by first | exact fun _ h => h.nil | exact fun _ h => h | exact fun _ h => h.drop | exact fun _ h => h.drop.drop | exact fun _ h => h.drop.drop.drop) ?_ | refine St.store5 rfl rfl rfl rfl (by kernel_rfl) (Nat.le_of_ble_eq_true rfl) (by first | exact fun _ h => h.nil | exact fun _ h => h | exact fun _ h => h.drop | exact fun _ h => h.drop.drop | exact fun _ h => h.drop.drop.drop) ?_
          refine St.done ?_
          refine SX.seq ?_
          refine SC.plain ?_
          refine St.move rfl rfl ?_
          refine St.move rfl rfl ?_
          refine St.move rfl rfl ?_
          refine St.move rfl rfl ?_
          refine St.nilCheck rfl rfl ?_
          refine St.fieldAddr (off := 4) rfl rfl (by kernel_rfl) ?_
          first | refine St.store rfl rfl rfl rfl (by kernel_rfl) (Nat.le_of_ble_eq_true rfl) (by first | exact fun _ h => h.nil | exact fun _ h => h | exact fun _ h => h.drop | exact fun _ h => h.drop.drop | exact fun _ h => h.drop.drop.drop) ?_ | refine St.store1 rfl rfl rfl rfl (by kernel_rfl) (Nat.le_of_ble_eq_true rfl) (by first | exact fun _ h => h.nil | exact fun _ h => h | exact fun _ h => h.drop | exact fun _ h => h.drop.drop | exact fun _ h => h.drop.drop.drop) ?_ | refine St.store2 rfl rfl rfl rfl (by kernel_rfl) (Nat.le_of_ble_eq_true rfl) (by first | exact fun _ h => h.nil | exact fun _ h => h | exact fun _ h => h.drop | exact fun _ h => h.drop.drop | exact fun _ h => h.drop.drop.drop) ?_ | refine St.store3 rfl rfl rfl rfl (by kernel_rfl) (Nat.le_of_ble_eq_true rfl) (by first | exact fun _ h => h.nil | exact fun _ h => h | exact fun _ h => h.drop | exact fun _ h => h.drop.drop | exact fun _ h => h.drop.drop.drop) ?_ | refine St.store4 rfl rfl rfl rfl (by kernel_rfl) (Nat.le_of_ble_eq_true rfl) (by first | exact fun _ h => h.nil | exact fun _ h => h | exact fun _ h => h.drop | exact fun _ h => h.drop.drop | exact fun _ h => h.drop.drop.drop) ?_ | refine St.store5 rfl rfl rfl rfl (by kernel_rfl) (Nat.le_of_ble_eq_true rfl) (by first | exact fun _ h => h.nil | exact fun _ h => h | exact fun _ h => h.drop | exact fun _ h => h.drop.drop | exact fun _ h => h.drop.drop.drop) ?_
          refine St.nilCheck rfl rfl ?_
          refine St.fieldAddr (off := 6) rfl rfl (by kernel_rfl) ?_
          first | refine St.store rfl rfl rfl rfl (by kernel_rfl) (Nat.le_of_ble_eq_true rfl) (by first | exact fun _ h => h.nil | exact fun _ h => h | exact fun _ h => h.drop | exact fun _ h => h.drop.drop | exact fun _ h => h.drop.drop.drop) ?_ | refine St.store1 rfl rfl rfl rfl (by kernel_rfl) (Nat.le_of_ble_eq_true rfl) (by first | exact fun _ h => h.nil | exact fun _ h => h | exact fun _ h => h.drop | exact fun _ h => h.drop.drop | exact fun _ h => h.drop.drop.drop) ?_ | refine St.store2 rfl rfl rfl rfl (by kernel_rfl) (Nat.le_of_ble_eq_true rfl) (by first | exact fun _ h => h.nil | exact fun _ h => h | exact fun _ h => h.drop | exact fun _ h => h.drop.drop | exact fun _ h => h.drop.drop.drop) ?_ | refine St.store3 rfl rfl rfl rfl (by kernel_rfl) (Nat.le_of_ble_eq_true rfl) (by first | exact fun _ h => h.nil | exact fun _ h => h | exact fun _ h => h.drop | exact fun _ h => h.drop.drop | exact fun _ h => h.drop.drop.drop) ?_ | refine St.store4 rfl rfl rfl rfl (by kernel_rfl) (Nat.le_of_ble_eq_true rfl) (by first | exact fun _ h => h.nil | exact fun _ h => h | exact fun _ h => h.drop | exact fun _ h => h.drop.drop | exact fun _ h => h.drop.drop.drop) ?_ | refine St.store5 rfl rfl rfl rfl (by kernel_rfl) (Nat.le_of_ble_eq_true rfl) (by first | exact fun _ h => h.nil | exact fun _ h => h | exact fun _ h => h.drop | exact fun _ h => h.drop.drop | exact fun _ h => h.drop.drop.drop) ?_
          refine St.done ?_
          exfalso
          omega
        · refine SC.skip ?_
          refine SX.seq ?_
          refine SC.plain ?_
          refine St.move rfl rfl ?_
          refine St.move rfl rfl ?_
          refine St.move rfl rfl ?_
          refine St.move rfl rfl ?_
          refine St.nilCheck rfl rfl ?_
          refine St.fieldAddr (off := 4) rfl rfl (by kernel_rfl) ?_
          first | refine St.store rfl rfl rfl rfl (by kernel_rfl) (Nat.le_of_ble_eq_true rfl) (by first | exact fun _ h => h.nil | exact fun _ h => h | exact fun _ h => h.drop | exact fun _ h => h.drop.drop | exact fun _ h => h.drop.drop.drop) ?_ | refine St.store1 rfl rfl rfl rfl (by kernel_rfl) (Nat.le_of_ble_eq_true rfl) (by first | exact fun _ h => h.nil | exact fun _ h => h | exact fun _ h => h.drop | exact fun _ h => h.drop.drop | exact fun _ h => h.drop.drop.drop) ?_ | refine St.store2 rfl rfl rfl rfl (by kernel_rfl) (Nat.le_of_ble_eq_true rfl) (by first | exact fun _ h => h.nil | exact fun _ h => h | exact fun _ h => h.drop | exact fun _ h => h.drop.drop | exact fun _ h => h.drop.drop.drop) ?_ | refine St.store3 rfl rfl rfl rfl (by kernel_rfl) (Nat.le_of_ble_eq_true rfl) (by first | exact fun _ h => h.nil | exact fun _ h => h | exact fun _ h => h.drop | exact fun _ h => h.drop.drop | exact fun _ h => h.drop.drop.drop) ?_ | refine St.store4 rfl rfl rfl rfl (by kernel_rfl) (Nat.le_of_ble_eq_true rfl) (by first | exact fun _ h => h.nil | exact fun _ h => h | exact fun _ h => h.drop | exact fun _ h => h.drop.drop | exact fun _ h => h.drop.drop.drop) ?_ | refine St.store5 rfl rfl rfl rfl (by kernel_rfl) (Nat.le_of_ble_eq_true rfl) (by first | exact fun _ h => h.nil | exact fun _ h => h | exact fun _ h => h.drop | exact fun _ h => h.drop.drop | exact fun _ h => h.drop.drop.drop) ?_
          refine St.nilCheck rfl rfl ?_
          refine St.fieldAddr (off := 6) rfl rfl (by kernel_rfl) ?_
          first | refine St.store rfl rfl rfl rfl (by kernel_rfl) (Nat.le_of_ble_eq_true rfl) (by first | exact fun _ h => h.nil | exact fun _ h => h | exact fun _ h => h.drop | exact fun _ h => h.drop.drop | exact fun _ h => h.drop.drop.drop) ?_ | refine St.store1 rfl rfl rfl rfl (by kernel_rfl) (Nat.le_of_ble_eq_true rfl) (by first | exact fun _ h => h.nil | exact fun _ h => h | exact fun _ h => h.drop | exact fun _ h => h.drop.drop | exact fun _ h => h.drop.drop.drop) ?_ | refine St.store2 rfl rfl rfl rfl (by kernel_rfl) (Nat.le_of_ble_eq_true rfl) (by first | exact fun _ h => h.nil | exact fun _ h => h | exact fun _ h => h.drop | exact fun _ h => h.drop.drop | exact fun _ h => h.drop.drop.drop) ?_ | refine St.store3 rfl rfl rfl rfl (by kernel_rfl) (Nat.le_of_ble_eq_true rfl) (by first | exact fun _ h => h.nil | exact fun _ h => h | exact fun _ h => h.drop | exact fun _ h => h.drop.drop | exact fun _ h => h.drop.drop.drop) ?_ | refine St.store4 rfl rfl rfl rfl (by kernel_rfl) (Nat.le_of_ble_eq_true rfl) (by first | exact fun _ h => h.nil | exact fun _ h => h | exact fun _ h => h.drop | exact fun _ h => h.drop.drop | exact fun _ h => h.drop.drop.drop) ?_ | refine St.store5 rfl rfl rfl rfl (by kernel_rfl) (Nat.le_of_ble_eq_true rfl) (by first | exact fun _ h => h.nil | exact fun _ h => h | exact fun _ h => h.drop | exact fun _ h => h.drop.drop | exact fun _ h => h.drop.drop.drop) ?_
          refine St.done ?_
          have ha : ¬ e.endAcked = true := fun ha => by have := (hack ha).2; omega
          have ha' : e.endAcked = false := by simpa using ha
          have hw : e.ack n now = { e with una := min n.toNat e.out.length, endAcked := decide ((e.out.length : Int) < n), at_ := now } := if_pos (by
            unfold En.acksTo En.sentTo
            rw [c14, ha']
            simp only [if_true, if_false, Bool.false_eq_true]
            omega)
          rw [hw] at haok ⊢
          refine SX.ret0 (.inr rfl) rfl ⟨_, _, now, Eo, Ei, ⟨hB.out, hB.inn, .inl rfl, hn, haok⟩, ?_⟩
          unfold EnL enRow
          rw [decide_eq_false c34, show ((min n.toNat e.out.length : Nat) : Int) = n by omega, ha']
          rfl
theorem dialing_spec (w0 : World) (L : List Chunk) (p : Nat) (e : En) (ov iv : Value) (at_ : Int) (Eo Ei : Chunk) (hB : EnB e ov iv at_ Eo Ei) (s : Seg) (dv : Value) (hS : SegIn w0 L s dv) (now : Int) (hn : Clock now) (h1 : e.st = 1) :
    Meets Try.prog 174 #[.pointer (some ⟨p, 0, none⟩), .agg (segCells s dv).toArray, .int .i64 now] w0 (EnL p e ov iv at_ Eo Ei L) (fun r L' => EnAt p (if s.ty = 2 ∧ s.ack = 0 then { e with st := 3 } else e) L L') := by
  obtain ⟨⟨Ao, co, rfl⟩, ⟨Ai, ci, rfl⟩⟩ := hB.slices
  have hok := hB.ok
  have hr1 := hok.room
  have hr2 := hok.inn
  have hu := hok.una
  have hx := hok.next
  have hid := hok.id
  have hst := hok.st
  have hsi := hS
  obtain ⟨Ad, cd, rfl⟩ := hS.slice
  have htm : e.st = 1 → at_ = e.at_ := fun h => hB.tm.elim id (fun h2 => absurd h h2.2)
  unfold EnL
  refine Meets.of_body [.pointer (some ⟨p, 0, none⟩), .agg (segCells s _).toArray, .int .i64 now] Try.func174 rfl Try.ntmps174 rfl ?_
  refine SC.seq ?_
  refine SC.plain ?_
  refine St.box (segCells s _) rfl rfl rfl (fun _ _ h => h.nil) (fun q => ?_)
  refine St.done ?_
  refine SX.seq ?_
  refine SC.seq ?_
  refine SC.plain ?_
  refine St.fieldAddr (off := 0) rfl rfl (by kernel_rfl) ?_
  refine St.load rfl rfl (by kernel_rfl) (by first | exact Holds.row mem0 rfl | exact Holds.row mem1 rfl | exact Holds.row mem2 rfl | exact Holds.row mem3 rfl | exact Holds.row mem4 rfl | exact Holds.row mem5 rfl | exact Holds.row mem6 rfl | exact Holds.row mem7 rfl | exact Holds.row mem8 rfl) ?_
  refine St.eql rfl rfl rfl ?_
  refine St.move rfl rfl ?_
  refine St.split 9 rfl (fun g9 => ?_) (fun g9 => ?_)
  · refine St.guard_yes rfl rfl ?_
    refine St.fieldAddr (off := 3) rfl rfl (by kernel_rfl) ?_
    refine St.guard_yes rfl rfl ?_
    refine St.load rfl rfl (by kernel_rfl) (by first | exact Holds.row mem0 rfl | exact Holds.row mem1 rfl | exact Holds.row mem2 rfl | exact Holds.row mem3 rfl | exact Holds.row mem4 rfl | exact Holds.row mem5 rfl | exact Holds.row mem6 rfl | exact Holds.row mem7 rfl | exact Holds.row mem8 rfl) ?_
    refine St.guard_yes rfl rfl ?_
    refine St.eql rfl rfl rfl ?_
    refine St.pick_true rfl rfl rfl ?_
    refine St.done ?_
    refine SX.seq ?_
    refine SC.condp rfl (fun c13 => ?_) (fun c13 => ?_)
    · refine SC.plain ?_
      refine St.move rfl rfl ?_
      refine St.nilCheck rfl rfl ?_
      refine St.fieldAddr (off := 1) rfl rfl (by kernel_rfl) ?_
      first | refine St.store rfl rfl rfl rfl (by kernel_rfl) (Nat.le_of_ble_eq_true rfl) (by first | exact fun _ h => h.nil | exact fun _ h => h | exact fun _ h => h.drop | exact fun _ h => h.drop.drop | exact fun _ h => h.drop.drop.drop) ?_ | refine St.store1 rfl rfl rfl rfl (by kernel_rfl) (Nat.le_of_ble_eq_true rfl) (by first | exact fun _ h => h.nil | exact fun _ h => h | exact fun _ h => h.drop | exact fun _ h => h.drop.drop | exact fun _ h => h.drop.drop.drop) ?_ | refine St.store2 rfl rfl rfl rfl (by kernel_rfl) (Nat.le_of_ble_eq_true rfl) (by first | exact fun _ h => h.nil | exact fun _ h => h | exact fun _ h => h.drop | exact fun _ h => h.drop.drop | exact fun _ h => h.drop.drop.drop) ?_ | refine St.store3 rfl rfl rfl rfl (by kernel_rfl) (Nat.le_of_ble_eq_true rfl) (by first | exact fun _ h => h.nil | exact fun _ h => h | exact fun _ h => h.drop | exact fun _ h => h.drop.drop | exact fun _ h => h.drop.drop.drop) ?_ | refine St.store4 rfl rfl rfl rfl (by kernel_rfl) (Nat.le_of_ble_eq_true rfl) (by first | exact fun _ h => h.nil | exact fun _ h => h | exact fun _ h => h.drop | exact fun _ h => h.drop.drop | exact fun _ h => h.drop.drop.drop) ?_ | refine St.store5 rfl rfl rfl rfl (by kernel_rfl) (Nat.le_of_ble_eq_true rfl) (by first | exact fun _ h => h.nil | exact fun _ h => h | exact fun _ h => h.drop | exact fun _ h => h.drop.drop | exact fun _ h => h.drop.drop.drop) ?_
      refine St.done ?_
      rw [if_pos (by omega)]
      refine SX.drop ?_
      exact SX.ret0 (.inr rfl) rfl ⟨_, _, at_, Eo, Ei, ⟨hB.out, hB.inn, .inl (htm h1), hB.clock, st_ok hok 3 (by decide)⟩, rfl⟩
    · refine SC.skip ?_
      rw [if_neg (by omega)]
      refine SX.drop ?_
      exact SX.ret0 (.inr rfl) rfl ⟨_, _, at_, Eo, Ei, hB, rfl⟩
  · refine St.guard_no rfl rfl rfl ?_
    refine St.guard_no rfl rfl rfl ?_
    refine St.guard_no rfl rfl rfl ?_
    refine St.pick_false rfl rfl rfl ?_
    refine St.done ?_
    refine SX.seq ?_
    refine SC.cond_false rfl ?_
    refine SC.skip ?_
    rw [if_neg (by omega)]
    refine SX.drop ?_
    exact SX.ret0 (.inr rfl) rfl ⟨_, _, at_, Eo, Ei, hB, rfl⟩
theorem listening_spec (w0 : World) (L : List Chunk) (p : Nat) (e : En) (ov iv : Value) (at_ : Int) (Eo Ei : Chunk) (hB : EnB e ov iv at_ Eo Ei) (s : Seg) (dv : Value) (hS : SegIn w0 L s dv) (now : Int) (hn : Clock now) :
    Meets Try.prog 175 #[.pointer (some ⟨p, 0, none⟩), .agg (segCells s dv).toArray, .int .i64 now] w0 (EnL p e ov iv at_ Eo Ei L) (fun r L' => EnAt p (if s.ty = 1 then { e with st := 3, owes := true } else e) L L') := by
  obtain ⟨⟨Ao, co, rfl⟩, ⟨Ai, ci, rfl⟩⟩ := hB.slices
  have hok := hB.ok
  have hr1 := hok.room
  have hr2 := hok.inn
  have hu := hok.una
  have hx := hok.next
  have hid := hok.id
  have hst := hok.st
  have hsi := hS
  obtain ⟨Ad, cd, rfl⟩ := hS.slice
  unfold EnL
  refine Meets.of_body [.pointer (some ⟨p, 0, none⟩), .agg (segCells s _).toArray, .int .i64 now] Try.func175 rfl Try.ntmps175 rfl ?_
  refine SC.seq ?_
  refine SC.plain ?_
  refine St.box (segCells s _) rfl rfl rfl (fun _ _ h => h.nil) (fun q => ?_)
  refine St.done ?_
  refine SX.seq ?_
  refine SC.seq ?_
  refine SC.plain ?_
  refine St.fieldAddr (off := 0) rfl rfl (by kernel_rfl) ?_
  refine St.load rfl rfl (by kernel_rfl) (by first | exact Holds.row mem0 rfl | exact Holds.row mem1 rfl | exact Holds.row mem2 rfl | exact Holds.row mem3 rfl | exact Holds.row mem4 rfl | exact Holds.row mem5 rfl | exact Holds.row mem6 rfl | exact Holds.row mem7 rfl | exact Holds.row mem8 rfl) ?_
  refine St.eql rfl rfl rfl ?_
  refine St.done ?_
  refine SX.seq ?_
  refine SC.condp rfl (fun c8 => ?_) (fun c8 => ?_)
  · refine SC.plain ?_
    refine St.move rfl rfl ?_
    refine St.move rfl rfl ?_
    refine St.nilCheck rfl rfl ?_
    refine St.fieldAddr (off := 1) rfl rfl (by kernel_rfl) ?_
    first | refine St.store rfl rfl rfl rfl (by kernel_rfl) (Nat.le_of_ble_eq_true rfl) (by first | exact fun _ h => h.nil | exact fun _ h => h | exact fun _ h => h.drop | exact fun _ h => h.drop.drop | exact fun _ h => h.drop.drop.drop) ?_ | refine St.store1 rfl rfl rfl rfl (by kernel_rfl) (Nat.le_of_ble_eq_true rfl) (by first | exact fun _ h => h.nil | exact fun _ h => h | exact fun _ h => h.drop | exact fun _ h => h.drop.drop | exact fun _ h => h.drop.drop.drop) ?_ | refine St.store2 rfl rfl rfl rfl (by kernel_rfl) (Nat.le_of_ble_eq_true rfl) (by first | exact fun _ h => h.nil | exact fun _ h => h | exact fun _ h => h.drop | exact fun _ h => h.drop.drop | exact fun _ h => h.drop.drop.drop) ?_ | refine St.store3 rfl rfl rfl rfl (by kernel_rfl) (Nat.le_of_ble_eq_true rfl) (by first | exact fun _ h => h.nil | exact fun _ h => h | exact fun _ h => h.drop | exact fun _ h => h.drop.drop | exact fun _ h => h.drop.drop.drop) ?_ | refine St.store4 rfl rfl rfl rfl (by kernel_rfl) (Nat.le_of_ble_eq_true rfl) (by first | exact fun _ h => h.nil | exact fun _ h => h | exact fun _ h => h.drop | exact fun _ h => h.drop.drop | exact fun _ h => h.drop.drop.drop) ?_ | refine St.store5 rfl rfl rfl rfl (by kernel_rfl) (Nat.le_of_ble_eq_true rfl) (by first | exact fun _ h => h.nil | exact fun _ h => h | exact fun _ h => h.drop | exact fun _ h => h.drop.drop | exact fun _ h => h.drop.drop.drop) ?_
    refine St.nilCheck rfl rfl ?_
    refine St.fieldAddr (off := 13) rfl rfl (by kernel_rfl) ?_
    first | refine St.store rfl rfl rfl rfl (by kernel_rfl) (Nat.le_of_ble_eq_true rfl) (by first | exact fun _ h => h.nil | exact fun _ h => h | exact fun _ h => h.drop | exact fun _ h => h.drop.drop | exact fun _ h => h.drop.drop.drop) ?_ | refine St.store1 rfl rfl rfl rfl (by kernel_rfl) (Nat.le_of_ble_eq_true rfl) (by first | exact fun _ h => h.nil | exact fun _ h => h | exact fun _ h => h.drop | exact fun _ h => h.drop.drop | exact fun _ h => h.drop.drop.drop) ?_ | refine St.store2 rfl rfl rfl rfl (by kernel_rfl) (Nat.le_of_ble_eq_true rfl) (by first | exact fun _ h => h.nil | exact fun _ h => h | exact fun _ h => h.drop | exact fun _ h => h.drop.drop | exact fun _ h => h.drop.drop.drop) ?_ | refine St.store3 rfl rfl rfl rfl (by kernel_rfl) (Nat.le_of_ble_eq_true rfl) (by first | exact fun _ h => h.nil | exact fun _ h => h | exact fun _ h => h.drop | exact fun _ h => h.drop.drop | exact fun _ h => h.drop.drop.drop) ?_ | refine St.store4 rfl rfl rfl rfl (by kernel_rfl) (Nat.le_of_ble_eq_true rfl) (by first | exact fun _ h => h.nil | exact fun _ h => h | exact fun _ h => h.drop | exact fun _ h => h.drop.drop | exact fun _ h => h.drop.drop.drop) ?_ | refine St.store5 rfl rfl rfl rfl (by kernel_rfl) (Nat.le_of_ble_eq_true rfl) (by first | exact fun _ h => h.nil | exact fun _ h => h | exact fun _ h => h.drop | exact fun _ h => h.drop.drop | exact fun _ h => h.drop.drop.drop) ?_
    refine St.done ?_
    rw [if_pos (by omega)]
    refine SX.drop ?_
    exact SX.ret0 (.inr rfl) rfl ⟨_, _, at_, Eo, Ei, ⟨hB.out, hB.inn, hB.tm.imp id (fun h => ⟨h.1, (show (3 : Nat) ≠ 1 by decide)⟩), hB.clock, owes_ok (st_ok hok 3 (by decide)) true⟩, rfl⟩
  · refine SC.skip ?_
    rw [if_neg (by omega)]
    refine SX.drop ?_
    exact SX.ret0 (.inr rfl) rfl ⟨_, _, at_, Eo, Ei, hB, rfl⟩
theorem open_spec (w0 : World) (L : List Chunk) (p : Nat) (e : En) (ov iv : Value) (at_ : Int) (Eo Ei : Chunk) (hB : EnB e ov iv at_ Eo Ei) (s : Seg) (dv : Value) (hS : SegIn w0 L s dv) (now : Int) (hn : Clock now) (h3 : e.st ≠ 1) :
    Meets Try.prog 176 #[.pointer (some ⟨p, 0, none⟩), .agg (segCells s dv).toArray, .int .i64 now] w0 (EnL p e ov iv at_ Eo Ei L) (fun r L' => EnAt p (e.open_ s now) L L') := by
  obtain ⟨⟨Ao, co, rfl⟩, ⟨Ai, ci, rfl⟩⟩ := hB.slices
  have hok := hB.ok
  have hr1 := hok.room
  have hr2 := hok.inn
  have hu := hok.una
  have hx := hok.next
  have hid := hok.id
  have hst := hok.st
  have hsi := hS
  obtain ⟨Ad, cd, rfl⟩ := hS.slice
  have hsl := hsi.len
  unfold EnL
  refine Meets.of_body [.pointer (some ⟨p, 0, none⟩), .agg (segCells s _).toArray, .int .i64 now] Try.func176 rfl Try.ntmps176 rfl ?_
  refine SC.seq ?_
  refine SC.plain ?_
  refine St.box (segCells s _) rfl rfl rfl (fun _ _ h => h.nil) (fun q => ?_)
  refine St.done ?_
  refine SX.seq ?_
  refine SC.seq ?_
  refine SC.plain ?_
  refine St.fieldAddr (off := 0) rfl rfl (by kernel_rfl) ?_
  refine St.load rfl rfl (by kernel_rfl) (by first | exact Holds.row mem0 rfl | exact Holds.row mem1 rfl | exact Holds.row mem2 rfl | exact Holds.row mem3 rfl | exact Holds.row mem4 rfl | exact Holds.row mem5 rfl | exact Holds.row mem6 rfl | exact Holds.row mem7 rfl | exact Holds.row mem8 rfl) ?_
  refine St.done ?_
  refine SX.seq ?_
  refine SC.block ?_
  refine SC.seq ?_
  refine SC.plain ?_
  refine St.eql rfl rfl rfl ?_
  refine St.assign rfl rfl ?_
  refine St.done ?_
  refine SX.seq ?_
  refine SC.condp rfl (fun c8 => ?_) (fun c8 => ?_)
  · refine SC.plain ?_
    refine St.move rfl rfl ?_
    refine St.nilCheck rfl rfl ?_
    refine St.fieldAddr (off := 13) rfl rfl (by kernel_rfl) ?_
    first | refine St.store rfl rfl rfl rfl (by kernel_rfl) (Nat.le_of_ble_eq_true rfl) (by first | exact fun _ h => h.nil | exact fun _ h => h | exact fun _ h => h.drop | exact fun _ h => h.drop.drop | exact fun _ h => h.drop.drop.drop) ?_ | refine St.store1 rfl rfl rfl rfl (by kernel_rfl) (Nat.le_of_ble_eq_true rfl) (by first | exact fun _ h => h.nil | exact fun _ h => h | exact fun _ h => h.drop | exact fun _ h => h.drop.drop | exact fun _ h => h.drop.drop.drop) ?_ | refine St.store2 rfl rfl rfl rfl (by kernel_rfl) (Nat.le_of_ble_eq_true rfl) (by first | exact fun _ h => h.nil | exact fun _ h => h | exact fun _ h => h.drop | exact fun _ h => h.drop.drop | exact fun _ h => h.drop.drop.drop) ?_ | refine St.store3 rfl rfl rfl rfl (by kernel_rfl) (Nat.le_of_ble_eq_true rfl) (by first | exact fun _ h => h.nil | exact fun _ h => h | exact fun _ h => h.drop | exact fun _ h => h.drop.drop | exact fun _ h => h.drop.drop.drop) ?_ | refine St.store4 rfl rfl rfl rfl (by kernel_rfl) (Nat.le_of_ble_eq_true rfl) (by first | exact fun _ h => h.nil | exact fun _ h => h | exact fun _ h => h.drop | exact fun _ h => h.drop.drop | exact fun _ h => h.drop.drop.drop) ?_ | refine St.store5 rfl rfl rfl rfl (by kernel_rfl) (Nat.le_of_ble_eq_true rfl) (by first | exact fun _ h => h.nil | exact fun _ h => h | exact fun _ h => h.drop | exact fun _ h => h.drop.drop | exact fun _ h => h.drop.drop.drop) ?_
    refine St.done ?_
    refine SX.blk ?_
    have hw : e.open_ s now = { e with owes := true } := if_pos (by omega)
    rw [hw]
    refine SX.drop ?_
    exact SX.ret0 (.inr rfl) rfl ⟨_, _, at_, Eo, Ei, ⟨hB.out, hB.inn, hB.tm, hB.clock, owes_ok hok true⟩, rfl⟩
  · refine SC.seq ?_
    refine SC.plain ?_
    refine St.eql rfl rfl rfl ?_
    refine St.assign rfl rfl ?_
    refine St.done ?_
    refine SX.seq ?_
    refine SC.condp rfl (fun c13 => ?_) (fun c13 => ?_)
    · refine SC.plain ?_
      refine St.move rfl rfl ?_
      refine St.fieldAddr (off := 3) rfl rfl (by kernel_rfl) ?_
      refine St.load rfl rfl (by kernel_rfl) (by first | exact Holds.row mem0 rfl | exact Holds.row mem1 rfl | exact Holds.row mem2 rfl | exact Holds.row mem3 rfl | exact Holds.row mem4 rfl | exact Holds.row mem5 rfl | exact Holds.row mem6 rfl | exact Holds.row mem7 rfl | exact Holds.row mem8 rfl) ?_
      refine St.move rfl rfl ?_
      refine St.call [_, _, _] rfl (by kernel_rfl) rfl ((acked_spec w0 ([⟨q, segCells s (.slice Ad s.data.length cd), 73⟩] :: L) p e _ _ at_ Eo Ei hB s.ack now hn h3).perm (perm_at [_, _, _] _ _).symm) (by first | exact fun _ _ _ _ h => h.nil | assumption) ?_
      rintro r1 L1 ⟨ov, iv, at2, Eo2, Ei2, hB2, rfl⟩
      unfold EnL
      refine St.done ?_
      refine SX.blk ?_
      have hw : e.open_ s now = e.ack s.ack now := (if_neg (by omega)).trans (if_pos (by omega))
      rw [hw]
      refine SX.perm _ (perm_at [_, _, _] _ _) ?_
      refine SX.drop ?_
      exact SX.ret0 (.inr rfl) rfl ⟨ov, iv, at2, Eo2, Ei2, hB2, rfl⟩
    · refine SC.seq ?_
      refine SC.plain ?_
      refine St.eql rfl rfl rfl ?_
      refine St.assign rfl rfl ?_
      refine St.done ?_
      refine SX.seq ?_
      refine SC.condp rfl (fun c20 => ?_) (fun c20 => ?_)
      · refine SC.seq ?_
        refine SC.plain ?_
        refine St.move rfl rfl ?_
        refine St.nilCheck rfl rfl ?_
        refine St.fieldAddr (off := 13) rfl rfl (by kernel_rfl) ?_
        first | refine St.store rfl rfl rfl rfl (by kernel_rfl) (Nat.le_of_ble_eq_true rfl) (by first | exact fun _ h => h.nil | exact fun _ h => h | exact fun _ h => h.drop | exact fun _ h => h.drop.drop | exact fun _ h => h.drop.drop.drop) ?_ | refine St.store1 rfl rfl rfl rfl (by kernel_rfl) (Nat.le_of_ble_eq_true rfl) (by first | exact fun _ h => h.nil | exact fun _ h => h | exact fun _ h => h.drop | exact fun _ h => h.drop.drop | exact fun _ h => h.drop.drop.drop) ?_ | refine St.store2 rfl rfl rfl rfl (by kernel_rfl) (Nat.le_of_ble_eq_true rfl) (by first | exact fun _ h => h.nil | exact fun _ h => h | exact fun _ h => h.drop | exact fun _ h => h.drop.drop | exact fun _ h => h.drop.drop.drop) ?_ | refine St.store3 rfl rfl rfl rfl (by kernel_rfl) (Nat.le_of_ble_eq_true rfl) (by first | exact fun _ h => h.nil | exact fun _ h => h | exact fun _ h => h.drop | exact fun _ h => h.drop.drop | exact fun _ h => h.drop.drop.drop) ?_ | refine St.store4 rfl rfl rfl rfl (by kernel_rfl) (Nat.le_of_ble_eq_true rfl) (by first | exact fun _ h => h.nil | exact fun _ h => h | exact fun _ h => h.drop | exact fun _ h => h.drop.drop | exact fun _ h => h.drop.drop.drop) ?_ | refine St.store5 rfl rfl rfl rfl (by kernel_rfl) (Nat.le_of_ble_eq_true rfl) (by first | exact fun _ h => h.nil | exact fun _ h => h | exact fun _ h => h.drop | exact fun _ h => h.drop.drop | exact fun _ h => h.drop.drop.drop) ?_
        refine St.done ?_
        refine SX.seq ?_
        refine SC.seq ?_
        refine SC.drawn [(0, true), (1, true), (2, true), (3, true), (4, true), (5, true), (6, true), (7, true), (8, true), (9, true), (10, true), (11, true), (12, true), (13, true), (14, true), (15, true), (16, true), (17, true), (18, true), (19, true), (20, true), (21, true), (22, true), (23, true), (24, true), (25, true), (26, true)] [] (_) (by kernel_rfl) (by kernel_rfl) (fun _ h => h) ?_
        refine St.fieldAddr (off := 2) rfl rfl (by kernel_rfl) ?_
        refine St.load rfl rfl (by kernel_rfl) (by first | exact Holds.row mem0 rfl | exact Holds.row mem1 rfl | exact Holds.row mem2 rfl | exact Holds.row mem3 rfl | exact Holds.row mem4 rfl | exact Holds.row mem5 rfl | exact Holds.row mem6 rfl | exact Holds.row mem7 rfl | exact Holds.row mem8 rfl) ?_
        refine St.move rfl rfl ?_
        refine St.nilCheck rfl rfl ?_
        refine St.fieldAddr (off := 10) rfl rfl (by kernel_rfl) ?_
        refine St.load rfl rfl (by kernel_rfl) (by first | exact Holds.row mem0 rfl | exact Holds.row mem1 rfl | exact Holds.row mem2 rfl | exact Holds.row mem3 rfl | exact Holds.row mem4 rfl | exact Holds.row mem5 rfl | exact Holds.row mem6 rfl | exact Holds.row mem7 rfl | exact Holds.row mem8 rfl) ?_
        refine St.lenSl rfl rfl (by kernel_rfl) ?_
        refine St.eql rfl rfl rfl ?_
        refine St.move rfl rfl ?_
        refine St.split 33 rfl (fun g33 => ?_) (fun g33 => ?_)
        · refine St.guard_yes rfl rfl ?_
          refine St.fieldAddr (off := 4) rfl rfl (by kernel_rfl) ?_
          refine St.guard_yes rfl rfl ?_
          refine St.load rfl rfl (by kernel_rfl) (by first | exact Holds.row mem0 rfl | exact Holds.row mem1 rfl | exact Holds.row mem2 rfl | exact Holds.row mem3 rfl | exact Holds.row mem4 rfl | exact Holds.row mem5 rfl | exact Holds.row mem6 rfl | exact Holds.row mem7 rfl | exact Holds.row mem8 rfl) ?_
          refine St.guard_yes rfl rfl ?_
          refine St.lenSl rfl rfl (by kernel_rfl) ?_
          refine St.guard_yes rfl rfl ?_
          refine St.move rfl rfl ?_
          refine St.guard_yes rfl rfl ?_
          refine St.nilCheck rfl rfl ?_
          refine St.guard_yes rfl rfl ?_
          refine St.fieldAddr (off := 10) rfl rfl (by kernel_rfl) ?_
          refine St.guard_yes rfl rfl ?_
          refine St.load rfl rfl (by kernel_rfl) (by first | exact Holds.row mem0 rfl | exact Holds.row mem1 rfl | exact Holds.row mem2 rfl | exact Holds.row mem3 rfl | exact Holds.row mem4 rfl | exact Holds.row mem5 rfl | exact Holds.row mem6 rfl | exact Holds.row mem7 rfl | exact Holds.row mem8 rfl) ?_
          refine St.guard_yes rfl rfl ?_
          refine St.lenSl rfl rfl (by kernel_rfl) ?_
          refine St.guard_yes rfl rfl ?_
          first | refine St.subN (a := 1048576) rfl rfl rfl (by omega) (by omega) ?_ | refine St.subI rfl rfl rfl (by omega) ?_
          refine St.guard_yes rfl rfl ?_
          refine St.leq rfl rfl rfl ?_
          refine St.pick_true rfl rfl rfl ?_
          refine St.move rfl rfl ?_
          refine St.split 45 rfl (fun g45 => ?_) (fun g45 => ?_)
          · refine St.guard_yes rfl rfl ?_
            refine St.move rfl rfl ?_
            refine St.guard_yes rfl rfl ?_
            refine St.nilCheck rfl rfl ?_
            refine St.guard_yes rfl rfl ?_
            refine St.fieldAddr (off := 12) rfl rfl (by kernel_rfl) ?_
            refine St.guard_yes rfl rfl ?_
            refine St.load rfl rfl (by kernel_rfl) (by first | exact Holds.row mem0 rfl | exact Holds.row mem1 rfl | exact Holds.row mem2 rfl | exact Holds.row mem3 rfl | exact Holds.row mem4 rfl | exact Holds.row mem5 rfl | exact Holds.row mem6 rfl | exact Holds.row mem7 rfl | exact Holds.row mem8 rfl) ?_
            refine St.guard_yes rfl rfl ?_
            refine St.notB rfl rfl ?_
            refine St.pick_true rfl rfl rfl ?_
            refine St.done ?_
            refine SX.tail ?_
            refine St.done ?_
            refine SX.seq ?_
            refine SC.cond rfl (fun c51 => ?_) (fun c51 => ?_)
            · refine SC.drawn [(0, true), (1, true), (2, true), (3, true), (4, true), (5, true), (6, true), (7, false), (8, true), (9, true)] [10] ([⟨q, segCells s (.slice Ad s.data.length cd), 73⟩] :: _ :: L) (by kernel_rfl) (by kernel_rfl) (fun _ h => h.skip2) ?_
              refine St.move rfl rfl ?_
              refine St.move rfl rfl ?_
              refine St.nilCheck rfl rfl ?_
              refine St.fieldAddr (off := 10) rfl rfl (by kernel_rfl) ?_
              refine St.load rfl rfl (by kernel_rfl) (by first | exact Holds.row mem0 rfl | exact Holds.row mem1 rfl | exact Holds.row mem2 rfl | exact Holds.row mem3 rfl | exact Holds.row mem4 rfl | exact Holds.row mem5 rfl | exact Holds.row mem6 rfl | exact Holds.row mem7 rfl | exact Holds.row mem8 rfl) ?_
              refine St.fieldAddr (off := 4) rfl rfl (by kernel_rfl) ?_
              refine St.load rfl rfl (by kernel_rfl) (by first | exact Holds.row mem0 rfl | exact Holds.row mem1 rfl | exact Holds.row mem2 rfl | exact Holds.row mem3 rfl | exact Holds.row mem4 rfl | exact Holds.row mem5 rfl | exact Holds.row mem6 rfl | exact Holds.row mem7 rfl | exact Holds.row mem8 rfl) ?_
              refine St.append3 (e := 5) (sz := 1) (bytes := 1) (xs := bytes e.inn) (n := e.inn.length) (news := bytes s.data) (m := s.data.length) rfl rfl rfl (by kernel_rfl) hB.inn (Rd.mono hsi.rd (fun w hw => by first | exact hw | exact hw.drop | exact hw.drop.drop | exact hw.drop.drop.drop | exact hw.drop.drop.drop.drop | exact hw.drop.drop.drop.drop.drop | exact hw.drop.drop.drop.drop.drop.drop | exact hw.drop.drop.drop.drop.drop.drop.drop | exact hw.drop.drop.drop.drop.drop.drop.drop.drop)) (bytes_one _) (by omega) (by omega) (fun _ _ h => h.skip2) (fun v2 E2 hb2 _ => ?_)
              rw [← bytes_app] at hb2
              have hb2r := hb2.read
              obtain ⟨_, _, A2, c2, rfl, _, _⟩ := hb2r
              refine St.nilCheck rfl rfl ?_
              refine St.fieldAddr (off := 10) rfl rfl (by kernel_rfl) ?_
              refine St.done ?_
              refine SX.tail ?_
              first | refine St.store rfl rfl rfl rfl (by kernel_rfl) (Nat.le_of_ble_eq_true rfl) (by first | exact fun _ h => h.nil | exact fun _ h => h | exact fun _ h => h.drop | exact fun _ h => h.drop.drop | exact fun _ h => h.drop.drop.drop) ?_ | refine St.store1 rfl rfl rfl rfl (by kernel_rfl) (Nat.le_of_ble_eq_true rfl) (by first | exact fun _ h => h.nil | exact fun _ h => h | exact fun _ h => h.drop | exact fun _ h => h.drop.drop | exact fun _ h => h.drop.drop.drop) ?_ | refine St.store2 rfl rfl rfl rfl (by kernel_rfl) (Nat.le_of_ble_eq_true rfl) (by first | exact fun _ h => h.nil | exact fun _ h => h | exact fun _ h => h.drop | exact fun _ h => h.drop.drop | exact fun _ h => h.drop.drop.drop) ?_ | refine St.store3 rfl rfl rfl rfl (by kernel_rfl) (Nat.le_of_ble_eq_true rfl) (by first | exact fun _ h => h.nil | exact fun _ h => h | exact fun _ h => h.drop | exact fun _ h => h.drop.drop | exact fun _ h => h.drop.drop.drop) ?_ | refine St.store4 rfl rfl rfl rfl (by kernel_rfl) (Nat.le_of_ble_eq_true rfl) (by first | exact fun _ h => h.nil | exact fun _ h => h | exact fun _ h => h.drop | exact fun _ h => h.drop.drop | exact fun _ h => h.drop.drop.drop) ?_ | refine St.store5 rfl rfl rfl rfl (by kernel_rfl) (Nat.le_of_ble_eq_true rfl) (by first | exact fun _ h => h.nil | exact fun _ h => h | exact fun _ h => h.drop | exact fun _ h => h.drop.drop | exact fun _ h => h.drop.drop.drop) ?_
              refine St.done ?_
              refine SX.blk ?_
              have hw : e.open_ s now = e.data s.seq s.data := (if_neg (by omega)).trans ((if_neg (by omega)).trans (if_pos (by omega)))
              have ho : e.other = false := by simpa using c51
              have hd : e.data s.seq s.data = { e with inn := e.inn ++ s.data, owes := true } := if_pos ⟨by omega, by omega, ho⟩
              have hdo := data_ok hok s.seq hsi.lt
              rw [hw]
              rw [hd] at hdo ⊢
              refine SX.drop ?_
              refine SX.ret0 (.inr rfl) rfl ⟨_, _, at_, Eo, E2, ⟨hB.out, by rw [List.length_append]; exact hb2, hB.tm, hB.clock, hdo⟩, ?_⟩
              rfl
            · refine SC.skip ?_
              refine SX.blk ?_
              first
                | (have hw : e.open_ s now = e := (if_neg (by omega)).trans ((if_neg (by omega)).trans ((if_neg (by omega)).trans (if_neg (by omega)))); rw [hw]; refine SX.drop ?_; exact SX.ret0 (.inr rfl) rfl ⟨_, _, at_, Eo, Ei, hB, rfl⟩)
                | (have hw : e.open_ s now = e.data s.seq s.data := (if_neg (by omega)).trans ((if_neg (by omega)).trans (if_pos (by omega))); have hd : e.data s.seq s.data = { e with owes := true } := if_neg (fun h => by obtain ⟨h1, h2, h3⟩ := h; first | omega | (simp_all; done)); rw [hw, hd]; refine SX.drop ?_; exact SX.ret0 (.inr rfl) rfl ⟨_, _, at_, Eo, Ei, ⟨hB.out, hB.inn, hB.tm, hB.clock, owes_ok hok true⟩, rfl⟩)
          · refine St.guard_no rfl rfl rfl ?_
            refine St.guard_no rfl rfl rfl ?_
            refine St.guard_no rfl rfl rfl ?_
            refine St.guard_no rfl rfl rfl ?_
            refine St.guard_no rfl rfl rfl ?_
            refine St.pick_false rfl rfl rfl ?_
            refine St.done ?_
            refine SX.tail ?_
            refine St.done ?_
            refine SX.seq ?_
            refine SC.cond_false rfl ?_
            refine SC.skip ?_
            refine SX.blk ?_
            first
              | (have hw : e.open_ s now = e := (if_neg (by omega)).trans ((if_neg (by omega)).trans ((if_neg (by omega)).trans (if_neg (by omega)))); rw [hw]; refine SX.drop ?_; exact SX.ret0 (.inr rfl) rfl ⟨_, _, at_, Eo, Ei, hB, rfl⟩)
              | (have hw : e.open_ s now = e.data s.seq s.data := (if_neg (by omega)).trans ((if_neg (by omega)).trans (if_pos (by omega))); have hd : e.data s.seq s.data = { e with owes := true } := if_neg (fun h => by obtain ⟨h1, h2, h3⟩ := h; first | omega | (simp_all; done)); rw [hw, hd]; refine SX.drop ?_; exact SX.ret0 (.inr rfl) rfl ⟨_, _, at_, Eo, Ei, ⟨hB.out, hB.inn, hB.tm, hB.clock, owes_ok hok true⟩, rfl⟩)
        · refine St.guard_no rfl rfl rfl ?_
          refine St.guard_no rfl rfl rfl ?_
          refine St.guard_no rfl rfl rfl ?_
          refine St.guard_no rfl rfl rfl ?_
          refine St.guard_no rfl rfl rfl ?_
          refine St.guard_no rfl rfl rfl ?_
          refine St.guard_no rfl rfl rfl ?_
          refine St.guard_no rfl rfl rfl ?_
          refine St.guard_no rfl rfl rfl ?_
          refine St.guard_no rfl rfl rfl ?_
          refine St.pick_false rfl rfl rfl ?_
          refine St.move rfl rfl ?_
          refine St.guard_no rfl rfl rfl ?_
          refine St.guard_no rfl rfl rfl ?_
          refine St.guard_no rfl rfl rfl ?_
          refine St.guard_no rfl rfl rfl ?_
          refine St.guard_no rfl rfl rfl ?_
          refine St.pick_false rfl rfl rfl ?_
          refine St.done ?_
          refine SX.tail ?_
          refine St.done ?_
          refine SX.seq ?_
          refine SC.cond_false rfl ?_
          refine SC.skip ?_
          refine SX.blk ?_
          first
            | (have hw : e.open_ s now = e := (if_neg (by omega)).trans ((if_neg (by omega)).trans ((if_neg (by omega)).trans (if_neg (by omega)))); rw [hw]; refine SX.drop ?_; exact SX.ret0 (.inr rfl) rfl ⟨_, _, at_, Eo, Ei, hB, rfl⟩)
            | (have hw : e.open_ s now = e.data s.seq s.data := (if_neg (by omega)).trans ((if_neg (by omega)).trans (if_pos (by omega))); have hd : e.data s.seq s.data = { e with owes := true } := if_neg (fun h => by obtain ⟨h1, h2, h3⟩ := h; first | omega | (simp_all; done)); rw [hw, hd]; refine SX.drop ?_; exact SX.ret0 (.inr rfl) rfl ⟨_, _, at_, Eo, Ei, ⟨hB.out, hB.inn, hB.tm, hB.clock, owes_ok hok true⟩, rfl⟩)
      · refine SC.seq ?_
        refine SC.plain ?_
        refine St.eql rfl rfl rfl ?_
        refine St.assign rfl rfl ?_
        refine St.done ?_
        refine SX.seq ?_
        refine SC.condp rfl (fun c62 => ?_) (fun c62 => ?_)
        · refine SC.seq ?_
          refine SC.plain ?_
          refine St.move rfl rfl ?_
          refine St.nilCheck rfl rfl ?_
          refine St.fieldAddr (off := 13) rfl rfl (by kernel_rfl) ?_
          first | refine St.store rfl rfl rfl rfl (by kernel_rfl) (Nat.le_of_ble_eq_true rfl) (by first | exact fun _ h => h.nil | exact fun _ h => h | exact fun _ h => h.drop | exact fun _ h => h.drop.drop | exact fun _ h => h.drop.drop.drop) ?_ | refine St.store1 rfl rfl rfl rfl (by kernel_rfl) (Nat.le_of_ble_eq_true rfl) (by first | exact fun _ h => h.nil | exact fun _ h => h | exact fun _ h => h.drop | exact fun _ h => h.drop.drop | exact fun _ h => h.drop.drop.drop) ?_ | refine St.store2 rfl rfl rfl rfl (by kernel_rfl) (Nat.le_of_ble_eq_true rfl) (by first | exact fun _ h => h.nil | exact fun _ h => h | exact fun _ h => h.drop | exact fun _ h => h.drop.drop | exact fun _ h => h.drop.drop.drop) ?_ | refine St.store3 rfl rfl rfl rfl (by kernel_rfl) (Nat.le_of_ble_eq_true rfl) (by first | exact fun _ h => h.nil | exact fun _ h => h | exact fun _ h => h.drop | exact fun _ h => h.drop.drop | exact fun _ h => h.drop.drop.drop) ?_ | refine St.store4 rfl rfl rfl rfl (by kernel_rfl) (Nat.le_of_ble_eq_true rfl) (by first | exact fun _ h => h.nil | exact fun _ h => h | exact fun _ h => h.drop | exact fun _ h => h.drop.drop | exact fun _ h => h.drop.drop.drop) ?_ | refine St.store5 rfl rfl rfl rfl (by kernel_rfl) (Nat.le_of_ble_eq_true rfl) (by first | exact fun _ h => h.nil | exact fun _ h => h | exact fun _ h => h.drop | exact fun _ h => h.drop.drop | exact fun _ h => h.drop.drop.drop) ?_
          refine St.done ?_
          refine SX.seq ?_
          refine SC.seq ?_
          refine SC.drawn [(0, true), (1, true), (2, true), (3, true), (4, true), (5, true), (6, true), (7, true)] [] (_) (by kernel_rfl) (by kernel_rfl) (fun _ h => h) ?_
          refine St.fieldAddr (off := 2) rfl rfl (by kernel_rfl) ?_
          refine St.load rfl rfl (by kernel_rfl) (by first | exact Holds.row mem0 rfl | exact Holds.row mem1 rfl | exact Holds.row mem2 rfl | exact Holds.row mem3 rfl | exact Holds.row mem4 rfl | exact Holds.row mem5 rfl | exact Holds.row mem6 rfl | exact Holds.row mem7 rfl | exact Holds.row mem8 rfl) ?_
          refine St.move rfl rfl ?_
          refine St.nilCheck rfl rfl ?_
          refine St.fieldAddr (off := 10) rfl rfl (by kernel_rfl) ?_
          refine St.load rfl rfl (by kernel_rfl) (by first | exact Holds.row mem0 rfl | exact Holds.row mem1 rfl | exact Holds.row mem2 rfl | exact Holds.row mem3 rfl | exact Holds.row mem4 rfl | exact Holds.row mem5 rfl | exact Holds.row mem6 rfl | exact Holds.row mem7 rfl | exact Holds.row mem8 rfl) ?_
          refine St.lenSl rfl rfl (by kernel_rfl) ?_
          refine St.eql rfl rfl rfl ?_
          refine St.done ?_
          refine SX.tail ?_
          refine St.done ?_
          refine SX.seq ?_
          refine SC.condp rfl (fun c74 => ?_) (fun c74 => ?_)
          · refine SC.plain ?_
            refine St.move rfl rfl ?_
            refine St.nilCheck rfl rfl ?_
            refine St.fieldAddr (off := 12) rfl rfl (by kernel_rfl) ?_
            first | refine St.store rfl rfl rfl rfl (by kernel_rfl) (Nat.le_of_ble_eq_true rfl) (by first | exact fun _ h => h.nil | exact fun _ h => h | exact fun _ h => h.drop | exact fun _ h => h.drop.drop | exact fun _ h => h.drop.drop.drop) ?_ | refine St.store1 rfl rfl rfl rfl (by kernel_rfl) (Nat.le_of_ble_eq_true rfl) (by first | exact fun _ h => h.nil | exact fun _ h => h | exact fun _ h => h.drop | exact fun _ h => h.drop.drop | exact fun _ h => h.drop.drop.drop) ?_ | refine St.store2 rfl rfl rfl rfl (by kernel_rfl) (Nat.le_of_ble_eq_true rfl) (by first | exact fun _ h => h.nil | exact fun _ h => h | exact fun _ h => h.drop | exact fun _ h => h.drop.drop | exact fun _ h => h.drop.drop.drop) ?_ | refine St.store3 rfl rfl rfl rfl (by kernel_rfl) (Nat.le_of_ble_eq_true rfl) (by first | exact fun _ h => h.nil | exact fun _ h => h | exact fun _ h => h.drop | exact fun _ h => h.drop.drop | exact fun _ h => h.drop.drop.drop) ?_ | refine St.store4 rfl rfl rfl rfl (by kernel_rfl) (Nat.le_of_ble_eq_true rfl) (by first | exact fun _ h => h.nil | exact fun _ h => h | exact fun _ h => h.drop | exact fun _ h => h.drop.drop | exact fun _ h => h.drop.drop.drop) ?_ | refine St.store5 rfl rfl rfl rfl (by kernel_rfl) (Nat.le_of_ble_eq_true rfl) (by first | exact fun _ h => h.nil | exact fun _ h => h | exact fun _ h => h.drop | exact fun _ h => h.drop.drop | exact fun _ h => h.drop.drop.drop) ?_
            refine St.done ?_
            refine SX.blk ?_
            have hw : e.open_ s now = e.fin s.seq := (if_neg (by omega)).trans ((if_neg (by omega)).trans ((if_neg (by omega)).trans (if_pos (by omega))))
            rw [hw]
            refine SX.drop ?_
            refine SX.ret0 (.inr rfl) rfl ⟨_, _, at_, Eo, Ei, ⟨hB.out, hB.inn, hB.tm, hB.clock, fin_ok hok s.seq⟩, ?_⟩
            unfold EnL enRow En.fin
            rw [decide_eq_true c74, Bool.or_true]
            rfl
          · refine SC.skip ?_
            refine SX.blk ?_
            have hw : e.open_ s now = e.fin s.seq := (if_neg (by omega)).trans ((if_neg (by omega)).trans ((if_neg (by omega)).trans (if_pos (by omega))))
            rw [hw]
            refine SX.drop ?_
            refine SX.ret0 (.inr rfl) rfl ⟨_, _, at_, Eo, Ei, ⟨hB.out, hB.inn, hB.tm, hB.clock, fin_ok hok s.seq⟩, ?_⟩
            unfold EnL enRow En.fin
            rw [decide_eq_false c74, Bool.or_false]
            rfl
        · refine SC.skip ?_
          refine SX.blk ?_
          first
            | (have hw : e.open_ s now = e := (if_neg (by omega)).trans ((if_neg (by omega)).trans ((if_neg (by omega)).trans (if_neg (by omega)))); rw [hw]; refine SX.drop ?_; exact SX.ret0 (.inr rfl) rfl ⟨_, _, at_, Eo, Ei, hB, rfl⟩)
            | (have hw : e.open_ s now = e.data s.seq s.data := (if_neg (by omega)).trans ((if_neg (by omega)).trans (if_pos (by omega))); have hd : e.data s.seq s.data = { e with owes := true } := if_neg (fun h => by obtain ⟨h1, h2, h3⟩ := h; first | omega | (simp_all; done)); rw [hw, hd]; refine SX.drop ?_; exact SX.ret0 (.inr rfl) rfl ⟨_, _, at_, Eo, Ei, ⟨hB.out, hB.inn, hB.tm, hB.clock, owes_ok hok true⟩, rfl⟩)
def takFns : List Value := [.nilFunc, .func (.func 174) #[] #[], .func (.func 175) #[] #[], .func (.func 176) #[] #[], .nilFunc]

theorem takings_spec (w0 : World) (L : List Chunk) : Meets Try.prog 130 #[] w0 L (fun r L' => L = L' ∧ r = .agg takFns.toArray) := by
  refine Meets.of_body [] Try.func130 rfl Try.ntmps130 rfl ?_
  refine SC.seq ?_
  refine SC.plain ?_
  refine St.alloc [.nilFunc, .nilFunc, .nilFunc, .nilFunc, .nilFunc] rfl (by kernel_rfl) (fun _ _ h => h.nil) (fun b0 => ?_)
  refine St.done ?_
  refine SX.seq ?_
  refine SC.seq ?_
  refine SC.plain ?_
  refine St.build [(1, .func (.func 174) #[] #[]), (2, .func (.func 175) #[] #[]), (3, .func (.func 176) #[] #[])] takFns rfl rfl (by kernel_rfl) ?_
  refine St.storeN rfl rfl rfl takFns rfl (by kernel_rfl) (by simp [takFns, one]) (by simp [takFns]) (fun _ h => h.nil) ?_
  rw [show splice [.nilFunc, .nilFunc, .nilFunc, .nilFunc, .nilFunc] 0 takFns = takFns from rfl]
  refine St.done ?_
  refine SX.seq ?_
  refine SC.ret ?_
  exact SX.retC takFns (.inl rfl) rfl rfl (by kernel_rfl) (HoldsN.of_row mem0) (fun _ h => h.drop) ⟨rfl, rfl⟩
theorem taking_spec (w0 : World) (L : List Chunk) (p : Nat) (e : En) (ov iv : Value) (at_ : Int) (Eo Ei : Chunk) (hB : EnB e ov iv at_ Eo Ei) (s : Seg) (dv : Value) (hS : SegIn w0 L s dv) (now : Int) (hn : Clock now) (h4 : e.st ≠ 4) (h5 : s.ty ≠ 5) :
    ∃ g, takFns[e.st]? = some (.func (.func g) #[] #[]) ∧ callable Try.prog g = true ∧ Meets Try.prog g #[.pointer (some ⟨p, 0, none⟩), .agg (segCells s dv).toArray, .int .i64 now] w0 (EnL p e ov iv at_ Eo Ei L) (fun r L' => EnAt p (e.seg s now) L L') := by
  have hst := hB.ok.st
  have h3 : e.st = 1 ∨ e.st = 2 ∨ e.st = 3 := by omega
  rcases h3 with h | h | h
  · refine ⟨174, by rw [h]; rfl, by kernel_rfl, ?_⟩
    have := dialing_spec w0 L p e ov iv at_ Eo Ei hB s dv hS now hn h
    rwa [show (if s.ty = 2 ∧ s.ack = 0 then { e with st := 3 } else e) = e.seg s now from ((if_neg h5).trans (if_pos h)).symm] at this
  · refine ⟨175, by rw [h]; rfl, by kernel_rfl, ?_⟩
    have := listening_spec w0 L p e ov iv at_ Eo Ei hB s dv hS now hn
    rwa [show (if s.ty = 1 then { e with st := 3, owes := true } else e) = e.seg s now from ((if_neg h5).trans ((if_neg (by omega)).trans (if_pos h))).symm] at this
  · refine ⟨176, by rw [h]; rfl, by kernel_rfl, ?_⟩
    have := open_spec w0 L p e ov iv at_ Eo Ei hB s dv hS now hn (by omega)
    rwa [show e.open_ s now = e.seg s now from ((if_neg h5).trans ((if_neg (by omega)).trans (if_neg (by omega)))).symm] at this

theorem in18_spec (w0 : World) (L : List Chunk) (p : Nat) (e : En) (ov iv : Value) (at_ : Int) (Eo Ei : Chunk) (hB : EnB e ov iv at_ Eo Ei) (v : Value) (bs : List Nat) (hv : Rd w0 L v 1 bs.length (bytes bs)) (hcp : Cap v) (hl : bs.length ≤ 140737488351232) (hlt : ∀ b ∈ bs, b < 256) (now : Int) (hn : Clock now) :
    Meets Try.prog 68 #[.pointer (some ⟨p, 0, none⟩), v, .int .i64 now] w0 (EnL p e ov iv at_ Eo Ei L) (fun r L' => EnAt p (e.inp bs now) L L') := by
  obtain ⟨⟨Ao, co, rfl⟩, ⟨Ai, ci, rfl⟩⟩ := hB.slices
  have hok := hB.ok
  have hr1 := hok.room
  have hr2 := hok.inn
  have hu := hok.una
  have hx := hok.next
  have hid := hok.id
  have hst := hok.st
  unfold EnL
  refine Meets.of_body [.pointer (some ⟨p, 0, none⟩), v, .int .i64 now] Try.func68 rfl Try.ntmps68 rfl ?_
  refine SC.seq ?_
  refine SC.plain ?_
  refine St.move rfl rfl ?_
  refine St.call [_] rfl (by kernel_rfl) rfl (parse_spec w0 _ v bs (Rd.mono hv (fun w hw => by first | exact hw | exact hw.drop | exact hw.drop.drop | exact hw.drop.drop.drop | exact hw.drop.drop.drop.drop | exact hw.drop.drop.drop.drop.drop | exact hw.drop.drop.drop.drop.drop.drop | exact hw.drop.drop.drop.drop.drop.drop.drop | exact hw.drop.drop.drop.drop.drop.drop.drop.drop)) hcp hl hlt) (by first | exact fun _ _ _ _ h => h.nil | assumption) ?_
  rintro r L1 ⟨dv, Ed, rfl, rfl, hbd⟩
  have hbr := hbd.read
  obtain ⟨bd, od, Ad, cd, rfl, hAd, _⟩ := hbr
  have hSd : SegIn w0 (Ed :: L) (segFrom bs) (.slice Ad (segFrom bs).data.length cd) := ⟨hbd.rd (by simp), hbd.cap, by unfold segFrom; split; (rw [List.length_take, List.length_drop]; omega); decide, segFrom_lt hlt⟩
  refine St.move rfl rfl ?_
  refine St.extract rfl rfl rfl ?_
  refine St.extract rfl rfl rfl ?_
  refine St.alloc [.int .i64 0, .int .i64 0, .int .i64 0, .int .i64 0, .slice none 0 0] rfl (by kernel_rfl) (by first | exact fun _ _ h => h.nil | exact fun _ _ h => h | exact fun _ _ h => h.drop | exact fun _ _ h => h.drop.drop | exact fun _ _ h => h.drop.drop.drop) (fun b6 => ?_)
  refine St.storeN rfl rfl rfl (segCells (segFrom bs) (.slice Ad (segFrom bs).data.length cd)) rfl (by kernel_rfl) (by simp [segCells, one]) (by simp [segCells]) (fun _ h => h.nil) ?_
  rw [show splice [.int .i64 0, .int .i64 0, .int .i64 0, .int .i64 0, .slice none 0 0] 0 (segCells (segFrom bs) (.slice Ad (segFrom bs).data.length cd)) = segCells (segFrom bs) (.slice Ad (segFrom bs).data.length cd) from rfl]
  refine St.assign rfl rfl ?_
  refine St.done ?_
  refine SX.seq ?_
  refine SC.seq ?_
  refine SC.seq ?_
  refine SC.drawn [(0, true), (1, true), (2, true), (3, true), (4, true), (5, true), (6, true), (7, true), (8, true), (9, true), (10, true), (11, true), (12, true), (13, true), (14, true), (15, true), (16, true), (17, true), (18, true)] [] (_) (by kernel_rfl) (by kernel_rfl) (fun _ h => h) ?_
  refine St.move rfl rfl ?_
  refine St.notB rfl rfl ?_
  refine St.move rfl rfl ?_
  refine St.splitB 15 rfl (fun g15 => ?_) (fun g15 => ?_)
  · refine St.guard_no rfl rfl rfl ?_
    refine St.guard_no rfl rfl rfl ?_
    refine St.guard_no rfl rfl rfl ?_
    refine St.guard_no rfl rfl rfl ?_
    refine St.guard_no rfl rfl rfl ?_
    refine St.guard_no rfl rfl rfl ?_
    refine St.guard_no rfl rfl rfl ?_
    refine St.guard_no rfl rfl rfl ?_
    refine St.pick_true rfl rfl rfl ?_
    refine St.move rfl rfl ?_
    refine St.guard_no rfl rfl rfl ?_
    refine St.guard_no rfl rfl rfl ?_
    refine St.guard_no rfl rfl rfl ?_
    refine St.guard_no rfl rfl rfl ?_
    refine St.guard_no rfl rfl rfl ?_
    refine St.pick_true rfl rfl rfl ?_
    refine St.done ?_
    refine SX.tail ?_
    refine St.done ?_
    refine SX.seq ?_
    refine SC.cond_true rfl ?_
    refine SC.ret ?_
    refine SX.seq_ret ?_
    have hw : e.inp bs now = e := if_pos (.inl (by simpa using g15))
    rw [hw]
    refine SX.drop (SX.drop ?_)
    exact SX.ret0 (.inl rfl) rfl ⟨_, _, at_, Eo, Ei, hB, rfl⟩
  · refine St.guard_yes rfl rfl ?_
    refine St.fieldAddr (off := 1) rfl rfl (by kernel_rfl) ?_
    refine St.guard_yes rfl rfl ?_
    refine St.load rfl rfl (by kernel_rfl) (by first | exact Holds.row mem0 rfl | exact Holds.row mem1 rfl | exact Holds.row mem2 rfl | exact Holds.row mem3 rfl | exact Holds.row mem4 rfl | exact Holds.row mem5 rfl | exact Holds.row mem6 rfl | exact Holds.row mem7 rfl | exact Holds.row mem8 rfl) ?_
    refine St.guard_yes rfl rfl ?_
    refine St.move rfl rfl ?_
    refine St.guard_yes rfl rfl ?_
    refine St.nilCheck rfl rfl ?_
    refine St.guard_yes rfl rfl ?_
    refine St.fieldAddr (off := 0) rfl rfl (by kernel_rfl) ?_
    refine St.guard_yes rfl rfl ?_
    refine St.load rfl rfl (by kernel_rfl) (by first | exact Holds.row mem0 rfl | exact Holds.row mem1 rfl | exact Holds.row mem2 rfl | exact Holds.row mem3 rfl | exact Holds.row mem4 rfl | exact Holds.row mem5 rfl | exact Holds.row mem6 rfl | exact Holds.row mem7 rfl | exact Holds.row mem8 rfl) ?_
    refine St.guard_yes rfl rfl ?_
    refine St.convS rfl rfl (by kernel_rfl) (by kernel_rfl) (by omega) ?_
    refine St.guard_yes rfl rfl ?_
    refine St.neq rfl rfl rfl ?_
    refine St.pick_false rfl rfl rfl ?_
    refine St.move rfl rfl ?_
    refine St.split 25 rfl (fun g25 => ?_) (fun g25 => ?_)
    · refine St.guard_no rfl rfl rfl ?_
      refine St.guard_no rfl rfl rfl ?_
      refine St.guard_no rfl rfl rfl ?_
      refine St.guard_no rfl rfl rfl ?_
      refine St.guard_no rfl rfl rfl ?_
      refine St.pick_true rfl rfl rfl ?_
      refine St.done ?_
      refine SX.tail ?_
      refine St.done ?_
      refine SX.seq ?_
      refine SC.cond_true rfl ?_
      refine SC.ret ?_
      refine SX.seq_ret ?_
      have hw : e.inp bs now = e := if_pos (.inr (.inl g25))
      rw [hw]
      refine SX.drop (SX.drop ?_)
      exact SX.ret0 (.inl rfl) rfl ⟨_, _, at_, Eo, Ei, hB, rfl⟩
    · refine St.guard_yes rfl rfl ?_
      refine St.move rfl rfl ?_
      refine St.guard_yes rfl rfl ?_
      refine St.nilCheck rfl rfl ?_
      refine St.guard_yes rfl rfl ?_
      refine St.fieldAddr (off := 1) rfl rfl (by kernel_rfl) ?_
      refine St.guard_yes rfl rfl ?_
      refine St.load rfl rfl (by kernel_rfl) (by first | exact Holds.row mem0 rfl | exact Holds.row mem1 rfl | exact Holds.row mem2 rfl | exact Holds.row mem3 rfl | exact Holds.row mem4 rfl | exact Holds.row mem5 rfl | exact Holds.row mem6 rfl | exact Holds.row mem7 rfl | exact Holds.row mem8 rfl) ?_
      refine St.guard_yes rfl rfl ?_
      refine St.eql rfl rfl rfl ?_
      refine St.pick_false rfl rfl rfl ?_
      refine St.done ?_
      refine SX.tail ?_
      refine St.done ?_
      refine SX.seq ?_
      refine SC.condp rfl (fun c31 => ?_) (fun c31 => ?_)
      · refine SC.ret ?_
        refine SX.seq_ret ?_
        have hw : e.inp bs now = e := if_pos (.inr (.inr (by omega)))
        rw [hw]
        refine SX.drop (SX.drop ?_)
        exact SX.ret0 (.inl rfl) rfl ⟨_, _, at_, Eo, Ei, hB, rfl⟩
      · have hsg : isSeg bs = true := by simpa using g15
        have hw : e.inp bs now = e.seg (segFrom bs) now := if_neg (by rintro (h | h | h); (rw [hsg] at h; cases h); (exact g25 h); omega)
        refine SC.skip ?_
        refine SX.seq ?_
        refine SC.seq ?_
        refine SC.seq ?_
        refine SC.plain ?_
        refine St.fieldAddr (off := 0) rfl rfl (by kernel_rfl) ?_
        refine St.load rfl rfl (by kernel_rfl) (by first | exact Holds.row mem0 rfl | exact Holds.row mem1 rfl | exact Holds.row mem2 rfl | exact Holds.row mem3 rfl | exact Holds.row mem4 rfl | exact Holds.row mem5 rfl | exact Holds.row mem6 rfl | exact Holds.row mem7 rfl | exact Holds.row mem8 rfl) ?_
        refine St.eql rfl rfl rfl ?_
        refine St.done ?_
        refine SX.seq ?_
        refine SC.condp rfl (fun c34 => ?_) (fun c34 => ?_)
        · refine SC.seq ?_
          refine SC.plain ?_
          refine St.move rfl rfl ?_
          refine St.nilCheck rfl rfl ?_
          refine St.fieldAddr (off := 1) rfl rfl (by kernel_rfl) ?_
          first | refine St.store rfl rfl rfl rfl (by kernel_rfl) (Nat.le_of_ble_eq_true rfl) (by first | exact fun _ h => h.nil | exact fun _ h => h | exact fun _ h => h.drop | exact fun _ h => h.drop.drop | exact fun _ h => h.drop.drop.drop) ?_ | refine St.store1 rfl rfl rfl rfl (by kernel_rfl) (Nat.le_of_ble_eq_true rfl) (by first | exact fun _ h => h.nil | exact fun _ h => h | exact fun _ h => h.drop | exact fun _ h => h.drop.drop | exact fun _ h => h.drop.drop.drop) ?_ | refine St.store2 rfl rfl rfl rfl (by kernel_rfl) (Nat.le_of_ble_eq_true rfl) (by first | exact fun _ h => h.nil | exact fun _ h => h | exact fun _ h => h.drop | exact fun _ h => h.drop.drop | exact fun _ h => h.drop.drop.drop) ?_ | refine St.store3 rfl rfl rfl rfl (by kernel_rfl) (Nat.le_of_ble_eq_true rfl) (by first | exact fun _ h => h.nil | exact fun _ h => h | exact fun _ h => h.drop | exact fun _ h => h.drop.drop | exact fun _ h => h.drop.drop.drop) ?_ | refine St.store4 rfl rfl rfl rfl (by kernel_rfl) (Nat.le_of_ble_eq_true rfl) (by first | exact fun _ h => h.nil | exact fun _ h => h | exact fun _ h => h.drop | exact fun _ h => h.drop.drop | exact fun _ h => h.drop.drop.drop) ?_ | refine St.store5 rfl rfl rfl rfl (by kernel_rfl) (Nat.le_of_ble_eq_true rfl) (by first | exact fun _ h => h.nil | exact fun _ h => h | exact fun _ h => h.drop | exact fun _ h => h.drop.drop | exact fun _ h => h.drop.drop.drop) ?_
          refine St.done ?_
          refine SX.seq ?_
          refine SC.ret ?_
          refine SX.seq_ret ?_
          have hw2 : e.seg (segFrom bs) now = { e with st := 4 } := if_pos (by omega)
          rw [hw, hw2]
          refine SX.drop (SX.drop ?_)
          exact SX.ret0 (.inl rfl) rfl ⟨_, _, at_, Eo, Ei, ⟨hB.out, hB.inn, hB.tm.imp id (fun h => ⟨h.1, (show (4 : Nat) ≠ 1 by decide)⟩), hB.clock, st_ok hok 4 (by decide)⟩, rfl⟩
        · refine SC.skip ?_
          refine SX.seq ?_
          obtain ⟨g, hg1, hg2, hg3⟩ := taking_spec w0 ([⟨b6, segCells (segFrom bs) (.slice Ad (segFrom bs).data.length cd), 73⟩] :: Ed :: L) p e _ _ at_ Eo Ei hB (segFrom bs) (.slice Ad (segFrom bs).data.length cd) (hSd.mono fun w hw => hw.drop) now hn (by omega) (by omega)
          have hg4 := hg3.perm (perm25 _ _ _ _ _ _)
          refine SC.drawn [(1, true), (2, true), (3, true), (4, true), (6, true), (7, true), (8, true), (0, false), (5, true)] [9] (_) (by kernel_rfl) (by kernel_rfl) (fun _ h => h) ?_
          refine St.move rfl rfl ?_
          refine St.nilCheck rfl rfl ?_
          refine St.fieldAddr (off := 1) rfl rfl (by kernel_rfl) ?_
          refine St.load rfl rfl (by kernel_rfl) (by first | exact Holds.row mem0 rfl | exact Holds.row mem1 rfl | exact Holds.row mem2 rfl | exact Holds.row mem3 rfl | exact Holds.row mem4 rfl | exact Holds.row mem5 rfl | exact Holds.row mem6 rfl | exact Holds.row mem7 rfl | exact Holds.row mem8 rfl) ?_
          refine St.move rfl rfl ?_
          refine St.loadAgg (segCells (segFrom bs) (.slice Ad (segFrom bs).data.length cd)) rfl rfl (by kernel_rfl) (HoldsN.of_row mem0) ?_
          refine St.move rfl rfl ?_
          refine St.call [] rfl (by kernel_rfl) rfl (takings_spec w0 _) (fun _ _ _ h hw => by rw [← h.1] at hw; exact hw) ?_
          rintro r4 L1 ⟨rfl, rfl⟩
          refine St.indexAgg (n := 5) (sz := 1) (v := .func (.func g) #[] #[]) rfl rfl rfl (by kernel_rfl) (by kernel_rfl) (by omega) (by rw [Int.toNat_natCast, Nat.mul_one]; exact hg1) ?_
          refine St.done ?_
          refine SX.tail ?_
          refine St.callv [_, _, _] rfl hg2 rfl rfl (by simp only [Array.append_empty]; exact hg4) (fun _ _ _ _ h => h.nil) ?_
          rintro r5 L1 ⟨ov2, iv2, at2, Eo2, Ei2, hB2, rfl⟩
          unfold EnL
          refine St.done ?_
          rw [hw]
          refine SX.perm _ (perm25 _ _ _ _ _ _).symm ?_
          refine SX.drop (SX.drop ?_)
          exact SX.ret0 (.inr rfl) rfl ⟨ov2, iv2, at2, Eo2, Ei2, hB2, rfl⟩
theorem clip55_spec (w0 : World) (L : List Chunk) (v : Value) (xs : List Value) (n : Nat) (E : Chunk) (hb : Buf 35 1 v xs n E) :
    Meets Try.prog 129 #[v] w0 (E :: L) (fun r L' => E :: L = L' ∧ Buf 35 1 r xs n E) := by
  have hbr := hb.read
  obtain ⟨b, o, A, c, rfl, _, _⟩ := hbr
  refine Meets.of_body [.slice A n c] Try.func129 rfl Try.ntmps129 rfl ?_
  refine SC.seq ?_
  refine SC.plain ?_
  refine St.assign rfl rfl ?_
  refine St.done ?_
  refine SX.seq ?_
  refine SC.seq ?_
  refine SC.plain ?_
  refine St.move rfl rfl ?_
  refine St.move rfl rfl ?_
  refine St.lenSl rfl rfl (by kernel_rfl) ?_
  refine St.move rfl rfl ?_
  refine St.lenSl rfl rfl (by kernel_rfl) ?_
  refine St.clip rfl rfl (by kernel_rfl) hb ⟨_, rfl⟩ ⟨_, rfl⟩ (fun v2 hb2 => ?_)
  refine St.assign rfl rfl ?_
  refine St.done ?_
  refine SX.seq ?_
  refine SC.ret ?_
  exact SX.ret1 rfl rfl ⟨rfl, hb2⟩
end Go.Proofs.Ytahafepgmkiabaa
