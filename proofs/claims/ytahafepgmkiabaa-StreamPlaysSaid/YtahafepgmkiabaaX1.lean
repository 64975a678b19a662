/- Walks: the document's ends of streams: small methods, what datagrams do. -/
import Derived.Test.YtahafepgmkiabaaU4
import Derived.Test.YtahafepgmkiabaaU6
import Derived.Test.YtahafepgmkiabaaSepR
set_option linter.unusedVariables false
set_option linter.unusedSimpArgs false
set_option linter.ambiguousOpen false
namespace Go.Proofs.Ytahafepgmkiabaa
open Go Go.Proofs.Ytahafepgmkiabaa.Sep

theorem text_app2 (a b : List Nat) : text (a ++ b) = text a ++ text b := by
  apply ByteArray.ext
  apply Array.ext'
  rw [text_data, ByteArray.data_append, Array.toList_append, text_data, text_data, List.map_append]
theorem text_ext (bs : List Nat) (l h : Nat) : (text bs).extract l h = text ((bs.drop l).take (h - l)) := by
  apply ByteArray.ext
  apply Array.ext'
  rw [ByteArray.data_extract, Array.toList_extract, text_data, text_data, List.map_take, List.map_drop]
theorem text_nil : text [] = ⟨#[]⟩ := rfl
/-- The row of one of the document's ends. -/
def wnRow (e : En) : List Value :=
  [.int .i64 ((e.id : Nat) : Int), .int .i64 ((e.st : Nat) : Int), .string (text e.out), .bool e.closed, .int .i64 ((e.una : Nat) : Int), .int .i64 ((e.next : Nat) : Int), .bool e.endSent, .bool e.endAcked, .int .i64 e.at_, .bool e.asked, .string (text e.inn), .int .i64 ((e.read : Nat) : Int), .bool e.other, .bool e.owes]
def wnOf (id st : Nat) (out : List Nat) (closed : Bool) (una next : Nat) (endSent endAcked : Bool) (at_ : Int) (asked : Bool) (inn : List Nat) (read : Nat) (other owes : Bool) : List Value :=
  [.int .i64 ((id : Nat) : Int), .int .i64 ((st : Nat) : Int), .string (text out), .bool closed, .int .i64 ((una : Nat) : Int), .int .i64 ((next : Nat) : Int), .bool endSent, .bool endAcked, .int .i64 at_, .bool asked, .string (text inn), .int .i64 ((read : Nat) : Int), .bool other, .bool owes]
def WnL (p : Nat) (e : En) (L : List Chunk) : List Chunk := [⟨p, wnRow e, 204⟩] :: L
theorem strEq (a b : Nat) : ((a : Int) = (b : Int)) ↔ a = b := by omega
theorem idle_eq {e : En} (h : e.Ok) : e.idle = (decide (e.st = 4) || (decide (e.st ≠ 1) && (!e.owes && decide (e.una = e.out.length) && (!e.closed || e.endAcked)))) := by
  have h1 := h.una
  have h2 := h.next
  have h3 := h.sent
  have h4 := h.acked
  unfold En.idle En.waits
  congr 2
  cases ho : e.owes with
  | true => simp
  | false =>
    by_cases hl : e.una = e.out.length
    · have hn : e.next = e.out.length := by omega
      rw [decide_eq_false (by omega : ¬ e.una < e.next), decide_eq_true hn, decide_eq_true hl]
      cases hc : e.closed with
      | true => cases hs : e.endSent <;> cases ha : e.endAcked <;> simp_all
      | false =>
        have hs : e.endSent = false := by
          cases hs : e.endSent with
          | false => rfl
          | true => have := (h3 hs).2; rw [hc] at this; cases this
        rw [hs]; rfl
    · rw [decide_eq_false hl]
      by_cases hn : e.next = e.out.length
      · rw [decide_eq_true (by omega : e.una < e.next)]; simp
      · rw [decide_eq_false hn]; simp
theorem getD_lt18 {bs : List Nat} (hb : ∀ b ∈ bs, b < 256) (j : Nat) : bs.getD j 0 < 256 := by
  rw [List.getD_eq_getElem?_getD]
  cases h : bs[j]? with
  | none => simp
  | some x => simpa using hb x (List.mem_of_getElem? h)
theorem segFrom_num2 {bs : List Nat} (hb : ∀ b ∈ bs, b < 256) : (segFrom bs).data.length ≤ bs.length := by
  unfold segFrom
  split
  · simp only [List.length_take, List.length_drop]; omega
  · simp [noSeg]
theorem seg_rng {bs : List Nat} (h : isSeg bs = true) (hb : ∀ b ∈ bs, b < 256) : 1 ≤ (segFrom bs).ty ∧ (segFrom bs).ty ≤ 5 ∧ 0 ≤ (segFrom bs).ack ∧ (segFrom bs).ack < 4294967296 := by
  have e : num bs 9 < 4294967296 := be32_lt (getD_lt18 hb 12)
  unfold segFrom
  rw [if_pos h]
  unfold isSeg at h
  simp only [Bool.and_eq_true, decide_eq_true_eq] at h
  exact ⟨by simp only; omega, by simp only; omega, by simp only; omega, by simp only; omega⟩
theorem en_eta (e : En) : (⟨e.id, e.st, e.asked, e.out, e.una, e.next, e.at_, e.closed, e.endSent, e.endAcked, e.inn, e.read, e.other, e.owes⟩ : En) = e := rfl

theorem wdial_spec (w0 : World) (L : List Chunk) (id : Int) :
    Meets Try.prog 77 #[.int .i64 id] w0 L (fun r L' => ∃ p, r = .pointer (some ⟨p, 0, none⟩) ∧ L' = WnL p (enNew id 1) L) := by
  have hid := u32i_lt id
  refine Meets.of_body [.int .i64 id] Try.func77 rfl Try.ntmps77 rfl ?_
  refine SC.seq ?_
  refine SC.plain ?_
  refine St.assign rfl rfl ?_
  refine St.done ?_
  refine SX.seq ?_
  refine SC.seq ?_
  refine SC.plain ?_
  refine St.move rfl rfl ?_
  refine St.convZ un32 rfl rfl (by kernel_rfl) (by kernel_rfl) ?_
  rw [u32i_conv]
  refine St.convS rfl rfl (by kernel_rfl) (by kernel_rfl) (by omega) ?_
  refine St.build [(0, .int .i64 ((u32i id : Nat) : Int)), (1, .int .i64 1)] (wnRow (enNew id 1)) rfl rfl (by kernel_rfl) ?_
  refine St.box (wnRow (enNew id 1)) rfl rfl rfl (fun _ _ h => h.nil) (fun p => ?_)
  refine St.assign rfl rfl ?_
  refine St.done ?_
  refine SX.seq ?_
  refine SC.ret ?_
  exact SX.ret1 rfl rfl ⟨p, rfl, rfl⟩
theorem wlisten_spec (w0 : World) (L : List Chunk) (id : Int) :
    Meets Try.prog 78 #[.int .i64 id] w0 L (fun r L' => ∃ p, r = .pointer (some ⟨p, 0, none⟩) ∧ L' = WnL p (enNew id 2) L) := by
  have hid := u32i_lt id
  refine Meets.of_body [.int .i64 id] Try.func78 rfl Try.ntmps78 rfl ?_
  refine SC.seq ?_
  refine SC.plain ?_
  refine St.assign rfl rfl ?_
  refine St.done ?_
  refine SX.seq ?_
  refine SC.seq ?_
  refine SC.plain ?_
  refine St.move rfl rfl ?_
  refine St.convZ un32 rfl rfl (by kernel_rfl) (by kernel_rfl) ?_
  rw [u32i_conv]
  refine St.convS rfl rfl (by kernel_rfl) (by kernel_rfl) (by omega) ?_
  refine St.build [(0, .int .i64 ((u32i id : Nat) : Int)), (1, .int .i64 2)] (wnRow (enNew id 2)) rfl rfl (by kernel_rfl) ?_
  refine St.box (wnRow (enNew id 2)) rfl rfl rfl (fun _ _ h => h.nil) (fun p => ?_)
  refine St.assign rfl rfl ?_
  refine St.done ?_
  refine SX.seq ?_
  refine SC.ret ?_
  exact SX.ret1 rfl rfl ⟨p, rfl, rfl⟩
theorem wwrite_spec (w0 : World) (L : List Chunk) (p : Nat) (e : En) (hok : e.Ok) (bs : List Nat) (hb : bs.length ≤ 140737488351232) :
    Meets Try.prog 79 #[.pointer (some ⟨p, 0, none⟩), .string (text bs)] w0 (WnL p e L) (fun r L' => r = .int .i64 (e.write bs).2 ∧ L' = WnL p (e.write bs).1 L) := by
  have hr1 := hok.room
  have hr2 := hok.inn
  have hu := hok.una
  have hx := hok.next
  have hid := hok.id
  have hst := hok.st
  have hrd := hok.read
  have hat := hok.at_
  have hso := text_size e.out
  have hsi := text_size e.inn
  have hsb := text_size bs
  unfold WnL
  refine Meets.of_body [.pointer (some ⟨p, 0, none⟩), .string (text bs)] Try.func79 rfl Try.ntmps79 rfl ?_
  refine SC.seq ?_
  refine SC.plain ?_
  refine St.assign rfl rfl ?_
  refine St.done ?_
  refine SX.seq ?_
  refine SC.seq ?_
  refine SC.block ?_
  refine SC.seq ?_
  refine SC.plain ?_
  refine St.move rfl rfl ?_
  refine St.nilCheck rfl rfl ?_
  refine St.fieldAddr (off := 1) rfl rfl (by kernel_rfl) ?_
  refine St.load rfl rfl (by kernel_rfl) (by first | exact Holds.row mem0 rfl | exact Holds.row mem1 rfl | exact Holds.row mem2 rfl | exact Holds.row mem3 rfl | exact Holds.row mem4 rfl | exact Holds.row mem5 rfl | exact Holds.row mem6 rfl | exact Holds.row mem7 rfl | exact Holds.row mem8 rfl) ?_
  refine St.eql rfl rfl rfl ?_
  refine St.assign rfl rfl ?_
  refine St.done ?_
  refine SX.seq ?_
  refine SC.condp rfl (fun c5 => ?_) (fun c5 => ?_)
  · refine SC.seq ?_
    refine SC.plain ?_
    refine St.assign rfl rfl ?_
    refine St.done ?_
    refine SX.seq ?_
    refine SC.ret ?_
    refine SX.blk_ret ?_
    refine SX.seq_ret ?_
    have hw : e.write bs = (e, 81) := if_pos (by omega)
    rw [hw]
    exact SX.ret1 rfl rfl ⟨rfl, rfl⟩
  · refine SC.seq ?_
    refine SC.plain ?_
    refine St.move rfl rfl ?_
    refine St.nilCheck rfl rfl ?_
    refine St.fieldAddr (off := 3) rfl rfl (by kernel_rfl) ?_
    refine St.load rfl rfl (by kernel_rfl) (by first | exact Holds.row mem0 rfl | exact Holds.row mem1 rfl | exact Holds.row mem2 rfl | exact Holds.row mem3 rfl | exact Holds.row mem4 rfl | exact Holds.row mem5 rfl | exact Holds.row mem6 rfl | exact Holds.row mem7 rfl | exact Holds.row mem8 rfl) ?_
    refine St.assign rfl rfl ?_
    refine St.done ?_
    refine SX.seq ?_
    refine SC.cond rfl (fun c11 => ?_) (fun c11 => ?_)
    · refine SC.seq ?_
      refine SC.plain ?_
      refine St.assign rfl rfl ?_
      refine St.done ?_
      refine SX.seq ?_
      refine SC.ret ?_
      refine SX.blk_ret ?_
      refine SX.seq_ret ?_
      have hw : e.write bs = (e, 1) := (if_neg (by omega)).trans (if_pos c11)
      rw [hw]
      exact SX.ret1 rfl rfl ⟨rfl, rfl⟩
    · refine SC.seq ?_
      refine SC.plain ?_
      refine St.move rfl rfl ?_
      refine St.lenStr rfl rfl (by kernel_rfl) ?_
      rw [text_size]
      refine St.move rfl rfl ?_
      refine St.nilCheck rfl rfl ?_
      refine St.fieldAddr (off := 2) rfl rfl (by kernel_rfl) ?_
      refine St.load rfl rfl (by kernel_rfl) (by first | exact Holds.row mem0 rfl | exact Holds.row mem1 rfl | exact Holds.row mem2 rfl | exact Holds.row mem3 rfl | exact Holds.row mem4 rfl | exact Holds.row mem5 rfl | exact Holds.row mem6 rfl | exact Holds.row mem7 rfl | exact Holds.row mem8 rfl) ?_
      refine St.lenStr rfl rfl (by kernel_rfl) ?_
      rw [text_size]
      first | refine St.subN (a := 1048576) rfl rfl rfl (by omega) (by omega) ?_ | refine St.subI rfl rfl rfl (by omega) ?_
      refine St.gtr rfl rfl rfl ?_
      refine St.assign rfl rfl ?_
      refine St.done ?_
      refine SX.seq ?_
      refine SC.condp rfl (fun c16 => ?_) (fun c16 => ?_)
      · refine SC.seq ?_
        refine SC.plain ?_
        refine St.assign rfl rfl ?_
        refine St.done ?_
        refine SX.seq ?_
        refine SC.ret ?_
        refine SX.blk_ret ?_
        refine SX.seq_ret ?_
        have hw : e.write bs = (e, 60) := (if_neg (by omega)).trans ((if_neg (by rw [c11]; simp)).trans (if_pos (by omega)))
        rw [hw]
        exact SX.ret1 rfl rfl ⟨rfl, rfl⟩
      · refine SC.skip ?_
        refine SX.blk ?_
        refine SX.seq ?_
        refine SC.seq ?_
        refine SC.plain ?_
        refine St.move rfl rfl ?_
        refine St.move rfl rfl ?_
        refine St.nilCheck rfl rfl ?_
        refine St.fieldAddr (off := 2) rfl rfl (by kernel_rfl) ?_
        refine St.load rfl rfl (by kernel_rfl) (by first | exact Holds.row mem0 rfl | exact Holds.row mem1 rfl | exact Holds.row mem2 rfl | exact Holds.row mem3 rfl | exact Holds.row mem4 rfl | exact Holds.row mem5 rfl | exact Holds.row mem6 rfl | exact Holds.row mem7 rfl | exact Holds.row mem8 rfl) ?_
        refine St.move rfl rfl ?_
        refine St.strAdd rfl rfl rfl (by rw [text_size, text_size]; omega) ?_
        rw [← text_app2]
        refine St.nilCheck rfl rfl ?_
        refine St.fieldAddr (off := 2) rfl rfl (by kernel_rfl) ?_
        first | refine St.store rfl rfl rfl rfl (by kernel_rfl) (Nat.le_of_ble_eq_true rfl) (by first | exact fun _ h => h.nil | exact fun _ h => h | exact fun _ h => h.drop | exact fun _ h => h.drop.drop | exact fun _ h => h.drop.drop.drop) ?_ | refine St.store1 rfl rfl rfl rfl (by kernel_rfl) (Nat.le_of_ble_eq_true rfl) (by first | exact fun _ h => h.nil | exact fun _ h => h | exact fun _ h => h.drop | exact fun _ h => h.drop.drop | exact fun _ h => h.drop.drop.drop) ?_ | refine St.store2 rfl rfl rfl rfl (by kernel_rfl) (Nat.le_of_ble_eq_true rfl) (by first | exact fun _ h => h.nil | exact fun _ h => h | exact fun _ h => h.drop | exact fun _ h => h.drop.drop | exact fun _ h => h.drop.drop.drop) ?_ | refine St.store3 rfl rfl rfl rfl (by kernel_rfl) (Nat.le_of_ble_eq_true rfl) (by first | exact fun _ h => h.nil | exact fun _ h => h | exact fun _ h => h.drop | exact fun _ h => h.drop.drop | exact fun _ h => h.drop.drop.drop) ?_ | refine St.store4 rfl rfl rfl rfl (by kernel_rfl) (Nat.le_of_ble_eq_true rfl) (by first | exact fun _ h => h.nil | exact fun _ h => h | exact fun _ h => h.drop | exact fun _ h => h.drop.drop | exact fun _ h => h.drop.drop.drop) ?_ | refine St.store5 rfl rfl rfl rfl (by kernel_rfl) (Nat.le_of_ble_eq_true rfl) (by first | exact fun _ h => h.nil | exact fun _ h => h | exact fun _ h => h.drop | exact fun _ h => h.drop.drop | exact fun _ h => h.drop.drop.drop) ?_
        refine St.done ?_
        refine SX.seq ?_
        refine SC.seq ?_
        refine SC.plain ?_
        refine St.assign rfl rfl ?_
        refine St.done ?_
        refine SX.seq ?_
        refine SC.ret ?_
        have hw : e.write bs = ({ e with out := e.out ++ bs }, 0) := (if_neg (by omega)).trans ((if_neg (by rw [c11]; simp)).trans (if_neg (by omega)))
        rw [hw]
        exact SX.ret1 rfl rfl ⟨rfl, rfl⟩
theorem wclose_spec (w0 : World) (L : List Chunk) (p : Nat) (e : En) (hok : e.Ok) :
    Meets Try.prog 80 #[.pointer (some ⟨p, 0, none⟩)] w0 (WnL p e L) (fun r L' => r = .int .i64 e.close.2 ∧ L' = WnL p e.close.1 L) := by
  have hr1 := hok.room
  have hr2 := hok.inn
  have hu := hok.una
  have hx := hok.next
  have hid := hok.id
  have hst := hok.st
  have hrd := hok.read
  have hat := hok.at_
  have hso := text_size e.out
  have hsi := text_size e.inn
  unfold WnL
  refine Meets.of_body [.pointer (some ⟨p, 0, none⟩)] Try.func80 rfl Try.ntmps80 rfl ?_
  refine SC.seq ?_
  refine SC.plain ?_
  refine St.assign rfl rfl ?_
  refine St.done ?_
  refine SX.seq ?_
  refine SC.seq ?_
  refine SC.seq ?_
  refine SC.plain ?_
  refine St.move rfl rfl ?_
  refine St.nilCheck rfl rfl ?_
  refine St.fieldAddr (off := 1) rfl rfl (by kernel_rfl) ?_
  refine St.load rfl rfl (by kernel_rfl) (by first | exact Holds.row mem0 rfl | exact Holds.row mem1 rfl | exact Holds.row mem2 rfl | exact Holds.row mem3 rfl | exact Holds.row mem4 rfl | exact Holds.row mem5 rfl | exact Holds.row mem6 rfl | exact Holds.row mem7 rfl | exact Holds.row mem8 rfl) ?_
  refine St.eql rfl rfl rfl ?_
  refine St.done ?_
  refine SX.seq ?_
  refine SC.condp rfl (fun c7 => ?_) (fun c7 => ?_)
  · refine SC.seq ?_
    refine SC.plain ?_
    refine St.assign rfl rfl ?_
    refine St.done ?_
    refine SX.seq ?_
    refine SC.ret ?_
    refine SX.seq_ret ?_
    have hw : e.close = (e, 81) := if_pos (by omega)
    rw [hw]
    exact SX.ret1 rfl rfl ⟨rfl, rfl⟩
  · refine SC.skip ?_
    refine SX.seq ?_
    refine SC.seq ?_
    refine SC.plain ?_
    refine St.move rfl rfl ?_
    refine St.nilCheck rfl rfl ?_
    refine St.fieldAddr (off := 3) rfl rfl (by kernel_rfl) ?_
    first | refine St.store rfl rfl rfl rfl (by kernel_rfl) (Nat.le_of_ble_eq_true rfl) (by first | exact fun _ h => h.nil | exact fun _ h => h | exact fun _ h => h.drop | exact fun _ h => h.drop.drop | exact fun _ h => h.drop.drop.drop) ?_ | refine St.store1 rfl rfl rfl rfl (by kernel_rfl) (Nat.le_of_ble_eq_true rfl) (by first | exact fun _ h => h.nil | exact fun _ h => h | exact fun _ h => h.drop | exact fun _ h => h.drop.drop | exact fun _ h => h.drop.drop.drop) ?_ | refine St.store2 rfl rfl rfl rfl (by kernel_rfl) (Nat.le_of_ble_eq_true rfl) (by first | exact fun _ h => h.nil | exact fun _ h => h | exact fun _ h => h.drop | exact fun _ h => h.drop.drop | exact fun _ h => h.drop.drop.drop) ?_ | refine St.store3 rfl rfl rfl rfl (by kernel_rfl) (Nat.le_of_ble_eq_true rfl) (by first | exact fun _ h => h.nil | exact fun _ h => h | exact fun _ h => h.drop | exact fun _ h => h.drop.drop | exact fun _ h => h.drop.drop.drop) ?_ | refine St.store4 rfl rfl rfl rfl (by kernel_rfl) (Nat.le_of_ble_eq_true rfl) (by first | exact fun _ h => h.nil | exact fun _ h => h | exact fun _ h => h.drop | exact fun _ h => h.drop.drop | exact fun _ h => h.drop.drop.drop) ?_ | refine St.store5 rfl rfl rfl rfl (by kernel_rfl) (Nat.le_of_ble_eq_true rfl) (by first | exact fun _ h => h.nil | exact fun _ h => h | exact fun _ h => h.drop | exact fun _ h => h.drop.drop | exact fun _ h => h.drop.drop.drop) ?_
    refine St.done ?_
    refine SX.seq ?_
    refine SC.seq ?_
    refine SC.plain ?_
    refine St.assign rfl rfl ?_
    refine St.done ?_
    refine SX.seq ?_
    refine SC.ret ?_
    have hw : e.close = ({ e with closed := true }, 0) := if_neg (by omega)
    rw [hw]
    exact SX.ret1 rfl rfl ⟨rfl, rfl⟩
theorem wtake_spec (w0 : World) (L : List Chunk) (p : Nat) (e : En) (hok : e.Ok) :
    Meets Try.prog 81 #[.pointer (some ⟨p, 0, none⟩)] w0 (WnL p e L) (fun r L' => r = .string (text e.take.2) ∧ L' = WnL p e.take.1 L) := by
  have hr1 := hok.room
  have hr2 := hok.inn
  have hu := hok.una
  have hx := hok.next
  have hid := hok.id
  have hst := hok.st
  have hrd := hok.read
  have hat := hok.at_
  have hso := text_size e.out
  have hsi := text_size e.inn
  unfold WnL
  refine Meets.of_body [.pointer (some ⟨p, 0, none⟩)] Try.func81 rfl Try.ntmps81 rfl ?_
  refine SC.seq ?_
  refine SC.plain ?_
  refine St.assign rfl rfl ?_
  refine St.done ?_
  refine SX.seq ?_
  refine SC.seq ?_
  refine SC.drawn [(0, true), (1, true), (2, true), (3, true), (4, true), (5, true), (6, true), (7, true), (8, true), (9, true)] [] (_) (by kernel_rfl) (by kernel_rfl) (fun _ h => h) ?_
  refine St.move rfl rfl ?_
  refine St.nilCheck rfl rfl ?_
  refine St.fieldAddr (off := 10) rfl rfl (by kernel_rfl) ?_
  refine St.load rfl rfl (by kernel_rfl) (by first | exact Holds.row mem0 rfl | exact Holds.row mem1 rfl | exact Holds.row mem2 rfl | exact Holds.row mem3 rfl | exact Holds.row mem4 rfl | exact Holds.row mem5 rfl | exact Holds.row mem6 rfl | exact Holds.row mem7 rfl | exact Holds.row mem8 rfl) ?_
  refine St.move rfl rfl ?_
  refine St.nilCheck rfl rfl ?_
  refine St.fieldAddr (off := 11) rfl rfl (by kernel_rfl) ?_
  refine St.load rfl rfl (by kernel_rfl) (by first | exact Holds.row mem0 rfl | exact Holds.row mem1 rfl | exact Holds.row mem2 rfl | exact Holds.row mem3 rfl | exact Holds.row mem4 rfl | exact Holds.row mem5 rfl | exact Holds.row mem6 rfl | exact Holds.row mem7 rfl | exact Holds.row mem8 rfl) ?_
  refine St.cutStr (l := e.read) (h := (text e.inn).size) rfl rfl (by kernel_rfl) ⟨_, _, rfl, rfl⟩ rfl (by omega) (Nat.le_refl _) ?_
  rw [text_ext, text_size, List.take_of_length_le (by rw [List.length_drop]; omega)]
  refine St.assign rfl rfl ?_
  refine St.done ?_
  refine SX.tail ?_
  refine St.done ?_
  refine SX.seq ?_
  refine SC.seq ?_
  refine SC.plain ?_
  refine St.move rfl rfl ?_
  refine St.move rfl rfl ?_
  refine St.nilCheck rfl rfl ?_
  refine St.fieldAddr (off := 10) rfl rfl (by kernel_rfl) ?_
  refine St.load rfl rfl (by kernel_rfl) (by first | exact Holds.row mem0 rfl | exact Holds.row mem1 rfl | exact Holds.row mem2 rfl | exact Holds.row mem3 rfl | exact Holds.row mem4 rfl | exact Holds.row mem5 rfl | exact Holds.row mem6 rfl | exact Holds.row mem7 rfl | exact Holds.row mem8 rfl) ?_
  refine St.lenStr rfl rfl (by kernel_rfl) ?_
  rw [text_size]
  refine St.nilCheck rfl rfl ?_
  refine St.fieldAddr (off := 11) rfl rfl (by kernel_rfl) ?_
  first | refine St.store rfl rfl rfl rfl (by kernel_rfl) (Nat.le_of_ble_eq_true rfl) (by first | exact fun _ h => h.nil | exact fun _ h => h | exact fun _ h => h.drop | exact fun _ h => h.drop.drop | exact fun _ h => h.drop.drop.drop) ?_ | refine St.store1 rfl rfl rfl rfl (by kernel_rfl) (Nat.le_of_ble_eq_true rfl) (by first | exact fun _ h => h.nil | exact fun _ h => h | exact fun _ h => h.drop | exact fun _ h => h.drop.drop | exact fun _ h => h.drop.drop.drop) ?_ | refine St.store2 rfl rfl rfl rfl (by kernel_rfl) (Nat.le_of_ble_eq_true rfl) (by first | exact fun _ h => h.nil | exact fun _ h => h | exact fun _ h => h.drop | exact fun _ h => h.drop.drop | exact fun _ h => h.drop.drop.drop) ?_ | refine St.store3 rfl rfl rfl rfl (by kernel_rfl) (Nat.le_of_ble_eq_true rfl) (by first | exact fun _ h => h.nil | exact fun _ h => h | exact fun _ h => h.drop | exact fun _ h => h.drop.drop | exact fun _ h => h.drop.drop.drop) ?_ | refine St.store4 rfl rfl rfl rfl (by kernel_rfl) (Nat.le_of_ble_eq_true rfl) (by first | exact fun _ h => h.nil | exact fun _ h => h | exact fun _ h => h.drop | exact fun _ h => h.drop.drop | exact fun _ h => h.drop.drop.drop) ?_ | refine St.store5 rfl rfl rfl rfl (by kernel_rfl) (Nat.le_of_ble_eq_true rfl) (by first | exact fun _ h => h.nil | exact fun _ h => h | exact fun _ h => h.drop | exact fun _ h => h.drop.drop | exact fun _ h => h.drop.drop.drop) ?_
  refine St.done ?_
  refine SX.seq ?_
  refine SC.seq ?_
  refine SC.plain ?_
  refine St.move rfl rfl ?_
  refine St.assign rfl rfl ?_
  refine St.done ?_
  refine SX.seq ?_
  refine SC.ret ?_
  exact SX.ret1 rfl rfl ⟨rfl, rfl⟩
theorem wlate_spec (w0 : World) (L : List Chunk) (p : Nat) (e : En) (hok : e.Ok) (now : Int) (hn : Clock now) :
    Meets Try.prog 137 #[.pointer (some ⟨p, 0, none⟩), .int .i64 now] w0 (WnL p e L) (fun r L' => WnL p e L = L' ∧ r = .bool (e.due now)) := by
  have hr1 := hok.room
  have hr2 := hok.inn
  have hu := hok.una
  have hx := hok.next
  have hid := hok.id
  have hst := hok.st
  have hrd := hok.read
  have hat := hok.at_
  have hso := text_size e.out
  have hsi := text_size e.inn
  unfold Clock at hn
  unfold WnL
  refine Meets.of_body [.pointer (some ⟨p, 0, none⟩), .int .i64 now] Try.func137 rfl Try.ntmps137 rfl ?_
  refine SC.seq ?_
  refine SC.plain ?_
  refine St.assign rfl rfl ?_
  refine St.done ?_
  refine SX.seq ?_
  refine SC.seq ?_
  refine SC.plain ?_
  refine St.move rfl rfl ?_
  refine St.move rfl rfl ?_
  refine St.nilCheck rfl rfl ?_
  refine St.fieldAddr (off := 8) rfl rfl (by kernel_rfl) ?_
  refine St.load rfl rfl (by kernel_rfl) (by first | exact Holds.row mem0 rfl | exact Holds.row mem1 rfl | exact Holds.row mem2 rfl | exact Holds.row mem3 rfl | exact Holds.row mem4 rfl | exact Holds.row mem5 rfl | exact Holds.row mem6 rfl | exact Holds.row mem7 rfl | exact Holds.row mem8 rfl) ?_
  refine St.geq rfl rfl rfl ?_
  refine St.move rfl rfl ?_
  refine St.split 11 rfl (fun g11 => ?_) (fun g11 => ?_)
  · have h64 : (now % ((18446744073709551616 : Nat) : Int)).toNat < 18446744073709551616 := by omega
    have h64b : (e.at_ % ((18446744073709551616 : Nat) : Int)).toNat < 18446744073709551616 := by omega
    refine St.guard_yes rfl rfl ?_
    refine St.move rfl rfl ?_
    refine St.guard_yes rfl rfl ?_
    first | refine St.convUx un64 rfl rfl (by kernel_rfl) (by kernel_rfl) (by omega) ?_ | refine St.convU un64 rfl rfl (by kernel_rfl) (by kernel_rfl) ?_ | refine St.convZ un64 rfl rfl (by kernel_rfl) (by kernel_rfl) ?_
    refine St.guard_yes rfl rfl ?_
    refine St.move rfl rfl ?_
    refine St.guard_yes rfl rfl ?_
    refine St.nilCheck rfl rfl ?_
    refine St.guard_yes rfl rfl ?_
    refine St.fieldAddr (off := 8) rfl rfl (by kernel_rfl) ?_
    refine St.guard_yes rfl rfl ?_
    refine St.load rfl rfl (by kernel_rfl) (by first | exact Holds.row mem0 rfl | exact Holds.row mem1 rfl | exact Holds.row mem2 rfl | exact Holds.row mem3 rfl | exact Holds.row mem4 rfl | exact Holds.row mem5 rfl | exact Holds.row mem6 rfl | exact Holds.row mem7 rfl | exact Holds.row mem8 rfl) ?_
    refine St.guard_yes rfl rfl ?_
    first | refine St.convUx un64 rfl rfl (by kernel_rfl) (by kernel_rfl) (by omega) ?_ | refine St.convU un64 rfl rfl (by kernel_rfl) (by kernel_rfl) ?_ | refine St.convZ un64 rfl rfl (by kernel_rfl) (by kernel_rfl) ?_
    refine St.guard_yes rfl rfl ?_
    refine St.subU un64 rfl rfl rfl (by omega) ?_
    obtain ⟨dd, hdd⟩ : ∃ dd, ((now % ((18446744073709551616 : Nat) : Int)).toNat + (18446744073709551616 - (e.at_ % ((18446744073709551616 : Nat) : Int)).toNat)) % 18446744073709551616 = dd := ⟨_, rfl⟩
    have hdd2 : (dd : Int) = now - e.at_ := by omega
    rw [hdd]
    refine St.guard_yes rfl rfl ?_
    refine St.geq rfl rfl rfl ?_
    refine St.pick_true rfl rfl rfl ?_
    refine St.assign rfl rfl ?_
    refine St.done ?_
    refine SX.seq ?_
    refine SC.ret ?_
    exact SX.ret1 rfl rfl ⟨rfl, by unfold En.due; congr 1; first | (rw [← decide_eq_decide.2 (by omega : (e.at_ ≤ 9223372036854775799 ∧ e.at_ + 8 ≤ now) ↔ (8 : Int) ≤ (dd : Int)), Bool.decide_and]) | (rw [decide_eq_false (by omega : ¬ e.at_ + 8 ≤ now), Bool.and_false])⟩
  · refine St.guard_no rfl rfl rfl ?_
    refine St.guard_no rfl rfl rfl ?_
    refine St.guard_no rfl rfl rfl ?_
    refine St.guard_no rfl rfl rfl ?_
    refine St.guard_no rfl rfl rfl ?_
    refine St.guard_no rfl rfl rfl ?_
    refine St.guard_no rfl rfl rfl ?_
    refine St.guard_no rfl rfl rfl ?_
    refine St.guard_no rfl rfl rfl ?_
    refine St.pick_false rfl rfl rfl ?_
    refine St.assign rfl rfl ?_
    refine St.done ?_
    refine SX.seq ?_
    refine SC.ret ?_
    exact SX.ret1 rfl rfl ⟨rfl, by unfold En.due; congr 1; first | (rw [← decide_eq_decide.2 (by omega : (e.at_ ≤ 9223372036854775799 ∧ e.at_ + 8 ≤ now) ↔ (8 : Int) ≤ (dd : Int)), Bool.decide_and]) | (rw [decide_eq_false (by omega : ¬ e.at_ + 8 ≤ now), Bool.and_false])⟩
theorem wsent_spec (w0 : World) (L : List Chunk) (p : Nat) (e : En) (hok : e.Ok) :
    Meets Try.prog 139 #[.pointer (some ⟨p, 0, none⟩)] w0 (WnL p e L) (fun r L' => WnL p e L = L' ∧ r = .int .i64 ((e.sentTo : Nat) : Int)) := by
  have hr1 := hok.room
  have hr2 := hok.inn
  have hu := hok.una
  have hx := hok.next
  have hid := hok.id
  have hst := hok.st
  have hrd := hok.read
  have hat := hok.at_
  have hso := text_size e.out
  have hsi := text_size e.inn
  unfold WnL
  refine Meets.of_body [.pointer (some ⟨p, 0, none⟩)] Try.func139 rfl Try.ntmps139 rfl ?_
  refine SC.seq ?_
  refine SC.plain ?_
  refine St.assign rfl rfl ?_
  refine St.done ?_
  refine SX.seq ?_
  refine SC.seq ?_
  refine SC.seq ?_
  refine SC.plain ?_
  refine St.move rfl rfl ?_
  refine St.nilCheck rfl rfl ?_
  refine St.fieldAddr (off := 6) rfl rfl (by kernel_rfl) ?_
  refine St.load rfl rfl (by kernel_rfl) (by first | exact Holds.row mem0 rfl | exact Holds.row mem1 rfl | exact Holds.row mem2 rfl | exact Holds.row mem3 rfl | exact Holds.row mem4 rfl | exact Holds.row mem5 rfl | exact Holds.row mem6 rfl | exact Holds.row mem7 rfl | exact Holds.row mem8 rfl) ?_
  refine St.done ?_
  refine SX.seq ?_
  refine SC.cond rfl (fun c6 => ?_) (fun c6 => ?_)
  · refine SC.seq ?_
    refine SC.plain ?_
    refine St.move rfl rfl ?_
    refine St.nilCheck rfl rfl ?_
    refine St.fieldAddr (off := 5) rfl rfl (by kernel_rfl) ?_
    refine St.load rfl rfl (by kernel_rfl) (by first | exact Holds.row mem0 rfl | exact Holds.row mem1 rfl | exact Holds.row mem2 rfl | exact Holds.row mem3 rfl | exact Holds.row mem4 rfl | exact Holds.row mem5 rfl | exact Holds.row mem6 rfl | exact Holds.row mem7 rfl | exact Holds.row mem8 rfl) ?_
    first | refine St.addN (b := 1) rfl rfl rfl (by omega) ?_ | refine St.addI rfl rfl rfl (by omega) ?_
    refine St.assign rfl rfl ?_
    refine St.done ?_
    refine SX.seq ?_
    refine SC.ret ?_
    refine SX.seq_ret ?_
    exact SX.ret1 rfl rfl ⟨rfl, by unfold En.sentTo; rw [c6]; rfl⟩
  · refine SC.skip ?_
    refine SX.seq ?_
    refine SC.seq ?_
    refine SC.plain ?_
    refine St.move rfl rfl ?_
    refine St.nilCheck rfl rfl ?_
    refine St.fieldAddr (off := 5) rfl rfl (by kernel_rfl) ?_
    refine St.load rfl rfl (by kernel_rfl) (by first | exact Holds.row mem0 rfl | exact Holds.row mem1 rfl | exact Holds.row mem2 rfl | exact Holds.row mem3 rfl | exact Holds.row mem4 rfl | exact Holds.row mem5 rfl | exact Holds.row mem6 rfl | exact Holds.row mem7 rfl | exact Holds.row mem8 rfl) ?_
    refine St.assign rfl rfl ?_
    refine St.done ?_
    refine SX.seq ?_
    refine SC.ret ?_
    exact SX.ret1 rfl rfl ⟨rfl, by unfold En.sentTo; rw [c6]; rfl⟩
theorem wacked_spec (w0 : World) (L : List Chunk) (p : Nat) (e : En) (hok : e.Ok) :
    Meets Try.prog 140 #[.pointer (some ⟨p, 0, none⟩)] w0 (WnL p e L) (fun r L' => WnL p e L = L' ∧ r = .int .i64 ((e.acksTo : Nat) : Int)) := by
  have hr1 := hok.room
  have hr2 := hok.inn
  have hu := hok.una
  have hx := hok.next
  have hid := hok.id
  have hst := hok.st
  have hrd := hok.read
  have hat := hok.at_
  have hso := text_size e.out
  have hsi := text_size e.inn
  unfold WnL
  refine Meets.of_body [.pointer (some ⟨p, 0, none⟩)] Try.func140 rfl Try.ntmps140 rfl ?_
  refine SC.seq ?_
  refine SC.plain ?_
  refine St.assign rfl rfl ?_
  refine St.done ?_
  refine SX.seq ?_
  refine SC.seq ?_
  refine SC.seq ?_
  refine SC.plain ?_
  refine St.move rfl rfl ?_
  refine St.nilCheck rfl rfl ?_
  refine St.fieldAddr (off := 7) rfl rfl (by kernel_rfl) ?_
  refine St.load rfl rfl (by kernel_rfl) (by first | exact Holds.row mem0 rfl | exact Holds.row mem1 rfl | exact Holds.row mem2 rfl | exact Holds.row mem3 rfl | exact Holds.row mem4 rfl | exact Holds.row mem5 rfl | exact Holds.row mem6 rfl | exact Holds.row mem7 rfl | exact Holds.row mem8 rfl) ?_
  refine St.done ?_
  refine SX.seq ?_
  refine SC.cond rfl (fun c6 => ?_) (fun c6 => ?_)
  · refine SC.seq ?_
    refine SC.plain ?_
    refine St.move rfl rfl ?_
    refine St.nilCheck rfl rfl ?_
    refine St.fieldAddr (off := 4) rfl rfl (by kernel_rfl) ?_
    refine St.load rfl rfl (by kernel_rfl) (by first | exact Holds.row mem0 rfl | exact Holds.row mem1 rfl | exact Holds.row mem2 rfl | exact Holds.row mem3 rfl | exact Holds.row mem4 rfl | exact Holds.row mem5 rfl | exact Holds.row mem6 rfl | exact Holds.row mem7 rfl | exact Holds.row mem8 rfl) ?_
    first | refine St.addN (b := 1) rfl rfl rfl (by omega) ?_ | refine St.addI rfl rfl rfl (by omega) ?_
    refine St.assign rfl rfl ?_
    refine St.done ?_
    refine SX.seq ?_
    refine SC.ret ?_
    refine SX.seq_ret ?_
    exact SX.ret1 rfl rfl ⟨rfl, by unfold En.acksTo; rw [c6]; rfl⟩
  · refine SC.skip ?_
    refine SX.seq ?_
    refine SC.seq ?_
    refine SC.plain ?_
    refine St.move rfl rfl ?_
    refine St.nilCheck rfl rfl ?_
    refine St.fieldAddr (off := 4) rfl rfl (by kernel_rfl) ?_
    refine St.load rfl rfl (by kernel_rfl) (by first | exact Holds.row mem0 rfl | exact Holds.row mem1 rfl | exact Holds.row mem2 rfl | exact Holds.row mem3 rfl | exact Holds.row mem4 rfl | exact Holds.row mem5 rfl | exact Holds.row mem6 rfl | exact Holds.row mem7 rfl | exact Holds.row mem8 rfl) ?_
    refine St.assign rfl rfl ?_
    refine St.done ?_
    refine SX.seq ?_
    refine SC.ret ?_
    exact SX.ret1 rfl rfl ⟨rfl, by unfold En.acksTo; rw [c6]; rfl⟩
theorem wdone_spec (w0 : World) (L : List Chunk) (p : Nat) (e : En) (hok : e.Ok) :
    Meets Try.prog 142 #[.pointer (some ⟨p, 0, none⟩)] w0 (WnL p e L) (fun r L' => WnL p e L = L' ∧ r = .bool e.done) := by
  have hr1 := hok.room
  have hr2 := hok.inn
  have hu := hok.una
  have hx := hok.next
  have hid := hok.id
  have hst := hok.st
  have hrd := hok.read
  have hat := hok.at_
  have hso := text_size e.out
  have hsi := text_size e.inn
  unfold WnL
  refine Meets.of_body [.pointer (some ⟨p, 0, none⟩)] Try.func142 rfl Try.ntmps142 rfl ?_
  refine SC.seq ?_
  refine SC.plain ?_
  refine St.assign rfl rfl ?_
  refine St.done ?_
  refine SX.seq ?_
  refine SC.seq ?_
  refine SC.plain ?_
  refine St.move rfl rfl ?_
  refine St.nilCheck rfl rfl ?_
  refine St.fieldAddr (off := 7) rfl rfl (by kernel_rfl) ?_
  refine St.load rfl rfl (by kernel_rfl) (by first | exact Holds.row mem0 rfl | exact Holds.row mem1 rfl | exact Holds.row mem2 rfl | exact Holds.row mem3 rfl | exact Holds.row mem4 rfl | exact Holds.row mem5 rfl | exact Holds.row mem6 rfl | exact Holds.row mem7 rfl | exact Holds.row mem8 rfl) ?_
  refine St.move rfl rfl ?_
  refine St.splitB 7 rfl (fun g7 => ?_) (fun g7 => ?_)
  · refine St.guard_yes rfl rfl ?_
    refine St.move rfl rfl ?_
    refine St.guard_yes rfl rfl ?_
    refine St.nilCheck rfl rfl ?_
    refine St.guard_yes rfl rfl ?_
    refine St.fieldAddr (off := 12) rfl rfl (by kernel_rfl) ?_
    refine St.guard_yes rfl rfl ?_
    refine St.load rfl rfl (by kernel_rfl) (by first | exact Holds.row mem0 rfl | exact Holds.row mem1 rfl | exact Holds.row mem2 rfl | exact Holds.row mem3 rfl | exact Holds.row mem4 rfl | exact Holds.row mem5 rfl | exact Holds.row mem6 rfl | exact Holds.row mem7 rfl | exact Holds.row mem8 rfl) ?_
    refine St.pick_true rfl rfl rfl ?_
    refine St.assign rfl rfl ?_
    refine St.done ?_
    refine SX.seq ?_
    refine SC.ret ?_
    exact SX.ret1 rfl rfl ⟨rfl, by unfold En.done; first | rw [g7, Bool.true_and] | rw [g6, Bool.true_and]⟩
  · refine St.guard_no rfl rfl rfl ?_
    refine St.guard_no rfl rfl rfl ?_
    refine St.guard_no rfl rfl rfl ?_
    refine St.guard_no rfl rfl rfl ?_
    refine St.pick_false rfl rfl rfl ?_
    refine St.assign rfl rfl ?_
    refine St.done ?_
    refine SX.seq ?_
    refine SC.ret ?_
    exact SX.ret1 rfl rfl ⟨rfl, by unfold En.done; first | rw [g7, Bool.false_and] | rw [g6, Bool.false_and]⟩
theorem widle_spec (w0 : World) (L : List Chunk) (p : Nat) (e : En) (hok : e.Ok) :
    Meets Try.prog 143 #[.pointer (some ⟨p, 0, none⟩)] w0 (WnL p e L) (fun r L' => WnL p e L = L' ∧ r = .bool e.idle) := by
  have hr1 := hok.room
  have hr2 := hok.inn
  have hu := hok.una
  have hx := hok.next
  have hid := hok.id
  have hst := hok.st
  have hrd := hok.read
  have hat := hok.at_
  have hso := text_size e.out
  have hsi := text_size e.inn
  have hd4 : decide (e.st = 4) = decide ((e.st : Int) = 4) := decide_eq_decide.2 (by omega)
  have hd1 : decide (e.st ≠ 1) = decide (¬ (e.st : Int) = 1) := decide_eq_decide.2 (by omega)
  have hdn : decide (e.una = e.out.length) = decide ((e.una : Int) = (e.out.length : Int)) := decide_eq_decide.2 (by omega)
  unfold WnL
  refine Meets.of_body [.pointer (some ⟨p, 0, none⟩)] Try.func143 rfl Try.ntmps143 rfl ?_
  refine SC.seq ?_
  refine SC.plain ?_
  refine St.assign rfl rfl ?_
  refine St.done ?_
  refine SX.seq ?_
  refine SC.seq ?_
  refine SC.drawn [(0, true), (1, true), (2, true), (3, true), (4, true), (5, true), (6, true), (7, true), (8, true), (9, true), (10, true), (11, true), (12, true), (13, true), (14, true), (15, true), (16, true), (17, true), (18, true), (19, true), (20, true), (21, true), (22, true), (23, true), (24, true), (25, true), (26, true), (27, true), (28, true), (29, true), (30, true), (31, true), (32, true), (33, true), (34, true), (35, true), (36, true), (37, true), (38, true), (39, true), (40, true), (41, true), (42, true), (43, true), (44, true)] [] (_) (by kernel_rfl) (by kernel_rfl) (fun _ h => h) ?_
  refine St.move rfl rfl ?_
  refine St.nilCheck rfl rfl ?_
  refine St.fieldAddr (off := 1) rfl rfl (by kernel_rfl) ?_
  refine St.load rfl rfl (by kernel_rfl) (by first | exact Holds.row mem0 rfl | exact Holds.row mem1 rfl | exact Holds.row mem2 rfl | exact Holds.row mem3 rfl | exact Holds.row mem4 rfl | exact Holds.row mem5 rfl | exact Holds.row mem6 rfl | exact Holds.row mem7 rfl | exact Holds.row mem8 rfl) ?_
  refine St.eql rfl rfl rfl ?_
  refine St.move rfl rfl ?_
  refine St.split 8 rfl (fun g8 => ?_) (fun g8 => ?_)
  · refine St.guard_no rfl rfl rfl ?_
    refine St.guard_no rfl rfl rfl ?_
    refine St.guard_no rfl rfl rfl ?_
    refine St.guard_no rfl rfl rfl ?_
    refine St.guard_no rfl rfl rfl ?_
    refine St.guard_no rfl rfl rfl ?_
    refine St.guard_none rfl rfl rfl ?_
    refine St.guard_none rfl rfl rfl ?_
    refine St.guard_none rfl rfl rfl ?_
    refine St.guard_none rfl rfl rfl ?_
    refine St.guard_none rfl rfl rfl ?_
    refine St.guard_no rfl rfl rfl ?_
    refine St.guard_no rfl rfl rfl ?_
    refine St.guard_none rfl rfl rfl ?_
    refine St.guard_none rfl rfl rfl ?_
    refine St.guard_none rfl rfl rfl ?_
    refine St.guard_none rfl rfl rfl ?_
    refine St.guard_none rfl rfl rfl ?_
    refine St.guard_none rfl rfl rfl ?_
    refine St.guard_none rfl rfl rfl ?_
    refine St.guard_none rfl rfl rfl ?_
    refine St.guard_none rfl rfl rfl ?_
    refine St.guard_none rfl rfl rfl ?_
    refine St.guard_no rfl rfl rfl ?_
    refine St.guard_no rfl rfl rfl ?_
    refine St.guard_none rfl rfl rfl ?_
    refine St.guard_none rfl rfl rfl ?_
    refine St.guard_none rfl rfl rfl ?_
    refine St.guard_none rfl rfl rfl ?_
    refine St.guard_none rfl rfl rfl ?_
    refine St.guard_none rfl rfl rfl ?_
    refine St.guard_none rfl rfl rfl ?_
    refine St.guard_none rfl rfl rfl ?_
    refine St.guard_none rfl rfl rfl ?_
    refine St.guard_none rfl rfl rfl ?_
    refine St.guard_none rfl rfl rfl ?_
    refine St.guard_no rfl rfl rfl ?_
    refine St.pick_true rfl rfl rfl ?_
    refine St.assign rfl rfl ?_
    refine St.done ?_
    refine SX.tail ?_
    refine St.done ?_
    refine SX.seq ?_
    refine SC.ret ?_
    exact SX.ret1 rfl rfl ⟨rfl, by rw [idle_eq hok, hd4, hd1, hdn]; simp_all⟩
  · refine St.guard_yes rfl rfl ?_
    refine St.move rfl rfl ?_
    refine St.guard_yes rfl rfl ?_
    refine St.nilCheck rfl rfl ?_
    refine St.guard_yes rfl rfl ?_
    refine St.fieldAddr (off := 1) rfl rfl (by kernel_rfl) ?_
    refine St.guard_yes rfl rfl ?_
    refine St.load rfl rfl (by kernel_rfl) (by first | exact Holds.row mem0 rfl | exact Holds.row mem1 rfl | exact Holds.row mem2 rfl | exact Holds.row mem3 rfl | exact Holds.row mem4 rfl | exact Holds.row mem5 rfl | exact Holds.row mem6 rfl | exact Holds.row mem7 rfl | exact Holds.row mem8 rfl) ?_
    refine St.guard_yes rfl rfl ?_
    refine St.neq rfl rfl rfl ?_
    refine St.guard_yes rfl rfl ?_
    refine St.move rfl rfl ?_
    refine St.split 14 rfl (fun g14 => ?_) (fun g14 => ?_)
    · refine St.guard_yes rfl rfl ?_
      refine St.move rfl rfl ?_
      refine St.guard_yes rfl rfl ?_
      refine St.nilCheck rfl rfl ?_
      refine St.guard_yes rfl rfl ?_
      refine St.fieldAddr (off := 13) rfl rfl (by kernel_rfl) ?_
      refine St.guard_yes rfl rfl ?_
      refine St.load rfl rfl (by kernel_rfl) (by first | exact Holds.row mem0 rfl | exact Holds.row mem1 rfl | exact Holds.row mem2 rfl | exact Holds.row mem3 rfl | exact Holds.row mem4 rfl | exact Holds.row mem5 rfl | exact Holds.row mem6 rfl | exact Holds.row mem7 rfl | exact Holds.row mem8 rfl) ?_
      refine St.guard_yes rfl rfl ?_
      refine St.notB rfl rfl ?_
      refine St.guard_yes rfl rfl ?_
      refine St.pick_true rfl rfl rfl ?_
      refine St.guard_yes rfl rfl ?_
      refine St.move rfl rfl ?_
      refine St.splitB 21 rfl (fun g21 => ?_) (fun g21 => ?_)
      · refine St.guard_yes rfl rfl ?_
        refine St.move rfl rfl ?_
        refine St.guard_yes rfl rfl ?_
        refine St.nilCheck rfl rfl ?_
        refine St.guard_yes rfl rfl ?_
        refine St.fieldAddr (off := 4) rfl rfl (by kernel_rfl) ?_
        refine St.guard_yes rfl rfl ?_
        refine St.load rfl rfl (by kernel_rfl) (by first | exact Holds.row mem0 rfl | exact Holds.row mem1 rfl | exact Holds.row mem2 rfl | exact Holds.row mem3 rfl | exact Holds.row mem4 rfl | exact Holds.row mem5 rfl | exact Holds.row mem6 rfl | exact Holds.row mem7 rfl | exact Holds.row mem8 rfl) ?_
        refine St.guard_yes rfl rfl ?_
        refine St.move rfl rfl ?_
        refine St.guard_yes rfl rfl ?_
        refine St.nilCheck rfl rfl ?_
        refine St.guard_yes rfl rfl ?_
        refine St.fieldAddr (off := 2) rfl rfl (by kernel_rfl) ?_
        refine St.guard_yes rfl rfl ?_
        refine St.load rfl rfl (by kernel_rfl) (by first | exact Holds.row mem0 rfl | exact Holds.row mem1 rfl | exact Holds.row mem2 rfl | exact Holds.row mem3 rfl | exact Holds.row mem4 rfl | exact Holds.row mem5 rfl | exact Holds.row mem6 rfl | exact Holds.row mem7 rfl | exact Holds.row mem8 rfl) ?_
        refine St.guard_yes rfl rfl ?_
        refine St.lenStr rfl rfl (by kernel_rfl) ?_
        rw [text_size]
        refine St.guard_yes rfl rfl ?_
        refine St.eql rfl rfl rfl ?_
        refine St.guard_yes rfl rfl ?_
        refine St.pick_true rfl rfl rfl ?_
        refine St.guard_yes rfl rfl ?_
        refine St.move rfl rfl ?_
        refine St.split 33 rfl (fun g33 => ?_) (fun g33 => ?_)
        · refine St.guard_yes rfl rfl ?_
          refine St.move rfl rfl ?_
          refine St.guard_yes rfl rfl ?_
          refine St.nilCheck rfl rfl ?_
          refine St.guard_yes rfl rfl ?_
          refine St.fieldAddr (off := 3) rfl rfl (by kernel_rfl) ?_
          refine St.guard_yes rfl rfl ?_
          refine St.load rfl rfl (by kernel_rfl) (by first | exact Holds.row mem0 rfl | exact Holds.row mem1 rfl | exact Holds.row mem2 rfl | exact Holds.row mem3 rfl | exact Holds.row mem4 rfl | exact Holds.row mem5 rfl | exact Holds.row mem6 rfl | exact Holds.row mem7 rfl | exact Holds.row mem8 rfl) ?_
          refine St.guard_yes rfl rfl ?_
          refine St.notB rfl rfl ?_
          refine St.guard_yes rfl rfl ?_
          refine St.move rfl rfl ?_
          refine St.splitB 39 rfl (fun g39 => ?_) (fun g39 => ?_)
          · refine St.guard_no rfl rfl rfl ?_
            refine St.guard_no rfl rfl rfl ?_
            refine St.guard_no rfl rfl rfl ?_
            refine St.guard_no rfl rfl rfl ?_
            refine St.guard_yes rfl rfl ?_
            refine St.pick_true rfl rfl rfl ?_
            refine St.guard_yes rfl rfl ?_
            refine St.pick_true rfl rfl rfl ?_
            refine St.pick_false rfl rfl rfl ?_
            refine St.assign rfl rfl ?_
            refine St.done ?_
            refine SX.tail ?_
            refine St.done ?_
            refine SX.seq ?_
            refine SC.ret ?_
            exact SX.ret1 rfl rfl ⟨rfl, by rw [idle_eq hok, hd4, hd1, hdn]; simp_all⟩
          · refine St.guard_yes rfl rfl ?_
            refine St.move rfl rfl ?_
            refine St.guard_yes rfl rfl ?_
            refine St.nilCheck rfl rfl ?_
            refine St.guard_yes rfl rfl ?_
            refine St.fieldAddr (off := 7) rfl rfl (by kernel_rfl) ?_
            refine St.guard_yes rfl rfl ?_
            refine St.load rfl rfl (by kernel_rfl) (by first | exact Holds.row mem0 rfl | exact Holds.row mem1 rfl | exact Holds.row mem2 rfl | exact Holds.row mem3 rfl | exact Holds.row mem4 rfl | exact Holds.row mem5 rfl | exact Holds.row mem6 rfl | exact Holds.row mem7 rfl | exact Holds.row mem8 rfl) ?_
            refine St.guard_yes rfl rfl ?_
            refine St.pick_false rfl rfl rfl ?_
            refine St.guard_yes rfl rfl ?_
            refine St.pick_true rfl rfl rfl ?_
            refine St.pick_false rfl rfl rfl ?_
            refine St.assign rfl rfl ?_
            refine St.done ?_
            refine SX.tail ?_
            refine St.done ?_
            refine SX.seq ?_
            refine SC.ret ?_
            exact SX.ret1 rfl rfl ⟨rfl, by rw [idle_eq hok, hd4, hd1, hdn]; simp_all⟩
        · refine St.guard_no rfl rfl rfl ?_
          refine St.guard_no rfl rfl rfl ?_
          refine St.guard_no rfl rfl rfl ?_
          refine St.guard_no rfl rfl rfl ?_
          refine St.guard_no rfl rfl rfl ?_
          refine St.guard_no rfl rfl rfl ?_
          refine St.guard_none rfl rfl rfl ?_
          refine St.guard_none rfl rfl rfl ?_
          refine St.guard_none rfl rfl rfl ?_
          refine St.guard_none rfl rfl rfl ?_
          refine St.guard_no rfl rfl rfl ?_
          refine St.guard_yes rfl rfl ?_
          refine St.pick_false rfl rfl rfl ?_
          refine St.pick_false rfl rfl rfl ?_
          refine St.assign rfl rfl ?_
          refine St.done ?_
          refine SX.tail ?_
          refine St.done ?_
          refine SX.seq ?_
          refine SC.ret ?_
          exact SX.ret1 rfl rfl ⟨rfl, by rw [idle_eq hok, hd4, hd1, hdn]; simp_all⟩
      · refine St.guard_no rfl rfl rfl ?_
        refine St.guard_no rfl rfl rfl ?_
        refine St.guard_no rfl rfl rfl ?_
        refine St.guard_no rfl rfl rfl ?_
        refine St.guard_no rfl rfl rfl ?_
        refine St.guard_no rfl rfl rfl ?_
        refine St.guard_no rfl rfl rfl ?_
        refine St.guard_no rfl rfl rfl ?_
        refine St.guard_no rfl rfl rfl ?_
        refine St.guard_no rfl rfl rfl ?_
        refine St.guard_yes rfl rfl ?_
        refine St.pick_false rfl rfl rfl ?_
        refine St.guard_yes rfl rfl ?_
        refine St.move rfl rfl ?_
        refine St.guard_no rfl rfl rfl ?_
        refine St.guard_no rfl rfl rfl ?_
        refine St.guard_no rfl rfl rfl ?_
        refine St.guard_no rfl rfl rfl ?_
        refine St.guard_no rfl rfl rfl ?_
        refine St.guard_no rfl rfl rfl ?_
        refine St.guard_none rfl rfl rfl ?_
        refine St.guard_none rfl rfl rfl ?_
        refine St.guard_none rfl rfl rfl ?_
        refine St.guard_none rfl rfl rfl ?_
        refine St.guard_no rfl rfl rfl ?_
        refine St.guard_yes rfl rfl ?_
        refine St.pick_false rfl rfl rfl ?_
        refine St.pick_false rfl rfl rfl ?_
        refine St.assign rfl rfl ?_
        refine St.done ?_
        refine SX.tail ?_
        refine St.done ?_
        refine SX.seq ?_
        refine SC.ret ?_
        exact SX.ret1 rfl rfl ⟨rfl, by rw [idle_eq hok, hd4, hd1, hdn]; simp_all⟩
    · refine St.guard_no rfl rfl rfl ?_
      refine St.guard_no rfl rfl rfl ?_
      refine St.guard_no rfl rfl rfl ?_
      refine St.guard_no rfl rfl rfl ?_
      refine St.guard_no rfl rfl rfl ?_
      refine St.guard_yes rfl rfl ?_
      refine St.pick_false rfl rfl rfl ?_
      refine St.guard_yes rfl rfl ?_
      refine St.move rfl rfl ?_
      refine St.guard_no rfl rfl rfl ?_
      refine St.guard_no rfl rfl rfl ?_
      refine St.guard_no rfl rfl rfl ?_
      refine St.guard_no rfl rfl rfl ?_
      refine St.guard_no rfl rfl rfl ?_
      refine St.guard_no rfl rfl rfl ?_
      refine St.guard_no rfl rfl rfl ?_
      refine St.guard_no rfl rfl rfl ?_
      refine St.guard_no rfl rfl rfl ?_
      refine St.guard_no rfl rfl rfl ?_
      refine St.guard_yes rfl rfl ?_
      refine St.pick_false rfl rfl rfl ?_
      refine St.guard_yes rfl rfl ?_
      refine St.move rfl rfl ?_
      refine St.guard_no rfl rfl rfl ?_
      refine St.guard_no rfl rfl rfl ?_
      refine St.guard_no rfl rfl rfl ?_
      refine St.guard_no rfl rfl rfl ?_
      refine St.guard_no rfl rfl rfl ?_
      refine St.guard_no rfl rfl rfl ?_
      refine St.guard_none rfl rfl rfl ?_
      refine St.guard_none rfl rfl rfl ?_
      refine St.guard_none rfl rfl rfl ?_
      refine St.guard_none rfl rfl rfl ?_
      refine St.guard_no rfl rfl rfl ?_
      refine St.guard_yes rfl rfl ?_
      refine St.pick_false rfl rfl rfl ?_
      refine St.pick_false rfl rfl rfl ?_
      refine St.assign rfl rfl ?_
      refine St.done ?_
      refine SX.tail ?_
      refine St.done ?_
      refine SX.seq ?_
      refine SC.ret ?_
      exact SX.ret1 rfl rfl ⟨rfl, by rw [idle_eq hok, hd4, hd1, hdn]; simp_all⟩
theorem wsegment_spec (w0 : World) (L : List Chunk) (p : Nat) (id : Nat) (cs : List Value) (hp : Holds w0 L ⟨p, 0 + 0, none⟩ (.int .i64 ((id : Nat) : Int))) (ty seq ack : Int) (d : List Nat) (hd : ∀ b ∈ d, b < 256) (hl : d.length ≤ 140737488351232) :
    Meets Try.prog 138 #[.pointer (some ⟨p, 0, none⟩), .int .i64 ty, .int .i64 seq, .int .i64 ack, .string (text d)] w0 L (fun r L' => L = L' ∧ r = .string (text (segOf ⟨ty, (id : Nat), seq, ack, d⟩))) := by
  refine Meets.of_body [.pointer (some ⟨p, 0, none⟩), .int .i64 ty, .int .i64 seq, .int .i64 ack, .string (text d)] Try.func138 rfl Try.ntmps138 rfl ?_
  refine SC.seq ?_
  refine SC.plain ?_
  refine St.assign rfl rfl ?_
  refine St.done ?_
  refine SX.seq ?_
  refine SC.seq ?_
  refine SC.plain ?_
  refine St.move rfl rfl ?_
  refine St.move rfl rfl ?_
  refine St.nilCheck rfl rfl ?_
  refine St.fieldAddr (off := 0) rfl rfl (by kernel_rfl) ?_
  refine St.load rfl rfl (by kernel_rfl) hp ?_
  refine St.move rfl rfl ?_
  refine St.move rfl rfl ?_
  refine St.move rfl rfl ?_
  refine St.toBytes (e := 5) rfl rfl (by kernel_rfl) (by kernel_rfl) (by kernel_rfl) (fun _ _ h => h.nil) (fun v E hb _ => ?_)
  rw [u8s_text d hd, text_size] at hb
  have hb : Buf 5 1 v (bytes d) d.length E := hb
  have hbr := hb.read
  obtain ⟨_, _, A, c, rfl, _, _⟩ := hbr
  refine St.build [(0, .int .i64 ty), (1, .int .i64 ((id : Nat) : Int)), (2, .int .i64 seq), (3, .int .i64 ack), (4, .slice A d.length c)] (segCells ⟨ty, (id : Nat), seq, ack, d⟩ (.slice A d.length c)) rfl rfl (by kernel_rfl) ?_
  refine St.call [_] rfl (by kernel_rfl) rfl (rsegment_in w0 _ ⟨ty, (id : Nat), seq, ack, d⟩ _ ⟨hb.rd (by simp), hb.cap, hl, hd⟩) (fun _ _ _ _ h => h.nil) ?_
  rintro r1 L1 ⟨rfl, rfl⟩
  refine St.drop ?_
  refine St.assign rfl rfl ?_
  refine St.done ?_
  refine SX.seq ?_
  refine SC.ret ?_
  exact SX.ret1 rfl rfl ⟨rfl, rfl⟩
theorem wopen_spec (w0 : World) (L : List Chunk) (p : Nat) (e : En) (hok : e.Ok) (s : Seg) (dv : Value) (hS : SegIn w0 L s dv) (now : Int) (hn : Clock now) (hty : 1 ≤ s.ty ∧ s.ty ≤ 4) (hsm : 0 ≤ s.ack ∧ s.ack < 4294967296) :
    Meets Try.prog 141 #[.pointer (some ⟨p, 0, none⟩), .agg (segCells s dv).toArray, .int .i64 now] w0 (WnL p e L) (fun r L' => L' = WnL p (e.open_ s now) L) := by
  have hr1 := hok.room
  have hr2 := hok.inn
  have hu := hok.una
  have hx := hok.next
  have hid := hok.id
  have hst := hok.st
  have hrd := hok.read
  have hat := hok.at_
  have hso := text_size e.out
  have hsi := text_size e.inn
  obtain ⟨Ad, cd, rfl⟩ := hS.slice
  have hsl := hS.len
  unfold WnL
  refine Meets.of_body [.pointer (some ⟨p, 0, none⟩), .agg (segCells s (.slice Ad s.data.length cd)).toArray, .int .i64 now] Try.func141 rfl Try.ntmps141 rfl ?_
  refine SC.seq ?_
  refine SC.plain ?_
  refine St.box (segCells s (.slice Ad s.data.length cd)) rfl rfl rfl (fun _ _ h => h.nil) (fun q => ?_)
  refine St.perm ([⟨p, wnRow e, 204⟩] :: [⟨q, segCells s (.slice Ad s.data.length cd), 73⟩] :: L) (perm12 _ _ _) ?_
  refine St.done ?_
  refine SX.seq ?_
  refine SC.join (α := En) (fun e1 => ({ e1 with owes := true } : En) = e.open_ s now) (fun e1 => [(0, .pointer (some ⟨p, 0, none⟩)), (2, .int .i64 now)]) (fun e1 => [⟨p, wnRow e1, 204⟩] :: [⟨q, segCells s (.slice Ad s.data.length cd), 73⟩] :: L) ?_ ?_
  · intro e1 he1
    rw [← he1]
    refine SC.plain ?_
    refine St.move rfl rfl ?_
    refine St.nilCheck rfl rfl ?_
    refine St.fieldAddr (off := 13) rfl rfl (by kernel_rfl) ?_
    first | refine St.store rfl rfl rfl rfl (by kernel_rfl) (Nat.le_of_ble_eq_true rfl) (by first | exact fun _ h => h.nil | exact fun _ h => h | exact fun _ h => h.drop | exact fun _ h => h.drop.drop | exact fun _ h => h.drop.drop.drop) ?_ | refine St.store1 rfl rfl rfl rfl (by kernel_rfl) (Nat.le_of_ble_eq_true rfl) (by first | exact fun _ h => h.nil | exact fun _ h => h | exact fun _ h => h.drop | exact fun _ h => h.drop.drop | exact fun _ h => h.drop.drop.drop) ?_ | refine St.store2 rfl rfl rfl rfl (by kernel_rfl) (Nat.le_of_ble_eq_true rfl) (by first | exact fun _ h => h.nil | exact fun _ h => h | exact fun _ h => h.drop | exact fun _ h => h.drop.drop | exact fun _ h => h.drop.drop.drop) ?_ | refine St.store3 rfl rfl rfl rfl (by kernel_rfl) (Nat.le_of_ble_eq_true rfl) (by first | exact fun _ h => h.nil | exact fun _ h => h | exact fun _ h => h.drop | exact fun _ h => h.drop.drop | exact fun _ h => h.drop.drop.drop) ?_ | refine St.store4 rfl rfl rfl rfl (by kernel_rfl) (Nat.le_of_ble_eq_true rfl) (by first | exact fun _ h => h.nil | exact fun _ h => h | exact fun _ h => h.drop | exact fun _ h => h.drop.drop | exact fun _ h => h.drop.drop.drop) ?_ | refine St.store5 rfl rfl rfl rfl (by kernel_rfl) (Nat.le_of_ble_eq_true rfl) (by first | exact fun _ h => h.nil | exact fun _ h => h | exact fun _ h => h.drop | exact fun _ h => h.drop.drop | exact fun _ h => h.drop.drop.drop) ?_
    refine St.done ?_
    refine SX.weak _ (.cons_cons _ (.cons _ (List.Sublist.refl _))) ?_
    exact SX.ret0 (.inr rfl) rfl rfl
  · refine SC.seq ?_
    refine SC.plain ?_
    refine St.fieldAddr (off := 0) rfl rfl (by kernel_rfl) ?_
    refine St.load rfl rfl (by kernel_rfl) (by first | exact Holds.row mem0 rfl | exact Holds.row mem1 rfl | exact Holds.row mem2 rfl | exact Holds.row mem3 rfl | exact Holds.row mem4 rfl | exact Holds.row mem5 rfl | exact Holds.row mem6 rfl | exact Holds.row mem7 rfl | exact Holds.row mem8 rfl) ?_
    refine St.done ?_
    refine SX.seq ?_
    refine SC.block ?_
    refine SC.seq ?_
    refine SC.plain ?_
    refine St.eql rfl rfl rfl ?_
    refine St.assign rfl rfl ?_
    refine St.done ?_
    refine SX.seq ?_
    refine SC.condp rfl (fun c8 => ?_) (fun c8 => ?_)
    · refine SC.seq ?_
      refine SC.seq ?_
      refine SC.drawn [(0, true), (1, true), (2, true), (3, false), (4, true), (5, true), (6, true), (7, true), (8, true), (9, false), (10, true), (11, true)] [] (_) (by kernel_rfl) (by kernel_rfl) (fun _ h => h) ?_
      refine St.fieldAddr (off := 3) rfl rfl (by kernel_rfl) ?_
      refine St.load rfl rfl (by kernel_rfl) (by first | exact Holds.row mem0 rfl | exact Holds.row mem1 rfl | exact Holds.row mem2 rfl | exact Holds.row mem3 rfl | exact Holds.row mem4 rfl | exact Holds.row mem5 rfl | exact Holds.row mem6 rfl | exact Holds.row mem7 rfl | exact Holds.row mem8 rfl) ?_
      refine St.move rfl rfl ?_
      refine St.call [_] rfl (by kernel_rfl) rfl (wacked_spec w0 _ p e hok) (fun _ _ _ h hw => by rw [← h.1] at hw; exact hw) ?_
      rintro r1 L1 ⟨rfl, rfl⟩
      unfold WnL
      refine St.gtr rfl rfl rfl ?_
      refine St.move rfl rfl ?_
      refine St.split 15 rfl (fun g15 => ?_) (fun g15 => ?_)
      · refine St.guard_yes rfl rfl ?_
        refine St.fieldAddr (off := 3) rfl rfl (by kernel_rfl) ?_
        refine St.guard_yes rfl rfl ?_
        refine St.load rfl rfl (by kernel_rfl) (by first | exact Holds.row mem0 rfl | exact Holds.row mem1 rfl | exact Holds.row mem2 rfl | exact Holds.row mem3 rfl | exact Holds.row mem4 rfl | exact Holds.row mem5 rfl | exact Holds.row mem6 rfl | exact Holds.row mem7 rfl | exact Holds.row mem8 rfl) ?_
        refine St.guard_yes rfl rfl ?_
        refine St.move rfl rfl ?_
        refine St.guard_yes rfl rfl ?_
        refine St.call [_] rfl (by kernel_rfl) rfl (wsent_spec w0 _ p e hok) (fun _ _ _ h hw => by rw [← h.1] at hw; exact hw) ?_
        rintro r1 L1 ⟨rfl, rfl⟩
        unfold WnL
        refine St.guard_yes rfl rfl ?_
        refine St.leq rfl rfl rfl ?_
        refine St.pick_true rfl rfl rfl ?_
        refine St.done ?_
        refine SX.tail ?_
        refine St.done ?_
        refine SX.seq ?_
        refine SC.condp rfl (fun c21 => ?_) (fun c21 => ?_)
        · refine SC.seq ?_
          refine SC.drawn [(0, true), (1, true), (2, true), (3, true), (4, true), (5, true), (6, true), (7, true), (8, true), (9, true), (10, true)] [11] (_) (by kernel_rfl) (by kernel_rfl) (fun _ h => h) ?_
          refine St.move rfl rfl ?_
          refine St.fieldAddr (off := 3) rfl rfl (by kernel_rfl) ?_
          refine St.load rfl rfl (by kernel_rfl) (by first | exact Holds.row mem0 rfl | exact Holds.row mem1 rfl | exact Holds.row mem2 rfl | exact Holds.row mem3 rfl | exact Holds.row mem4 rfl | exact Holds.row mem5 rfl | exact Holds.row mem6 rfl | exact Holds.row mem7 rfl | exact Holds.row mem8 rfl) ?_
          refine St.move rfl rfl ?_
          refine St.nilCheck rfl rfl ?_
          refine St.fieldAddr (off := 2) rfl rfl (by kernel_rfl) ?_
          refine St.load rfl rfl (by kernel_rfl) (by first | exact Holds.row mem0 rfl | exact Holds.row mem1 rfl | exact Holds.row mem2 rfl | exact Holds.row mem3 rfl | exact Holds.row mem4 rfl | exact Holds.row mem5 rfl | exact Holds.row mem6 rfl | exact Holds.row mem7 rfl | exact Holds.row mem8 rfl) ?_
          refine St.lenStr rfl rfl (by kernel_rfl) ?_
          rw [text_size]
          refine St.min2 rfl rfl rfl ?_
          have hmin : min s.ack ((e.out.length : Nat) : Int) = ((min s.ack.toNat e.out.length : Nat) : Int) := by omega
          rw [hmin]
          refine St.nilCheck rfl rfl ?_
          refine St.fieldAddr (off := 4) rfl rfl (by kernel_rfl) ?_
          refine St.done ?_
          refine SX.tail ?_
          first | refine St.store rfl rfl rfl rfl (by kernel_rfl) (Nat.le_of_ble_eq_true rfl) (by first | exact fun _ h => h.nil | exact fun _ h => h | exact fun _ h => h.drop | exact fun _ h => h.drop.drop | exact fun _ h => h.drop.drop.drop) ?_ | refine St.store1 rfl rfl rfl rfl (by kernel_rfl) (Nat.le_of_ble_eq_true rfl) (by first | exact fun _ h => h.nil | exact fun _ h => h | exact fun _ h => h.drop | exact fun _ h => h.drop.drop | exact fun _ h => h.drop.drop.drop) ?_ | refine St.store2 rfl rfl rfl rfl (by kernel_rfl) (Nat.le_of_ble_eq_true rfl) (by first | exact fun _ h => h.nil | exact fun _ h => h | exact fun _ h => h.drop | exact fun _ h => h.drop.drop | exact fun _ h => h.drop.drop.drop) ?_ | refine St.store3 rfl rfl rfl rfl (by kernel_rfl) (Nat.le_of_ble_eq_true rfl) (by first | exact fun _ h => h.nil | exact fun _ h => h | exact fun _ h => h.drop | exact fun _ h => h.drop.drop | exact fun _ h => h.drop.drop.drop) ?_ | refine St.store4 rfl rfl rfl rfl (by kernel_rfl) (Nat.le_of_ble_eq_true rfl) (by first | exact fun _ h => h.nil | exact fun _ h => h | exact fun _ h => h.drop | exact fun _ h => h.drop.drop | exact fun _ h => h.drop.drop.drop) ?_ | refine St.store5 rfl rfl rfl rfl (by kernel_rfl) (Nat.le_of_ble_eq_true rfl) (by first | exact fun _ h => h.nil | exact fun _ h => h | exact fun _ h => h.drop | exact fun _ h => h.drop.drop | exact fun _ h => h.drop.drop.drop) ?_
          refine St.done ?_
          refine SX.seq ?_
          refine SC.seq ?_
          refine SC.drawn [(0, true), (1, true), (2, true), (3, true), (4, true), (5, true), (6, true), (7, true), (8, true), (9, true), (10, true)] [11] (_) (by kernel_rfl) (by kernel_rfl) (fun _ h => h) ?_
          refine St.move rfl rfl ?_
          refine St.fieldAddr (off := 3) rfl rfl (by kernel_rfl) ?_
          refine St.load rfl rfl (by kernel_rfl) (by first | exact Holds.row mem0 rfl | exact Holds.row mem1 rfl | exact Holds.row mem2 rfl | exact Holds.row mem3 rfl | exact Holds.row mem4 rfl | exact Holds.row mem5 rfl | exact Holds.row mem6 rfl | exact Holds.row mem7 rfl | exact Holds.row mem8 rfl) ?_
          refine St.move rfl rfl ?_
          refine St.nilCheck rfl rfl ?_
          refine St.fieldAddr (off := 2) rfl rfl (by kernel_rfl) ?_
          refine St.load rfl rfl (by kernel_rfl) (by first | exact Holds.row mem0 rfl | exact Holds.row mem1 rfl | exact Holds.row mem2 rfl | exact Holds.row mem3 rfl | exact Holds.row mem4 rfl | exact Holds.row mem5 rfl | exact Holds.row mem6 rfl | exact Holds.row mem7 rfl | exact Holds.row mem8 rfl) ?_
          refine St.lenStr rfl rfl (by kernel_rfl) ?_
          rw [text_size]
          refine St.gtr rfl rfl rfl ?_
          refine St.nilCheck rfl rfl ?_
          refine St.fieldAddr (off := 7) rfl rfl (by kernel_rfl) ?_
          refine St.done ?_
          refine SX.tail ?_
          first | refine St.store rfl rfl rfl rfl (by kernel_rfl) (Nat.le_of_ble_eq_true rfl) (by first | exact fun _ h => h.nil | exact fun _ h => h | exact fun _ h => h.drop | exact fun _ h => h.drop.drop | exact fun _ h => h.drop.drop.drop) ?_ | refine St.store1 rfl rfl rfl rfl (by kernel_rfl) (Nat.le_of_ble_eq_true rfl) (by first | exact fun _ h => h.nil | exact fun _ h => h | exact fun _ h => h.drop | exact fun _ h => h.drop.drop | exact fun _ h => h.drop.drop.drop) ?_ | refine St.store2 rfl rfl rfl rfl (by kernel_rfl) (Nat.le_of_ble_eq_true rfl) (by first | exact fun _ h => h.nil | exact fun _ h => h | exact fun _ h => h.drop | exact fun _ h => h.drop.drop | exact fun _ h => h.drop.drop.drop) ?_ | refine St.store3 rfl rfl rfl rfl (by kernel_rfl) (Nat.le_of_ble_eq_true rfl) (by first | exact fun _ h => h.nil | exact fun _ h => h | exact fun _ h => h.drop | exact fun _ h => h.drop.drop | exact fun _ h => h.drop.drop.drop) ?_ | refine St.store4 rfl rfl rfl rfl (by kernel_rfl) (Nat.le_of_ble_eq_true rfl) (by first | exact fun _ h => h.nil | exact fun _ h => h | exact fun _ h => h.drop | exact fun _ h => h.drop.drop | exact fun _ h => h.drop.drop.drop) ?_ | refine St.store5 rfl rfl rfl rfl (by kernel_rfl) (Nat.le_of_ble_eq_true rfl) (by first | exact fun _ h => h.nil | exact fun _ h => h | exact fun _ h => h.drop | exact fun _ h => h.drop.drop | exact fun _ h => h.drop.drop.drop) ?_
          refine St.done ?_
          refine SX.seq ?_
          refine SC.plain ?_
          refine St.move rfl rfl ?_
          refine St.move rfl rfl ?_
          refine St.nilCheck rfl rfl ?_
          refine St.fieldAddr (off := 8) rfl rfl (by kernel_rfl) ?_
          first | refine St.store rfl rfl rfl rfl (by kernel_rfl) (Nat.le_of_ble_eq_true rfl) (by first | exact fun _ h => h.nil | exact fun _ h => h | exact fun _ h => h.drop | exact fun _ h => h.drop.drop | exact fun _ h => h.drop.drop.drop) ?_ | refine St.store1 rfl rfl rfl rfl (by kernel_rfl) (Nat.le_of_ble_eq_true rfl) (by first | exact fun _ h => h.nil | exact fun _ h => h | exact fun _ h => h.drop | exact fun _ h => h.drop.drop | exact fun _ h => h.drop.drop.drop) ?_ | refine St.store2 rfl rfl rfl rfl (by kernel_rfl) (Nat.le_of_ble_eq_true rfl) (by first | exact fun _ h => h.nil | exact fun _ h => h | exact fun _ h => h.drop | exact fun _ h => h.drop.drop | exact fun _ h => h.drop.drop.drop) ?_ | refine St.store3 rfl rfl rfl rfl (by kernel_rfl) (Nat.le_of_ble_eq_true rfl) (by first | exact fun _ h => h.nil | exact fun _ h => h | exact fun _ h => h.drop | exact fun _ h => h.drop.drop | exact fun _ h => h.drop.drop.drop) ?_ | refine St.store4 rfl rfl rfl rfl (by kernel_rfl) (Nat.le_of_ble_eq_true rfl) (by first | exact fun _ h => h.nil | exact fun _ h => h | exact fun _ h => h.drop | exact fun _ h => h.drop.drop | exact fun _ h => h.drop.drop.drop) ?_ | refine St.store5 rfl rfl rfl rfl (by kernel_rfl) (Nat.le_of_ble_eq_true rfl) (by first | exact fun _ h => h.nil | exact fun _ h => h | exact fun _ h => h.drop | exact fun _ h => h.drop.drop | exact fun _ h => h.drop.drop.drop) ?_
          refine St.done ?_
          refine SX.seq ?_
          refine SC.ret ?_
          refine SX.blk_ret ?_
          refine SX.seq_ret ?_
          have hw : e.open_ s now = { e with una := min s.ack.toNat e.out.length, endAcked := decide ((e.out.length : Int) < s.ack), at_ := now } := by unfold En.open_; rw [if_neg (by omega), if_pos (by omega)]; exact if_pos ⟨by omega, by omega⟩
          rw [hw]
          refine SX.weak _ (.cons_cons _ (.cons _ (List.Sublist.refl _))) ?_
          exact SX.ret0 (.inl rfl) rfl rfl
        · refine SC.skip ?_
          refine SX.seq ?_
          refine SC.ret ?_
          refine SX.blk_ret ?_
          refine SX.seq_ret ?_
          have hw : e.open_ s now = e := by unfold En.open_; rw [if_neg (by omega), if_pos (by omega)]; exact if_neg (by omega)
          rw [hw]
          refine SX.weak _ (.cons_cons _ (.cons _ (List.Sublist.refl _))) ?_
          exact SX.ret0 (.inl rfl) rfl rfl
      · refine St.guard_no rfl rfl rfl ?_
        refine St.guard_no rfl rfl rfl ?_
        refine St.guard_no rfl rfl rfl ?_
        refine St.guard_no rfl rfl rfl ?_
        refine St.guard_no rfl rfl rfl ?_
        refine St.pick_false rfl rfl rfl ?_
        refine St.done ?_
        refine SX.tail ?_
        refine St.done ?_
        refine SX.seq ?_
        refine SC.cond_false rfl ?_
        refine SC.skip ?_
        refine SX.seq ?_
        refine SC.ret ?_
        refine SX.blk_ret ?_
        refine SX.seq_ret ?_
        have hw : e.open_ s now = e := by unfold En.open_; rw [if_neg (by omega), if_pos (by omega)]; exact if_neg (by omega)
        rw [hw]
        refine SX.weak _ (.cons_cons _ (.cons _ (List.Sublist.refl _))) ?_
        exact SX.ret0 (.inl rfl) rfl rfl
    · refine SC.seq ?_
      refine SC.plain ?_
      refine St.eql rfl rfl rfl ?_
      refine St.assign rfl rfl ?_
      refine St.done ?_
      refine SX.seq ?_
      refine SC.condp rfl (fun c48 => ?_) (fun c48 => ?_)
      · refine SC.seq ?_
        refine SC.drawn [(0, true), (1, true), (2, true), (3, true), (4, true), (5, true), (6, true), (7, true), (8, true), (9, true), (10, true), (11, true), (12, true), (13, true), (14, true), (15, true), (16, true), (17, true), (18, true), (19, true), (20, true), (21, true), (22, true), (23, true), (24, true), (25, true), (26, true)] [] (_) (by kernel_rfl) (by kernel_rfl) (fun _ h => h) ?_
        refine St.fieldAddr (off := 2) rfl rfl (by kernel_rfl) ?_
        refine St.load rfl rfl (by kernel_rfl) (by first | exact Holds.row mem0 rfl | exact Holds.row mem1 rfl | exact Holds.row mem2 rfl | exact Holds.row mem3 rfl | exact Holds.row mem4 rfl | exact Holds.row mem5 rfl | exact Holds.row mem6 rfl | exact Holds.row mem7 rfl | exact Holds.row mem8 rfl) ?_
        refine St.move rfl rfl ?_
        refine St.nilCheck rfl rfl ?_
        refine St.fieldAddr (off := 10) rfl rfl (by kernel_rfl) ?_
        refine St.load rfl rfl (by kernel_rfl) (by first | exact Holds.row mem0 rfl | exact Holds.row mem1 rfl | exact Holds.row mem2 rfl | exact Holds.row mem3 rfl | exact Holds.row mem4 rfl | exact Holds.row mem5 rfl | exact Holds.row mem6 rfl | exact Holds.row mem7 rfl | exact Holds.row mem8 rfl) ?_
        refine St.lenStr rfl rfl (by kernel_rfl) ?_
        rw [text_size]
        refine St.eql rfl rfl rfl ?_
        refine St.move rfl rfl ?_
        refine St.split 58 rfl (fun g58 => ?_) (fun g58 => ?_)
        · refine St.guard_yes rfl rfl ?_
          refine St.fieldAddr (off := 4) rfl rfl (by kernel_rfl) ?_
          refine St.guard_yes rfl rfl ?_
          refine St.load rfl rfl (by kernel_rfl) (by first | exact Holds.row mem0 rfl | exact Holds.row mem1 rfl | exact Holds.row mem2 rfl | exact Holds.row mem3 rfl | exact Holds.row mem4 rfl | exact Holds.row mem5 rfl | exact Holds.row mem6 rfl | exact Holds.row mem7 rfl | exact Holds.row mem8 rfl) ?_
          refine St.guard_yes rfl rfl ?_
          refine St.lenSl rfl rfl (by kernel_rfl) ?_
          refine St.guard_yes rfl rfl ?_
          refine St.move rfl rfl ?_
          refine St.guard_yes rfl rfl ?_
          refine St.nilCheck rfl rfl ?_
          refine St.guard_yes rfl rfl ?_
          refine St.fieldAddr (off := 10) rfl rfl (by kernel_rfl) ?_
          refine St.guard_yes rfl rfl ?_
          refine St.load rfl rfl (by kernel_rfl) (by first | exact Holds.row mem0 rfl | exact Holds.row mem1 rfl | exact Holds.row mem2 rfl | exact Holds.row mem3 rfl | exact Holds.row mem4 rfl | exact Holds.row mem5 rfl | exact Holds.row mem6 rfl | exact Holds.row mem7 rfl | exact Holds.row mem8 rfl) ?_
          refine St.guard_yes rfl rfl ?_
          refine St.lenStr rfl rfl (by kernel_rfl) ?_
          rw [text_size]
          refine St.guard_yes rfl rfl ?_
          first | refine St.subN (a := 1048576) rfl rfl rfl (by omega) (by omega) ?_ | refine St.subI rfl rfl rfl (by omega) ?_
          refine St.guard_yes rfl rfl ?_
          refine St.leq rfl rfl rfl ?_
          refine St.pick_true rfl rfl rfl ?_
          refine St.move rfl rfl ?_
          refine St.split 70 rfl (fun g70 => ?_) (fun g70 => ?_)
          · refine St.guard_yes rfl rfl ?_
            refine St.move rfl rfl ?_
            refine St.guard_yes rfl rfl ?_
            refine St.nilCheck rfl rfl ?_
            refine St.guard_yes rfl rfl ?_
            refine St.fieldAddr (off := 12) rfl rfl (by kernel_rfl) ?_
            refine St.guard_yes rfl rfl ?_
            refine St.load rfl rfl (by kernel_rfl) (by first | exact Holds.row mem0 rfl | exact Holds.row mem1 rfl | exact Holds.row mem2 rfl | exact Holds.row mem3 rfl | exact Holds.row mem4 rfl | exact Holds.row mem5 rfl | exact Holds.row mem6 rfl | exact Holds.row mem7 rfl | exact Holds.row mem8 rfl) ?_
            refine St.guard_yes rfl rfl ?_
            refine St.notB rfl rfl ?_
            refine St.pick_true rfl rfl rfl ?_
            refine St.done ?_
            refine SX.tail ?_
            refine St.done ?_
            refine SX.seq ?_
            refine SC.cond rfl (fun c76 => ?_) (fun c76 => ?_)
            · refine SC.drawn [(0, true), (1, true), (2, true), (3, true), (4, true), (5, true), (6, true), (7, true), (8, true), (9, true), (10, true)] [11] (_) (by kernel_rfl) (by kernel_rfl) (fun _ h => h) ?_
              refine St.move rfl rfl ?_
              refine St.move rfl rfl ?_
              refine St.nilCheck rfl rfl ?_
              refine St.fieldAddr (off := 10) rfl rfl (by kernel_rfl) ?_
              refine St.load rfl rfl (by kernel_rfl) (by first | exact Holds.row mem0 rfl | exact Holds.row mem1 rfl | exact Holds.row mem2 rfl | exact Holds.row mem3 rfl | exact Holds.row mem4 rfl | exact Holds.row mem5 rfl | exact Holds.row mem6 rfl | exact Holds.row mem7 rfl | exact Holds.row mem8 rfl) ?_
              refine St.fieldAddr (off := 4) rfl rfl (by kernel_rfl) ?_
              refine St.load rfl rfl (by kernel_rfl) (by first | exact Holds.row mem0 rfl | exact Holds.row mem1 rfl | exact Holds.row mem2 rfl | exact Holds.row mem3 rfl | exact Holds.row mem4 rfl | exact Holds.row mem5 rfl | exact Holds.row mem6 rfl | exact Holds.row mem7 rfl | exact Holds.row mem8 rfl) ?_
              refine St.toStr (e := 5) (bs := s.data) (n := s.data.length) rfl rfl (Rd.mono hS.rd (fun w hw => by first | exact hw.drop.drop | exact hw.drop)) (by kernel_rfl) (by kernel_rfl) (by kernel_rfl) ?_
              refine St.strAdd rfl rfl rfl (by rw [text_size, text_size]; omega) ?_
              rw [← text_app2]
              refine St.nilCheck rfl rfl ?_
              refine St.fieldAddr (off := 10) rfl rfl (by kernel_rfl) ?_
              refine St.done ?_
              refine SX.tail ?_
              first | refine St.store rfl rfl rfl rfl (by kernel_rfl) (Nat.le_of_ble_eq_true rfl) (by first | exact fun _ h => h.nil | exact fun _ h => h | exact fun _ h => h.drop | exact fun _ h => h.drop.drop | exact fun _ h => h.drop.drop.drop) ?_ | refine St.store1 rfl rfl rfl rfl (by kernel_rfl) (Nat.le_of_ble_eq_true rfl) (by first | exact fun _ h => h.nil | exact fun _ h => h | exact fun _ h => h.drop | exact fun _ h => h.drop.drop | exact fun _ h => h.drop.drop.drop) ?_ | refine St.store2 rfl rfl rfl rfl (by kernel_rfl) (Nat.le_of_ble_eq_true rfl) (by first | exact fun _ h => h.nil | exact fun _ h => h | exact fun _ h => h.drop | exact fun _ h => h.drop.drop | exact fun _ h => h.drop.drop.drop) ?_ | refine St.store3 rfl rfl rfl rfl (by kernel_rfl) (Nat.le_of_ble_eq_true rfl) (by first | exact fun _ h => h.nil | exact fun _ h => h | exact fun _ h => h.drop | exact fun _ h => h.drop.drop | exact fun _ h => h.drop.drop.drop) ?_ | refine St.store4 rfl rfl rfl rfl (by kernel_rfl) (Nat.le_of_ble_eq_true rfl) (by first | exact fun _ h => h.nil | exact fun _ h => h | exact fun _ h => h.drop | exact fun _ h => h.drop.drop | exact fun _ h => h.drop.drop.drop) ?_ | refine St.store5 rfl rfl rfl rfl (by kernel_rfl) (Nat.le_of_ble_eq_true rfl) (by first | exact fun _ h => h.nil | exact fun _ h => h | exact fun _ h => h.drop | exact fun _ h => h.drop.drop | exact fun _ h => h.drop.drop.drop) ?_
              refine St.done ?_
              refine SX.blk ?_
              have hot : e.other = false := by simpa using c76
              exact SX.some { e with inn := e.inn ++ s.data } (by unfold En.open_; rw [if_neg (by omega), if_neg (by omega), if_pos (by omega)]; unfold En.data; rw [if_pos ⟨by omega, by omega, hot⟩]) ⟨rfl, rfl, trivial⟩ (List.Perm.refl _)
            · refine SC.skip ?_
              refine SX.blk ?_
              exact SX.some e (by unfold En.open_; rw [if_neg (by omega), if_neg (by omega), if_pos (by omega)]; unfold En.data; rw [if_neg (by rintro ⟨k1, k2, k3⟩; first | omega | (rw [k3] at c76; cases c76))]) ⟨rfl, rfl, trivial⟩ (List.Perm.refl _)
          · refine St.guard_no rfl rfl rfl ?_
            refine St.guard_no rfl rfl rfl ?_
            refine St.guard_no rfl rfl rfl ?_
            refine St.guard_no rfl rfl rfl ?_
            refine St.guard_no rfl rfl rfl ?_
            refine St.pick_false rfl rfl rfl ?_
            refine St.done ?_
            refine SX.tail ?_
            refine St.done ?_
            refine SX.seq ?_
            refine SC.cond_false rfl ?_
            refine SC.skip ?_
            refine SX.blk ?_
            exact SX.some e (by unfold En.open_; rw [if_neg (by omega), if_neg (by omega), if_pos (by omega)]; unfold En.data; rw [if_neg (by rintro ⟨k1, k2, k3⟩; first | omega | (rw [k3] at c76; cases c76))]) ⟨rfl, rfl, trivial⟩ (List.Perm.refl _)
        · refine St.guard_no rfl rfl rfl ?_
          refine St.guard_no rfl rfl rfl ?_
          refine St.guard_no rfl rfl rfl ?_
          refine St.guard_no rfl rfl rfl ?_
          refine St.guard_no rfl rfl rfl ?_
          refine St.guard_no rfl rfl rfl ?_
          refine St.guard_no rfl rfl rfl ?_
          refine St.guard_no rfl rfl rfl ?_
          refine St.guard_no rfl rfl rfl ?_
          refine St.guard_no rfl rfl rfl ?_
          refine St.pick_false rfl rfl rfl ?_
          refine St.move rfl rfl ?_
          refine St.guard_no rfl rfl rfl ?_
          refine St.guard_no rfl rfl rfl ?_
          refine St.guard_no rfl rfl rfl ?_
          refine St.guard_no rfl rfl rfl ?_
          refine St.guard_no rfl rfl rfl ?_
          refine St.pick_false rfl rfl rfl ?_
          refine St.done ?_
          refine SX.tail ?_
          refine St.done ?_
          refine SX.seq ?_
          refine SC.cond_false rfl ?_
          refine SC.skip ?_
          refine SX.blk ?_
          exact SX.some e (by unfold En.open_; rw [if_neg (by omega), if_neg (by omega), if_pos (by omega)]; unfold En.data; rw [if_neg (by rintro ⟨k1, k2, k3⟩; first | omega | (rw [k3] at c76; cases c76))]) ⟨rfl, rfl, trivial⟩ (List.Perm.refl _)
      · refine SC.seq ?_
        refine SC.plain ?_
        refine St.eql rfl rfl rfl ?_
        refine St.assign rfl rfl ?_
        refine St.done ?_
        refine SX.seq ?_
        refine SC.condp rfl (fun c88 => ?_) (fun c88 => ?_)
        · refine SC.drawn [(0, true), (1, true), (2, true), (3, true), (4, true), (5, true), (6, true), (7, true), (8, true), (9, true), (10, true), (11, true), (12, true), (13, true), (14, true), (15, true), (16, true)] [17] (_) (by kernel_rfl) (by kernel_rfl) (fun _ h => h) ?_
          refine St.move rfl rfl ?_
          refine St.move rfl rfl ?_
          refine St.nilCheck rfl rfl ?_
          refine St.fieldAddr (off := 12) rfl rfl (by kernel_rfl) ?_
          refine St.load rfl rfl (by kernel_rfl) (by first | exact Holds.row mem0 rfl | exact Holds.row mem1 rfl | exact Holds.row mem2 rfl | exact Holds.row mem3 rfl | exact Holds.row mem4 rfl | exact Holds.row mem5 rfl | exact Holds.row mem6 rfl | exact Holds.row mem7 rfl | exact Holds.row mem8 rfl) ?_
          refine St.move rfl rfl ?_
          refine St.splitB 95 rfl (fun g95 => ?_) (fun g95 => ?_)
          · refine St.guard_no rfl rfl rfl ?_
            refine St.guard_no rfl rfl rfl ?_
            refine St.guard_no rfl rfl rfl ?_
            refine St.guard_no rfl rfl rfl ?_
            refine St.guard_no rfl rfl rfl ?_
            refine St.guard_no rfl rfl rfl ?_
            refine St.guard_no rfl rfl rfl ?_
            refine St.guard_no rfl rfl rfl ?_
            refine St.pick_true rfl rfl rfl ?_
            refine St.nilCheck rfl rfl ?_
            refine St.fieldAddr (off := 12) rfl rfl (by kernel_rfl) ?_
            refine St.done ?_
            refine SX.tail ?_
            first | refine St.store rfl rfl rfl rfl (by kernel_rfl) (Nat.le_of_ble_eq_true rfl) (by first | exact fun _ h => h.nil | exact fun _ h => h | exact fun _ h => h.drop | exact fun _ h => h.drop.drop | exact fun _ h => h.drop.drop.drop) ?_ | refine St.store1 rfl rfl rfl rfl (by kernel_rfl) (Nat.le_of_ble_eq_true rfl) (by first | exact fun _ h => h.nil | exact fun _ h => h | exact fun _ h => h.drop | exact fun _ h => h.drop.drop | exact fun _ h => h.drop.drop.drop) ?_ | refine St.store2 rfl rfl rfl rfl (by kernel_rfl) (Nat.le_of_ble_eq_true rfl) (by first | exact fun _ h => h.nil | exact fun _ h => h | exact fun _ h => h.drop | exact fun _ h => h.drop.drop | exact fun _ h => h.drop.drop.drop) ?_ | refine St.store3 rfl rfl rfl rfl (by kernel_rfl) (Nat.le_of_ble_eq_true rfl) (by first | exact fun _ h => h.nil | exact fun _ h => h | exact fun _ h => h.drop | exact fun _ h => h.drop.drop | exact fun _ h => h.drop.drop.drop) ?_ | refine St.store4 rfl rfl rfl rfl (by kernel_rfl) (Nat.le_of_ble_eq_true rfl) (by first | exact fun _ h => h.nil | exact fun _ h => h | exact fun _ h => h.drop | exact fun _ h => h.drop.drop | exact fun _ h => h.drop.drop.drop) ?_ | refine St.store5 rfl rfl rfl rfl (by kernel_rfl) (Nat.le_of_ble_eq_true rfl) (by first | exact fun _ h => h.nil | exact fun _ h => h | exact fun _ h => h.drop | exact fun _ h => h.drop.drop | exact fun _ h => h.drop.drop.drop) ?_
            refine St.done ?_
            refine SX.blk ?_
            exact SX.some { e with other := true } (by unfold En.open_; rw [if_neg (by omega), if_neg (by omega), if_neg (by omega), if_pos (by omega)]; unfold En.fin; rw [g95]; rfl) ⟨rfl, rfl, trivial⟩ (List.Perm.refl _)
          · refine St.guard_yes rfl rfl ?_
            refine St.fieldAddr (off := 2) rfl rfl (by kernel_rfl) ?_
            refine St.guard_yes rfl rfl ?_
            refine St.load rfl rfl (by kernel_rfl) (by first | exact Holds.row mem0 rfl | exact Holds.row mem1 rfl | exact Holds.row mem2 rfl | exact Holds.row mem3 rfl | exact Holds.row mem4 rfl | exact Holds.row mem5 rfl | exact Holds.row mem6 rfl | exact Holds.row mem7 rfl | exact Holds.row mem8 rfl) ?_
            refine St.guard_yes rfl rfl ?_
            refine St.move rfl rfl ?_
            refine St.guard_yes rfl rfl ?_
            refine St.nilCheck rfl rfl ?_
            refine St.guard_yes rfl rfl ?_
            refine St.fieldAddr (off := 10) rfl rfl (by kernel_rfl) ?_
            refine St.guard_yes rfl rfl ?_
            refine St.load rfl rfl (by kernel_rfl) (by first | exact Holds.row mem0 rfl | exact Holds.row mem1 rfl | exact Holds.row mem2 rfl | exact Holds.row mem3 rfl | exact Holds.row mem4 rfl | exact Holds.row mem5 rfl | exact Holds.row mem6 rfl | exact Holds.row mem7 rfl | exact Holds.row mem8 rfl) ?_
            refine St.guard_yes rfl rfl ?_
            refine St.lenStr rfl rfl (by kernel_rfl) ?_
            rw [text_size]
            refine St.guard_yes rfl rfl ?_
            refine St.eql rfl rfl rfl ?_
            refine St.pick_false rfl rfl rfl ?_
            refine St.nilCheck rfl rfl ?_
            refine St.fieldAddr (off := 12) rfl rfl (by kernel_rfl) ?_
            refine St.done ?_
            refine SX.tail ?_
            first | refine St.store rfl rfl rfl rfl (by kernel_rfl) (Nat.le_of_ble_eq_true rfl) (by first | exact fun _ h => h.nil | exact fun _ h => h | exact fun _ h => h.drop | exact fun _ h => h.drop.drop | exact fun _ h => h.drop.drop.drop) ?_ | refine St.store1 rfl rfl rfl rfl (by kernel_rfl) (Nat.le_of_ble_eq_true rfl) (by first | exact fun _ h => h.nil | exact fun _ h => h | exact fun _ h => h.drop | exact fun _ h => h.drop.drop | exact fun _ h => h.drop.drop.drop) ?_ | refine St.store2 rfl rfl rfl rfl (by kernel_rfl) (Nat.le_of_ble_eq_true rfl) (by first | exact fun _ h => h.nil | exact fun _ h => h | exact fun _ h => h.drop | exact fun _ h => h.drop.drop | exact fun _ h => h.drop.drop.drop) ?_ | refine St.store3 rfl rfl rfl rfl (by kernel_rfl) (Nat.le_of_ble_eq_true rfl) (by first | exact fun _ h => h.nil | exact fun _ h => h | exact fun _ h => h.drop | exact fun _ h => h.drop.drop | exact fun _ h => h.drop.drop.drop) ?_ | refine St.store4 rfl rfl rfl rfl (by kernel_rfl) (Nat.le_of_ble_eq_true rfl) (by first | exact fun _ h => h.nil | exact fun _ h => h | exact fun _ h => h.drop | exact fun _ h => h.drop.drop | exact fun _ h => h.drop.drop.drop) ?_ | refine St.store5 rfl rfl rfl rfl (by kernel_rfl) (Nat.le_of_ble_eq_true rfl) (by first | exact fun _ h => h.nil | exact fun _ h => h | exact fun _ h => h.drop | exact fun _ h => h.drop.drop | exact fun _ h => h.drop.drop.drop) ?_
            refine St.done ?_
            refine SX.blk ?_
            exact SX.some { e with other := decide (s.seq = (e.inn.length : Int)) } (by unfold En.open_; rw [if_neg (by omega), if_neg (by omega), if_neg (by omega), if_pos (by omega)]; unfold En.fin; rw [g95]; rfl) ⟨rfl, rfl, trivial⟩ (List.Perm.refl _)
        · refine SC.skip ?_
          refine SX.blk ?_
          exact SX.some e (by unfold En.open_; rw [if_pos (by omega)]) ⟨rfl, rfl, trivial⟩ (List.Perm.refl _)
theorem win_spec (w0 : World) (L : List Chunk) (p : Nat) (e : En) (hok : e.Ok) (str : ByteArray) (bs : List Nat) (hbs : u8s str = bs) (hl : str.size ≤ 140737488351232) (now : Int) (hn : Clock now) :
    Meets Try.prog 84 #[.pointer (some ⟨p, 0, none⟩), .string str, .int .i64 now] w0 (WnL p e L) (fun r L' => L' = WnL p (e.inp bs now) L) := by
  have hr1 := hok.room
  have hr2 := hok.inn
  have hu := hok.una
  have hx := hok.next
  have hid := hok.id
  have hst := hok.st
  have hrd := hok.read
  have hat := hok.at_
  have hso := text_size e.out
  have hsi := text_size e.inn
  have hlt : ∀ b ∈ bs, b < 256 := by rw [← hbs]; exact u8s_lt str
  have hnum := segFrom_num2 hlt
  have hlen : bs.length = str.size := by rw [← hbs]; exact u8s_length str
  unfold WnL
  refine Meets.of_body [.pointer (some ⟨p, 0, none⟩), .string str, .int .i64 now] Try.func84 rfl Try.ntmps84 rfl ?_
  refine SC.seq ?_
  refine SC.plain ?_
  refine St.move rfl rfl ?_
  refine St.call [_] rfl (by kernel_rfl) rfl (rparse_spec w0 _ str (by omega)) (fun _ _ _ _ h => h.nil) ?_
  rw [hbs]
  rintro r0 L1 ⟨dv, Ed, rfl, rfl, hbd⟩
  have hbdr := hbd.read
  obtain ⟨_, _, Ad, cd, rfl, _, _⟩ := hbdr
  refine St.move rfl rfl ?_
  refine St.extract rfl rfl rfl ?_
  refine St.extract rfl rfl rfl ?_
  refine St.alloc [.int .i64 0, .int .i64 0, .int .i64 0, .int .i64 0, .slice none 0 0] rfl (by kernel_rfl) (by first | exact fun _ _ h => h.nil | exact fun _ _ h => h | exact fun _ _ h => h.drop | exact fun _ _ h => h.drop.drop | exact fun _ _ h => h.drop.drop.drop) (fun b6 => ?_)
  refine St.storeN rfl rfl rfl (segCells (segFrom bs) (.slice Ad (segFrom bs).data.length cd)) rfl (by kernel_rfl) (by simp [segCells, one]) (by simp [segCells]) (fun _ h => h.nil) ?_
  rw [show splice [.int .i64 0, .int .i64 0, .int .i64 0, .int .i64 0, .slice none 0 0] 0 (segCells (segFrom bs) (.slice Ad (segFrom bs).data.length cd)) = (segCells (segFrom bs) (.slice Ad (segFrom bs).data.length cd)) from rfl]
  refine St.perm ([⟨p, wnRow e, 204⟩] :: [⟨b6, (segCells (segFrom bs) (.slice Ad (segFrom bs).data.length cd)), 73⟩] :: Ed :: L) (perm_idx [[[⟨b6, (segCells (segFrom bs) (.slice Ad (segFrom bs).data.length cd)), 73⟩]], [Ed], [[⟨p, wnRow e, 204⟩]]] L [2, 0, 1] (by kernel_rfl)) ?_
  refine St.assign rfl rfl ?_
  refine St.done ?_
  refine SX.seq ?_
  refine SC.seq ?_
  refine SC.seq ?_
  refine SC.drawn [(0, true), (1, true), (2, true), (3, true), (4, true), (5, true), (6, true), (7, true), (8, true), (9, true), (10, true), (11, true), (12, true), (13, true), (14, true), (15, true), (16, true), (17, true)] [] (_) (by kernel_rfl) (by kernel_rfl) (fun _ h => h) ?_
  refine St.move rfl rfl ?_
  refine St.notB rfl rfl ?_
  refine St.move rfl rfl ?_
  refine St.splitB 15 rfl (fun g15 => ?_) (fun g15 => ?_)
  · refine St.guard_no rfl rfl rfl ?_
    refine St.guard_no rfl rfl rfl ?_
    refine St.guard_no rfl rfl rfl ?_
    refine St.guard_no rfl rfl rfl ?_
    refine St.guard_no rfl rfl rfl ?_
    refine St.guard_no rfl rfl rfl ?_
    refine St.guard_no rfl rfl rfl ?_
    refine St.pick_true rfl rfl rfl ?_
    refine St.move rfl rfl ?_
    refine St.guard_no rfl rfl rfl ?_
    refine St.guard_no rfl rfl rfl ?_
    refine St.guard_no rfl rfl rfl ?_
    refine St.guard_no rfl rfl rfl ?_
    refine St.guard_no rfl rfl rfl ?_
    refine St.pick_true rfl rfl rfl ?_
    refine St.done ?_
    refine SX.tail ?_
    refine St.done ?_
    refine SX.seq ?_
    refine SC.cond_true rfl ?_
    refine SC.ret ?_
    refine SX.seq_ret ?_
    have hw : e.inp bs now = e := if_pos (by first | (left; simpa using g15) | (right; left; omega) | (right; right; omega))
    rw [hw]
    refine SX.weak _ (.cons_cons _ (.cons _ (.cons _ (List.Sublist.refl _)))) ?_
    exact SX.ret0 (.inl rfl) rfl rfl
  · refine St.guard_yes rfl rfl ?_
    refine St.fieldAddr (off := 1) rfl rfl (by kernel_rfl) ?_
    refine St.guard_yes rfl rfl ?_
    refine St.load rfl rfl (by kernel_rfl) (by first | exact Holds.row mem0 rfl | exact Holds.row mem1 rfl | exact Holds.row mem2 rfl | exact Holds.row mem3 rfl | exact Holds.row mem4 rfl | exact Holds.row mem5 rfl | exact Holds.row mem6 rfl | exact Holds.row mem7 rfl | exact Holds.row mem8 rfl) ?_
    refine St.guard_yes rfl rfl ?_
    refine St.move rfl rfl ?_
    refine St.guard_yes rfl rfl ?_
    refine St.nilCheck rfl rfl ?_
    refine St.guard_yes rfl rfl ?_
    refine St.fieldAddr (off := 0) rfl rfl (by kernel_rfl) ?_
    refine St.guard_yes rfl rfl ?_
    refine St.load rfl rfl (by kernel_rfl) (by first | exact Holds.row mem0 rfl | exact Holds.row mem1 rfl | exact Holds.row mem2 rfl | exact Holds.row mem3 rfl | exact Holds.row mem4 rfl | exact Holds.row mem5 rfl | exact Holds.row mem6 rfl | exact Holds.row mem7 rfl | exact Holds.row mem8 rfl) ?_
    refine St.guard_yes rfl rfl ?_
    refine St.neq rfl rfl rfl ?_
    refine St.pick_false rfl rfl rfl ?_
    refine St.move rfl rfl ?_
    refine St.split 24 rfl (fun g24 => ?_) (fun g24 => ?_)
    · refine St.guard_no rfl rfl rfl ?_
      refine St.guard_no rfl rfl rfl ?_
      refine St.guard_no rfl rfl rfl ?_
      refine St.guard_no rfl rfl rfl ?_
      refine St.guard_no rfl rfl rfl ?_
      refine St.pick_true rfl rfl rfl ?_
      refine St.done ?_
      refine SX.tail ?_
      refine St.done ?_
      refine SX.seq ?_
      refine SC.cond_true rfl ?_
      refine SC.ret ?_
      refine SX.seq_ret ?_
      have hw : e.inp bs now = e := if_pos (by first | (left; simpa using g15) | (right; left; omega) | (right; right; omega))
      rw [hw]
      refine SX.weak _ (.cons_cons _ (.cons _ (.cons _ (List.Sublist.refl _)))) ?_
      exact SX.ret0 (.inl rfl) rfl rfl
    · refine St.guard_yes rfl rfl ?_
      refine St.move rfl rfl ?_
      refine St.guard_yes rfl rfl ?_
      refine St.nilCheck rfl rfl ?_
      refine St.guard_yes rfl rfl ?_
      refine St.fieldAddr (off := 1) rfl rfl (by kernel_rfl) ?_
      refine St.guard_yes rfl rfl ?_
      refine St.load rfl rfl (by kernel_rfl) (by first | exact Holds.row mem0 rfl | exact Holds.row mem1 rfl | exact Holds.row mem2 rfl | exact Holds.row mem3 rfl | exact Holds.row mem4 rfl | exact Holds.row mem5 rfl | exact Holds.row mem6 rfl | exact Holds.row mem7 rfl | exact Holds.row mem8 rfl) ?_
      refine St.guard_yes rfl rfl ?_
      refine St.eql rfl rfl rfl ?_
      refine St.pick_false rfl rfl rfl ?_
      refine St.done ?_
      refine SX.tail ?_
      refine St.done ?_
      refine SX.seq ?_
      refine SC.condp rfl (fun c30 => ?_) (fun c30 => ?_)
      · refine SC.ret ?_
        refine SX.seq_ret ?_
        have hw : e.inp bs now = e := if_pos (by first | (left; simpa using g15) | (right; left; omega) | (right; right; omega))
        rw [hw]
        refine SX.weak _ (.cons_cons _ (.cons _ (.cons _ (List.Sublist.refl _)))) ?_
        exact SX.ret0 (.inl rfl) rfl rfl
      · have his : isSeg bs = true := by simpa using g15
        have hrng := seg_rng his hlt
        have hgo : e.inp bs now = e.seg (segFrom bs) now := if_neg (by rintro (h | h | h); rw [his] at h; cases h; omega; omega)
        refine SC.skip ?_
        refine SX.seq ?_
        refine SC.block ?_
        refine SC.seq ?_
        refine SC.plain ?_
        refine St.fieldAddr (off := 0) rfl rfl (by kernel_rfl) ?_
        refine St.load rfl rfl (by kernel_rfl) (by first | exact Holds.row mem0 rfl | exact Holds.row mem1 rfl | exact Holds.row mem2 rfl | exact Holds.row mem3 rfl | exact Holds.row mem4 rfl | exact Holds.row mem5 rfl | exact Holds.row mem6 rfl | exact Holds.row mem7 rfl | exact Holds.row mem8 rfl) ?_
        refine St.eql rfl rfl rfl ?_
        refine St.assign rfl rfl ?_
        refine St.done ?_
        refine SX.seq ?_
        refine SC.condp rfl (fun c35 => ?_) (fun c35 => ?_)
        · refine SC.plain ?_
          refine St.move rfl rfl ?_
          refine St.nilCheck rfl rfl ?_
          refine St.fieldAddr (off := 1) rfl rfl (by kernel_rfl) ?_
          first | refine St.store rfl rfl rfl rfl (by kernel_rfl) (Nat.le_of_ble_eq_true rfl) (by first | exact fun _ h => h.nil | exact fun _ h => h | exact fun _ h => h.drop | exact fun _ h => h.drop.drop | exact fun _ h => h.drop.drop.drop) ?_ | refine St.store1 rfl rfl rfl rfl (by kernel_rfl) (Nat.le_of_ble_eq_true rfl) (by first | exact fun _ h => h.nil | exact fun _ h => h | exact fun _ h => h.drop | exact fun _ h => h.drop.drop | exact fun _ h => h.drop.drop.drop) ?_ | refine St.store2 rfl rfl rfl rfl (by kernel_rfl) (Nat.le_of_ble_eq_true rfl) (by first | exact fun _ h => h.nil | exact fun _ h => h | exact fun _ h => h.drop | exact fun _ h => h.drop.drop | exact fun _ h => h.drop.drop.drop) ?_ | refine St.store3 rfl rfl rfl rfl (by kernel_rfl) (Nat.le_of_ble_eq_true rfl) (by first | exact fun _ h => h.nil | exact fun _ h => h | exact fun _ h => h.drop | exact fun _ h => h.drop.drop | exact fun _ h => h.drop.drop.drop) ?_ | refine St.store4 rfl rfl rfl rfl (by kernel_rfl) (Nat.le_of_ble_eq_true rfl) (by first | exact fun _ h => h.nil | exact fun _ h => h | exact fun _ h => h.drop | exact fun _ h => h.drop.drop | exact fun _ h => h.drop.drop.drop) ?_ | refine St.store5 rfl rfl rfl rfl (by kernel_rfl) (Nat.le_of_ble_eq_true rfl) (by first | exact fun _ h => h.nil | exact fun _ h => h | exact fun _ h => h.drop | exact fun _ h => h.drop.drop | exact fun _ h => h.drop.drop.drop) ?_
          refine St.done ?_
          refine SX.blk ?_
          have hw : e.inp bs now = { e with st := 4 } := by rw [hgo]; unfold En.seg; rw [if_pos (by omega)]
          rw [hw]
          refine SX.weak _ (.cons_cons _ (.cons _ (.cons _ (List.Sublist.refl _)))) ?_
          exact SX.ret0 (.inr rfl) rfl rfl
        · refine SC.seq ?_
          refine SC.plain ?_
          refine St.move rfl rfl ?_
          refine St.nilCheck rfl rfl ?_
          refine St.fieldAddr (off := 1) rfl rfl (by kernel_rfl) ?_
          refine St.load rfl rfl (by kernel_rfl) (by first | exact Holds.row mem0 rfl | exact Holds.row mem1 rfl | exact Holds.row mem2 rfl | exact Holds.row mem3 rfl | exact Holds.row mem4 rfl | exact Holds.row mem5 rfl | exact Holds.row mem6 rfl | exact Holds.row mem7 rfl | exact Holds.row mem8 rfl) ?_
          refine St.eql rfl rfl rfl ?_
          refine St.assign rfl rfl ?_
          refine St.done ?_
          refine SX.seq ?_
          refine SC.condp rfl (fun c42 => ?_) (fun c42 => ?_)
          · refine SC.seq ?_
            refine SC.plain ?_
            refine St.fieldAddr (off := 0) rfl rfl (by kernel_rfl) ?_
            refine St.load rfl rfl (by kernel_rfl) (by first | exact Holds.row mem0 rfl | exact Holds.row mem1 rfl | exact Holds.row mem2 rfl | exact Holds.row mem3 rfl | exact Holds.row mem4 rfl | exact Holds.row mem5 rfl | exact Holds.row mem6 rfl | exact Holds.row mem7 rfl | exact Holds.row mem8 rfl) ?_
            refine St.eql rfl rfl rfl ?_
            refine St.done ?_
            refine SX.seq ?_
            refine SC.condp rfl (fun c50 => ?_) (fun c50 => ?_)
            · refine SC.seq ?_
              refine SC.plain ?_
              refine St.move rfl rfl ?_
              refine St.nilCheck rfl rfl ?_
              refine St.fieldAddr (off := 1) rfl rfl (by kernel_rfl) ?_
              first | refine St.store rfl rfl rfl rfl (by kernel_rfl) (Nat.le_of_ble_eq_true rfl) (by first | exact fun _ h => h.nil | exact fun _ h => h | exact fun _ h => h.drop | exact fun _ h => h.drop.drop | exact fun _ h => h.drop.drop.drop) ?_ | refine St.store1 rfl rfl rfl rfl (by kernel_rfl) (Nat.le_of_ble_eq_true rfl) (by first | exact fun _ h => h.nil | exact fun _ h => h | exact fun _ h => h.drop | exact fun _ h => h.drop.drop | exact fun _ h => h.drop.drop.drop) ?_ | refine St.store2 rfl rfl rfl rfl (by kernel_rfl) (Nat.le_of_ble_eq_true rfl) (by first | exact fun _ h => h.nil | exact fun _ h => h | exact fun _ h => h.drop | exact fun _ h => h.drop.drop | exact fun _ h => h.drop.drop.drop) ?_ | refine St.store3 rfl rfl rfl rfl (by kernel_rfl) (Nat.le_of_ble_eq_true rfl) (by first | exact fun _ h => h.nil | exact fun _ h => h | exact fun _ h => h.drop | exact fun _ h => h.drop.drop | exact fun _ h => h.drop.drop.drop) ?_ | refine St.store4 rfl rfl rfl rfl (by kernel_rfl) (Nat.le_of_ble_eq_true rfl) (by first | exact fun _ h => h.nil | exact fun _ h => h | exact fun _ h => h.drop | exact fun _ h => h.drop.drop | exact fun _ h => h.drop.drop.drop) ?_ | refine St.store5 rfl rfl rfl rfl (by kernel_rfl) (Nat.le_of_ble_eq_true rfl) (by first | exact fun _ h => h.nil | exact fun _ h => h | exact fun _ h => h.drop | exact fun _ h => h.drop.drop | exact fun _ h => h.drop.drop.drop) ?_
              refine St.done ?_
              refine SX.seq ?_
              refine SC.plain ?_
              refine St.move rfl rfl ?_
              refine St.nilCheck rfl rfl ?_
              refine St.fieldAddr (off := 13) rfl rfl (by kernel_rfl) ?_
              first | refine St.store rfl rfl rfl rfl (by kernel_rfl) (Nat.le_of_ble_eq_true rfl) (by first | exact fun _ h => h.nil | exact fun _ h => h | exact fun _ h => h.drop | exact fun _ h => h.drop.drop | exact fun _ h => h.drop.drop.drop) ?_ | refine St.store1 rfl rfl rfl rfl (by kernel_rfl) (Nat.le_of_ble_eq_true rfl) (by first | exact fun _ h => h.nil | exact fun _ h => h | exact fun _ h => h.drop | exact fun _ h => h.drop.drop | exact fun _ h => h.drop.drop.drop) ?_ | refine St.store2 rfl rfl rfl rfl (by kernel_rfl) (Nat.le_of_ble_eq_true rfl) (by first | exact fun _ h => h.nil | exact fun _ h => h | exact fun _ h => h.drop | exact fun _ h => h.drop.drop | exact fun _ h => h.drop.drop.drop) ?_ | refine St.store3 rfl rfl rfl rfl (by kernel_rfl) (Nat.le_of_ble_eq_true rfl) (by first | exact fun _ h => h.nil | exact fun _ h => h | exact fun _ h => h.drop | exact fun _ h => h.drop.drop | exact fun _ h => h.drop.drop.drop) ?_ | refine St.store4 rfl rfl rfl rfl (by kernel_rfl) (Nat.le_of_ble_eq_true rfl) (by first | exact fun _ h => h.nil | exact fun _ h => h | exact fun _ h => h.drop | exact fun _ h => h.drop.drop | exact fun _ h => h.drop.drop.drop) ?_ | refine St.store5 rfl rfl rfl rfl (by kernel_rfl) (Nat.le_of_ble_eq_true rfl) (by first | exact fun _ h => h.nil | exact fun _ h => h | exact fun _ h => h.drop | exact fun _ h => h.drop.drop | exact fun _ h => h.drop.drop.drop) ?_
              refine St.done ?_
              refine SX.blk ?_
              have hw : e.inp bs now = { e with st := 3, owes := true } := by rw [hgo]; unfold En.seg; rw [if_neg (by omega), if_neg (by omega), if_pos (by omega), if_pos (by omega)]
              rw [hw]
              refine SX.weak _ (.cons_cons _ (.cons _ (.cons _ (List.Sublist.refl _)))) ?_
              exact SX.ret0 (.inr rfl) rfl rfl
            · refine SC.skip ?_
              refine SX.blk ?_
              have hw : e.inp bs now = e := by rw [hgo]; unfold En.seg; rw [if_neg (by omega), if_neg (by omega), if_pos (by omega), if_neg (by omega)]
              rw [hw]
              refine SX.weak _ (.cons_cons _ (.cons _ (.cons _ (List.Sublist.refl _)))) ?_
              exact SX.ret0 (.inr rfl) rfl rfl
          · refine SC.seq ?_
            refine SC.plain ?_
            refine St.move rfl rfl ?_
            refine St.nilCheck rfl rfl ?_
            refine St.fieldAddr (off := 1) rfl rfl (by kernel_rfl) ?_
            refine St.load rfl rfl (by kernel_rfl) (by first | exact Holds.row mem0 rfl | exact Holds.row mem1 rfl | exact Holds.row mem2 rfl | exact Holds.row mem3 rfl | exact Holds.row mem4 rfl | exact Holds.row mem5 rfl | exact Holds.row mem6 rfl | exact Holds.row mem7 rfl | exact Holds.row mem8 rfl) ?_
            refine St.eql rfl rfl rfl ?_
            refine St.assign rfl rfl ?_
            refine St.done ?_
            refine SX.seq ?_
            refine SC.condp rfl (fun c57 => ?_) (fun c57 => ?_)
            · refine SC.seq ?_
              refine SC.plain ?_
              refine St.fieldAddr (off := 0) rfl rfl (by kernel_rfl) ?_
              refine St.load rfl rfl (by kernel_rfl) (by first | exact Holds.row mem0 rfl | exact Holds.row mem1 rfl | exact Holds.row mem2 rfl | exact Holds.row mem3 rfl | exact Holds.row mem4 rfl | exact Holds.row mem5 rfl | exact Holds.row mem6 rfl | exact Holds.row mem7 rfl | exact Holds.row mem8 rfl) ?_
              refine St.eql rfl rfl rfl ?_
              refine St.move rfl rfl ?_
              refine St.split 66 rfl (fun g66 => ?_) (fun g66 => ?_)
              · refine St.guard_yes rfl rfl ?_
                refine St.fieldAddr (off := 3) rfl rfl (by kernel_rfl) ?_
                refine St.guard_yes rfl rfl ?_
                refine St.load rfl rfl (by kernel_rfl) (by first | exact Holds.row mem0 rfl | exact Holds.row mem1 rfl | exact Holds.row mem2 rfl | exact Holds.row mem3 rfl | exact Holds.row mem4 rfl | exact Holds.row mem5 rfl | exact Holds.row mem6 rfl | exact Holds.row mem7 rfl | exact Holds.row mem8 rfl) ?_
                refine St.guard_yes rfl rfl ?_
                refine St.eql rfl rfl rfl ?_
                refine St.pick_true rfl rfl rfl ?_
                refine St.done ?_
                refine SX.seq ?_
                refine SC.condp rfl (fun c70 => ?_) (fun c70 => ?_)
                · refine SC.plain ?_
                  refine St.move rfl rfl ?_
                  refine St.nilCheck rfl rfl ?_
                  refine St.fieldAddr (off := 1) rfl rfl (by kernel_rfl) ?_
                  first | refine St.store rfl rfl rfl rfl (by kernel_rfl) (Nat.le_of_ble_eq_true rfl) (by first | exact fun _ h => h.nil | exact fun _ h => h | exact fun _ h => h.drop | exact fun _ h => h.drop.drop | exact fun _ h => h.drop.drop.drop) ?_ | refine St.store1 rfl rfl rfl rfl (by kernel_rfl) (Nat.le_of_ble_eq_true rfl) (by first | exact fun _ h => h.nil | exact fun _ h => h | exact fun _ h => h.drop | exact fun _ h => h.drop.drop | exact fun _ h => h.drop.drop.drop) ?_ | refine St.store2 rfl rfl rfl rfl (by kernel_rfl) (Nat.le_of_ble_eq_true rfl) (by first | exact fun _ h => h.nil | exact fun _ h => h | exact fun _ h => h.drop | exact fun _ h => h.drop.drop | exact fun _ h => h.drop.drop.drop) ?_ | refine St.store3 rfl rfl rfl rfl (by kernel_rfl) (Nat.le_of_ble_eq_true rfl) (by first | exact fun _ h => h.nil | exact fun _ h => h | exact fun _ h => h.drop | exact fun _ h => h.drop.drop | exact fun _ h => h.drop.drop.drop) ?_ | refine St.store4 rfl rfl rfl rfl (by kernel_rfl) (Nat.le_of_ble_eq_true rfl) (by first | exact fun _ h => h.nil | exact fun _ h => h | exact fun _ h => h.drop | exact fun _ h => h.drop.drop | exact fun _ h => h.drop.drop.drop) ?_ | refine St.store5 rfl rfl rfl rfl (by kernel_rfl) (Nat.le_of_ble_eq_true rfl) (by first | exact fun _ h => h.nil | exact fun _ h => h | exact fun _ h => h.drop | exact fun _ h => h.drop.drop | exact fun _ h => h.drop.drop.drop) ?_
                  refine St.done ?_
                  refine SX.blk ?_
                  have hw : e.inp bs now = { e with st := 3 } := by rw [hgo]; unfold En.seg; rw [if_neg (by omega), if_pos (by omega), if_pos ⟨by omega, by omega⟩]
                  rw [hw]
                  refine SX.weak _ (.cons_cons _ (.cons _ (.cons _ (List.Sublist.refl _)))) ?_
                  exact SX.ret0 (.inr rfl) rfl rfl
                · refine SC.skip ?_
                  refine SX.blk ?_
                  have hw : e.inp bs now = e := by rw [hgo]; unfold En.seg; rw [if_neg (by omega), if_pos (by omega), if_neg (by omega)]
                  rw [hw]
                  refine SX.weak _ (.cons_cons _ (.cons _ (.cons _ (List.Sublist.refl _)))) ?_
                  exact SX.ret0 (.inr rfl) rfl rfl
              · refine St.guard_no rfl rfl rfl ?_
                refine St.guard_no rfl rfl rfl ?_
                refine St.guard_no rfl rfl rfl ?_
                refine St.pick_false rfl rfl rfl ?_
                refine St.done ?_
                refine SX.seq ?_
                refine SC.cond_false rfl ?_
                refine SC.skip ?_
                refine SX.blk ?_
                have hw : e.inp bs now = e := by rw [hgo]; unfold En.seg; rw [if_neg (by omega), if_pos (by omega), if_neg (by omega)]
                rw [hw]
                refine SX.weak _ (.cons_cons _ (.cons _ (.cons _ (List.Sublist.refl _)))) ?_
                exact SX.ret0 (.inr rfl) rfl rfl
            · refine SC.plain ?_
              refine St.move rfl rfl ?_
              refine St.loadAgg (segCells (segFrom bs) (.slice Ad (segFrom bs).data.length cd)) rfl rfl (by kernel_rfl) (HoldsN.of_row mem1) ?_
              refine St.move rfl rfl ?_
              refine St.call [_, _, _] rfl (by kernel_rfl) rfl (wopen_spec w0 _ p e hok (segFrom bs) _ ⟨hbd.rd (by simp), hbd.cap, by omega, segFrom_lt hlt⟩ now hn (by omega) (by omega)) (fun _ _ _ _ h => h.nil) ?_
              rintro r2 L1 rfl
              unfold WnL
              refine St.done ?_
              refine SX.blk ?_
              have hw : e.inp bs now = e.open_ (segFrom bs) now := by rw [hgo]; unfold En.seg; rw [if_neg (by omega), if_neg (by omega), if_neg (by omega)]
              rw [hw]
              refine SX.weak _ (.cons_cons _ (.cons _ (.cons _ (List.Sublist.refl _)))) ?_
              exact SX.ret0 (.inr rfl) rfl rfl
end Go.Proofs.Ytahafepgmkiabaa
