/- Walks: the document's ends of streams: what they send. -/
import Derived.Test.YtahafepgmkiabaaX1
set_option linter.unusedVariables false
set_option linter.unusedSimpArgs false
set_option linter.ambiguousOpen false
namespace Go.Proofs.Ytahafepgmkiabaa
open Go Go.Proofs.Ytahafepgmkiabaa.Sep

/-- Texts as values. -/
def strs (l : List (List Nat)) : List Value := l.map fun bs => .string (text bs)
theorem strs_app (a b : List (List Nat)) : strs (a ++ b) = strs a ++ strs b := by simp [strs]
theorem strs_len (a : List (List Nat)) : (strs a).length = a.length := by simp [strs]
theorem strs_one (a : List (List Nat)) : ∀ c ∈ strs a, one c = true := by
  intro c hc
  obtain ⟨x, _, rfl⟩ := List.mem_map.1 hc
  rfl
theorem waits_sent {e : En} (h : e.Ok) : e.waits = decide ((e.acksTo : Int) < (e.sentTo : Int)) ∧ decide ((e.sentTo : Int) = (e.acksTo : Int)) = !e.waits := by
  have h1 := h.una
  have h4 := h.acked
  have h3 := h.sent
  have h2 := h.next
  have e1 : e.waits = decide ((e.acksTo : Int) < (e.sentTo : Int)) := by
    unfold En.waits En.acksTo En.sentTo
    cases hs : e.endSent with
    | true =>
      cases ha : e.endAcked with
      | true => have := (h4 ha).2; have := (h3 hs).1; simp <;> omega
      | false => simp <;> omega
    | false =>
      cases ha : e.endAcked with
      | true => have := (h4 ha).1; rw [hs] at this; cases this
      | false => simp
  refine ⟨e1, ?_⟩
  rw [e1, ← decide_not]
  have hle : e.acksTo ≤ e.sentTo := by
    unfold En.acksTo En.sentTo
    cases ha : e.endAcked with
    | true => rw [(h4 ha).1]; simp; omega
    | false => simp; omega
  exact decide_eq_decide.2 (by omega)
theorem cnt_eq (b : En) : decide (((acksOf b).length : Int) < (((acksOf b ++ ((b.pieces 11 b.next).1 ++ finsOf b)).length : Nat) : Int)) = (!(b.pieces 11 b.next).1.isEmpty || finOf b) := by
  rw [List.length_append, List.length_append]
  unfold finsOf
  cases hf : finOf b with
  | true => simp only [if_true, Bool.or_true, decide_eq_true_eq, List.length_singleton]; omega
  | false =>
    cases hp : (b.pieces 11 b.next).1 with
    | nil => simp
    | cons x y => simp only [List.length_cons, List.isEmpty_cons, Bool.not_false, Bool.true_or, decide_eq_true_eq]; omega

theorem wout_spec (w0 : World) (L : List Chunk) (p : Nat) (e : En) (hok : e.Ok) (now : Int) (hn : Clock now) :
    Meets Try.prog 82 #[.pointer (some ⟨p, 0, none⟩), .int .i64 now] w0 (WnL p e L) (fun r L' => ∃ E, Buf 9 1 r (strs (e.outp now).2) (e.outp now).2.length E ∧ L' = WnL p (e.outp now).1 (E :: L)) := by
  have hr1 := hok.room
  have hr2 := hok.inn
  have hu := hok.una
  have hx := hok.next
  have hid := hok.id
  have hst := hok.st
  have hrd := hok.read
  have hat := hok.at_
  have hso := text_size e.out
  have hsi := text_size e.inn
  unfold WnL
  refine Meets.of_body [.pointer (some ⟨p, 0, none⟩), .int .i64 now] Try.func82 rfl Try.ntmps82 rfl ?_
  refine SC.seq ?_
  refine SC.plain ?_
  refine St.assign rfl rfl ?_
  refine St.done ?_
  refine SX.seq ?_
  refine SC.seq ?_
  refine SC.plain ?_
  refine St.assign rfl rfl ?_
  refine St.done ?_
  refine SX.seq ?_
  refine SC.join (α := Unit) (fun _ => e.st = 1 → e.outp now = (e, [])) (fun _ => [(0, .pointer (some ⟨p, 0, none⟩)), (1, .int .i64 now), (5, .slice none 0 0)]) (fun _ => [⟨p, wnRow e, 204⟩] :: L) ?_ ?_
  · intro _ hno
    refine SC.seq ?_
    refine SC.seq ?_
    refine SC.plain ?_
    refine St.move rfl rfl ?_
    refine St.nilCheck rfl rfl ?_
    refine St.fieldAddr (off := 1) rfl rfl (by kernel_rfl) ?_
    refine St.load rfl rfl (by kernel_rfl) (by first | exact Holds.row mem0 rfl | exact Holds.row mem1 rfl | exact Holds.row mem2 rfl | exact Holds.row mem3 rfl | exact Holds.row mem4 rfl | exact Holds.row mem5 rfl | exact Holds.row mem6 rfl | exact Holds.row mem7 rfl | exact Holds.row mem8 rfl) ?_
    refine St.neq rfl rfl rfl ?_
    refine St.done ?_
    refine SX.seq ?_
    refine SC.condp rfl (fun c41 => ?_) (fun c41 => ?_)
    · have hw : e.outp now = (e, []) := by by_cases h1 : e.st = 1; exact hno h1; unfold En.outp; rw [if_neg h1, if_neg (by omega)]
      refine SC.seq ?_
      refine SC.plain ?_
      refine St.assign rfl rfl ?_
      refine St.done ?_
      refine SX.seq ?_
      refine SC.ret ?_
      refine SX.seq_ret ?_
      exact SX.perm (WnL p e ([] :: L)) (List.Perm.refl _) (SX.ret1 rfl rfl ⟨[], by rw [hw]; exact Buf.nil 9 1, by rw [hw]; rfl⟩)
    · have h3 : e.st = 3 := by omega
      have hw : e.outp now = e.sends now := (if_neg (by omega)).trans (if_pos h3)
      refine SC.skip ?_
      refine SX.seq ?_
      rw [hw]
      clear hw
      refine SC.join (α := Unit) (fun _ => True) (fun _ => [(0, .pointer (some ⟨p, 0, none⟩)), (1, .int .i64 now), (5, .slice none 0 0)]) (fun _ => WnL p (e.back now) L) ?_ ?_
      · intro _ _
        have hse := sends_eq e now
        have hbok := back_ok hok hn
        rw [hse]
        generalize e.back now = b at hbok ⊢
        clear hse hok hr1 hr2 hu hx hid hst hrd hat hso hsi h3
        try clear hno
        have hr1 := hbok.room
        have hr2 := hbok.inn
        have hu := hbok.una
        have hx := hbok.next
        have hid := hbok.id
        have hso := text_size b.out
        have hsi := text_size b.inn
        have hws := waits_sent hbok
        have hpl := pieces_few b 11 b.next
        have hal : (acksOf b).length ≤ 1 := by unfold acksOf; split <;> simp
        unfold WnL
        refine SC.seq ?_
        refine SC.plain ?_
        refine St.move rfl rfl ?_
        refine St.call [_] rfl (by kernel_rfl) rfl (wsent_spec w0 L p b hbok) (fun _ _ _ _ h => h.nil) ?_
        rintro r12 L1 ⟨rfl, rfl⟩
        refine St.move rfl rfl ?_
        refine St.call [_] rfl (by kernel_rfl) rfl (wacked_spec w0 L p b hbok) (fun _ _ _ _ h => h.nil) ?_
        rintro r12 L1 ⟨rfl, rfl⟩
        unfold WnL
        refine St.eql rfl rfl rfl ?_
        rw [hws.2]
        refine St.assign rfl rfl ?_
        refine St.done ?_
        refine SX.seq ?_
        refine SC.join (α := Value × Chunk) (fun s => Buf 9 1 s.1 (strs (acksOf b)) (acksOf b).length s.2) (fun s => [(0, .pointer (some ⟨p, 0, none⟩)), (1, .int .i64 now), (5, s.1), (6, .bool (!b.waits))]) (fun s => [⟨p, wnOf b.id b.st b.out b.closed b.una b.next b.endSent b.endAcked b.at_ b.asked b.inn b.read b.other false, 204⟩] :: s.2 :: L) ?_ ?_
        · rintro ⟨v5, Eb⟩ hb5
          simp only at hb5 ⊢
          refine SC.seq ?_
          refine SC.plain ?_
          refine St.move rfl rfl ?_
          have hq := hb5.read
          obtain ⟨_, _, A5, c5, rfl, _, _⟩ := hq
          refine St.lenSl rfl rfl (by kernel_rfl) ?_
          refine St.assign rfl rfl ?_
          refine St.done ?_
          refine SX.seq ?_
          refine SC.join (α := Value × Chunk) (fun s => Buf 9 1 s.1 (strs (acksOf b ++ (b.pieces 11 b.next).1)) (acksOf b ++ (b.pieces 11 b.next).1).length s.2) (fun s => [(0, .pointer (some ⟨p, 0, none⟩)), (1, .int .i64 now), (5, s.1), (6, .bool (!b.waits)), (8, .int .i64 (((acksOf b).length : Nat) : Int))]) (fun s => [⟨p, wnOf b.id b.st b.out b.closed b.una (b.pieces 11 b.next).2 b.endSent b.endAcked b.at_ b.asked b.inn b.read b.other false, 204⟩] :: s.2 :: L) ?_ ?_
          · try clear hb5
            rintro ⟨v5, Eb⟩ hb5
            simp only at hb5 ⊢
            have hple := pieces_le b 11 b.next hx
            refine SC.join (α := Value × Chunk) (fun s => Buf 9 1 s.1 (strs (acksOf b ++ ((b.pieces 11 b.next).1 ++ finsOf b))) (acksOf b ++ ((b.pieces 11 b.next).1 ++ finsOf b)).length s.2) (fun s => [(0, .pointer (some ⟨p, 0, none⟩)), (1, .int .i64 now), (5, s.1), (6, .bool (!b.waits)), (8, .int .i64 (((acksOf b).length : Nat) : Int))]) (fun s => [⟨p, wnOf b.id b.st b.out b.closed b.una (b.pieces 11 b.next).2 (b.endSent || finOf b) b.endAcked b.at_ b.asked b.inn b.read b.other false, 204⟩] :: s.2 :: L) ?_ ?_
            · try clear hb5
              rintro ⟨v5, Eb⟩ hb5
              simp only at hb5 ⊢
              have hq := hb5.read
              obtain ⟨_, _, A5, c5, rfl, _, _⟩ := hq
              have hcnt := cnt_eq b
              refine SC.seq ?_
              refine SC.seq ?_
              refine SC.plain ?_
              refine St.move rfl rfl ?_
              refine St.lenSl rfl rfl (by kernel_rfl) ?_
              refine St.move rfl rfl ?_
              refine St.gtr rfl rfl rfl ?_
              rw [hcnt]
              refine St.move rfl rfl ?_
              refine St.splitB 206 rfl (fun g206 => ?_) (fun g206 => ?_)
              · refine St.guard_yes rfl rfl ?_
                refine St.move rfl rfl ?_
                refine St.pick_true rfl rfl rfl ?_
                refine St.done ?_
                refine SX.seq ?_
                refine SC.cond rfl (fun c208 => ?_) (fun c208 => ?_)
                · refine SC.plain ?_
                  refine St.move rfl rfl ?_
                  refine St.move rfl rfl ?_
                  refine St.nilCheck rfl rfl ?_
                  refine St.fieldAddr (off := 8) rfl rfl (by kernel_rfl) ?_
                  first | refine St.store rfl rfl rfl rfl (by kernel_rfl) (Nat.le_of_ble_eq_true rfl) (by first | exact fun _ h => h.nil | exact fun _ h => h | exact fun _ h => h.drop | exact fun _ h => h.drop.drop | exact fun _ h => h.drop.drop.drop) ?_ | refine St.store1 rfl rfl rfl rfl (by kernel_rfl) (Nat.le_of_ble_eq_true rfl) (by first | exact fun _ h => h.nil | exact fun _ h => h | exact fun _ h => h.drop | exact fun _ h => h.drop.drop | exact fun _ h => h.drop.drop.drop) ?_ | refine St.store2 rfl rfl rfl rfl (by kernel_rfl) (Nat.le_of_ble_eq_true rfl) (by first | exact fun _ h => h.nil | exact fun _ h => h | exact fun _ h => h.drop | exact fun _ h => h.drop.drop | exact fun _ h => h.drop.drop.drop) ?_ | refine St.store3 rfl rfl rfl rfl (by kernel_rfl) (Nat.le_of_ble_eq_true rfl) (by first | exact fun _ h => h.nil | exact fun _ h => h | exact fun _ h => h.drop | exact fun _ h => h.drop.drop | exact fun _ h => h.drop.drop.drop) ?_ | refine St.store4 rfl rfl rfl rfl (by kernel_rfl) (Nat.le_of_ble_eq_true rfl) (by first | exact fun _ h => h.nil | exact fun _ h => h | exact fun _ h => h.drop | exact fun _ h => h.drop.drop | exact fun _ h => h.drop.drop.drop) ?_ | refine St.store5 rfl rfl rfl rfl (by kernel_rfl) (Nat.le_of_ble_eq_true rfl) (by first | exact fun _ h => h.nil | exact fun _ h => h | exact fun _ h => h.drop | exact fun _ h => h.drop.drop | exact fun _ h => h.drop.drop.drop) ?_
                  refine St.done ?_
                  refine SX.seq ?_
                  refine SC.seq ?_
                  refine SC.plain ?_
                  refine St.move rfl rfl ?_
                  refine St.assign rfl rfl ?_
                  refine St.done ?_
                  refine SX.seq ?_
                  refine SC.ret ?_
                  have hcnd : (!b.waits && (!(b.pieces 11 b.next).1.isEmpty || finOf b)) = true := by rw [g206, c208]; rfl
                  rw [if_pos hcnd]
                  exact SX.ret1 rfl rfl ⟨Eb, hb5, rfl⟩
                · refine SC.skip ?_
                  refine SX.seq ?_
                  refine SC.seq ?_
                  refine SC.plain ?_
                  refine St.move rfl rfl ?_
                  refine St.assign rfl rfl ?_
                  refine St.done ?_
                  refine SX.seq ?_
                  refine SC.ret ?_
                  have hcnd : ¬ (!b.waits && (!(b.pieces 11 b.next).1.isEmpty || finOf b)) = true := by rw [g206, c208]; simp
                  rw [if_neg hcnd]
                  exact SX.ret1 rfl rfl ⟨Eb, hb5, rfl⟩
              · refine St.guard_no rfl rfl rfl ?_
                refine St.pick_false rfl rfl rfl ?_
                refine St.done ?_
                refine SX.seq ?_
                refine SC.cond_false rfl ?_
                refine SC.skip ?_
                refine SX.seq ?_
                refine SC.seq ?_
                refine SC.plain ?_
                refine St.move rfl rfl ?_
                refine St.assign rfl rfl ?_
                refine St.done ?_
                refine SX.seq ?_
                refine SC.ret ?_
                have hcnd : ¬ (!b.waits && (!(b.pieces 11 b.next).1.isEmpty || finOf b)) = true := by rw [g206]; simp
                rw [if_neg hcnd]
                exact SX.ret1 rfl rfl ⟨Eb, hb5, rfl⟩
            · refine SC.seq ?_
              refine SC.drawn [(0, true), (1, true), (2, true), (3, true), (4, true), (5, true), (6, true), (7, true), (8, true), (9, true), (10, true), (11, true), (12, true), (13, true), (14, true), (15, true), (16, true), (17, true), (18, true), (19, true), (20, true), (21, true), (22, true)] [] (_) (by kernel_rfl) (by kernel_rfl) (fun _ h => h) ?_
              refine St.move rfl rfl ?_
              refine St.nilCheck rfl rfl ?_
              refine St.fieldAddr (off := 3) rfl rfl (by kernel_rfl) ?_
              refine St.load rfl rfl (by kernel_rfl) (by first | exact Holds.row mem0 rfl | exact Holds.row mem1 rfl | exact Holds.row mem2 rfl | exact Holds.row mem3 rfl | exact Holds.row mem4 rfl | exact Holds.row mem5 rfl | exact Holds.row mem6 rfl | exact Holds.row mem7 rfl | exact Holds.row mem8 rfl) ?_
              refine St.move rfl rfl ?_
              refine St.splitB 171 rfl (fun g171 => ?_) (fun g171 => ?_)
              · refine St.guard_yes rfl rfl ?_
                refine St.move rfl rfl ?_
                refine St.guard_yes rfl rfl ?_
                refine St.nilCheck rfl rfl ?_
                refine St.guard_yes rfl rfl ?_
                refine St.fieldAddr (off := 6) rfl rfl (by kernel_rfl) ?_
                refine St.guard_yes rfl rfl ?_
                refine St.load rfl rfl (by kernel_rfl) (by first | exact Holds.row mem0 rfl | exact Holds.row mem1 rfl | exact Holds.row mem2 rfl | exact Holds.row mem3 rfl | exact Holds.row mem4 rfl | exact Holds.row mem5 rfl | exact Holds.row mem6 rfl | exact Holds.row mem7 rfl | exact Holds.row mem8 rfl) ?_
                refine St.guard_yes rfl rfl ?_
                refine St.notB rfl rfl ?_
                refine St.pick_true rfl rfl rfl ?_
                refine St.move rfl rfl ?_
                refine St.splitB 178 rfl (fun g178 => ?_) (fun g178 => ?_)
                · refine St.guard_yes rfl rfl ?_
                  refine St.move rfl rfl ?_
                  refine St.guard_yes rfl rfl ?_
                  refine St.nilCheck rfl rfl ?_
                  refine St.guard_yes rfl rfl ?_
                  refine St.fieldAddr (off := 5) rfl rfl (by kernel_rfl) ?_
                  refine St.guard_yes rfl rfl ?_
                  refine St.load rfl rfl (by kernel_rfl) (by first | exact Holds.row mem0 rfl | exact Holds.row mem1 rfl | exact Holds.row mem2 rfl | exact Holds.row mem3 rfl | exact Holds.row mem4 rfl | exact Holds.row mem5 rfl | exact Holds.row mem6 rfl | exact Holds.row mem7 rfl | exact Holds.row mem8 rfl) ?_
                  refine St.guard_yes rfl rfl ?_
                  refine St.move rfl rfl ?_
                  refine St.guard_yes rfl rfl ?_
                  refine St.nilCheck rfl rfl ?_
                  refine St.guard_yes rfl rfl ?_
                  refine St.fieldAddr (off := 2) rfl rfl (by kernel_rfl) ?_
                  refine St.guard_yes rfl rfl ?_
                  refine St.load rfl rfl (by kernel_rfl) (by first | exact Holds.row mem0 rfl | exact Holds.row mem1 rfl | exact Holds.row mem2 rfl | exact Holds.row mem3 rfl | exact Holds.row mem4 rfl | exact Holds.row mem5 rfl | exact Holds.row mem6 rfl | exact Holds.row mem7 rfl | exact Holds.row mem8 rfl) ?_
                  refine St.guard_yes rfl rfl ?_
                  refine St.lenStr rfl rfl (by kernel_rfl) ?_
                  rw [text_size]
                  refine St.guard_yes rfl rfl ?_
                  refine St.eql rfl rfl rfl ?_
                  refine St.pick_true rfl rfl rfl ?_
                  refine St.done ?_
                  refine SX.tail ?_
                  refine St.done ?_
                  refine SX.seq ?_
                  refine SC.condp rfl (fun c189 => ?_) (fun c189 => ?_)
                  · refine SC.seq ?_
                    refine SC.plain ?_
                    refine St.move rfl rfl ?_
                    refine St.move rfl rfl ?_
                    refine St.move rfl rfl ?_
                    refine St.nilCheck rfl rfl ?_
                    refine St.fieldAddr (off := 5) rfl rfl (by kernel_rfl) ?_
                    refine St.load rfl rfl (by kernel_rfl) (by first | exact Holds.row mem0 rfl | exact Holds.row mem1 rfl | exact Holds.row mem2 rfl | exact Holds.row mem3 rfl | exact Holds.row mem4 rfl | exact Holds.row mem5 rfl | exact Holds.row mem6 rfl | exact Holds.row mem7 rfl | exact Holds.row mem8 rfl) ?_
                    refine St.call [_, _, _, _, _] rfl (by kernel_rfl) rfl (wsegment_spec w0 ([⟨p, wnOf b.id b.st b.out b.closed b.una (b.pieces 11 b.next).2 b.endSent b.endAcked b.at_ b.asked b.inn b.read b.other false, 204⟩] :: Eb :: L) p b.id [] (fun w hw => Holds.row mem0 rfl w hw) 4 (((b.pieces 11 b.next).2 : Nat) : Int) 0 [] (by simp) (by simp)) (fun _ _ _ _ h => h.nil) ?_
                    rintro r25 L1 ⟨rfl, rfl⟩
                    refine St.buildSl (e := 9) (n := 1) [(0, .string (text (segOf ⟨4, (b.id : Nat), (((b.pieces 11 b.next).2 : Nat) : Int), 0, []⟩)))] [.string (text (segOf ⟨4, (b.id : Nat), (((b.pieces 11 b.next).2 : Nat) : Int), 0, []⟩))] rfl rfl (by kernel_rfl) (fun _ _ h => h.nil) (fun bl => ?_)
                    refine St.append2 (e := 9) (sz := 1) (bytes := 16) (xs := strs (acksOf b ++ (b.pieces 11 b.next).1)) (n := (acksOf b ++ (b.pieces 11 b.next).1).length) (news := [.string (text (segOf ⟨4, (b.id : Nat), (((b.pieces 11 b.next).2 : Nat) : Int), 0, []⟩))]) (m := 1) rfl rfl rfl (by kernel_rfl) hb5 (Rd.row rfl mem0) (by simp [one]) (by simp only [List.length_append, List.length_nil, List.length_singleton]; omega) (by simp only [List.length_append, List.length_nil, List.length_singleton]; omega) (fun _ _ h => h.nil) (fun v6 Eb6 hb6 _ => ?_)
                    have hb6r := hb6.read
                    obtain ⟨_, _, A6, c6, rfl, _, _⟩ := hb6r
                    have hb7 : Buf 9 1 (.slice A6 ((acksOf b ++ (b.pieces 11 b.next).1).length + 1) c6) (strs (acksOf b ++ (b.pieces 11 b.next).1 ++ [(segOf ⟨4, (b.id : Nat), (((b.pieces 11 b.next).2 : Nat) : Int), 0, []⟩)])) ((acksOf b ++ (b.pieces 11 b.next).1) ++ [(segOf ⟨4, (b.id : Nat), (((b.pieces 11 b.next).2 : Nat) : Int), 0, []⟩)]).length Eb6 := by rw [strs_app, show ((acksOf b ++ (b.pieces 11 b.next).1) ++ [(segOf ⟨4, (b.id : Nat), (((b.pieces 11 b.next).2 : Nat) : Int), 0, []⟩)]).length = (acksOf b ++ (b.pieces 11 b.next).1).length + 1 from List.length_append]; exact hb6
                    refine St.drop ?_
                    refine St.assign rfl rfl ?_
                    refine St.done ?_
                    refine SX.seq ?_
                    refine SC.plain ?_
                    refine St.move rfl rfl ?_
                    refine St.nilCheck rfl rfl ?_
                    refine St.fieldAddr (off := 6) rfl rfl (by kernel_rfl) ?_
                    first | refine St.store rfl rfl rfl rfl (by kernel_rfl) (Nat.le_of_ble_eq_true rfl) (by first | exact fun _ h => h.nil | exact fun _ h => h | exact fun _ h => h.drop | exact fun _ h => h.drop.drop | exact fun _ h => h.drop.drop.drop) ?_ | refine St.store1 rfl rfl rfl rfl (by kernel_rfl) (Nat.le_of_ble_eq_true rfl) (by first | exact fun _ h => h.nil | exact fun _ h => h | exact fun _ h => h.drop | exact fun _ h => h.drop.drop | exact fun _ h => h.drop.drop.drop) ?_ | refine St.store2 rfl rfl rfl rfl (by kernel_rfl) (Nat.le_of_ble_eq_true rfl) (by first | exact fun _ h => h.nil | exact fun _ h => h | exact fun _ h => h.drop | exact fun _ h => h.drop.drop | exact fun _ h => h.drop.drop.drop) ?_ | refine St.store3 rfl rfl rfl rfl (by kernel_rfl) (Nat.le_of_ble_eq_true rfl) (by first | exact fun _ h => h.nil | exact fun _ h => h | exact fun _ h => h.drop | exact fun _ h => h.drop.drop | exact fun _ h => h.drop.drop.drop) ?_ | refine St.store4 rfl rfl rfl rfl (by kernel_rfl) (Nat.le_of_ble_eq_true rfl) (by first | exact fun _ h => h.nil | exact fun _ h => h | exact fun _ h => h.drop | exact fun _ h => h.drop.drop | exact fun _ h => h.drop.drop.drop) ?_ | refine St.store5 rfl rfl rfl rfl (by kernel_rfl) (Nat.le_of_ble_eq_true rfl) (by first | exact fun _ h => h.nil | exact fun _ h => h | exact fun _ h => h.drop | exact fun _ h => h.drop.drop | exact fun _ h => h.drop.drop.drop) ?_
                    refine St.done ?_
                    have hfo : finOf b = true := by unfold finOf; rw [g171, decide_eq_true (by omega)]; simpa using g178
                    have hfs : finsOf b = [b.say 4 (b.pieces 11 b.next).2 0 []] := if_pos hfo
                    refine SX.some (_, Eb6) (by simp only; rw [hfs, ← List.append_assoc]; exact hb7) ⟨rfl, rfl, rfl, rfl, rfl, trivial⟩ ?_
                    simp only
                    rw [hfo, Bool.or_true]
                    first | done | exact List.Perm.refl _
                  · refine SC.skip ?_
                    have hfo : finOf b = false := by unfold finOf; first | (rw [g171]; rfl) | (rw [g178, Bool.and_false, Bool.false_and]) | (rw [decide_eq_false (by omega), Bool.and_false])
                    have hfs : finsOf b = [] := if_neg (by rw [hfo]; simp)
                    refine SX.some (v5, Eb) (by simp only; rw [hfs, List.append_nil]; exact hb5) ⟨rfl, rfl, rfl, rfl, rfl, trivial⟩ ?_
                    simp only
                    rw [hfo, Bool.or_false]
                    first | done | exact List.Perm.refl _
                · refine St.guard_no rfl rfl rfl ?_
                  refine St.guard_no rfl rfl rfl ?_
                  refine St.guard_no rfl rfl rfl ?_
                  refine St.guard_no rfl rfl rfl ?_
                  refine St.guard_no rfl rfl rfl ?_
                  refine St.guard_no rfl rfl rfl ?_
                  refine St.guard_no rfl rfl rfl ?_
                  refine St.guard_no rfl rfl rfl ?_
                  refine St.guard_no rfl rfl rfl ?_
                  refine St.guard_no rfl rfl rfl ?_
                  refine St.pick_false rfl rfl rfl ?_
                  refine St.done ?_
                  refine SX.tail ?_
                  refine St.done ?_
                  refine SX.seq ?_
                  refine SC.cond_false rfl ?_
                  refine SC.skip ?_
                  have hfo : finOf b = false := by unfold finOf; first | (rw [g171]; rfl) | (rw [g178, Bool.and_false, Bool.false_and]) | (rw [decide_eq_false (by omega), Bool.and_false])
                  have hfs : finsOf b = [] := if_neg (by rw [hfo]; simp)
                  refine SX.some (v5, Eb) (by simp only; rw [hfs, List.append_nil]; exact hb5) ⟨rfl, rfl, rfl, rfl, rfl, trivial⟩ ?_
                  simp only
                  rw [hfo, Bool.or_false]
                  first | done | exact List.Perm.refl _
              · refine St.guard_no rfl rfl rfl ?_
                refine St.guard_no rfl rfl rfl ?_
                refine St.guard_no rfl rfl rfl ?_
                refine St.guard_no rfl rfl rfl ?_
                refine St.guard_no rfl rfl rfl ?_
                refine St.pick_false rfl rfl rfl ?_
                refine St.move rfl rfl ?_
                refine St.guard_no rfl rfl rfl ?_
                refine St.guard_no rfl rfl rfl ?_
                refine St.guard_no rfl rfl rfl ?_
                refine St.guard_no rfl rfl rfl ?_
                refine St.guard_no rfl rfl rfl ?_
                refine St.guard_no rfl rfl rfl ?_
                refine St.guard_no rfl rfl rfl ?_
                refine St.guard_no rfl rfl rfl ?_
                refine St.guard_no rfl rfl rfl ?_
                refine St.guard_no rfl rfl rfl ?_
                refine St.pick_false rfl rfl rfl ?_
                refine St.done ?_
                refine SX.tail ?_
                refine St.done ?_
                refine SX.seq ?_
                refine SC.cond_false rfl ?_
                refine SC.skip ?_
                have hfo : finOf b = false := by unfold finOf; first | (rw [g171]; rfl) | (rw [g178, Bool.and_false, Bool.false_and]) | (rw [decide_eq_false (by omega), Bool.and_false])
                have hfs : finsOf b = [] := if_neg (by rw [hfo]; simp)
                refine SX.some (v5, Eb) (by simp only; rw [hfs, List.append_nil]; exact hb5) ⟨rfl, rfl, rfl, rfl, rfl, trivial⟩ ?_
                simp only
                rw [hfo, Bool.or_false]
                first | done | exact List.Perm.refl _
          · refine SC.block ?_
            refine SC.loop (α := Nat × Nat × List (List Nat) × Value × Chunk) (fun s => s.1 ≤ 11 ∧ s.2.1 ≤ b.out.length ∧ (b.next + 400 * (11 - s.1) ≤ s.2.1 ∨ s.2.1 = b.out.length) ∧ s.2.2.1.length ≤ 11 - s.1 ∧ (b.pieces 11 b.next) = (s.2.2.1 ++ (b.pieces s.1 s.2.1).1, (b.pieces s.1 s.2.1).2) ∧ Buf 9 1 s.2.2.2.1 (strs (acksOf b ++ s.2.2.1)) (acksOf b ++ s.2.2.1).length s.2.2.2.2) (fun s => [(0, .pointer (some ⟨p, 0, none⟩)), (1, .int .i64 now), (5, s.2.2.2.1), (6, .bool (!b.waits)), (8, .int .i64 (((acksOf b).length : Nat) : Int))]) (fun s => [⟨p, wnOf b.id b.st b.out b.closed b.una s.2.1 b.endSent b.endAcked b.at_ b.asked b.inn b.read b.other false, 204⟩] :: s.2.2.2.2 :: L) (fun s => b.out.length - s.2.1) (11, b.next, [], _, Eb) ⟨Nat.le_refl _, hx, .inl (by simp), Nat.zero_le _, rfl, (by simp only [List.append_nil]; exact hb5)⟩ ⟨rfl, rfl, rfl, rfl, rfl, trivial⟩ (List.Perm.refl _) ?_
            clear hb5
            rintro ⟨f, n, dn, v5, Eb⟩ ⟨hf, hnl, hfn, hdl, hpc, hb5⟩
            simp only at hf hnl hfn hdl hpc hb5 ⊢
            refine SC.seq ?_
            refine SC.seq ?_
            refine SC.drawn [(0, true), (1, true), (2, true), (3, true), (4, true), (5, true), (6, true), (7, true), (8, true), (9, true), (10, true), (11, true), (12, true), (13, true), (14, true), (15, true), (16, true), (17, true), (18, true), (19, true), (20, true), (21, true)] [] (_) (by kernel_rfl) (by kernel_rfl) (fun _ h => h) ?_
            refine St.move rfl rfl ?_
            refine St.nilCheck rfl rfl ?_
            refine St.fieldAddr (off := 5) rfl rfl (by kernel_rfl) ?_
            refine St.load rfl rfl (by kernel_rfl) (by first | exact Holds.row mem0 rfl | exact Holds.row mem1 rfl | exact Holds.row mem2 rfl | exact Holds.row mem3 rfl | exact Holds.row mem4 rfl | exact Holds.row mem5 rfl | exact Holds.row mem6 rfl | exact Holds.row mem7 rfl | exact Holds.row mem8 rfl) ?_
            refine St.move rfl rfl ?_
            refine St.nilCheck rfl rfl ?_
            refine St.fieldAddr (off := 2) rfl rfl (by kernel_rfl) ?_
            refine St.load rfl rfl (by kernel_rfl) (by first | exact Holds.row mem0 rfl | exact Holds.row mem1 rfl | exact Holds.row mem2 rfl | exact Holds.row mem3 rfl | exact Holds.row mem4 rfl | exact Holds.row mem5 rfl | exact Holds.row mem6 rfl | exact Holds.row mem7 rfl | exact Holds.row mem8 rfl) ?_
            refine St.lenStr rfl rfl (by kernel_rfl) ?_
            rw [text_size]
            refine St.lss rfl rfl rfl ?_
            refine St.move rfl rfl ?_
            refine St.split 111 rfl (fun g111 => ?_) (fun g111 => ?_)
            · refine St.guard_yes rfl rfl ?_
              refine St.move rfl rfl ?_
              refine St.guard_yes rfl rfl ?_
              refine St.nilCheck rfl rfl ?_
              refine St.guard_yes rfl rfl ?_
              refine St.fieldAddr (off := 5) rfl rfl (by kernel_rfl) ?_
              refine St.guard_yes rfl rfl ?_
              refine St.load rfl rfl (by kernel_rfl) (by first | exact Holds.row mem0 rfl | exact Holds.row mem1 rfl | exact Holds.row mem2 rfl | exact Holds.row mem3 rfl | exact Holds.row mem4 rfl | exact Holds.row mem5 rfl | exact Holds.row mem6 rfl | exact Holds.row mem7 rfl | exact Holds.row mem8 rfl) ?_
              refine St.guard_yes rfl rfl ?_
              refine St.move rfl rfl ?_
              refine St.guard_yes rfl rfl ?_
              refine St.nilCheck rfl rfl ?_
              refine St.guard_yes rfl rfl ?_
              refine St.fieldAddr (off := 4) rfl rfl (by kernel_rfl) ?_
              refine St.guard_yes rfl rfl ?_
              refine St.load rfl rfl (by kernel_rfl) (by first | exact Holds.row mem0 rfl | exact Holds.row mem1 rfl | exact Holds.row mem2 rfl | exact Holds.row mem3 rfl | exact Holds.row mem4 rfl | exact Holds.row mem5 rfl | exact Holds.row mem6 rfl | exact Holds.row mem7 rfl | exact Holds.row mem8 rfl) ?_
              refine St.guard_yes rfl rfl ?_
              first | refine St.addN (b := 4000) rfl rfl rfl (by omega) ?_ | refine St.addI rfl rfl rfl (by omega) ?_
              refine St.guard_yes rfl rfl ?_
              refine St.lss rfl rfl rfl ?_
              refine St.pick_true rfl rfl rfl ?_
              refine St.done ?_
              refine SX.tail ?_
              refine St.done ?_
              refine SX.seq ?_
              refine SC.condp rfl (fun c122 => ?_) (fun c122 => ?_)
              · have hlt : n < b.out.length ∧ n < b.una + 4000 := by omega
                obtain ⟨f, rfl⟩ : ∃ g, f = g + 1 := ⟨f - 1, by omega⟩
                have hpm := pieces_more b f n hlt
                refine SC.skip ?_
                refine SX.seq ?_
                refine SC.block ?_
                refine SC.seq ?_
                refine SC.drawn [(0, true), (1, true), (2, true), (3, true), (4, true), (5, true), (6, true), (7, true), (8, true), (9, true), (10, true), (11, true)] [] (_) (by kernel_rfl) (by kernel_rfl) (fun _ h => h) ?_
                refine St.move rfl rfl ?_
                refine St.nilCheck rfl rfl ?_
                refine St.fieldAddr (off := 2) rfl rfl (by kernel_rfl) ?_
                refine St.load rfl rfl (by kernel_rfl) (by first | exact Holds.row mem0 rfl | exact Holds.row mem1 rfl | exact Holds.row mem2 rfl | exact Holds.row mem3 rfl | exact Holds.row mem4 rfl | exact Holds.row mem5 rfl | exact Holds.row mem6 rfl | exact Holds.row mem7 rfl | exact Holds.row mem8 rfl) ?_
                refine St.lenStr rfl rfl (by kernel_rfl) ?_
                rw [text_size]
                refine St.move rfl rfl ?_
                refine St.nilCheck rfl rfl ?_
                refine St.fieldAddr (off := 5) rfl rfl (by kernel_rfl) ?_
                refine St.load rfl rfl (by kernel_rfl) (by first | exact Holds.row mem0 rfl | exact Holds.row mem1 rfl | exact Holds.row mem2 rfl | exact Holds.row mem3 rfl | exact Holds.row mem4 rfl | exact Holds.row mem5 rfl | exact Holds.row mem6 rfl | exact Holds.row mem7 rfl | exact Holds.row mem8 rfl) ?_
                first | refine St.subN rfl rfl rfl (by omega) (by omega) ?_ | refine St.subI rfl rfl rfl (by omega) ?_
                refine St.min2 rfl rfl rfl ?_
                rw [show min (400 : Int) ((b.out.length - n : Nat) : Int) = ((min 400 (b.out.length - n) : Nat) : Int) by omega]
                refine St.assign rfl rfl ?_
                refine St.done ?_
                refine SX.tail ?_
                refine St.done ?_
                refine SX.seq ?_
                refine SC.seq ?_
                refine SC.drawn [(0, true), (1, true), (2, true), (3, true), (4, true), (5, true), (6, true), (7, true), (8, true), (9, true), (10, true), (11, true), (12, true), (13, true), (14, true), (15, true), (16, true), (17, true), (18, true), (19, true), (20, true)] [21, 22, 23, 24] (_) (by kernel_rfl) (by kernel_rfl) (fun _ h => h) ?_
                refine St.move rfl rfl ?_
                refine St.move rfl rfl ?_
                refine St.move rfl rfl ?_
                refine St.nilCheck rfl rfl ?_
                refine St.fieldAddr (off := 5) rfl rfl (by kernel_rfl) ?_
                refine St.load rfl rfl (by kernel_rfl) (by first | exact Holds.row mem0 rfl | exact Holds.row mem1 rfl | exact Holds.row mem2 rfl | exact Holds.row mem3 rfl | exact Holds.row mem4 rfl | exact Holds.row mem5 rfl | exact Holds.row mem6 rfl | exact Holds.row mem7 rfl | exact Holds.row mem8 rfl) ?_
                refine St.move rfl rfl ?_
                refine St.nilCheck rfl rfl ?_
                refine St.fieldAddr (off := 2) rfl rfl (by kernel_rfl) ?_
                refine St.load rfl rfl (by kernel_rfl) (by first | exact Holds.row mem0 rfl | exact Holds.row mem1 rfl | exact Holds.row mem2 rfl | exact Holds.row mem3 rfl | exact Holds.row mem4 rfl | exact Holds.row mem5 rfl | exact Holds.row mem6 rfl | exact Holds.row mem7 rfl | exact Holds.row mem8 rfl) ?_
                refine St.move rfl rfl ?_
                refine St.nilCheck rfl rfl ?_
                refine St.fieldAddr (off := 5) rfl rfl (by kernel_rfl) ?_
                refine St.load rfl rfl (by kernel_rfl) (by first | exact Holds.row mem0 rfl | exact Holds.row mem1 rfl | exact Holds.row mem2 rfl | exact Holds.row mem3 rfl | exact Holds.row mem4 rfl | exact Holds.row mem5 rfl | exact Holds.row mem6 rfl | exact Holds.row mem7 rfl | exact Holds.row mem8 rfl) ?_
                refine St.move rfl rfl ?_
                refine St.nilCheck rfl rfl ?_
                refine St.fieldAddr (off := 5) rfl rfl (by kernel_rfl) ?_
                refine St.load rfl rfl (by kernel_rfl) (by first | exact Holds.row mem0 rfl | exact Holds.row mem1 rfl | exact Holds.row mem2 rfl | exact Holds.row mem3 rfl | exact Holds.row mem4 rfl | exact Holds.row mem5 rfl | exact Holds.row mem6 rfl | exact Holds.row mem7 rfl | exact Holds.row mem8 rfl) ?_
                refine St.move rfl rfl ?_
                first | refine St.addN rfl rfl rfl (by omega) ?_ | refine St.addI rfl rfl rfl (by omega) ?_
                refine St.cutStr (l := n) (h := n + min 400 (b.out.length - n)) rfl rfl (by kernel_rfl) ⟨_, _, rfl, rfl⟩ ⟨_, _, rfl, rfl⟩ (by omega) (by omega) ?_
                rw [text_ext, Nat.add_sub_cancel_left]
                have hpcl : ((b.out.drop n).take (min 400 (b.out.length - n))).length ≤ 400 := by rw [List.length_take]; omega
                refine St.done ?_
                refine SX.tail ?_
                refine St.call [_, _, _, _, _] rfl (by kernel_rfl) rfl (wsegment_spec w0 ([⟨p, wnOf b.id b.st b.out b.closed b.una n b.endSent b.endAcked b.at_ b.asked b.inn b.read b.other false, 204⟩] :: Eb :: L) p b.id [] (fun w hw => Holds.row mem0 rfl w hw) 3 ((n : Nat) : Int) 0 ((b.out.drop n).take (min 400 (b.out.length - n))) (fun x hx => hbok.outB x (List.mem_of_mem_drop (List.mem_of_mem_take hx))) (by omega)) (fun _ _ _ _ h => h.nil) ?_
                rintro r22 L1 ⟨rfl, rfl⟩
                refine St.buildSl (e := 9) (n := 1) [(0, .string (text (segOf ⟨3, (b.id : Nat), ((n : Nat) : Int), 0, ((b.out.drop n).take (min 400 (b.out.length - n)))⟩)))] [.string (text (segOf ⟨3, (b.id : Nat), ((n : Nat) : Int), 0, ((b.out.drop n).take (min 400 (b.out.length - n)))⟩))] rfl rfl (by kernel_rfl) (fun _ _ h => h.nil) (fun bl => ?_)
                refine St.append2 (e := 9) (sz := 1) (bytes := 16) (xs := strs (acksOf b ++ dn)) (n := (acksOf b ++ dn).length) (news := [.string (text (segOf ⟨3, (b.id : Nat), ((n : Nat) : Int), 0, ((b.out.drop n).take (min 400 (b.out.length - n)))⟩))]) (m := 1) rfl rfl rfl (by kernel_rfl) hb5 (Rd.row rfl mem0) (by simp [one]) (by simp only [List.length_append, List.length_nil, List.length_singleton]; omega) (by simp only [List.length_append, List.length_nil, List.length_singleton]; omega) (fun _ _ h => h.nil) (fun v6 Eb6 hb6 _ => ?_)
                have hb6r := hb6.read
                obtain ⟨_, _, A6, c6, rfl, _, _⟩ := hb6r
                have hb7 : Buf 9 1 (.slice A6 ((acksOf b ++ dn).length + 1) c6) (strs (acksOf b ++ dn ++ [(segOf ⟨3, (b.id : Nat), ((n : Nat) : Int), 0, ((b.out.drop n).take (min 400 (b.out.length - n)))⟩)])) ((acksOf b ++ dn) ++ [(segOf ⟨3, (b.id : Nat), ((n : Nat) : Int), 0, ((b.out.drop n).take (min 400 (b.out.length - n)))⟩)]).length Eb6 := by rw [strs_app, show ((acksOf b ++ dn) ++ [(segOf ⟨3, (b.id : Nat), ((n : Nat) : Int), 0, ((b.out.drop n).take (min 400 (b.out.length - n)))⟩)]).length = (acksOf b ++ dn).length + 1 from List.length_append]; exact hb6
                refine St.drop ?_
                refine St.assign rfl rfl ?_
                refine St.done ?_
                refine SX.seq ?_
                refine SC.plain ?_
                refine St.move rfl rfl ?_
                refine St.move rfl rfl ?_
                refine St.nilCheck rfl rfl ?_
                refine St.fieldAddr (off := 5) rfl rfl (by kernel_rfl) ?_
                refine St.load rfl rfl (by kernel_rfl) (by first | exact Holds.row mem0 rfl | exact Holds.row mem1 rfl | exact Holds.row mem2 rfl | exact Holds.row mem3 rfl | exact Holds.row mem4 rfl | exact Holds.row mem5 rfl | exact Holds.row mem6 rfl | exact Holds.row mem7 rfl | exact Holds.row mem8 rfl) ?_
                refine St.move rfl rfl ?_
                first | refine St.addN rfl rfl rfl (by omega) ?_ | refine St.addI rfl rfl rfl (by omega) ?_
                refine St.nilCheck rfl rfl ?_
                refine St.fieldAddr (off := 5) rfl rfl (by kernel_rfl) ?_
                first | refine St.store rfl rfl rfl rfl (by kernel_rfl) (Nat.le_of_ble_eq_true rfl) (by first | exact fun _ h => h.nil | exact fun _ h => h | exact fun _ h => h.drop | exact fun _ h => h.drop.drop | exact fun _ h => h.drop.drop.drop) ?_ | refine St.store1 rfl rfl rfl rfl (by kernel_rfl) (Nat.le_of_ble_eq_true rfl) (by first | exact fun _ h => h.nil | exact fun _ h => h | exact fun _ h => h.drop | exact fun _ h => h.drop.drop | exact fun _ h => h.drop.drop.drop) ?_ | refine St.store2 rfl rfl rfl rfl (by kernel_rfl) (Nat.le_of_ble_eq_true rfl) (by first | exact fun _ h => h.nil | exact fun _ h => h | exact fun _ h => h.drop | exact fun _ h => h.drop.drop | exact fun _ h => h.drop.drop.drop) ?_ | refine St.store3 rfl rfl rfl rfl (by kernel_rfl) (Nat.le_of_ble_eq_true rfl) (by first | exact fun _ h => h.nil | exact fun _ h => h | exact fun _ h => h.drop | exact fun _ h => h.drop.drop | exact fun _ h => h.drop.drop.drop) ?_ | refine St.store4 rfl rfl rfl rfl (by kernel_rfl) (Nat.le_of_ble_eq_true rfl) (by first | exact fun _ h => h.nil | exact fun _ h => h | exact fun _ h => h.drop | exact fun _ h => h.drop.drop | exact fun _ h => h.drop.drop.drop) ?_ | refine St.store5 rfl rfl rfl rfl (by kernel_rfl) (Nat.le_of_ble_eq_true rfl) (by first | exact fun _ h => h.nil | exact fun _ h => h | exact fun _ h => h.drop | exact fun _ h => h.drop.drop | exact fun _ h => h.drop.drop.drop) ?_
                refine St.done ?_
                refine SX.blk ?_
                exact SX.again (f, n + min 400 (b.out.length - n), dn ++ [b.say 3 n 0 ((b.out.drop n).take (min 400 (b.out.length - n)))], _, Eb6) ⟨by simp only; omega, by simp only; omega, by simp only; omega, by simp only [List.length_append, List.length_singleton]; omega, (by simp only; rw [hpc, hpm]; simp), (by simp only; rw [← List.append_assoc]; exact hb7)⟩ (by simp only; omega) ⟨rfl, rfl, rfl, rfl, rfl, trivial⟩ (List.Perm.refl _)
              · refine SC.exit ?_
                refine SX.seq_exit ?_
                refine SX.seq_exit ?_
                refine SX.hit ?_
                have hpe := pieces_end b f n (by omega)
                rw [hpe] at hpc
                simp only [List.append_nil] at hpc
                refine SX.some (v5, Eb) (by simp only; rw [hpc]; exact hb5) ⟨rfl, rfl, rfl, rfl, rfl, trivial⟩ (by simp only; rw [hpc]; first | done | exact List.Perm.refl _)
            · refine St.guard_no rfl rfl rfl ?_
              refine St.guard_no rfl rfl rfl ?_
              refine St.guard_no rfl rfl rfl ?_
              refine St.guard_no rfl rfl rfl ?_
              refine St.guard_no rfl rfl rfl ?_
              refine St.guard_no rfl rfl rfl ?_
              refine St.guard_no rfl rfl rfl ?_
              refine St.guard_no rfl rfl rfl ?_
              refine St.guard_no rfl rfl rfl ?_
              refine St.guard_no rfl rfl rfl ?_
              refine St.pick_false rfl rfl rfl ?_
              refine St.done ?_
              refine SX.tail ?_
              refine St.done ?_
              refine SX.seq ?_
              refine SC.cond_false rfl ?_
              refine SC.exit ?_
              refine SX.seq_exit ?_
              refine SX.seq_exit ?_
              refine SX.hit ?_
              have hpe := pieces_end b f n (by omega)
              rw [hpe] at hpc
              simp only [List.append_nil] at hpc
              refine SX.some (v5, Eb) (by simp only; rw [hpc]; exact hb5) ⟨rfl, rfl, rfl, rfl, rfl, trivial⟩ (by simp only; rw [hpc]; first | done | exact List.Perm.refl _)
        · refine SC.seq ?_
          refine SC.plain ?_
          refine St.move rfl rfl ?_
          refine St.nilCheck rfl rfl ?_
          refine St.fieldAddr (off := 13) rfl rfl (by kernel_rfl) ?_
          refine St.load rfl rfl (by kernel_rfl) (by first | exact Holds.row mem0 rfl | exact Holds.row mem1 rfl | exact Holds.row mem2 rfl | exact Holds.row mem3 rfl | exact Holds.row mem4 rfl | exact Holds.row mem5 rfl | exact Holds.row mem6 rfl | exact Holds.row mem7 rfl | exact Holds.row mem8 rfl) ?_
          refine St.done ?_
          refine SX.seq ?_
          refine SC.cond rfl (fun c78 => ?_) (fun c78 => ?_)
          · refine SC.seq ?_
            refine SC.plain ?_
            refine St.move rfl rfl ?_
            refine St.nilCheck rfl rfl ?_
            refine St.fieldAddr (off := 10) rfl rfl (by kernel_rfl) ?_
            refine St.load rfl rfl (by kernel_rfl) (by first | exact Holds.row mem0 rfl | exact Holds.row mem1 rfl | exact Holds.row mem2 rfl | exact Holds.row mem3 rfl | exact Holds.row mem4 rfl | exact Holds.row mem5 rfl | exact Holds.row mem6 rfl | exact Holds.row mem7 rfl | exact Holds.row mem8 rfl) ?_
            refine St.lenStr rfl rfl (by kernel_rfl) ?_
            rw [text_size]
            refine St.assign rfl rfl ?_
            refine St.done ?_
            refine SX.seq ?_
            refine SC.seq ?_
            refine SC.seq ?_
            refine SC.plain ?_
            refine St.move rfl rfl ?_
            refine St.nilCheck rfl rfl ?_
            refine St.fieldAddr (off := 12) rfl rfl (by kernel_rfl) ?_
            refine St.load rfl rfl (by kernel_rfl) (by first | exact Holds.row mem0 rfl | exact Holds.row mem1 rfl | exact Holds.row mem2 rfl | exact Holds.row mem3 rfl | exact Holds.row mem4 rfl | exact Holds.row mem5 rfl | exact Holds.row mem6 rfl | exact Holds.row mem7 rfl | exact Holds.row mem8 rfl) ?_
            refine St.done ?_
            refine SX.seq ?_
            refine SC.cond rfl (fun c87 => ?_) (fun c87 => ?_)
            · refine SC.plain ?_
              refine St.move rfl rfl ?_
              first | refine St.addN (b := 1) rfl rfl rfl (by omega) ?_ | refine St.addI rfl rfl rfl (by omega) ?_
              refine St.assign rfl rfl ?_
              refine St.done ?_
              refine SX.seq ?_
              refine SC.seq ?_
              refine SC.plain ?_
              refine St.move rfl rfl ?_
              refine St.nilCheck rfl rfl ?_
              refine St.fieldAddr (off := 13) rfl rfl (by kernel_rfl) ?_
              first | refine St.store rfl rfl rfl rfl (by kernel_rfl) (Nat.le_of_ble_eq_true rfl) (by first | exact fun _ h => h.nil | exact fun _ h => h | exact fun _ h => h.drop | exact fun _ h => h.drop.drop | exact fun _ h => h.drop.drop.drop) ?_ | refine St.store1 rfl rfl rfl rfl (by kernel_rfl) (Nat.le_of_ble_eq_true rfl) (by first | exact fun _ h => h.nil | exact fun _ h => h | exact fun _ h => h.drop | exact fun _ h => h.drop.drop | exact fun _ h => h.drop.drop.drop) ?_ | refine St.store2 rfl rfl rfl rfl (by kernel_rfl) (Nat.le_of_ble_eq_true rfl) (by first | exact fun _ h => h.nil | exact fun _ h => h | exact fun _ h => h.drop | exact fun _ h => h.drop.drop | exact fun _ h => h.drop.drop.drop) ?_ | refine St.store3 rfl rfl rfl rfl (by kernel_rfl) (Nat.le_of_ble_eq_true rfl) (by first | exact fun _ h => h.nil | exact fun _ h => h | exact fun _ h => h.drop | exact fun _ h => h.drop.drop | exact fun _ h => h.drop.drop.drop) ?_ | refine St.store4 rfl rfl rfl rfl (by kernel_rfl) (Nat.le_of_ble_eq_true rfl) (by first | exact fun _ h => h.nil | exact fun _ h => h | exact fun _ h => h.drop | exact fun _ h => h.drop.drop | exact fun _ h => h.drop.drop.drop) ?_ | refine St.store5 rfl rfl rfl rfl (by kernel_rfl) (Nat.le_of_ble_eq_true rfl) (by first | exact fun _ h => h.nil | exact fun _ h => h | exact fun _ h => h.drop | exact fun _ h => h.drop.drop | exact fun _ h => h.drop.drop.drop) ?_
              refine St.done ?_
              refine SX.seq ?_
              refine SC.perm ([⟨p, wnOf b.id b.st b.out b.closed b.una b.next b.endSent b.endAcked b.at_ b.asked b.inn b.read b.other false, 204⟩] :: [] :: L) (List.Perm.refl _) ?_
              have hb0 : Buf 9 1 (.slice none 0 0) (strs []) ([] : List (List Nat)).length [] := Buf.nil 9 1
              refine SC.plain ?_
              refine St.move rfl rfl ?_
              refine St.move rfl rfl ?_
              refine St.move rfl rfl ?_
              refine St.call [_, _, _, _, _] rfl (by kernel_rfl) rfl (wsegment_spec w0 ([⟨p, wnOf b.id b.st b.out b.closed b.una b.next b.endSent b.endAcked b.at_ b.asked b.inn b.read b.other false, 204⟩] :: [] :: L) p b.id [] (fun w hw => Holds.row mem0 rfl w hw) 2 0 ((b.inn.length + 1 : Nat) : Int) [] (by simp) (by simp)) (fun _ _ _ _ h => h.nil) ?_
              rintro r18 L1 ⟨rfl, rfl⟩
              refine St.buildSl (e := 9) (n := 1) [(0, .string (text (segOf ⟨2, (b.id : Nat), 0, ((b.inn.length + 1 : Nat) : Int), []⟩)))] [.string (text (segOf ⟨2, (b.id : Nat), 0, ((b.inn.length + 1 : Nat) : Int), []⟩))] rfl rfl (by kernel_rfl) (fun _ _ h => h.nil) (fun bl => ?_)
              refine St.append2 (e := 9) (sz := 1) (bytes := 16) (xs := strs (([] : List (List Nat)))) (n := (([] : List (List Nat))).length) (news := [.string (text (segOf ⟨2, (b.id : Nat), 0, ((b.inn.length + 1 : Nat) : Int), []⟩))]) (m := 1) rfl rfl rfl (by kernel_rfl) hb0 (Rd.row rfl mem0) (by simp [one]) (by simp only [List.length_append, List.length_nil, List.length_singleton]; omega) (by simp only [List.length_append, List.length_nil, List.length_singleton]; omega) (fun _ _ h => h.nil) (fun v6 Eb6 hb6 _ => ?_)
              have hb6r := hb6.read
              obtain ⟨_, _, A6, c6, rfl, _, _⟩ := hb6r
              have hb7 : Buf 9 1 (.slice A6 ((([] : List (List Nat))).length + 1) c6) (strs (([] : List (List Nat)) ++ [(segOf ⟨2, (b.id : Nat), 0, ((b.inn.length + 1 : Nat) : Int), []⟩)])) ((([] : List (List Nat))) ++ [(segOf ⟨2, (b.id : Nat), 0, ((b.inn.length + 1 : Nat) : Int), []⟩)]).length Eb6 := by rw [strs_app, show ((([] : List (List Nat))) ++ [(segOf ⟨2, (b.id : Nat), 0, ((b.inn.length + 1 : Nat) : Int), []⟩)]).length = (([] : List (List Nat))).length + 1 from List.length_append]; exact hb6
              refine St.drop ?_
              refine St.assign rfl rfl ?_
              refine St.done ?_
              have hao : acksOf b = [b.say 2 0 (b.inn.length + 1 : Nat) []] := by unfold acksOf; rw [if_pos c78, if_pos c87]
              refine SX.some (_, Eb6) (by simp only; rw [hao]; exact hb7) ⟨rfl, rfl, rfl, rfl, trivial⟩ (List.Perm.refl _)
            · refine SC.skip ?_
              refine SX.seq ?_
              refine SC.seq ?_
              refine SC.plain ?_
              refine St.move rfl rfl ?_
              refine St.nilCheck rfl rfl ?_
              refine St.fieldAddr (off := 13) rfl rfl (by kernel_rfl) ?_
              first | refine St.store rfl rfl rfl rfl (by kernel_rfl) (Nat.le_of_ble_eq_true rfl) (by first | exact fun _ h => h.nil | exact fun _ h => h | exact fun _ h => h.drop | exact fun _ h => h.drop.drop | exact fun _ h => h.drop.drop.drop) ?_ | refine St.store1 rfl rfl rfl rfl (by kernel_rfl) (Nat.le_of_ble_eq_true rfl) (by first | exact fun _ h => h.nil | exact fun _ h => h | exact fun _ h => h.drop | exact fun _ h => h.drop.drop | exact fun _ h => h.drop.drop.drop) ?_ | refine St.store2 rfl rfl rfl rfl (by kernel_rfl) (Nat.le_of_ble_eq_true rfl) (by first | exact fun _ h => h.nil | exact fun _ h => h | exact fun _ h => h.drop | exact fun _ h => h.drop.drop | exact fun _ h => h.drop.drop.drop) ?_ | refine St.store3 rfl rfl rfl rfl (by kernel_rfl) (Nat.le_of_ble_eq_true rfl) (by first | exact fun _ h => h.nil | exact fun _ h => h | exact fun _ h => h.drop | exact fun _ h => h.drop.drop | exact fun _ h => h.drop.drop.drop) ?_ | refine St.store4 rfl rfl rfl rfl (by kernel_rfl) (Nat.le_of_ble_eq_true rfl) (by first | exact fun _ h => h.nil | exact fun _ h => h | exact fun _ h => h.drop | exact fun _ h => h.drop.drop | exact fun _ h => h.drop.drop.drop) ?_ | refine St.store5 rfl rfl rfl rfl (by kernel_rfl) (Nat.le_of_ble_eq_true rfl) (by first | exact fun _ h => h.nil | exact fun _ h => h | exact fun _ h => h.drop | exact fun _ h => h.drop.drop | exact fun _ h => h.drop.drop.drop) ?_
              refine St.done ?_
              refine SX.seq ?_
              refine SC.perm ([⟨p, wnOf b.id b.st b.out b.closed b.una b.next b.endSent b.endAcked b.at_ b.asked b.inn b.read b.other false, 204⟩] :: [] :: L) (List.Perm.refl _) ?_
              have hb0 : Buf 9 1 (.slice none 0 0) (strs []) ([] : List (List Nat)).length [] := Buf.nil 9 1
              refine SC.plain ?_
              refine St.move rfl rfl ?_
              refine St.move rfl rfl ?_
              refine St.move rfl rfl ?_
              refine St.call [_, _, _, _, _] rfl (by kernel_rfl) rfl (wsegment_spec w0 ([⟨p, wnOf b.id b.st b.out b.closed b.una b.next b.endSent b.endAcked b.at_ b.asked b.inn b.read b.other false, 204⟩] :: [] :: L) p b.id [] (fun w hw => Holds.row mem0 rfl w hw) 2 0 ((b.inn.length : Nat) : Int) [] (by simp) (by simp)) (fun _ _ _ _ h => h.nil) ?_
              rintro r18 L1 ⟨rfl, rfl⟩
              refine St.buildSl (e := 9) (n := 1) [(0, .string (text (segOf ⟨2, (b.id : Nat), 0, ((b.inn.length : Nat) : Int), []⟩)))] [.string (text (segOf ⟨2, (b.id : Nat), 0, ((b.inn.length : Nat) : Int), []⟩))] rfl rfl (by kernel_rfl) (fun _ _ h => h.nil) (fun bl => ?_)
              refine St.append2 (e := 9) (sz := 1) (bytes := 16) (xs := strs (([] : List (List Nat)))) (n := (([] : List (List Nat))).length) (news := [.string (text (segOf ⟨2, (b.id : Nat), 0, ((b.inn.length : Nat) : Int), []⟩))]) (m := 1) rfl rfl rfl (by kernel_rfl) hb0 (Rd.row rfl mem0) (by simp [one]) (by simp only [List.length_append, List.length_nil, List.length_singleton]; omega) (by simp only [List.length_append, List.length_nil, List.length_singleton]; omega) (fun _ _ h => h.nil) (fun v6 Eb6 hb6 _ => ?_)
              have hb6r := hb6.read
              obtain ⟨_, _, A6, c6, rfl, _, _⟩ := hb6r
              have hb7 : Buf 9 1 (.slice A6 ((([] : List (List Nat))).length + 1) c6) (strs (([] : List (List Nat)) ++ [(segOf ⟨2, (b.id : Nat), 0, ((b.inn.length : Nat) : Int), []⟩)])) ((([] : List (List Nat))) ++ [(segOf ⟨2, (b.id : Nat), 0, ((b.inn.length : Nat) : Int), []⟩)]).length Eb6 := by rw [strs_app, show ((([] : List (List Nat))) ++ [(segOf ⟨2, (b.id : Nat), 0, ((b.inn.length : Nat) : Int), []⟩)]).length = (([] : List (List Nat))).length + 1 from List.length_append]; exact hb6
              refine St.drop ?_
              refine St.assign rfl rfl ?_
              refine St.done ?_
              have hao : acksOf b = [b.say 2 0 (b.inn.length : Nat) []] := by unfold acksOf; rw [if_pos c78, if_neg (by rw [c87]; simp)]; rfl
              refine SX.some (_, Eb6) (by simp only; rw [hao]; exact hb7) ⟨rfl, rfl, rfl, rfl, trivial⟩ (List.Perm.refl _)
          · refine SC.skip ?_
            have hao : acksOf b = [] := by unfold acksOf; rw [if_neg (by rw [c78]; simp)]
            refine SX.some (.slice none 0 0, []) (by simp only; rw [hao]; exact Buf.nil 9 1) ⟨rfl, rfl, rfl, rfl, trivial⟩ ?_
            rw [show wnRow b = wnOf b.id b.st b.out b.closed b.una b.next b.endSent b.endAcked b.at_ b.asked b.inn b.read b.other b.owes from rfl, c78]
            first | done | exact List.Perm.refl _
      · refine SC.seq ?_
        refine SC.plain ?_
        refine St.move rfl rfl ?_
        refine St.call [_] rfl (by kernel_rfl) rfl (wsent_spec w0 L p e hok) (fun _ _ _ _ h => h.nil) ?_
        rintro r8 L1 ⟨rfl, rfl⟩
        refine St.move rfl rfl ?_
        refine St.call [_] rfl (by kernel_rfl) rfl (wacked_spec w0 L p e hok) (fun _ _ _ _ h => h.nil) ?_
        rintro r8 L1 ⟨rfl, rfl⟩
        refine St.gtr rfl rfl rfl ?_
        refine St.move rfl rfl ?_
        refine St.split 47 rfl (fun g47 => ?_) (fun g47 => ?_)
        · have hwt : e.waits = true := by rw [(waits_sent hok).1]; exact decide_eq_true g47
          refine St.guard_yes rfl rfl ?_
          refine St.move rfl rfl ?_
          refine St.guard_yes rfl rfl ?_
          refine St.move rfl rfl ?_
          refine St.guard_yes rfl rfl ?_
          refine St.call [_, _] rfl (by kernel_rfl) rfl (wlate_spec w0 L p e hok now hn) (fun _ _ _ _ h => h.nil) ?_
          rintro r8 L1 ⟨rfl, rfl⟩
          unfold WnL
          refine St.pick_true rfl rfl rfl ?_
          refine St.done ?_
          refine SX.seq ?_
          refine SC.cond rfl (fun c51 => ?_) (fun c51 => ?_)
          · refine SC.seq ?_
            refine SC.plain ?_
            refine St.move rfl rfl ?_
            refine St.move rfl rfl ?_
            refine St.nilCheck rfl rfl ?_
            refine St.fieldAddr (off := 4) rfl rfl (by kernel_rfl) ?_
            refine St.load rfl rfl (by kernel_rfl) (by first | exact Holds.row mem0 rfl | exact Holds.row mem1 rfl | exact Holds.row mem2 rfl | exact Holds.row mem3 rfl | exact Holds.row mem4 rfl | exact Holds.row mem5 rfl | exact Holds.row mem6 rfl | exact Holds.row mem7 rfl | exact Holds.row mem8 rfl) ?_
            refine St.nilCheck rfl rfl ?_
            refine St.fieldAddr (off := 5) rfl rfl (by kernel_rfl) ?_
            first | refine St.store rfl rfl rfl rfl (by kernel_rfl) (Nat.le_of_ble_eq_true rfl) (by first | exact fun _ h => h.nil | exact fun _ h => h | exact fun _ h => h.drop | exact fun _ h => h.drop.drop | exact fun _ h => h.drop.drop.drop) ?_ | refine St.store1 rfl rfl rfl rfl (by kernel_rfl) (Nat.le_of_ble_eq_true rfl) (by first | exact fun _ h => h.nil | exact fun _ h => h | exact fun _ h => h.drop | exact fun _ h => h.drop.drop | exact fun _ h => h.drop.drop.drop) ?_ | refine St.store2 rfl rfl rfl rfl (by kernel_rfl) (Nat.le_of_ble_eq_true rfl) (by first | exact fun _ h => h.nil | exact fun _ h => h | exact fun _ h => h.drop | exact fun _ h => h.drop.drop | exact fun _ h => h.drop.drop.drop) ?_ | refine St.store3 rfl rfl rfl rfl (by kernel_rfl) (Nat.le_of_ble_eq_true rfl) (by first | exact fun _ h => h.nil | exact fun _ h => h | exact fun _ h => h.drop | exact fun _ h => h.drop.drop | exact fun _ h => h.drop.drop.drop) ?_ | refine St.store4 rfl rfl rfl rfl (by kernel_rfl) (Nat.le_of_ble_eq_true rfl) (by first | exact fun _ h => h.nil | exact fun _ h => h | exact fun _ h => h.drop | exact fun _ h => h.drop.drop | exact fun _ h => h.drop.drop.drop) ?_ | refine St.store5 rfl rfl rfl rfl (by kernel_rfl) (Nat.le_of_ble_eq_true rfl) (by first | exact fun _ h => h.nil | exact fun _ h => h | exact fun _ h => h.drop | exact fun _ h => h.drop.drop | exact fun _ h => h.drop.drop.drop) ?_
            refine St.done ?_
            refine SX.seq ?_
            refine SC.seq ?_
            refine SC.plain ?_
            refine St.move rfl rfl ?_
            refine St.move rfl rfl ?_
            refine St.nilCheck rfl rfl ?_
            refine St.fieldAddr (off := 7) rfl rfl (by kernel_rfl) ?_
            refine St.load rfl rfl (by kernel_rfl) (by first | exact Holds.row mem0 rfl | exact Holds.row mem1 rfl | exact Holds.row mem2 rfl | exact Holds.row mem3 rfl | exact Holds.row mem4 rfl | exact Holds.row mem5 rfl | exact Holds.row mem6 rfl | exact Holds.row mem7 rfl | exact Holds.row mem8 rfl) ?_
            refine St.nilCheck rfl rfl ?_
            refine St.fieldAddr (off := 6) rfl rfl (by kernel_rfl) ?_
            first | refine St.store rfl rfl rfl rfl (by kernel_rfl) (Nat.le_of_ble_eq_true rfl) (by first | exact fun _ h => h.nil | exact fun _ h => h | exact fun _ h => h.drop | exact fun _ h => h.drop.drop | exact fun _ h => h.drop.drop.drop) ?_ | refine St.store1 rfl rfl rfl rfl (by kernel_rfl) (Nat.le_of_ble_eq_true rfl) (by first | exact fun _ h => h.nil | exact fun _ h => h | exact fun _ h => h.drop | exact fun _ h => h.drop.drop | exact fun _ h => h.drop.drop.drop) ?_ | refine St.store2 rfl rfl rfl rfl (by kernel_rfl) (Nat.le_of_ble_eq_true rfl) (by first | exact fun _ h => h.nil | exact fun _ h => h | exact fun _ h => h.drop | exact fun _ h => h.drop.drop | exact fun _ h => h.drop.drop.drop) ?_ | refine St.store3 rfl rfl rfl rfl (by kernel_rfl) (Nat.le_of_ble_eq_true rfl) (by first | exact fun _ h => h.nil | exact fun _ h => h | exact fun _ h => h.drop | exact fun _ h => h.drop.drop | exact fun _ h => h.drop.drop.drop) ?_ | refine St.store4 rfl rfl rfl rfl (by kernel_rfl) (Nat.le_of_ble_eq_true rfl) (by first | exact fun _ h => h.nil | exact fun _ h => h | exact fun _ h => h.drop | exact fun _ h => h.drop.drop | exact fun _ h => h.drop.drop.drop) ?_ | refine St.store5 rfl rfl rfl rfl (by kernel_rfl) (Nat.le_of_ble_eq_true rfl) (by first | exact fun _ h => h.nil | exact fun _ h => h | exact fun _ h => h.drop | exact fun _ h => h.drop.drop | exact fun _ h => h.drop.drop.drop) ?_
            refine St.done ?_
            refine SX.seq ?_
            refine SC.plain ?_
            refine St.move rfl rfl ?_
            refine St.move rfl rfl ?_
            refine St.nilCheck rfl rfl ?_
            refine St.fieldAddr (off := 8) rfl rfl (by kernel_rfl) ?_
            first | refine St.store rfl rfl rfl rfl (by kernel_rfl) (Nat.le_of_ble_eq_true rfl) (by first | exact fun _ h => h.nil | exact fun _ h => h | exact fun _ h => h.drop | exact fun _ h => h.drop.drop | exact fun _ h => h.drop.drop.drop) ?_ | refine St.store1 rfl rfl rfl rfl (by kernel_rfl) (Nat.le_of_ble_eq_true rfl) (by first | exact fun _ h => h.nil | exact fun _ h => h | exact fun _ h => h.drop | exact fun _ h => h.drop.drop | exact fun _ h => h.drop.drop.drop) ?_ | refine St.store2 rfl rfl rfl rfl (by kernel_rfl) (Nat.le_of_ble_eq_true rfl) (by first | exact fun _ h => h.nil | exact fun _ h => h | exact fun _ h => h.drop | exact fun _ h => h.drop.drop | exact fun _ h => h.drop.drop.drop) ?_ | refine St.store3 rfl rfl rfl rfl (by kernel_rfl) (Nat.le_of_ble_eq_true rfl) (by first | exact fun _ h => h.nil | exact fun _ h => h | exact fun _ h => h.drop | exact fun _ h => h.drop.drop | exact fun _ h => h.drop.drop.drop) ?_ | refine St.store4 rfl rfl rfl rfl (by kernel_rfl) (Nat.le_of_ble_eq_true rfl) (by first | exact fun _ h => h.nil | exact fun _ h => h | exact fun _ h => h.drop | exact fun _ h => h.drop.drop | exact fun _ h => h.drop.drop.drop) ?_ | refine St.store5 rfl rfl rfl rfl (by kernel_rfl) (Nat.le_of_ble_eq_true rfl) (by first | exact fun _ h => h.nil | exact fun _ h => h | exact fun _ h => h.drop | exact fun _ h => h.drop.drop | exact fun _ h => h.drop.drop.drop) ?_
            refine St.done ?_
            have hbk : e.back now = { e with next := e.una, at_ := now, endSent := e.endAcked } := back_pos (by rw [hwt, Bool.true_and]; exact c51)
            exact SX.some () trivial ⟨rfl, rfl, rfl, trivial⟩ (by rw [hbk]; first | done | exact List.Perm.refl _)
          · refine SC.skip ?_
            have hbk : e.back now = e := back_neg (by rw [hwt, Bool.true_and]; exact c51)
            exact SX.some () trivial ⟨rfl, rfl, rfl, trivial⟩ (by rw [hbk]; first | done | exact List.Perm.refl _)
        · have hwt : e.waits = false := by rw [(waits_sent hok).1]; exact decide_eq_false g47
          have hbk : e.back now = e := back_neg (by rw [hwt, Bool.false_and])
          refine St.guard_no rfl rfl rfl ?_
          refine St.guard_no rfl rfl rfl ?_
          refine St.guard_no rfl rfl rfl ?_
          refine St.pick_false rfl rfl rfl ?_
          refine St.done ?_
          refine SX.seq ?_
          refine SC.cond_false rfl ?_
          refine SC.skip ?_
          exact SX.some () trivial ⟨rfl, rfl, rfl, trivial⟩ (by rw [hbk]; first | done | exact List.Perm.refl _)
  · refine SC.seq ?_
    refine SC.plain ?_
    refine St.move rfl rfl ?_
    refine St.nilCheck rfl rfl ?_
    refine St.fieldAddr (off := 1) rfl rfl (by kernel_rfl) ?_
    refine St.load rfl rfl (by kernel_rfl) (by first | exact Holds.row mem0 rfl | exact Holds.row mem1 rfl | exact Holds.row mem2 rfl | exact Holds.row mem3 rfl | exact Holds.row mem4 rfl | exact Holds.row mem5 rfl | exact Holds.row mem6 rfl | exact Holds.row mem7 rfl | exact Holds.row mem8 rfl) ?_
    refine St.eql rfl rfl rfl ?_
    refine St.move rfl rfl ?_
    refine St.split 15 rfl (fun g15 => ?_) (fun g15 => ?_)
    · refine St.guard_yes rfl rfl ?_
      refine St.move rfl rfl ?_
      refine St.guard_yes rfl rfl ?_
      refine St.nilCheck rfl rfl ?_
      refine St.guard_yes rfl rfl ?_
      refine St.fieldAddr (off := 9) rfl rfl (by kernel_rfl) ?_
      refine St.guard_yes rfl rfl ?_
      refine St.load rfl rfl (by kernel_rfl) (by first | exact Holds.row mem0 rfl | exact Holds.row mem1 rfl | exact Holds.row mem2 rfl | exact Holds.row mem3 rfl | exact Holds.row mem4 rfl | exact Holds.row mem5 rfl | exact Holds.row mem6 rfl | exact Holds.row mem7 rfl | exact Holds.row mem8 rfl) ?_
      refine St.guard_yes rfl rfl ?_
      refine St.notB rfl rfl ?_
      refine St.guard_yes rfl rfl ?_
      refine St.move rfl rfl ?_
      refine St.splitB 21 rfl (fun g21 => ?_) (fun g21 => ?_)
      · refine St.guard_no rfl rfl rfl ?_
        refine St.guard_no rfl rfl rfl ?_
        refine St.guard_no rfl rfl rfl ?_
        refine St.guard_yes rfl rfl ?_
        refine St.pick_true rfl rfl rfl ?_
        refine St.pick_true rfl rfl rfl ?_
        refine St.done ?_
        refine SX.seq ?_
        refine SC.cond_true rfl ?_
        refine SC.seq ?_
        refine SC.plain ?_
        refine St.move rfl rfl ?_
        refine St.nilCheck rfl rfl ?_
        refine St.fieldAddr (off := 9) rfl rfl (by kernel_rfl) ?_
        first | refine St.store rfl rfl rfl rfl (by kernel_rfl) (Nat.le_of_ble_eq_true rfl) (by first | exact fun _ h => h.nil | exact fun _ h => h | exact fun _ h => h.drop | exact fun _ h => h.drop.drop | exact fun _ h => h.drop.drop.drop) ?_ | refine St.store1 rfl rfl rfl rfl (by kernel_rfl) (Nat.le_of_ble_eq_true rfl) (by first | exact fun _ h => h.nil | exact fun _ h => h | exact fun _ h => h.drop | exact fun _ h => h.drop.drop | exact fun _ h => h.drop.drop.drop) ?_ | refine St.store2 rfl rfl rfl rfl (by kernel_rfl) (Nat.le_of_ble_eq_true rfl) (by first | exact fun _ h => h.nil | exact fun _ h => h | exact fun _ h => h.drop | exact fun _ h => h.drop.drop | exact fun _ h => h.drop.drop.drop) ?_ | refine St.store3 rfl rfl rfl rfl (by kernel_rfl) (Nat.le_of_ble_eq_true rfl) (by first | exact fun _ h => h.nil | exact fun _ h => h | exact fun _ h => h.drop | exact fun _ h => h.drop.drop | exact fun _ h => h.drop.drop.drop) ?_ | refine St.store4 rfl rfl rfl rfl (by kernel_rfl) (Nat.le_of_ble_eq_true rfl) (by first | exact fun _ h => h.nil | exact fun _ h => h | exact fun _ h => h.drop | exact fun _ h => h.drop.drop | exact fun _ h => h.drop.drop.drop) ?_ | refine St.store5 rfl rfl rfl rfl (by kernel_rfl) (Nat.le_of_ble_eq_true rfl) (by first | exact fun _ h => h.nil | exact fun _ h => h | exact fun _ h => h.drop | exact fun _ h => h.drop.drop | exact fun _ h => h.drop.drop.drop) ?_
        refine St.done ?_
        refine SX.seq ?_
        refine SC.seq ?_
        refine SC.plain ?_
        refine St.move rfl rfl ?_
        refine St.move rfl rfl ?_
        refine St.nilCheck rfl rfl ?_
        refine St.fieldAddr (off := 8) rfl rfl (by kernel_rfl) ?_
        first | refine St.store rfl rfl rfl rfl (by kernel_rfl) (Nat.le_of_ble_eq_true rfl) (by first | exact fun _ h => h.nil | exact fun _ h => h | exact fun _ h => h.drop | exact fun _ h => h.drop.drop | exact fun _ h => h.drop.drop.drop) ?_ | refine St.store1 rfl rfl rfl rfl (by kernel_rfl) (Nat.le_of_ble_eq_true rfl) (by first | exact fun _ h => h.nil | exact fun _ h => h | exact fun _ h => h.drop | exact fun _ h => h.drop.drop | exact fun _ h => h.drop.drop.drop) ?_ | refine St.store2 rfl rfl rfl rfl (by kernel_rfl) (Nat.le_of_ble_eq_true rfl) (by first | exact fun _ h => h.nil | exact fun _ h => h | exact fun _ h => h.drop | exact fun _ h => h.drop.drop | exact fun _ h => h.drop.drop.drop) ?_ | refine St.store3 rfl rfl rfl rfl (by kernel_rfl) (Nat.le_of_ble_eq_true rfl) (by first | exact fun _ h => h.nil | exact fun _ h => h | exact fun _ h => h.drop | exact fun _ h => h.drop.drop | exact fun _ h => h.drop.drop.drop) ?_ | refine St.store4 rfl rfl rfl rfl (by kernel_rfl) (Nat.le_of_ble_eq_true rfl) (by first | exact fun _ h => h.nil | exact fun _ h => h | exact fun _ h => h.drop | exact fun _ h => h.drop.drop | exact fun _ h => h.drop.drop.drop) ?_ | refine St.store5 rfl rfl rfl rfl (by kernel_rfl) (Nat.le_of_ble_eq_true rfl) (by first | exact fun _ h => h.nil | exact fun _ h => h | exact fun _ h => h.drop | exact fun _ h => h.drop.drop | exact fun _ h => h.drop.drop.drop) ?_
        refine St.done ?_
        refine SX.seq ?_
        refine SC.seq ?_
        refine SC.plain ?_
        refine St.move rfl rfl ?_
        have hask : (!e.asked || e.due now) = true := by rw [g21]; rfl
        have hw : e.outp now = ({ e with asked := true, at_ := now }, [e.say 1 0 0 []]) := (if_pos (by omega)).trans (if_pos hask)
        refine St.call [_, _, _, _, _] rfl (by kernel_rfl) rfl (wsegment_spec w0 ([⟨p, wnOf e.id e.st e.out e.closed e.una e.next e.endSent e.endAcked now true e.inn e.read e.other e.owes, 204⟩] :: L) p e.id [] (fun w hw => Holds.row mem0 rfl w hw) 1 0 0 [] (by simp) (by simp)) (fun _ _ _ _ h => h.nil) ?_
        rintro r5 L1 ⟨rfl, rfl⟩
        refine St.buildSl (e := 9) (n := 1) [(0, .string (text (segOf ⟨1, (e.id : Nat), 0, 0, []⟩)))] [.string (text (segOf ⟨1, (e.id : Nat), 0, 0, []⟩))] rfl rfl (by kernel_rfl) (fun _ _ h => h.nil) (fun bl => ?_)
        refine St.assign rfl rfl ?_
        refine St.done ?_
        refine SX.seq ?_
        refine SC.ret ?_
        refine SX.seq_ret ?_
        rw [hw]
        refine SX.perm ([⟨p, wnOf e.id e.st e.out e.closed e.una e.next e.endSent e.endAcked now true e.inn e.read e.other e.owes, 204⟩] :: [⟨bl, [.string (text (segOf ⟨1, (e.id : Nat), 0, 0, []⟩))], 9⟩] :: L) (perm12 _ _ _) ?_
        exact SX.ret1 rfl rfl ⟨_, Buf.whole rfl, rfl⟩
      · refine St.guard_yes rfl rfl ?_
        refine St.move rfl rfl ?_
        refine St.guard_yes rfl rfl ?_
        refine St.move rfl rfl ?_
        refine St.guard_yes rfl rfl ?_
        refine St.call [_, _] rfl (by kernel_rfl) rfl (wlate_spec w0 L p e hok now hn) (fun _ _ _ _ h => h.nil) ?_
        rintro r2 L1 ⟨rfl, rfl⟩
        unfold WnL
        refine St.guard_yes rfl rfl ?_
        refine St.pick_false rfl rfl rfl ?_
        refine St.pick_true rfl rfl rfl ?_
        refine St.done ?_
        refine SX.seq ?_
        refine SC.cond rfl (fun c26 => ?_) (fun c26 => ?_)
        · refine SC.seq ?_
          refine SC.plain ?_
          refine St.move rfl rfl ?_
          refine St.nilCheck rfl rfl ?_
          refine St.fieldAddr (off := 9) rfl rfl (by kernel_rfl) ?_
          first | refine St.store rfl rfl rfl rfl (by kernel_rfl) (Nat.le_of_ble_eq_true rfl) (by first | exact fun _ h => h.nil | exact fun _ h => h | exact fun _ h => h.drop | exact fun _ h => h.drop.drop | exact fun _ h => h.drop.drop.drop) ?_ | refine St.store1 rfl rfl rfl rfl (by kernel_rfl) (Nat.le_of_ble_eq_true rfl) (by first | exact fun _ h => h.nil | exact fun _ h => h | exact fun _ h => h.drop | exact fun _ h => h.drop.drop | exact fun _ h => h.drop.drop.drop) ?_ | refine St.store2 rfl rfl rfl rfl (by kernel_rfl) (Nat.le_of_ble_eq_true rfl) (by first | exact fun _ h => h.nil | exact fun _ h => h | exact fun _ h => h.drop | exact fun _ h => h.drop.drop | exact fun _ h => h.drop.drop.drop) ?_ | refine St.store3 rfl rfl rfl rfl (by kernel_rfl) (Nat.le_of_ble_eq_true rfl) (by first | exact fun _ h => h.nil | exact fun _ h => h | exact fun _ h => h.drop | exact fun _ h => h.drop.drop | exact fun _ h => h.drop.drop.drop) ?_ | refine St.store4 rfl rfl rfl rfl (by kernel_rfl) (Nat.le_of_ble_eq_true rfl) (by first | exact fun _ h => h.nil | exact fun _ h => h | exact fun _ h => h.drop | exact fun _ h => h.drop.drop | exact fun _ h => h.drop.drop.drop) ?_ | refine St.store5 rfl rfl rfl rfl (by kernel_rfl) (Nat.le_of_ble_eq_true rfl) (by first | exact fun _ h => h.nil | exact fun _ h => h | exact fun _ h => h.drop | exact fun _ h => h.drop.drop | exact fun _ h => h.drop.drop.drop) ?_
          refine St.done ?_
          refine SX.seq ?_
          refine SC.seq ?_
          refine SC.plain ?_
          refine St.move rfl rfl ?_
          refine St.move rfl rfl ?_
          refine St.nilCheck rfl rfl ?_
          refine St.fieldAddr (off := 8) rfl rfl (by kernel_rfl) ?_
          first | refine St.store rfl rfl rfl rfl (by kernel_rfl) (Nat.le_of_ble_eq_true rfl) (by first | exact fun _ h => h.nil | exact fun _ h => h | exact fun _ h => h.drop | exact fun _ h => h.drop.drop | exact fun _ h => h.drop.drop.drop) ?_ | refine St.store1 rfl rfl rfl rfl (by kernel_rfl) (Nat.le_of_ble_eq_true rfl) (by first | exact fun _ h => h.nil | exact fun _ h => h | exact fun _ h => h.drop | exact fun _ h => h.drop.drop | exact fun _ h => h.drop.drop.drop) ?_ | refine St.store2 rfl rfl rfl rfl (by kernel_rfl) (Nat.le_of_ble_eq_true rfl) (by first | exact fun _ h => h.nil | exact fun _ h => h | exact fun _ h => h.drop | exact fun _ h => h.drop.drop | exact fun _ h => h.drop.drop.drop) ?_ | refine St.store3 rfl rfl rfl rfl (by kernel_rfl) (Nat.le_of_ble_eq_true rfl) (by first | exact fun _ h => h.nil | exact fun _ h => h | exact fun _ h => h.drop | exact fun _ h => h.drop.drop | exact fun _ h => h.drop.drop.drop) ?_ | refine St.store4 rfl rfl rfl rfl (by kernel_rfl) (Nat.le_of_ble_eq_true rfl) (by first | exact fun _ h => h.nil | exact fun _ h => h | exact fun _ h => h.drop | exact fun _ h => h.drop.drop | exact fun _ h => h.drop.drop.drop) ?_ | refine St.store5 rfl rfl rfl rfl (by kernel_rfl) (Nat.le_of_ble_eq_true rfl) (by first | exact fun _ h => h.nil | exact fun _ h => h | exact fun _ h => h.drop | exact fun _ h => h.drop.drop | exact fun _ h => h.drop.drop.drop) ?_
          refine St.done ?_
          refine SX.seq ?_
          refine SC.seq ?_
          refine SC.plain ?_
          refine St.move rfl rfl ?_
          have hask : (!e.asked || e.due now) = true := by rw [g21, c26]; rfl
          have hw : e.outp now = ({ e with asked := true, at_ := now }, [e.say 1 0 0 []]) := (if_pos (by omega)).trans (if_pos hask)
          refine St.call [_, _, _, _, _] rfl (by kernel_rfl) rfl (wsegment_spec w0 ([⟨p, wnOf e.id e.st e.out e.closed e.una e.next e.endSent e.endAcked now true e.inn e.read e.other e.owes, 204⟩] :: L) p e.id [] (fun w hw => Holds.row mem0 rfl w hw) 1 0 0 [] (by simp) (by simp)) (fun _ _ _ _ h => h.nil) ?_
          rintro r5 L1 ⟨rfl, rfl⟩
          refine St.buildSl (e := 9) (n := 1) [(0, .string (text (segOf ⟨1, (e.id : Nat), 0, 0, []⟩)))] [.string (text (segOf ⟨1, (e.id : Nat), 0, 0, []⟩))] rfl rfl (by kernel_rfl) (fun _ _ h => h.nil) (fun bl => ?_)
          refine St.assign rfl rfl ?_
          refine St.done ?_
          refine SX.seq ?_
          refine SC.ret ?_
          refine SX.seq_ret ?_
          rw [hw]
          refine SX.perm ([⟨p, wnOf e.id e.st e.out e.closed e.una e.next e.endSent e.endAcked now true e.inn e.read e.other e.owes, 204⟩] :: [⟨bl, [.string (text (segOf ⟨1, (e.id : Nat), 0, 0, []⟩))], 9⟩] :: L) (perm12 _ _ _) ?_
          exact SX.ret1 rfl rfl ⟨_, Buf.whole rfl, rfl⟩
        · refine SC.skip ?_
          exact SX.some () (fun h1 => (if_pos h1).trans (if_neg (by rw [g21, c26]; simp))) ⟨rfl, rfl, rfl, trivial⟩ (List.Perm.refl _)
    · refine St.guard_no rfl rfl rfl ?_
      refine St.guard_no rfl rfl rfl ?_
      refine St.guard_no rfl rfl rfl ?_
      refine St.guard_no rfl rfl rfl ?_
      refine St.guard_no rfl rfl rfl ?_
      refine St.guard_no rfl rfl rfl ?_
      refine St.guard_none rfl rfl rfl ?_
      refine St.guard_none rfl rfl rfl ?_
      refine St.guard_none rfl rfl rfl ?_
      refine St.guard_no rfl rfl rfl ?_
      refine St.pick_false rfl rfl rfl ?_
      refine St.done ?_
      refine SX.seq ?_
      refine SC.cond_false rfl ?_
      refine SC.skip ?_
      exact SX.some () (fun h1 => absurd h1 (by omega)) ⟨rfl, rfl, rfl, trivial⟩ (List.Perm.refl _)
end Go.Proofs.Ytahafepgmkiabaa
