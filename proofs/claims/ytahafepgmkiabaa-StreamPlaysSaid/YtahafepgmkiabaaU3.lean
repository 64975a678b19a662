/- Walks: the ends of streams: what they send. -/
import Derived.Test.YtahafepgmkiabaaU2
set_option linter.unusedVariables false
set_option linter.unusedSimpArgs false
set_option linter.ambiguousOpen false
namespace Go.Proofs.Ytahafepgmkiabaa
open Go Go.Proofs.Ytahafepgmkiabaa.Sep

/-- Slices of bytes, each with a row of its own. -/
def Outs (vs : List Value) (bss : List (List Nat)) (Es : List Chunk) : Prop :=
  vs.length = bss.length ∧ Es.length = bss.length ∧ ∀ (i : Nat) (v : Value) (bs : List Nat) (E : Chunk), vs[i]? = some v → bss[i]? = some bs → Es[i]? = some E → Buf 5 1 v (bytes bs) bs.length E
theorem Outs.nil : Outs [] [] [] := ⟨rfl, rfl, by simp⟩
theorem Outs.snoc {vs : List Value} {bss : List (List Nat)} {Es : List Chunk} (h : Outs vs bss Es) {v : Value} {bs : List Nat} {E : Chunk} (hb : Buf 5 1 v (bytes bs) bs.length E) : Outs (vs ++ [v]) (bss ++ [bs]) (Es ++ [E]) := by
  obtain ⟨h1, h2, h3⟩ := h
  refine ⟨by simp [h1], by simp [h2], fun i v' bs' E' hv hbs hE => ?_⟩
  by_cases hi : i < bss.length
  · rw [List.getElem?_append_left (by omega)] at hv hbs hE
    exact h3 i v' bs' E' hv hbs hE
  · rw [List.getElem?_append_right (by omega)] at hv hbs hE
    have hlt := (List.getElem?_eq_some_iff.1 hbs).1
    have hz : i - bss.length = 0 := by simp at hlt; omega
    rw [h1, hz] at hv
    rw [hz] at hbs
    rw [h2, hz] at hE
    simp only [List.getElem?_cons_zero, Option.some.injEq] at hv hbs hE
    subst hv hbs hE
    exact hb
theorem Outs.one {vs : List Value} {bss : List (List Nat)} {Es : List Chunk} (h : Outs vs bss Es) : ∀ c ∈ vs, one c = true := by
  intro c hc
  obtain ⟨i, hi⟩ := List.getElem?_of_mem hc
  have hlt := (List.getElem?_eq_some_iff.1 hi).1
  have := h.2.2 i c (bss[i]'(by have := h.1; omega)) (Es[i]'(by have := h.1; have := h.2.1; omega)) hi (List.getElem?_eq_getElem _) (List.getElem?_eq_getElem _)
  obtain ⟨_, _, _, _, rfl, _, _⟩ := this.read
  rfl
theorem perm_in (w a b c d : Chunk) (Es L : List Chunk) : (w :: a :: b :: c :: d :: (Es ++ L)).flatten.Perm (a :: b :: c :: d :: ((Es ++ [w]) ++ L)).flatten := by
  rw [List.append_assoc]
  exact (List.perm_middle (l₁ := [a, b, c, d] ++ Es) (a := w) (l₂ := L)).symm.flatten
theorem _root_.Go.Proofs.Ytahafepgmkiabaa.Sep.Own.keep3 {w0 w : World} {a b c d : Chunk} {Es L : List Chunk} (h : Own w0 (a :: b :: c :: d :: (Es ++ L)) w) : Own w0 (a :: b :: c :: L) w :=
  h.sub (by
    simp only [List.flatten_cons, List.flatten_append]
    exact List.Sublist.append (List.Sublist.refl _) (List.Sublist.append (List.Sublist.refl _) (List.Sublist.append (List.Sublist.refl _) ((List.sublist_append_right _ _).trans (List.sublist_append_right _ _)))))
def acksOf (b : En) : List (List Nat) := if b.owes then [b.say 2 0 (b.inn.length + (if b.other then 1 else 0) : Nat) []] else []
theorem pieces_end (b : En) (f n : Nat) (h : ¬ (n < b.out.length ∧ n < b.una + 4000)) : b.pieces f n = ([], n) := by
  cases f with
  | zero => rfl
  | succ f => simp only [En.pieces, if_neg h]
theorem pieces_more (b : En) (f n : Nat) (h : n < b.out.length ∧ n < b.una + 4000) : b.pieces (f + 1) n = (b.say 3 n 0 ((b.out.drop n).take (min 400 (b.out.length - n))) :: (b.pieces f (n + min 400 (b.out.length - n))).1, (b.pieces f (n + min 400 (b.out.length - n))).2) := by
  simp only [En.pieces, if_pos h]
def finOf (b : En) : Bool := b.closed && !b.endSent && decide ((b.pieces 11 b.next).2 = b.out.length)
def finsOf (b : En) : List (List Nat) := if finOf b then [b.say 4 (b.pieces 11 b.next).2 0 []] else []
theorem isEmpty_ne {α : Type} [DecidableEq α] (l : List α) : decide (l ≠ []) = !l.isEmpty := by cases l <;> simp
theorem sends_eq (e : En) (now : Int) : e.sends now = ({ e.back now with owes := false, next := ((e.back now).pieces 11 (e.back now).next).2, endSent := (e.back now).endSent || finOf (e.back now), at_ := if (!(e.back now).waits && (!((e.back now).pieces 11 (e.back now).next).1.isEmpty || finOf (e.back now))) = true then now else (e.back now).at_ },
    acksOf (e.back now) ++ (((e.back now).pieces 11 (e.back now).next).1 ++ finsOf (e.back now))) := by
  unfold En.sends acksOf finsOf finOf
  simp only [isEmpty_ne]
theorem pieces_few (e : En) : ∀ f n, (e.pieces f n).1.length ≤ f
  | 0, n => Nat.le_refl _
  | f + 1, n => by
    simp only [En.pieces]
    split
    · have := pieces_few e f (n + min 400 (e.out.length - n))
      simp only [List.length_cons]; omega
    · simp
theorem app_ne {α : Type} (l : List α) (x : α) : (l ++ [x]).isEmpty = false := by cases l <;> rfl
def rowOf (id st : Nat) (asked : Bool) (ov : Value) (una next : Nat) (at_ : Int) (closed endSent endAcked : Bool) (iv : Value) (read : Nat) (other owes : Bool) : List Value :=
  [.int .u32 ((id : Nat) : Int), .int .i64 ((st : Nat) : Int), .bool asked, ov, .int .i64 ((una : Nat) : Int), .int .i64 ((next : Nat) : Int), .int .i64 at_, .bool closed, .bool endSent, .bool endAcked, iv, .int .i64 ((read : Nat) : Int), .bool other, .bool owes]
theorem back_pos {e : En} {now : Int} (h : (e.waits && e.due now) = true) : e.back now = { e with next := e.una, at_ := now, endSent := e.endAcked } := if_pos h
theorem back_neg {e : En} {now : Int} (h : (e.waits && e.due now) = false) : e.back now = e := if_neg (by rw [h]; simp)
theorem waits_acked {e : En} (h : e.Ok) (hw : e.waits = true) : e.endAcked = false := by
  cases ha : e.endAcked with
  | false => rfl
  | true =>
    have h1 := h.acked ha
    have h2 := h.sent h1.1
    unfold En.waits at hw
    rw [ha, decide_eq_false (by omega)] at hw
    simp at hw

theorem sends_spec (w0 : World) (L : List Chunk) (p : Nat) (e : En) (ov iv : Value) (at_ : Int) (Eo Ei : Chunk) (hB : EnB e ov iv at_ Eo Ei) (now : Int) (hn : Clock now) :
    Meets Try.prog 128 #[.pointer (some ⟨p, 0, none⟩), .int .i64 now] w0 (EnL p e ov iv at_ Eo Ei L) (fun r L' => ∃ vs Eb Es ov2 iv2 at2 Eo2 Ei2, Buf 35 1 r vs (e.sends now).2.length Eb ∧ Outs vs (e.sends now).2 Es ∧ EnB (e.sends now).1 ov2 iv2 at2 Eo2 Ei2 ∧ L' = EnL p (e.sends now).1 ov2 iv2 at2 Eo2 Ei2 (Eb :: (Es ++ L))) := by
  have hok0 := hB.ok
  unfold EnL
  refine Meets.of_body [.pointer (some ⟨p, 0, none⟩), .int .i64 now] Try.func128 rfl Try.ntmps128 rfl ?_
  refine SC.seq ?_
  refine SC.plain ?_
  refine St.assign rfl rfl ?_
  refine St.done ?_
  refine SX.seq ?_
  refine SC.seq ?_
  refine SC.plain ?_
  refine St.assign rfl rfl ?_
  refine St.done ?_
  refine SX.seq ?_
  refine SC.join (α := Int × Value × Value) (fun s => EnB (e.back now) s.2.1 s.2.2 s.1 Eo Ei) (fun s => [(0, .pointer (some ⟨p, 0, none⟩)), (1, .int .i64 now), (5, .slice none 0 0)]) (fun s => EnL p (e.back now) s.2.1 s.2.2 s.1 Eo Ei L) ?_ ?_
  · rintro ⟨at2, ov, iv⟩ hB2
    have hse := sends_eq e now
    have hsok := sends_ok hok0 hn
    simp only at hB2 ⊢
    rw [hse] at hsok ⊢
    generalize e.back now = b at hB2 hsok ⊢
    clear hse hB hok0
    obtain ⟨⟨Ao, co, rfl⟩, ⟨Ai, ci, rfl⟩⟩ := hB2.slices
    have hok := hB2.ok
    have hr1 := hok.room
    have hr2 := hok.inn
    have hu := hok.una
    have hx := hok.next
    have hid := hok.id
    unfold EnL
    refine SC.join (α := Value × List Value × Chunk × List Chunk) (fun s => Buf 35 1 s.1 s.2.1 (acksOf b).length s.2.2.1 ∧ Outs s.2.1 (acksOf b) s.2.2.2) (fun s => [(0, .pointer (some ⟨p, 0, none⟩)), (1, .int .i64 now), (5, s.1)]) (fun s => [⟨p, rowOf b.id b.st b.asked (.slice Ao b.out.length co) b.una b.next at2 b.closed b.endSent b.endAcked (.slice Ai b.inn.length ci) b.read b.other false, 185⟩] :: Eo :: Ei :: s.2.2.1 :: (s.2.2.2 ++ L)) ?_ ?_
    · rintro ⟨v5, vs, Eb, Es⟩ ⟨hb5, hos⟩
      simp only at hb5 hos ⊢
      have hB3 : EnB { b with owes := false } (.slice Ao b.out.length co) (.slice Ai b.inn.length ci) at2 Eo Ei := ⟨hB2.out, hB2.inn, hB2.tm, hB2.clock, owes_ok hok false⟩
      refine SC.seq ?_
      refine SC.plain ?_
      refine St.move rfl rfl ?_
      refine St.call [_] rfl (by kernel_rfl) rfl (waits_spec w0 (Eb :: (Es ++ L)) p { b with owes := false } _ _ at2 Eo Ei hB3) (fun _ _ _ _ h => h.nil) ?_
      rintro r1 L1 ⟨rfl, rfl⟩
      rw [show ({ b with owes := false } : En).waits = b.waits from rfl]
      refine St.notB rfl rfl ?_
      refine St.assign rfl rfl ?_
      refine St.assign rfl rfl ?_
      refine St.done ?_
      refine SX.seq ?_
      refine SC.join (α := Value × List Value × Chunk × List Chunk) (fun s => Buf 35 1 s.1 s.2.1 (acksOf b ++ (b.pieces 11 b.next).1).length s.2.2.1 ∧ Outs s.2.1 (acksOf b ++ (b.pieces 11 b.next).1) s.2.2.2) (fun s => [(0, .pointer (some ⟨p, 0, none⟩)), (1, .int .i64 now), (5, s.1), (7, .bool (!b.waits)), (8, .bool (!(b.pieces 11 b.next).1.isEmpty))]) (fun s => [⟨p, rowOf b.id b.st b.asked (.slice Ao b.out.length co) b.una (b.pieces 11 b.next).2 at2 b.closed b.endSent b.endAcked (.slice Ai b.inn.length ci) b.read b.other false, 185⟩] :: Eo :: Ei :: s.2.2.1 :: (s.2.2.2 ++ L)) ?_ ?_
      · rintro ⟨v5, vs, Eb, Es⟩ ⟨hb5, hos⟩
        simp only at hb5 hos ⊢
        have hple := pieces_le b 11 b.next hx
        have hvl := hos.1
        have hal : (acksOf b).length ≤ 1 := by unfold acksOf; split <;> simp
        have hpl := pieces_few b 11 b.next
        refine SC.join (α := Value × List Value × Chunk × List Chunk) (fun s => Buf 35 1 s.1 s.2.1 (acksOf b ++ ((b.pieces 11 b.next).1 ++ finsOf b)).length s.2.2.1 ∧ Outs s.2.1 (acksOf b ++ ((b.pieces 11 b.next).1 ++ finsOf b)) s.2.2.2) (fun s => [(0, .pointer (some ⟨p, 0, none⟩)), (1, .int .i64 now), (5, s.1), (7, .bool (!b.waits)), (8, .bool (!(b.pieces 11 b.next).1.isEmpty || finOf b))]) (fun s => [⟨p, rowOf b.id b.st b.asked (.slice Ao b.out.length co) b.una (b.pieces 11 b.next).2 at2 b.closed (b.endSent || finOf b) b.endAcked (.slice Ai b.inn.length ci) b.read b.other false, 185⟩] :: Eo :: Ei :: s.2.2.1 :: (s.2.2.2 ++ L)) ?_ ?_
        · rintro ⟨v5, vs, Eb, Es⟩ ⟨hb5, hos⟩
          simp only at hb5 hos ⊢
          refine SC.seq ?_
          refine SC.seq ?_
          refine SC.plain ?_
          refine St.move rfl rfl ?_
          refine St.move rfl rfl ?_
          refine St.splitB 166 rfl (fun g166 => ?_) (fun g166 => ?_)
          · refine St.guard_yes rfl rfl ?_
            refine St.move rfl rfl ?_
            refine St.pick_true rfl rfl rfl ?_
            refine St.done ?_
            refine SX.seq ?_
            refine SC.cond rfl (fun c168 => ?_) (fun c168 => ?_)
            · refine SC.plain ?_
              refine St.move rfl rfl ?_
              refine St.move rfl rfl ?_
              refine St.nilCheck rfl rfl ?_
              refine St.fieldAddr (off := 6) rfl rfl (by kernel_rfl) ?_
              first | refine St.store rfl rfl rfl rfl (by kernel_rfl) (Nat.le_of_ble_eq_true rfl) (by first | exact fun _ h => h.nil | exact fun _ h => h | exact fun _ h => h.drop | exact fun _ h => h.drop.drop | exact fun _ h => h.drop.drop.drop) ?_ | refine St.store1 rfl rfl rfl rfl (by kernel_rfl) (Nat.le_of_ble_eq_true rfl) (by first | exact fun _ h => h.nil | exact fun _ h => h | exact fun _ h => h.drop | exact fun _ h => h.drop.drop | exact fun _ h => h.drop.drop.drop) ?_ | refine St.store2 rfl rfl rfl rfl (by kernel_rfl) (Nat.le_of_ble_eq_true rfl) (by first | exact fun _ h => h.nil | exact fun _ h => h | exact fun _ h => h.drop | exact fun _ h => h.drop.drop | exact fun _ h => h.drop.drop.drop) ?_ | refine St.store3 rfl rfl rfl rfl (by kernel_rfl) (Nat.le_of_ble_eq_true rfl) (by first | exact fun _ h => h.nil | exact fun _ h => h | exact fun _ h => h.drop | exact fun _ h => h.drop.drop | exact fun _ h => h.drop.drop.drop) ?_ | refine St.store4 rfl rfl rfl rfl (by kernel_rfl) (Nat.le_of_ble_eq_true rfl) (by first | exact fun _ h => h.nil | exact fun _ h => h | exact fun _ h => h.drop | exact fun _ h => h.drop.drop | exact fun _ h => h.drop.drop.drop) ?_ | refine St.store5 rfl rfl rfl rfl (by kernel_rfl) (Nat.le_of_ble_eq_true rfl) (by first | exact fun _ h => h.nil | exact fun _ h => h | exact fun _ h => h.drop | exact fun _ h => h.drop.drop | exact fun _ h => h.drop.drop.drop) ?_
              refine St.done ?_
              refine SX.seq ?_
              refine SC.seq ?_
              refine SC.plain ?_
              refine St.move rfl rfl ?_
              refine St.assign rfl rfl ?_
              refine St.done ?_
              refine SX.seq ?_
              refine SC.ret ?_
              have hcnd : (!b.waits && (!(b.pieces 11 b.next).1.isEmpty || finOf b)) = true := by rw [g166, c168]; rfl
              rw [if_pos hcnd] at hsok ⊢
              exact SX.ret1 rfl rfl ⟨vs, Eb, Es, _, _, now, Eo, Ei, hb5, hos, ⟨hB2.out, hB2.inn, .inl rfl, hn, hsok⟩, rfl⟩
            · refine SC.skip ?_
              refine SX.seq ?_
              refine SC.seq ?_
              refine SC.plain ?_
              refine St.move rfl rfl ?_
              refine St.assign rfl rfl ?_
              refine St.done ?_
              refine SX.seq ?_
              refine SC.ret ?_
              have hcnd : ¬ (!b.waits && (!(b.pieces 11 b.next).1.isEmpty || finOf b)) = true := by rw [g166, c168]; simp
              rw [if_neg hcnd] at hsok ⊢
              exact SX.ret1 rfl rfl ⟨vs, Eb, Es, _, _, at2, Eo, Ei, hb5, hos, ⟨hB2.out, hB2.inn, hB2.tm, hB2.clock, hsok⟩, rfl⟩
          · refine St.guard_no rfl rfl rfl ?_
            refine St.pick_false rfl rfl rfl ?_
            refine St.done ?_
            refine SX.seq ?_
            refine SC.cond_false rfl ?_
            refine SC.skip ?_
            refine SX.seq ?_
            refine SC.seq ?_
            refine SC.plain ?_
            refine St.move rfl rfl ?_
            refine St.assign rfl rfl ?_
            refine St.done ?_
            refine SX.seq ?_
            refine SC.ret ?_
            have hcnd : ¬ (!b.waits && (!(b.pieces 11 b.next).1.isEmpty || finOf b)) = true := by rw [g166]; simp
            rw [if_neg hcnd] at hsok ⊢
            exact SX.ret1 rfl rfl ⟨vs, Eb, Es, _, _, at2, Eo, Ei, hb5, hos, ⟨hB2.out, hB2.inn, hB2.tm, hB2.clock, hsok⟩, rfl⟩
        · refine SC.seq ?_
          refine SC.drawn [(0, true), (1, true), (2, true), (3, true), (4, true), (5, true), (6, true), (7, true), (8, true), (9, true), (10, true), (11, true), (12, true), (13, true), (14, true), (15, true), (16, true), (17, true), (18, true), (19, true), (20, true), (21, true), (22, true)] [] (_) (by kernel_rfl) (by kernel_rfl) (fun _ h => h) ?_
          refine St.move rfl rfl ?_
          refine St.nilCheck rfl rfl ?_
          refine St.fieldAddr (off := 7) rfl rfl (by kernel_rfl) ?_
          refine St.load rfl rfl (by kernel_rfl) (by first | exact Holds.row mem0 rfl | exact Holds.row mem1 rfl | exact Holds.row mem2 rfl | exact Holds.row mem3 rfl | exact Holds.row mem4 rfl | exact Holds.row mem5 rfl | exact Holds.row mem6 rfl | exact Holds.row mem7 rfl | exact Holds.row mem8 rfl) ?_
          refine St.move rfl rfl ?_
          refine St.splitB 133 rfl (fun g133 => ?_) (fun g133 => ?_)
          · refine St.guard_yes rfl rfl ?_
            refine St.move rfl rfl ?_
            refine St.guard_yes rfl rfl ?_
            refine St.nilCheck rfl rfl ?_
            refine St.guard_yes rfl rfl ?_
            refine St.fieldAddr (off := 8) rfl rfl (by kernel_rfl) ?_
            refine St.guard_yes rfl rfl ?_
            refine St.load rfl rfl (by kernel_rfl) (by first | exact Holds.row mem0 rfl | exact Holds.row mem1 rfl | exact Holds.row mem2 rfl | exact Holds.row mem3 rfl | exact Holds.row mem4 rfl | exact Holds.row mem5 rfl | exact Holds.row mem6 rfl | exact Holds.row mem7 rfl | exact Holds.row mem8 rfl) ?_
            refine St.guard_yes rfl rfl ?_
            refine St.notB rfl rfl ?_
            refine St.pick_true rfl rfl rfl ?_
            refine St.move rfl rfl ?_
            refine St.splitB 140 rfl (fun g140 => ?_) (fun g140 => ?_)
            · refine St.guard_yes rfl rfl ?_
              refine St.move rfl rfl ?_
              refine St.guard_yes rfl rfl ?_
              refine St.nilCheck rfl rfl ?_
              refine St.guard_yes rfl rfl ?_
              refine St.fieldAddr (off := 5) rfl rfl (by kernel_rfl) ?_
              refine St.guard_yes rfl rfl ?_
              refine St.load rfl rfl (by kernel_rfl) (by first | exact Holds.row mem0 rfl | exact Holds.row mem1 rfl | exact Holds.row mem2 rfl | exact Holds.row mem3 rfl | exact Holds.row mem4 rfl | exact Holds.row mem5 rfl | exact Holds.row mem6 rfl | exact Holds.row mem7 rfl | exact Holds.row mem8 rfl) ?_
              refine St.guard_yes rfl rfl ?_
              refine St.move rfl rfl ?_
              refine St.guard_yes rfl rfl ?_
              refine St.nilCheck rfl rfl ?_
              refine St.guard_yes rfl rfl ?_
              refine St.fieldAddr (off := 3) rfl rfl (by kernel_rfl) ?_
              refine St.guard_yes rfl rfl ?_
              refine St.load rfl rfl (by kernel_rfl) (by first | exact Holds.row mem0 rfl | exact Holds.row mem1 rfl | exact Holds.row mem2 rfl | exact Holds.row mem3 rfl | exact Holds.row mem4 rfl | exact Holds.row mem5 rfl | exact Holds.row mem6 rfl | exact Holds.row mem7 rfl | exact Holds.row mem8 rfl) ?_
              refine St.guard_yes rfl rfl ?_
              refine St.lenSl rfl rfl (by kernel_rfl) ?_
              refine St.guard_yes rfl rfl ?_
              refine St.eql rfl rfl rfl ?_
              refine St.pick_true rfl rfl rfl ?_
              refine St.done ?_
              refine SX.tail ?_
              refine St.done ?_
              refine SX.seq ?_
              refine SC.condp rfl (fun c151 => ?_) (fun c151 => ?_)
              · refine SC.seq ?_
                refine SC.plain ?_
                refine St.move rfl rfl ?_
                refine St.move rfl rfl ?_
                refine St.move rfl rfl ?_
                refine St.nilCheck rfl rfl ?_
                refine St.fieldAddr (off := 5) rfl rfl (by kernel_rfl) ?_
                refine St.load rfl rfl (by kernel_rfl) (by first | exact Holds.row mem0 rfl | exact Holds.row mem1 rfl | exact Holds.row mem2 rfl | exact Holds.row mem3 rfl | exact Holds.row mem4 rfl | exact Holds.row mem5 rfl | exact Holds.row mem6 rfl | exact Holds.row mem7 rfl | exact Holds.row mem8 rfl) ?_
                refine St.build [(0, .int .i64 4), (2, .int .i64 (((b.pieces 11 b.next).2 : Nat) : Int))] (segCells ⟨4, 0, (((b.pieces 11 b.next).2 : Nat) : Int), 0, []⟩ (.slice none 0 0)) rfl rfl (by kernel_rfl) ?_
                refine St.call [_, _] rfl (by kernel_rfl) rfl (say_spec w0 ([⟨p, rowOf b.id b.st b.asked (.slice Ao b.out.length co) b.una (b.pieces 11 b.next).2 at2 b.closed b.endSent b.endAcked (.slice Ai b.inn.length ci) b.read b.other false, 185⟩] :: Eo :: Ei :: Eb :: (Es ++ L)) p b.id ⟨4, 0, (((b.pieces 11 b.next).2 : Nat) : Int), 0, []⟩ (.slice none 0 0) (fun w hw => Holds.row mem0 rfl w hw) hid (SegIn.none _ _ _ _)) (fun _ _ _ _ h => h.nil) ?_
                rintro rf L1 ⟨Ew, rfl, hw⟩
                have hwr := hw.read
                obtain ⟨_, _, Aw, cw, rfl, _, _⟩ := hwr
                have hw : Buf 5 1 (.slice Aw (b.say 4 (((b.pieces 11 b.next).2 : Nat) : Int) 0 []).length cw) (bytes (b.say 4 (((b.pieces 11 b.next).2 : Nat) : Int) 0 [])) (b.say 4 (((b.pieces 11 b.next).2 : Nat) : Int) 0 []).length Ew := hw
                refine St.buildSl (n := 1) (e := 35) [(0, .slice Aw (b.say 4 (((b.pieces 11 b.next).2 : Nat) : Int) 0 []).length cw)] [.slice Aw (b.say 4 (((b.pieces 11 b.next).2 : Nat) : Int) 0 []).length cw] rfl rfl (by kernel_rfl) (fun _ _ h => h.nil) (fun bl => ?_)
                refine St.append5 (e := 35) (sz := 1) (bytes := 24) (xs := vs) (n := (acksOf b ++ (b.pieces 11 b.next).1).length) (news := [.slice Aw (b.say 4 (((b.pieces 11 b.next).2 : Nat) : Int) 0 []).length cw]) (m := 1) rfl rfl rfl (by kernel_rfl) hb5 (Rd.row rfl mem0) (by simp [one]) (by simp only [List.length_append, List.length_nil]; omega) (by simp only [List.length_append, List.length_nil]; omega) (fun _ _ h => h.nil) (fun v6 Eb6 hb6 _ => ?_)
                have hb6r := hb6.read
                obtain ⟨_, _, A6, c6, rfl, _, _⟩ := hb6r
                have ho6 := (hos).snoc hw
                refine St.drop ?_
                refine St.perm ([⟨p, rowOf b.id b.st b.asked (.slice Ao b.out.length co) b.una (b.pieces 11 b.next).2 at2 b.closed b.endSent b.endAcked (.slice Ai b.inn.length ci) b.read b.other false, 185⟩] :: Eo :: Ei :: Eb6 :: ((Es ++ [Ew]) ++ L)) (perm_in _ _ _ _ _ _ _) ?_
                refine St.assign rfl rfl ?_
                refine St.done ?_
                refine SX.seq ?_
                refine SC.plain ?_
                refine St.move rfl rfl ?_
                refine St.nilCheck rfl rfl ?_
                refine St.fieldAddr (off := 8) rfl rfl (by kernel_rfl) ?_
                first | refine St.store rfl rfl rfl rfl (by kernel_rfl) (Nat.le_of_ble_eq_true rfl) (by first | exact fun _ h => h.nil | exact fun _ h => h | exact fun _ h => h.drop | exact fun _ h => h.drop.drop | exact fun _ h => h.drop.drop.drop) ?_ | refine St.store1 rfl rfl rfl rfl (by kernel_rfl) (Nat.le_of_ble_eq_true rfl) (by first | exact fun _ h => h.nil | exact fun _ h => h | exact fun _ h => h.drop | exact fun _ h => h.drop.drop | exact fun _ h => h.drop.drop.drop) ?_ | refine St.store2 rfl rfl rfl rfl (by kernel_rfl) (Nat.le_of_ble_eq_true rfl) (by first | exact fun _ h => h.nil | exact fun _ h => h | exact fun _ h => h.drop | exact fun _ h => h.drop.drop | exact fun _ h => h.drop.drop.drop) ?_ | refine St.store3 rfl rfl rfl rfl (by kernel_rfl) (Nat.le_of_ble_eq_true rfl) (by first | exact fun _ h => h.nil | exact fun _ h => h | exact fun _ h => h.drop | exact fun _ h => h.drop.drop | exact fun _ h => h.drop.drop.drop) ?_ | refine St.store4 rfl rfl rfl rfl (by kernel_rfl) (Nat.le_of_ble_eq_true rfl) (by first | exact fun _ h => h.nil | exact fun _ h => h | exact fun _ h => h.drop | exact fun _ h => h.drop.drop | exact fun _ h => h.drop.drop.drop) ?_ | refine St.store5 rfl rfl rfl rfl (by kernel_rfl) (Nat.le_of_ble_eq_true rfl) (by first | exact fun _ h => h.nil | exact fun _ h => h | exact fun _ h => h.drop | exact fun _ h => h.drop.drop | exact fun _ h => h.drop.drop.drop) ?_
                refine St.assign rfl rfl ?_
                refine St.done ?_
                have hfo : finOf b = true := by unfold finOf; rw [g133, decide_eq_true (by omega)]; simpa using g140
                have hfs : finsOf b = [b.say 4 (b.pieces 11 b.next).2 0 []] := if_pos hfo
                refine SX.some (_, _, Eb6, _) ⟨(by simp only; rw [hfs, ← List.append_assoc, show (acksOf b ++ (b.pieces 11 b.next).1 ++ [b.say 4 (b.pieces 11 b.next).2 0 []]).length = (acksOf b ++ (b.pieces 11 b.next).1).length + 1 from List.length_append]; exact hb6), (by simp only; rw [hfs, ← List.append_assoc]; exact ho6)⟩ ⟨rfl, rfl, rfl, rfl, (by simp only; rw [hfo, Bool.or_true]; rfl), trivial⟩ ?_
                simp only
                rw [hfo, Bool.or_true]
                first | done | exact List.Perm.refl _
              · refine SC.skip ?_
                have hfo : finOf b = false := by unfold finOf; first | (rw [g133]; rfl) | (rw [g140, Bool.and_false, Bool.false_and]) | (rw [decide_eq_false (by omega), Bool.and_false])
                have hfs : finsOf b = [] := if_neg (by rw [hfo]; simp)
                refine SX.some (v5, vs, Eb, Es) ⟨(by simp only; rw [hfs, List.append_nil]; exact hb5), (by simp only; rw [hfs, List.append_nil]; exact hos)⟩ ⟨rfl, rfl, rfl, rfl, (by simp only; rw [hfo, Bool.or_false]; rfl), trivial⟩ ?_
                simp only
                rw [hfo, Bool.or_false]
                first | done | exact List.Perm.refl _
            · refine St.guard_no rfl rfl rfl ?_
              refine St.guard_no rfl rfl rfl ?_
              refine St.guard_no rfl rfl rfl ?_
              refine St.guard_no rfl rfl rfl ?_
              refine St.guard_no rfl rfl rfl ?_
              refine St.guard_no rfl rfl rfl ?_
              refine St.guard_no rfl rfl rfl ?_
              refine St.guard_no rfl rfl rfl ?_
              refine St.guard_no rfl rfl rfl ?_
              refine St.guard_no rfl rfl rfl ?_
              refine St.pick_false rfl rfl rfl ?_
              refine St.done ?_
              refine SX.tail ?_
              refine St.done ?_
              refine SX.seq ?_
              refine SC.cond_false rfl ?_
              refine SC.skip ?_
              have hfo : finOf b = false := by unfold finOf; first | (rw [g133]; rfl) | (rw [g140, Bool.and_false, Bool.false_and]) | (rw [decide_eq_false (by omega), Bool.and_false])
              have hfs : finsOf b = [] := if_neg (by rw [hfo]; simp)
              refine SX.some (v5, vs, Eb, Es) ⟨(by simp only; rw [hfs, List.append_nil]; exact hb5), (by simp only; rw [hfs, List.append_nil]; exact hos)⟩ ⟨rfl, rfl, rfl, rfl, (by simp only; rw [hfo, Bool.or_false]; rfl), trivial⟩ ?_
              simp only
              rw [hfo, Bool.or_false]
              first | done | exact List.Perm.refl _
          · refine St.guard_no rfl rfl rfl ?_
            refine St.guard_no rfl rfl rfl ?_
            refine St.guard_no rfl rfl rfl ?_
            refine St.guard_no rfl rfl rfl ?_
            refine St.guard_no rfl rfl rfl ?_
            refine St.pick_false rfl rfl rfl ?_
            refine St.move rfl rfl ?_
            refine St.guard_no rfl rfl rfl ?_
            refine St.guard_no rfl rfl rfl ?_
            refine St.guard_no rfl rfl rfl ?_
            refine St.guard_no rfl rfl rfl ?_
            refine St.guard_no rfl rfl rfl ?_
            refine St.guard_no rfl rfl rfl ?_
            refine St.guard_no rfl rfl rfl ?_
            refine St.guard_no rfl rfl rfl ?_
            refine St.guard_no rfl rfl rfl ?_
            refine St.guard_no rfl rfl rfl ?_
            refine St.pick_false rfl rfl rfl ?_
            refine St.done ?_
            refine SX.tail ?_
            refine St.done ?_
            refine SX.seq ?_
            refine SC.cond_false rfl ?_
            refine SC.skip ?_
            have hfo : finOf b = false := by unfold finOf; first | (rw [g133]; rfl) | (rw [g140, Bool.and_false, Bool.false_and]) | (rw [decide_eq_false (by omega), Bool.and_false])
            have hfs : finsOf b = [] := if_neg (by rw [hfo]; simp)
            refine SX.some (v5, vs, Eb, Es) ⟨(by simp only; rw [hfs, List.append_nil]; exact hb5), (by simp only; rw [hfs, List.append_nil]; exact hos)⟩ ⟨rfl, rfl, rfl, rfl, (by simp only; rw [hfo, Bool.or_false]; rfl), trivial⟩ ?_
            simp only
            rw [hfo, Bool.or_false]
            first | done | exact List.Perm.refl _
      · refine SC.block ?_
        refine SC.loop (α := Nat × Nat × List (List Nat) × Value × List Value × Chunk × List Chunk) (fun s => s.1 ≤ 11 ∧ s.2.1 ≤ b.out.length ∧ (b.next + 400 * (11 - s.1) ≤ s.2.1 ∨ s.2.1 = b.out.length) ∧ s.2.2.1.length ≤ 11 - s.1 ∧ (b.pieces 11 b.next) = (s.2.2.1 ++ (b.pieces s.1 s.2.1).1, (b.pieces s.1 s.2.1).2) ∧ Buf 35 1 s.2.2.2.1 s.2.2.2.2.1 (acksOf b ++ s.2.2.1).length s.2.2.2.2.2.1 ∧ Outs s.2.2.2.2.1 (acksOf b ++ s.2.2.1) s.2.2.2.2.2.2) (fun s => [(0, .pointer (some ⟨p, 0, none⟩)), (1, .int .i64 now), (5, s.2.2.2.1), (7, .bool (!b.waits)), (8, .bool (!s.2.2.1.isEmpty))]) (fun s => [⟨p, rowOf b.id b.st b.asked (.slice Ao b.out.length co) b.una s.2.1 at2 b.closed b.endSent b.endAcked (.slice Ai b.inn.length ci) b.read b.other false, 185⟩] :: Eo :: Ei :: s.2.2.2.2.2.1 :: (s.2.2.2.2.2.2 ++ L)) (fun s => b.out.length - s.2.1) (11, b.next, [], v5, vs, Eb, Es) ⟨Nat.le_refl _, hx, .inl (by simp), Nat.zero_le _, rfl, (by simp only [List.append_nil]; exact hb5), (by simp only [List.append_nil]; exact hos)⟩ ⟨rfl, rfl, rfl, rfl, rfl, trivial⟩ (List.Perm.refl _) ?_
        clear hb5 hos
        rintro ⟨f, n, dn, v5, vs, Eb, Es⟩ ⟨hf, hnl, hfn, hdl, hpc, hb5, hos⟩
        simp only at hf hnl hfn hdl hpc hb5 hos ⊢
        have hvl := hos.1
        have hal : (acksOf b).length ≤ 1 := by unfold acksOf; split <;> simp
        refine SC.seq ?_
        refine SC.seq ?_
        refine SC.drawn [(0, true), (1, true), (2, true), (3, true), (4, true), (5, true), (6, true), (7, true), (8, true), (9, true), (10, true), (11, true), (12, true), (13, true), (14, true), (15, true), (16, true), (17, true), (18, true), (19, true), (20, true), (21, true)] [] (_) (by kernel_rfl) (by kernel_rfl) (fun _ h => h) ?_
        refine St.move rfl rfl ?_
        refine St.nilCheck rfl rfl ?_
        refine St.fieldAddr (off := 5) rfl rfl (by kernel_rfl) ?_
        refine St.load rfl rfl (by kernel_rfl) (by first | exact Holds.row mem0 rfl | exact Holds.row mem1 rfl | exact Holds.row mem2 rfl | exact Holds.row mem3 rfl | exact Holds.row mem4 rfl | exact Holds.row mem5 rfl | exact Holds.row mem6 rfl | exact Holds.row mem7 rfl | exact Holds.row mem8 rfl) ?_
        refine St.move rfl rfl ?_
        refine St.nilCheck rfl rfl ?_
        refine St.fieldAddr (off := 3) rfl rfl (by kernel_rfl) ?_
        refine St.load rfl rfl (by kernel_rfl) (by first | exact Holds.row mem0 rfl | exact Holds.row mem1 rfl | exact Holds.row mem2 rfl | exact Holds.row mem3 rfl | exact Holds.row mem4 rfl | exact Holds.row mem5 rfl | exact Holds.row mem6 rfl | exact Holds.row mem7 rfl | exact Holds.row mem8 rfl) ?_
        refine St.lenSl rfl rfl (by kernel_rfl) ?_
        refine St.lss rfl rfl rfl ?_
        refine St.move rfl rfl ?_
        refine St.split 73 rfl (fun g73 => ?_) (fun g73 => ?_)
        · refine St.guard_yes rfl rfl ?_
          refine St.move rfl rfl ?_
          refine St.guard_yes rfl rfl ?_
          refine St.nilCheck rfl rfl ?_
          refine St.guard_yes rfl rfl ?_
          refine St.fieldAddr (off := 5) rfl rfl (by kernel_rfl) ?_
          refine St.guard_yes rfl rfl ?_
          refine St.load rfl rfl (by kernel_rfl) (by first | exact Holds.row mem0 rfl | exact Holds.row mem1 rfl | exact Holds.row mem2 rfl | exact Holds.row mem3 rfl | exact Holds.row mem4 rfl | exact Holds.row mem5 rfl | exact Holds.row mem6 rfl | exact Holds.row mem7 rfl | exact Holds.row mem8 rfl) ?_
          refine St.guard_yes rfl rfl ?_
          refine St.move rfl rfl ?_
          refine St.guard_yes rfl rfl ?_
          refine St.nilCheck rfl rfl ?_
          refine St.guard_yes rfl rfl ?_
          refine St.fieldAddr (off := 4) rfl rfl (by kernel_rfl) ?_
          refine St.guard_yes rfl rfl ?_
          refine St.load rfl rfl (by kernel_rfl) (by first | exact Holds.row mem0 rfl | exact Holds.row mem1 rfl | exact Holds.row mem2 rfl | exact Holds.row mem3 rfl | exact Holds.row mem4 rfl | exact Holds.row mem5 rfl | exact Holds.row mem6 rfl | exact Holds.row mem7 rfl | exact Holds.row mem8 rfl) ?_
          refine St.guard_yes rfl rfl ?_
          first | refine St.addN (b := 4000) rfl rfl rfl (by omega) ?_ | refine St.addI rfl rfl rfl (by omega) ?_
          refine St.guard_yes rfl rfl ?_
          refine St.lss rfl rfl rfl ?_
          refine St.pick_true rfl rfl rfl ?_
          refine St.done ?_
          refine SX.tail ?_
          refine St.done ?_
          refine SX.seq ?_
          refine SC.condp rfl (fun c84 => ?_) (fun c84 => ?_)
          · have hlt : n < b.out.length ∧ n < b.una + 4000 := by omega
            obtain ⟨f, rfl⟩ : ∃ g, f = g + 1 := ⟨f - 1, by omega⟩
            have hpm := pieces_more b f n hlt
            refine SC.skip ?_
            refine SX.seq ?_
            refine SC.block ?_
            refine SC.seq ?_
            refine SC.drawn [(0, true), (1, true), (2, true), (3, true), (4, true), (5, true), (6, true), (7, true), (8, true), (9, true), (10, true), (11, true)] [] (_) (by kernel_rfl) (by kernel_rfl) (fun _ h => h) ?_
            refine St.move rfl rfl ?_
            refine St.nilCheck rfl rfl ?_
            refine St.fieldAddr (off := 3) rfl rfl (by kernel_rfl) ?_
            refine St.load rfl rfl (by kernel_rfl) (by first | exact Holds.row mem0 rfl | exact Holds.row mem1 rfl | exact Holds.row mem2 rfl | exact Holds.row mem3 rfl | exact Holds.row mem4 rfl | exact Holds.row mem5 rfl | exact Holds.row mem6 rfl | exact Holds.row mem7 rfl | exact Holds.row mem8 rfl) ?_
            refine St.lenSl rfl rfl (by kernel_rfl) ?_
            refine St.move rfl rfl ?_
            refine St.nilCheck rfl rfl ?_
            refine St.fieldAddr (off := 5) rfl rfl (by kernel_rfl) ?_
            refine St.load rfl rfl (by kernel_rfl) (by first | exact Holds.row mem0 rfl | exact Holds.row mem1 rfl | exact Holds.row mem2 rfl | exact Holds.row mem3 rfl | exact Holds.row mem4 rfl | exact Holds.row mem5 rfl | exact Holds.row mem6 rfl | exact Holds.row mem7 rfl | exact Holds.row mem8 rfl) ?_
            first | refine St.subN rfl rfl rfl (by omega) (by omega) ?_ | refine St.subI rfl rfl rfl (by omega) ?_
            refine St.min2 rfl rfl rfl ?_
            rw [show min (400 : Int) ((b.out.length - n : Nat) : Int) = ((min 400 (b.out.length - n) : Nat) : Int) by omega]
            refine St.assign rfl rfl ?_
            refine St.done ?_
            refine SX.tail ?_
            refine St.done ?_
            refine SX.seq ?_
            refine SC.seq ?_
            refine SC.drawn [(0, true), (1, true), (2, true), (3, true), (4, true), (5, true), (6, true), (7, true), (8, true), (9, true), (10, true), (11, true), (12, true), (13, true), (14, true), (15, true), (16, true), (17, true), (18, true), (19, true), (20, true), (21, true), (22, false), (23, false), (24, false), (25, true)] [] ([⟨p, rowOf b.id b.st b.asked (.slice Ao b.out.length co) b.una n at2 b.closed b.endSent b.endAcked (.slice Ai b.inn.length ci) b.read b.other false, 185⟩] :: Eo :: Ei :: L) (by kernel_rfl) (by kernel_rfl) (fun _ h => h.keep3) ?_
            refine St.move rfl rfl ?_
            refine St.move rfl rfl ?_
            refine St.move rfl rfl ?_
            refine St.nilCheck rfl rfl ?_
            refine St.fieldAddr (off := 5) rfl rfl (by kernel_rfl) ?_
            refine St.load rfl rfl (by kernel_rfl) (by first | exact Holds.row mem0 rfl | exact Holds.row mem1 rfl | exact Holds.row mem2 rfl | exact Holds.row mem3 rfl | exact Holds.row mem4 rfl | exact Holds.row mem5 rfl | exact Holds.row mem6 rfl | exact Holds.row mem7 rfl | exact Holds.row mem8 rfl) ?_
            refine St.move rfl rfl ?_
            refine St.nilCheck rfl rfl ?_
            refine St.fieldAddr (off := 3) rfl rfl (by kernel_rfl) ?_
            refine St.load rfl rfl (by kernel_rfl) (by first | exact Holds.row mem0 rfl | exact Holds.row mem1 rfl | exact Holds.row mem2 rfl | exact Holds.row mem3 rfl | exact Holds.row mem4 rfl | exact Holds.row mem5 rfl | exact Holds.row mem6 rfl | exact Holds.row mem7 rfl | exact Holds.row mem8 rfl) ?_
            refine St.move rfl rfl ?_
            refine St.nilCheck rfl rfl ?_
            refine St.fieldAddr (off := 5) rfl rfl (by kernel_rfl) ?_
            refine St.load rfl rfl (by kernel_rfl) (by first | exact Holds.row mem0 rfl | exact Holds.row mem1 rfl | exact Holds.row mem2 rfl | exact Holds.row mem3 rfl | exact Holds.row mem4 rfl | exact Holds.row mem5 rfl | exact Holds.row mem6 rfl | exact Holds.row mem7 rfl | exact Holds.row mem8 rfl) ?_
            refine St.move rfl rfl ?_
            refine St.nilCheck rfl rfl ?_
            refine St.fieldAddr (off := 5) rfl rfl (by kernel_rfl) ?_
            refine St.load rfl rfl (by kernel_rfl) (by first | exact Holds.row mem0 rfl | exact Holds.row mem1 rfl | exact Holds.row mem2 rfl | exact Holds.row mem3 rfl | exact Holds.row mem4 rfl | exact Holds.row mem5 rfl | exact Holds.row mem6 rfl | exact Holds.row mem7 rfl | exact Holds.row mem8 rfl) ?_
            refine St.move rfl rfl ?_
            first | refine St.addN rfl rfl rfl (by omega) ?_ | refine St.addI rfl rfl rfl (by omega) ?_
            refine St.cutB (e := 5) n (n + min 400 (b.out.length - n)) rfl rfl (by kernel_rfl) (hB2.out.rd (L := [⟨p, rowOf b.id b.st b.asked (.slice Ao b.out.length co) b.una n at2 b.closed b.endSent b.endAcked (.slice Ai b.inn.length ci) b.read b.other false, 185⟩] :: Eo :: Ei :: Eb :: (Es ++ L)) (by simp)) hB2.out.cap ⟨_, _, rfl, rfl⟩ ⟨_, _, rfl, rfl⟩ (by omega) (by omega) (fun v116 h116 hc116 => ?_)
            rw [Nat.add_sub_cancel_left] at h116
            have hpcl : ((b.out.drop n).take (min 400 (b.out.length - n))).length ≤ 400 := by rw [List.length_take]; omega
            have h116r := h116
            obtain ⟨_, _, _, A16, c16, rfl, _, _⟩ := h116r
            refine St.build [(0, .int .i64 3), (2, .int .i64 ((n : Nat) : Int)), (4, .slice A16 ((b.out.drop n).take (min 400 (b.out.length - n))).length c16)] (segCells ⟨3, 0, ((n : Nat) : Int), 0, (b.out.drop n).take (min 400 (b.out.length - n))⟩ (.slice A16 ((b.out.drop n).take (min 400 (b.out.length - n))).length c16)) rfl rfl (by kernel_rfl) ?_
            refine St.call [_, _] rfl (by kernel_rfl) rfl (say_spec w0 ([⟨p, rowOf b.id b.st b.asked (.slice Ao b.out.length co) b.una n at2 b.closed b.endSent b.endAcked (.slice Ai b.inn.length ci) b.read b.other false, 185⟩] :: Eo :: Ei :: Eb :: (Es ++ L)) p b.id ⟨3, 0, ((n : Nat) : Int), 0, ((b.out.drop n).take (min 400 (b.out.length - n)))⟩ (.slice A16 ((b.out.drop n).take (min 400 (b.out.length - n))).length c16) (fun w hw => Holds.row mem0 rfl w hw) hid ⟨h116, hc116, by show ((b.out.drop n).take (min 400 (b.out.length - n))).length ≤ _; omega, fun x hx => hok.outB x (List.mem_of_mem_drop (List.mem_of_mem_take hx))⟩) (fun _ _ _ h hw => by obtain ⟨E1, e, _⟩ := h; rw [e] at hw; exact hw.drop.keep3) ?_
            rintro rd L1 ⟨Ew, rfl, hw⟩
            have hwr := hw.read
            obtain ⟨_, _, Aw, cw, rfl, _, _⟩ := hwr
            have hw : Buf 5 1 (.slice Aw (b.say 3 ((n : Nat) : Int) 0 ((b.out.drop n).take (min 400 (b.out.length - n)))).length cw) (bytes (b.say 3 ((n : Nat) : Int) 0 ((b.out.drop n).take (min 400 (b.out.length - n))))) (b.say 3 ((n : Nat) : Int) 0 ((b.out.drop n).take (min 400 (b.out.length - n)))).length Ew := hw
            refine St.buildSl (n := 1) (e := 35) [(0, .slice Aw (b.say 3 ((n : Nat) : Int) 0 ((b.out.drop n).take (min 400 (b.out.length - n)))).length cw)] [.slice Aw (b.say 3 ((n : Nat) : Int) 0 ((b.out.drop n).take (min 400 (b.out.length - n)))).length cw] rfl rfl (by kernel_rfl) (fun _ _ h => h.drop.drop.keep3) (fun bl => ?_)
            refine St.append5 (e := 35) (sz := 1) (bytes := 24) (xs := vs) (n := (acksOf b ++ dn).length) (news := [.slice Aw (b.say 3 ((n : Nat) : Int) 0 ((b.out.drop n).take (min 400 (b.out.length - n)))).length cw]) (m := 1) rfl rfl rfl (by kernel_rfl) hb5 (Rd.row rfl mem0) (by simp [one]) (by simp only [List.length_append, List.length_nil]; omega) (by simp only [List.length_append, List.length_nil]; omega) (fun _ _ h => h.drop.drop.keep3) (fun v6 Eb6 hb6 _ => ?_)
            have hb6r := hb6.read
            obtain ⟨_, _, A6, c6, rfl, _, _⟩ := hb6r
            have ho6 := (hos).snoc hw
            refine St.drop ?_
            refine St.perm ([⟨p, rowOf b.id b.st b.asked (.slice Ao b.out.length co) b.una n at2 b.closed b.endSent b.endAcked (.slice Ai b.inn.length ci) b.read b.other false, 185⟩] :: Eo :: Ei :: Eb6 :: ((Es ++ [Ew]) ++ L)) (perm_in _ _ _ _ _ _ _) ?_
            refine St.assign rfl rfl ?_
            refine St.done ?_
            refine SX.tail ?_
            refine St.done ?_
            refine SX.seq ?_
            refine SC.seq ?_
            refine SC.plain ?_
            refine St.move rfl rfl ?_
            refine St.nilCheck rfl rfl ?_
            refine St.fieldAddr (off := 5) rfl rfl (by kernel_rfl) ?_
            refine St.load rfl rfl (by kernel_rfl) (by first | exact Holds.row mem0 rfl | exact Holds.row mem1 rfl | exact Holds.row mem2 rfl | exact Holds.row mem3 rfl | exact Holds.row mem4 rfl | exact Holds.row mem5 rfl | exact Holds.row mem6 rfl | exact Holds.row mem7 rfl | exact Holds.row mem8 rfl) ?_
            refine St.move rfl rfl ?_
            first | refine St.addN rfl rfl rfl (by omega) ?_ | refine St.addI rfl rfl rfl (by omega) ?_
            refine St.nilCheck rfl rfl ?_
            refine St.fieldAddr (off := 5) rfl rfl (by kernel_rfl) ?_
            first | refine St.store rfl rfl rfl rfl (by kernel_rfl) (Nat.le_of_ble_eq_true rfl) (by first | exact fun _ h => h.nil | exact fun _ h => h | exact fun _ h => h.drop | exact fun _ h => h.drop.drop | exact fun _ h => h.drop.drop.drop) ?_ | refine St.store1 rfl rfl rfl rfl (by kernel_rfl) (Nat.le_of_ble_eq_true rfl) (by first | exact fun _ h => h.nil | exact fun _ h => h | exact fun _ h => h.drop | exact fun _ h => h.drop.drop | exact fun _ h => h.drop.drop.drop) ?_ | refine St.store2 rfl rfl rfl rfl (by kernel_rfl) (Nat.le_of_ble_eq_true rfl) (by first | exact fun _ h => h.nil | exact fun _ h => h | exact fun _ h => h.drop | exact fun _ h => h.drop.drop | exact fun _ h => h.drop.drop.drop) ?_ | refine St.store3 rfl rfl rfl rfl (by kernel_rfl) (Nat.le_of_ble_eq_true rfl) (by first | exact fun _ h => h.nil | exact fun _ h => h | exact fun _ h => h.drop | exact fun _ h => h.drop.drop | exact fun _ h => h.drop.drop.drop) ?_ | refine St.store4 rfl rfl rfl rfl (by kernel_rfl) (Nat.le_of_ble_eq_true rfl) (by first | exact fun _ h => h.nil | exact fun _ h => h | exact fun _ h => h.drop | exact fun _ h => h.drop.drop | exact fun _ h => h.drop.drop.drop) ?_ | refine St.store5 rfl rfl rfl rfl (by kernel_rfl) (Nat.le_of_ble_eq_true rfl) (by first | exact fun _ h => h.nil | exact fun _ h => h | exact fun _ h => h.drop | exact fun _ h => h.drop.drop | exact fun _ h => h.drop.drop.drop) ?_
            refine St.done ?_
            refine SX.seq ?_
            refine SC.plain ?_
            refine St.assign rfl rfl ?_
            refine St.done ?_
            refine SX.blk ?_
            refine SX.again (f, n + min 400 (b.out.length - n), dn ++ [b.say 3 n 0 ((b.out.drop n).take (min 400 (b.out.length - n)))], _, _, Eb6, _) ⟨by simp only; omega, by simp only; omega, by simp only; omega, by simp only [List.length_append, List.length_singleton]; omega, (by simp only; rw [hpc, hpm]; simp), (by simp only; rw [← List.append_assoc, show (acksOf b ++ dn ++ [(b.say 3 n 0 ((b.out.drop n).take (min 400 (b.out.length - n))))]).length = (acksOf b ++ dn).length + 1 from List.length_append]; exact hb6), (by simp only; rw [← List.append_assoc]; exact ho6)⟩ (by simp only; omega) ⟨rfl, rfl, rfl, rfl, (by rw [app_ne]; rfl), trivial⟩ (List.Perm.refl _)
          · refine SC.exit ?_
            refine SX.seq_exit ?_
            refine SX.seq_exit ?_
            refine SX.hit ?_
            have hpe := pieces_end b f n (by omega)
            rw [hpe] at hpc
            simp only [List.append_nil] at hpc
            refine SX.some (v5, vs, Eb, Es) ⟨(by simp only; rw [hpc]; exact hb5), (by simp only; rw [hpc]; exact hos)⟩ ⟨rfl, rfl, rfl, rfl, (by simp only; rw [hpc]; first | done | rfl), trivial⟩ (by simp only; rw [hpc]; first | done | exact List.Perm.refl _)
        · refine St.guard_no rfl rfl rfl ?_
          refine St.guard_no rfl rfl rfl ?_
          refine St.guard_no rfl rfl rfl ?_
          refine St.guard_no rfl rfl rfl ?_
          refine St.guard_no rfl rfl rfl ?_
          refine St.guard_no rfl rfl rfl ?_
          refine St.guard_no rfl rfl rfl ?_
          refine St.guard_no rfl rfl rfl ?_
          refine St.guard_no rfl rfl rfl ?_
          refine St.guard_no rfl rfl rfl ?_
          refine St.pick_false rfl rfl rfl ?_
          refine St.done ?_
          refine SX.tail ?_
          refine St.done ?_
          refine SX.seq ?_
          refine SC.cond_false rfl ?_
          refine SC.exit ?_
          refine SX.seq_exit ?_
          refine SX.seq_exit ?_
          refine SX.hit ?_
          have hpe := pieces_end b f n (by omega)
          rw [hpe] at hpc
          simp only [List.append_nil] at hpc
          refine SX.some (v5, vs, Eb, Es) ⟨(by simp only; rw [hpc]; exact hb5), (by simp only; rw [hpc]; exact hos)⟩ ⟨rfl, rfl, rfl, rfl, (by simp only; rw [hpc]; first | done | rfl), trivial⟩ (by simp only; rw [hpc]; first | done | exact List.Perm.refl _)
    · refine SC.seq ?_
      refine SC.plain ?_
      refine St.move rfl rfl ?_
      refine St.nilCheck rfl rfl ?_
      refine St.fieldAddr (off := 13) rfl rfl (by kernel_rfl) ?_
      refine St.load rfl rfl (by kernel_rfl) (by first | exact Holds.row mem0 rfl | exact Holds.row mem1 rfl | exact Holds.row mem2 rfl | exact Holds.row mem3 rfl | exact Holds.row mem4 rfl | exact Holds.row mem5 rfl | exact Holds.row mem6 rfl | exact Holds.row mem7 rfl | exact Holds.row mem8 rfl) ?_
      refine St.done ?_
      refine SX.seq ?_
      refine SC.cond rfl (fun c38 => ?_) (fun c38 => ?_)
      · refine SC.seq ?_
        refine SC.plain ?_
        refine St.move rfl rfl ?_
        refine St.nilCheck rfl rfl ?_
        refine St.fieldAddr (off := 10) rfl rfl (by kernel_rfl) ?_
        refine St.load rfl rfl (by kernel_rfl) (by first | exact Holds.row mem0 rfl | exact Holds.row mem1 rfl | exact Holds.row mem2 rfl | exact Holds.row mem3 rfl | exact Holds.row mem4 rfl | exact Holds.row mem5 rfl | exact Holds.row mem6 rfl | exact Holds.row mem7 rfl | exact Holds.row mem8 rfl) ?_
        refine St.lenSl rfl rfl (by kernel_rfl) ?_
        refine St.assign rfl rfl ?_
        refine St.done ?_
        refine SX.seq ?_
        refine SC.seq ?_
        refine SC.seq ?_
        refine SC.plain ?_
        refine St.move rfl rfl ?_
        refine St.nilCheck rfl rfl ?_
        refine St.fieldAddr (off := 12) rfl rfl (by kernel_rfl) ?_
        refine St.load rfl rfl (by kernel_rfl) (by first | exact Holds.row mem0 rfl | exact Holds.row mem1 rfl | exact Holds.row mem2 rfl | exact Holds.row mem3 rfl | exact Holds.row mem4 rfl | exact Holds.row mem5 rfl | exact Holds.row mem6 rfl | exact Holds.row mem7 rfl | exact Holds.row mem8 rfl) ?_
        refine St.done ?_
        refine SX.seq ?_
        refine SC.cond rfl (fun c47 => ?_) (fun c47 => ?_)
        · refine SC.plain ?_
          refine St.move rfl rfl ?_
          first | refine St.addN (b := 1) rfl rfl rfl (by omega) ?_ | refine St.addI rfl rfl rfl (by omega) ?_
          refine St.assign rfl rfl ?_
          refine St.done ?_
          refine SX.seq ?_
          refine SC.seq ?_
          refine SC.plain ?_
          refine St.move rfl rfl ?_
          refine St.nilCheck rfl rfl ?_
          refine St.fieldAddr (off := 13) rfl rfl (by kernel_rfl) ?_
          first | refine St.store rfl rfl rfl rfl (by kernel_rfl) (Nat.le_of_ble_eq_true rfl) (by first | exact fun _ h => h.nil | exact fun _ h => h | exact fun _ h => h.drop | exact fun _ h => h.drop.drop | exact fun _ h => h.drop.drop.drop) ?_ | refine St.store1 rfl rfl rfl rfl (by kernel_rfl) (Nat.le_of_ble_eq_true rfl) (by first | exact fun _ h => h.nil | exact fun _ h => h | exact fun _ h => h.drop | exact fun _ h => h.drop.drop | exact fun _ h => h.drop.drop.drop) ?_ | refine St.store2 rfl rfl rfl rfl (by kernel_rfl) (Nat.le_of_ble_eq_true rfl) (by first | exact fun _ h => h.nil | exact fun _ h => h | exact fun _ h => h.drop | exact fun _ h => h.drop.drop | exact fun _ h => h.drop.drop.drop) ?_ | refine St.store3 rfl rfl rfl rfl (by kernel_rfl) (Nat.le_of_ble_eq_true rfl) (by first | exact fun _ h => h.nil | exact fun _ h => h | exact fun _ h => h.drop | exact fun _ h => h.drop.drop | exact fun _ h => h.drop.drop.drop) ?_ | refine St.store4 rfl rfl rfl rfl (by kernel_rfl) (Nat.le_of_ble_eq_true rfl) (by first | exact fun _ h => h.nil | exact fun _ h => h | exact fun _ h => h.drop | exact fun _ h => h.drop.drop | exact fun _ h => h.drop.drop.drop) ?_ | refine St.store5 rfl rfl rfl rfl (by kernel_rfl) (Nat.le_of_ble_eq_true rfl) (by first | exact fun _ h => h.nil | exact fun _ h => h | exact fun _ h => h.drop | exact fun _ h => h.drop.drop | exact fun _ h => h.drop.drop.drop) ?_
          refine St.done ?_
          refine SX.seq ?_
          refine SC.perm ([⟨p, rowOf b.id b.st b.asked (.slice Ao b.out.length co) b.una b.next at2 b.closed b.endSent b.endAcked (.slice Ai b.inn.length ci) b.read b.other false, 185⟩] :: Eo :: Ei :: [] :: ([] ++ L)) (List.Perm.refl _) ?_
          have hb0 : Buf 35 1 (.slice none 0 0) [] ([] : List (List Nat)).length [] := Buf.nil 35 1
          have ho0 := Outs.nil
          refine SC.plain ?_
          refine St.move rfl rfl ?_
          refine St.move rfl rfl ?_
          refine St.move rfl rfl ?_
          refine St.build [(0, .int .i64 2), (3, .int .i64 ((b.inn.length + 1 : Nat) : Int))] (segCells ⟨2, 0, 0, ((b.inn.length + 1 : Nat) : Int), []⟩ (.slice none 0 0)) rfl rfl (by kernel_rfl) ?_
          refine St.call [_, _] rfl (by kernel_rfl) rfl (say_spec w0 ([⟨p, rowOf b.id b.st b.asked (.slice Ao b.out.length co) b.una b.next at2 b.closed b.endSent b.endAcked (.slice Ai b.inn.length ci) b.read b.other false, 185⟩] :: Eo :: Ei :: [] :: ([] ++ L)) p b.id ⟨2, 0, 0, ((b.inn.length + 1 : Nat) : Int), []⟩ (.slice none 0 0) (fun w hw => Holds.row mem0 rfl w hw) hid (SegIn.none _ _ _ _)) (fun _ _ _ _ h => h.nil) ?_
          rintro ra L1 ⟨Ew, rfl, hw⟩
          have hwr := hw.read
          obtain ⟨_, _, Aw, cw, rfl, _, _⟩ := hwr
          have hw : Buf 5 1 (.slice Aw (b.say 2 0 ((b.inn.length + 1 : Nat) : Int) []).length cw) (bytes (b.say 2 0 ((b.inn.length + 1 : Nat) : Int) [])) (b.say 2 0 ((b.inn.length + 1 : Nat) : Int) []).length Ew := hw
          refine St.buildSl (n := 1) (e := 35) [(0, .slice Aw (b.say 2 0 ((b.inn.length + 1 : Nat) : Int) []).length cw)] [.slice Aw (b.say 2 0 ((b.inn.length + 1 : Nat) : Int) []).length cw] rfl rfl (by kernel_rfl) (fun _ _ h => h.nil) (fun bl => ?_)
          refine St.append5 (e := 35) (sz := 1) (bytes := 24) (xs := []) (n := (([] : List (List Nat))).length) (news := [.slice Aw (b.say 2 0 ((b.inn.length + 1 : Nat) : Int) []).length cw]) (m := 1) rfl rfl rfl (by kernel_rfl) hb0 (Rd.row rfl mem0) (by simp [one]) (by simp only [List.length_append, List.length_nil]; omega) (by simp only [List.length_append, List.length_nil]; omega) (fun _ _ h => h.nil) (fun v6 Eb6 hb6 _ => ?_)
          have hb6r := hb6.read
          obtain ⟨_, _, A6, c6, rfl, _, _⟩ := hb6r
          have ho6 := (ho0).snoc hw
          refine St.drop ?_
          refine St.perm ([⟨p, rowOf b.id b.st b.asked (.slice Ao b.out.length co) b.una b.next at2 b.closed b.endSent b.endAcked (.slice Ai b.inn.length ci) b.read b.other false, 185⟩] :: Eo :: Ei :: Eb6 :: (([] ++ [Ew]) ++ L)) (perm_in _ _ _ _ _ _ _) ?_
          refine St.assign rfl rfl ?_
          refine St.done ?_
          have hao : acksOf b = [b.say 2 0 (b.inn.length + 1 : Nat) []] := by unfold acksOf; rw [if_pos c38, if_pos c47]
          refine SX.some (_, _, Eb6, _) ⟨(by simp only; rw [hao]; exact hb6), (by simp only; rw [hao]; exact ho6)⟩ ⟨rfl, rfl, rfl, trivial⟩ (List.Perm.refl _)
        · refine SC.skip ?_
          refine SX.seq ?_
          refine SC.seq ?_
          refine SC.plain ?_
          refine St.move rfl rfl ?_
          refine St.nilCheck rfl rfl ?_
          refine St.fieldAddr (off := 13) rfl rfl (by kernel_rfl) ?_
          first | refine St.store rfl rfl rfl rfl (by kernel_rfl) (Nat.le_of_ble_eq_true rfl) (by first | exact fun _ h => h.nil | exact fun _ h => h | exact fun _ h => h.drop | exact fun _ h => h.drop.drop | exact fun _ h => h.drop.drop.drop) ?_ | refine St.store1 rfl rfl rfl rfl (by kernel_rfl) (Nat.le_of_ble_eq_true rfl) (by first | exact fun _ h => h.nil | exact fun _ h => h | exact fun _ h => h.drop | exact fun _ h => h.drop.drop | exact fun _ h => h.drop.drop.drop) ?_ | refine St.store2 rfl rfl rfl rfl (by kernel_rfl) (Nat.le_of_ble_eq_true rfl) (by first | exact fun _ h => h.nil | exact fun _ h => h | exact fun _ h => h.drop | exact fun _ h => h.drop.drop | exact fun _ h => h.drop.drop.drop) ?_ | refine St.store3 rfl rfl rfl rfl (by kernel_rfl) (Nat.le_of_ble_eq_true rfl) (by first | exact fun _ h => h.nil | exact fun _ h => h | exact fun _ h => h.drop | exact fun _ h => h.drop.drop | exact fun _ h => h.drop.drop.drop) ?_ | refine St.store4 rfl rfl rfl rfl (by kernel_rfl) (Nat.le_of_ble_eq_true rfl) (by first | exact fun _ h => h.nil | exact fun _ h => h | exact fun _ h => h.drop | exact fun _ h => h.drop.drop | exact fun _ h => h.drop.drop.drop) ?_ | refine St.store5 rfl rfl rfl rfl (by kernel_rfl) (Nat.le_of_ble_eq_true rfl) (by first | exact fun _ h => h.nil | exact fun _ h => h | exact fun _ h => h.drop | exact fun _ h => h.drop.drop | exact fun _ h => h.drop.drop.drop) ?_
          refine St.done ?_
          refine SX.seq ?_
          refine SC.perm ([⟨p, rowOf b.id b.st b.asked (.slice Ao b.out.length co) b.una b.next at2 b.closed b.endSent b.endAcked (.slice Ai b.inn.length ci) b.read b.other false, 185⟩] :: Eo :: Ei :: [] :: ([] ++ L)) (List.Perm.refl _) ?_
          have hb0 : Buf 35 1 (.slice none 0 0) [] ([] : List (List Nat)).length [] := Buf.nil 35 1
          have ho0 := Outs.nil
          refine SC.plain ?_
          refine St.move rfl rfl ?_
          refine St.move rfl rfl ?_
          refine St.move rfl rfl ?_
          refine St.build [(0, .int .i64 2), (3, .int .i64 ((b.inn.length : Nat) : Int))] (segCells ⟨2, 0, 0, ((b.inn.length : Nat) : Int), []⟩ (.slice none 0 0)) rfl rfl (by kernel_rfl) ?_
          refine St.call [_, _] rfl (by kernel_rfl) rfl (say_spec w0 ([⟨p, rowOf b.id b.st b.asked (.slice Ao b.out.length co) b.una b.next at2 b.closed b.endSent b.endAcked (.slice Ai b.inn.length ci) b.read b.other false, 185⟩] :: Eo :: Ei :: [] :: ([] ++ L)) p b.id ⟨2, 0, 0, ((b.inn.length : Nat) : Int), []⟩ (.slice none 0 0) (fun w hw => Holds.row mem0 rfl w hw) hid (SegIn.none _ _ _ _)) (fun _ _ _ _ h => h.nil) ?_
          rintro ra L1 ⟨Ew, rfl, hw⟩
          have hwr := hw.read
          obtain ⟨_, _, Aw, cw, rfl, _, _⟩ := hwr
          have hw : Buf 5 1 (.slice Aw (b.say 2 0 ((b.inn.length : Nat) : Int) []).length cw) (bytes (b.say 2 0 ((b.inn.length : Nat) : Int) [])) (b.say 2 0 ((b.inn.length : Nat) : Int) []).length Ew := hw
          refine St.buildSl (n := 1) (e := 35) [(0, .slice Aw (b.say 2 0 ((b.inn.length : Nat) : Int) []).length cw)] [.slice Aw (b.say 2 0 ((b.inn.length : Nat) : Int) []).length cw] rfl rfl (by kernel_rfl) (fun _ _ h => h.nil) (fun bl => ?_)
          refine St.append5 (e := 35) (sz := 1) (bytes := 24) (xs := []) (n := (([] : List (List Nat))).length) (news := [.slice Aw (b.say 2 0 ((b.inn.length : Nat) : Int) []).length cw]) (m := 1) rfl rfl rfl (by kernel_rfl) hb0 (Rd.row rfl mem0) (by simp [one]) (by simp only [List.length_append, List.length_nil]; omega) (by simp only [List.length_append, List.length_nil]; omega) (fun _ _ h => h.nil) (fun v6 Eb6 hb6 _ => ?_)
          have hb6r := hb6.read
          obtain ⟨_, _, A6, c6, rfl, _, _⟩ := hb6r
          have ho6 := (ho0).snoc hw
          refine St.drop ?_
          refine St.perm ([⟨p, rowOf b.id b.st b.asked (.slice Ao b.out.length co) b.una b.next at2 b.closed b.endSent b.endAcked (.slice Ai b.inn.length ci) b.read b.other false, 185⟩] :: Eo :: Ei :: Eb6 :: (([] ++ [Ew]) ++ L)) (perm_in _ _ _ _ _ _ _) ?_
          refine St.assign rfl rfl ?_
          refine St.done ?_
          have hao : acksOf b = [b.say 2 0 (b.inn.length : Nat) []] := by unfold acksOf; rw [if_pos c38, if_neg (by rw [c47]; simp)]; rfl
          refine SX.some (_, _, Eb6, _) ⟨(by simp only; rw [hao]; exact hb6), (by simp only; rw [hao]; exact ho6)⟩ ⟨rfl, rfl, rfl, trivial⟩ (List.Perm.refl _)
      · refine SC.skip ?_
        have hao : acksOf b = [] := by unfold acksOf; rw [if_neg (by rw [c38]; simp)]
        refine SX.some (.slice none 0 0, [], [], []) ⟨(by simp only; rw [hao]; exact Buf.nil 35 1), (by simp only; rw [hao]; exact Outs.nil)⟩ ⟨rfl, rfl, rfl, trivial⟩ ?_
        simp only
        rw [show enRow b (.slice Ao b.out.length co) (.slice Ai b.inn.length ci) at2 = rowOf b.id b.st b.asked (.slice Ao b.out.length co) b.una b.next at2 b.closed b.endSent b.endAcked (.slice Ai b.inn.length ci) b.read b.other b.owes from rfl, c38]
        first | done | exact List.Perm.refl _
  · refine SC.seq ?_
    refine SC.plain ?_
    refine St.move rfl rfl ?_
    refine St.call [_] rfl (by kernel_rfl) rfl (waits_spec w0 L p e _ _ at_ Eo Ei hB) (fun _ _ _ _ h => h.nil) ?_
    rintro r1 L1 ⟨rfl, rfl⟩
    refine St.move rfl rfl ?_
    refine St.splitB 12 rfl (fun g12 => ?_) (fun g12 => ?_)
    · have hna := waits_acked hok0 g12
      have hat : at_ = e.at_ := hB.tm.elim id (fun h => by rw [hna] at h; cases h.1)
      refine St.guard_yes rfl rfl ?_
      refine St.move rfl rfl ?_
      refine St.guard_yes rfl rfl ?_
      refine St.move rfl rfl ?_
      refine St.guard_yes rfl rfl ?_
      refine St.call [_, _] rfl (by kernel_rfl) rfl (due_spec w0 L p e _ _ at_ Eo Ei hB now hn) (fun _ _ _ _ h => h.nil) ?_
      rintro r1 L1 ⟨rfl, rfl⟩
      unfold EnL
      refine St.pick_true rfl rfl rfl ?_
      refine St.done ?_
      refine SX.seq ?_
      refine SC.cond rfl (fun c16 => ?_) (fun c16 => ?_)
      · refine SC.seq ?_
        refine SC.plain ?_
        refine St.move rfl rfl ?_
        refine St.move rfl rfl ?_
        refine St.move rfl rfl ?_
        refine St.nilCheck rfl rfl ?_
        refine St.fieldAddr (off := 4) rfl rfl (by kernel_rfl) ?_
        refine St.load rfl rfl (by kernel_rfl) (by first | exact Holds.row mem0 rfl | exact Holds.row mem1 rfl | exact Holds.row mem2 rfl | exact Holds.row mem3 rfl | exact Holds.row mem4 rfl | exact Holds.row mem5 rfl | exact Holds.row mem6 rfl | exact Holds.row mem7 rfl | exact Holds.row mem8 rfl) ?_
        refine St.move rfl rfl ?_
        refine St.nilCheck rfl rfl ?_
        refine St.fieldAddr (off := 5) rfl rfl (by kernel_rfl) ?_
        first | refine St.store rfl rfl rfl rfl (by kernel_rfl) (Nat.le_of_ble_eq_true rfl) (by first | exact fun _ h => h.nil | exact fun _ h => h | exact fun _ h => h.drop | exact fun _ h => h.drop.drop | exact fun _ h => h.drop.drop.drop) ?_ | refine St.store1 rfl rfl rfl rfl (by kernel_rfl) (Nat.le_of_ble_eq_true rfl) (by first | exact fun _ h => h.nil | exact fun _ h => h | exact fun _ h => h.drop | exact fun _ h => h.drop.drop | exact fun _ h => h.drop.drop.drop) ?_ | refine St.store2 rfl rfl rfl rfl (by kernel_rfl) (Nat.le_of_ble_eq_true rfl) (by first | exact fun _ h => h.nil | exact fun _ h => h | exact fun _ h => h.drop | exact fun _ h => h.drop.drop | exact fun _ h => h.drop.drop.drop) ?_ | refine St.store3 rfl rfl rfl rfl (by kernel_rfl) (Nat.le_of_ble_eq_true rfl) (by first | exact fun _ h => h.nil | exact fun _ h => h | exact fun _ h => h.drop | exact fun _ h => h.drop.drop | exact fun _ h => h.drop.drop.drop) ?_ | refine St.store4 rfl rfl rfl rfl (by kernel_rfl) (Nat.le_of_ble_eq_true rfl) (by first | exact fun _ h => h.nil | exact fun _ h => h | exact fun _ h => h.drop | exact fun _ h => h.drop.drop | exact fun _ h => h.drop.drop.drop) ?_ | refine St.store5 rfl rfl rfl rfl (by kernel_rfl) (Nat.le_of_ble_eq_true rfl) (by first | exact fun _ h => h.nil | exact fun _ h => h | exact fun _ h => h.drop | exact fun _ h => h.drop.drop | exact fun _ h => h.drop.drop.drop) ?_
        refine St.nilCheck rfl rfl ?_
        refine St.fieldAddr (off := 6) rfl rfl (by kernel_rfl) ?_
        first | refine St.store rfl rfl rfl rfl (by kernel_rfl) (Nat.le_of_ble_eq_true rfl) (by first | exact fun _ h => h.nil | exact fun _ h => h | exact fun _ h => h.drop | exact fun _ h => h.drop.drop | exact fun _ h => h.drop.drop.drop) ?_ | refine St.store1 rfl rfl rfl rfl (by kernel_rfl) (Nat.le_of_ble_eq_true rfl) (by first | exact fun _ h => h.nil | exact fun _ h => h | exact fun _ h => h.drop | exact fun _ h => h.drop.drop | exact fun _ h => h.drop.drop.drop) ?_ | refine St.store2 rfl rfl rfl rfl (by kernel_rfl) (Nat.le_of_ble_eq_true rfl) (by first | exact fun _ h => h.nil | exact fun _ h => h | exact fun _ h => h.drop | exact fun _ h => h.drop.drop | exact fun _ h => h.drop.drop.drop) ?_ | refine St.store3 rfl rfl rfl rfl (by kernel_rfl) (Nat.le_of_ble_eq_true rfl) (by first | exact fun _ h => h.nil | exact fun _ h => h | exact fun _ h => h.drop | exact fun _ h => h.drop.drop | exact fun _ h => h.drop.drop.drop) ?_ | refine St.store4 rfl rfl rfl rfl (by kernel_rfl) (Nat.le_of_ble_eq_true rfl) (by first | exact fun _ h => h.nil | exact fun _ h => h | exact fun _ h => h.drop | exact fun _ h => h.drop.drop | exact fun _ h => h.drop.drop.drop) ?_ | refine St.store5 rfl rfl rfl rfl (by kernel_rfl) (Nat.le_of_ble_eq_true rfl) (by first | exact fun _ h => h.nil | exact fun _ h => h | exact fun _ h => h.drop | exact fun _ h => h.drop.drop | exact fun _ h => h.drop.drop.drop) ?_
        refine St.done ?_
        refine SX.seq ?_
        refine SC.plain ?_
        refine St.move rfl rfl ?_
        refine St.move rfl rfl ?_
        refine St.nilCheck rfl rfl ?_
        refine St.fieldAddr (off := 9) rfl rfl (by kernel_rfl) ?_
        refine St.load rfl rfl (by kernel_rfl) (by first | exact Holds.row mem0 rfl | exact Holds.row mem1 rfl | exact Holds.row mem2 rfl | exact Holds.row mem3 rfl | exact Holds.row mem4 rfl | exact Holds.row mem5 rfl | exact Holds.row mem6 rfl | exact Holds.row mem7 rfl | exact Holds.row mem8 rfl) ?_
        refine St.nilCheck rfl rfl ?_
        refine St.fieldAddr (off := 8) rfl rfl (by kernel_rfl) ?_
        first | refine St.store rfl rfl rfl rfl (by kernel_rfl) (Nat.le_of_ble_eq_true rfl) (by first | exact fun _ h => h.nil | exact fun _ h => h | exact fun _ h => h.drop | exact fun _ h => h.drop.drop | exact fun _ h => h.drop.drop.drop) ?_ | refine St.store1 rfl rfl rfl rfl (by kernel_rfl) (Nat.le_of_ble_eq_true rfl) (by first | exact fun _ h => h.nil | exact fun _ h => h | exact fun _ h => h.drop | exact fun _ h => h.drop.drop | exact fun _ h => h.drop.drop.drop) ?_ | refine St.store2 rfl rfl rfl rfl (by kernel_rfl) (Nat.le_of_ble_eq_true rfl) (by first | exact fun _ h => h.nil | exact fun _ h => h | exact fun _ h => h.drop | exact fun _ h => h.drop.drop | exact fun _ h => h.drop.drop.drop) ?_ | refine St.store3 rfl rfl rfl rfl (by kernel_rfl) (Nat.le_of_ble_eq_true rfl) (by first | exact fun _ h => h.nil | exact fun _ h => h | exact fun _ h => h.drop | exact fun _ h => h.drop.drop | exact fun _ h => h.drop.drop.drop) ?_ | refine St.store4 rfl rfl rfl rfl (by kernel_rfl) (Nat.le_of_ble_eq_true rfl) (by first | exact fun _ h => h.nil | exact fun _ h => h | exact fun _ h => h.drop | exact fun _ h => h.drop.drop | exact fun _ h => h.drop.drop.drop) ?_ | refine St.store5 rfl rfl rfl rfl (by kernel_rfl) (Nat.le_of_ble_eq_true rfl) (by first | exact fun _ h => h.nil | exact fun _ h => h | exact fun _ h => h.drop | exact fun _ h => h.drop.drop | exact fun _ h => h.drop.drop.drop) ?_
        refine St.done ?_
        have hbk : e.back now = { e with next := e.una, at_ := now, endSent := e.endAcked } := back_pos (by rw [g12, Bool.true_and, due_eq, ← hat]; exact c16)
        exact SX.some (now, _, _) (by rw [hbk]; exact ⟨hB.out, hB.inn, .inl rfl, hn, hbk ▸ back_ok hok0 hn⟩) ⟨rfl, rfl, rfl, trivial⟩ (by show List.Perm _ (EnL p (e.back now) _ _ _ Eo Ei L).flatten; rw [hbk]; first | done | exact List.Perm.refl _)
      · refine SC.skip ?_
        have hbk : e.back now = e := back_neg (by rw [g12, Bool.true_and, due_eq, ← hat]; exact c16)
        exact SX.some (at_, _, _) (by rw [hbk]; exact hB) ⟨rfl, rfl, rfl, trivial⟩ (by show List.Perm _ (EnL p (e.back now) _ _ _ Eo Ei L).flatten; rw [hbk]; first | done | exact List.Perm.refl _)
    · have hbk : e.back now = e := back_neg (by rw [g12, Bool.false_and])
      refine St.guard_no rfl rfl rfl ?_
      refine St.guard_no rfl rfl rfl ?_
      refine St.guard_no rfl rfl rfl ?_
      refine St.pick_false rfl rfl rfl ?_
      refine St.done ?_
      refine SX.seq ?_
      refine SC.cond_false rfl ?_
      refine SC.skip ?_
      exact SX.some (at_, _, _) (by rw [hbk]; exact hB) ⟨rfl, rfl, rfl, trivial⟩ (by show List.Perm _ (EnL p (e.back now) _ _ _ Eo Ei L).flatten; rw [hbk]; first | done | exact List.Perm.refl _)
theorem out18_spec (w0 : World) (L : List Chunk) (p : Nat) (e : En) (ov iv : Value) (at_ : Int) (Eo Ei : Chunk) (hB : EnB e ov iv at_ Eo Ei) (now : Int) (hn : Clock now) :
    Meets Try.prog 67 #[.pointer (some ⟨p, 0, none⟩), .int .i64 now] w0 (EnL p e ov iv at_ Eo Ei L) (fun r L' => ∃ vs Eb Es ov2 iv2 at2 Eo2 Ei2, Buf 35 1 r vs (e.outp now).2.length Eb ∧ Outs vs (e.outp now).2 Es ∧ EnB (e.outp now).1 ov2 iv2 at2 Eo2 Ei2 ∧ L' = EnL p (e.outp now).1 ov2 iv2 at2 Eo2 Ei2 (Eb :: (Es ++ L))) := by
  obtain ⟨⟨Ao, co, rfl⟩, ⟨Ai, ci, rfl⟩⟩ := hB.slices
  have hok := hB.ok
  have hid := hok.id
  have hoo := outp_ok hok hn
  unfold EnL
  refine Meets.of_body [.pointer (some ⟨p, 0, none⟩), .int .i64 now] Try.func67 rfl Try.ntmps67 rfl ?_
  refine SC.seq ?_
  refine SC.plain ?_
  refine St.assign rfl rfl ?_
  refine St.done ?_
  refine SX.seq ?_
  refine SC.seq ?_
  refine SC.plain ?_
  refine St.assign rfl rfl ?_
  refine St.done ?_
  refine SX.seq ?_
  refine SC.join (α := Value × List Value × Chunk × List Chunk × Value × Value × Int × Chunk × Chunk) (fun s => Buf 35 1 s.1 s.2.1 (e.outp now).2.length s.2.2.1 ∧ Outs s.2.1 (e.outp now).2 s.2.2.2.1 ∧ EnB (e.outp now).1 s.2.2.2.2.1 s.2.2.2.2.2.1 s.2.2.2.2.2.2.1 s.2.2.2.2.2.2.2.1 s.2.2.2.2.2.2.2.2) (fun s => [(0, .pointer (some ⟨p, 0, none⟩)), (1, .int .i64 now), (5, s.1)]) (fun s => EnL p (e.outp now).1 s.2.2.2.2.1 s.2.2.2.2.2.1 s.2.2.2.2.2.2.1 s.2.2.2.2.2.2.2.1 s.2.2.2.2.2.2.2.2 (s.2.2.1 :: (s.2.2.2.1 ++ L))) ?_ ?_
  · rintro ⟨v5, vs, Eb, Es, ov2, iv2, at2, Eo2, Ei2⟩ ⟨hb5, hos, hB2⟩
    simp only at hb5 hos hB2 ⊢
    refine SC.seq ?_
    refine SC.plain ?_
    refine St.move rfl rfl ?_
    refine St.perm (Eb :: EnL p (e.outp now).1 ov2 iv2 at2 Eo2 Ei2 (Es ++ L)) (perm_at [_, _, _] Eb (Es ++ L)) ?_
    refine St.call [_] rfl (by kernel_rfl) rfl (clip55_spec w0 _ v5 vs _ Eb hb5) (fun _ _ _ _ h => h.nil) ?_
    rintro r41 L1 ⟨rfl, hb7⟩
    refine St.perm (EnL p (e.outp now).1 ov2 iv2 at2 Eo2 Ei2 (Eb :: (Es ++ L))) (perm_at [_, _, _] Eb (Es ++ L)).symm ?_
    refine St.assign rfl rfl ?_
    refine St.done ?_
    refine SX.seq ?_
    refine SC.ret ?_
    exact SX.ret1 rfl rfl ⟨vs, Eb, Es, ov2, iv2, at2, Eo2, Ei2, hb7, hos, hB2, rfl⟩
  · refine SC.seq ?_
    refine SC.plain ?_
    refine St.move rfl rfl ?_
    refine St.nilCheck rfl rfl ?_
    refine St.fieldAddr (off := 1) rfl rfl (by kernel_rfl) ?_
    refine St.load rfl rfl (by kernel_rfl) (by first | exact Holds.row mem0 rfl | exact Holds.row mem1 rfl | exact Holds.row mem2 rfl | exact Holds.row mem3 rfl | exact Holds.row mem4 rfl | exact Holds.row mem5 rfl | exact Holds.row mem6 rfl | exact Holds.row mem7 rfl | exact Holds.row mem8 rfl) ?_
    refine St.done ?_
    refine SX.seq ?_
    refine SC.block ?_
    refine SC.seq ?_
    refine SC.plain ?_
    refine St.eql rfl rfl rfl ?_
    refine St.assign rfl rfl ?_
    refine St.done ?_
    refine SX.seq ?_
    refine SC.condp rfl (fun c10 => ?_) (fun c10 => ?_)
    · have hat : at_ = e.at_ := hB.tm.elim id (fun h => absurd (show e.st = 1 by omega) h.2)
      refine SC.seq ?_
      refine SC.plain ?_
      refine St.move rfl rfl ?_
      refine St.nilCheck rfl rfl ?_
      refine St.fieldAddr (off := 2) rfl rfl (by kernel_rfl) ?_
      refine St.load rfl rfl (by kernel_rfl) (by first | exact Holds.row mem0 rfl | exact Holds.row mem1 rfl | exact Holds.row mem2 rfl | exact Holds.row mem3 rfl | exact Holds.row mem4 rfl | exact Holds.row mem5 rfl | exact Holds.row mem6 rfl | exact Holds.row mem7 rfl | exact Holds.row mem8 rfl) ?_
      refine St.notB rfl rfl ?_
      refine St.move rfl rfl ?_
      refine St.splitB 17 rfl (fun g17 => ?_) (fun g17 => ?_)
      · have hask : (!e.asked || e.due now) = true := by rw [g17]; rfl
        refine St.guard_no rfl rfl rfl ?_
        refine St.guard_no rfl rfl rfl ?_
        refine St.guard_no rfl rfl rfl ?_
        refine St.pick_true rfl rfl rfl ?_
        refine St.done ?_
        refine SX.seq ?_
        refine SC.cond_true rfl ?_
        refine SC.seq ?_
        refine SC.plain ?_
        refine St.move rfl rfl ?_
        refine St.move rfl rfl ?_
        refine St.move rfl rfl ?_
        refine St.nilCheck rfl rfl ?_
        refine St.fieldAddr (off := 2) rfl rfl (by kernel_rfl) ?_
        first | refine St.store rfl rfl rfl rfl (by kernel_rfl) (Nat.le_of_ble_eq_true rfl) (by first | exact fun _ h => h.nil | exact fun _ h => h | exact fun _ h => h.drop | exact fun _ h => h.drop.drop | exact fun _ h => h.drop.drop.drop) ?_ | refine St.store1 rfl rfl rfl rfl (by kernel_rfl) (Nat.le_of_ble_eq_true rfl) (by first | exact fun _ h => h.nil | exact fun _ h => h | exact fun _ h => h.drop | exact fun _ h => h.drop.drop | exact fun _ h => h.drop.drop.drop) ?_ | refine St.store2 rfl rfl rfl rfl (by kernel_rfl) (Nat.le_of_ble_eq_true rfl) (by first | exact fun _ h => h.nil | exact fun _ h => h | exact fun _ h => h.drop | exact fun _ h => h.drop.drop | exact fun _ h => h.drop.drop.drop) ?_ | refine St.store3 rfl rfl rfl rfl (by kernel_rfl) (Nat.le_of_ble_eq_true rfl) (by first | exact fun _ h => h.nil | exact fun _ h => h | exact fun _ h => h.drop | exact fun _ h => h.drop.drop | exact fun _ h => h.drop.drop.drop) ?_ | refine St.store4 rfl rfl rfl rfl (by kernel_rfl) (Nat.le_of_ble_eq_true rfl) (by first | exact fun _ h => h.nil | exact fun _ h => h | exact fun _ h => h.drop | exact fun _ h => h.drop.drop | exact fun _ h => h.drop.drop.drop) ?_ | refine St.store5 rfl rfl rfl rfl (by kernel_rfl) (Nat.le_of_ble_eq_true rfl) (by first | exact fun _ h => h.nil | exact fun _ h => h | exact fun _ h => h.drop | exact fun _ h => h.drop.drop | exact fun _ h => h.drop.drop.drop) ?_
        refine St.nilCheck rfl rfl ?_
        refine St.fieldAddr (off := 6) rfl rfl (by kernel_rfl) ?_
        first | refine St.store rfl rfl rfl rfl (by kernel_rfl) (Nat.le_of_ble_eq_true rfl) (by first | exact fun _ h => h.nil | exact fun _ h => h | exact fun _ h => h.drop | exact fun _ h => h.drop.drop | exact fun _ h => h.drop.drop.drop) ?_ | refine St.store1 rfl rfl rfl rfl (by kernel_rfl) (Nat.le_of_ble_eq_true rfl) (by first | exact fun _ h => h.nil | exact fun _ h => h | exact fun _ h => h.drop | exact fun _ h => h.drop.drop | exact fun _ h => h.drop.drop.drop) ?_ | refine St.store2 rfl rfl rfl rfl (by kernel_rfl) (Nat.le_of_ble_eq_true rfl) (by first | exact fun _ h => h.nil | exact fun _ h => h | exact fun _ h => h.drop | exact fun _ h => h.drop.drop | exact fun _ h => h.drop.drop.drop) ?_ | refine St.store3 rfl rfl rfl rfl (by kernel_rfl) (Nat.le_of_ble_eq_true rfl) (by first | exact fun _ h => h.nil | exact fun _ h => h | exact fun _ h => h.drop | exact fun _ h => h.drop.drop | exact fun _ h => h.drop.drop.drop) ?_ | refine St.store4 rfl rfl rfl rfl (by kernel_rfl) (Nat.le_of_ble_eq_true rfl) (by first | exact fun _ h => h.nil | exact fun _ h => h | exact fun _ h => h.drop | exact fun _ h => h.drop.drop | exact fun _ h => h.drop.drop.drop) ?_ | refine St.store5 rfl rfl rfl rfl (by kernel_rfl) (Nat.le_of_ble_eq_true rfl) (by first | exact fun _ h => h.nil | exact fun _ h => h | exact fun _ h => h.drop | exact fun _ h => h.drop.drop | exact fun _ h => h.drop.drop.drop) ?_
        refine St.done ?_
        refine SX.seq ?_
        refine SC.perm ([⟨p, rowOf e.id e.st true (.slice Ao e.out.length co) e.una e.next now e.closed e.endSent e.endAcked (.slice Ai e.inn.length ci) e.read e.other e.owes, 185⟩] :: Eo :: Ei :: [] :: ([] ++ L)) (List.Perm.refl _) ?_
        refine SC.plain ?_
        refine St.move rfl rfl ?_
        refine St.move rfl rfl ?_
        refine St.build [(0, .int .i64 1)] (segCells ⟨1, 0, 0, 0, []⟩ (.slice none 0 0)) rfl rfl (by kernel_rfl) ?_
        refine St.call [_, _] rfl (by kernel_rfl) rfl (say_spec w0 ([⟨p, rowOf e.id e.st true (.slice Ao e.out.length co) e.una e.next now e.closed e.endSent e.endAcked (.slice Ai e.inn.length ci) e.read e.other e.owes, 185⟩] :: Eo :: Ei :: [] :: ([] ++ L)) p e.id ⟨1, 0, 0, 0, []⟩ (.slice none 0 0) (fun w hw => Holds.row mem0 rfl w hw) hid (SegIn.none _ _ _ _)) (fun _ _ _ _ h => h.nil) ?_
        rintro r6 L1 ⟨Ew, rfl, hw⟩
        have hwr := hw.read
        obtain ⟨_, _, Aw, cw, rfl, _, _⟩ := hwr
        have hw : Buf 5 1 (.slice Aw (e.say 1 0 0 []).length cw) (bytes (e.say 1 0 0 [])) (e.say 1 0 0 []).length Ew := hw
        refine St.buildSl (n := 1) (e := 35) [(0, .slice Aw (e.say 1 0 0 []).length cw)] [.slice Aw (e.say 1 0 0 []).length cw] rfl rfl (by kernel_rfl) (fun _ _ h => h.nil) (fun bl => ?_)
        refine St.append5 (e := 35) (sz := 1) (bytes := 24) (xs := []) (n := 0) (news := [.slice Aw (e.say 1 0 0 []).length cw]) (m := 1) rfl rfl rfl (by kernel_rfl) (Buf.nil 35 1) (Rd.row rfl mem0) (by simp [one]) (by omega) (by omega) (fun _ _ h => h.nil) (fun v6 Eb6 hb6 _ => ?_)
        have hb6r := hb6.read
        obtain ⟨_, _, A6, c6, rfl, _, _⟩ := hb6r
        have ho6 := Outs.nil.snoc hw
        refine St.drop ?_
        refine St.perm ([⟨p, rowOf e.id e.st true (.slice Ao e.out.length co) e.una e.next now e.closed e.endSent e.endAcked (.slice Ai e.inn.length ci) e.read e.other e.owes, 185⟩] :: Eo :: Ei :: Eb6 :: (([] ++ [Ew]) ++ L)) (perm_in _ _ _ _ _ [] _) ?_
        refine St.assign rfl rfl ?_
        refine St.done ?_
        refine SX.blk ?_
        have hw : e.outp now = ({ e with asked := true, at_ := now }, [e.say 1 0 0 []]) := (if_pos (by omega)).trans (if_pos hask)
        rw [hw] at hoo
        refine SX.some (_, _, Eb6, [Ew], _, _, now, Eo, Ei) ⟨(by rw [hw]; exact hb6), (by rw [hw]; exact ho6), (by rw [hw]; exact ⟨hB.out, hB.inn, .inl rfl, hn, hoo⟩)⟩ ⟨rfl, rfl, rfl, trivial⟩ (by simp only; rw [hw]; first | done | exact List.Perm.refl _)
      · refine St.guard_yes rfl rfl ?_
        refine St.move rfl rfl ?_
        refine St.guard_yes rfl rfl ?_
        refine St.move rfl rfl ?_
        refine St.guard_yes rfl rfl ?_
        refine St.call [_, _] rfl (by kernel_rfl) rfl (due_spec w0 L p e _ _ at_ Eo Ei hB now hn) (fun _ _ _ _ h => h.nil) ?_
        rintro r1 L1 ⟨rfl, rfl⟩
        unfold EnL
        refine St.pick_false rfl rfl rfl ?_
        refine St.done ?_
        refine SX.seq ?_
        refine SC.cond rfl (fun c21 => ?_) (fun c21 => ?_)
        · have hask : (!e.asked || e.due now) = true := by rw [g17, Bool.false_or, due_eq, ← hat]; exact c21
          refine SC.seq ?_
          refine SC.plain ?_
          refine St.move rfl rfl ?_
          refine St.move rfl rfl ?_
          refine St.move rfl rfl ?_
          refine St.nilCheck rfl rfl ?_
          refine St.fieldAddr (off := 2) rfl rfl (by kernel_rfl) ?_
          first | refine St.store rfl rfl rfl rfl (by kernel_rfl) (Nat.le_of_ble_eq_true rfl) (by first | exact fun _ h => h.nil | exact fun _ h => h | exact fun _ h => h.drop | exact fun _ h => h.drop.drop | exact fun _ h => h.drop.drop.drop) ?_ | refine St.store1 rfl rfl rfl rfl (by kernel_rfl) (Nat.le_of_ble_eq_true rfl) (by first | exact fun _ h => h.nil | exact fun _ h => h | exact fun _ h => h.drop | exact fun _ h => h.drop.drop | exact fun _ h => h.drop.drop.drop) ?_ | refine St.store2 rfl rfl rfl rfl (by kernel_rfl) (Nat.le_of_ble_eq_true rfl) (by first | exact fun _ h => h.nil | exact fun _ h => h | exact fun _ h => h.drop | exact fun _ h => h.drop.drop | exact fun _ h => h.drop.drop.drop) ?_ | refine St.store3 rfl rfl rfl rfl (by kernel_rfl) (Nat.le_of_ble_eq_true rfl) (by first | exact fun _ h => h.nil | exact fun _ h => h | exact fun _ h => h.drop | exact fun _ h => h.drop.drop | exact fun _ h => h.drop.drop.drop) ?_ | refine St.store4 rfl rfl rfl rfl (by kernel_rfl) (Nat.le_of_ble_eq_true rfl) (by first | exact fun _ h => h.nil | exact fun _ h => h | exact fun _ h => h.drop | exact fun _ h => h.drop.drop | exact fun _ h => h.drop.drop.drop) ?_ | refine St.store5 rfl rfl rfl rfl (by kernel_rfl) (Nat.le_of_ble_eq_true rfl) (by first | exact fun _ h => h.nil | exact fun _ h => h | exact fun _ h => h.drop | exact fun _ h => h.drop.drop | exact fun _ h => h.drop.drop.drop) ?_
          refine St.nilCheck rfl rfl ?_
          refine St.fieldAddr (off := 6) rfl rfl (by kernel_rfl) ?_
          first | refine St.store rfl rfl rfl rfl (by kernel_rfl) (Nat.le_of_ble_eq_true rfl) (by first | exact fun _ h => h.nil | exact fun _ h => h | exact fun _ h => h.drop | exact fun _ h => h.drop.drop | exact fun _ h => h.drop.drop.drop) ?_ | refine St.store1 rfl rfl rfl rfl (by kernel_rfl) (Nat.le_of_ble_eq_true rfl) (by first | exact fun _ h => h.nil | exact fun _ h => h | exact fun _ h => h.drop | exact fun _ h => h.drop.drop | exact fun _ h => h.drop.drop.drop) ?_ | refine St.store2 rfl rfl rfl rfl (by kernel_rfl) (Nat.le_of_ble_eq_true rfl) (by first | exact fun _ h => h.nil | exact fun _ h => h | exact fun _ h => h.drop | exact fun _ h => h.drop.drop | exact fun _ h => h.drop.drop.drop) ?_ | refine St.store3 rfl rfl rfl rfl (by kernel_rfl) (Nat.le_of_ble_eq_true rfl) (by first | exact fun _ h => h.nil | exact fun _ h => h | exact fun _ h => h.drop | exact fun _ h => h.drop.drop | exact fun _ h => h.drop.drop.drop) ?_ | refine St.store4 rfl rfl rfl rfl (by kernel_rfl) (Nat.le_of_ble_eq_true rfl) (by first | exact fun _ h => h.nil | exact fun _ h => h | exact fun _ h => h.drop | exact fun _ h => h.drop.drop | exact fun _ h => h.drop.drop.drop) ?_ | refine St.store5 rfl rfl rfl rfl (by kernel_rfl) (Nat.le_of_ble_eq_true rfl) (by first | exact fun _ h => h.nil | exact fun _ h => h | exact fun _ h => h.drop | exact fun _ h => h.drop.drop | exact fun _ h => h.drop.drop.drop) ?_
          refine St.done ?_
          refine SX.seq ?_
          refine SC.perm ([⟨p, rowOf e.id e.st true (.slice Ao e.out.length co) e.una e.next now e.closed e.endSent e.endAcked (.slice Ai e.inn.length ci) e.read e.other e.owes, 185⟩] :: Eo :: Ei :: [] :: ([] ++ L)) (List.Perm.refl _) ?_
          refine SC.plain ?_
          refine St.move rfl rfl ?_
          refine St.move rfl rfl ?_
          refine St.build [(0, .int .i64 1)] (segCells ⟨1, 0, 0, 0, []⟩ (.slice none 0 0)) rfl rfl (by kernel_rfl) ?_
          refine St.call [_, _] rfl (by kernel_rfl) rfl (say_spec w0 ([⟨p, rowOf e.id e.st true (.slice Ao e.out.length co) e.una e.next now e.closed e.endSent e.endAcked (.slice Ai e.inn.length ci) e.read e.other e.owes, 185⟩] :: Eo :: Ei :: [] :: ([] ++ L)) p e.id ⟨1, 0, 0, 0, []⟩ (.slice none 0 0) (fun w hw => Holds.row mem0 rfl w hw) hid (SegIn.none _ _ _ _)) (fun _ _ _ _ h => h.nil) ?_
          rintro r6 L1 ⟨Ew, rfl, hw⟩
          have hwr := hw.read
          obtain ⟨_, _, Aw, cw, rfl, _, _⟩ := hwr
          have hw : Buf 5 1 (.slice Aw (e.say 1 0 0 []).length cw) (bytes (e.say 1 0 0 [])) (e.say 1 0 0 []).length Ew := hw
          refine St.buildSl (n := 1) (e := 35) [(0, .slice Aw (e.say 1 0 0 []).length cw)] [.slice Aw (e.say 1 0 0 []).length cw] rfl rfl (by kernel_rfl) (fun _ _ h => h.nil) (fun bl => ?_)
          refine St.append5 (e := 35) (sz := 1) (bytes := 24) (xs := []) (n := 0) (news := [.slice Aw (e.say 1 0 0 []).length cw]) (m := 1) rfl rfl rfl (by kernel_rfl) (Buf.nil 35 1) (Rd.row rfl mem0) (by simp [one]) (by omega) (by omega) (fun _ _ h => h.nil) (fun v6 Eb6 hb6 _ => ?_)
          have hb6r := hb6.read
          obtain ⟨_, _, A6, c6, rfl, _, _⟩ := hb6r
          have ho6 := Outs.nil.snoc hw
          refine St.drop ?_
          refine St.perm ([⟨p, rowOf e.id e.st true (.slice Ao e.out.length co) e.una e.next now e.closed e.endSent e.endAcked (.slice Ai e.inn.length ci) e.read e.other e.owes, 185⟩] :: Eo :: Ei :: Eb6 :: (([] ++ [Ew]) ++ L)) (perm_in _ _ _ _ _ [] _) ?_
          refine St.assign rfl rfl ?_
          refine St.done ?_
          refine SX.blk ?_
          have hw : e.outp now = ({ e with asked := true, at_ := now }, [e.say 1 0 0 []]) := (if_pos (by omega)).trans (if_pos hask)
          rw [hw] at hoo
          refine SX.some (_, _, Eb6, [Ew], _, _, now, Eo, Ei) ⟨(by rw [hw]; exact hb6), (by rw [hw]; exact ho6), (by rw [hw]; exact ⟨hB.out, hB.inn, .inl rfl, hn, hoo⟩)⟩ ⟨rfl, rfl, rfl, trivial⟩ (by simp only; rw [hw]; first | done | exact List.Perm.refl _)
        · have hask : (!e.asked || e.due now) = false := by rw [g17, Bool.false_or, due_eq, ← hat]; exact c21
          refine SC.skip ?_
          refine SX.blk ?_
          have hw : e.outp now = (e, []) := (if_pos (by omega)).trans (if_neg (by simpa using hask))
          exact SX.some (.slice none 0 0, [], [], [], _, _, at_, Eo, Ei) ⟨(by rw [hw]; exact Buf.nil 35 1), (by rw [hw]; exact Outs.nil), (by rw [hw]; exact hB)⟩ ⟨rfl, rfl, rfl, trivial⟩ (by simp only; rw [hw]; first | done | exact List.Perm.refl _)
    · refine SC.seq ?_
      refine SC.plain ?_
      refine St.eql rfl rfl rfl ?_
      refine St.assign rfl rfl ?_
      refine St.done ?_
      refine SX.seq ?_
      refine SC.condp rfl (fun c35 => ?_) (fun c35 => ?_)
      · refine SC.plain ?_
        refine St.move rfl rfl ?_
        refine St.move rfl rfl ?_
        refine St.call [_, _] rfl (by kernel_rfl) rfl (sends_spec w0 L p e _ _ at_ Eo Ei hB now hn) (fun _ _ _ _ h => h.nil) ?_
        rintro r39 L1 ⟨vs, Eb, Es, ov2, iv2, at2, Eo2, Ei2, hb5, hos, hB2, rfl⟩
        refine St.assign rfl rfl ?_
        refine St.done ?_
        refine SX.blk ?_
        have hw : e.outp now = e.sends now := (if_neg (by omega)).trans (if_pos (by omega))
        exact SX.some (r39, vs, Eb, Es, ov2, iv2, at2, Eo2, Ei2) ⟨(by rw [hw]; exact hb5), (by rw [hw]; exact hos), (by rw [hw]; exact hB2)⟩ ⟨rfl, rfl, rfl, trivial⟩ (by simp only; rw [hw]; first | done | exact List.Perm.refl _)
      · refine SC.skip ?_
        refine SX.blk ?_
        have hw : e.outp now = (e, []) := (if_neg (by omega)).trans (if_neg (by omega))
        exact SX.some (.slice none 0 0, [], [], [], _, _, at_, Eo, Ei) ⟨(by rw [hw]; exact Buf.nil 35 1), (by rw [hw]; exact Outs.nil), (by rw [hw]; exact hB)⟩ ⟨rfl, rfl, rfl, trivial⟩ (by simp only; rw [hw]; first | done | exact List.Perm.refl _)
end Go.Proofs.Ytahafepgmkiabaa
