/- Walks: slices.SortStableFunc for coins: sorting by insertion. -/
import Derived.Test.YtahafepgmkiabaaY2
set_option linter.unusedVariables false
set_option linter.unusedSimpArgs false
set_option linter.ambiguousOpen false
namespace Go.Proofs.Ytahafepgmkiabaa.Sep
open Go Go.RowKit
section steps
variable {C : Cx} {ops : Array Oper} {Q : Post} {Lr : List Chunk} {κ : List (Bool × Oper)} {env : Env} {L : List Chunk}
  {dst : Option Tmp} {ty : TypeId} {pos : String} {after : Array Edge} {x : Operand}
theorem St.callw {g : FuncId} {args : Array Operand} {tys : Array TypeId} {R : Value → List Chunk → Prop} (vs : List Value) (hd : dok C.n dst = true) (hg : callable C.P g = true)
    (hx : ev env x = some (.func (.func g) #[] #[])) (ha : evl env args.toList = some vs) (hs : Meets C.P g vs.toArray C.w0 L R)
    (hc : ∀ v L1 w, R v L1 → Own C.w0 L1 w → Own C.w0 Lr w) (h : ∀ v L1, R v L1 → St C ops Q Lr κ (upd dst v env) L1) : St C ops Q Lr ((false, ⟨dst, .call ⟨.value x, args, tys⟩, ty, pos, after, none⟩) :: κ) env L :=
  St.callv vs hd hg hx ha (by simpa using hs) hc h
end steps
end Go.Proofs.Ytahafepgmkiabaa.Sep
namespace Go.Proofs.Ytahafepgmkiabaa
open Go Go.Proofs.Ytahafepgmkiabaa.Sep
section
variable {α : Type} {lt : α → α → Bool}
theorem first_of (lt : α → α → Bool) (X : List α) : ∃ X1 X2, X = X1 ++ X2 ∧ Srt.Up lt X1 ∧ (X1.length = 1 ∨ X1.length = 0 ∧ X2.length = 0) := by
  cases X with
  | nil => exact ⟨[], [], rfl, List.Pairwise.nil, .inr ⟨rfl, rfl⟩⟩
  | cons x r => exact ⟨[x], r, rfl, List.pairwise_singleton _ _, .inl rfl⟩
theorem left_one (hs : Srt.Swo lt) {x : α} {B1 B2 : List α} (hB : Srt.Up lt (B1 ++ B2)) (h1 : ∀ y ∈ B1, lt y x = true) (h2 : ∀ y ∈ B2, lt y x = false) : Srt.Up lt (B1 ++ x :: B2) ∧ Srt.Alike lt (B1 ++ x :: B2) (x :: (B1 ++ B2)) := by
  obtain ⟨u1, u2, _⟩ := Srt.Up.app.1 hB
  have := Srt.sym_step hs (A1 := []) (A2 := [x]) (B1 := B1) (B2 := B2) (M1 := B1) (M2 := x :: B2) (List.pairwise_singleton _ _) hB (by simp) (fun t ht y hy => by rcases List.mem_singleton.1 ht with rfl; exact h1 y hy)
    u1 (by rw [List.nil_append]; exact Srt.Alike.refl _) (List.pairwise_cons.2 ⟨h2, u2⟩) (Srt.Alike.refl _)
  simpa using this
theorem right_one (hs : Srt.Swo lt) {y : α} {A1 A2 : List α} (hA : Srt.Up lt (A1 ++ A2)) (h1 : ∀ x ∈ A1, lt y x = false) (h2 : ∀ x ∈ A2, lt y x = true) : Srt.Up lt (A1 ++ y :: A2) ∧ Srt.Alike lt (A1 ++ y :: A2) (A1 ++ A2 ++ [y]) := by
  obtain ⟨u1, u2, _⟩ := Srt.Up.app.1 hA
  have hone : Srt.Up lt [y] := List.pairwise_singleton _ _
  have := Srt.sym_step hs (A1 := A1) (A2 := A2) (B1 := [y]) (B2 := []) (M1 := A1 ++ [y]) (M2 := A2) hA (by simpa using hone) (by simp) (fun t ht z hz => by rcases List.mem_singleton.1 hz with rfl; exact h2 t ht)
    (Srt.Up.app.2 ⟨u1, hone, fun t ht z hz => by rcases List.mem_singleton.1 hz with rfl; exact h1 t ht⟩) (Srt.Alike.refl _) u2 (by rw [List.append_nil]; exact Srt.Alike.refl _)
  simpa using this
/-- Below one that is less, all are less. -/
theorem low_lt (hs : Srt.Swo lt) {B1 : List α} {y x : α} (hB : Srt.Up lt (B1 ++ [y])) (h : lt y x = true) : ∀ z ∈ B1 ++ [y], lt z x = true := by
  intro z hz
  have hzy : lt y z = false := by
    rcases List.mem_append.1 hz with hz | hz
    · exact (Srt.Up.app.1 hB).2.2 z hz y (by simp)
    · rcases List.mem_singleton.1 hz with rfl; exact hs.irr _
  cases hzx : lt z x with
  | true => rfl
  | false =>
    have := hs.trans x z y hzx hzy
    rw [h] at this; cases this
/-- Above one that is not less, none is less. -/
theorem high_le (hs : Srt.Swo lt) {B2 : List α} {y x : α} (hB : Srt.Up lt (y :: B2)) (h : lt y x = false) : ∀ z ∈ y :: B2, lt z x = false := by
  intro z hz
  rcases List.mem_cons.1 hz with rfl | hz
  · exact h
  · exact hs.trans _ _ _ h ((List.pairwise_cons.1 hB).1 z hz)
/-- Below one above which y does not lie under, y does not either. -/
theorem low_le (hs : Srt.Swo lt) {A1 : List α} {x y : α} (hA : Srt.Up lt (A1 ++ [x])) (h : lt y x = false) : ∀ z ∈ A1 ++ [x], lt y z = false := by
  intro z hz
  rcases List.mem_append.1 hz with hz | hz
  · exact hs.trans _ _ _ ((Srt.Up.app.1 hA).2.2 z hz x (by simp)) h
  · rcases List.mem_singleton.1 hz with rfl; exact h
theorem high_lt (hs : Srt.Swo lt) {A2 : List α} {x y : α} (hA : Srt.Up lt (x :: A2)) (h : lt y x = true) : ∀ z ∈ x :: A2, lt y z = true := by
  intro z hz
  rcases List.mem_cons.1 hz with rfl | hz
  · exact h
  · have := (List.pairwise_cons.1 hA).1 z hz
    cases hyz : lt y z with
    | true => rfl
    | false =>
      have := hs.trans _ _ _ this hyz
      rw [h] at this; cases this
theorem pick_at (l : List α) {i : Nat} (h : i < l.length) : ∃ a x b, l = a ++ x :: b ∧ a.length = i := ⟨l.take i, l[i], l.drop (i + 1), by rw [List.getElem_cons_drop, List.take_append_drop], by rw [List.length_take]; omega⟩
end

theorem insC_spec (w0 : World) (L : List Chunk) (b cap N : Nat) (pre tail : List Value) (g : FuncId) (lt : CoinV → CoinV → Bool) (D : CoinV → Prop) (hg : callable Try.prog g = true) (hs : Srt.Swo lt) (hcmp : Cmp CoinV.cells w0 g lt D) (P X S : List CoinV) (a c : Nat) (ha : a = P.length) (hc : c = P.length + X.length) (hD : ∀ x ∈ X, D x) (hN : (P ++ (X ++ S)).length = N) (hb : N ≤ 140737488351232) :
    Meets Try.prog 203 #[.slice (some ⟨b, pre.length, none⟩) N cap, .int .i64 ((a : Nat) : Int), .int .i64 ((c : Nat) : Int), .func (.func g) #[] #[]] w0 ([⟨b, pre ++ ((P ++ (X ++ S)).flatMap CoinV.cells ++ tail), 194⟩] :: L) (fun r L' => ∃ T : List CoinV, T.length = X.length ∧ Srt.Up lt T ∧ Srt.Alike lt T X ∧ L' = [⟨b, pre ++ ((P ++ (T ++ S)).flatMap CoinV.cells ++ tail), 194⟩] :: L) := by
  simp only [List.length_append] at hN
  refine Meets.of_body [.slice (some ⟨b, pre.length, none⟩) N cap, .int .i64 ((a : Nat) : Int), .int .i64 ((c : Nat) : Int), .func (.func g) #[] #[]] Try.func203 rfl Try.ntmps203 rfl ?_
  refine SC.seq ?_
  refine SC.plain ?_
  refine St.move rfl rfl ?_
  first | refine St.addN (b := 1) rfl rfl rfl (by omega) ?_ | refine St.addI rfl rfl rfl (by omega) ?_
  refine St.assign rfl rfl ?_
  refine St.done ?_
  refine SX.seq ?_
  refine SC.block ?_
  obtain ⟨X1, X2, hX0, hu0, hl0⟩ := first_of lt X
  have hXl0 := congrArg List.length hX0
  rw [List.length_append] at hXl0
  rw [show X ++ S = X1 ++ (X2 ++ S) by rw [hX0, List.append_assoc]]
  refine SC.loop (α := Nat × List CoinV × List CoinV × List CoinV) (fun s => X = s.2.2.1 ++ s.2.2.2 ∧ s.2.1.length = s.2.2.1.length ∧ Srt.Up lt s.2.1 ∧ Srt.Alike lt s.2.1 s.2.2.1 ∧ ((s.1 = P.length + s.2.2.1.length ∧ 0 < s.2.2.1.length) ∨ (X.length = 0 ∧ P.length < s.1))) (fun s => [(0, .slice (some ⟨b, pre.length, none⟩) N cap), (1, .int .i64 ((a : Nat) : Int)), (2, .int .i64 ((c : Nat) : Int)), (3, .func (.func g) #[] #[]), (8, .int .i64 ((s.1 : Nat) : Int))]) (fun s => [⟨b, pre ++ ((P ++ (s.2.1 ++ (s.2.2.2 ++ S))).flatMap CoinV.cells ++ tail), 194⟩] :: L) (fun s => X.length + P.length + 1 - s.1) (P.length + 1, X1, X1, X2) ⟨hX0, rfl, hu0, Srt.Alike.refl _, by simp only; omega⟩ ⟨rfl, rfl, rfl, rfl, by subst ha; rfl, trivial⟩ (List.Perm.refl _) ?_
  clear hX0 hu0 hl0 hXl0 X1 X2
  rintro ⟨i, T, X1, X2⟩ ⟨hX, hl, hu, hal, hor⟩
  simp only at hX hl hu hal hor ⊢
  have hXl := congrArg List.length hX
  rw [List.length_append] at hXl
  refine SC.seq ?_
  refine SC.seq ?_
  refine SC.plain ?_
  refine St.move rfl rfl ?_
  refine St.move rfl rfl ?_
  refine St.lss rfl rfl rfl ?_
  refine St.done ?_
  refine SX.seq ?_
  refine SC.condp rfl (fun c14 => ?_) (fun c14 => ?_)
  · obtain ⟨x, X2, rfl⟩ := cons_of (l := X2) (by omega)
    simp only [List.length_cons] at hXl
    have hxD : D x := hD x (by rw [hX]; simp)
    have hTD : ∀ t ∈ T, D t := fun t ht => hD t (by rw [hX]; exact List.mem_append_left _ (hal.mem hs ht))
    refine SC.skip ?_
    refine SX.seq ?_
    refine SC.seq ?_
    refine SC.block ?_
    refine SC.seq ?_
    refine SC.plain ?_
    refine St.move rfl rfl ?_
    refine St.assign rfl rfl ?_
    refine St.done ?_
    refine SX.seq ?_
    refine SC.block ?_
    refine SC.loop (α := Nat × List CoinV × List CoinV) (fun s => T = s.2.1 ++ s.2.2 ∧ s.1 = P.length + s.2.1.length ∧ ∀ t ∈ s.2.2, lt x t = true) (fun s => [(0, .slice (some ⟨b, pre.length, none⟩) N cap), (1, .int .i64 ((a : Nat) : Int)), (2, .int .i64 ((c : Nat) : Int)), (3, .func (.func g) #[] #[]), (8, .int .i64 ((i : Nat) : Int)), (9, .int .i64 ((s.1 : Nat) : Int))]) (fun s => [⟨b, pre ++ ((P ++ (s.2.1 ++ (x :: (s.2.2 ++ (X2 ++ S))))).flatMap CoinV.cells ++ tail), 194⟩] :: L) (fun s => s.1) (i, T, []) ⟨by simp, by simp only; omega, by simp⟩ ⟨rfl, rfl, rfl, rfl, rfl, rfl, trivial⟩ (List.Perm.refl _) ?_
    rintro ⟨j, T1, T2⟩ ⟨hT, hj, h2⟩
    simp only at hT hj h2 ⊢
    have hTl := congrArg List.length hT
    rw [List.length_append] at hTl
    refine SC.seq ?_
    refine SC.seq ?_
    refine SC.drawn [(0, true), (1, true), (2, true), (3, true), (4, true), (5, true), (6, true), (7, true), (8, true), (9, true), (10, true), (11, true), (12, true), (13, true), (14, false), (15, true), (16, true)] [] (_) (by kernel_rfl) (by kernel_rfl) (fun _ h => h) ?_
    refine St.move rfl rfl ?_
    refine St.move rfl rfl ?_
    refine St.gtr rfl rfl rfl ?_
    refine St.move rfl rfl ?_
    refine St.split 21 rfl (fun g21 => ?_) (fun g21 => ?_)
    · obtain ⟨T0, t, rfl⟩ := snoc_of (l := T1) (by omega)
      simp only [List.length_append, List.length_cons, List.length_nil] at hj hTl
      have htD : D t := hTD t (by rw [hT]; simp)
      refine St.guard_yes rfl rfl ?_
      refine St.move rfl rfl ?_
      refine St.guard_yes rfl rfl ?_
      refine St.move rfl rfl ?_
      refine St.guard_yes rfl rfl ?_
      refine St.move rfl rfl ?_
      refine St.guard_yes rfl rfl ?_
      refine St.indexSl (e := 194) (sz := 2) rfl rfl rfl (by kernel_rfl) (by omega) ?_
      refine St.guard_yes rfl rfl ?_
      refine St.loadAgg (CoinV.cells x) rfl rfl (by kernel_rfl) (srow_at CoinV.len (P ++ (T0 ++ [t])) (T2 ++ (X2 ++ S)) (by simp) (by simp; try omega)) ?_
      refine St.guard_yes rfl rfl ?_
      refine St.move rfl rfl ?_
      refine St.guard_yes rfl rfl ?_
      refine St.move rfl rfl ?_
      refine St.guard_yes rfl rfl ?_
      first | refine St.subN (b := 1) rfl rfl rfl (by omega) (by omega) ?_ | refine St.subI rfl rfl rfl (by omega) ?_
      refine St.guard_yes rfl rfl ?_
      refine St.indexSl (e := 194) (sz := 2) rfl rfl rfl (by kernel_rfl) (by omega) ?_
      refine St.guard_yes rfl rfl ?_
      refine St.loadAgg (CoinV.cells t) rfl rfl (by kernel_rfl) (srow_at CoinV.len (P ++ T0) (x :: (T2 ++ (X2 ++ S))) (by simp) (by simp; try omega)) ?_
      refine St.guard_yes rfl rfl ?_
      refine St.callw [_, _] rfl hg rfl rfl (hcmp x t hxD htD _) (fun _ _ _ h h2 => by obtain ⟨rfl, _⟩ := h; exact h2) ?_
      rintro r L1 ⟨rfl, k, rfl, hk⟩
      refine St.guard_yes rfl rfl ?_
      refine St.lss rfl rfl rfl ?_
      refine St.pick_true rfl rfl rfl ?_
      refine St.done ?_
      refine SX.tail ?_
      refine St.done ?_
      refine SX.seq ?_
      refine SC.condp rfl (fun c34 => ?_) (fun c34 => ?_)
      · have hlt : lt x t = true := hk.1 c34
        refine SC.skip ?_
        refine SX.seq ?_
        refine SC.seq ?_
        refine SC.block ?_
        refine SC.drawn [(0, true), (1, true), (2, true), (3, true), (4, true), (5, true), (6, true), (7, true), (8, true), (9, true), (10, true), (11, true), (12, true), (13, true)] [14, 15, 16, 17] (_) (by kernel_rfl) (by kernel_rfl) (fun _ h => h) ?_
        refine St.move rfl rfl ?_
        refine St.move rfl rfl ?_
        refine St.move rfl rfl ?_
        refine St.move rfl rfl ?_
        first | refine St.subN (b := 1) rfl rfl rfl (by omega) (by omega) ?_ | refine St.subI rfl rfl rfl (by omega) ?_
        refine St.move rfl rfl ?_
        refine St.move rfl rfl ?_
        first | refine St.subN (b := 1) rfl rfl rfl (by omega) (by omega) ?_ | refine St.subI rfl rfl rfl (by omega) ?_
        refine St.indexSl (e := 194) (sz := 2) rfl rfl rfl (by kernel_rfl) (by omega) ?_
        refine St.loadAgg (CoinV.cells t) rfl rfl (by kernel_rfl) (srow_at CoinV.len (P ++ T0) (x :: (T2 ++ (X2 ++ S))) (by simp) (by simp; try omega)) ?_
        refine St.move rfl rfl ?_
        refine St.move rfl rfl ?_
        refine St.indexSl (e := 194) (sz := 2) rfl rfl rfl (by kernel_rfl) (by omega) ?_
        refine St.loadAgg (CoinV.cells x) rfl rfl (by kernel_rfl) (srow_at CoinV.len (P ++ (T0 ++ [t])) (T2 ++ (X2 ++ S)) (by simp) (by simp; try omega)) ?_
        refine St.done ?_
        refine SX.tail ?_
        refine St.indexSl (e := 194) (sz := 2) rfl rfl rfl (by kernel_rfl) (by omega) ?_
        refine St.storeN rfl rfl rfl (CoinV.cells t) rfl (by kernel_rfl) (by simp [CoinV.cells, one]) (srow_room CoinV.len (P ++ (T0 ++ [t])) (T2 ++ (X2 ++ S)) (y := x) (by simp) (by simp; try omega)) (fun _ h => h.nil) ?_
        rw [srow_put CoinV.len (P ++ (T0 ++ [t])) (T2 ++ (X2 ++ S)) (y := x) t (by simp) (by simp; try omega)]
        rw [show ((P ++ (T0 ++ [t])) ++ t :: (T2 ++ (X2 ++ S))) = P ++ ((T0 ++ [t]) ++ (t :: (T2 ++ (X2 ++ S)))) by simp]
        refine St.indexSl (e := 194) (sz := 2) rfl rfl rfl (by kernel_rfl) (by omega) ?_
        refine St.storeN rfl rfl rfl (CoinV.cells x) rfl (by kernel_rfl) (by simp [CoinV.cells, one]) (srow_room CoinV.len (P ++ T0) (t :: (T2 ++ (X2 ++ S))) (y := t) (by simp) (by simp; try omega)) (fun _ h => h.nil) ?_
        rw [srow_put CoinV.len (P ++ T0) (t :: (T2 ++ (X2 ++ S))) (y := t) x (by simp) (by simp; try omega)]
        rw [show ((P ++ T0) ++ x :: (t :: (T2 ++ (X2 ++ S)))) = P ++ (T0 ++ (x :: ((t :: T2) ++ (X2 ++ S)))) by simp]
        refine St.done ?_
        refine SX.blk ?_
        refine SX.seq ?_
        refine SC.plain ?_
        refine St.move rfl rfl ?_
        first | refine St.subN (b := 1) rfl rfl rfl (by omega) (by omega) ?_ | refine St.subI rfl rfl rfl (by omega) ?_
        refine St.assign rfl rfl ?_
        refine St.done ?_
        exact SX.again (j - 1, T0, t :: T2) ⟨by rw [hT]; simp, by simp only; omega, fun u hu => by rcases List.mem_cons.1 hu with rfl | hu; exact hlt; exact h2 u hu⟩ (by simp only; omega) ⟨rfl, rfl, rfl, rfl, rfl, rfl, trivial⟩ (List.Perm.refl _)
      · have hnl : lt x t = false := Bool.eq_false_iff.2 (fun h => c34 (hk.2 h))
        refine SC.exit ?_
        refine SX.seq_exit ?_
        refine SX.seq_exit ?_
        refine SX.hit ?_
        refine SX.blk ?_
        refine SX.seq ?_
        refine SC.plain ?_
        refine St.move rfl rfl ?_
        first | refine St.addN (b := 1) rfl rfl rfl (by omega) ?_ | refine St.addI rfl rfl rfl (by omega) ?_
        refine St.assign rfl rfl ?_
        refine St.done ?_
        have hi := Srt.ins_step hs (T1 := (T0 ++ [t])) (hT ▸ hu) h2 (.inr ⟨T0, t, rfl, hnl⟩)
        exact SX.again (i + 1, (T0 ++ [t]) ++ x :: T2, X1 ++ [x], X2) ⟨by rw [hX]; simp, by simp only [List.length_append, List.length_cons, List.length_nil] at *; omega, hi.1, hi.2.trans (hT ▸ (hal.append (Srt.Alike.refl [x]))), .inl ⟨by simp only [List.length_append, List.length_cons, List.length_nil]; omega, by simp⟩⟩ (by simp only; omega) ⟨rfl, rfl, rfl, rfl, rfl, trivial⟩ (by simp only [List.append_assoc, List.cons_append]; exact List.Perm.refl _)
    · have h0 : T1 = [] := List.eq_nil_of_length_eq_zero (by omega)
      subst h0
      refine St.guard_no rfl rfl rfl ?_
      refine St.guard_no rfl rfl rfl ?_
      refine St.guard_no rfl rfl rfl ?_
      refine St.guard_no rfl rfl rfl ?_
      refine St.guard_no rfl rfl rfl ?_
      refine St.guard_no rfl rfl rfl ?_
      refine St.guard_no rfl rfl rfl ?_
      refine St.guard_no rfl rfl rfl ?_
      refine St.guard_no rfl rfl rfl ?_
      refine St.guard_no rfl rfl rfl ?_
      refine St.guard_no rfl rfl rfl ?_
      refine St.guard_no rfl rfl rfl ?_
      refine St.pick_false rfl rfl rfl ?_
      refine St.done ?_
      refine SX.tail ?_
      refine St.done ?_
      refine SX.seq ?_
      refine SC.cond_false rfl ?_
      refine SC.exit ?_
      refine SX.seq_exit ?_
      refine SX.seq_exit ?_
      refine SX.hit ?_
      refine SX.blk ?_
      refine SX.seq ?_
      refine SC.plain ?_
      refine St.move rfl rfl ?_
      first | refine St.addN (b := 1) rfl rfl rfl (by omega) ?_ | refine St.addI rfl rfl rfl (by omega) ?_
      refine St.assign rfl rfl ?_
      refine St.done ?_
      have hi := Srt.ins_step hs (T1 := []) (hT ▸ hu) h2 (.inl rfl)
      exact SX.again (i + 1, [] ++ x :: T2, X1 ++ [x], X2) ⟨by rw [hX]; simp, by simp only [List.length_append, List.length_cons, List.length_nil] at *; omega, hi.1, hi.2.trans (hT ▸ (hal.append (Srt.Alike.refl [x]))), .inl ⟨by simp only [List.length_append, List.length_cons, List.length_nil]; omega, by simp⟩⟩ (by simp only; omega) ⟨rfl, rfl, rfl, rfl, rfl, trivial⟩ (by simp only [List.append_assoc, List.cons_append]; exact List.Perm.refl _)
  · have hx0 : X2 = [] := List.eq_nil_of_length_eq_zero (by omega)
    subst hx0
    rw [List.append_nil] at hX
    subst hX
    simp only [List.nil_append]
    refine SC.exit ?_
    refine SX.seq_exit ?_
    refine SX.seq_exit ?_
    refine SX.hit ?_
    exact SX.ret0 (.inr rfl) rfl ⟨T, hl, hu, hal, rfl⟩
end Go.Proofs.Ytahafepgmkiabaa
