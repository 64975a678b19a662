/- Walks: slices.SortStableFunc for coins: merging in place. -/
import Derived.Test.YtahafepgmkiabaaY3
set_option linter.unusedVariables false
set_option linter.unusedSimpArgs false
set_option linter.ambiguousOpen false
namespace Go.Proofs.Ytahafepgmkiabaa
open Go Go.Proofs.Ytahafepgmkiabaa.Sep

section
variable {α : Type} {lt : α → α → Bool}
theorem take_pick {a b : List α} {x : α} : (a ++ x :: b).take (a.length + 1) = a ++ [x] := by
  rw [show a ++ x :: b = (a ++ [x]) ++ b by simp]
  exact List.take_left' (by simp)
theorem seek_low (hs : Srt.Swo lt) {B B1 B2 : List α} {x y : α} (hB : Srt.Up lt B) (he : B = B1 ++ y :: B2) (h : lt y x = true) {n : Nat} (hn : n = B1.length + 1) : ∀ z ∈ B.take n, lt z x = true := by
  have h1 : B.take n = B1 ++ [y] := by rw [he, hn, take_pick]
  rw [h1]
  exact low_lt hs (h1 ▸ Srt.up_take hB n) h
theorem seek_high (hs : Srt.Swo lt) {B B1 B2 : List α} {x y : α} (hB : Srt.Up lt B) (he : B = B1 ++ y :: B2) (h : lt y x = false) {n : Nat} (hn : n = B1.length) : ∀ z ∈ B.drop n, lt z x = false := by
  have h1 : B.drop n = y :: B2 := by rw [he, hn, List.drop_left]
  rw [h1]
  exact high_le hs (h1 ▸ Srt.up_drop hB n) h
theorem seek_low' (hs : Srt.Swo lt) {A A1 A2 : List α} {x y : α} (hA : Srt.Up lt A) (he : A = A1 ++ x :: A2) (h : lt y x = false) {n : Nat} (hn : n = A1.length + 1) : ∀ z ∈ A.take n, lt y z = false := by
  have h1 : A.take n = A1 ++ [x] := by rw [he, hn, take_pick]
  rw [h1]
  exact low_le hs (h1 ▸ Srt.up_take hA n) h
theorem seek_high' (hs : Srt.Swo lt) {A A1 A2 : List α} {x y : α} (hA : Srt.Up lt A) (he : A = A1 ++ x :: A2) (h : lt y x = true) {n : Nat} (hn : n = A1.length) : ∀ z ∈ A.drop n, lt y z = true := by
  have h1 : A.drop n = x :: A2 := by rw [he, hn, List.drop_left]
  rw [h1]
  exact high_lt hs (h1 ▸ Srt.up_drop hA n) h
theorem seek_end {p q : α → Prop} {B : List α} {n m : Nat} (h1 : ∀ z ∈ B.take n, p z) (h2 : ∀ z ∈ B.drop m, q z) (he : n = m) (hn : n ≤ B.length) : ∃ B1 B2, B = B1 ++ B2 ∧ B1.length = n ∧ (∀ z ∈ B1, p z) ∧ (∀ z ∈ B2, q z) := by
  subst he
  exact ⟨B.take n, B.drop n, (List.take_append_drop n B).symm, by rw [List.length_take]; omega, h1, h2⟩
theorem get_pick {B B1 B2 : List α} {y : α} (he : B = B1 ++ y :: B2) {i : Nat} (hi : i = B1.length) : B[i]? = some y := by subst he hi; simp
def SI1 (lt : α → α → Bool) (A B : List α) (a mid s : Nat) : Prop := s = a ∨ B.length ≤ mid - s ∨ ∃ x y, A[s - a - 1]? = some x ∧ B[mid - s]? = some y ∧ lt y x = false
def SI2 (lt : α → α → Bool) (A B : List α) (a mid r : Nat) : Prop := A.length ≤ r - a ∨ r = mid ∨ ∃ x y, A[r - a]? = some x ∧ B[mid - r - 1]? = some y ∧ lt y x = true
theorem sym_bounds (hs : Srt.Swo lt) {A A1 A2 B B1 B2 : List α} {a mid s : Nat} (hA : Srt.Up lt A) (hB : Srt.Up lt B) (h1 : SI1 lt A B a mid s) (h2 : SI2 lt A B a mid s) (ha : a ≤ s) (hm : s ≤ mid)
    (hAe : A = A1 ++ A2) (hA1 : A1.length = s - a) (hBe : B = B1 ++ B2) (hB1 : B1.length = mid - s) : (∀ x ∈ A1, ∀ y ∈ B2, lt y x = false) ∧ (∀ x ∈ A2, ∀ y ∈ B1, lt y x = true) := by
  have t1 : A.take (s - a) = A1 := by rw [hAe, ← hA1, List.take_left]
  have t2 : A.drop (s - a) = A2 := by rw [hAe, ← hA1, List.drop_left]
  have t3 : B.take (mid - s) = B1 := by rw [hBe, ← hB1, List.take_left]
  have t4 : B.drop (mid - s) = B2 := by rw [hBe, ← hB1, List.drop_left]
  rw [← t1, ← t2, ← t3, ← t4]
  refine ⟨Srt.bound12 hs hA hB ?_, Srt.bound21 hs hA hB ?_⟩
  · rcases h1 with h | h | h
    · exact .inl (by omega)
    · exact .inr (.inl h)
    · exact .inr (.inr h)
  · rcases h2 with h | h | h
    · exact .inl h
    · exact .inr (.inl (by omega))
    · exact .inr (.inr h)
end

theorem symC_spec (w0 : World) (L : List Chunk) (b cap N : Nat) (pre tail : List Value) (g : FuncId) (lt : CoinV → CoinV → Bool) (D : CoinV → Prop) (hg : callable Try.prog g = true) (hs : Srt.Swo lt) (hcmp : Cmp CoinV.cells w0 g lt D) (m : Nat) : ∀ (P A B S : List CoinV) (a mm c : Nat) (ha : a = P.length) (hmm : mm = P.length + A.length) (hc : c = P.length + A.length + B.length) (hA : 0 < A.length) (hB : 0 < B.length) (hm : A.length + B.length ≤ m) (hUA : Srt.Up lt A) (hUB : Srt.Up lt B) (hD : ∀ x ∈ A ++ B, D x) (hN : (P ++ (A ++ (B ++ S))).length = N) (hb : N ≤ 140737488351232),
    Meets Try.prog 204 #[.slice (some ⟨b, pre.length, none⟩) N cap, .int .i64 ((a : Nat) : Int), .int .i64 ((mm : Nat) : Int), .int .i64 ((c : Nat) : Int), .func (.func g) #[] #[]] w0 ([⟨b, pre ++ ((P ++ (A ++ (B ++ S))).flatMap CoinV.cells ++ tail), 194⟩] :: L) (fun r L' => ∃ M : List CoinV, M.length = A.length + B.length ∧ Srt.Up lt M ∧ Srt.Alike lt M (A ++ B) ∧ L' = [⟨b, pre ++ ((P ++ (M ++ S)).flatMap CoinV.cells ++ tail), 194⟩] :: L) := by
  induction m with
  | zero => intro P A B S a mm c ha hmm hc hA hB hm; omega
  | succ m ih =>
    intro P A B S a mm c ha hmm hc hA hB hm hUA hUB hD hN hb
    simp only [List.length_append] at hN
    refine Meets.of_body [.slice (some ⟨b, pre.length, none⟩) N cap, .int .i64 ((a : Nat) : Int), .int .i64 ((mm : Nat) : Int), .int .i64 ((c : Nat) : Int), .func (.func g) #[] #[]] Try.func204 rfl Try.ntmps204 rfl ?_
    refine SC.seq ?_
    refine SC.seq ?_
    refine SC.plain ?_
    refine St.move rfl rfl ?_
    refine St.move rfl rfl ?_
    first | refine St.subN rfl rfl rfl (by omega) (by omega) ?_ | refine St.subI rfl rfl rfl (by omega) ?_
    refine St.eql rfl rfl rfl ?_
    refine St.done ?_
    refine SX.seq ?_
    refine SC.condp rfl (fun c28 => ?_) (fun c28 => ?_)
    · obtain ⟨x, rfl⟩ : ∃ x, A = [x] := List.length_eq_one_iff.1 (by omega)
      simp only [List.length_cons, List.length_nil] at hmm hc hN
      have hxD : D x := hD x (by simp)
      refine SC.seq ?_
      refine SC.plain ?_
      refine St.move rfl rfl ?_
      refine St.assign rfl rfl ?_
      refine St.done ?_
      refine SX.seq ?_
      refine SC.seq ?_
      refine SC.plain ?_
      refine St.move rfl rfl ?_
      refine St.assign rfl rfl ?_
      refine St.done ?_
      refine SX.seq ?_
      refine SC.seq ?_
      refine SC.block ?_
      refine SC.loop (α := Nat × Nat) (fun s => mm ≤ s.1 ∧ s.1 ≤ s.2 ∧ s.2 ≤ c ∧ (∀ z ∈ B.take (s.1 - mm), lt z x = true) ∧ (∀ z ∈ B.drop (s.2 - mm), lt z x = false)) (fun s => [(0, .slice (some ⟨b, pre.length, none⟩) N cap), (1, .int .i64 ((a : Nat) : Int)), (2, .int .i64 ((mm : Nat) : Int)), (3, .int .i64 ((c : Nat) : Int)), (4, .func (.func g) #[] #[]), (10, .int .i64 ((s.1 : Nat) : Int)), (11, .int .i64 ((s.2 : Nat) : Int))]) (fun _ => [⟨b, pre ++ ((P ++ ([x] ++ (B ++ S))).flatMap CoinV.cells ++ tail), 194⟩] :: L) (fun s => s.2 - s.1) (mm, c) ⟨Nat.le_refl _, by simp only; omega, Nat.le_refl _, by simp, by simp only; rw [List.drop_eq_nil_of_le (by omega)]; simp⟩ ⟨rfl, rfl, rfl, rfl, rfl, rfl, rfl, trivial⟩ (List.Perm.refl _) ?_
      rintro ⟨i, j⟩ ⟨hi1, hij, hj1, hlo, hhi⟩
      simp only at hi1 hij hj1 hlo hhi ⊢
      refine SC.seq ?_
      refine SC.seq ?_
      refine SC.plain ?_
      refine St.move rfl rfl ?_
      refine St.move rfl rfl ?_
      refine St.lss rfl rfl rfl ?_
      refine St.done ?_
      refine SX.seq ?_
      refine SC.condp rfl (fun c33 => ?_) (fun c33 => ?_)
      · refine SC.skip ?_
        refine SX.seq ?_
        refine SC.block ?_
        refine SC.seq ?_
        refine SC.plain ?_
        refine St.move rfl rfl ?_
        refine St.move rfl rfl ?_
        first | refine St.addN rfl rfl rfl (by omega) ?_ | refine St.addI rfl rfl rfl (by omega) ?_
        first | refine St.convUx un64 rfl rfl (by kernel_rfl) (by kernel_rfl) (by omega) ?_ | refine St.convU un64 rfl rfl (by kernel_rfl) (by kernel_rfl) ?_ | refine St.convZ un64 rfl rfl (by kernel_rfl) (by kernel_rfl) ?_
        first | refine St.shrU un64 (b := 1) rfl rfl rfl (by show _ ≤ (64 : Nat); omega) ?_ | refine St.shr rfl rfl rfl (by omega) ?_
        refine St.convS rfl rfl (by kernel_rfl) (by kernel_rfl) (by omega) ?_
        refine St.assign rfl rfl ?_
        refine St.done ?_
        obtain ⟨h, hh⟩ : ∃ q, q = (i + j) / 2 ^ 1 := ⟨_, rfl⟩
        rw [← hh]
        rw [Nat.pow_one] at hh
        refine SX.seq ?_
        refine SC.seq ?_
        obtain ⟨B1, y, B2, hBe, hB1⟩ := pick_at B (i := h - mm) (by omega)
        have hyD : D y := hD y (by rw [hBe]; simp)
        have hBl := congrArg List.length hBe
        simp only [List.length_append, List.length_cons] at hBl
        refine SC.drawn [(0, true), (1, true), (2, true), (3, true), (4, true), (5, true), (6, true), (7, true), (8, true), (9, false), (10, true)] [] (_) (by kernel_rfl) (by kernel_rfl) (fun _ h => h) ?_
        refine St.move rfl rfl ?_
        refine St.move rfl rfl ?_
        refine St.move rfl rfl ?_
        refine St.indexSl (e := 194) (sz := 2) rfl rfl rfl (by kernel_rfl) (by omega) ?_
        refine St.loadAgg (CoinV.cells y) rfl rfl (by kernel_rfl) (srow_at CoinV.len (P ++ ([x] ++ B1)) (B2 ++ S) (by first | (simp; done) | (rw [hBe]; simp)) (by first | omega | (simp; try omega))) ?_
        refine St.move rfl rfl ?_
        refine St.move rfl rfl ?_
        refine St.indexSl (e := 194) (sz := 2) rfl rfl rfl (by kernel_rfl) (by omega) ?_
        refine St.loadAgg (CoinV.cells x) rfl rfl (by kernel_rfl) (srow_at CoinV.len (P) (B ++ S) (by first | (simp; done) | (rw [hBe]; simp)) (by first | omega | (simp; try omega))) ?_
        refine St.callw [_, _] rfl hg rfl rfl (hcmp y x hyD hxD _) (fun _ _ _ h h2 => by obtain ⟨rfl, _⟩ := h; exact h2) ?_
        rintro r L1 ⟨rfl, k, rfl, hk⟩
        refine St.lss rfl rfl rfl ?_
        refine St.done ?_
        refine SX.tail ?_
        refine St.done ?_
        refine SX.seq ?_
        refine SC.condp rfl (fun c50 => ?_) (fun c50 => ?_)
        · refine SC.plain ?_
          refine St.move rfl rfl ?_
          first | refine St.addN (b := 1) rfl rfl rfl (by omega) ?_ | refine St.addI rfl rfl rfl (by omega) ?_
          refine St.assign rfl rfl ?_
          refine St.done ?_
          refine SX.blk ?_
          exact SX.again (h + 1, j) ⟨by simp only; omega, by simp only; omega, hj1, seek_low hs hUB hBe (hk.1 c50) (by omega), hhi⟩ (by simp only; omega) ⟨rfl, rfl, rfl, rfl, rfl, rfl, rfl, trivial⟩ (List.Perm.refl _)
        · refine SC.plain ?_
          refine St.move rfl rfl ?_
          refine St.assign rfl rfl ?_
          refine St.done ?_
          refine SX.blk ?_
          exact SX.again (i, h) ⟨hi1, by simp only; omega, by simp only; omega, hlo, seek_high hs hUB hBe (Bool.eq_false_iff.2 (fun h => c50 (hk.2 h))) (by omega)⟩ (by simp only; omega) ⟨rfl, rfl, rfl, rfl, rfl, rfl, rfl, trivial⟩ (List.Perm.refl _)
      · refine SC.exit ?_
        refine SX.seq_exit ?_
        refine SX.seq_exit ?_
        refine SX.hit ?_
        refine SX.seq ?_
        refine SC.seq ?_
        refine SC.seq ?_
        refine SC.plain ?_
        refine St.move rfl rfl ?_
        refine St.assign rfl rfl ?_
        refine St.done ?_
        refine SX.seq ?_
        refine SC.block ?_
        obtain ⟨B1, B2, hBe, hB1, h1, h2⟩ := seek_end hlo hhi (by omega) (by omega)
        have hBl := congrArg List.length hBe
        rw [List.length_append] at hBl
        obtain ⟨hu, hal⟩ := left_one hs (hBe ▸ hUB) h1 h2
        rw [show [x] ++ (B ++ S) = [] ++ (x :: (B1 ++ (B2 ++ S))) by rw [hBe]; simp]
        refine SC.loop (α := Nat × List CoinV × List CoinV) (fun s => B1 = s.2.1 ++ s.2.2 ∧ s.1 = P.length + s.2.1.length) (fun s => [(0, .slice (some ⟨b, pre.length, none⟩) N cap), (1, .int .i64 ((a : Nat) : Int)), (2, .int .i64 ((mm : Nat) : Int)), (3, .int .i64 ((c : Nat) : Int)), (4, .func (.func g) #[] #[]), (10, .int .i64 ((i : Nat) : Int)), (13, .int .i64 ((s.1 : Nat) : Int))]) (fun s => [⟨b, pre ++ ((P ++ (s.2.1 ++ (x :: (s.2.2 ++ (B2 ++ S))))).flatMap CoinV.cells ++ tail), 194⟩] :: L) (fun s => s.2.2.length) (a, [], B1) ⟨rfl, by simpa using ha⟩ ⟨rfl, rfl, rfl, rfl, rfl, rfl, rfl, trivial⟩ (List.Perm.refl _) ?_
        rintro ⟨k2, U1, U2⟩ ⟨hU, hk2⟩
        simp only at hU hk2 ⊢
        have hUl := congrArg List.length hU
        rw [List.length_append] at hUl
        refine SC.seq ?_
        refine SC.seq ?_
        refine SC.plain ?_
        refine St.move rfl rfl ?_
        refine St.move rfl rfl ?_
        first | refine St.subN (b := 1) rfl rfl rfl (by omega) (by omega) ?_ | refine St.subI rfl rfl rfl (by omega) ?_
        refine St.lss rfl rfl rfl ?_
        refine St.done ?_
        refine SX.seq ?_
        refine SC.condp rfl (fun c58 => ?_) (fun c58 => ?_)
        · obtain ⟨u, U2, rfl⟩ := cons_of (l := U2) (by omega)
          simp only [List.length_cons] at hUl
          refine SC.skip ?_
          refine SX.seq ?_
          refine SC.seq ?_
          refine SC.block ?_
          refine SC.drawn [(0, true), (1, true), (2, true), (3, true), (4, true), (5, true), (6, true), (7, true), (8, true), (9, true), (10, true), (11, true), (12, true), (13, true)] [14, 15, 16, 17] (_) (by kernel_rfl) (by kernel_rfl) (fun _ h => h) ?_
          refine St.move rfl rfl ?_
          refine St.move rfl rfl ?_
          refine St.move rfl rfl ?_
          refine St.move rfl rfl ?_
          first | refine St.addN (b := 1) rfl rfl rfl (by omega) ?_ | refine St.addI rfl rfl rfl (by omega) ?_
          refine St.move rfl rfl ?_
          refine St.move rfl rfl ?_
          first | refine St.addN (b := 1) rfl rfl rfl (by omega) ?_ | refine St.addI rfl rfl rfl (by omega) ?_
          refine St.indexSl (e := 194) (sz := 2) rfl rfl rfl (by kernel_rfl) (by omega) ?_
          refine St.loadAgg (CoinV.cells u) rfl rfl (by kernel_rfl) (srow_at CoinV.len (P ++ (U1 ++ [x])) (U2 ++ (B2 ++ S)) (by simp) (by simp; try omega)) ?_
          refine St.move rfl rfl ?_
          refine St.move rfl rfl ?_
          refine St.indexSl (e := 194) (sz := 2) rfl rfl rfl (by kernel_rfl) (by omega) ?_
          refine St.loadAgg (CoinV.cells x) rfl rfl (by kernel_rfl) (srow_at CoinV.len (P ++ U1) (u :: (U2 ++ (B2 ++ S))) (by simp) (by simp; try omega)) ?_
          refine St.done ?_
          refine SX.tail ?_
          refine St.indexSl (e := 194) (sz := 2) rfl rfl rfl (by kernel_rfl) (by omega) ?_
          refine St.storeN rfl rfl rfl (CoinV.cells u) rfl (by kernel_rfl) (by simp [CoinV.cells, one]) (srow_room CoinV.len (P ++ U1) (u :: (U2 ++ (B2 ++ S))) (y := x) (by simp) (by simp; try omega)) (fun _ h => h.nil) ?_
          rw [srow_put CoinV.len (P ++ U1) (u :: (U2 ++ (B2 ++ S))) (y := x) u (by simp) (by simp; try omega)]
          rw [show ((P ++ U1) ++ u :: (u :: (U2 ++ (B2 ++ S)))) = P ++ (U1 ++ (u :: (u :: (U2 ++ (B2 ++ S))))) by simp]
          refine St.indexSl (e := 194) (sz := 2) rfl rfl rfl (by kernel_rfl) (by omega) ?_
          refine St.storeN rfl rfl rfl (CoinV.cells x) rfl (by kernel_rfl) (by simp [CoinV.cells, one]) (srow_room CoinV.len (P ++ (U1 ++ [u])) (U2 ++ (B2 ++ S)) (y := u) (by simp) (by simp; try omega)) (fun _ h => h.nil) ?_
          rw [srow_put CoinV.len (P ++ (U1 ++ [u])) (U2 ++ (B2 ++ S)) (y := u) x (by simp) (by simp; try omega)]
          rw [show ((P ++ (U1 ++ [u])) ++ x :: (U2 ++ (B2 ++ S))) = P ++ ((U1 ++ [u]) ++ (x :: (U2 ++ (B2 ++ S)))) by simp]
          refine St.done ?_
          refine SX.blk ?_
          refine SX.seq ?_
          refine SC.plain ?_
          refine St.move rfl rfl ?_
          first | refine St.addN (b := 1) rfl rfl rfl (by omega) ?_ | refine St.addI rfl rfl rfl (by omega) ?_
          refine St.assign rfl rfl ?_
          refine St.done ?_
          exact SX.again (k2 + 1, U1 ++ [u], U2) ⟨by rw [hU]; simp, by simp only [List.length_append, List.length_cons, List.length_nil]; omega⟩ (by simp only [List.length_cons]; omega) ⟨rfl, rfl, rfl, rfl, rfl, rfl, rfl, trivial⟩ (List.Perm.refl _)
        · have h0 : U2 = [] := List.eq_nil_of_length_eq_zero (by omega)
          subst h0
          rw [List.append_nil] at hU
          subst hU
          refine SC.exit ?_
          refine SX.seq_exit ?_
          refine SX.seq_exit ?_
          refine SX.hit ?_
          refine SX.seq ?_
          refine SC.ret ?_
          refine SX.seq_ret ?_
          exact SX.ret0 (.inl rfl) rfl ⟨B1 ++ x :: B2, by simp only [List.length_append, List.length_cons, List.length_nil]; omega, hu, by rw [hBe]; exact hal, by simp⟩
    · refine SC.skip ?_
      refine SX.seq ?_
      refine SC.seq ?_
      refine SC.seq ?_
      refine SC.plain ?_
      refine St.move rfl rfl ?_
      refine St.move rfl rfl ?_
      first | refine St.subN rfl rfl rfl (by omega) (by omega) ?_ | refine St.subI rfl rfl rfl (by omega) ?_
      refine St.eql rfl rfl rfl ?_
      refine St.done ?_
      refine SX.seq ?_
      refine SC.condp rfl (fun c80 => ?_) (fun c80 => ?_)
      · obtain ⟨y, rfl⟩ : ∃ y, B = [y] := List.length_eq_one_iff.1 (by omega)
        simp only [List.length_cons, List.length_nil] at hc hN
        have hyD : D y := hD y (by simp)
        refine SC.seq ?_
        refine SC.plain ?_
        refine St.move rfl rfl ?_
        refine St.assign rfl rfl ?_
        refine St.done ?_
        refine SX.seq ?_
        refine SC.seq ?_
        refine SC.plain ?_
        refine St.move rfl rfl ?_
        refine St.assign rfl rfl ?_
        refine St.done ?_
        refine SX.seq ?_
        refine SC.seq ?_
        refine SC.block ?_
        refine SC.loop (α := Nat × Nat) (fun s => a ≤ s.1 ∧ s.1 ≤ s.2 ∧ s.2 ≤ mm ∧ (∀ z ∈ A.take (s.1 - a), lt y z = false) ∧ (∀ z ∈ A.drop (s.2 - a), lt y z = true)) (fun s => [(0, .slice (some ⟨b, pre.length, none⟩) N cap), (1, .int .i64 ((a : Nat) : Int)), (2, .int .i64 ((mm : Nat) : Int)), (3, .int .i64 ((c : Nat) : Int)), (4, .func (.func g) #[] #[]), (14, .int .i64 ((s.1 : Nat) : Int)), (15, .int .i64 ((s.2 : Nat) : Int))]) (fun _ => [⟨b, pre ++ ((P ++ (A ++ ([y] ++ S))).flatMap CoinV.cells ++ tail), 194⟩] :: L) (fun s => s.2 - s.1) (a, mm) ⟨Nat.le_refl _, by simp only; omega, Nat.le_refl _, by simp, by simp only; rw [List.drop_eq_nil_of_le (by omega)]; simp⟩ ⟨rfl, rfl, rfl, rfl, rfl, rfl, rfl, trivial⟩ (List.Perm.refl _) ?_
        rintro ⟨i, j⟩ ⟨hi1, hij, hj1, hlo, hhi⟩
        simp only at hi1 hij hj1 hlo hhi ⊢
        refine SC.seq ?_
        refine SC.seq ?_
        refine SC.plain ?_
        refine St.move rfl rfl ?_
        refine St.move rfl rfl ?_
        refine St.lss rfl rfl rfl ?_
        refine St.done ?_
        refine SX.seq ?_
        refine SC.condp rfl (fun c85 => ?_) (fun c85 => ?_)
        · refine SC.skip ?_
          refine SX.seq ?_
          refine SC.block ?_
          refine SC.seq ?_
          refine SC.plain ?_
          refine St.move rfl rfl ?_
          refine St.move rfl rfl ?_
          first | refine St.addN rfl rfl rfl (by omega) ?_ | refine St.addI rfl rfl rfl (by omega) ?_
          first | refine St.convUx un64 rfl rfl (by kernel_rfl) (by kernel_rfl) (by omega) ?_ | refine St.convU un64 rfl rfl (by kernel_rfl) (by kernel_rfl) ?_ | refine St.convZ un64 rfl rfl (by kernel_rfl) (by kernel_rfl) ?_
          first | refine St.shrU un64 (b := 1) rfl rfl rfl (by show _ ≤ (64 : Nat); omega) ?_ | refine St.shr rfl rfl rfl (by omega) ?_
          refine St.convS rfl rfl (by kernel_rfl) (by kernel_rfl) (by omega) ?_
          refine St.assign rfl rfl ?_
          refine St.done ?_
          obtain ⟨h, hh⟩ : ∃ q, q = (i + j) / 2 ^ 1 := ⟨_, rfl⟩
          rw [← hh]
          rw [Nat.pow_one] at hh
          refine SX.seq ?_
          refine SC.seq ?_
          obtain ⟨A1, x, A2, hAe, hA1⟩ := pick_at A (i := h - a) (by omega)
          have hxD : D x := hD x (by rw [hAe]; simp)
          have hAl := congrArg List.length hAe
          simp only [List.length_append, List.length_cons] at hAl
          refine SC.drawn [(0, true), (1, true), (2, true), (3, true), (4, true), (5, true), (6, true), (7, true), (8, true), (9, false), (10, true), (11, true)] [] (_) (by kernel_rfl) (by kernel_rfl) (fun _ h => h) ?_
          refine St.move rfl rfl ?_
          refine St.move rfl rfl ?_
          refine St.move rfl rfl ?_
          refine St.indexSl (e := 194) (sz := 2) rfl rfl rfl (by kernel_rfl) (by omega) ?_
          refine St.loadAgg (CoinV.cells y) rfl rfl (by kernel_rfl) (srow_at CoinV.len (P ++ A) (S) (by first | (simp; done) | (rw [hAe]; simp)) (by first | omega | (simp; try omega))) ?_
          refine St.move rfl rfl ?_
          refine St.move rfl rfl ?_
          refine St.indexSl (e := 194) (sz := 2) rfl rfl rfl (by kernel_rfl) (by omega) ?_
          refine St.loadAgg (CoinV.cells x) rfl rfl (by kernel_rfl) (srow_at CoinV.len (P ++ A1) (A2 ++ ([y] ++ S)) (by first | (simp; done) | (rw [hAe]; simp)) (by first | omega | (simp; try omega))) ?_
          refine St.callw [_, _] rfl hg rfl rfl (hcmp y x hyD hxD _) (fun _ _ _ h h2 => by obtain ⟨rfl, _⟩ := h; exact h2) ?_
          rintro r L1 ⟨rfl, k, rfl, hk⟩
          refine St.lss rfl rfl rfl ?_
          refine St.notB rfl rfl ?_
          refine St.done ?_
          refine SX.tail ?_
          refine St.done ?_
          refine SX.seq ?_
          refine SC.cond rfl (fun c103 => ?_) (fun c103 => ?_)
          · refine SC.plain ?_
            refine St.move rfl rfl ?_
            first | refine St.addN (b := 1) rfl rfl rfl (by omega) ?_ | refine St.addI rfl rfl rfl (by omega) ?_
            refine St.assign rfl rfl ?_
            refine St.done ?_
            refine SX.blk ?_
            exact SX.again (h + 1, j) ⟨by simp only; omega, by simp only; omega, hj1, seek_low' hs hUA hAe (Bool.eq_false_iff.2 (fun h => by have := hk.2 h; simp [this] at c103)) (by omega), hhi⟩ (by simp only; omega) ⟨rfl, rfl, rfl, rfl, rfl, rfl, rfl, trivial⟩ (List.Perm.refl _)
          · refine SC.plain ?_
            refine St.move rfl rfl ?_
            refine St.assign rfl rfl ?_
            refine St.done ?_
            refine SX.blk ?_
            exact SX.again (i, h) ⟨hi1, by simp only; omega, by simp only; omega, hlo, seek_high' hs hUA hAe (hk.1 (by simpa using c103)) (by omega)⟩ (by simp only; omega) ⟨rfl, rfl, rfl, rfl, rfl, rfl, rfl, trivial⟩ (List.Perm.refl _)
        · refine SC.exit ?_
          refine SX.seq_exit ?_
          refine SX.seq_exit ?_
          refine SX.hit ?_
          refine SX.seq ?_
          refine SC.seq ?_
          refine SC.seq ?_
          refine SC.plain ?_
          refine St.move rfl rfl ?_
          refine St.assign rfl rfl ?_
          refine St.done ?_
          refine SX.seq ?_
          refine SC.block ?_
          obtain ⟨A1, A2, hAe, hA1, h1, h2⟩ := seek_end hlo hhi (by omega) (by omega)
          have hAl := congrArg List.length hAe
          rw [List.length_append] at hAl
          obtain ⟨hu, hal⟩ := right_one hs (hAe ▸ hUA) h1 h2
          rw [show A ++ ([y] ++ S) = A1 ++ (A2 ++ (y :: ([] ++ S))) by rw [hAe]; simp]
          refine SC.loop (α := Nat × List CoinV × List CoinV) (fun s => A2 = s.2.1 ++ s.2.2 ∧ s.1 = P.length + A1.length + s.2.1.length) (fun s => [(0, .slice (some ⟨b, pre.length, none⟩) N cap), (1, .int .i64 ((a : Nat) : Int)), (2, .int .i64 ((mm : Nat) : Int)), (3, .int .i64 ((c : Nat) : Int)), (4, .func (.func g) #[] #[]), (14, .int .i64 ((i : Nat) : Int)), (17, .int .i64 ((s.1 : Nat) : Int))]) (fun s => [⟨b, pre ++ ((P ++ (A1 ++ (s.2.1 ++ (y :: (s.2.2 ++ S))))).flatMap CoinV.cells ++ tail), 194⟩] :: L) (fun s => s.1) (mm, A2, []) ⟨by simp, by simp only; omega⟩ ⟨rfl, rfl, rfl, rfl, rfl, rfl, rfl, trivial⟩ (List.Perm.refl _) ?_
          rintro ⟨k2, U1, U2⟩ ⟨hU, hk2⟩
          simp only at hU hk2 ⊢
          have hUl := congrArg List.length hU
          rw [List.length_append] at hUl
          refine SC.seq ?_
          refine SC.seq ?_
          refine SC.plain ?_
          refine St.move rfl rfl ?_
          refine St.move rfl rfl ?_
          refine St.gtr rfl rfl rfl ?_
          refine St.done ?_
          refine SX.seq ?_
          refine SC.condp rfl (fun c110 => ?_) (fun c110 => ?_)
          · obtain ⟨U0, u, rfl⟩ := snoc_of (l := U1) (by omega)
            simp only [List.length_append, List.length_cons, List.length_nil] at hUl hk2
            refine SC.skip ?_
            refine SX.seq ?_
            refine SC.seq ?_
            refine SC.block ?_
            refine SC.drawn [(0, true), (1, true), (2, true), (3, true), (4, true), (5, true), (6, true), (7, true), (8, true), (9, true), (10, true), (11, true), (12, true), (13, true)] [14, 15, 16, 17] (_) (by kernel_rfl) (by kernel_rfl) (fun _ h => h) ?_
            refine St.move rfl rfl ?_
            refine St.move rfl rfl ?_
            refine St.move rfl rfl ?_
            refine St.move rfl rfl ?_
            first | refine St.subN (b := 1) rfl rfl rfl (by omega) (by omega) ?_ | refine St.subI rfl rfl rfl (by omega) ?_
            refine St.move rfl rfl ?_
            refine St.move rfl rfl ?_
            first | refine St.subN (b := 1) rfl rfl rfl (by omega) (by omega) ?_ | refine St.subI rfl rfl rfl (by omega) ?_
            refine St.indexSl (e := 194) (sz := 2) rfl rfl rfl (by kernel_rfl) (by omega) ?_
            refine St.loadAgg (CoinV.cells u) rfl rfl (by kernel_rfl) (srow_at CoinV.len (P ++ (A1 ++ U0)) (y :: (U2 ++ S)) (by simp) (by simp; try omega)) ?_
            refine St.move rfl rfl ?_
            refine St.move rfl rfl ?_
            refine St.indexSl (e := 194) (sz := 2) rfl rfl rfl (by kernel_rfl) (by omega) ?_
            refine St.loadAgg (CoinV.cells y) rfl rfl (by kernel_rfl) (srow_at CoinV.len (P ++ (A1 ++ (U0 ++ [u]))) (U2 ++ S) (by simp) (by simp; try omega)) ?_
            refine St.done ?_
            refine SX.tail ?_
            refine St.indexSl (e := 194) (sz := 2) rfl rfl rfl (by kernel_rfl) (by omega) ?_
            refine St.storeN rfl rfl rfl (CoinV.cells u) rfl (by kernel_rfl) (by simp [CoinV.cells, one]) (srow_room CoinV.len (P ++ (A1 ++ (U0 ++ [u]))) (U2 ++ S) (y := y) (by simp) (by simp; try omega)) (fun _ h => h.nil) ?_
            rw [srow_put CoinV.len (P ++ (A1 ++ (U0 ++ [u]))) (U2 ++ S) (y := y) u (by simp) (by simp; try omega)]
            rw [show ((P ++ (A1 ++ (U0 ++ [u]))) ++ u :: (U2 ++ S)) = P ++ (A1 ++ ((U0 ++ [u]) ++ (u :: (U2 ++ S)))) by simp]
            refine St.indexSl (e := 194) (sz := 2) rfl rfl rfl (by kernel_rfl) (by omega) ?_
            refine St.storeN rfl rfl rfl (CoinV.cells y) rfl (by kernel_rfl) (by simp [CoinV.cells, one]) (srow_room CoinV.len (P ++ (A1 ++ U0)) (u :: (U2 ++ S)) (y := u) (by simp) (by simp; try omega)) (fun _ h => h.nil) ?_
            rw [srow_put CoinV.len (P ++ (A1 ++ U0)) (u :: (U2 ++ S)) (y := u) y (by simp) (by simp; try omega)]
            rw [show ((P ++ (A1 ++ U0)) ++ y :: (u :: (U2 ++ S))) = P ++ (A1 ++ (U0 ++ (y :: ((u :: U2) ++ S)))) by simp]
            refine St.done ?_
            refine SX.blk ?_
            refine SX.seq ?_
            refine SC.plain ?_
            refine St.move rfl rfl ?_
            first | refine St.subN (b := 1) rfl rfl rfl (by omega) (by omega) ?_ | refine St.subI rfl rfl rfl (by omega) ?_
            refine St.assign rfl rfl ?_
            refine St.done ?_
            exact SX.again (k2 - 1, U0, u :: U2) ⟨by rw [hU]; simp, by simp only; omega⟩ (by simp only; omega) ⟨rfl, rfl, rfl, rfl, rfl, rfl, rfl, trivial⟩ (List.Perm.refl _)
          · have h0 : U1 = [] := List.eq_nil_of_length_eq_zero (by omega)
            subst h0
            rw [List.nil_append] at hU
            subst hU
            refine SC.exit ?_
            refine SX.seq_exit ?_
            refine SX.seq_exit ?_
            refine SX.hit ?_
            refine SX.seq ?_
            refine SC.ret ?_
            refine SX.seq_ret ?_
            exact SX.ret0 (.inl rfl) rfl ⟨A1 ++ y :: A2, by simp only [List.length_append, List.length_cons, List.length_nil]; omega, hu, by rw [hAe]; exact hal, by simp⟩
      · refine SC.skip ?_
        refine SX.seq ?_
        refine SC.seq ?_
        refine SC.plain ?_
        refine St.move rfl rfl ?_
        refine St.move rfl rfl ?_
        first | refine St.addN rfl rfl rfl (by omega) ?_ | refine St.addI rfl rfl rfl (by omega) ?_
        first | refine St.convUx un64 rfl rfl (by kernel_rfl) (by kernel_rfl) (by omega) ?_ | refine St.convU un64 rfl rfl (by kernel_rfl) (by kernel_rfl) ?_ | refine St.convZ un64 rfl rfl (by kernel_rfl) (by kernel_rfl) ?_
        first | refine St.shrU un64 (b := 1) rfl rfl rfl (by show _ ≤ (64 : Nat); omega) ?_ | refine St.shr rfl rfl rfl (by omega) ?_
        refine St.convS rfl rfl (by kernel_rfl) (by kernel_rfl) (by omega) ?_
        refine St.assign rfl rfl ?_
        refine St.done ?_
        obtain ⟨mid, hmid⟩ : ∃ q, q = (a + c) / 2 ^ 1 := ⟨_, rfl⟩
        rw [← hmid]
        rw [Nat.pow_one] at hmid
        refine SX.seq ?_
        refine SC.seq ?_
        refine SC.plain ?_
        refine St.move rfl rfl ?_
        refine St.move rfl rfl ?_
        first | refine St.addN rfl rfl rfl (by omega) ?_ | refine St.addI rfl rfl rfl (by omega) ?_
        refine St.assign rfl rfl ?_
        refine St.done ?_
        refine SX.seq ?_
        refine SC.seq ?_
        refine SC.plain ?_
        refine St.assign rfl rfl ?_
        refine St.assign rfl rfl ?_
        refine St.done ?_
        refine SX.seq ?_
        refine SC.join (α := Nat × Nat) (fun s => SI1 lt A B a mid s.1 ∧ SI2 lt A B a mid s.2 ∧ a ≤ s.1 ∧ s.1 ≤ s.2 ∧ s.2 ≤ mid ∧ s.2 ≤ mm ∧ mid ≤ B.length + s.1) (fun s => [(0, .slice (some ⟨b, pre.length, none⟩) N cap), (1, .int .i64 ((a : Nat) : Int)), (2, .int .i64 ((mm : Nat) : Int)), (3, .int .i64 ((c : Nat) : Int)), (4, .func (.func g) #[] #[]), (18, .int .i64 ((mid : Nat) : Int)), (19, .int .i64 ((mid + mm : Nat) : Int)), (20, .int .i64 ((s.1 : Nat) : Int)), (21, .int .i64 ((s.2 : Nat) : Int))]) (fun _ => [⟨b, pre ++ ((P ++ (A ++ (B ++ S))).flatMap CoinV.cells ++ tail), 194⟩] :: L) ?_ ?_
        · rintro ⟨s, r⟩ ⟨h1, h2, has, hsr, hrm, hrmm, hsB⟩
          simp only at h1 h2 has hsr hrm hrmm hsB ⊢
          refine SC.seq ?_
          refine SC.plain ?_
          refine St.move rfl rfl ?_
          first | refine St.subN (b := 1) rfl rfl rfl (by omega) (by omega) ?_ | refine St.subI rfl rfl rfl (by omega) ?_
          refine St.assign rfl rfl ?_
          refine St.done ?_
          refine SX.seq ?_
          refine SC.seq ?_
          refine SC.block ?_
          refine SC.loop (α := Nat × Nat) (fun s => SI1 lt A B a mid s.1 ∧ SI2 lt A B a mid s.2 ∧ a ≤ s.1 ∧ s.1 ≤ s.2 ∧ s.2 ≤ mid ∧ s.2 ≤ mm ∧ mid ≤ B.length + s.1) (fun s => [(0, .slice (some ⟨b, pre.length, none⟩) N cap), (1, .int .i64 ((a : Nat) : Int)), (2, .int .i64 ((mm : Nat) : Int)), (3, .int .i64 ((c : Nat) : Int)), (4, .func (.func g) #[] #[]), (18, .int .i64 ((mid : Nat) : Int)), (19, .int .i64 ((mid + mm : Nat) : Int)), (20, .int .i64 ((s.1 : Nat) : Int)), (21, .int .i64 ((s.2 : Nat) : Int)), (22, .int .i64 ((mid + mm - 1 : Nat) : Int))]) (fun _ => [⟨b, pre ++ ((P ++ (A ++ (B ++ S))).flatMap CoinV.cells ++ tail), 194⟩] :: L) (fun s => s.2 - s.1) (s, r) ⟨h1, h2, has, hsr, hrm, hrmm, hsB⟩ ⟨rfl, rfl, rfl, rfl, rfl, rfl, rfl, rfl, rfl, rfl, trivial⟩ (List.Perm.refl _) ?_
          clear h1 h2 has hsr hrm hrmm hsB s r
          rintro ⟨s, r⟩ ⟨h1, h2, has, hsr, hrm, hrmm, hsB⟩
          simp only at h1 h2 has hsr hrm hrmm hsB ⊢
          refine SC.seq ?_
          refine SC.seq ?_
          refine SC.plain ?_
          refine St.move rfl rfl ?_
          refine St.move rfl rfl ?_
          refine St.lss rfl rfl rfl ?_
          refine St.done ?_
          refine SX.seq ?_
          refine SC.condp rfl (fun c151 => ?_) (fun c151 => ?_)
          · refine SC.skip ?_
            refine SX.seq ?_
            refine SC.block ?_
            refine SC.seq ?_
            refine SC.plain ?_
            refine St.move rfl rfl ?_
            refine St.move rfl rfl ?_
            first | refine St.addN rfl rfl rfl (by omega) ?_ | refine St.addI rfl rfl rfl (by omega) ?_
            first | refine St.convUx un64 rfl rfl (by kernel_rfl) (by kernel_rfl) (by omega) ?_ | refine St.convU un64 rfl rfl (by kernel_rfl) (by kernel_rfl) ?_ | refine St.convZ un64 rfl rfl (by kernel_rfl) (by kernel_rfl) ?_
            first | refine St.shrU un64 (b := 1) rfl rfl rfl (by show _ ≤ (64 : Nat); omega) ?_ | refine St.shr rfl rfl rfl (by omega) ?_
            refine St.convS rfl rfl (by kernel_rfl) (by kernel_rfl) (by omega) ?_
            refine St.assign rfl rfl ?_
            refine St.done ?_
            obtain ⟨h, hh⟩ : ∃ q, q = (s + r) / 2 ^ 1 := ⟨_, rfl⟩
            rw [← hh]
            rw [Nat.pow_one] at hh
            refine SX.seq ?_
            refine SC.seq ?_
            obtain ⟨A1, x, A2, hAe, hA1⟩ := pick_at A (i := h - a) (by omega)
            obtain ⟨B1, y, B2, hBe, hB1⟩ := pick_at B (i := mid - h - 1) (by omega)
            have hxD : D x := hD x (by rw [hAe]; simp)
            have hyD : D y := hD y (by rw [hBe]; simp)
            have hAl := congrArg List.length hAe
            have hBl := congrArg List.length hBe
            simp only [List.length_append, List.length_cons] at hAl hBl
            refine SC.drawn [(0, true), (1, true), (2, true), (3, true), (4, true), (5, true), (6, true), (7, true), (8, true), (9, true), (10, true), (11, false), (12, true), (13, true)] [] (_) (by kernel_rfl) (by kernel_rfl) (fun _ h => h) ?_
            refine St.move rfl rfl ?_
            refine St.move rfl rfl ?_
            refine St.move rfl rfl ?_
            refine St.move rfl rfl ?_
            first | refine St.subN rfl rfl rfl (by omega) (by omega) ?_ | refine St.subI rfl rfl rfl (by omega) ?_
            refine St.indexSl (e := 194) (sz := 2) rfl rfl rfl (by kernel_rfl) (by omega) ?_
            refine St.loadAgg (CoinV.cells y) rfl rfl (by kernel_rfl) (srow_at CoinV.len (P ++ (A ++ B1)) (B2 ++ S) (by first | (simp; done) | (rw [hBe]; simp)) (by first | omega | (simp; try omega))) ?_
            refine St.move rfl rfl ?_
            refine St.move rfl rfl ?_
            refine St.indexSl (e := 194) (sz := 2) rfl rfl rfl (by kernel_rfl) (by omega) ?_
            refine St.loadAgg (CoinV.cells x) rfl rfl (by kernel_rfl) (srow_at CoinV.len (P ++ A1) (A2 ++ (B ++ S)) (by first | (simp; done) | (rw [hAe]; simp)) (by first | omega | (simp; try omega))) ?_
            refine St.callw [_, _] rfl hg rfl rfl (hcmp y x hyD hxD _) (fun _ _ _ h h2 => by obtain ⟨rfl, _⟩ := h; exact h2) ?_
            rintro r L1 ⟨rfl, k, rfl, hk⟩
            refine St.lss rfl rfl rfl ?_
            refine St.notB rfl rfl ?_
            refine St.done ?_
            refine SX.tail ?_
            refine St.done ?_
            refine SX.seq ?_
            refine SC.cond rfl (fun c171 => ?_) (fun c171 => ?_)
            · refine SC.plain ?_
              refine St.move rfl rfl ?_
              first | refine St.addN (b := 1) rfl rfl rfl (by omega) ?_ | refine St.addI rfl rfl rfl (by omega) ?_
              refine St.assign rfl rfl ?_
              refine St.done ?_
              refine SX.blk ?_
              exact SX.again (h + 1, r) ⟨.inr (.inr ⟨x, y, get_pick hAe (by omega), get_pick hBe (by omega), Bool.eq_false_iff.2 (fun h => by have := hk.2 h; simp [this] at c171)⟩), h2, by simp only; omega, by simp only; omega, hrm, hrmm, by simp only; omega⟩ (by simp only; omega) ⟨rfl, rfl, rfl, rfl, rfl, rfl, rfl, rfl, rfl, rfl, trivial⟩ (List.Perm.refl _)
            · refine SC.plain ?_
              refine St.move rfl rfl ?_
              refine St.assign rfl rfl ?_
              refine St.done ?_
              refine SX.blk ?_
              exact SX.again (s, h) ⟨h1, .inr (.inr ⟨x, y, get_pick hAe (by omega), get_pick hBe (by omega), hk.1 (by simpa using c171)⟩), has, by simp only; omega, by simp only; omega, by simp only; omega, hsB⟩ (by simp only; omega) ⟨rfl, rfl, rfl, rfl, rfl, rfl, rfl, rfl, rfl, rfl, trivial⟩ (List.Perm.refl _)
          · refine SC.exit ?_
            refine SX.seq_exit ?_
            refine SX.seq_exit ?_
            refine SX.hit ?_
            refine SX.seq ?_
            refine SC.seq ?_
            obtain rfl : s = r := by omega
            obtain ⟨A1, A2, hAe, hA1⟩ := split_at A (s - a) (by omega)
            obtain ⟨B1, B2, hBe, hB1⟩ := split_at B (mid - s) (by omega)
            have hAl := congrArg List.length hAe
            have hBl := congrArg List.length hBe
            rw [List.length_append] at hAl hBl
            obtain ⟨h12, h21⟩ := sym_bounds hs hUA hUB h1 h2 has hrm hAe hA1 hBe hB1
            obtain ⟨huA1, huA2, _⟩ := Srt.Up.app.1 (hAe ▸ hUA)
            obtain ⟨huB1, huB2, _⟩ := Srt.Up.app.1 (hBe ▸ hUB)
            rw [show P ++ (A ++ (B ++ S)) = (P ++ A1) ++ (A2 ++ (B1 ++ (B2 ++ S))) by rw [hAe, hBe]; simp]
            refine SC.plain ?_
            refine St.move rfl rfl ?_
            refine St.move rfl rfl ?_
            first | refine St.subN rfl rfl rfl (by omega) (by omega) ?_ | refine St.subI rfl rfl rfl (by omega) ?_
            refine St.assign rfl rfl ?_
            refine St.done ?_
            refine SX.seq ?_
            refine SC.join (α := Unit) (fun _ => True) (fun _ => [(0, .slice (some ⟨b, pre.length, none⟩) N cap), (1, .int .i64 ((a : Nat) : Int)), (2, .int .i64 ((mm : Nat) : Int)), (3, .int .i64 ((c : Nat) : Int)), (4, .func (.func g) #[] #[]), (18, .int .i64 ((mid : Nat) : Int)), (20, .int .i64 ((s : Nat) : Int)), (24, .int .i64 ((mid + mm - s : Nat) : Int))]) (fun _ => [⟨b, pre ++ ((P ++ (A1 ++ (B1 ++ (A2 ++ (B2 ++ S))))).flatMap CoinV.cells ++ tail), 194⟩] :: L) ?_ ?_
            · rintro ⟨⟩ -
              show SC _ _ _ [(0, .slice (some ⟨b, pre.length, none⟩) N cap), (1, .int .i64 ((a : Nat) : Int)), (2, .int .i64 ((mm : Nat) : Int)), (3, .int .i64 ((c : Nat) : Int)), (4, .func (.func g) #[] #[]), (18, .int .i64 ((mid : Nat) : Int)), (20, .int .i64 ((s : Nat) : Int)), (24, .int .i64 ((mid + mm - s : Nat) : Int))] ([⟨b, pre ++ ((P ++ (A1 ++ (B1 ++ (A2 ++ (B2 ++ S))))).flatMap CoinV.cells ++ tail), 194⟩] :: L)
              refine SC.join (α := List CoinV) (fun M1 => M1.length = A1.length + B1.length ∧ Srt.Up lt M1 ∧ Srt.Alike lt M1 (A1 ++ B1)) (fun M1 => [(0, .slice (some ⟨b, pre.length, none⟩) N cap), (1, .int .i64 ((a : Nat) : Int)), (2, .int .i64 ((mm : Nat) : Int)), (3, .int .i64 ((c : Nat) : Int)), (4, .func (.func g) #[] #[]), (18, .int .i64 ((mid : Nat) : Int)), (24, .int .i64 ((mid + mm - s : Nat) : Int))]) (fun M1 => [⟨b, pre ++ (((P ++ M1) ++ (A2 ++ (B2 ++ S))).flatMap CoinV.cells ++ tail), 194⟩] :: L) ?_ ?_
              · rintro M1 ⟨hM1, huM, haM⟩
                refine SC.seq ?_
                refine SC.plain ?_
                refine St.move rfl rfl ?_
                refine St.move rfl rfl ?_
                refine St.lss rfl rfl rfl ?_
                refine St.move rfl rfl ?_
                refine St.split 209 rfl (fun g209 => ?_) (fun g209 => ?_)
                · refine St.guard_yes rfl rfl ?_
                  refine St.move rfl rfl ?_
                  refine St.guard_yes rfl rfl ?_
                  refine St.move rfl rfl ?_
                  refine St.guard_yes rfl rfl ?_
                  refine St.lss rfl rfl rfl ?_
                  refine St.pick_true rfl rfl rfl ?_
                  refine St.done ?_
                  refine SX.seq ?_
                  refine SC.condp rfl (fun c213 => ?_) (fun c213 => ?_)
                  · refine SC.plain ?_
                    refine St.move rfl rfl ?_
                    refine St.move rfl rfl ?_
                    refine St.move rfl rfl ?_
                    refine St.move rfl rfl ?_
                    refine St.move rfl rfl ?_
                    refine St.call [_, _, _, _, _] rfl (by kernel_rfl) rfl (ih (P ++ M1) A2 B2 S _ _ _ (by rw [List.length_append]; omega) (by rw [List.length_append]; omega) (by rw [List.length_append]; omega) (by omega) (by omega) (by omega) huA2 huB2 (fun x hx => hD x (by rcases List.mem_append.1 hx with h | h <;> simp [hAe, hBe, h])) (by simp only [List.length_append]; omega) hb) (fun _ _ _ _ h => h.nil) ?_
                    rintro r L1 ⟨M2, hM2, huM2, haM2, rfl⟩
                    refine St.done ?_
                    obtain ⟨hu3, ha3⟩ := Srt.sym_step hs (hAe ▸ hUA) (hBe ▸ hUB) h12 h21 huM haM huM2 (haM2)
                    exact SX.ret0 (.inr rfl) rfl ⟨M1 ++ M2, by simp only [List.length_append] at *; omega, hu3, by rw [hAe, hBe]; exact ha3, by simp only [List.append_assoc]⟩
                  · refine SC.skip ?_
                    have h0 : B2 = [] := List.eq_nil_of_length_eq_zero (by omega)
                    subst h0
                    try simp only [List.nil_append]
                    obtain ⟨hu3, ha3⟩ := Srt.sym_step hs (hAe ▸ hUA) (hBe ▸ hUB) h12 h21 huM haM huA2 (by rw [List.append_nil]; exact Srt.Alike.refl _)
                    exact SX.ret0 (.inr rfl) rfl ⟨M1 ++ A2, by simp only [List.length_append] at *; omega, hu3, by rw [hAe, hBe]; exact ha3, by simp only [List.append_assoc]⟩
                · refine St.guard_no rfl rfl rfl ?_
                  refine St.guard_no rfl rfl rfl ?_
                  refine St.guard_no rfl rfl rfl ?_
                  refine St.pick_false rfl rfl rfl ?_
                  refine St.done ?_
                  refine SX.seq ?_
                  refine SC.cond_false rfl ?_
                  refine SC.skip ?_
                  have h0 : A2 = [] := List.eq_nil_of_length_eq_zero (by omega)
                  subst h0
                  try simp only [List.nil_append]
                  obtain ⟨hu3, ha3⟩ := Srt.sym_step hs (hAe ▸ hUA) (hBe ▸ hUB) h12 h21 huM haM huB2 (by rw [List.nil_append]; exact Srt.Alike.refl _)
                  exact SX.ret0 (.inr rfl) rfl ⟨M1 ++ B2, by simp only [List.length_append] at *; omega, hu3, by rw [hAe, hBe]; exact ha3, by simp only [List.append_assoc]⟩
              · refine SC.seq ?_
                refine SC.plain ?_
                refine St.move rfl rfl ?_
                refine St.move rfl rfl ?_
                refine St.lss rfl rfl rfl ?_
                refine St.move rfl rfl ?_
                refine St.split 195 rfl (fun g195 => ?_) (fun g195 => ?_)
                · refine St.guard_yes rfl rfl ?_
                  refine St.move rfl rfl ?_
                  refine St.guard_yes rfl rfl ?_
                  refine St.move rfl rfl ?_
                  refine St.guard_yes rfl rfl ?_
                  refine St.lss rfl rfl rfl ?_
                  refine St.pick_true rfl rfl rfl ?_
                  refine St.done ?_
                  refine SX.seq ?_
                  refine SC.condp rfl (fun c199 => ?_) (fun c199 => ?_)
                  · refine SC.plain ?_
                    refine St.move rfl rfl ?_
                    refine St.move rfl rfl ?_
                    refine St.move rfl rfl ?_
                    refine St.move rfl rfl ?_
                    refine St.move rfl rfl ?_
                    refine St.call [_, _, _, _, _] rfl (by kernel_rfl) rfl (ih P A1 B1 (A2 ++ (B2 ++ S)) _ _ _ ha (by omega) (by omega) (by omega) (by omega) (by omega) huA1 huB1 (fun x hx => hD x (by rcases List.mem_append.1 hx with h | h <;> simp [hAe, hBe, h])) (by simp only [List.length_append]; omega) hb) (fun _ _ _ _ h => h.nil) ?_
                    rintro r L1 ⟨M1, hM1, huM, haM, rfl⟩
                    refine St.done ?_
                    exact SX.some M1 ⟨hM1, huM, haM⟩ ⟨rfl, rfl, rfl, rfl, rfl, rfl, rfl, trivial⟩ (by simp only [List.append_assoc]; exact List.Perm.refl _)
                  · refine SC.skip ?_
                    have h0 : B1 = [] := List.eq_nil_of_length_eq_zero (by omega)
                    exact SX.some A1 ⟨by rw [h0]; simp, huA1, by rw [h0, List.append_nil]; exact Srt.Alike.refl _⟩ ⟨rfl, rfl, rfl, rfl, rfl, rfl, rfl, trivial⟩ (by rw [h0]; simp only [List.append_assoc, List.nil_append]; exact List.Perm.refl _)
                · refine St.guard_no rfl rfl rfl ?_
                  refine St.guard_no rfl rfl rfl ?_
                  refine St.guard_no rfl rfl rfl ?_
                  refine St.pick_false rfl rfl rfl ?_
                  refine St.done ?_
                  refine SX.seq ?_
                  refine SC.cond_false rfl ?_
                  refine SC.skip ?_
                  have h0 : A1 = [] := List.eq_nil_of_length_eq_zero (by omega)
                  exact SX.some B1 ⟨by rw [h0]; simp, huB1, by rw [h0, List.nil_append]; exact Srt.Alike.refl _⟩ ⟨rfl, rfl, rfl, rfl, rfl, rfl, rfl, trivial⟩ (by rw [h0]; simp only [List.append_assoc, List.nil_append]; exact List.Perm.refl _)
            · refine SC.seq ?_
              refine SC.plain ?_
              refine St.move rfl rfl ?_
              refine St.move rfl rfl ?_
              refine St.lss rfl rfl rfl ?_
              refine St.move rfl rfl ?_
              refine St.split 181 rfl (fun g181 => ?_) (fun g181 => ?_)
              · refine St.guard_yes rfl rfl ?_
                refine St.move rfl rfl ?_
                refine St.guard_yes rfl rfl ?_
                refine St.move rfl rfl ?_
                refine St.guard_yes rfl rfl ?_
                refine St.lss rfl rfl rfl ?_
                refine St.pick_true rfl rfl rfl ?_
                refine St.done ?_
                refine SX.seq ?_
                refine SC.condp rfl (fun c185 => ?_) (fun c185 => ?_)
                · refine SC.plain ?_
                  refine St.move rfl rfl ?_
                  refine St.move rfl rfl ?_
                  refine St.move rfl rfl ?_
                  refine St.move rfl rfl ?_
                  refine St.move rfl rfl ?_
                  refine St.call [_, _, _, _, _] rfl (by kernel_rfl) rfl (rotC_spec w0 L b cap N pre tail _ (P ++ A1) A2 B1 (B2 ++ S) _ _ _ (by rw [List.length_append]; omega) (by rw [List.length_append]; omega) (by rw [List.length_append]; omega) (by omega) (by omega) (by simp only [List.length_append]; omega) hb) (fun _ _ _ _ h => h.nil) ?_
                  rintro r L1 rfl
                  refine St.done ?_
                  exact SX.some () trivial ⟨rfl, rfl, rfl, rfl, rfl, rfl, rfl, rfl, trivial⟩ (by simp only [List.append_assoc]; exact List.Perm.refl _)
                · refine SC.skip ?_
                  have h0 : B1 = [] := List.eq_nil_of_length_eq_zero (by omega)
                  exact SX.some () trivial ⟨rfl, rfl, rfl, rfl, rfl, rfl, rfl, rfl, trivial⟩ (by rw [h0]; simp only [List.append_assoc, List.nil_append]; exact List.Perm.refl _)
              · refine St.guard_no rfl rfl rfl ?_
                refine St.guard_no rfl rfl rfl ?_
                refine St.guard_no rfl rfl rfl ?_
                refine St.pick_false rfl rfl rfl ?_
                refine St.done ?_
                refine SX.seq ?_
                refine SC.cond_false rfl ?_
                refine SC.skip ?_
                have h0 : A2 = [] := List.eq_nil_of_length_eq_zero (by omega)
                exact SX.some () trivial ⟨rfl, rfl, rfl, rfl, rfl, rfl, rfl, rfl, trivial⟩ (by rw [h0]; simp only [List.append_assoc, List.nil_append]; exact List.Perm.refl _)
        · refine SC.seq ?_
          refine SC.plain ?_
          refine St.move rfl rfl ?_
          refine St.move rfl rfl ?_
          refine St.gtr rfl rfl rfl ?_
          refine St.done ?_
          refine SX.seq ?_
          refine SC.condp rfl (fun c140 => ?_) (fun c140 => ?_)
          · refine SC.seq ?_
            refine SC.plain ?_
            refine St.move rfl rfl ?_
            refine St.move rfl rfl ?_
            first | refine St.subN rfl rfl rfl (by omega) (by omega) ?_ | refine St.subI rfl rfl rfl (by omega) ?_
            refine St.assign rfl rfl ?_
            refine St.done ?_
            refine SX.seq ?_
            refine SC.plain ?_
            refine St.move rfl rfl ?_
            refine St.assign rfl rfl ?_
            refine St.done ?_
            exact SX.some (mid + mm - c, mid) ⟨.inr (.inl (by omega)), .inr (.inl rfl), by simp only; omega, by simp only; omega, Nat.le_refl _, by simp only; omega, by simp only; omega⟩ ⟨rfl, rfl, rfl, rfl, rfl, rfl, rfl, rfl, rfl, trivial⟩ (List.Perm.refl _)
          · refine SC.seq ?_
            refine SC.plain ?_
            refine St.move rfl rfl ?_
            refine St.assign rfl rfl ?_
            refine St.done ?_
            refine SX.seq ?_
            refine SC.plain ?_
            refine St.move rfl rfl ?_
            refine St.assign rfl rfl ?_
            refine St.done ?_
            exact SX.some (a, mm) ⟨.inl rfl, .inl (by omega), Nat.le_refl _, by simp only; omega, by simp only; omega, Nat.le_refl _, by simp only; omega⟩ ⟨rfl, rfl, rfl, rfl, rfl, rfl, rfl, rfl, rfl, trivial⟩ (List.Perm.refl _)
end Go.Proofs.Ytahafepgmkiabaa
