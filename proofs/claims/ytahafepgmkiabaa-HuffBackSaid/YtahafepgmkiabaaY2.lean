/- Walks: slices.SortStableFunc for coins: turning parts round. -/
import Derived.Test.YtahafepgmkiabaaY1
set_option linter.unusedVariables false
set_option linter.unusedSimpArgs false
set_option linter.ambiguousOpen false
namespace Go.Proofs.Ytahafepgmkiabaa
open Go Go.Proofs.Ytahafepgmkiabaa.Sep

theorem swapC_spec (w0 : World) (L : List Chunk) (b cap N : Nat) (pre tail : List Value) (v : Value) (P X M Y S : List CoinV) (a c n : Nat) (ha : a = P.length) (hc : c = P.length + X.length + M.length) (hn : n = X.length) (hY : Y.length = X.length) (hN : (P ++ (X ++ (M ++ (Y ++ S)))).length = N) (hb : N ≤ 140737488351232) :
    Meets Try.prog 217 #[.slice (some ⟨b, pre.length, none⟩) N cap, .int .i64 ((a : Nat) : Int), .int .i64 ((c : Nat) : Int), .int .i64 ((n : Nat) : Int), v] w0 ([⟨b, pre ++ ((P ++ (X ++ (M ++ (Y ++ S)))).flatMap CoinV.cells ++ tail), 194⟩] :: L) (fun r L' => L' = [⟨b, pre ++ ((P ++ (Y ++ (M ++ (X ++ S)))).flatMap CoinV.cells ++ tail), 194⟩] :: L) := by
  simp only [List.length_append] at hN
  refine Meets.of_body [.slice (some ⟨b, pre.length, none⟩) N cap, .int .i64 ((a : Nat) : Int), .int .i64 ((c : Nat) : Int), .int .i64 ((n : Nat) : Int), v] Try.func217 rfl Try.ntmps217 rfl ?_
  refine SC.seq ?_
  refine SC.plain ?_
  refine St.assign rfl rfl ?_
  refine St.done ?_
  refine SX.seq ?_
  refine SC.block ?_
  refine SC.loop (α := Nat × List CoinV × List CoinV × List CoinV × List CoinV) (fun s => X = s.2.1 ++ s.2.2.1 ∧ Y = s.2.2.2.1 ++ s.2.2.2.2 ∧ s.2.1.length = s.1 ∧ s.2.2.2.1.length = s.1) (fun s => [(0, .slice (some ⟨b, pre.length, none⟩) N cap), (1, .int .i64 ((a : Nat) : Int)), (2, .int .i64 ((c : Nat) : Int)), (3, .int .i64 ((n : Nat) : Int)), (10, .int .i64 ((s.1 : Nat) : Int))]) (fun s => [⟨b, pre ++ ((P ++ (s.2.2.2.1 ++ (s.2.2.1 ++ (M ++ (s.2.1 ++ (s.2.2.2.2 ++ S)))))).flatMap CoinV.cells ++ tail), 194⟩] :: L) (fun s => n - s.1) (0, [], X, [], Y) ⟨rfl, rfl, rfl, rfl⟩ ⟨rfl, rfl, rfl, rfl, rfl, trivial⟩ (List.Perm.refl _) ?_
  rintro ⟨i, X1, X2, Y1, Y2⟩ ⟨hX, hY, hl, hl2⟩
  simp only at hX hY hl hl2 ⊢
  have hXl := congrArg List.length hX
  have hYl := congrArg List.length hY
  rw [List.length_append] at hXl hYl
  refine SC.seq ?_
  refine SC.seq ?_
  refine SC.plain ?_
  refine St.move rfl rfl ?_
  refine St.move rfl rfl ?_
  refine St.lss rfl rfl rfl ?_
  refine St.done ?_
  refine SX.seq ?_
  refine SC.condp rfl (fun c13 => ?_) (fun c13 => ?_)
  · obtain ⟨x, X2, rfl⟩ := cons_of (l := X2) (by omega)
    obtain ⟨y, Y2, rfl⟩ := cons_of (l := Y2) (by omega)
    simp only [List.length_cons] at hXl hYl
    refine SC.skip ?_
    refine SX.seq ?_
    refine SC.seq ?_
    refine SC.block ?_
    refine SC.drawn [(0, true), (1, true), (2, true), (3, true), (4, true), (5, true), (6, true), (7, true), (8, true), (9, true), (10, true), (11, true), (12, true), (13, true), (14, true), (15, true), (16, true), (17, true), (18, true), (19, true)] [20, 21, 22, 23] (_) (by kernel_rfl) (by kernel_rfl) (fun _ h => h) ?_
    refine St.move rfl rfl ?_
    refine St.move rfl rfl ?_
    refine St.move rfl rfl ?_
    first | refine St.addN rfl rfl rfl (by omega) ?_ | refine St.addI rfl rfl rfl (by omega) ?_
    refine St.move rfl rfl ?_
    refine St.move rfl rfl ?_
    refine St.move rfl rfl ?_
    first | refine St.addN rfl rfl rfl (by omega) ?_ | refine St.addI rfl rfl rfl (by omega) ?_
    refine St.move rfl rfl ?_
    refine St.move rfl rfl ?_
    refine St.move rfl rfl ?_
    first | refine St.addN rfl rfl rfl (by omega) ?_ | refine St.addI rfl rfl rfl (by omega) ?_
    refine St.indexSl (e := 194) (sz := 2) rfl rfl rfl (by kernel_rfl) (by omega) ?_
    refine St.loadAgg (CoinV.cells y) rfl rfl (by kernel_rfl) (srow_at CoinV.len (P ++ (Y1 ++ (x :: X2 ++ (M ++ X1)))) (Y2 ++ S) (by simp) (by simp; try omega)) ?_
    refine St.move rfl rfl ?_
    refine St.move rfl rfl ?_
    refine St.move rfl rfl ?_
    first | refine St.addN rfl rfl rfl (by omega) ?_ | refine St.addI rfl rfl rfl (by omega) ?_
    refine St.indexSl (e := 194) (sz := 2) rfl rfl rfl (by kernel_rfl) (by omega) ?_
    refine St.loadAgg (CoinV.cells x) rfl rfl (by kernel_rfl) (srow_at CoinV.len (P ++ Y1) (X2 ++ (M ++ (X1 ++ (y :: Y2 ++ S)))) (by simp) (by simp; try omega)) ?_
    refine St.done ?_
    refine SX.tail ?_
    refine St.indexSl (e := 194) (sz := 2) rfl rfl rfl (by kernel_rfl) (by omega) ?_
    refine St.storeN rfl rfl rfl (CoinV.cells y) rfl (by kernel_rfl) (by simp [CoinV.cells, one]) (srow_room CoinV.len (P ++ Y1) (X2 ++ (M ++ (X1 ++ (y :: Y2 ++ S)))) (y := x) (by simp) (by simp; try omega)) (fun _ h => h.nil) ?_
    rw [srow_put CoinV.len (P ++ Y1) (X2 ++ (M ++ (X1 ++ (y :: Y2 ++ S)))) (y := x) y (by simp) (by simp; try omega)]
    rw [show ((P ++ Y1) ++ y :: (X2 ++ (M ++ (X1 ++ (y :: Y2 ++ S))))) = P ++ (Y1 ++ (y :: X2 ++ (M ++ (X1 ++ (y :: Y2 ++ S))))) by simp]
    refine St.indexSl (e := 194) (sz := 2) rfl rfl rfl (by kernel_rfl) (by omega) ?_
    refine St.storeN rfl rfl rfl (CoinV.cells x) rfl (by kernel_rfl) (by simp [CoinV.cells, one]) (srow_room CoinV.len (P ++ (Y1 ++ (y :: X2 ++ (M ++ X1)))) (Y2 ++ S) (y := y) (by simp) (by simp; try omega)) (fun _ h => h.nil) ?_
    rw [srow_put CoinV.len (P ++ (Y1 ++ (y :: X2 ++ (M ++ X1)))) (Y2 ++ S) (y := y) x (by simp) (by simp; try omega)]
    rw [show ((P ++ (Y1 ++ (y :: X2 ++ (M ++ X1)))) ++ x :: (Y2 ++ S)) = P ++ ((Y1 ++ [y]) ++ (X2 ++ (M ++ ((X1 ++ [x]) ++ (Y2 ++ S))))) by simp]
    refine St.done ?_
    refine SX.blk ?_
    refine SX.seq ?_
    refine SC.plain ?_
    refine St.move rfl rfl ?_
    first | refine St.addN (b := 1) rfl rfl rfl (by omega) ?_ | refine St.addI rfl rfl rfl (by omega) ?_
    refine St.assign rfl rfl ?_
    refine St.done ?_
    exact SX.again (i + 1, X1 ++ [x], X2, Y1 ++ [y], Y2) ⟨by rw [hX]; simp, by rw [hY]; simp, by simp; omega, by simp; omega⟩ (by simp only; omega) ⟨rfl, rfl, rfl, rfl, rfl, trivial⟩ (List.Perm.refl _)
  · have hx0 : X2 = [] := List.eq_nil_of_length_eq_zero (by omega)
    have hy0 : Y2 = [] := List.eq_nil_of_length_eq_zero (by omega)
    subst hx0 hy0
    rw [List.append_nil] at hX hY
    subst hX hY
    simp only [List.nil_append]
    refine SC.exit ?_
    refine SX.seq_exit ?_
    refine SX.seq_exit ?_
    refine SX.hit ?_
    exact SX.ret0 (.inr rfl) rfl rfl
theorem rotC_spec (w0 : World) (L : List Chunk) (b cap N : Nat) (pre tail : List Value) (v : Value) (P A B S : List CoinV) (a m c : Nat) (ha : a = P.length) (hm : m = P.length + A.length) (hc : c = P.length + A.length + B.length) (hA : 0 < A.length) (hB : 0 < B.length) (hN : (P ++ (A ++ (B ++ S))).length = N) (hb : N ≤ 140737488351232) :
    Meets Try.prog 212 #[.slice (some ⟨b, pre.length, none⟩) N cap, .int .i64 ((a : Nat) : Int), .int .i64 ((m : Nat) : Int), .int .i64 ((c : Nat) : Int), v] w0 ([⟨b, pre ++ ((P ++ (A ++ (B ++ S))).flatMap CoinV.cells ++ tail), 194⟩] :: L) (fun r L' => L' = [⟨b, pre ++ ((P ++ (B ++ (A ++ S))).flatMap CoinV.cells ++ tail), 194⟩] :: L) := by
  simp only [List.length_append] at hN
  refine Meets.of_body [.slice (some ⟨b, pre.length, none⟩) N cap, .int .i64 ((a : Nat) : Int), .int .i64 ((m : Nat) : Int), .int .i64 ((c : Nat) : Int), v] Try.func212 rfl Try.ntmps212 rfl ?_
  refine SC.seq ?_
  refine SC.plain ?_
  refine St.move rfl rfl ?_
  refine St.move rfl rfl ?_
  first | refine St.subN rfl rfl rfl (by omega) (by omega) ?_ | refine St.subI rfl rfl rfl (by omega) ?_
  refine St.assign rfl rfl ?_
  refine St.done ?_
  refine SX.seq ?_
  refine SC.seq ?_
  refine SC.plain ?_
  refine St.move rfl rfl ?_
  refine St.move rfl rfl ?_
  first | refine St.subN rfl rfl rfl (by omega) (by omega) ?_ | refine St.subI rfl rfl rfl (by omega) ?_
  refine St.assign rfl rfl ?_
  refine St.done ?_
  refine SX.seq ?_
  refine SC.seq ?_
  refine SC.block ?_
  refine SC.loop (α := Nat × Nat × List CoinV × List CoinV × List CoinV × List CoinV) (fun s => s.2.2.1 ++ (s.2.2.2.2.1 ++ (s.2.2.2.1 ++ s.2.2.2.2.2)) = P ++ (B ++ (A ++ S)) ∧ s.2.2.1.length + s.1 = m ∧ 0 < s.1 ∧ 0 < s.2.1 ∧ s.2.2.2.1.length = s.1 ∧ s.2.2.2.2.1.length = s.2.1) (fun s => [(0, .slice (some ⟨b, pre.length, none⟩) N cap), (1, .int .i64 ((a : Nat) : Int)), (2, .int .i64 ((m : Nat) : Int)), (3, .int .i64 ((c : Nat) : Int)), (4, v), (10, .int .i64 ((s.1 : Nat) : Int)), (11, .int .i64 ((s.2.1 : Nat) : Int))]) (fun s => [⟨b, pre ++ ((s.2.2.1 ++ (s.2.2.2.1 ++ (s.2.2.2.2.1 ++ s.2.2.2.2.2))).flatMap CoinV.cells ++ tail), 194⟩] :: L) (fun s => s.1 + s.2.1) (m - a, c - m, P, A, B, S) ⟨rfl, by simp only; omega, by simp only; omega, by simp only; omega, by simp only; omega, by simp only; omega⟩ ⟨rfl, rfl, rfl, rfl, rfl, rfl, rfl, trivial⟩ (List.Perm.refl _) ?_
  rintro ⟨i, j, P1, A1, B1, S1⟩ ⟨he, hm1, hi0, hj0, hA1, hB1⟩
  simp only at he hm1 hi0 hj0 hA1 hB1 ⊢
  have hel := congrArg List.length he
  simp only [List.length_append] at hel
  refine SC.seq ?_
  refine SC.seq ?_
  refine SC.plain ?_
  refine St.move rfl rfl ?_
  refine St.move rfl rfl ?_
  refine St.neq rfl rfl rfl ?_
  refine St.done ?_
  refine SX.seq ?_
  refine SC.condp rfl (fun c20 => ?_) (fun c20 => ?_)
  · refine SC.skip ?_
    refine SX.seq ?_
    refine SC.block ?_
    refine SC.seq ?_
    refine SC.plain ?_
    refine St.move rfl rfl ?_
    refine St.move rfl rfl ?_
    refine St.gtr rfl rfl rfl ?_
    refine St.done ?_
    refine SX.seq ?_
    refine SC.condp rfl (fun c23 => ?_) (fun c23 => ?_)
    · obtain ⟨A2, A3, hA2, hA2l⟩ := split_at A1 B1.length (by omega)
      subst hA2
      rw [List.append_assoc]
      simp only [List.length_append] at hm1 hA1 hel
      refine SC.seq ?_
      refine SC.plain ?_
      refine St.move rfl rfl ?_
      refine St.move rfl rfl ?_
      refine St.move rfl rfl ?_
      first | refine St.subN rfl rfl rfl (by omega) (by omega) ?_ | refine St.subI rfl rfl rfl (by omega) ?_
      refine St.move rfl rfl ?_
      refine St.move rfl rfl ?_
      refine St.move rfl rfl ?_
      refine St.call [_, _, _, _, _] rfl (by kernel_rfl) rfl (swapC_spec w0 L b cap N pre tail v P1 A2 A3 B1 S1 _ _ _ (by first | omega | (simp only [List.length_append]; omega)) (by omega) (by omega) (by omega) (by first | omega | (simp only [List.length_append]; omega)) (by omega)) (fun _ _ _ _ h => h.nil) ?_
      rintro r L1 rfl
      refine St.done ?_
      refine SX.seq ?_
      refine SC.plain ?_
      refine St.move rfl rfl ?_
      refine St.move rfl rfl ?_
      first | refine St.subN rfl rfl rfl (by omega) (by omega) ?_ | refine St.subI rfl rfl rfl (by omega) ?_
      refine St.assign rfl rfl ?_
      refine St.done ?_
      refine SX.blk ?_
      exact SX.again (i - j, j, P1 ++ B1, A3, A2, S1) ⟨by rw [← he]; simp, by simp only [List.length_append]; omega, by simp only; omega, hj0, by simp only; omega, hA2l.trans hB1⟩ (by simp only; omega) ⟨rfl, rfl, rfl, rfl, rfl, rfl, rfl, trivial⟩ (by simp only [List.append_assoc]; exact List.Perm.refl _)
    · obtain ⟨B2, B3, hB2, hB2l⟩ := split_end B1 A1.length (by omega)
      subst hB2
      rw [List.append_assoc]
      simp only [List.length_append] at hB1 hel
      refine SC.seq ?_
      refine SC.plain ?_
      refine St.move rfl rfl ?_
      refine St.move rfl rfl ?_
      refine St.move rfl rfl ?_
      first | refine St.subN rfl rfl rfl (by omega) (by omega) ?_ | refine St.subI rfl rfl rfl (by omega) ?_
      refine St.move rfl rfl ?_
      refine St.move rfl rfl ?_
      first | refine St.addN rfl rfl rfl (by omega) ?_ | refine St.addI rfl rfl rfl (by omega) ?_
      refine St.move rfl rfl ?_
      first | refine St.subN rfl rfl rfl (by omega) (by omega) ?_ | refine St.subI rfl rfl rfl (by omega) ?_
      refine St.move rfl rfl ?_
      refine St.move rfl rfl ?_
      refine St.call [_, _, _, _, _] rfl (by kernel_rfl) rfl (swapC_spec w0 L b cap N pre tail v P1 A1 B2 B3 S1 _ _ _ (by first | omega | (simp only [List.length_append]; omega)) (by first | omega | (simp only [List.length_append]; omega)) (by omega) (by omega) (by first | omega | (simp only [List.length_append]; omega)) (by omega)) (fun _ _ _ _ h => h.nil) ?_
      rintro r L1 rfl
      refine St.done ?_
      refine SX.seq ?_
      refine SC.plain ?_
      refine St.move rfl rfl ?_
      refine St.move rfl rfl ?_
      first | refine St.subN rfl rfl rfl (by omega) (by omega) ?_ | refine St.subI rfl rfl rfl (by omega) ?_
      refine St.assign rfl rfl ?_
      refine St.done ?_
      refine SX.blk ?_
      exact SX.again (i, j - i, P1, B3, B2, A1 ++ S1) ⟨by rw [← he]; simp, hm1, hi0, by simp only; omega, hB2l.trans hA1, by simp only; omega⟩ (by simp only; omega) ⟨rfl, rfl, rfl, rfl, rfl, rfl, rfl, trivial⟩ (by simp only [List.append_assoc]; exact List.Perm.refl _)
  · refine SC.exit ?_
    refine SX.seq_exit ?_
    refine SX.seq_exit ?_
    refine SX.hit ?_
    refine SX.seq ?_
    refine SC.plain ?_
    refine St.move rfl rfl ?_
    refine St.move rfl rfl ?_
    refine St.move rfl rfl ?_
    first | refine St.subN rfl rfl rfl (by omega) (by omega) ?_ | refine St.subI rfl rfl rfl (by omega) ?_
    refine St.move rfl rfl ?_
    refine St.move rfl rfl ?_
    refine St.move rfl rfl ?_
    refine St.call [_, _, _, _, _] rfl (by kernel_rfl) rfl (swapC_spec w0 L b cap N pre tail v P1 A1 [] B1 S1 _ _ _ (by omega) (by first | omega | (simp only [List.length_nil]; omega)) (by omega) (by omega) (by first | omega | (simp only [List.length_append, List.length_nil]; omega)) (by omega)) (fun _ _ _ _ h => h.nil) ?_
    rintro r L1 rfl
    refine St.done ?_
    have hel2 : A1.length = B1.length := by omega
    exact SX.ret0 (.inr rfl) rfl (by rw [List.nil_append, he])
end Go.Proofs.Ytahafepgmkiabaa
