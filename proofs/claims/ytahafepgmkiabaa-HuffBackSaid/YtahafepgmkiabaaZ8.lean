/- Walks: the document's coins: sorting, cost. -/
import Derived.Test.YtahafepgmkiabaaZ3
import Derived.Test.YtahafepgmkiabaaH3
set_option linter.unusedVariables false
set_option linter.unusedSimpArgs false
set_option linter.ambiguousOpen false
namespace Go.Proofs.Ytahafepgmkiabaa
open Go Go.Proofs.Ytahafepgmkiabaa.Sep

theorem rsorted_spec (w0 : World) (L : List Chunk) (u : Value) (X : List CoinV) (hr : Rd w0 L u 2 X.length (X.flatMap CoinV.cells)) (hl : X.length ≤ 1000000000000) :
    Meets Try.prog 136 #[u] w0 L (fun r L' => ∃ (T : List CoinV) (E : Chunk), L' = E :: L ∧ Buf 201 2 r (T.flatMap CoinV.cells) T.length E ∧ Srt.Up coinLt T ∧ Srt.Alike coinLt T X) := by
  obtain ⟨_, bx, ox, Ax, cx, rfl, hAx, hhx⟩ := hr
  refine Meets.of_body [.slice Ax X.length cx] Try.func136 rfl Try.ntmps136 rfl ?_
  refine SC.seq ?_
  refine SC.plain ?_
  refine St.assign rfl rfl ?_
  refine St.done ?_
  refine SX.seq ?_
  refine SC.seq ?_
  refine SC.plain ?_
  refine St.assign rfl rfl ?_
  refine St.done ?_
  refine SX.seq ?_
  refine SC.seq ?_
  refine SC.seq ?_
  refine SC.plain ?_
  refine St.assign rfl rfl ?_
  refine St.done ?_
  refine SX.seq ?_
  refine SC.block ?_
  refine SC.loop (α := Nat × Value × List CoinV × Chunk × List CoinV × List CoinV) (fun s => X = s.2.2.2.2.1 ++ s.2.2.2.2.2 ∧ s.1 = s.2.2.2.2.1.length ∧ s.2.2.1.length = s.1 ∧ Buf 201 2 s.2.1 (s.2.2.1.flatMap CoinV.cells) s.2.2.1.length s.2.2.2.1 ∧ Srt.Up coinLt s.2.2.1 ∧ Srt.Alike coinLt s.2.2.1 s.2.2.2.2.1) (fun s => [(0, .slice Ax X.length cx), (3, s.2.1), (4, .int .i64 ((s.1 : Nat) : Int))]) (fun s => s.2.2.2.1 :: L) (fun s => X.length - s.1) (0, _, [], [], [], X) ⟨rfl, rfl, rfl, Buf.nil _ _, List.Pairwise.nil, Srt.Alike.refl _⟩ ⟨rfl, rfl, rfl, trivial⟩ (List.Perm.refl _) ?_
  rintro ⟨i, v3, T, E, X1, X2⟩ ⟨hX, hi, hTi, hbf, hu, hal⟩
  simp only at hX hi hTi hbf hu hal ⊢
  have hXl := congrArg List.length hX
  rw [List.length_append] at hXl
  refine SC.seq ?_
  refine SC.seq ?_
  refine SC.plain ?_
  refine St.move rfl rfl ?_
  refine St.move rfl rfl ?_
  refine St.lenSl rfl rfl (by kernel_rfl) ?_
  refine St.lss rfl rfl rfl ?_
  refine St.done ?_
  refine SX.seq ?_
  refine SC.condp rfl (fun c9 => ?_) (fun c9 => ?_)
  · obtain ⟨x, X2, rfl⟩ := cons_of (l := X2) (by omega)
    simp only [List.length_cons] at hXl
    have hx : X[i]? = some x := by rw [hX, hi]; simp
    obtain rfl := hAx (by omega)
    obtain ⟨b3r, o3r, A3, c3, rfl, _, _⟩ := hbf.read
    refine SC.skip ?_
    refine SX.seq ?_
    refine SC.seq ?_
    refine SC.block ?_
    refine SC.seq ?_
    refine SC.plain ?_
    refine St.move rfl rfl ?_
    refine St.lenSl rfl rfl (by kernel_rfl) ?_
    refine St.assign rfl rfl ?_
    refine St.done ?_
    refine SX.seq ?_
    refine SC.seq ?_
    refine SC.plain ?_
    refine St.move rfl rfl ?_
    refine St.move rfl rfl ?_
    refine St.move rfl rfl ?_
    refine St.indexSl (e := 201) (sz := 2) rfl rfl rfl (by kernel_rfl) (by omega) ?_
    refine St.loadAgg (CoinV.cells x) rfl rfl (by kernel_rfl) (coinN_at hhx.cons hx) ?_
    refine St.buildSl (n := 1) (e := 201) [(0, .agg #[.int .i64 x.worth, .slice x.A x.n x.c])] [.int .i64 x.worth, .slice x.A x.n x.c] rfl rfl (by kernel_rfl) (fun _ _ h => h.nil) (fun b19 => ?_)
    refine St.append1 (e := 201) (sz := 2) (bytes := 32) (m := 1) rfl rfl rfl (by kernel_rfl) hbf (Rd.row rfl mem0) (by simp [one]) (by omega) (by omega) (fun _ _ h => h.nil) (fun v2 E2 hb2 _ => ?_)
    refine St.drop ?_
    clear hbf
    rw [show T.flatMap CoinV.cells ++ [.int .i64 x.worth, .slice x.A x.n x.c] = (T ++ (x :: [])).flatMap CoinV.cells by simp [CoinV.cells]] at hb2
    obtain ⟨hbl, ⟨_, h0, _⟩ | ⟨b3, pre3, cap3, tail3, rfl, rfl, hcap3, htl3⟩⟩ := hb2
    · exfalso; omega
    refine St.assign rfl rfl ?_
    refine St.done ?_
    refine SX.seq ?_
    refine SC.seq ?_
    refine SC.block ?_
    refine SC.loop (α := Nat × List CoinV × List CoinV × CoinV) (fun s => T = s.2.1 ++ s.2.2.1 ∧ s.1 = s.2.1.length ∧ ∀ t ∈ s.2.2.1, coinLt x t = true) (fun s => [(0, .slice (some ⟨bx, ox, none⟩) X.length cx), (3, .slice (some ⟨b3, pre3.length, none⟩) (T.length + 1) cap3), (4, .int .i64 ((i : Nat) : Int)), (5, .int .i64 ((s.1 : Nat) : Int))]) (fun s => [⟨b3, pre3 ++ ((s.2.1 ++ (s.2.2.2 :: s.2.2.1)).flatMap CoinV.cells ++ tail3), 201⟩] :: L) (fun s => s.1) (i, T, [], x) ⟨by simp, by simp only; omega, by simp⟩ ⟨rfl, rfl, rfl, by rw [← hTi]; rfl, trivial⟩ (List.Perm.refl _) ?_
    rintro ⟨j, T1, T2, y⟩ ⟨hT, hj, h2⟩
    simp only at hT hj h2 ⊢
    have hTl := congrArg List.length hT
    rw [List.length_append] at hTl
    refine SC.seq ?_
    refine SC.seq ?_
    refine SC.drawn [(0, true), (1, true), (2, true), (3, true), (4, true), (5, true), (6, true), (7, true), (8, true), (9, true), (10, true), (11, true), (12, true), (13, true), (14, true), (15, true)] [] (_) (by kernel_rfl) (by kernel_rfl) (fun _ h => h) ?_
    refine St.move rfl rfl ?_
    refine St.gtr rfl rfl rfl ?_
    refine St.move rfl rfl ?_
    refine St.split 23 rfl (fun g23 => ?_) (fun g23 => ?_)
    · obtain ⟨T0, t, rfl⟩ := snoc_of (l := T1) (by omega)
      simp only [List.length_append, List.length_cons, List.length_nil] at hj hTl
      refine St.guard_yes rfl rfl ?_
      refine St.move rfl rfl ?_
      refine St.guard_yes rfl rfl ?_
      refine St.move rfl rfl ?_
      refine St.guard_yes rfl rfl ?_
      first | refine St.subN (b := 1) rfl rfl rfl (by omega) (by omega) ?_ | refine St.subI rfl rfl rfl (by omega) ?_
      refine St.guard_yes rfl rfl ?_
      refine St.indexSl (e := 201) (sz := 2) rfl rfl rfl (by kernel_rfl) (by omega) ?_
      refine St.guard_yes rfl rfl ?_
      refine St.fieldAddr (off := 0) rfl rfl (by kernel_rfl) ?_
      refine St.guard_yes rfl rfl ?_
      refine St.load rfl rfl (by kernel_rfl) ((srow_at CoinV.len (T0) (y :: T2) (y := t) (by simp) (by first | omega | (simp; try omega))).one 0 (v := .int .i64 t.worth) rfl) ?_
      refine St.guard_yes rfl rfl ?_
      refine St.move rfl rfl ?_
      refine St.guard_yes rfl rfl ?_
      refine St.move rfl rfl ?_
      refine St.guard_yes rfl rfl ?_
      refine St.indexSl (e := 201) (sz := 2) rfl rfl rfl (by kernel_rfl) (by omega) ?_
      refine St.guard_yes rfl rfl ?_
      refine St.fieldAddr (off := 0) rfl rfl (by kernel_rfl) ?_
      refine St.guard_yes rfl rfl ?_
      refine St.load rfl rfl (by kernel_rfl) (coinW_at hhx.cons hx) ?_
      refine St.guard_yes rfl rfl ?_
      refine St.gtr rfl rfl rfl ?_
      refine St.pick_true rfl rfl rfl ?_
      refine St.done ?_
      refine SX.tail ?_
      refine St.done ?_
      refine SX.seq ?_
      refine SC.condp rfl (fun c36 => ?_) (fun c36 => ?_)
      · have hlt : coinLt x t = true := by simp only [coinLt, decide_eq_true_eq]; omega
        refine SC.skip ?_
        refine SX.seq ?_
        refine SC.block ?_
        refine SC.seq ?_
        refine SC.plain ?_
        refine St.move rfl rfl ?_
        refine St.move rfl rfl ?_
        refine St.move rfl rfl ?_
        refine St.move rfl rfl ?_
        first | refine St.subN (b := 1) rfl rfl rfl (by omega) (by omega) ?_ | refine St.subI rfl rfl rfl (by omega) ?_
        refine St.indexSl (e := 201) (sz := 2) rfl rfl rfl (by kernel_rfl) (by omega) ?_
        refine St.loadAgg (CoinV.cells t) rfl rfl (by kernel_rfl) (srow_at CoinV.len (T0) (y :: T2) (by simp) (by first | omega | (simp; try omega))) ?_
        refine St.indexSl (e := 201) (sz := 2) rfl rfl rfl (by kernel_rfl) (by omega) ?_
        refine St.storeN rfl rfl rfl (CoinV.cells t) rfl (by kernel_rfl) (by simp [CoinV.cells, one]) (srow_room CoinV.len (T0 ++ [t]) (T2) (y := y) (by simp) (by first | omega | (simp; try omega))) (fun _ h => h.nil) ?_
        rw [srow_put CoinV.len (T0 ++ [t]) (T2) (y := y) t (by simp) (by first | omega | (simp; try omega))]
        rw [show ((T0 ++ [t]) ++ t :: (T2)) = T0 ++ (t :: (t :: T2)) by simp]
        refine St.done ?_
        refine SX.seq ?_
        refine SC.plain ?_
        refine St.move rfl rfl ?_
        first | refine St.subN (b := 1) rfl rfl rfl (by omega) (by omega) ?_ | refine St.subI rfl rfl rfl (by omega) ?_
        refine St.assign rfl rfl ?_
        refine St.done ?_
        refine SX.blk ?_
        exact SX.again (j - 1, T0, t :: T2, t) ⟨by rw [hT]; simp, by simp only; omega, fun u hu => by rcases List.mem_cons.1 hu with rfl | hu; exact hlt; exact h2 u hu⟩ (by simp only; omega) ⟨rfl, rfl, rfl, rfl, trivial⟩ (List.Perm.refl _)
      · have hnl : coinLt x t = false := by simp only [coinLt, decide_eq_false_iff_not]; omega
        have hi2 := Srt.ins_step coinLt_swo (T1 := (T0 ++ [t])) (hT ▸ hu) h2 (.inr ⟨T0, t, rfl, hnl⟩)
        have hlen : ((T0 ++ [t]) ++ x :: T2).length = T.length + 1 := by rw [hT]; simp only [List.length_append, List.length_cons, List.length_nil]; omega
        have hbuf : Buf 201 2 (.slice (some ⟨b3, pre3.length, none⟩) (T.length + 1) cap3) (((T0 ++ [t]) ++ x :: T2).flatMap CoinV.cells) ((T0 ++ [t]) ++ x :: T2).length [⟨b3, pre3 ++ (((T0 ++ [t]) ++ x :: T2).flatMap CoinV.cells ++ tail3), 201⟩] := ⟨flat_len CoinV.len _, .inr ⟨b3, pre3, cap3, tail3, by rw [hlen], rfl, by rw [hlen]; exact hcap3, by rw [hlen]; exact htl3⟩⟩
        refine SC.exit ?_
        refine SX.seq_exit ?_
        refine SX.seq_exit ?_
        refine SX.hit ?_
        refine SX.seq ?_
        refine SC.plain ?_
        refine St.move rfl rfl ?_
        refine St.move rfl rfl ?_
        refine St.move rfl rfl ?_
        refine St.move rfl rfl ?_
        refine St.indexSl (e := 201) (sz := 2) rfl rfl rfl (by kernel_rfl) (by omega) ?_
        refine St.loadAgg (CoinV.cells x) rfl rfl (by kernel_rfl) (coinN_at hhx.cons hx) ?_
        refine St.indexSl (e := 201) (sz := 2) rfl rfl rfl (by kernel_rfl) (by omega) ?_
        refine St.storeN rfl rfl rfl (CoinV.cells x) rfl (by kernel_rfl) (by simp [CoinV.cells, one]) (srow_room CoinV.len ((T0 ++ [t])) (T2) (y := y) (by simp) (by first | omega | (simp; try omega))) (fun _ h => h.nil) ?_
        rw [srow_put CoinV.len ((T0 ++ [t])) (T2) (y := y) x (by simp) (by first | omega | (simp; try omega))]
        rw [show (((T0 ++ [t])) ++ x :: (T2)) = (T0 ++ [t]) ++ x :: T2 by simp]
        refine St.done ?_
        refine SX.blk ?_
        refine SX.seq ?_
        refine SC.plain ?_
        refine St.move rfl rfl ?_
        first | refine St.addN (b := 1) rfl rfl rfl (by omega) ?_ | refine St.addI rfl rfl rfl (by omega) ?_
        refine St.assign rfl rfl ?_
        refine St.done ?_
        exact SX.again (i + 1, .slice (some ⟨b3, pre3.length, none⟩) (T.length + 1) cap3, (T0 ++ [t]) ++ x :: T2, _, X1 ++ [x], X2) ⟨by rw [hX]; simp, by simp only [List.length_append, List.length_cons, List.length_nil]; omega, by rw [hlen]; simp only [List.length_append, List.length_cons, List.length_nil]; omega, hbuf, hi2.1, hi2.2.trans (hT ▸ (hal.append (Srt.Alike.refl [x])))⟩ (by simp only; omega) ⟨rfl, rfl, rfl, trivial⟩ (List.Perm.refl _)
    · have h0 : T1 = [] := List.eq_nil_of_length_eq_zero (by omega)
      subst h0
      have hi2 := Srt.ins_step coinLt_swo (T1 := []) (hT ▸ hu) h2 (.inl rfl)
      have hlen : ([] ++ x :: T2).length = T.length + 1 := by rw [hT]; simp only [List.length_append, List.length_cons, List.length_nil]; omega
      have hbuf : Buf 201 2 (.slice (some ⟨b3, pre3.length, none⟩) (T.length + 1) cap3) (([] ++ x :: T2).flatMap CoinV.cells) ([] ++ x :: T2).length [⟨b3, pre3 ++ (([] ++ x :: T2).flatMap CoinV.cells ++ tail3), 201⟩] := ⟨flat_len CoinV.len _, .inr ⟨b3, pre3, cap3, tail3, by rw [hlen], rfl, by rw [hlen]; exact hcap3, by rw [hlen]; exact htl3⟩⟩
      refine St.guard_no rfl rfl rfl ?_
      refine St.guard_no rfl rfl rfl ?_
      refine St.guard_no rfl rfl rfl ?_
      refine St.guard_no rfl rfl rfl ?_
      refine St.guard_no rfl rfl rfl ?_
      refine St.guard_no rfl rfl rfl ?_
      refine St.guard_no rfl rfl rfl ?_
      refine St.guard_no rfl rfl rfl ?_
      refine St.guard_no rfl rfl rfl ?_
      refine St.guard_no rfl rfl rfl ?_
      refine St.guard_no rfl rfl rfl ?_
      refine St.guard_no rfl rfl rfl ?_
      refine St.pick_false rfl rfl rfl ?_
      refine St.done ?_
      refine SX.tail ?_
      refine St.done ?_
      refine SX.seq ?_
      refine SC.cond_false rfl ?_
      refine SC.exit ?_
      refine SX.seq_exit ?_
      refine SX.seq_exit ?_
      refine SX.hit ?_
      refine SX.seq ?_
      refine SC.plain ?_
      refine St.move rfl rfl ?_
      refine St.move rfl rfl ?_
      refine St.move rfl rfl ?_
      refine St.move rfl rfl ?_
      refine St.indexSl (e := 201) (sz := 2) rfl rfl rfl (by kernel_rfl) (by omega) ?_
      refine St.loadAgg (CoinV.cells x) rfl rfl (by kernel_rfl) (coinN_at hhx.cons hx) ?_
      refine St.indexSl (e := 201) (sz := 2) rfl rfl rfl (by kernel_rfl) (by omega) ?_
      refine St.storeN rfl rfl rfl (CoinV.cells x) rfl (by kernel_rfl) (by simp [CoinV.cells, one]) (srow_room CoinV.len ([]) (T2) (y := y) (by simp) (by first | omega | (simp; try omega))) (fun _ h => h.nil) ?_
      rw [srow_put CoinV.len ([]) (T2) (y := y) x (by simp) (by first | omega | (simp; try omega))]
      rw [show (([]) ++ x :: (T2)) = [] ++ x :: T2 by simp]
      refine St.done ?_
      refine SX.blk ?_
      refine SX.seq ?_
      refine SC.plain ?_
      refine St.move rfl rfl ?_
      first | refine St.addN (b := 1) rfl rfl rfl (by omega) ?_ | refine St.addI rfl rfl rfl (by omega) ?_
      refine St.assign rfl rfl ?_
      refine St.done ?_
      exact SX.again (i + 1, .slice (some ⟨b3, pre3.length, none⟩) (T.length + 1) cap3, [] ++ x :: T2, _, X1 ++ [x], X2) ⟨by rw [hX]; simp, by simp only [List.length_append, List.length_cons, List.length_nil]; omega, by rw [hlen]; simp only [List.length_append, List.length_cons, List.length_nil]; omega, hbuf, hi2.1, hi2.2.trans (hT ▸ (hal.append (Srt.Alike.refl [x])))⟩ (by simp only; omega) ⟨rfl, rfl, rfl, trivial⟩ (List.Perm.refl _)
  · have hx0 : X2 = [] := List.eq_nil_of_length_eq_zero (by omega)
    subst hx0
    rw [List.append_nil] at hX
    subst hX
    refine SC.exit ?_
    refine SX.seq_exit ?_
    refine SX.seq_exit ?_
    refine SX.hit ?_
    refine SX.seq ?_
    refine SC.seq ?_
    refine SC.plain ?_
    refine St.move rfl rfl ?_
    refine St.assign rfl rfl ?_
    refine St.done ?_
    refine SX.seq ?_
    refine SC.ret ?_
    exact SX.ret1 rfl rfl ⟨T, E, rfl, hbf, hu, hal⟩
end Go.Proofs.Ytahafepgmkiabaa
