/- Walks: the document's least lengths, and their cost. -/
import Derived.Test.YtahafepgmkiabaaZ8
import Derived.Test.YtahafepgmkiabaaZ6
set_option linter.unusedVariables false
set_option linter.unusedSimpArgs false
set_option linter.ambiguousOpen false
namespace Go.Proofs.Ytahafepgmkiabaa
open Go Go.Proofs.Ytahafepgmkiabaa.Sep
theorem dot_bd {xs ys : List Int} (hbx : ∀ i, 0 ≤ xs.getD i 0 ∧ xs.getD i 0 ≤ 1073741824) (hby : ∀ i, 0 ≤ ys.getD i 0 ∧ ys.getD i 0 ≤ 1000) : ∀ i, 0 ≤ dot xs ys i ∧ dot xs ys i ≤ 1073741824000 * i := by
  intro i
  induction i with
  | zero => exact ⟨Int.le_refl _, by simp [dot]⟩
  | succ i ih =>
    have h1 := hbx i
    have h2 := hby i
    have h3 : 0 ≤ xs.getD i 0 * ys.getD i 0 := Int.mul_nonneg h1.1 h2.1
    have h4 : xs.getD i 0 * ys.getD i 0 ≤ 1073741824 * 1000 := Int.mul_le_mul h1.2 h2.2 h2.1 (by omega)
    simp only [dot]
    omega
/-- A document's coin: its second part counts each symbol. -/
def GoodR (w0 : World) (L : List Chunk) (n : Nat) (x : CoinV) : Prop := x.n = n ∧ Rd w0 L (.slice x.A x.n x.c) 1 x.n (lrow n (fun k => x.ins.count k))
theorem GoodR.mono {w0 : World} {L L' : List Chunk} {n : Nat} {x : CoinV} (h : GoodR w0 L n x) (hs : ∀ w, Own w0 L' w → Own w0 L w) : GoodR w0 L' n x := ⟨h.1, h.2.mono hs⟩
theorem GoodR.at {w0 : World} {L : List Chunk} {n : Nat} {x : CoinV} (h : GoodR w0 L n x) (h0 : 0 < n) : ∃ b o, x.A = some ⟨b, o, none⟩ ∧ HoldsN w0 L b o (lrow n (fun k => x.ins.count k)) := by
  obtain ⟨hn, _, b, o, A, c, he, hA, hh⟩ := h
  injection he with e1 e2 e3
  rw [hA (by omega)] at e1
  exact ⟨b, o, e1, hh⟩
def FitR (W : Int) (K : Nat) (x : CoinV) : Prop := 0 ≤ x.worth ∧ x.worth ≤ W ∧ x.ins.length ≤ K
def fl (n : Nat) (f : Nat → Nat) : List Int := (List.range n).map fun k => ((f k : Nat) : Int)
theorem fl_len (n : Nat) (f : Nat → Nat) : (fl n f).length = n := by simp [fl]
theorem fl_row (n : Nat) (f : Nat → Nat) : ints (fl n f) = lrow n f := by simp [ints, fl, lrow, Function.comp]
theorem fl_get (n : Nat) (f : Nat → Nat) (k : Nat) : (fl n f).getD k 0 = if k < n then ((f k : Nat) : Int) else 0 := by
  simp only [fl, List.getD_eq_getElem?_getD, List.getElem?_map]
  by_cases h : k < n
  · simp [h]
  · simp [h]
theorem lstep_set {n k : Nat} {f : Nat → Nat} {v : Nat} {w : Int} (hw : w = (v : Int)) : (lrow n f).set k (.int .i64 w) = lrow n (fun q => if q = k then v else f q) := lrow_set hw
theorem rrow_step {C Cs : List PM.Coin} {Y R T : List CoinV} {i : Nat} (hY : Y.map CoinV.pm = C) (hu : Stab.Up PM.Coin.worth Cs) (ha : Stab.Alike PM.Coin.worth Cs C) (hR : R.map CoinV.pm = if i = 0 then [] else PM.packs (PM.row Cs (i - 1))) (hT : Srt.Up coinLt T) (hTa : Srt.Alike coinLt T (Y ++ R)) : T.map CoinV.pm = PM.row Cs i := by
  have h2 := stab_alike hTa
  rw [List.map_append, hY, hR] at h2
  cases i with
  | zero =>
    rw [if_pos rfl, List.append_nil] at h2
    exact Stab.unique (stab_up hT) hu (h2.trans ha.symm)
  | succ i =>
    rw [if_neg (by omega), Nat.add_sub_cancel] at h2
    have hp : Stab.Up PM.Coin.worth (PM.packs (PM.row Cs i)) := PM.packs_up _ (PM.row_up _ hu i)
    exact Stab.unique (stab_up hT) (PM.merge_up _ _ hu hp) (h2.trans ((ha.symm.append (Stab.Alike.refl _ _)).trans (PM.merge_alike _ _ hu).symm))
theorem rrow_len {Cs : List PM.Coin} {R T : List CoinV} {i k : Nat} (hl : Cs.length = k) (hR : R.map CoinV.pm = if i = 0 then [] else PM.packs (PM.row Cs (i - 1))) (hT : T.map CoinV.pm = PM.row Cs i) : T.length = k + R.length := by
  have h1 := congrArg List.length hT
  have h2 := congrArg List.length hR
  rw [List.length_map] at h1 h2
  cases i with
  | zero => rw [if_pos rfl] at h2; simp [PM.row] at h1 h2; subst h2; simp; omega
  | succ i => rw [if_neg (by omega), Nat.add_sub_cancel, PM.packs_length] at h2; rw [PM.row_length] at h1; omega
theorem lrow_congr {n : Nat} {f g : Nat → Nat} (h : ∀ q, q < n → f q = g q) : lrow n f = lrow n g := by
  unfold lrow
  apply List.map_congr_left
  intro q hq
  rw [h q (List.mem_range.1 hq)]
theorem perm_E (E S : Chunk) (L : List Chunk) : (E :: S :: L).flatten.Perm ([] :: (E ++ S) :: L).flatten := by simp
theorem perm_J (E S M : Chunk) (L : List Chunk) : (E :: S :: M :: L).flatten.Perm (E :: (S ++ M) :: L).flatten := by simp

theorem rcost_spec (w0 : World) (L : List Chunk) (v v' : Value) (xs ys : List Int) (hx : Rd w0 L v 1 xs.length (ints xs)) (hy : Rd w0 L v' 1 ys.length (ints ys)) (hl : xs.length ≤ 400) (hl2 : ys.length ≤ 400)
    (hbx : ∀ i, 0 ≤ xs.getD i 0 ∧ xs.getD i 0 ≤ 1073741824) (hby : ∀ i, 0 ≤ ys.getD i 0 ∧ ys.getD i 0 ≤ 1000) :
    Meets Try.prog 135 #[v, v'] w0 L (fun r L' => L = L' ∧ r = .int .i64 (dot xs ys (min xs.length ys.length))) := by
  obtain ⟨_, b, o, A, c, rfl, hA, hr⟩ := hx
  obtain ⟨_, b', o', A', c', rfl, hA', hr'⟩ := hy
  refine Meets.of_body [.slice A xs.length c, .slice A' ys.length c'] Try.func135 rfl Try.ntmps135 rfl ?_
  refine SC.seq ?_
  refine SC.plain ?_
  refine St.assign rfl rfl ?_
  refine St.done ?_
  refine SX.seq ?_
  refine SC.seq ?_
  refine SC.plain ?_
  refine St.assign rfl rfl ?_
  refine St.done ?_
  refine SX.seq ?_
  refine SC.seq ?_
  refine SC.seq ?_
  refine SC.plain ?_
  refine St.assign rfl rfl ?_
  refine St.done ?_
  refine SX.seq ?_
  refine SC.block ?_
  refine SC.loop (α := Nat) (fun i => i ≤ xs.length ∧ i ≤ ys.length) (fun i => [(0, .slice A xs.length c), (1, .slice A' ys.length c'), (5, .int .i64 (dot xs ys i)), (6, .int .i64 ((i : Nat) : Int))]) (fun _ => L) (fun i => xs.length - i) 0 ⟨Nat.zero_le _, Nat.zero_le _⟩ ⟨rfl, rfl, rfl, rfl, trivial⟩ (List.Perm.refl _) ?_
  rintro i ⟨hi, hi2⟩
  try simp only at hi hi2 ⊢
  refine SC.seq ?_
  refine SC.seq ?_
  refine SC.plain ?_
  refine St.move rfl rfl ?_
  refine St.move rfl rfl ?_
  refine St.lenSl rfl rfl (by kernel_rfl) ?_
  refine St.lss rfl rfl rfl ?_
  refine St.move rfl rfl ?_
  refine St.split 11 rfl (fun g11 => ?_) (fun g11 => ?_)
  · refine St.guard_yes rfl rfl ?_
    refine St.move rfl rfl ?_
    refine St.guard_yes rfl rfl ?_
    refine St.move rfl rfl ?_
    refine St.guard_yes rfl rfl ?_
    refine St.lenSl rfl rfl (by kernel_rfl) ?_
    refine St.guard_yes rfl rfl ?_
    refine St.lss rfl rfl rfl ?_
    refine St.pick_true rfl rfl rfl ?_
    refine St.done ?_
    refine SX.seq ?_
    refine SC.condp rfl (fun c16 => ?_) (fun c16 => ?_)
    · obtain rfl := hA (by omega)
      obtain rfl := hA' (by omega)
      have hd := dot_bd hbx hby i
      have hd2 := dot_bd hbx hby (i + 1)
      have h1 := hbx i
      have h2 := hby i
      have h3 : 0 ≤ xs.getD i 0 * ys.getD i 0 := Int.mul_nonneg h1.1 h2.1
      have h4 : xs.getD i 0 * ys.getD i 0 ≤ 1073741824 * 1000 := Int.mul_le_mul h1.2 h2.2 h2.1 (by omega)
      refine SC.skip ?_
      refine SX.seq ?_
      refine SC.seq ?_
      refine SC.block ?_
      refine SC.drawn [(0, true), (1, true), (2, true), (3, true), (4, true), (5, true), (6, true), (7, true), (8, true), (9, true), (10, true), (11, true)] [] (_) (by kernel_rfl) (by kernel_rfl) (fun _ h => h) ?_
      refine St.move rfl rfl ?_
      refine St.move rfl rfl ?_
      refine St.move rfl rfl ?_
      refine St.indexSl (e := 3) (sz := 1) rfl rfl rfl (by kernel_rfl) (by omega) ?_
      refine St.load rfl rfl (by kernel_rfl) (hr.nat i (by omega)) ?_
      refine St.move rfl rfl ?_
      refine St.move rfl rfl ?_
      refine St.indexSl (e := 3) (sz := 1) rfl rfl rfl (by kernel_rfl) (by omega) ?_
      refine St.load rfl rfl (by kernel_rfl) (hr'.nat i (by omega)) ?_
      first | refine St.mulN rfl rfl rfl (by omega) ?_ | refine St.mulI rfl rfl rfl (by omega) ?_
      first | refine St.addN rfl rfl rfl (by omega) ?_ | refine St.addI rfl rfl rfl (by omega) ?_
      refine St.assign rfl rfl ?_
      refine St.done ?_
      refine SX.tail ?_
      refine St.done ?_
      refine SX.blk ?_
      refine SX.seq ?_
      refine SC.plain ?_
      refine St.move rfl rfl ?_
      first | refine St.addN (b := 1) rfl rfl rfl (by omega) ?_ | refine St.addI rfl rfl rfl (by omega) ?_
      refine St.assign rfl rfl ?_
      refine St.done ?_
      exact SX.again (i + 1) ⟨by omega, by omega⟩ (by omega) ⟨rfl, rfl, rfl, rfl, trivial⟩ (List.Perm.refl _)
    · obtain rfl : i = min xs.length ys.length := by omega
      refine SC.exit ?_
      refine SX.seq_exit ?_
      refine SX.seq_exit ?_
      refine SX.hit ?_
      refine SX.seq ?_
      refine SC.seq ?_
      refine SC.plain ?_
      refine St.move rfl rfl ?_
      refine St.assign rfl rfl ?_
      refine St.done ?_
      refine SX.seq ?_
      refine SC.ret ?_
      exact SX.ret1 rfl rfl ⟨rfl, rfl⟩
  · obtain rfl : i = min xs.length ys.length := by omega
    refine St.guard_no rfl rfl rfl ?_
    refine St.guard_no rfl rfl rfl ?_
    refine St.guard_no rfl rfl rfl ?_
    refine St.guard_no rfl rfl rfl ?_
    refine St.pick_false rfl rfl rfl ?_
    refine St.done ?_
    refine SX.seq ?_
    refine SC.cond_false rfl ?_
    refine SC.exit ?_
    refine SX.seq_exit ?_
    refine SX.seq_exit ?_
    refine SX.hit ?_
    refine SX.seq ?_
    refine SC.seq ?_
    refine SC.plain ?_
    refine St.move rfl rfl ?_
    refine St.assign rfl rfl ?_
    refine St.done ?_
    refine SX.seq ?_
    refine SC.ret ?_
    exact SX.ret1 rfl rfl ⟨rfl, rfl⟩
theorem least_spec (w0 : World) (L : List Chunk) (u : Value) (cs : List Int) (m : Nat) (hr : Rd w0 L u 1 cs.length (ints cs)) (hl : cs.length ≤ 400) (hm1 : 1 ≤ m) (hm2 : m ≤ 15) (hbx : ∀ i, 0 ≤ cs.getD i 0 ∧ cs.getD i 0 ≤ 1073741824) (hroom : (coinsTo cs cs.length).length ≤ 2 ^ m)
    (Cs : List PM.Coin) (hCu : Stab.Up PM.Coin.worth Cs) (hCa : Stab.Alike PM.Coin.worth Cs (coinsTo cs cs.length)) :
    Meets Try.prog 73 #[u, .int .i64 ((m : Nat) : Int)] w0 L (fun r L' => ((coinsTo cs cs.length).length < 2 ∧ r = .int .i64 (dot cs (fl cs.length (fun k => if k < cs.length then 1 else 0)) cs.length)) ∨
      (2 ≤ (coinsTo cs cs.length).length ∧ r = .int .i64 (dot cs (fl cs.length (fun k => PM.cnt k ((PM.row Cs (m - 1)).take (2 * Cs.length - 2)))) cs.length))) := by
  have hr0 := hr
  obtain ⟨_, bcs, ocs, Ac, cc, rfl, hAc, hcs⟩ := hr
  refine Meets.of_body [.slice Ac cs.length cc, .int .i64 ((m : Nat) : Int)] Try.func73 rfl Try.ntmps73 rfl ?_
  refine SC.seq ?_
  refine SC.plain ?_
  refine St.assign rfl rfl ?_
  refine St.done ?_
  refine SX.seq ?_
  refine SC.seq ?_
  refine SC.plain ?_
  refine St.assign rfl rfl ?_
  refine St.done ?_
  refine SX.seq ?_
  refine SC.seq ?_
  refine SC.plain ?_
  refine St.assign rfl rfl ?_
  refine St.done ?_
  refine SX.seq ?_
  refine SC.seq ?_
  refine SC.seq ?_
  refine SC.plain ?_
  refine St.assign rfl rfl ?_
  refine St.done ?_
  refine SX.seq ?_
  refine SC.block ?_
  refine SC.loop (α := Nat × Value × List CoinV × Chunk × Chunk) (fun s => s.1 ≤ cs.length ∧ s.2.2.1.map CoinV.pm = coinsTo cs s.1 ∧ s.2.2.1.length ≤ s.1 ∧ Buf 201 2 s.2.1 (s.2.2.1.flatMap CoinV.cells) s.2.2.1.length s.2.2.2.1 ∧ ∀ y ∈ s.2.2.1, GoodR w0 (s.2.2.2.2 :: L) cs.length y ∧ FitR 1073741824 1 y) (fun s => [(0, .slice Ac cs.length cc), (1, .int .i64 ((m : Nat) : Int)), (5, s.2.1), (6, .int .i64 ((s.2.2.1.length : Nat) : Int)), (7, .int .i64 ((s.1 : Nat) : Int))]) (fun s => s.2.2.2.1 :: s.2.2.2.2 :: L) (fun s => cs.length - s.1) (0, _, [], [], []) ⟨Nat.zero_le _, rfl, Nat.le_refl _, Buf.nil _ _, by simp⟩ ⟨rfl, rfl, rfl, rfl, rfl, trivial⟩ (List.Perm.refl _) ?_
  rintro ⟨i, v5, Y, E, S⟩ ⟨hin, hYm, hYi, hbf, hYG⟩
  simp only at hin hYm hYi hbf hYG ⊢
  refine SC.seq ?_
  refine SC.seq ?_
  refine SC.plain ?_
  refine St.move rfl rfl ?_
  refine St.move rfl rfl ?_
  refine St.lenSl rfl rfl (by kernel_rfl) ?_
  refine St.lss rfl rfl rfl ?_
  refine St.done ?_
  refine SX.seq ?_
  refine SC.condp rfl (fun c23 => ?_) (fun c23 => ?_)
  · obtain rfl := hAc (by omega)
    have hbi := hbx i
    refine SC.skip ?_
    refine SX.seq ?_
    refine SC.seq ?_
    refine SC.block ?_
    refine SC.seq ?_
    refine SC.plain ?_
    refine St.move rfl rfl ?_
    refine St.move rfl rfl ?_
    refine St.indexSl (e := 3) (sz := 1) rfl rfl rfl (by kernel_rfl) (by omega) ?_
    refine St.load rfl rfl (by kernel_rfl) (HoldsN.nat (xs := cs) (k := .i64) hcs.cons.cons i (by omega)) ?_
    refine St.gtr rfl rfl rfl ?_
    refine St.done ?_
    refine SX.seq ?_
    refine SC.condp rfl (fun c30 => ?_) (fun c30 => ?_)
    · refine SC.seq ?_
      refine SC.plain ?_
      refine St.move rfl rfl ?_
      refine St.lenSl rfl rfl (by kernel_rfl) ?_
      refine St.makeSl (e := 3) (zv := .int .i64 0) (bytes := 8) rfl rfl rfl (by kernel_rfl) (by omega) (by omega) (by omega) (fun _ _ h => h.nil) (fun b33 => ?_)
      simp only [Int.toNat_natCast, lrow_zero]
      refine St.assign rfl rfl ?_
      refine St.done ?_
      refine SX.seq ?_
      refine SC.seq ?_
      refine SC.plain ?_
      refine St.move rfl rfl ?_
      refine St.move rfl rfl ?_
      refine St.indexSl (e := 3) (sz := 1) rfl rfl rfl (by kernel_rfl) (by omega) ?_
      refine St.store rfl rfl rfl rfl (by kernel_rfl) (by rw [lrow_len]; omega) (fun _ h => h.nil) ?_
      rw [show 0 + ((i : Nat) : Int).toNat * 1 = i by omega, lrow_set (v := 1) (by first | rfl | (push_cast; rfl) | omega)]
      rw [show (fun q => if q = i then 1 else 0) = (fun k => [i].count k) from funext fun q => by by_cases h : q = i; (subst h; simp); (rw [if_neg h]; exact (List.count_eq_zero_of_not_mem (by simpa using h)).symm)]
      refine St.done ?_
      refine SX.seq ?_
      refine SC.seq ?_
      refine SC.plain ?_
      refine St.move rfl rfl ?_
      refine St.move rfl rfl ?_
      refine St.move rfl rfl ?_
      refine St.indexSl (e := 3) (sz := 1) rfl rfl rfl (by kernel_rfl) (by omega) ?_
      refine St.load rfl rfl (by kernel_rfl) (HoldsN.nat (xs := cs) (k := .i64) hcs.cons.cons.cons i (by omega)) ?_
      refine St.move rfl rfl ?_
      refine St.build [(0, .int .i64 (cs.getD i 0)), (1, .slice (some ⟨b33, 0, none⟩) cs.length cs.length)] [.int .i64 (cs.getD i 0), .slice (some ⟨b33, 0, none⟩) cs.length cs.length] rfl rfl (by kernel_rfl) ?_
      refine St.buildSl (n := 1) (e := 201) [(0, .agg #[.int .i64 (cs.getD i 0), .slice (some ⟨b33, 0, none⟩) cs.length cs.length])] [.int .i64 (cs.getD i 0), .slice (some ⟨b33, 0, none⟩) cs.length cs.length] rfl rfl (by kernel_rfl) (fun _ _ h => h.nil) (fun b44 => ?_)
      refine St.append2 (e := 201) (sz := 2) (bytes := 32) (m := 1) rfl rfl rfl (by kernel_rfl) hbf (Rd.row rfl mem0) (by simp [one]) (by omega) (by omega) (fun _ _ h => h.nil) (fun v2 E2 hb2 _ => ?_)
      refine St.assign rfl rfl ?_
      refine St.done ?_
      refine SX.seq ?_
      refine SC.plain ?_
      refine St.move rfl rfl ?_
      first | refine St.addN (b := 1) rfl rfl rfl (by omega) ?_ | refine St.addI rfl rfl rfl (by omega) ?_
      refine St.assign rfl rfl ?_
      refine St.done ?_
      refine SX.blk ?_
      refine SX.seq ?_
      refine SC.plain ?_
      refine St.move rfl rfl ?_
      first | refine St.addN (b := 1) rfl rfl rfl (by omega) ?_ | refine St.addI rfl rfl rfl (by omega) ?_
      refine St.assign rfl rfl ?_
      refine St.done ?_
      refine SX.drop ?_
      exact SX.again (i + 1, v2, Y ++ [⟨cs.getD i 0, some ⟨b33, 0, none⟩, cs.length, cs.length, [i]⟩], E2, [⟨b33, lrow cs.length (fun k => [i].count k), 3⟩] ++ S) ⟨by simp only; omega, by simp only; rw [List.map_append, hYm, coinsTo_yes (by omega)]; rfl, by simp only [List.length_append, List.length_cons, List.length_nil]; omega, by simp only [flat_app, List.length_append, List.length_cons, List.length_nil]; exact hb2, fun y hy => by rcases List.mem_append.1 hy with hy | hy; exact ⟨(hYG y hy).1.mono (fun w hw => hw.sub (by simp)), (hYG y hy).2⟩; rcases List.mem_singleton.1 hy with rfl; exact ⟨⟨rfl, Rd.row (e := 3) ((lrow_len _ _).trans (Nat.mul_one _).symm) (by simp)⟩, by simp only; omega, by simp only; exact hbi.2, Nat.le_refl _⟩⟩ (by simp only; omega) ⟨rfl, rfl, rfl, by simp only [List.length_append, List.length_cons, List.length_nil]; rfl, rfl, trivial⟩ (perm_S _ _ _ _)
    · refine SC.skip ?_
      refine SX.blk ?_
      refine SX.seq ?_
      refine SC.plain ?_
      refine St.move rfl rfl ?_
      first | refine St.addN (b := 1) rfl rfl rfl (by omega) ?_ | refine St.addI rfl rfl rfl (by omega) ?_
      refine St.assign rfl rfl ?_
      refine St.done ?_
      exact SX.again (i + 1, v5, Y, E, S) ⟨by simp only; omega, by simp only; rw [coinsTo_no (by omega)]; exact hYm, by simp only; omega, hbf, hYG⟩ (by simp only; omega) ⟨rfl, rfl, rfl, rfl, rfl, trivial⟩ (List.Perm.refl _)
  · obtain rfl : i = cs.length := by omega
    have hYl : Y.length = (coinsTo cs cs.length).length := by rw [← hYm, List.length_map]
    obtain ⟨b5, o5, A5, c5, rfl, hA5, _⟩ := hbf.read
    have hc5 := hbf.cap.le
    refine SC.exit ?_
    refine SX.seq_exit ?_
    refine SX.seq_exit ?_
    refine SX.hit ?_
    refine SX.seq ?_
    refine SC.seq ?_
    refine SC.seq ?_
    refine SC.plain ?_
    refine St.move rfl rfl ?_
    refine St.lss rfl rfl rfl ?_
    refine St.done ?_
    refine SX.seq ?_
    refine SC.condp rfl (fun c49 => ?_) (fun c49 => ?_)
    · refine SC.seq ?_
      refine SC.plain ?_
      refine St.move rfl rfl ?_
      refine St.lenSl rfl rfl (by kernel_rfl) ?_
      refine St.makeSl (e := 3) (zv := .int .i64 0) (bytes := 8) rfl rfl rfl (by kernel_rfl) (by omega) (by omega) (by omega) (fun _ _ h => h.nil) (fun b52 => ?_)
      simp only [Int.toNat_natCast, lrow_zero]
      refine St.assign rfl rfl ?_
      refine St.done ?_
      refine SX.seq ?_
      refine SC.seq ?_
      refine SC.seq ?_
      refine SC.plain ?_
      refine St.assign rfl rfl ?_
      refine St.done ?_
      refine SX.seq ?_
      refine SC.block ?_
      rw [show (fun _ : Nat => 0) = (fun k => if k < 0 then 1 else 0) from funext fun k => by simp]
      refine SC.loop (α := Nat) (fun s => s ≤ cs.length) (fun s => [(0, .slice Ac cs.length cc), (9, .slice (some ⟨b52, 0, none⟩) cs.length cs.length), (10, .int .i64 ((s : Nat) : Int))]) (fun s => [⟨b52, lrow cs.length (fun k => if k < s then 1 else 0), 3⟩] :: E :: S :: L) (fun s => cs.length - s) 0 (Nat.zero_le _) ⟨rfl, rfl, rfl, trivial⟩ (List.Perm.refl _) ?_
      rintro i hi
      try simp only at hi ⊢
      refine SC.seq ?_
      refine SC.seq ?_
      refine SC.plain ?_
      refine St.move rfl rfl ?_
      refine St.move rfl rfl ?_
      refine St.lenSl rfl rfl (by kernel_rfl) ?_
      refine St.lss rfl rfl rfl ?_
      refine St.done ?_
      refine SX.seq ?_
      refine SC.condp rfl (fun c56 => ?_) (fun c56 => ?_)
      · refine SC.skip ?_
        refine SX.seq ?_
        refine SC.seq ?_
        refine SC.block ?_
        refine SC.plain ?_
        refine St.move rfl rfl ?_
        refine St.move rfl rfl ?_
        refine St.indexSl (e := 3) (sz := 1) rfl rfl rfl (by kernel_rfl) (by omega) ?_
        refine St.store rfl rfl rfl rfl (by kernel_rfl) (by rw [lrow_len]; omega) (fun _ h => h.nil) ?_
        rw [show 0 + ((i : Nat) : Int).toNat * 1 = i by omega, lrow_set (v := 1) (by first | rfl | (push_cast; rfl) | omega)]
        refine St.done ?_
        refine SX.blk ?_
        refine SX.seq ?_
        refine SC.plain ?_
        refine St.move rfl rfl ?_
        first | refine St.addN (b := 1) rfl rfl rfl (by omega) ?_ | refine St.addI rfl rfl rfl (by omega) ?_
        refine St.assign rfl rfl ?_
        refine St.done ?_
        rw [show (fun q => if q = i then 1 else if q < i then 1 else 0) = (fun k => if k < i + 1 then 1 else 0) from funext fun q => by split <;> split <;> (try split) <;> omega]
        exact SX.again (i + 1) (show i + 1 ≤ cs.length by omega) (by omega) ⟨rfl, rfl, rfl, trivial⟩ (List.Perm.refl _)
      · obtain rfl : i = cs.length := by omega
        refine SC.exit ?_
        refine SX.seq_exit ?_
        refine SX.seq_exit ?_
        refine SX.hit ?_
        refine SX.seq ?_
        refine SC.seq ?_
        refine SC.plain ?_
        refine St.move rfl rfl ?_
        refine St.move rfl rfl ?_
        refine St.call [_, _] rfl (by kernel_rfl) rfl (rcost_spec w0 _ _ _ cs (fl cs.length (fun k => if k < cs.length then 1 else 0)) (hr0.mono (fun w hw => hw.drop.drop.drop)) (by rw [fl_len, fl_row]; exact Rd.row (by rw [lrow_len]; omega) mem0) (by omega) (by rw [fl_len]; omega) hbx (fun k => by rw [fl_get]; split <;> (try split) <;> omega)) (fun _ _ _ _ h => h.nil) ?_
        rintro r L1 ⟨rfl, rfl⟩
        rw [fl_len, Nat.min_self]
        refine St.assign rfl rfl ?_
        refine St.done ?_
        refine SX.seq ?_
        refine SC.ret ?_
        refine SX.seq_ret ?_
        exact SX.ret1 rfl rfl (.inl ⟨by omega, rfl⟩)
    · refine SC.skip ?_
      refine SX.seq ?_
      refine SC.seq ?_
      refine SC.plain ?_
      refine St.assign rfl rfl ?_
      refine St.done ?_
      refine SX.seq ?_
      refine SC.seq ?_
      refine SC.seq ?_
      refine SC.plain ?_
      refine St.assign rfl rfl ?_
      refine St.done ?_
      refine SX.seq ?_
      refine SC.block ?_
      have hCl : Cs.length = Y.length := by rw [hYl]; exact (alike_perm hCa).length_eq
      have hYr0 : Rd w0 ((E ++ S) :: L) (.slice A5 Y.length c5) 2 Y.length (Y.flatMap CoinV.cells) := (hbf.rd (w0 := w0) (L := E :: L) (by simp)).mono (fun w hw => hw.sub (by simp))
      have hYG0 : ∀ y ∈ Y, GoodR w0 ((E ++ S) :: L) cs.length y := fun y hy => (hYG y hy).1.mono (fun w hw => hw.sub (by simp))
      have hYF : ∀ y ∈ Y, FitR 1073741824 1 y := fun y hy => (hYG y hy).2
      refine SC.loop (α := Nat × Value × List CoinV × Chunk × Chunk × Nat) (fun s => s.1 ≤ m - 1 ∧ s.2.2.2.2.2 = 2 ^ s.1 ∧ s.2.2.1.map CoinV.pm = (if s.1 = 0 then [] else PM.packs (PM.row Cs (s.1 - 1))) ∧ s.2.2.1.length ≤ Y.length ∧ Buf 201 2 s.2.1 (s.2.2.1.flatMap CoinV.cells) s.2.2.1.length s.2.2.2.1 ∧ (∀ r ∈ s.2.2.1, GoodR w0 (s.2.2.2.2.1 :: L) cs.length r ∧ FitR ((1073741824 * s.2.2.2.2.2 : Nat) : Int) s.2.2.2.2.2 r) ∧ Rd w0 (s.2.2.2.2.1 :: L) (.slice A5 Y.length c5) 2 Y.length (Y.flatMap CoinV.cells) ∧ ∀ y ∈ Y, GoodR w0 (s.2.2.2.2.1 :: L) cs.length y) (fun s => [(0, .slice Ac cs.length cc), (1, .int .i64 ((m : Nat) : Int)), (5, .slice A5 Y.length c5), (6, .int .i64 ((Y.length : Nat) : Int)), (11, s.2.1), (12, .int .i64 ((s.1 : Nat) : Int))]) (fun s => s.2.2.2.1 :: s.2.2.2.2.1 :: L) (fun s => m - s.1) (0, _, [], [], E ++ S, 1) ⟨Nat.zero_le _, rfl, rfl, Nat.zero_le _, Buf.nil _ _, by simp, hYr0, hYG0⟩ ⟨rfl, rfl, rfl, rfl, rfl, rfl, trivial⟩ (perm_E _ _ _) ?_
      clear hYr0 hYG0
      rintro ⟨i, v11, R, El, M, p⟩ ⟨him, hp, hRp, hRl, hbl, hRG, hYr, hYg⟩
      simp only at him hp hRp hRl hbl hRG hYr hYg ⊢
      have hp16 : p ≤ 2 ^ 14 := by rw [hp]; exact Nat.pow_le_pow_right (by omega) (by omega)
      rw [show 2 ^ 14 = 16384 from rfl] at hp16
      have hp1 : 1 ≤ p := by rw [hp]; exact Nat.one_le_two_pow
      have hn0 : 0 < cs.length := by omega
      refine SC.seq ?_
      refine SC.seq ?_
      refine SC.plain ?_
      refine St.move rfl rfl ?_
      refine St.move rfl rfl ?_
      refine St.lss rfl rfl rfl ?_
      refine St.done ?_
      refine SX.seq ?_
      refine SC.condp rfl (fun c67 => ?_) (fun c67 => ?_)
      · refine SC.skip ?_
        refine SX.seq ?_
        refine SC.seq ?_
        refine SC.block ?_
        refine SC.seq ?_
        refine SC.plain ?_
        refine St.buildSl0 (e := 201) (sz := 2) rfl (by kernel_rfl) (fun _ _ h => h.nil) (fun b70 => ?_)
        refine St.move rfl rfl ?_
        refine St.append (e := 201) (sz := 2) (bytes := 32) rfl rfl rfl (by kernel_rfl) (Buf.whole (cs := []) (n := 0) rfl) (hYr.mono (fun w hw => hw.drop.drop)) (flat_one _) (by omega) (by omega) (fun _ _ h => h.nil) (fun va Ea hba _ => ?_)
        rw [List.nil_append, Nat.zero_add] at hba
        refine St.move rfl rfl ?_
        refine St.append (e := 201) (sz := 2) (bytes := 32) rfl rfl rfl (by kernel_rfl) hba (hbl.rd (by simp)) (flat_one _) (by omega) (by omega) (fun _ _ h => h.nil) (fun vb Eb hbb _ => ?_)
        rw [← flat_app, show Y.length + R.length = (Y ++ R).length by simp] at hbb
        refine St.call [_] rfl (by kernel_rfl) rfl (rsorted_spec w0 _ vb (Y ++ R) (hbb.rd (by simp)) (by rw [List.length_append]; omega)) (fun _ _ _ _ h => h.nil) ?_
        rintro r75 L75 ⟨T, Et, rfl, hbt, hTu, hTa⟩
        have hTrow := rrow_step hYm hCu hCa hRp hTu hTa
        have hTl := rrow_len hCl hRp hTrow
        obtain ⟨bt, ot, At, ct, rfl, hAt, hht⟩ := hbt.read
        obtain ⟨M1, hM1⟩ : ∃ M1 : Chunk, M1 = Et ++ M := ⟨_, rfl⟩
        have hTr : HoldsN w0 (M1 :: L) bt ot (T.flatMap CoinV.cells) := (hht w0 (Et :: L) (by simp)).mono (fun w hw => hw.sub (by rw [hM1]; simp))
        have hTG : ∀ t ∈ T, GoodR w0 (M1 :: L) cs.length t ∧ FitR ((1073741824 * p : Nat) : Int) p t := fun t ht => by rcases List.mem_append.1 (hTa.mem coinLt_swo ht) with h | h; exact ⟨(hYg t h).mono (fun w hw => hw.sub (by rw [hM1]; simp)), by have := hYF t h; exact ⟨this.1, by have := this.2.1; omega, by have := this.2.2; omega⟩⟩; exact ⟨(hRG t h).1.mono (fun w hw => hw.sub (by rw [hM1]; simp)), (hRG t h).2⟩
        have hYr1 : Rd w0 (M1 :: L) (.slice A5 Y.length c5) 2 Y.length (Y.flatMap CoinV.cells) := hYr.mono (fun w hw => hw.sub (by rw [hM1]; simp))
        have hYg1 : ∀ y ∈ Y, GoodR w0 (M1 :: L) cs.length y := fun y hy => (hYg y hy).mono (fun w hw => hw.sub (by rw [hM1]; simp))
        refine St.weak (Et :: M :: L) (.cons_cons _ (.cons _ (.cons _ (List.Sublist.refl _)))) ?_
        refine St.perm _ (perm_E _ _ _) ?_
        rw [← hM1]
        refine St.assign rfl rfl ?_
        refine St.done ?_
        refine SX.seq ?_
        refine SC.seq ?_
        refine SC.plain ?_
        refine St.assign rfl rfl ?_
        refine St.done ?_
        refine SX.seq ?_
        refine SC.seq ?_
        refine SC.seq ?_
        refine SC.plain ?_
        refine St.move rfl rfl ?_
        refine St.move rfl rfl ?_
        first | refine St.subN (b := 1) rfl rfl rfl (by omega) (by omega) ?_ | refine St.subI rfl rfl rfl (by omega) ?_
        refine St.eql rfl rfl rfl ?_
        refine St.done ?_
        refine SX.seq ?_
        refine SC.condp rfl (fun c79 => ?_) (fun c79 => ?_)
        · obtain rfl : i = m - 1 := by omega
          obtain rfl := hAt (by omega)
          have hroomT := PM.room Cs (m - 1) (by rw [hCl, show m - 1 + 1 = m by omega]; omega)
          rw [← hTrow, List.length_map, hCl] at hroomT
          have hff : ∀ q, PM.cnt q ((T.take (2 * Y.length - 2)).map CoinV.pm) = PM.cnt q ((PM.row Cs (m - 1)).take (2 * Cs.length - 2)) := fun q => by rw [← hTrow, hCl, List.map_take]
          have hins : ∀ r ∈ T, ∀ s ∈ r.ins, s < cs.length := fun r hr => row_ins (C := Cs) (fun c hc => by obtain ⟨j, hj, hjc, _⟩ := coinsTo_mem ((alike_perm hCa).mem_iff.1 hc); rw [hjc]; intro s hs; rcases List.mem_singleton.1 hs with rfl; exact hj) (m - 1) r.pm (by rw [← hTrow]; exact List.mem_map_of_mem hr)
          refine SC.seq ?_
          refine SC.plain ?_
          refine St.move rfl rfl ?_
          refine St.assign rfl rfl ?_
          refine St.done ?_
          refine SX.seq ?_
          refine SC.exit ?_
          refine SX.seq_exit ?_
          refine SX.miss rfl ?_
          refine SX.seq_exit ?_
          refine SX.seq_exit ?_
          refine SX.hit ?_
          refine SX.seq ?_
          refine SC.seq ?_
          refine SC.plain ?_
          refine St.move rfl rfl ?_
          refine St.lenSl rfl rfl (by kernel_rfl) ?_
          refine St.makeSl (e := 3) (zv := .int .i64 0) (bytes := 8) rfl rfl rfl (by kernel_rfl) (by omega) (by omega) (by omega) (fun _ _ h => h.nil) (fun b137 => ?_)
          simp only [Int.toNat_natCast, lrow_zero]
          refine St.assign rfl rfl ?_
          refine St.done ?_
          refine SX.seq ?_
          refine SC.seq ?_
          refine SC.seq ?_
          refine SC.plain ?_
          refine St.assign rfl rfl ?_
          refine St.done ?_
          refine SX.seq ?_
          refine SC.block ?_
          refine SC.loop (α := Nat) (fun s => s ≤ 2 * Y.length - 2) (fun s => [(0, .slice Ac cs.length cc), (6, .int .i64 ((Y.length : Nat) : Int)), (11, .slice (some ⟨bt, ot, none⟩) T.length ct), (17, .slice (some ⟨b137, 0, none⟩) cs.length cs.length), (18, .int .i64 ((s : Nat) : Int))]) (fun s => [⟨b137, lrow cs.length (fun q => PM.cnt q ((T.take s).map CoinV.pm)), 3⟩] :: [] :: M1 :: L) (fun s => 2 * Y.length - 2 - s) 0 (Nat.zero_le _) ⟨rfl, rfl, rfl, rfl, rfl, trivial⟩ (List.Perm.refl _) ?_
          rintro j hj
          try simp only at hj ⊢
          refine SC.seq ?_
          refine SC.seq ?_
          refine SC.plain ?_
          refine St.move rfl rfl ?_
          refine St.move rfl rfl ?_
          first | refine St.mulN (a := 2) rfl rfl rfl (by omega) ?_ | refine St.mulI rfl rfl rfl (by omega) ?_
          first | refine St.subN (b := 2) rfl rfl rfl (by omega) (by omega) ?_ | refine St.subI rfl rfl rfl (by omega) ?_
          refine St.lss rfl rfl rfl ?_
          refine St.move rfl rfl ?_
          refine St.split 143 rfl (fun g143 => ?_) (fun g143 => ?_)
          · refine St.guard_yes rfl rfl ?_
            refine St.move rfl rfl ?_
            refine St.guard_yes rfl rfl ?_
            refine St.move rfl rfl ?_
            refine St.guard_yes rfl rfl ?_
            refine St.lenSl rfl rfl (by kernel_rfl) ?_
            refine St.guard_yes rfl rfl ?_
            refine St.lss rfl rfl rfl ?_
            refine St.pick_true rfl rfl rfl ?_
            refine St.done ?_
            refine SX.seq ?_
            refine SC.condp rfl (fun c148 => ?_) (fun c148 => ?_)
            · obtain ⟨r, hr⟩ : ∃ r, T[j]? = some r := ⟨_, List.getElem?_eq_getElem (by omega)⟩
              have hrT := List.mem_of_getElem? hr
              obtain ⟨hrG, _, _, hrK⟩ := hTG r hrT
              refine SC.skip ?_
              refine SX.seq ?_
              refine SC.seq ?_
              refine SC.block ?_
              refine SC.seq ?_
              refine SC.plain ?_
              refine St.assign rfl rfl ?_
              refine St.done ?_
              refine SX.seq ?_
              refine SC.block ?_
              rw [show (fun q => PM.cnt q ((T.take j).map CoinV.pm)) = (fun q => PM.cnt q ((T.take j).map CoinV.pm) + if q < 0 then r.ins.count q else 0) from funext fun q => by simp]
              obtain ⟨rw1, rA, rn, rc, ri⟩ := r
              obtain ⟨bq, oq, hrA, hrh⟩ := hrG.at hn0
              have hrn := hrG.1
              simp only at hrA hrn hrK hrh
              subst hrA hrn
              refine SC.loop (α := Nat) (fun s => s ≤ cs.length) (fun s => [(0, .slice Ac cs.length cc), (6, .int .i64 ((Y.length : Nat) : Int)), (11, .slice (some ⟨bt, ot, none⟩) T.length ct), (17, .slice (some ⟨b137, 0, none⟩) cs.length cs.length), (18, .int .i64 ((j : Nat) : Int)), (19, .int .i64 ((s : Nat) : Int))]) (fun s => [⟨b137, lrow cs.length (fun q => PM.cnt q ((T.take j).map CoinV.pm) + if q < s then ri.count q else 0), 3⟩] :: [] :: M1 :: L) (fun s => cs.length - s) 0 (Nat.zero_le _) ⟨rfl, rfl, rfl, rfl, rfl, rfl, trivial⟩ (List.Perm.refl _) ?_
              rintro k hk
              try simp only at hk ⊢
              refine SC.seq ?_
              refine SC.seq ?_
              refine SC.plain ?_
              refine St.move rfl rfl ?_
              refine St.move rfl rfl ?_
              refine St.lenSl rfl rfl (by kernel_rfl) ?_
              refine St.lss rfl rfl rfl ?_
              refine St.done ?_
              refine SX.seq ?_
              refine SC.condp rfl (fun c154 => ?_) (fun c154 => ?_)
              · refine SC.skip ?_
                refine SX.seq ?_
                refine SC.seq ?_
                refine SC.block ?_
                have hc1 := pcnt_le (l := (T.take j).map CoinV.pm) (K := 16384) (fun c hc => by obtain ⟨t, ht, rfl⟩ := List.mem_map.1 hc; have h1 := (hTG t (List.mem_of_mem_take ht)).2.2.2; show t.ins.length ≤ 16384; omega) k
                rw [List.length_map, List.length_take] at hc1
                have hc2 : ri.count k ≤ ri.length := List.count_le_length
                have hc3 : (if k < k then ri.count k else 0) = 0 := if_neg (by omega)
                refine SC.drawn [(0, true), (1, true), (2, true), (3, true), (4, true), (5, true), (6, true), (7, true), (8, true), (9, true), (10, true), (11, true), (12, true), (13, true), (14, true)] [15, 16] (_) (by kernel_rfl) (by kernel_rfl) (fun _ h => h) ?_
                refine St.move rfl rfl ?_
                refine St.move rfl rfl ?_
                refine St.move rfl rfl ?_
                refine St.move rfl rfl ?_
                refine St.indexSl (e := 3) (sz := 1) rfl rfl rfl (by kernel_rfl) (by omega) ?_
                refine St.load rfl rfl (by kernel_rfl) (Holds.row mem0 (by rw [show 0 + ((k : Nat) : Int).toNat * 1 = k by omega]; exact lrow_get (by omega))) ?_
                refine St.move rfl rfl ?_
                refine St.move rfl rfl ?_
                refine St.indexSl (e := 201) (sz := 2) rfl rfl rfl (by kernel_rfl) (by omega) ?_
                refine St.fieldAddr (off := 1) rfl rfl (by kernel_rfl) ?_
                refine St.load rfl rfl (by kernel_rfl) (coinS_at hTr.cons.cons hr) ?_
                refine St.move rfl rfl ?_
                refine St.indexSl (e := 3) (sz := 1) rfl rfl rfl (by kernel_rfl) (by first | omega | (simp only; omega)) ?_
                refine St.load rfl rfl (by kernel_rfl) (hrh.cons.cons.at k (lrow_get (by omega))) ?_
                first | refine St.addN rfl rfl rfl (by omega) ?_ | refine St.addI rfl rfl rfl (by omega) ?_
                refine St.done ?_
                refine SX.tail ?_
                refine St.indexSl (e := 3) (sz := 1) rfl rfl rfl (by kernel_rfl) (by omega) ?_
                refine St.store rfl rfl rfl rfl (by kernel_rfl) (by rw [lrow_len]; omega) (fun _ h => h.nil) ?_
                rw [show 0 + ((k : Nat) : Int).toNat * 1 = k by omega, lrow_set (v := (PM.cnt k ((T.take j).map CoinV.pm) + if k < k then ri.count k else 0) + ri.count k) (by first | rfl | (push_cast; rfl) | omega)]
                refine St.done ?_
                refine SX.blk ?_
                refine SX.seq ?_
                refine SC.plain ?_
                refine St.move rfl rfl ?_
                first | refine St.addN (b := 1) rfl rfl rfl (by omega) ?_ | refine St.addI rfl rfl rfl (by omega) ?_
                refine St.assign rfl rfl ?_
                refine St.done ?_
                rw [show (fun q => if q = k then (PM.cnt k ((T.take j).map CoinV.pm) + if k < k then ri.count k else 0) + ri.count k else PM.cnt q ((T.take j).map CoinV.pm) + if q < k then ri.count q else 0) = (fun q => PM.cnt q ((T.take j).map CoinV.pm) + if q < k + 1 then ri.count q else 0) from funext fun q => by by_cases h : q = k; (subst h; simp); (rw [if_neg h]; congr 1; by_cases h2 : q < k; (rw [if_pos h2, if_pos (by omega)]); (rw [if_neg h2, if_neg (by omega)]))]
                exact SX.again (k + 1) (show k + 1 ≤ cs.length by omega) (by omega) ⟨rfl, rfl, rfl, rfl, rfl, rfl, trivial⟩ (List.Perm.refl _)
              · refine SC.exit ?_
                refine SX.seq_exit ?_
                refine SX.seq_exit ?_
                refine SX.hit ?_
                refine SX.blk ?_
                refine SX.seq ?_
                refine SC.plain ?_
                refine St.move rfl rfl ?_
                first | refine St.addN (b := 1) rfl rfl rfl (by omega) ?_ | refine St.addI rfl rfl rfl (by omega) ?_
                refine St.assign rfl rfl ?_
                refine St.done ?_
                obtain rfl : k = cs.length := by omega
                rw [lrow_congr (g := fun q => PM.cnt q ((T.take (j + 1)).map CoinV.pm)) (fun q hq => by rw [cnt_take hr, if_pos hq])]
                exact SX.again (j + 1) (show j + 1 ≤ 2 * Y.length - 2 by omega) (by omega) ⟨rfl, rfl, rfl, rfl, rfl, trivial⟩ (List.Perm.refl _)
            · exfalso; omega
          · obtain rfl : j = 2 * Y.length - 2 := by omega
            refine St.guard_no rfl rfl rfl ?_
            refine St.guard_no rfl rfl rfl ?_
            refine St.guard_no rfl rfl rfl ?_
            refine St.guard_no rfl rfl rfl ?_
            refine St.pick_false rfl rfl rfl ?_
            refine St.done ?_
            refine SX.seq ?_
            refine SC.cond_false rfl ?_
            refine SC.exit ?_
            refine SX.seq_exit ?_
            refine SX.seq_exit ?_
            refine SX.hit ?_
            refine SX.seq ?_
            refine SC.seq ?_
            obtain ⟨Ur, qr, hRk, _⟩ := ranked (f := fun q => PM.cnt q ((PM.row Cs (m - 1)).take (2 * Cs.length - 2))) hm1 (by omega) hroom hCu hCa (fun k => rfl)
            have hle15 : ∀ q, PM.cnt q ((PM.row Cs (m - 1)).take (2 * Cs.length - 2)) ≤ 15 := fun q => by rcases hRk.all q with ⟨r, _, _, he⟩ | ⟨_, he⟩; (have := hRk.le_m r; (try simp only at he); omega); ((try simp only at he); omega)
            refine SC.plain ?_
            refine St.move rfl rfl ?_
            refine St.move rfl rfl ?_
            refine St.call [_, _] rfl (by kernel_rfl) rfl (rcost_spec w0 _ _ _ cs (fl cs.length (fun q => PM.cnt q ((T.take (2 * Y.length - 2)).map CoinV.pm))) (hr0.mono (fun w hw => hw.drop.drop.drop)) (by rw [fl_len, fl_row]; exact Rd.row (by rw [lrow_len]; omega) mem0) (by omega) (by rw [fl_len]; omega) hbx (fun k => by rw [fl_get]; split; (have h3 := hle15 k; rw [← hff] at h3; omega); omega)) (fun _ _ _ _ h => h.nil) ?_
            rintro r L1 ⟨rfl, rfl⟩
            rw [fl_len, Nat.min_self]
            refine St.assign rfl rfl ?_
            refine St.done ?_
            refine SX.seq ?_
            refine SC.ret ?_
            exact SX.ret1 rfl rfl (.inr ⟨by omega, by rw [show (fun q => PM.cnt q ((T.take (2 * Y.length - 2)).map CoinV.pm)) = _ from funext hff]⟩)
        · refine SC.skip ?_
          refine SX.seq ?_
          refine SC.seq ?_
          refine SC.plain ?_
          refine St.assign rfl rfl ?_
          refine St.done ?_
          refine SX.seq ?_
          refine SC.block ?_
          refine SC.loop (α := Nat × List CoinV × List CoinV × Value × List CoinV × Chunk × Chunk) (fun s => T = s.2.1 ++ s.2.2.1 ∧ s.1 = s.2.1.length ∧ s.2.2.2.2.1.map CoinV.pm ++ PM.packs (s.2.2.1.map CoinV.pm) = PM.packs (T.map CoinV.pm) ∧ 2 * s.2.2.2.2.1.length ≤ s.1 ∧ Buf 201 2 s.2.2.2.1 (s.2.2.2.2.1.flatMap CoinV.cells) s.2.2.2.2.1.length s.2.2.2.2.2.1 ∧ ∀ y ∈ s.2.2.2.2.1, GoodR w0 (s.2.2.2.2.2.2 :: M1 :: L) cs.length y ∧ FitR (2 * ((1073741824 * p : Nat) : Int)) (2 * p) y) (fun s => [(0, .slice Ac cs.length cc), (1, .int .i64 ((m : Nat) : Int)), (5, .slice A5 Y.length c5), (6, .int .i64 ((Y.length : Nat) : Int)), (11, s.2.2.2.1), (12, .int .i64 ((i : Nat) : Int)), (13, .slice At T.length ct), (14, .int .i64 ((s.1 : Nat) : Int))]) (fun s => s.2.2.2.2.2.1 :: s.2.2.2.2.2.2 :: M1 :: L) (fun s => T.length - s.1) (0, [], T, _, [], [], []) ⟨rfl, rfl, rfl, Nat.le_refl _, Buf.nil _ _, by simp⟩ ⟨rfl, rfl, rfl, rfl, rfl, rfl, rfl, rfl, trivial⟩ (List.Perm.refl _) ?_
          rintro ⟨j, X1, X2, v, Yp, Ep, Sp⟩ ⟨hX, hj, hpk, hYj, hbq, hYp⟩
          simp only at hX hj hpk hYj hbq hYp ⊢
          have hXl := congrArg List.length hX
          rw [List.length_append] at hXl
          refine SC.seq ?_
          refine SC.seq ?_
          refine SC.plain ?_
          refine St.move rfl rfl ?_
          first | refine St.addN (b := 1) rfl rfl rfl (by omega) ?_ | refine St.addI rfl rfl rfl (by omega) ?_
          refine St.move rfl rfl ?_
          refine St.lenSl rfl rfl (by kernel_rfl) ?_
          refine St.lss rfl rfl rfl ?_
          refine St.done ?_
          refine SX.seq ?_
          refine SC.condp rfl (fun c85 => ?_) (fun c85 => ?_)
          · obtain ⟨a, X2, rfl⟩ := cons_of (l := X2) (by omega)
            simp only [List.length_cons] at hXl
            obtain ⟨b, X3, rfl⟩ := cons_of (l := X2) (by omega)
            simp only [List.length_cons] at hXl
            have ha : T[j]? = some a := by rw [hX, hj]; simp
            have hb : T[j + 1]? = some b := by rw [hX, hj, List.getElem?_append_right (by omega)]; simp
            obtain ⟨hga, hfa1, hfa2, hfa3⟩ := hTG a (by rw [hX]; simp)
            obtain ⟨hgb, hfb1, hfb2, hfb3⟩ := hTG b (by rw [hX]; simp)
            obtain rfl := hAt (by omega)
            obtain ⟨ba, oa, haA, hha⟩ := hga.at hn0
            obtain ⟨bb, ob, hbA, hhb⟩ := hgb.at hn0
            have han := hga.1
            have hbn := hgb.1
            obtain ⟨aw, aA, an, ac, ai⟩ := a
            obtain ⟨bw, bA, bn, bc, bi⟩ := b
            simp only at haA hha hbA hhb han hbn hfa1 hfa2 hfa3 hfb1 hfb2 hfb3
            subst haA hbA han hbn
            refine SC.skip ?_
            refine SX.seq ?_
            refine SC.seq ?_
            refine SC.block ?_
            refine SC.seq ?_
            refine SC.plain ?_
            refine St.move rfl rfl ?_
            refine St.lenSl rfl rfl (by kernel_rfl) ?_
            refine St.makeSl (e := 3) (zv := .int .i64 0) (bytes := 8) rfl rfl rfl (by kernel_rfl) (by omega) (by omega) (by omega) (fun _ _ h => h.nil) (fun b90 => ?_)
            simp only [Int.toNat_natCast, lrow_zero]
            refine St.assign rfl rfl ?_
            refine St.done ?_
            refine SX.seq ?_
            refine SC.seq ?_
            refine SC.seq ?_
            refine SC.plain ?_
            refine St.assign rfl rfl ?_
            refine St.done ?_
            refine SX.seq ?_
            refine SC.block ?_
            rw [show (fun _ : Nat => 0) = (fun q => if q < 0 then ai.count q + bi.count q else 0) from funext fun q => by simp]
            refine SC.loop (α := Nat) (fun s => s ≤ cs.length) (fun s => [(0, .slice Ac cs.length cc), (1, .int .i64 ((m : Nat) : Int)), (5, .slice A5 Y.length c5), (6, .int .i64 ((Y.length : Nat) : Int)), (11, v), (12, .int .i64 ((i : Nat) : Int)), (13, .slice (some ⟨bt, ot, none⟩) T.length ct), (14, .int .i64 ((j : Nat) : Int)), (15, .slice (some ⟨b90, 0, none⟩) cs.length cs.length), (16, .int .i64 ((s : Nat) : Int))]) (fun s => [⟨b90, lrow cs.length (fun q => if q < s then ai.count q + bi.count q else 0), 3⟩] :: Ep :: Sp :: M1 :: L) (fun s => cs.length - s) 0 (Nat.zero_le _) ⟨rfl, rfl, rfl, rfl, rfl, rfl, rfl, rfl, rfl, rfl, trivial⟩ (List.Perm.refl _) ?_
            rintro k hk
            try simp only at hk ⊢
            refine SC.seq ?_
            refine SC.seq ?_
            refine SC.plain ?_
            refine St.move rfl rfl ?_
            refine St.move rfl rfl ?_
            refine St.lenSl rfl rfl (by kernel_rfl) ?_
            refine St.lss rfl rfl rfl ?_
            refine St.done ?_
            refine SX.seq ?_
            refine SC.condp rfl (fun c94 => ?_) (fun c94 => ?_)
            · refine SC.skip ?_
              refine SX.seq ?_
              refine SC.seq ?_
              refine SC.block ?_
              have hc1 : ai.count k ≤ ai.length := List.count_le_length
              have hc2 : bi.count k ≤ bi.length := List.count_le_length
              refine SC.drawn [(0, true), (1, true), (2, true), (3, true), (4, true), (5, true), (6, true), (7, true), (8, true), (9, true), (10, true), (11, true), (12, true), (13, true), (14, true), (15, true), (16, true), (17, true), (18, true), (19, true)] [20, 21] (_) (by kernel_rfl) (by kernel_rfl) (fun _ h => h) ?_
              refine St.move rfl rfl ?_
              refine St.move rfl rfl ?_
              refine St.move rfl rfl ?_
              refine St.move rfl rfl ?_
              refine St.indexSl (e := 201) (sz := 2) rfl rfl rfl (by kernel_rfl) (by omega) ?_
              refine St.fieldAddr (off := 1) rfl rfl (by kernel_rfl) ?_
              refine St.load rfl rfl (by kernel_rfl) (coinS_at hTr.cons.cons.cons ha) ?_
              refine St.move rfl rfl ?_
              refine St.indexSl (e := 3) (sz := 1) rfl rfl rfl (by kernel_rfl) (by first | omega | (simp only; omega)) ?_
              refine St.load rfl rfl (by kernel_rfl) (hha.cons.cons.cons.at k (lrow_get (by omega))) ?_
              refine St.move rfl rfl ?_
              refine St.move rfl rfl ?_
              first | refine St.addN (b := 1) rfl rfl rfl (by omega) ?_ | refine St.addI rfl rfl rfl (by omega) ?_
              refine St.indexSl (e := 201) (sz := 2) rfl rfl rfl (by kernel_rfl) (by omega) ?_
              refine St.fieldAddr (off := 1) rfl rfl (by kernel_rfl) ?_
              refine St.load rfl rfl (by kernel_rfl) (coinS_at hTr.cons.cons.cons hb) ?_
              refine St.move rfl rfl ?_
              refine St.indexSl (e := 3) (sz := 1) rfl rfl rfl (by kernel_rfl) (by first | omega | (simp only; omega)) ?_
              refine St.load rfl rfl (by kernel_rfl) (hhb.cons.cons.cons.at k (lrow_get (by omega))) ?_
              first | refine St.addN rfl rfl rfl (by omega) ?_ | refine St.addI rfl rfl rfl (by omega) ?_
              refine St.done ?_
              refine SX.tail ?_
              refine St.indexSl (e := 3) (sz := 1) rfl rfl rfl (by kernel_rfl) (by omega) ?_
              refine St.store rfl rfl rfl rfl (by kernel_rfl) (by rw [lrow_len]; omega) (fun _ h => h.nil) ?_
              rw [show 0 + ((k : Nat) : Int).toNat * 1 = k by omega, lrow_set (v := ai.count k + bi.count k) (by first | rfl | (push_cast; rfl) | omega)]
              refine St.done ?_
              refine SX.blk ?_
              refine SX.seq ?_
              refine SC.plain ?_
              refine St.move rfl rfl ?_
              first | refine St.addN (b := 1) rfl rfl rfl (by omega) ?_ | refine St.addI rfl rfl rfl (by omega) ?_
              refine St.assign rfl rfl ?_
              refine St.done ?_
              rw [show (fun q => if q = k then ai.count k + bi.count k else if q < k then ai.count q + bi.count q else 0) = (fun q => if q < k + 1 then ai.count q + bi.count q else 0) from funext fun q => by by_cases h : q = k; (subst h; simp); (rw [if_neg h]; by_cases h2 : q < k; (rw [if_pos h2, if_pos (by omega)]); (rw [if_neg h2, if_neg (by omega)]))]
              exact SX.again (k + 1) (show k + 1 ≤ cs.length by omega) (by omega) ⟨rfl, rfl, rfl, rfl, rfl, rfl, rfl, rfl, rfl, rfl, trivial⟩ (List.Perm.refl _)
            · obtain rfl : k = cs.length := by omega
              rw [lrow_congr (g := fun q => (ai ++ bi).count q) (fun q hq => by rw [if_pos hq, List.count_append])]
              refine SC.exit ?_
              refine SX.seq_exit ?_
              refine SX.seq_exit ?_
              refine SX.hit ?_
              refine SX.seq ?_
              refine SC.drawn [(0, true), (1, true), (2, true), (3, true), (4, true), (5, true), (6, true), (7, true), (8, true), (9, true), (10, true), (11, true), (12, true), (13, true)] [14, 15, 16, 17] (_) (by kernel_rfl) (by kernel_rfl) (fun _ h => h) ?_
              refine St.move rfl rfl ?_
              refine St.move rfl rfl ?_
              refine St.move rfl rfl ?_
              refine St.indexSl (e := 201) (sz := 2) rfl rfl rfl (by kernel_rfl) (by omega) ?_
              refine St.fieldAddr (off := 0) rfl rfl (by kernel_rfl) ?_
              refine St.load rfl rfl (by kernel_rfl) (coinW_at hTr.cons.cons.cons ha) ?_
              refine St.move rfl rfl ?_
              refine St.move rfl rfl ?_
              first | refine St.addN (b := 1) rfl rfl rfl (by omega) ?_ | refine St.addI rfl rfl rfl (by omega) ?_
              refine St.indexSl (e := 201) (sz := 2) rfl rfl rfl (by kernel_rfl) (by omega) ?_
              refine St.fieldAddr (off := 0) rfl rfl (by kernel_rfl) ?_
              refine St.load rfl rfl (by kernel_rfl) (coinW_at hTr.cons.cons.cons hb) ?_
              refine St.addI rfl rfl rfl (by simp only; omega) ?_
              refine St.move rfl rfl ?_
              refine St.done ?_
              refine SX.tail ?_
              obtain ⟨y, hy⟩ : ∃ y : CoinV, y = ⟨aw + bw, some ⟨b90, 0, none⟩, cs.length, cs.length, ai ++ bi⟩ := ⟨_, rfl⟩
              have hyg : GoodR w0 ([⟨b90, lrow cs.length (fun q => (ai ++ bi).count q), 3⟩] :: M1 :: L) cs.length y := by rw [hy]; exact ⟨rfl, Rd.row (e := 3) ((lrow_len _ _).trans (Nat.mul_one _).symm) mem0⟩
              have hyf : FitR (2 * ((1073741824 * p : Nat) : Int)) (2 * p) y := by rw [hy]; refine ⟨?_, ?_, ?_⟩ <;> simp only [List.length_append] <;> omega
              refine St.build [(0, .int .i64 (aw + bw)), (1, .slice (some ⟨b90, 0, none⟩) cs.length cs.length)] [.int .i64 (aw + bw), .slice (some ⟨b90, 0, none⟩) cs.length cs.length] rfl rfl (by kernel_rfl) ?_
              refine St.buildSl (n := 1) (e := 201) [(0, .agg #[.int .i64 (aw + bw), .slice (some ⟨b90, 0, none⟩) cs.length cs.length])] [.int .i64 (aw + bw), .slice (some ⟨b90, 0, none⟩) cs.length cs.length] rfl rfl (by kernel_rfl) (fun _ _ h => h.nil) (fun b133 => ?_)
              refine St.append2 (e := 201) (sz := 2) (bytes := 32) (m := 1) rfl rfl rfl (by kernel_rfl) hbq (Rd.row rfl mem0) (by simp [one]) (by omega) (by omega) (fun _ _ h => h.nil) (fun v2 Ep2 hb2 _ => ?_)
              rw [show Yp.flatMap CoinV.cells ++ [.int .i64 (aw + bw), .slice (some ⟨b90, 0, none⟩) cs.length cs.length] = (Yp ++ [y]).flatMap CoinV.cells by rw [hy]; simp [CoinV.cells], show Yp.length + 1 = (Yp ++ [y]).length by simp] at hb2
              refine St.assign rfl rfl ?_
              refine St.done ?_
              refine SX.blk ?_
              refine SX.seq ?_
              refine SC.plain ?_
              refine St.move rfl rfl ?_
              first | refine St.addN (b := 2) rfl rfl rfl (by omega) ?_ | refine St.addI rfl rfl rfl (by omega) ?_
              refine St.assign rfl rfl ?_
              refine St.done ?_
              refine SX.drop ?_
              exact SX.again (j + 2, X1 ++ [⟨aw, some ⟨ba, oa, none⟩, cs.length, ac, ai⟩, ⟨bw, some ⟨bb, ob, none⟩, cs.length, bc, bi⟩], X3, v2, Yp ++ [y], Ep2, [⟨b90, lrow cs.length (fun q => (ai ++ bi).count q), 3⟩] ++ Sp) ⟨by rw [hX]; simp, by simp only [List.length_append, List.length_cons, List.length_nil]; omega, by rw [← hpk, List.map_append, List.append_assoc, hy]; rfl, by simp only [List.length_append, List.length_cons, List.length_nil]; omega, hb2, fun z hz => by rcases List.mem_append.1 hz with hz | hz; exact ⟨(hYp z hz).1.mono (fun w hw => hw.sub (by simp)), (hYp z hz).2⟩; rcases List.mem_singleton.1 hz with rfl; exact ⟨hyg.mono (fun w hw => hw.sub (by simp)), hyf⟩⟩ (by simp only; omega) ⟨rfl, rfl, rfl, rfl, rfl, rfl, rfl, rfl, trivial⟩ (perm_S _ _ _ _)
          · have hpk2 : PM.packs (X2.map CoinV.pm) = [] := by cases X2 with | nil => rfl | cons a X2 => cases X2 with | nil => rfl | cons b X3 => simp only [List.length_cons] at hXl; omega
            rw [hpk2, List.append_nil] at hpk
            refine SC.exit ?_
            refine SX.seq_exit ?_
            refine SX.seq_exit ?_
            refine SX.hit ?_
            refine SX.blk ?_
            refine SX.seq ?_
            refine SC.plain ?_
            refine St.move rfl rfl ?_
            first | refine St.addN (b := 1) rfl rfl rfl (by omega) ?_ | refine St.addI rfl rfl rfl (by omega) ?_
            refine St.assign rfl rfl ?_
            refine St.done ?_
            exact SX.again (i + 1, v, Yp, Ep, Sp ++ M1, 2 * p) ⟨by simp only; omega, by simp only; rw [hp, Nat.pow_succ]; omega, by simp only; rw [if_neg (by omega), Nat.add_sub_cancel, ← hTrow]; exact hpk, by simp only; omega, hbq, fun y hy => ⟨(hYp y hy).1.mono (fun w hw => hw.sub (by simp)), by have := (hYp y hy).2; exact ⟨this.1, by have := this.2.1; simp only; omega, this.2.2⟩⟩, hYr1.mono (fun w hw => hw.sub (by simp)), fun y hy => (hYg1 y hy).mono (fun w hw => hw.sub (by simp))⟩ (by simp only; omega) ⟨rfl, rfl, rfl, rfl, rfl, rfl, trivial⟩ (perm_J _ _ _ _)
      · exfalso; omega
end Go.Proofs.Ytahafepgmkiabaa
