/- Walks: coins: what they mean, which is worth less, packages of two. -/
import Derived.Test.YtahafepgmkiabaaY5
import Derived.Test.YtahafepgmkiabaaZ1
import Derived.Test.YtahafepgmkiabaaPM
import Derived.Test.YtahafepgmkiabaaH1
set_option linter.unusedVariables false
set_option linter.unusedSimpArgs false
set_option linter.ambiguousOpen false
namespace Go.Proofs.Ytahafepgmkiabaa
open Go Go.Proofs.Ytahafepgmkiabaa.Sep
theorem flat_get {α : Type} {cl : α → List Value} {sz : Nat} (hcl : ∀ x, (cl x).length = sz) {l : List α} {i : Nat} {x : α} (h : l[i]? = some x) (j : Nat) (hj : j < sz) : (l.flatMap cl)[i * sz + j]? = (cl x)[j]? := by
  obtain ⟨hi, rfl⟩ := List.getElem?_eq_some_iff.1 h
  have he : l = l.take i ++ l[i] :: l.drop (i + 1) := by rw [List.getElem_cons_drop, List.take_append_drop]
  have hl : ((l.take i).flatMap cl).length = i * sz := by rw [flat_len hcl, List.length_take]; congr 1; omega
  conv => lhs; rw [he]
  rw [flat_app, List.flatMap_cons, List.getElem?_append_right (by omega), List.getElem?_append_left (by rw [hcl]; omega)]
  congr 1; omega
theorem coinW_at {w0 : World} {L : List Chunk} {b o i : Nat} {X : List CoinV} {x : CoinV} (h : HoldsN w0 L b o (X.flatMap CoinV.cells)) (hx : X[i]? = some x) : Holds w0 L ⟨b, o + ((i : Nat) : Int).toNat * 2 + 0, none⟩ (.int .i64 x.worth) := by
  have := h.one (i * 2 + 0) (v := .int .i64 x.worth) (by rw [flat_get CoinV.len hx 0 (by omega)]; rfl)
  rw [Int.toNat_natCast]; simpa [Nat.add_assoc] using this
theorem coinS_at {w0 : World} {L : List Chunk} {b o i : Nat} {X : List CoinV} {x : CoinV} (h : HoldsN w0 L b o (X.flatMap CoinV.cells)) (hx : X[i]? = some x) : Holds w0 L ⟨b, o + ((i : Nat) : Int).toNat * 2 + 1, none⟩ (.slice x.A x.n x.c) := by
  have := h.one (i * 2 + 1) (v := .slice x.A x.n x.c) (by rw [flat_get CoinV.len hx 1 (by omega)]; rfl)
  rw [Int.toNat_natCast]; simpa [Nat.add_assoc] using this
/-- A coin's cells mean what its ghost says. -/
def natints (l : List Nat) : List Value := ints (l.map Int.ofNat)
def Good (w0 : World) (L : List Chunk) (x : CoinV) : Prop := Rd w0 L (.slice x.A x.n x.c) 1 x.n (natints x.ins)
theorem Good.mono {w0 : World} {L L' : List Chunk} {x : CoinV} (h : Good w0 L x) (hs : ∀ w, Own w0 L' w → Own w0 L w) : Good w0 L' x := Rd.mono h hs
theorem Good.n {w0 : World} {L : List Chunk} {x : CoinV} (h : Good w0 L x) : x.ins.length = x.n := by
  have := h.1
  simpa [natints, ints] using this
theorem natints_app (a b : List Nat) : natints (a ++ b) = natints a ++ natints b := by simp [natints, ints]
theorem natints_one (l : List Nat) : ∀ c ∈ natints l, one c = true := by
  intro c hc
  simp only [natints, ints, List.mem_map] at hc
  obtain ⟨_, _, rfl⟩ := hc
  rfl
/-- As a coin of the plain law. -/
def CoinV.pm (x : CoinV) : PM.Coin := ⟨x.worth, x.ins⟩
/-- Worth no more than W, of no more than K symbols. -/
def Fits (W : Int) (K : Nat) (x : CoinV) : Prop := 0 ≤ x.worth ∧ x.worth ≤ W ∧ x.n ≤ K
def coinLt (x y : CoinV) : Bool := decide (x.worth < y.worth)
theorem coinLt_swo : Srt.Swo coinLt := ⟨fun x y h => by simp only [coinLt, decide_eq_true_eq, decide_eq_false_iff_not] at *; omega, fun x y z h1 h2 => by simp only [coinLt, decide_eq_false_iff_not] at *; omega⟩
theorem mem3 {a b c d : Chunk} {L : List Chunk} : d ∈ a :: b :: c :: d :: L := by simp
theorem perm_S (A B S : Chunk) (L : List Chunk) : (A :: B :: S :: L).flatten.Perm (B :: (A ++ S) :: L).flatten := by
  simp only [List.flatten_cons, ← List.append_assoc]
  exact List.Perm.append_right _ (List.Perm.append_right _ List.perm_append_comm)

theorem worth_cmp (w0 : World) : Cmp CoinV.cells w0 131 coinLt (fun x => 0 ≤ x.worth ∧ x.worth ≤ 4611686018427387904) := by
  intro x y hx hy L
  refine Meets.of_body [.agg x.cells.toArray, .agg y.cells.toArray] Try.func131 rfl Try.ntmps131 rfl ?_
  refine SC.seq ?_
  refine SC.plain ?_
  refine St.box x.cells rfl rfl rfl (fun _ _ h => h.nil) (fun b2 => ?_)
  refine St.box y.cells rfl rfl rfl (fun _ _ h => h.nil) (fun b3 => ?_)
  refine St.assign rfl rfl ?_
  refine St.done ?_
  refine SX.seq ?_
  refine SC.seq ?_
  refine SC.plain ?_
  refine St.fieldAddr (off := 0) rfl rfl (by kernel_rfl) ?_
  refine St.load rfl rfl (by kernel_rfl) (Holds.row mem1 rfl) ?_
  refine St.fieldAddr (off := 0) rfl rfl (by kernel_rfl) ?_
  refine St.load rfl rfl (by kernel_rfl) (Holds.row mem0 rfl) ?_
  first | refine St.subN rfl rfl rfl (by omega) (by omega) ?_ | refine St.subI rfl rfl rfl (by omega) ?_
  refine St.assign rfl rfl ?_
  refine St.done ?_
  refine SX.seq ?_
  refine SC.ret ?_
  refine SX.weak L (.cons _ (.cons _ (List.Sublist.refl _))) ?_
  exact SX.ret1 rfl rfl ⟨rfl, _, rfl, by simp only [coinLt, decide_eq_true_eq]; omega⟩
theorem packs_spec (w0 : World) (L : List Chunk) (u : Value) (X : List CoinV) (W : Int) (K : Nat) (hW : W ≤ 1152921504606846976) (hK : K ≤ 1000000000000) (hr : Rd w0 L u 2 X.length (X.flatMap CoinV.cells)) (L2 : List Chunk) (hL2 : ∀ w, Own w0 L w → Own w0 L2 w) (hG : ∀ x ∈ X, Good w0 L2 x ∧ Fits W K x) (hn : X.length ≤ 1000000000000) :
    Meets Try.prog 134 #[u] w0 L (fun r L' => ∃ (Y : List CoinV) (E S : Chunk), L' = E :: S :: L ∧ Buf 194 2 r (Y.flatMap CoinV.cells) Y.length E ∧ (∀ y ∈ Y, Good w0 (S :: L2) y) ∧ (∀ y ∈ Y, Fits (2 * W) (2 * K) y) ∧ Y.map CoinV.pm = PM.packs (X.map CoinV.pm)) := by
  obtain ⟨_, b0, o0, A0, c0, rfl, hA0, hh⟩ := hr
  refine Meets.of_body [.slice A0 X.length c0] Try.func134 rfl Try.ntmps134 rfl ?_
  refine SC.seq ?_
  refine SC.plain ?_
  refine St.assign rfl rfl ?_
  refine St.done ?_
  refine SX.seq ?_
  refine SC.seq ?_
  refine SC.plain ?_
  refine St.assign rfl rfl ?_
  refine St.done ?_
  refine SX.seq ?_
  refine SC.seq ?_
  refine SC.seq ?_
  refine SC.plain ?_
  refine St.assign rfl rfl ?_
  refine St.done ?_
  refine SX.seq ?_
  refine SC.block ?_
  refine SC.loop (α := Nat × List CoinV × List CoinV × Value × List CoinV × Chunk × Chunk) (fun s => X = s.2.1 ++ s.2.2.1 ∧ s.1 = s.2.1.length ∧ s.2.2.2.2.1.map CoinV.pm ++ PM.packs (s.2.2.1.map CoinV.pm) = PM.packs (X.map CoinV.pm) ∧ s.2.2.2.2.1.length ≤ s.1 ∧ Buf 194 2 s.2.2.2.1 (s.2.2.2.2.1.flatMap CoinV.cells) s.2.2.2.2.1.length s.2.2.2.2.2.1 ∧ ∀ y ∈ s.2.2.2.2.1, Good w0 (s.2.2.2.2.2.2 :: L2) y ∧ Fits (2 * W) (2 * K) y) (fun s => [(0, .slice A0 X.length c0), (3, s.2.2.2.1), (4, .int .i64 ((s.1 : Nat) : Int))]) (fun s => s.2.2.2.2.2.1 :: s.2.2.2.2.2.2 :: L) (fun s => X.length - s.1) (0, [], X, _, [], [], []) ⟨rfl, rfl, rfl, Nat.le_refl _, Buf.nil _ _, by simp⟩ ⟨rfl, rfl, rfl, trivial⟩ (List.Perm.refl _) ?_
  rintro ⟨i, X1, X2, v1, Y, E, S⟩ ⟨hX, hi, hpk, hYi, hbf, hY⟩
  simp only at hX hi hpk hYi hbf hY ⊢
  have hXl := congrArg List.length hX
  rw [List.length_append] at hXl
  refine SC.seq ?_
  refine SC.seq ?_
  refine SC.plain ?_
  refine St.move rfl rfl ?_
  first | refine St.addN (b := 1) rfl rfl rfl (by omega) ?_ | refine St.addI rfl rfl rfl (by omega) ?_
  refine St.move rfl rfl ?_
  refine St.lenSl rfl rfl (by kernel_rfl) ?_
  refine St.lss rfl rfl rfl ?_
  refine St.done ?_
  refine SX.seq ?_
  refine SC.condp rfl (fun c9 => ?_) (fun c9 => ?_)
  · obtain ⟨a, X2, rfl⟩ := cons_of (l := X2) (by omega)
    simp only [List.length_cons] at hXl
    obtain ⟨b, X3, rfl⟩ := cons_of (l := X2) (by omega)
    simp only [List.length_cons] at hXl
    have ha : X[i]? = some a := by rw [hX, hi]; simp
    have hb : X[i + 1]? = some b := by rw [hX, hi, List.getElem?_append_right (by omega)]; simp
    obtain ⟨hga, hfa1, hfa2, hfa3⟩ := hG a (by rw [hX]; simp)
    obtain ⟨hgb, hfb1, hfb2, hfb3⟩ := hG b (by rw [hX]; simp)
    replace hga := hga.mono hL2
    replace hgb := hgb.mono hL2
    obtain rfl := hA0 (by omega)
    refine SC.skip ?_
    refine SX.seq ?_
    refine SC.seq ?_
    refine SC.block ?_
    refine SC.drawn [(0, true), (1, true), (2, true), (3, true), (4, true), (5, true), (6, true), (7, true), (8, true), (9, true), (10, true), (11, true), (12, true), (13, true), (14, true), (15, true), (16, true), (17, true), (18, true), (19, true), (20, true), (21, true), (22, true), (23, true), (24, false), (25, false)] [26, 27, 28, 29] (_) (by kernel_rfl) (by kernel_rfl) (fun _ h => h) ?_
    refine St.move rfl rfl ?_
    refine St.move rfl rfl ?_
    refine St.move rfl rfl ?_
    refine St.indexSl (e := 194) (sz := 2) rfl rfl rfl (by kernel_rfl) (by omega) ?_
    refine St.fieldAddr (off := 0) rfl rfl (by kernel_rfl) ?_
    refine St.load rfl rfl (by kernel_rfl) (coinW_at hh.cons.cons ha) ?_
    refine St.move rfl rfl ?_
    refine St.move rfl rfl ?_
    first | refine St.addN (b := 1) rfl rfl rfl (by omega) ?_ | refine St.addI rfl rfl rfl (by omega) ?_
    refine St.indexSl (e := 194) (sz := 2) rfl rfl rfl (by kernel_rfl) (by omega) ?_
    refine St.fieldAddr (off := 0) rfl rfl (by kernel_rfl) ?_
    refine St.load rfl rfl (by kernel_rfl) (coinW_at hh.cons.cons hb) ?_
    first | refine St.addN rfl rfl rfl (by omega) ?_ | refine St.addI rfl rfl rfl (by omega) ?_
    refine St.move rfl rfl ?_
    refine St.move rfl rfl ?_
    refine St.indexSl (e := 194) (sz := 2) rfl rfl rfl (by kernel_rfl) (by omega) ?_
    refine St.fieldAddr (off := 1) rfl rfl (by kernel_rfl) ?_
    refine St.load rfl rfl (by kernel_rfl) (coinS_at hh.cons.cons ha) ?_
    refine St.move rfl rfl ?_
    refine St.move rfl rfl ?_
    first | refine St.addN (b := 1) rfl rfl rfl (by omega) ?_ | refine St.addI rfl rfl rfl (by omega) ?_
    refine St.indexSl (e := 194) (sz := 2) rfl rfl rfl (by kernel_rfl) (by omega) ?_
    refine St.fieldAddr (off := 1) rfl rfl (by kernel_rfl) ?_
    refine St.load rfl rfl (by kernel_rfl) (coinS_at hh.cons.cons hb) ?_
    refine St.buildSl (n := 2) (e := 22) [(0, .slice a.A a.n a.c), (1, .slice b.A b.n b.c)] [.slice a.A a.n a.c, .slice b.A b.n b.c] rfl rfl (by kernel_rfl) (fun _ _ h => h.drop) (fun b24 => ?_)
    refine St.call [_] rfl (by kernel_rfl) rfl (catI_spec w0 ([⟨b24, [.slice a.A a.n a.c, .slice b.A b.n b.c], 22⟩] :: E :: S :: L) _ [(.slice a.A a.n a.c, a.n, natints a.ins), (.slice b.A b.n b.c, b.n, natints b.ins)] (Rd.row rfl mem0) (fun x hx => by rcases List.mem_cons.1 hx with rfl | hx; exact ⟨(Rd.cons (Rd.cons (Rd.cons hga))), natints_one _⟩; rcases List.mem_singleton.1 hx with rfl; exact ⟨(Rd.cons (Rd.cons (Rd.cons hgb))), natints_one _⟩) (by simp only [tot_cons, tot_nil]; omega) (by simp)) (fun v L1 w h hw => by obtain ⟨E1, rfl, _⟩ := h; exact hw.drop.drop) ?_
    rintro r25 L25 ⟨Ec, rfl, hbc⟩
    have hrc := hbc.rd (w0 := w0) (L := Ec :: S :: L2) (by simp)
    have hrc2 := hrc
    obtain ⟨hcl, bc, oc, Ac, cc, rfl, _, _⟩ := hrc2
    simp only [tot_cons, tot_nil, List.flatMap_cons, List.flatMap_nil, List.append_nil, ← natints_app] at hrc hcl
    obtain ⟨y, hy⟩ : ∃ y : CoinV, y = ⟨a.worth + b.worth, Ac, a.n + (b.n + 0), cc, a.ins ++ b.ins⟩ := ⟨_, rfl⟩
    have hyg : Good w0 (Ec :: S :: L2) y := by rw [hy]; exact hrc
    have hyf : Fits (2 * W) (2 * K) y := by rw [hy]; refine ⟨?_, ?_, ?_⟩ <;> simp only <;> omega
    refine St.done ?_
    refine SX.tail ?_
    refine St.build [(0, .int .i64 (a.worth + b.worth)), (1, .slice Ac (a.n + (b.n + 0)) cc)] [.int .i64 (a.worth + b.worth), .slice Ac (a.n + (b.n + 0)) cc] rfl rfl (by kernel_rfl) ?_
    refine St.buildSl (n := 1) (e := 194) [(0, .agg #[.int .i64 (a.worth + b.worth), .slice Ac (a.n + (b.n + 0)) cc])] [.int .i64 (a.worth + b.worth), .slice Ac (a.n + (b.n + 0)) cc] rfl rfl (by kernel_rfl) (fun _ _ h => h.nil) (fun b27 => ?_)
    refine St.append3 (e := 194) (sz := 2) (bytes := 32) (m := 1) rfl rfl rfl (by kernel_rfl) hbf (Rd.row rfl mem0) (by simp [one]) (by omega) (by omega) (fun _ _ h => h.nil) (fun v2 E2 hb2 _ => ?_)
    rw [show Y.flatMap CoinV.cells ++ [.int .i64 (a.worth + b.worth), .slice Ac (a.n + (b.n + 0)) cc] = (Y ++ [y]).flatMap CoinV.cells by rw [hy]; simp [CoinV.cells], show Y.length + 1 = (Y ++ [y]).length by simp] at hb2
    refine St.assign rfl rfl ?_
    refine St.done ?_
    refine SX.blk ?_
    refine SX.seq ?_
    refine SC.plain ?_
    refine St.move rfl rfl ?_
    first | refine St.addN (b := 2) rfl rfl rfl (by omega) ?_ | refine St.addI rfl rfl rfl (by omega) ?_
    refine St.assign rfl rfl ?_
    refine St.done ?_
    refine SX.weak (Ec :: E2 :: S :: L) (.cons _ (.cons_cons _ (.cons _ (List.Sublist.refl _)))) ?_
    exact SX.again (i + 2, X1 ++ [a, b], X3, v2, Y ++ [y], E2, Ec ++ S) ⟨by rw [hX]; simp, by simp only [List.length_append, List.length_cons, List.length_nil]; omega, by rw [← hpk, List.map_append, List.append_assoc, hy]; rfl, by simp only [List.length_append, List.length_cons, List.length_nil]; omega, hb2, fun z hz => by rcases List.mem_append.1 hz with hz | hz; exact ⟨(hY z hz).1.mono (fun w hw => hw.sub (by simp)), (hY z hz).2⟩; rcases List.mem_singleton.1 hz with rfl; exact ⟨hyg.mono (fun w hw => hw.sub (by simp)), hyf⟩⟩ (by simp only; omega) ⟨rfl, rfl, rfl, trivial⟩ (perm_S _ _ _ _)
  · have hpk2 : PM.packs (X2.map CoinV.pm) = [] := by cases X2 with | nil => rfl | cons a X2 => cases X2 with | nil => rfl | cons b X3 => simp only [List.length_cons] at hXl; omega
    rw [hpk2, List.append_nil] at hpk
    refine SC.exit ?_
    refine SX.seq_exit ?_
    refine SX.seq_exit ?_
    refine SX.hit ?_
    refine SX.seq ?_
    refine SC.seq ?_
    refine SC.plain ?_
    refine St.move rfl rfl ?_
    refine St.assign rfl rfl ?_
    refine St.done ?_
    refine SX.seq ?_
    refine SC.ret ?_
    exact SX.ret1 rfl rfl ⟨Y, E, S, rfl, hbf, fun y hy => (hY y hy).1, fun y hy => (hY y hy).2, hpk⟩
end Go.Proofs.Ytahafepgmkiabaa
