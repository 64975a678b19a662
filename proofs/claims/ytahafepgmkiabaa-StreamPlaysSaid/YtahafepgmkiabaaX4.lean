/- Walks: the law StreamPlays. -/
import Derived.Test.YtahafepgmkiabaaX3
import Derived.Test.YtahafepgmkiabaaV7
set_option linter.unusedVariables false
set_option linter.unusedSimpArgs false
set_option linter.ambiguousOpen false
namespace Go.Proofs.Ytahafepgmkiabaa
open Go Go.Proofs.Ytahafepgmkiabaa.Sep

/-- One side: an end, the document's, and what is on the way to both. -/
structure Pd where
  p : Nat
  q : Nat
  e : En
  ov : Value
  iv : Value
  at_ : Int
  Eo : Chunk
  Ei : Chunk
  wv : Value
  bss : List (List Nat)
  Ew : Chunk
structure Pd.Ok (m : Nat) (K : Pd) : Prop where
  en : EnB K.e K.ov K.iv K.at_ K.Eo K.Ei
  way : Buf 9 1 K.wv (strs K.bss) K.bss.length K.Ew
  dg : ∀ s ∈ K.bss, s.length ≤ 419 ∧ ∀ b ∈ s, b < 256
  few : K.bss.length ≤ m
theorem Pd.Ok.mono {m m' : Nat} {K : Pd} (h : K.Ok m) (hm : m ≤ m') : K.Ok m' := ⟨h.en, h.way, h.dg, Nat.le_trans h.few hm⟩
theorem Pd.Ok.sel {m : Nat} {K J : Pd} (h : K.Ok m) (h' : J.Ok m) (k : Nat) : (sel k K J).Ok m := by unfold Ytahafepgmkiabaa.sel; split <;> assumption
def playL (b5 b6 b7 k : Nat) (K J : Pd) (T : List Chunk) : List Chunk :=
  [⟨b5, two k (.pointer (some ⟨K.p, 0, none⟩)) (.pointer (some ⟨J.p, 0, none⟩)), 80⟩] :: [⟨b6, two k (.pointer (some ⟨K.q, 0, none⟩)) (.pointer (some ⟨J.q, 0, none⟩)), 104⟩] :: [⟨b7, two k K.wv J.wv, 108⟩] ::
    K.Ew :: J.Ew :: EnL K.p K.e K.ov K.iv K.at_ K.Eo K.Ei (EnL J.p J.e J.ov J.iv J.at_ J.Eo J.Ei (WnL K.q K.e (WnL J.q J.e T)))
theorem playL_sel {b5 b6 b7 k : Nat} (hk : k < 2) (K J : Pd) (T : List Chunk) : (playL b5 b6 b7 k K J T).flatten.Perm (playL b5 b6 b7 0 (sel k K J) (sel k J K) T).flatten := by
  have : k = 0 ∨ k = 1 := by omega
  rcases this with rfl | rfl
  · exact List.Perm.refl _
  · exact perm_idx [[[⟨b5, two 1 (.pointer (some ⟨K.p, 0, none⟩)) (.pointer (some ⟨J.p, 0, none⟩)), 80⟩]], [[⟨b6, two 1 (.pointer (some ⟨K.q, 0, none⟩)) (.pointer (some ⟨J.q, 0, none⟩)), 104⟩]], [[⟨b7, two 1 K.wv J.wv, 108⟩]],
      [K.Ew], [J.Ew], EnL K.p K.e K.ov K.iv K.at_ K.Eo K.Ei [], EnL J.p J.e J.ov J.iv J.at_ J.Eo J.Ei [], [[⟨K.q, wnRow K.e, 204⟩]], [[⟨J.q, wnRow J.e, 204⟩]]] T [0, 1, 2, 4, 3, 6, 5, 8, 7] (by kernel_rfl)
theorem outp_dg {e : En} (he : e.Ok) {now : Int} (hn : Clock now) : ∀ s ∈ (e.outp now).2, s.length ≤ 419 ∧ ∀ b ∈ s, b < 256 := fun s hs => ⟨(outp_from he hn s hs).len, (outp_from he hn s hs).lt⟩
theorem buf_open {e : TypeId} {sz n : Nat} {v : Value} {xs : List Value} {E : Chunk} (h : Buf e sz v xs n E) (hn : 0 < n) : ∃ b pre cap tail, v = .slice (some ⟨b, pre.length, none⟩) n cap ∧ E = [⟨b, pre ++ (xs ++ tail), e⟩] ∧ n ≤ cap ∧ (cap - n) * sz ≤ tail.length := by
  obtain ⟨hl, ⟨_, rfl, _⟩ | h⟩ := h
  · omega
  · exact h
theorem set_mid18 (pre xs tail : List Value) (i : Nat) (hi : i < xs.length) (v : Value) : (pre ++ (xs ++ tail)).set (pre.length + i) v = pre ++ (xs.set i v ++ tail) := by
  rw [List.set_append_right _ _ (by omega), show pre.length + i - pre.length = i by omega, List.set_append_left _ _ hi]

theorem streamPlays_spec (w0 : World) (L : List Chunk) (id : Int) (v : Value) (ops : List OpV) (hhx : ∃ b o A c, v = .slice A ops.length c ∧ (0 < ops.length → A = some ⟨b, o, none⟩) ∧ HoldsN w0 [] b o (ops.flatMap OpV.cells)) (hin : ∀ o ∈ ops, OpV.In w0 [] o) (hlen : ops.length ≤ 140737488351232) :
    Meets Try.prog 19 #[.int .i64 id, v] w0 L (fun r L' => r = .bool true) := by
  obtain ⟨bs, os, As, cs, rfl, hAs, hhs⟩ := hhx
  refine Meets.of_body [.int .i64 id, .slice As ops.length cs] Try.func19 rfl Try.ntmps19 rfl ?_
  refine SC.seq ?_
  refine SC.plain ?_
  refine St.assign rfl rfl ?_
  refine St.done ?_
  refine SX.seq ?_
  refine SC.seq ?_
  refine SC.plain ?_
  refine St.move rfl rfl ?_
  refine St.call [_] rfl (by kernel_rfl) rfl (dial_spec w0 L id) (fun _ _ _ _ h => h.nil) ?_
  rintro r1 L1 ⟨p0, rfl, ov0, iv0, at0, Eo0, Ei0, hB0, rfl⟩
  refine St.move rfl rfl ?_
  refine St.call [_] rfl (by kernel_rfl) rfl (listen_spec w0 _ id) (fun _ _ _ _ h => h.nil) ?_
  rintro r1 L1 ⟨p1, rfl, ov1, iv1, at1, Eo1, Ei1, hB1, rfl⟩
  refine St.buildSl (e := 80) [(0, .pointer (some ⟨p0, 0, none⟩)), (1, .pointer (some ⟨p1, 0, none⟩))] [.pointer (some ⟨p0, 0, none⟩), .pointer (some ⟨p1, 0, none⟩)] rfl rfl (by kernel_rfl) (fun _ _ h => h.nil) (fun b5 => ?_)
  refine St.assign rfl rfl ?_
  refine St.done ?_
  refine SX.seq ?_
  refine SC.seq ?_
  refine SC.plain ?_
  refine St.move rfl rfl ?_
  refine St.call [_] rfl (by kernel_rfl) rfl (wdial_spec w0 _ id) (fun _ _ _ _ h => h.nil) ?_
  rintro r1 L1 ⟨q0, rfl, rfl⟩
  refine St.move rfl rfl ?_
  refine St.call [_] rfl (by kernel_rfl) rfl (wlisten_spec w0 _ id) (fun _ _ _ _ h => h.nil) ?_
  rintro r1 L1 ⟨q1, rfl, rfl⟩
  refine St.buildSl (e := 104) [(0, .pointer (some ⟨q0, 0, none⟩)), (1, .pointer (some ⟨q1, 0, none⟩))] [.pointer (some ⟨q0, 0, none⟩), .pointer (some ⟨q1, 0, none⟩)] rfl rfl (by kernel_rfl) (fun _ _ h => h.nil) (fun b6 => ?_)
  unfold WnL
  refine St.assign rfl rfl ?_
  refine St.done ?_
  refine SX.seq ?_
  refine SC.seq ?_
  refine SC.seq ?_
  refine SC.plain ?_
  refine St.move rfl rfl ?_
  refine St.indexSl (e := 80) (sz := 1) rfl rfl rfl (by kernel_rfl) (by omega) ?_
  refine St.load rfl rfl (by kernel_rfl) (Holds.row mem3 rfl) ?_
  refine St.ptrEql rfl rfl rfl (by kernel_rfl) ?_
  refine St.move rfl rfl ?_
  refine St.guard_yes rfl rfl ?_
  refine St.move rfl rfl ?_
  refine St.guard_yes rfl rfl ?_
  refine St.indexSl (e := 80) (sz := 1) rfl rfl rfl (by kernel_rfl) (by omega) ?_
  refine St.guard_yes rfl rfl ?_
  refine St.load rfl rfl (by kernel_rfl) (Holds.row mem3 rfl) ?_
  refine St.guard_yes rfl rfl ?_
  refine St.ptrEql rfl rfl rfl (by kernel_rfl) ?_
  refine St.pick_false rfl rfl rfl ?_
  refine St.move rfl rfl ?_
  refine St.guard_yes rfl rfl ?_
  refine St.call [] rfl (by kernel_rfl) rfl (awake18_spec w0 _) (by first | exact fun _ _ _ _ h => h.nil | assumption) ?_
  rintro r3 L1 ⟨rfl, rfl⟩
  refine St.guard_yes rfl rfl ?_
  refine St.notB rfl rfl ?_
  refine St.pick_false rfl rfl rfl ?_
  refine St.done ?_
  refine SX.seq ?_
  refine SC.cond_false rfl ?_
  refine SC.skip ?_
  refine SX.seq ?_
  refine SC.seq ?_
  refine SC.plain ?_
  refine St.alloc [.slice none 0 0, .slice none 0 0] rfl (by kernel_rfl) (fun _ _ h => h.nil) (fun b7 => ?_)
  refine St.done ?_
  refine SX.seq ?_
  refine SC.seq ?_
  refine SC.plain ?_
  refine St.assign rfl rfl ?_
  refine St.done ?_
  refine SX.seq ?_
  refine SC.seq ?_
  refine SC.seq ?_
  refine SC.perm ([⟨b5, [.pointer (some ⟨p0, 0, none⟩), .pointer (some ⟨p1, 0, none⟩)], 80⟩] :: [⟨b6, [.pointer (some ⟨q0, 0, none⟩), .pointer (some ⟨q1, 0, none⟩)], 104⟩] :: [⟨b7, [.slice none 0 0, .slice none 0 0], 108⟩] :: EnL p0 (enNew id 1) ov0 iv0 at0 Eo0 Ei0 (EnL p1 (enNew id 2) ov1 iv1 at1 Eo1 Ei1 ([⟨q0, wnRow (enNew id 1), 204⟩] :: [⟨q1, wnRow (enNew id 2), 204⟩] :: L))) (perm_idx [[[⟨b7, [.slice none 0 0, .slice none 0 0], 108⟩]], [[⟨b6, [.pointer (some ⟨q0, 0, none⟩), .pointer (some ⟨q1, 0, none⟩)], 104⟩]], [[⟨q1, wnRow (enNew id 2), 204⟩]], [[⟨q0, wnRow (enNew id 1), 204⟩]], [[⟨b5, [.pointer (some ⟨p0, 0, none⟩), .pointer (some ⟨p1, 0, none⟩)], 80⟩]], EnL p1 (enNew id 2) ov1 iv1 at1 Eo1 Ei1 [], EnL p0 (enNew id 1) ov0 iv0 at0 Eo0 Ei0 []] (L) [4, 1, 0, 6, 5, 3, 2] (by kernel_rfl)) ?_
  refine SC.plain ?_
  refine St.assign rfl rfl ?_
  refine St.done ?_
  refine SX.seq ?_
  refine SC.block ?_
  refine SC.loop (α := Nat × Int × Pd × Pd) (fun s => s.1 ≤ ops.length ∧ s.1 ≤ 120 ∧ 0 ≤ s.2.1 ∧ s.2.1 ≤ 15 * (s.1 : Int) ∧ s.2.2.1.Ok (14 * s.1) ∧ s.2.2.2.Ok (14 * s.1)) (fun s => [(1, .slice As ops.length cs), (5, .slice (some ⟨b5, 0, none⟩) 2 2), (6, .slice (some ⟨b6, 0, none⟩) 2 2), (7, .pointer (some ⟨b7, 0, none⟩)), (8, .int .i64 s.2.1), (9, .int .i64 ((s.1 : Nat) : Int))]) (fun s => playL b5 b6 b7 0 s.2.2.1 s.2.2.2 L) (fun s => ops.length - s.1) (0, 0, Pd.mk p0 q0 (enNew id 1) ov0 iv0 at0 Eo0 Ei0 (.slice none 0 0) [] [], Pd.mk p1 q1 (enNew id 2) ov1 iv1 at1 Eo1 Ei1 (.slice none 0 0) [] []) ⟨Nat.zero_le _, Nat.zero_le _, Int.le_refl _, Int.le_refl _, ⟨hB0, Buf.nil 9 1, by simp, Nat.zero_le _⟩, ⟨hB1, Buf.nil 9 1, by simp, Nat.zero_le _⟩⟩ ⟨rfl, rfl, rfl, rfl, rfl, rfl, trivial⟩ (List.Perm.refl _) ?_
  rintro ⟨i, now, S0, S1⟩ ⟨hi, hi2, hn0, hn1, hb0, hb1⟩
  simp only at hi hi2 hn0 hn1 hb0 hb1 ⊢
  refine SC.seq ?_
  refine SC.seq ?_
  refine SC.plain ?_
  refine St.move rfl rfl ?_
  refine St.move rfl rfl ?_
  refine St.lenSl rfl rfl (by kernel_rfl) ?_
  refine St.lss rfl rfl rfl ?_
  refine St.move rfl rfl ?_
  refine St.split 46 rfl (fun g46 => ?_) (fun g46 => ?_)
  · refine St.guard_yes rfl rfl ?_
    refine St.move rfl rfl ?_
    refine St.guard_yes rfl rfl ?_
    refine St.lss rfl rfl rfl ?_
    refine St.pick_true rfl rfl rfl ?_
    refine St.done ?_
    refine SX.seq ?_
    refine SC.condp rfl (fun c49 => ?_) (fun c49 => ?_)
    · have hil : i < ops.length := by omega
      have hi120 : i < 120 := by omega
      have hAse := hAs (by omega)
      subst hAse
      obtain ⟨o, ho⟩ : ∃ o, ops[i]? = some o := ⟨_, List.getElem?_eq_getElem hil⟩
      have hS := hin o (List.mem_of_getElem? ho)
      have hcell := opv_get ops i o ho
      have hcl : Clock now := clock_of hn0 (by omega)
      obtain ⟨kind, who, idx, data, dv⟩ := o
      obtain ⟨Ad, cd, hdv⟩ := hS.seg.slice
      simp only at hdv
      subst hdv
      have hidx : -9223372036854775808 ≤ idx ∧ idx ≤ 9223372036854775807 := hS.idx
      have hdl : data.length ≤ 140737488351232 := hS.seg.len
      refine SC.skip ?_
      refine SX.seq ?_
      refine SC.seq ?_
      refine SC.block ?_
      refine SC.seq ?_
      refine SC.plain ?_
      refine St.move rfl rfl ?_
      refine St.move rfl rfl ?_
      refine St.indexSl (e := 102) (sz := 4) rfl rfl rfl (by kernel_rfl) (by omega) ?_
      refine St.loadAgg (OpV.cells ⟨kind, who, idx, data, .slice Ad data.length cd⟩) rfl rfl (by kernel_rfl) (fun w hw => (hhs.part _ _ hcell) w (hw.sub (sub_flat (List.nil_sublist _)))) ?_
      refine St.alloc [.int .i64 0, .int .i64 0, .int .i64 0, .slice none 0 0] rfl (by kernel_rfl) (fun _ _ h => h.nil) (fun b10 => ?_)
      refine St.storeN rfl rfl rfl (OpV.cells ⟨kind, who, idx, data, .slice Ad data.length cd⟩) rfl (by kernel_rfl) (by simp [OpV.cells, one]) (by simp [OpV.cells]) (fun _ h => h.nil) ?_
      rw [show splice [.int .i64 0, .int .i64 0, .int .i64 0, .slice none 0 0] 0 (OpV.cells ⟨kind, who, idx, data, .slice Ad data.length cd⟩) = [.int .i64 kind, .int .i64 who, .int .i64 idx, .slice Ad data.length cd] from rfl]
      show St _ _ _ _ _ _ ([⟨b10, [.int .i64 kind, .int .i64 who, .int .i64 idx, .slice Ad data.length cd], 102⟩] :: playL b5 b6 b7 0 S0 S1 L)
      refine St.done ?_
      refine SX.seq ?_
      refine SC.seq ?_
      refine SC.plain ?_
      refine St.fieldAddr (off := 1) rfl rfl (by kernel_rfl) ?_
      refine St.load rfl rfl (by kernel_rfl) (by first | exact Holds.row mem0 rfl | exact Holds.row mem1 rfl | exact Holds.row mem2 rfl | exact Holds.row mem3 rfl | exact Holds.row mem4 rfl | exact Holds.row mem5 rfl | exact Holds.row mem6 rfl | exact Holds.row mem7 rfl | exact Holds.row mem8 rfl) ?_
      refine St.andI rfl rfl rfl ?_
      rw [mask1]
      obtain ⟨k, hkw⟩ : ∃ k : Nat, who % 2 = (k : Int) := ⟨(who % 2).toNat, by omega⟩
      have hk : k < 2 := by omega
      rw [hkw]
      refine St.assign rfl rfl ?_
      refine St.done ?_
      obtain ⟨K, hKe⟩ : ∃ K, sel k S0 S1 = K := ⟨_, rfl⟩
      obtain ⟨J, hJe⟩ : ∃ J, sel k S1 S0 = J := ⟨_, rfl⟩
      have hSS := sel_sel (k := k) S0 S1
      rw [hKe, hJe] at hSS
      have hK := hb0.sel hb1 k
      have hJ := hb1.sel hb0 k
      rw [hKe] at hK
      rw [hJe] at hJ
      have hpp := (playL_sel (b5 := b5) (b6 := b6) (b7 := b7) hk K J L).symm
      rw [hSS.1, hSS.2] at hpp
      clear hSS hKe hJe hb0 hb1
      refine SX.perm ([⟨b10, [.int .i64 kind, .int .i64 who, .int .i64 idx, .slice Ad data.length cd], 102⟩] :: playL b5 b6 b7 k K J L) (List.Perm.append_left _ hpp) ?_
      clear hpp
      obtain ⟨pK, qK, eK, ovK, ivK, atK, EoK, EiK, wvK, bssK, EwK⟩ := K
      obtain ⟨pJ, qJ, eJ, ovJ, ivJ, atJ, EoJ, EiJ, wvJ, bssJ, EwJ⟩ := J
      have hwK : Buf 9 1 wvK (strs bssK) bssK.length EwK := hK.way
      have hwJ : Buf 9 1 wvJ (strs bssJ) bssJ.length EwJ := hJ.way
      have heK : EnB eK ovK ivK atK EoK EiK := hK.en
      have heJ : EnB eJ ovJ ivJ atJ EoJ EiJ := hJ.en
      have hfK : bssK.length ≤ _ := hK.few
      have hfJ : bssJ.length ≤ _ := hJ.few
      have hdK : ∀ s ∈ bssK, s.length ≤ 419 ∧ ∀ b ∈ s, b < 256 := hK.dg
      have hdJ : ∀ s ∈ bssJ, s.length ≤ 419 ∧ ∀ b ∈ s, b < 256 := hJ.dg
      have hokK := heK.ok
      have hoK := hokK.room
      have hiK := hokK.inn
      have hqK := hokK.read
      have hq := hwK.read
      obtain ⟨bwK, owK, AwK, cwK, rfl, hAwK, hhwK⟩ := hq
      have hq := hwJ.read
      obtain ⟨bwJ, owJ, AwJ, cwJ, rfl, hAwJ, hhwJ⟩ := hq
      unfold playL WnL
      refine SX.seq ?_
      refine SC.seq ?_
      refine SC.plain ?_
      refine St.assign rfl rfl ?_
      refine St.done ?_
      refine SX.seq ?_
      refine SC.seq ?_
      refine SC.plain ?_
      refine St.assign rfl rfl ?_
      refine St.done ?_
      refine SX.seq ?_
      refine SC.join (α := Nat) (fun n => 0 < bssK.length → n < bssK.length) (fun n => [(1, .slice (some ⟨bs, os, none⟩) ops.length cs), (5, .slice (some ⟨b5, 0, none⟩) 2 2), (6, .slice (some ⟨b6, 0, none⟩) 2 2), (7, .pointer (some ⟨b7, 0, none⟩)), (8, .int .i64 now), (9, .int .i64 ((i : Nat) : Int)), (10, .pointer (some ⟨b10, 0, none⟩)), (11, .int .i64 ((k : Nat) : Int)), (12, .bool true), (13, .int .i64 ((n : Nat) : Int))]) (fun _ => [⟨b10, [.int .i64 kind, .int .i64 who, .int .i64 idx, .slice Ad data.length cd], 102⟩] :: [⟨b5, two k (.pointer (some ⟨pK, 0, none⟩)) (.pointer (some ⟨pJ, 0, none⟩)), 80⟩] :: [⟨b6, two k (.pointer (some ⟨qK, 0, none⟩)) (.pointer (some ⟨qJ, 0, none⟩)), 104⟩] :: [⟨b7, two k (.slice AwK bssK.length cwK) (.slice AwJ bssJ.length cwJ), 108⟩] :: EwK :: EwJ :: EnL pK eK ovK ivK atK EoK EiK (EnL pJ eJ ovJ ivJ atJ EoJ EiJ ([⟨qK, wnRow eK, 204⟩] :: [⟨qJ, wnRow eJ, 204⟩] :: L))) ?_ ?_
      · intro n hn
        refine SC.join (α := Pd × Pd × Int) (fun s => s.1.Ok (14 * i + 13) ∧ s.2.1.Ok (14 * i + 13) ∧ 0 ≤ s.2.2 ∧ s.2.2 ≤ 15 * (i : Int) + 15) (fun s => [(1, .slice (some ⟨bs, os, none⟩) ops.length cs), (5, .slice (some ⟨b5, 0, none⟩) 2 2), (6, .slice (some ⟨b6, 0, none⟩) 2 2), (7, .pointer (some ⟨b7, 0, none⟩)), (8, .int .i64 s.2.2), (9, .int .i64 ((i : Nat) : Int)), (11, .int .i64 ((k : Nat) : Int)), (12, .bool true)]) (fun s => [⟨b10, [.int .i64 kind, .int .i64 who, .int .i64 idx, .slice Ad data.length cd], 102⟩] :: playL b5 b6 b7 k s.1 s.2.1 L) ?_ ?_
        · clear hK hJ hwK hwJ heK heJ hfK hfJ hdK hdJ hokK hoK hiK hqK hhwK hhwJ hAwK hAwJ hn
          rintro ⟨K, J, now2⟩ ⟨hK, hJ, hn2, hn3⟩
          simp only at hK hJ hn2 hn3 ⊢
          obtain ⟨pK, qK, eK, ovK, ivK, atK, EoK, EiK, wvK, bssK, EwK⟩ := K
          obtain ⟨pJ, qJ, eJ, ovJ, ivJ, atJ, EoJ, EiJ, wvJ, bssJ, EwJ⟩ := J
          have hwK : Buf 9 1 wvK (strs bssK) bssK.length EwK := hK.way
          have hwJ : Buf 9 1 wvJ (strs bssJ) bssJ.length EwJ := hJ.way
          have heK : EnB eK ovK ivK atK EoK EiK := hK.en
          have heJ : EnB eJ ovJ ivJ atJ EoJ EiJ := hJ.en
          have hfK : bssK.length ≤ _ := hK.few
          have hfJ : bssJ.length ≤ _ := hJ.few
          have hdK : ∀ s ∈ bssK, s.length ≤ 419 ∧ ∀ b ∈ s, b < 256 := hK.dg
          have hdJ : ∀ s ∈ bssJ, s.length ≤ 419 ∧ ∀ b ∈ s, b < 256 := hJ.dg
          have hokK := heK.ok
          have hoK := hokK.room
          have hiK := hokK.inn
          have hqK := hokK.read
          have hq := hwK.read
          obtain ⟨bwK, owK, AwK, cwK, rfl, hAwK, hhwK⟩ := hq
          have hq := hwJ.read
          obtain ⟨bwJ, owJ, AwJ, cwJ, rfl, hAwJ, hhwJ⟩ := hq
          unfold playL WnL
          refine SC.seq ?_
          refine SC.drawn [(0, true), (1, true), (2, true), (3, true), (4, true), (5, true), (6, true), (7, true), (8, true), (9, true), (10, true)] [11, 12, 13] (_) (by kernel_rfl) (by kernel_rfl) (fun _ h => h) ?_
          refine St.move rfl rfl ?_
          refine St.notB rfl rfl ?_
          refine St.move rfl rfl ?_
          refine St.guard_yes rfl rfl ?_
          refine St.move rfl rfl ?_
          refine St.guard_yes rfl rfl ?_
          refine St.move rfl rfl ?_
          refine St.guard_yes rfl rfl ?_
          refine St.indexSl (e := 80) (sz := 1) rfl rfl rfl (by kernel_rfl) (by omega) ?_
          refine St.guard_yes rfl rfl ?_
          refine St.load rfl rfl (by kernel_rfl) (Holds.row mem1 (two_get hk _ _)) ?_
          refine St.guard_yes rfl rfl ?_
          refine St.move rfl rfl ?_
          refine St.guard_yes rfl rfl ?_
          refine St.move rfl rfl ?_
          refine St.guard_yes rfl rfl ?_
          refine St.indexSl (e := 104) (sz := 1) rfl rfl rfl (by kernel_rfl) (by omega) ?_
          refine St.guard_yes rfl rfl ?_
          refine St.load rfl rfl (by kernel_rfl) (Holds.row mem2 (two_get hk _ _)) ?_
          refine St.done ?_
          refine SX.tail ?_
          refine St.guard_yes rfl rfl ?_
          refine St.perm (EnL pK eK ovK ivK atK EoK EiK ([⟨qK, wnRow eK, 204⟩] :: [⟨b10, [.int .i64 kind, .int .i64 who, .int .i64 idx, .slice Ad data.length cd], 102⟩] :: [⟨b5, two k (.pointer (some ⟨pK, 0, none⟩)) (.pointer (some ⟨pJ, 0, none⟩)), 80⟩] :: [⟨b6, two k (.pointer (some ⟨qK, 0, none⟩)) (.pointer (some ⟨qJ, 0, none⟩)), 104⟩] :: [⟨b7, two k (.slice AwK bssK.length cwK) (.slice AwJ bssJ.length cwJ), 108⟩] :: EwK :: EwJ :: EnL pJ eJ ovJ ivJ atJ EoJ EiJ ([⟨qJ, wnRow eJ, 204⟩] :: L))) (perm_idx [[[⟨b10, [.int .i64 kind, .int .i64 who, .int .i64 idx, .slice Ad data.length cd], 102⟩]], [[⟨b5, two k (.pointer (some ⟨pK, 0, none⟩)) (.pointer (some ⟨pJ, 0, none⟩)), 80⟩]], [[⟨b6, two k (.pointer (some ⟨qK, 0, none⟩)) (.pointer (some ⟨qJ, 0, none⟩)), 104⟩]], [[⟨b7, two k (.slice AwK bssK.length cwK) (.slice AwJ bssJ.length cwJ), 108⟩]], [EwK], [EwJ], EnL pK eK ovK ivK atK EoK EiK [], EnL pJ eJ ovJ ivJ atJ EoJ EiJ [], [[⟨qK, wnRow eK, 204⟩]], [[⟨qJ, wnRow eJ, 204⟩]]] (L) [6, 8, 0, 1, 2, 3, 4, 5, 7, 9] (by kernel_rfl)) ?_
          refine St.call [_, _] rfl (by kernel_rfl) rfl (alike_spec w0 _ pK qK eK _ _ _ _ _ heK) (fun _ _ _ _ h => h.nil) ?_
          rintro r49 L1 ⟨rfl, rfl⟩
          unfold WnL
          refine St.perm ([⟨b10, [.int .i64 kind, .int .i64 who, .int .i64 idx, .slice Ad data.length cd], 102⟩] :: [⟨b5, two k (.pointer (some ⟨pK, 0, none⟩)) (.pointer (some ⟨pJ, 0, none⟩)), 80⟩] :: [⟨b6, two k (.pointer (some ⟨qK, 0, none⟩)) (.pointer (some ⟨qJ, 0, none⟩)), 104⟩] :: [⟨b7, two k (.slice AwK bssK.length cwK) (.slice AwJ bssJ.length cwJ), 108⟩] :: EwK :: EwJ :: EnL pK eK ovK ivK atK EoK EiK (EnL pJ eJ ovJ ivJ atJ EoJ EiJ ([⟨qK, wnRow eK, 204⟩] :: [⟨qJ, wnRow eJ, 204⟩] :: L))) (perm_idx [EnL pK eK ovK ivK atK EoK EiK [], [[⟨qK, wnRow eK, 204⟩]], [[⟨b10, [.int .i64 kind, .int .i64 who, .int .i64 idx, .slice Ad data.length cd], 102⟩]], [[⟨b5, two k (.pointer (some ⟨pK, 0, none⟩)) (.pointer (some ⟨pJ, 0, none⟩)), 80⟩]], [[⟨b6, two k (.pointer (some ⟨qK, 0, none⟩)) (.pointer (some ⟨qJ, 0, none⟩)), 104⟩]], [[⟨b7, two k (.slice AwK bssK.length cwK) (.slice AwJ bssJ.length cwJ), 108⟩]], [EwK], [EwJ], EnL pJ eJ ovJ ivJ atJ EoJ EiJ [], [[⟨qJ, wnRow eJ, 204⟩]]] (L) [2, 3, 4, 5, 6, 7, 0, 8, 1, 9] (by kernel_rfl)) ?_
          refine St.guard_yes rfl rfl ?_
          refine St.notB rfl rfl ?_
          refine St.pick_false rfl rfl rfl ?_
          refine St.done ?_
          refine SX.seq ?_
          refine SC.cond_false rfl ?_
          refine SC.skip ?_
          refine SX.blk ?_
          refine SX.seq ?_
          refine SC.plain ?_
          refine St.move rfl rfl ?_
          first | refine St.addN (b := 1) rfl rfl rfl (by omega) ?_ | refine St.addI rfl rfl rfl (by omega) ?_
          refine St.assign rfl rfl ?_
          refine St.done ?_
          refine SX.weak ([⟨b5, two k (.pointer (some ⟨pK, 0, none⟩)) (.pointer (some ⟨pJ, 0, none⟩)), 80⟩] :: [⟨b6, two k (.pointer (some ⟨qK, 0, none⟩)) (.pointer (some ⟨qJ, 0, none⟩)), 104⟩] :: [⟨b7, two k (.slice AwK bssK.length cwK) (.slice AwJ bssJ.length cwJ), 108⟩] :: EwK :: EwJ :: EnL pK eK ovK ivK atK EoK EiK (EnL pJ eJ ovJ ivJ atJ EoJ EiJ ([⟨qK, wnRow eK, 204⟩] :: [⟨qJ, wnRow eJ, 204⟩] :: L))) (.cons _ (List.Sublist.refl _)) ?_
          refine SX.again (i + 1, now2, sel k (Pd.mk pK qK eK ovK ivK atK EoK EiK (.slice AwK bssK.length cwK) bssK EwK) (Pd.mk pJ qJ eJ ovJ ivJ atJ EoJ EiJ (.slice AwJ bssJ.length cwJ) bssJ EwJ), sel k (Pd.mk pJ qJ eJ ovJ ivJ atJ EoJ EiJ (.slice AwJ bssJ.length cwJ) bssJ EwJ) (Pd.mk pK qK eK ovK ivK atK EoK EiK (.slice AwK bssK.length cwK) bssK EwK)) ⟨by simp only; omega, by simp only; omega, by simp only; omega, by simp only; omega, Pd.Ok.sel (K := Pd.mk pK qK eK ovK ivK atK EoK EiK (.slice AwK bssK.length cwK) bssK EwK) (J := Pd.mk pJ qJ eJ ovJ ivJ atJ EoJ EiJ (.slice AwJ bssJ.length cwJ) bssJ EwJ) ⟨heK, hwK, hdK, by simp only; omega⟩ ⟨heJ, hwJ, hdJ, by simp only; omega⟩ k, Pd.Ok.sel (K := Pd.mk pJ qJ eJ ovJ ivJ atJ EoJ EiJ (.slice AwJ bssJ.length cwJ) bssJ EwJ) (J := Pd.mk pK qK eK ovK ivK atK EoK EiK (.slice AwK bssK.length cwK) bssK EwK) ⟨heJ, hwJ, hdJ, by simp only; omega⟩ ⟨heK, hwK, hdK, by simp only; omega⟩ k⟩ (by simp only; omega) ⟨rfl, rfl, rfl, rfl, rfl, rfl, trivial⟩ ?_
          exact playL_sel hk (Pd.mk pK qK eK ovK ivK atK EoK EiK (.slice AwK bssK.length cwK) bssK EwK) (Pd.mk pJ qJ eJ ovJ ivJ atJ EoJ EiJ (.slice AwJ bssJ.length cwJ) bssJ EwJ) L
        · refine SC.seq ?_
          refine SC.plain ?_
          refine St.fieldAddr (off := 0) rfl rfl (by kernel_rfl) ?_
          refine St.load rfl rfl (by kernel_rfl) (by first | exact Holds.row mem0 rfl | exact Holds.row mem1 rfl | exact Holds.row mem2 rfl | exact Holds.row mem3 rfl | exact Holds.row mem4 rfl | exact Holds.row mem5 rfl | exact Holds.row mem6 rfl | exact Holds.row mem7 rfl | exact Holds.row mem8 rfl) ?_
          refine St.done ?_
          refine SX.seq ?_
          refine SC.block ?_
          refine SC.seq ?_
          refine SC.plain ?_
          refine St.eql rfl rfl rfl ?_
          refine St.assign rfl rfl ?_
          refine St.done ?_
          refine SX.seq ?_
          refine SC.condp rfl (fun c88 => ?_) (fun c88 => ?_)
          · refine SC.seq ?_
            refine SC.seq ?_
            refine SC.plain ?_
            refine St.fieldAddr (off := 3) rfl rfl (by kernel_rfl) ?_
            refine St.load rfl rfl (by kernel_rfl) (by first | exact Holds.row mem0 rfl | exact Holds.row mem1 rfl | exact Holds.row mem2 rfl | exact Holds.row mem3 rfl | exact Holds.row mem4 rfl | exact Holds.row mem5 rfl | exact Holds.row mem6 rfl | exact Holds.row mem7 rfl | exact Holds.row mem8 rfl) ?_
            refine St.lenSl rfl rfl (by kernel_rfl) ?_
            refine St.gtr rfl rfl rfl ?_
            refine St.done ?_
            refine SX.seq ?_
            refine SC.condp rfl (fun c93 => ?_) (fun c93 => ?_)
            · refine SC.seq ?_
              refine SC.plain ?_
              refine St.call [] rfl (by kernel_rfl) rfl (awake18_spec w0 _) (by first | exact fun _ _ _ _ h => h.nil | assumption) ?_
              rintro r20 L1 ⟨rfl, rfl⟩
              refine St.assign rfl rfl ?_
              refine St.done ?_
              refine SX.seq ?_
              refine SC.ret ?_
              refine SX.seq_ret ?_
              refine SX.blk_ret ?_
              refine SX.seq_ret ?_
              refine SX.blk_ret ?_
              refine SX.seq_ret ?_
              refine SX.seq_ret ?_
              refine SX.blk_ret ?_
              refine SX.seq_ret ?_
              exact SX.ret1 rfl rfl rfl
            · refine SC.skip ?_
              refine SX.seq ?_
              refine SC.seq ?_
              refine SC.plain ?_
              refine St.buildSl0 (e := 5) (sz := 1) rfl (by kernel_rfl) (fun _ _ h => h.nil) (fun bz => ?_)
              refine St.fieldAddr (off := 3) rfl rfl (by kernel_rfl) ?_
              refine St.load rfl rfl (by kernel_rfl) (Holds.row mem1 rfl) ?_
              refine St.append (e := 5) (sz := 1) (bytes := 1) (xs := []) (n := 0) (news := bytes data) (m := data.length) rfl rfl rfl (by kernel_rfl) (Buf.whole rfl) (Rd.mono hS.seg.rd (fun w hw => hw.nil)) (bytes_one _) (by omega) (by omega) (fun _ _ h => h.nil) (fun own Eown hown _ => ?_)
              rw [List.nil_append, Nat.zero_add] at hown
              refine St.assign rfl rfl ?_
              refine St.done ?_
              refine SX.seq ?_
              refine SC.seq ?_
              refine SC.drawn [(0, true), (1, true), (2, true), (3, true), (4, true), (6, true), (7, true), (8, true), (9, true), (10, true), (11, true), (12, true), (5, false)] [13, 14, 15] ([[⟨b10, [.int .i64 kind, .int .i64 who, .int .i64 idx, .slice Ad data.length cd], 102⟩], [⟨b5, two k (.pointer (some ⟨pK, 0, none⟩)) (.pointer (some ⟨pJ, 0, none⟩)), 80⟩], [⟨b6, two k (.pointer (some ⟨qK, 0, none⟩)) (.pointer (some ⟨qJ, 0, none⟩)), 104⟩]]) (by kernel_rfl) (by kernel_rfl) (fun w hw => hw.sub (sub_flat (.cons _ (.cons_cons _ (.cons_cons _ (.cons_cons _ (List.nil_sublist _))))))) ?_
              refine St.move rfl rfl ?_
              refine St.move rfl rfl ?_
              refine St.indexSl (e := 80) (sz := 1) rfl rfl rfl (by kernel_rfl) (by omega) ?_
              refine St.load rfl rfl (by kernel_rfl) (Holds.row mem1 (two_get hk _ _)) ?_
              refine St.move rfl rfl ?_
              refine St.move rfl rfl ?_
              refine St.move rfl rfl ?_
              refine St.indexSl (e := 104) (sz := 1) rfl rfl rfl (by kernel_rfl) (by omega) ?_
              refine St.load rfl rfl (by kernel_rfl) (Holds.row mem2 (two_get hk _ _)) ?_
              refine St.fieldAddr (off := 3) rfl rfl (by kernel_rfl) ?_
              refine St.load rfl rfl (by kernel_rfl) (Holds.row mem0 rfl) ?_
              refine St.toStr (e := 5) (bs := data) (n := data.length) rfl rfl (Rd.mono hS.seg.rd (fun w hw => hw.nil)) (by kernel_rfl) (by kernel_rfl) (by kernel_rfl) ?_
              refine St.perm (EnL pK eK ovK ivK atK EoK EiK (Eown :: [⟨b10, [.int .i64 kind, .int .i64 who, .int .i64 idx, .slice Ad data.length cd], 102⟩] :: [⟨b5, two k (.pointer (some ⟨pK, 0, none⟩)) (.pointer (some ⟨pJ, 0, none⟩)), 80⟩] :: [⟨b6, two k (.pointer (some ⟨qK, 0, none⟩)) (.pointer (some ⟨qJ, 0, none⟩)), 104⟩] :: [⟨b7, two k (.slice AwK bssK.length cwK) (.slice AwJ bssJ.length cwJ), 108⟩] :: EwK :: EwJ :: EnL pJ eJ ovJ ivJ atJ EoJ EiJ ([⟨qK, wnRow eK, 204⟩] :: [⟨qJ, wnRow eJ, 204⟩] :: L))) (perm_idx [[Eown], [[⟨b10, [.int .i64 kind, .int .i64 who, .int .i64 idx, .slice Ad data.length cd], 102⟩]], [[⟨b5, two k (.pointer (some ⟨pK, 0, none⟩)) (.pointer (some ⟨pJ, 0, none⟩)), 80⟩]], [[⟨b6, two k (.pointer (some ⟨qK, 0, none⟩)) (.pointer (some ⟨qJ, 0, none⟩)), 104⟩]], [[⟨b7, two k (.slice AwK bssK.length cwK) (.slice AwJ bssJ.length cwJ), 108⟩]], [EwK], [EwJ], EnL pK eK ovK ivK atK EoK EiK [], EnL pJ eJ ovJ ivJ atJ EoJ EiJ [], [[⟨qK, wnRow eK, 204⟩]], [[⟨qJ, wnRow eJ, 204⟩]]] (L) [7, 0, 1, 2, 3, 4, 5, 6, 8, 9, 10] (by kernel_rfl)) ?_
              refine St.call [_, _] rfl (by kernel_rfl) rfl (write18_spec w0 _ pK _ _ _ _ _ _ heK own data (hown.rd (by simp)) (by omega) hS.seg.lt) (by rintro _ _ w ⟨_, ov2, iv2, at2, Eo2, Ei2, _, rfl⟩ hw; exact hw.sub (sub_flat (.cons _ (.cons _ (.cons _ (.cons _ (.cons_cons _ (.cons_cons _ (.cons_cons _ (List.nil_sublist _)))))))))) ?_
              rintro r22 L1 ⟨rfl, ov2, iv2, at2, Eo2, Ei2, hB2, rfl⟩
              refine St.done ?_
              refine SX.tail ?_
              refine St.perm ([⟨qK, wnRow eK, 204⟩] :: EnL pK (eK.write data).1 ov2 iv2 at2 Eo2 Ei2 (Eown :: [⟨b10, [.int .i64 kind, .int .i64 who, .int .i64 idx, .slice Ad data.length cd], 102⟩] :: [⟨b5, two k (.pointer (some ⟨pK, 0, none⟩)) (.pointer (some ⟨pJ, 0, none⟩)), 80⟩] :: [⟨b6, two k (.pointer (some ⟨qK, 0, none⟩)) (.pointer (some ⟨qJ, 0, none⟩)), 104⟩] :: [⟨b7, two k (.slice AwK bssK.length cwK) (.slice AwJ bssJ.length cwJ), 108⟩] :: EwK :: EwJ :: EnL pJ eJ ovJ ivJ atJ EoJ EiJ ([⟨qJ, wnRow eJ, 204⟩] :: L))) (perm_idx [EnL pK (eK.write data).1 ov2 iv2 at2 Eo2 Ei2 [], [Eown], [[⟨b10, [.int .i64 kind, .int .i64 who, .int .i64 idx, .slice Ad data.length cd], 102⟩]], [[⟨b5, two k (.pointer (some ⟨pK, 0, none⟩)) (.pointer (some ⟨pJ, 0, none⟩)), 80⟩]], [[⟨b6, two k (.pointer (some ⟨qK, 0, none⟩)) (.pointer (some ⟨qJ, 0, none⟩)), 104⟩]], [[⟨b7, two k (.slice AwK bssK.length cwK) (.slice AwJ bssJ.length cwJ), 108⟩]], [EwK], [EwJ], EnL pJ eJ ovJ ivJ atJ EoJ EiJ [], [[⟨qK, wnRow eK, 204⟩]], [[⟨qJ, wnRow eJ, 204⟩]]] (L) [9, 0, 1, 2, 3, 4, 5, 6, 7, 8, 10] (by kernel_rfl)) ?_
              refine St.call [_, _] rfl (by kernel_rfl) rfl (wwrite_spec w0 _ qK eK hokK data (by omega)) (fun _ _ _ _ h => h.nil) ?_
              rintro r22 L1 ⟨rfl, rfl⟩
              unfold WnL
              refine St.perm (Eown :: [⟨b10, [.int .i64 kind, .int .i64 who, .int .i64 idx, .slice Ad data.length cd], 102⟩] :: [⟨b5, two k (.pointer (some ⟨pK, 0, none⟩)) (.pointer (some ⟨pJ, 0, none⟩)), 80⟩] :: [⟨b6, two k (.pointer (some ⟨qK, 0, none⟩)) (.pointer (some ⟨qJ, 0, none⟩)), 104⟩] :: [⟨b7, two k (.slice AwK bssK.length cwK) (.slice AwJ bssJ.length cwJ), 108⟩] :: EwK :: EwJ :: EnL pK (eK.write data).1 ov2 iv2 at2 Eo2 Ei2 (EnL pJ eJ ovJ ivJ atJ EoJ EiJ ([⟨qK, wnRow (eK.write data).1, 204⟩] :: [⟨qJ, wnRow eJ, 204⟩] :: L))) (perm_idx [[[⟨qK, wnRow (eK.write data).1, 204⟩]], EnL pK (eK.write data).1 ov2 iv2 at2 Eo2 Ei2 [], [Eown], [[⟨b10, [.int .i64 kind, .int .i64 who, .int .i64 idx, .slice Ad data.length cd], 102⟩]], [[⟨b5, two k (.pointer (some ⟨pK, 0, none⟩)) (.pointer (some ⟨pJ, 0, none⟩)), 80⟩]], [[⟨b6, two k (.pointer (some ⟨qK, 0, none⟩)) (.pointer (some ⟨qJ, 0, none⟩)), 104⟩]], [[⟨b7, two k (.slice AwK bssK.length cwK) (.slice AwJ bssJ.length cwJ), 108⟩]], [EwK], [EwJ], EnL pJ eJ ovJ ivJ atJ EoJ EiJ [], [[⟨qJ, wnRow eJ, 204⟩]]] (L) [2, 3, 4, 5, 6, 7, 8, 1, 9, 0, 10] (by kernel_rfl)) ?_
              refine St.eql rfl rfl rfl ?_
              rw [show decide ((eK.write data).2 = (eK.write data).2) = true from decide_eq_true rfl]
              refine St.assign rfl rfl ?_
              refine St.done ?_
              refine SX.seq ?_
              refine SC.seq ?_
              have hq := hown.read
              obtain ⟨bown, oown, Aown, cown, rfl, _, _⟩ := hq
              refine SC.plain ?_
              refine St.assign rfl rfl ?_
              refine St.done ?_
              refine SX.seq ?_
              refine SC.block ?_
              refine SC.perm (Eown :: [⟨b10, [.int .i64 kind, .int .i64 who, .int .i64 idx, .slice Ad data.length cd], 102⟩] :: [⟨b5, two k (.pointer (some ⟨pK, 0, none⟩)) (.pointer (some ⟨pJ, 0, none⟩)), 80⟩] :: [⟨b6, two k (.pointer (some ⟨qK, 0, none⟩)) (.pointer (some ⟨qJ, 0, none⟩)), 104⟩] :: [⟨b7, two k (.slice AwK bssK.length cwK) (.slice AwJ bssJ.length cwJ), 108⟩] :: EwK :: EwJ :: EnL pK (eK.write data).1 ov2 iv2 at2 Eo2 Ei2 (EnL pJ eJ ovJ ivJ atJ EoJ EiJ ([⟨qK, wnRow (eK.write data).1, 204⟩] :: [⟨qJ, wnRow eJ, 204⟩] :: L))) (List.Perm.refl _) ?_
              refine SC.loop (α := Nat × Chunk) (fun s => s.1 ≤ data.length ∧ ∃ cur : List Nat, cur.length = data.length ∧ (∀ x ∈ cur, x < 256) ∧ Buf 5 1 (.slice Aown data.length cown) (bytes cur) data.length s.2) (fun s => [(1, .slice (some ⟨bs, os, none⟩) ops.length cs), (5, .slice (some ⟨b5, 0, none⟩) 2 2), (6, .slice (some ⟨b6, 0, none⟩) 2 2), (7, .pointer (some ⟨b7, 0, none⟩)), (8, .int .i64 now), (9, .int .i64 ((i : Nat) : Int)), (10, .pointer (some ⟨b10, 0, none⟩)), (11, .int .i64 ((k : Nat) : Int)), (12, .bool true), (14, .slice Aown data.length cown), (15, .int .i64 ((s.1 : Nat) : Int))]) (fun s => s.2 :: [⟨b10, [.int .i64 kind, .int .i64 who, .int .i64 idx, .slice Ad data.length cd], 102⟩] :: [⟨b5, two k (.pointer (some ⟨pK, 0, none⟩)) (.pointer (some ⟨pJ, 0, none⟩)), 80⟩] :: [⟨b6, two k (.pointer (some ⟨qK, 0, none⟩)) (.pointer (some ⟨qJ, 0, none⟩)), 104⟩] :: [⟨b7, two k (.slice AwK bssK.length cwK) (.slice AwJ bssJ.length cwJ), 108⟩] :: EwK :: EwJ :: EnL pK (eK.write data).1 ov2 iv2 at2 Eo2 Ei2 (EnL pJ eJ ovJ ivJ atJ EoJ EiJ ([⟨qK, wnRow (eK.write data).1, 204⟩] :: [⟨qJ, wnRow eJ, 204⟩] :: L))) (fun s => data.length - s.1) (0, Eown) ⟨Nat.zero_le _, data, rfl, hS.seg.lt, hown⟩ ⟨rfl, rfl, rfl, rfl, rfl, rfl, rfl, rfl, rfl, rfl, rfl, trivial⟩ (List.Perm.refl _) ?_
              rintro ⟨j, Ej⟩ ⟨hj, cur, hcl2, hc256, hcur⟩
              simp only at hj hcur ⊢
              refine SC.seq ?_
              refine SC.seq ?_
              refine SC.plain ?_
              refine St.move rfl rfl ?_
              refine St.move rfl rfl ?_
              refine St.lenSl rfl rfl (by kernel_rfl) ?_
              refine St.lss rfl rfl rfl ?_
              refine St.done ?_
              refine SX.seq ?_
              refine SC.condp rfl (fun c117 => ?_) (fun c117 => ?_)
              · have hjl : j < data.length := by omega
                obtain ⟨bo, pre, cap, tl, hvo, rfl, hcap, htl⟩ := buf_open hcur (by omega)
                have hAo : Value.slice Aown data.length cown = .slice (some ⟨bo, pre.length, none⟩) data.length cap := hvo
                rw [hAo]
                have hset : ∀ x ∈ cur.set j ((cur.getD j 0 + 1) % 256), x < 256 := fun x hx => by rcases List.mem_or_eq_of_mem_set hx with h | h; exact hc256 x h; rw [h]; exact Nat.mod_lt _ (by decide)
                have hget : (pre ++ (bytes cur ++ tl))[pre.length + ((j : Nat) : Int).toNat * 1]? = some (.int .u8 ((cur.getD j 0 : Nat) : Int)) := by rw [List.getElem?_append_right (by omega), List.getElem?_append_left (by simp [bytes]; omega), show pre.length + ((j : Nat) : Int).toNat * 1 - pre.length = j by omega]; unfold bytes; rw [List.getElem?_map, List.getD_eq_getElem?_getD]; rw [List.getElem?_eq_getElem (by omega)]; rfl
                have hsetl : (pre ++ (bytes cur ++ tl)).set (pre.length + ((j : Nat) : Int).toNat * 1) (.int .u8 (((cur.getD j 0 + 1) % 256 : Nat) : Int)) = pre ++ (bytes (cur.set j ((cur.getD j 0 + 1) % 256)) ++ tl) := by rw [show pre.length + ((j : Nat) : Int).toNat * 1 = pre.length + j by omega, set_mid18 _ _ _ _ (by simp [bytes]; omega)]; unfold bytes; rw [List.map_set]
                refine SC.skip ?_
                refine SX.seq ?_
                refine SC.seq ?_
                refine SC.block ?_
                refine SC.plain ?_
                refine St.move rfl rfl ?_
                refine St.move rfl rfl ?_
                refine St.indexSl (e := 5) (sz := 1) rfl rfl rfl (by kernel_rfl) (by omega) ?_
                refine St.load rfl rfl (by kernel_rfl) (Holds.row mem0 hget) ?_
                refine St.addU un8 (b := 1) rfl rfl rfl ?_
                refine St.indexSl (e := 5) (sz := 1) rfl rfl rfl (by kernel_rfl) (by omega) ?_
                refine St.store rfl rfl rfl rfl (by kernel_rfl) (List.getElem?_eq_some_iff.1 hget).1 (fun _ h => h.nil) ?_
                rw [hsetl]
                refine St.done ?_
                refine SX.blk ?_
                refine SX.seq ?_
                refine SC.plain ?_
                refine St.move rfl rfl ?_
                first | refine St.addN (b := 1) rfl rfl rfl (by omega) ?_ | refine St.addI rfl rfl rfl (by omega) ?_
                refine St.assign rfl rfl ?_
                refine St.done ?_
                exact SX.again (j + 1, [⟨bo, pre ++ ((bytes (cur.set j ((cur.getD j 0 + 1) % 256))) ++ tl), 5⟩]) ⟨by simp only; omega, cur.set j ((cur.getD j 0 + 1) % 256), by rw [List.length_set]; exact hcl2, hset, by simp only; exact ⟨by simp [bytes, hcl2], .inr ⟨bo, pre, cap, tl, rfl, rfl, hcap, htl⟩⟩⟩ (by simp only; omega) ⟨rfl, rfl, rfl, rfl, rfl, rfl, rfl, rfl, rfl, rfl, rfl, trivial⟩ (List.Perm.refl _)
              · refine SC.exit ?_
                refine SX.seq_exit ?_
                refine SX.seq_exit ?_
                refine SX.hit ?_
                refine SX.blk ?_
                refine SX.weak ([⟨b10, [.int .i64 kind, .int .i64 who, .int .i64 idx, .slice Ad data.length cd], 102⟩] :: [⟨b5, two k (.pointer (some ⟨pK, 0, none⟩)) (.pointer (some ⟨pJ, 0, none⟩)), 80⟩] :: [⟨b6, two k (.pointer (some ⟨qK, 0, none⟩)) (.pointer (some ⟨qJ, 0, none⟩)), 104⟩] :: [⟨b7, two k (.slice AwK bssK.length cwK) (.slice AwJ bssJ.length cwJ), 108⟩] :: EwK :: EwJ :: EnL pK (eK.write data).1 ov2 iv2 at2 Eo2 Ei2 (EnL pJ eJ ovJ ivJ atJ EoJ EiJ ([⟨qK, wnRow (eK.write data).1, 204⟩] :: [⟨qJ, wnRow eJ, 204⟩] :: L))) (.cons _ (List.Sublist.refl _)) ?_
                exact SX.some (Pd.mk pK qK (eK.write data).1 ov2 iv2 at2 Eo2 Ei2 (.slice AwK bssK.length cwK) bssK EwK, Pd.mk pJ qJ eJ ovJ ivJ atJ EoJ EiJ (.slice AwJ bssJ.length cwJ) bssJ EwJ, now) ⟨{ en := hB2, way := hwK, dg := hdK, few := by simp only; omega }, ⟨heJ, hwJ, hdJ, by simp only; omega⟩, by simp only; omega, by simp only; omega⟩ ⟨rfl, rfl, rfl, rfl, rfl, rfl, rfl, rfl, trivial⟩ (List.Perm.refl _)
          · refine SC.seq ?_
            refine SC.plain ?_
            refine St.eql rfl rfl rfl ?_
            refine St.assign rfl rfl ?_
            refine St.done ?_
            refine SX.seq ?_
            refine SC.condp rfl (fun c126 => ?_) (fun c126 => ?_)
            · refine SC.drawn [(0, true), (1, true), (2, true), (3, true), (5, true), (6, true), (7, true), (8, true), (4, false)] [9, 10, 11] ([[⟨b5, two k (.pointer (some ⟨pK, 0, none⟩)) (.pointer (some ⟨pJ, 0, none⟩)), 80⟩], [⟨b6, two k (.pointer (some ⟨qK, 0, none⟩)) (.pointer (some ⟨qJ, 0, none⟩)), 104⟩]]) (by kernel_rfl) (by kernel_rfl) (fun w hw => hw.sub (sub_flat (.cons _ (.cons_cons _ (.cons_cons _ (List.nil_sublist _)))))) ?_
              refine St.move rfl rfl ?_
              refine St.move rfl rfl ?_
              refine St.indexSl (e := 80) (sz := 1) rfl rfl rfl (by kernel_rfl) (by omega) ?_
              refine St.load rfl rfl (by kernel_rfl) (Holds.row mem0 (two_get hk _ _)) ?_
              refine St.move rfl rfl ?_
              refine St.move rfl rfl ?_
              refine St.indexSl (e := 104) (sz := 1) rfl rfl rfl (by kernel_rfl) (by omega) ?_
              refine St.load rfl rfl (by kernel_rfl) (Holds.row mem1 (two_get hk _ _)) ?_
              refine St.perm (EnL pK eK ovK ivK atK EoK EiK ([⟨b10, [.int .i64 kind, .int .i64 who, .int .i64 idx, .slice Ad data.length cd], 102⟩] :: [⟨b5, two k (.pointer (some ⟨pK, 0, none⟩)) (.pointer (some ⟨pJ, 0, none⟩)), 80⟩] :: [⟨b6, two k (.pointer (some ⟨qK, 0, none⟩)) (.pointer (some ⟨qJ, 0, none⟩)), 104⟩] :: [⟨b7, two k (.slice AwK bssK.length cwK) (.slice AwJ bssJ.length cwJ), 108⟩] :: EwK :: EwJ :: EnL pJ eJ ovJ ivJ atJ EoJ EiJ ([⟨qK, wnRow eK, 204⟩] :: [⟨qJ, wnRow eJ, 204⟩] :: L))) (perm_idx [[[⟨b10, [.int .i64 kind, .int .i64 who, .int .i64 idx, .slice Ad data.length cd], 102⟩]], [[⟨b5, two k (.pointer (some ⟨pK, 0, none⟩)) (.pointer (some ⟨pJ, 0, none⟩)), 80⟩]], [[⟨b6, two k (.pointer (some ⟨qK, 0, none⟩)) (.pointer (some ⟨qJ, 0, none⟩)), 104⟩]], [[⟨b7, two k (.slice AwK bssK.length cwK) (.slice AwJ bssJ.length cwJ), 108⟩]], [EwK], [EwJ], EnL pK eK ovK ivK atK EoK EiK [], EnL pJ eJ ovJ ivJ atJ EoJ EiJ [], [[⟨qK, wnRow eK, 204⟩]], [[⟨qJ, wnRow eJ, 204⟩]]] (L) [6, 0, 1, 2, 3, 4, 5, 7, 8, 9] (by kernel_rfl)) ?_
              refine St.call [_] rfl (by kernel_rfl) rfl (close18_spec w0 _ pK _ _ _ _ _ _ heK) (by rintro _ _ w ⟨_, ov2, iv2, at2, Eo2, Ei2, _, rfl⟩ hw; exact hw.sub (sub_flat (.cons _ (.cons _ (.cons _ (.cons _ (.cons_cons _ (.cons_cons _ (List.nil_sublist _))))))))) ?_
              rintro r28 L1 ⟨rfl, ov2, iv2, at2, Eo2, Ei2, hB2, rfl⟩
              refine St.done ?_
              refine SX.tail ?_
              refine St.perm ([⟨qK, wnRow eK, 204⟩] :: EnL pK eK.close.1 ov2 iv2 at2 Eo2 Ei2 ([⟨b10, [.int .i64 kind, .int .i64 who, .int .i64 idx, .slice Ad data.length cd], 102⟩] :: [⟨b5, two k (.pointer (some ⟨pK, 0, none⟩)) (.pointer (some ⟨pJ, 0, none⟩)), 80⟩] :: [⟨b6, two k (.pointer (some ⟨qK, 0, none⟩)) (.pointer (some ⟨qJ, 0, none⟩)), 104⟩] :: [⟨b7, two k (.slice AwK bssK.length cwK) (.slice AwJ bssJ.length cwJ), 108⟩] :: EwK :: EwJ :: EnL pJ eJ ovJ ivJ atJ EoJ EiJ ([⟨qJ, wnRow eJ, 204⟩] :: L))) (perm_idx [EnL pK eK.close.1 ov2 iv2 at2 Eo2 Ei2 [], [[⟨b10, [.int .i64 kind, .int .i64 who, .int .i64 idx, .slice Ad data.length cd], 102⟩]], [[⟨b5, two k (.pointer (some ⟨pK, 0, none⟩)) (.pointer (some ⟨pJ, 0, none⟩)), 80⟩]], [[⟨b6, two k (.pointer (some ⟨qK, 0, none⟩)) (.pointer (some ⟨qJ, 0, none⟩)), 104⟩]], [[⟨b7, two k (.slice AwK bssK.length cwK) (.slice AwJ bssJ.length cwJ), 108⟩]], [EwK], [EwJ], EnL pJ eJ ovJ ivJ atJ EoJ EiJ [], [[⟨qK, wnRow eK, 204⟩]], [[⟨qJ, wnRow eJ, 204⟩]]] (L) [8, 0, 1, 2, 3, 4, 5, 6, 7, 9] (by kernel_rfl)) ?_
              refine St.call [_] rfl (by kernel_rfl) rfl (wclose_spec w0 _ qK eK hokK) (fun _ _ _ _ h => h.nil) ?_
              rintro r28 L1 ⟨rfl, rfl⟩
              unfold WnL
              refine St.perm ([⟨b10, [.int .i64 kind, .int .i64 who, .int .i64 idx, .slice Ad data.length cd], 102⟩] :: [⟨b5, two k (.pointer (some ⟨pK, 0, none⟩)) (.pointer (some ⟨pJ, 0, none⟩)), 80⟩] :: [⟨b6, two k (.pointer (some ⟨qK, 0, none⟩)) (.pointer (some ⟨qJ, 0, none⟩)), 104⟩] :: [⟨b7, two k (.slice AwK bssK.length cwK) (.slice AwJ bssJ.length cwJ), 108⟩] :: EwK :: EwJ :: EnL pK eK.close.1 ov2 iv2 at2 Eo2 Ei2 (EnL pJ eJ ovJ ivJ atJ EoJ EiJ ([⟨qK, wnRow eK.close.1, 204⟩] :: [⟨qJ, wnRow eJ, 204⟩] :: L))) (perm_idx [[[⟨qK, wnRow eK.close.1, 204⟩]], EnL pK eK.close.1 ov2 iv2 at2 Eo2 Ei2 [], [[⟨b10, [.int .i64 kind, .int .i64 who, .int .i64 idx, .slice Ad data.length cd], 102⟩]], [[⟨b5, two k (.pointer (some ⟨pK, 0, none⟩)) (.pointer (some ⟨pJ, 0, none⟩)), 80⟩]], [[⟨b6, two k (.pointer (some ⟨qK, 0, none⟩)) (.pointer (some ⟨qJ, 0, none⟩)), 104⟩]], [[⟨b7, two k (.slice AwK bssK.length cwK) (.slice AwJ bssJ.length cwJ), 108⟩]], [EwK], [EwJ], EnL pJ eJ ovJ ivJ atJ EoJ EiJ [], [[⟨qJ, wnRow eJ, 204⟩]]] (L) [2, 3, 4, 5, 6, 7, 1, 8, 0, 9] (by kernel_rfl)) ?_
              refine St.eql rfl rfl rfl ?_
              rw [show decide (eK.close.2 = eK.close.2) = true from decide_eq_true rfl]
              refine St.assign rfl rfl ?_
              refine St.done ?_
              refine SX.blk ?_
              exact SX.some (Pd.mk pK qK eK.close.1 ov2 iv2 at2 Eo2 Ei2 (.slice AwK bssK.length cwK) bssK EwK, Pd.mk pJ qJ eJ ovJ ivJ atJ EoJ EiJ (.slice AwJ bssJ.length cwJ) bssJ EwJ, now) ⟨{ en := hB2, way := hwK, dg := hdK, few := by simp only; omega }, ⟨heJ, hwJ, hdJ, by simp only; omega⟩, by simp only; omega, by simp only; omega⟩ ⟨rfl, rfl, rfl, rfl, rfl, rfl, rfl, rfl, trivial⟩ (List.Perm.refl _)
            · refine SC.seq ?_
              refine SC.plain ?_
              refine St.eql rfl rfl rfl ?_
              refine St.assign rfl rfl ?_
              refine St.done ?_
              refine SX.seq ?_
              refine SC.condp rfl (fun c139 => ?_) (fun c139 => ?_)
              · refine SC.drawn [(0, true), (1, true), (2, true), (3, true), (6, true), (7, true), (8, true), (9, true), (4, false), (5, true), (10, false)] [11, 12] ([[⟨b5, two k (.pointer (some ⟨pK, 0, none⟩)) (.pointer (some ⟨pJ, 0, none⟩)), 80⟩], [⟨b6, two k (.pointer (some ⟨qK, 0, none⟩)) (.pointer (some ⟨qJ, 0, none⟩)), 104⟩]]) (by kernel_rfl) (by kernel_rfl) (fun w hw => hw.sub (sub_flat (.cons _ (.cons_cons _ (.cons_cons _ (List.nil_sublist _)))))) ?_
                refine St.move rfl rfl ?_
                refine St.move rfl rfl ?_
                refine St.indexSl (e := 80) (sz := 1) rfl rfl rfl (by kernel_rfl) (by omega) ?_
                refine St.load rfl rfl (by kernel_rfl) (Holds.row mem0 (two_get hk _ _)) ?_
                refine St.move rfl rfl ?_
                refine St.move rfl rfl ?_
                refine St.indexSl (e := 104) (sz := 1) rfl rfl rfl (by kernel_rfl) (by omega) ?_
                refine St.load rfl rfl (by kernel_rfl) (Holds.row mem1 (two_get hk _ _)) ?_
                refine St.perm (EnL pK eK ovK ivK atK EoK EiK ([⟨b10, [.int .i64 kind, .int .i64 who, .int .i64 idx, .slice Ad data.length cd], 102⟩] :: [⟨b5, two k (.pointer (some ⟨pK, 0, none⟩)) (.pointer (some ⟨pJ, 0, none⟩)), 80⟩] :: [⟨b6, two k (.pointer (some ⟨qK, 0, none⟩)) (.pointer (some ⟨qJ, 0, none⟩)), 104⟩] :: [⟨b7, two k (.slice AwK bssK.length cwK) (.slice AwJ bssJ.length cwJ), 108⟩] :: EwK :: EwJ :: EnL pJ eJ ovJ ivJ atJ EoJ EiJ ([⟨qK, wnRow eK, 204⟩] :: [⟨qJ, wnRow eJ, 204⟩] :: L))) (perm_idx [[[⟨b10, [.int .i64 kind, .int .i64 who, .int .i64 idx, .slice Ad data.length cd], 102⟩]], [[⟨b5, two k (.pointer (some ⟨pK, 0, none⟩)) (.pointer (some ⟨pJ, 0, none⟩)), 80⟩]], [[⟨b6, two k (.pointer (some ⟨qK, 0, none⟩)) (.pointer (some ⟨qJ, 0, none⟩)), 104⟩]], [[⟨b7, two k (.slice AwK bssK.length cwK) (.slice AwJ bssJ.length cwJ), 108⟩]], [EwK], [EwJ], EnL pK eK ovK ivK atK EoK EiK [], EnL pJ eJ ovJ ivJ atJ EoJ EiJ [], [[⟨qK, wnRow eK, 204⟩]], [[⟨qJ, wnRow eJ, 204⟩]]] (L) [6, 0, 1, 2, 3, 4, 5, 7, 8, 9] (by kernel_rfl)) ?_
                refine St.call [_] rfl (by kernel_rfl) rfl (read18_spec w0 _ pK _ _ _ _ _ _ heK) (by rintro _ _ w ⟨Et, _, _, ⟨ov2, iv2, at2, Eo2, Ei2, _, rfl⟩, rfl⟩ hw; exact hw.sub (sub_flat (.cons _ (.cons _ (.cons _ (.cons _ (.cons _ (.cons_cons _ (.cons_cons _ (List.nil_sublist _)))))))))) ?_
                rintro r30 L1 ⟨Et, hbt, L2, ⟨ov2, iv2, at2, Eo2, Ei2, hB2, rfl⟩, rfl⟩
                refine St.grow (Et :: [⟨b5, two k (.pointer (some ⟨pK, 0, none⟩)) (.pointer (some ⟨pJ, 0, none⟩)), 80⟩] :: [⟨b6, two k (.pointer (some ⟨qK, 0, none⟩)) (.pointer (some ⟨qJ, 0, none⟩)), 104⟩] :: []) (fun w hw => hw.sub (sub_flat (.cons_cons _ (.cons _ (.cons _ (.cons _ (.cons _ (.cons_cons _ (.cons_cons _ (List.nil_sublist _)))))))))) (fun w hw => hw.drop) ?_
                refine St.toStr (e := 5) (bs := eK.take.2) (n := eK.take.2.length) rfl rfl (hbt.rd (by simp [Lq])) (by kernel_rfl) (by kernel_rfl) (by kernel_rfl) ?_
                refine St.perm ([⟨qK, wnRow eK, 204⟩] :: Et :: EnL pK eK.take.1 ov2 iv2 at2 Eo2 Ei2 ([⟨b10, [.int .i64 kind, .int .i64 who, .int .i64 idx, .slice Ad data.length cd], 102⟩] :: [⟨b5, two k (.pointer (some ⟨pK, 0, none⟩)) (.pointer (some ⟨pJ, 0, none⟩)), 80⟩] :: [⟨b6, two k (.pointer (some ⟨qK, 0, none⟩)) (.pointer (some ⟨qJ, 0, none⟩)), 104⟩] :: [⟨b7, two k (.slice AwK bssK.length cwK) (.slice AwJ bssJ.length cwJ), 108⟩] :: EwK :: EwJ :: EnL pJ eJ ovJ ivJ atJ EoJ EiJ ([⟨qJ, wnRow eJ, 204⟩] :: L))) (perm_idx [[Et], EnL pK eK.take.1 ov2 iv2 at2 Eo2 Ei2 [], [[⟨b10, [.int .i64 kind, .int .i64 who, .int .i64 idx, .slice Ad data.length cd], 102⟩]], [[⟨b5, two k (.pointer (some ⟨pK, 0, none⟩)) (.pointer (some ⟨pJ, 0, none⟩)), 80⟩]], [[⟨b6, two k (.pointer (some ⟨qK, 0, none⟩)) (.pointer (some ⟨qJ, 0, none⟩)), 104⟩]], [[⟨b7, two k (.slice AwK bssK.length cwK) (.slice AwJ bssJ.length cwJ), 108⟩]], [EwK], [EwJ], EnL pJ eJ ovJ ivJ atJ EoJ EiJ [], [[⟨qK, wnRow eK, 204⟩]], [[⟨qJ, wnRow eJ, 204⟩]]] (L) [9, 0, 1, 2, 3, 4, 5, 6, 7, 8, 10] (by kernel_rfl)) ?_
                refine St.call [_] rfl (by kernel_rfl) rfl (wtake_spec w0 _ qK eK hokK) (by rintro _ _ w ⟨_, rfl⟩ hw; exact (fun {w} (hw : Own w0 ([⟨qK, wnRow eK.take.1, 204⟩] :: Et :: EnL pK eK.take.1 ov2 iv2 at2 Eo2 Ei2 ([⟨b10, [.int .i64 kind, .int .i64 who, .int .i64 idx, .slice Ad data.length cd], 102⟩] :: [⟨b5, two k (.pointer (some ⟨pK, 0, none⟩)) (.pointer (some ⟨pJ, 0, none⟩)), 80⟩] :: [⟨b6, two k (.pointer (some ⟨qK, 0, none⟩)) (.pointer (some ⟨qJ, 0, none⟩)), 104⟩] :: [⟨b7, two k (.slice AwK bssK.length cwK) (.slice AwJ bssJ.length cwJ), 108⟩] :: EwK :: EwJ :: EnL pJ eJ ovJ ivJ atJ EoJ EiJ ([⟨qJ, wnRow eJ, 204⟩] :: L))) w) => (hw.perm (perm_idx [[[⟨qK, wnRow eK.take.1, 204⟩]], [Et], EnL pK eK.take.1 ov2 iv2 at2 Eo2 Ei2 [], [[⟨b10, [.int .i64 kind, .int .i64 who, .int .i64 idx, .slice Ad data.length cd], 102⟩]], [[⟨b5, two k (.pointer (some ⟨pK, 0, none⟩)) (.pointer (some ⟨pJ, 0, none⟩)), 80⟩]], [[⟨b6, two k (.pointer (some ⟨qK, 0, none⟩)) (.pointer (some ⟨qJ, 0, none⟩)), 104⟩]], [[⟨b7, two k (.slice AwK bssK.length cwK) (.slice AwJ bssJ.length cwJ), 108⟩]], [EwK], [EwJ], EnL pJ eJ ovJ ivJ atJ EoJ EiJ [], [[⟨qJ, wnRow eJ, 204⟩]]] (L) [1, 4, 5, 0, 2, 3, 6, 7, 8, 9, 10] (by kernel_rfl))).sub (sub_flat (.cons_cons _ (.cons_cons _ (.cons_cons _ (List.nil_sublist _)))))) hw) ?_
                rintro r30 L1 ⟨rfl, rfl⟩
                unfold WnL
                refine St.perm (Et :: [⟨b10, [.int .i64 kind, .int .i64 who, .int .i64 idx, .slice Ad data.length cd], 102⟩] :: [⟨b5, two k (.pointer (some ⟨pK, 0, none⟩)) (.pointer (some ⟨pJ, 0, none⟩)), 80⟩] :: [⟨b6, two k (.pointer (some ⟨qK, 0, none⟩)) (.pointer (some ⟨qJ, 0, none⟩)), 104⟩] :: [⟨b7, two k (.slice AwK bssK.length cwK) (.slice AwJ bssJ.length cwJ), 108⟩] :: EwK :: EwJ :: EnL pK eK.take.1 ov2 iv2 at2 Eo2 Ei2 (EnL pJ eJ ovJ ivJ atJ EoJ EiJ ([⟨qK, wnRow eK.take.1, 204⟩] :: [⟨qJ, wnRow eJ, 204⟩] :: L))) (perm_idx [[[⟨qK, wnRow eK.take.1, 204⟩]], [Et], EnL pK eK.take.1 ov2 iv2 at2 Eo2 Ei2 [], [[⟨b10, [.int .i64 kind, .int .i64 who, .int .i64 idx, .slice Ad data.length cd], 102⟩]], [[⟨b5, two k (.pointer (some ⟨pK, 0, none⟩)) (.pointer (some ⟨pJ, 0, none⟩)), 80⟩]], [[⟨b6, two k (.pointer (some ⟨qK, 0, none⟩)) (.pointer (some ⟨qJ, 0, none⟩)), 104⟩]], [[⟨b7, two k (.slice AwK bssK.length cwK) (.slice AwJ bssJ.length cwJ), 108⟩]], [EwK], [EwJ], EnL pJ eJ ovJ ivJ atJ EoJ EiJ [], [[⟨qJ, wnRow eJ, 204⟩]]] (L) [1, 3, 4, 5, 6, 7, 8, 2, 9, 0, 10] (by kernel_rfl)) ?_
                refine St.done ?_
                refine SX.tail ?_
                refine St.strEql rfl rfl rfl ?_
                rw [show decide (text eK.take.2 = text eK.take.2) = true from decide_eq_true rfl]
                refine St.assign rfl rfl ?_
                refine St.done ?_
                refine SX.blk ?_
                refine SX.weak ([⟨b10, [.int .i64 kind, .int .i64 who, .int .i64 idx, .slice Ad data.length cd], 102⟩] :: [⟨b5, two k (.pointer (some ⟨pK, 0, none⟩)) (.pointer (some ⟨pJ, 0, none⟩)), 80⟩] :: [⟨b6, two k (.pointer (some ⟨qK, 0, none⟩)) (.pointer (some ⟨qJ, 0, none⟩)), 104⟩] :: [⟨b7, two k (.slice AwK bssK.length cwK) (.slice AwJ bssJ.length cwJ), 108⟩] :: EwK :: EwJ :: EnL pK eK.take.1 ov2 iv2 at2 Eo2 Ei2 (EnL pJ eJ ovJ ivJ atJ EoJ EiJ ([⟨qK, wnRow eK.take.1, 204⟩] :: [⟨qJ, wnRow eJ, 204⟩] :: L))) (.cons _ (List.Sublist.refl _)) ?_
                exact SX.some (Pd.mk pK qK eK.take.1 ov2 iv2 at2 Eo2 Ei2 (.slice AwK bssK.length cwK) bssK EwK, Pd.mk pJ qJ eJ ovJ ivJ atJ EoJ EiJ (.slice AwJ bssJ.length cwJ) bssJ EwJ, now) ⟨{ en := hB2, way := hwK, dg := hdK, few := by simp only; omega }, ⟨heJ, hwJ, hdJ, by simp only; omega⟩, by simp only; omega, by simp only; omega⟩ ⟨rfl, rfl, rfl, rfl, rfl, rfl, rfl, rfl, trivial⟩ (List.Perm.refl _)
              · refine SC.seq ?_
                refine SC.plain ?_
                refine St.eql rfl rfl rfl ?_
                refine St.assign rfl rfl ?_
                refine St.done ?_
                refine SX.seq ?_
                refine SC.condp rfl (fun c153 => ?_) (fun c153 => ?_)
                · refine SC.seq ?_
                  refine SC.plain ?_
                  refine St.move rfl rfl ?_
                  refine St.move rfl rfl ?_
                  refine St.indexSl (e := 104) (sz := 1) rfl rfl rfl (by kernel_rfl) (by omega) ?_
                  refine St.load rfl rfl (by kernel_rfl) (Holds.row mem2 (two_get hk _ _)) ?_
                  refine St.move rfl rfl ?_
                  refine St.perm ([⟨qK, wnRow eK, 204⟩] :: [⟨b10, [.int .i64 kind, .int .i64 who, .int .i64 idx, .slice Ad data.length cd], 102⟩] :: [⟨b5, two k (.pointer (some ⟨pK, 0, none⟩)) (.pointer (some ⟨pJ, 0, none⟩)), 80⟩] :: [⟨b6, two k (.pointer (some ⟨qK, 0, none⟩)) (.pointer (some ⟨qJ, 0, none⟩)), 104⟩] :: [⟨b7, two k (.slice AwK bssK.length cwK) (.slice AwJ bssJ.length cwJ), 108⟩] :: EwK :: EwJ :: EnL pK eK ovK ivK atK EoK EiK (EnL pJ eJ ovJ ivJ atJ EoJ EiJ ([⟨qJ, wnRow eJ, 204⟩] :: L))) (perm_idx [[[⟨b10, [.int .i64 kind, .int .i64 who, .int .i64 idx, .slice Ad data.length cd], 102⟩]], [[⟨b5, two k (.pointer (some ⟨pK, 0, none⟩)) (.pointer (some ⟨pJ, 0, none⟩)), 80⟩]], [[⟨b6, two k (.pointer (some ⟨qK, 0, none⟩)) (.pointer (some ⟨qJ, 0, none⟩)), 104⟩]], [[⟨b7, two k (.slice AwK bssK.length cwK) (.slice AwJ bssJ.length cwJ), 108⟩]], [EwK], [EwJ], EnL pK eK ovK ivK atK EoK EiK [], EnL pJ eJ ovJ ivJ atJ EoJ EiJ [], [[⟨qK, wnRow eK, 204⟩]], [[⟨qJ, wnRow eJ, 204⟩]]] (L) [8, 0, 1, 2, 3, 4, 5, 6, 7, 9] (by kernel_rfl)) ?_
                  refine St.call [_, _] rfl (by kernel_rfl) rfl (wout_spec w0 _ qK eK hokK now hcl) (fun _ _ _ _ h => h.nil) ?_
                  rintro r32 L1 ⟨Es, hbs, rfl⟩
                  unfold WnL
                  have hq := hbs.read
                  obtain ⟨bs3, os3, As3, cs3, rfl, hAs3, hhs3⟩ := hq
                  refine St.perm (Es :: [⟨b10, [.int .i64 kind, .int .i64 who, .int .i64 idx, .slice Ad data.length cd], 102⟩] :: [⟨b5, two k (.pointer (some ⟨pK, 0, none⟩)) (.pointer (some ⟨pJ, 0, none⟩)), 80⟩] :: [⟨b6, two k (.pointer (some ⟨qK, 0, none⟩)) (.pointer (some ⟨qJ, 0, none⟩)), 104⟩] :: [⟨b7, two k (.slice AwK bssK.length cwK) (.slice AwJ bssJ.length cwJ), 108⟩] :: EwK :: EwJ :: EnL pK eK ovK ivK atK EoK EiK (EnL pJ eJ ovJ ivJ atJ EoJ EiJ ([⟨qK, wnRow (eK.outp now).1, 204⟩] :: [⟨qJ, wnRow eJ, 204⟩] :: L))) (perm_idx [[[⟨qK, wnRow (eK.outp now).1, 204⟩]], [Es], [[⟨b10, [.int .i64 kind, .int .i64 who, .int .i64 idx, .slice Ad data.length cd], 102⟩]], [[⟨b5, two k (.pointer (some ⟨pK, 0, none⟩)) (.pointer (some ⟨pJ, 0, none⟩)), 80⟩]], [[⟨b6, two k (.pointer (some ⟨qK, 0, none⟩)) (.pointer (some ⟨qJ, 0, none⟩)), 104⟩]], [[⟨b7, two k (.slice AwK bssK.length cwK) (.slice AwJ bssJ.length cwJ), 108⟩]], [EwK], [EwJ], EnL pK eK ovK ivK atK EoK EiK [], EnL pJ eJ ovJ ivJ atJ EoJ EiJ [], [[⟨qJ, wnRow eJ, 204⟩]]] (L) [1, 2, 3, 4, 5, 6, 7, 8, 9, 0, 10] (by kernel_rfl)) ?_
                  refine St.assign rfl rfl ?_
                  refine St.done ?_
                  refine SX.seq ?_
                  refine SC.seq ?_
                  refine SC.plain ?_
                  refine St.move rfl rfl ?_
                  refine St.move rfl rfl ?_
                  refine St.indexSl (e := 80) (sz := 1) rfl rfl rfl (by kernel_rfl) (by omega) ?_
                  refine St.load rfl rfl (by kernel_rfl) (Holds.row mem2 (two_get hk _ _)) ?_
                  refine St.move rfl rfl ?_
                  refine St.perm (EnL pK eK ovK ivK atK EoK EiK (Es :: [⟨b10, [.int .i64 kind, .int .i64 who, .int .i64 idx, .slice Ad data.length cd], 102⟩] :: [⟨b5, two k (.pointer (some ⟨pK, 0, none⟩)) (.pointer (some ⟨pJ, 0, none⟩)), 80⟩] :: [⟨b6, two k (.pointer (some ⟨qK, 0, none⟩)) (.pointer (some ⟨qJ, 0, none⟩)), 104⟩] :: [⟨b7, two k (.slice AwK bssK.length cwK) (.slice AwJ bssJ.length cwJ), 108⟩] :: EwK :: EwJ :: EnL pJ eJ ovJ ivJ atJ EoJ EiJ ([⟨qK, wnRow (eK.outp now).1, 204⟩] :: [⟨qJ, wnRow eJ, 204⟩] :: L))) (perm_idx [[Es], [[⟨b10, [.int .i64 kind, .int .i64 who, .int .i64 idx, .slice Ad data.length cd], 102⟩]], [[⟨b5, two k (.pointer (some ⟨pK, 0, none⟩)) (.pointer (some ⟨pJ, 0, none⟩)), 80⟩]], [[⟨b6, two k (.pointer (some ⟨qK, 0, none⟩)) (.pointer (some ⟨qJ, 0, none⟩)), 104⟩]], [[⟨b7, two k (.slice AwK bssK.length cwK) (.slice AwJ bssJ.length cwJ), 108⟩]], [EwK], [EwJ], EnL pK eK ovK ivK atK EoK EiK [], EnL pJ eJ ovJ ivJ atJ EoJ EiJ [], [[⟨qK, wnRow (eK.outp now).1, 204⟩]], [[⟨qJ, wnRow eJ, 204⟩]]] (L) [7, 0, 1, 2, 3, 4, 5, 6, 8, 9, 10] (by kernel_rfl)) ?_
                  refine St.call [_, _] rfl (by kernel_rfl) rfl (out18_spec w0 _ pK _ _ _ _ _ _ heK now hcl) (fun _ _ _ _ h => h.nil) ?_
                  rintro r33 L1 ⟨vs, Eb, Ds, ov2, iv2, at2, Eo2, Ei2, hbb, hos, hB2, rfl⟩
                  have hfew := outp_few13 eK now
                  have hdg := outp_dg hokK hcl
                  have hq := hbb.read
                  obtain ⟨bb, ob, Ab, cb, rfl, hAb, hhb⟩ := hq
                  refine St.perm (Es :: [⟨b10, [.int .i64 kind, .int .i64 who, .int .i64 idx, .slice Ad data.length cd], 102⟩] :: [⟨b5, two k (.pointer (some ⟨pK, 0, none⟩)) (.pointer (some ⟨pJ, 0, none⟩)), 80⟩] :: [⟨b6, two k (.pointer (some ⟨qK, 0, none⟩)) (.pointer (some ⟨qJ, 0, none⟩)), 104⟩] :: [⟨b7, two k (.slice AwK bssK.length cwK) (.slice AwJ bssJ.length cwJ), 108⟩] :: EwK :: EwJ :: EnL pK (eK.outp now).1 ov2 iv2 at2 Eo2 Ei2 (EnL pJ eJ ovJ ivJ atJ EoJ EiJ ([⟨qK, wnRow (eK.outp now).1, 204⟩] :: [⟨qJ, wnRow eJ, 204⟩] :: Eb :: Ds ++ (L)))) (perm_idx [EnL pK (eK.outp now).1 ov2 iv2 at2 Eo2 Ei2 [], [Eb], Ds, [Es], [[⟨b10, [.int .i64 kind, .int .i64 who, .int .i64 idx, .slice Ad data.length cd], 102⟩]], [[⟨b5, two k (.pointer (some ⟨pK, 0, none⟩)) (.pointer (some ⟨pJ, 0, none⟩)), 80⟩]], [[⟨b6, two k (.pointer (some ⟨qK, 0, none⟩)) (.pointer (some ⟨qJ, 0, none⟩)), 104⟩]], [[⟨b7, two k (.slice AwK bssK.length cwK) (.slice AwJ bssJ.length cwJ), 108⟩]], [EwK], [EwJ], EnL pJ eJ ovJ ivJ atJ EoJ EiJ [], [[⟨qK, wnRow (eK.outp now).1, 204⟩]], [[⟨qJ, wnRow eJ, 204⟩]]] (L) [3, 4, 5, 6, 7, 8, 9, 0, 10, 11, 12, 1, 2] (by kernel_rfl)) ?_
                  refine St.move rfl rfl ?_
                  refine St.call [_, _] rfl (by kernel_rfl) rfl (outs_spec w0 (Es :: [⟨b10, [.int .i64 kind, .int .i64 who, .int .i64 idx, .slice Ad data.length cd], 102⟩] :: [⟨b5, two k (.pointer (some ⟨pK, 0, none⟩)) (.pointer (some ⟨pJ, 0, none⟩)), 80⟩] :: [⟨b6, two k (.pointer (some ⟨qK, 0, none⟩)) (.pointer (some ⟨qJ, 0, none⟩)), 104⟩] :: [⟨b7, two k (.slice AwK bssK.length cwK) (.slice AwJ bssJ.length cwJ), 108⟩] :: EwK :: EwJ :: EnL pK (eK.outp now).1 ov2 iv2 at2 Eo2 Ei2 (EnL pJ eJ ovJ ivJ atJ EoJ EiJ ([⟨qK, wnRow (eK.outp now).1, 204⟩] :: [⟨qJ, wnRow eJ, 204⟩] :: Eb :: Ds ++ (L)))) _ _ (eK.outp now).2 vs (hbb.rd (by simp [EnL])) (hbs.rd (by simp [EnL])) (by omega) hos.1 (fun i x t hx ht => by have hlt : i < (eK.outp now).2.length := (List.getElem?_eq_some_iff.1 ht).1; have hE : Ds[i]? = some (Ds[i]'(by rw [hos.2.1]; exact hlt)) := List.getElem?_eq_getElem _; exact (hos.2.2 i x t _ hx ht hE).rd (by simp [EnL, List.mem_of_getElem? hE]))) (fun _ _ _ _ h => h.nil) ?_
                  rintro r33 L1 ⟨rfl, rfl⟩
                  refine St.assign rfl rfl ?_
                  refine St.done ?_
                  refine SX.seq ?_
                  refine SC.plain ?_
                  refine St.move rfl rfl ?_
                  first | refine St.subN (a := 1) rfl rfl rfl (by omega) (by omega) ?_ | refine St.subI rfl rfl rfl (by omega) ?_
                  refine St.move rfl rfl ?_
                  first | refine St.subN (a := 1) rfl rfl rfl (by omega) (by omega) ?_ | refine St.subI rfl rfl rfl (by omega) ?_
                  refine St.indexArr (n := 2) (sz := 1) rfl rfl rfl (by kernel_rfl) (by omega) ?_
                  refine St.load rfl rfl (by kernel_rfl) (Holds.row mem4 (two_oth hk _ _)) ?_
                  refine St.move rfl rfl ?_
                  refine St.perm (EwJ :: Es :: [⟨b10, [.int .i64 kind, .int .i64 who, .int .i64 idx, .slice Ad data.length cd], 102⟩] :: [⟨b5, two k (.pointer (some ⟨pK, 0, none⟩)) (.pointer (some ⟨pJ, 0, none⟩)), 80⟩] :: [⟨b6, two k (.pointer (some ⟨qK, 0, none⟩)) (.pointer (some ⟨qJ, 0, none⟩)), 104⟩] :: [⟨b7, two k (.slice AwK bssK.length cwK) (.slice AwJ bssJ.length cwJ), 108⟩] :: EwK :: EnL pK (eK.outp now).1 ov2 iv2 at2 Eo2 Ei2 (EnL pJ eJ ovJ ivJ atJ EoJ EiJ ([⟨qK, wnRow (eK.outp now).1, 204⟩] :: [⟨qJ, wnRow eJ, 204⟩] :: Eb :: Ds ++ (L)))) (perm_idx [[Es], [[⟨b10, [.int .i64 kind, .int .i64 who, .int .i64 idx, .slice Ad data.length cd], 102⟩]], [[⟨b5, two k (.pointer (some ⟨pK, 0, none⟩)) (.pointer (some ⟨pJ, 0, none⟩)), 80⟩]], [[⟨b6, two k (.pointer (some ⟨qK, 0, none⟩)) (.pointer (some ⟨qJ, 0, none⟩)), 104⟩]], [[⟨b7, two k (.slice AwK bssK.length cwK) (.slice AwJ bssJ.length cwJ), 108⟩]], [EwK], [EwJ], EnL pK (eK.outp now).1 ov2 iv2 at2 Eo2 Ei2 [], EnL pJ eJ ovJ ivJ atJ EoJ EiJ [], [[⟨qK, wnRow (eK.outp now).1, 204⟩]], [[⟨qJ, wnRow eJ, 204⟩]], [Eb], Ds] (L) [6, 0, 1, 2, 3, 4, 5, 7, 8, 9, 10, 11, 12] (by kernel_rfl)) ?_
                  refine St.append (e := 9) (sz := 1) (bytes := 16) (xs := strs bssJ) (n := bssJ.length) (news := strs (eK.outp now).2) (m := (eK.outp now).2.length) rfl rfl rfl (by kernel_rfl) hwJ (hbs.rd (by simp)) (strs_one _) (by omega) (by omega) (fun _ _ h => h.nil) (fun wv2 Ew2 hw2 _ => ?_)
                  rw [← strs_app] at hw2
                  have hl3 : bssJ.length + (eK.outp now).2.length = (bssJ ++ (eK.outp now).2).length := List.length_append.symm
                  rw [hl3] at hw2
                  have hq := hw2.read
                  obtain ⟨bw2, ow2, Aw2, cw2, rfl, hAw2, hhw2⟩ := hq
                  refine St.indexArr (n := 2) (sz := 1) rfl rfl rfl (by kernel_rfl) (by omega) ?_
                  refine St.store5 rfl rfl rfl rfl (by kernel_rfl) (by rw [two_len]; omega) (fun _ h => h.nil) ?_
                  rw [two_put hk]
                  refine St.done ?_
                  refine SX.blk ?_
                  refine SX.weak (Ew2 :: [⟨b10, [.int .i64 kind, .int .i64 who, .int .i64 idx, .slice Ad data.length cd], 102⟩] :: [⟨b5, two k (.pointer (some ⟨pK, 0, none⟩)) (.pointer (some ⟨pJ, 0, none⟩)), 80⟩] :: [⟨b6, two k (.pointer (some ⟨qK, 0, none⟩)) (.pointer (some ⟨qJ, 0, none⟩)), 104⟩] :: [⟨b7, two k (.slice AwK bssK.length cwK) (.slice Aw2 (bssJ ++ (eK.outp now).2).length cw2), 108⟩] :: EwK :: EnL pK (eK.outp now).1 ov2 iv2 at2 Eo2 Ei2 (EnL pJ eJ ovJ ivJ atJ EoJ EiJ ([⟨qK, wnRow (eK.outp now).1, 204⟩] :: [⟨qJ, wnRow eJ, 204⟩] :: L))) (.cons_cons _ (.cons _ (.cons_cons _ (.cons_cons _ (.cons_cons _ (.cons_cons _ (.cons_cons _ (.cons_cons _ (.cons_cons _ (.cons_cons _ (.cons_cons _ (.cons_cons _ (.cons_cons _ (.cons_cons _ (.cons_cons _ (.cons _ (List.Sublist.trans (List.Sublist.refl _) (List.sublist_append_right _ _)))))))))))))))))) ?_
                  refine SX.perm ([⟨b10, [.int .i64 kind, .int .i64 who, .int .i64 idx, .slice Ad data.length cd], 102⟩] :: [⟨b5, two k (.pointer (some ⟨pK, 0, none⟩)) (.pointer (some ⟨pJ, 0, none⟩)), 80⟩] :: [⟨b6, two k (.pointer (some ⟨qK, 0, none⟩)) (.pointer (some ⟨qJ, 0, none⟩)), 104⟩] :: [⟨b7, two k (.slice AwK bssK.length cwK) (.slice Aw2 (bssJ ++ (eK.outp now).2).length cw2), 108⟩] :: EwK :: Ew2 :: EnL pK (eK.outp now).1 ov2 iv2 at2 Eo2 Ei2 (EnL pJ eJ ovJ ivJ atJ EoJ EiJ ([⟨qK, wnRow (eK.outp now).1, 204⟩] :: [⟨qJ, wnRow eJ, 204⟩] :: L))) (perm_idx [[Ew2], [[⟨b10, [.int .i64 kind, .int .i64 who, .int .i64 idx, .slice Ad data.length cd], 102⟩]], [[⟨b5, two k (.pointer (some ⟨pK, 0, none⟩)) (.pointer (some ⟨pJ, 0, none⟩)), 80⟩]], [[⟨b6, two k (.pointer (some ⟨qK, 0, none⟩)) (.pointer (some ⟨qJ, 0, none⟩)), 104⟩]], [[⟨b7, two k (.slice AwK bssK.length cwK) (.slice Aw2 (bssJ ++ (eK.outp now).2).length cw2), 108⟩]], [EwK], EnL pK (eK.outp now).1 ov2 iv2 at2 Eo2 Ei2 [], EnL pJ eJ ovJ ivJ atJ EoJ EiJ [], [[⟨qK, wnRow (eK.outp now).1, 204⟩]], [[⟨qJ, wnRow eJ, 204⟩]]] (L) [1, 2, 3, 4, 5, 0, 6, 7, 8, 9] (by kernel_rfl)) ?_
                  exact SX.some (Pd.mk pK qK (eK.outp now).1 ov2 iv2 at2 Eo2 Ei2 (.slice AwK bssK.length cwK) bssK EwK, Pd.mk pJ qJ eJ ovJ ivJ atJ EoJ EiJ (.slice Aw2 (bssJ ++ (eK.outp now).2).length cw2) (bssJ ++ (eK.outp now).2) Ew2, now) ⟨{ en := hB2, way := hwK, dg := hdK, few := by simp only; omega }, { en := heJ, way := hw2, dg := fun s hs => (List.mem_append.1 hs).elim (hdJ s) (hdg s), few := by simp only [List.length_append]; omega }, by simp only; omega, by simp only; omega⟩ ⟨rfl, rfl, rfl, rfl, rfl, rfl, rfl, rfl, trivial⟩ (List.Perm.refl _)
                · refine SC.join (α := Bool) (fun b => b = true ↔ (kind = 4 ∨ kind = 5 ∨ kind = 6)) (fun b => [(1, .slice (some ⟨bs, os, none⟩) ops.length cs), (5, .slice (some ⟨b5, 0, none⟩) 2 2), (6, .slice (some ⟨b6, 0, none⟩) 2 2), (7, .pointer (some ⟨b7, 0, none⟩)), (8, .int .i64 now), (9, .int .i64 ((i : Nat) : Int)), (10, .pointer (some ⟨b10, 0, none⟩)), (11, .int .i64 ((k : Nat) : Int)), (12, .bool true), (13, .int .i64 ((n : Nat) : Int)), (82, .int .i64 kind), (178, .bool b)]) (fun _ => [⟨b10, [.int .i64 kind, .int .i64 who, .int .i64 idx, .slice Ad data.length cd], 102⟩] :: [⟨b5, two k (.pointer (some ⟨pK, 0, none⟩)) (.pointer (some ⟨pJ, 0, none⟩)), 80⟩] :: [⟨b6, two k (.pointer (some ⟨qK, 0, none⟩)) (.pointer (some ⟨qJ, 0, none⟩)), 104⟩] :: [⟨b7, two k (.slice AwK bssK.length cwK) (.slice AwJ bssJ.length cwJ), 108⟩] :: EwK :: EwJ :: EnL pK eK ovK ivK atK EoK EiK (EnL pJ eJ ovJ ivJ atJ EoJ EiJ ([⟨qK, wnRow eK, 204⟩] :: [⟨qJ, wnRow eJ, 204⟩] :: L))) ?_ ?_
                  · intro bk hbk
                    refine SC.cond rfl (fun c178 => ?_) (fun c178 => ?_)
                    · refine SC.seq ?_
                      refine SC.seq ?_
                      refine SC.plain ?_
                      refine St.move rfl rfl ?_
                      refine St.indexArr (n := 2) (sz := 1) rfl rfl rfl (by kernel_rfl) (by omega) ?_
                      refine St.load rfl rfl (by kernel_rfl) (Holds.row mem3 (two_get hk _ _)) ?_
                      refine St.lenSl rfl rfl (by kernel_rfl) ?_
                      refine St.eql rfl rfl rfl ?_
                      refine St.done ?_
                      refine SX.seq ?_
                      refine SC.condp rfl (fun c186 => ?_) (fun c186 => ?_)
                      · refine SC.exit ?_
                        refine SX.seq_exit ?_
                        refine SX.miss rfl ?_
                        refine SX.seq_exit ?_
                        refine SX.hit ?_
                        refine SX.seq ?_
                        refine SC.plain ?_
                        refine St.move rfl rfl ?_
                        first | refine St.addN (b := 1) rfl rfl rfl (by omega) ?_ | refine St.addI rfl rfl rfl (by omega) ?_
                        refine St.assign rfl rfl ?_
                        refine St.done ?_
                        refine SX.weak ([⟨b5, two k (.pointer (some ⟨pK, 0, none⟩)) (.pointer (some ⟨pJ, 0, none⟩)), 80⟩] :: [⟨b6, two k (.pointer (some ⟨qK, 0, none⟩)) (.pointer (some ⟨qJ, 0, none⟩)), 104⟩] :: [⟨b7, two k (.slice AwK bssK.length cwK) (.slice AwJ bssJ.length cwJ), 108⟩] :: EwK :: EwJ :: EnL pK eK ovK ivK atK EoK EiK (EnL pJ eJ ovJ ivJ atJ EoJ EiJ ([⟨qK, wnRow eK, 204⟩] :: [⟨qJ, wnRow eJ, 204⟩] :: L))) (.cons _ (List.Sublist.refl _)) ?_
                        refine SX.again (i + 1, now, sel k (Pd.mk pK qK eK ovK ivK atK EoK EiK (.slice AwK bssK.length cwK) bssK EwK) (Pd.mk pJ qJ eJ ovJ ivJ atJ EoJ EiJ (.slice AwJ bssJ.length cwJ) bssJ EwJ), sel k (Pd.mk pJ qJ eJ ovJ ivJ atJ EoJ EiJ (.slice AwJ bssJ.length cwJ) bssJ EwJ) (Pd.mk pK qK eK ovK ivK atK EoK EiK (.slice AwK bssK.length cwK) bssK EwK)) ⟨by simp only; omega, by simp only; omega, by simp only; omega, by simp only; omega, Pd.Ok.sel (K := Pd.mk pK qK eK ovK ivK atK EoK EiK (.slice AwK bssK.length cwK) bssK EwK) (J := Pd.mk pJ qJ eJ ovJ ivJ atJ EoJ EiJ (.slice AwJ bssJ.length cwJ) bssJ EwJ) ⟨heK, hwK, hdK, by simp only; omega⟩ ⟨heJ, hwJ, hdJ, by simp only; omega⟩ k, Pd.Ok.sel (K := Pd.mk pJ qJ eJ ovJ ivJ atJ EoJ EiJ (.slice AwJ bssJ.length cwJ) bssJ EwJ) (J := Pd.mk pK qK eK ovK ivK atK EoK EiK (.slice AwK bssK.length cwK) bssK EwK) ⟨heJ, hwJ, hdJ, by simp only; omega⟩ ⟨heK, hwK, hdK, by simp only; omega⟩ k⟩ (by simp only; omega) ⟨rfl, rfl, rfl, rfl, rfl, rfl, trivial⟩ ?_
                        exact playL_sel hk (Pd.mk pK qK eK ovK ivK atK EoK EiK (.slice AwK bssK.length cwK) bssK EwK) (Pd.mk pJ qJ eJ ovJ ivJ atJ EoJ EiJ (.slice AwJ bssJ.length cwJ) bssJ EwJ) L
                      · have hnl := hn (by omega)
                        obtain ⟨s0, hs00⟩ : ∃ s0, bssK[n]? = some s0 := ⟨_, List.getElem?_eq_getElem hnl⟩
                        have hsm : s0 ∈ bssK := List.mem_of_getElem? hs00
                        have hs0 := hdK s0 hsm
                        have hst0 : (strs bssK)[n]? = some (.string (text s0)) := by unfold strs; rw [List.getElem?_map, hs00]; rfl
                        have hAwe := hAwK (by omega)
                        subst hAwe
                        refine SC.skip ?_
                        refine SX.seq ?_
                        refine SC.seq ?_
                        refine SC.plain ?_
                        refine St.move rfl rfl ?_
                        refine St.indexArr (n := 2) (sz := 1) rfl rfl rfl (by kernel_rfl) (by omega) ?_
                        refine St.load rfl rfl (by kernel_rfl) (Holds.row mem3 (two_get hk _ _)) ?_
                        refine St.move rfl rfl ?_
                        refine St.indexSl (e := 9) (sz := 1) rfl rfl rfl (by kernel_rfl) (by omega) ?_
                        refine St.load rfl rfl (by kernel_rfl) (fun w hw => by have := hhwK w0 [EwK] (by simp) w (hw.sub (sub_flat (.cons _ (.cons _ (.cons _ (.cons _ (.cons_cons _ (List.nil_sublist _)))))))) n _ hst0; simpa using this) ?_
                        refine St.assign rfl rfl ?_
                        refine St.done ?_
                        refine SX.seq ?_
                        refine SC.join (α := En × Value × Value × Int × Chunk × Chunk) (fun s => EnB s.1 s.2.1 s.2.2.1 s.2.2.2.1 s.2.2.2.2.1 s.2.2.2.2.2) (fun s => [(1, .slice (some ⟨bs, os, none⟩) ops.length cs), (5, .slice (some ⟨b5, 0, none⟩) 2 2), (6, .slice (some ⟨b6, 0, none⟩) 2 2), (7, .pointer (some ⟨b7, 0, none⟩)), (8, .int .i64 now), (9, .int .i64 ((i : Nat) : Int)), (10, .pointer (some ⟨b10, 0, none⟩)), (11, .int .i64 ((k : Nat) : Int)), (12, .bool true), (13, .int .i64 ((n : Nat) : Int)), (17, .string (text s0))]) (fun s => [⟨b10, [.int .i64 kind, .int .i64 who, .int .i64 idx, .slice Ad data.length cd], 102⟩] :: [⟨b5, two k (.pointer (some ⟨pK, 0, none⟩)) (.pointer (some ⟨pJ, 0, none⟩)), 80⟩] :: [⟨b6, two k (.pointer (some ⟨qK, 0, none⟩)) (.pointer (some ⟨qJ, 0, none⟩)), 104⟩] :: [⟨b7, two k (.slice (some ⟨bwK, owK, none⟩) bssK.length cwK) (.slice AwJ bssJ.length cwJ), 108⟩] :: EwK :: EwJ :: EnL pK s.1 s.2.1 s.2.2.1 s.2.2.2.1 s.2.2.2.2.1 s.2.2.2.2.2 (EnL pJ eJ ovJ ivJ atJ EoJ EiJ ([⟨qK, wnRow s.1, 204⟩] :: [⟨qJ, wnRow eJ, 204⟩] :: L))) ?_ ?_
                        · rintro ⟨e4, ov4, iv4, at4, Eo4, Ei4⟩ hB4
                          simp only at hB4 ⊢
                          refine SC.seq ?_
                          refine SC.plain ?_
                          refine St.fieldAddr (off := 0) rfl rfl (by kernel_rfl) ?_
                          refine St.load rfl rfl (by kernel_rfl) (by first | exact Holds.row mem0 rfl | exact Holds.row mem1 rfl | exact Holds.row mem2 rfl | exact Holds.row mem3 rfl | exact Holds.row mem4 rfl | exact Holds.row mem5 rfl | exact Holds.row mem6 rfl | exact Holds.row mem7 rfl | exact Holds.row mem8 rfl) ?_
                          refine St.eql rfl rfl rfl ?_
                          refine St.done ?_
                          refine SX.seq ?_
                          refine SC.condp rfl (fun c213 => ?_) (fun c213 => ?_)
                          · refine SC.plain ?_
                            refine St.move rfl rfl ?_
                            refine St.move rfl rfl ?_
                            refine St.indexArr (n := 2) (sz := 1) rfl rfl rfl (by kernel_rfl) (by omega) ?_
                            refine St.load rfl rfl (by kernel_rfl) (Holds.row mem3 (two_get hk _ _)) ?_
                            refine St.move rfl rfl ?_
                            refine St.buildSl (e := 9) [(0, .string (text s0))] [.string (text s0)] rfl rfl (by kernel_rfl) (fun _ _ h => h.nil) (fun bn => ?_)
                            refine St.perm (EwK :: [⟨bn, [.string (text s0)], 9⟩] :: [⟨b10, [.int .i64 kind, .int .i64 who, .int .i64 idx, .slice Ad data.length cd], 102⟩] :: [⟨b5, two k (.pointer (some ⟨pK, 0, none⟩)) (.pointer (some ⟨pJ, 0, none⟩)), 80⟩] :: [⟨b6, two k (.pointer (some ⟨qK, 0, none⟩)) (.pointer (some ⟨qJ, 0, none⟩)), 104⟩] :: [⟨b7, two k (.slice (some ⟨bwK, owK, none⟩) bssK.length cwK) (.slice AwJ bssJ.length cwJ), 108⟩] :: EwJ :: EnL pK e4 ov4 iv4 at4 Eo4 Ei4 (EnL pJ eJ ovJ ivJ atJ EoJ EiJ ([⟨qK, wnRow e4, 204⟩] :: [⟨qJ, wnRow eJ, 204⟩] :: L))) (perm_idx [[[⟨bn, [.string (text s0)], 9⟩]], [[⟨b10, [.int .i64 kind, .int .i64 who, .int .i64 idx, .slice Ad data.length cd], 102⟩]], [[⟨b5, two k (.pointer (some ⟨pK, 0, none⟩)) (.pointer (some ⟨pJ, 0, none⟩)), 80⟩]], [[⟨b6, two k (.pointer (some ⟨qK, 0, none⟩)) (.pointer (some ⟨qJ, 0, none⟩)), 104⟩]], [[⟨b7, two k (.slice (some ⟨bwK, owK, none⟩) bssK.length cwK) (.slice AwJ bssJ.length cwJ), 108⟩]], [EwK], [EwJ], EnL pK e4 ov4 iv4 at4 Eo4 Ei4 [], EnL pJ eJ ovJ ivJ atJ EoJ EiJ [], [[⟨qK, wnRow e4, 204⟩]], [[⟨qJ, wnRow eJ, 204⟩]]] (L) [5, 0, 1, 2, 3, 4, 6, 7, 8, 9, 10] (by kernel_rfl)) ?_
                            refine St.append (e := 9) (sz := 1) (bytes := 16) (xs := strs bssK) (n := bssK.length) (news := strs [s0]) (m := 1) rfl rfl rfl (by kernel_rfl) hwK (Rd.row (e := 9) rfl mem1) (strs_one _) (by omega) (by omega) (fun _ _ h => h.nil) (fun wv2 Ew2 hw2 _ => ?_)
                            rw [← strs_app] at hw2
                            have hl2 : bssK.length + 1 = (bssK ++ [s0]).length := by simp
                            rw [hl2] at hw2
                            have hq := hw2.read
                            obtain ⟨bw2, ow2, Aw2, cw2, rfl, hAw2, hhw2⟩ := hq
                            refine St.indexArr (n := 2) (sz := 1) rfl rfl rfl (by kernel_rfl) (by omega) ?_
                            refine St.store5 rfl rfl rfl rfl (by kernel_rfl) (by rw [two_len]; omega) (fun _ h => h.nil) ?_
                            rw [two_set hk]
                            refine St.done ?_
                            refine SX.blk ?_
                            refine SX.weak (Ew2 :: [⟨b10, [.int .i64 kind, .int .i64 who, .int .i64 idx, .slice Ad data.length cd], 102⟩] :: [⟨b5, two k (.pointer (some ⟨pK, 0, none⟩)) (.pointer (some ⟨pJ, 0, none⟩)), 80⟩] :: [⟨b6, two k (.pointer (some ⟨qK, 0, none⟩)) (.pointer (some ⟨qJ, 0, none⟩)), 104⟩] :: [⟨b7, two k (.slice Aw2 (bssK ++ [s0]).length cw2) (.slice AwJ bssJ.length cwJ), 108⟩] :: EwJ :: EnL pK e4 ov4 iv4 at4 Eo4 Ei4 (EnL pJ eJ ovJ ivJ atJ EoJ EiJ ([⟨qK, wnRow e4, 204⟩] :: [⟨qJ, wnRow eJ, 204⟩] :: L))) (.cons_cons _ (.cons _ (List.Sublist.refl _))) ?_
                            refine SX.perm ([⟨b10, [.int .i64 kind, .int .i64 who, .int .i64 idx, .slice Ad data.length cd], 102⟩] :: [⟨b5, two k (.pointer (some ⟨pK, 0, none⟩)) (.pointer (some ⟨pJ, 0, none⟩)), 80⟩] :: [⟨b6, two k (.pointer (some ⟨qK, 0, none⟩)) (.pointer (some ⟨qJ, 0, none⟩)), 104⟩] :: [⟨b7, two k (.slice Aw2 (bssK ++ [s0]).length cw2) (.slice AwJ bssJ.length cwJ), 108⟩] :: Ew2 :: EwJ :: EnL pK e4 ov4 iv4 at4 Eo4 Ei4 (EnL pJ eJ ovJ ivJ atJ EoJ EiJ ([⟨qK, wnRow e4, 204⟩] :: [⟨qJ, wnRow eJ, 204⟩] :: L))) (perm_idx [[Ew2], [[⟨b10, [.int .i64 kind, .int .i64 who, .int .i64 idx, .slice Ad data.length cd], 102⟩]], [[⟨b5, two k (.pointer (some ⟨pK, 0, none⟩)) (.pointer (some ⟨pJ, 0, none⟩)), 80⟩]], [[⟨b6, two k (.pointer (some ⟨qK, 0, none⟩)) (.pointer (some ⟨qJ, 0, none⟩)), 104⟩]], [[⟨b7, two k (.slice Aw2 (bssK ++ [s0]).length cw2) (.slice AwJ bssJ.length cwJ), 108⟩]], [EwJ], EnL pK e4 ov4 iv4 at4 Eo4 Ei4 [], EnL pJ eJ ovJ ivJ atJ EoJ EiJ [], [[⟨qK, wnRow e4, 204⟩]], [[⟨qJ, wnRow eJ, 204⟩]]] (L) [1, 2, 3, 4, 0, 5, 6, 7, 8, 9] (by kernel_rfl)) ?_
                            exact SX.some (Pd.mk pK qK e4 ov4 iv4 at4 Eo4 Ei4 (.slice Aw2 (bssK ++ [s0]).length cw2) (bssK ++ [s0]) Ew2, Pd.mk pJ qJ eJ ovJ ivJ atJ EoJ EiJ (.slice AwJ bssJ.length cwJ) bssJ EwJ, now) ⟨{ en := hB4, way := hw2, dg := fun t ht => (List.mem_append.1 ht).elim (hdK t) (fun h => by rcases List.mem_singleton.1 h with rfl; exact hs0), few := by simp only [List.length_append, List.length_singleton]; omega }, ⟨heJ, hwJ, hdJ, by simp only; omega⟩, by simp only; omega, by simp only; omega⟩ ⟨rfl, rfl, rfl, rfl, rfl, rfl, rfl, rfl, trivial⟩ (List.Perm.refl _)
                          · refine SC.drawn [(0, true), (2, true), (3, true), (4, true), (5, true), (6, true), (8, true), (9, true), (10, true), (11, true), (12, true), (13, true), (1, false), (7, false)] [14, 15, 16] ([[⟨b7, two k (.slice (some ⟨bwK, owK, none⟩) bssK.length cwK) (.slice AwJ bssJ.length cwJ), 108⟩]]) (by kernel_rfl) (by kernel_rfl) (fun w hw => hw.sub (sub_flat (.cons _ (.cons _ (.cons _ (.cons_cons _ (List.nil_sublist _))))))) ?_
                            refine St.move rfl rfl ?_
                            refine St.move rfl rfl ?_
                            refine St.indexArr (n := 2) (sz := 1) rfl rfl rfl (by kernel_rfl) (by omega) ?_
                            refine St.load rfl rfl (by kernel_rfl) (Holds.row mem0 (two_get hk _ _)) ?_
                            refine St.move rfl rfl ?_
                            refine St.cutV (e := 9) (L1 := [EwK]) (xs := strs bssK) 0 n rfl rfl (by kernel_rfl) (by rw [strs_len]; exact hwK.rd (by simp)) hwK.cap rfl ⟨_, _, rfl, rfl⟩ (by omega) (by rw [strs_len]; omega) (fun cv1 hc1 _ => ?_)
                            rw [List.drop_zero, Nat.sub_zero] at hc1
                            refine St.move rfl rfl ?_
                            refine St.indexArr (n := 2) (sz := 1) rfl rfl rfl (by kernel_rfl) (by omega) ?_
                            refine St.load rfl rfl (by kernel_rfl) (Holds.row mem0 (two_get hk _ _)) ?_
                            refine St.move rfl rfl ?_
                            first | refine St.addN (b := 1) rfl rfl rfl (by omega) ?_ | refine St.addI rfl rfl rfl (by omega) ?_
                            refine St.cutV (e := 9) (L1 := [EwK]) (xs := strs bssK) (n + 1) (strs bssK).length rfl rfl (by kernel_rfl) (by rw [strs_len]; exact hwK.rd (by simp)) hwK.cap ⟨_, _, rfl, rfl⟩ (by show (strs bssK).length = (strs bssK).length; rfl) (by rw [strs_len]; omega) (Nat.le_refl _) (fun cv2 hc2 _ => ?_)
                            rw [List.take_of_length_le (by rw [List.length_drop]; omega)] at hc2
                            refine St.buildSl0 (e := 9) (sz := 1) rfl (by kernel_rfl) (by intro bz w hw; exact hw.sub (sub_flat (.cons _ (.cons _ (.cons _ (.cons _ (.cons_cons _ (List.nil_sublist _)))))))) (fun bz => ?_)
                            refine St.append (e := 9) (sz := 1) (bytes := 16) (xs := []) (n := 0) (news := (strs bssK).take n) (m := ((strs bssK).take n).length) rfl rfl rfl (by kernel_rfl) (Buf.whole rfl) (Rd.mono hc1 (fun w hw => hw.sub (sub_flat (.cons _ (.cons _ (.cons _ (.cons _ (.cons _ (.cons_cons _ (List.nil_sublist _)))))))))) (fun c hc => strs_one bssK c (List.mem_of_mem_take hc)) (by rw [List.length_take, strs_len]; omega) (by rw [List.length_take, strs_len]; omega) (by intro Ez1 w hw; exact hw.sub (sub_flat (.cons _ (.cons _ (.cons _ (.cons _ (.cons_cons _ (List.nil_sublist _)))))))) (fun zv1 Ez1 hz1 _ => ?_)
                            rw [List.nil_append, Nat.zero_add] at hz1
                            refine St.done ?_
                            refine SX.tail ?_
                            refine St.append (e := 9) (sz := 1) (bytes := 16) (xs := (strs bssK).take n) (n := ((strs bssK).take n).length) (news := (strs bssK).drop (n + 1)) (m := ((strs bssK).drop (n + 1)).length) rfl rfl rfl (by kernel_rfl) hz1 (Rd.mono hc2 (fun w hw => hw.sub (sub_flat (.cons _ (.cons _ (.cons _ (.cons _ (.cons _ (.cons_cons _ (List.nil_sublist _)))))))))) (fun c hc => strs_one bssK c (List.mem_of_mem_drop hc)) (by rw [List.length_take, List.length_drop, strs_len]; omega) (by rw [List.length_take, List.length_drop, strs_len]; omega) (fun _ _ h => h.nil) (fun wv2 Ew2 hw2 _ => ?_)
                            have hsx : (strs bssK).take n ++ (strs bssK).drop (n + 1) = strs (bssK.take n ++ bssK.drop (n + 1)) := by rw [strs_app]; unfold strs; rw [List.map_take, List.map_drop]
                            have hl2 : ((strs bssK).take n).length + ((strs bssK).drop (n + 1)).length = (bssK.take n ++ bssK.drop (n + 1)).length := by rw [List.length_append, List.length_take, List.length_take, List.length_drop, List.length_drop, strs_len]
                            rw [hl2, hsx] at hw2
                            have hq := hw2.read
                            obtain ⟨bw2, ow2, Aw2, cw2, rfl, hAw2, hhw2⟩ := hq
                            refine St.indexArr (n := 2) (sz := 1) rfl rfl rfl (by kernel_rfl) (by omega) ?_
                            refine St.store4 rfl rfl rfl rfl (by kernel_rfl) (by rw [two_len]; omega) (fun _ h => h.nil) ?_
                            rw [two_set hk]
                            refine St.done ?_
                            refine SX.blk ?_
                            refine SX.weak (Ew2 :: [⟨b10, [.int .i64 kind, .int .i64 who, .int .i64 idx, .slice Ad data.length cd], 102⟩] :: [⟨b5, two k (.pointer (some ⟨pK, 0, none⟩)) (.pointer (some ⟨pJ, 0, none⟩)), 80⟩] :: [⟨b6, two k (.pointer (some ⟨qK, 0, none⟩)) (.pointer (some ⟨qJ, 0, none⟩)), 104⟩] :: [⟨b7, two k (.slice Aw2 (bssK.take n ++ bssK.drop (n + 1)).length cw2) (.slice AwJ bssJ.length cwJ), 108⟩] :: EwJ :: EnL pK e4 ov4 iv4 at4 Eo4 Ei4 (EnL pJ eJ ovJ ivJ atJ EoJ EiJ ([⟨qK, wnRow e4, 204⟩] :: [⟨qJ, wnRow eJ, 204⟩] :: L))) (.cons_cons _ (.cons_cons _ (.cons_cons _ (.cons_cons _ (.cons_cons _ (.cons _ (List.Sublist.refl _))))))) ?_
                            refine SX.perm ([⟨b10, [.int .i64 kind, .int .i64 who, .int .i64 idx, .slice Ad data.length cd], 102⟩] :: [⟨b5, two k (.pointer (some ⟨pK, 0, none⟩)) (.pointer (some ⟨pJ, 0, none⟩)), 80⟩] :: [⟨b6, two k (.pointer (some ⟨qK, 0, none⟩)) (.pointer (some ⟨qJ, 0, none⟩)), 104⟩] :: [⟨b7, two k (.slice Aw2 (bssK.take n ++ bssK.drop (n + 1)).length cw2) (.slice AwJ bssJ.length cwJ), 108⟩] :: Ew2 :: EwJ :: EnL pK e4 ov4 iv4 at4 Eo4 Ei4 (EnL pJ eJ ovJ ivJ atJ EoJ EiJ ([⟨qK, wnRow e4, 204⟩] :: [⟨qJ, wnRow eJ, 204⟩] :: L))) (perm_idx [[Ew2], [[⟨b10, [.int .i64 kind, .int .i64 who, .int .i64 idx, .slice Ad data.length cd], 102⟩]], [[⟨b5, two k (.pointer (some ⟨pK, 0, none⟩)) (.pointer (some ⟨pJ, 0, none⟩)), 80⟩]], [[⟨b6, two k (.pointer (some ⟨qK, 0, none⟩)) (.pointer (some ⟨qJ, 0, none⟩)), 104⟩]], [[⟨b7, two k (.slice Aw2 (bssK.take n ++ bssK.drop (n + 1)).length cw2) (.slice AwJ bssJ.length cwJ), 108⟩]], [EwJ], EnL pK e4 ov4 iv4 at4 Eo4 Ei4 [], EnL pJ eJ ovJ ivJ atJ EoJ EiJ [], [[⟨qK, wnRow e4, 204⟩]], [[⟨qJ, wnRow eJ, 204⟩]]] (L) [1, 2, 3, 4, 0, 5, 6, 7, 8, 9] (by kernel_rfl)) ?_
                            exact SX.some (Pd.mk pK qK e4 ov4 iv4 at4 Eo4 Ei4 (.slice Aw2 (bssK.take n ++ bssK.drop (n + 1)).length cw2) (bssK.take n ++ bssK.drop (n + 1)) Ew2, Pd.mk pJ qJ eJ ovJ ivJ atJ EoJ EiJ (.slice AwJ bssJ.length cwJ) bssJ EwJ, now) ⟨{ en := hB4, way := hw2, dg := fun t ht => (List.mem_append.1 ht).elim (fun h => hdK t (List.mem_of_mem_take h)) (fun h => hdK t (List.mem_of_mem_drop h)), few := by simp only [List.length_append, List.length_take, List.length_drop]; omega }, ⟨heJ, hwJ, hdJ, by simp only; omega⟩, by simp only; omega, by simp only; omega⟩ ⟨rfl, rfl, rfl, rfl, rfl, rfl, rfl, rfl, trivial⟩ (List.Perm.refl _)
                        · refine SC.seq ?_
                          refine SC.plain ?_
                          refine St.fieldAddr (off := 0) rfl rfl (by kernel_rfl) ?_
                          refine St.load rfl rfl (by kernel_rfl) (by first | exact Holds.row mem0 rfl | exact Holds.row mem1 rfl | exact Holds.row mem2 rfl | exact Holds.row mem3 rfl | exact Holds.row mem4 rfl | exact Holds.row mem5 rfl | exact Holds.row mem6 rfl | exact Holds.row mem7 rfl | exact Holds.row mem8 rfl) ?_
                          refine St.eql rfl rfl rfl ?_
                          refine St.done ?_
                          refine SX.seq ?_
                          refine SC.condp rfl (fun c195 => ?_) (fun c195 => ?_)
                          · refine SC.seq ?_
                            refine SC.plain ?_
                            refine St.move rfl rfl ?_
                            refine St.move rfl rfl ?_
                            refine St.indexSl (e := 80) (sz := 1) rfl rfl rfl (by kernel_rfl) (by omega) ?_
                            refine St.load rfl rfl (by kernel_rfl) (Holds.row mem1 (two_get hk _ _)) ?_
                            refine St.move rfl rfl ?_
                            refine St.toBytes (e := 5) rfl rfl (by kernel_rfl) (by kernel_rfl) (by kernel_rfl) (fun _ _ h => h.nil) (fun vb Eb hbb _ => ?_)
                            rw [u8s_text s0 hs0.2, text_size] at hbb
                            have hbb : Buf 5 1 vb (bytes s0) s0.length Eb := hbb
                            refine St.move rfl rfl ?_
                            refine St.perm (EnL pK eK ovK ivK atK EoK EiK (Eb :: [⟨b10, [.int .i64 kind, .int .i64 who, .int .i64 idx, .slice Ad data.length cd], 102⟩] :: [⟨b5, two k (.pointer (some ⟨pK, 0, none⟩)) (.pointer (some ⟨pJ, 0, none⟩)), 80⟩] :: [⟨b6, two k (.pointer (some ⟨qK, 0, none⟩)) (.pointer (some ⟨qJ, 0, none⟩)), 104⟩] :: [⟨b7, two k (.slice (some ⟨bwK, owK, none⟩) bssK.length cwK) (.slice AwJ bssJ.length cwJ), 108⟩] :: EwK :: EwJ :: EnL pJ eJ ovJ ivJ atJ EoJ EiJ ([⟨qK, wnRow eK, 204⟩] :: [⟨qJ, wnRow eJ, 204⟩] :: L))) (perm_idx [[Eb], [[⟨b10, [.int .i64 kind, .int .i64 who, .int .i64 idx, .slice Ad data.length cd], 102⟩]], [[⟨b5, two k (.pointer (some ⟨pK, 0, none⟩)) (.pointer (some ⟨pJ, 0, none⟩)), 80⟩]], [[⟨b6, two k (.pointer (some ⟨qK, 0, none⟩)) (.pointer (some ⟨qJ, 0, none⟩)), 104⟩]], [[⟨b7, two k (.slice (some ⟨bwK, owK, none⟩) bssK.length cwK) (.slice AwJ bssJ.length cwJ), 108⟩]], [EwK], [EwJ], EnL pK eK ovK ivK atK EoK EiK [], EnL pJ eJ ovJ ivJ atJ EoJ EiJ [], [[⟨qK, wnRow eK, 204⟩]], [[⟨qJ, wnRow eJ, 204⟩]]] (L) [7, 0, 1, 2, 3, 4, 5, 6, 8, 9, 10] (by kernel_rfl)) ?_
                            refine St.call [_, _, _] rfl (by kernel_rfl) rfl (in18_spec w0 _ pK _ _ _ _ _ _ heK vb s0 (hbb.rd (by simp [EnL])) hbb.cap (by omega) hs0.2 now hcl) (fun _ _ _ _ h => h.nil) ?_
                            rintro r41 L1 ⟨ov2, iv2, at2, Eo2, Ei2, hB2, rfl⟩
                            refine St.perm (Eb :: [⟨b10, [.int .i64 kind, .int .i64 who, .int .i64 idx, .slice Ad data.length cd], 102⟩] :: [⟨b5, two k (.pointer (some ⟨pK, 0, none⟩)) (.pointer (some ⟨pJ, 0, none⟩)), 80⟩] :: [⟨b6, two k (.pointer (some ⟨qK, 0, none⟩)) (.pointer (some ⟨qJ, 0, none⟩)), 104⟩] :: [⟨b7, two k (.slice (some ⟨bwK, owK, none⟩) bssK.length cwK) (.slice AwJ bssJ.length cwJ), 108⟩] :: EwK :: EwJ :: EnL pK (eK.inp s0 now) ov2 iv2 at2 Eo2 Ei2 (EnL pJ eJ ovJ ivJ atJ EoJ EiJ ([⟨qK, wnRow eK, 204⟩] :: [⟨qJ, wnRow eJ, 204⟩] :: L))) (perm_idx [EnL pK (eK.inp s0 now) ov2 iv2 at2 Eo2 Ei2 [], [Eb], [[⟨b10, [.int .i64 kind, .int .i64 who, .int .i64 idx, .slice Ad data.length cd], 102⟩]], [[⟨b5, two k (.pointer (some ⟨pK, 0, none⟩)) (.pointer (some ⟨pJ, 0, none⟩)), 80⟩]], [[⟨b6, two k (.pointer (some ⟨qK, 0, none⟩)) (.pointer (some ⟨qJ, 0, none⟩)), 104⟩]], [[⟨b7, two k (.slice (some ⟨bwK, owK, none⟩) bssK.length cwK) (.slice AwJ bssJ.length cwJ), 108⟩]], [EwK], [EwJ], EnL pJ eJ ovJ ivJ atJ EoJ EiJ [], [[⟨qK, wnRow eK, 204⟩]], [[⟨qJ, wnRow eJ, 204⟩]]] (L) [1, 2, 3, 4, 5, 6, 7, 0, 8, 9, 10] (by kernel_rfl)) ?_
                            refine St.weak ([⟨b10, [.int .i64 kind, .int .i64 who, .int .i64 idx, .slice Ad data.length cd], 102⟩] :: [⟨b5, two k (.pointer (some ⟨pK, 0, none⟩)) (.pointer (some ⟨pJ, 0, none⟩)), 80⟩] :: [⟨b6, two k (.pointer (some ⟨qK, 0, none⟩)) (.pointer (some ⟨qJ, 0, none⟩)), 104⟩] :: [⟨b7, two k (.slice (some ⟨bwK, owK, none⟩) bssK.length cwK) (.slice AwJ bssJ.length cwJ), 108⟩] :: EwK :: EwJ :: EnL pK (eK.inp s0 now) ov2 iv2 at2 Eo2 Ei2 (EnL pJ eJ ovJ ivJ atJ EoJ EiJ ([⟨qK, wnRow eK, 204⟩] :: [⟨qJ, wnRow eJ, 204⟩] :: L))) (.cons _ (List.Sublist.refl _)) ?_
                            refine St.done ?_
                            refine SX.seq ?_
                            refine SC.plain ?_
                            refine St.move rfl rfl ?_
                            refine St.move rfl rfl ?_
                            refine St.indexSl (e := 104) (sz := 1) rfl rfl rfl (by kernel_rfl) (by omega) ?_
                            refine St.load rfl rfl (by kernel_rfl) (Holds.row mem2 (two_get hk _ _)) ?_
                            refine St.move rfl rfl ?_
                            refine St.move rfl rfl ?_
                            refine St.perm ([⟨qK, wnRow eK, 204⟩] :: [⟨b10, [.int .i64 kind, .int .i64 who, .int .i64 idx, .slice Ad data.length cd], 102⟩] :: [⟨b5, two k (.pointer (some ⟨pK, 0, none⟩)) (.pointer (some ⟨pJ, 0, none⟩)), 80⟩] :: [⟨b6, two k (.pointer (some ⟨qK, 0, none⟩)) (.pointer (some ⟨qJ, 0, none⟩)), 104⟩] :: [⟨b7, two k (.slice (some ⟨bwK, owK, none⟩) bssK.length cwK) (.slice AwJ bssJ.length cwJ), 108⟩] :: EwK :: EwJ :: EnL pK (eK.inp s0 now) ov2 iv2 at2 Eo2 Ei2 (EnL pJ eJ ovJ ivJ atJ EoJ EiJ ([⟨qJ, wnRow eJ, 204⟩] :: L))) (perm_idx [[[⟨b10, [.int .i64 kind, .int .i64 who, .int .i64 idx, .slice Ad data.length cd], 102⟩]], [[⟨b5, two k (.pointer (some ⟨pK, 0, none⟩)) (.pointer (some ⟨pJ, 0, none⟩)), 80⟩]], [[⟨b6, two k (.pointer (some ⟨qK, 0, none⟩)) (.pointer (some ⟨qJ, 0, none⟩)), 104⟩]], [[⟨b7, two k (.slice (some ⟨bwK, owK, none⟩) bssK.length cwK) (.slice AwJ bssJ.length cwJ), 108⟩]], [EwK], [EwJ], EnL pK (eK.inp s0 now) ov2 iv2 at2 Eo2 Ei2 [], EnL pJ eJ ovJ ivJ atJ EoJ EiJ [], [[⟨qK, wnRow eK, 204⟩]], [[⟨qJ, wnRow eJ, 204⟩]]] (L) [8, 0, 1, 2, 3, 4, 5, 6, 7, 9] (by kernel_rfl)) ?_
                            refine St.call [_, _, _] rfl (by kernel_rfl) rfl (win_spec w0 _ qK eK hokK (text s0) s0 (u8s_text s0 hs0.2) (by rw [text_size]; omega) now hcl) (fun _ _ _ _ h => h.nil) ?_
                            rintro r42 L1 rfl
                            unfold WnL
                            refine St.perm ([⟨b10, [.int .i64 kind, .int .i64 who, .int .i64 idx, .slice Ad data.length cd], 102⟩] :: [⟨b5, two k (.pointer (some ⟨pK, 0, none⟩)) (.pointer (some ⟨pJ, 0, none⟩)), 80⟩] :: [⟨b6, two k (.pointer (some ⟨qK, 0, none⟩)) (.pointer (some ⟨qJ, 0, none⟩)), 104⟩] :: [⟨b7, two k (.slice (some ⟨bwK, owK, none⟩) bssK.length cwK) (.slice AwJ bssJ.length cwJ), 108⟩] :: EwK :: EwJ :: EnL pK (eK.inp s0 now) ov2 iv2 at2 Eo2 Ei2 (EnL pJ eJ ovJ ivJ atJ EoJ EiJ ([⟨qK, wnRow (eK.inp s0 now), 204⟩] :: [⟨qJ, wnRow eJ, 204⟩] :: L))) (perm_idx [[[⟨qK, wnRow (eK.inp s0 now), 204⟩]], [[⟨b10, [.int .i64 kind, .int .i64 who, .int .i64 idx, .slice Ad data.length cd], 102⟩]], [[⟨b5, two k (.pointer (some ⟨pK, 0, none⟩)) (.pointer (some ⟨pJ, 0, none⟩)), 80⟩]], [[⟨b6, two k (.pointer (some ⟨qK, 0, none⟩)) (.pointer (some ⟨qJ, 0, none⟩)), 104⟩]], [[⟨b7, two k (.slice (some ⟨bwK, owK, none⟩) bssK.length cwK) (.slice AwJ bssJ.length cwJ), 108⟩]], [EwK], [EwJ], EnL pK (eK.inp s0 now) ov2 iv2 at2 Eo2 Ei2 [], EnL pJ eJ ovJ ivJ atJ EoJ EiJ [], [[⟨qJ, wnRow eJ, 204⟩]]] (L) [1, 2, 3, 4, 5, 6, 7, 8, 0, 9] (by kernel_rfl)) ?_
                            refine St.done ?_
                            exact SX.some (eK.inp s0 now, ov2, iv2, at2, Eo2, Ei2) hB2 ⟨rfl, rfl, rfl, rfl, rfl, rfl, rfl, rfl, rfl, rfl, rfl, trivial⟩ (List.Perm.refl _)
                          · refine SC.skip ?_
                            exact SX.some (eK, ovK, ivK, atK, EoK, EiK) heK ⟨rfl, rfl, rfl, rfl, rfl, rfl, rfl, rfl, rfl, rfl, rfl, trivial⟩ (List.Perm.refl _)
                    · refine SC.seq ?_
                      refine SC.plain ?_
                      refine St.eql rfl rfl rfl ?_
                      refine St.assign rfl rfl ?_
                      refine St.done ?_
                      refine SX.seq ?_
                      refine SC.condp rfl (fun c238 => ?_) (fun c238 => ?_)
                      · refine SC.seq ?_
                        refine SC.drawn [(0, true), (1, true), (2, true), (3, true), (4, true), (5, true), (6, true)] [7] (_) (by kernel_rfl) (by kernel_rfl) (fun _ h => h) ?_
                        refine St.move rfl rfl ?_
                        refine St.move rfl rfl ?_
                        refine St.indexSl (e := 80) (sz := 1) rfl rfl rfl (by kernel_rfl) (by omega) ?_
                        refine St.load rfl rfl (by kernel_rfl) (Holds.row mem1 (two_get hk _ _)) ?_
                        refine St.fieldAddr (off := 3) rfl rfl (by kernel_rfl) ?_
                        refine St.load rfl rfl (by kernel_rfl) (by first | exact Holds.row mem0 rfl | exact Holds.row mem1 rfl | exact Holds.row mem2 rfl | exact Holds.row mem3 rfl | exact Holds.row mem4 rfl | exact Holds.row mem5 rfl | exact Holds.row mem6 rfl | exact Holds.row mem7 rfl | exact Holds.row mem8 rfl) ?_
                        refine St.move rfl rfl ?_
                        refine St.done ?_
                        refine SX.tail ?_
                        refine St.perm (EnL pK eK ovK ivK atK EoK EiK ([⟨b10, [.int .i64 kind, .int .i64 who, .int .i64 idx, .slice Ad data.length cd], 102⟩] :: [⟨b5, two k (.pointer (some ⟨pK, 0, none⟩)) (.pointer (some ⟨pJ, 0, none⟩)), 80⟩] :: [⟨b6, two k (.pointer (some ⟨qK, 0, none⟩)) (.pointer (some ⟨qJ, 0, none⟩)), 104⟩] :: [⟨b7, two k (.slice AwK bssK.length cwK) (.slice AwJ bssJ.length cwJ), 108⟩] :: EwK :: EwJ :: EnL pJ eJ ovJ ivJ atJ EoJ EiJ ([⟨qK, wnRow eK, 204⟩] :: [⟨qJ, wnRow eJ, 204⟩] :: L))) (perm_idx [[[⟨b10, [.int .i64 kind, .int .i64 who, .int .i64 idx, .slice Ad data.length cd], 102⟩]], [[⟨b5, two k (.pointer (some ⟨pK, 0, none⟩)) (.pointer (some ⟨pJ, 0, none⟩)), 80⟩]], [[⟨b6, two k (.pointer (some ⟨qK, 0, none⟩)) (.pointer (some ⟨qJ, 0, none⟩)), 104⟩]], [[⟨b7, two k (.slice AwK bssK.length cwK) (.slice AwJ bssJ.length cwJ), 108⟩]], [EwK], [EwJ], EnL pK eK ovK ivK atK EoK EiK [], EnL pJ eJ ovJ ivJ atJ EoJ EiJ [], [[⟨qK, wnRow eK, 204⟩]], [[⟨qJ, wnRow eJ, 204⟩]]] (L) [6, 0, 1, 2, 3, 4, 5, 7, 8, 9] (by kernel_rfl)) ?_
                        refine St.call [_, _, _] rfl (by kernel_rfl) rfl (in18_spec w0 _ pK _ _ _ _ _ _ heK _ data (Rd.mono hS.seg.rd (fun w hw => hw.nil)) hS.seg.cap hdl hS.seg.lt now hcl) (fun _ _ _ _ h => h.nil) ?_
                        rintro r47 L1 ⟨ov2, iv2, at2, Eo2, Ei2, hB2, rfl⟩
                        refine St.perm ([⟨b10, [.int .i64 kind, .int .i64 who, .int .i64 idx, .slice Ad data.length cd], 102⟩] :: [⟨b5, two k (.pointer (some ⟨pK, 0, none⟩)) (.pointer (some ⟨pJ, 0, none⟩)), 80⟩] :: [⟨b6, two k (.pointer (some ⟨qK, 0, none⟩)) (.pointer (some ⟨qJ, 0, none⟩)), 104⟩] :: [⟨b7, two k (.slice AwK bssK.length cwK) (.slice AwJ bssJ.length cwJ), 108⟩] :: EwK :: EwJ :: EnL pK (eK.inp data now) ov2 iv2 at2 Eo2 Ei2 (EnL pJ eJ ovJ ivJ atJ EoJ EiJ ([⟨qK, wnRow eK, 204⟩] :: [⟨qJ, wnRow eJ, 204⟩] :: L))) (perm_idx [EnL pK (eK.inp data now) ov2 iv2 at2 Eo2 Ei2 [], [[⟨b10, [.int .i64 kind, .int .i64 who, .int .i64 idx, .slice Ad data.length cd], 102⟩]], [[⟨b5, two k (.pointer (some ⟨pK, 0, none⟩)) (.pointer (some ⟨pJ, 0, none⟩)), 80⟩]], [[⟨b6, two k (.pointer (some ⟨qK, 0, none⟩)) (.pointer (some ⟨qJ, 0, none⟩)), 104⟩]], [[⟨b7, two k (.slice AwK bssK.length cwK) (.slice AwJ bssJ.length cwJ), 108⟩]], [EwK], [EwJ], EnL pJ eJ ovJ ivJ atJ EoJ EiJ [], [[⟨qK, wnRow eK, 204⟩]], [[⟨qJ, wnRow eJ, 204⟩]]] (L) [1, 2, 3, 4, 5, 6, 0, 7, 8, 9] (by kernel_rfl)) ?_
                        refine St.done ?_
                        refine SX.seq ?_
                        refine SC.drawn [(0, true), (1, true), (2, true), (3, true), (4, true), (5, true), (6, true), (7, true)] [8] (_) (by kernel_rfl) (by kernel_rfl) (fun _ h => h) ?_
                        refine St.move rfl rfl ?_
                        refine St.move rfl rfl ?_
                        refine St.indexSl (e := 104) (sz := 1) rfl rfl rfl (by kernel_rfl) (by omega) ?_
                        refine St.load rfl rfl (by kernel_rfl) (Holds.row mem2 (two_get hk _ _)) ?_
                        refine St.fieldAddr (off := 3) rfl rfl (by kernel_rfl) ?_
                        refine St.load rfl rfl (by kernel_rfl) (by first | exact Holds.row mem0 rfl | exact Holds.row mem1 rfl | exact Holds.row mem2 rfl | exact Holds.row mem3 rfl | exact Holds.row mem4 rfl | exact Holds.row mem5 rfl | exact Holds.row mem6 rfl | exact Holds.row mem7 rfl | exact Holds.row mem8 rfl) ?_
                        refine St.toStr (e := 5) (bs := data) (n := data.length) rfl rfl (Rd.mono hS.seg.rd (fun w hw => hw.nil)) (by kernel_rfl) (by kernel_rfl) (by kernel_rfl) ?_
                        refine St.move rfl rfl ?_
                        refine St.done ?_
                        refine SX.tail ?_
                        refine St.perm ([⟨qK, wnRow eK, 204⟩] :: [⟨b10, [.int .i64 kind, .int .i64 who, .int .i64 idx, .slice Ad data.length cd], 102⟩] :: [⟨b5, two k (.pointer (some ⟨pK, 0, none⟩)) (.pointer (some ⟨pJ, 0, none⟩)), 80⟩] :: [⟨b6, two k (.pointer (some ⟨qK, 0, none⟩)) (.pointer (some ⟨qJ, 0, none⟩)), 104⟩] :: [⟨b7, two k (.slice AwK bssK.length cwK) (.slice AwJ bssJ.length cwJ), 108⟩] :: EwK :: EwJ :: EnL pK (eK.inp data now) ov2 iv2 at2 Eo2 Ei2 (EnL pJ eJ ovJ ivJ atJ EoJ EiJ ([⟨qJ, wnRow eJ, 204⟩] :: L))) (perm_idx [[[⟨b10, [.int .i64 kind, .int .i64 who, .int .i64 idx, .slice Ad data.length cd], 102⟩]], [[⟨b5, two k (.pointer (some ⟨pK, 0, none⟩)) (.pointer (some ⟨pJ, 0, none⟩)), 80⟩]], [[⟨b6, two k (.pointer (some ⟨qK, 0, none⟩)) (.pointer (some ⟨qJ, 0, none⟩)), 104⟩]], [[⟨b7, two k (.slice AwK bssK.length cwK) (.slice AwJ bssJ.length cwJ), 108⟩]], [EwK], [EwJ], EnL pK (eK.inp data now) ov2 iv2 at2 Eo2 Ei2 [], EnL pJ eJ ovJ ivJ atJ EoJ EiJ [], [[⟨qK, wnRow eK, 204⟩]], [[⟨qJ, wnRow eJ, 204⟩]]] (L) [8, 0, 1, 2, 3, 4, 5, 6, 7, 9] (by kernel_rfl)) ?_
                        refine St.call [_, _, _] rfl (by kernel_rfl) rfl (win_spec w0 _ qK eK hokK (text data) data (u8s_text data hS.seg.lt) (by rw [text_size]; omega) now hcl) (fun _ _ _ _ h => h.nil) ?_
                        rintro r48 L1 rfl
                        unfold WnL
                        refine St.perm ([⟨b10, [.int .i64 kind, .int .i64 who, .int .i64 idx, .slice Ad data.length cd], 102⟩] :: [⟨b5, two k (.pointer (some ⟨pK, 0, none⟩)) (.pointer (some ⟨pJ, 0, none⟩)), 80⟩] :: [⟨b6, two k (.pointer (some ⟨qK, 0, none⟩)) (.pointer (some ⟨qJ, 0, none⟩)), 104⟩] :: [⟨b7, two k (.slice AwK bssK.length cwK) (.slice AwJ bssJ.length cwJ), 108⟩] :: EwK :: EwJ :: EnL pK (eK.inp data now) ov2 iv2 at2 Eo2 Ei2 (EnL pJ eJ ovJ ivJ atJ EoJ EiJ ([⟨qK, wnRow (eK.inp data now), 204⟩] :: [⟨qJ, wnRow eJ, 204⟩] :: L))) (perm_idx [[[⟨qK, wnRow (eK.inp data now), 204⟩]], [[⟨b10, [.int .i64 kind, .int .i64 who, .int .i64 idx, .slice Ad data.length cd], 102⟩]], [[⟨b5, two k (.pointer (some ⟨pK, 0, none⟩)) (.pointer (some ⟨pJ, 0, none⟩)), 80⟩]], [[⟨b6, two k (.pointer (some ⟨qK, 0, none⟩)) (.pointer (some ⟨qJ, 0, none⟩)), 104⟩]], [[⟨b7, two k (.slice AwK bssK.length cwK) (.slice AwJ bssJ.length cwJ), 108⟩]], [EwK], [EwJ], EnL pK (eK.inp data now) ov2 iv2 at2 Eo2 Ei2 [], EnL pJ eJ ovJ ivJ atJ EoJ EiJ [], [[⟨qJ, wnRow eJ, 204⟩]]] (L) [1, 2, 3, 4, 5, 6, 7, 8, 0, 9] (by kernel_rfl)) ?_
                        refine St.done ?_
                        refine SX.blk ?_
                        exact SX.some (Pd.mk pK qK (eK.inp data now) ov2 iv2 at2 Eo2 Ei2 (.slice AwK bssK.length cwK) bssK EwK, Pd.mk pJ qJ eJ ovJ ivJ atJ EoJ EiJ (.slice AwJ bssJ.length cwJ) bssJ EwJ, now) ⟨{ en := hB2, way := hwK, dg := hdK, few := by simp only; omega }, ⟨heJ, hwJ, hdJ, by simp only; omega⟩, by simp only; omega, by simp only; omega⟩ ⟨rfl, rfl, rfl, rfl, rfl, rfl, rfl, rfl, trivial⟩ (List.Perm.refl _)
                      · refine SC.plain ?_
                        refine St.move rfl rfl ?_
                        refine St.fieldAddr (off := 2) rfl rfl (by kernel_rfl) ?_
                        refine St.load rfl rfl (by kernel_rfl) (by first | exact Holds.row mem0 rfl | exact Holds.row mem1 rfl | exact Holds.row mem2 rfl | exact Holds.row mem3 rfl | exact Holds.row mem4 rfl | exact Holds.row mem5 rfl | exact Holds.row mem6 rfl | exact Holds.row mem7 rfl | exact Holds.row mem8 rfl) ?_
                        refine St.andI rfl rfl rfl ?_
                        rw [mask15]
                        refine St.addI rfl rfl rfl (by omega) ?_
                        refine St.assign rfl rfl ?_
                        refine St.done ?_
                        refine SX.blk ?_
                        exact SX.some (Pd.mk pK qK eK ovK ivK atK EoK EiK (.slice AwK bssK.length cwK) bssK EwK, Pd.mk pJ qJ eJ ovJ ivJ atJ EoJ EiJ (.slice AwJ bssJ.length cwJ) bssJ EwJ, (now + idx % 16)) ⟨⟨heK, hwK, hdK, by simp only; omega⟩, ⟨heJ, hwJ, hdJ, by simp only; omega⟩, by simp only; omega, by simp only; omega⟩ ⟨rfl, rfl, rfl, rfl, rfl, rfl, rfl, rfl, trivial⟩ (List.Perm.refl _)
                  · refine SC.seq ?_
                    refine SC.plain ?_
                    refine St.eql rfl rfl rfl ?_
                    refine St.assign rfl rfl ?_
                    refine St.done ?_
                    refine SX.seq ?_
                    refine SC.condp rfl (fun c178 => ?_) (fun c178 => ?_)
                    · refine SC.skip ?_
                      first
                      | exact SX.some (decide (kind = 4)) (by simp only [decide_eq_true_eq]; omega) ⟨rfl, rfl, rfl, rfl, rfl, rfl, rfl, rfl, rfl, rfl, rfl, rfl, trivial⟩ (List.Perm.refl _)
                      | exact SX.some (decide (kind = 5)) (by simp only [decide_eq_true_eq]; omega) ⟨rfl, rfl, rfl, rfl, rfl, rfl, rfl, rfl, rfl, rfl, rfl, rfl, trivial⟩ (List.Perm.refl _)
                      | exact SX.some (decide (kind = 6)) (by simp only [decide_eq_true_eq]; omega) ⟨rfl, rfl, rfl, rfl, rfl, rfl, rfl, rfl, rfl, rfl, rfl, rfl, trivial⟩ (List.Perm.refl _)
                    · refine SC.seq ?_
                      refine SC.plain ?_
                      refine St.eql rfl rfl rfl ?_
                      refine St.assign rfl rfl ?_
                      refine St.done ?_
                      refine SX.seq ?_
                      refine SC.condp rfl (fun c178 => ?_) (fun c178 => ?_)
                      · refine SC.skip ?_
                        first
                        | exact SX.some (decide (kind = 4)) (by simp only [decide_eq_true_eq]; omega) ⟨rfl, rfl, rfl, rfl, rfl, rfl, rfl, rfl, rfl, rfl, rfl, rfl, trivial⟩ (List.Perm.refl _)
                        | exact SX.some (decide (kind = 5)) (by simp only [decide_eq_true_eq]; omega) ⟨rfl, rfl, rfl, rfl, rfl, rfl, rfl, rfl, rfl, rfl, rfl, rfl, trivial⟩ (List.Perm.refl _)
                        | exact SX.some (decide (kind = 6)) (by simp only [decide_eq_true_eq]; omega) ⟨rfl, rfl, rfl, rfl, rfl, rfl, rfl, rfl, rfl, rfl, rfl, rfl, trivial⟩ (List.Perm.refl _)
                      · refine SC.plain ?_
                        refine St.eql rfl rfl rfl ?_
                        refine St.assign rfl rfl ?_
                        refine St.done ?_
                        first
                        | exact SX.some (decide (kind = 4)) (by simp only [decide_eq_true_eq]; omega) ⟨rfl, rfl, rfl, rfl, rfl, rfl, rfl, rfl, rfl, rfl, rfl, rfl, trivial⟩ (List.Perm.refl _)
                        | exact SX.some (decide (kind = 5)) (by simp only [decide_eq_true_eq]; omega) ⟨rfl, rfl, rfl, rfl, rfl, rfl, rfl, rfl, rfl, rfl, rfl, rfl, trivial⟩ (List.Perm.refl _)
                        | exact SX.some (decide (kind = 6)) (by simp only [decide_eq_true_eq]; omega) ⟨rfl, rfl, rfl, rfl, rfl, rfl, rfl, rfl, rfl, rfl, rfl, rfl, trivial⟩ (List.Perm.refl _)
      · refine SC.seq ?_
        refine SC.plain ?_
        refine St.move rfl rfl ?_
        refine St.indexArr (n := 2) (sz := 1) rfl rfl rfl (by kernel_rfl) (by omega) ?_
        refine St.load rfl rfl (by kernel_rfl) (Holds.row mem3 (two_get hk _ _)) ?_
        refine St.lenSl rfl rfl (by kernel_rfl) ?_
        refine St.gtr rfl rfl rfl ?_
        refine St.done ?_
        refine SX.seq ?_
        refine SC.condp rfl (fun c63 => ?_) (fun c63 => ?_)
        · have hb1 : (0 : Int) < (bssK.length : Int) := by omega
          have hk1 := Int.tmod_lt_of_pos idx hb1
          have hk2 := Int.lt_tmod_of_pos idx hb1
          have hk3 := Int.tmod_lt_of_pos (idx.tmod (bssK.length : Int) + (bssK.length : Int)) hb1
          have hk4 := Int.tmod_nonneg (a := idx.tmod (bssK.length : Int) + (bssK.length : Int)) (bssK.length : Int) (by omega)
          refine SC.drawn [(0, true), (1, true), (2, true), (3, true), (4, true), (5, true), (6, true), (7, true), (8, true), (9, true), (10, true), (11, true), (12, true), (13, true), (14, true), (15, true), (16, true), (17, true)] [] (_) (by kernel_rfl) (by kernel_rfl) (fun _ h => h) ?_
          refine St.fieldAddr (off := 2) rfl rfl (by kernel_rfl) ?_
          refine St.load rfl rfl (by kernel_rfl) (by first | exact Holds.row mem0 rfl | exact Holds.row mem1 rfl | exact Holds.row mem2 rfl | exact Holds.row mem3 rfl | exact Holds.row mem4 rfl | exact Holds.row mem5 rfl | exact Holds.row mem6 rfl | exact Holds.row mem7 rfl | exact Holds.row mem8 rfl) ?_
          refine St.move rfl rfl ?_
          refine St.indexArr (n := 2) (sz := 1) rfl rfl rfl (by kernel_rfl) (by omega) ?_
          refine St.load rfl rfl (by kernel_rfl) (Holds.row mem3 (two_get hk _ _)) ?_
          refine St.lenSl rfl rfl (by kernel_rfl) ?_
          first | refine St.remN rfl rfl rfl (by omega) ?_ | refine St.rem rfl rfl rfl (by omega) ?_
          refine St.move rfl rfl ?_
          refine St.indexArr (n := 2) (sz := 1) rfl rfl rfl (by kernel_rfl) (by omega) ?_
          refine St.load rfl rfl (by kernel_rfl) (Holds.row mem3 (two_get hk _ _)) ?_
          refine St.lenSl rfl rfl (by kernel_rfl) ?_
          first | refine St.addN rfl rfl rfl (by omega) ?_ | refine St.addI rfl rfl rfl (by omega) ?_
          refine St.move rfl rfl ?_
          refine St.indexArr (n := 2) (sz := 1) rfl rfl rfl (by kernel_rfl) (by omega) ?_
          refine St.load rfl rfl (by kernel_rfl) (Holds.row mem3 (two_get hk _ _)) ?_
          refine St.lenSl rfl rfl (by kernel_rfl) ?_
          first | refine St.remN rfl rfl rfl (by omega) ?_ | refine St.rem rfl rfl rfl (by omega) ?_
          refine St.assign rfl rfl ?_
          refine St.done ?_
          refine SX.tail ?_
          refine St.done ?_
          obtain ⟨nn, hn⟩ : ∃ nn : Nat, (idx.tmod (bssK.length : Int) + (bssK.length : Int)).tmod (bssK.length : Int) = (nn : Int) := ⟨((idx.tmod (bssK.length : Int) + (bssK.length : Int)).tmod (bssK.length : Int)).toNat, by omega⟩
          rw [hn]
          have hnn : nn < bssK.length := by omega
          exact SX.some nn (fun _ => hnn) ⟨rfl, rfl, rfl, rfl, rfl, rfl, rfl, rfl, rfl, rfl, trivial⟩ (List.Perm.refl _)
        · refine SC.skip ?_
          exact SX.some 0 (fun h => h) ⟨rfl, rfl, rfl, rfl, rfl, rfl, rfl, rfl, rfl, rfl, trivial⟩ (List.Perm.refl _)
    · refine SC.exit ?_
      refine SX.seq_exit ?_
      refine SX.seq_exit ?_
      refine SX.hit ?_
      refine SX.seq ?_
      refine SC.seq ?_
      refine SC.plain ?_
      refine St.assign rfl rfl ?_
      refine St.done ?_
      refine SX.seq ?_
      refine SC.ret ?_
      exact SX.ret1 rfl rfl rfl
  · refine St.guard_no rfl rfl rfl ?_
    refine St.guard_no rfl rfl rfl ?_
    refine St.pick_false rfl rfl rfl ?_
    refine St.done ?_
    refine SX.seq ?_
    refine SC.cond_false rfl ?_
    refine SC.exit ?_
    refine SX.seq_exit ?_
    refine SX.seq_exit ?_
    refine SX.hit ?_
    refine SX.seq ?_
    refine SC.seq ?_
    refine SC.plain ?_
    refine St.assign rfl rfl ?_
    refine St.done ?_
    refine SX.seq ?_
    refine SC.ret ?_
    exact SX.ret1 rfl rfl rfl
end Go.Proofs.Ytahafepgmkiabaa
