/- Walks: the law HuffBack. -/
import Derived.Test.YtahafepgmkiabaaQ1
import Derived.Test.YtahafepgmkiabaaQ3
import Derived.Test.YtahafepgmkiabaaH5
import Derived.Test.YtahafepgmkiabaaR0
set_option linter.unusedVariables false
set_option linter.unusedSimpArgs false
set_option linter.ambiguousOpen false
namespace Go.Proofs.Ytahafepgmkiabaa
open Go Go.Proofs.Ytahafepgmkiabaa.Sep
theorem codes_zero {cs : List Int} {f : Nat → Nat} (hnb : ¬ BadL cs 15) (h : LenIs cs 15 f) : codesE (fl cs.length f) = 0 := by
  have hle := (least_each hnb h).2
  have hle2 : ∀ k, f k ≤ 15 := fun k => by have := hle k; omega
  obtain ⟨⟨_, _, hn⟩, _⟩ := bad_range hnb
  have hok : lensOk (fl cs.length f) = true := by
    unfold lensOk
    rw [List.all_eq_true]
    intro x hx
    obtain ⟨k, _, rfl⟩ := List.mem_map.1 hx
    have := hle2 k
    simp only [Bool.and_eq_true, decide_eq_true_eq]
    omega
  have hk : kraft (fl cs.length f) ≤ 32768 := by
    rcases Nat.lt_or_ge 1 (coinsTo cs cs.length).length with h2 | h2
    · have := least_whole hnb h h2
      rw [Bool.and_eq_true, decide_eq_true_eq] at this
      omega
    · rw [kraft_fl _ hle2, sum_off (p := fun i => decide (0 < cs.getD i 0)) (fun k hk hp0 => by
        have := (least_each hnb h).1 k (List.mem_range.1 hk)
        simp only [decide_eq_false_iff_not] at hp0
        rw [if_neg (by omega)])]
      show ((((symTo cs cs.length).map fun k => if 0 < f k then 2 ^ (15 - f k) else 0).sum : Nat) : Int) ≤ 32768
      have hl := sym_coins cs
      match hs : symTo cs cs.length with
      | [] => simp
      | [x] =>
        have : 2 ^ (15 - f x) ≤ 2 ^ 15 := Nat.pow_le_pow_right (by decide) (by omega)
        simp only [List.map_cons, List.map_nil, List.sum_cons, List.sum_nil]
        split <;> omega
      | x :: y :: r => rw [hs] at hl; simp only [List.length_cons] at hl; omega
  unfold codesE
  rw [if_neg (by rw [hok, fl_len]; simp; omega), if_neg (by omega)]
def enc (xs : List Int) (js : List Nat) : List Nat := js.flatMap fun j => highBits (codeOf xs j) (xs.getD j 0).toNat
theorem enc_bits (xs : List Int) (js : List Nat) : Bits (enc xs js) := fun w hw => by
  obtain ⟨j, _, hj⟩ := List.mem_flatMap.1 hw
  exact highBits_bits _ _ w hj
theorem enc_snoc (xs : List Int) (js : List Nat) (j : Nat) : enc xs (js ++ [j]) = enc xs js ++ highBits (codeOf xs j) (xs.getD j 0).toNat := by simp [enc]
theorem enc_read {xs : List Int} {js : List Nat} {k j : Nat} (he : codesE xs = 0) (hk : js[k]? = some j) (hj : j < xs.length) (h1 : 1 ≤ xs.getD j 0) : readSym xs (pack (enc xs js)) (enc xs (js.take k)).length = ((j : Int), 0, (enc xs (js.take (k + 1))).length) := by
  have hsplit : enc xs js = enc xs (js.take k) ++ (highBits (codeOf xs j) (xs.getD j 0).toNat ++ enc xs (js.drop (k + 1))) := by
    have h : js = js.take k ++ j :: js.drop (k + 1) := by
      obtain ⟨hlt, rfl⟩ := List.getElem?_eq_some_iff.1 hk
      rw [List.getElem_cons_drop, List.take_append_drop]
    conv => lhs; rw [h]
    unfold enc
    rw [List.flatMap_append, List.flatMap_cons]
  have hb := enc_bits xs js
  rw [hsplit] at hb
  have hs := stands_pack (codeOf xs j) (xs.getD j 0).toNat hb
  rw [← hsplit] at hs
  rw [read_back he hj h1 _ hs]
  have hl : (enc xs (js.take (k + 1))).length = (enc xs (js.take k)).length + (xs.getD j 0).toNat := by
    rw [List.take_add_one, hk]
    show (enc xs (js.take k ++ [j])).length = _
    rw [enc_snoc, List.length_append, highBits_len]
  rw [hl]
theorem enc_take_le (xs : List Int) (js : List Nat) (k : Nat) : (enc xs (js.take k)).length ≤ (enc xs js).length := by
  have h : enc xs js = enc xs (js.take k) ++ enc xs (js.drop k) := by
    unfold enc
    rw [← List.flatMap_append, List.take_append_drop]
  rw [h, List.length_append]; omega
theorem u32_get {l : List Int} {j : Nat} (h : j < l.length) : (u32s l)[j]? = some (.int .u32 (l.getD j 0)) := by
  unfold u32s
  rw [List.getElem?_map, List.getD_eq_getElem?_getD, List.getElem?_eq_getElem h]; rfl

theorem huffBack_spec (w0 : World) (L : List Chunk) (u u2 : Value) (cs sy : List Int) (hr : Rd w0 L u 1 cs.length (ints cs)) (hr2 : Rd w0 L u2 1 sy.length (ints sy)) (hl : cs.length ≤ 4611686018427387904) (hl2 : sy.length ≤ 4611686018427387904) :
    Meets Try.prog 21 #[u, u2] w0 L (fun r L' => r = .bool true) := by
  have hr0 := hr
  obtain ⟨_, bcs, ocs, Ac, cc, rfl, hAc, hcs⟩ := hr
  obtain ⟨_, bs, os, As, c2, rfl, hAs, hs0⟩ := hr2
  refine Meets.of_body [.slice Ac cs.length cc, .slice As sy.length c2] Try.func21 rfl Try.ntmps21 rfl ?_
  refine SC.seq ?_
  refine SC.plain ?_
  refine St.assign rfl rfl ?_
  refine St.done ?_
  refine SX.seq ?_
  refine SC.seq ?_
  refine SC.seq ?_
  refine SC.plain ?_
  refine St.move rfl rfl ?_
  refine St.lenSl rfl rfl (by kernel_rfl) ?_
  refine St.gtr rfl rfl rfl ?_
  refine St.done ?_
  refine SX.seq ?_
  refine SC.condp rfl (fun c20 => ?_) (fun c20 => ?_)
  · refine SC.seq ?_
    refine SC.plain ?_
    refine St.call [] rfl (by kernel_rfl) rfl (awake5_spec w0 _) (fun _ _ _ _ h => h.nil) ?_
    rintro ra La ⟨rfl, rfl⟩
    refine St.assign rfl rfl ?_
    refine St.done ?_
    refine SX.seq ?_
    refine SC.ret ?_
    refine SX.seq_ret ?_
    exact SX.ret1 rfl rfl rfl
  · refine SC.skip ?_
    refine SX.seq ?_
    refine SC.seq ?_
    refine SC.plain ?_
    refine St.move rfl rfl ?_
    refine St.call [_, _] rfl (by kernel_rfl) rfl (lengths_spec w0 L _ cs 15 hr0) (fun _ _ _ _ h => h.nil) ?_
    rintro r1 L1 (⟨hbad, rfl, rfl⟩ | ⟨hnb, v, E, f, rfl, rfl, hbf, hL⟩)
    · refine St.move rfl rfl ?_
      refine St.extract rfl rfl rfl ?_
      refine St.extract rfl rfl rfl ?_
      refine St.assign rfl rfl ?_
      refine St.assign rfl rfl ?_
      refine St.done ?_
      refine SX.seq ?_
      refine SC.seq ?_
      refine SC.seq ?_
      refine SC.plain ?_
      refine St.move rfl rfl ?_
      refine St.neq rfl rfl rfl ?_
      refine St.done ?_
      refine SX.seq ?_
      refine SC.condp rfl (fun c28 => ?_) (fun c28 => ?_)
      · refine SC.seq ?_
        refine SC.plain ?_
        refine St.move rfl rfl ?_
        refine St.eql rfl rfl rfl ?_
        refine St.move rfl rfl ?_
        refine St.split 31 rfl (fun g31 => ?_) (fun g31 => ?_)
        · refine St.guard_yes rfl rfl ?_
          refine St.call [] rfl (by kernel_rfl) rfl (awake5_spec w0 _) (fun _ _ _ _ h => h.nil) ?_
          rintro ra La ⟨rfl, rfl⟩
          refine St.pick_true rfl rfl rfl ?_
          refine St.assign rfl rfl ?_
          refine St.done ?_
          refine SX.seq ?_
          refine SC.ret ?_
          refine SX.seq_ret ?_
          exact SX.ret1 rfl rfl rfl
        · exfalso; omega
      · exfalso; omega
    · obtain ⟨bv, ov, Av, cv, rfl, hAv, hh⟩ := hbf.read
      have hxl := fl_len cs.length f
      have hxr : Rd w0 (E :: L) (.slice Av cs.length cv) 1 (fl cs.length f).length (ints (fl cs.length f)) := by rw [fl_len, fl_row]; exact hbf.rd (by simp)
      have he := codes_zero hnb hL
      obtain ⟨hl1, hl2⟩ := least_each hnb hL
      obtain ⟨⟨_, _, hn400⟩, _⟩ := bad_range hnb
      refine St.move rfl rfl ?_
      refine St.extract rfl rfl rfl ?_
      refine St.extract rfl rfl rfl ?_
      refine St.assign rfl rfl ?_
      refine St.assign rfl rfl ?_
      refine St.done ?_
      refine SX.seq ?_
      refine SC.seq ?_
      refine SC.seq ?_
      refine SC.plain ?_
      refine St.move rfl rfl ?_
      refine St.neq rfl rfl rfl ?_
      refine St.done ?_
      refine SX.seq ?_
      refine SC.condp rfl (fun c28 => ?_) (fun c28 => ?_)
      · exfalso; omega
      · refine SC.skip ?_
        refine SX.seq ?_
        refine SC.seq ?_
        refine SC.plain ?_
        refine St.move rfl rfl ?_
        refine St.call [_] rfl (by kernel_rfl) rfl (codes_spec w0 (E :: L) _ (fl cs.length f) hxr (by omega)) (fun _ _ _ _ h => h.nil) ?_
        rintro r2 L2 (⟨h0, _, _⟩ | ⟨_, bc, rfl, rfl⟩)
        · exact absurd he h0
        refine St.move rfl rfl ?_
        refine St.extract rfl rfl rfl ?_
        refine St.extract rfl rfl rfl ?_
        refine St.assign rfl rfl ?_
        refine St.assign rfl rfl ?_
        refine St.done ?_
        refine SX.seq ?_
        refine SC.seq ?_
        refine SC.plain ?_
        refine St.move rfl rfl ?_
        refine St.call [_] rfl (by kernel_rfl) rfl (new_spec w0 _ _ (fl cs.length f) (hxr.mono (fun w hw => hw.drop)) (by omega)) (fun _ _ _ _ h => h.nil) ?_
        rintro r3 L3 (⟨h0, _, _⟩ | ⟨_, pc, Ec, rfl, hCE, rfl⟩)
        · exact absurd he h0
        obtain ⟨xs, hxs⟩ : ∃ xs, xs = (fl cs.length f) := ⟨_, rfl⟩
        obtain ⟨Lb, hLb⟩ : ∃ Lb : List Chunk, Lb = Ec ++ ([⟨bc, u32s (codesOf (fl cs.length f)), 33⟩] :: E :: L) := ⟨_, rfl⟩
        have hC : CodeRd w0 Lb pc xs := by rw [hLb, hxs]; exact hCE.rd he
        have hfl : HoldsN w0 Lb bv ov (lrow cs.length f) := (hh w0 (E :: L) (by simp)).mono (fun w hw => hw.sub (by rw [hLb]; simp))
        have hsy : HoldsN w0 Lb bs os (ints sy) := hs0.mono (fun w hw => by rw [hLb] at hw; exact (Own.right Ec hw).drop.drop)
        have hcd : HoldsN w0 Lb bc 0 (u32s (codesOf xs)) := HoldsN.of_row (e := 33) (by rw [hLb, hxs]; simp)
        rw [← hLb]
        rw [← hxs] at hxl he
        have hxl0 := fl_len cs.length f
        have hxg : ∀ j, j < cs.length → xs.getD j 0 = ((f j : Nat) : Int) := fun j hj => by rw [hxs, fl_get, if_pos hj]
        refine St.move rfl rfl ?_
        refine St.extract rfl rfl rfl ?_
        refine St.extract rfl rfl rfl ?_
        refine St.assign rfl rfl ?_
        refine St.assign rfl rfl ?_
        refine St.done ?_
        refine SX.seq ?_
        refine SC.seq ?_
        refine SC.seq ?_
        refine SC.plain ?_
        refine St.move rfl rfl ?_
        refine St.neq rfl rfl rfl ?_
        refine St.move rfl rfl ?_
        refine St.split 46 rfl (fun g46 => ?_) (fun g46 => ?_)
        · exfalso; omega
        · refine St.guard_yes rfl rfl ?_
          refine St.move rfl rfl ?_
          refine St.guard_yes rfl rfl ?_
          refine St.neq rfl rfl rfl ?_
          refine St.pick_false rfl rfl rfl ?_
          refine St.move rfl rfl ?_
          refine St.split 50 rfl (fun g50 => ?_) (fun g50 => ?_)
          · exfalso; omega
          · refine St.guard_yes rfl rfl ?_
            refine St.move rfl rfl ?_
            refine St.guard_yes rfl rfl ?_
            refine St.lenSl rfl rfl (by kernel_rfl) ?_
            refine St.guard_yes rfl rfl ?_
            refine St.move rfl rfl ?_
            refine St.guard_yes rfl rfl ?_
            refine St.lenSl rfl rfl (by kernel_rfl) ?_
            refine St.guard_yes rfl rfl ?_
            refine St.neq rfl rfl rfl ?_
            refine St.pick_false rfl rfl rfl ?_
            refine St.move rfl rfl ?_
            refine St.split 57 rfl (fun g57 => ?_) (fun g57 => ?_)
            · exfalso; omega
            · refine St.guard_yes rfl rfl ?_
              refine St.move rfl rfl ?_
              refine St.guard_yes rfl rfl ?_
              refine St.lenSl rfl rfl (by kernel_rfl) ?_
              refine St.guard_yes rfl rfl ?_
              refine St.move rfl rfl ?_
              refine St.guard_yes rfl rfl ?_
              refine St.lenSl rfl rfl (by kernel_rfl) ?_
              refine St.guard_yes rfl rfl ?_
              refine St.neq rfl rfl rfl ?_
              refine St.pick_false rfl rfl rfl ?_
              refine St.done ?_
              refine SX.seq ?_
              refine SC.condp rfl (fun c63 => ?_) (fun c63 => ?_)
              · exfalso; omega
              · refine SC.skip ?_
                refine SX.seq ?_
                refine SC.seq ?_
                refine SC.plain ?_
                refine St.alloc [.slice none 0 0, .int .u64 0, .int .i64 0] rfl (by kernel_rfl) (fun _ _ h => h.nil) (fun p => ?_)
                refine St.done ?_
                refine SX.seq ?_
                refine SC.seq ?_
                refine SC.plain ?_
                refine St.assign rfl rfl ?_
                refine St.done ?_
                refine SX.seq ?_
                refine SC.seq ?_
                refine SC.seq ?_
                refine SC.plain ?_
                refine St.assign rfl rfl ?_
                refine St.done ?_
                refine SX.seq ?_
                refine SC.block ?_
                have hbn : Buf 5 1 (.slice none 0 0) (bytes (whole (enc xs []))) ((enc xs []).length / 8) [] := by rw [show enc xs [] = [] from rfl, show whole [] = [] from rfl]; exact Buf.nil _ _
                have hb0 : byteOf ([] : List Nat) 0 = 0 := byteOf_zero (ws := []) (by intro w h; cases h) rfl
                refine SC.loop (α := Nat × Value × Chunk × List Nat × Value × Chunk) (fun s => s.1 ≤ sy.length ∧ s.2.2.2.1.length ≤ s.1 ∧ s.1 ≤ 100 ∧ (∀ j ∈ s.2.2.2.1, j < cs.length ∧ 0 < f j) ∧ Buf 3 1 s.2.1 (natints s.2.2.2.1) s.2.2.2.1.length s.2.2.1 ∧ Buf 5 1 s.2.2.2.2.1 (bytes (whole (enc xs s.2.2.2.1))) ((enc xs s.2.2.2.1).length / 8) s.2.2.2.2.2 ∧ (enc xs s.2.2.2.1).length ≤ 15 * s.2.2.2.1.length) (fun s => [(1, .slice As sy.length c2), (5, .slice Av cs.length cv), (7, .slice (some ⟨bc, 0, none⟩) (fl cs.length f).length (fl cs.length f).length), (9, .pointer (some ⟨pc, 0, none⟩)), (11, .pointer (some ⟨p, 0, none⟩)), (12, s.2.1), (13, .int .i64 ((s.1 : Nat) : Int))]) (fun s => BwL p s.2.2.2.2.1 (byteOf (enc xs s.2.2.2.1) ((enc xs s.2.2.2.1).length / 8)) ((enc xs s.2.2.2.1).length % 8) s.2.2.2.2.2 (s.2.2.1 :: Lb)) (fun s => sy.length - s.1) (0, _, [], [], .slice none 0 0, []) ⟨Nat.zero_le _, Nat.le_refl _, Nat.zero_le _, by simp, Buf.nil _ _, hbn, Nat.le_refl _⟩ ⟨rfl, rfl, rfl, rfl, rfl, rfl, rfl, trivial⟩ (by show ([⟨p, [.slice none 0 0, .int .u64 0, .int .i64 0], 119⟩] :: Lb).flatten.Perm ([⟨p, [.slice none 0 0, .int .u64 ((byteOf [] 0 : Nat) : Int), .int .i64 0], 119⟩] :: [] :: [] :: Lb).flatten; rw [hb0]; exact List.Perm.refl _) ?_
                rintro ⟨i, v12, E12, js, wv, Ew⟩ ⟨hi, hji, hi100, hjs, hb12, hbw, hel⟩
                simp only at hi hji hi100 hjs hb12 hbw hel
                show SC _ _ _ [(1, .slice As sy.length c2), (5, .slice Av cs.length cv), (7, .slice (some ⟨bc, 0, none⟩) (fl cs.length f).length (fl cs.length f).length), (9, .pointer (some ⟨pc, 0, none⟩)), (11, .pointer (some ⟨p, 0, none⟩)), (12, v12), (13, .int .i64 ((i : Nat) : Int))] (BwL p wv (byteOf (enc xs js) ((enc xs js).length / 8)) ((enc xs js).length % 8) Ew (E12 :: Lb))
                refine SC.seq ?_
                refine SC.seq ?_
                refine SC.plain ?_
                refine St.move rfl rfl ?_
                refine St.move rfl rfl ?_
                refine St.lenSl rfl rfl (by kernel_rfl) ?_
                refine St.lss rfl rfl rfl ?_
                refine St.move rfl rfl ?_
                refine St.split 68 rfl (fun g68 => ?_) (fun g68 => ?_)
                · refine St.guard_yes rfl rfl ?_
                  refine St.move rfl rfl ?_
                  refine St.guard_yes rfl rfl ?_
                  refine St.lss rfl rfl rfl ?_
                  refine St.pick_true rfl rfl rfl ?_
                  refine St.done ?_
                  refine SX.seq ?_
                  refine SC.condp rfl (fun c71 => ?_) (fun c71 => ?_)
                  · obtain rfl := hAs (by omega)
                    have hsl := HoldsN.nat (xs := sy) (k := .i64) hsy i (by omega)
                    refine SC.skip ?_
                    refine SX.seq ?_
                    refine SC.seq ?_
                    refine SC.block ?_
                    refine SC.seq ?_
                    unfold BwL
                    refine SC.plain ?_
                    refine St.move rfl rfl ?_
                    refine St.move rfl rfl ?_
                    refine St.indexSl (e := 3) (sz := 1) rfl rfl rfl (by kernel_rfl) (by omega) ?_
                    refine St.load rfl rfl (by kernel_rfl) (fun w hw => hsl w hw.drop.drop.drop) ?_
                    refine St.geq rfl rfl rfl ?_
                    refine St.move rfl rfl ?_
                    refine St.split 79 rfl (fun g79 => ?_) (fun g79 => ?_)
                    · refine St.guard_yes rfl rfl ?_
                      refine St.move rfl rfl ?_
                      refine St.guard_yes rfl rfl ?_
                      refine St.move rfl rfl ?_
                      refine St.guard_yes rfl rfl ?_
                      refine St.indexSl (e := 3) (sz := 1) rfl rfl rfl (by kernel_rfl) (by omega) ?_
                      refine St.guard_yes rfl rfl ?_
                      refine St.load rfl rfl (by kernel_rfl) (fun w hw => hsl w hw.drop.drop.drop) ?_
                      refine St.guard_yes rfl rfl ?_
                      refine St.move rfl rfl ?_
                      refine St.guard_yes rfl rfl ?_
                      refine St.lenSl rfl rfl (by kernel_rfl) ?_
                      refine St.guard_yes rfl rfl ?_
                      refine St.lss rfl rfl rfl ?_
                      refine St.pick_true rfl rfl rfl ?_
                      refine St.move rfl rfl ?_
                      refine St.split 88 rfl (fun g88 => ?_) (fun g88 => ?_)
                      · obtain ⟨j, hj⟩ : ∃ j : Nat, sy.getD i 0 = (j : Int) := ⟨(sy.getD i 0).toNat, by omega⟩
                        rw [hj] at hsl
                        have hjn : j < cs.length := by omega
                        obtain rfl := hAv (by omega)
                        refine St.guard_yes rfl rfl ?_
                        refine St.move rfl rfl ?_
                        refine St.guard_yes rfl rfl ?_
                        refine St.move rfl rfl ?_
                        refine St.guard_yes rfl rfl ?_
                        refine St.move rfl rfl ?_
                        refine St.guard_yes rfl rfl ?_
                        refine St.indexSl (e := 3) (sz := 1) rfl rfl rfl (by kernel_rfl) (by omega) ?_
                        refine St.guard_yes rfl rfl ?_
                        refine St.load rfl rfl (by kernel_rfl) (fun w hw => hsl w hw.drop.drop.drop) ?_
                        refine St.guard_yes rfl rfl ?_
                        refine St.indexSl (e := 3) (sz := 1) rfl rfl rfl (by kernel_rfl) (by omega) ?_
                        refine St.guard_yes rfl rfl ?_
                        refine St.load rfl rfl (by kernel_rfl) (hfl.cons.cons.cons.at j (lrow_get hjn)) ?_
                        refine St.guard_yes rfl rfl ?_
                        refine St.gtr rfl rfl rfl ?_
                        refine St.pick_true rfl rfl rfl ?_
                        refine St.done ?_
                        refine SX.seq ?_
                        refine SC.condp rfl (fun c97 => ?_) (fun c97 => ?_)
                        · have hfj : 0 < f j := by omega
                          have hxj := hxg j hjn
                          have hcj := code_at he j (by omega) (by omega)
                          have hcl := codeOf_lt he j (by omega) (by omega)
                          rw [hxj, Int.toNat_natCast] at hcl
                          have hf15 := hl2 j
                          have hpw : 2 ^ f j ≤ 2 ^ 15 := Nat.pow_le_pow_right (by decide) (by omega)
                          rw [show 2 ^ 15 = 32768 from rfl] at hpw
                          have hsn := enc_snoc xs js j
                          rw [hxj, Int.toNat_natCast] at hsn
                          have hsnl := congrArg List.length hsn
                          rw [List.length_append, highBits_len] at hsnl
                          have hcdl : (codesOf xs).length = xs.length := codesOf_len xs
                          refine SC.seq ?_
                          refine SC.drawn [(0, true), (1, true), (2, true), (3, true), (4, true), (5, true), (6, true), (7, true), (8, true), (9, true), (10, true), (11, true), (12, true), (13, true)] [14] (_) (by kernel_rfl) (by kernel_rfl) (fun _ h => h) ?_
                          refine St.move rfl rfl ?_
                          refine St.move rfl rfl ?_
                          refine St.move rfl rfl ?_
                          refine St.indexSl (e := 3) (sz := 1) rfl rfl rfl (by kernel_rfl) (by omega) ?_
                          refine St.load rfl rfl (by kernel_rfl) (fun w hw => hsl w hw.drop.drop.drop) ?_
                          refine St.indexSl (e := 33) (sz := 1) rfl rfl rfl (by kernel_rfl) (by rw [← hxs]; omega) ?_
                          refine St.load rfl rfl (by kernel_rfl) (hcd.cons.cons.cons.at j (v := .int .u32 ((codeOf xs j : Nat) : Int)) (by rw [u32_get (by omega), hcj])) ?_
                          refine St.move rfl rfl ?_
                          refine St.move rfl rfl ?_
                          refine St.move rfl rfl ?_
                          refine St.indexSl (e := 3) (sz := 1) rfl rfl rfl (by kernel_rfl) (by omega) ?_
                          refine St.load rfl rfl (by kernel_rfl) (fun w hw => hsl w hw.drop.drop.drop) ?_
                          refine St.indexSl (e := 3) (sz := 1) rfl rfl rfl (by kernel_rfl) (by omega) ?_
                          refine St.load rfl rfl (by kernel_rfl) (hfl.cons.cons.cons.at j (lrow_get hjn)) ?_
                          refine St.done ?_
                          refine SX.tail ?_
                          refine St.call [_, _, _] rfl (by kernel_rfl) rfl (code_spec w0 (E12 :: Lb) p wv (enc xs js) Ew hbw (enc_bits _ _) (codeOf xs j) (f j) (by omega) (by omega) (by omega)) (fun _ _ _ _ h => h.nil) ?_
                          rintro r5 L5 ⟨wv2, Ew2, hbw2, rfl⟩
                          rw [← hsn] at hbw2 ⊢
                          unfold BwL
                          refine St.done ?_
                          refine SX.seq ?_
                          refine SC.plain ?_
                          refine St.move rfl rfl ?_
                          refine St.move rfl rfl ?_
                          refine St.move rfl rfl ?_
                          refine St.indexSl (e := 3) (sz := 1) rfl rfl rfl (by kernel_rfl) (by omega) ?_
                          refine St.load rfl rfl (by kernel_rfl) (fun w hw => hsl w hw.drop.drop.drop) ?_
                          refine St.buildSl (n := 1) (e := 3) [(0, .int .i64 ((j : Nat) : Int))] [.int .i64 ((j : Nat) : Int)] rfl rfl (by kernel_rfl) (fun _ _ h => h.nil) (fun b118 => ?_)
                          refine St.append3 (e := 3) (sz := 1) (bytes := 8) (m := 1) rfl rfl rfl (by kernel_rfl) hb12 (Rd.row rfl mem0) (by simp [one]) (by omega) (by omega) (fun _ _ h => h.nil) (fun v2 E2 hb2 _ => ?_)
                          refine St.drop ?_
                          rw [show natints js ++ [.int .i64 ((j : Nat) : Int)] = natints (js ++ [j]) by rw [natints_app]; rfl] at hb2
                          refine St.assign rfl rfl ?_
                          refine St.done ?_
                          refine SX.blk ?_
                          refine SX.seq ?_
                          refine SC.plain ?_
                          refine St.move rfl rfl ?_
                          first | refine St.addN (b := 1) rfl rfl rfl (by omega) ?_ | refine St.addI rfl rfl rfl (by omega) ?_
                          refine St.assign rfl rfl ?_
                          refine St.done ?_
                          exact SX.again (i + 1, v2, E2, js ++ [j], wv2, Ew2) ⟨by simp only; omega, by simp only [List.length_append, List.length_cons, List.length_nil]; omega, by simp only; omega, fun k hk => by rcases List.mem_append.1 hk with hk | hk; exact hjs k hk; rcases List.mem_singleton.1 hk with rfl; exact ⟨hjn, hfj⟩, by simp only [List.length_append, List.length_cons, List.length_nil]; exact hb2, hbw2, by simp only [List.length_append, List.length_cons, List.length_nil]; omega⟩ (by simp only; omega) ⟨rfl, rfl, rfl, rfl, rfl, rfl, rfl, trivial⟩ (List.Perm.refl _)
                        · refine SC.skip ?_
                          refine SX.blk ?_
                          refine SX.seq ?_
                          refine SC.plain ?_
                          refine St.move rfl rfl ?_
                          first | refine St.addN (b := 1) rfl rfl rfl (by omega) ?_ | refine St.addI rfl rfl rfl (by omega) ?_
                          refine St.assign rfl rfl ?_
                          refine St.done ?_
                          exact SX.again (i + 1, v12, E12, js, wv, Ew) ⟨by simp only; omega, by simp only; omega, by simp only; omega, hjs, hb12, hbw, hel⟩ (by simp only; omega) ⟨rfl, rfl, rfl, rfl, rfl, rfl, rfl, trivial⟩ (List.Perm.refl _)
                      · refine St.guard_no rfl rfl rfl ?_
                        refine St.guard_no rfl rfl rfl ?_
                        refine St.guard_no rfl rfl rfl ?_
                        refine St.guard_no rfl rfl rfl ?_
                        refine St.guard_no rfl rfl rfl ?_
                        refine St.guard_no rfl rfl rfl ?_
                        refine St.guard_no rfl rfl rfl ?_
                        refine St.guard_no rfl rfl rfl ?_
                        refine St.pick_false rfl rfl rfl ?_
                        refine St.done ?_
                        refine SX.seq ?_
                        refine SC.cond_false rfl ?_
                        refine SC.skip ?_
                        refine SX.blk ?_
                        refine SX.seq ?_
                        refine SC.plain ?_
                        refine St.move rfl rfl ?_
                        first | refine St.addN (b := 1) rfl rfl rfl (by omega) ?_ | refine St.addI rfl rfl rfl (by omega) ?_
                        refine St.assign rfl rfl ?_
                        refine St.done ?_
                        exact SX.again (i + 1, v12, E12, js, wv, Ew) ⟨by simp only; omega, by simp only; omega, by simp only; omega, hjs, hb12, hbw, hel⟩ (by simp only; omega) ⟨rfl, rfl, rfl, rfl, rfl, rfl, rfl, trivial⟩ (List.Perm.refl _)
                    · refine St.guard_no rfl rfl rfl ?_
                      refine St.guard_no rfl rfl rfl ?_
                      refine St.guard_no rfl rfl rfl ?_
                      refine St.guard_no rfl rfl rfl ?_
                      refine St.guard_no rfl rfl rfl ?_
                      refine St.guard_no rfl rfl rfl ?_
                      refine St.guard_no rfl rfl rfl ?_
                      refine St.pick_false rfl rfl rfl ?_
                      refine St.move rfl rfl ?_
                      refine St.guard_no rfl rfl rfl ?_
                      refine St.guard_no rfl rfl rfl ?_
                      refine St.guard_no rfl rfl rfl ?_
                      refine St.guard_no rfl rfl rfl ?_
                      refine St.guard_no rfl rfl rfl ?_
                      refine St.guard_no rfl rfl rfl ?_
                      refine St.guard_no rfl rfl rfl ?_
                      refine St.guard_no rfl rfl rfl ?_
                      refine St.pick_false rfl rfl rfl ?_
                      refine St.done ?_
                      refine SX.seq ?_
                      refine SC.cond_false rfl ?_
                      refine SC.skip ?_
                      refine SX.blk ?_
                      refine SX.seq ?_
                      refine SC.plain ?_
                      refine St.move rfl rfl ?_
                      first | refine St.addN (b := 1) rfl rfl rfl (by omega) ?_ | refine St.addI rfl rfl rfl (by omega) ?_
                      refine St.assign rfl rfl ?_
                      refine St.done ?_
                      exact SX.again (i + 1, v12, E12, js, wv, Ew) ⟨by simp only; omega, by simp only; omega, by simp only; omega, hjs, hb12, hbw, hel⟩ (by simp only; omega) ⟨rfl, rfl, rfl, rfl, rfl, rfl, rfl, trivial⟩ (List.Perm.refl _)
                  · refine SC.exit ?_
                    refine SX.seq_exit ?_
                    refine SX.seq_exit ?_
                    refine SX.hit ?_
                    refine SX.seq ?_
                    refine SC.seq ?_
                    refine SC.plain ?_
                    refine St.call [_] rfl (by kernel_rfl) rfl (bytes_spec w0 (E12 :: Lb) p wv (enc xs js) Ew hbw (enc_bits _ _) (by omega)) (fun _ _ _ _ h => h.nil) ?_
                    rintro r6 L6 ⟨L7, rfl, hrp⟩
                    refine St.call [_] rfl (by kernel_rfl) rfl (bread_spec w0 _ r6 (pack (enc xs js)) hrp (by rw [pack_len]; omega)) (fun _ _ _ _ h => h.nil) ?_
                    rintro r7 L8 ⟨q, vq, Eq, rfl, hbq, rfl⟩
                    obtain ⟨b12, o12, A12, c12, rfl, hA12, hh12⟩ := hb12.read
                    obtain ⟨Rt, hRt⟩ : ∃ Rt : List Chunk, Rt = Eq :: (L7 ++ BwL p wv (byteOf (enc xs js) ((enc xs js).length / 8)) ((enc xs js).length % 8) Ew (E12 :: Lb)) := ⟨_, rfl⟩
                    have hCq : CodeRd w0 Rt pc xs := hC.mono (fun w hw => by rw [hRt] at hw; unfold BwL at hw; exact (Own.right L7 hw.drop).drop.drop.drop)
                    have hvq : Rd w0 Rt vq 1 (pack (enc xs js)).length (bytes (pack (enc xs js))) := hbq.rd (by rw [hRt]; simp)
                    have hwq : HoldsN w0 Rt b12 o12 (natints js) := hh12 w0 Rt (by rw [hRt]; unfold BwL; simp)
                    rw [← hRt]
                    refine St.assign rfl rfl ?_
                    refine St.done ?_
                    refine SX.seq ?_
                    refine SC.seq ?_
                    refine SC.seq ?_
                    refine SC.plain ?_
                    refine St.assign rfl rfl ?_
                    refine St.done ?_
                    refine SX.seq ?_
                    refine SC.block ?_
                    refine SC.loop (α := Nat) (fun k => k ≤ js.length) (fun k => [(9, .pointer (some ⟨pc, 0, none⟩)), (12, .slice A12 js.length c12), (14, .pointer (some ⟨q, 0, none⟩)), (15, .int .i64 ((k : Nat) : Int))]) (fun k => [⟨q, [vq, .int .i64 (((enc xs (js.take k)).length : Nat) : Int)], 156⟩] :: Rt) (fun k => js.length - k) 0 (Nat.zero_le _) ⟨rfl, rfl, rfl, rfl, trivial⟩ (List.Perm.refl _) ?_
                    rintro k hk
                    try simp only at hk ⊢
                    refine SC.seq ?_
                    refine SC.seq ?_
                    refine SC.plain ?_
                    refine St.move rfl rfl ?_
                    refine St.move rfl rfl ?_
                    refine St.lenSl rfl rfl (by kernel_rfl) ?_
                    refine St.lss rfl rfl rfl ?_
                    refine St.done ?_
                    refine SX.seq ?_
                    refine SC.condp rfl (fun c125 => ?_) (fun c125 => ?_)
                    · obtain ⟨j, hj⟩ : ∃ j, js[k]? = some j := ⟨_, List.getElem?_eq_getElem (by omega)⟩
                      obtain ⟨hjn, hfj⟩ := hjs j (List.mem_of_getElem? hj)
                      have hxj := hxg j hjn
                      obtain rfl := hA12 (by omega)
                      have htl := enc_take_le xs js k
                      have hrd := enc_read he hj (by omega) (by omega)
                      refine SC.skip ?_
                      refine SX.seq ?_
                      refine SC.seq ?_
                      refine SC.block ?_
                      refine SC.seq ?_
                      refine SC.plain ?_
                      refine St.move rfl rfl ?_
                      refine St.move rfl rfl ?_
                      refine St.call [_, _] rfl (by kernel_rfl) rfl (cread_spec w0 Rt vq xs (pack (enc xs js)) pc q (enc xs (js.take k)).length he hCq hvq (by rw [pack_len]; omega) (pack_lt (enc_bits _ _)) (by rw [pack_len]; omega)) (fun _ _ _ _ h => h.nil) ?_
                      rintro r9 L9 h9
                      unfold SymR at h9
                      rw [hrd] at h9
                      simp only at h9
                      obtain ⟨rfl, rfl⟩ := h9
                      refine St.move rfl rfl ?_
                      refine St.extract rfl rfl rfl ?_
                      refine St.extract rfl rfl rfl ?_
                      refine St.assign rfl rfl ?_
                      refine St.assign rfl rfl ?_
                      refine St.done ?_
                      refine SX.seq ?_
                      refine SC.seq ?_
                      refine SC.plain ?_
                      refine St.move rfl rfl ?_
                      refine St.neq rfl rfl rfl ?_
                      refine St.move rfl rfl ?_
                      refine St.split 136 rfl (fun g136 => ?_) (fun g136 => ?_)
                      · exfalso; omega
                      · refine St.guard_yes rfl rfl ?_
                        refine St.move rfl rfl ?_
                        refine St.guard_yes rfl rfl ?_
                        refine St.move rfl rfl ?_
                        refine St.guard_yes rfl rfl ?_
                        refine St.move rfl rfl ?_
                        refine St.guard_yes rfl rfl ?_
                        refine St.indexSl (e := 3) (sz := 1) rfl rfl rfl (by kernel_rfl) (by omega) ?_
                        refine St.guard_yes rfl rfl ?_
                        refine St.load rfl rfl (by kernel_rfl) (hwq.cons.at k (v := .int .i64 ((j : Nat) : Int)) (by simp [natints, ints, hj])) ?_
                        refine St.guard_yes rfl rfl ?_
                        refine St.neq rfl rfl rfl ?_
                        refine St.pick_false rfl rfl rfl ?_
                        refine St.done ?_
                        refine SX.seq ?_
                        refine SC.condp rfl (fun c143 => ?_) (fun c143 => ?_)
                        · exact absurd rfl c143
                        · refine SC.skip ?_
                          refine SX.blk ?_
                          refine SX.seq ?_
                          refine SC.plain ?_
                          refine St.move rfl rfl ?_
                          first | refine St.addN (b := 1) rfl rfl rfl (by omega) ?_ | refine St.addI rfl rfl rfl (by omega) ?_
                          refine St.assign rfl rfl ?_
                          refine St.done ?_
                          exact SX.again (k + 1) (show k + 1 ≤ js.length by omega) (by omega) ⟨rfl, rfl, rfl, rfl, trivial⟩ (List.Perm.refl _)
                    · refine SC.exit ?_
                      refine SX.seq_exit ?_
                      refine SX.seq_exit ?_
                      refine SX.hit ?_
                      refine SX.seq ?_
                      refine SC.seq ?_
                      refine SC.plain ?_
                      refine St.call [] rfl (by kernel_rfl) rfl (awake5_spec w0 _) (fun _ _ _ _ h => h.nil) ?_
                      rintro ra La ⟨rfl, rfl⟩
                      refine St.assign rfl rfl ?_
                      refine St.done ?_
                      refine SX.seq ?_
                      refine SC.ret ?_
                      exact SX.ret1 rfl rfl rfl
                · refine St.guard_no rfl rfl rfl ?_
                  refine St.guard_no rfl rfl rfl ?_
                  refine St.pick_false rfl rfl rfl ?_
                  refine St.done ?_
                  refine SX.seq ?_
                  refine SC.cond_false rfl ?_
                  refine SC.exit ?_
                  refine SX.seq_exit ?_
                  refine SX.seq_exit ?_
                  refine SX.hit ?_
                  refine SX.seq ?_
                  refine SC.seq ?_
                  refine SC.plain ?_
                  refine St.call [_] rfl (by kernel_rfl) rfl (bytes_spec w0 (E12 :: Lb) p wv (enc xs js) Ew hbw (enc_bits _ _) (by omega)) (fun _ _ _ _ h => h.nil) ?_
                  rintro r6 L6 ⟨L7, rfl, hrp⟩
                  refine St.call [_] rfl (by kernel_rfl) rfl (bread_spec w0 _ r6 (pack (enc xs js)) hrp (by rw [pack_len]; omega)) (fun _ _ _ _ h => h.nil) ?_
                  rintro r7 L8 ⟨q, vq, Eq, rfl, hbq, rfl⟩
                  obtain ⟨b12, o12, A12, c12, rfl, hA12, hh12⟩ := hb12.read
                  obtain ⟨Rt, hRt⟩ : ∃ Rt : List Chunk, Rt = Eq :: (L7 ++ BwL p wv (byteOf (enc xs js) ((enc xs js).length / 8)) ((enc xs js).length % 8) Ew (E12 :: Lb)) := ⟨_, rfl⟩
                  have hCq : CodeRd w0 Rt pc xs := hC.mono (fun w hw => by rw [hRt] at hw; unfold BwL at hw; exact (Own.right L7 hw.drop).drop.drop.drop)
                  have hvq : Rd w0 Rt vq 1 (pack (enc xs js)).length (bytes (pack (enc xs js))) := hbq.rd (by rw [hRt]; simp)
                  have hwq : HoldsN w0 Rt b12 o12 (natints js) := hh12 w0 Rt (by rw [hRt]; unfold BwL; simp)
                  rw [← hRt]
                  refine St.assign rfl rfl ?_
                  refine St.done ?_
                  refine SX.seq ?_
                  refine SC.seq ?_
                  refine SC.seq ?_
                  refine SC.plain ?_
                  refine St.assign rfl rfl ?_
                  refine St.done ?_
                  refine SX.seq ?_
                  refine SC.block ?_
                  refine SC.loop (α := Nat) (fun k => k ≤ js.length) (fun k => [(9, .pointer (some ⟨pc, 0, none⟩)), (12, .slice A12 js.length c12), (14, .pointer (some ⟨q, 0, none⟩)), (15, .int .i64 ((k : Nat) : Int))]) (fun k => [⟨q, [vq, .int .i64 (((enc xs (js.take k)).length : Nat) : Int)], 156⟩] :: Rt) (fun k => js.length - k) 0 (Nat.zero_le _) ⟨rfl, rfl, rfl, rfl, trivial⟩ (List.Perm.refl _) ?_
                  rintro k hk
                  try simp only at hk ⊢
                  refine SC.seq ?_
                  refine SC.seq ?_
                  refine SC.plain ?_
                  refine St.move rfl rfl ?_
                  refine St.move rfl rfl ?_
                  refine St.lenSl rfl rfl (by kernel_rfl) ?_
                  refine St.lss rfl rfl rfl ?_
                  refine St.done ?_
                  refine SX.seq ?_
                  refine SC.condp rfl (fun c125 => ?_) (fun c125 => ?_)
                  · obtain ⟨j, hj⟩ : ∃ j, js[k]? = some j := ⟨_, List.getElem?_eq_getElem (by omega)⟩
                    obtain ⟨hjn, hfj⟩ := hjs j (List.mem_of_getElem? hj)
                    have hxj := hxg j hjn
                    obtain rfl := hA12 (by omega)
                    have htl := enc_take_le xs js k
                    have hrd := enc_read he hj (by omega) (by omega)
                    refine SC.skip ?_
                    refine SX.seq ?_
                    refine SC.seq ?_
                    refine SC.block ?_
                    refine SC.seq ?_
                    refine SC.plain ?_
                    refine St.move rfl rfl ?_
                    refine St.move rfl rfl ?_
                    refine St.call [_, _] rfl (by kernel_rfl) rfl (cread_spec w0 Rt vq xs (pack (enc xs js)) pc q (enc xs (js.take k)).length he hCq hvq (by rw [pack_len]; omega) (pack_lt (enc_bits _ _)) (by rw [pack_len]; omega)) (fun _ _ _ _ h => h.nil) ?_
                    rintro r9 L9 h9
                    unfold SymR at h9
                    rw [hrd] at h9
                    simp only at h9
                    obtain ⟨rfl, rfl⟩ := h9
                    refine St.move rfl rfl ?_
                    refine St.extract rfl rfl rfl ?_
                    refine St.extract rfl rfl rfl ?_
                    refine St.assign rfl rfl ?_
                    refine St.assign rfl rfl ?_
                    refine St.done ?_
                    refine SX.seq ?_
                    refine SC.seq ?_
                    refine SC.plain ?_
                    refine St.move rfl rfl ?_
                    refine St.neq rfl rfl rfl ?_
                    refine St.move rfl rfl ?_
                    refine St.split 136 rfl (fun g136 => ?_) (fun g136 => ?_)
                    · exfalso; omega
                    · refine St.guard_yes rfl rfl ?_
                      refine St.move rfl rfl ?_
                      refine St.guard_yes rfl rfl ?_
                      refine St.move rfl rfl ?_
                      refine St.guard_yes rfl rfl ?_
                      refine St.move rfl rfl ?_
                      refine St.guard_yes rfl rfl ?_
                      refine St.indexSl (e := 3) (sz := 1) rfl rfl rfl (by kernel_rfl) (by omega) ?_
                      refine St.guard_yes rfl rfl ?_
                      refine St.load rfl rfl (by kernel_rfl) (hwq.cons.at k (v := .int .i64 ((j : Nat) : Int)) (by simp [natints, ints, hj])) ?_
                      refine St.guard_yes rfl rfl ?_
                      refine St.neq rfl rfl rfl ?_
                      refine St.pick_false rfl rfl rfl ?_
                      refine St.done ?_
                      refine SX.seq ?_
                      refine SC.condp rfl (fun c143 => ?_) (fun c143 => ?_)
                      · exact absurd rfl c143
                      · refine SC.skip ?_
                        refine SX.blk ?_
                        refine SX.seq ?_
                        refine SC.plain ?_
                        refine St.move rfl rfl ?_
                        first | refine St.addN (b := 1) rfl rfl rfl (by omega) ?_ | refine St.addI rfl rfl rfl (by omega) ?_
                        refine St.assign rfl rfl ?_
                        refine St.done ?_
                        exact SX.again (k + 1) (show k + 1 ≤ js.length by omega) (by omega) ⟨rfl, rfl, rfl, rfl, trivial⟩ (List.Perm.refl _)
                  · refine SC.exit ?_
                    refine SX.seq_exit ?_
                    refine SX.seq_exit ?_
                    refine SX.hit ?_
                    refine SX.seq ?_
                    refine SC.seq ?_
                    refine SC.plain ?_
                    refine St.call [] rfl (by kernel_rfl) rfl (awake5_spec w0 _) (fun _ _ _ _ h => h.nil) ?_
                    rintro ra La ⟨rfl, rfl⟩
                    refine St.assign rfl rfl ?_
                    refine St.done ?_
                    refine SX.seq ?_
                    refine SC.ret ?_
                    exact SX.ret1 rfl rfl rfl
end Go.Proofs.Ytahafepgmkiabaa
