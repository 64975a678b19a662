/- Walks: huff.Lengths. -/
import Derived.Test.YtahafepgmkiabaaZ2
set_option linter.unusedVariables false
set_option linter.unusedSimpArgs false
set_option linter.ambiguousOpen false
namespace Go.Proofs.Ytahafepgmkiabaa
open Go Go.Proofs.Ytahafepgmkiabaa.Sep
/-- The coins of the first k counts. -/
def coinsTo (cs : List Int) (k : Nat) : List PM.Coin := (List.range k).flatMap fun i => if 0 < cs.getD i 0 then [⟨cs.getD i 0, [i]⟩] else []
theorem coinsTo_yes {cs : List Int} {k : Nat} (h : 0 < cs.getD k 0) : coinsTo cs (k + 1) = coinsTo cs k ++ [⟨cs.getD k 0, [k]⟩] := by
  unfold coinsTo
  rw [List.range_succ, List.flatMap_append, List.flatMap_cons, List.flatMap_nil, if_pos h, List.append_nil]
theorem coinsTo_no {cs : List Int} {k : Nat} (h : ¬ 0 < cs.getD k 0) : coinsTo cs (k + 1) = coinsTo cs k := by
  unfold coinsTo
  rw [List.range_succ, List.flatMap_append, List.flatMap_cons, List.flatMap_nil, if_neg h, List.append_nil, List.append_nil]
theorem coinsTo_mem {cs : List Int} {k : Nat} {c : PM.Coin} (h : c ∈ coinsTo cs k) : ∃ j, j < k ∧ c = ⟨cs.getD j 0, [j]⟩ ∧ 0 < cs.getD j 0 := by
  unfold coinsTo at h
  obtain ⟨j, hj, hc⟩ := List.mem_flatMap.1 h
  split at hc
  · rename_i hp
    exact ⟨j, List.mem_range.1 hj, List.mem_singleton.1 hc, hp⟩
  · cases hc
/-- A row of natural numbers. -/
def lrow (n : Nat) (f : Nat → Nat) : List Value := (List.range n).map fun k => .int .i64 ((f k : Nat) : Int)
theorem lrow_len (n : Nat) (f : Nat → Nat) : (lrow n f).length = n := by simp [lrow]
theorem lrow_get {n : Nat} {f : Nat → Nat} {j : Nat} (h : j < n) : (lrow n f)[j]? = some (.int .i64 ((f j : Nat) : Int)) := by simp [lrow, h]
theorem lrow_set {n : Nat} {f : Nat → Nat} {j v : Nat} {w : Int} (hw : w = (v : Int)) : (lrow n f).set j (.int .i64 w) = lrow n (fun k => if k = j then v else f k) := by
  subst hw
  apply List.ext_getElem?
  intro i
  rw [List.getElem?_set]
  simp only [lrow, List.getElem?_map, List.length_map, List.length_range]
  by_cases hi : i < n
  · by_cases hj : j = i
    · subst hj; simp [hi]
    · simp [hi, hj, show i ≠ j from fun h => hj h.symm]
  · by_cases hj : j = i
    · subst hj; simp [hi]
    · simp [hi, hj]
theorem lrow_zero (n : Nat) : List.replicate n (.int .i64 0) = lrow n (fun _ => 0) := by
  apply List.ext_getElem?
  intro i
  rw [List.getElem?_replicate]
  by_cases hi : i < n
  · rw [lrow_get hi, if_pos hi]; rfl
  · rw [if_neg hi, List.getElem?_eq_none (by rw [lrow_len]; omega)]
theorem stab_alike {a b : List CoinV} (h : Srt.Alike coinLt a b) : Stab.Alike PM.Coin.worth (a.map CoinV.pm) (b.map CoinV.pm) := by
  intro k
  have hz := h ⟨k, none, 0, 0, []⟩
  have key : ∀ l : List CoinV, Stab.ofKey PM.Coin.worth k (l.map CoinV.pm) = (l.filter (Srt.eqv coinLt ⟨k, none, 0, 0, []⟩)).map CoinV.pm := by
    intro l
    unfold Stab.ofKey
    rw [List.filter_map]
    congr 1
    apply List.filter_congr
    intro x _
    show decide (x.worth = k) = (!decide (k < x.worth) && !decide (x.worth < k))
    by_cases h1 : k < x.worth
    · simp [h1]; omega
    · by_cases h2 : x.worth < k
      · simp [h1, h2]; omega
      · have h3 : x.worth = k := by omega
        simp [h3]
  rw [key a, key b, hz]
theorem stab_up {a : List CoinV} (h : Srt.Up coinLt a) : Stab.Up PM.Coin.worth (a.map CoinV.pm) := by
  unfold Stab.Up
  rw [List.pairwise_map]
  exact h.imp (fun {x y} hxy => by simp only [coinLt, decide_eq_false_iff_not, CoinV.pm] at *; omega)
theorem row_step {T R R2 Y : List CoinV} {i : Nat} (hT : Srt.Up coinLt T) (hR : R.map CoinV.pm = PM.row (T.map CoinV.pm) i) (hY : Y.map CoinV.pm = PM.packs (R.map CoinV.pm)) (hu : Srt.Up coinLt R2) (ha : Srt.Alike coinLt R2 (T ++ Y)) :
    R2.map CoinV.pm = PM.row (T.map CoinV.pm) (i + 1) := by
  have hTu := stab_up hT
  have hp : Stab.Up PM.Coin.worth (PM.packs (R.map CoinV.pm)) := PM.packs_up _ (by rw [hR]; exact PM.row_up _ hTu i)
  have ha2 := stab_alike ha
  rw [List.map_append, hY] at ha2
  show _ = PM.merge (T.map CoinV.pm) (PM.packs (PM.row (T.map CoinV.pm) i))
  rw [← hR]
  exact Stab.unique (stab_up hu) (PM.merge_up _ _ hTu hp) (ha2.trans (PM.merge_alike _ _ hTu).symm)
theorem packs_ins : ∀ (l : List PM.Coin) (x : PM.Coin), x ∈ PM.packs l → ∃ a b, a ∈ l ∧ b ∈ l ∧ x.ins = a.ins ++ b.ins
  | [], x, h => by simp [PM.packs] at h
  | [_], x, h => by simp [PM.packs] at h
  | a :: b :: t, x, h => by
    simp only [PM.packs, List.mem_cons] at h
    rcases h with rfl | h
    · exact ⟨a, b, by simp, by simp, rfl⟩
    · obtain ⟨c, d, hc, hd, e⟩ := packs_ins t x h
      exact ⟨c, d, by simp [hc], by simp [hd], e⟩
theorem row_ins {C : List PM.Coin} {n : Nat} (h : ∀ c ∈ C, ∀ s ∈ c.ins, s < n) : ∀ t, ∀ c ∈ PM.row C t, ∀ s ∈ c.ins, s < n
  | 0 => h
  | t + 1 => fun c hc s hs => by
    rcases (PM.merge_mem c _ _).1 hc with hc | hc
    · exact h c hc s hs
    · obtain ⟨a, b, ha, hb, e⟩ := packs_ins _ c hc
      rw [e] at hs
      rcases List.mem_append.1 hs with hs | hs
      · exact row_ins h t a ha s hs
      · exact row_ins h t b hb s hs
theorem pcnt_le {l : List PM.Coin} {K : Nat} (h : ∀ c ∈ l, c.ins.length ≤ K) (k : Nat) : PM.cnt k l ≤ l.length * K := by
  induction l with
  | nil => simp [PM.cnt]
  | cons a l ih =>
    rw [PM.cnt_cons, List.length_cons, Nat.add_mul]
    have h1 := ih (fun c hc => h c (by simp [hc]))
    have h2 : a.ins.count k ≤ a.ins.length := List.count_le_length
    have h3 := h a (by simp)
    omega
theorem cnt_take {R : List CoinV} {i : Nat} {r : CoinV} (h : R[i]? = some r) (k : Nat) : PM.cnt k ((R.take (i + 1)).map CoinV.pm) = PM.cnt k ((R.take i).map CoinV.pm) + r.ins.count k := by
  rw [List.take_add_one, h, List.map_append, PM.cnt_append]
  simp [PM.cnt, CoinV.pm]
theorem count_take {l : List Nat} {j s : Nat} (h : l[j]? = some s) (k : Nat) : (l.take (j + 1)).count k = (l.take j).count k + (if k = s then 1 else 0) := by
  rw [List.take_add_one, h, List.count_append]
  congr 1
  by_cases hk : k = s
  · subst hk; simp
  · rw [if_neg hk]; simp [List.count_cons]; intro h; exact hk h.symm
theorem Good.at {w0 : World} {L : List Chunk} {x : CoinV} (h : Good w0 L x) {j s : Nat} (hs : x.ins[j]? = some s) : ∃ b o, x.A = some ⟨b, o, none⟩ ∧ Holds w0 L ⟨b, o + ((j : Nat) : Int).toNat * 1, none⟩ (.int .i64 ((s : Nat) : Int)) ∧ j < x.n := by
  have hn := h.n
  have hj := (List.getElem?_eq_some_iff.1 hs).1
  obtain ⟨_, b, o, A, c, he, hA, hh⟩ := h
  injection he with e1 e2 e3
  rw [hA (by omega)] at e1
  exact ⟨b, o, e1, hh.at j (by simp [natints, ints, hs]), by omega⟩
theorem flat_one (X : List CoinV) : ∀ c ∈ X.flatMap CoinV.cells, one c = true := by
  intro c hc
  obtain ⟨x, _, hc⟩ := List.mem_flatMap.1 hc
  simp only [CoinV.cells, List.mem_cons, List.not_mem_nil, or_false] at hc
  rcases hc with rfl | rfl <;> rfl
theorem coinN_at {w0 : World} {L : List Chunk} {b o i : Nat} {X : List CoinV} {x : CoinV} (h : HoldsN w0 L b o (X.flatMap CoinV.cells)) (hx : X[i]? = some x) : HoldsN w0 L b (o + ((i : Nat) : Int).toNat * 2) x.cells := by
  rw [Int.toNat_natCast]
  exact h.part (i * 2) x.cells (fun j u hu => by
    have hj := (List.getElem?_eq_some_iff.1 hu).1
    rw [flat_get CoinV.len hx j hj]; exact hu)
theorem cut_same (A : Option Addr) (m sz : Nat) : (if m = 0 then A else A.map (fun x => x.add (0 * sz))) = A := by
  split
  · rfl
  · cases A with
    | none => rfl
    | some a => simp [Addr.add]
theorem perm_two (a b : Chunk) (L : List Chunk) : (a :: b :: L).flatten.Perm (b :: a :: L).flatten := by
  simp only [List.flatten_cons, ← List.append_assoc]
  exact List.Perm.append_right _ List.perm_append_comm
theorem perm_R (A B Z M : Chunk) (L : List Chunk) : (A :: B :: Z :: M :: L).flatten.Perm (Z :: (A ++ (B ++ M)) :: L).flatten := by
  simp only [List.flatten_cons]
  have h : (A ++ (B ++ (Z ++ (M ++ L.flatten)))).Perm (Z ++ (A ++ (B ++ (M ++ L.flatten)))) := by
    rw [← List.append_assoc A, ← List.append_assoc A B (M ++ _), ← List.append_assoc (A ++ B) Z, ← List.append_assoc Z]
    exact List.Perm.append_right _ List.perm_append_comm
  simpa [List.append_assoc] using h
def BadL (cs : List Int) (most : Int) : Prop := most < 1 ∨ 15 < most ∨ 400 < cs.length ∨ (∃ i, i < cs.length ∧ (cs.getD i 0 < 0 ∨ 1073741824 < cs.getD i 0)) ∨ 2 ^ most.toNat < (coinsTo cs cs.length).length
/-- What the lengths are: none or one symbol, or by package-merge. -/
def LenIs (cs : List Int) (m : Nat) (f : Nat → Nat) : Prop :=
  ((coinsTo cs cs.length).length < 2 ∧ ∀ k, f k = PM.cnt k (coinsTo cs cs.length)) ∨
  (2 ≤ (coinsTo cs cs.length).length ∧ ∃ Cs, Stab.Up PM.Coin.worth Cs ∧ Stab.Alike PM.Coin.worth Cs (coinsTo cs cs.length) ∧ Cs.length = (coinsTo cs cs.length).length ∧ ∀ k, f k = PM.cnt k ((PM.row Cs (m - 1)).take (2 * Cs.length - 2)))

theorem lengths_spec (w0 : World) (L : List Chunk) (u : Value) (cs : List Int) (most : Int) (hr : Rd w0 L u 1 cs.length (ints cs)) :
    Meets Try.prog 71 #[u, .int .i64 most] w0 L (fun r L' => (BadL cs most ∧ r = .tuple #[.slice none 0 0, .int .i64 1] ∧ L' = L) ∨
      (¬ BadL cs most ∧ ∃ v E f, r = .tuple #[v, .int .i64 0] ∧ L' = E :: L ∧ Buf 3 1 v (lrow cs.length f) cs.length E ∧ LenIs cs most.toNat f)) := by
  obtain ⟨_, bcs, ocs, Ac, cc, rfl, hAc, hcs⟩ := hr
  refine Meets.of_body [.slice Ac cs.length cc, .int .i64 most] Try.func71 rfl Try.ntmps71 rfl ?_
  refine SC.seq ?_
  refine SC.plain ?_
  refine St.assign rfl rfl ?_
  refine St.assign rfl rfl ?_
  refine St.done ?_
  refine SX.seq ?_
  refine SC.seq ?_
  refine SC.seq ?_
  refine SC.plain ?_
  refine St.move rfl rfl ?_
  refine St.lss rfl rfl rfl ?_
  refine St.move rfl rfl ?_
  refine St.split 20 rfl (fun g20 => ?_) (fun g20 => ?_)
  · refine St.guard_no rfl rfl rfl ?_
    refine St.guard_no rfl rfl rfl ?_
    refine St.pick_true rfl rfl rfl ?_
    refine St.move rfl rfl ?_
    refine St.guard_no rfl rfl rfl ?_
    refine St.guard_no rfl rfl rfl ?_
    refine St.guard_no rfl rfl rfl ?_
    refine St.pick_true rfl rfl rfl ?_
    refine St.done ?_
    refine SX.seq ?_
    refine SC.cond_true rfl ?_
    refine SC.seq ?_
    refine SC.plain ?_
    refine St.assign rfl rfl ?_
    refine St.assign rfl rfl ?_
    refine St.done ?_
    refine SX.seq ?_
    refine SC.ret ?_
    refine SX.seq_ret ?_
    exact SX.ret2 rfl rfl rfl (.inl ⟨.inl (by omega), rfl, rfl⟩)
  · refine St.guard_yes rfl rfl ?_
    refine St.move rfl rfl ?_
    refine St.guard_yes rfl rfl ?_
    refine St.gtr rfl rfl rfl ?_
    refine St.pick_false rfl rfl rfl ?_
    refine St.move rfl rfl ?_
    refine St.split 24 rfl (fun g24 => ?_) (fun g24 => ?_)
    · refine St.guard_no rfl rfl rfl ?_
      refine St.guard_no rfl rfl rfl ?_
      refine St.guard_no rfl rfl rfl ?_
      refine St.pick_true rfl rfl rfl ?_
      refine St.done ?_
      refine SX.seq ?_
      refine SC.cond_true rfl ?_
      refine SC.seq ?_
      refine SC.plain ?_
      refine St.assign rfl rfl ?_
      refine St.assign rfl rfl ?_
      refine St.done ?_
      refine SX.seq ?_
      refine SC.ret ?_
      refine SX.seq_ret ?_
      exact SX.ret2 rfl rfl rfl (.inl ⟨.inr (.inl (by omega)), rfl, rfl⟩)
    · refine St.guard_yes rfl rfl ?_
      refine St.move rfl rfl ?_
      refine St.guard_yes rfl rfl ?_
      refine St.lenSl rfl rfl (by kernel_rfl) ?_
      refine St.guard_yes rfl rfl ?_
      refine St.gtr rfl rfl rfl ?_
      refine St.pick_false rfl rfl rfl ?_
      refine St.done ?_
      refine SX.seq ?_
      refine SC.condp rfl (fun c28 => ?_) (fun c28 => ?_)
      · refine SC.seq ?_
        refine SC.plain ?_
        refine St.assign rfl rfl ?_
        refine St.assign rfl rfl ?_
        refine St.done ?_
        refine SX.seq ?_
        refine SC.ret ?_
        refine SX.seq_ret ?_
        exact SX.ret2 rfl rfl rfl (.inl ⟨.inr (.inr (.inl (by omega))), rfl, rfl⟩)
      · refine SC.skip ?_
        refine SX.seq ?_
        refine SC.seq ?_
        obtain ⟨m, rfl⟩ : ∃ m : Nat, most = (m : Int) := ⟨most.toNat, by omega⟩
        refine SC.plain ?_
        refine St.assign rfl rfl ?_
        refine St.done ?_
        refine SX.seq ?_
        refine SC.seq ?_
        refine SC.seq ?_
        refine SC.plain ?_
        refine St.move rfl rfl ?_
        refine St.lenSl rfl rfl (by kernel_rfl) ?_
        refine St.move rfl rfl ?_
        refine St.done ?_
        refine SX.seq ?_
        refine SC.block ?_
        refine SC.loop (α := Nat × Value × List CoinV × Chunk × Chunk) (fun s => s.1 ≤ cs.length ∧ s.2.2.1.map CoinV.pm = coinsTo cs s.1 ∧ s.2.2.1.length ≤ s.1 ∧ Buf 194 2 s.2.1 (s.2.2.1.flatMap CoinV.cells) s.2.2.1.length s.2.2.2.1 ∧ (∀ y ∈ s.2.2.1, Good w0 (s.2.2.2.2 :: L) y ∧ Fits 1073741824 1 y) ∧ ∀ j, j < s.1 → 0 ≤ cs.getD j 0 ∧ cs.getD j 0 ≤ 1073741824) (fun s => [(0, .slice Ac cs.length cc), (1, .int .i64 ((m : Nat) : Int)), (6, s.2.1), (29, .slice Ac cs.length cc), (30, .int .i64 ((cs.length : Nat) : Int)), (31, .int .i64 ((s.1 : Nat) : Int))]) (fun s => s.2.2.2.1 :: s.2.2.2.2 :: L) (fun s => cs.length - s.1) (0, _, [], [], []) ⟨Nat.zero_le _, rfl, Nat.le_refl _, Buf.nil _ _, by simp, by intro j hj; omega⟩ ⟨rfl, rfl, rfl, rfl, rfl, rfl, trivial⟩ (List.Perm.refl _) ?_
        rintro ⟨i, v6, Y, E, S⟩ ⟨hin, hYm, hYi, hbf, hYG, hrng⟩
        simp only at hin hYm hYi hbf hYG hrng ⊢
        refine SC.seq ?_
        refine SC.plain ?_
        refine St.lss rfl rfl rfl ?_
        refine St.done ?_
        refine SX.seq ?_
        refine SC.seq ?_
        refine SC.condp rfl (fun c32 => ?_) (fun c32 => ?_)
        · refine SC.skip ?_
          refine SX.seq ?_
          refine SC.seq ?_
          refine SC.block ?_
          refine SC.seq ?_
          refine SC.plain ?_
          refine St.move rfl rfl ?_
          refine St.indexSl (e := 3) (sz := 1) rfl (by first | rfl | (rw [hAc (by omega)]; rfl)) rfl (by kernel_rfl) (by omega) ?_
          refine St.load rfl rfl (by kernel_rfl) (HoldsN.nat (xs := cs) (k := .i64) hcs.cons.cons i (by omega)) ?_
          obtain ⟨c, hc⟩ : ∃ c, c = cs.getD i 0 := ⟨_, rfl⟩
          rw [← hc]
          refine St.assign rfl rfl ?_
          refine St.assign rfl rfl ?_
          refine St.done ?_
          refine SX.seq ?_
          refine SC.seq ?_
          refine SC.seq ?_
          refine SC.plain ?_
          refine St.move rfl rfl ?_
          refine St.lss rfl rfl rfl ?_
          refine St.move rfl rfl ?_
          refine St.split 38 rfl (fun g38 => ?_) (fun g38 => ?_)
          · refine St.guard_no rfl rfl rfl ?_
            refine St.guard_no rfl rfl rfl ?_
            refine St.pick_true rfl rfl rfl ?_
            refine St.done ?_
            refine SX.seq ?_
            refine SC.cond_true rfl ?_
            refine SC.seq ?_
            refine SC.plain ?_
            refine St.assign rfl rfl ?_
            refine St.assign rfl rfl ?_
            refine St.done ?_
            refine SX.seq ?_
            refine SC.ret ?_
            refine SX.seq_ret ?_
            refine SX.blk_ret ?_
            refine SX.seq_ret ?_
            refine SX.seq_ret ?_
            refine SX.blk_ret ?_
            refine SX.seq_ret ?_
            refine SX.weak L (.cons _ (.cons _ (List.Sublist.refl _))) ?_
            exact SX.ret2 rfl rfl rfl (.inl ⟨.inr (.inr (.inr (.inl ⟨i, by omega, .inl (by omega)⟩))), rfl, rfl⟩)
          · refine St.guard_yes rfl rfl ?_
            refine St.move rfl rfl ?_
            refine St.guard_yes rfl rfl ?_
            refine St.gtr rfl rfl rfl ?_
            refine St.pick_false rfl rfl rfl ?_
            refine St.done ?_
            refine SX.seq ?_
            refine SC.condp rfl (fun c41 => ?_) (fun c41 => ?_)
            · refine SC.seq ?_
              refine SC.plain ?_
              refine St.assign rfl rfl ?_
              refine St.assign rfl rfl ?_
              refine St.done ?_
              refine SX.seq ?_
              refine SC.ret ?_
              refine SX.seq_ret ?_
              refine SX.blk_ret ?_
              refine SX.seq_ret ?_
              refine SX.seq_ret ?_
              refine SX.blk_ret ?_
              refine SX.seq_ret ?_
              refine SX.weak L (.cons _ (.cons _ (List.Sublist.refl _))) ?_
              exact SX.ret2 rfl rfl rfl (.inl ⟨.inr (.inr (.inr (.inl ⟨i, by omega, .inr (by omega)⟩))), rfl, rfl⟩)
            · refine SC.skip ?_
              refine SX.seq ?_
              refine SC.seq ?_
              refine SC.plain ?_
              refine St.move rfl rfl ?_
              refine St.gtr rfl rfl rfl ?_
              refine St.done ?_
              refine SX.seq ?_
              refine SC.condp rfl (fun c43 => ?_) (fun c43 => ?_)
              · refine SC.plain ?_
                refine St.move rfl rfl ?_
                refine St.move rfl rfl ?_
                refine St.move rfl rfl ?_
                refine St.buildSl (n := 1) (e := 3) [(0, .int .i64 ((i : Nat) : Int))] [.int .i64 ((i : Nat) : Int)] rfl rfl (by kernel_rfl) (fun _ _ h => h.nil) (fun b47 => ?_)
                refine St.build [(0, .int .i64 c), (1, .slice (some ⟨b47, 0, none⟩) 1 1)] [.int .i64 c, .slice (some ⟨b47, 0, none⟩) 1 1] rfl rfl (by kernel_rfl) ?_
                refine St.buildSl (n := 1) (e := 194) [(0, .agg #[.int .i64 c, .slice (some ⟨b47, 0, none⟩) 1 1])] [.int .i64 c, .slice (some ⟨b47, 0, none⟩) 1 1] rfl rfl (by kernel_rfl) (fun _ _ h => h.nil) (fun b49 => ?_)
                refine St.append2 (e := 194) (sz := 2) (bytes := 32) (m := 1) rfl rfl rfl (by kernel_rfl) hbf (Rd.row rfl mem0) (by simp [one]) (by omega) (by omega) (fun _ _ h => h.nil) (fun v2 E2 hb2 _ => ?_)
                refine St.assign rfl rfl ?_
                refine St.done ?_
                refine SX.blk ?_
                refine SX.seq ?_
                refine SC.plain ?_
                first | refine St.addN (b := 1) rfl rfl rfl (by omega) ?_ | refine St.addI rfl rfl rfl (by omega) ?_
                refine St.move rfl rfl ?_
                refine St.done ?_
                refine SX.weak ([⟨b47, [.int .i64 ((i : Nat) : Int)], 3⟩] :: E2 :: S :: L) (.cons _ (List.Sublist.refl _)) ?_
                exact SX.again (i + 1, v2, Y ++ [⟨c, some ⟨b47, 0, none⟩, 1, 1, [i]⟩], E2, [⟨b47, [.int .i64 ((i : Nat) : Int)], 3⟩] ++ S) ⟨by simp only; omega, by simp only; rw [List.map_append, hYm, coinsTo_yes (by omega), ← hc]; rfl, by simp only [List.length_append, List.length_cons, List.length_nil]; omega, by simp only [flat_app, List.length_append, List.length_cons, List.length_nil]; exact hb2, fun y hy => by rcases List.mem_append.1 hy with hy | hy; exact ⟨(hYG y hy).1.mono (fun w hw => hw.sub (by simp)), (hYG y hy).2⟩; rcases List.mem_singleton.1 hy with rfl; exact ⟨Rd.row (cs := [.int .i64 ((i : Nat) : Int)]) (e := 3) rfl (by simp), by simp only; omega, by simp only; omega, Nat.le_refl _⟩, fun j hj => by simp only at hj; by_cases hji : j = i; subst hji; omega; exact hrng j (by omega)⟩ (by simp only; omega) ⟨rfl, rfl, rfl, rfl, rfl, rfl, trivial⟩ (perm_S _ _ _ _)
              · refine SC.skip ?_
                refine SX.blk ?_
                refine SX.seq ?_
                refine SC.plain ?_
                first | refine St.addN (b := 1) rfl rfl rfl (by omega) ?_ | refine St.addI rfl rfl rfl (by omega) ?_
                refine St.move rfl rfl ?_
                refine St.done ?_
                exact SX.again (i + 1, v6, Y, E, S) ⟨by simp only; omega, by simp only; rw [coinsTo_no (by omega)]; exact hYm, by simp only; omega, hbf, hYG, fun j hj => by simp only at hj; by_cases hji : j = i; subst hji; omega; exact hrng j (by omega)⟩ (by simp only; omega) ⟨rfl, rfl, rfl, rfl, rfl, rfl, trivial⟩ (List.Perm.refl _)
        · obtain rfl : i = cs.length := by omega
          obtain ⟨b6r, o6r, A6, c6, rfl, hA6, hh6⟩ := hbf.read
          have hpow : 2 ^ m ≤ 2 ^ 15 := Nat.pow_le_pow_right (by omega) (by omega)
          rw [show 2 ^ 15 = 32768 from rfl] at hpow
          have hYl : Y.length = (coinsTo cs cs.length).length := by rw [← hYm, List.length_map]
          refine SC.exit ?_
          refine SX.seq_exit ?_
          refine SX.seq_exit ?_
          refine SX.hit ?_
          refine SX.seq ?_
          refine SC.seq ?_
          refine SC.seq ?_
          refine SC.plain ?_
          refine St.move rfl rfl ?_
          refine St.lenSl rfl rfl (by kernel_rfl) ?_
          refine St.move rfl rfl ?_
          refine St.shlN (a := 1) rfl rfl rfl (by omega) (by omega) ?_
          refine St.gtr rfl rfl rfl ?_
          refine St.done ?_
          refine SX.seq ?_
          refine SC.condp rfl (fun c56 => ?_) (fun c56 => ?_)
          · refine SC.seq ?_
            refine SC.plain ?_
            refine St.assign rfl rfl ?_
            refine St.assign rfl rfl ?_
            refine St.done ?_
            refine SX.seq ?_
            refine SC.ret ?_
            refine SX.seq_ret ?_
            refine SX.weak L (.cons _ (.cons _ (List.Sublist.refl _))) ?_
            exact SX.ret2 rfl rfl rfl (.inl ⟨.inr (.inr (.inr (.inr (by rw [Int.toNat_natCast]; omega)))), rfl, rfl⟩)
          · refine SC.skip ?_
            refine SX.seq ?_
            refine SC.seq ?_
            have hnb : ¬ BadL cs (m : Int) := fun h => by unfold BadL at h; rcases h with h | h | h | ⟨j, hj, h⟩ | h; omega; omega; omega; have := hrng j hj; omega; rw [Int.toNat_natCast] at h; omega
            refine SC.plain ?_
            refine St.move rfl rfl ?_
            refine St.lenSl rfl rfl (by kernel_rfl) ?_
            refine St.makeSl (e := 3) (zv := .int .i64 0) (bytes := 8) rfl rfl rfl (by kernel_rfl) (by omega) (by omega) (by omega) (fun _ _ h => h.nil) (fun b59 => ?_)
            simp only [Int.toNat_natCast, lrow_zero]
            refine St.assign rfl rfl ?_
            refine St.done ?_
            refine SX.seq ?_
            refine SC.seq ?_
            refine SC.seq ?_
            refine SC.plain ?_
            refine St.move rfl rfl ?_
            refine St.lenSl rfl rfl (by kernel_rfl) ?_
            refine St.lss rfl rfl rfl ?_
            refine St.done ?_
            refine SX.seq ?_
            refine SC.condp rfl (fun c62 => ?_) (fun c62 => ?_)
            · refine SC.seq ?_
              refine SC.seq ?_
              refine SC.plain ?_
              refine St.move rfl rfl ?_
              refine St.lenSl rfl rfl (by kernel_rfl) ?_
              refine St.move rfl rfl ?_
              refine St.done ?_
              refine SX.seq ?_
              refine SC.block ?_
              refine SC.loop (α := Nat) (fun s => s ≤ Y.length) (fun s => [(9, .slice (some ⟨b59, 0, none⟩) cs.length cs.length), (63, .slice A6 Y.length c6), (64, .int .i64 ((Y.length : Nat) : Int)), (65, .int .i64 ((s : Nat) : Int))]) (fun s => [⟨b59, lrow cs.length (fun k => PM.cnt k ((Y.take s).map CoinV.pm)), 3⟩] :: E :: S :: L) (fun s => Y.length - s) 0 (Nat.zero_le _) ⟨rfl, rfl, rfl, rfl, trivial⟩ (List.Perm.refl _) ?_
              rintro i hi
              try simp only at hi ⊢
              refine SC.seq ?_
              refine SC.plain ?_
              refine St.lss rfl rfl rfl ?_
              refine St.done ?_
              refine SX.seq ?_
              refine SC.seq ?_
              refine SC.condp rfl (fun c66 => ?_) (fun c66 => ?_)
              · obtain ⟨y, hy⟩ : ∃ y, Y[i]? = some y := ⟨_, List.getElem?_eq_getElem (by omega)⟩
                have hyY := List.mem_of_getElem? hy
                obtain ⟨j, hj, hyj, _⟩ := coinsTo_mem (c := y.pm) (by rw [← hYm]; exact List.mem_map_of_mem hyY)
                have hins : y.ins = [j] := congrArg PM.Coin.ins hyj
                obtain ⟨yw, yA, yn, yc, yi⟩ := y
                simp only at hins
                subst hins
                obtain ⟨bq, oq, hyA, hyh, hjn⟩ := (hYG _ hyY).1.at (j := 0) (s := j) rfl
                simp only at hyA hjn
                subst hyA
                obtain rfl := hA6 (by omega)
                have hh6E := hh6 w0 ([⟨b59, lrow cs.length (fun k => PM.cnt k ((Y.take i).map CoinV.pm)), 3⟩] :: E :: S :: L) (by simp)
                refine SC.skip ?_
                refine SX.seq ?_
                refine SC.seq ?_
                refine SC.block ?_
                refine SC.seq ?_
                refine SC.plain ?_
                refine St.indexSl (e := 194) (sz := 2) rfl rfl rfl (by kernel_rfl) (by omega) ?_
                refine St.loadAgg (CoinV.cells ⟨yw, some ⟨bq, oq, none⟩, yn, yc, [j]⟩) rfl rfl (by kernel_rfl) (coinN_at (hh6E) hy) ?_
                refine St.alloc [.int .i64 0, .slice none 0 0] rfl (by kernel_rfl) (fun _ _ h => h.nil) (fun ba => ?_)
                refine St.storeN rfl rfl rfl (CoinV.cells ⟨yw, some ⟨bq, oq, none⟩, yn, yc, [j]⟩) rfl (by kernel_rfl) (by simp [CoinV.cells, one]) (by simp [CoinV.cells]) (fun _ h => h.nil) ?_
                rw [show splice [.int .i64 0, .slice none 0 0] 0 (CoinV.cells ⟨yw, some ⟨bq, oq, none⟩, yn, yc, [j]⟩) = CoinV.cells ⟨yw, some ⟨bq, oq, none⟩, yn, yc, [j]⟩ from rfl]
                refine St.done ?_
                refine SX.seq ?_
                refine SC.plain ?_
                refine St.move rfl rfl ?_
                refine St.fieldAddr (off := 1) rfl rfl (by kernel_rfl) ?_
                refine St.load rfl rfl (by kernel_rfl) (by first | exact Holds.row mem0 rfl | exact Holds.row mem1 rfl | exact Holds.row mem2 rfl | exact Holds.row mem3 rfl | exact Holds.row mem4 rfl | exact Holds.row mem5 rfl | exact Holds.row mem6 rfl | exact Holds.row mem7 rfl | exact Holds.row mem8 rfl) ?_
                refine St.indexSl (e := 3) (sz := 1) rfl rfl rfl (by kernel_rfl) (by first | omega | (simp only; omega) | exact ⟨Int.le_refl _, show (0 : Int) < (yn : Int) by omega⟩) ?_
                refine St.load rfl rfl (by kernel_rfl) (fun w hw => hyh w hw.drop.drop.drop) ?_
                refine St.indexSl (e := 3) (sz := 1) rfl rfl rfl (by kernel_rfl) (by omega) ?_
                refine St.store1 rfl rfl rfl rfl (by kernel_rfl) (by rw [lrow_len]; omega) (fun _ h => h.nil) ?_
                rw [show 0 + ((j : Nat) : Int).toNat * 1 = j by omega, lrow_set (v := 1) (by first | rfl | (push_cast; rfl) | omega)]
                refine St.done ?_
                refine SX.blk ?_
                refine SX.seq ?_
                refine SC.plain ?_
                first | refine St.addN (b := 1) rfl rfl rfl (by omega) ?_ | refine St.addI rfl rfl rfl (by omega) ?_
                refine St.move rfl rfl ?_
                refine St.done ?_
                refine SX.drop ?_
                rw [show (fun k => if k = j then 1 else PM.cnt k ((Y.take i).map CoinV.pm)) = (fun k => PM.cnt k ((Y.take (i + 1)).map CoinV.pm)) from funext fun k => by (obtain rfl : i = 0 := by omega); rw [cnt_take hy]; simp only [List.take_zero, List.map_nil, PM.cnt_nil]; by_cases hk : k = j; (subst hk; simp); (rw [if_neg hk, Nat.zero_add]; exact (List.count_eq_zero_of_not_mem (by simpa using hk)).symm)]
                exact SX.again (i + 1) (show i + 1 ≤ Y.length by omega) (by omega) ⟨rfl, rfl, rfl, rfl, trivial⟩ (List.Perm.refl _)
              · obtain rfl : i = Y.length := by omega
                refine SC.exit ?_
                refine SX.seq_exit ?_
                refine SX.seq_exit ?_
                refine SX.hit ?_
                refine SX.seq ?_
                refine SC.seq ?_
                refine SC.plain ?_
                refine St.move rfl rfl ?_
                refine St.assign rfl rfl ?_
                refine St.assign rfl rfl ?_
                refine St.done ?_
                refine SX.seq ?_
                refine SC.ret ?_
                refine SX.seq_ret ?_
                refine SX.weak ([⟨b59, lrow cs.length (fun k => PM.cnt k ((Y.take Y.length).map CoinV.pm)), 3⟩] :: L) (.cons_cons _ (.cons _ (.cons _ (List.Sublist.refl _)))) ?_
                exact SX.ret2 rfl rfl rfl (.inr ⟨hnb, _, _, _, rfl, rfl, Buf.whole (by rw [lrow_len]; omega), .inl ⟨by omega, fun k => by rw [List.take_of_length_le (Nat.le_refl _), hYm]⟩⟩)
            · refine SC.skip ?_
              refine SX.seq ?_
              refine SC.seq ?_
              refine SC.plain ?_
              refine St.assign rfl rfl ?_
              refine St.done ?_
              refine SX.seq ?_
              refine SC.seq ?_
              refine SC.plain ?_
              refine St.move rfl rfl ?_
              refine St.move rfl rfl ?_
              obtain ⟨hbl, ⟨_, h0, _⟩ | ⟨b6, pre6, cap6, tail6, hv6, hE6, hcap6, htl6⟩⟩ := hbf
              · exfalso; omega
              injection hv6 with hv6a _ hv6c
              subst hv6a hv6c hE6
              refine St.perm _ (perm_two _ _ _) ?_
              refine St.call [_, _] rfl (by kernel_rfl) rfl (sortC_spec w0 _ b6 c6 Y.length pre6 tail6 131 coinLt _ (by kernel_rfl) coinLt_swo (worth_cmp w0) Y (fun y hy => by have h := (hYG y hy).2; exact ⟨h.1, Int.le_trans h.2.1 (by decide)⟩) rfl (by omega)) (fun _ _ _ _ h => h.nil) ?_
              rintro r23 L23 ⟨T, hTl, hTu, hTa, rfl⟩
              rw [← hTl]
              rw [← hTl] at hcap6 htl6
              have hTF : ∀ t ∈ T, Fits 1073741824 1 t := fun t ht => (hYG t (hTa.mem coinLt_swo ht)).2
              have hbT : Buf 194 2 (.slice (some ⟨b6, pre6.length, none⟩) T.length c6) (T.flatMap CoinV.cells) T.length [⟨b6, pre6 ++ (T.flatMap CoinV.cells ++ tail6), 194⟩] := ⟨flat_len CoinV.len T, .inr ⟨b6, pre6, c6, tail6, rfl, rfl, hcap6, htl6⟩⟩
              obtain ⟨M0, hM0⟩ : ∃ M0 : Chunk, M0 = [⟨b6, pre6 ++ (T.flatMap CoinV.cells ++ tail6), 194⟩] ++ S := ⟨_, rfl⟩
              have hTr0 : Rd w0 (M0 :: L) (.slice (some ⟨b6, pre6.length, none⟩) T.length c6) 2 T.length (T.flatMap CoinV.cells) := (hbT.rd (w0 := w0) (L := [⟨b6, pre6 ++ (T.flatMap CoinV.cells ++ tail6), 194⟩] :: L) (by simp)).mono (fun w hw => hw.sub (by rw [hM0]; simp))
              have hTG0 : ∀ t ∈ T, Good w0 (M0 :: L) t := fun t ht => (hYG t (hTa.mem coinLt_swo ht)).1.mono (fun w hw => hw.sub (by rw [hM0]; simp))
              refine St.perm _ (perm_S _ _ _ _) ?_
              rw [← hM0]
              refine St.done ?_
              refine SX.seq ?_
              refine SC.seq ?_
              refine SC.plain ?_
              refine St.move rfl rfl ?_
              refine St.assign rfl rfl ?_
              refine St.done ?_
              refine SX.seq ?_
              refine SC.seq ?_
              refine SC.seq ?_
              refine SC.plain ?_
              refine St.move rfl rfl ?_
              first | refine St.subN (b := 1) rfl rfl rfl (by omega) (by omega) ?_ | refine St.subI rfl rfl rfl (by omega) ?_
              refine St.move rfl rfl ?_
              refine St.done ?_
              refine SX.seq ?_
              refine SC.block ?_
              refine SC.loop (α := Nat × List CoinV × Option Addr × Nat × Chunk × Nat) (fun s => s.1 ≤ m - 1 ∧ s.2.2.2.2.2 = 2 ^ s.1 ∧ s.2.1.map CoinV.pm = PM.row (T.map CoinV.pm) s.1 ∧ s.2.1.length ≤ 2 * T.length ∧ s.2.1.length ≤ s.2.2.2.1 ∧ Rd w0 (s.2.2.2.2.1 :: L) (.slice s.2.2.1 s.2.1.length s.2.2.2.1) 2 s.2.1.length (s.2.1.flatMap CoinV.cells) ∧ (∀ r ∈ s.2.1, Good w0 (s.2.2.2.2.1 :: L) r ∧ Fits ((1073741824 * s.2.2.2.2.2 : Nat) : Int) s.2.2.2.2.2 r) ∧ Rd w0 (s.2.2.2.2.1 :: L) (.slice (some ⟨b6, pre6.length, none⟩) T.length c6) 2 T.length (T.flatMap CoinV.cells) ∧ ∀ t ∈ T, Good w0 (s.2.2.2.2.1 :: L) t) (fun s => [(6, .slice (some ⟨b6, pre6.length, none⟩) T.length c6), (9, .slice (some ⟨b59, 0, none⟩) cs.length cs.length), (12, .func (.func 131) #[] #[]), (13, .slice s.2.2.1 s.2.1.length s.2.2.2.1), (82, .int .i64 ((m - 1 : Nat) : Int)), (83, .int .i64 ((s.1 : Nat) : Int))]) (fun s => [⟨b59, lrow cs.length (fun _ => 0), 3⟩] :: s.2.2.2.2.1 :: L) (fun s => m - s.1) (0, T, some ⟨b6, pre6.length, none⟩, c6, M0, 1) ⟨Nat.zero_le _, rfl, rfl, by simp only; omega, hcap6, hTr0, fun r hr => ⟨hTG0 r hr, hTF r hr⟩, hTr0, hTG0⟩ ⟨rfl, rfl, rfl, rfl, rfl, rfl, trivial⟩ (List.Perm.refl _) ?_
              clear hTr0 hTG0 hM0 M0
              rintro ⟨i, R, A13, c13, M, p⟩ ⟨him, hp, hrow, hRT, hRc, hRr, hRG, hTr, hTG⟩
              simp only at him hp hrow hRT hRc hRr hRG hTr hTG ⊢
              have hp16 : p ≤ 2 ^ 14 := by rw [hp]; exact Nat.pow_le_pow_right (by omega) (by omega)
              rw [show 2 ^ 14 = 16384 from rfl] at hp16
              have hp1 : 1 ≤ p := by rw [hp]; exact Nat.one_le_two_pow
              refine SC.seq ?_
              refine SC.plain ?_
              refine St.lss rfl rfl rfl ?_
              refine St.done ?_
              refine SX.seq ?_
              refine SC.seq ?_
              refine SC.condp rfl (fun c84 => ?_) (fun c84 => ?_)
              · refine SC.skip ?_
                refine SX.seq ?_
                refine SC.seq ?_
                refine SC.block ?_
                refine SC.seq ?_
                refine SC.plain ?_
                refine St.move rfl rfl ?_
                refine St.move rfl rfl ?_
                refine St.call [_] rfl (by kernel_rfl) rfl (packs_spec w0 _ _ R ((1073741824 * p : Nat) : Int) p (by omega) (by omega) (hRr.mono (fun w hw => hw.drop)) (M :: L) (fun w hw => hw.drop) hRG (by omega)) (fun _ _ _ _ h => h.nil) ?_
                rintro r27 L27 ⟨Yp, Ep, Sp, rfl, hbp, hYpG, hYpF, hYpp⟩
                obtain ⟨bp, op, Ap, cp, rfl, _, _⟩ := hbp.read
                have hYpl := congrArg List.length hYpp
                rw [PM.packs_length, List.length_map, List.length_map] at hYpl
                refine St.buildSl (n := 2) (e := 192) [(0, .slice (some ⟨b6, pre6.length, none⟩) T.length c6), (1, .slice Ap Yp.length cp)] [.slice (some ⟨b6, pre6.length, none⟩) T.length c6, .slice Ap Yp.length cp] rfl rfl (by kernel_rfl) (fun _ _ h => h.nil) (fun b88 => ?_)
                refine St.call [_] rfl (by kernel_rfl) rfl (catC_spec w0 _ _ [(.slice (some ⟨b6, pre6.length, none⟩) T.length c6, T.length, T.flatMap CoinV.cells), (.slice Ap Yp.length cp, Yp.length, Yp.flatMap CoinV.cells)] (Rd.row rfl mem0) (fun x hx => by rcases List.mem_cons.1 hx with rfl | hx; exact ⟨hTr.mono (fun w hw => hw.drop.drop.drop.drop), flat_one _⟩; rcases List.mem_singleton.1 hx with rfl; exact ⟨hbp.rd (by simp), flat_one _⟩) (by simp only [tot_cons, tot_nil]; omega) (by simp)) (fun _ _ _ _ h => h.nil) ?_
                rintro r28 L28 ⟨Ec, rfl, hbc⟩
                simp only [tot_cons, tot_nil, List.flatMap_cons, List.flatMap_nil, List.append_nil, Nat.add_zero] at hbc
                rw [← flat_app] at hbc
                refine St.assign rfl rfl ?_
                refine St.done ?_
                refine SX.seq ?_
                refine SC.plain ?_
                refine St.move rfl rfl ?_
                refine St.move rfl rfl ?_
                obtain ⟨hcl, ⟨_, h0, _⟩ | ⟨bc, prec, capc, tailc, rfl, rfl, hcapc, htlc⟩⟩ := hbc
                · exfalso; omega
                refine St.call [_, _] rfl (by kernel_rfl) rfl (sortC_spec w0 _ bc capc (T.length + Yp.length) prec tailc 131 coinLt _ (by kernel_rfl) coinLt_swo (worth_cmp w0) (T ++ Yp) (fun y hy => by rcases List.mem_append.1 hy with h | h; have := hTF y h; exact ⟨this.1, Int.le_trans this.2.1 (by decide)⟩; have := hYpF y h; exact ⟨this.1, by have := this.2.1; omega⟩) (by simp) (by omega)) (fun _ _ _ _ h => h.nil) ?_
                rintro r29 L29 ⟨R2, hR2l, hR2u, hR2a, rfl⟩
                have hR2l2 : T.length + Yp.length = R2.length := by rw [hR2l, List.length_append]
                rw [hR2l2]
                rw [hR2l2] at hcapc htlc
                have hR2r : Rd w0 (([⟨bc, prec ++ (R2.flatMap CoinV.cells ++ tailc), 194⟩] ++ (Sp ++ M)) :: L) (.slice (some ⟨bc, prec.length, none⟩) R2.length capc) 2 R2.length (R2.flatMap CoinV.cells) := (Buf.rd (E := [⟨bc, prec ++ (R2.flatMap CoinV.cells ++ tailc), 194⟩]) (e := 194) ⟨flat_len CoinV.len R2, .inr ⟨bc, prec, capc, tailc, rfl, rfl, hcapc, htlc⟩⟩ (w0 := w0) (L := [⟨bc, prec ++ (R2.flatMap CoinV.cells ++ tailc), 194⟩] :: L) (by simp)).mono (fun w hw => hw.sub (by simp))
                refine St.done ?_
                refine SX.blk ?_
                refine SX.seq ?_
                refine SC.plain ?_
                first | refine St.addN (b := 1) rfl rfl rfl (by omega) ?_ | refine St.addI rfl rfl rfl (by omega) ?_
                refine St.move rfl rfl ?_
                refine St.done ?_
                refine SX.weak ([⟨bc, prec ++ (R2.flatMap CoinV.cells ++ tailc), 194⟩] :: Sp :: [⟨b59, lrow cs.length (fun _ => 0), 3⟩] :: M :: L) (.cons_cons _ (.cons _ (.cons _ (List.Sublist.refl _)))) ?_
                exact SX.again (i + 1, R2, some ⟨bc, prec.length, none⟩, capc, [⟨bc, prec ++ (R2.flatMap CoinV.cells ++ tailc), 194⟩] ++ (Sp ++ M), 2 * p) ⟨by simp only; omega, by simp only; rw [hp, Nat.pow_succ]; omega, row_step hTu hrow hYpp hR2u hR2a, by simp only; omega, by simp only; omega, hR2r, fun r hr => by rcases List.mem_append.1 (hR2a.mem coinLt_swo hr) with h | h; exact ⟨(hTG r h).mono (fun w hw => hw.sub (by simp)), by have := hTF r h; exact ⟨this.1, by have := this.2.1; simp only; omega, by have := this.2.2; simp only; omega⟩⟩; exact ⟨(hYpG r h).mono (fun w hw => hw.sub (by simp)), by have := hYpF r h; exact ⟨this.1, by have := this.2.1; simp only; omega, this.2.2⟩⟩, hTr.mono (fun w hw => hw.sub (by simp)), fun t ht => (hTG t ht).mono (fun w hw => hw.sub (by simp))⟩ (by simp only; omega) ⟨rfl, rfl, rfl, rfl, rfl, rfl, trivial⟩ (perm_R _ _ _ _ _)
              · refine SC.exit ?_
                refine SX.seq_exit ?_
                refine SX.seq_exit ?_
                refine SX.hit ?_
                refine SX.seq ?_
                refine SC.seq ?_
                refine SC.seq ?_
                obtain rfl : i = m - 1 := by omega
                have hroom := PM.room (T.map CoinV.pm) (m - 1) (by rw [List.length_map, show m - 1 + 1 = m by omega]; omega)
                rw [List.length_map, ← hrow, List.length_map] at hroom
                obtain ⟨_, bR, oR, AR, cR, hve, hAR, hRh⟩ := hRr
                injection hve with hve1 _ hve3
                obtain rfl := hAR (by omega)
                subst hve1
                have hins : ∀ r ∈ R, ∀ s ∈ r.ins, s < cs.length := fun r hr => row_ins (C := T.map CoinV.pm) (fun c hc => by obtain ⟨t, ht, rfl⟩ := List.mem_map.1 hc; obtain ⟨j, hj, hjc, _⟩ := coinsTo_mem (c := t.pm) (by rw [← hYm]; exact List.mem_map_of_mem (hTa.mem coinLt_swo ht)); rw [hjc]; intro s hs; rcases List.mem_singleton.1 hs with rfl; exact hj) (m - 1) r.pm (by rw [← hrow]; exact List.mem_map_of_mem hr)
                refine SC.plain ?_
                refine St.move rfl rfl ?_
                refine St.move rfl rfl ?_
                refine St.lenSl rfl rfl (by kernel_rfl) ?_
                first | refine St.mulN (a := 2) rfl rfl rfl (by omega) ?_ | refine St.mulI rfl rfl rfl (by omega) ?_
                first | refine St.subN (b := 2) rfl rfl rfl (by omega) (by omega) ?_ | refine St.subI rfl rfl rfl (by omega) ?_
                refine St.cut (e := 194) (sz := 2) (l := 0) (h := 2 * T.length - 2) (m := c13) rfl rfl (by kernel_rfl) rfl ⟨_, _, rfl, rfl⟩ rfl (by omega) (by omega) (by omega) (by decide) ?_
                simp only [cut_same, Nat.sub_zero]
                refine St.lenSl rfl rfl (by kernel_rfl) ?_
                refine St.move rfl rfl ?_
                refine St.done ?_
                refine SX.seq ?_
                refine SC.block ?_
                refine SC.loop (α := Nat) (fun s => s ≤ 2 * T.length - 2) (fun s => [(9, .slice (some ⟨b59, 0, none⟩) cs.length cs.length), (99, .slice (some ⟨bR, oR, none⟩) (2 * T.length - 2) c13), (100, .int .i64 ((2 * T.length - 2 : Nat) : Int)), (101, .int .i64 ((s : Nat) : Int))]) (fun s => [⟨b59, lrow cs.length (fun k => PM.cnt k ((R.take s).map CoinV.pm)), 3⟩] :: M :: L) (fun s => 2 * T.length - 2 - s) 0 (Nat.zero_le _) ⟨rfl, rfl, rfl, rfl, trivial⟩ (List.Perm.refl _) ?_
                rintro i hi
                try simp only at hi ⊢
                refine SC.seq ?_
                refine SC.plain ?_
                refine St.lss rfl rfl rfl ?_
                refine St.done ?_
                refine SX.seq ?_
                refine SC.seq ?_
                refine SC.condp rfl (fun c102 => ?_) (fun c102 => ?_)
                · obtain ⟨r, hr⟩ : ∃ r, R[i]? = some r := ⟨_, List.getElem?_eq_getElem (by omega)⟩
                  have hrR := List.mem_of_getElem? hr
                  have hrG := (hRG r hrR).1
                  have hri := hins r hrR
                  have hrn := hrG.n
                  have hrK := (hRG r hrR).2.2.2
                  obtain ⟨rw1, rA, rn, rc, ri⟩ := r
                  simp only at hri hrn hrK
                  refine SC.skip ?_
                  refine SX.seq ?_
                  refine SC.seq ?_
                  refine SC.block ?_
                  refine SC.seq ?_
                  refine SC.plain ?_
                  refine St.indexSl (e := 194) (sz := 2) rfl rfl rfl (by kernel_rfl) (by omega) ?_
                  refine St.loadAgg (CoinV.cells ⟨rw1, rA, rn, rc, ri⟩) rfl rfl (by kernel_rfl) (coinN_at (hRh.cons) hr) ?_
                  refine St.alloc [.int .i64 0, .slice none 0 0] rfl (by kernel_rfl) (fun _ _ h => h.nil) (fun ba => ?_)
                  refine St.storeN rfl rfl rfl (CoinV.cells ⟨rw1, rA, rn, rc, ri⟩) rfl (by kernel_rfl) (by simp [CoinV.cells, one]) (by simp [CoinV.cells]) (fun _ h => h.nil) ?_
                  rw [show splice [.int .i64 0, .slice none 0 0] 0 (CoinV.cells ⟨rw1, rA, rn, rc, ri⟩) = CoinV.cells ⟨rw1, rA, rn, rc, ri⟩ from rfl]
                  refine St.done ?_
                  refine SX.seq ?_
                  refine SC.seq ?_
                  refine SC.plain ?_
                  refine St.fieldAddr (off := 1) rfl rfl (by kernel_rfl) ?_
                  refine St.load rfl rfl (by kernel_rfl) (by first | exact Holds.row mem0 rfl | exact Holds.row mem1 rfl | exact Holds.row mem2 rfl | exact Holds.row mem3 rfl | exact Holds.row mem4 rfl | exact Holds.row mem5 rfl | exact Holds.row mem6 rfl | exact Holds.row mem7 rfl | exact Holds.row mem8 rfl) ?_
                  refine St.lenSl rfl rfl (by kernel_rfl) ?_
                  refine St.move rfl rfl ?_
                  refine St.done ?_
                  refine SX.seq ?_
                  refine SC.block ?_
                  refine SC.loop (α := Nat) (fun s => s ≤ ri.length) (fun s => [(9, .slice (some ⟨b59, 0, none⟩) cs.length cs.length), (99, .slice (some ⟨bR, oR, none⟩) (2 * T.length - 2) c13), (100, .int .i64 ((2 * T.length - 2 : Nat) : Int)), (101, .int .i64 ((i : Nat) : Int)), (106, .slice rA rn rc), (107, .int .i64 ((rn : Nat) : Int)), (108, .int .i64 ((s : Nat) : Int))]) (fun s => [⟨ba, CoinV.cells ⟨rw1, rA, rn, rc, ri⟩, 194⟩] :: [⟨b59, lrow cs.length (fun k => PM.cnt k ((R.take i).map CoinV.pm) + (ri.take s).count k), 3⟩] :: M :: L) (fun s => ri.length - s) 0 (Nat.zero_le _) ⟨rfl, rfl, rfl, rfl, rfl, rfl, rfl, trivial⟩ (List.Perm.refl _) ?_
                  rintro j hj
                  try simp only at hj ⊢
                  refine SC.seq ?_
                  refine SC.plain ?_
                  refine St.lss rfl rfl rfl ?_
                  refine St.done ?_
                  refine SX.seq ?_
                  refine SC.seq ?_
                  refine SC.condp rfl (fun c109 => ?_) (fun c109 => ?_)
                  · obtain ⟨s, hs⟩ : ∃ s, ri[j]? = some s := ⟨_, List.getElem?_eq_getElem (by omega)⟩
                    have hsn := hri s (List.mem_of_getElem? hs)
                    obtain ⟨bq, oq, hrA, hrh, hjn⟩ := hrG.at hs
                    simp only at hrA hjn
                    subst hrA
                    have hc1 := pcnt_le (l := (R.take i).map CoinV.pm) (K := 16384) (fun c hc => by obtain ⟨t, ht, rfl⟩ := List.mem_map.1 hc; have h1 := hRG t (List.mem_of_mem_take ht); have h2 := h1.1.n; have h3 := h1.2.2.2; show t.ins.length ≤ 16384; omega) s
                    rw [List.length_map, List.length_take] at hc1
                    have hc2 : (ri.take j).count s ≤ (ri.take j).length := List.count_le_length
                    rw [List.length_take] at hc2
                    refine SC.skip ?_
                    refine SX.seq ?_
                    refine SC.seq ?_
                    refine SC.block ?_
                    refine SC.seq ?_
                    refine SC.plain ?_
                    refine St.indexSl (e := 3) (sz := 1) rfl rfl rfl (by kernel_rfl) (by omega) ?_
                    refine St.load rfl rfl (by kernel_rfl) (fun w hw => hrh w hw.drop.drop) ?_
                    refine St.assign rfl rfl ?_
                    refine St.done ?_
                    refine SX.seq ?_
                    refine SC.plain ?_
                    refine St.move rfl rfl ?_
                    refine St.move rfl rfl ?_
                    refine St.indexSl (e := 3) (sz := 1) rfl rfl rfl (by kernel_rfl) (by omega) ?_
                    refine St.load rfl rfl (by kernel_rfl) (Holds.row mem1 (by rw [show 0 + ((s : Nat) : Int).toNat * 1 = s by omega]; exact lrow_get (by omega))) ?_
                    first | refine St.addN (b := 1) rfl rfl rfl (by omega) ?_ | refine St.addI rfl rfl rfl (by omega) ?_
                    refine St.indexSl (e := 3) (sz := 1) rfl rfl rfl (by kernel_rfl) (by omega) ?_
                    refine St.store1 rfl rfl rfl rfl (by kernel_rfl) (by rw [lrow_len]; omega) (fun _ h => h.nil) ?_
                    rw [show 0 + ((s : Nat) : Int).toNat * 1 = s by omega, lrow_set (v := PM.cnt s ((R.take i).map CoinV.pm) + (ri.take j).count s + 1) (by first | rfl | (push_cast; rfl) | omega)]
                    refine St.done ?_
                    refine SX.blk ?_
                    refine SX.seq ?_
                    refine SC.plain ?_
                    first | refine St.addN (b := 1) rfl rfl rfl (by omega) ?_ | refine St.addI rfl rfl rfl (by omega) ?_
                    refine St.move rfl rfl ?_
                    refine St.done ?_
                    rw [show (fun k => if k = s then (PM.cnt s ((R.take i).map CoinV.pm) + (ri.take j).count s) + 1 else PM.cnt k ((R.take i).map CoinV.pm) + (ri.take j).count k) = (fun k => PM.cnt k ((R.take i).map CoinV.pm) + (ri.take (j + 1)).count k) from funext fun k => by rw [count_take hs]; by_cases hk : k = s; subst hk; simp; omega; simp [hk]]
                    exact SX.again (j + 1) (show j + 1 ≤ ri.length by omega) (by omega) ⟨rfl, rfl, rfl, rfl, rfl, rfl, rfl, trivial⟩ (List.Perm.refl _)
                  · refine SC.exit ?_
                    refine SX.seq_exit ?_
                    refine SX.seq_exit ?_
                    refine SX.hit ?_
                    refine SX.blk ?_
                    refine SX.seq ?_
                    refine SC.plain ?_
                    first | refine St.addN (b := 1) rfl rfl rfl (by omega) ?_ | refine St.addI rfl rfl rfl (by omega) ?_
                    refine St.move rfl rfl ?_
                    refine St.done ?_
                    refine SX.drop ?_
                    obtain rfl : j = ri.length := by omega
                    rw [show (fun k => PM.cnt k ((R.take i).map CoinV.pm) + (ri.take ri.length).count k) = (fun k => PM.cnt k ((R.take (i + 1)).map CoinV.pm)) from funext fun k => by rw [cnt_take hr, List.take_of_length_le (Nat.le_refl _)]]
                    exact SX.again (i + 1) (show i + 1 ≤ 2 * T.length - 2 by omega) (by omega) ⟨rfl, rfl, rfl, rfl, trivial⟩ (List.Perm.refl _)
                · obtain rfl : i = 2 * T.length - 2 := by omega
                  refine SC.exit ?_
                  refine SX.seq_exit ?_
                  refine SX.seq_exit ?_
                  refine SX.hit ?_
                  refine SX.seq ?_
                  refine SC.seq ?_
                  refine SC.plain ?_
                  refine St.move rfl rfl ?_
                  refine St.assign rfl rfl ?_
                  refine St.assign rfl rfl ?_
                  refine St.done ?_
                  refine SX.seq ?_
                  refine SC.ret ?_
                  refine SX.weak ([⟨b59, lrow cs.length (fun k => PM.cnt k ((R.take (2 * T.length - 2)).map CoinV.pm)), 3⟩] :: L) (.cons_cons _ (.cons _ (List.Sublist.refl _))) ?_
                  exact SX.ret2 rfl rfl rfl (.inr ⟨hnb, _, _, _, rfl, rfl, Buf.whole (by rw [lrow_len]; omega), .inr ⟨by omega, T.map CoinV.pm, stab_up hTu, by rw [← hYm]; exact stab_alike hTa, by rw [List.length_map]; omega, fun k => by first | (rw [← hrow, List.length_map]; simp only [List.map_take]) | (simp only [Int.toNat_natCast]; rw [← hrow, List.length_map]; simp only [List.map_take])⟩⟩)
end Go.Proofs.Ytahafepgmkiabaa
