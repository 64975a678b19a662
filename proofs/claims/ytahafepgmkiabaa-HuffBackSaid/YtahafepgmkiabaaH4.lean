/- Walks: huff.New. -/
import Derived.Test.YtahafepgmkiabaaH3
set_option linter.unusedVariables false
set_option linter.unusedSimpArgs false
set_option linter.ambiguousOpen false
set_option linter.unusedSectionVars false
namespace Go.Proofs.Ytahafepgmkiabaa
open Go Go.Proofs.Ytahafepgmkiabaa.Sep

/-! chunks in another order -/
theorem perm12 (a b : Chunk) (L : List Chunk) : (a :: b :: L).flatten.Perm (b :: a :: L).flatten := by
  simp only [List.flatten_cons, ← List.append_assoc]
  exact List.Perm.append_right _ List.perm_append_comm
theorem permc (c : Chunk) {L L' : List Chunk} (h : L.flatten.Perm L'.flatten) : (c :: L).flatten.Perm (c :: L').flatten := by
  simp only [List.flatten_cons]; exact List.Perm.append_left _ h
theorem perm_mid (c : Chunk) (L : List Chunk) : ∀ Es : List Chunk, (Es ++ c :: L).flatten.Perm (c :: (Es ++ L)).flatten
  | [] => List.Perm.refl _
  | D :: Es => (permc D (perm_mid c L Es)).trans (perm12 _ _ _)
theorem perm_put (E : Chunk) (R : List Chunk) : ∀ (Es : List Chunk) (l : Nat), l < Es.length → (E :: (Es.set l [] ++ R)).flatten.Perm (Es.set l E ++ R).flatten
  | [], l, h => by simp at h
  | D :: Es, 0, _ => by simp
  | D :: Es, l + 1, h => by
    simp only [List.set_cons_succ, List.cons_append]
    exact (perm12 E D _).trans (permc D (perm_put E R Es l (by simpa using h)))
theorem perm_get (R : List Chunk) (Es : List Chunk) (l : Nat) (h : l < Es.length) : (Es ++ R).flatten.Perm (Es.getD l [] :: (Es.set l [] ++ R)).flatten := by
  have := perm_put (Es.getD l []) R Es l h
  have e : Es.set l (Es.getD l []) = Es := by
    apply List.ext_getElem?
    intro k
    rw [List.getElem?_set]
    by_cases hk : l = k
    · subst hk; simp [h, List.getD_eq_getElem?_getD]
    · simp [hk]
  rw [e] at this
  exact this.symm

theorem _root_.Go.Proofs.Ytahafepgmkiabaa.Sep.Own.head {w0 w : World} {c : Chunk} {L : List Chunk} (h : Own w0 (c :: L) w) : Own w0 [c] w := h.sub (by simp)
theorem _root_.Go.Proofs.Ytahafepgmkiabaa.Sep.Own.right {w0 w : World} {L : List Chunk} (Es : List Chunk) (h : Own w0 (Es ++ L) w) : Own w0 L w := h.sub (by simp)

/-! the row of a code -/
def crow (f : List Int) (vs : List Value) (d : Int) : List Value := u32s f ++ (vs ++ [.int .i64 d])
section row
variable {f : List Int} {vs : List Value} {d : Int} (hf : f.length = 16) (hv : vs.length = 16)
include hf hv
theorem crow_length : (crow f vs d).length = 33 := by simp [crow, u32s, hf, hv]
theorem crow_first (l : Nat) (h : l < 16) : (crow f vs d)[l]? = some (.int .u32 (f.getD l 0)) := by
  unfold crow
  rw [List.getElem?_append_left (by rw [u32s_length]; omega)]
  simp [u32s, List.getD_eq_getElem?_getD, List.getElem?_eq_getElem (show l < f.length by omega)]
theorem crow_val (l : Nat) (h : l < 16) : (crow f vs d)[0 + 16 + l]? = some (vs.getD l undef) := by
  unfold crow
  rw [List.getElem?_append_right (by rw [u32s_length]; omega), u32s_length, hf, show 0 + 16 + l - 16 = l by omega, List.getElem?_append_left (by omega)]
  simp [List.getD_eq_getElem?_getD, List.getElem?_eq_getElem (show l < vs.length by omega)]
theorem crow_deep : (crow f vs d)[0 + 32]? = some (.int .i64 d) := by
  unfold crow
  rw [List.getElem?_append_right (by rw [u32s_length]; omega), u32s_length, hf, List.getElem?_append_right (by omega), hv]
  rfl
theorem crow_set_first (l : Nat) (h : l < 16) (n : Int) : (crow f vs d).set l (.int .u32 n) = crow (f.set l n) vs d := by
  unfold crow
  rw [List.set_append_left _ _ (by rw [u32s_length]; omega)]
  simp [u32s]
theorem crow_set_val (l : Nat) (h : l < 16) (v : Value) : (crow f vs d).set (0 + 16 + l) v = crow f (vs.set l v) d := by
  unfold crow
  rw [List.set_append_right _ _ (by rw [u32s_length]; omega), u32s_length, hf, show 0 + 16 + l - 16 = l by omega, List.set_append_left _ _ (by omega)]
theorem crow_set_deep (n : Int) : (crow f vs d).set (0 + 32) (.int .i64 n) = crow f vs n := by
  unfold crow
  rw [List.set_append_right _ _ (by rw [u32s_length]; omega), u32s_length, hf, List.set_append_right _ _ (by omega), hv]
  rfl
end row

/-! what New makes -/
abbrev CState := List Int × List (List Int) × Int
def newStep (codes xs : List Int) (i : Nat) (s : CState) : CState :=
  if xs.getD i 0 = 0 then s
  else (if s.2.1.getD (xs.getD i 0).toNat [] = [] then s.1.set (xs.getD i 0).toNat (codes.getD i 0) else s.1, s.2.1.set (xs.getD i 0).toNat (s.2.1.getD (xs.getD i 0).toNat [] ++ [(i : Int)]), max s.2.2 (xs.getD i 0))
def newFold (codes xs : List Int) : Nat → CState
  | 0 => (List.replicate 16 0, List.replicate 16 [], 0)
  | i + 1 => newStep codes xs i (newFold codes xs i)
theorem newFold_len (codes xs : List Int) : ∀ i, (newFold codes xs i).1.length = 16 ∧ (newFold codes xs i).2.1.length = 16
  | 0 => by simp [newFold]
  | i + 1 => by
    have ih := newFold_len codes xs i
    simp only [newFold, newStep]
    split
    · exact ih
    · refine ⟨?_, by simpa using ih.2⟩
      split
      · simpa using ih.1
      · exact ih.1
theorem newFold_short (codes xs : List Int) : ∀ i l, ((newFold codes xs i).2.1.getD l []).length ≤ i
  | 0, l => by
    simp only [newFold, List.getD_eq_getElem?_getD, List.getElem?_replicate]
    split <;> simp
  | i + 1, l => by
    have ih := newFold_short codes xs i
    simp only [newFold, newStep]
    split
    · have := ih l; omega
    · simp only [List.getD_eq_getElem?_getD, List.getElem?_set]
      by_cases h : (xs.getD i 0).toNat = l
      · subst h
        have hi := ih (xs.getD i 0).toNat
        simp only [List.getD_eq_getElem?_getD] at hi
        split
        · split
          · simp; omega
          · simp
        · rename_i hc; exact absurd rfl hc
      · have hi := ih l
        simp only [List.getD_eq_getElem?_getD] at hi
        simp only [List.getD_eq_getElem?_getD] at h
        rw [if_neg h]
        omega
/-- The chunks of a code's symbols. -/
def Syms (syms : List (List Int)) (vs : List Value) (Es : List Chunk) : Prop :=
  vs.length = 16 ∧ Es.length = 16 ∧ ∀ l, l < 16 → Buf 3 1 (vs.getD l undef) (ints (syms.getD l [])) (syms.getD l []).length (Es.getD l [])
theorem Syms.set {syms : List (List Int)} {vs : List Value} {Es : List Chunk} (h : Syms syms vs Es) (hs : syms.length = 16) (l : Nat) (hl : l < 16) (xs : List Int) (v : Value) (E : Chunk) (hb : Buf 3 1 v (ints xs) xs.length E) :
    Syms (syms.set l xs) (vs.set l v) (Es.set l E) := by
  obtain ⟨h1, h2, h3⟩ := h
  refine ⟨by simpa using h1, by simpa using h2, fun k hk => ?_⟩
  simp only [List.getD_eq_getElem?_getD, List.getElem?_set]
  by_cases e : l = k
  · subst e
    simp only [if_true, h1, h2, hs, hl, Option.getD_some]
    exact hb
  · simp only [if_neg e]
    have := h3 k hk
    simp only [List.getD_eq_getElem?_getD] at this
    exact this
/-- A code for reading, of lengths: its row and its symbols. -/
def CodeAt (p : Nat) (xs : List Int) (E : List Chunk) : Prop :=
  ∃ vs Es, Syms (newFold (codesOf xs) xs xs.length).2.1 vs Es ∧ E = [⟨p, crow (newFold (codesOf xs) xs xs.length).1 vs (newFold (codesOf xs) xs xs.length).2.2, 154⟩] :: Es
def NewR (xs : List Int) (L : List Chunk) (r : Value) (L' : List Chunk) : Prop :=
  (codesE xs ≠ 0 ∧ r = .tuple #[.pointer none, .int .i64 (codesE xs)] ∧ L' = L) ∨
    (codesE xs = 0 ∧ ∃ p E, r = .tuple #[.pointer (some ⟨p, 0, none⟩), .int .i64 0] ∧ CodeAt p xs E ∧ L' = E ++ L)
theorem new_skip {codes xs : List Int} {i : Nat} (h : xs.getD i 0 = 0) : newFold codes xs (i + 1) = newFold codes xs i := by simp only [newFold, newStep, if_pos h]
theorem new_step {codes xs : List Int} {i : Nat} (h : ¬ xs.getD i 0 = 0) : newFold codes xs (i + 1) = (if (newFold codes xs i).2.1.getD (xs.getD i 0).toNat [] = [] then (newFold codes xs i).1.set (xs.getD i 0).toNat (codes.getD i 0) else (newFold codes xs i).1,
    (newFold codes xs i).2.1.set (xs.getD i 0).toNat ((newFold codes xs i).2.1.getD (xs.getD i 0).toNat [] ++ [(i : Int)]), max (newFold codes xs i).2.2 (xs.getD i 0)) := by simp only [newFold, newStep, if_neg h]
theorem codesE_ok {xs : List Int} (h : codesE xs = 0) : lensOk xs = true ∧ xs.length ≤ 400 ∧ kraft xs ≤ 32768 := by
  unfold codesE at h
  split at h
  · omega
  · rename_i h1
    split at h
    · omega
    · simp only [not_or] at h1
      exact ⟨by simpa using h1.1, by omega, by omega⟩
theorem lens_at {xs : List Int} (h : lensOk xs = true) (i : Nat) : 0 ≤ xs.getD i 0 ∧ xs.getD i 0 ≤ 15 := by
  rcases Nat.lt_or_ge i xs.length with hi | hi
  · have := (List.all_eq_true.1 h) (xs.getD i 0) (by rw [List.getD_eq_getElem?_getD, List.getElem?_eq_getElem hi]; exact List.getElem_mem hi)
    simpa using this
  · rw [List.getD_eq_getElem?_getD, List.getElem?_eq_none hi]; decide

theorem new_spec (w0 : World) (L : List Chunk) (v : Value) (xs : List Int) (hx : Rd w0 L v 1 xs.length (ints xs)) (hl : xs.length ≤ 35184372088832) :
    Meets Try.prog 32 #[v] w0 L (NewR xs L) := by
  have hx' := hx
  obtain ⟨_, b, o, A, c, rfl, hA, hr⟩ := hx'
  refine Meets.of_body [.slice A xs.length c] Try.func32 rfl Try.ntmps32 rfl ?_
  refine SC.seq ?_
  refine SC.plain ?_
  refine St.assign rfl rfl ?_
  refine St.assign rfl rfl ?_
  refine St.done ?_
  refine SX.seq ?_
  refine SC.seq ?_
  refine SC.plain ?_
  refine St.move rfl rfl ?_
  refine St.call [.slice A xs.length c] rfl (by kernel_rfl) rfl (codes_spec w0 L _ xs hx hl) (fun _ _ _ _ h => h.nil) ?_
  rintro r L1 (⟨hE, rfl, rfl⟩ | ⟨hE, q, rfl, rfl⟩)
  · refine St.move rfl rfl ?_
    refine St.extract rfl rfl rfl ?_
    refine St.extract rfl rfl rfl ?_
    refine St.assign rfl rfl ?_
    refine St.assign rfl rfl ?_
    refine St.done ?_
    refine SX.seq ?_
    refine SC.seq ?_
    refine SC.seq ?_
    refine SC.plain ?_
    refine St.move rfl rfl ?_
    refine St.neq rfl rfl rfl ?_
    refine St.done ?_
    refine SX.seq ?_
    refine SC.condp rfl (fun c15 => ?_) (fun c15 => ?_)
    · refine SC.seq ?_
      refine SC.plain ?_
      refine St.move rfl rfl ?_
      refine St.assign rfl rfl ?_
      refine St.assign rfl rfl ?_
      refine St.done ?_
      refine SX.seq ?_
      refine SC.ret ?_
      refine SX.seq_ret ?_
      exact SX.ret2 rfl rfl rfl (.inl ⟨hE, rfl, rfl⟩)
    · exact absurd hE (by simpa using c15)
  · obtain ⟨hok, hn, hkr⟩ := codesE_ok hE
    refine St.move rfl rfl ?_
    refine St.extract rfl rfl rfl ?_
    refine St.extract rfl rfl rfl ?_
    refine St.assign rfl rfl ?_
    refine St.assign rfl rfl ?_
    refine St.done ?_
    refine SX.seq ?_
    refine SC.seq ?_
    refine SC.seq ?_
    refine SC.plain ?_
    refine St.move rfl rfl ?_
    refine St.neq rfl rfl rfl ?_
    refine St.done ?_
    refine SX.seq ?_
    refine SC.condp rfl (fun c15 => ?_) (fun c15 => ?_)
    · exact absurd rfl c15
    · refine SC.skip ?_
      refine SX.seq ?_
      refine SC.seq ?_
      refine SC.plain ?_
      refine St.build [] (crow (List.replicate 16 0) (List.replicate 16 (.slice none 0 0)) 0) rfl rfl (by kernel_rfl) ?_
      refine St.box (crow (List.replicate 16 0) (List.replicate 16 (.slice none 0 0)) 0) rfl rfl rfl (fun _ _ h => h.nil) (fun p => ?_)
      refine St.assign rfl rfl ?_
      refine St.done ?_
      refine SX.seq ?_
      refine SC.seq ?_
      refine SC.seq ?_
      refine SC.plain ?_
      refine St.move rfl rfl ?_
      refine St.lenSl rfl rfl (by kernel_rfl) ?_
      refine St.move rfl rfl ?_
      refine St.done ?_
      refine SX.seq ?_
      refine SC.block ?_
      refine SC.loop (α := Nat × List Value × List Chunk) (fun x => x.1 ≤ xs.length ∧ Syms (newFold (codesOf xs) xs x.1).2.1 x.2.1 x.2.2) (fun x => [(0, .slice A xs.length c), (4, .slice (some ⟨q, 0, none⟩) xs.length xs.length), (6, .pointer (some ⟨p, 0, none⟩)), (19, .slice A xs.length c), (20, .int .i64 xs.length), (21, .int .i64 x.1)]) (fun x => [⟨p, crow (newFold (codesOf xs) xs x.1).1 x.2.1 (newFold (codesOf xs) xs x.1).2.2, 154⟩] :: (x.2.2 ++ [⟨q, u32s (codesOf xs), 33⟩] :: L)) (fun x => xs.length - x.1) (0, List.replicate 16 (.slice none 0 0), List.replicate 16 []) ⟨by omega, by simp, by simp, fun l hl => ?_⟩ ⟨rfl, rfl, rfl, rfl, rfl, rfl, trivial⟩ (List.Perm.refl _) ?_
      · simp only [newFold, List.getD_eq_getElem?_getD, List.getElem?_replicate, if_pos hl, Option.getD_some]; exact Buf.nil 3 1
      rintro ⟨i, vs, Es⟩ ⟨hi, hsy⟩
      have hfl := newFold_len (codesOf xs) xs i
      have hsh := newFold_short (codesOf xs) xs i
      have hxb := lens_at hok i
      simp only at hi hsy ⊢
      generalize hst : newFold (codesOf xs) xs i = s at *
      obtain ⟨fs, sy, d⟩ := s
      simp only at hfl hsh hsy ⊢
      obtain ⟨hfl, hsl⟩ := hfl
      have hvl := hsy.1
      have hEl := hsy.2.1
      refine SC.seq ?_
      refine SC.plain ?_
      refine St.lss rfl rfl rfl ?_
      refine St.done ?_
      refine SX.seq ?_
      refine SC.seq ?_
      refine SC.condp rfl (fun c22 => ?_) (fun c22 => ?_)
      · have hlt : i < xs.length := by omega
        have hAe := hA (by omega)
        subst hAe
        refine SC.skip ?_
        refine SX.seq ?_
        refine SC.seq ?_
        refine SC.block ?_
        refine SC.seq ?_
        refine SC.plain ?_
        refine St.move rfl rfl ?_
        refine St.indexSl (e := 3) (sz := 1) rfl rfl rfl (by kernel_rfl) (by omega) ?_
        refine St.load rfl rfl (by kernel_rfl) ((hr.mono fun w h => (Own.right Es h.drop).drop).nat i (by omega)) ?_
        refine St.assign rfl rfl ?_
        refine St.assign rfl rfl ?_
        refine St.done ?_
        refine SX.seq ?_
        refine SC.seq ?_
        refine SC.seq ?_
        refine SC.plain ?_
        refine St.move rfl rfl ?_
        refine St.eql rfl rfl rfl ?_
        refine St.done ?_
        refine SX.seq ?_
        refine SC.condp rfl (fun c27 => ?_) (fun c27 => ?_)
        · have hst2 : newFold (codesOf xs) xs (i + 1) = (fs, sy, d) := by rw [new_skip c27, hst]
          have hsy2 : Syms (newFold (codesOf xs) xs (i + 1)).2.1 vs Es := by rw [hst2]; exact hsy
          refine SC.exit ?_
          refine SX.seq_exit ?_
          refine SX.hit ?_
          refine SX.seq ?_
          refine SC.plain ?_
          refine St.addI rfl rfl rfl (by omega) ?_
          refine St.move rfl rfl ?_
          refine St.done ?_
          refine SX.again (i + 1, _, _) ⟨(by omega : i + 1 ≤ xs.length), hsy2⟩ (by show xs.length - (i + 1) < xs.length - i; omega) ⟨rfl, rfl, rfl, rfl, rfl, rfl, trivial⟩ (by simp only [hst2]; exact List.Perm.refl _)
        · have hst3 := new_step (codes := codesOf xs) c27
          rw [hst] at hst3
          simp only at hst3
          generalize hlx : xs.getD i 0 = x at *
          have hxt : x.toNat < 16 := by omega
          have hbuf := hsy.2.2 x.toNat hxt
          have hsx := hsh x.toNat
          generalize hxs : sy.getD x.toNat [] = ys at *
          obtain ⟨bb, bo, bA, bc, hbv, hbA, hbr⟩ := hbuf.read
          have hval := crow_val (d := d) hfl hvl x.toNat hxt
          rw [hbv] at hval
          have hmul : 0 + 16 + x.toNat * 1 = 0 + 16 + x.toNat := by omega
          rw [← hmul] at hval
          refine SC.skip ?_
          refine SX.seq ?_
          refine SC.seq ?_
          refine SC.seq ?_
          refine SC.plain ?_
          refine St.move rfl rfl ?_
          refine St.move rfl rfl ?_
          refine St.nilCheck rfl rfl ?_
          refine St.fieldAddr (off := 16) rfl rfl (by kernel_rfl) ?_
          refine St.indexArr (n := 16) (sz := 1) rfl rfl rfl (by kernel_rfl) (by omega) ?_
          refine St.load rfl rfl (by kernel_rfl) (Holds.row mem0 hval) ?_
          refine St.lenSl rfl rfl (by kernel_rfl) ?_
          refine St.eql rfl rfl rfl ?_
          refine St.done ?_
          refine SX.seq ?_
          refine SC.condp rfl (fun hm => ?_) (fun hm => ?_)
          · have hys : ys = [] := List.eq_nil_of_length_eq_zero (by omega)
            rw [if_pos hys] at hst3
            have hfirst : (crow fs vs d).set (0 + 0 + x.toNat * 1) (.int .u32 ((codesOf xs).getD i 0)) = crow (fs.set x.toNat ((codesOf xs).getD i 0)) vs d := by rw [show 0 + 0 + x.toNat * 1 = x.toNat by omega]; exact crow_set_first hfl hvl _ hxt _
            refine SC.drawn [(0, true), (1, true), (2, true), (3, true), (4, true), (5, true), (6, true), (7, true), (8, true)] [9] ([[⟨q, u32s (codesOf xs), 33⟩]]) (by kernel_rfl) (by kernel_rfl) (fun w h => (Own.right Es h.drop).head) ?_
            refine St.move rfl rfl ?_
            refine St.move rfl rfl ?_
            refine St.move rfl rfl ?_
            refine St.move rfl rfl ?_
            refine St.indexSl (e := 33) (sz := 1) rfl rfl rfl (by kernel_rfl) (by omega) ?_
            refine St.load rfl rfl (by kernel_rfl) ((HoldsN.of_row (cs := u32s (codesOf xs)) (e := 33) mem0).nat (k := .u32) (xs := codesOf xs) i (by rw [codesOf_len]; exact hlt)) ?_
            refine St.nilCheck rfl rfl ?_
            refine St.fieldAddr (off := 0) rfl rfl (by kernel_rfl) ?_
            refine St.indexArr (n := 16) (sz := 1) rfl rfl rfl (by kernel_rfl) (by omega) ?_
            refine St.done ?_
            refine SX.tail ?_
            refine St.store rfl rfl rfl rfl (by kernel_rfl) (by rw [crow_length hfl hvl]; omega) (fun _ h => h.nil) ?_
            rw [hfirst]
            generalize hfs2 : fs.set x.toNat ((codesOf xs).getD i 0) = gs at hst3 ⊢
            have hfl : gs.length = 16 := by rw [← hfs2]; simpa using hfl
            have hval := crow_val (d := d) hfl hvl x.toNat hxt
            rw [hbv, ← hmul] at hval
            refine St.done ?_
            refine SX.seq ?_
            refine SC.seq ?_
            refine SC.drawn [(0, true), (1, true), (2, true), (3, true), (4, true), (5, true), (6, true), (7, true), (8, true), (11, true), (12, true), (9, false), (10, false), (13, true)] [14] ([[⟨p, crow gs vs d, 154⟩]]) (by kernel_rfl) (by kernel_rfl) (fun w h => h.head) ?_
            refine St.move rfl rfl ?_
            refine St.move rfl rfl ?_
            refine St.move rfl rfl ?_
            refine St.move rfl rfl ?_
            refine St.nilCheck rfl rfl ?_
            refine St.fieldAddr (off := 16) rfl rfl (by kernel_rfl) ?_
            refine St.indexArr (n := 16) (sz := 1) rfl rfl rfl (by kernel_rfl) (by omega) ?_
            refine St.load rfl rfl (by kernel_rfl) (Holds.row mem0 hval) ?_
            refine St.move rfl rfl ?_
            refine St.nilCheck rfl rfl ?_
            refine St.fieldAddr (off := 16) rfl rfl (by kernel_rfl) ?_
            refine St.buildSl (e := 3) [(0, .int .i64 i)] [.int .i64 i] rfl rfl (by kernel_rfl) (fun _ _ h => h.drop.head) (fun lit => ?_)
            refine St.perm (Es.getD x.toNat [] :: [⟨lit, [.int .i64 i], 3⟩] :: [⟨p, crow gs vs d, 154⟩] :: (Es.set x.toNat [] ++ [⟨q, u32s (codesOf xs), 33⟩] :: L)) ?_ ?_
            · exact ((permc _ (permc _ (perm_get _ Es x.toNat (by omega)))).trans (permc _ (perm12 _ _ _))).trans (perm12 _ _ _)
            refine St.append (e := 3) (sz := 1) (bytes := 8) (xs := ints ys) (n := ys.length) (news := [.int .i64 i]) (m := 1) rfl rfl rfl (by kernel_rfl) (by rw [← hbv]; exact hbuf) (Rd.row (by simp) mem1) (by simp [one]) (by omega) (by omega) (fun _ _ h => h.drop.drop.head) (fun v2 E2 hb2 _ => ?_)
            have hb3 : Buf 3 1 v2 (ints (ys ++ [(i : Int)])) (ys ++ [(i : Int)]).length E2 := by simpa [ints] using hb2
            have hsy3 := hsy.set hsl x.toNat hxt _ _ _ hb3
            have hvalset := crow_set_val (d := d) hfl hvl x.toNat hxt v2
            rw [← hmul] at hvalset
            refine St.indexArr (n := 16) (sz := 1) rfl rfl rfl (by kernel_rfl) (by omega) ?_
            refine St.done ?_
            refine SX.tail ?_
            refine St.perm ([⟨p, crow gs vs d, 154⟩] :: [⟨lit, [.int .i64 i], 3⟩] :: (Es.set x.toNat E2 ++ [⟨q, u32s (codesOf xs), 33⟩] :: L)) ?_ ?_
            · exact ((perm12 _ _ _).trans (permc _ ((perm12 _ _ _).trans (permc _ (perm_put _ _ Es x.toNat (by omega)))))).trans (perm12 _ _ _)
            refine St.store rfl rfl rfl ?_ (by kernel_rfl) (by rw [crow_length hfl hvl]; omega) (fun _ h => h.nil) ?_
            · obtain ⟨b2, o2, A2, c2, hv2, _⟩ := hb3.read; rw [hv2]; rfl
            rw [hvalset]
            refine St.perm _ (perm12 _ _ _) (St.drop ?_)
            have hvl2 : (vs.set x.toNat v2).length = 16 := by simpa using hvl
            refine St.done ?_
            refine SX.seq ?_
            refine SC.plain ?_
            refine St.move rfl rfl ?_
            refine St.move rfl rfl ?_
            refine St.nilCheck rfl rfl ?_
            refine St.fieldAddr (off := 32) rfl rfl (by kernel_rfl) ?_
            refine St.load rfl rfl (by kernel_rfl) (Holds.row mem0 (crow_deep (d := d) hfl hvl2)) ?_
            refine St.move rfl rfl ?_
            refine St.max2 rfl rfl rfl ?_
            refine St.nilCheck rfl rfl ?_
            refine St.fieldAddr (off := 32) rfl rfl (by kernel_rfl) ?_
            refine St.store rfl rfl rfl rfl (by kernel_rfl) (by rw [crow_length hfl hvl2]; omega) (fun _ h => h.nil) ?_
            rw [crow_set_deep hfl hvl2]
            have hst2 := hst3
            have hsy2 : Syms (newFold (codesOf xs) xs (i + 1)).2.1 (vs.set x.toNat v2) (Es.set x.toNat E2) := by rw [hst3]; exact hsy3
            refine St.done ?_
            refine SX.blk ?_
            refine SX.seq ?_
            refine SC.plain ?_
            refine St.addI rfl rfl rfl (by omega) ?_
            refine St.move rfl rfl ?_
            refine St.done ?_
            refine SX.again (i + 1, _, _) ⟨(by omega : i + 1 ≤ xs.length), hsy2⟩ (by show xs.length - (i + 1) < xs.length - i; omega) ⟨rfl, rfl, rfl, rfl, rfl, rfl, trivial⟩ (by simp only [hst2]; exact List.Perm.refl _)
          · have hys : ¬ ys = [] := fun e => hm (by rw [e]; rfl)
            rw [if_neg hys] at hst3
            obtain ⟨gs, rfl⟩ : ∃ gs, gs = fs := ⟨_, rfl⟩
            refine SC.skip ?_
            refine SX.seq ?_
            refine SC.seq ?_
            refine SC.drawn [(0, true), (1, true), (2, true), (3, true), (4, true), (5, true), (6, true), (7, true), (8, true), (11, true), (12, true), (9, false), (10, false), (13, true)] [14] ([[⟨p, crow gs vs d, 154⟩]]) (by kernel_rfl) (by kernel_rfl) (fun w h => h.head) ?_
            refine St.move rfl rfl ?_
            refine St.move rfl rfl ?_
            refine St.move rfl rfl ?_
            refine St.move rfl rfl ?_
            refine St.nilCheck rfl rfl ?_
            refine St.fieldAddr (off := 16) rfl rfl (by kernel_rfl) ?_
            refine St.indexArr (n := 16) (sz := 1) rfl rfl rfl (by kernel_rfl) (by omega) ?_
            refine St.load rfl rfl (by kernel_rfl) (Holds.row mem0 hval) ?_
            refine St.move rfl rfl ?_
            refine St.nilCheck rfl rfl ?_
            refine St.fieldAddr (off := 16) rfl rfl (by kernel_rfl) ?_
            refine St.buildSl (e := 3) [(0, .int .i64 i)] [.int .i64 i] rfl rfl (by kernel_rfl) (fun _ _ h => h.drop.head) (fun lit => ?_)
            refine St.perm (Es.getD x.toNat [] :: [⟨lit, [.int .i64 i], 3⟩] :: [⟨p, crow gs vs d, 154⟩] :: (Es.set x.toNat [] ++ [⟨q, u32s (codesOf xs), 33⟩] :: L)) ?_ ?_
            · exact ((permc _ (permc _ (perm_get _ Es x.toNat (by omega)))).trans (permc _ (perm12 _ _ _))).trans (perm12 _ _ _)
            refine St.append (e := 3) (sz := 1) (bytes := 8) (xs := ints ys) (n := ys.length) (news := [.int .i64 i]) (m := 1) rfl rfl rfl (by kernel_rfl) (by rw [← hbv]; exact hbuf) (Rd.row (by simp) mem1) (by simp [one]) (by omega) (by omega) (fun _ _ h => h.drop.drop.head) (fun v2 E2 hb2 _ => ?_)
            have hb3 : Buf 3 1 v2 (ints (ys ++ [(i : Int)])) (ys ++ [(i : Int)]).length E2 := by simpa [ints] using hb2
            have hsy3 := hsy.set hsl x.toNat hxt _ _ _ hb3
            have hvalset := crow_set_val (d := d) hfl hvl x.toNat hxt v2
            rw [← hmul] at hvalset
            refine St.indexArr (n := 16) (sz := 1) rfl rfl rfl (by kernel_rfl) (by omega) ?_
            refine St.done ?_
            refine SX.tail ?_
            refine St.perm ([⟨p, crow gs vs d, 154⟩] :: [⟨lit, [.int .i64 i], 3⟩] :: (Es.set x.toNat E2 ++ [⟨q, u32s (codesOf xs), 33⟩] :: L)) ?_ ?_
            · exact ((perm12 _ _ _).trans (permc _ ((perm12 _ _ _).trans (permc _ (perm_put _ _ Es x.toNat (by omega)))))).trans (perm12 _ _ _)
            refine St.store rfl rfl rfl ?_ (by kernel_rfl) (by rw [crow_length hfl hvl]; omega) (fun _ h => h.nil) ?_
            · obtain ⟨b2, o2, A2, c2, hv2, _⟩ := hb3.read; rw [hv2]; rfl
            rw [hvalset]
            refine St.perm _ (perm12 _ _ _) (St.drop ?_)
            have hvl2 : (vs.set x.toNat v2).length = 16 := by simpa using hvl
            refine St.done ?_
            refine SX.seq ?_
            refine SC.plain ?_
            refine St.move rfl rfl ?_
            refine St.move rfl rfl ?_
            refine St.nilCheck rfl rfl ?_
            refine St.fieldAddr (off := 32) rfl rfl (by kernel_rfl) ?_
            refine St.load rfl rfl (by kernel_rfl) (Holds.row mem0 (crow_deep (d := d) hfl hvl2)) ?_
            refine St.move rfl rfl ?_
            refine St.max2 rfl rfl rfl ?_
            refine St.nilCheck rfl rfl ?_
            refine St.fieldAddr (off := 32) rfl rfl (by kernel_rfl) ?_
            refine St.store rfl rfl rfl rfl (by kernel_rfl) (by rw [crow_length hfl hvl2]; omega) (fun _ h => h.nil) ?_
            rw [crow_set_deep hfl hvl2]
            have hst2 := hst3
            have hsy2 : Syms (newFold (codesOf xs) xs (i + 1)).2.1 (vs.set x.toNat v2) (Es.set x.toNat E2) := by rw [hst3]; exact hsy3
            refine St.done ?_
            refine SX.blk ?_
            refine SX.seq ?_
            refine SC.plain ?_
            refine St.addI rfl rfl rfl (by omega) ?_
            refine St.move rfl rfl ?_
            refine St.done ?_
            refine SX.again (i + 1, _, _) ⟨(by omega : i + 1 ≤ xs.length), hsy2⟩ (by show xs.length - (i + 1) < xs.length - i; omega) ⟨rfl, rfl, rfl, rfl, rfl, rfl, trivial⟩ (by simp only [hst2]; exact List.Perm.refl _)
      · have hie : i = xs.length := by omega
        subst hie
        refine SC.exit ?_
        refine SX.seq_exit ?_
        refine SX.seq_exit ?_
        refine SX.hit ?_
        refine SX.seq ?_
        refine SC.seq ?_
        refine SC.plain ?_
        refine St.move rfl rfl ?_
        refine St.assign rfl rfl ?_
        refine St.assign rfl rfl ?_
        refine St.done ?_
        refine SX.seq ?_
        refine SC.ret ?_
        refine SX.perm ([⟨q, u32s (codesOf xs), 33⟩] :: [⟨p, crow fs vs d, 154⟩] :: (Es ++ L)) ((permc _ (perm_mid _ _ _)).trans (perm12 _ _ _)) (SX.drop ?_)
        refine SX.ret2 rfl rfl rfl (.inr ⟨hE, p, _, rfl, ⟨vs, Es, by rw [hst]; exact hsy, rfl⟩, ?_⟩)
        rw [hst]; rfl
end Go.Proofs.Ytahafepgmkiabaa
