/- Walks: a sum that is begun, and written to. -/
import Derived.Test.YtahafepgmkiabaaS2
set_option linter.unusedVariables false
set_option linter.unusedSimpArgs false
set_option linter.ambiguousOpen false
namespace Go.Proofs.Ytahafepgmkiabaa
open Go Go.Proofs.Ytahafepgmkiabaa.Sep

/-! the CRC's table does what eight steps do -/
theorem xor_half (x y : Nat) : (x ^^^ y) / 2 = x / 2 ^^^ y / 2 := by
  apply Nat.eq_of_testBit_eq
  intro i
  simp [Nat.testBit_xor, Nat.testBit_div_two]
theorem xor_odd (x y : Nat) : (x ^^^ y) % 2 = (x % 2 + y % 2) % 2 := by
  have h := Nat.testBit_xor x y 0
  simp only [Nat.testBit_zero] at h
  rcases Nat.mod_two_eq_zero_or_one x with hx | hx <;> rcases Nat.mod_two_eq_zero_or_one y with hy | hy <;> rcases Nat.mod_two_eq_zero_or_one (x ^^^ y) with hz | hz <;> simp [hx, hy, hz] at h ⊢
theorem cstep_xor (x y : Nat) : cstep (x ^^^ y) = cstep x ^^^ cstep y := by
  unfold cstep
  rw [xor_half, xor_odd]
  rcases Nat.mod_two_eq_zero_or_one x with hx | hx <;> rcases Nat.mod_two_eq_zero_or_one y with hy | hy <;> simp only [hx, hy]
  · simp
  · simp [Nat.xor_assoc]
  · simp only [show (1 + 0) % 2 = 1 by decide, if_true, show ¬ (0 : Nat) = 1 by decide, if_false]
    rw [Nat.xor_assoc, Nat.xor_comm (y / 2), ← Nat.xor_assoc]
  · simp only [show ¬ (1 + 1) % 2 = 1 by decide, if_true, if_false]
    rw [Nat.xor_assoc, Nat.xor_comm 3988292384, Nat.xor_assoc, Nat.xor_self, Nat.xor_zero]
theorem csteps_xor (x y : Nat) : ∀ n, csteps n (x ^^^ y) = csteps n x ^^^ csteps n y
  | 0 => rfl
  | n + 1 => by simp only [csteps, csteps_xor x y n, cstep_xor]
theorem cstep_two (m : Nat) : cstep (2 * m) = m := by
  unfold cstep
  rw [if_neg (by omega)]; omega
theorem csteps_256 (q : Nat) : csteps 8 (256 * q) = q := by
  have h : ∀ n m, csteps n (2 ^ n * m) = m := by
    intro n
    induction n with
    | zero => intro m; simp [csteps]
    | succ n ih =>
      intro m
      simp only [csteps]
      rw [Nat.pow_succ, Nat.mul_assoc, ih (2 * m), cstep_two]
  exact h 8 q
theorem split_xor (x : Nat) : x = (256 * (x / 256)) ^^^ (x % 256) := by
  apply Nat.eq_of_testBit_eq
  intro i
  rw [Nat.testBit_xor, show (256 : Nat) = 2 ^ 8 by decide, Nat.testBit_mod_two_pow, Nat.testBit_two_pow_mul, Nat.testBit_div_two_pow]
  by_cases h : i < 8
  · simp [h, show ¬ 8 ≤ i by omega]
  · simp [h, show 8 ≤ i by omega, show i - 8 + 8 = i by omega]
theorem crc_table (x b : Nat) : (x / 256) ^^^ csteps 8 ((x % 256) ^^^ b) = csteps 8 (x ^^^ b) := by
  conv => rhs; rw [split_xor x]
  rw [Nat.xor_assoc, csteps_xor (256 * (x / 256)), csteps_256]

/-! the row of a sum -/
def srow (k : Nat) (h : Five) (rv : Value) (len : Nat) (tab : List Nat) (c a b : Nat) : List Value :=
  .int .i64 (k : Int) :: (w32s (list5 h) ++ (rv :: .int .u64 (len : Int) :: (w32s tab ++ [w32 c, w32 a, w32 b])))
section row
variable {k : Nat} {h : Five} {rv : Value} {len : Nat} {tab : List Nat} {c a b : Nat} (ht : tab.length = 256)
theorem srow_kind : (srow k h rv len tab c a b)[0]? = some (.int .i64 (k : Int)) := rfl
theorem srow_rest : (srow k h rv len tab c a b)[6]? = some rv := by obtain ⟨i0, i1, i2, i3, i4⟩ := h; rfl
theorem srow_len : (srow k h rv len tab c a b)[7]? = some (.int .u64 (len : Int)) := by obtain ⟨i0, i1, i2, i3, i4⟩ := h; rfl
theorem srow_set_rest (v : Value) : (srow k h rv len tab c a b).set 6 v = srow k h v len tab c a b := by obtain ⟨i0, i1, i2, i3, i4⟩ := h; rfl
theorem srow_set_len (n : Nat) : (srow k h rv len tab c a b).set 7 (.int .u64 ((n : Nat) : Int)) = srow k h rv n tab c a b := by obtain ⟨i0, i1, i2, i3, i4⟩ := h; rfl
theorem srow_tail (j : Nat) : (srow k h rv len tab c a b)[8 + j]? = (w32s tab ++ [w32 c, w32 a, w32 b])[j]? := by
  obtain ⟨i0, i1, i2, i3, i4⟩ := h
  rw [Nat.add_comm]; rfl
theorem srow_set_tail (j : Nat) (v : Value) : (srow k h rv len tab c a b).set (8 + j) v = .int .i64 (k : Int) :: (w32s (list5 h) ++ (rv :: .int .u64 (len : Int) :: ((w32s tab ++ [w32 c, w32 a, w32 b]).set j v))) := by
  obtain ⟨i0, i1, i2, i3, i4⟩ := h
  rw [Nat.add_comm]; rfl
include ht
theorem srow_length : (srow k h rv len tab c a b).length = 267 := by
  obtain ⟨i0, i1, i2, i3, i4⟩ := h
  simp only [srow, List.length_cons, List.length_append, w32s_length, ht, list5, List.length_nil]
theorem srow_tab (j : Nat) (hj : j < 256) : (srow k h rv len tab c a b)[8 + j]? = some (.int .u32 ((tab.getD j 0 : Nat) : Int)) := by
  rw [srow_tail, List.getElem?_append_left (by rw [w32s_length]; omega), w32s_get _ _ (by omega)]
theorem srow_crc : (srow k h rv len tab c a b)[264]? = some (.int .u32 ((c : Nat) : Int)) := by
  rw [show 264 = 8 + 256 by decide, srow_tail, List.getElem?_append_right (by rw [w32s_length]; omega), w32s_length, ht]; rfl
theorem srow_a : (srow k h rv len tab c a b)[265]? = some (.int .u32 ((a : Nat) : Int)) := by
  rw [show 265 = 8 + 257 by decide, srow_tail, List.getElem?_append_right (by rw [w32s_length]; omega), w32s_length, ht]; rfl
theorem srow_b : (srow k h rv len tab c a b)[266]? = some (.int .u32 ((b : Nat) : Int)) := by
  rw [show 266 = 8 + 258 by decide, srow_tail, List.getElem?_append_right (by rw [w32s_length]; omega), w32s_length, ht]; rfl
theorem srow_set_crc (n : Nat) : (srow k h rv len tab c a b).set 264 (.int .u32 ((n : Nat) : Int)) = srow k h rv len tab n a b := by
  rw [show 264 = 8 + 256 by decide, srow_set_tail, List.set_append_right _ _ (by rw [w32s_length]; omega), w32s_length, ht]; rfl
theorem srow_set_a (n : Nat) : (srow k h rv len tab c a b).set 265 (.int .u32 ((n : Nat) : Int)) = srow k h rv len tab c n b := by
  rw [show 265 = 8 + 257 by decide, srow_set_tail, List.set_append_right _ _ (by rw [w32s_length]; omega), w32s_length, ht]; rfl
theorem srow_set_b (n : Nat) : (srow k h rv len tab c a b).set 266 (.int .u32 ((n : Nat) : Int)) = srow k h rv len tab c a n := by
  rw [show 266 = 8 + 258 by decide, srow_set_tail, List.set_append_right _ _ (by rw [w32s_length]; omega), w32s_length, ht]; rfl
end row
def tab0 : List Nat := List.replicate 256 0
theorem tab0_len : tab0.length = 256 := by unfold tab0; rw [List.length_replicate]
/-- What a sum's row is when xs was written. -/
def sumRow (k : Nat) (xs : List Nat) (rv : Value) : List Value :=
  srow k (if k = 1 then blocks xs h0 (xs.length / 64) else h0) rv (if k = 1 then xs.length else 0) (if k = 2 then tabTo 256 else tab0) (if k = 2 then crcState xs xs.length else 4294967295) (if k = 3 then adlA xs xs.length else 1) (if k = 3 then adlB xs xs.length else 0)
/-- What of it lies in the rest. -/
def restOf (k : Nat) (xs : List Nat) : List Nat := if k = 1 then xs.drop (64 * (xs.length / 64)) else []
def SumAt (k p : Nat) (xs : List Nat) (L L' : List Chunk) : Prop := ∃ rv E, Buf 5 1 rv (bytes (restOf k xs)) (restOf k xs).length E ∧ L' = [⟨p, sumRow k xs rv, 168⟩] :: E :: L
theorem crcState_app (xs ys : List Nat) : ∀ i, i ≤ xs.length → crcState (xs ++ ys) i = crcState xs i
  | 0, _ => rfl
  | i + 1, h => by simp only [crcState, crcState_app xs ys i (by omega), getD_app xs ys i (by omega)]
theorem crcState_more (xs ys : List Nat) (i : Nat) : crcState (xs ++ ys) (xs.length + i + 1) = csteps 8 (crcState (xs ++ ys) (xs.length + i) ^^^ ys.getD i 0) := by
  simp only [crcState]
  rw [List.getD_eq_getElem?_getD, List.getElem?_append_right (by omega), show xs.length + i - xs.length = i by omega, ← List.getD_eq_getElem?_getD]
theorem adlA_app (xs ys : List Nat) : ∀ i, i ≤ xs.length → adlA (xs ++ ys) i = adlA xs i
  | 0, _ => rfl
  | i + 1, h => by simp only [adlA, adlA_app xs ys i (by omega), getD_app xs ys i (by omega)]
theorem adlB_app (xs ys : List Nat) : ∀ i, i ≤ xs.length → adlB (xs ++ ys) i = adlB xs i
  | 0, _ => rfl
  | i + 1, h => by
    rw [adlB, adlB, adlB_app xs ys i (by omega), adlA_app xs ys (i + 1) h]
theorem adlA_more (xs ys : List Nat) (i : Nat) : adlA (xs ++ ys) (xs.length + i + 1) = (adlA (xs ++ ys) (xs.length + i) + ys.getD i 0) % 65521 := by
  simp only [adlA]
  rw [List.getD_eq_getElem?_getD, List.getElem?_append_right (by omega), show xs.length + i - xs.length = i by omega, ← List.getD_eq_getElem?_getD]
theorem tab_get (j : Nat) (hj : j < 256) : (tabTo 256).getD j 0 = csteps 8 j := by
  simp [tabTo, List.getD_eq_getElem?_getD, List.getElem?_map, hj]
theorem tmod_adl (a : Nat) : ((a : Nat) : Int).tmod 65521 = ((a % 65521 : Nat) : Int) := tmod_nat a 65521
theorem add_u64 (a b : Nat) (h : a + b < 18446744073709551616) : IntKind.u64.wrap ((a : Int) + (b : Int)) = ((a + b : Nat) : Int) := by
  rw [show (a : Int) + (b : Int) = ((a + b : Nat) : Int) by omega, wrap_u64, Nat.mod_eq_of_lt h]

theorem begun_spec (w0 : World) (L : List Chunk) (k : Nat) (hk : 1 ≤ k ∧ k ≤ 3) : Meets Try.prog 113 #[.int .i64 ((k : Nat) : Int)] w0 L (fun r L' => ∃ p, r = .pointer (some ⟨p, 0, none⟩) ∧ SumAt k p [] L L') := by
  refine Meets.of_body [.int .i64 ((k : Nat) : Int)] Try.func113 rfl Try.ntmps113 rfl ?_
  refine SC.seq ?_
  refine SC.plain ?_
  refine St.assign rfl rfl ?_
  refine St.done ?_
  refine SX.seq ?_
  refine SC.seq ?_
  refine SC.plain ?_
  refine St.move rfl rfl ?_
  refine St.build [(0, .int .u32 1732584193), (1, .int .u32 4023233417), (2, .int .u32 2562383102), (3, .int .u32 271733878), (4, .int .u32 3285377520)] (w32s (list5 h0)) rfl rfl (by kernel_rfl) ?_
  refine St.build [(0, .int .i64 ((k : Nat) : Int)), (1, .agg (w32s (list5 h0)).toArray), (5, .int .u32 4294967295), (6, .int .u32 1)] (srow k h0 (.slice none 0 0) 0 tab0 4294967295 1 0) rfl rfl (by kernel_rfl) ?_
  refine St.box (srow k h0 (.slice none 0 0) 0 tab0 4294967295 1 0) rfl rfl rfl (fun _ _ h => h.nil) (fun p => ?_)
  refine St.assign rfl rfl ?_
  refine St.done ?_
  refine SX.seq ?_
  refine SC.seq ?_
  refine SC.seq ?_
  refine SC.plain ?_
  refine St.move rfl rfl ?_
  refine St.eql rfl rfl rfl ?_
  refine St.done ?_
  refine SX.seq ?_
  refine SC.condp rfl (fun c9 => ?_) (fun c9 => ?_)
  · have hk2 : k = 2 := by omega
    subst hk2
    refine SC.plain ?_
    refine St.move rfl rfl ?_
    refine St.call [] rfl (by kernel_rfl) rfl (table_spec w0 _) (fun _ _ _ _ h => h.nil) ?_
    rintro r L1 ⟨rfl, rfl⟩
    refine St.nilCheck rfl rfl ?_
    refine St.fieldAddr (off := 8) rfl rfl (by kernel_rfl) ?_
    refine St.storeN rfl rfl rfl (w32s (tabTo 256)) rfl (by rw [w32s_length, tab_len]; kernel_rfl) (fun u hu => by obtain ⟨n, _, rfl⟩ := List.mem_map.1 hu; rfl) (by rw [srow_length tab0_len, w32s_length, tab_len]; decide) (fun _ h => h.nil) ?_
    rw [show splice (srow 2 h0 (.slice none 0 0) 0 tab0 4294967295 1 0) (0 + 8) (w32s (tabTo 256)) = srow 2 h0 (.slice none 0 0) 0 (tabTo 256) 4294967295 1 0 by kernel_rfl]
    refine St.done ?_
    refine SX.seq ?_
    refine SC.seq ?_
    refine SC.plain ?_
    refine St.move rfl rfl ?_
    refine St.assign rfl rfl ?_
    refine St.done ?_
    refine SX.seq ?_
    refine SC.ret ?_
    refine SX.perm ([⟨p, srow 2 h0 (.slice none 0 0) 0 (tabTo 256) 4294967295 1 0, 168⟩] :: [] :: L) (List.Perm.refl _) ?_
    exact SX.ret1 rfl rfl ⟨p, rfl, .slice none 0 0, [], Buf.nil 5 1, rfl⟩
  · have hk2 : k ≠ 2 := by omega
    refine SC.skip ?_
    refine SX.seq ?_
    refine SC.seq ?_
    refine SC.plain ?_
    refine St.move rfl rfl ?_
    refine St.assign rfl rfl ?_
    refine St.done ?_
    refine SX.seq ?_
    refine SC.ret ?_
    refine SX.perm ([⟨p, srow k h0 (.slice none 0 0) 0 tab0 4294967295 1 0, 168⟩] :: [] :: L) (List.Perm.refl _) ?_
    refine SX.ret1 rfl rfl ⟨p, rfl, .slice none 0 0, [], ?_, ?_⟩
    · have : restOf k [] = [] := by unfold restOf; split <;> rfl
      rw [this]; exact Buf.nil 5 1
    · have h1 : sumRow k [] (.slice none 0 0) = srow k h0 (.slice none 0 0) 0 tab0 4294967295 1 0 := by
        unfold sumRow
        rw [if_neg hk2, if_neg hk2]
        have e1 : (if k = 1 then blocks [] h0 (([] : List Nat).length / 64) else h0) = h0 := by split <;> rfl
        have e2 : (if k = 1 then ([] : List Nat).length else 0) = 0 := by split <;> rfl
        have e3 : (if k = 3 then adlA [] ([] : List Nat).length else 1) = 1 := by split <;> rfl
        have e4 : (if k = 3 then adlB [] ([] : List Nat).length else 0) = 0 := by split <;> rfl
        rw [e1, e2, e3, e4]
      rw [h1]
theorem srow_hs {w0 : World} {L : List Chunk} {p : Nat} {k : Nat} {i0 i1 i2 i3 i4 : Nat} {rv : Value} {len : Nat} {tab : List Nat} {c a b : Nat} (h : (⟨p, srow k (i0, i1, i2, i3, i4) rv len tab c a b, 168⟩ : Ent) ∈ L.flatten) :
    HoldsN w0 L p (0 + 1) (w32s [i0, i1, i2, i3, i4]) := (HoldsN.of_row h).part 1 _ fun j u hu => by
  rcases j with _ | _ | _ | _ | _ | j
  · exact hu
  · exact hu
  · exact hu
  · exact hu
  · exact hu
  · simp [w32s] at hu

theorem write1_spec (w0 : World) (L : List Chunk) (p : Nat) (v rv : Value) (xs ys : List Nat) (E : Chunk) (hb : Buf 5 1 rv (bytes (restOf 1 xs)) (restOf 1 xs).length E) (hxl : xs.length ≤ 4611686018427387904) (hx : Rd w0 L v 1 ys.length (bytes ys)) (hl : ys.length ≤ 140737488351232) (hys : ∀ b ∈ ys, b < 256) (hxs : ∀ b ∈ xs, b < 256) :
    Meets Try.prog 50 #[.pointer (some ⟨p, 0, none⟩), v] w0 ([⟨p, sumRow 1 xs rv, 168⟩] :: E :: L) (fun r L' => SumAt 1 p (xs ++ ys) L L') := by
  obtain ⟨_, b, o, A, c, rfl, hA, hr⟩ := hx
  have hx : Rd w0 L (.slice A ys.length c) 1 ys.length (bytes ys) := ⟨by rw [bytes_length, Nat.mul_one], b, o, A, c, rfl, hA, hr⟩
  have hrow : sumRow 1 xs rv = srow 1 (blocks xs h0 (xs.length / 64)) rv xs.length tab0 4294967295 1 0 := rfl
  have hrest : restOf 1 xs = xs.drop (64 * (xs.length / 64)) := rfl
  have hrl : (restOf 1 xs).length = xs.length - 64 * (xs.length / 64) := by rw [hrest, List.length_drop]
  have hall : ∀ b ∈ xs ++ ys, b < 256 := fun b hb => (List.mem_append.1 hb).elim (hxs b) (hys b)
  have hNl : (xs ++ ys).length = xs.length + ys.length := List.length_append
  rw [hrow]
  refine Meets.of_body [.pointer (some ⟨p, 0, none⟩), .slice A ys.length c] Try.func50 rfl Try.ntmps50 rfl ?_
  refine SC.seq ?_
  refine SC.plain ?_
  refine St.move rfl rfl ?_
  refine St.nilCheck rfl rfl ?_
  refine St.fieldAddr (off := 0) rfl rfl (by kernel_rfl) ?_
  refine St.load rfl rfl (by kernel_rfl) (at_row mem0 0 _ srow_kind rfl) ?_
  refine St.done ?_
  refine SX.seq ?_
  refine SC.block ?_
  refine SC.seq ?_
  refine SC.plain ?_
  refine St.eql rfl rfl rfl ?_
  refine St.assign rfl rfl ?_
  refine St.done ?_
  refine SX.seq ?_
  refine SC.condp rfl (fun c12 => ?_) (fun c12 => ?_)
  · refine SC.seq ?_
    refine SC.plain ?_
    refine St.move rfl rfl ?_
    refine St.nilCheck rfl rfl ?_
    refine St.fieldAddr (off := 7) rfl rfl (by kernel_rfl) ?_
    refine St.load rfl rfl (by kernel_rfl) (at_row mem0 7 _ srow_len rfl) ?_
    refine St.move rfl rfl ?_
    refine St.lenSl rfl rfl (by kernel_rfl) ?_
    refine St.convI (k := .u64) rfl rfl (by kernel_rfl) (by kernel_rfl) ?_
    rw [wrap_u64, Nat.mod_eq_of_lt (by omega)]
    refine St.add rfl rfl rfl ?_
    rw [add_u64 _ _ (by omega)]
    refine St.nilCheck rfl rfl ?_
    refine St.fieldAddr (off := 7) rfl rfl (by kernel_rfl) ?_
    refine St.store rfl rfl rfl rfl (by kernel_rfl) (by rw [srow_length tab0_len]; omega) (fun _ h => h.nil) ?_
    rw [srow_set_len]
    refine St.done ?_
    refine SX.seq ?_
    refine SC.seq ?_
    refine SC.plain ?_
    refine St.move rfl rfl ?_
    refine St.move rfl rfl ?_
    refine St.nilCheck rfl rfl ?_
    refine St.fieldAddr (off := 6) rfl rfl (by kernel_rfl) ?_
    refine St.load rfl rfl (by kernel_rfl) (at_row mem0 6 _ srow_rest rfl) ?_
    refine St.move rfl rfl ?_
    refine St.perm _ (perm12 _ _ _) ?_
    refine St.append (e := 5) (sz := 1) (bytes := 1) (xs := bytes (restOf 1 xs)) (n := (restOf 1 xs).length) (news := bytes ys) (m := ys.length) rfl rfl rfl (by kernel_rfl) hb hx.cons.cons (bytes_one _) (by omega) (by omega) (fun _ _ h => h.nil) (fun v2 E2 hb2 _ => ?_)
    rw [← bytes_app, hrest, ← List.drop_append_of_le_length (by omega), ← hrest, hrl] at hb2
    refine St.perm _ (perm12 _ _ _) ?_
    have hb2r := hb2.read
    obtain ⟨b2, o2, A2, c2, rfl, _, _⟩ := hb2r
    refine St.nilCheck rfl rfl ?_
    refine St.fieldAddr (off := 6) rfl rfl (by kernel_rfl) ?_
    refine St.store rfl rfl rfl rfl (by kernel_rfl) (by rw [srow_length tab0_len]; omega) (fun _ h => h.nil) ?_
    rw [srow_set_rest, ← blocks_app xs ys h0 (xs.length / 64) (by omega)]
    refine St.done ?_
    refine SX.seq ?_
    refine SC.block ?_
    refine SC.loop (α := Nat × Value × Chunk) (fun s => 64 * s.1 ≤ xs.length + ys.length ∧ Buf 5 1 s.2.1 (bytes ((xs ++ ys).drop (64 * s.1))) (xs.length + ys.length - 64 * s.1) s.2.2) (fun s => [(0, .pointer (some ⟨p, 0, none⟩))]) (fun s => [⟨p, srow 1 (blocks (xs ++ ys) h0 s.1) s.2.1 (xs.length + ys.length) tab0 4294967295 1 0, 168⟩] :: s.2.2 :: L) (fun s => xs.length + ys.length - 64 * s.1) (xs.length / 64, .slice A2 (xs.length - 64 * (xs.length / 64) + ys.length) c2, E2) ⟨by simp only; omega, by simp only; rw [show xs.length + ys.length - 64 * (xs.length / 64) = xs.length - 64 * (xs.length / 64) + ys.length by omega]; exact hb2⟩ ⟨rfl, trivial⟩ (List.Perm.refl _) ?_
    rintro ⟨j, rv, E⟩ ⟨hj, hb⟩
    simp only at hj hb
    have hsm := blocks_small (bs := xs ++ ys) h0_small j
    have hnext : blocks (xs ++ ys) h0 (j + 1) = mixOf (blocks (xs ++ ys) h0 j) ((xs ++ ys).drop (64 * j)) := rfl
    show SC _ _ _ [(0, .pointer (some ⟨p, 0, none⟩))] ([⟨p, srow 1 (blocks (xs ++ ys) h0 j) rv (xs.length + ys.length) tab0 4294967295 1 0, 168⟩] :: E :: L)
    have hblk : ∀ n, n = blocks (xs ++ ys) h0 j → n = n := fun _ _ => rfl
    generalize hh : blocks (xs ++ ys) h0 j = hs at hsm hnext ⊢
    obtain ⟨i0, i1, i2, i3, i4⟩ := hs
    have hbr := hb.read
    obtain ⟨b3, o3, A3, c3, rfl, hA3, _⟩ := hbr
    refine SC.seq ?_
    refine SC.seq ?_
    refine SC.plain ?_
    refine St.move rfl rfl ?_
    refine St.nilCheck rfl rfl ?_
    refine St.fieldAddr (off := 6) rfl rfl (by kernel_rfl) ?_
    refine St.load rfl rfl (by kernel_rfl) (at_row mem0 6 _ srow_rest rfl) ?_
    refine St.lenSl rfl rfl (by kernel_rfl) ?_
    refine St.geq rfl rfl rfl ?_
    refine St.done ?_
    refine SX.seq ?_
    refine SC.condp rfl (fun c38 => ?_) (fun c38 => ?_)
    · have hcd := (hb.drop 64 (by omega)).1
      generalize hm : mixOf (i0, i1, i2, i3, i4) ((xs ++ ys).drop (64 * j)) = ms
      obtain ⟨m0, m1, m2, m3, m4⟩ := ms
      refine SC.skip ?_
      refine SX.seq ?_
      refine SC.block ?_
      refine SC.seq ?_
      refine SC.drawn [(0, true), (1, true), (2, true), (3, true), (4, true), (5, true), (6, true), (7, true), (8, true), (9, false), (10, true), (11, true)] [12] ([⟨p, srow 1 (i0, i1, i2, i3, i4) (.slice A3 (xs.length + ys.length - 64 * j) c3) (xs.length + ys.length) tab0 4294967295 1 0, 168⟩] :: E :: L) (by kernel_rfl) (by kernel_rfl) (fun _ h => h) ?_
      refine St.move rfl rfl ?_
      refine St.move rfl rfl ?_
      refine St.nilCheck rfl rfl ?_
      refine St.fieldAddr (off := 1) rfl rfl (by kernel_rfl) ?_
      refine St.loadAgg (w32s [i0, i1, i2, i3, i4]) rfl rfl (by kernel_rfl) (srow_hs mem0) ?_
      refine St.move rfl rfl ?_
      refine St.nilCheck rfl rfl ?_
      refine St.fieldAddr (off := 6) rfl rfl (by kernel_rfl) ?_
      refine St.load rfl rfl (by kernel_rfl) (at_row mem0 6 _ srow_rest rfl) ?_
      refine St.call [.agg (w32s [i0, i1, i2, i3, i4]).toArray, .slice A3 (xs.length + ys.length - 64 * j) c3] rfl (by kernel_rfl) rfl (mix_spec w0 _ _ (xs.length + ys.length - 64 * j) ((xs ++ ys).drop (64 * j)) i0 i1 i2 i3 i4 hsm (hb.rd (List.mem_cons_of_mem _ List.mem_cons_self)) (by omega) (fun b hb => hall b (List.mem_of_mem_drop hb))) (fun _ _ _ h hw => h.1 ▸ hw) ?_
      rintro r L1 ⟨rfl, rfl⟩
      rw [hm]
      refine St.nilCheck rfl rfl ?_
      refine St.fieldAddr (off := 1) rfl rfl (by kernel_rfl) ?_
      refine St.done ?_
      refine SX.tail ?_
      refine St.storeN rfl rfl rfl (w32s [m0, m1, m2, m3, m4]) rfl (by kernel_rfl) (by simp [w32s, w32, one]) (by rw [srow_length tab0_len]; simp [w32s]) (fun _ h => h.nil) ?_
      rw [show splice (srow 1 (i0, i1, i2, i3, i4) (.slice A3 (xs.length + ys.length - 64 * j) c3) (xs.length + ys.length) tab0 4294967295 1 0) (0 + 1) (w32s [m0, m1, m2, m3, m4]) = srow 1 (m0, m1, m2, m3, m4) (.slice A3 (xs.length + ys.length - 64 * j) c3) (xs.length + ys.length) tab0 4294967295 1 0 from rfl]
      refine St.done ?_
      refine SX.seq ?_
      refine SC.plain ?_
      refine St.move rfl rfl ?_
      refine St.move rfl rfl ?_
      refine St.nilCheck rfl rfl ?_
      refine St.fieldAddr (off := 6) rfl rfl (by kernel_rfl) ?_
      refine St.load rfl rfl (by kernel_rfl) (at_row mem0 6 _ srow_rest rfl) ?_
      refine St.cut (e := 5) (sz := 1) (l := 64) (h := xs.length + ys.length - 64 * j) (m := c3) rfl rfl (by kernel_rfl) ⟨_, _, rfl, rfl⟩ rfl rfl (by omega) hcd (Nat.le_refl _) (by simp) ?_
      refine St.nilCheck rfl rfl ?_
      refine St.fieldAddr (off := 6) rfl rfl (by kernel_rfl) ?_
      refine St.store rfl rfl rfl rfl (by kernel_rfl) (by rw [srow_length tab0_len]; omega) (fun _ h => h.nil) ?_
      rw [srow_set_rest]
      refine St.done ?_
      refine SX.blk ?_
      refine SX.again (j + 1, _, E) ⟨by simp only; omega, ?_⟩ (by simp only; omega) ⟨rfl, trivial⟩ (by simp only; (rw [hnext, hm]) <;> exact List.Perm.refl _)
      simp only
      have hd := (hb.drop 64 (by omega)).2
      rw [show (bytes ((xs ++ ys).drop (64 * j))).drop (64 * 1) = bytes ((xs ++ ys).drop (64 * (j + 1))) by simp only [bytes, ← List.map_drop, List.drop_drop]; rw [show 64 * j + 64 * 1 = 64 * (j + 1) by omega], show xs.length + ys.length - 64 * j - 64 = xs.length + ys.length - 64 * (j + 1) by omega] at hd
      exact hd
    · have hje : j = (xs.length + ys.length) / 64 := by omega
      refine SC.exit ?_
      refine SX.seq_exit ?_
      refine SX.seq_exit ?_
      refine SX.hit ?_
      refine SX.blk ?_
      refine SX.ret0 (.inr rfl) rfl ⟨.slice A3 (xs.length + ys.length - 64 * j) c3, E, ?_, ?_⟩
      rotate_left
      · exact (congrArg (fun r => [(⟨p, r, 168⟩ : Ent)] :: E :: L) (show srow 1 (i0, i1, i2, i3, i4) (.slice A3 (xs.length + ys.length - 64 * j) c3) (xs.length + ys.length) tab0 4294967295 1 0 = sumRow 1 (xs ++ ys) (.slice A3 (xs.length + ys.length - 64 * j) c3) by unfold sumRow; rw [if_pos rfl, if_pos rfl, hNl, ← hje, hh]; rfl))
      · have hro : restOf 1 (xs ++ ys) = (xs ++ ys).drop (64 * j) := by unfold restOf; rw [if_pos rfl, hNl, ← hje]
        rw [hro, show ((xs ++ ys).drop (64 * j)).length = xs.length + ys.length - 64 * j by rw [List.length_drop, hNl]]
        exact hb
  · exfalso; omega
theorem write2_spec (w0 : World) (L : List Chunk) (p : Nat) (v rv : Value) (xs ys : List Nat) (E : Chunk) (hb : Buf 5 1 rv (bytes (restOf 2 xs)) (restOf 2 xs).length E) (hxl : xs.length ≤ 4611686018427387904) (hx : Rd w0 L v 1 ys.length (bytes ys)) (hl : ys.length ≤ 140737488351232) (hys : ∀ b ∈ ys, b < 256) (hxs : ∀ b ∈ xs, b < 256) :
    Meets Try.prog 50 #[.pointer (some ⟨p, 0, none⟩), v] w0 ([⟨p, sumRow 2 xs rv, 168⟩] :: E :: L) (fun r L' => SumAt 2 p (xs ++ ys) L L') := by
  obtain ⟨_, b, o, A, c, rfl, hA, hr⟩ := hx
  have hx : Rd w0 L (.slice A ys.length c) 1 ys.length (bytes ys) := ⟨by rw [bytes_length, Nat.mul_one], b, o, A, c, rfl, hA, hr⟩
  have hrow : sumRow 2 xs rv = srow 2 h0 rv 0 (tabTo 256) (crcState (xs ++ ys) (xs.length + 0)) 1 0 := by unfold sumRow; rw [Nat.add_zero, crcState_app _ _ _ (Nat.le_refl _)]; rfl
  have hall : ∀ b ∈ xs ++ ys, b < 256 := fun b hb => (List.mem_append.1 hb).elim (hxs b) (hys b)
  have hNl : (xs ++ ys).length = xs.length + ys.length := List.length_append
  have htl : (tabTo 256).length = 256 := tab_len 256
  rw [hrow]
  refine Meets.of_body [.pointer (some ⟨p, 0, none⟩), .slice A ys.length c] Try.func50 rfl Try.ntmps50 rfl ?_
  refine SC.seq ?_
  refine SC.plain ?_
  refine St.move rfl rfl ?_
  refine St.nilCheck rfl rfl ?_
  refine St.fieldAddr (off := 0) rfl rfl (by kernel_rfl) ?_
  refine St.load rfl rfl (by kernel_rfl) (at_row mem0 0 _ srow_kind rfl) ?_
  refine St.done ?_
  refine SX.seq ?_
  refine SC.block ?_
  refine SC.seq ?_
  refine SC.plain ?_
  refine St.eql rfl rfl rfl ?_
  refine St.assign rfl rfl ?_
  refine St.done ?_
  refine SX.seq ?_
  refine SC.condp rfl (fun c12 => ?_) (fun c12 => ?_)
  · exfalso; omega
  · refine SC.seq ?_
    refine SC.plain ?_
    refine St.eql rfl rfl rfl ?_
    refine St.assign rfl rfl ?_
    refine St.done ?_
    refine SX.seq ?_
    refine SC.condp rfl (fun c59 => ?_) (fun c59 => ?_)
    · refine SC.seq ?_
      refine SC.plain ?_
      refine St.move rfl rfl ?_
      refine St.lenSl rfl rfl (by kernel_rfl) ?_
      refine St.move rfl rfl ?_
      refine St.done ?_
      refine SX.seq ?_
      refine SC.block ?_
      refine SC.loop (α := Nat) (fun i => i ≤ ys.length) (fun i => [(0, .pointer (some ⟨p, 0, none⟩)), (61, .slice A ys.length c), (62, .int .i64 ((ys.length : Nat) : Int)), (63, .int .i64 ((i : Nat) : Int))]) (fun i => [⟨p, srow 2 h0 rv 0 (tabTo 256) (crcState (xs ++ ys) (xs.length + i)) 1 0, 168⟩] :: E :: L) (fun i => ys.length - i) 0 (Nat.zero_le _) ⟨rfl, rfl, rfl, rfl, trivial⟩ (List.Perm.refl _) ?_
      intro i hi
      have hcl := crcState_lt hall (xs.length + i)
      refine SC.seq ?_
      refine SC.plain ?_
      refine St.lss rfl rfl rfl ?_
      refine St.done ?_
      refine SX.seq ?_
      refine SC.seq ?_
      refine SC.condp rfl (fun c64 => ?_) (fun c64 => ?_)
      · have hlt : i < ys.length := by omega
        have hAe := hA (by omega)
        subst hAe
        have hyi := getD_lt hys i
        have hidx : (crcState (xs ++ ys) (xs.length + i) % 256) ^^^ ys.getD i 0 < 256 := Nat.xor_lt_two_pow (n := 8) (by omega) hyi
        refine SC.skip ?_
        refine SX.seq ?_
        refine SC.seq ?_
        refine SC.block ?_
        refine SC.seq ?_
        refine SC.plain ?_
        refine St.indexSl (e := 5) (sz := 1) rfl rfl rfl (by kernel_rfl) (by omega) ?_
        refine St.load rfl rfl (by kernel_rfl) (byte_at hr.cons.cons i hlt) ?_
        refine St.assign rfl rfl ?_
        refine St.done ?_
        refine SX.seq ?_
        refine SC.drawn [(0, true), (1, true), (2, true), (3, true), (4, true), (5, true), (6, true), (7, true), (8, true), (9, true), (10, true), (11, true), (12, true), (13, true), (14, true), (15, true), (16, true), (17, true), (18, true), (19, true), (20, true)] [21] ([⟨p, srow 2 h0 rv 0 (tabTo 256) (crcState (xs ++ ys) (xs.length + i)) 1 0, 168⟩] :: E :: L) (by kernel_rfl) (by kernel_rfl) (fun _ h => h) ?_
        refine St.move rfl rfl ?_
        refine St.move rfl rfl ?_
        refine St.nilCheck rfl rfl ?_
        refine St.fieldAddr (off := 264) rfl rfl (by kernel_rfl) ?_
        refine St.load rfl rfl (by kernel_rfl) (at_row mem0 264 _ (srow_crc htl) rfl) ?_
        refine St.shr rfl rfl rfl (by omega) ?_
        rw [shr_8]
        refine St.move rfl rfl ?_
        refine St.move rfl rfl ?_
        refine St.nilCheck rfl rfl ?_
        refine St.fieldAddr (off := 264) rfl rfl (by kernel_rfl) ?_
        refine St.load rfl rfl (by kernel_rfl) (at_row mem0 264 _ (srow_crc htl) rfl) ?_
        refine St.convI (k := .u8) rfl rfl (by kernel_rfl) (by kernel_rfl) ?_
        rw [conv_u8]
        refine St.move rfl rfl ?_
        refine St.xorI rfl rfl rfl ?_
        rw [xor_u8 _ _ (by omega) hyi]
        refine St.nilCheck rfl rfl ?_
        refine St.fieldAddr (off := 8) rfl rfl (by kernel_rfl) ?_
        refine St.indexArr (n := 256) (sz := 1) rfl rfl rfl (by kernel_rfl) (by omega) ?_
        refine St.load rfl rfl (by kernel_rfl) (at_row mem0 (8 + ((crcState (xs ++ ys) (xs.length + i) % 256) ^^^ ys.getD i 0)) _ (srow_tab htl _ hidx) (by omega)) ?_
        rw [tab_get _ hidx]
        refine St.xorI rfl rfl rfl ?_
        rw [show bits .xor .u32 ((crcState (xs ++ ys) (xs.length + i) / 2 ^ 8 : Nat) : Int) ((csteps 8 ((crcState (xs ++ ys) (xs.length + i) % 256) ^^^ ys.getD i 0) : Nat) : Int) = ((csteps 8 (crcState (xs ++ ys) (xs.length + i) ^^^ ys.getD i 0) : Nat) : Int) from (xor_u32 _ _ (by omega) (csteps_lt (by omega) 8)).trans (congrArg (fun n : Nat => (n : Int)) (crc_table (crcState (xs ++ ys) (xs.length + i)) (ys.getD i 0)))]
        refine St.nilCheck rfl rfl ?_
        refine St.fieldAddr (off := 264) rfl rfl (by kernel_rfl) ?_
        refine St.done ?_
        refine SX.tail ?_
        refine St.store rfl rfl rfl rfl (by kernel_rfl) (by rw [srow_length htl]; omega) (fun _ h => h.nil) ?_
        rw [srow_set_crc htl]
        refine St.done ?_
        refine SX.blk ?_
        refine SX.seq ?_
        refine SC.plain ?_
        refine St.addI rfl rfl rfl (by omega) ?_
        refine St.move rfl rfl ?_
        refine St.done ?_
        exact SX.again (i + 1) (by omega) (by show ys.length - (i + 1) < ys.length - i; omega) ⟨rfl, rfl, rfl, rfl, trivial⟩ (by (rw [show xs.length + (i + 1) = xs.length + i + 1 by omega, crcState_more]) <;> exact List.Perm.refl _)
      · have hie : i = ys.length := by omega
        subst hie
        refine SC.exit ?_
        refine SX.seq_exit ?_
        refine SX.seq_exit ?_
        refine SX.hit ?_
        refine SX.blk ?_
        refine SX.ret0 (.inr rfl) rfl ⟨rv, E, ?_, ?_⟩
        · exact hb
        · exact (congrArg (fun r => [(⟨p, r, 168⟩ : Ent)] :: E :: L) (show srow 2 h0 rv 0 (tabTo 256) (crcState (xs ++ ys) (xs.length + ys.length)) 1 0 = sumRow 2 (xs ++ ys) rv by unfold sumRow; rw [hNl]; rfl))
    · exfalso; omega
theorem write3_spec (w0 : World) (L : List Chunk) (p : Nat) (v rv : Value) (xs ys : List Nat) (E : Chunk) (hb : Buf 5 1 rv (bytes (restOf 3 xs)) (restOf 3 xs).length E) (hxl : xs.length ≤ 4611686018427387904) (hx : Rd w0 L v 1 ys.length (bytes ys)) (hl : ys.length ≤ 140737488351232) (hys : ∀ b ∈ ys, b < 256) (hxs : ∀ b ∈ xs, b < 256) :
    Meets Try.prog 50 #[.pointer (some ⟨p, 0, none⟩), v] w0 ([⟨p, sumRow 3 xs rv, 168⟩] :: E :: L) (fun r L' => SumAt 3 p (xs ++ ys) L L') := by
  obtain ⟨_, b, o, A, c, rfl, hA, hr⟩ := hx
  have hx : Rd w0 L (.slice A ys.length c) 1 ys.length (bytes ys) := ⟨by rw [bytes_length, Nat.mul_one], b, o, A, c, rfl, hA, hr⟩
  have hrow : sumRow 3 xs rv = srow 3 h0 rv 0 tab0 4294967295 (adlA (xs ++ ys) (xs.length + 0)) (adlB (xs ++ ys) (xs.length + 0)) := by unfold sumRow; rw [Nat.add_zero, adlA_app _ _ _ (Nat.le_refl _), adlB_app _ _ _ (Nat.le_refl _)]; rfl
  have hNl : (xs ++ ys).length = xs.length + ys.length := List.length_append
  rw [hrow]
  refine Meets.of_body [.pointer (some ⟨p, 0, none⟩), .slice A ys.length c] Try.func50 rfl Try.ntmps50 rfl ?_
  refine SC.seq ?_
  refine SC.plain ?_
  refine St.move rfl rfl ?_
  refine St.nilCheck rfl rfl ?_
  refine St.fieldAddr (off := 0) rfl rfl (by kernel_rfl) ?_
  refine St.load rfl rfl (by kernel_rfl) (at_row mem0 0 _ srow_kind rfl) ?_
  refine St.done ?_
  refine SX.seq ?_
  refine SC.block ?_
  refine SC.seq ?_
  refine SC.plain ?_
  refine St.eql rfl rfl rfl ?_
  refine St.assign rfl rfl ?_
  refine St.done ?_
  refine SX.seq ?_
  refine SC.condp rfl (fun c12 => ?_) (fun c12 => ?_)
  · exfalso; omega
  · refine SC.seq ?_
    refine SC.plain ?_
    refine St.eql rfl rfl rfl ?_
    refine St.assign rfl rfl ?_
    refine St.done ?_
    refine SX.seq ?_
    refine SC.condp rfl (fun c59 => ?_) (fun c59 => ?_)
    · exfalso; omega
    · refine SC.seq ?_
      refine SC.plain ?_
      refine St.eql rfl rfl rfl ?_
      refine St.assign rfl rfl ?_
      refine St.done ?_
      refine SX.seq ?_
      refine SC.condp rfl (fun c89 => ?_) (fun c89 => ?_)
      · refine SC.seq ?_
        refine SC.plain ?_
        refine St.move rfl rfl ?_
        refine St.lenSl rfl rfl (by kernel_rfl) ?_
        refine St.move rfl rfl ?_
        refine St.done ?_
        refine SX.seq ?_
        refine SC.block ?_
        refine SC.loop (α := Nat) (fun i => i ≤ ys.length) (fun i => [(0, .pointer (some ⟨p, 0, none⟩)), (91, .slice A ys.length c), (92, .int .i64 ((ys.length : Nat) : Int)), (93, .int .i64 ((i : Nat) : Int))]) (fun i => [⟨p, srow 3 h0 rv 0 tab0 4294967295 (adlA (xs ++ ys) (xs.length + i)) (adlB (xs ++ ys) (xs.length + i)), 168⟩] :: E :: L) (fun i => ys.length - i) 0 (Nat.zero_le _) ⟨rfl, rfl, rfl, rfl, trivial⟩ (List.Perm.refl _) ?_
        intro i hi
        have ha := adlA_lt (xs ++ ys) (xs.length + i)
        have hbb := adlB_lt (xs ++ ys) (xs.length + i)
        have ha2 := adlA_lt (xs ++ ys) (xs.length + i + 1)
        have hmo := adlA_more xs ys i
        refine SC.seq ?_
        refine SC.plain ?_
        refine St.lss rfl rfl rfl ?_
        refine St.done ?_
        refine SX.seq ?_
        refine SC.seq ?_
        refine SC.condp rfl (fun c94 => ?_) (fun c94 => ?_)
        · have hlt : i < ys.length := by omega
          have hAe := hA (by omega)
          subst hAe
          have hyi := getD_lt hys i
          refine SC.skip ?_
          refine SX.seq ?_
          refine SC.seq ?_
          refine SC.block ?_
          refine SC.seq ?_
          refine SC.plain ?_
          refine St.indexSl (e := 5) (sz := 1) rfl rfl rfl (by kernel_rfl) (by omega) ?_
          refine St.load rfl rfl (by kernel_rfl) (byte_at hr.cons.cons i hlt) ?_
          refine St.assign rfl rfl ?_
          refine St.done ?_
          refine SX.seq ?_
          refine SC.seq ?_
          refine SC.plain ?_
          refine St.move rfl rfl ?_
          refine St.move rfl rfl ?_
          refine St.nilCheck rfl rfl ?_
          refine St.fieldAddr (off := 265) rfl rfl (by kernel_rfl) ?_
          refine St.load rfl rfl (by kernel_rfl) (at_row mem0 265 _ (srow_a tab0_len) rfl) ?_
          refine St.move rfl rfl ?_
          refine St.convI (k := .u32) rfl rfl (by kernel_rfl) (by kernel_rfl) ?_
          rw [wrap_u32_lt _ (by omega)]
          refine St.add rfl rfl rfl ?_
          rw [add_u32 _ _ (by omega)]
          refine St.rem rfl rfl rfl (by omega) ?_
          rw [tmod_adl, ← hmo]
          refine St.nilCheck rfl rfl ?_
          refine St.fieldAddr (off := 265) rfl rfl (by kernel_rfl) ?_
          refine St.store rfl rfl rfl rfl (by kernel_rfl) (by rw [srow_length tab0_len]; omega) (fun _ h => h.nil) ?_
          rw [srow_set_a tab0_len]
          refine St.done ?_
          refine SX.seq ?_
          refine SC.drawn [(0, true), (1, true), (2, true), (3, true), (4, true), (5, true), (6, true), (7, true), (8, true), (9, true), (10, true), (11, true), (12, true)] [13] ([⟨p, srow 3 h0 rv 0 tab0 4294967295 (adlA (xs ++ ys) (xs.length + i + 1)) (adlB (xs ++ ys) (xs.length + i)), 168⟩] :: E :: L) (by kernel_rfl) (by kernel_rfl) (fun _ h => h) ?_
          refine St.move rfl rfl ?_
          refine St.move rfl rfl ?_
          refine St.nilCheck rfl rfl ?_
          refine St.fieldAddr (off := 266) rfl rfl (by kernel_rfl) ?_
          refine St.load rfl rfl (by kernel_rfl) (at_row mem0 266 _ (srow_b tab0_len) rfl) ?_
          refine St.move rfl rfl ?_
          refine St.nilCheck rfl rfl ?_
          refine St.fieldAddr (off := 265) rfl rfl (by kernel_rfl) ?_
          refine St.load rfl rfl (by kernel_rfl) (at_row mem0 265 _ (srow_a tab0_len) rfl) ?_
          refine St.add rfl rfl rfl ?_
          rw [add_u32 _ _ (by omega)]
          refine St.rem rfl rfl rfl (by omega) ?_
          rw [tmod_adl]
          refine St.nilCheck rfl rfl ?_
          refine St.fieldAddr (off := 266) rfl rfl (by kernel_rfl) ?_
          refine St.done ?_
          refine SX.tail ?_
          refine St.store rfl rfl rfl rfl (by kernel_rfl) (by rw [srow_length tab0_len]; omega) (fun _ h => h.nil) ?_
          rw [srow_set_b tab0_len]
          refine St.done ?_
          refine SX.blk ?_
          refine SX.seq ?_
          refine SC.plain ?_
          refine St.addI rfl rfl rfl (by omega) ?_
          refine St.move rfl rfl ?_
          refine St.done ?_
          exact SX.again (i + 1) (by omega) (by show ys.length - (i + 1) < ys.length - i; omega) ⟨rfl, rfl, rfl, rfl, trivial⟩ (List.Perm.refl _)
        · have hie : i = ys.length := by omega
          subst hie
          refine SC.exit ?_
          refine SX.seq_exit ?_
          refine SX.seq_exit ?_
          refine SX.hit ?_
          refine SX.blk ?_
          refine SX.ret0 (.inr rfl) rfl ⟨rv, E, ?_, ?_⟩
          · exact hb
          · exact (congrArg (fun r => [(⟨p, r, 168⟩ : Ent)] :: E :: L) (show srow 3 h0 rv 0 tab0 4294967295 (adlA (xs ++ ys) (xs.length + ys.length)) (adlB (xs ++ ys) (xs.length + ys.length)) = sumRow 3 (xs ++ ys) rv by unfold sumRow; rw [hNl]; rfl))
      · exfalso; omega
end Go.Proofs.Ytahafepgmkiabaa
