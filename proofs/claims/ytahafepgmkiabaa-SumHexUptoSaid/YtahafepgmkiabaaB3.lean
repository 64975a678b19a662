/- Walks: digits read as bytes; the law SumHex. -/
import Derived.Test.YtahafepgmkiabaaS8
import Derived.Test.YtahafepgmkiabaaSepJ
set_option linter.unusedVariables false
set_option linter.unusedSimpArgs false
set_option linter.ambiguousOpen false
namespace Go.Proofs.Ytahafepgmkiabaa
open Go Go.Proofs.Ytahafepgmkiabaa.Sep

/-- A digit's number. -/
def digP (c : Nat) : Nat × Bool := if 48 ≤ c ∧ c ≤ 57 then (c - 48, true) else if 97 ≤ c ∧ c ≤ 102 then (c - 97 + 10, true) else (0, false)
theorem digP_dig (i : Nat) (h : i < 16) : digP (dig i) = (i, true) := by
  unfold digP dig
  by_cases h9 : i < 10
  · rw [if_pos h9, if_pos (by omega)]; congr 1; omega
  · rw [if_neg h9, if_neg (by omega), if_pos (by omega)]; congr 1; omega
theorem digP_none (c : Nat) (h : ∀ j, j < 16 → dig j ≠ c) : digP c = (0, false) := by
  unfold digP
  by_cases h1 : 48 ≤ c ∧ c ≤ 57
  · exact absurd (show dig (c - 48) = c by unfold dig; rw [if_pos (by omega)]; omega) (h _ (by omega))
  · rw [if_neg h1]
    by_cases h2 : 97 ≤ c ∧ c ≤ 102
    · exact absurd (show dig (c - 87) = c by unfold dig; rw [if_neg (by omega)]; omega) (h _ (by omega))
    · rw [if_neg h2]
theorem dig_more {i c : Nat} (h : ∀ j, j < i → dig j ≠ c) (hi : dig i ≠ c) : ∀ j, j < i + 1 → dig j ≠ c := fun j hj => by
  rcases Nat.lt_or_ge j i with h1 | h1
  · exact h j h1
  · have : j = i := by omega
    subst this; exact hi
theorem digP_lt (c : Nat) : (digP c).1 < 16 := by
  unfold digP
  split
  · simp only; omega
  · split
    · simp only; omega
    · decide
/-- Digits as bytes: the first j pairs; whether all are digits. -/
def pairs (cs : List Nat) : Nat → Bool × List Nat
  | 0 => (true, [])
  | j + 1 => ((pairs cs j).1 && ((digP (cs.getD (2 * j) 0)).2 && (digP (cs.getD (2 * j + 1) 0)).2), (pairs cs j).2 ++ [16 * (digP (cs.getD (2 * j) 0)).1 + (digP (cs.getD (2 * j + 1) 0)).1])
def unhexP (cs : List Nat) : Bool × List Nat := if cs.length % 2 = 0 ∧ (pairs cs (cs.length / 2)).1 = true then (true, (pairs cs (cs.length / 2)).2) else (false, [])
theorem pairs_len (cs : List Nat) : ∀ j, (pairs cs j).2.length = j
  | 0 => rfl
  | j + 1 => by simp [pairs, pairs_len cs j]
theorem pairs_lt (cs : List Nat) : ∀ j, ∀ b ∈ (pairs cs j).2, b < 256
  | 0, b, h => by simp [pairs] at h
  | j + 1, b, h => by
    simp only [pairs, List.mem_append, List.mem_singleton] at h
    rcases h with h | rfl
    · exact pairs_lt cs j b h
    · have h1 := digP_lt (cs.getD (2 * j) 0)
      have h2 := digP_lt (cs.getD (2 * j + 1) 0)
      omega
theorem pairs_bad (cs : List Nat) (j : Nat) (h : (pairs cs j).1 = false) : ∀ k, (pairs cs (j + k)).1 = false
  | 0 => h
  | k + 1 => by
    rw [show j + (k + 1) = (j + k) + 1 by omega]
    simp only [pairs, pairs_bad cs j h k, Bool.false_and]
theorem unhex_bad {cs : List Nat} {j : Nat} (hj : 2 * j < cs.length) (h : ((digP (cs.getD (2 * j) 0)).2 && (digP (cs.getD (2 * j + 1) 0)).2) = false) : unhexP cs = (false, []) := by
  unfold unhexP
  refine if_neg (fun hc => ?_)
  have h1 : (pairs cs (j + 1)).1 = false := by simp only [pairs, h, Bool.and_false]
  have := pairs_bad cs (j + 1) h1 (cs.length / 2 - (j + 1))
  rw [show j + 1 + (cs.length / 2 - (j + 1)) = cs.length / 2 by omega] at this
  rw [this] at hc
  exact Bool.false_ne_true hc.2
theorem unhex_done {cs : List Nat} {j : Nat} (h : cs.length % 2 = 0) (hj : j = cs.length / 2) (hok : (pairs cs j).1 = true) : unhexP cs = (true, (pairs cs j).2) := by
  subst hj
  exact if_pos ⟨h, hok⟩
theorem unhex_lt (cs : List Nat) : ∀ b ∈ (unhexP cs).2, b < 256 := by
  unfold unhexP
  split
  · exact pairs_lt cs _
  · intro b h; simp at h
theorem hexOf_get (bs : List Nat) : ∀ j, j < bs.length → (hexOf bs).getD (2 * j) 0 = dig (bs.getD j 0 / 2 ^ 4) ∧ (hexOf bs).getD (2 * j + 1) 0 = dig (bs.getD j 0 &&& 15) := by
  induction bs with
  | nil => intro j h; simp at h
  | cons b bs ih =>
    intro j h
    cases j with
    | zero => exact ⟨rfl, rfl⟩
    | succ j =>
      have := ih j (by simpa using h)
      rw [show 2 * (j + 1) = 2 * j + 1 + 1 by omega]
      simpa [hexOf] using this
theorem and15_mod (b : Nat) : b &&& 15 = b % 16 := Nat.and_two_pow_sub_one_eq_mod b 4
theorem pairs_hex (bs : List Nat) (hb : ∀ b ∈ bs, b < 256) : ∀ j, j ≤ bs.length → pairs (hexOf bs) j = (true, bs.take j)
  | 0, _ => by simp [pairs]
  | j + 1, h => by
    have hg := hexOf_get bs j (by omega)
    have hl := getD_lt hb j
    have hq : bs.getD j 0 / 2 ^ 4 < 16 := by omega
    simp only [pairs]
    rw [pairs_hex bs hb j (by omega), hg.1, hg.2, digP_dig _ hq, digP_dig _ (and15_lt _), and15_mod]
    simp only [Bool.and_self, List.take_add_one]
    congr 1
    rw [show 16 * (bs.getD j 0 / 2 ^ 4) + bs.getD j 0 % 16 = bs.getD j 0 by omega, List.getD_eq_getElem?_getD, List.getElem?_eq_getElem (by omega)]
    rfl
theorem unhex_hex (bs : List Nat) (hb : ∀ b ∈ bs, b < 256) : unhexP (hexOf bs) = (true, bs) := by
  unfold unhexP
  have hl := hexOf_len bs
  rw [show (hexOf bs).length / 2 = bs.length by omega, pairs_hex bs hb _ (Nat.le_refl _), List.take_length]
  exact if_pos ⟨by omega, rfl⟩
def UnhexR (cs : List Nat) (L : List Chunk) (r : Value) (L' : List Chunk) : Prop := ∃ v E, r = .tuple #[v, .bool (unhexP cs).1] ∧ L' = E :: L ∧ Buf 5 1 v (bytes (unhexP cs).2) (unhexP cs).2.length E
theorem nib_or (a b : Nat) (ha : a < 16) (hb : b < 16) : a * 2 ^ 4 ||| b = 16 * a + b := by
  rw [Nat.or_comm, or_add b a 4 (by omega)]; omega

theorem digit_spec (w0 : World) (L : List Chunk) (c : Nat) (hc : c < 256) : Meets Try.prog 117 #[.int .u8 ((c : Nat) : Int)] w0 L (fun r L' => L = L' ∧ r = .tuple #[.int .u8 (((digP c).1 : Nat) : Int), .bool (digP c).2]) := by
  refine Meets.of_body [.int .u8 ((c : Nat) : Int)] Try.func117 rfl Try.ntmps117 rfl ?_
  refine SC.seq ?_
  refine SC.plain ?_
  refine St.assign rfl rfl ?_
  refine St.assign rfl rfl ?_
  refine St.done ?_
  refine SX.seq ?_
  refine SC.seq ?_
  refine SC.block ?_
  refine SC.seq ?_
  refine SC.plain ?_
  refine St.move rfl rfl ?_
  refine St.geq rfl rfl rfl ?_
  refine St.move rfl rfl ?_
  refine St.split 7 rfl (fun g7 => ?_) (fun g7 => ?_)
  · refine St.guard_yes rfl rfl ?_
    refine St.move rfl rfl ?_
    refine St.guard_yes rfl rfl ?_
    refine St.leq rfl rfl rfl ?_
    refine St.pick_true rfl rfl rfl ?_
    refine St.assign rfl rfl ?_
    refine St.done ?_
    refine SX.seq ?_
    refine SC.condp rfl (fun c4 => ?_) (fun c4 => ?_)
    · refine SC.seq ?_
      refine SC.plain ?_
      refine St.move rfl rfl ?_
      first | refine St.subUx un8 (b := 48) rfl rfl rfl (by omega) (by omega) ?_ | refine St.subU un8 (b := 48) rfl rfl rfl (by omega) ?_
      refine St.assign rfl rfl ?_
      refine St.assign rfl rfl ?_
      refine St.done ?_
      refine SX.seq ?_
      refine SC.ret ?_
      refine SX.blk_ret ?_
      refine SX.seq_ret ?_
      first
        | (exfalso; omega)
        | (have hd : digP c = (c - 48, true) := if_pos (by omega); exact SX.ret2 rfl rfl rfl ⟨rfl, by rw [hd]⟩)
        | (have hd : digP c = (c - 97 + 10, true) := (if_neg (by omega)).trans (if_pos (by omega)); exact SX.ret2 rfl rfl rfl ⟨rfl, by rw [hd]⟩)
        | (have hd : digP c = (0, false) := (if_neg (by omega)).trans (if_neg (by omega)); exact SX.ret2 rfl rfl rfl ⟨rfl, by rw [hd]; rfl⟩)
    · refine SC.seq ?_
      refine SC.plain ?_
      refine St.move rfl rfl ?_
      refine St.geq rfl rfl rfl ?_
      refine St.move rfl rfl ?_
      refine St.split 16 rfl (fun g16 => ?_) (fun g16 => ?_)
      · refine St.guard_yes rfl rfl ?_
        refine St.move rfl rfl ?_
        refine St.guard_yes rfl rfl ?_
        refine St.leq rfl rfl rfl ?_
        refine St.pick_true rfl rfl rfl ?_
        refine St.assign rfl rfl ?_
        refine St.done ?_
        refine SX.seq ?_
        refine SC.condp rfl (fun c13 => ?_) (fun c13 => ?_)
        · refine SC.seq ?_
          refine SC.plain ?_
          refine St.move rfl rfl ?_
          first | refine St.subUx un8 (b := 97) rfl rfl rfl (by omega) (by omega) ?_ | refine St.subU un8 (b := 97) rfl rfl rfl (by omega) ?_
          first | refine St.addUx un8 (b := 10) rfl rfl rfl (by omega) ?_ | refine St.addU un8 (b := 10) rfl rfl rfl ?_
          refine St.assign rfl rfl ?_
          refine St.assign rfl rfl ?_
          refine St.done ?_
          refine SX.seq ?_
          refine SC.ret ?_
          refine SX.blk_ret ?_
          refine SX.seq_ret ?_
          first
            | (exfalso; omega)
            | (have hd : digP c = (c - 48, true) := if_pos (by omega); exact SX.ret2 rfl rfl rfl ⟨rfl, by rw [hd]⟩)
            | (have hd : digP c = (c - 97 + 10, true) := (if_neg (by omega)).trans (if_pos (by omega)); exact SX.ret2 rfl rfl rfl ⟨rfl, by rw [hd]⟩)
            | (have hd : digP c = (0, false) := (if_neg (by omega)).trans (if_neg (by omega)); exact SX.ret2 rfl rfl rfl ⟨rfl, by rw [hd]; rfl⟩)
        · refine SC.skip ?_
          refine SX.blk ?_
          refine SX.seq ?_
          refine SC.seq ?_
          refine SC.plain ?_
          refine St.assign rfl rfl ?_
          refine St.assign rfl rfl ?_
          refine St.done ?_
          refine SX.seq ?_
          refine SC.ret ?_
          first
            | (exfalso; omega)
            | (have hd : digP c = (c - 48, true) := if_pos (by omega); exact SX.ret2 rfl rfl rfl ⟨rfl, by rw [hd]⟩)
            | (have hd : digP c = (c - 97 + 10, true) := (if_neg (by omega)).trans (if_pos (by omega)); exact SX.ret2 rfl rfl rfl ⟨rfl, by rw [hd]⟩)
            | (have hd : digP c = (0, false) := (if_neg (by omega)).trans (if_neg (by omega)); exact SX.ret2 rfl rfl rfl ⟨rfl, by rw [hd]; rfl⟩)
      · refine St.guard_no rfl rfl rfl ?_
        refine St.guard_no rfl rfl rfl ?_
        refine St.pick_false rfl rfl rfl ?_
        refine St.assign rfl rfl ?_
        refine St.done ?_
        refine SX.seq ?_
        refine SC.cond_false rfl ?_
        refine SC.skip ?_
        refine SX.blk ?_
        refine SX.seq ?_
        refine SC.seq ?_
        refine SC.plain ?_
        refine St.assign rfl rfl ?_
        refine St.assign rfl rfl ?_
        refine St.done ?_
        refine SX.seq ?_
        refine SC.ret ?_
        first
          | (exfalso; omega)
          | (have hd : digP c = (c - 48, true) := if_pos (by omega); exact SX.ret2 rfl rfl rfl ⟨rfl, by rw [hd]⟩)
          | (have hd : digP c = (c - 97 + 10, true) := (if_neg (by omega)).trans (if_pos (by omega)); exact SX.ret2 rfl rfl rfl ⟨rfl, by rw [hd]⟩)
          | (have hd : digP c = (0, false) := (if_neg (by omega)).trans (if_neg (by omega)); exact SX.ret2 rfl rfl rfl ⟨rfl, by rw [hd]; rfl⟩)
  · refine St.guard_no rfl rfl rfl ?_
    refine St.guard_no rfl rfl rfl ?_
    refine St.pick_false rfl rfl rfl ?_
    refine St.assign rfl rfl ?_
    refine St.done ?_
    refine SX.seq ?_
    refine SC.cond_false rfl ?_
    refine SC.seq ?_
    refine SC.plain ?_
    refine St.move rfl rfl ?_
    refine St.geq rfl rfl rfl ?_
    refine St.move rfl rfl ?_
    refine St.split 16 rfl (fun g16 => ?_) (fun g16 => ?_)
    · refine St.guard_yes rfl rfl ?_
      refine St.move rfl rfl ?_
      refine St.guard_yes rfl rfl ?_
      refine St.leq rfl rfl rfl ?_
      refine St.pick_true rfl rfl rfl ?_
      refine St.assign rfl rfl ?_
      refine St.done ?_
      refine SX.seq ?_
      refine SC.condp rfl (fun c13 => ?_) (fun c13 => ?_)
      · refine SC.seq ?_
        refine SC.plain ?_
        refine St.move rfl rfl ?_
        first | refine St.subUx un8 (b := 97) rfl rfl rfl (by omega) (by omega) ?_ | refine St.subU un8 (b := 97) rfl rfl rfl (by omega) ?_
        first | refine St.addUx un8 (b := 10) rfl rfl rfl (by omega) ?_ | refine St.addU un8 (b := 10) rfl rfl rfl ?_
        refine St.assign rfl rfl ?_
        refine St.assign rfl rfl ?_
        refine St.done ?_
        refine SX.seq ?_
        refine SC.ret ?_
        refine SX.blk_ret ?_
        refine SX.seq_ret ?_
        first
          | (exfalso; omega)
          | (have hd : digP c = (c - 48, true) := if_pos (by omega); exact SX.ret2 rfl rfl rfl ⟨rfl, by rw [hd]⟩)
          | (have hd : digP c = (c - 97 + 10, true) := (if_neg (by omega)).trans (if_pos (by omega)); exact SX.ret2 rfl rfl rfl ⟨rfl, by rw [hd]⟩)
          | (have hd : digP c = (0, false) := (if_neg (by omega)).trans (if_neg (by omega)); exact SX.ret2 rfl rfl rfl ⟨rfl, by rw [hd]; rfl⟩)
      · refine SC.skip ?_
        refine SX.blk ?_
        refine SX.seq ?_
        refine SC.seq ?_
        refine SC.plain ?_
        refine St.assign rfl rfl ?_
        refine St.assign rfl rfl ?_
        refine St.done ?_
        refine SX.seq ?_
        refine SC.ret ?_
        first
          | (exfalso; omega)
          | (have hd : digP c = (c - 48, true) := if_pos (by omega); exact SX.ret2 rfl rfl rfl ⟨rfl, by rw [hd]⟩)
          | (have hd : digP c = (c - 97 + 10, true) := (if_neg (by omega)).trans (if_pos (by omega)); exact SX.ret2 rfl rfl rfl ⟨rfl, by rw [hd]⟩)
          | (have hd : digP c = (0, false) := (if_neg (by omega)).trans (if_neg (by omega)); exact SX.ret2 rfl rfl rfl ⟨rfl, by rw [hd]; rfl⟩)
    · refine St.guard_no rfl rfl rfl ?_
      refine St.guard_no rfl rfl rfl ?_
      refine St.pick_false rfl rfl rfl ?_
      refine St.assign rfl rfl ?_
      refine St.done ?_
      refine SX.seq ?_
      refine SC.cond_false rfl ?_
      refine SC.skip ?_
      refine SX.blk ?_
      refine SX.seq ?_
      refine SC.seq ?_
      refine SC.plain ?_
      refine St.assign rfl rfl ?_
      refine St.assign rfl rfl ?_
      refine St.done ?_
      refine SX.seq ?_
      refine SC.ret ?_
      first
        | (exfalso; omega)
        | (have hd : digP c = (c - 48, true) := if_pos (by omega); exact SX.ret2 rfl rfl rfl ⟨rfl, by rw [hd]⟩)
        | (have hd : digP c = (c - 97 + 10, true) := (if_neg (by omega)).trans (if_pos (by omega)); exact SX.ret2 rfl rfl rfl ⟨rfl, by rw [hd]⟩)
        | (have hd : digP c = (0, false) := (if_neg (by omega)).trans (if_neg (by omega)); exact SX.ret2 rfl rfl rfl ⟨rfl, by rw [hd]; rfl⟩)
theorem rdigit_spec (w0 : World) (L : List Chunk) (c : Nat) (hc : c < 256) : Meets Try.prog 118 #[.int .u8 ((c : Nat) : Int)] w0 L (fun r L' => L = L' ∧ r = .int .i64 (if (digP c).2 then (((digP c).1 : Nat) : Int) else -1)) := by
  refine Meets.of_body [.int .u8 ((c : Nat) : Int)] Try.func118 rfl Try.ntmps118 rfl ?_
  refine SC.seq ?_
  refine SC.plain ?_
  refine St.assign rfl rfl ?_
  refine St.done ?_
  refine SX.seq ?_
  refine SC.seq ?_
  refine SC.seq ?_
  refine SC.plain ?_
  refine St.assign rfl rfl ?_
  refine St.done ?_
  refine SX.seq ?_
  refine SC.block ?_
  refine SC.loop (α := Nat) (fun i => i ≤ 16 ∧ ∀ j, j < i → dig j ≠ c) (fun i => [(0, .int .u8 ((c : Nat) : Int)), (3, .int .i64 ((i : Nat) : Int))]) (fun i => L) (fun i => 16 - i) 0 ⟨by omega, by omega⟩ ⟨rfl, rfl, trivial⟩ (List.Perm.refl _) ?_
  rintro i ⟨hi, hno⟩
  refine SC.seq ?_
  refine SC.seq ?_
  refine SC.plain ?_
  refine St.move rfl rfl ?_
  refine St.lss rfl rfl rfl ?_
  refine St.done ?_
  refine SX.seq ?_
  refine SC.condp rfl (fun c5 => ?_) (fun c5 => ?_)
  · have hlt : i < 16 := by omega
    refine SC.skip ?_
    refine SX.seq ?_
    refine SC.seq ?_
    refine SC.block ?_
    refine SC.seq ?_
    refine SC.plain ?_
    refine St.move rfl rfl ?_
    refine St.indexStr (s := hexS) (i := i) rfl rfl rfl (by kernel_rfl) (dig_at i hlt) ?_
    rw [dig_nat i hlt]
    refine St.move rfl rfl ?_
    refine St.eql rfl rfl rfl ?_
    refine St.done ?_
    refine SX.seq ?_
    refine SC.condp rfl (fun c11 => ?_) (fun c11 => ?_)
    · refine SC.seq ?_
      refine SC.plain ?_
      refine St.move rfl rfl ?_
      refine St.assign rfl rfl ?_
      refine St.done ?_
      refine SX.seq ?_
      refine SC.ret ?_
      refine SX.blk_ret ?_
      refine SX.seq_ret ?_
      refine SX.seq_ret ?_
      refine SX.blk_ret ?_
      refine SX.seq_ret ?_
      first
        | (have hd : digP c = (i, true) := (congrArg digP (by omega)).trans (digP_dig i hlt); exact SX.ret1 rfl rfl ⟨rfl, by rw [hd]; rfl⟩)
        | (have hd : digP c = (0, false) := digP_none c (fun j hj => hno j (by omega)); exact SX.ret1 rfl rfl ⟨rfl, by rw [hd]; rfl⟩)
    · refine SC.skip ?_
      refine SX.blk ?_
      refine SX.seq ?_
      refine SC.plain ?_
      refine St.move rfl rfl ?_
      first | refine St.addN (b := 1) rfl rfl rfl (by omega) ?_ | refine St.addI rfl rfl rfl (by omega) ?_
      refine St.assign rfl rfl ?_
      refine St.done ?_
      exact SX.again (i + 1) ⟨by omega, dig_more hno (fun h => c11 (by omega))⟩ (by show 16 - (i + 1) < 16 - i; omega) ⟨rfl, rfl, trivial⟩ (List.Perm.refl _)
  · refine SC.exit ?_
    refine SX.seq_exit ?_
    refine SX.seq_exit ?_
    refine SX.hit ?_
    refine SX.seq ?_
    refine SC.seq ?_
    refine SC.plain ?_
    refine St.assign rfl rfl ?_
    refine St.done ?_
    refine SX.seq ?_
    refine SC.ret ?_
    first
      | (have hd : digP c = (i, true) := (congrArg digP (by omega)).trans (digP_dig i hlt); exact SX.ret1 rfl rfl ⟨rfl, by rw [hd]; rfl⟩)
      | (have hd : digP c = (0, false) := digP_none c (fun j hj => hno j (by omega)); exact SX.ret1 rfl rfl ⟨rfl, by rw [hd]; rfl⟩)
theorem unhex_spec (w0 : World) (L : List Chunk) (str : ByteArray) (hl : str.size ≤ 4194304) : Meets Try.prog 56 #[.string str] w0 L (UnhexR (u8s str) L) := by
  have hsz := u8s_length str
  have hlt := u8s_lt str
  refine Meets.of_body [.string str] Try.func56 rfl Try.ntmps56 rfl ?_
  refine SC.seq ?_
  refine SC.plain ?_
  refine St.assign rfl rfl ?_
  refine St.assign rfl rfl ?_
  refine St.done ?_
  refine SX.seq ?_
  refine SC.seq ?_
  refine SC.seq ?_
  refine SC.plain ?_
  refine St.move rfl rfl ?_
  refine St.lenStr rfl rfl (by kernel_rfl) ?_
  first | refine St.remN (b := 2) rfl rfl rfl (by omega) ?_ | refine St.rem rfl rfl rfl (by omega) ?_
  refine St.neq rfl rfl rfl ?_
  refine St.done ?_
  refine SX.seq ?_
  refine SC.condp rfl (fun c13 => ?_) (fun c13 => ?_)
  · refine SC.seq ?_
    refine SC.plain ?_
    refine St.assign rfl rfl ?_
    refine St.assign rfl rfl ?_
    refine St.done ?_
    refine SX.seq ?_
    refine SC.ret ?_
    refine SX.seq_ret ?_
    have hu : unhexP (u8s str) = (false, []) := if_neg (by omega)
    refine SX.perm ([] :: L) (List.Perm.refl _) ?_
    exact SX.ret2 rfl rfl rfl ⟨.slice none 0 0, [], by rw [hu], rfl, by rw [hu]; exact Buf.nil 5 1⟩
  · refine SC.skip ?_
    refine SX.seq ?_
    refine SC.seq ?_
    refine SC.plain ?_
    refine St.move rfl rfl ?_
    refine St.lenStr rfl rfl (by kernel_rfl) ?_
    first | refine St.quoN (b := 2) rfl rfl rfl (by omega) (by omega) ?_ | refine St.quo rfl rfl rfl (by omega) ?_
    refine St.makeSl (e := 5) (zv := .int .u8 0) (bytes := 1) rfl rfl rfl (by kernel_rfl) (by omega) (by omega) (by omega) (fun _ _ h => h.nil) (fun mm => ?_)
    rw [Int.toNat_natCast]
    refine St.assign rfl rfl ?_
    refine St.done ?_
    refine SX.seq ?_
    refine SC.seq ?_
    refine SC.seq ?_
    refine SC.plain ?_
    refine St.assign rfl rfl ?_
    refine St.done ?_
    refine SX.seq ?_
    refine SC.block ?_
    refine SC.loop (α := Nat × Value × Chunk) (fun s => s.1 ≤ (u8s str).length / 2 ∧ (pairs (u8s str) s.1).1 = true ∧ Buf 5 1 s.2.1 (bytes (pairs (u8s str) s.1).2) s.1 s.2.2) (fun s => [(0, .string str), (4, s.2.1), (5, .int .i64 ((2 * s.1 : Nat) : Int))]) (fun s => s.2.2 :: L) (fun s => (u8s str).length / 2 - s.1) (0, .slice (some ⟨mm, 0, none⟩) 0 (str.size / 2), [⟨mm, List.replicate (str.size / 2) (.int .u8 0), 5⟩]) ⟨Nat.zero_le _, rfl, Buf.made (xs := []) (n := 0) (c := str.size / 2) (sz := 1) rfl (by simp) (by omega)⟩ ⟨rfl, rfl, rfl, trivial⟩ (List.Perm.refl _) ?_
    rintro ⟨j, v, E⟩ ⟨hj, hok, hb⟩
    simp only at hj hok hb
    show SC _ _ _ [(0, .string str), (4, v), (5, .int .i64 ((2 * j : Nat) : Int))] (E :: L)
    refine SC.seq ?_
    refine SC.seq ?_
    refine SC.plain ?_
    refine St.move rfl rfl ?_
    refine St.move rfl rfl ?_
    refine St.lenStr rfl rfl (by kernel_rfl) ?_
    refine St.lss rfl rfl rfl ?_
    refine St.done ?_
    refine SX.seq ?_
    refine SC.condp rfl (fun c21 => ?_) (fun c21 => ?_)
    · refine SC.skip ?_
      refine SX.seq ?_
      refine SC.seq ?_
      refine SC.block ?_
      refine SC.seq ?_
      refine SC.plain ?_
      refine St.move rfl rfl ?_
      refine St.move rfl rfl ?_
      obtain ⟨x, x1, x2⟩ := text_get str (2 * j) (by omega)
      refine St.indexStr (i := 2 * j) rfl rfl rfl (by kernel_rfl) x1 ?_
      rw [x2]
      refine St.call [_] rfl (by kernel_rfl) rfl (digit_spec w0 _ _ (getD_lt hlt _)) (by first | exact fun _ _ _ _ h => h.nil | assumption) ?_
      rintro r1 L1 ⟨rfl, rfl⟩
      refine St.move rfl rfl ?_
      refine St.extract rfl rfl rfl ?_
      refine St.extract rfl rfl rfl ?_
      refine St.assign rfl rfl ?_
      refine St.assign rfl rfl ?_
      refine St.done ?_
      refine SX.seq ?_
      refine SC.seq ?_
      refine SC.plain ?_
      refine St.move rfl rfl ?_
      refine St.move rfl rfl ?_
      first | refine St.addN (b := 1) rfl rfl rfl (by omega) ?_ | refine St.addI rfl rfl rfl (by omega) ?_
      obtain ⟨y, y1, y2⟩ := text_get str (2 * j + 1) (by omega)
      refine St.indexStr (i := 2 * j + 1) rfl rfl rfl (by kernel_rfl) y1 ?_
      rw [y2]
      refine St.call [_] rfl (by kernel_rfl) rfl (digit_spec w0 _ _ (getD_lt hlt _)) (by first | exact fun _ _ _ _ h => h.nil | assumption) ?_
      rintro r2 L1 ⟨rfl, rfl⟩
      refine St.move rfl rfl ?_
      refine St.extract rfl rfl rfl ?_
      refine St.extract rfl rfl rfl ?_
      refine St.assign rfl rfl ?_
      refine St.assign rfl rfl ?_
      refine St.done ?_
      refine SX.seq ?_
      refine SC.seq ?_
      refine SC.seq ?_
      refine SC.plain ?_
      refine St.move rfl rfl ?_
      refine St.notB rfl rfl ?_
      refine St.move rfl rfl ?_
      refine St.splitB 41 rfl (fun g41 => ?_) (fun g41 => ?_)
      · have hbad : ((digP ((u8s str).getD (2 * j) 0)).2 && (digP ((u8s str).getD (2 * j + 1) 0)).2) = false := by simp only [Bool.not_eq_true'] at g41; rw [g41, Bool.false_and]
        refine St.guard_no rfl rfl rfl ?_
        refine St.guard_no rfl rfl rfl ?_
        refine St.pick_true rfl rfl rfl ?_
        refine St.done ?_
        refine SX.seq ?_
        refine SC.cond_true rfl ?_
        refine SC.seq ?_
        refine SC.plain ?_
        refine St.assign rfl rfl ?_
        refine St.assign rfl rfl ?_
        refine St.done ?_
        refine SX.seq ?_
        refine SC.ret ?_
        refine SX.seq_ret ?_
        refine SX.blk_ret ?_
        refine SX.seq_ret ?_
        refine SX.seq_ret ?_
        refine SX.blk_ret ?_
        refine SX.seq_ret ?_
        have hu : unhexP (u8s str) = (false, []) := unhex_bad (j := j) (by omega) hbad
        refine SX.drop ?_
        refine SX.perm ([] :: L) (List.Perm.refl _) ?_
        exact SX.ret2 rfl rfl rfl ⟨.slice none 0 0, [], by rw [hu], rfl, by rw [hu]; exact Buf.nil 5 1⟩
      · have hd1 : (digP ((u8s str).getD (2 * j) 0)).2 = true := by simpa using g41
        refine St.guard_yes rfl rfl ?_
        refine St.move rfl rfl ?_
        refine St.guard_yes rfl rfl ?_
        refine St.notB rfl rfl ?_
        refine St.pick_false rfl rfl rfl ?_
        refine St.done ?_
        refine SX.seq ?_
        refine SC.cond rfl (fun c44 => ?_) (fun c44 => ?_)
        · have hbad : ((digP ((u8s str).getD (2 * j) 0)).2 && (digP ((u8s str).getD (2 * j + 1) 0)).2) = false := by simp only [Bool.not_eq_true'] at c44; rw [c44, Bool.and_false]
          refine SC.seq ?_
          refine SC.plain ?_
          refine St.assign rfl rfl ?_
          refine St.assign rfl rfl ?_
          refine St.done ?_
          refine SX.seq ?_
          refine SC.ret ?_
          refine SX.seq_ret ?_
          refine SX.blk_ret ?_
          refine SX.seq_ret ?_
          refine SX.seq_ret ?_
          refine SX.blk_ret ?_
          refine SX.seq_ret ?_
          have hu : unhexP (u8s str) = (false, []) := unhex_bad (j := j) (by omega) hbad
          refine SX.drop ?_
          refine SX.perm ([] :: L) (List.Perm.refl _) ?_
          exact SX.ret2 rfl rfl rfl ⟨.slice none 0 0, [], by rw [hu], rfl, by rw [hu]; exact Buf.nil 5 1⟩
        · have hd2 : (digP ((u8s str).getD (2 * j + 1) 0)).2 = true := by simpa using c44
          have hok2 : (pairs (u8s str) (j + 1)).1 = true := by simp only [pairs, hok, hd1, hd2, Bool.and_self]
          have hx1 := digP_lt ((u8s str).getD (2 * j) 0)
          have hx2 := digP_lt ((u8s str).getD (2 * j + 1) 0)
          refine SC.skip ?_
          refine SX.seq ?_
          refine SC.plain ?_
          refine St.move rfl rfl ?_
          refine St.move rfl rfl ?_
          refine St.shlUx un8 (b := 4) rfl rfl rfl (by decide) (by omega) ?_
          refine St.move rfl rfl ?_
          refine St.orU un8 rfl rfl rfl (by omega) (by omega) ?_
          rw [nib_or _ _ hx1 hx2]
          refine St.buildSl (n := 1) (e := 5) [(0, .int .u8 ((16 * (digP ((u8s str).getD (2 * j) 0)).1 + (digP ((u8s str).getD (2 * j + 1) 0)).1 : Nat) : Int))] (bytes [16 * (digP ((u8s str).getD (2 * j) 0)).1 + (digP ((u8s str).getD (2 * j + 1) 0)).1]) rfl rfl (by kernel_rfl) (fun _ _ h => h.nil) (fun b5 => ?_)
          refine St.append1 (e := 5) (sz := 1) (bytes := 1) (xs := bytes (pairs (u8s str) j).2) (n := j) (news := bytes [16 * (digP ((u8s str).getD (2 * j) 0)).1 + (digP ((u8s str).getD (2 * j + 1) 0)).1]) (m := 1) rfl rfl rfl (by kernel_rfl) hb (Rd.row rfl mem0) (bytes_one _) (by omega) (by omega) (fun _ _ h => h.nil) (fun v2 E2 hb2 _ => ?_)
          rw [← bytes_app] at hb2
          refine St.drop ?_
          refine St.assign rfl rfl ?_
          refine St.done ?_
          refine SX.blk ?_
          refine SX.seq ?_
          refine SC.plain ?_
          refine St.move rfl rfl ?_
          first | refine St.addN (b := 2) rfl rfl rfl (by omega) ?_ | refine St.addI rfl rfl rfl (by omega) ?_
          refine St.assign rfl rfl ?_
          refine St.done ?_
          exact SX.again (j + 1, v2, E2) ⟨by simp only; omega, hok2, hb2⟩ (by simp only; omega) ⟨rfl, rfl, rfl, trivial⟩ (List.Perm.refl _)
    · refine SC.exit ?_
      refine SX.seq_exit ?_
      refine SX.seq_exit ?_
      refine SX.hit ?_
      refine SX.seq ?_
      refine SC.seq ?_
      refine SC.plain ?_
      refine St.move rfl rfl ?_
      refine St.assign rfl rfl ?_
      refine St.assign rfl rfl ?_
      refine St.done ?_
      refine SX.seq ?_
      refine SC.ret ?_
      have hu : unhexP (u8s str) = (true, (pairs (u8s str) j).2) := unhex_done (by omega) (by omega) hok
      exact SX.ret2 rfl rfl rfl ⟨v, E, by rw [hu], rfl, by rw [hu, pairs_len]; exact hb⟩
theorem runhex_spec (w0 : World) (L : List Chunk) (str : ByteArray) (hl : str.size ≤ 4194304) : Meets Try.prog 57 #[.string str] w0 L (UnhexR (u8s str) L) := by
  have hsz := u8s_length str
  have hlt := u8s_lt str
  refine Meets.of_body [.string str] Try.func57 rfl Try.ntmps57 rfl ?_
  refine SC.seq ?_
  refine SC.plain ?_
  refine St.assign rfl rfl ?_
  refine St.assign rfl rfl ?_
  refine St.done ?_
  refine SX.seq ?_
  refine SC.seq ?_
  refine SC.seq ?_
  refine SC.plain ?_
  refine St.move rfl rfl ?_
  refine St.lenStr rfl rfl (by kernel_rfl) ?_
  first | refine St.remN (b := 2) rfl rfl rfl (by omega) ?_ | refine St.rem rfl rfl rfl (by omega) ?_
  refine St.eql rfl rfl rfl ?_
  refine St.done ?_
  refine SX.seq ?_
  refine SC.condp rfl (fun c11 => ?_) (fun c11 => ?_)
  · refine SC.seq ?_
    refine SC.plain ?_
    refine St.assign rfl rfl ?_
    refine St.assign rfl rfl ?_
    refine St.done ?_
    refine SX.seq ?_
    refine SC.ret ?_
    refine SX.seq_ret ?_
    have hu : unhexP (u8s str) = (false, []) := if_neg (by omega)
    refine SX.perm ([] :: L) (List.Perm.refl _) ?_
    exact SX.ret2 rfl rfl rfl ⟨.slice none 0 0, [], by rw [hu], rfl, by rw [hu]; exact Buf.nil 5 1⟩
  · refine SC.skip ?_
    refine SX.seq ?_
    refine SC.seq ?_
    refine SC.plain ?_
    refine St.buildSl0 (e := 5) (sz := 1) rfl (by kernel_rfl) (fun _ _ h => h.nil) (fun b0 => ?_)
    refine St.assign rfl rfl ?_
    refine St.done ?_
    refine SX.seq ?_
    refine SC.seq ?_
    refine SC.seq ?_
    refine SC.plain ?_
    refine St.assign rfl rfl ?_
    refine St.done ?_
    refine SX.seq ?_
    refine SC.block ?_
    refine SC.loop (α := Nat × Value × Chunk) (fun s => s.1 ≤ (u8s str).length / 2 ∧ (pairs (u8s str) s.1).1 = true ∧ Buf 5 1 s.2.1 (bytes (pairs (u8s str) s.1).2) s.1 s.2.2) (fun s => [(0, .string str), (4, s.2.1), (5, .int .i64 ((2 * s.1 : Nat) : Int))]) (fun s => s.2.2 :: L) (fun s => (u8s str).length / 2 - s.1) (0, .slice (some ⟨b0, 0, none⟩) 0 0, [⟨b0, [], 5⟩]) ⟨Nat.zero_le _, rfl, Buf.whole rfl⟩ ⟨rfl, rfl, rfl, trivial⟩ (List.Perm.refl _) ?_
    rintro ⟨j, v, E⟩ ⟨hj, hok, hb⟩
    simp only at hj hok hb
    show SC _ _ _ [(0, .string str), (4, v), (5, .int .i64 ((2 * j : Nat) : Int))] (E :: L)
    refine SC.seq ?_
    refine SC.seq ?_
    refine SC.plain ?_
    refine St.move rfl rfl ?_
    refine St.move rfl rfl ?_
    refine St.lenStr rfl rfl (by kernel_rfl) ?_
    refine St.lss rfl rfl rfl ?_
    refine St.done ?_
    refine SX.seq ?_
    refine SC.condp rfl (fun c16 => ?_) (fun c16 => ?_)
    · refine SC.skip ?_
      refine SX.seq ?_
      refine SC.seq ?_
      refine SC.block ?_
      refine SC.seq ?_
      refine SC.plain ?_
      refine St.move rfl rfl ?_
      refine St.move rfl rfl ?_
      obtain ⟨x, x1, x2⟩ := text_get str (2 * j) (by omega)
      refine St.indexStr (i := 2 * j) rfl rfl rfl (by kernel_rfl) x1 ?_
      rw [x2]
      refine St.call [_] rfl (by kernel_rfl) rfl (rdigit_spec w0 _ _ (getD_lt hlt _)) (by first | exact fun _ _ _ _ h => h.nil | assumption) ?_
      rintro r1 L1 ⟨rfl, rfl⟩
      refine St.assign rfl rfl ?_
      refine St.done ?_
      refine SX.seq ?_
      refine SC.seq ?_
      refine SC.plain ?_
      refine St.move rfl rfl ?_
      refine St.move rfl rfl ?_
      first | refine St.addN (b := 1) rfl rfl rfl (by omega) ?_ | refine St.addI rfl rfl rfl (by omega) ?_
      obtain ⟨y, y1, y2⟩ := text_get str (2 * j + 1) (by omega)
      refine St.indexStr (i := 2 * j + 1) rfl rfl rfl (by kernel_rfl) y1 ?_
      rw [y2]
      refine St.call [_] rfl (by kernel_rfl) rfl (rdigit_spec w0 _ _ (getD_lt hlt _)) (by first | exact fun _ _ _ _ h => h.nil | assumption) ?_
      rintro r2 L1 ⟨rfl, rfl⟩
      refine St.assign rfl rfl ?_
      refine St.done ?_
      refine SX.seq ?_
      refine SC.seq ?_
      refine SC.seq ?_
      have hx1 := digP_lt ((u8s str).getD (2 * j) 0)
      have hx2 := digP_lt ((u8s str).getD (2 * j + 1) 0)
      refine SC.plain ?_
      refine St.move rfl rfl ?_
      refine St.lss rfl rfl rfl ?_
      refine St.move rfl rfl ?_
      refine St.split 30 rfl (fun g30 => ?_) (fun g30 => ?_)
      · have hbad : ((digP ((u8s str).getD (2 * j) 0)).2 && (digP ((u8s str).getD (2 * j + 1) 0)).2) = false := by
          cases hh : (digP ((u8s str).getD (2 * j) 0)).2 with
          | false => rfl
          | true => rw [hh, if_pos rfl] at g30; omega
        refine St.guard_no rfl rfl rfl ?_
        refine St.guard_no rfl rfl rfl ?_
        refine St.pick_true rfl rfl rfl ?_
        refine St.done ?_
        refine SX.seq ?_
        refine SC.cond_true rfl ?_
        refine SC.seq ?_
        refine SC.plain ?_
        refine St.assign rfl rfl ?_
        refine St.assign rfl rfl ?_
        refine St.done ?_
        refine SX.seq ?_
        refine SC.ret ?_
        refine SX.seq_ret ?_
        refine SX.blk_ret ?_
        refine SX.seq_ret ?_
        refine SX.seq_ret ?_
        refine SX.blk_ret ?_
        refine SX.seq_ret ?_
        have hu : unhexP (u8s str) = (false, []) := unhex_bad (j := j) (by omega) hbad
        refine SX.drop ?_
        refine SX.perm ([] :: L) (List.Perm.refl _) ?_
        exact SX.ret2 rfl rfl rfl ⟨.slice none 0 0, [], by rw [hu], rfl, by rw [hu]; exact Buf.nil 5 1⟩
      · have hd1 : (digP ((u8s str).getD (2 * j) 0)).2 = true := by
          cases hh : (digP ((u8s str).getD (2 * j) 0)).2 with
          | true => rfl
          | false => rw [hh, if_neg (by simp)] at g30; omega
        refine St.guard_yes rfl rfl ?_
        refine St.move rfl rfl ?_
        refine St.guard_yes rfl rfl ?_
        refine St.lss rfl rfl rfl ?_
        refine St.pick_false rfl rfl rfl ?_
        refine St.done ?_
        refine SX.seq ?_
        refine SC.condp rfl (fun c33 => ?_) (fun c33 => ?_)
        · have hbad : ((digP ((u8s str).getD (2 * j) 0)).2 && (digP ((u8s str).getD (2 * j + 1) 0)).2) = false := by
            cases hh : (digP ((u8s str).getD (2 * j + 1) 0)).2 with
            | false => rw [Bool.and_false]
            | true => rw [hh, if_pos rfl] at c33; omega
          refine SC.seq ?_
          refine SC.plain ?_
          refine St.assign rfl rfl ?_
          refine St.assign rfl rfl ?_
          refine St.done ?_
          refine SX.seq ?_
          refine SC.ret ?_
          refine SX.seq_ret ?_
          refine SX.blk_ret ?_
          refine SX.seq_ret ?_
          refine SX.seq_ret ?_
          refine SX.blk_ret ?_
          refine SX.seq_ret ?_
          have hu : unhexP (u8s str) = (false, []) := unhex_bad (j := j) (by omega) hbad
          refine SX.drop ?_
          refine SX.perm ([] :: L) (List.Perm.refl _) ?_
          exact SX.ret2 rfl rfl rfl ⟨.slice none 0 0, [], by rw [hu], rfl, by rw [hu]; exact Buf.nil 5 1⟩
        · have hd2 : (digP ((u8s str).getD (2 * j + 1) 0)).2 = true := by
            cases hh : (digP ((u8s str).getD (2 * j + 1) 0)).2 with
            | true => rfl
            | false => rw [hh, if_neg (by simp)] at c33; omega
          have hok2 : (pairs (u8s str) (j + 1)).1 = true := by simp only [pairs, hok, hd1, hd2, Bool.and_self]
          rw [if_pos hd1, if_pos hd2]
          refine SC.skip ?_
          refine SX.seq ?_
          refine SC.plain ?_
          refine St.move rfl rfl ?_
          refine St.move rfl rfl ?_
          first | refine St.mulN (a := 16) rfl rfl rfl (by omega) ?_ | refine St.mulI rfl rfl rfl (by omega) ?_
          refine St.move rfl rfl ?_
          first | refine St.addN rfl rfl rfl (by omega) ?_ | refine St.addI rfl rfl rfl (by omega) ?_
          first | refine St.convUx un8 rfl rfl (by kernel_rfl) (by kernel_rfl) (by omega) ?_ | refine St.convU un8 rfl rfl (by kernel_rfl) (by kernel_rfl) ?_ | refine St.convZ un8 rfl rfl (by kernel_rfl) (by kernel_rfl) ?_
          refine St.buildSl (n := 1) (e := 5) [(0, .int .u8 ((16 * (digP ((u8s str).getD (2 * j) 0)).1 + (digP ((u8s str).getD (2 * j + 1) 0)).1 : Nat) : Int))] (bytes [16 * (digP ((u8s str).getD (2 * j) 0)).1 + (digP ((u8s str).getD (2 * j + 1) 0)).1]) rfl rfl (by kernel_rfl) (fun _ _ h => h.nil) (fun b5 => ?_)
          refine St.append1 (e := 5) (sz := 1) (bytes := 1) (xs := bytes (pairs (u8s str) j).2) (n := j) (news := bytes [16 * (digP ((u8s str).getD (2 * j) 0)).1 + (digP ((u8s str).getD (2 * j + 1) 0)).1]) (m := 1) rfl rfl rfl (by kernel_rfl) hb (Rd.row rfl mem0) (bytes_one _) (by omega) (by omega) (fun _ _ h => h.nil) (fun v2 E2 hb2 _ => ?_)
          rw [← bytes_app] at hb2
          refine St.drop ?_
          refine St.assign rfl rfl ?_
          refine St.done ?_
          refine SX.blk ?_
          refine SX.seq ?_
          refine SC.plain ?_
          refine St.move rfl rfl ?_
          first | refine St.addN (b := 2) rfl rfl rfl (by omega) ?_ | refine St.addI rfl rfl rfl (by omega) ?_
          refine St.assign rfl rfl ?_
          refine St.done ?_
          exact SX.again (j + 1, v2, E2) ⟨by simp only; omega, hok2, hb2⟩ (by simp only; omega) ⟨rfl, rfl, rfl, trivial⟩ (List.Perm.refl _)
    · refine SC.exit ?_
      refine SX.seq_exit ?_
      refine SX.seq_exit ?_
      refine SX.hit ?_
      refine SX.seq ?_
      refine SC.seq ?_
      refine SC.plain ?_
      refine St.move rfl rfl ?_
      refine St.assign rfl rfl ?_
      refine St.assign rfl rfl ?_
      refine St.done ?_
      refine SX.seq ?_
      refine SC.ret ?_
      have hu : unhexP (u8s str) = (true, (pairs (u8s str) j).2) := unhex_done (by omega) (by omega) hok
      exact SX.ret2 rfl rfl rfl ⟨v, E, by rw [hu], rfl, by rw [hu, pairs_len]; exact hb⟩
theorem sumHex_spec (w0 : World) (L : List Chunk) (v : Value) (str : ByteArray) (ys : List Nat) (hx : Rd w0 L v 1 ys.length (bytes ys)) (hl : ys.length ≤ 1048576) (hys : ∀ b ∈ ys, b < 256) (hs : str.size ≤ 1048576) :
    Meets Try.prog 10 #[v, .string str] w0 L (fun r L' => r = .bool true) := by
  have hx0 := hx
  obtain ⟨_, b, o, A, c, rfl, hA, hr⟩ := hx
  have hhl := hexOf_len ys
  have hhs := text_size (hexOf ys)
  have hhu := u8s_text (hexOf ys) (hex_lt ys hys)
  have huh := unhex_hex ys hys
  refine Meets.of_body [.slice A ys.length c, .string str] Try.func10 rfl Try.ntmps10 rfl ?_
  refine SC.seq ?_
  refine SC.plain ?_
  refine St.assign rfl rfl ?_
  refine St.done ?_
  refine SX.seq ?_
  refine SC.seq ?_
  refine SC.plain ?_
  refine St.move rfl rfl ?_
  refine St.call [_] rfl (by kernel_rfl) rfl (hex_spec w0 _ _ ys hx0 (by omega) hys) (by first | exact fun _ _ _ _ h => h.nil | assumption) ?_
  rintro r1 L1 ⟨rfl, rfl⟩
  refine St.call [_] rfl (by kernel_rfl) rfl (unhex_spec w0 _ (text (hexOf ys)) (by omega)) (by first | exact fun _ _ _ _ h => h.nil | assumption) ?_
  rw [hhu]
  rintro r2 L1 ⟨x, Ex, rfl, rfl, hbx⟩
  rw [huh] at hbx ⊢
  simp only at hbx ⊢
  refine St.move rfl rfl ?_
  refine St.extract rfl rfl rfl ?_
  refine St.extract rfl rfl rfl ?_
  refine St.assign rfl rfl ?_
  refine St.assign rfl rfl ?_
  refine St.done ?_
  refine SX.seq ?_
  refine SC.seq ?_
  refine SC.plain ?_
  refine St.move rfl rfl ?_
  refine St.call [_] rfl (by kernel_rfl) rfl (unhex_spec w0 _ str (by omega)) (by first | exact fun _ _ _ _ h => h.nil | assumption) ?_
  rintro r2 L1 ⟨y, Ey, rfl, rfl, hby⟩
  refine St.move rfl rfl ?_
  refine St.extract rfl rfl rfl ?_
  refine St.extract rfl rfl rfl ?_
  refine St.assign rfl rfl ?_
  refine St.assign rfl rfl ?_
  refine St.done ?_
  refine SX.seq ?_
  refine SC.seq ?_
  refine SC.plain ?_
  refine St.move rfl rfl ?_
  refine St.call [_] rfl (by kernel_rfl) rfl (runhex_spec w0 _ str (by omega)) (by first | exact fun _ _ _ _ h => h.nil | assumption) ?_
  rintro r2 L1 ⟨w, Ew, rfl, rfl, hbw⟩
  refine St.move rfl rfl ?_
  refine St.extract rfl rfl rfl ?_
  refine St.extract rfl rfl rfl ?_
  refine St.assign rfl rfl ?_
  refine St.assign rfl rfl ?_
  refine St.done ?_
  refine SX.seq ?_
  refine SC.seq ?_
  refine SC.plain ?_
  refine St.move rfl rfl ?_
  refine St.move rfl rfl ?_
  refine St.guard_yes rfl rfl ?_
  refine St.move rfl rfl ?_
  refine St.guard_yes rfl rfl ?_
  refine St.toStr (e := 5) (bs := ys) (n := ys.length) rfl rfl (hbx.rd (by simp [Lq])) (by kernel_rfl) (by kernel_rfl) (by kernel_rfl) ?_
  refine St.guard_yes rfl rfl ?_
  refine St.move rfl rfl ?_
  refine St.guard_yes rfl rfl ?_
  refine St.toStr (e := 5) (bs := ys) (n := ys.length) rfl rfl (Rd.mono hx0 (fun w hw => by first | exact hw | exact hw.drop | exact hw.drop.drop | exact hw.drop.drop.drop | exact hw.drop.drop.drop.drop | exact hw.drop.drop.drop.drop.drop | exact hw.drop.drop.drop.drop.drop.drop | exact hw.drop.drop.drop.drop.drop.drop.drop | exact hw.drop.drop.drop.drop.drop.drop.drop.drop)) (by kernel_rfl) (by kernel_rfl) (by kernel_rfl) ?_
  refine St.guard_yes rfl rfl ?_
  refine St.strEql rfl rfl rfl ?_
  refine St.pick_true rfl rfl rfl ?_
  refine St.move rfl rfl ?_
  refine St.split 35 rfl (fun g35 => ?_) (fun g35 => ?_)
  · refine St.guard_yes rfl rfl ?_
    refine St.move rfl rfl ?_
    refine St.guard_yes rfl rfl ?_
    refine St.call [_] rfl (by kernel_rfl) rfl (hex_spec w0 _ _ ys (Rd.mono hx0 (fun w hw => by first | exact hw | exact hw.drop | exact hw.drop.drop | exact hw.drop.drop.drop | exact hw.drop.drop.drop.drop | exact hw.drop.drop.drop.drop.drop | exact hw.drop.drop.drop.drop.drop.drop | exact hw.drop.drop.drop.drop.drop.drop.drop | exact hw.drop.drop.drop.drop.drop.drop.drop.drop)) (by omega) hys) (by first | exact fun _ _ _ _ h => h.nil | assumption) ?_
    rintro r1 L1 ⟨rfl, rfl⟩
    refine St.guard_yes rfl rfl ?_
    refine St.move rfl rfl ?_
    refine St.guard_yes rfl rfl ?_
    refine St.call [_] rfl (by kernel_rfl) rfl (rhex_spec w0 _ _ ys (Rd.mono hx0 (fun w hw => by first | exact hw | exact hw.drop | exact hw.drop.drop | exact hw.drop.drop.drop | exact hw.drop.drop.drop.drop | exact hw.drop.drop.drop.drop.drop | exact hw.drop.drop.drop.drop.drop.drop | exact hw.drop.drop.drop.drop.drop.drop.drop | exact hw.drop.drop.drop.drop.drop.drop.drop.drop)) (by omega) hys) (by first | exact fun _ _ _ _ h => h.nil | assumption) ?_
    rintro r1 L1 ⟨rfl, rfl⟩
    refine St.guard_yes rfl rfl ?_
    refine St.strEql rfl rfl rfl ?_
    refine St.pick_true rfl rfl rfl ?_
    refine St.move rfl rfl ?_
    refine St.split 42 rfl (fun g42 => ?_) (fun g42 => ?_)
    · refine St.guard_yes rfl rfl ?_
      refine St.move rfl rfl ?_
      refine St.guard_yes rfl rfl ?_
      refine St.toStr (e := 5) (bs := (unhexP (u8s str)).2) (n := (unhexP (u8s str)).2.length) rfl rfl (hby.rd (by simp [Lq])) (by kernel_rfl) (by kernel_rfl) (by kernel_rfl) ?_
      refine St.guard_yes rfl rfl ?_
      refine St.move rfl rfl ?_
      refine St.guard_yes rfl rfl ?_
      refine St.toStr (e := 5) (bs := (unhexP (u8s str)).2) (n := (unhexP (u8s str)).2.length) rfl rfl (hbw.rd (by simp [Lq])) (by kernel_rfl) (by kernel_rfl) (by kernel_rfl) ?_
      refine St.guard_yes rfl rfl ?_
      refine St.strEql rfl rfl rfl ?_
      refine St.pick_true rfl rfl rfl ?_
      refine St.move rfl rfl ?_
      refine St.split 49 rfl (fun g49 => ?_) (fun g49 => ?_)
      · refine St.guard_yes rfl rfl ?_
        refine St.move rfl rfl ?_
        refine St.guard_yes rfl rfl ?_
        refine St.move rfl rfl ?_
        refine St.guard_yes rfl rfl ?_
        refine St.boolEql rfl rfl rfl (by kernel_rfl) ?_
        refine St.pick_true rfl rfl rfl ?_
        refine St.move rfl rfl ?_
        refine St.split 54 rfl (fun g54 => ?_) (fun g54 => ?_)
        · refine St.guard_yes rfl rfl ?_
          refine St.call [] rfl (by kernel_rfl) rfl (awake3_spec w0 _) (by first | exact fun _ _ _ _ h => h.nil | assumption) ?_
          rintro r7 L1 ⟨rfl, rfl⟩
          refine St.pick_true rfl rfl rfl ?_
          refine St.assign rfl rfl ?_
          refine St.done ?_
          refine SX.seq ?_
          refine SC.ret ?_
          exact SX.ret1 rfl rfl rfl
        · exact absurd rfl g54
      · exact absurd rfl g49
    · exact absurd rfl g42
  · exact absurd rfl g35
end Go.Proofs.Ytahafepgmkiabaa
