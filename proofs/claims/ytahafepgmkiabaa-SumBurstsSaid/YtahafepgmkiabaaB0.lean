/- The CRC's plain law: a burst of at most 32 bits changes it. -/
import Derived.Test.YtahafepgmkiabaaS0
set_option linter.unusedVariables false
set_option linter.unusedSimpArgs false
namespace Go.Proofs.Ytahafepgmkiabaa.Crc
abbrev W := BitVec 32
def poly : W := 0xEDB88320#32
def step (c : W) : W := if c.getLsbD 0 then (c >>> 1) ^^^ poly else c >>> 1
def steps : Nat → W → W
  | 0, c => c
  | n + 1, c => steps n (step c)
theorem step_zero : step 0 = 0 := by decide
theorem steps_zero : ∀ n, steps n 0 = 0
  | 0 => rfl
  | n + 1 => by simp only [steps, step_zero, steps_zero n]
theorem steps_add : ∀ m n c, steps (m + n) c = steps n (steps m c)
  | 0, n, c => by simp [steps]
  | m + 1, n, c => by rw [Nat.add_right_comm]; simp only [steps, steps_add m n]
theorem step_xor (x y : W) : step (x ^^^ y) = step x ^^^ step y := by
  unfold step
  simp only [BitVec.getLsbD_xor, BitVec.ushiftRight_xor_distrib]
  cases x.getLsbD 0 <;> cases y.getLsbD 0 <;> simp <;> ac_nf <;> simp [← BitVec.xor_assoc]
theorem steps_xor : ∀ n (x y : W), steps n (x ^^^ y) = steps n x ^^^ steps n y
  | 0, x, y => rfl
  | n + 1, x, y => by simp only [steps, step_xor, steps_xor n]
theorem step_ne {c : W} (h : c ≠ 0) : step c ≠ 0 := by
  intro e
  apply h
  unfold step at e
  split at e
  · rename_i hb
    have : (c >>> 1 ^^^ poly).getLsbD 31 = true := by
      rw [BitVec.getLsbD_xor, BitVec.getLsbD_ushiftRight, BitVec.getLsbD_of_ge c (1 + 31) (by decide)]
      decide
    rw [e] at this
    simp at this
  · rename_i hb
    apply BitVec.eq_of_getLsbD_eq
    intro i hi
    cases i with
    | zero => simpa using hb
    | succ i =>
      have : (c >>> 1).getLsbD i = (0 : W).getLsbD i := by rw [e]
      rw [BitVec.getLsbD_ushiftRight, Nat.add_comm] at this
      simpa using this
theorem steps_ne : ∀ n {c : W}, c ≠ 0 → steps n c ≠ 0
  | 0, _, h => h
  | n + 1, _, h => steps_ne n (step_ne h)

/-- One bit goes in. -/
def bit (b : Bool) : W := if b then 1#32 else 0#32
def feed (l : List Bool) (c : W) : W := l.foldl (fun c b => step (c ^^^ bit b)) c
theorem feed_append (a b : List Bool) (c : W) : feed (a ++ b) c = feed b (feed a c) := by simp [feed]
theorem feed_zeros : ∀ n c, feed (List.replicate n false) c = steps n c
  | 0, c => rfl
  | n + 1, c => by
    have : feed (List.replicate (n + 1) false) c = feed (List.replicate n false) (step (c ^^^ bit false)) := by simp [feed, List.replicate_succ]
    rw [this, feed_zeros n]; simp [bit, steps]

/-- The low bits of a word, the lowest first. -/
def low (n : Nat) (x : W) : List Bool := (List.range n).map x.getLsbD
theorem low_succ (n : Nat) (x : W) : low (n + 1) x = x.getLsbD 0 :: low n (x >>> 1) := by
  unfold low
  rw [List.range_succ_eq_map, List.map_cons, List.map_map]
  congr 1
  apply List.map_congr_left
  intro i _
  simp [BitVec.getLsbD_ushiftRight, Nat.add_comm]
theorem step_shift (x : W) : step (bit (x.getLsbD 0)) ^^^ (x >>> 1) = step x := by
  unfold step bit
  cases h : x.getLsbD 0 with
  | true => simp [BitVec.xor_comm]
  | false => simp
/-- Feeding a word's low n bits is n steps of it, where no other bit is set. -/
theorem feed_low : ∀ (n : Nat) (x c : W), (∀ i, n ≤ i → x.getLsbD i = false) → feed (low n x) c = steps n (c ^^^ x)
  | 0, x, c, h => by
    have : x = 0 := by
      apply BitVec.eq_of_getLsbD_eq
      intro i hi
      rw [h i (by omega)]; simp
    subst this
    simp [feed, low, steps]
  | n + 1, x, c, h => by
    rw [low_succ]
    have e : feed (x.getLsbD 0 :: low n (x >>> 1)) c = feed (low n (x >>> 1)) (step (c ^^^ bit (x.getLsbD 0))) := rfl
    rw [e, feed_low n (x >>> 1) _ (fun i hi => by rw [BitVec.getLsbD_ushiftRight]; exact h _ (by omega))]
    simp only [steps]
    congr 1
    rw [step_xor, BitVec.xor_assoc, step_shift, step_xor]

/-- The text's bits: byte by byte, the lowest first. -/
def bits8 (x : BitVec 8) : List Bool := (List.range 8).map x.getLsbD
def textBits (l : List (BitVec 8)) : List Bool := l.flatMap bits8
def byte (c : W) (x : BitVec 8) : W := steps 8 (c ^^^ x.setWidth 32)
def run (l : List (BitVec 8)) (c : W) : W := l.foldl byte c
theorem byte_feed (c : W) (x : BitVec 8) : byte c x = feed (bits8 x) c := by
  unfold byte
  rw [← feed_low 8 (x.setWidth 32) c (fun i hi => by simp [BitVec.getLsbD_setWidth]; intro _; exact BitVec.getLsbD_of_ge _ _ (by omega))]
  congr 1
theorem run_feed : ∀ (l : List (BitVec 8)) (c : W), run l c = feed (textBits l) c
  | [], c => rfl
  | x :: l, c => by
    have : run (x :: l) c = run l (byte c x) := rfl
    have e : textBits (x :: l) = bits8 x ++ textBits l := by simp [textBits]
    rw [this, run_feed l, byte_feed, e, feed_append]
theorem byte_xor (c d : W) (x y : BitVec 8) : byte (c ^^^ d) (x ^^^ y) = byte c x ^^^ byte d y := by
  unfold byte
  rw [← steps_xor, BitVec.setWidth_xor]
  congr 1
  ac_nf
theorem run_xor : ∀ (l m : List (BitVec 8)) (c d : W), l.length = m.length → run l c ^^^ run m d = run (List.zipWith (· ^^^ ·) l m) (c ^^^ d)
  | [], [], c, d, _ => rfl
  | x :: l, y :: m, c, d, h => by
    have e1 : run (x :: l) c = run l (byte c x) := rfl
    have e2 : run (y :: m) d = run m (byte d y) := rfl
    have e3 : run (List.zipWith (· ^^^ ·) (x :: l) (y :: m)) (c ^^^ d) = run (List.zipWith (· ^^^ ·) l m) (byte (c ^^^ d) (x ^^^ y)) := rfl
    rw [e1, e2, e3, run_xor l m _ _ (by simpa using h), byte_xor]

/-- A text whose bits are the burst's at their place, and nought elsewhere, turns a nought into something else. -/
theorem burst_ne (burst : W) (hb : burst ≠ 0) (p q : Nat) (bs : List Bool) (h : bs = List.replicate p false ++ low 32 burst ++ List.replicate q false) : feed bs 0 ≠ 0 := by
  subst h
  rw [feed_append, feed_append, feed_zeros, feed_zeros, steps_zero, feed_low 32 burst 0 (fun i hi => BitVec.getLsbD_of_ge _ _ hi)]
  apply steps_ne
  apply steps_ne
  simpa using hb
theorem xor_ne {a b : W} (h : a ^^^ b ≠ 0) : a ≠ b := fun e => h (by rw [e, BitVec.xor_self]; rfl)
theorem differs (l m : List (BitVec 8)) (hl : l.length = m.length) (burst : W) (hb : burst ≠ 0) (p q : Nat)
    (h : textBits (List.zipWith (· ^^^ ·) l m) = List.replicate p false ++ low 32 burst ++ List.replicate q false) (c : W) : run l c ≠ run m c := by
  apply xor_ne
  rw [run_xor l m c c hl, BitVec.xor_self, run_feed]
  exact burst_ne burst hb p q _ h
end Go.Proofs.Ytahafepgmkiabaa.Crc
namespace Go.Proofs.Ytahafepgmkiabaa
open Go Go.Proofs.Ytahafepgmkiabaa.Sep

/-! The walk's words are the bits' words. -/
theorem cstep_bv (c : Crc.W) : cstep c.toNat = (Crc.step c).toNat := by
  unfold cstep Crc.step
  have hb : c.getLsbD 0 = decide (c.toNat % 2 = 1) := by
    rw [BitVec.getLsbD, Nat.testBit_zero]
  rw [hb]
  by_cases h : c.toNat % 2 = 1
  · rw [if_pos h, if_pos (decide_eq_true h), BitVec.toNat_xor, BitVec.toNat_ushiftRight, show ∀ n : Nat, n >>> 1 = n / 2 from fun n => rfl]
    rfl
  · rw [if_neg h, if_neg (by simpa using h), BitVec.toNat_ushiftRight, show ∀ n : Nat, n >>> 1 = n / 2 from fun n => rfl]
theorem csteps_bv : ∀ (n : Nat) (c : Crc.W), csteps n c.toNat = (Crc.steps n c).toNat
  | 0, c => rfl
  | n + 1, c => by
    have e : Crc.steps (n + 1) c = Crc.step (Crc.steps n c) := by
      rw [Crc.steps_add n 1 c]; rfl
    simp only [csteps]
    rw [csteps_bv n c, cstep_bv, e]
def bvs (bs : List Nat) : List (BitVec 8) := bs.map (BitVec.ofNat 8)
theorem run_snoc (l : List (BitVec 8)) (x : BitVec 8) (c : Crc.W) : Crc.run (l ++ [x]) c = Crc.byte (Crc.run l c) x := by simp [Crc.run]
theorem crcState_bv {bs : List Nat} (hb : ∀ b ∈ bs, b < 256) : ∀ i, i ≤ bs.length → crcState bs i = (Crc.run (bvs (bs.take i)) 4294967295#32).toNat
  | 0, _ => by simp [crcState, Crc.run, bvs]
  | i + 1, h => by
    have ih := crcState_bv hb i (by omega)
    have hlt : i < bs.length := by omega
    have ht : bs.take (i + 1) = bs.take i ++ [bs.getD i 0] := by
      rw [List.take_add_one, List.getElem?_eq_getElem hlt, List.getD_eq_getElem?_getD, List.getElem?_eq_getElem hlt]; rfl
    have hx := getD_lt hb i
    have e : bvs (bs.take (i + 1)) = bvs (bs.take i) ++ [BitVec.ofNat 8 (bs.getD i 0)] := by rw [ht]; simp [bvs]
    rw [e, run_snoc]
    unfold Crc.byte
    rw [← csteps_bv]
    simp only [crcState]
    rw [BitVec.toNat_xor, ← ih, BitVec.toNat_setWidth, BitVec.toNat_ofNat]
    rw [Nat.mod_eq_of_lt (show bs.getD i 0 < 2 ^ 8 by omega), Nat.mod_eq_of_lt (show bs.getD i 0 < 2 ^ 32 by omega)]
theorem crc_bv {bs : List Nat} (hb : ∀ b ∈ bs, b < 256) : crcState bs bs.length = (Crc.run (bvs bs) 4294967295#32).toNat := by
  rw [crcState_bv hb _ (Nat.le_refl _), List.take_length]

/-- The text with the first n bits of a burst turned, from a bit on. -/
def flipTo (bs : List Nat) (from_ burst : Nat) : Nat → List Nat
  | 0 => bs
  | i + 1 => if burst / 2 ^ i % 2 = 1 then (flipTo bs from_ burst i).set ((from_ + i) / 8) ((flipTo bs from_ burst i).getD ((from_ + i) / 8) 0 ^^^ 2 ^ ((from_ + i) % 8)) else flipTo bs from_ burst i
theorem flip_len (bs : List Nat) (f u : Nat) : ∀ n, (flipTo bs f u n).length = bs.length
  | 0 => rfl
  | n + 1 => by
    simp only [flipTo]
    split
    · rw [List.length_set, flip_len bs f u n]
    · exact flip_len bs f u n
theorem flip_lt {bs : List Nat} (hb : ∀ b ∈ bs, b < 256) (f u : Nat) : ∀ n, ∀ b ∈ flipTo bs f u n, b < 256
  | 0, b, h => hb b h
  | n + 1, b, h => by
    simp only [flipTo] at h
    split at h
    · rcases List.mem_or_eq_of_mem_set h with h | rfl
      · exact flip_lt hb f u n b h
      · have h1 := getD_lt (flip_lt hb f u n) ((f + n) / 8)
        have h2 : 2 ^ ((f + n) % 8) < 256 := by
          have : (f + n) % 8 < 8 := Nat.mod_lt _ (by decide)
          exact Nat.lt_of_le_of_lt (Nat.pow_le_pow_right (by decide) (show (f + n) % 8 ≤ 7 by omega)) (by decide)
        exact Nat.xor_lt_two_pow (n := 8) h1 h2
    · exact flip_lt hb f u n b h
theorem flip_bit (bs : List Nat) (f u : Nat) : ∀ n, f + n ≤ 8 * bs.length → ∀ j, j < 8 * bs.length →
    ((flipTo bs f u n).getD (j / 8) 0).testBit (j % 8) = ((bs.getD (j / 8) 0).testBit (j % 8) ^^ (decide (f ≤ j ∧ j < f + n) && u.testBit (j - f)))
  | 0, _, j, _ => by
    have : ¬ (f ≤ j ∧ j < f + 0) := by omega
    rw [decide_eq_false this]; simp [flipTo]
  | n + 1, h, j, hj => by
    have ih := flip_bit bs f u n (by omega) j hj
    have hu : u.testBit n = decide (u / 2 ^ n % 2 = 1) := Nat.testBit_eq_decide_div_mod_eq
    simp only [flipTo]
    by_cases hjn : j = f + n
    · subst hjn
      have e1 : ¬ (f ≤ f + n ∧ f + n < f + n) := by omega
      have e2 : (f ≤ f + n ∧ f + n < f + (n + 1)) := by omega
      rw [show f + n - f = n by omega] at ih ⊢
      rw [decide_eq_false e1, Bool.false_and, Bool.xor_false] at ih
      rw [decide_eq_true e2, Bool.true_and]
      by_cases hb : u / 2 ^ n % 2 = 1
      · rw [if_pos hb, List.getD_eq_getElem?_getD, List.getElem?_set_self (by rw [flip_len]; omega), Option.getD_some, Nat.testBit_xor, ih, hu, decide_eq_true hb, Nat.testBit_two_pow_self]
      · rw [if_neg hb, ih, hu, decide_eq_false hb, Bool.xor_false]
    · have e : decide (f ≤ j ∧ j < f + (n + 1)) = decide (f ≤ j ∧ j < f + n) := by
        apply decide_eq_decide.2
        omega
      rw [e, ← ih]
      split
      · by_cases hq : j / 8 = (f + n) / 8
        · rw [hq, List.getD_eq_getElem?_getD, List.getElem?_set_self (by rw [flip_len]; omega), Option.getD_some, Nat.testBit_xor, Nat.testBit_two_pow_of_ne (by omega), Bool.xor_false]
        · rw [List.getD_eq_getElem?_getD, List.getElem?_set_ne (by omega), ← List.getD_eq_getElem?_getD]
      · rfl
theorem textBits_len (l : List (BitVec 8)) : (Crc.textBits l).length = 8 * l.length := by
  induction l with
  | nil => rfl
  | cons x l ih =>
    have e : Crc.textBits (x :: l) = Crc.bits8 x ++ Crc.textBits l := by simp [Crc.textBits]
    have e8 : (Crc.bits8 x).length = 8 := by simp [Crc.bits8]
    rw [e, List.length_append, ih, e8, List.length_cons]; omega
theorem textBits_get : ∀ (l : List (BitVec 8)) (j : Nat), j < 8 * l.length → (Crc.textBits l)[j]? = some ((l.getD (j / 8) 0).getLsbD (j % 8))
  | [], j, h => by simp at h
  | x :: l, j, h => by
    have e : Crc.textBits (x :: l) = Crc.bits8 x ++ Crc.textBits l := by simp [Crc.textBits]
    have e8 : (Crc.bits8 x).length = 8 := by simp [Crc.bits8]
    rw [List.length_cons] at h
    rw [e]
    by_cases hj : j < 8
    · rw [List.getElem?_append_left (by omega)]
      have : j / 8 = 0 := by omega
      rw [this, Nat.mod_eq_of_lt hj]
      simp [Crc.bits8, hj]
    · rw [List.getElem?_append_right (by omega), e8, textBits_get l (j - 8) (by omega)]
      rw [show j / 8 = (j - 8) / 8 + 1 by omega, show (j - 8) % 8 = j % 8 by omega]
      rfl
theorem crc_flip {bs : List Nat} (hb : ∀ b ∈ bs, b < 256) (f u : Nat) (hf : f + 32 ≤ 8 * bs.length) (hu : u < 4294967296) (h0 : u ≠ 0) : crc bs ≠ crc (flipTo bs f u 32) := by
  have hb2 := flip_lt hb f u 32
  have hl2 := flip_len bs f u 32
  have key : crcState bs bs.length ≠ crcState (flipTo bs f u 32) (flipTo bs f u 32).length := by
    rw [crc_bv hb, crc_bv hb2]
    intro he
    refine Crc.differs (bvs bs) (bvs (flipTo bs f u 32)) (by simp [bvs, hl2]) (BitVec.ofNat 32 u) ?_ f (8 * bs.length - f - 32) ?_ 4294967295#32 (BitVec.eq_of_toNat_eq he)
    · intro h
      have := congrArg BitVec.toNat h
      rw [BitVec.toNat_ofNat, Nat.mod_eq_of_lt (show u < 2 ^ 32 by omega)] at this
      exact h0 this
    · apply List.ext_getElem?
      intro j
      have hzl : (List.zipWith (· ^^^ ·) (bvs bs) (bvs (flipTo bs f u 32))).length = bs.length := by simp [bvs, hl2]
      have hll : (Crc.low 32 (BitVec.ofNat 32 u)).length = 32 := by simp [Crc.low]
      by_cases hj : j < 8 * bs.length
      · rw [textBits_get _ _ (by rw [hzl]; exact hj)]
        have hq : j / 8 < bs.length := by omega
        have hx1 := getD_lt hb (j / 8)
        have hx2 := getD_lt hb2 (j / 8)
        have ez : (List.zipWith (· ^^^ ·) (bvs bs) (bvs (flipTo bs f u 32))).getD (j / 8) 0 = BitVec.ofNat 8 (bs.getD (j / 8) 0) ^^^ BitVec.ofNat 8 ((flipTo bs f u 32).getD (j / 8) 0) := by
          have h1 : (bvs bs)[j / 8]? = some (BitVec.ofNat 8 (bs.getD (j / 8) 0)) := by
            rw [bvs, List.getElem?_map, List.getElem?_eq_getElem hq, List.getD_eq_getElem?_getD, List.getElem?_eq_getElem hq]; rfl
          have h2 : (bvs (flipTo bs f u 32))[j / 8]? = some (BitVec.ofNat 8 ((flipTo bs f u 32).getD (j / 8) 0)) := by
            rw [bvs, List.getElem?_map, List.getElem?_eq_getElem (by omega), List.getD_eq_getElem?_getD, List.getElem?_eq_getElem (by omega)]; rfl
          rw [List.getD_eq_getElem?_getD, List.getElem?_zipWith, h1, h2]; rfl
        rw [ez, BitVec.getLsbD_xor]
        have g : ∀ n : Nat, n < 256 → (BitVec.ofNat 8 n).getLsbD (j % 8) = n.testBit (j % 8) := fun n hn => by
          rw [BitVec.getLsbD, BitVec.toNat_ofNat, Nat.mod_eq_of_lt (by omega)]
        rw [g _ hx1, g _ hx2, flip_bit bs f u 32 hf j hj]
        by_cases h1 : j < f
        · rw [List.append_assoc, List.getElem?_append_left (by simpa using h1), List.getElem?_replicate, if_pos h1]
          have : ¬ (f ≤ j ∧ j < f + 32) := by omega
          simp [this]
        · by_cases h2 : j < f + 32
          · rw [List.append_assoc, List.getElem?_append_right (by simp; omega), List.length_replicate, List.getElem?_append_left (by rw [hll]; omega)]
            have : (f ≤ j ∧ j < f + 32) := by omega
            have hlow : (Crc.low 32 (BitVec.ofNat 32 u))[j - f]? = some (u.testBit (j - f)) := by
              unfold Crc.low
              rw [List.getElem?_map, List.getElem?_range (by omega)]
              simp [BitVec.getLsbD, Nat.mod_eq_of_lt hu]
            rw [hlow]
            simp [this]
          · rw [List.getElem?_append_right (by simp [hll]; omega), List.getElem?_replicate]
            have : ¬ (f ≤ j ∧ j < f + 32) := by omega
            simp [this, hll]
            omega
      · rw [List.getElem?_eq_none (by rw [textBits_len, hzl]; omega), List.getElem?_eq_none (by simp [hll]; omega)]
  intro he
  apply key
  unfold crc no32 at he
  have h1 : 4294967295 ^^^ (4294967295 ^^^ crcState bs bs.length) = 4294967295 ^^^ (4294967295 ^^^ crcState (flipTo bs f u 32) (flipTo bs f u 32).length) := by rw [he]
  rwa [← Nat.xor_assoc, ← Nat.xor_assoc, Nat.xor_self, Nat.zero_xor, Nat.zero_xor] at h1
end Go.Proofs.Ytahafepgmkiabaa
