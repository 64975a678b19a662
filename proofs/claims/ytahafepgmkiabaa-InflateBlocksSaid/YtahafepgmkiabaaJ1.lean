/- Walks: inflating: small methods of the reader. -/
import Derived.Test.YtahafepgmkiabaaI0
import Derived.Test.YtahafepgmkiabaaH9
import Derived.Test.YtahafepgmkiabaaS0
import Derived.Test.YtahafepgmkiabaaSepN
set_option linter.unusedVariables false
set_option linter.unusedSimpArgs false
set_option linter.ambiguousOpen false
namespace Go.Proofs.Ytahafepgmkiabaa
open Go Go.Proofs.Ytahafepgmkiabaa.Sep Go.Proofs.Ytahafepgmkiabaa.Inf

/-- A reader of blocks: its row, its bits' row, what it made. -/
def RdL (p q : Nat) (rv ov : Value) (at_ most : Nat) (Eo : Chunk) (L : List Chunk) : List Chunk :=
  [⟨p, [.pointer (some ⟨q, 0, none⟩), ov, .int .i64 ((most : Nat) : Int)], 178⟩] :: [⟨q, [rv, .int .i64 ((at_ : Nat) : Int)], 156⟩] :: Eo :: L
/-- What it reads. -/
structure RIn (w0 : World) (L : List Chunk) (rv : Value) (bs : List Nat) (most at_ : Nat) (out : List Nat) (ov : Value) (Eo : Chunk) : Prop where
  rd : Rd w0 L rv 1 bs.length (bytes bs)
  len : bs.length ≤ 150000000000000
  lt : ∀ b ∈ bs, b < 256
  at_ : at_ ≤ 8 * bs.length
  big : most ≤ 70368744177664
  buf : Buf 5 1 ov (bytes out) out.length Eo
  room : out.length ≤ most
  outB : ∀ b ∈ out, b < 256
  cap : Cap rv
def RdAt (w0 : World) (p q : Nat) (rv : Value) (bs : List Nat) (most at_ : Nat) (out : List Nat) (L L' : List Chunk) : Prop := ∃ ov Eo, RIn w0 L rv bs most at_ out ov Eo ∧ L' = RdL p q rv ov at_ most Eo L
/-- What a method answers. -/
def AnsE {α : Type} (w0 : World) (g : Got α) (p q : Nat) (rv : Value) (bs : List Nat) (most : Nat) (L : List Chunk) (r : Value) (L' : List Chunk) : Prop := match g with
  | .ok _ at' out' => r = .int .i64 0 ∧ RdAt w0 p q rv bs most at' out' L L'
  | .bad e => r = .int .i64 e ∧ e ≠ 0 ∧ L' = L
def AnsV (w0 : World) (g : Got Nat) (p q : Nat) (rv : Value) (bs : List Nat) (most : Nat) (L : List Chunk) (r : Value) (L' : List Chunk) : Prop := match g with
  | .ok a at' out' => r = .tuple #[.int .i64 ((a : Nat) : Int), .int .i64 0] ∧ RdAt w0 p q rv bs most at' out' L L'
  | .bad e => (∃ n : Int, r = .tuple #[.int .i64 n, .int .i64 e]) ∧ e ≠ 0 ∧ L' = L
def AnsT (w0 : World) (g : Got Nat) (p q : Nat) (rv : Value) (bs : List Nat) (most : Nat) (L : List Chunk) (r : Value) (L' : List Chunk) : Prop := match g with
  | .ok a at' out' => r = .tuple #[.int .i64 ((a : Nat) : Int), .int .i64 0] ∧ RdAt w0 p q rv bs most at' out' L L'
  | .bad e => r = .tuple #[.int .i64 ((0 : Nat) : Int), .int .i64 e] ∧ e ≠ 0 ∧ L' = L
section ans
variable {α : Type} {w0 : World} {g : Got α} {gn : Got Nat} {p q : Nat} {rv : Value} {bs : List Nat} {most : Nat} {L L' : List Chunk} {r : Value}
theorem AnsE.cases (h : AnsE w0 g p q rv bs most L r L') : (∃ a t1 o1 v1 E1, g = .ok a t1 o1 ∧ r = .int .i64 0 ∧ RIn w0 L rv bs most t1 o1 v1 E1 ∧ L' = RdL p q rv v1 t1 most E1 L) ∨ (∃ e, g = .bad e ∧ r = .int .i64 e ∧ e ≠ 0 ∧ L = L') := by
  unfold AnsE at h
  cases g with
  | ok a t o => obtain ⟨h1, v, E, h2, h3⟩ := h; exact .inl ⟨a, t, o, v, E, rfl, h1, h2, h3⟩
  | bad e => exact .inr ⟨e, rfl, h.1, h.2.1, h.2.2.symm⟩
theorem AnsV.cases (h : AnsV w0 gn p q rv bs most L r L') : (∃ a t1 o1 v1 E1, gn = .ok a t1 o1 ∧ r = .tuple #[.int .i64 ((a : Nat) : Int), .int .i64 0] ∧ RIn w0 L rv bs most t1 o1 v1 E1 ∧ L' = RdL p q rv v1 t1 most E1 L) ∨ (∃ e n, gn = .bad e ∧ r = .tuple #[.int .i64 n, .int .i64 e] ∧ e ≠ 0 ∧ L = L') := by
  unfold AnsV at h
  cases gn with
  | ok a t o => obtain ⟨h1, v, E, h2, h3⟩ := h; exact .inl ⟨a, t, o, v, E, rfl, h1, h2, h3⟩
  | bad e => obtain ⟨⟨n, h1⟩, h2, h3⟩ := h; exact .inr ⟨e, n, rfl, h1, h2, h3.symm⟩
theorem AnsT.cases (h : AnsT w0 gn p q rv bs most L r L') : (∃ a t1 o1 v1 E1, gn = .ok a t1 o1 ∧ r = .tuple #[.int .i64 ((a : Nat) : Int), .int .i64 0] ∧ RIn w0 L rv bs most t1 o1 v1 E1 ∧ L' = RdL p q rv v1 t1 most E1 L) ∨ (∃ e, gn = .bad e ∧ r = .tuple #[.int .i64 ((0 : Nat) : Int), .int .i64 e] ∧ e ≠ 0 ∧ L = L') := by
  unfold AnsT at h
  cases gn with
  | ok a t o => obtain ⟨h1, v, E, h2, h3⟩ := h; exact .inl ⟨a, t, o, v, E, rfl, h1, h2, h3⟩
  | bad e => exact .inr ⟨e, rfl, h.1, h.2.1, h.2.2.symm⟩
theorem AnsE.ok {a : α} {t : Nat} {o : List Nat} {ov : Value} {Eo : Chunk} (h : g = .ok a t o) (hR : RIn w0 L rv bs most t o ov Eo) : AnsE w0 g p q rv bs most L (.int .i64 0) (RdL p q rv ov t most Eo L) := by
  subst h; exact ⟨rfl, ov, Eo, hR, rfl⟩
theorem AnsE.bad {e : Int} (h : g = .bad e) (h0 : e ≠ 0) : AnsE w0 g p q rv bs most L (.int .i64 e) L := by
  subst h; exact ⟨rfl, h0, rfl⟩
theorem AnsV.ok {a t : Nat} {o : List Nat} {ov : Value} {Eo : Chunk} (h : gn = .ok a t o) (hR : RIn w0 L rv bs most t o ov Eo) : AnsV w0 gn p q rv bs most L (.tuple #[.int .i64 ((a : Nat) : Int), .int .i64 0]) (RdL p q rv ov t most Eo L) := by
  subst h; exact ⟨rfl, ov, Eo, hR, rfl⟩
theorem AnsV.bad {e n : Int} (h : gn = .bad e) (h0 : e ≠ 0) : AnsV w0 gn p q rv bs most L (.tuple #[.int .i64 n, .int .i64 e]) L := by
  subst h; exact ⟨⟨n, rfl⟩, h0, rfl⟩
end ans
theorem ifR_pos {α : Type} {c : Prop} [Decidable c] {m m' : Rdr α} {bs : List Nat} {most p : Nat} {o : List Nat} (h : c) : (if c then m else m') bs most p o = m bs most p o := by rw [if_pos h]
theorem ifR_neg {α : Type} {c : Prop} [Decidable c] {m m' : Rdr α} {bs : List Nat} {most p : Nat} {o : List Nat} (h : ¬ c) : (if c then m else m') bs most p o = m' bs most p o := by rw [if_neg h]
theorem takeR_ok {n : Nat} {bs : List Nat} {most p : Nat} {o : List Nat} (h : p + n ≤ 8 * bs.length) : takeR n bs most p o = .ok (takeN bs p n) (p + n) o := if_pos h
theorem takeR_bad {n : Nat} {bs : List Nat} {most p : Nat} {o : List Nat} (h : ¬ p + n ≤ 8 * bs.length) : takeR n bs most p o = .bad 4 := if_neg h
theorem takeR_lt {n a p' : Nat} {bs : List Nat} {most p : Nat} {o o' : List Nat} (h : takeR n bs most p o = .ok a p' o') : a < 2 ^ n := by
  unfold takeR at h
  split at h
  · simp only [Got.ok.injEq] at h
    rw [← h.1]; exact take_lt _ _ _
  · cases h
theorem readFrom_some {xs : List Int} {bs : List Nat} : ∀ (k n v p : Nat), (readFrom xs bs n v p k).2.1 = 0 → ∃ i : Nat, (readFrom xs bs n v p k).1 = (i : Int) ∧ i < xs.length ∧ p ≤ (readFrom xs bs n v p k).2.2 ∧ (n = 0 → p < (readFrom xs bs n v p k).2.2)
  | 0, n, v, p, h => by simp [readFrom] at h
  | k + 1, n, v, p, h => by
    rw [read_step] at h ⊢
    cases hs : hitAt xs n v with
    | some s =>
      obtain ⟨i, h1, h2, _, h3, _⟩ := of_hit hs
      exact ⟨i, h1, h2, Nat.le_refl _, by omega⟩
    | none =>
      rw [hs] at h
      simp only at h ⊢
      split at h
      · cases h
      · rename_i ha
        rw [if_neg ha]
        split at h
        · cases h
        · rename_i hq
          rw [if_neg hq]
          obtain ⟨i, h1, h2, h3, _⟩ := readFrom_some k (n + 1) _ (p + 1) h
          exact ⟨i, h1, h2, by omega, by omega⟩
/-- What a symbol's reading comes to. -/
theorem SymR.cases {q : Nat} {rv : Value} {xs : List Int} {bs : List Nat} {at_ : Nat} {L L' : List Chunk} {r : Value} (most : Nat) (out : List Nat) (hat : at_ ≤ 8 * bs.length) (h : SymR q 156 .i64 rv xs bs at_ L r L') :
    (∃ d t1 : Nat, symR xs bs most at_ out = .ok (d : Int) t1 out ∧ d < xs.length ∧ at_ < t1 ∧ t1 ≤ 8 * bs.length ∧ r = .tuple #[.int .i64 ((d : Nat) : Int), .int .i64 0] ∧ L' = [⟨q, [rv, .int .i64 ((t1 : Nat) : Int)], 156⟩] :: L) ∨
      (∃ e n t1, symR xs bs most at_ out = .bad e ∧ e ≠ 0 ∧ r = .tuple #[.int .i64 n, .int .i64 e] ∧ L' = [⟨q, [rv, .int .i64 ((t1 : Nat) : Int)], 156⟩] :: L) := by
  obtain ⟨rfl, rfl⟩ := h
  by_cases h0 : (readSym xs bs at_).2.1 = 0
  · obtain ⟨i, h1, h2, _, h3⟩ := readFrom_some 16 0 0 at_ h0
    refine .inl ⟨i, (readSym xs bs at_).2.2, ?_, h2, h3 rfl, (readSym_le hat).2, ?_, rfl⟩
    · unfold symR
      rw [if_pos h0]
      exact congrArg (fun a => Got.ok a _ _) h1
    · rw [h0, show (readSym xs bs at_).1 = (i : Int) from h1]
  · exact .inr ⟨_, _, _, if_neg h0, h0, rfl, rfl⟩

theorem align_spec (w0 : World) (L : List Chunk) (q at_ : Nat) (rv : Value) (h : at_ ≤ 1300000000000000) :
    Meets Try.prog 210 #[.pointer (some ⟨q, 0, none⟩)] w0 ([⟨q, [rv, .int .i64 ((at_ : Nat) : Int)], 156⟩] :: L) (fun r L' => [⟨q, [rv, .int .i64 (((at_ + 7) / 8 * 8 : Nat) : Int)], 156⟩] :: L = L') := by
  refine Meets.of_body [.pointer (some ⟨q, 0, none⟩)] Try.func210 rfl Try.ntmps210 rfl ?_
  refine SC.plain ?_
  refine St.move rfl rfl ?_
  refine St.move rfl rfl ?_
  refine St.nilCheck rfl rfl ?_
  refine St.fieldAddr (off := 1) rfl rfl (by kernel_rfl) ?_
  refine St.load rfl rfl (by kernel_rfl) (by first | exact Holds.row mem0 rfl | exact Holds.row mem1 rfl | exact Holds.row mem2 rfl | exact Holds.row mem3 rfl | exact Holds.row mem4 rfl | exact Holds.row mem5 rfl | exact Holds.row mem6 rfl | exact Holds.row mem7 rfl | exact Holds.row mem8 rfl) ?_
  first | refine St.addN (b := 7) rfl rfl rfl (by omega) ?_ | refine St.addI rfl rfl rfl (by omega) ?_
  first | refine St.quoN (b := 8) rfl rfl rfl (by omega) (by omega) ?_ | refine St.quo rfl rfl rfl (by omega) ?_
  first | refine St.mulN (b := 8) rfl rfl rfl (by omega) ?_ | refine St.mulI rfl rfl rfl (by omega) ?_
  refine St.nilCheck rfl rfl ?_
  refine St.fieldAddr (off := 1) rfl rfl (by kernel_rfl) ?_
  first | refine St.store rfl rfl rfl rfl (by kernel_rfl) (Nat.le_of_ble_eq_true rfl) (by first | exact fun _ h => h.nil | exact fun _ h => h | exact fun _ h => h.drop | exact fun _ h => h.drop.drop | exact fun _ h => h.drop.drop.drop) ?_ | refine St.store1 rfl rfl rfl rfl (by kernel_rfl) (Nat.le_of_ble_eq_true rfl) (by first | exact fun _ h => h.nil | exact fun _ h => h | exact fun _ h => h.drop | exact fun _ h => h.drop.drop | exact fun _ h => h.drop.drop.drop) ?_ | refine St.store2 rfl rfl rfl rfl (by kernel_rfl) (Nat.le_of_ble_eq_true rfl) (by first | exact fun _ h => h.nil | exact fun _ h => h | exact fun _ h => h.drop | exact fun _ h => h.drop.drop | exact fun _ h => h.drop.drop.drop) ?_ | refine St.store3 rfl rfl rfl rfl (by kernel_rfl) (Nat.le_of_ble_eq_true rfl) (by first | exact fun _ h => h.nil | exact fun _ h => h | exact fun _ h => h.drop | exact fun _ h => h.drop.drop | exact fun _ h => h.drop.drop.drop) ?_ | refine St.store4 rfl rfl rfl rfl (by kernel_rfl) (Nat.le_of_ble_eq_true rfl) (by first | exact fun _ h => h.nil | exact fun _ h => h | exact fun _ h => h.drop | exact fun _ h => h.drop.drop | exact fun _ h => h.drop.drop.drop) ?_ | refine St.store5 rfl rfl rfl rfl (by kernel_rfl) (Nat.le_of_ble_eq_true rfl) (by first | exact fun _ h => h.nil | exact fun _ h => h | exact fun _ h => h.drop | exact fun _ h => h.drop.drop | exact fun _ h => h.drop.drop.drop) ?_
  refine St.done ?_
  exact SX.ret0 (.inr rfl) rfl rfl
theorem rbytes_spec (w0 : World) (L : List Chunk) (q at_ n : Nat) (rv : Value) (bs : List Nat) (hx : Rd w0 L rv 1 bs.length (bytes bs)) (hcp : Cap rv) (hl : bs.length ≤ 150000000000000) (hat : at_ ≤ 8 * bs.length) (hn : n ≤ 1000000) :
    Meets Try.prog 196 #[.pointer (some ⟨q, 0, none⟩), .int .i64 ((n : Nat) : Int)] w0 ([⟨q, [rv, .int .i64 ((at_ : Nat) : Int)], 156⟩] :: L) (fun r L' => (((at_ + 7) / 8 + n ≤ bs.length) ∧ ∃ v E, r = .tuple #[v, .bool true] ∧ Buf 5 1 v (bytes ((bs.drop ((at_ + 7) / 8)).take n)) n E ∧ L' = E :: [⟨q, [rv, .int .i64 (((at_ + 7) / 8 * 8 + 8 * n : Nat) : Int)], 156⟩] :: L) ∨ (¬ ((at_ + 7) / 8 + n ≤ bs.length) ∧ r = .tuple #[.slice none 0 0, .bool false] ∧ L' = [⟨q, [rv, .int .i64 (((at_ + 7) / 8 * 8 : Nat) : Int)], 156⟩] :: L)) := by
  have hx0 := hx
  obtain ⟨_, b, o, A, c, rfl, hA, hr⟩ := hx
  refine Meets.of_body [.pointer (some ⟨q, 0, none⟩), .int .i64 ((n : Nat) : Int)] Try.func196 rfl Try.ntmps196 rfl ?_
  refine SC.seq ?_
  refine SC.plain ?_
  refine St.assign rfl rfl ?_
  refine St.assign rfl rfl ?_
  refine St.done ?_
  refine SX.seq ?_
  refine SC.seq ?_
  refine SC.plain ?_
  refine St.move rfl rfl ?_
  refine St.call [_] rfl (by kernel_rfl) rfl (align_spec w0 L q at_ _ (by omega)) (fun _ _ _ _ h => h.nil) ?_
  rintro r1 L1 rfl
  refine St.done ?_
  refine SX.seq ?_
  refine SC.seq ?_
  refine SC.seq ?_
  refine SC.drawn [(0, true), (1, true), (2, true), (3, true), (4, true), (5, true), (6, true), (7, true), (8, true), (9, true), (10, true), (11, true), (12, true), (13, true), (14, true), (15, true), (16, true)] [] (_) (by kernel_rfl) (by kernel_rfl) (fun _ h => h) ?_
  refine St.move rfl rfl ?_
  refine St.lss rfl rfl rfl ?_
  refine St.move rfl rfl ?_
  refine St.split 11 rfl (fun g11 => ?_) (fun g11 => ?_)
  · exfalso; omega
  · refine St.guard_yes rfl rfl ?_
    refine St.move rfl rfl ?_
    refine St.guard_yes rfl rfl ?_
    refine St.move rfl rfl ?_
    refine St.guard_yes rfl rfl ?_
    refine St.nilCheck rfl rfl ?_
    refine St.guard_yes rfl rfl ?_
    refine St.fieldAddr (off := 0) rfl rfl (by kernel_rfl) ?_
    refine St.guard_yes rfl rfl ?_
    refine St.load rfl rfl (by kernel_rfl) (by first | exact Holds.row mem0 rfl | exact Holds.row mem1 rfl | exact Holds.row mem2 rfl | exact Holds.row mem3 rfl | exact Holds.row mem4 rfl | exact Holds.row mem5 rfl | exact Holds.row mem6 rfl | exact Holds.row mem7 rfl | exact Holds.row mem8 rfl) ?_
    refine St.guard_yes rfl rfl ?_
    refine St.lenSl rfl rfl (by kernel_rfl) ?_
    refine St.guard_yes rfl rfl ?_
    refine St.move rfl rfl ?_
    refine St.guard_yes rfl rfl ?_
    refine St.nilCheck rfl rfl ?_
    refine St.guard_yes rfl rfl ?_
    refine St.fieldAddr (off := 1) rfl rfl (by kernel_rfl) ?_
    refine St.guard_yes rfl rfl ?_
    refine St.load rfl rfl (by kernel_rfl) (by first | exact Holds.row mem0 rfl | exact Holds.row mem1 rfl | exact Holds.row mem2 rfl | exact Holds.row mem3 rfl | exact Holds.row mem4 rfl | exact Holds.row mem5 rfl | exact Holds.row mem6 rfl | exact Holds.row mem7 rfl | exact Holds.row mem8 rfl) ?_
    refine St.guard_yes rfl rfl ?_
    first | refine St.quoN (b := 8) rfl rfl rfl (by omega) (by omega) ?_ | refine St.quo rfl rfl rfl (by omega) ?_
    refine St.guard_yes rfl rfl ?_
    first | refine St.subN rfl rfl rfl (by omega) (by omega) ?_ | refine St.subI rfl rfl rfl (by omega) ?_
    refine St.guard_yes rfl rfl ?_
    refine St.gtr rfl rfl rfl ?_
    refine St.pick_false rfl rfl rfl ?_
    refine St.done ?_
    refine SX.tail ?_
    refine St.done ?_
    refine SX.seq ?_
    refine SC.condp rfl (fun c25 => ?_) (fun c25 => ?_)
    · have hno : ¬ ((at_ + 7) / 8 + n ≤ bs.length) := by omega
      refine SC.seq ?_
      refine SC.plain ?_
      refine St.assign rfl rfl ?_
      refine St.assign rfl rfl ?_
      refine St.done ?_
      refine SX.seq ?_
      refine SC.ret ?_
      refine SX.seq_ret ?_
      exact SX.ret2 rfl rfl rfl (.inr ⟨by omega, rfl, rfl⟩)
    · refine SC.skip ?_
      refine SX.seq ?_
      refine SC.seq ?_
      refine SC.drawn [(0, true), (1, true), (2, true), (3, true), (4, true), (5, true), (6, true), (7, true), (8, true), (9, true), (10, true), (11, true), (12, true), (13, true), (14, true), (15, true), (16, true), (17, false), (18, true)] [] (_ :: L) (by kernel_rfl) (by kernel_rfl) (fun _ h => h) ?_
      refine St.move rfl rfl ?_
      refine St.nilCheck rfl rfl ?_
      refine St.fieldAddr (off := 0) rfl rfl (by kernel_rfl) ?_
      refine St.load rfl rfl (by kernel_rfl) (by first | exact Holds.row mem0 rfl | exact Holds.row mem1 rfl | exact Holds.row mem2 rfl | exact Holds.row mem3 rfl | exact Holds.row mem4 rfl | exact Holds.row mem5 rfl | exact Holds.row mem6 rfl | exact Holds.row mem7 rfl | exact Holds.row mem8 rfl) ?_
      refine St.move rfl rfl ?_
      refine St.nilCheck rfl rfl ?_
      refine St.fieldAddr (off := 1) rfl rfl (by kernel_rfl) ?_
      refine St.load rfl rfl (by kernel_rfl) (by first | exact Holds.row mem0 rfl | exact Holds.row mem1 rfl | exact Holds.row mem2 rfl | exact Holds.row mem3 rfl | exact Holds.row mem4 rfl | exact Holds.row mem5 rfl | exact Holds.row mem6 rfl | exact Holds.row mem7 rfl | exact Holds.row mem8 rfl) ?_
      first | refine St.quoN (b := 8) rfl rfl rfl (by omega) (by omega) ?_ | refine St.quo rfl rfl rfl (by omega) ?_
      refine St.move rfl rfl ?_
      refine St.nilCheck rfl rfl ?_
      refine St.fieldAddr (off := 1) rfl rfl (by kernel_rfl) ?_
      refine St.load rfl rfl (by kernel_rfl) (by first | exact Holds.row mem0 rfl | exact Holds.row mem1 rfl | exact Holds.row mem2 rfl | exact Holds.row mem3 rfl | exact Holds.row mem4 rfl | exact Holds.row mem5 rfl | exact Holds.row mem6 rfl | exact Holds.row mem7 rfl | exact Holds.row mem8 rfl) ?_
      first | refine St.quoN (b := 8) rfl rfl rfl (by omega) (by omega) ?_ | refine St.quo rfl rfl rfl (by omega) ?_
      refine St.move rfl rfl ?_
      first | refine St.addN rfl rfl rfl (by omega) ?_ | refine St.addI rfl rfl rfl (by omega) ?_
      refine St.cutB (e := 5) ((at_ + 7) / 8) ((at_ + 7) / 8 + n) rfl rfl (by kernel_rfl) hx0 hcp ⟨_, _, rfl, by omega⟩ ⟨_, _, rfl, by omega⟩ (by omega) (by omega) (fun v3 h3 _ => ?_)
      rw [Nat.add_sub_cancel_left] at h3
      have hcl : ((bs.drop ((at_ + 7) / 8)).take n).length = n := by rw [List.length_take, List.length_drop]; omega
      refine St.perm ([] :: [⟨q, [.slice A bs.length c, .int .i64 (((at_ + 7) / 8 * 8 : Nat) : Int)], 156⟩] :: L) (List.Perm.refl _) ?_
      refine St.append (e := 5) (sz := 1) (bytes := 1) (xs := []) (n := 0) (news := bytes ((bs.drop ((at_ + 7) / 8)).take n)) (m := n) rfl rfl rfl (by kernel_rfl) (Buf.nil 5 1) (Rd.mono (by rw [hcl] at h3; exact h3 : Rd w0 L v3 1 n _) (fun w hw => by first | exact hw | exact hw.drop | exact hw.drop.drop | exact hw.drop.drop.drop | exact hw.drop.drop.drop.drop | exact hw.drop.drop.drop.drop.drop | exact hw.drop.drop.drop.drop.drop.drop | exact hw.drop.drop.drop.drop.drop.drop.drop | exact hw.drop.drop.drop.drop.drop.drop.drop.drop | exact hw.drop.drop.drop.drop.drop.drop.drop.drop.drop | exact hw.drop.drop.drop.drop.drop.drop.drop.drop.drop.drop | exact hw.drop.drop.drop.drop.drop.drop.drop.drop.drop.drop.drop | exact hw.drop.drop.drop.drop.drop.drop.drop.drop.drop.drop.drop.drop | exact hw.drop.drop.drop.drop.drop.drop.drop.drop.drop.drop.drop.drop.drop)) (bytes_one _) (by omega) (by omega) (fun _ _ h => h.drop) (fun v2 E2 hb2 _ => ?_)
      rw [List.nil_append, Nat.zero_add] at hb2
      refine St.assign rfl rfl ?_
      refine St.done ?_
      refine SX.tail ?_
      refine St.done ?_
      refine SX.seq ?_
      refine SC.seq ?_
      refine SC.plain ?_
      refine St.move rfl rfl ?_
      refine St.nilCheck rfl rfl ?_
      refine St.fieldAddr (off := 1) rfl rfl (by kernel_rfl) ?_
      refine St.load rfl rfl (by kernel_rfl) (by first | exact Holds.row mem0 rfl | exact Holds.row mem1 rfl | exact Holds.row mem2 rfl | exact Holds.row mem3 rfl | exact Holds.row mem4 rfl | exact Holds.row mem5 rfl | exact Holds.row mem6 rfl | exact Holds.row mem7 rfl | exact Holds.row mem8 rfl) ?_
      refine St.move rfl rfl ?_
      first | refine St.mulN (a := 8) rfl rfl rfl (by omega) ?_ | refine St.mulI rfl rfl rfl (by omega) ?_
      first | refine St.addN rfl rfl rfl (by omega) ?_ | refine St.addI rfl rfl rfl (by omega) ?_
      refine St.nilCheck rfl rfl ?_
      refine St.fieldAddr (off := 1) rfl rfl (by kernel_rfl) ?_
      refine St.store1 rfl rfl rfl rfl (by kernel_rfl) (Nat.le_of_ble_eq_true rfl) (fun _ h => h.nil) ?_
      refine St.done ?_
      refine SX.seq ?_
      refine SC.seq ?_
      refine SC.plain ?_
      refine St.move rfl rfl ?_
      refine St.move rfl rfl ?_
      refine St.move rfl rfl ?_
      refine St.clip rfl rfl (by kernel_rfl) hb2 ⟨_, rfl⟩ ⟨_, rfl⟩ (fun v4 hb4 => ?_)
      refine St.assign rfl rfl ?_
      refine St.assign rfl rfl ?_
      refine St.done ?_
      refine SX.seq ?_
      refine SC.ret ?_
      exact SX.ret2 rfl rfl rfl (.inl ⟨by omega, v4, E2, rfl, hb4, rfl⟩)
theorem itake_spec (w0 : World) (L : List Chunk) (p q : Nat) (rv ov : Value) (bs : List Nat) (most at_ : Nat) (out : List Nat) (Eo : Chunk) (hR : RIn w0 L rv bs most at_ out ov Eo) (n : Nat) (hn : n ≤ 32) :
    Meets Try.prog 124 #[.pointer (some ⟨p, 0, none⟩), .int .i64 ((n : Nat) : Int)] w0 (RdL p q rv ov at_ most Eo L) (AnsT w0 (takeR n bs most at_ out) p q rv bs most L) := by
  have hx := hR.rd
  have hl := hR.len
  have hb := hR.lt
  have hat := hR.at_
  have hmost := hR.big
  have hroom := hR.room
  have htl := take_lt bs at_ n
  have hpw : 2 ^ n ≤ 2 ^ 32 := Nat.pow_le_pow_right (by decide) hn
  unfold RdL
  refine Meets.of_body [.pointer (some ⟨p, 0, none⟩), .int .i64 ((n : Nat) : Int)] Try.func124 rfl Try.ntmps124 rfl ?_
  refine SC.seq ?_
  refine SC.plain ?_
  refine St.assign rfl rfl ?_
  refine St.assign rfl rfl ?_
  refine St.done ?_
  refine SX.seq ?_
  refine SC.seq ?_
  refine SC.plain ?_
  refine St.move rfl rfl ?_
  refine St.nilCheck rfl rfl ?_
  refine St.fieldAddr (off := 0) rfl rfl (by kernel_rfl) ?_
  refine St.load rfl rfl (by kernel_rfl) (by first | exact Holds.row mem0 rfl | exact Holds.row mem1 rfl | exact Holds.row mem2 rfl | exact Holds.row mem3 rfl | exact Holds.row mem4 rfl | exact Holds.row mem5 rfl | exact Holds.row mem6 rfl | exact Holds.row mem7 rfl | exact Holds.row mem8 rfl) ?_
  refine St.move rfl rfl ?_
  refine St.perm _ (perm12 _ _ _) ?_
  refine St.call [_, _] rfl (by kernel_rfl) rfl (take_spec w0 _ rv bs q at_ n (hx.mono fun w hw => hw.drop.drop) hl hb hat hn) (fun _ _ _ _ h => h.nil) ?_
  rintro r1 L1 (⟨h1, rfl, rfl⟩ | ⟨h1, rfl, rfl⟩)
  · refine St.move rfl rfl ?_
    refine St.extract rfl rfl rfl ?_
    refine St.extract rfl rfl rfl ?_
    refine St.assign rfl rfl ?_
    refine St.assign rfl rfl ?_
    refine St.done ?_
    refine SX.seq ?_
    refine SC.seq ?_
    refine SC.seq ?_
    refine SC.plain ?_
    refine St.move rfl rfl ?_
    refine St.notB rfl rfl ?_
    refine St.done ?_
    refine SX.seq ?_
    refine SC.cond_false rfl ?_
    refine SC.skip ?_
    refine SX.seq ?_
    refine SC.seq ?_
    refine SC.plain ?_
    refine St.move rfl rfl ?_
    refine St.convS rfl rfl (by kernel_rfl) (by kernel_rfl) (by omega) ?_
    refine St.assign rfl rfl ?_
    refine St.assign rfl rfl ?_
    refine St.done ?_
    refine SX.seq ?_
    refine SC.ret ?_
    refine SX.perm _ (perm12 _ _ _) ?_
    rw [takeR_ok h1]
    exact SX.ret2 rfl rfl rfl ⟨rfl, ov, Eo, ⟨hR.rd, hR.len, hR.lt, h1, hR.big, hR.buf, hR.room, hR.outB, hR.cap⟩, rfl⟩
  · refine St.move rfl rfl ?_
    refine St.extract rfl rfl rfl ?_
    refine St.extract rfl rfl rfl ?_
    refine St.assign rfl rfl ?_
    refine St.assign rfl rfl ?_
    refine St.done ?_
    refine SX.seq ?_
    refine SC.seq ?_
    refine SC.seq ?_
    refine SC.plain ?_
    refine St.move rfl rfl ?_
    refine St.notB rfl rfl ?_
    refine St.done ?_
    refine SX.seq ?_
    refine SC.cond_true rfl ?_
    refine SC.seq ?_
    refine SC.plain ?_
    refine St.assign rfl rfl ?_
    refine St.assign rfl rfl ?_
    refine St.done ?_
    refine SX.seq ?_
    refine SC.ret ?_
    refine SX.seq_ret ?_
    rw [takeR_bad (by omega)]
    refine SX.weak L (.cons _ (.cons _ (.cons _ (List.Sublist.refl _)))) ?_
    exact SX.ret2 rfl rfl rfl ⟨rfl, by decide, rfl⟩
theorem iput_spec (w0 : World) (L : List Chunk) (p q : Nat) (rv ov : Value) (bs : List Nat) (most at_ : Nat) (out : List Nat) (Eo : Chunk) (hR : RIn w0 L rv bs most at_ out ov Eo) (c : Nat) (hc : c < 256) :
    Meets Try.prog 197 #[.pointer (some ⟨p, 0, none⟩), .int .u8 ((c : Nat) : Int)] w0 (RdL p q rv ov at_ most Eo L) (AnsE w0 (putR c bs most at_ out) p q rv bs most L) := by
  have hx := hR.rd
  have hl := hR.len
  have hb := hR.lt
  have hat := hR.at_
  have hmost := hR.big
  have hroom := hR.room
  have hob := hR.buf
  have hor := hob.read
  obtain ⟨bo, oo, Ao, co, rfl, hAo, _⟩ := hor
  unfold RdL
  refine Meets.of_body [.pointer (some ⟨p, 0, none⟩), .int .u8 ((c : Nat) : Int)] Try.func197 rfl Try.ntmps197 rfl ?_
  refine SC.seq ?_
  refine SC.plain ?_
  refine St.assign rfl rfl ?_
  refine St.done ?_
  refine SX.seq ?_
  refine SC.seq ?_
  refine SC.seq ?_
  refine SC.drawn [(0, true), (1, true), (2, true), (3, true), (4, true), (5, true), (6, true), (7, true), (8, true), (9, true)] [] (_) (by kernel_rfl) (by kernel_rfl) (fun _ h => h) ?_
  refine St.move rfl rfl ?_
  refine St.nilCheck rfl rfl ?_
  refine St.fieldAddr (off := 1) rfl rfl (by kernel_rfl) ?_
  refine St.load rfl rfl (by kernel_rfl) (by first | exact Holds.row mem0 rfl | exact Holds.row mem1 rfl | exact Holds.row mem2 rfl | exact Holds.row mem3 rfl | exact Holds.row mem4 rfl | exact Holds.row mem5 rfl | exact Holds.row mem6 rfl | exact Holds.row mem7 rfl | exact Holds.row mem8 rfl) ?_
  refine St.lenSl rfl rfl (by kernel_rfl) ?_
  refine St.move rfl rfl ?_
  refine St.nilCheck rfl rfl ?_
  refine St.fieldAddr (off := 2) rfl rfl (by kernel_rfl) ?_
  refine St.load rfl rfl (by kernel_rfl) (by first | exact Holds.row mem0 rfl | exact Holds.row mem1 rfl | exact Holds.row mem2 rfl | exact Holds.row mem3 rfl | exact Holds.row mem4 rfl | exact Holds.row mem5 rfl | exact Holds.row mem6 rfl | exact Holds.row mem7 rfl | exact Holds.row mem8 rfl) ?_
  refine St.geq rfl rfl rfl ?_
  refine St.done ?_
  refine SX.tail ?_
  refine St.done ?_
  refine SX.seq ?_
  refine SC.condp rfl (fun c14 => ?_) (fun c14 => ?_)
  · refine SC.seq ?_
    refine SC.plain ?_
    refine St.assign rfl rfl ?_
    refine St.done ?_
    refine SX.seq ?_
    refine SC.ret ?_
    refine SX.seq_ret ?_
    have hp : putR c bs most at_ out = .bad 5 := if_pos (by omega)
    rw [hp]
    refine SX.weak L (.cons _ (.cons _ (.cons _ (List.Sublist.refl _)))) ?_
    exact SX.ret1 rfl rfl ⟨rfl, by decide, rfl⟩
  · refine SC.skip ?_
    refine SX.seq ?_
    refine SC.seq ?_
    refine SC.plain ?_
    refine St.move rfl rfl ?_
    refine St.move rfl rfl ?_
    refine St.nilCheck rfl rfl ?_
    refine St.fieldAddr (off := 1) rfl rfl (by kernel_rfl) ?_
    refine St.load rfl rfl (by kernel_rfl) (by first | exact Holds.row mem0 rfl | exact Holds.row mem1 rfl | exact Holds.row mem2 rfl | exact Holds.row mem3 rfl | exact Holds.row mem4 rfl | exact Holds.row mem5 rfl | exact Holds.row mem6 rfl | exact Holds.row mem7 rfl | exact Holds.row mem8 rfl) ?_
    refine St.move rfl rfl ?_
    refine St.buildSl (n := 1) (e := 5) [(0, .int .u8 ((c : Nat) : Int))] (bytes [c]) rfl rfl (by kernel_rfl) (fun _ _ h => h.nil) (fun b5 => ?_)
    refine St.append3 (e := 5) (sz := 1) (bytes := 1) (xs := bytes out) (n := out.length) (news := bytes [c]) (m := 1) rfl rfl rfl (by kernel_rfl) hob (Rd.row rfl mem0) (bytes_one _) (by omega) (by omega) (fun _ _ h => h.nil) (fun v2 E2 hb2 _ => ?_)
    rw [← bytes_app] at hb2
    refine St.drop ?_
    have hb2r := hb2.read
    obtain ⟨_, _, A2, c2, rfl, _, _⟩ := hb2r
    refine St.nilCheck rfl rfl ?_
    refine St.fieldAddr (off := 1) rfl rfl (by kernel_rfl) ?_
    first | refine St.store rfl rfl rfl rfl (by kernel_rfl) (Nat.le_of_ble_eq_true rfl) (by first | exact fun _ h => h.nil | exact fun _ h => h | exact fun _ h => h.drop | exact fun _ h => h.drop.drop | exact fun _ h => h.drop.drop.drop) ?_ | refine St.store1 rfl rfl rfl rfl (by kernel_rfl) (Nat.le_of_ble_eq_true rfl) (by first | exact fun _ h => h.nil | exact fun _ h => h | exact fun _ h => h.drop | exact fun _ h => h.drop.drop | exact fun _ h => h.drop.drop.drop) ?_ | refine St.store2 rfl rfl rfl rfl (by kernel_rfl) (Nat.le_of_ble_eq_true rfl) (by first | exact fun _ h => h.nil | exact fun _ h => h | exact fun _ h => h.drop | exact fun _ h => h.drop.drop | exact fun _ h => h.drop.drop.drop) ?_ | refine St.store3 rfl rfl rfl rfl (by kernel_rfl) (Nat.le_of_ble_eq_true rfl) (by first | exact fun _ h => h.nil | exact fun _ h => h | exact fun _ h => h.drop | exact fun _ h => h.drop.drop | exact fun _ h => h.drop.drop.drop) ?_ | refine St.store4 rfl rfl rfl rfl (by kernel_rfl) (Nat.le_of_ble_eq_true rfl) (by first | exact fun _ h => h.nil | exact fun _ h => h | exact fun _ h => h.drop | exact fun _ h => h.drop.drop | exact fun _ h => h.drop.drop.drop) ?_ | refine St.store5 rfl rfl rfl rfl (by kernel_rfl) (Nat.le_of_ble_eq_true rfl) (by first | exact fun _ h => h.nil | exact fun _ h => h | exact fun _ h => h.drop | exact fun _ h => h.drop.drop | exact fun _ h => h.drop.drop.drop) ?_
    refine St.done ?_
    refine SX.seq ?_
    refine SC.seq ?_
    refine SC.plain ?_
    refine St.assign rfl rfl ?_
    refine St.done ?_
    refine SX.seq ?_
    refine SC.ret ?_
    have hp : putR c bs most at_ out = .ok () at_ (out ++ [c]) := if_neg (by omega)
    rw [hp]
    exact SX.ret1 rfl rfl ⟨rfl, _, E2, ⟨hR.rd, hR.len, hR.lt, hR.at_, hR.big, by rw [List.length_append]; exact hb2, by rw [List.length_append]; show _ + 1 ≤ _; omega, fun b hb => by rcases List.mem_append.1 hb with h | h; exact hR.outB b h; rw [List.mem_singleton.1 h]; exact hc, hR.cap⟩, rfl⟩
end Go.Proofs.Ytahafepgmkiabaa
