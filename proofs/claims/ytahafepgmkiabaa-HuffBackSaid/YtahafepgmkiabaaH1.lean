/- Walks: huff.count. -/
import Derived.Test.YtahafepgmkiabaaSepG
import Derived.Test.YtahafepgmkiabaaProg
set_option linter.unusedVariables false
set_option linter.unusedSimpArgs false
set_option linter.ambiguousOpen false
namespace Go.Proofs.Ytahafepgmkiabaa
open Go Go.Proofs.Ytahafepgmkiabaa.Sep

def ints (xs : List Int) : List Value := xs.map (Value.int .i64)
theorem ints_length (xs : List Int) : (ints xs).length = xs.length := by simp [ints]
def okLen (l : Int) : Prop := 0 ≤ l ∧ l ≤ 15
def lensOk (xs : List Int) : Bool := xs.all fun l => decide (0 ≤ l) && decide (l ≤ 15)
def share (l : Int) : Int := if 0 < l then 2 ^ (15 - l).toNat else 0
def kraft (xs : List Int) : Int := (xs.map share).sum
theorem kraft_snoc (xs : List Int) (l : Int) : kraft (xs ++ [l]) = kraft xs + share l := by simp [kraft]
theorem share_bd (l : Int) : 0 ≤ share l ∧ share l ≤ 32768 := by
  unfold share
  split
  · have h : (15 - l).toNat ≤ 15 := by omega
    have h1 : (2 : Int) ^ (15 - l).toNat ≤ 2 ^ 15 := by exact_mod_cast Nat.pow_le_pow_right (by omega) h
    have h2 : (0 : Int) < 2 ^ (15 - l).toNat := by exact_mod_cast Nat.pow_pos (by omega)
    omega
  · omega
theorem kraft_bd : ∀ xs : List Int, 0 ≤ kraft xs ∧ kraft xs ≤ 32768 * xs.length
  | [] => by simp [kraft]
  | l :: xs => by
    have h1 := share_bd l
    have h2 := kraft_bd xs
    have : kraft (l :: xs) = share l + kraft xs := by simp [kraft]
    rw [this, List.length_cons]
    omega
theorem take_snocI (xs : List Int) (i : Nat) (h : i < xs.length) : xs.take (i + 1) = xs.take i ++ [xs.getD i 0] := by
  rw [List.take_succ_eq_append_getElem h, List.getD_eq_getElem?_getD, List.getElem?_eq_getElem h]; rfl
theorem lens_bad (xs : List Int) (i : Nat) (h : i < xs.length) (hb : ¬ (0 ≤ xs.getD i 0 ∧ xs.getD i 0 ≤ 15)) : lensOk xs = false := by
  unfold lensOk
  rw [List.all_eq_false]
  refine ⟨xs.getD i 0, ?_, by simp only [Bool.and_eq_true, decide_eq_true_eq]; exact hb⟩
  rw [List.getD_eq_getElem?_getD, List.getElem?_eq_getElem h]
  exact List.getElem_mem h
theorem lens_next (xs : List Int) (i : Nat) (h : i < xs.length) (ho : lensOk (xs.take i) = true) (hb : 0 ≤ xs.getD i 0 ∧ xs.getD i 0 ≤ 15) : lensOk (xs.take (i + 1)) = true := by
  rw [take_snocI xs i h]
  unfold lensOk at *
  rw [List.all_append, ho]
  simp only [List.all_cons, List.all_nil, decide_eq_true hb.1, decide_eq_true hb.2]; rfl
theorem shl_share (l : Int) (h : 0 < l ∧ l ≤ 15) : IntKind.i64.wrap (1 * 2 ^ (min (15 - l).toNat IntKind.i64.bits)) = share l := by
  have : l = 1 ∨ l = 2 ∨ l = 3 ∨ l = 4 ∨ l = 5 ∨ l = 6 ∨ l = 7 ∨ l = 8 ∨ l = 9 ∨ l = 10 ∨ l = 11 ∨ l = 12 ∨ l = 13 ∨ l = 14 ∨ l = 15 := by omega
  rcases this with rfl | rfl | rfl | rfl | rfl | rfl | rfl | rfl | rfl | rfl | rfl | rfl | rfl | rfl | rfl <;> decide

theorem count_spec (w0 : World) (L : List Chunk) (v : Value) (xs : List Int) (hx : Rd w0 L v 1 xs.length (ints xs)) (hl : xs.length ≤ 35184372088832) :
    Meets Try.prog 103 #[v] w0 L (fun r L' => L = L' ∧ r = .tuple #[.int .i64 (if lensOk xs then kraft xs else 0), .bool (lensOk xs)]) := by
  obtain ⟨_, b, o, A, c, rfl, hA, hr⟩ := hx
  refine Meets.of_body [.slice A xs.length c] Try.func103 rfl Try.ntmps103 rfl ?_
  refine SC.seq ?_
  refine SC.plain ?_
  refine St.assign rfl rfl ?_
  refine St.assign rfl rfl ?_
  refine St.done ?_
  refine SX.seq ?_
  refine SC.seq ?_
  refine SC.plain ?_
  refine St.assign rfl rfl ?_
  refine St.done ?_
  refine SX.seq ?_
  refine SC.seq ?_
  refine SC.seq ?_
  refine SC.plain ?_
  refine St.move rfl rfl ?_
  refine St.lenSl rfl rfl (by kernel_rfl) ?_
  refine St.move rfl rfl ?_
  refine St.done ?_
  refine SX.seq ?_
  refine SC.block ?_
  refine SC.loop (α := Nat) (fun i => i ≤ xs.length ∧ lensOk (xs.take i) = true) (fun i => [(4, .int .i64 (kraft (xs.take i))), (7, .slice A xs.length c), (8, .int .i64 xs.length), (9, .int .i64 i)]) (fun _ => L) (fun i => xs.length - i) 0 ⟨by omega, rfl⟩ ⟨rfl, rfl, rfl, rfl, trivial⟩ (List.Perm.refl _) ?_
  intro i ⟨hi, hok⟩
  refine SC.seq ?_
  refine SC.plain ?_
  refine St.lss rfl rfl rfl ?_
  refine St.done ?_
  refine SX.seq ?_
  refine SC.seq ?_
  refine SC.condp rfl (fun c10 => ?_) (fun c10 => ?_)
  · have hlt : i < xs.length := by omega
    have hAe := hA (by omega)
    subst hAe
    have hk0 := kraft_bd (xs.take i)
    have hkl : (xs.take i).length ≤ xs.length := by rw [List.length_take]; omega
    refine SC.skip ?_
    refine SX.seq ?_
    refine SC.seq ?_
    refine SC.block ?_
    refine SC.seq ?_
    refine SC.plain ?_
    refine St.indexSl (e := 3) (sz := 1) rfl rfl rfl (by kernel_rfl) (by omega) ?_
    refine St.load rfl rfl (by kernel_rfl) (hr.nat i (by omega)) ?_
    refine St.assign rfl rfl ?_
    refine St.done ?_
    refine SX.seq ?_
    refine SC.seq ?_
    refine SC.seq ?_
    refine SC.plain ?_
    refine St.move rfl rfl ?_
    refine St.lss rfl rfl rfl ?_
    refine St.move rfl rfl ?_
    refine St.split 15 rfl (fun g15 => ?_) (fun g15 => ?_)
    · refine St.guard_no rfl rfl rfl ?_
      refine St.guard_no rfl rfl rfl ?_
      refine St.pick_true rfl rfl rfl ?_
      refine St.done ?_
      refine SX.seq ?_
      refine SC.cond_true rfl ?_
      refine SC.seq ?_
      refine SC.plain ?_
      refine St.assign rfl rfl ?_
      refine St.assign rfl rfl ?_
      refine St.done ?_
      refine SX.seq ?_
      refine SC.ret ?_
      refine SX.seq_ret ?_
      refine SX.blk_ret ?_
      refine SX.seq_ret ?_
      refine SX.seq_ret ?_
      refine SX.blk_ret ?_
      refine SX.seq_ret ?_
      refine SX.ret2 rfl rfl rfl ?_
      rw [lens_bad xs i hlt (by omega)]
      exact ⟨rfl, rfl⟩
    · refine St.guard_yes rfl rfl ?_
      refine St.move rfl rfl ?_
      refine St.guard_yes rfl rfl ?_
      refine St.gtr rfl rfl rfl ?_
      refine St.pick_false rfl rfl rfl ?_
      refine St.done ?_
      refine SX.seq ?_
      refine SC.condp rfl (fun c18 => ?_) (fun c18 => ?_)
      · refine SC.seq ?_
        refine SC.plain ?_
        refine St.assign rfl rfl ?_
        refine St.assign rfl rfl ?_
        refine St.done ?_
        refine SX.seq ?_
        refine SC.ret ?_
        refine SX.seq_ret ?_
        refine SX.blk_ret ?_
        refine SX.seq_ret ?_
        refine SX.seq_ret ?_
        refine SX.blk_ret ?_
        refine SX.seq_ret ?_
        refine SX.ret2 rfl rfl rfl ?_
        rw [lens_bad xs i hlt (by omega)]
        exact ⟨rfl, rfl⟩
      · refine SC.skip ?_
        refine SX.seq ?_
        refine SC.seq ?_
        refine SC.plain ?_
        refine St.move rfl rfl ?_
        refine St.gtr rfl rfl rfl ?_
        refine St.done ?_
        refine SX.seq ?_
        refine SC.condp rfl (fun c20 => ?_) (fun c20 => ?_)
        · have hok2 := lens_next xs i hlt hok (by omega)
          have hk2 : kraft (xs.take (i + 1)) = kraft (xs.take i) + share (xs.getD i 0) := by rw [take_snocI xs i hlt, kraft_snoc]
          have hsb := share_bd (xs.getD i 0)
          refine SC.plain ?_
          refine St.move rfl rfl ?_
          refine St.move rfl rfl ?_
          refine St.subI rfl rfl rfl (by omega) ?_
          refine St.shl rfl rfl rfl (by omega) ?_
          rw [shl_share _ (by omega)]
          refine St.addI rfl rfl rfl (by omega) ?_
          refine St.assign rfl rfl ?_
          refine St.done ?_
          refine SX.blk ?_
          refine SX.seq ?_
          refine SC.plain ?_
          refine St.addI rfl rfl rfl (by omega) ?_
          refine St.move rfl rfl ?_
          refine St.done ?_
          refine SX.again (i + 1) ⟨by omega, hok2⟩ (by show xs.length - (i + 1) < xs.length - i; omega) ⟨by rw [hk2]; rfl, rfl, rfl, rfl, trivial⟩ (List.Perm.refl _)
        · have hok2 := lens_next xs i hlt hok (by omega)
          have hk2 : kraft (xs.take (i + 1)) = kraft (xs.take i) := by rw [take_snocI xs i hlt, kraft_snoc, show share (xs.getD i 0) = 0 from if_neg (by omega)]; omega
          refine SC.skip ?_
          refine SX.blk ?_
          refine SX.seq ?_
          refine SC.plain ?_
          refine St.addI rfl rfl rfl (by omega) ?_
          refine St.move rfl rfl ?_
          refine St.done ?_
          refine SX.again (i + 1) ⟨by omega, hok2⟩ (by show xs.length - (i + 1) < xs.length - i; omega) ⟨by rw [hk2]; rfl, rfl, rfl, rfl, trivial⟩ (List.Perm.refl _)
  · have hie : i = xs.length := by omega
    subst hie
    rw [List.take_length] at hok ⊢
    refine SC.exit ?_
    refine SX.seq_exit ?_
    refine SX.seq_exit ?_
    refine SX.hit ?_
    refine SX.seq ?_
    refine SC.seq ?_
    refine SC.plain ?_
    refine St.move rfl rfl ?_
    refine St.assign rfl rfl ?_
    refine St.assign rfl rfl ?_
    refine St.done ?_
    refine SX.seq ?_
    refine SC.ret ?_
    refine SX.ret2 rfl rfl rfl ?_
    rw [hok]
    exact ⟨rfl, rfl⟩
end Go.Proofs.Ytahafepgmkiabaa
