/- Walks: the document's inflating: the fixed codes, lengths of codes. -/
import Derived.Test.YtahafepgmkiabaaK2
import Derived.Test.YtahafepgmkiabaaJ4
set_option linter.unusedVariables false
set_option linter.unusedSimpArgs false
set_option linter.ambiguousOpen false
namespace Go.Proofs.Ytahafepgmkiabaa
open Go Go.Proofs.Ytahafepgmkiabaa.Sep Go.Proofs.Ytahafepgmkiabaa.Inf

def litTo (i : Nat) : List Int := (List.range i).map litAt
theorem litTo_len (i : Nat) : (litTo i).length = i := by simp [litTo]
theorem litTo_succ (i : Nat) : litTo (i + 1) = litTo i ++ [litAt i] := by simp [litTo, List.range_succ]
theorem litTo_all : litTo 288 = fixedLit := by kernel_rfl
theorem five_succ (i : Nat) : List.replicate (i + 1) (5 : Int) = List.replicate i 5 ++ [5] := List.replicate_succ'
theorem five_all : List.replicate 32 (5 : Int) = fixedDist := rfl
def Lens (xs : List Int) : Prop := ∀ x ∈ xs, 0 ≤ x ∧ x ≤ 15
theorem Lens.at {xs : List Int} (h : Lens xs) (i : Nat) : 0 ≤ xs.getD i 0 ∧ xs.getD i 0 ≤ 15 := by
  rcases Nat.lt_or_ge i xs.length with hi | hi
  · rw [List.getD_eq_getElem?_getD, List.getElem?_eq_getElem hi]; exact h _ (List.getElem_mem hi)
  · rw [List.getD_eq_getElem?_getD, List.getElem?_eq_none hi]; decide
theorem ones_stop (xs : List Int) {i : Nat} (hi : i < xs.length) (h : ¬ (xs.getD i 0 == 0 || xs.getD i 0 == 1)) : isOne xs = false := by
  have : onesTo xs xs.length = false := by
    unfold onesTo
    rw [List.take_length, List.all_eq_false]
    refine ⟨xs.getD i 0, ?_, by simpa using h⟩
    rw [List.getD_eq_getElem?_getD, List.getElem?_eq_getElem hi]; exact List.getElem_mem hi
  rw [isOne_eq, this, Bool.false_and]

theorem wfixed_spec (w0 : World) (L : List Chunk) :
    Meets Try.prog 164 #[] w0 L (fun r L' => ∃ v1 v2 E1 E2, r = .tuple #[v1, v2] ∧ Buf 3 1 v1 (ints fixedLit) fixedLit.length E1 ∧ Buf 3 1 v2 (ints fixedDist) fixedDist.length E2 ∧ L' = E1 :: E2 :: L) := by
  refine Meets.of_body [] Try.func164 rfl Try.ntmps164 rfl ?_
  refine SC.seq ?_
  refine SC.plain ?_
  refine St.assign rfl rfl ?_
  refine St.assign rfl rfl ?_
  refine St.done ?_
  refine SX.seq ?_
  refine SC.seq ?_
  refine SC.plain ?_
  refine St.assign rfl rfl ?_
  refine St.assign rfl rfl ?_
  refine St.done ?_
  refine SX.seq ?_
  refine SC.seq ?_
  refine SC.seq ?_
  refine SC.plain ?_
  refine St.assign rfl rfl ?_
  refine St.done ?_
  refine SX.seq ?_
  refine SC.block ?_
  refine SC.perm ([] :: [] :: L) (List.Perm.refl _) ?_
  refine SC.loop (α := Nat × Value × Chunk) (fun s_ => s_.1 ≤ 288 ∧ Buf 3 1 s_.2.1 (ints (litTo s_.1)) s_.1 s_.2.2) (fun s_ => [(2, s_.2.1), (3, .slice none 0 0), (4, .int .i64 ((s_.1 : Nat) : Int))]) (fun s_ => s_.2.2 :: [] :: L) (fun s_ => 288 - s_.1) (0, .slice none 0 0, []) ⟨Nat.zero_le _, Buf.nil 3 1⟩ ⟨rfl, rfl, rfl, trivial⟩ (List.Perm.refl _) ?_
  rintro ⟨i, v, E⟩ ⟨hi, hbv⟩
  simp only at hi hbv
  show SC _ _ _ [(2, v), (3, .slice none 0 0), (4, .int .i64 ((i : Nat) : Int))] (E :: [] :: L)
  refine SC.seq ?_
  refine SC.seq ?_
  refine SC.plain ?_
  refine St.move rfl rfl ?_
  refine St.lss rfl rfl rfl ?_
  refine St.done ?_
  refine SX.seq ?_
  refine SC.condp rfl (fun c8 => ?_) (fun c8 => ?_)
  · refine SC.skip ?_
    refine SX.seq ?_
    refine SC.seq ?_
    refine SC.block ?_
    refine SC.seq ?_
    refine SC.plain ?_
    refine St.assign rfl rfl ?_
    refine St.done ?_
    refine SX.seq ?_
    refine SC.join (α := Unit) (fun _ => True) (fun _ => [(2, v), (3, .slice none 0 0), (4, .int .i64 ((i : Nat) : Int)), (5, .int .i64 (if 144 ≤ i ∧ i < 256 then 9 else 8))]) (fun _ => E :: [] :: L) ?_ ?_
    · rintro ⟨⟩ -
      show SC _ _ _ [(2, v), (3, .slice none 0 0), (4, .int .i64 ((i : Nat) : Int)), (5, .int .i64 (if 144 ≤ i ∧ i < 256 then 9 else 8))] (E :: [] :: L)
      refine SC.join (α := Unit) (fun _ => True) (fun _ => [(2, v), (3, .slice none 0 0), (4, .int .i64 ((i : Nat) : Int)), (5, .int .i64 (litAt i))]) (fun _ => E :: [] :: L) ?_ ?_
      · rintro ⟨⟩ -
        show SC _ _ _ [(2, v), (3, .slice none 0 0), (4, .int .i64 ((i : Nat) : Int)), (5, .int .i64 (litAt i))] (E :: [] :: L)
        refine SC.plain ?_
        refine St.move rfl rfl ?_
        refine St.move rfl rfl ?_
        refine St.buildSl (n := 1) (e := 3) [(0, .int .i64 (litAt i))] (ints [litAt i]) rfl rfl (by kernel_rfl) (fun _ _ h => h.nil) (fun b5 => ?_)
        refine St.append1 (e := 3) (sz := 1) (bytes := 8) (xs := ints (litTo i)) (n := i) (news := ints [litAt i]) (m := 1) rfl rfl rfl (by kernel_rfl) hbv (Rd.row rfl mem0) (ints_one _) (by omega) (by omega) (fun _ _ h => h.nil) (fun v2 E2 hb2 _ => ?_)
        rw [← ints_app] at hb2
        refine St.drop ?_
        refine St.assign rfl rfl ?_
        refine St.done ?_
        refine SX.blk ?_
        refine SX.seq ?_
        refine SC.plain ?_
        refine St.move rfl rfl ?_
        first | refine St.addN (b := 1) rfl rfl rfl (by omega) ?_ | refine St.addI rfl rfl rfl (by omega) ?_
        refine St.assign rfl rfl ?_
        refine St.done ?_
        exact SX.again (i + 1, v2, E2) ⟨by simp only; omega, by simp only; rw [litTo_succ]; exact hb2⟩ (by simp only; omega) ⟨rfl, rfl, rfl, trivial⟩ (List.Perm.refl _)
      · refine SC.seq ?_
        refine SC.plain ?_
        refine St.move rfl rfl ?_
        refine St.geq rfl rfl rfl ?_
        refine St.move rfl rfl ?_
        refine St.split 19 rfl (fun g19 => ?_) (fun g19 => ?_)
        · refine St.guard_yes rfl rfl ?_
          refine St.move rfl rfl ?_
          refine St.guard_yes rfl rfl ?_
          refine St.lss rfl rfl rfl ?_
          refine St.pick_true rfl rfl rfl ?_
          refine St.done ?_
          refine SX.seq ?_
          refine SC.condp rfl (fun c22 => ?_) (fun c22 => ?_)
          · refine SC.plain ?_
            refine St.assign rfl rfl ?_
            refine St.done ?_
            exact SX.some () trivial ⟨rfl, rfl, rfl, congrArg (fun n => some (Value.int .i64 n)) (by unfold litAt; split <;> (try split) <;> (try split) <;> (try split) <;> first | rfl | omega), trivial⟩ (List.Perm.refl _)
          · refine SC.skip ?_
            exact SX.some () trivial ⟨rfl, rfl, rfl, congrArg (fun n => some (Value.int .i64 n)) (by unfold litAt; split <;> (try split) <;> (try split) <;> (try split) <;> first | rfl | omega), trivial⟩ (List.Perm.refl _)
        · refine St.guard_no rfl rfl rfl ?_
          refine St.guard_no rfl rfl rfl ?_
          refine St.pick_false rfl rfl rfl ?_
          refine St.done ?_
          refine SX.seq ?_
          refine SC.cond_false rfl ?_
          refine SC.skip ?_
          exact SX.some () trivial ⟨rfl, rfl, rfl, congrArg (fun n => some (Value.int .i64 n)) (by unfold litAt; split <;> (try split) <;> (try split) <;> (try split) <;> first | rfl | omega), trivial⟩ (List.Perm.refl _)
    · refine SC.seq ?_
      refine SC.plain ?_
      refine St.move rfl rfl ?_
      refine St.geq rfl rfl rfl ?_
      refine St.move rfl rfl ?_
      refine St.split 13 rfl (fun g13 => ?_) (fun g13 => ?_)
      · refine St.guard_yes rfl rfl ?_
        refine St.move rfl rfl ?_
        refine St.guard_yes rfl rfl ?_
        refine St.lss rfl rfl rfl ?_
        refine St.pick_true rfl rfl rfl ?_
        refine St.done ?_
        refine SX.seq ?_
        refine SC.condp rfl (fun c16 => ?_) (fun c16 => ?_)
        · refine SC.plain ?_
          refine St.assign rfl rfl ?_
          refine St.done ?_
          exact SX.some () trivial ⟨rfl, rfl, rfl, by first | (rw [if_pos (by omega)]; rfl) | (rw [if_neg (by omega)]; rfl), trivial⟩ (List.Perm.refl _)
        · refine SC.skip ?_
          exact SX.some () trivial ⟨rfl, rfl, rfl, by first | (rw [if_pos (by omega)]; rfl) | (rw [if_neg (by omega)]; rfl), trivial⟩ (List.Perm.refl _)
      · refine St.guard_no rfl rfl rfl ?_
        refine St.guard_no rfl rfl rfl ?_
        refine St.pick_false rfl rfl rfl ?_
        refine St.done ?_
        refine SX.seq ?_
        refine SC.cond_false rfl ?_
        refine SC.skip ?_
        exact SX.some () trivial ⟨rfl, rfl, rfl, by first | (rw [if_pos (by omega)]; rfl) | (rw [if_neg (by omega)]; rfl), trivial⟩ (List.Perm.refl _)
  · obtain rfl : i = 288 := by omega
    rw [litTo_all] at hbv
    refine SC.exit ?_
    refine SX.seq_exit ?_
    refine SX.seq_exit ?_
    refine SX.hit ?_
    refine SX.seq ?_
    refine SC.seq ?_
    refine SC.seq ?_
    refine SC.plain ?_
    refine St.assign rfl rfl ?_
    refine St.done ?_
    refine SX.seq ?_
    refine SC.block ?_
    refine SC.loop (α := Nat × Value × Chunk) (fun s_ => s_.1 ≤ 32 ∧ Buf 3 1 s_.2.1 (ints (List.replicate s_.1 5)) s_.1 s_.2.2) (fun s_ => [(2, v), (3, s_.2.1), (6, .int .i64 ((s_.1 : Nat) : Int))]) (fun s_ => E :: s_.2.2 :: L) (fun s_ => 32 - s_.1) (0, .slice none 0 0, []) ⟨Nat.zero_le _, Buf.nil 3 1⟩ ⟨rfl, rfl, rfl, trivial⟩ (List.Perm.refl _) ?_
    rintro ⟨j, u, D⟩ ⟨hj, hbu⟩
    simp only at hj hbu
    show SC _ _ _ [(2, v), (3, u), (6, .int .i64 ((j : Nat) : Int))] (E :: D :: L)
    refine SC.seq ?_
    refine SC.seq ?_
    refine SC.plain ?_
    refine St.move rfl rfl ?_
    refine St.lss rfl rfl rfl ?_
    refine St.done ?_
    refine SX.seq ?_
    refine SC.condp rfl (fun c28 => ?_) (fun c28 => ?_)
    · refine SC.skip ?_
      refine SX.seq ?_
      refine SC.seq ?_
      refine SC.block ?_
      refine SC.plain ?_
      refine St.move rfl rfl ?_
      refine St.buildSl (n := 1) (e := 3) [(0, .int .i64 5)] (ints [5]) rfl rfl (by kernel_rfl) (fun _ _ h => h.nil) (fun b5 => ?_)
      refine St.append2 (e := 3) (sz := 1) (bytes := 8) (xs := ints (List.replicate j 5)) (n := j) (news := ints [5]) (m := 1) rfl rfl rfl (by kernel_rfl) hbu (Rd.row rfl mem0) (ints_one _) (by omega) (by omega) (fun _ _ h => h.nil) (fun v2 E2 hb2 _ => ?_)
      rw [← ints_app] at hb2
      refine St.drop ?_
      refine St.assign rfl rfl ?_
      refine St.done ?_
      refine SX.blk ?_
      refine SX.seq ?_
      refine SC.plain ?_
      refine St.move rfl rfl ?_
      first | refine St.addN (b := 1) rfl rfl rfl (by omega) ?_ | refine St.addI rfl rfl rfl (by omega) ?_
      refine St.assign rfl rfl ?_
      refine St.done ?_
      exact SX.again (j + 1, v2, E2) ⟨by simp only; omega, by simp only; rw [five_succ]; exact hb2⟩ (by simp only; omega) ⟨rfl, rfl, rfl, trivial⟩ (List.Perm.refl _)
    · obtain rfl : j = 32 := by omega
      rw [five_all] at hbu
      refine SC.exit ?_
      refine SX.seq_exit ?_
      refine SX.seq_exit ?_
      refine SX.hit ?_
      refine SX.seq ?_
      refine SC.seq ?_
      refine SC.plain ?_
      refine St.move rfl rfl ?_
      refine St.move rfl rfl ?_
      refine St.assign rfl rfl ?_
      refine St.assign rfl rfl ?_
      refine St.done ?_
      refine SX.seq ?_
      refine SC.ret ?_
      exact SX.ret2 rfl rfl rfl ⟨_, _, _, _, rfl, by rw [lit_len]; exact hbv, by rw [dist_len]; exact hbu, rfl⟩
theorem wsingle_spec (w0 : World) (L : List Chunk) (v : Value) (xs : List Int) (hx : Rd w0 L v 1 xs.length (ints xs)) (hl : xs.length ≤ 100000) (hxs : Lens xs) :
    Meets Try.prog 192 #[v] w0 L (fun r L' => L = L' ∧ r = .bool (isOne xs)) := by
  obtain ⟨_, b, o, A, c, rfl, hA, hr⟩ := hx
  refine Meets.of_body [.slice A xs.length c] Try.func192 rfl Try.ntmps192 rfl ?_
  refine SC.seq ?_
  refine SC.plain ?_
  refine St.assign rfl rfl ?_
  refine St.done ?_
  refine SX.seq ?_
  refine SC.seq ?_
  refine SC.plain ?_
  refine St.assign rfl rfl ?_
  refine St.done ?_
  refine SX.seq ?_
  refine SC.seq ?_
  refine SC.seq ?_
  refine SC.plain ?_
  refine St.assign rfl rfl ?_
  refine St.done ?_
  refine SX.seq ?_
  refine SC.block ?_
  refine SC.loop (α := Nat) (fun i => i ≤ xs.length ∧ onesTo xs i = true) (fun i => [(0, .slice A xs.length c), (3, .int .i64 ((cntTo xs i : Nat) : Int)), (4, .int .i64 ((i : Nat) : Int))]) (fun _ => L) (fun i => xs.length - i) 0 ⟨Nat.zero_le _, rfl⟩ ⟨rfl, rfl, rfl, trivial⟩ (List.Perm.refl _) ?_
  rintro i ⟨hi, hones⟩
  refine SC.seq ?_
  refine SC.seq ?_
  refine SC.plain ?_
  refine St.move rfl rfl ?_
  refine St.move rfl rfl ?_
  refine St.lenSl rfl rfl (by kernel_rfl) ?_
  refine St.lss rfl rfl rfl ?_
  refine St.done ?_
  refine SX.seq ?_
  refine SC.condp rfl (fun c8 => ?_) (fun c8 => ?_)
  · have hlt : i < xs.length := by omega
    have hli := hxs.at i
    have hcs := cnt_succ xs i hlt
    have hcl := cntTo_le xs i
    obtain rfl := hA (by omega)
    refine SC.skip ?_
    refine SX.seq ?_
    refine SC.seq ?_
    refine SC.block ?_
    refine SC.seq ?_
    refine SC.seq ?_
    refine SC.plain ?_
    refine St.move rfl rfl ?_
    refine St.move rfl rfl ?_
    refine St.indexSl (e := 3) (sz := 1) rfl rfl rfl (by kernel_rfl) (by omega) ?_
    refine St.load rfl rfl (by kernel_rfl) (hr.nat i hlt) ?_
    refine St.gtr rfl rfl rfl ?_
    refine St.done ?_
    refine SX.seq ?_
    refine SC.condp rfl (fun c15 => ?_) (fun c15 => ?_)
    · refine SC.seq ?_
      refine SC.plain ?_
      refine St.assign rfl rfl ?_
      refine St.done ?_
      refine SX.seq ?_
      refine SC.ret ?_
      refine SX.seq_ret ?_
      refine SX.blk_ret ?_
      refine SX.seq_ret ?_
      refine SX.seq_ret ?_
      refine SX.blk_ret ?_
      refine SX.seq_ret ?_
      exact SX.ret1 rfl rfl ⟨rfl, by rw [ones_stop xs hlt (by rw [Bool.or_eq_true_iff, beq_iff_eq, beq_iff_eq]; omega)]⟩
    · have hos := ones_succ xs i hlt
      rw [hones, Bool.true_and, show (xs.getD i 0 == 0 || xs.getD i 0 == 1) = true from by rw [Bool.or_eq_true_iff, beq_iff_eq, beq_iff_eq]; omega] at hos
      refine SC.skip ?_
      refine SX.seq ?_
      refine SC.plain ?_
      refine St.move rfl rfl ?_
      refine St.move rfl rfl ?_
      refine St.move rfl rfl ?_
      refine St.indexSl (e := 3) (sz := 1) rfl rfl rfl (by kernel_rfl) (by omega) ?_
      refine St.load rfl rfl (by kernel_rfl) (hr.nat i hlt) ?_
      refine St.addI rfl rfl rfl (by omega) ?_
      refine St.assign rfl rfl ?_
      refine St.done ?_
      refine SX.blk ?_
      refine SX.seq ?_
      refine SC.plain ?_
      refine St.move rfl rfl ?_
      first | refine St.addN (b := 1) rfl rfl rfl (by omega) ?_ | refine St.addI rfl rfl rfl (by omega) ?_
      refine St.assign rfl rfl ?_
      refine St.done ?_
      exact SX.again (i + 1) ⟨by omega, hos⟩ (by show xs.length - (i + 1) < xs.length - i; omega) ⟨rfl, congrArg (fun n => some (Value.int .i64 n)) (by rw [hcs]; by_cases h0 : xs.getD i 0 = 0; (rw [if_pos h0]; omega); (rw [if_neg h0]; omega)), rfl, trivial⟩ (List.Perm.refl _)
  · obtain rfl : i = xs.length := by omega
    refine SC.exit ?_
    refine SX.seq_exit ?_
    refine SX.seq_exit ?_
    refine SX.hit ?_
    refine SX.seq ?_
    refine SC.seq ?_
    refine SC.plain ?_
    refine St.move rfl rfl ?_
    refine St.lss rfl rfl rfl ?_
    refine St.assign rfl rfl ?_
    refine St.done ?_
    refine SX.seq ?_
    refine SC.ret ?_
    exact SX.ret1 rfl rfl ⟨rfl, by rw [isOne_eq, hones, Bool.true_and]; exact congrArg Value.bool (decide_eq_decide.2 (by omega))⟩
/-- One step of reading lengths. -/
def stepR (own : List Int) (n : Nat) (l : List Int) : Rdr (List Int) := bindR (symR own) fun s => if s < 16 then pureR (l ++ [s]) else
  bindR (takeR (if s = 17 then 3 else if s = 18 then 7 else 2)) fun more =>
    if (s = 16 ∧ l.length = 0) ∨ n - l.length < (if s = 18 then 11 else 3) + more then failR 3
    else pureR (l ++ List.replicate ((if s = 18 then 11 else 3) + more) (if s = 16 then l.getD (l.length - 1) 0 else 0))
theorem lengths_step (own : List Int) (n f : Nat) (l : List Int) (bs : List Nat) (most p : Nat) (o : List Nat) : lengthsR own n (f + 1) l bs most p o = (if l.length < n then bindR (stepR own n l) (lengthsR own n f) else pureR l) bs most p o := by
  rw [lengths_succ]
  by_cases h : l.length < n
  · rw [ifR_pos h, ifR_pos h]
    unfold stepR
    rw [bind_ass]
    have e : ∀ s : Int, (if s < 16 then lengthsR own n f (l ++ [s]) else bindR (takeR (if s = 17 then 3 else if s = 18 then 7 else 2)) fun more =>
        if (s = 16 ∧ l.length = 0) ∨ n - l.length < (if s = 18 then 11 else 3) + more then failR 3
        else lengthsR own n f (l ++ List.replicate ((if s = 18 then 11 else 3) + more) (if s = 16 then l.getD (l.length - 1) 0 else 0))) =
      bindR (if s < 16 then pureR (l ++ [s]) else bindR (takeR (if s = 17 then 3 else if s = 18 then 7 else 2)) fun more =>
        if (s = 16 ∧ l.length = 0) ∨ n - l.length < (if s = 18 then 11 else 3) + more then failR 3
        else pureR (l ++ List.replicate ((if s = 18 then 11 else 3) + more) (if s = 16 then l.getD (l.length - 1) 0 else 0))) (lengthsR own n f) := fun s => by
      by_cases h2 : s < 16
      · rw [if_pos h2, if_pos h2]; rfl
      · rw [if_neg h2, if_neg h2]
        funext bs most p o
        rw [bind_ass]
        have e2 : ∀ more : Nat, (if (s = 16 ∧ l.length = 0) ∨ n - l.length < (if s = 18 then 11 else 3) + more then failR 3
            else lengthsR own n f (l ++ List.replicate ((if s = 18 then 11 else 3) + more) (if s = 16 then l.getD (l.length - 1) 0 else 0))) =
          bindR (if (s = 16 ∧ l.length = 0) ∨ n - l.length < (if s = 18 then 11 else 3) + more then failR 3
            else pureR (l ++ List.replicate ((if s = 18 then 11 else 3) + more) (if s = 16 then l.getD (l.length - 1) 0 else 0))) (lengthsR own n f) := fun more => by
          generalize (if s = 18 then 11 else 3) = K
          generalize (if s = 16 then l.getD (l.length - 1) 0 else 0) = X
          by_cases h3 : (s = 16 ∧ l.length = 0) ∨ n - l.length < K + more
          · rw [if_pos h3, if_pos h3]; rfl
          · rw [if_neg h3, if_neg h3]; rfl
        simp only [e2]
    simp only [e]
  · rw [ifR_neg h, ifR_neg h]
def AnsS (w0 : World) (g : Got (List Int)) (p q c : Nat) (rv : Value) (bs : List Nat) (most : Nat) (L L' : List Chunk) : Prop := match g with
  | .ok l t o => ∃ ov Eo lv El, RIn w0 L rv bs most t o ov Eo ∧ Buf 3 1 lv (ints l) l.length El ∧ WkL p q rv ov t most 0 Eo ([⟨c, [lv], 22⟩] :: El :: L) = L'
  | .bad e => e ≠ 0 ∧ ∃ t o ov Eo lv El l, RIn w0 L rv bs most t o ov Eo ∧ Buf 3 1 lv (ints l) l.length El ∧ WkL p q rv ov t most e Eo ([⟨c, [lv], 22⟩] :: El :: L) = L'

theorem wrepeat_spec (w0 : World) (L : List Chunk) (p q : Nat) (rv ov : Value) (bs : List Nat) (most at_ : Nat) (out : List Nat) (Eo : Chunk) (hR : RIn w0 L rv bs most at_ out ov Eo) (own l : List Int) (ow lv : Value) (c n : Nat) (El : Chunk) (hc0 : codesE own = 0) (h19 : own.length = 19) (how : Rd w0 L ow 1 own.length (ints own)) (hbl : Buf 3 1 lv (ints l) l.length El) (hln : l.length < n) (hn : n ≤ 10000) :
    Meets Try.prog 191 #[.pointer (some ⟨p, 0, none⟩), ow, .pointer (some ⟨c, 0, none⟩), .int .i64 ((n : Nat) : Int)] w0 (WkL p q rv ov at_ most 0 Eo ([⟨c, [lv], 22⟩] :: El :: L)) (fun r L' => AnsS w0 (stepR own n l bs most at_ out) p q c rv bs most L L') := by
  have hx := hR.rd
  have hl := hR.len
  have hb := hR.lt
  have hat := hR.at_
  have hmost := hR.big
  have hroom := hR.room
  obtain ⟨bl, ol, Al, cl, rfl, hAl, hrl⟩ := hbl.read
  refine Meets.of_body [.pointer (some ⟨p, 0, none⟩), ow, .pointer (some ⟨c, 0, none⟩), .int .i64 ((n : Nat) : Int)] Try.func191 rfl Try.ntmps191 rfl ?_
  refine SC.seq ?_
  refine SC.plain ?_
  refine St.move rfl rfl ?_
  refine St.move rfl rfl ?_
  refine St.call [_, _] rfl (by kernel_rfl) rfl (wsymbol_spec w0 ([⟨c, [.slice Al l.length cl], 22⟩] :: El :: L) p q rv ov bs most at_ out 0 Eo (hR.on hx.cons.cons) own ow hc0 how.cons.cons) (fun _ _ _ _ h => h.nil) ?_
  rintro r3 L3 (⟨h0, _⟩ | ⟨_, d, t2, hg2, hd1, hd2, hd3, rfl, rfl⟩ | ⟨_, e, n2, t2, hg2, hne, hd2, hd3, rfl, rfl⟩)
  · exact absurd rfl h0
  · have hm2 : stepR own n l bs most at_ out = _ := bind_of hg2
    have hR2 := hR.to hd3
    unfold WkL
    refine St.assign rfl rfl ?_
    refine St.done ?_
    refine SX.seq ?_
    refine SC.seq ?_
    refine SC.seq ?_
    refine SC.plain ?_
    refine St.move rfl rfl ?_
    refine St.nilCheck rfl rfl ?_
    refine St.fieldAddr (off := 3) rfl rfl (by kernel_rfl) ?_
    refine St.load rfl rfl (by kernel_rfl) (by first | exact Holds.row mem0 rfl | exact Holds.row mem1 rfl | exact Holds.row mem2 rfl | exact Holds.row mem3 rfl | exact Holds.row mem4 rfl | exact Holds.row mem5 rfl | exact Holds.row mem6 rfl | exact Holds.row mem7 rfl | exact Holds.row mem8 rfl) ?_
    refine St.neq rfl rfl rfl ?_
    refine St.done ?_
    refine SX.seq ?_
    refine SC.condp rfl (fun c19 => ?_) (fun c19 => ?_)
    · exfalso; omega
    · refine SC.skip ?_
      refine SX.seq ?_
      refine SC.seq ?_
      refine SC.plain ?_
      refine St.move rfl rfl ?_
      refine St.assign rfl rfl ?_
      refine St.done ?_
      refine SX.seq ?_
      refine SC.seq ?_
      refine SC.plain ?_
      refine St.assign rfl rfl ?_
      refine St.done ?_
      refine SX.seq ?_
      refine SC.join (α := Int × Nat × Nat × Int) (fun s_ => s_.2.2.1 ≤ 8 * bs.length ∧ 1 ≤ s_.2.1 ∧ s_.2.1 ≤ 200 ∧ (s_.2.2.2 = 0 → stepR own n l bs most at_ out = (if n - l.length < s_.2.1 then failR 3 else pureR (l ++ List.replicate s_.2.1 s_.1)) bs most s_.2.2.1 out) ∧ (s_.2.2.2 ≠ 0 → stepR own n l bs most at_ out = .bad s_.2.2.2)) (fun s_ => [(0, .pointer (some ⟨p, 0, none⟩)), (2, .pointer (some ⟨c, 0, none⟩)), (3, .int .i64 ((n : Nat) : Int)), (9, .int .i64 s_.1), (10, .int .i64 ((s_.2.1 : Nat) : Int))]) (fun s_ => WkL p q rv ov s_.2.2.1 most s_.2.2.2 Eo ([⟨c, [(.slice Al l.length cl)], 22⟩] :: El :: L)) ?_ ?_
      · rintro ⟨x, m, t, e⟩ ⟨ht, hm1, hm200, hm5, hmb5⟩
        simp only at ht hm1 hm200 hm5 hmb5
        show SC _ _ _ [(0, .pointer (some ⟨p, 0, none⟩)), (2, .pointer (some ⟨c, 0, none⟩)), (3, .int .i64 ((n : Nat) : Int)), (9, .int .i64 x), (10, .int .i64 ((m : Nat) : Int))] (WkL p q rv ov t most e Eo ([⟨c, [(.slice Al l.length cl)], 22⟩] :: El :: L))
        unfold WkL
        refine SC.join (α := Int) (fun e1 => (e1 = 0 → stepR own n l bs most at_ out = .ok (l ++ List.replicate m x) t out) ∧ (e1 ≠ 0 → stepR own n l bs most at_ out = .bad e1)) (fun e1 => [(0, .pointer (some ⟨p, 0, none⟩)), (2, .pointer (some ⟨c, 0, none⟩)), (3, .int .i64 ((n : Nat) : Int)), (9, .int .i64 x), (10, .int .i64 ((m : Nat) : Int))]) (fun e1 => WkL p q rv ov t most e1 Eo ([⟨c, [(.slice Al l.length cl)], 22⟩] :: El :: L)) ?_ ?_
        · rintro e1 ⟨hm8, hmb8⟩
          show SC _ _ _ [(0, .pointer (some ⟨p, 0, none⟩)), (2, .pointer (some ⟨c, 0, none⟩)), (3, .int .i64 ((n : Nat) : Int)), (9, .int .i64 x), (10, .int .i64 ((m : Nat) : Int))] (WkL p q rv ov t most e1 Eo ([⟨c, [(.slice Al l.length cl)], 22⟩] :: El :: L))
          refine SC.seq ?_
          refine SC.plain ?_
          refine St.assign rfl rfl ?_
          refine St.done ?_
          refine SX.seq ?_
          refine SC.block ?_
          refine SC.loop (α := Nat × Value × Chunk) (fun s_ => s_.1 ≤ m ∧ Buf 3 1 s_.2.1 (ints (l ++ List.replicate s_.1 x)) (l.length + s_.1) s_.2.2) (fun s_ => [(0, .pointer (some ⟨p, 0, none⟩)), (2, .pointer (some ⟨c, 0, none⟩)), (3, .int .i64 ((n : Nat) : Int)), (9, .int .i64 x), (10, .int .i64 ((m : Nat) : Int)), (11, .int .i64 ((s_.1 : Nat) : Int))]) (fun s_ => WkL p q rv ov t most e1 Eo ([⟨c, [s_.2.1], 22⟩] :: s_.2.2 :: L)) (fun s_ => m - s_.1) (0, _, El) ⟨Nat.zero_le _, by simp only [List.replicate_zero, List.append_nil]; exact hbl⟩ ⟨rfl, rfl, rfl, rfl, rfl, rfl, trivial⟩ (List.Perm.refl _) ?_
          rintro ⟨i, vi, Ei⟩ ⟨hi, hbi⟩
          simp only at hi hbi
          show SC _ _ _ [(0, .pointer (some ⟨p, 0, none⟩)), (2, .pointer (some ⟨c, 0, none⟩)), (3, .int .i64 ((n : Nat) : Int)), (9, .int .i64 x), (10, .int .i64 ((m : Nat) : Int)), (11, .int .i64 ((i : Nat) : Int))] (WkL p q rv ov t most e1 Eo ([⟨c, [vi], 22⟩] :: Ei :: L))
          unfold WkL
          refine SC.seq ?_
          refine SC.seq ?_
          refine SC.plain ?_
          refine St.move rfl rfl ?_
          refine St.move rfl rfl ?_
          refine St.lss rfl rfl rfl ?_
          refine St.move rfl rfl ?_
          refine St.split 86 rfl (fun g86 => ?_) (fun g86 => ?_)
          · refine St.guard_yes rfl rfl ?_
            refine St.move rfl rfl ?_
            refine St.guard_yes rfl rfl ?_
            refine St.nilCheck rfl rfl ?_
            refine St.guard_yes rfl rfl ?_
            refine St.fieldAddr (off := 3) rfl rfl (by kernel_rfl) ?_
            refine St.guard_yes rfl rfl ?_
            refine St.load rfl rfl (by kernel_rfl) (by first | exact Holds.row mem0 rfl | exact Holds.row mem1 rfl | exact Holds.row mem2 rfl | exact Holds.row mem3 rfl | exact Holds.row mem4 rfl | exact Holds.row mem5 rfl | exact Holds.row mem6 rfl | exact Holds.row mem7 rfl | exact Holds.row mem8 rfl) ?_
            refine St.guard_yes rfl rfl ?_
            refine St.eql rfl rfl rfl ?_
            refine St.pick_true rfl rfl rfl ?_
            refine St.done ?_
            refine SX.seq ?_
            refine SC.condp rfl (fun c92 => ?_) (fun c92 => ?_)
            · refine SC.skip ?_
              refine SX.seq ?_
              refine SC.seq ?_
              refine SC.block ?_
              refine SC.plain ?_
              refine St.move rfl rfl ?_
              refine St.move rfl rfl ?_
              refine St.nilCheck rfl rfl ?_
              refine St.load rfl rfl (by kernel_rfl) (by first | exact Holds.row mem0 rfl | exact Holds.row mem1 rfl | exact Holds.row mem2 rfl | exact Holds.row mem3 rfl | exact Holds.row mem4 rfl | exact Holds.row mem5 rfl | exact Holds.row mem6 rfl | exact Holds.row mem7 rfl | exact Holds.row mem8 rfl) ?_
              refine St.move rfl rfl ?_
              refine St.buildSl (n := 1) (e := 3) [(0, .int .i64 x)] (ints [x]) rfl rfl (by kernel_rfl) (fun _ _ h => h.nil) (fun b5 => ?_)
              refine St.append5 (e := 3) (sz := 1) (bytes := 8) (xs := ints (l ++ List.replicate i x)) (n := l.length + i) (news := ints [x]) (m := 1) rfl rfl rfl (by kernel_rfl) hbi (Rd.row rfl mem0) (ints_one _) (by omega) (by omega) (fun _ _ h => h.nil) (fun v2 E2 hb2 _ => ?_)
              rw [← ints_app] at hb2
              refine St.drop ?_
              refine St.nilCheck rfl rfl ?_
              obtain ⟨_, _, A2, c2, hv2, _, _⟩ := hb2.read
              subst hv2
              refine St.store3 rfl rfl rfl rfl (by kernel_rfl) (Nat.le_of_ble_eq_true rfl) (fun _ h => h.nil) ?_
              refine St.done ?_
              refine SX.blk ?_
              refine SX.seq ?_
              refine SC.plain ?_
              refine St.move rfl rfl ?_
              first | refine St.addN (b := 1) rfl rfl rfl (by omega) ?_ | refine St.addI rfl rfl rfl (by omega) ?_
              refine St.assign rfl rfl ?_
              refine St.done ?_
              exact SX.again (i + 1, _, E2) ⟨by simp only; omega, by simp only; rw [List.replicate_succ', ← List.append_assoc]; exact hb2⟩ (by simp only; omega) ⟨rfl, rfl, rfl, rfl, rfl, rfl, trivial⟩ (List.Perm.refl _)
            · refine SC.exit ?_
              refine SX.seq_exit ?_
              refine SX.seq_exit ?_
              refine SX.hit ?_
              by_cases he0 : e1 = 0
              · subst he0
                refine SX.ret0 (.inr rfl) rfl ?_
                rw [hm8 rfl]
                obtain rfl : i = m := by omega
                exact ⟨ov, Eo, vi, Ei, hR.to ht, by rw [List.length_append, List.length_replicate]; exact hbi, rfl⟩
              · refine SX.ret0 (.inr rfl) rfl ?_
                rw [hmb8 he0]
                exact ⟨he0, t, out, ov, Eo, vi, Ei, l ++ List.replicate i x, hR.to ht, by rw [List.length_append, List.length_replicate]; exact hbi, rfl⟩
          · refine St.guard_no rfl rfl rfl ?_
            refine St.guard_no rfl rfl rfl ?_
            refine St.guard_no rfl rfl rfl ?_
            refine St.guard_no rfl rfl rfl ?_
            refine St.guard_no rfl rfl rfl ?_
            refine St.pick_false rfl rfl rfl ?_
            refine St.done ?_
            refine SX.seq ?_
            refine SC.cond_false rfl ?_
            refine SC.exit ?_
            refine SX.seq_exit ?_
            refine SX.seq_exit ?_
            refine SX.hit ?_
            by_cases he0 : e1 = 0
            · subst he0
              refine SX.ret0 (.inr rfl) rfl ?_
              rw [hm8 rfl]
              obtain rfl : i = m := by omega
              exact ⟨ov, Eo, vi, Ei, hR.to ht, by rw [List.length_append, List.length_replicate]; exact hbi, rfl⟩
            · refine SX.ret0 (.inr rfl) rfl ?_
              rw [hmb8 he0]
              exact ⟨he0, t, out, ov, Eo, vi, Ei, l ++ List.replicate i x, hR.to ht, by rw [List.length_append, List.length_replicate]; exact hbi, rfl⟩
        · refine SC.seq ?_
          refine SC.plain ?_
          refine St.move rfl rfl ?_
          refine St.nilCheck rfl rfl ?_
          refine St.fieldAddr (off := 3) rfl rfl (by kernel_rfl) ?_
          refine St.load rfl rfl (by kernel_rfl) (by first | exact Holds.row mem0 rfl | exact Holds.row mem1 rfl | exact Holds.row mem2 rfl | exact Holds.row mem3 rfl | exact Holds.row mem4 rfl | exact Holds.row mem5 rfl | exact Holds.row mem6 rfl | exact Holds.row mem7 rfl | exact Holds.row mem8 rfl) ?_
          refine St.eql rfl rfl rfl ?_
          refine St.move rfl rfl ?_
          refine St.split 71 rfl (fun g71 => ?_) (fun g71 => ?_)
          · refine St.guard_yes rfl rfl ?_
            refine St.move rfl rfl ?_
            refine St.guard_yes rfl rfl ?_
            refine St.move rfl rfl ?_
            refine St.guard_yes rfl rfl ?_
            refine St.move rfl rfl ?_
            refine St.guard_yes rfl rfl ?_
            refine St.nilCheck rfl rfl ?_
            refine St.guard_yes rfl rfl ?_
            refine St.load rfl rfl (by kernel_rfl) (by first | exact Holds.row mem0 rfl | exact Holds.row mem1 rfl | exact Holds.row mem2 rfl | exact Holds.row mem3 rfl | exact Holds.row mem4 rfl | exact Holds.row mem5 rfl | exact Holds.row mem6 rfl | exact Holds.row mem7 rfl | exact Holds.row mem8 rfl) ?_
            refine St.guard_yes rfl rfl ?_
            refine St.lenSl rfl rfl (by kernel_rfl) ?_
            refine St.guard_yes rfl rfl ?_
            first | refine St.subN rfl rfl rfl (by omega) (by omega) ?_ | refine St.subI rfl rfl rfl (by omega) ?_
            refine St.guard_yes rfl rfl ?_
            refine St.gtr rfl rfl rfl ?_
            refine St.pick_true rfl rfl rfl ?_
            refine St.done ?_
            refine SX.seq ?_
            refine SC.condp rfl (fun c80 => ?_) (fun c80 => ?_)
            · refine SC.plain ?_
              refine St.move rfl rfl ?_
              refine St.call [_, _] rfl (by kernel_rfl) rfl (wfail_spec w0 ([⟨c, [.slice Al l.length cl], 22⟩] :: El :: L) p q rv ov most t e 3 Eo) (fun _ _ _ _ h => h.nil) ?_
              rintro r5 L5 rfl
              rw [show firstE e 3 = 3 from if_pos g71]
              refine St.done ?_
              exact SX.some 3 ⟨fun h => absurd (show (3 : Int) = 0 from h) (by decide), fun _ => (hm5 g71).trans (ifR_pos (by omega))⟩ ⟨rfl, rfl, rfl, rfl, rfl, trivial⟩ (List.Perm.refl _)
            · refine SC.skip ?_
              exact SX.some e ⟨fun _ => (hm5 g71).trans (ifR_neg (by omega)), fun h => absurd g71 h⟩ ⟨rfl, rfl, rfl, rfl, rfl, trivial⟩ (List.Perm.refl _)
          · refine St.guard_no rfl rfl rfl ?_
            refine St.guard_no rfl rfl rfl ?_
            refine St.guard_no rfl rfl rfl ?_
            refine St.guard_no rfl rfl rfl ?_
            refine St.guard_no rfl rfl rfl ?_
            refine St.guard_no rfl rfl rfl ?_
            refine St.guard_no rfl rfl rfl ?_
            refine St.guard_no rfl rfl rfl ?_
            refine St.pick_false rfl rfl rfl ?_
            refine St.done ?_
            refine SX.seq ?_
            refine SC.cond_false rfl ?_
            refine SC.skip ?_
            exact SX.some e ⟨fun h => absurd h g71, hmb5⟩ ⟨rfl, rfl, rfl, rfl, rfl, trivial⟩ (List.Perm.refl _)
      · refine SC.seq ?_
        refine SC.plain ?_
        refine St.move rfl rfl ?_
        refine St.done ?_
        refine SX.seq ?_
        refine SC.block ?_
        refine SC.seq ?_
        refine SC.plain ?_
        refine St.eql rfl rfl rfl ?_
        refine St.assign rfl rfl ?_
        refine St.done ?_
        refine SX.seq ?_
        refine SC.condp rfl (fun c22 => ?_) (fun c22 => ?_)
        · obtain rfl : d = 16 := by omega
          have hm3 : stepR own n l bs most at_ out = bindR (takeR 2) (fun more => if (((16 : Nat) : Int) = 16 ∧ l.length = 0) ∨ n - l.length < 3 + more then failR 3 else pureR (l ++ List.replicate (3 + more) (l.getD (l.length - 1) 0))) bs most t2 out := hm2.trans (ifR_neg (by decide))
          refine SC.join (α := Nat × Nat × Int) (fun s_ => s_.2.1 ≤ 8 * bs.length ∧ 3 ≤ s_.1 ∧ s_.1 ≤ 200 ∧ (s_.2.2 = 0 → stepR own n l bs most at_ out = (if (((16 : Nat) : Int) = 16 ∧ l.length = 0) ∨ n - l.length < s_.1 then failR 3 else pureR (l ++ List.replicate s_.1 (l.getD (l.length - 1) 0))) bs most s_.2.1 out) ∧ (s_.2.2 ≠ 0 → stepR own n l bs most at_ out = .bad s_.2.2)) (fun s_ => [(0, .pointer (some ⟨p, 0, none⟩)), (2, .pointer (some ⟨c, 0, none⟩)), (3, .int .i64 ((n : Nat) : Int)), (9, .int .i64 16), (10, .int .i64 ((s_.1 : Nat) : Int))]) (fun s_ => WkL p q rv ov s_.2.1 most s_.2.2 Eo ([⟨c, [(.slice Al l.length cl)], 22⟩] :: El :: L)) ?_ ?_
          · rintro ⟨m, t, e⟩ ⟨ht, hm1, hm200, hm7, hmb5⟩
            simp only at ht hm1 hm200 hm7 hmb5
            show SC _ _ _ [(0, .pointer (some ⟨p, 0, none⟩)), (2, .pointer (some ⟨c, 0, none⟩)), (3, .int .i64 ((n : Nat) : Int)), (9, .int .i64 16), (10, .int .i64 ((m : Nat) : Int))] (WkL p q rv ov t most e Eo ([⟨c, [(.slice Al l.length cl)], 22⟩] :: El :: L))
            unfold WkL
            refine SC.join (α := Int) (fun e1 => (e1 = 0 → 0 < l.length ∧ stepR own n l bs most at_ out = (if n - l.length < m then failR 3 else pureR (l ++ List.replicate m (l.getD (l.length - 1) 0))) bs most t out) ∧ (e1 ≠ 0 → stepR own n l bs most at_ out = .bad e1)) (fun e1 => [(0, .pointer (some ⟨p, 0, none⟩)), (2, .pointer (some ⟨c, 0, none⟩)), (3, .int .i64 ((n : Nat) : Int)), (9, .int .i64 16), (10, .int .i64 ((m : Nat) : Int))]) (fun e1 => WkL p q rv ov t most e1 Eo ([⟨c, [(.slice Al l.length cl)], 22⟩] :: El :: L)) ?_ ?_
            · clear hmb5
              rintro e ⟨hm5, hmb5⟩
              show SC _ _ _ [(0, .pointer (some ⟨p, 0, none⟩)), (2, .pointer (some ⟨c, 0, none⟩)), (3, .int .i64 ((n : Nat) : Int)), (9, .int .i64 16), (10, .int .i64 ((m : Nat) : Int))] (WkL p q rv ov t most e Eo ([⟨c, [(.slice Al l.length cl)], 22⟩] :: El :: L))
              unfold WkL
              refine SC.seq ?_
              refine SC.plain ?_
              refine St.move rfl rfl ?_
              refine St.nilCheck rfl rfl ?_
              refine St.fieldAddr (off := 3) rfl rfl (by kernel_rfl) ?_
              refine St.load rfl rfl (by kernel_rfl) (by first | exact Holds.row mem0 rfl | exact Holds.row mem1 rfl | exact Holds.row mem2 rfl | exact Holds.row mem3 rfl | exact Holds.row mem4 rfl | exact Holds.row mem5 rfl | exact Holds.row mem6 rfl | exact Holds.row mem7 rfl | exact Holds.row mem8 rfl) ?_
              refine St.eql rfl rfl rfl ?_
              refine St.done ?_
              refine SX.seq ?_
              refine SC.condp rfl (fun c45 => ?_) (fun c45 => ?_)
              · obtain ⟨hl0, _⟩ := hm5 c45
                obtain rfl := hAl hl0
                have hrr := hrl w0 (WkL p q rv ov t most e Eo ([⟨c, [.slice (some ⟨bl, ol, none⟩) l.length cl], 22⟩] :: El :: L)) (by simp [WkL])
                unfold WkL at hrr
                refine SC.drawn [(0, true), (1, true), (2, true), (3, true), (4, true), (5, true), (6, true), (7, true)] [8, 9, 10] (_) (by kernel_rfl) (by kernel_rfl) (fun _ h => h) ?_
                refine St.move rfl rfl ?_
                refine St.nilCheck rfl rfl ?_
                refine St.load rfl rfl (by kernel_rfl) (by first | exact Holds.row mem0 rfl | exact Holds.row mem1 rfl | exact Holds.row mem2 rfl | exact Holds.row mem3 rfl | exact Holds.row mem4 rfl | exact Holds.row mem5 rfl | exact Holds.row mem6 rfl | exact Holds.row mem7 rfl | exact Holds.row mem8 rfl) ?_
                refine St.move rfl rfl ?_
                refine St.nilCheck rfl rfl ?_
                refine St.load rfl rfl (by kernel_rfl) (by first | exact Holds.row mem0 rfl | exact Holds.row mem1 rfl | exact Holds.row mem2 rfl | exact Holds.row mem3 rfl | exact Holds.row mem4 rfl | exact Holds.row mem5 rfl | exact Holds.row mem6 rfl | exact Holds.row mem7 rfl | exact Holds.row mem8 rfl) ?_
                refine St.lenSl rfl rfl (by kernel_rfl) ?_
                first | refine St.subN (b := 1) rfl rfl rfl (by omega) (by omega) ?_ | refine St.subI rfl rfl rfl (by omega) ?_
                refine St.done ?_
                refine SX.tail ?_
                refine St.indexSl (e := 3) (sz := 1) rfl rfl rfl (by kernel_rfl) (by omega) ?_
                refine St.load rfl rfl (by kernel_rfl) (hrr.nat (l.length - 1) (by omega)) ?_
                refine St.assign rfl rfl ?_
                refine St.done ?_
                refine SX.blk ?_
                exact SX.some (l.getD (l.length - 1) 0, m, t, e) ⟨ht, by simp only; omega, hm200, fun h => (hm5 h).2, hmb5⟩ ⟨rfl, rfl, rfl, rfl, rfl, trivial⟩ (List.Perm.refl _)
              · refine SC.skip ?_
                refine SX.blk ?_
                exact SX.some (16, m, t, e) ⟨ht, by simp only; omega, hm200, fun h => absurd h c45, hmb5⟩ ⟨rfl, rfl, rfl, rfl, rfl, trivial⟩ (List.Perm.refl _)
            · refine SC.seq ?_
              refine SC.plain ?_
              refine St.move rfl rfl ?_
              refine St.nilCheck rfl rfl ?_
              refine St.fieldAddr (off := 3) rfl rfl (by kernel_rfl) ?_
              refine St.load rfl rfl (by kernel_rfl) (by first | exact Holds.row mem0 rfl | exact Holds.row mem1 rfl | exact Holds.row mem2 rfl | exact Holds.row mem3 rfl | exact Holds.row mem4 rfl | exact Holds.row mem5 rfl | exact Holds.row mem6 rfl | exact Holds.row mem7 rfl | exact Holds.row mem8 rfl) ?_
              refine St.eql rfl rfl rfl ?_
              refine St.move rfl rfl ?_
              refine St.split 32 rfl (fun g32 => ?_) (fun g32 => ?_)
              · refine St.guard_yes rfl rfl ?_
                refine St.move rfl rfl ?_
                refine St.guard_yes rfl rfl ?_
                refine St.nilCheck rfl rfl ?_
                refine St.guard_yes rfl rfl ?_
                refine St.load rfl rfl (by kernel_rfl) (by first | exact Holds.row mem0 rfl | exact Holds.row mem1 rfl | exact Holds.row mem2 rfl | exact Holds.row mem3 rfl | exact Holds.row mem4 rfl | exact Holds.row mem5 rfl | exact Holds.row mem6 rfl | exact Holds.row mem7 rfl | exact Holds.row mem8 rfl) ?_
                refine St.guard_yes rfl rfl ?_
                refine St.lenSl rfl rfl (by kernel_rfl) ?_
                refine St.guard_yes rfl rfl ?_
                refine St.eql rfl rfl rfl ?_
                refine St.pick_true rfl rfl rfl ?_
                refine St.done ?_
                refine SX.seq ?_
                refine SC.condp rfl (fun c38 => ?_) (fun c38 => ?_)
                · refine SC.plain ?_
                  refine St.move rfl rfl ?_
                  refine St.call [_, _] rfl (by kernel_rfl) rfl (wfail_spec w0 ([⟨c, [.slice Al l.length cl], 22⟩] :: El :: L) p q rv ov most t e 3 Eo) (fun _ _ _ _ h => h.nil) ?_
                  rintro r5 L5 rfl
                  rw [show firstE e 3 = 3 from if_pos g32]
                  refine St.done ?_
                  exact SX.some 3 ⟨fun h => absurd (show (3 : Int) = 0 from h) (by decide), fun _ => (hm7 g32).trans (ifR_pos (.inl ⟨rfl, by omega⟩))⟩ ⟨rfl, rfl, rfl, rfl, rfl, trivial⟩ (List.Perm.refl _)
                · refine SC.skip ?_
                  have hm6 : stepR own n l bs most at_ out = (if n - l.length < m then failR 3 else pureR (l ++ List.replicate m (l.getD (l.length - 1) 0))) bs most t out := by
                    rw [hm7 g32]
                    by_cases hlt : n - l.length < m
                    · rw [ifR_pos (.inr hlt), ifR_pos hlt]
                    · rw [ifR_neg (by rintro (h | h); omega; exact hlt h), ifR_neg hlt]
                  exact SX.some e ⟨fun _ => ⟨by omega, hm6⟩, fun h => absurd g32 h⟩ ⟨rfl, rfl, rfl, rfl, rfl, trivial⟩ (List.Perm.refl _)
              · refine St.guard_no rfl rfl rfl ?_
                refine St.guard_no rfl rfl rfl ?_
                refine St.guard_no rfl rfl rfl ?_
                refine St.guard_no rfl rfl rfl ?_
                refine St.guard_no rfl rfl rfl ?_
                refine St.pick_false rfl rfl rfl ?_
                refine St.done ?_
                refine SX.seq ?_
                refine SC.cond_false rfl ?_
                refine SC.skip ?_
                exact SX.some e ⟨fun h => absurd h g32, hmb5⟩ ⟨rfl, rfl, rfl, rfl, rfl, trivial⟩ (List.Perm.refl _)
          · refine SC.plain ?_
            refine St.move rfl rfl ?_
            refine St.call [_, _] rfl (by kernel_rfl) rfl (wtake_spec w0 ([⟨c, [.slice Al l.length cl], 22⟩] :: El :: L) p q rv ov bs most t2 out 0 Eo (hR2.on hx.cons.cons) 2 (by omega)) (fun _ _ _ _ h => h.nil) ?_
            rintro r4 L4 (⟨h4, rfl, rfl⟩ | ⟨h4, rfl, rfl⟩)
            · have hm4 := hm3.trans (bind_of (takeR_ok h4))
              have htl := take_lt bs t2 2
              have ht4 := h4
              unfold WkL
              first | refine St.addN (b := 3) rfl rfl rfl (by omega) ?_ | refine St.addI rfl rfl rfl (by omega) ?_
              refine St.assign rfl rfl ?_
              refine St.done ?_
              have hm6 : stepR own n l bs most at_ out = (if (((16 : Nat) : Int) = 16 ∧ l.length = 0) ∨ n - l.length < takeN bs t2 2 + 3 then failR 3 else pureR (l ++ List.replicate (takeN bs t2 2 + 3) (l.getD (l.length - 1) 0))) bs most (t2 + 2) out := by rw [hm4, Nat.add_comm 3]
              exact SX.some (_, _, 0) ⟨h4, by simp only; omega, by simp only; omega, fun _ => hm6, fun h => absurd rfl h⟩ ⟨rfl, rfl, rfl, rfl, rfl, trivial⟩ (List.Perm.refl _)
            · have hm4 := hm3.trans (bind_bad (takeR_bad h4))
              rw [first_zero]
              unfold WkL
              first | refine St.addN (b := 3) rfl rfl rfl (by omega) ?_ | refine St.addI rfl rfl rfl (by omega) ?_
              refine St.assign rfl rfl ?_
              refine St.done ?_
              exact SX.some (0 + 3, t2, 4) ⟨hd3, by simp only; omega, by simp only; omega, fun h => absurd (show (4 : Int) = 0 from h) (by decide), fun _ => hm4⟩ ⟨rfl, rfl, rfl, rfl, rfl, trivial⟩ (List.Perm.refl _)
        · refine SC.seq ?_
          refine SC.plain ?_
          refine St.eql rfl rfl rfl ?_
          refine St.assign rfl rfl ?_
          refine St.done ?_
          refine SX.seq ?_
          refine SC.condp rfl (fun c56 => ?_) (fun c56 => ?_)
          · obtain rfl : d = 17 := by omega
            have hm3 : stepR own n l bs most at_ out = bindR (takeR 3) (fun more => if (((17 : Nat) : Int) = 16 ∧ l.length = 0) ∨ n - l.length < 3 + more then failR 3 else pureR (l ++ List.replicate (3 + more) 0)) bs most t2 out := hm2.trans (ifR_neg (by decide))
            refine SC.seq ?_
            refine SC.plain ?_
            refine St.move rfl rfl ?_
            refine St.call [_, _] rfl (by kernel_rfl) rfl (wtake_spec w0 ([⟨c, [.slice Al l.length cl], 22⟩] :: El :: L) p q rv ov bs most t2 out 0 Eo (hR2.on hx.cons.cons) 3 (by omega)) (fun _ _ _ _ h => h.nil) ?_
            rintro r4 L4 (⟨h4, rfl, rfl⟩ | ⟨h4, rfl, rfl⟩)
            · have hm4 := hm3.trans (bind_of (takeR_ok h4))
              have htl := take_lt bs t2 3
              have ht4 := h4
              unfold WkL
              first | refine St.addN (b := 3) rfl rfl rfl (by omega) ?_ | refine St.addI rfl rfl rfl (by omega) ?_
              refine St.assign rfl rfl ?_
              refine St.done ?_
              refine SX.seq ?_
              refine SC.plain ?_
              refine St.assign rfl rfl ?_
              refine St.done ?_
              refine SX.blk ?_
              have hm6 : stepR own n l bs most at_ out = (if n - l.length < takeN bs t2 3 + 3 then failR 3 else pureR (l ++ List.replicate (takeN bs t2 3 + 3) 0)) bs most (t2 + 3) out := by
                rw [hm4, Nat.add_comm 3]
                by_cases hlt : n - l.length < takeN bs t2 3 + 3
                · rw [ifR_pos (.inr hlt), ifR_pos hlt]
                · rw [ifR_neg (by rintro (h | h); exact absurd h.1 (by decide); exact hlt h), ifR_neg hlt]
              exact SX.some (0, _, _, 0) ⟨h4, by simp only; omega, by simp only; omega, fun _ => hm6, fun h => absurd rfl h⟩ ⟨rfl, rfl, rfl, rfl, rfl, trivial⟩ (List.Perm.refl _)
            · have hm4 := hm3.trans (bind_bad (takeR_bad h4))
              rw [first_zero]
              unfold WkL
              first | refine St.addN (b := 3) rfl rfl rfl (by omega) ?_ | refine St.addI rfl rfl rfl (by omega) ?_
              refine St.assign rfl rfl ?_
              refine St.done ?_
              refine SX.seq ?_
              refine SC.plain ?_
              refine St.assign rfl rfl ?_
              refine St.done ?_
              refine SX.blk ?_
              exact SX.some (0, 0 + 3, t2, 4) ⟨hd3, by simp only; omega, by simp only; omega, fun h => absurd (show (4 : Int) = 0 from h) (by decide), fun _ => hm4⟩ ⟨rfl, rfl, rfl, rfl, rfl, trivial⟩ (List.Perm.refl _)
          · refine SC.seq ?_
            refine SC.plain ?_
            refine St.eql rfl rfl rfl ?_
            refine St.assign rfl rfl ?_
            refine St.done ?_
            refine SX.seq ?_
            refine SC.condp rfl (fun c61 => ?_) (fun c61 => ?_)
            · obtain rfl : d = 18 := by omega
              have hm3 : stepR own n l bs most at_ out = bindR (takeR 7) (fun more => if (((18 : Nat) : Int) = 16 ∧ l.length = 0) ∨ n - l.length < 11 + more then failR 3 else pureR (l ++ List.replicate (11 + more) 0)) bs most t2 out := hm2.trans (ifR_neg (by decide))
              refine SC.seq ?_
              refine SC.plain ?_
              refine St.move rfl rfl ?_
              refine St.call [_, _] rfl (by kernel_rfl) rfl (wtake_spec w0 ([⟨c, [.slice Al l.length cl], 22⟩] :: El :: L) p q rv ov bs most t2 out 0 Eo (hR2.on hx.cons.cons) 7 (by omega)) (fun _ _ _ _ h => h.nil) ?_
              rintro r4 L4 (⟨h4, rfl, rfl⟩ | ⟨h4, rfl, rfl⟩)
              · have hm4 := hm3.trans (bind_of (takeR_ok h4))
                have htl := take_lt bs t2 7
                have ht4 := h4
                unfold WkL
                first | refine St.addN (b := 11) rfl rfl rfl (by omega) ?_ | refine St.addI rfl rfl rfl (by omega) ?_
                refine St.assign rfl rfl ?_
                refine St.done ?_
                refine SX.seq ?_
                refine SC.plain ?_
                refine St.assign rfl rfl ?_
                refine St.done ?_
                refine SX.blk ?_
                have hm6 : stepR own n l bs most at_ out = (if n - l.length < takeN bs t2 7 + 11 then failR 3 else pureR (l ++ List.replicate (takeN bs t2 7 + 11) 0)) bs most (t2 + 7) out := by
                  rw [hm4, Nat.add_comm 11]
                  by_cases hlt : n - l.length < takeN bs t2 7 + 11
                  · rw [ifR_pos (.inr hlt), ifR_pos hlt]
                  · rw [ifR_neg (by rintro (h | h); exact absurd h.1 (by decide); exact hlt h), ifR_neg hlt]
                exact SX.some (0, _, _, 0) ⟨h4, by simp only; omega, by simp only; omega, fun _ => hm6, fun h => absurd rfl h⟩ ⟨rfl, rfl, rfl, rfl, rfl, trivial⟩ (List.Perm.refl _)
              · have hm4 := hm3.trans (bind_bad (takeR_bad h4))
                rw [first_zero]
                unfold WkL
                first | refine St.addN (b := 11) rfl rfl rfl (by omega) ?_ | refine St.addI rfl rfl rfl (by omega) ?_
                refine St.assign rfl rfl ?_
                refine St.done ?_
                refine SX.seq ?_
                refine SC.plain ?_
                refine St.assign rfl rfl ?_
                refine St.done ?_
                refine SX.blk ?_
                exact SX.some (0, 0 + 11, t2, 4) ⟨hd3, by simp only; omega, by simp only; omega, fun h => absurd (show (4 : Int) = 0 from h) (by decide), fun _ => hm4⟩ ⟨rfl, rfl, rfl, rfl, rfl, trivial⟩ (List.Perm.refl _)
            · have hm3 := hm2.trans (ifR_pos (by omega))
              refine SC.skip ?_
              refine SX.blk ?_
              exact SX.some ((d : Int), 1, t2, 0) ⟨hd3, by simp only; omega, by simp only; omega, fun _ => hm3.trans (ifR_neg (show ¬ n - l.length < 1 by omega)).symm, fun h => absurd rfl h⟩ ⟨rfl, rfl, rfl, rfl, rfl, trivial⟩ (List.Perm.refl _)
  · have hm2 : stepR own n l bs most at_ out = _ := bind_bad hg2
    unfold WkL
    refine St.assign rfl rfl ?_
    refine St.done ?_
    refine SX.seq ?_
    refine SC.seq ?_
    refine SC.seq ?_
    refine SC.plain ?_
    refine St.move rfl rfl ?_
    refine St.nilCheck rfl rfl ?_
    refine St.fieldAddr (off := 3) rfl rfl (by kernel_rfl) ?_
    refine St.load rfl rfl (by kernel_rfl) (by first | exact Holds.row mem0 rfl | exact Holds.row mem1 rfl | exact Holds.row mem2 rfl | exact Holds.row mem3 rfl | exact Holds.row mem4 rfl | exact Holds.row mem5 rfl | exact Holds.row mem6 rfl | exact Holds.row mem7 rfl | exact Holds.row mem8 rfl) ?_
    refine St.neq rfl rfl rfl ?_
    refine St.done ?_
    refine SX.seq ?_
    refine SC.condp rfl (fun c19 => ?_) (fun c19 => ?_)
    · refine SC.ret ?_
      refine SX.seq_ret ?_
      refine SX.ret0 (.inl rfl) rfl ?_
      rw [hm2]
      exact ⟨hne, t2, out, ov, Eo, _, El, l, hR.to hd3, hbl, rfl⟩
    · exfalso; omega
end Go.Proofs.Ytahafepgmkiabaa
