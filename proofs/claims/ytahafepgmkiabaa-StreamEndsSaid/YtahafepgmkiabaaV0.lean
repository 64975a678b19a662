/- Plain streams: how far an end sends, and what it sends anew. -/
import Derived.Test.YtahafepgmkiabaaU3
set_option linter.unusedVariables false
set_option linter.unusedSimpArgs false
namespace Go.Proofs.Ytahafepgmkiabaa
open Go Go.Proofs.Ytahafepgmkiabaa.Sep

/-- Where the data of datagrams begin and end; false: one is none. -/
def scan : List (List Nat) → Int → Int → Int × Int × Bool
  | [], f, e => (f, e, true)
  | s :: r, f, e => if isSeg s = true ∧ (segFrom s).ty = 3 ∧ (segFrom s).data.length ≤ 400 ∧ 1 ≤ (segFrom s).data.length then
      scan r (if f < 0 then (segFrom s).seq else f) ((segFrom s).seq + (segFrom s).data.length) else (0, 0, false)
theorem say_back {e : En} (he : e.Ok) {n : Nat} (hn : n < e.out.length) : isSeg (e.say 3 n 0 ((e.out.drop n).take (min 400 (e.out.length - n)))) = true ∧
    segFrom (e.say 3 n 0 ((e.out.drop n).take (min 400 (e.out.length - n)))) = ⟨3, e.id, n, 0, (e.out.drop n).take (min 400 (e.out.length - n))⟩ := by
  have hr := he.room
  have hid := he.id
  have h := seg_back (s := ⟨3, e.id, n, 0, (e.out.drop n).take (min 400 (e.out.length - n))⟩) (fun b hb => he.outB b (List.mem_of_mem_drop (List.mem_of_mem_take hb))) (by simp)
  refine ⟨h.1, h.2.trans ?_⟩
  simp only
  rw [u32i_of (by omega) (by omega), u32i_of (by omega) (by omega), u32i_of (by omega) (by omega), List.take_of_length_le (by rw [List.length_take]; omega)]
theorem scan_pieces {e : En} (he : e.Ok) : ∀ (f n : Nat) (fi en : Int), n ≤ e.out.length →
    scan (e.pieces f n).1 fi en = if (e.pieces f n).1 = [] then (fi, en, true) else (if fi < 0 then (n : Int) else fi, ((e.pieces f n).2 : Int), true)
  | 0, n, fi, en, hn => by simp [En.pieces, scan]
  | f + 1, n, fi, en, hn => by
    by_cases hc : n < e.out.length ∧ n < e.una + 4000
    · rw [pieces_more e f n hc]
      have hb := say_back he hc.1
      have hdl : ((e.out.drop n).take (min 400 (e.out.length - n))).length = min 400 (e.out.length - n) := by rw [List.length_take, List.length_drop]; omega
      simp only [scan, hb.1, hb.2, hdl, true_and]
      rw [if_pos (by omega), scan_pieces he f _ _ _ (by omega)]
      have hne : ¬ ((e.say 3 n 0 ((e.out.drop n).take (min 400 (e.out.length - n))) :: (e.pieces f (n + min 400 (e.out.length - n))).1) = []) := by simp
      rw [if_neg hne]
      split
      · rename_i hz
        rw [pieces_nil e f _ hz]
        simp
      · congr 1
        · by_cases hf : fi < 0
          · rw [if_pos hf, if_neg (by omega)]
          · rw [if_neg hf, if_neg hf]
    · rw [pieces_end e _ n hc]
      simp [scan]
theorem pieces_far (e : En) : ∀ (f n : Nat), n ≤ e.out.length → e.una + 4000 ≤ n + 400 * f → (e.out.length ≤ (e.pieces f n).2 ∨ e.una + 4000 ≤ (e.pieces f n).2) ∧ ((e.pieces f n).2 = n ∨ (e.pieces f n).2 ≤ e.una + 4400)
  | 0, n, hn, hf => ⟨.inr (by show _ ≤ n; omega), .inl rfl⟩
  | f + 1, n, hn, hf => by
    by_cases hc : n < e.out.length ∧ n < e.una + 4000
    · rw [pieces_more e f n hc]
      simp only
      by_cases hm : n + min 400 (e.out.length - n) = e.out.length
      · rw [pieces_end e f _ (by omega)]
        simp only
        omega
      · have := pieces_far e f (n + min 400 (e.out.length - n)) (by omega) (by omega)
        omega
    · rw [pieces_end e _ n hc]
      exact ⟨by simp only; omega, .inl rfl⟩
theorem pieces_some (e : En) (f n : Nat) : (e.pieces (f + 1) n).1 = [] ↔ ¬ (n < e.out.length ∧ n < e.una + 4000) := by
  by_cases hc : n < e.out.length ∧ n < e.una + 4000
  · rw [pieces_more e f n hc]; simp [hc]
  · rw [pieces_end e _ n hc]; simp [hc]
/-- An end that is open and only sends. -/
def wS (n una next : Nat) (at_ : Int) : En := ⟨5, 3, true, List.replicate n 0, una, next, at_, false, false, false, [], 0, false, false⟩
theorem wS_ok {n una next : Nat} {at_ : Int} (hn : n ≤ 20000) (h1 : una ≤ next) (h2 : next ≤ n) (h3 : 0 ≤ at_ ∧ at_ ≤ 100) : (wS n una next at_).Ok where
  id := by simp [wS]
  st := by simp [wS]
  room := by simp [wS]; omega
  una := h1
  next := by simp [wS]; exact h2
  sent := by simp [wS]
  acked := by simp [wS]
  inn := by simp [wS]
  read := by simp [wS]
  at_ := by simp only [wS]; omega
  outB := by simp only [wS]; intro b hb; have := List.eq_of_mem_replicate hb; omega
  innB := by simp [wS]
theorem wS_sends {n una next : Nat} {at_ now : Int} (hq : (decide (una < next) && (decide (at_ ≤ 9223372036854775799) && decide (at_ + 8 ≤ now))) = false) :
    (wS n una next at_).outp now = (wS n una ((wS n una next at_).pieces 11 next).2 (if una < next ∨ ((wS n una next at_).pieces 11 next).1 = [] then at_ else now), ((wS n una next at_).pieces 11 next).1) := by
  have hw : ((wS n una next at_).waits && (wS n una next at_).due now) = false := by
    simp only [En.waits, En.due, wS, Bool.false_and, Bool.or_false]; exact hq
  have e1 : (wS n una next at_).outp now = (wS n una next at_).sends now := rfl
  rw [e1, sends_eq, back_neg hw]
  have hfin : finOf (wS n una next at_) = false := rfl
  have hac : acksOf (wS n una next at_) = [] := rfl
  have hfs : finsOf (wS n una next at_) = [] := by unfold finsOf; rw [hfin]; rfl
  rw [hfin, hac, hfs, List.append_nil, List.nil_append]
  have hwt : (wS n una next at_).waits = decide (una < next) := Bool.or_false _
  rw [hwt]
  have hnx : (wS n una next at_).next = next := rfl
  rw [hnx]
  congr 1
  unfold wS
  congr 1
  by_cases h1 : una < next
  · simp [h1]
  · by_cases h2 : ((wS n una next at_).pieces 11 next).1 = []
    · have h2' := h2
      unfold wS at h2'
      simp [h1, h2']
    · have h2' := h2
      unfold wS at h2'
      have : ((⟨5, 3, true, List.replicate n 0, una, next, at_, false, false, false, [], 0, false, false⟩ : En).pieces 11 next).1.isEmpty = false := by simpa using h2'
      simp [h1, this, h2']
theorem wS_again {n una next : Nat} {at_ now : Int} (h1 : una < next) (h2 : at_ ≤ 9223372036854775799) (h3 : at_ + 8 ≤ now) : (wS n una next at_).outp now = (wS n una una now).outp now := by
  have hw : ((wS n una next at_).waits && (wS n una next at_).due now) = true := by
    simp [En.waits, En.due, wS, h1, h2, h3]
  have hw2 : ((wS n una una now).waits && (wS n una una now).due now) = false := by
    simp [En.waits, wS]
  have e1 : (wS n una next at_).outp now = (wS n una next at_).sends now := rfl
  have e2 : (wS n una una now).outp now = (wS n una una now).sends now := rfl
  rw [e1, e2, sends_eq, sends_eq, back_pos hw, back_neg hw2]
  rfl
/-- What the law's own reading of the datagrams gives. -/
theorem wS_scan {n una next : Nat} {at_ now : Int} (hn : n ≤ 20000) (h1 : una ≤ next) (h2 : next ≤ n) (h3 : 0 ≤ at_ ∧ at_ ≤ 100) (hq : (decide (una < next) && (decide (at_ ≤ 9223372036854775799) && decide (at_ + 8 ≤ now))) = false) :
    ∃ f l at', (wS n una next at_).outp now = (wS n una f at', l) ∧ (at' = at_ ∨ at' = now) ∧ next ≤ f ∧ f ≤ n ∧
      ((next < n ∧ next < una + 4000 ∧ next < f ∧ f ≤ una + 4400 ∧ min n (una + 4000) ≤ f ∧ scan l (-1) 0 = ((next : Int), (f : Int), true)) ∨ (¬ (next < n ∧ next < una + 4000) ∧ f = next ∧ at' = at_ ∧ l = [] ∧ scan l (-1) 0 = (-1, 0, true))) := by
  have hok := wS_ok hn h1 h2 h3
  have hol : (wS n una next at_).out.length = n := by simp [wS]
  have hle := pieces_le (wS n una next at_) 11 next (by rw [hol]; exact h2)
  have hsc := scan_pieces hok 11 next (-1) 0 (by rw [hol]; exact h2)
  have hfar := pieces_far (wS n una next at_) 11 next (by rw [hol]; exact h2) (by show una + 4000 ≤ _; omega)
  have hun : (wS n una next at_).una = una := rfl
  rw [hol] at hle hfar
  rw [hun] at hfar
  refine ⟨_, _, _, wS_sends hq, ?_, hle.1, hle.2, ?_⟩
  · split
    · exact .inl rfl
    · exact .inr rfl
  · have hs := pieces_some (wS n una next at_) 10 next
    rw [hol, hun] at hs
    by_cases hc : next < n ∧ next < una + 4000
    · have hne : ¬ ((wS n una next at_).pieces 11 next).1 = [] := fun h => (hs.1 h) hc
      rw [if_neg hne] at hsc
      have hlt : next < ((wS n una next at_).pieces 11 next).2 := by
        rw [pieces_more (wS n una next at_) 10 next (by rw [hol, hun]; exact hc)]
        have := pieces_le (wS n una next at_) 10 (next + min 400 ((wS n una next at_).out.length - next)) (by rw [hol]; omega)
        rw [hol] at this ⊢
        simp only
        omega
      refine .inl ⟨hc.1, hc.2, hlt, by omega, by omega, ?_⟩
      rw [hsc, if_pos (by omega)]
    · have he := hs.2 hc
      rw [if_pos he] at hsc
      refine .inr ⟨hc, by rw [pieces_end (wS n una next at_) 11 next (by rw [hol, hun]; exact hc)], by rw [if_pos (.inr he)], he, hsc⟩
theorem wS_ack {n b k : Nat} {at_ : Int} (hk : k ≤ b) (hb : b ≤ n) (hn : n ≤ 20000) : (wS n 0 b at_).inp (segOf ⟨2, 5, 0, (k : Int), []⟩) 3 = wS n k b (if k = 0 then at_ else 3) := by
  have h := seg_back (s := ⟨2, 5, 0, (k : Int), []⟩) (by simp) (by simp)
  have hu : ((u32i (k : Int) : Nat) : Int) = k := u32i_of (by omega) (by omega)
  unfold En.inp
  rw [h.1, h.2]
  simp only [hu]
  rw [if_neg (by simp [wS, u32i])]
  unfold En.seg
  rw [if_neg (by simp), if_neg (by simp [wS]), if_neg (by simp [wS])]
  unfold En.open_
  rw [if_neg (by simp), if_pos (by simp)]
  unfold En.ack
  simp only [En.acksTo, En.sentTo, wS, Bool.false_eq_true, if_false, List.length_replicate]
  by_cases h0 : k = 0
  · subst h0; simp
  · rw [if_pos (by omega), if_neg h0]
    congr 1
    · omega
    · have : ¬ ((n : Int) < (k : Int)) := by omega
      simp [this]
theorem w_first (n : Nat) : ((enNew 5 1).write (List.replicate n 0)) = if 1048576 < n then (enNew 5 1, 60) else ({ enNew 5 1 with out := List.replicate n 0 }, 0) := by
  unfold En.write
  simp [enNew]
def wA (n : Nat) : En := { enNew 5 1 with out := List.replicate n 0 }
theorem w_write {n : Nat} (h : n ≤ 20000) : (enNew 5 1).write (List.replicate n 0) = (wA n, 0) := by
  rw [w_first, if_neg (by omega)]; rfl
def wB (n : Nat) : En := { wA n with asked := true, at_ := 0 }
theorem w_syn (n : Nat) : (wA n).outp 0 = (wB n, [(wA n).say 1 0 0 []]) := rfl
theorem w_open (n : Nat) : (wB n).inp (segOf ⟨2, 5, 0, 0, []⟩) 0 = wS n 0 0 0 := by
  have h := seg_back (s := ⟨2, 5, 0, 0, []⟩) (by simp) (by simp)
  unfold En.inp
  rw [h.1, h.2]
  rfl
end Go.Proofs.Ytahafepgmkiabaa
