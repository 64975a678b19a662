/- Walks: slices.SortStableFunc for coins: the whole. -/
import Derived.Test.YtahafepgmkiabaaY4
set_option linter.unusedVariables false
set_option linter.unusedSimpArgs false
set_option linter.ambiguousOpen false
namespace Go.Proofs.Ytahafepgmkiabaa
open Go Go.Proofs.Ytahafepgmkiabaa.Sep

theorem split3 {α : Type} (l : List α) (a m : Nat) (h : a + m ≤ l.length) : ∃ P M S, l = P ++ (M ++ S) ∧ P.length = a ∧ M.length = m :=
  ⟨l.take a, (l.drop a).take m, (l.drop a).drop m, by rw [List.take_append_drop, List.take_append_drop], by rw [List.length_take]; omega, by rw [List.length_take, List.length_drop]; omega⟩
theorem split4 {α : Type} (l : List α) (a m k : Nat) (h : a + m + k ≤ l.length) : ∃ P A B S, l = P ++ (A ++ (B ++ S)) ∧ P.length = a ∧ A.length = m ∧ B.length = k := by
  obtain ⟨P, A, R, he, hP, hA⟩ := split3 l a m (by omega)
  have hl := congrArg List.length he
  simp only [List.length_append] at hl
  obtain ⟨B, S, hR, hB⟩ := split_at R k (by omega)
  exact ⟨P, A, B, S, by rw [he, hR], hP, hA, hB⟩
theorem Srt.Alike.mid {α : Type} {lt : α → α → Bool} {P M M' S : List α} (h : Srt.Alike lt M' M) : Srt.Alike lt (P ++ (M' ++ S)) (P ++ (M ++ S)) := (Srt.Alike.refl P).append (h.append (Srt.Alike.refl S))

theorem stabC_spec (w0 : World) (L : List Chunk) (b cap N : Nat) (pre tail : List Value) (g : FuncId) (lt : CoinV → CoinV → Bool) (D : CoinV → Prop) (hg : callable Try.prog g = true) (hs : Srt.Swo lt) (hcmp : Cmp CoinV.cells w0 g lt D) (X : List CoinV) (hD : ∀ x ∈ X, D x) (hN : X.length = N) (hb : N ≤ 140737488351232) :
    Meets Try.prog 177 #[.slice (some ⟨b, pre.length, none⟩) N cap, .int .i64 ((N : Nat) : Int), .func (.func g) #[] #[]] w0 ([⟨b, pre ++ ((X).flatMap CoinV.cells ++ tail), 194⟩] :: L) (fun r L' => ∃ T : List CoinV, T.length = X.length ∧ Srt.Up lt T ∧ Srt.Alike lt T X ∧ L' = [⟨b, pre ++ ((T).flatMap CoinV.cells ++ tail), 194⟩] :: L) := by
  refine Meets.of_body [.slice (some ⟨b, pre.length, none⟩) N cap, .int .i64 ((N : Nat) : Int), .func (.func g) #[] #[]] Try.func177 rfl Try.ntmps177 rfl ?_
  refine SC.seq ?_
  refine SC.plain ?_
  refine St.assign rfl rfl ?_
  refine St.done ?_
  refine SX.seq ?_
  refine SC.seq ?_
  refine SC.plain ?_
  refine St.move rfl rfl ?_
  refine St.assign rfl rfl ?_
  refine St.assign rfl rfl ?_
  refine St.done ?_
  refine SX.seq ?_
  refine SC.seq ?_
  refine SC.block ?_
  refine SC.loop (α := Nat × Nat × List CoinV) (fun s => s.1 = 20 * s.2.1 ∧ s.1 ≤ N ∧ s.2.2.length = N ∧ Srt.Alike lt s.2.2 X ∧ Srt.Blk lt 20 1 s.1 s.2.2) (fun s => [(0, .slice (some ⟨b, pre.length, none⟩) N cap), (1, .int .i64 ((N : Nat) : Int)), (2, .func (.func g) #[] #[]), (6, .int .i64 ((20 : Nat) : Int)), (7, .int .i64 ((s.1 : Nat) : Int)), (8, .int .i64 ((s.1 + 20 : Nat) : Int))]) (fun s => [⟨b, pre ++ ((s.2.2).flatMap CoinV.cells ++ tail), 194⟩] :: L) (fun s => N - s.1) (0, 0, X) ⟨rfl, Nat.zero_le _, hN, Srt.Alike.refl _, Srt.Blk.zero _⟩ ⟨rfl, rfl, rfl, rfl, rfl, rfl, trivial⟩ (List.Perm.refl _) ?_
  rintro ⟨a, q, Y⟩ ⟨haq, haN, hYl, hal, hbl⟩
  simp only at haq haN hYl hal hbl ⊢
  have hDY : ∀ x ∈ Y, D x := fun x hx => hD x (hal.mem hs hx)
  refine SC.seq ?_
  refine SC.seq ?_
  refine SC.plain ?_
  refine St.move rfl rfl ?_
  refine St.move rfl rfl ?_
  refine St.leq rfl rfl rfl ?_
  refine St.done ?_
  refine SX.seq ?_
  refine SC.condp rfl (fun c13 => ?_) (fun c13 => ?_)
  · refine SC.skip ?_
    refine SX.seq ?_
    refine SC.block ?_
    refine SC.seq ?_
    refine SC.plain ?_
    refine St.move rfl rfl ?_
    refine St.move rfl rfl ?_
    refine St.move rfl rfl ?_
    refine St.move rfl rfl ?_
    obtain ⟨P, M, S, rfl, hP, hM⟩ := split3 Y a 20 (by omega)
    simp only [List.length_append] at hYl
    refine St.call [_, _, _, _] rfl (by kernel_rfl) rfl (insC_spec w0 L b cap N pre tail g lt D hg hs hcmp P M S _ _ (by omega) (by omega) (fun x hx => hDY x (by simp [hx])) (by simp only [List.length_append]; omega) hb) (fun _ _ _ _ h => h.nil) ?_
    rintro r L1 ⟨T, hTl, huT, haT, rfl⟩
    refine St.done ?_
    refine SX.seq ?_
    refine SC.seq ?_
    refine SC.plain ?_
    refine St.move rfl rfl ?_
    refine St.assign rfl rfl ?_
    refine St.done ?_
    refine SX.seq ?_
    refine SC.plain ?_
    refine St.move rfl rfl ?_
    refine St.move rfl rfl ?_
    first | refine St.addN rfl rfl rfl (by omega) ?_ | refine St.addI rfl rfl rfl (by omega) ?_
    refine St.assign rfl rfl ?_
    refine St.done ?_
    refine SX.blk ?_
    exact SX.again (a + 20, q + 1, P ++ (T ++ S)) ⟨by simp only; omega, by simp only; omega, by simp only [List.length_append]; omega, (Srt.Alike.mid haT).trans hal, by have := Srt.Blk.next (d := 20) (q := q) (P := P) (M := M) (S := S) hTl (by omega) (by decide) huT (by rw [hP]; exact hbl); rw [hP, hM] at this; exact this⟩ (by simp only; omega) ⟨rfl, rfl, rfl, rfl, rfl, rfl, trivial⟩ (List.Perm.refl _)
  · refine SC.exit ?_
    refine SX.seq_exit ?_
    refine SX.seq_exit ?_
    refine SX.hit ?_
    refine SX.seq ?_
    refine SC.seq ?_
    refine SC.plain ?_
    refine St.move rfl rfl ?_
    refine St.move rfl rfl ?_
    refine St.move rfl rfl ?_
    refine St.move rfl rfl ?_
    obtain ⟨P, M, S, rfl, hP, hM⟩ := split3 Y a (N - a) (by omega)
    simp only [List.length_append] at hYl
    refine St.call [_, _, _, _] rfl (by kernel_rfl) rfl (insC_spec w0 L b cap N pre tail g lt D hg hs hcmp P M S _ _ (by omega) (by omega) (fun x hx => hDY x (by simp [hx])) (by simp only [List.length_append]; omega) hb) (fun _ _ _ _ h => h.nil) ?_
    rintro r L1 ⟨T, hTl, huT, haT, rfl⟩
    refine St.done ?_
    refine SX.seq ?_
    refine SC.block ?_
    have hb0 : Srt.Blk lt 20 1 (P ++ (T ++ S)).length (P ++ (T ++ S)) := by have := Srt.Blk.next (d := 20) (q := q) (P := P) (M := M) (S := S) hTl (by omega) (by decide) huT (by rw [hP]; exact hbl); rw [show (P ++ (T ++ S)).length = P.length + M.length by simp only [List.length_append]; omega]; exact this
    refine SC.loop (α := Nat × List CoinV) (fun s => 0 < s.1 ∧ s.2.length = N ∧ Srt.Alike lt s.2 X ∧ ∃ e, Srt.Blk lt s.1 e s.2.length s.2) (fun s => [(0, .slice (some ⟨b, pre.length, none⟩) N cap), (1, .int .i64 ((N : Nat) : Int)), (2, .func (.func g) #[] #[]), (6, .int .i64 ((s.1 : Nat) : Int))]) (fun s => [⟨b, pre ++ ((s.2).flatMap CoinV.cells ++ tail), 194⟩] :: L) (fun s => N - s.1) (20, P ++ (T ++ S)) ⟨by simp only; omega, by simp only [List.length_append]; omega, (Srt.Alike.mid haT).trans hal, 1, hb0⟩ ⟨rfl, rfl, rfl, rfl, trivial⟩ (List.Perm.refl _) ?_
    clear hb0 haT huT hTl hDY hbl hal hYl hP hM haN haq
    rintro ⟨bs, Y⟩ ⟨hbs, hYl, hal, e, hbl⟩
    simp only at hbs hYl hal hbl ⊢
    refine SC.seq ?_
    refine SC.seq ?_
    refine SC.plain ?_
    refine St.move rfl rfl ?_
    refine St.move rfl rfl ?_
    refine St.lss rfl rfl rfl ?_
    refine St.done ?_
    refine SX.seq ?_
    refine SC.condp rfl (fun c30 => ?_) (fun c30 => ?_)
    · refine SC.skip ?_
      refine SX.seq ?_
      refine SC.block ?_
      refine SC.seq ?_
      refine SC.plain ?_
      refine St.move rfl rfl ?_
      first | refine St.mulN (a := 2) rfl rfl rfl (by omega) ?_ | refine St.mulI rfl rfl rfl (by omega) ?_
      refine St.assign rfl rfl ?_
      refine St.assign rfl rfl ?_
      refine St.done ?_
      refine SX.seq ?_
      refine SC.seq ?_
      refine SC.block ?_
      refine SC.loop (α := Nat × Nat × List CoinV) (fun s => s.1 = bs * (2 * s.2.1) ∧ s.1 ≤ N ∧ s.2.2.length = N ∧ Srt.Alike lt s.2.2 X ∧ Srt.Blk lt (2 * bs) bs s.1 s.2.2) (fun s => [(0, .slice (some ⟨b, pre.length, none⟩) N cap), (1, .int .i64 ((N : Nat) : Int)), (2, .func (.func g) #[] #[]), (6, .int .i64 ((bs : Nat) : Int)), (7, .int .i64 ((s.1 : Nat) : Int)), (8, .int .i64 ((s.1 + 2 * bs : Nat) : Int))]) (fun s => [⟨b, pre ++ ((s.2.2).flatMap CoinV.cells ++ tail), 194⟩] :: L) (fun s => N - s.1) (0, 0, Y) ⟨rfl, Nat.zero_le _, hYl, hal, hbl.again _⟩ ⟨rfl, rfl, rfl, rfl, rfl, by rw [Nat.zero_add]; rfl, trivial⟩ (List.Perm.refl _) ?_
      clear hbl hal hYl
      rintro ⟨a, q, Y⟩ ⟨haq, haN, hYl, hal, hbl⟩
      simp only at haq haN hYl hal hbl ⊢
      have hDY : ∀ x ∈ Y, D x := fun x hx => hD x (hal.mem hs hx)
      have haq2 : bs * (2 * q + 1) = a + bs := by rw [Nat.mul_add, haq, Nat.mul_one]
      refine SC.seq ?_
      refine SC.seq ?_
      refine SC.plain ?_
      refine St.move rfl rfl ?_
      refine St.move rfl rfl ?_
      refine St.leq rfl rfl rfl ?_
      refine St.done ?_
      refine SX.seq ?_
      refine SC.condp rfl (fun c35 => ?_) (fun c35 => ?_)
      · refine SC.skip ?_
        refine SX.seq ?_
        refine SC.block ?_
        refine SC.seq ?_
        refine SC.plain ?_
        refine St.move rfl rfl ?_
        refine St.move rfl rfl ?_
        refine St.move rfl rfl ?_
        refine St.move rfl rfl ?_
        first | refine St.addN rfl rfl rfl (by omega) ?_ | refine St.addI rfl rfl rfl (by omega) ?_
        refine St.move rfl rfl ?_
        refine St.move rfl rfl ?_
        obtain ⟨P, A, B, S, rfl, hP, hA, hB⟩ := split4 Y a bs bs (by omega)
        simp only [List.length_append] at hYl
        have huA : Srt.Up lt A := Srt.Blk.part hbl (by omega) (2 * q) (by omega) (by omega) hbs
        have huB : Srt.Up lt B := Srt.Blk.part (P := P ++ A) (S := S) (by rw [List.append_assoc]; exact hbl) (by rw [List.length_append]; omega) (2 * q + 1) (by rw [List.length_append]; omega) (by rw [List.length_append]; omega) hbs
        refine St.call [_, _, _, _, _] rfl (by kernel_rfl) rfl (symC_spec w0 L b cap N pre tail g lt D hg hs hcmp _ P A B S _ _ _ (by omega) (by omega) (by omega) (by omega) (by omega) (Nat.le_refl _) huA huB (fun x hx => hDY x (by rcases List.mem_append.1 hx with h | h <;> simp [h])) (by simp only [List.length_append]; omega) hb) (fun _ _ _ _ h => h.nil) ?_
        rintro r L1 ⟨M, hTl, huT, haT, rfl⟩
        refine St.done ?_
        refine SX.seq ?_
        refine SC.seq ?_
        refine SC.plain ?_
        refine St.move rfl rfl ?_
        refine St.assign rfl rfl ?_
        refine St.done ?_
        refine SX.seq ?_
        refine SC.plain ?_
        refine St.move rfl rfl ?_
        refine St.move rfl rfl ?_
        first | refine St.mulN (a := 2) rfl rfl rfl (by omega) ?_ | refine St.mulI rfl rfl rfl (by omega) ?_
        first | refine St.addN rfl rfl rfl (by omega) ?_ | refine St.addI rfl rfl rfl (by omega) ?_
        refine St.assign rfl rfl ?_
        refine St.done ?_
        refine SX.blk ?_
        have hMl : M.length = (A ++ B).length := by rw [List.length_append]; exact hTl
        exact SX.again (a + 2 * bs, q + 1, P ++ (M ++ S)) ⟨by simp only; rw [Nat.mul_add 2, Nat.mul_add]; omega, by simp only; omega, by simp only [List.length_append]; omega, (Srt.Alike.mid haT).trans (by rw [List.append_assoc]; exact hal), by have := Srt.Blk.next (d := 2 * bs) (e := bs) (q := q) (P := P) (M := A ++ B) (S := S) hMl (by rw [hP, haq, Nat.mul_comm 2 bs, Nat.mul_assoc]) (by omega) huT (by rw [hP, List.append_assoc]; exact hbl); rw [hP, List.length_append, hA, hB] at this; rw [show a + 2 * bs = a + (bs + bs) by omega]; exact this⟩ (by simp only; omega) ⟨rfl, rfl, rfl, rfl, rfl, rfl, trivial⟩ (List.Perm.refl _)
      · refine SC.exit ?_
        refine SX.seq_exit ?_
        refine SX.seq_exit ?_
        refine SX.hit ?_
        refine SX.seq ?_
        refine SC.join (α := List CoinV) (fun Y => Y.length = N ∧ Srt.Alike lt Y X ∧ Srt.Blk lt (2 * bs) bs Y.length Y) (fun _ => [(0, .slice (some ⟨b, pre.length, none⟩) N cap), (1, .int .i64 ((N : Nat) : Int)), (2, .func (.func g) #[] #[]), (6, .int .i64 ((bs : Nat) : Int))]) (fun Y => [⟨b, pre ++ ((Y).flatMap CoinV.cells ++ tail), 194⟩] :: L) ?_ ?_
        · clear hDY hbl hal hYl haq2 haN haq
          rintro Y ⟨hYl, hal, hbl⟩
          refine SC.plain ?_
          refine St.move rfl rfl ?_
          first | refine St.mulN (b := 2) rfl rfl rfl (by omega) ?_ | refine St.mulI rfl rfl rfl (by omega) ?_
          refine St.assign rfl rfl ?_
          refine St.done ?_
          refine SX.blk ?_
          exact SX.again (bs * 2, Y) ⟨by simp only; omega, hYl, hal, bs, by rw [Nat.mul_comm bs 2]; exact hbl⟩ (by simp only; omega) ⟨rfl, rfl, rfl, rfl, trivial⟩ (List.Perm.refl _)
        · refine SC.seq ?_
          refine SC.plain ?_
          refine St.move rfl rfl ?_
          refine St.move rfl rfl ?_
          first | refine St.addN rfl rfl rfl (by omega) ?_ | refine St.addI rfl rfl rfl (by omega) ?_
          refine St.assign rfl rfl ?_
          refine St.done ?_
          refine SX.seq ?_
          refine SC.seq ?_
          refine SC.plain ?_
          refine St.move rfl rfl ?_
          refine St.move rfl rfl ?_
          refine St.lss rfl rfl rfl ?_
          refine St.done ?_
          refine SX.seq ?_
          refine SC.condp rfl (fun c54 => ?_) (fun c54 => ?_)
          · refine SC.plain ?_
            refine St.move rfl rfl ?_
            refine St.move rfl rfl ?_
            refine St.move rfl rfl ?_
            refine St.move rfl rfl ?_
            refine St.move rfl rfl ?_
            obtain ⟨P, A, B, S, rfl, hP, hA, hB⟩ := split4 Y a bs (N - a - bs) (by omega)
            simp only [List.length_append] at hYl
            have huA : Srt.Up lt A := Srt.Blk.part hbl (by omega) (2 * q) (by omega) (by omega) hbs
            have huB : Srt.Up lt B := Srt.Blk.part (P := P ++ A) (S := S) (by rw [List.append_assoc]; exact hbl) (by rw [List.length_append]; omega) (2 * q + 1) (by rw [List.length_append]; omega) (by rw [List.length_append]; omega) hbs
            refine St.call [_, _, _, _, _] rfl (by kernel_rfl) rfl (symC_spec w0 L b cap N pre tail g lt D hg hs hcmp _ P A B S _ _ _ (by omega) (by omega) (by omega) (by omega) (by omega) (Nat.le_refl _) huA huB (fun x hx => hDY x (by rcases List.mem_append.1 hx with h | h <;> simp [h])) (by simp only [List.length_append]; omega) hb) (fun _ _ _ _ h => h.nil) ?_
            rintro r L1 ⟨M, hTl, huT, haT, rfl⟩
            refine St.done ?_
            have hMl : M.length = (A ++ B).length := by rw [List.length_append]; exact hTl
            have hnx := Srt.Blk.next (d := 2 * bs) (e := bs) (q := q) (P := P) (M := A ++ B) (S := S) hMl (by rw [hP, haq, Nat.mul_comm 2 bs, Nat.mul_assoc]) (by omega) huT (by rw [hP, List.append_assoc]; exact hbl)
            exact SX.some (P ++ (M ++ S)) ⟨by simp only [List.length_append]; omega, (Srt.Alike.mid haT).trans (by rw [List.append_assoc]; exact hal), by rw [show (P ++ (M ++ S)).length = P.length + (A ++ B).length by simp only [List.length_append]; omega]; exact hnx⟩ ⟨rfl, rfl, rfl, rfl, trivial⟩ (List.Perm.refl _)
          · refine SC.skip ?_
            exact SX.some Y ⟨hYl, hal, Srt.Blk.rest (q := q) rfl hbs a (by rw [haq, Nat.mul_comm 2 bs, Nat.mul_assoc]) (by omega) hbl⟩ ⟨rfl, rfl, rfl, rfl, trivial⟩ (List.Perm.refl _)
    · refine SC.exit ?_
      refine SX.seq_exit ?_
      refine SX.seq_exit ?_
      refine SX.hit ?_
      exact SX.ret0 (.inr rfl) rfl ⟨Y, hYl.trans hN.symm, Srt.Blk.up (by omega) hbl, hal, rfl⟩
theorem sortC_spec (w0 : World) (L : List Chunk) (b cap N : Nat) (pre tail : List Value) (g : FuncId) (lt : CoinV → CoinV → Bool) (D : CoinV → Prop) (hg : callable Try.prog g = true) (hs : Srt.Swo lt) (hcmp : Cmp CoinV.cells w0 g lt D) (X : List CoinV) (hD : ∀ x ∈ X, D x) (hN : X.length = N) (hb : N ≤ 140737488351232) :
    Meets Try.prog 132 #[.slice (some ⟨b, pre.length, none⟩) N cap, .func (.func g) #[] #[]] w0 ([⟨b, pre ++ ((X).flatMap CoinV.cells ++ tail), 194⟩] :: L) (fun r L' => ∃ T : List CoinV, T.length = X.length ∧ Srt.Up lt T ∧ Srt.Alike lt T X ∧ L' = [⟨b, pre ++ ((T).flatMap CoinV.cells ++ tail), 194⟩] :: L) := by
  refine Meets.of_body [.slice (some ⟨b, pre.length, none⟩) N cap, .func (.func g) #[] #[]] Try.func132 rfl Try.ntmps132 rfl ?_
  refine SC.plain ?_
  refine St.move rfl rfl ?_
  refine St.move rfl rfl ?_
  refine St.lenSl rfl rfl (by kernel_rfl) ?_
  refine St.move rfl rfl ?_
  refine St.call [_, _, _] rfl (by kernel_rfl) rfl (stabC_spec w0 L b cap N pre tail g lt D hg hs hcmp X hD hN hb) (fun _ _ _ _ h => h.nil) ?_
  rintro r L1 ⟨T, hTl, huT, haT, rfl⟩
  refine St.done ?_
  exact SX.ret0 (.inr rfl) rfl ⟨T, hTl, huT, haT, rfl⟩
end Go.Proofs.Ytahafepgmkiabaa
