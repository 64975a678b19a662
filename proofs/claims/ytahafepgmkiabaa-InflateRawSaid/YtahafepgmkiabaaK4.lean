/- Walks: the document's inflating: a told code. -/
import Derived.Test.YtahafepgmkiabaaK3
set_option linter.unusedVariables false
set_option linter.unusedSimpArgs false
set_option linter.ambiguousOpen false
namespace Go.Proofs.Ytahafepgmkiabaa
open Go Go.Proofs.Ytahafepgmkiabaa.Sep Go.Proofs.Ytahafepgmkiabaa.Inf

theorem whole_false (xs : List Int) (h : xs.length ≤ 400) : wholeOk false xs = decide (weightOf xs = 32768) := by
  unfold wholeOk weightOf codesE
  cases hl : lensOk xs with
  | false => simp
  | true =>
    by_cases hk : 32768 < kraft xs
    · simp [hk, show ¬ 400 < xs.length by omega, show ¬ kraft xs = 32768 by omega]
    · simp [hk, show ¬ 400 < xs.length by omega]
theorem kraft_ones : ∀ xs : List Int, xs.all (fun x => x == 0 || x == 1) = true → kraft xs = 16384 * (((xs.filter (fun x => x ≠ 0)).length : Nat) : Int) ∧ lensOk xs = true
  | [], _ => ⟨rfl, rfl⟩
  | x :: xs, h => by
    rw [List.all_cons, Bool.and_eq_true] at h
    obtain ⟨h1, h2⟩ := h
    simp only [Bool.or_eq_true, beq_iff_eq] at h1
    obtain ⟨h3, h4⟩ := kraft_ones xs h2
    have hk : kraft (x :: xs) = share x + kraft xs := by simp [kraft]
    have hl : lensOk (x :: xs) = ((decide (0 ≤ x) && decide (x ≤ 15)) && lensOk xs) := rfl
    rcases h1 with rfl | rfl
    · rw [hk, h3, hl, h4]
      exact ⟨by rw [show share 0 = 0 from rfl, List.filter_cons_of_neg (by decide)]; omega, rfl⟩
    · rw [hk, h3, hl, h4]
      exact ⟨by rw [show share 1 = 16384 from rfl, List.filter_cons_of_pos (by decide), List.length_cons]; omega, rfl⟩
theorem one_codes {xs : List Int} (h : isOne xs = true) (hl : xs.length ≤ 400) : codesE xs = 0 := by
  unfold isOne at h
  rw [Bool.and_eq_true, decide_eq_true_iff] at h
  obtain ⟨h1, h2⟩ := kraft_ones xs h.1
  unfold codesE
  rw [if_neg (by rw [h2]; simp; omega), if_neg (by omega)]
theorem whole_true (xs : List Int) (h : xs.length ≤ 400) : wholeOk true xs = (decide (weightOf xs = 32768) || isOne xs) := by
  cases h1 : isOne xs with
  | true =>
    unfold wholeOk
    rw [h1, one_codes h1 h]
    simp
  | false =>
    rw [← whole_false xs h, Bool.or_false]
    unfold wholeOk
    rw [h1]; rfl
theorem whole_codes {few : Bool} {xs : List Int} (h : wholeOk few xs = true) : codesE xs = 0 := by
  unfold wholeOk at h
  rw [Bool.and_eq_true, decide_eq_true_iff] at h
  exact h.1
theorem step_len {own : List Int} {n : Nat} {l l' : List Int} {bs : List Nat} {most p p' : Nat} {o o' : List Nat} (hl : l.length < n) (h : stepR own n l bs most p o = .ok l' p' o') : l.length < l'.length ∧ l'.length ≤ n := by
  obtain ⟨s, p1, o1, h1, h2⟩ := bind_ok h
  split at h2
  · simp only [pureR, Got.ok.injEq] at h2
    rw [← h2.1, List.length_append, List.length_singleton]; omega
  · obtain ⟨m, p2, o2, h3, h4⟩ := bind_ok h2
    have hK : 1 ≤ (if s = 18 then 11 else 3) := by split <;> omega
    generalize (if s = 18 then 11 else 3) = K at h4 hK
    generalize (if s = 16 then l.getD (l.length - 1) 0 else 0) = X at h4
    split at h4
    · simp [failR] at h4
    · rename_i hno
      simp only [pureR, Got.ok.injEq] at h4
      rw [← h4.1, List.length_append, List.length_replicate]; omega
theorem sym_nat {xs : List Int} {bs : List Nat} {most p p' : Nat} {o o' : List Nat} {s : Int} (h : symR xs bs most p o = .ok s p' o') : 0 ≤ s := by
  unfold symR at h
  split at h
  · rename_i h0
    obtain ⟨i, h1, _⟩ := readFrom_some 16 0 0 p h0
    simp only [Got.ok.injEq] at h
    have : (readSym xs bs p).1 = (i : Int) := h1
    rw [← h.1, this]; omega
  · cases h
theorem step_lens {own : List Int} {n : Nat} {l l' : List Int} {bs : List Nat} {most p p' : Nat} {o o' : List Nat} (hl : Lens l) (h : stepR own n l bs most p o = .ok l' p' o') : Lens l' := by
  obtain ⟨s, p1, o1, h1, h2⟩ := bind_ok h
  have hs := sym_nat h1
  split at h2
  · rename_i hs16
    simp only [pureR, Got.ok.injEq] at h2
    rw [← h2.1]
    intro x hx
    rcases List.mem_append.1 hx with hx | hx
    · exact hl x hx
    · rw [List.mem_singleton.1 hx]; omega
  · obtain ⟨m, p2, o2, h3, h4⟩ := bind_ok h2
    have hX : 0 ≤ (if s = 16 then l.getD (l.length - 1) 0 else 0) ∧ (if s = 16 then l.getD (l.length - 1) 0 else 0) ≤ 15 := by
      split
      · exact hl.at _
      · omega
    generalize (if s = 18 then 11 else 3) = K at h4
    generalize (if s = 16 then l.getD (l.length - 1) 0 else 0) = X at h4 hX
    split at h4
    · simp [failR] at h4
    · simp only [pureR, Got.ok.injEq] at h4
      rw [← h4.1]
      intro x hx
      rcases List.mem_append.1 hx with hx | hx
      · exact hl x hx
      · rw [List.eq_of_mem_replicate hx]; exact hX
theorem good_step (own : List Int) (n : Nat) (l : List Int) : Inf.Good (stepR own n l) :=
  good_bind (good_sym own) fun _ => good_if (good_pure _) (good_bind (good_take _) fun _ => good_if (good_fail _) (good_pure _))
/-- The told code's parts. -/
def dyn1 (F lit : Nat) : Rdr Unit := bindR (takeR 5) fun dist => if 30 < dist + 1 then failR 3 else bindR (takeR 4) fun n => bindR (ownR (orderL.take (n + 4)) (List.replicate 19 0)) (dynRest F lit dist)
def dyn2 (F lit dist : Nat) : Rdr Unit := bindR (takeR 4) fun n => bindR (ownR (orderL.take (n + 4)) (List.replicate 19 0)) (dynRest F lit dist)
theorem dyn_eq0 (F : Nat) (bs : List Nat) (most p : Nat) (o : List Nat) : dynamicR F bs most p o = bindR (takeR 5) (fun lit => if 286 < lit + 257 then failR 3 else dyn1 F lit) bs most p o := rfl
theorem dyn_eq1 (F lit : Nat) (bs : List Nat) (most p : Nat) (o : List Nat) : dyn1 F lit bs most p o = bindR (takeR 5) (fun dist => if 30 < dist + 1 then failR 3 else dyn2 F lit dist) bs most p o := rfl
/-- Either a state of no error with what it still has to do, or one of an error. -/
def Way (g : Got Unit) (r : Rdr Unit) (bs : List Nat) (most t : Nat) (o : List Nat) (e : Int) : Prop := (e = 0 → g = r bs most t o) ∧ (e ≠ 0 → g = .bad e)
theorem Way.ok {g : Got Unit} {r : Rdr Unit} {bs : List Nat} {most t : Nat} {o : List Nat} (h : g = r bs most t o) : Way g r bs most t o 0 := ⟨fun _ => h, fun h0 => absurd rfl h0⟩
theorem Way.bad {g : Got Unit} {r : Rdr Unit} {bs : List Nat} {most t : Nat} {o : List Nat} {e : Int} (h : g = .bad e) (h0 : e ≠ 0) : Way g r bs most t o e := ⟨fun h1 => absurd h1 h0, fun _ => h⟩
/-- One more error, where it is the first, is what the reader comes to. -/
theorem Way.fail {g : Got Unit} {r r' : Rdr Unit} {bs : List Nat} {most t : Nat} {o : List Nat} {e c : Int} (h : Way g r bs most t o e) (hc : c ≠ 0) (hf : r bs most t o = .bad c) : Way g r' bs most t o (firstE e c) := by
  by_cases h0 : e = 0
  · subst h0; exact Way.bad ((h.1 rfl).trans hf) hc
  · rw [first_old h0]; exact Way.bad (h.2 h0) h0
theorem Way.go {g : Got Unit} {r r' : Rdr Unit} {bs : List Nat} {most t : Nat} {o : List Nat} {e : Int} (h : Way g r bs most t o e) (hf : r bs most t o = r' bs most t o) : Way g r' bs most t o e := ⟨fun h0 => (h.1 h0).trans hf, h.2⟩

theorem AnsS.cases {w0 : World} {g : Got (List Int)} {p q c : Nat} {rv : Value} {bs : List Nat} {most : Nat} {L L' : List Chunk} (h : AnsS w0 g p q c rv bs most L L') :
    (∃ l t o ov Eo lv El, g = .ok l t o ∧ RIn w0 L rv bs most t o ov Eo ∧ Buf 3 1 lv (ints l) l.length El ∧ WkL p q rv ov t most 0 Eo ([⟨c, [lv], 22⟩] :: El :: L) = L') ∨
      (∃ e t o ov Eo lv El l, g = .bad e ∧ e ≠ 0 ∧ RIn w0 L rv bs most t o ov Eo ∧ Buf 3 1 lv (ints l) l.length El ∧ WkL p q rv ov t most e Eo ([⟨c, [lv], 22⟩] :: El :: L) = L') := by
  unfold AnsS at h
  cases g with
  | ok l t o => obtain ⟨ov, Eo, lv, El, h1, h2, h3⟩ := h; exact .inl ⟨l, t, o, ov, Eo, lv, El, rfl, h1, h2, h3⟩
  | bad e => obtain ⟨h0, t, o, ov, Eo, lv, El, l, h1, h2, h3⟩ := h; exact .inr ⟨e, t, o, ov, Eo, lv, El, l, rfl, h0, h1, h2, h3⟩
theorem first_ne (e : Int) {c : Int} (h : c ≠ 0) : firstE e c ≠ 0 := by
  unfold firstE; split <;> assumption

theorem wlengths_spec (w0 : World) (L : List Chunk) (p q : Nat) (rv ov : Value) (bs : List Nat) (most at_ : Nat) (out : List Nat) (Eo : Chunk) (hR : RIn w0 L rv bs most at_ out ov Eo) (F : Nat) :
    Meets Try.prog 166 #[.pointer (some ⟨p, 0, none⟩)] w0 (WkL p q rv ov at_ most 0 Eo L) (fun r L' => ∃ (a b : List Int) (va vb : Value) (t : Nat) (o : List Nat) (ov2 : Value) (Eo2 : Chunk) (G : List Chunk) (e : Int), r = .tuple #[va, vb] ∧ WkL p q rv ov2 t most e Eo2 (G ++ L) = L' ∧ RIn w0 L rv bs most t o ov2 Eo2 ∧
      ((e = 0 ∧ dynamicR F bs most at_ out = codedR a b F bs most t o ∧ codesE a = 0 ∧ codesE b = 0 ∧ Rd w0 (G ++ L) va 1 a.length (ints a) ∧ Rd w0 (G ++ L) vb 1 b.length (ints b) ∧ at_ ≤ t) ∨ (e ≠ 0 ∧ dynamicR F bs most at_ out = .bad e))) := by
  have hx := hR.rd
  have hl := hR.len
  have hb := hR.lt
  have hat := hR.at_
  have hmost := hR.big
  have hroom := hR.room
  have hm0 := dyn_eq0 F bs most at_ out
  refine Meets.of_body [.pointer (some ⟨p, 0, none⟩)] Try.func166 rfl Try.ntmps166 rfl ?_
  refine SC.seq ?_
  refine SC.plain ?_
  refine St.assign rfl rfl ?_
  refine St.assign rfl rfl ?_
  refine St.done ?_
  refine SX.seq ?_
  refine SC.join (α := Nat × Nat × Int) (fun s_ => s_.1 < 32 ∧ at_ ≤ s_.2.1 ∧ s_.2.1 ≤ 8 * bs.length ∧ Way (dynamicR F bs most at_ out) (if 286 < s_.1 + 257 then failR 3 else dyn1 F s_.1) bs most s_.2.1 out s_.2.2) (fun s_ => [(0, .pointer (some ⟨p, 0, none⟩)), (4, .int .i64 ((s_.1 + 257 : Nat) : Int))]) (fun s_ => WkL p q rv ov s_.2.1 most s_.2.2 Eo L) ?_ ?_
  · rintro ⟨a1, t, e⟩ ⟨ha1, hati, ht, hw⟩
    simp only at ha1 hati ht hw
    show SC _ _ _ [(0, .pointer (some ⟨p, 0, none⟩)), (4, .int .i64 ((a1 + 257 : Nat) : Int))] (WkL p q rv ov t most e Eo L)
    refine SC.join (α := Int) (fun e1 => (e1 = 0 → a1 + 257 ≤ 286) ∧ Way (dynamicR F bs most at_ out) (dyn1 F a1) bs most t out e1) (fun _ => [(0, .pointer (some ⟨p, 0, none⟩)), (4, .int .i64 ((a1 + 257 : Nat) : Int))]) (fun e1 => WkL p q rv ov t most e1 Eo L) ?_ ?_
    · clear hw
      rintro e ⟨ha286, hw⟩
      show SC _ _ _ [(0, .pointer (some ⟨p, 0, none⟩)), (4, .int .i64 ((a1 + 257 : Nat) : Int))] (WkL p q rv ov t most e Eo L)
      unfold WkL
      refine SC.seq ?_
      refine SC.plain ?_
      refine St.assign rfl rfl ?_
      refine St.done ?_
      refine SX.seq ?_
      refine SC.join (α := Nat × Nat × Nat × Int) (fun s_ => s_.1 ≤ 32 ∧ at_ ≤ s_.2.2.1 ∧ s_.2.2.1 ≤ 8 * bs.length ∧ (s_.2.2.2 = 0 → s_.1 = s_.2.1 + 1) ∧ (s_.2.2.2 ≠ 0 → s_.1 ≤ 1) ∧ Way (dynamicR F bs most at_ out) (if 30 < s_.2.1 + 1 then failR 3 else dyn2 F a1 s_.2.1) bs most s_.2.2.1 out s_.2.2.2) (fun s_ => [(0, .pointer (some ⟨p, 0, none⟩)), (4, .int .i64 ((a1 + 257 : Nat) : Int)), (5, .int .i64 ((s_.1 : Nat) : Int))]) (fun s_ => WkL p q rv ov s_.2.2.1 most s_.2.2.2 Eo L) ?_ ?_
      · clear hw hati ht
        rintro ⟨x, a2, t, e⟩ ⟨hx32, hati, ht, hxa, hxe, hw⟩
        simp only at hx32 hati ht hxa hxe hw
        show SC _ _ _ [(0, .pointer (some ⟨p, 0, none⟩)), (4, .int .i64 ((a1 + 257 : Nat) : Int)), (5, .int .i64 ((x : Nat) : Int))] (WkL p q rv ov t most e Eo L)
        refine SC.join (α := Int) (fun e1 => (e1 = 0 → x = a2 + 1 ∧ a2 + 1 ≤ 30) ∧ Way (dynamicR F bs most at_ out) (dyn2 F a1 a2) bs most t out e1) (fun _ => [(0, .pointer (some ⟨p, 0, none⟩)), (4, .int .i64 ((a1 + 257 : Nat) : Int)), (5, .int .i64 ((x : Nat) : Int))]) (fun e1 => WkL p q rv ov t most e1 Eo L) ?_ ?_
        · clear hw
          rintro e ⟨ha30, hw⟩
          show SC _ _ _ [(0, .pointer (some ⟨p, 0, none⟩)), (4, .int .i64 ((a1 + 257 : Nat) : Int)), (5, .int .i64 ((x : Nat) : Int))] (WkL p q rv ov t most e Eo L)
          unfold WkL
          refine SC.seq ?_
          refine SC.seq ?_
          refine SC.plain ?_
          refine St.move rfl rfl ?_
          refine St.nilCheck rfl rfl ?_
          refine St.fieldAddr (off := 3) rfl rfl (by kernel_rfl) ?_
          refine St.load rfl rfl (by kernel_rfl) (by first | exact Holds.row mem0 rfl | exact Holds.row mem1 rfl | exact Holds.row mem2 rfl | exact Holds.row mem3 rfl | exact Holds.row mem4 rfl | exact Holds.row mem5 rfl | exact Holds.row mem6 rfl | exact Holds.row mem7 rfl | exact Holds.row mem8 rfl) ?_
          refine St.neq rfl rfl rfl ?_
          refine St.done ?_
          refine SX.seq ?_
          refine SC.condp rfl (fun c36 => ?_) (fun c36 => ?_)
          · refine SC.seq ?_
            refine SC.plain ?_
            refine St.assign rfl rfl ?_
            refine St.assign rfl rfl ?_
            refine St.done ?_
            refine SX.seq ?_
            refine SC.ret ?_
            refine SX.seq_ret ?_
            exact SX.ret2 rfl rfl rfl ⟨[], [], .slice none 0 0, .slice none 0 0, _, out, ov, Eo, [], _, rfl, rfl, hR.to ht, .inr ⟨c36, hw.2 c36⟩⟩
          · obtain rfl : e = 0 := by omega
            obtain ⟨rfl, ha31⟩ := ha30 rfl
            refine SC.skip ?_
            refine SX.seq ?_
            refine SC.seq ?_
            refine SC.plain ?_
            refine St.buildSl (n := 19) (e := 3) [(0, .int .i64 16), (1, .int .i64 17), (2, .int .i64 18), (3, .int .i64 0), (4, .int .i64 8), (5, .int .i64 7), (6, .int .i64 9), (7, .int .i64 6), (8, .int .i64 10), (9, .int .i64 5), (10, .int .i64 11), (11, .int .i64 4), (12, .int .i64 12), (13, .int .i64 3), (14, .int .i64 13), (15, .int .i64 2), (16, .int .i64 14), (17, .int .i64 1), (18, .int .i64 15)] (ints orderI) rfl rfl (by kernel_rfl) (fun _ _ h => h.nil) (fun b6 => ?_)
            refine St.assign rfl rfl ?_
            refine St.done ?_
            refine SX.seq ?_
            refine SC.seq ?_
            refine SC.plain ?_
            refine St.makeSl (e := 3) (zv := .int .i64 0) (bytes := 8) (l := 19) (c := 19) rfl rfl rfl (by kernel_rfl) ⟨by omega, by omega⟩ (by omega) (by omega) (fun _ _ h => h.nil) (fun b7 => ?_)
            refine St.assign rfl rfl ?_
            refine St.done ?_
            refine SX.seq ?_
            refine SC.join (α := Nat × Nat × Int) (fun s_ => s_.1 < 16 ∧ at_ ≤ s_.2.1 ∧ s_.2.1 ≤ 8 * bs.length ∧ Way (dynamicR F bs most at_ out) (bindR (ownR (orderL.take (s_.1 + 4)) (List.replicate 19 0)) (dynRest F a1 a2)) bs most s_.2.1 out s_.2.2) (fun s_ => [(0, .pointer (some ⟨p, 0, none⟩)), (4, .int .i64 ((a1 + 257 : Nat) : Int)), (5, .int .i64 ((a2 + 1 : Nat) : Int)), (6, .slice (some ⟨b6, 0, none⟩) 19 19), (7, .slice (some ⟨b7, 0, none⟩) 19 19), (8, .int .i64 ((s_.1 + 4 : Nat) : Int))]) (fun s_ => WkL p q rv ov s_.2.1 most s_.2.2 Eo ([⟨b7, ints (List.replicate 19 0), 3⟩] :: [⟨b6, ints orderI, 3⟩] :: L)) ?_ ?_
            · clear hw hati ht
              rintro ⟨a3, t, e⟩ ⟨ha3, hati, ht, hw⟩
              simp only at ha3 hati ht hw
              show SC _ _ _ [(0, .pointer (some ⟨p, 0, none⟩)), (4, .int .i64 ((a1 + 257 : Nat) : Int)), (5, .int .i64 ((a2 + 1 : Nat) : Int)), (6, .slice (some ⟨b6, 0, none⟩) 19 19), (7, .slice (some ⟨b7, 0, none⟩) 19 19), (8, .int .i64 ((a3 + 4 : Nat) : Int))] (WkL p q rv ov t most e Eo ([⟨b7, ints (List.replicate 19 0), 3⟩] :: [⟨b6, ints orderI, 3⟩] :: L))
              refine SC.join (α := Nat × Int × List Int) (fun s_ => at_ ≤ s_.1 ∧ s_.1 ≤ 8 * bs.length ∧ s_.2.2.length = 19 ∧ Way (dynamicR F bs most at_ out) (dynRest F a1 a2 s_.2.2) bs most s_.1 out s_.2.1) (fun s_ => [(0, .pointer (some ⟨p, 0, none⟩)), (4, .int .i64 ((a1 + 257 : Nat) : Int)), (5, .int .i64 ((a2 + 1 : Nat) : Int)), (7, .slice (some ⟨b7, 0, none⟩) 19 19)]) (fun s_ => WkL p q rv ov s_.1 most s_.2.1 Eo ([⟨b7, ints (s_.2.2), 3⟩] :: [⟨b6, ints orderI, 3⟩] :: L)) ?_ ?_
              · clear hw hati ht
                rintro ⟨t, e, l⟩ ⟨hati, ht, hl19, hw⟩
                simp only at hati ht hl19 hw
                show SC _ _ _ [(0, .pointer (some ⟨p, 0, none⟩)), (4, .int .i64 ((a1 + 257 : Nat) : Int)), (5, .int .i64 ((a2 + 1 : Nat) : Int)), (7, .slice (some ⟨b7, 0, none⟩) 19 19)] (WkL p q rv ov t most e Eo ([⟨b7, ints (l), 3⟩] :: [⟨b6, ints orderI, 3⟩] :: L))
                unfold WkL
                refine SC.seq ?_
                refine SC.seq ?_
                refine SC.plain ?_
                refine St.move rfl rfl ?_
                refine St.nilCheck rfl rfl ?_
                refine St.fieldAddr (off := 3) rfl rfl (by kernel_rfl) ?_
                refine St.load rfl rfl (by kernel_rfl) (by first | exact Holds.row mem0 rfl | exact Holds.row mem1 rfl | exact Holds.row mem2 rfl | exact Holds.row mem3 rfl | exact Holds.row mem4 rfl | exact Holds.row mem5 rfl | exact Holds.row mem6 rfl | exact Holds.row mem7 rfl | exact Holds.row mem8 rfl) ?_
                refine St.neq rfl rfl rfl ?_
                refine St.done ?_
                refine SX.seq ?_
                refine SC.condp rfl (fun c66 => ?_) (fun c66 => ?_)
                · refine SC.seq ?_
                  refine SC.plain ?_
                  refine St.assign rfl rfl ?_
                  refine St.assign rfl rfl ?_
                  refine St.done ?_
                  refine SX.seq ?_
                  refine SC.ret ?_
                  refine SX.seq_ret ?_
                  exact SX.ret2 rfl rfl rfl ⟨[], [], .slice none 0 0, .slice none 0 0, _, out, ov, Eo, [[⟨b7, ints l, 3⟩], [⟨b6, ints orderI, 3⟩]], _, rfl, rfl, hR.to ht, .inr ⟨c66, hw.2 c66⟩⟩
                · obtain rfl : e = 0 := by omega
                  refine SC.skip ?_
                  refine SX.seq ?_
                  refine SC.join (α := Int) (fun e1 => (e1 = 0 → wholeOk false l = true) ∧ Way (dynamicR F bs most at_ out) (bindR (lengthsR l (a1 + 257 + a2 + 1) 400 []) (dynEnd F a1)) bs most t out e1) (fun _ => [(0, .pointer (some ⟨p, 0, none⟩)), (4, .int .i64 ((a1 + 257 : Nat) : Int)), (5, .int .i64 ((a2 + 1 : Nat) : Int)), (7, .slice (some ⟨b7, 0, none⟩) 19 19)]) (fun e1 => WkL p q rv ov t most e1 Eo ([⟨b7, ints (l), 3⟩] :: [⟨b6, ints orderI, 3⟩] :: L)) ?_ ?_
                  · clear hw
                    rintro e ⟨hwh, hw⟩
                    show SC _ _ _ [(0, .pointer (some ⟨p, 0, none⟩)), (4, .int .i64 ((a1 + 257 : Nat) : Int)), (5, .int .i64 ((a2 + 1 : Nat) : Int)), (7, .slice (some ⟨b7, 0, none⟩) 19 19)] (WkL p q rv ov t most e Eo ([⟨b7, ints (l), 3⟩] :: [⟨b6, ints orderI, 3⟩] :: L))
                    refine SC.seq ?_
                    refine SC.plain ?_
                    refine St.alloc [.slice none 0 0] rfl (by kernel_rfl) (fun _ _ h => h.nil) (fun c => ?_)
                    refine St.done ?_
                    refine SX.seq ?_
                    refine SC.join (α := Nat × List Nat × Value × Chunk × Int × List Int × Value × Chunk) (fun s_ => RIn w0 L rv bs most s_.1 s_.2.1 s_.2.2.1 s_.2.2.2.1 ∧ Buf 3 1 s_.2.2.2.2.2.2.1 (ints s_.2.2.2.2.2.1) s_.2.2.2.2.2.1.length s_.2.2.2.2.2.2.2 ∧ (s_.2.2.2.2.1 = 0 → s_.2.2.2.2.2.1.length = (a1 + 257 + a2 + 1) ∧ Lens s_.2.2.2.2.2.1 ∧ at_ ≤ s_.1) ∧ Way (dynamicR F bs most at_ out) (dynEnd F a1 s_.2.2.2.2.2.1) bs most s_.1 s_.2.1 s_.2.2.2.2.1) (fun s_ => [(0, .pointer (some ⟨p, 0, none⟩)), (4, .int .i64 ((a1 + 257 : Nat) : Int)), (5, .int .i64 ((a2 + 1 : Nat) : Int)), (7, .slice (some ⟨b7, 0, none⟩) 19 19), (10, .pointer (some ⟨c, 0, none⟩))]) (fun s_ => WkL p q rv s_.2.2.1 s_.1 most s_.2.2.2.2.1 s_.2.2.2.1 ([⟨c, [s_.2.2.2.2.2.2.1], 22⟩] :: s_.2.2.2.2.2.2.2 :: [⟨b7, ints (l), 3⟩] :: [⟨b6, ints orderI, 3⟩] :: L)) ?_ ?_
                    · clear hw hati ht
                      rintro ⟨t, o, v, E, e, ll, lv, El⟩ ⟨hRi, hbl, hll, hw⟩
                      simp only at hRi hbl hll hw
                      obtain ⟨bl, ol, Al, cl, rfl, hAl, hrl⟩ := hbl.read
                      show SC _ _ _ [(0, .pointer (some ⟨p, 0, none⟩)), (4, .int .i64 ((a1 + 257 : Nat) : Int)), (5, .int .i64 ((a2 + 1 : Nat) : Int)), (7, .slice (some ⟨b7, 0, none⟩) 19 19), (10, .pointer (some ⟨c, 0, none⟩))] (WkL p q rv v t most e E ([⟨c, [.slice Al ll.length cl], 22⟩] :: El :: [⟨b7, ints (l), 3⟩] :: [⟨b6, ints orderI, 3⟩] :: L))
                      unfold WkL
                      refine SC.seq ?_
                      refine SC.seq ?_
                      refine SC.plain ?_
                      refine St.move rfl rfl ?_
                      refine St.nilCheck rfl rfl ?_
                      refine St.fieldAddr (off := 3) rfl rfl (by kernel_rfl) ?_
                      refine St.load rfl rfl (by kernel_rfl) (by first | exact Holds.row mem0 rfl | exact Holds.row mem1 rfl | exact Holds.row mem2 rfl | exact Holds.row mem3 rfl | exact Holds.row mem4 rfl | exact Holds.row mem5 rfl | exact Holds.row mem6 rfl | exact Holds.row mem7 rfl | exact Holds.row mem8 rfl) ?_
                      refine St.neq rfl rfl rfl ?_
                      refine St.done ?_
                      refine SX.seq ?_
                      refine SC.condp rfl (fun c95 => ?_) (fun c95 => ?_)
                      · refine SC.seq ?_
                        refine SC.plain ?_
                        refine St.assign rfl rfl ?_
                        refine St.assign rfl rfl ?_
                        refine St.done ?_
                        refine SX.seq ?_
                        refine SC.ret ?_
                        refine SX.seq_ret ?_
                        exact SX.ret2 rfl rfl rfl ⟨[], [], .slice none 0 0, .slice none 0 0, _, o, v, E, [[⟨c, [.slice Al ll.length cl], 22⟩], El, [⟨b7, ints l, 3⟩], [⟨b6, ints orderI, 3⟩]], _, rfl, rfl, hRi, .inr ⟨c95, hw.2 c95⟩⟩
                      · obtain rfl : e = 0 := by omega
                        obtain ⟨hlN, hlens, hati⟩ := hll rfl
                        obtain rfl := hAl (by omega)
                        have hrd := hbl.rd (w0 := w0) (L := ([⟨c, [.slice (some ⟨bl, ol, none⟩) ll.length cl], 22⟩] :: El :: [⟨b7, ints (l), 3⟩] :: [⟨b6, ints orderI, 3⟩] :: L)) (by simp)
                        have hta : (ll.take (a1 + 257)).length ≤ 400 := by rw [List.length_take]; omega
                        have htb : (ll.drop (a1 + 257)).length ≤ 400 := by rw [List.length_drop]; omega
                        have hlb : Lens (ll.drop (a1 + 257)) := fun y hy => hlens y (List.mem_of_mem_drop hy)
                        have h256 : (ll.take (a1 + 257)).getD 256 0 = ll.getD 256 0 := by simp only [List.getD_eq_getElem?_getD, List.getElem?_take_of_lt (show 256 < a1 + 257 by omega)]
                        refine SC.skip ?_
                        refine SX.seq ?_
                        refine SC.seq ?_
                        refine SC.plain ?_
                        refine St.load rfl rfl (by kernel_rfl) (by first | exact Holds.row mem0 rfl | exact Holds.row mem1 rfl | exact Holds.row mem2 rfl | exact Holds.row mem3 rfl | exact Holds.row mem4 rfl | exact Holds.row mem5 rfl | exact Holds.row mem6 rfl | exact Holds.row mem7 rfl | exact Holds.row mem8 rfl) ?_
                        refine St.move rfl rfl ?_
                        refine St.cutI (e := 3) 0 (a1 + 257) rfl rfl (by kernel_rfl) hrd hbl.cap rfl ⟨_, _, rfl, rfl⟩ (by omega) (by omega) (fun v7 h7 _ => ?_)
                        rw [List.drop_zero, Nat.sub_zero] at h7
                        have h70 := h7
                        obtain ⟨_, bA, oA, AA, cA, rfl, hAA, hrA⟩ := h7
                        obtain rfl := hAA (by rw [List.length_take]; omega)
                        refine St.assign rfl rfl ?_
                        refine St.done ?_
                        refine SX.seq ?_
                        refine SC.seq ?_
                        refine SC.plain ?_
                        refine St.load rfl rfl (by kernel_rfl) (by first | exact Holds.row mem0 rfl | exact Holds.row mem1 rfl | exact Holds.row mem2 rfl | exact Holds.row mem3 rfl | exact Holds.row mem4 rfl | exact Holds.row mem5 rfl | exact Holds.row mem6 rfl | exact Holds.row mem7 rfl | exact Holds.row mem8 rfl) ?_
                        refine St.move rfl rfl ?_
                        refine St.cutI (e := 3) (a1 + 257) ll.length rfl rfl (by kernel_rfl) hrd hbl.cap ⟨_, _, rfl, rfl⟩ rfl (by omega) (by omega) (fun v8 h8 _ => ?_)
                        rw [List.take_of_length_le (by rw [List.length_drop]; omega)] at h8
                        have h80 := h8
                        refine St.assign rfl rfl ?_
                        refine St.done ?_
                        refine SX.seq ?_
                        refine SC.seq ?_
                        refine SC.seq ?_
                        refine SC.plain ?_
                        refine St.move rfl rfl ?_
                        refine St.indexSl (e := 3) (sz := 1) rfl rfl rfl (by kernel_rfl) (by rw [List.length_take]; omega) ?_
                        refine St.load rfl rfl (by kernel_rfl) ((hrA.mono fun w hw => hw.drop.drop.drop).nat 256 (by rw [List.length_take]; omega)) ?_
                        rw [h256]
                        refine St.eql rfl rfl rfl ?_
                        refine St.move rfl rfl ?_
                        refine St.split 106 rfl (fun g106 => ?_) (fun g106 => ?_)
                        · refine St.guard_no rfl rfl rfl ?_
                          refine St.guard_no rfl rfl rfl ?_
                          refine St.guard_no rfl rfl rfl ?_
                          refine St.pick_true rfl rfl rfl ?_
                          refine St.move rfl rfl ?_
                          refine St.guard_no rfl rfl rfl ?_
                          refine St.guard_no rfl rfl rfl ?_
                          refine St.guard_no rfl rfl rfl ?_
                          refine St.guard_no rfl rfl rfl ?_
                          refine St.guard_none rfl rfl rfl ?_
                          refine St.guard_none rfl rfl rfl ?_
                          refine St.guard_none rfl rfl rfl ?_
                          refine St.guard_no rfl rfl rfl ?_
                          refine St.pick_true rfl rfl rfl ?_
                          refine St.done ?_
                          refine SX.seq ?_
                          refine SC.cond_true rfl ?_
                          refine SC.plain ?_
                          refine St.move rfl rfl ?_
                          refine St.call [_, _] rfl (by kernel_rfl) rfl (wfail_spec w0 ([⟨c, [.slice (some ⟨bl, ol, none⟩) ll.length cl], 22⟩] :: El :: [⟨b7, ints (l), 3⟩] :: [⟨b6, ints orderI, 3⟩] :: L) p q rv v most t 0 3 E) (fun _ _ _ _ h => h.nil) ?_
                          rintro r3 L3 rfl
                          rw [first_zero]
                          refine St.done ?_
                          refine SX.seq ?_
                          refine SC.seq ?_
                          refine SC.plain ?_
                          refine St.move rfl rfl ?_
                          refine St.move rfl rfl ?_
                          refine St.assign rfl rfl ?_
                          refine St.assign rfl rfl ?_
                          refine St.done ?_
                          refine SX.seq ?_
                          refine SC.ret ?_
                          exact SX.ret2 rfl rfl rfl ⟨[], [], _, _, t, o, v, E, [[⟨c, [.slice (some ⟨bl, ol, none⟩) ll.length cl], 22⟩], El, [⟨b7, ints l, 3⟩], [⟨b6, ints orderI, 3⟩]], 3, rfl, rfl, hRi, .inr ⟨by decide, (hw.1 rfl).trans (ifR_neg (fun h => h.1 g106))⟩⟩
                        · refine St.guard_yes rfl rfl ?_
                          refine St.move rfl rfl ?_
                          refine St.guard_yes rfl rfl ?_
                          refine St.call [_] rfl (by kernel_rfl) rfl (rcomplete_spec w0 _ _ (ll.take (a1 + 257)) (h70.mono fun w hw => hw.drop.drop.drop) (by omega)) (fun _ _ _ _ h => h.nil) ?_
                          rintro r5 L5 ⟨rfl, rfl⟩
                          rw [← whole_false _ hta]
                          refine St.guard_yes rfl rfl ?_
                          refine St.notB rfl rfl ?_
                          refine St.pick_false rfl rfl rfl ?_
                          refine St.move rfl rfl ?_
                          refine St.splitB 111 rfl (fun g111 => ?_) (fun g111 => ?_)
                          · refine St.guard_no rfl rfl rfl ?_
                            refine St.guard_no rfl rfl rfl ?_
                            refine St.guard_no rfl rfl rfl ?_
                            refine St.guard_no rfl rfl rfl ?_
                            refine St.guard_none rfl rfl rfl ?_
                            refine St.guard_none rfl rfl rfl ?_
                            refine St.guard_none rfl rfl rfl ?_
                            refine St.guard_no rfl rfl rfl ?_
                            refine St.pick_true rfl rfl rfl ?_
                            refine St.done ?_
                            refine SX.seq ?_
                            refine SC.cond_true rfl ?_
                            refine SC.plain ?_
                            refine St.move rfl rfl ?_
                            refine St.call [_, _] rfl (by kernel_rfl) rfl (wfail_spec w0 ([⟨c, [.slice (some ⟨bl, ol, none⟩) ll.length cl], 22⟩] :: El :: [⟨b7, ints (l), 3⟩] :: [⟨b6, ints orderI, 3⟩] :: L) p q rv v most t 0 3 E) (fun _ _ _ _ h => h.nil) ?_
                            rintro r3 L3 rfl
                            rw [first_zero]
                            refine St.done ?_
                            refine SX.seq ?_
                            refine SC.seq ?_
                            refine SC.plain ?_
                            refine St.move rfl rfl ?_
                            refine St.move rfl rfl ?_
                            refine St.assign rfl rfl ?_
                            refine St.assign rfl rfl ?_
                            refine St.done ?_
                            refine SX.seq ?_
                            refine SC.ret ?_
                            have hwa : wholeOk false (ll.take (a1 + 257)) = false := by simpa using g111
                            exact SX.ret2 rfl rfl rfl ⟨[], [], _, _, t, o, v, E, [[⟨c, [.slice (some ⟨bl, ol, none⟩) ll.length cl], 22⟩], El, [⟨b7, ints l, 3⟩], [⟨b6, ints orderI, 3⟩]], 3, rfl, rfl, hRi, .inr ⟨by decide, (hw.1 rfl).trans (ifR_neg (fun h => (by have := h.2.1; rw [hwa] at this; cases this)))⟩⟩
                          · refine St.guard_yes rfl rfl ?_
                            refine St.move rfl rfl ?_
                            refine St.guard_yes rfl rfl ?_
                            refine St.call [_] rfl (by kernel_rfl) rfl (rcomplete_spec w0 _ _ (ll.drop (a1 + 257)) (h80.mono fun w hw => hw.drop.drop.drop) (by omega)) (fun _ _ _ _ h => h.nil) ?_
                            rintro r6 L6 ⟨rfl, rfl⟩
                            rw [← whole_false _ htb]
                            refine St.guard_yes rfl rfl ?_
                            refine St.notB rfl rfl ?_
                            refine St.guard_yes rfl rfl ?_
                            refine St.move rfl rfl ?_
                            refine St.splitB 115 rfl (fun g115 => ?_) (fun g115 => ?_)
                            · refine St.guard_yes rfl rfl ?_
                              refine St.move rfl rfl ?_
                              refine St.guard_yes rfl rfl ?_
                              refine St.call [_] rfl (by kernel_rfl) rfl (wsingle_spec w0 _ _ (ll.drop (a1 + 257)) (h80.mono fun w hw => hw.drop.drop.drop) (by omega) hlb) (fun _ _ _ _ h => h.nil) ?_
                              rintro r7 L7 ⟨rfl, rfl⟩
                              refine St.guard_yes rfl rfl ?_
                              refine St.notB rfl rfl ?_
                              refine St.guard_yes rfl rfl ?_
                              refine St.pick_true rfl rfl rfl ?_
                              refine St.pick_false rfl rfl rfl ?_
                              refine St.done ?_
                              refine SX.seq ?_
                              refine SC.cond rfl (fun c120 => ?_) (fun c120 => ?_)
                              · refine SC.plain ?_
                                refine St.move rfl rfl ?_
                                refine St.call [_, _] rfl (by kernel_rfl) rfl (wfail_spec w0 ([⟨c, [.slice (some ⟨bl, ol, none⟩) ll.length cl], 22⟩] :: El :: [⟨b7, ints (l), 3⟩] :: [⟨b6, ints orderI, 3⟩] :: L) p q rv v most t 0 3 E) (fun _ _ _ _ h => h.nil) ?_
                                rintro r3 L3 rfl
                                rw [first_zero]
                                refine St.done ?_
                                refine SX.seq ?_
                                refine SC.seq ?_
                                refine SC.plain ?_
                                refine St.move rfl rfl ?_
                                refine St.move rfl rfl ?_
                                refine St.assign rfl rfl ?_
                                refine St.assign rfl rfl ?_
                                refine St.done ?_
                                refine SX.seq ?_
                                refine SC.ret ?_
                                have hwb : wholeOk true (ll.drop (a1 + 257)) = false := by rw [whole_true _ htb, ← whole_false _ htb]; simp_all
                                exact SX.ret2 rfl rfl rfl ⟨[], [], _, _, t, o, v, E, [[⟨c, [.slice (some ⟨bl, ol, none⟩) ll.length cl], 22⟩], El, [⟨b7, ints l, 3⟩], [⟨b6, ints orderI, 3⟩]], 3, rfl, rfl, hRi, .inr ⟨by decide, (hw.1 rfl).trans (ifR_neg (fun h => (by have := h.2.2; rw [hwb] at this; cases this)))⟩⟩
                              · refine SC.skip ?_
                                refine SX.seq ?_
                                refine SC.seq ?_
                                refine SC.plain ?_
                                refine St.move rfl rfl ?_
                                refine St.move rfl rfl ?_
                                refine St.assign rfl rfl ?_
                                refine St.assign rfl rfl ?_
                                refine St.done ?_
                                refine SX.seq ?_
                                refine SC.ret ?_
                                have hwa : wholeOk false (ll.take (a1 + 257)) = true := by simpa using g111
                                have hwb : wholeOk true (ll.drop (a1 + 257)) = true := by rw [whole_true _ htb, ← whole_false _ htb]; simp_all
                                have hn256 : ll.getD 256 0 ≠ 0 := g106
                                exact SX.ret2 rfl rfl rfl ⟨ll.take (a1 + 257), ll.drop (a1 + 257), _, _, t, o, v, E, [[⟨c, [.slice (some ⟨bl, ol, none⟩) ll.length cl], 22⟩], El, [⟨b7, ints l, 3⟩], [⟨b6, ints orderI, 3⟩]], 0, rfl, rfl, hRi, .inl ⟨rfl, (hw.1 rfl).trans (ifR_pos ⟨hn256, hwa, hwb⟩), whole_codes hwa, whole_codes hwb, h70, h80, hati⟩⟩
                            · refine St.guard_no rfl rfl rfl ?_
                              refine St.guard_no rfl rfl rfl ?_
                              refine St.guard_no rfl rfl rfl ?_
                              refine St.guard_yes rfl rfl ?_
                              refine St.pick_false rfl rfl rfl ?_
                              refine St.pick_false rfl rfl rfl ?_
                              refine St.done ?_
                              refine SX.seq ?_
                              refine SC.cond_false rfl ?_
                              refine SC.skip ?_
                              refine SX.seq ?_
                              refine SC.seq ?_
                              refine SC.plain ?_
                              refine St.move rfl rfl ?_
                              refine St.move rfl rfl ?_
                              refine St.assign rfl rfl ?_
                              refine St.assign rfl rfl ?_
                              refine St.done ?_
                              refine SX.seq ?_
                              refine SC.ret ?_
                              have hwa : wholeOk false (ll.take (a1 + 257)) = true := by simpa using g111
                              have hwb : wholeOk true (ll.drop (a1 + 257)) = true := by rw [whole_true _ htb, ← whole_false _ htb]; simp_all
                              have hn256 : ll.getD 256 0 ≠ 0 := g106
                              exact SX.ret2 rfl rfl rfl ⟨ll.take (a1 + 257), ll.drop (a1 + 257), _, _, t, o, v, E, [[⟨c, [.slice (some ⟨bl, ol, none⟩) ll.length cl], 22⟩], El, [⟨b7, ints l, 3⟩], [⟨b6, ints orderI, 3⟩]], 0, rfl, rfl, hRi, .inl ⟨rfl, (hw.1 rfl).trans (ifR_pos ⟨hn256, hwa, hwb⟩), whole_codes hwa, whole_codes hwb, h70, h80, hati⟩⟩
                    · refine SC.block ?_
                      refine SC.loop (α := Nat × Nat × List Nat × Value × Chunk × Int × List Int × Value × Chunk) (fun s_ => RIn w0 L rv bs most s_.2.1 s_.2.2.1 s_.2.2.2.1 s_.2.2.2.2.1 ∧ Buf 3 1 s_.2.2.2.2.2.2.2.1 (ints s_.2.2.2.2.2.2.1) s_.2.2.2.2.2.2.1.length s_.2.2.2.2.2.2.2.2 ∧ (s_.2.2.2.2.2.1 = 0 → s_.2.2.2.2.2.2.1.length ≤ (a1 + 257 + a2 + 1) ∧ Lens s_.2.2.2.2.2.2.1 ∧ (a1 + 257 + a2 + 1) - s_.2.2.2.2.2.2.1.length < s_.1 ∧ wholeOk false l = true ∧ at_ ≤ s_.2.1) ∧ Way (dynamicR F bs most at_ out) (bindR (lengthsR l (a1 + 257 + a2 + 1) s_.1 s_.2.2.2.2.2.2.1) (dynEnd F a1)) bs most s_.2.1 s_.2.2.1 s_.2.2.2.2.2.1) (fun s_ => [(0, .pointer (some ⟨p, 0, none⟩)), (4, .int .i64 ((a1 + 257 : Nat) : Int)), (5, .int .i64 ((a2 + 1 : Nat) : Int)), (7, .slice (some ⟨b7, 0, none⟩) 19 19), (10, .pointer (some ⟨c, 0, none⟩))]) (fun s_ => WkL p q rv s_.2.2.2.1 s_.2.1 most s_.2.2.2.2.2.1 s_.2.2.2.2.1 ([⟨c, [s_.2.2.2.2.2.2.2.1], 22⟩] :: s_.2.2.2.2.2.2.2.2 :: [⟨b7, ints (l), 3⟩] :: [⟨b6, ints orderI, 3⟩] :: L)) (fun s_ => s_.1) (400, t, out, ov, Eo, e, [], .slice none 0 0, []) ⟨hR.to ht, Buf.nil 3 1, fun h => ⟨Nat.zero_le _, (show Lens [] from fun _ hy => nomatch hy), by simp only [List.length_nil]; omega, hwh h, hati⟩, hw⟩ ⟨rfl, rfl, rfl, rfl, rfl, trivial⟩ (perm_front3 [_] _ _ _ _) ?_
                      clear hw hati ht hwh
                      rintro ⟨f, t, o, v, E, e, ll, lv, El⟩ ⟨hRi, hbl, hll, hw⟩
                      simp only at hRi hbl hll hw
                      obtain ⟨bl, ol, Al, cl, rfl, hAl, hrl⟩ := hbl.read
                      show SC _ _ _ [(0, .pointer (some ⟨p, 0, none⟩)), (4, .int .i64 ((a1 + 257 : Nat) : Int)), (5, .int .i64 ((a2 + 1 : Nat) : Int)), (7, .slice (some ⟨b7, 0, none⟩) 19 19), (10, .pointer (some ⟨c, 0, none⟩))] (WkL p q rv v t most e E ([⟨c, [.slice Al ll.length cl], 22⟩] :: El :: [⟨b7, ints (l), 3⟩] :: [⟨b6, ints orderI, 3⟩] :: L))
                      unfold WkL
                      refine SC.seq ?_
                      refine SC.seq ?_
                      refine SC.plain ?_
                      refine St.move rfl rfl ?_
                      refine St.nilCheck rfl rfl ?_
                      refine St.fieldAddr (off := 3) rfl rfl (by kernel_rfl) ?_
                      refine St.load rfl rfl (by kernel_rfl) (by first | exact Holds.row mem0 rfl | exact Holds.row mem1 rfl | exact Holds.row mem2 rfl | exact Holds.row mem3 rfl | exact Holds.row mem4 rfl | exact Holds.row mem5 rfl | exact Holds.row mem6 rfl | exact Holds.row mem7 rfl | exact Holds.row mem8 rfl) ?_
                      refine St.eql rfl rfl rfl ?_
                      refine St.move rfl rfl ?_
                      refine St.split 77 rfl (fun g77 => ?_) (fun g77 => ?_)
                      · refine St.guard_yes rfl rfl ?_
                        refine St.load rfl rfl (by kernel_rfl) (by first | exact Holds.row mem0 rfl | exact Holds.row mem1 rfl | exact Holds.row mem2 rfl | exact Holds.row mem3 rfl | exact Holds.row mem4 rfl | exact Holds.row mem5 rfl | exact Holds.row mem6 rfl | exact Holds.row mem7 rfl | exact Holds.row mem8 rfl) ?_
                        refine St.guard_yes rfl rfl ?_
                        refine St.lenSl rfl rfl (by kernel_rfl) ?_
                        refine St.guard_yes rfl rfl ?_
                        refine St.move rfl rfl ?_
                        refine St.guard_yes rfl rfl ?_
                        refine St.move rfl rfl ?_
                        refine St.guard_yes rfl rfl ?_
                        first | refine St.addN rfl rfl rfl (by omega) ?_ | refine St.addI rfl rfl rfl (by omega) ?_
                        refine St.guard_yes rfl rfl ?_
                        refine St.lss rfl rfl rfl ?_
                        refine St.pick_true rfl rfl rfl ?_
                        refine St.done ?_
                        refine SX.seq ?_
                        refine SC.condp rfl (fun c84 => ?_) (fun c84 => ?_)
                        · obtain rfl : e = 0 := g77
                          obtain ⟨hlN, hlens, hfN, hwt, hatt⟩ := hll rfl
                          obtain ⟨f, rfl⟩ : ∃ k, f = k + 1 := ⟨f - 1, by omega⟩
                          have hm6 := hw.1 rfl
                          rw [bind_eq ((lengths_step l _ f ll bs most t o).trans (ifR_pos (by omega))), bind_ass] at hm6
                          refine SC.skip ?_
                          refine SX.seq ?_
                          refine SC.block ?_
                          refine SC.plain ?_
                          refine St.move rfl rfl ?_
                          refine St.move rfl rfl ?_
                          refine St.move rfl rfl ?_
                          refine St.move rfl rfl ?_
                          first | refine St.addN rfl rfl rfl (by omega) ?_ | refine St.addI rfl rfl rfl (by omega) ?_
                          refine St.call [_, _, _, _] rfl (by kernel_rfl) rfl (wrepeat_spec w0 ([⟨b7, ints (l), 3⟩] :: [⟨b6, ints orderI, 3⟩] :: L) p q rv v bs most t o E (hRi.on hx.cons.cons) l ll (.slice (some ⟨b7, 0, none⟩) 19 19) _ c (a1 + 257 + a2 + 1) El (whole_codes hwt) hl19 (by rw [hl19]; exact Rd.row (by rw [ints_length, hl19]) mem0) hbl (by omega) (by omega)) (fun _ _ _ _ h => h.nil) ?_
                          intro r6 L6 h6
                          rcases AnsS.cases h6 with ⟨l2, t2, o2, v2, E2, lv2, El2, hg2, hR2, hbl2, rfl⟩ | ⟨e2, t2, o2, v2, E2, lv2, El2, l2, hg2, hne2, hR2, hbl2, rfl⟩
                          · have hm7 := hm6.trans (bind_of hg2)
                            have ht2 := ((good_step _ _ _).mono hg2 hRi.at_).1
                            obtain ⟨hsl1, hsl2⟩ := step_len (by omega) hg2
                            refine St.done ?_
                            refine SX.blk ?_
                            first
                              | exact SX.again (f, t2, o2, v2, E2, 0, l2, lv2, El2) ⟨hR2.on hx, hbl2, fun _ => ⟨by simp only; omega, step_lens hlens hg2, by simp only; omega, hwt, by simp only; omega⟩, Way.ok hm7⟩ (by simp only; omega) ⟨rfl, rfl, rfl, rfl, rfl, trivial⟩ (List.Perm.refl _)
                              | exact SX.again (f, t2, o2, v2, E2, e2, l2, lv2, El2) ⟨hR2.on hx, hbl2, fun h => absurd h hne2, Way.bad hm7 hne2⟩ (by simp only; omega) ⟨rfl, rfl, rfl, rfl, rfl, trivial⟩ (List.Perm.refl _)
                          · have hm7 := hm6.trans (bind_bad hg2)
                            refine St.done ?_
                            refine SX.blk ?_
                            first
                              | exact SX.again (f, t2, o2, v2, E2, 0, l2, lv2, El2) ⟨hR2.on hx, hbl2, fun _ => ⟨by simp only; omega, step_lens hlens hg2, by simp only; omega, hwt, by simp only; omega⟩, Way.ok hm7⟩ (by simp only; omega) ⟨rfl, rfl, rfl, rfl, rfl, trivial⟩ (List.Perm.refl _)
                              | exact SX.again (f, t2, o2, v2, E2, e2, l2, lv2, El2) ⟨hR2.on hx, hbl2, fun h => absurd h hne2, Way.bad hm7 hne2⟩ (by simp only; omega) ⟨rfl, rfl, rfl, rfl, rfl, trivial⟩ (List.Perm.refl _)
                        · refine SC.exit ?_
                          refine SX.seq_exit ?_
                          refine SX.seq_exit ?_
                          refine SX.hit ?_
                          obtain ⟨hlN, hlens, hfN, _, hatt⟩ := hll g77
                          obtain ⟨f, rfl⟩ : ∃ k, f = k + 1 := ⟨f - 1, by omega⟩
                          exact SX.some (t, o, v, E, e, ll, _, El) ⟨hRi, hbl, fun _ => ⟨by simp only; omega, hlens, hatt⟩, hw.go (by rw [bind_of ((lengths_step l _ f ll bs most t o).trans (ifR_neg (by omega)))])⟩ ⟨rfl, rfl, rfl, rfl, rfl, trivial⟩ (List.Perm.refl _)
                      · refine St.guard_no rfl rfl rfl ?_
                        refine St.guard_no rfl rfl rfl ?_
                        refine St.guard_no rfl rfl rfl ?_
                        refine St.guard_no rfl rfl rfl ?_
                        refine St.guard_no rfl rfl rfl ?_
                        refine St.guard_no rfl rfl rfl ?_
                        refine St.pick_false rfl rfl rfl ?_
                        refine St.done ?_
                        refine SX.seq ?_
                        refine SC.cond_false rfl ?_
                        refine SC.exit ?_
                        refine SX.seq_exit ?_
                        refine SX.seq_exit ?_
                        refine SX.hit ?_
                        exact SX.some (t, o, v, E, e, ll, _, El) ⟨hRi, hbl, fun h => absurd h g77, Way.bad (hw.2 g77) g77⟩ ⟨rfl, rfl, rfl, rfl, rfl, trivial⟩ (List.Perm.refl _)
                  · refine SC.seq ?_
                    refine SC.plain ?_
                    refine St.move rfl rfl ?_
                    refine St.call [_] rfl (by kernel_rfl) rfl (rcomplete_spec w0 _ _ l (by rw [hl19]; exact Rd.row (by rw [ints_length, hl19]) mem3) (by omega)) (fun _ _ _ _ h => h.nil) ?_
                    rintro r5 L5 ⟨rfl, rfl⟩
                    rw [← whole_false l (by omega)]
                    refine St.notB rfl rfl ?_
                    refine St.done ?_
                    refine SX.seq ?_
                    refine SC.cond rfl (fun c69 => ?_) (fun c69 => ?_)
                    · refine SC.plain ?_
                      refine St.move rfl rfl ?_
                      refine St.call [_, _] rfl (by kernel_rfl) rfl (wfail_spec w0 ([⟨b7, ints (l), 3⟩] :: [⟨b6, ints orderI, 3⟩] :: L) p q rv ov most t 0 3 Eo) (fun _ _ _ _ h => h.nil) ?_
                      rintro r3 L3 rfl
                      rw [first_zero]
                      refine St.done ?_
                      have hwf : wholeOk false l = false := by simpa using c69
                      exact SX.some 3 ⟨fun h => absurd (show (3 : Int) = 0 from h) (by decide), Way.bad ((hw.1 rfl).trans (ifR_neg (by rw [hwf]; decide))) (by decide)⟩ ⟨rfl, rfl, rfl, rfl, trivial⟩ (List.Perm.refl _)
                    · refine SC.skip ?_
                      have hwt : wholeOk false l = true := by simpa using c69
                      exact SX.some 0 ⟨fun _ => hwt, hw.go (ifR_pos hwt)⟩ ⟨rfl, rfl, rfl, rfl, trivial⟩ (List.Perm.refl _)
              · refine SC.seq ?_
                refine SC.plain ?_
                refine St.assign rfl rfl ?_
                refine St.done ?_
                refine SX.seq ?_
                refine SC.block ?_
                refine SC.loop (α := Nat × Nat × Int × List Int) (fun s_ => s_.1 ≤ a3 + 4 ∧ at_ ≤ s_.2.1 ∧ s_.2.1 ≤ 8 * bs.length ∧ s_.2.2.2.length = 19 ∧ Way (dynamicR F bs most at_ out) (bindR (ownR ((orderL.take (a3 + 4)).drop s_.1) s_.2.2.2) (dynRest F a1 a2)) bs most s_.2.1 out s_.2.2.1) (fun s_ => [(0, .pointer (some ⟨p, 0, none⟩)), (4, .int .i64 ((a1 + 257 : Nat) : Int)), (5, .int .i64 ((a2 + 1 : Nat) : Int)), (6, .slice (some ⟨b6, 0, none⟩) 19 19), (7, .slice (some ⟨b7, 0, none⟩) 19 19), (8, .int .i64 ((a3 + 4 : Nat) : Int)), (9, .int .i64 ((s_.1 : Nat) : Int))]) (fun s_ => WkL p q rv ov s_.2.1 most s_.2.2.1 Eo ([⟨b7, ints (s_.2.2.2), 3⟩] :: [⟨b6, ints orderI, 3⟩] :: L)) (fun s_ => a3 + 4 - s_.1) (0, t, e, List.replicate 19 0) ⟨Nat.zero_le _, hati, ht, rfl, hw⟩ ⟨rfl, rfl, rfl, rfl, rfl, rfl, rfl, trivial⟩ (List.Perm.refl _) ?_
                clear hw hati ht
                rintro ⟨i, t, e, l⟩ ⟨hi, hati, ht, hl19, hw⟩
                simp only at hi hati ht hl19 hw
                show SC _ _ _ [(0, .pointer (some ⟨p, 0, none⟩)), (4, .int .i64 ((a1 + 257 : Nat) : Int)), (5, .int .i64 ((a2 + 1 : Nat) : Int)), (6, .slice (some ⟨b6, 0, none⟩) 19 19), (7, .slice (some ⟨b7, 0, none⟩) 19 19), (8, .int .i64 ((a3 + 4 : Nat) : Int)), (9, .int .i64 ((i : Nat) : Int))] (WkL p q rv ov t most e Eo ([⟨b7, ints (l), 3⟩] :: [⟨b6, ints orderI, 3⟩] :: L))
                unfold WkL
                refine SC.seq ?_
                refine SC.seq ?_
                refine SC.plain ?_
                refine St.move rfl rfl ?_
                refine St.move rfl rfl ?_
                refine St.lss rfl rfl rfl ?_
                refine St.move rfl rfl ?_
                refine St.split 45 rfl (fun g45 => ?_) (fun g45 => ?_)
                · refine St.guard_yes rfl rfl ?_
                  refine St.move rfl rfl ?_
                  refine St.guard_yes rfl rfl ?_
                  refine St.nilCheck rfl rfl ?_
                  refine St.guard_yes rfl rfl ?_
                  refine St.fieldAddr (off := 3) rfl rfl (by kernel_rfl) ?_
                  refine St.guard_yes rfl rfl ?_
                  refine St.load rfl rfl (by kernel_rfl) (by first | exact Holds.row mem0 rfl | exact Holds.row mem1 rfl | exact Holds.row mem2 rfl | exact Holds.row mem3 rfl | exact Holds.row mem4 rfl | exact Holds.row mem5 rfl | exact Holds.row mem6 rfl | exact Holds.row mem7 rfl | exact Holds.row mem8 rfl) ?_
                  refine St.guard_yes rfl rfl ?_
                  refine St.eql rfl rfl rfl ?_
                  refine St.pick_true rfl rfl rfl ?_
                  refine St.done ?_
                  refine SX.seq ?_
                  refine SC.condp rfl (fun c51 => ?_) (fun c51 => ?_)
                  · obtain rfl : e = 0 := c51
                    have hlt : i < a3 + 4 := by omega
                    obtain ⟨hoa, hol⟩ := order_at i (by omega)
                    have hm5 := hw.1 rfl
                    rw [order_drop (a3 + 4) i hlt (by omega), own_bind] at hm5
                    refine SC.skip ?_
                    refine SX.seq ?_
                    refine SC.seq ?_
                    refine SC.block ?_
                    refine SC.drawn [(0, true), (1, true), (2, true), (3, true), (4, true), (5, true), (6, false), (7, true)] [8] ([[⟨b6, ints orderI, 3⟩]]) (by kernel_rfl) (by kernel_rfl) (fun _ h => h.sub (sub_flat (.cons _ (.cons _ (.cons _ (.cons _ (.cons_cons _ (List.nil_sublist _)))))))) ?_
                    refine St.move rfl rfl ?_
                    refine St.move rfl rfl ?_
                    refine St.move rfl rfl ?_
                    refine St.indexSl (e := 3) (sz := 1) rfl rfl rfl (by kernel_rfl) (by omega) ?_
                    refine St.load rfl rfl (by kernel_rfl) ((HoldsN.of_row (cs := ints orderI) (e := 3) mem0).nat i (by show i < 19; omega)) ?_
                    rw [hoa]
                    refine St.move rfl rfl ?_
                    refine St.call [_, _] rfl (by kernel_rfl) rfl (wtake_spec w0 ([⟨b7, ints (l), 3⟩] :: [⟨b6, ints orderI, 3⟩] :: L) p q rv ov bs most t out 0 Eo ((hR.to ht).on hx.cons.cons) 3 (by omega)) (fun _ _ _ h hw => by rcases h with ⟨_, _, h⟩ | ⟨_, _, h⟩ <;> (rw [← h] at hw; exact hw.sub (sub_flat (.cons _ (.cons _ (.cons _ (.cons _ (.cons_cons _ (List.nil_sublist _))))))))) ?_
                    rintro r4 L4 (⟨h5, rfl, rfl⟩ | ⟨h5, rfl, rfl⟩)
                    · have hm6 := hm5.trans (bind_of (takeR_ok h5))
                      unfold WkL
                      refine St.indexSl (e := 3) (sz := 1) rfl rfl rfl (by kernel_rfl) (by omega) ?_
                      refine St.done ?_
                      refine SX.tail ?_
                      refine St.store3 rfl rfl rfl rfl (by kernel_rfl) (by rw [ints_length]; omega) (by first | exact fun _ h => h.nil | exact fun _ h => h.sub (sub_flat (.cons _ (.cons _ (.cons _ (.cons _ (.cons_cons _ (List.nil_sublist _)))))))) ?_
                      rw [show 0 + ((orderL.getD i 0 : Nat) : Int).toNat * 1 = orderL.getD i 0 by omega]
                      first
                        | show St _ _ _ _ _ _ (_ :: _ :: _ :: [⟨b7, (ints l).set (orderL.getD i 0) (.int .i64 ((takeN bs t 3 : Nat) : Int)), 3⟩] :: _)
                        | show St _ _ _ _ _ _ (_ :: _ :: _ :: [⟨b7, (ints l).set (orderL.getD i 0) (.int .i64 ((0 : Nat) : Int)), 3⟩] :: _)
                      rw [ints_set]
                      refine St.done ?_
                      refine SX.blk ?_
                      refine SX.seq ?_
                      refine SC.plain ?_
                      refine St.move rfl rfl ?_
                      first | refine St.addN (b := 1) rfl rfl rfl (by omega) ?_ | refine St.addI rfl rfl rfl (by omega) ?_
                      refine St.assign rfl rfl ?_
                      refine St.done ?_
                      first
                        | exact SX.again (i + 1, t + 3, 0, l.set (orderL.getD i 0) (takeN bs t 3 : Int)) ⟨by simp only; omega, by simp only; omega, h5, by simp only [List.length_set]; exact hl19, Way.ok hm6⟩ (by simp only; omega) ⟨rfl, rfl, rfl, rfl, rfl, rfl, rfl, trivial⟩ (List.Perm.refl _)
                        | exact SX.again (i + 1, t, 4, l.set (orderL.getD i 0) ((0 : Nat) : Int)) ⟨by simp only; omega, hati, ht, by simp only [List.length_set]; exact hl19, Way.bad hm6 (show (4 : Int) ≠ 0 by decide)⟩ (by simp only; omega) ⟨rfl, rfl, rfl, rfl, rfl, rfl, rfl, trivial⟩ (List.Perm.refl _)
                    · have hm6 := hm5.trans (bind_bad (takeR_bad h5))
                      rw [first_zero]
                      unfold WkL
                      refine St.indexSl (e := 3) (sz := 1) rfl rfl rfl (by kernel_rfl) (by omega) ?_
                      refine St.done ?_
                      refine SX.tail ?_
                      refine St.store3 rfl rfl rfl rfl (by kernel_rfl) (by rw [ints_length]; omega) (by first | exact fun _ h => h.nil | exact fun _ h => h.sub (sub_flat (.cons _ (.cons _ (.cons _ (.cons _ (.cons_cons _ (List.nil_sublist _)))))))) ?_
                      rw [show 0 + ((orderL.getD i 0 : Nat) : Int).toNat * 1 = orderL.getD i 0 by omega]
                      first
                        | show St _ _ _ _ _ _ (_ :: _ :: _ :: [⟨b7, (ints l).set (orderL.getD i 0) (.int .i64 ((takeN bs t 3 : Nat) : Int)), 3⟩] :: _)
                        | show St _ _ _ _ _ _ (_ :: _ :: _ :: [⟨b7, (ints l).set (orderL.getD i 0) (.int .i64 ((0 : Nat) : Int)), 3⟩] :: _)
                      rw [ints_set]
                      refine St.done ?_
                      refine SX.blk ?_
                      refine SX.seq ?_
                      refine SC.plain ?_
                      refine St.move rfl rfl ?_
                      first | refine St.addN (b := 1) rfl rfl rfl (by omega) ?_ | refine St.addI rfl rfl rfl (by omega) ?_
                      refine St.assign rfl rfl ?_
                      refine St.done ?_
                      first
                        | exact SX.again (i + 1, t + 3, 0, l.set (orderL.getD i 0) (takeN bs t 3 : Int)) ⟨by simp only; omega, by simp only; omega, h5, by simp only [List.length_set]; exact hl19, Way.ok hm6⟩ (by simp only; omega) ⟨rfl, rfl, rfl, rfl, rfl, rfl, rfl, trivial⟩ (List.Perm.refl _)
                        | exact SX.again (i + 1, t, 4, l.set (orderL.getD i 0) ((0 : Nat) : Int)) ⟨by simp only; omega, hati, ht, by simp only [List.length_set]; exact hl19, Way.bad hm6 (show (4 : Int) ≠ 0 by decide)⟩ (by simp only; omega) ⟨rfl, rfl, rfl, rfl, rfl, rfl, rfl, trivial⟩ (List.Perm.refl _)
                  · refine SC.exit ?_
                    refine SX.seq_exit ?_
                    refine SX.seq_exit ?_
                    refine SX.hit ?_
                    exact SX.some (t, e, l) ⟨hati, ht, hl19, Way.bad (hw.2 c51) c51⟩ ⟨rfl, rfl, rfl, rfl, trivial⟩ (List.Perm.refl _)
                · refine St.guard_no rfl rfl rfl ?_
                  refine St.guard_no rfl rfl rfl ?_
                  refine St.guard_no rfl rfl rfl ?_
                  refine St.guard_no rfl rfl rfl ?_
                  refine St.guard_no rfl rfl rfl ?_
                  refine St.pick_false rfl rfl rfl ?_
                  refine St.done ?_
                  refine SX.seq ?_
                  refine SC.cond_false rfl ?_
                  refine SC.exit ?_
                  refine SX.seq_exit ?_
                  refine SX.seq_exit ?_
                  refine SX.hit ?_
                  exact SX.some (t, e, l) ⟨hati, ht, hl19, hw.go (by rw [List.drop_of_length_le (by rw [List.length_take]; omega), own_nil])⟩ ⟨rfl, rfl, rfl, rfl, trivial⟩ (List.Perm.refl _)
            · refine SC.plain ?_
              refine St.move rfl rfl ?_
              refine St.perm (WkL p q rv ov t most 0 Eo ([⟨b7, ints (List.replicate 19 0), 3⟩] :: [⟨b6, ints orderI, 3⟩] :: L)) (perm_front3 [_, _] _ _ _ _) ?_
              refine St.call [_, _] rfl (by kernel_rfl) rfl (wtake_spec w0 ([⟨b7, ints (List.replicate 19 0), 3⟩] :: [⟨b6, ints orderI, 3⟩] :: L) p q rv ov bs most t out 0 Eo ((hR.to ht).on hx.cons.cons) 4 (by omega)) (fun _ _ _ _ h => h.nil) ?_
              rintro r4 L4 (⟨h4, rfl, rfl⟩ | ⟨h4, rfl, rfl⟩)
              · have hm4 : (dynamicR F bs most at_ out) = _ := (hw.1 rfl).trans (bind_of (takeR_ok h4))
                have ht4 := take_lt bs t 4
                first | refine St.addN (b := 4) rfl rfl rfl (by omega) ?_ | refine St.addI rfl rfl rfl (by omega) ?_
                refine St.assign rfl rfl ?_
                refine St.done ?_
                exact SX.some (_, _, 0) ⟨ht4, by simp only; omega, h4, Way.ok hm4⟩ ⟨rfl, rfl, rfl, rfl, rfl, rfl, trivial⟩ (List.Perm.refl _)
              · have hm4 : (dynamicR F bs most at_ out) = _ := (hw.1 rfl).trans (bind_bad (takeR_bad h4))
                rw [first_zero]
                first | refine St.addN (b := 4) rfl rfl rfl (by omega) ?_ | refine St.addI rfl rfl rfl (by omega) ?_
                refine St.assign rfl rfl ?_
                refine St.done ?_
                exact SX.some (0, t, 4) ⟨by simp only; omega, hati, ht, Way.bad hm4 (show (4 : Int) ≠ 0 by decide)⟩ ⟨rfl, rfl, rfl, rfl, rfl, rfl, trivial⟩ (List.Perm.refl _)
        · refine SC.seq ?_
          refine SC.plain ?_
          refine St.move rfl rfl ?_
          refine St.gtr rfl rfl rfl ?_
          refine St.done ?_
          refine SX.seq ?_
          refine SC.condp rfl (fun c29 => ?_) (fun c29 => ?_)
          · refine SC.plain ?_
            refine St.move rfl rfl ?_
            refine St.call [_, _] rfl (by kernel_rfl) rfl (wfail_spec w0 L p q rv ov most t e 3 Eo) (fun _ _ _ _ h => h.nil) ?_
            rintro r3 L3 rfl
            refine St.done ?_
            exact SX.some (firstE e 3) ⟨fun h => absurd h (first_ne e (by decide)), hw.fail (by decide) (ifR_pos (by by_cases h0 : e = 0; (have := hxa h0; omega); (have := hxe h0; omega)))⟩ ⟨rfl, rfl, rfl, trivial⟩ (List.Perm.refl _)
          · refine SC.skip ?_
            exact SX.some e ⟨fun h => ⟨hxa h, by have := hxa h; omega⟩, ⟨fun h => (hw.1 h).trans (ifR_neg (by have := hxa h; omega)), hw.2⟩⟩ ⟨rfl, rfl, rfl, trivial⟩ (List.Perm.refl _)
      · refine SC.seq ?_
        refine SC.plain ?_
        refine St.move rfl rfl ?_
        refine St.nilCheck rfl rfl ?_
        refine St.fieldAddr (off := 3) rfl rfl (by kernel_rfl) ?_
        refine St.load rfl rfl (by kernel_rfl) (by first | exact Holds.row mem0 rfl | exact Holds.row mem1 rfl | exact Holds.row mem2 rfl | exact Holds.row mem3 rfl | exact Holds.row mem4 rfl | exact Holds.row mem5 rfl | exact Holds.row mem6 rfl | exact Holds.row mem7 rfl | exact Holds.row mem8 rfl) ?_
        refine St.eql rfl rfl rfl ?_
        refine St.done ?_
        refine SX.seq ?_
        refine SC.condp rfl (fun c24 => ?_) (fun c24 => ?_)
        · obtain rfl : e = 0 := c24
          refine SC.plain ?_
          refine St.move rfl rfl ?_
          refine St.call [_, _] rfl (by kernel_rfl) rfl (wtake_spec w0 L p q rv ov bs most t out 0 Eo (hR.to ht) 5 (by omega)) (fun _ _ _ _ h => h.nil) ?_
          rintro r2 L2 (⟨h2, rfl, rfl⟩ | ⟨h2, rfl, rfl⟩)
          · have hm2 := ((hw.1 rfl).trans (dyn_eq1 _ _ _ _ _ _)).trans (bind_of (takeR_ok h2))
            have ht2 := take_lt bs t 5
            first | refine St.addN (b := 1) rfl rfl rfl (by omega) ?_ | refine St.addI rfl rfl rfl (by omega) ?_
            refine St.assign rfl rfl ?_
            refine St.done ?_
            exact SX.some (_, takeN bs t 5, _, 0) ⟨by simp only; omega, by simp only; omega, h2, fun _ => rfl, fun h => absurd rfl h, Way.ok hm2⟩ ⟨rfl, rfl, rfl, trivial⟩ (List.Perm.refl _)
          · have hm2 := ((hw.1 rfl).trans (dyn_eq1 _ _ _ _ _ _)).trans (bind_bad (takeR_bad h2))
            rw [first_zero]
            first | refine St.addN (b := 1) rfl rfl rfl (by omega) ?_ | refine St.addI rfl rfl rfl (by omega) ?_
            refine St.assign rfl rfl ?_
            refine St.done ?_
            exact SX.some (0 + 1, 0, t, 4) ⟨by simp only; omega, hati, ht, fun h => absurd (show (4 : Int) = 0 from h) (by decide), fun _ => by simp only; omega, Way.bad hm2 (show (4 : Int) ≠ 0 by decide)⟩ ⟨rfl, rfl, rfl, trivial⟩ (List.Perm.refl _)
        · refine SC.skip ?_
          exact SX.some (0, 0, t, e) ⟨by simp only; omega, hati, ht, fun h => absurd h c24, fun _ => by simp only; omega, Way.bad (hw.2 c24) c24⟩ ⟨rfl, rfl, rfl, trivial⟩ (List.Perm.refl _)
    · refine SC.seq ?_
      refine SC.plain ?_
      refine St.move rfl rfl ?_
      refine St.gtr rfl rfl rfl ?_
      refine St.done ?_
      refine SX.seq ?_
      refine SC.condp rfl (fun c17 => ?_) (fun c17 => ?_)
      · refine SC.plain ?_
        refine St.move rfl rfl ?_
        refine St.call [_, _] rfl (by kernel_rfl) rfl (wfail_spec w0 L p q rv ov most t e 3 Eo) (fun _ _ _ _ h => h.nil) ?_
        rintro r3 L3 rfl
        refine St.done ?_
        exact SX.some (firstE e 3) ⟨fun h => absurd h (first_ne e (by decide)), hw.fail (by decide) (ifR_pos (by omega))⟩ ⟨rfl, rfl, trivial⟩ (List.Perm.refl _)
      · refine SC.skip ?_
        exact SX.some e ⟨fun _ => by omega, hw.go (ifR_neg (by omega))⟩ ⟨rfl, rfl, trivial⟩ (List.Perm.refl _)
  · refine SC.plain ?_
    refine St.move rfl rfl ?_
    refine St.call [_, _] rfl (by kernel_rfl) rfl (wtake_spec w0 L p q rv ov bs most at_ out 0 Eo hR 5 (by omega)) (fun _ _ _ _ h => h.nil) ?_
    rintro r2 L2 (⟨h1, rfl, rfl⟩ | ⟨h1, rfl, rfl⟩)
    · have hm1 := hm0.trans (bind_of (takeR_ok h1))
      have ht1 := take_lt bs at_ 5
      first | refine St.addN (b := 257) rfl rfl rfl (by omega) ?_ | refine St.addI rfl rfl rfl (by omega) ?_
      refine St.assign rfl rfl ?_
      refine St.done ?_
      exact SX.some (_, _, 0) ⟨ht1, by simp only; omega, h1, Way.ok hm1⟩ ⟨rfl, rfl, trivial⟩ (List.Perm.refl _)
    · have hm1 := hm0.trans (bind_bad (takeR_bad h1))
      rw [first_zero]
      first | refine St.addN (b := 257) rfl rfl rfl (by omega) ?_ | refine St.addI rfl rfl rfl (by omega) ?_
      refine St.assign rfl rfl ?_
      refine St.done ?_
      exact SX.some (0, at_, 4) ⟨by simp only; omega, Nat.le_refl _, hat, Way.bad hm1 (show (4 : Int) ≠ 0 by decide)⟩ ⟨rfl, rfl, trivial⟩ (List.Perm.refl _)
end Go.Proofs.Ytahafepgmkiabaa
