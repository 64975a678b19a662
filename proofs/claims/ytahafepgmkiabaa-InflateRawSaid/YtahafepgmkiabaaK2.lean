/- Walks: the document's inflating: matches, stored and coded blocks. -/
import Derived.Test.YtahafepgmkiabaaK1
set_option linter.unusedVariables false
set_option linter.unusedSimpArgs false
set_option linter.ambiguousOpen false
namespace Go.Proofs.Ytahafepgmkiabaa
open Go Go.Proofs.Ytahafepgmkiabaa.Sep Go.Proofs.Ytahafepgmkiabaa.Inf

/-- What the document's worker did. -/
def AnsW {α : Type} (w0 : World) (g : Got α) (p q : Nat) (rv : Value) (bs : List Nat) (most : Nat) (L L' : List Chunk) : Prop := match g with
  | .ok _ t o => ∃ ov Eo, RIn w0 L rv bs most t o ov Eo ∧ WkL p q rv ov t most 0 Eo L = L'
  | .bad e => e ≠ 0 ∧ ∃ t o ov Eo, RIn w0 L rv bs most t o ov Eo ∧ WkL p q rv ov t most e Eo L = L'
section answ
variable {α : Type} {w0 : World} {g : Got α} {p q : Nat} {rv : Value} {bs : List Nat} {most : Nat} {L L' : List Chunk}
theorem AnsW.cases (h : AnsW w0 g p q rv bs most L L') : (∃ a t1 o1 v1 E1, g = .ok a t1 o1 ∧ RIn w0 L rv bs most t1 o1 v1 E1 ∧ WkL p q rv v1 t1 most 0 E1 L = L') ∨ (∃ e t1 o1 v1 E1, g = .bad e ∧ e ≠ 0 ∧ RIn w0 L rv bs most t1 o1 v1 E1 ∧ WkL p q rv v1 t1 most e E1 L = L') := by
  unfold AnsW at h
  cases g with
  | ok a t o => obtain ⟨v, E, h1, h2⟩ := h; exact .inl ⟨a, t, o, v, E, rfl, h1, h2⟩
  | bad e => obtain ⟨h0, t, o, v, E, h1, h2⟩ := h; exact .inr ⟨e, t, o, v, E, rfl, h0, h1, h2⟩
theorem AnsW.ok {a : α} {t : Nat} {o : List Nat} {ov : Value} {Eo : Chunk} (h : g = .ok a t o) (hR : RIn w0 L rv bs most t o ov Eo) : AnsW w0 g p q rv bs most L (WkL p q rv ov t most 0 Eo L) := by
  subst h; exact ⟨ov, Eo, hR, rfl⟩
theorem AnsW.bad {e : Int} {t : Nat} {o : List Nat} {ov : Value} {Eo : Chunk} (h : g = .bad e) (h0 : e ≠ 0) (hR : RIn w0 L rv bs most t o ov Eo) : AnsW w0 g p q rv bs most L (WkL p q rv ov t most e Eo L) := by
  subst h; exact ⟨h0, t, o, ov, Eo, hR, rfl⟩
end answ
theorem RIn.to {w0 : World} {L : List Chunk} {rv : Value} {bs : List Nat} {most at_ t : Nat} {out : List Nat} {ov : Value} {Eo : Chunk} (h : RIn w0 L rv bs most at_ out ov Eo) (ht : t ≤ 8 * bs.length) : RIn w0 L rv bs most t out ov Eo :=
  ⟨h.rd, h.len, h.lt, ht, h.big, h.buf, h.room, h.outB, h.cap⟩
def lenB (s : Nat) : Nat := if s = 285 then 258 else baseN 3 4 8 (s - 257)
def lenK (s : Nat) : Nat := if s = 285 then 0 else bitsN (s - 257) 4 8
theorem len_tab : ∀ x, x < 29 → (x < 28 → baseN 3 4 8 x = (if x < 8 then x + 3 else 3 + (4 + (x - 8) % 4) * 2 ^ ((x - 4) / 4)) ∧ bitsN x 4 8 = (if x < 8 then 0 else (x - 4) / 4)) ∧ baseN 3 4 8 x ≤ 1000 ∧ bitsN x 4 8 ≤ 10 := by decide
theorem dist_tab : ∀ x, x < 30 → baseN 1 2 4 x = (if x < 4 then x + 1 else 1 + (2 + x % 2) * 2 ^ ((x - 2) / 2)) ∧ bitsN x 2 4 = (if x < 4 then 0 else (x - 2) / 2) ∧ baseN 1 2 4 x ≤ 100000 ∧ bitsN x 2 4 ≤ 13 := by decide
theorem take_none {bs : List Nat} {most p : Nat} {o : List Nat} (h : p ≤ 8 * bs.length) (f : Nat → Rdr Nat) : bindR (takeR 0) f bs most p o = f 0 bs most p o := by
  rw [bind_of (takeR_ok (show p + 0 ≤ _ by omega))]; rfl
theorem len_form {s : Nat} (h1 : 257 ≤ s) (h2 : s ≤ 285) {bs : List Nat} {most p : Nat} {o : List Nat} (hp : p ≤ 8 * bs.length) : lenR s bs most p o = bindR (takeR (lenK s)) (fun m => pureR (lenB s + m)) bs most p o := by
  by_cases h : s = 285
  · rw [show lenK s = 0 from if_pos h, show lenB s = 258 from if_pos h, take_none hp]
    unfold lenR
    rw [ifR_neg (by omega), ifR_pos h]
  · obtain ⟨ht, _⟩ := len_tab (s - 257) (by omega)
    obtain ⟨ht1, ht2⟩ := ht (by omega)
    rw [show lenK s = _ from (if_neg h).trans ht2, show lenB s = _ from (if_neg h).trans ht1]
    unfold lenR
    by_cases h8 : s < 265
    · rw [ifR_pos h8, if_pos (show s - 257 < 8 by omega), if_pos (show s - 257 < 8 by omega), take_none hp, show s - 257 + 3 + 0 = s - 254 by omega]
    · rw [ifR_neg h8, ifR_neg h, if_neg (show ¬ s - 257 < 8 by omega), if_neg (show ¬ s - 257 < 8 by omega), show s - 257 - 8 = s - 265 by omega, show s - 257 - 4 = s - 261 by omega]
theorem dist_form {s : Nat} (h1 : s < 30) {bs : List Nat} {most p : Nat} {o : List Nat} (hp : p ≤ 8 * bs.length) : distR s bs most p o = bindR (takeR (bitsN s 2 4)) (fun m => pureR (baseN 1 2 4 s + m)) bs most p o := by
  obtain ⟨ht1, ht2, _⟩ := dist_tab s h1
  unfold distR
  rw [ht1, ht2]
  by_cases h4 : s < 4
  · rw [ifR_pos h4, if_pos h4, if_pos h4, take_none hp]
  · rw [ifR_neg h4, if_neg h4, if_neg h4]
theorem bind_ass {α β γ : Type} (m : Rdr α) (f : α → Rdr β) (g : β → Rdr γ) (bs : List Nat) (most p : Nat) (o : List Nat) : bindR (bindR m f) g bs most p o = bindR m (fun a => bindR (f a) g) bs most p o := by
  simp only [bindR]; cases m bs most p o <;> rfl
theorem bind_eq {α β : Type} {m m' : Rdr α} {f : α → Rdr β} {bs : List Nat} {most p : Nat} {o : List Nat} (h : m bs most p o = m' bs most p o) : bindR m f bs most p o = bindR m' f bs most p o := by
  simp only [bindR, h]
/-- A match, with what a symbol above all of them comes to. -/
def matchQ (ds : List Int) (s : Nat) : Rdr Unit := if 286 ≤ s then failR 3 else matchR ds s

theorem wmatch_spec (w0 : World) (L : List Chunk) (p q : Nat) (rv ov : Value) (bs : List Nat) (most at_ : Nat) (out : List Nat) (Eo : Chunk) (hR : RIn w0 L rv bs most at_ out ov Eo) (s : Nat) (ds : List Int) (dv : Value) (hs : 257 ≤ s) (hs2 : s ≤ 1000) (hd0 : codesE ds = 0) (hds : Rd w0 L dv 1 ds.length (ints ds)) :
    Meets Try.prog 190 #[.pointer (some ⟨p, 0, none⟩), .int .i64 ((s : Nat) : Int), dv] w0 (WkL p q rv ov at_ most 0 Eo L) (fun r L' => AnsW w0 (matchQ ds s bs most at_ out) p q rv bs most L L') := by
  have hx := hR.rd
  have hl := hR.len
  have hb := hR.lt
  have hat := hR.at_
  have hmost := hR.big
  have hroom := hR.room
  refine Meets.of_body [.pointer (some ⟨p, 0, none⟩), .int .i64 ((s : Nat) : Int), dv] Try.func190 rfl Try.ntmps190 rfl ?_
  refine SC.seq ?_
  refine SC.seq ?_
  refine SC.plain ?_
  refine St.move rfl rfl ?_
  refine St.gtr rfl rfl rfl ?_
  refine St.done ?_
  refine SX.seq ?_
  refine SC.condp rfl (fun c13 => ?_) (fun c13 => ?_)
  · refine SC.seq ?_
    refine SC.plain ?_
    refine St.move rfl rfl ?_
    refine St.call [_, _] rfl (by kernel_rfl) rfl (wfail_spec w0 L p q rv ov most at_ 0 3 Eo) (fun _ _ _ _ h => h.nil) ?_
    rintro r1 L1 rfl
    refine St.done ?_
    refine SX.seq ?_
    refine SC.ret ?_
    refine SX.seq_ret ?_
    exact SX.ret0 (.inl rfl) rfl (AnsW.bad (e := 3) (ifR_pos (by omega)) (by decide) hR)
  · have hm0 : matchQ ds s bs most at_ out = matchR ds s bs most at_ out := ifR_neg (by omega)
    have htab := len_tab (s - 257) (by omega)
    have hlb : lenB s ≤ 1000 := by unfold lenB; split; omega; exact htab.2.1
    have hlk : lenK s ≤ 10 := by unfold lenK; split; omega; exact htab.2.2
    refine SC.skip ?_
    refine SX.seq ?_
    refine SC.seq ?_
    refine SC.plain ?_
    refine St.move rfl rfl ?_
    first | refine St.subN (b := 257) rfl rfl rfl (by omega) (by omega) ?_ | refine St.subI rfl rfl rfl (by omega) ?_
    refine St.call [_, _, _, _] rfl (by kernel_rfl) rfl (rbase_spec w0 _ 3 (s - 257) 4 8 (by omega) (by omega) (by omega) (by omega) (fun i hi => Nat.le_trans (len_tab i (by omega)).2.2 (by decide)) (fun i hi => Nat.le_trans (len_tab i (by omega)).2.1 (by decide))) (fun _ _ _ _ h => h.nil) ?_
    rintro r1 L1 ⟨rfl, rfl⟩
    refine St.move rfl rfl ?_
    refine St.extract rfl rfl rfl ?_
    refine St.extract rfl rfl rfl ?_
    refine St.assign rfl rfl ?_
    refine St.assign rfl rfl ?_
    refine St.done ?_
    refine SX.seq ?_
    refine SC.join (α := Unit) (fun _ => True) (fun _ => [(0, .pointer (some ⟨p, 0, none⟩)), (1, .int .i64 ((s : Nat) : Int)), (2, dv), (6, .int .i64 ((lenB s : Nat) : Int)), (7, .int .i64 ((lenK s : Nat) : Int))]) (fun _ => WkL p q rv ov at_ most 0 Eo L) ?_ ?_
    · rintro ⟨⟩ -
      show SC _ _ _ [(0, .pointer (some ⟨p, 0, none⟩)), (1, .int .i64 ((s : Nat) : Int)), (2, dv), (6, .int .i64 ((lenB s : Nat) : Int)), (7, .int .i64 ((lenK s : Nat) : Int))] (WkL p q rv ov at_ most 0 Eo L)
      have hm1 := hm0.trans (bind_eq (len_form hs (by omega) hat))
      rw [bind_ass] at hm1
      refine SC.seq ?_
      refine SC.plain ?_
      refine St.move rfl rfl ?_
      refine St.move rfl rfl ?_
      refine St.move rfl rfl ?_
      refine St.call [_, _] rfl (by kernel_rfl) rfl (wtake_spec w0 L p q rv ov bs most at_ out 0 Eo hR (lenK s) (by omega)) (fun _ _ _ _ h => h.nil) ?_
      rintro r2 L2 (⟨h1, rfl, rfl⟩ | ⟨h1, rfl, rfl⟩)
      · have hm2 := hm1.trans ((bind_of (takeR_ok h1)).trans (bind_of (m := pureR _) rfl))
        have htl := take_lt bs at_ (lenK s)
        have hpk : 2 ^ lenK s ≤ 2 ^ 10 := Nat.pow_le_pow_right (by decide) hlk
        obtain ⟨n, hn⟩ : ∃ n, n = lenB s + takeN bs at_ (lenK s) := ⟨_, rfl⟩
        rw [← hn] at hm2
        have hR1 := hR.to h1
        refine St.addN rfl rfl rfl (by omega) ?_
        first | rw [← hn] | skip
        refine St.assign rfl rfl ?_
        refine St.done ?_
        refine SX.seq ?_
        refine SC.seq ?_
        refine SC.plain ?_
        refine St.move rfl rfl ?_
        refine St.move rfl rfl ?_
        refine St.call [_, _] rfl (by kernel_rfl) rfl (wsymbol_spec w0 L p q rv ov bs most (at_ + lenK s) out 0 Eo hR1 ds dv hd0 hds) (fun _ _ _ _ h => h.nil) ?_
        rintro r3 L3 (⟨h0, _⟩ | ⟨_, d, t2, hg2, hd1, hd2, hd3, rfl, rfl⟩ | ⟨_, e, n2, t2, hg2, hne, hd2, hd3, rfl, rfl⟩)
        · exact absurd rfl h0
        · have hm3 := hm2.trans (bind_of hg2)
          have hR2 := hR.to hd3
          refine St.assign rfl rfl ?_
          refine St.done ?_
          refine SX.seq ?_
          refine SC.seq ?_
          refine SC.seq ?_
          refine SC.plain ?_
          refine St.move rfl rfl ?_
          refine St.nilCheck rfl rfl ?_
          refine St.fieldAddr (off := 3) rfl rfl (by kernel_rfl) ?_
          refine St.load rfl rfl (by kernel_rfl) (by first | exact Holds.row mem0 rfl | exact Holds.row mem1 rfl | exact Holds.row mem2 rfl | exact Holds.row mem3 rfl | exact Holds.row mem4 rfl | exact Holds.row mem5 rfl | exact Holds.row mem6 rfl | exact Holds.row mem7 rfl | exact Holds.row mem8 rfl) ?_
          refine St.neq rfl rfl rfl ?_
          refine St.done ?_
          refine SX.seq ?_
          refine SC.condp rfl (fun c36 => ?_) (fun c36 => ?_)
          · exfalso; omega
          · refine SC.skip ?_
            refine SX.seq ?_
            refine SC.seq ?_
            refine SC.seq ?_
            refine SC.plain ?_
            refine St.move rfl rfl ?_
            refine St.gtr rfl rfl rfl ?_
            refine St.done ?_
            refine SX.seq ?_
            refine SC.condp rfl (fun c38 => ?_) (fun c38 => ?_)
            · have hm4 := hm3.trans (ifR_pos (by omega))
              refine SC.seq ?_
              refine SC.plain ?_
              refine St.move rfl rfl ?_
              refine St.call [_, _] rfl (by kernel_rfl) rfl (wfail_spec w0 L p q rv ov most t2 0 3 Eo) (fun _ _ _ _ h => h.nil) ?_
              rintro r4 L4 rfl
              refine St.done ?_
              refine SX.seq ?_
              refine SC.ret ?_
              refine SX.seq_ret ?_
              exact SX.ret0 (.inl rfl) rfl (AnsW.bad (e := 3) hm4 (by decide) hR2)
            · have hm4 := hm3.trans (ifR_neg (by omega))
              rw [Int.toNat_natCast] at hm4
              have hdt := dist_tab d (by omega)
              have hm5 := hm4.trans (bind_eq (dist_form (by omega) hd3))
              rw [bind_ass] at hm5
              refine SC.skip ?_
              refine SX.seq ?_
              refine SC.seq ?_
              refine SC.plain ?_
              refine St.move rfl rfl ?_
              refine St.call [_, _, _, _] rfl (by kernel_rfl) rfl (rbase_spec w0 _ 1 d 2 4 (by omega) (by omega) (by omega) (by omega) (fun i hi => Nat.le_trans (dist_tab i (by omega)).2.2.2 (by decide)) (fun i hi => Nat.le_trans (dist_tab i (by omega)).2.2.1 (by decide))) (fun _ _ _ _ h => h.nil) ?_
              rintro r5 L5 ⟨rfl, rfl⟩
              refine St.move rfl rfl ?_
              refine St.extract rfl rfl rfl ?_
              refine St.extract rfl rfl rfl ?_
              refine St.assign rfl rfl ?_
              refine St.assign rfl rfl ?_
              refine St.done ?_
              refine SX.seq ?_
              refine SC.join (α := Nat × Nat × List Nat × Value × Chunk × Int) (fun s_ => 1 ≤ s_.1 ∧ s_.1 ≤ 1000000 ∧ RIn w0 L rv bs most s_.2.1 s_.2.2.1 s_.2.2.2.1 s_.2.2.2.2.1 ∧ (s_.2.2.2.2.2 = 0 → matchQ ds s bs most at_ out = (if s_.2.2.1.length < s_.1 then failR 3 else copyR s_.1 n) bs most s_.2.1 s_.2.2.1) ∧ (s_.2.2.2.2.2 ≠ 0 → matchQ ds s bs most at_ out = .bad s_.2.2.2.2.2)) (fun s_ => [(0, .pointer (some ⟨p, 0, none⟩)), (6, .int .i64 ((n : Nat) : Int)), (9, .int .i64 ((s_.1 : Nat) : Int))]) (fun s_ => WkL p q rv s_.2.2.2.1 s_.2.1 most s_.2.2.2.2.2 s_.2.2.2.2.1 L) ?_ ?_
              · rintro ⟨far, t, o, v, E, e⟩ ⟨hf1, hfar, hRi, hm6, hmb⟩
                simp only at hf1 hfar hRi hm6 hmb
                have hroomi := hRi.room
                obtain ⟨_, _, Av, cv, rfl, _, _⟩ := hRi.sl
                show SC _ _ _ [(0, .pointer (some ⟨p, 0, none⟩)), (6, .int .i64 ((n : Nat) : Int)), (9, .int .i64 ((far : Nat) : Int))] (WkL p q rv _ t most e E L)
                unfold WkL
                refine SC.join (α := Int) (fun e1 => (e1 = 0 → far ≤ o.length ∧ matchQ ds s bs most at_ out = copyR far n bs most t o) ∧ (e1 ≠ 0 → matchQ ds s bs most at_ out = .bad e1)) (fun _ => [(0, .pointer (some ⟨p, 0, none⟩)), (6, .int .i64 ((n : Nat) : Int)), (9, .int .i64 ((far : Nat) : Int))]) (fun e1 => WkL p q rv (.slice Av o.length cv) t most e1 E L) ?_ ?_
                · rintro e1 ⟨hm7, hmb7⟩
                  show SC _ _ _ [(0, .pointer (some ⟨p, 0, none⟩)), (6, .int .i64 ((n : Nat) : Int)), (9, .int .i64 ((far : Nat) : Int))] (WkL p q rv (.slice Av o.length cv) t most e1 E L)
                  refine SC.seq ?_
                  refine SC.plain ?_
                  refine St.assign rfl rfl ?_
                  refine St.done ?_
                  refine SX.seq ?_
                  refine SC.block ?_
                  refine SC.loop (α := Nat × Nat × List Nat × Value × Chunk × Int) (fun s_ => RIn w0 L rv bs most s_.2.1 s_.2.2.1 s_.2.2.2.1 s_.2.2.2.2.1 ∧ (s_.2.2.2.2.2 = 0 → s_.1 ≤ n ∧ far ≤ s_.2.2.1.length ∧ matchQ ds s bs most at_ out = copyR far (n - s_.1) bs most s_.2.1 s_.2.2.1) ∧ (s_.2.2.2.2.2 ≠ 0 → matchQ ds s bs most at_ out = .bad s_.2.2.2.2.2)) (fun s_ => [(0, .pointer (some ⟨p, 0, none⟩)), (6, .int .i64 ((n : Nat) : Int)), (9, .int .i64 ((far : Nat) : Int)), (11, .int .i64 ((s_.1 : Nat) : Int))]) (fun s_ => WkL p q rv s_.2.2.2.1 s_.2.1 most s_.2.2.2.2.2 s_.2.2.2.2.1 L) (fun s_ => n - s_.1) (0, t, o, _, E, e1) ⟨hRi, fun h => ⟨Nat.zero_le _, hm7 h⟩, hmb7⟩ ⟨rfl, rfl, rfl, rfl, trivial⟩ (List.Perm.refl _) ?_
                  rintro ⟨i, t3, o3, v3, E3, e3⟩ ⟨hR3, hm8, hmb8⟩
                  simp only at hR3 hm8 hmb8
                  have hroom3 := hR3.room
                  obtain ⟨b3, f3, A3, c3, rfl, hA3, hrr3⟩ := hR3.sl
                  show SC _ _ _ [(0, .pointer (some ⟨p, 0, none⟩)), (6, .int .i64 ((n : Nat) : Int)), (9, .int .i64 ((far : Nat) : Int)), (11, .int .i64 ((i : Nat) : Int))] (WkL p q rv _ t3 most e3 E3 L)
                  unfold WkL
                  refine SC.seq ?_
                  refine SC.seq ?_
                  refine SC.plain ?_
                  refine St.move rfl rfl ?_
                  refine St.move rfl rfl ?_
                  refine St.lss rfl rfl rfl ?_
                  refine St.move rfl rfl ?_
                  refine St.split 70 rfl (fun g70 => ?_) (fun g70 => ?_)
                  · refine St.guard_yes rfl rfl ?_
                    refine St.move rfl rfl ?_
                    refine St.guard_yes rfl rfl ?_
                    refine St.nilCheck rfl rfl ?_
                    refine St.guard_yes rfl rfl ?_
                    refine St.fieldAddr (off := 3) rfl rfl (by kernel_rfl) ?_
                    refine St.guard_yes rfl rfl ?_
                    refine St.load rfl rfl (by kernel_rfl) (by first | exact Holds.row mem0 rfl | exact Holds.row mem1 rfl | exact Holds.row mem2 rfl | exact Holds.row mem3 rfl | exact Holds.row mem4 rfl | exact Holds.row mem5 rfl | exact Holds.row mem6 rfl | exact Holds.row mem7 rfl | exact Holds.row mem8 rfl) ?_
                    refine St.guard_yes rfl rfl ?_
                    refine St.eql rfl rfl rfl ?_
                    refine St.pick_true rfl rfl rfl ?_
                    refine St.done ?_
                    refine SX.seq ?_
                    refine SC.condp rfl (fun c76 => ?_) (fun c76 => ?_)
                    · obtain rfl : e3 = 0 := by omega
                      obtain ⟨hin, hfo, hm8⟩ := hm8 rfl
                      obtain rfl := hA3 (by omega)
                      have hrr := hrr3 w0 (WkL p q rv (.slice (some ⟨b3, f3, none⟩) o3.length c3) t3 most 0 E3 L) (by simp [WkL])
                      have hob := hR3.outB
                      unfold WkL at hrr
                      have hm9 := hm8.trans ((congrFun (congrFun (congrFun (congrFun (congrArg (copyR far) (show n - i = (n - (i + 1)) + 1 by omega)) bs) most) t3) o3).trans (copy_succ _ _ _ _ _ _))
                      refine SC.skip ?_
                      refine SX.seq ?_
                      refine SC.seq ?_
                      refine SC.block ?_
                      refine SC.drawn [(0, true), (1, true), (2, true), (3, true), (4, true), (5, true), (6, true), (7, true), (8, true), (9, true), (10, true), (11, true), (12, true), (13, true)] [14] (_) (by kernel_rfl) (by kernel_rfl) (fun _ h => h) ?_
                      refine St.move rfl rfl ?_
                      refine St.move rfl rfl ?_
                      refine St.nilCheck rfl rfl ?_
                      refine St.fieldAddr (off := 1) rfl rfl (by kernel_rfl) ?_
                      refine St.load rfl rfl (by kernel_rfl) (by first | exact Holds.row mem0 rfl | exact Holds.row mem1 rfl | exact Holds.row mem2 rfl | exact Holds.row mem3 rfl | exact Holds.row mem4 rfl | exact Holds.row mem5 rfl | exact Holds.row mem6 rfl | exact Holds.row mem7 rfl | exact Holds.row mem8 rfl) ?_
                      refine St.move rfl rfl ?_
                      refine St.nilCheck rfl rfl ?_
                      refine St.fieldAddr (off := 1) rfl rfl (by kernel_rfl) ?_
                      refine St.load rfl rfl (by kernel_rfl) (by first | exact Holds.row mem0 rfl | exact Holds.row mem1 rfl | exact Holds.row mem2 rfl | exact Holds.row mem3 rfl | exact Holds.row mem4 rfl | exact Holds.row mem5 rfl | exact Holds.row mem6 rfl | exact Holds.row mem7 rfl | exact Holds.row mem8 rfl) ?_
                      refine St.lenSl rfl rfl (by kernel_rfl) ?_
                      refine St.move rfl rfl ?_
                      first | refine St.subN rfl rfl rfl (by omega) (by omega) ?_ | refine St.subI rfl rfl rfl (by omega) ?_
                      refine St.indexSl (e := 5) (sz := 1) rfl rfl rfl (by kernel_rfl) (by omega) ?_
                      first | (refine St.loadB rfl rfl (by kernel_rfl) (HoldsN.mono hrr (fun w hw => by first | exact hw | exact hw.drop | exact hw.drop.drop | exact hw.drop.drop.drop | exact hw.drop.drop.drop.drop | exact hw.drop.drop.drop.drop.drop | exact hw.drop.drop.drop.drop.drop.drop | exact hw.drop.drop.drop.drop.drop.drop.drop | exact hw.drop.drop.drop.drop.drop.drop.drop.drop | exact hw.drop.drop.drop.drop.drop.drop.drop.drop.drop | exact hw.drop.drop.drop.drop.drop.drop.drop.drop.drop.drop | exact hw.drop.drop.drop.drop.drop.drop.drop.drop.drop.drop.drop | exact hw.drop.drop.drop.drop.drop.drop.drop.drop.drop.drop.drop.drop | exact hw.drop.drop.drop.drop.drop.drop.drop.drop.drop.drop.drop.drop.drop)) rfl (by omega) hob ?_; intro n92 e92 l92) | refine St.load rfl rfl (by kernel_rfl) (by first | exact Holds.row mem0 rfl | exact Holds.row mem1 rfl | exact Holds.row mem2 rfl | exact Holds.row mem3 rfl | exact Holds.row mem4 rfl | exact Holds.row mem5 rfl | exact Holds.row mem6 rfl | exact Holds.row mem7 rfl | exact Holds.row mem8 rfl) ?_
                      refine St.done ?_
                      refine SX.tail ?_
                      refine St.call [_, _] rfl (by kernel_rfl) rfl (wput_spec w0 L p q rv _ bs most t3 o3 0 E3 hR3 n92 l92) (fun _ _ _ _ h => h.nil) ?_
                      rintro r8 L8 (⟨h9, rfl⟩ | ⟨h9, v5, E5, hR5, rfl⟩)
                      · have hm10 := hm9.trans (bind_bad (e := 5) (by rw [← e92]; exact if_pos h9))
                        rw [first_zero]
                        refine St.done ?_
                        refine SX.blk ?_
                        refine SX.seq ?_
                        refine SC.plain ?_
                        refine St.move rfl rfl ?_
                        first | refine St.addN (b := 1) rfl rfl rfl (by omega) ?_ | refine St.addI rfl rfl rfl (by omega) ?_
                        refine St.assign rfl rfl ?_
                        refine St.done ?_
                        first
                          | exact SX.again (i + 1, t3, o3 ++ [n92], v5, E5, 0) ⟨hR5, fun _ => ⟨by simp only; omega, by simp only [List.length_append]; omega, hm10⟩, fun h => absurd rfl h⟩ (by simp only; omega) ⟨rfl, rfl, rfl, rfl, trivial⟩ (List.Perm.refl _)
                          | exact SX.again (i + 1, t3, o3, _, E3, 5) ⟨hR3, fun h => absurd (show (5 : Int) = 0 from h) (by decide), fun _ => hm10⟩ (by simp only; omega) ⟨rfl, rfl, rfl, rfl, trivial⟩ (List.Perm.refl _)
                      · have hm10 := hm9.trans (bind_of (p1 := t3) (o1 := o3 ++ [n92]) (a := ()) (by rw [← e92]; exact if_neg h9))
                        refine St.done ?_
                        refine SX.blk ?_
                        refine SX.seq ?_
                        refine SC.plain ?_
                        refine St.move rfl rfl ?_
                        first | refine St.addN (b := 1) rfl rfl rfl (by omega) ?_ | refine St.addI rfl rfl rfl (by omega) ?_
                        refine St.assign rfl rfl ?_
                        refine St.done ?_
                        first
                          | exact SX.again (i + 1, t3, o3 ++ [n92], v5, E5, 0) ⟨hR5, fun _ => ⟨by simp only; omega, by simp only [List.length_append]; omega, hm10⟩, fun h => absurd rfl h⟩ (by simp only; omega) ⟨rfl, rfl, rfl, rfl, trivial⟩ (List.Perm.refl _)
                          | exact SX.again (i + 1, t3, o3, _, E3, 5) ⟨hR3, fun h => absurd (show (5 : Int) = 0 from h) (by decide), fun _ => hm10⟩ (by simp only; omega) ⟨rfl, rfl, rfl, rfl, trivial⟩ (List.Perm.refl _)
                    · refine SC.exit ?_
                      refine SX.seq_exit ?_
                      refine SX.seq_exit ?_
                      refine SX.hit ?_
                      by_cases he0 : e3 = 0
                      · obtain ⟨h1, h2, h3⟩ := hm8 he0
                        obtain rfl : i = n := by omega
                        subst he0
                        rw [Nat.sub_self] at h3
                        exact SX.ret0 (.inr rfl) rfl (AnsW.ok h3 hR3)
                      · exact SX.ret0 (.inr rfl) rfl (AnsW.bad (hmb8 he0) he0 hR3)
                  · refine St.guard_no rfl rfl rfl ?_
                    refine St.guard_no rfl rfl rfl ?_
                    refine St.guard_no rfl rfl rfl ?_
                    refine St.guard_no rfl rfl rfl ?_
                    refine St.guard_no rfl rfl rfl ?_
                    refine St.pick_false rfl rfl rfl ?_
                    refine St.done ?_
                    refine SX.seq ?_
                    refine SC.cond_false rfl ?_
                    refine SC.exit ?_
                    refine SX.seq_exit ?_
                    refine SX.seq_exit ?_
                    refine SX.hit ?_
                    by_cases he0 : e3 = 0
                    · obtain ⟨h1, h2, h3⟩ := hm8 he0
                      obtain rfl : i = n := by omega
                      subst he0
                      rw [Nat.sub_self] at h3
                      exact SX.ret0 (.inr rfl) rfl (AnsW.ok h3 hR3)
                    · exact SX.ret0 (.inr rfl) rfl (AnsW.bad (hmb8 he0) he0 hR3)
                · refine SC.seq ?_
                  refine SC.plain ?_
                  refine St.move rfl rfl ?_
                  refine St.nilCheck rfl rfl ?_
                  refine St.fieldAddr (off := 3) rfl rfl (by kernel_rfl) ?_
                  refine St.load rfl rfl (by kernel_rfl) (by first | exact Holds.row mem0 rfl | exact Holds.row mem1 rfl | exact Holds.row mem2 rfl | exact Holds.row mem3 rfl | exact Holds.row mem4 rfl | exact Holds.row mem5 rfl | exact Holds.row mem6 rfl | exact Holds.row mem7 rfl | exact Holds.row mem8 rfl) ?_
                  refine St.eql rfl rfl rfl ?_
                  refine St.move rfl rfl ?_
                  refine St.split 56 rfl (fun g56 => ?_) (fun g56 => ?_)
                  · refine St.guard_yes rfl rfl ?_
                    refine St.move rfl rfl ?_
                    refine St.guard_yes rfl rfl ?_
                    refine St.move rfl rfl ?_
                    refine St.guard_yes rfl rfl ?_
                    refine St.nilCheck rfl rfl ?_
                    refine St.guard_yes rfl rfl ?_
                    refine St.fieldAddr (off := 1) rfl rfl (by kernel_rfl) ?_
                    refine St.guard_yes rfl rfl ?_
                    refine St.load rfl rfl (by kernel_rfl) (by first | exact Holds.row mem0 rfl | exact Holds.row mem1 rfl | exact Holds.row mem2 rfl | exact Holds.row mem3 rfl | exact Holds.row mem4 rfl | exact Holds.row mem5 rfl | exact Holds.row mem6 rfl | exact Holds.row mem7 rfl | exact Holds.row mem8 rfl) ?_
                    refine St.guard_yes rfl rfl ?_
                    refine St.lenSl rfl rfl (by kernel_rfl) ?_
                    refine St.guard_yes rfl rfl ?_
                    refine St.gtr rfl rfl rfl ?_
                    refine St.pick_true rfl rfl rfl ?_
                    refine St.done ?_
                    refine SX.seq ?_
                    refine SC.condp rfl (fun c64 => ?_) (fun c64 => ?_)
                    · refine SC.plain ?_
                      refine St.move rfl rfl ?_
                      refine St.call [_, _] rfl (by kernel_rfl) rfl (wfail_spec w0 L p q rv _ most t e 3 E) (fun _ _ _ _ h => h.nil) ?_
                      rintro r7 L7 rfl
                      rw [show firstE e 3 = 3 from if_pos g56]
                      refine St.done ?_
                      exact SX.some 3 ⟨fun h => absurd (show (3 : Int) = 0 from h) (by decide), fun _ => (hm6 g56).trans (ifR_pos (by omega))⟩ ⟨rfl, rfl, rfl, trivial⟩ (List.Perm.refl _)
                    · refine SC.skip ?_
                      exact SX.some e ⟨fun _ => ⟨by omega, (hm6 g56).trans (ifR_neg (by omega))⟩, fun h => absurd g56 h⟩ ⟨rfl, rfl, rfl, trivial⟩ (List.Perm.refl _)
                  · refine St.guard_no rfl rfl rfl ?_
                    refine St.guard_no rfl rfl rfl ?_
                    refine St.guard_no rfl rfl rfl ?_
                    refine St.guard_no rfl rfl rfl ?_
                    refine St.guard_no rfl rfl rfl ?_
                    refine St.guard_no rfl rfl rfl ?_
                    refine St.guard_no rfl rfl rfl ?_
                    refine St.pick_false rfl rfl rfl ?_
                    refine St.done ?_
                    refine SX.seq ?_
                    refine SC.cond_false rfl ?_
                    refine SC.skip ?_
                    exact SX.some e ⟨fun h => absurd h g56, fun _ => hmb g56⟩ ⟨rfl, rfl, rfl, trivial⟩ (List.Perm.refl _)
              · refine SC.plain ?_
                refine St.move rfl rfl ?_
                refine St.move rfl rfl ?_
                refine St.move rfl rfl ?_
                refine St.call [_, _] rfl (by kernel_rfl) rfl (wtake_spec w0 L p q rv ov bs most t2 out 0 Eo hR2 (bitsN d 2 4) (by omega)) (fun _ _ _ _ h => h.nil) ?_
                rintro r6 L6 (⟨h7, rfl, rfl⟩ | ⟨h7, rfl, rfl⟩)
                · have hm6 := hm5.trans ((bind_of (takeR_ok h7)).trans (bind_of (m := pureR _) rfl))
                  have htl2 := take_lt bs t2 (bitsN d 2 4)
                  have hpk2 : 2 ^ bitsN d 2 4 ≤ 2 ^ 13 := Nat.pow_le_pow_right (by decide) (by omega)
                  have hb1 : 1 ≤ baseN 1 2 4 d := by rw [hdt.1]; split <;> omega
                  first | refine St.addN rfl rfl rfl (by omega) ?_ | refine St.addI rfl rfl rfl (by omega) ?_
                  refine St.assign rfl rfl ?_
                  refine St.done ?_
                  exact SX.some (_, _, _, _, _, 0) ⟨by simp only; omega, by simp only; omega, hR2.to h7, fun _ => hm6, fun h => absurd rfl h⟩ ⟨rfl, rfl, rfl, trivial⟩ (List.Perm.refl _)
                · have hm6 := hm5.trans (bind_bad (takeR_bad h7))
                  have hb1 : 1 ≤ baseN 1 2 4 d := by rw [hdt.1]; split <;> omega
                  rw [first_zero]
                  first | refine St.addN rfl rfl rfl (by omega) ?_ | refine St.addI rfl rfl rfl (by omega) ?_
                  refine St.assign rfl rfl ?_
                  refine St.done ?_
                  exact SX.some (_, t2, out, ov, Eo, 4) ⟨by simp only; omega, by simp only; omega, hR2, fun h => absurd (show (4 : Int) = 0 from h) (by decide), fun _ => hm6⟩ ⟨rfl, rfl, rfl, trivial⟩ (List.Perm.refl _)
        · have hm3 := hm2.trans (bind_bad hg2)
          refine St.assign rfl rfl ?_
          refine St.done ?_
          refine SX.seq ?_
          refine SC.seq ?_
          refine SC.seq ?_
          refine SC.plain ?_
          refine St.move rfl rfl ?_
          refine St.nilCheck rfl rfl ?_
          refine St.fieldAddr (off := 3) rfl rfl (by kernel_rfl) ?_
          refine St.load rfl rfl (by kernel_rfl) (by first | exact Holds.row mem0 rfl | exact Holds.row mem1 rfl | exact Holds.row mem2 rfl | exact Holds.row mem3 rfl | exact Holds.row mem4 rfl | exact Holds.row mem5 rfl | exact Holds.row mem6 rfl | exact Holds.row mem7 rfl | exact Holds.row mem8 rfl) ?_
          refine St.neq rfl rfl rfl ?_
          refine St.done ?_
          refine SX.seq ?_
          refine SC.condp rfl (fun c36 => ?_) (fun c36 => ?_)
          · refine SC.ret ?_
            refine SX.seq_ret ?_
            exact SX.ret0 (.inl rfl) rfl (AnsW.bad hm3 hne (hR.to hd3))
          · exfalso; omega
      · have hm2 := hm1.trans (bind_bad (takeR_bad h1))
        rw [first_zero]
        refine St.addN rfl rfl rfl (by omega) ?_
        first | rw [← hn] | skip
        refine St.assign rfl rfl ?_
        refine St.done ?_
        refine SX.seq ?_
        refine SC.seq ?_
        refine SC.plain ?_
        refine St.move rfl rfl ?_
        refine St.move rfl rfl ?_
        refine St.call [_, _] rfl (by kernel_rfl) rfl (wsymbol_spec w0 L p q rv ov bs most at_ out 4 Eo hR ds dv hd0 hds) (fun _ _ _ _ h => h.nil) ?_
        rintro r3 L3 (⟨_, rfl, rfl⟩ | ⟨h0, _⟩ | ⟨h0, _⟩)
        rotate_left
        · exact absurd h0 (by decide)
        · exact absurd h0 (by decide)
        refine St.assign rfl rfl ?_
        refine St.done ?_
        refine SX.seq ?_
        refine SC.seq ?_
        refine SC.seq ?_
        refine SC.plain ?_
        refine St.move rfl rfl ?_
        refine St.nilCheck rfl rfl ?_
        refine St.fieldAddr (off := 3) rfl rfl (by kernel_rfl) ?_
        refine St.load rfl rfl (by kernel_rfl) (by first | exact Holds.row mem0 rfl | exact Holds.row mem1 rfl | exact Holds.row mem2 rfl | exact Holds.row mem3 rfl | exact Holds.row mem4 rfl | exact Holds.row mem5 rfl | exact Holds.row mem6 rfl | exact Holds.row mem7 rfl | exact Holds.row mem8 rfl) ?_
        refine St.neq rfl rfl rfl ?_
        refine St.done ?_
        refine SX.seq ?_
        refine SC.condp rfl (fun c36 => ?_) (fun c36 => ?_)
        · refine SC.ret ?_
          refine SX.seq_ret ?_
          exact SX.ret0 (.inl rfl) rfl (AnsW.bad hm2 (by decide) hR)
        · exfalso; omega
    · refine SC.seq ?_
      refine SC.plain ?_
      refine St.move rfl rfl ?_
      refine St.eql rfl rfl rfl ?_
      refine St.done ?_
      refine SX.seq ?_
      refine SC.condp rfl (fun c23 => ?_) (fun c23 => ?_)
      · refine SC.seq ?_
        refine SC.plain ?_
        refine St.assign rfl rfl ?_
        refine St.done ?_
        refine SX.seq ?_
        refine SC.plain ?_
        refine St.assign rfl rfl ?_
        refine St.done ?_
        exact SX.some () trivial ⟨rfl, rfl, rfl, by unfold lenB; first | (rw [if_pos (by omega)]; rfl) | (rw [if_neg (by omega)]; rfl) | (rw [if_neg (by omega)]; done), by unfold lenK; first | (rw [if_pos (by omega)]; rfl) | (rw [if_neg (by omega)]; rfl) | (rw [if_neg (by omega)]; done), trivial⟩ (List.Perm.refl _)
      · refine SC.skip ?_
        exact SX.some () trivial ⟨rfl, rfl, rfl, by unfold lenB; first | (rw [if_pos (by omega)]; rfl) | (rw [if_neg (by omega)]; rfl) | (rw [if_neg (by omega)]; done), by unfold lenK; first | (rw [if_pos (by omega)]; rfl) | (rw [if_neg (by omega)]; rfl) | (rw [if_neg (by omega)]; done), trivial⟩ (List.Perm.refl _)
theorem and_compl {n m : Nat} (h : n + m = 65535) : n &&& m = 0 := by
  have hm : m = 2 ^ 16 - (n + 1) := by omega
  subst hm
  apply Nat.eq_of_testBit_eq
  intro i
  rw [Nat.testBit_and, Nat.testBit_two_pow_sub_succ (by omega)]
  simp
  intro h1 _
  exact h1
theorem stored_eq (bs : List Nat) (most p : Nat) (o : List Nat) : storedR bs most p o = bindR (takeR 16) (fun n => bindR (takeR 16) fun m => if n + m = 65535 then storedBody n else failR 3) bs most ((p + 7) / 8 * 8) o := rfl

theorem wstored_spec (w0 : World) (L : List Chunk) (p q : Nat) (rv ov : Value) (bs : List Nat) (most at_ : Nat) (out : List Nat) (Eo : Chunk) (hR : RIn w0 L rv bs most at_ out ov Eo) :
    Meets Try.prog 163 #[.pointer (some ⟨p, 0, none⟩)] w0 (WkL p q rv ov at_ most 0 Eo L) (fun r L' => AnsW w0 (storedR bs most at_ out) p q rv bs most L L') := by
  have hx := hR.rd
  have hl := hR.len
  have hb := hR.lt
  have hat := hR.at_
  have hmost := hR.big
  have hroom := hR.room
  have hm0 := stored_eq bs most at_ out
  unfold WkL
  refine Meets.of_body [.pointer (some ⟨p, 0, none⟩)] Try.func163 rfl Try.ntmps163 rfl ?_
  refine SC.seq ?_
  refine SC.plain ?_
  refine St.move rfl rfl ?_
  refine St.nilCheck rfl rfl ?_
  refine St.fieldAddr (off := 0) rfl rfl (by kernel_rfl) ?_
  refine St.load rfl rfl (by kernel_rfl) (by first | exact Holds.row mem0 rfl | exact Holds.row mem1 rfl | exact Holds.row mem2 rfl | exact Holds.row mem3 rfl | exact Holds.row mem4 rfl | exact Holds.row mem5 rfl | exact Holds.row mem6 rfl | exact Holds.row mem7 rfl | exact Holds.row mem8 rfl) ?_
  refine St.perm _ (perm12 _ _ _) ?_
  refine St.call [_] rfl (by kernel_rfl) rfl (ralign_spec w0 _ q at_ rv (by omega)) (fun _ _ _ _ h => h.nil) ?_
  rintro r1 L1 rfl
  have hA8 : (at_ + 7) / 8 * 8 ≤ 8 * bs.length := by omega
  have hR1 := hR.to hA8
  refine St.perm (WkL p q rv ov ((at_ + 7) / 8 * 8) most 0 Eo L) (perm12 _ _ _) ?_
  refine St.done ?_
  refine SX.seq ?_
  refine SC.seq ?_
  refine SC.plain ?_
  refine St.move rfl rfl ?_
  refine St.call [_, _] rfl (by kernel_rfl) rfl (wtake_spec w0 L p q rv ov bs most ((at_ + 7) / 8 * 8) out 0 Eo hR1 16 (by omega)) (fun _ _ _ _ h => h.nil) ?_
  rintro r2 L2 (⟨h1, rfl, rfl⟩ | ⟨h1, rfl, rfl⟩)
  · have hm1 := hm0.trans (bind_of (takeR_ok h1))
    have ht1 := take_lt bs ((at_ + 7) / 8 * 8) 16
    have hR2 := hR1.to h1
    refine St.assign rfl rfl ?_
    refine St.done ?_
    refine SX.seq ?_
    refine SC.join (α := Nat × Nat × Nat × Int) (fun s_ => s_.2.2.1 ≤ 8 * bs.length ∧ s_.1 < 65536 ∧ s_.2.1 < 65536 ∧ (s_.2.2.2 = 0 → storedR bs most at_ out = (if s_.1 + s_.2.1 = 65535 then storedBody s_.1 else failR 3) bs most s_.2.2.1 out) ∧ (s_.2.2.2 ≠ 0 → storedR bs most at_ out = .bad s_.2.2.2)) (fun s_ => [(0, .pointer (some ⟨p, 0, none⟩)), (2, .int .i64 ((s_.1 : Nat) : Int)), (3, .int .i64 ((s_.2.1 : Nat) : Int))]) (fun s_ => WkL p q rv ov s_.2.2.1 most s_.2.2.2 Eo L) ?_ ?_
    · rintro ⟨n, m, t, e⟩ ⟨ht, hn, hmm, hm3, hmb3⟩
      simp only at ht hn hmm hm3 hmb3
      show SC _ _ _ [(0, .pointer (some ⟨p, 0, none⟩)), (2, .int .i64 ((n : Nat) : Int)), (3, .int .i64 ((m : Nat) : Int))] (WkL p q rv ov t most e Eo L)
      unfold WkL
      refine SC.join (α := Int) (fun e1 => (e1 = 0 → storedR bs most at_ out = storedBody n bs most t out) ∧ (e1 ≠ 0 → storedR bs most at_ out = .bad e1)) (fun _ => [(0, .pointer (some ⟨p, 0, none⟩)), (2, .int .i64 ((n : Nat) : Int))]) (fun e1 => WkL p q rv ov t most e1 Eo L) ?_ ?_
      · rintro e1 ⟨hm4, hmb4⟩
        show SC _ _ _ [(0, .pointer (some ⟨p, 0, none⟩)), (2, .int .i64 ((n : Nat) : Int))] (WkL p q rv ov t most e1 Eo L)
        refine SC.seq ?_
        refine SC.plain ?_
        refine St.assign rfl rfl ?_
        refine St.done ?_
        refine SX.seq ?_
        refine SC.block ?_
        refine SC.loop (α := Nat × Nat × List Nat × Value × Chunk × Int) (fun s_ => RIn w0 L rv bs most s_.2.1 s_.2.2.1 s_.2.2.2.1 s_.2.2.2.2.1 ∧ (s_.2.2.2.2.2 = 0 → s_.1 ≤ n ∧ storedR bs most at_ out = storedBody (n - s_.1) bs most s_.2.1 s_.2.2.1) ∧ (s_.2.2.2.2.2 ≠ 0 → storedR bs most at_ out = .bad s_.2.2.2.2.2)) (fun s_ => [(0, .pointer (some ⟨p, 0, none⟩)), (2, .int .i64 ((n : Nat) : Int)), (4, .int .i64 ((s_.1 : Nat) : Int))]) (fun s_ => WkL p q rv s_.2.2.2.1 s_.2.1 most s_.2.2.2.2.2 s_.2.2.2.2.1 L) (fun s_ => n - s_.1) (0, t, out, ov, Eo, e1) ⟨hR.to ht, fun h => ⟨Nat.zero_le _, hm4 h⟩, hmb4⟩ ⟨rfl, rfl, rfl, trivial⟩ (List.Perm.refl _) ?_
        rintro ⟨i, t3, o3, v3, E3, e3⟩ ⟨hR3, hm8, hmb8⟩
        simp only at hR3 hm8 hmb8
        show SC _ _ _ [(0, .pointer (some ⟨p, 0, none⟩)), (2, .int .i64 ((n : Nat) : Int)), (4, .int .i64 ((i : Nat) : Int))] (WkL p q rv v3 t3 most e3 E3 L)
        unfold WkL
        refine SC.seq ?_
        refine SC.seq ?_
        refine SC.plain ?_
        refine St.move rfl rfl ?_
        refine St.move rfl rfl ?_
        refine St.lss rfl rfl rfl ?_
        refine St.move rfl rfl ?_
        refine St.split 30 rfl (fun g30 => ?_) (fun g30 => ?_)
        · refine St.guard_yes rfl rfl ?_
          refine St.move rfl rfl ?_
          refine St.guard_yes rfl rfl ?_
          refine St.nilCheck rfl rfl ?_
          refine St.guard_yes rfl rfl ?_
          refine St.fieldAddr (off := 3) rfl rfl (by kernel_rfl) ?_
          refine St.guard_yes rfl rfl ?_
          refine St.load rfl rfl (by kernel_rfl) (by first | exact Holds.row mem0 rfl | exact Holds.row mem1 rfl | exact Holds.row mem2 rfl | exact Holds.row mem3 rfl | exact Holds.row mem4 rfl | exact Holds.row mem5 rfl | exact Holds.row mem6 rfl | exact Holds.row mem7 rfl | exact Holds.row mem8 rfl) ?_
          refine St.guard_yes rfl rfl ?_
          refine St.eql rfl rfl rfl ?_
          refine St.pick_true rfl rfl rfl ?_
          refine St.done ?_
          refine SX.seq ?_
          refine SC.condp rfl (fun c36 => ?_) (fun c36 => ?_)
          · obtain rfl : e3 = 0 := by omega
            obtain ⟨hin, hm8⟩ := hm8 rfl
            have hm8 := hm8.trans ((congrFun (congrFun (congrFun (congrFun (congrArg storedBody (show n - i = (n - (i + 1)) + 1 by omega)) bs) most) t3) o3).trans (body_succ _ _ _ _ _))
            refine SC.skip ?_
            refine SX.seq ?_
            refine SC.seq ?_
            refine SC.block ?_
            refine SC.seq ?_
            refine SC.plain ?_
            refine St.move rfl rfl ?_
            refine St.call [_, _] rfl (by kernel_rfl) rfl (wtake_spec w0 L p q rv v3 bs most t3 o3 0 E3 hR3 8 (by omega)) (fun _ _ _ _ h => h.nil) ?_
            rintro r4 L4 (⟨h4, rfl, rfl⟩ | ⟨h4, rfl, rfl⟩)
            · have hm9 := hm8.trans (bind_of (takeR_ok h4))
              have ht8 := take_lt bs t3 8
              have hR4 := hR3.to h4
              unfold WkL
              refine St.assign rfl rfl ?_
              refine St.done ?_
              refine SX.seq ?_
              refine SC.seq ?_
              refine SC.plain ?_
              refine St.move rfl rfl ?_
              refine St.nilCheck rfl rfl ?_
              refine St.fieldAddr (off := 3) rfl rfl (by kernel_rfl) ?_
              refine St.load rfl rfl (by kernel_rfl) (by first | exact Holds.row mem0 rfl | exact Holds.row mem1 rfl | exact Holds.row mem2 rfl | exact Holds.row mem3 rfl | exact Holds.row mem4 rfl | exact Holds.row mem5 rfl | exact Holds.row mem6 rfl | exact Holds.row mem7 rfl | exact Holds.row mem8 rfl) ?_
              refine St.eql rfl rfl rfl ?_
              refine St.done ?_
              refine SX.seq ?_
              refine SC.condp rfl (fun c45 => ?_) (fun c45 => ?_)
              · refine SC.plain ?_
                refine St.move rfl rfl ?_
                refine St.move rfl rfl ?_
                refine St.convUx un8 rfl rfl (by kernel_rfl) (by kernel_rfl) (by omega) ?_
                refine St.call [_, _] rfl (by kernel_rfl) rfl (wput_spec w0 L p q rv v3 bs most (t3 + 8) o3 0 E3 hR4 (takeN bs t3 8) (by omega)) (fun _ _ _ _ h => h.nil) ?_
                rintro r8 L8 (⟨h9, rfl⟩ | ⟨h9, v5, E5, hR5, rfl⟩)
                · have hm10 := hm9.trans (bind_bad (e := 5) (if_pos h9))
                  rw [first_zero]
                  refine St.done ?_
                  refine SX.blk ?_
                  refine SX.seq ?_
                  refine SC.plain ?_
                  refine St.move rfl rfl ?_
                  first | refine St.addN (b := 1) rfl rfl rfl (by omega) ?_ | refine St.addI rfl rfl rfl (by omega) ?_
                  refine St.assign rfl rfl ?_
                  refine St.done ?_
                  first
                    | exact SX.again (i + 1, t3 + 8, o3 ++ [takeN bs t3 8], v5, E5, 0) ⟨hR5, fun _ => ⟨by simp only; omega, hm10⟩, fun h => absurd rfl h⟩ (by simp only; omega) ⟨rfl, rfl, rfl, trivial⟩ (List.Perm.refl _)
                    | exact SX.again (i + 1, t3 + 8, o3, v3, E3, 5) ⟨hR4, fun h => absurd (show (5 : Int) = 0 from h) (by decide), fun _ => hm10⟩ (by simp only; omega) ⟨rfl, rfl, rfl, trivial⟩ (List.Perm.refl _)
                    | exact SX.again (i + 1, t3, o3, v3, E3, 4) ⟨hR3, fun h => absurd (show (4 : Int) = 0 from h) (by decide), fun _ => hm9⟩ (by simp only; omega) ⟨rfl, rfl, rfl, trivial⟩ (List.Perm.refl _)
                · have hm10 := hm9.trans (bind_of (p1 := t3 + 8) (o1 := o3 ++ [takeN bs t3 8]) (a := ()) (if_neg h9))
                  refine St.done ?_
                  refine SX.blk ?_
                  refine SX.seq ?_
                  refine SC.plain ?_
                  refine St.move rfl rfl ?_
                  first | refine St.addN (b := 1) rfl rfl rfl (by omega) ?_ | refine St.addI rfl rfl rfl (by omega) ?_
                  refine St.assign rfl rfl ?_
                  refine St.done ?_
                  first
                    | exact SX.again (i + 1, t3 + 8, o3 ++ [takeN bs t3 8], v5, E5, 0) ⟨hR5, fun _ => ⟨by simp only; omega, hm10⟩, fun h => absurd rfl h⟩ (by simp only; omega) ⟨rfl, rfl, rfl, trivial⟩ (List.Perm.refl _)
                    | exact SX.again (i + 1, t3 + 8, o3, v3, E3, 5) ⟨hR4, fun h => absurd (show (5 : Int) = 0 from h) (by decide), fun _ => hm10⟩ (by simp only; omega) ⟨rfl, rfl, rfl, trivial⟩ (List.Perm.refl _)
                    | exact SX.again (i + 1, t3, o3, v3, E3, 4) ⟨hR3, fun h => absurd (show (4 : Int) = 0 from h) (by decide), fun _ => hm9⟩ (by simp only; omega) ⟨rfl, rfl, rfl, trivial⟩ (List.Perm.refl _)
              · exfalso; omega
            · have hm9 := hm8.trans (bind_bad (takeR_bad h4))
              rw [first_zero]
              unfold WkL
              refine St.assign rfl rfl ?_
              refine St.done ?_
              refine SX.seq ?_
              refine SC.seq ?_
              refine SC.plain ?_
              refine St.move rfl rfl ?_
              refine St.nilCheck rfl rfl ?_
              refine St.fieldAddr (off := 3) rfl rfl (by kernel_rfl) ?_
              refine St.load rfl rfl (by kernel_rfl) (by first | exact Holds.row mem0 rfl | exact Holds.row mem1 rfl | exact Holds.row mem2 rfl | exact Holds.row mem3 rfl | exact Holds.row mem4 rfl | exact Holds.row mem5 rfl | exact Holds.row mem6 rfl | exact Holds.row mem7 rfl | exact Holds.row mem8 rfl) ?_
              refine St.eql rfl rfl rfl ?_
              refine St.done ?_
              refine SX.seq ?_
              refine SC.condp rfl (fun c45 => ?_) (fun c45 => ?_)
              · exfalso; omega
              · refine SC.skip ?_
                refine SX.blk ?_
                refine SX.seq ?_
                refine SC.plain ?_
                refine St.move rfl rfl ?_
                first | refine St.addN (b := 1) rfl rfl rfl (by omega) ?_ | refine St.addI rfl rfl rfl (by omega) ?_
                refine St.assign rfl rfl ?_
                refine St.done ?_
                first
                  | exact SX.again (i + 1, t3 + 8, o3 ++ [takeN bs t3 8], v5, E5, 0) ⟨hR5, fun _ => ⟨by simp only; omega, hm10⟩, fun h => absurd rfl h⟩ (by simp only; omega) ⟨rfl, rfl, rfl, trivial⟩ (List.Perm.refl _)
                  | exact SX.again (i + 1, t3 + 8, o3, v3, E3, 5) ⟨hR4, fun h => absurd (show (5 : Int) = 0 from h) (by decide), fun _ => hm10⟩ (by simp only; omega) ⟨rfl, rfl, rfl, trivial⟩ (List.Perm.refl _)
                  | exact SX.again (i + 1, t3, o3, v3, E3, 4) ⟨hR3, fun h => absurd (show (4 : Int) = 0 from h) (by decide), fun _ => hm9⟩ (by simp only; omega) ⟨rfl, rfl, rfl, trivial⟩ (List.Perm.refl _)
          · refine SC.exit ?_
            refine SX.seq_exit ?_
            refine SX.seq_exit ?_
            refine SX.hit ?_
            by_cases he0 : e3 = 0
            · obtain ⟨h1, h3⟩ := hm8 he0
              obtain rfl : i = n := by omega
              subst he0
              rw [Nat.sub_self] at h3
              exact SX.ret0 (.inr rfl) rfl (AnsW.ok h3 hR3)
            · exact SX.ret0 (.inr rfl) rfl (AnsW.bad (hmb8 he0) he0 hR3)
        · refine St.guard_no rfl rfl rfl ?_
          refine St.guard_no rfl rfl rfl ?_
          refine St.guard_no rfl rfl rfl ?_
          refine St.guard_no rfl rfl rfl ?_
          refine St.guard_no rfl rfl rfl ?_
          refine St.pick_false rfl rfl rfl ?_
          refine St.done ?_
          refine SX.seq ?_
          refine SC.cond_false rfl ?_
          refine SC.exit ?_
          refine SX.seq_exit ?_
          refine SX.seq_exit ?_
          refine SX.hit ?_
          by_cases he0 : e3 = 0
          · obtain ⟨h1, h3⟩ := hm8 he0
            obtain rfl : i = n := by omega
            subst he0
            rw [Nat.sub_self] at h3
            exact SX.ret0 (.inr rfl) rfl (AnsW.ok h3 hR3)
          · exact SX.ret0 (.inr rfl) rfl (AnsW.bad (hmb8 he0) he0 hR3)
      · refine SC.seq ?_
        refine SC.plain ?_
        refine St.move rfl rfl ?_
        refine St.move rfl rfl ?_
        first | refine St.addN rfl rfl rfl (by omega) ?_ | refine St.addI rfl rfl rfl (by omega) ?_
        refine St.neq rfl rfl rfl ?_
        refine St.move rfl rfl ?_
        refine St.split 19 rfl (fun g19 => ?_) (fun g19 => ?_)
        · refine St.guard_no rfl rfl rfl ?_
          refine St.guard_no rfl rfl rfl ?_
          refine St.guard_no rfl rfl rfl ?_
          refine St.guard_no rfl rfl rfl ?_
          refine St.pick_true rfl rfl rfl ?_
          refine St.done ?_
          refine SX.seq ?_
          refine SC.cond_true rfl ?_
          refine SC.plain ?_
          refine St.move rfl rfl ?_
          refine St.call [_, _] rfl (by kernel_rfl) rfl (wfail_spec w0 L p q rv _ most t e 3 Eo) (fun _ _ _ _ h => h.nil) ?_
          rintro r7 L7 rfl
          refine St.done ?_
          exact SX.some (firstE e 3) ⟨fun h => by unfold firstE at h; split at h; (exact absurd h (by decide)); (rename_i he; exact absurd h he), fun _ => by unfold firstE; split; (rename_i he; exact (hm3 he).trans (ifR_neg (by omega))); (rename_i he; exact hmb3 he)⟩ ⟨rfl, rfl, trivial⟩ (List.Perm.refl _)
        · refine St.guard_yes rfl rfl ?_
          refine St.move rfl rfl ?_
          refine St.guard_yes rfl rfl ?_
          refine St.move rfl rfl ?_
          refine St.guard_yes rfl rfl ?_
          first | refine St.andN rfl rfl rfl (by omega) (by omega) ?_ | refine St.andI rfl rfl rfl ?_
          refine St.guard_yes rfl rfl ?_
          refine St.neq rfl rfl rfl ?_
          refine St.pick_false rfl rfl rfl ?_
          refine St.done ?_
          refine SX.seq ?_
          refine SC.condp rfl (fun c24 => ?_) (fun c24 => ?_)
          · exact absurd (by rw [and_compl (show n + m = 65535 by omega)]; rfl) c24
          · refine SC.skip ?_
            exact SX.some e ⟨fun h => (hm3 h).trans (ifR_pos (by omega)), hmb3⟩ ⟨rfl, rfl, trivial⟩ (List.Perm.refl _)
    · refine SC.plain ?_
      refine St.move rfl rfl ?_
      refine St.call [_, _] rfl (by kernel_rfl) rfl (wtake_spec w0 L p q rv ov bs most ((at_ + 7) / 8 * 8 + 16) out 0 Eo hR2 16 (by omega)) (fun _ _ _ _ h => h.nil) ?_
      rintro r3 L3 (⟨h2, rfl, rfl⟩ | ⟨h2, rfl, rfl⟩)
      · have hm2 := hm1.trans (bind_of (takeR_ok h2))
        have ht2 := take_lt bs ((at_ + 7) / 8 * 8 + 16) 16
        refine St.assign rfl rfl ?_
        refine St.done ?_
        exact SX.some (_, _, _, 0) ⟨h2, ht1, ht2, fun _ => hm2, fun h => absurd rfl h⟩ ⟨rfl, rfl, rfl, trivial⟩ (List.Perm.refl _)
      · have hm2 := hm1.trans (bind_bad (takeR_bad h2))
        rw [first_zero]
        refine St.assign rfl rfl ?_
        refine St.done ?_
        exact SX.some (_, 0, (at_ + 7) / 8 * 8 + 16, 4) ⟨h1, ht1, by simp only; omega, fun h => absurd (show (4 : Int) = 0 from h) (by decide), fun _ => hm2⟩ ⟨rfl, rfl, rfl, trivial⟩ (List.Perm.refl _)
  · have hm1 := hm0.trans (bind_bad (takeR_bad h1))
    rw [first_zero]
    refine St.assign rfl rfl ?_
    refine St.done ?_
    refine SX.seq ?_
    refine SC.join (α := Nat × Nat × Nat × Int) (fun s_ => s_.2.2.1 ≤ 8 * bs.length ∧ s_.1 < 65536 ∧ s_.2.1 < 65536 ∧ (s_.2.2.2 = 0 → storedR bs most at_ out = (if s_.1 + s_.2.1 = 65535 then storedBody s_.1 else failR 3) bs most s_.2.2.1 out) ∧ (s_.2.2.2 ≠ 0 → storedR bs most at_ out = .bad s_.2.2.2)) (fun s_ => [(0, .pointer (some ⟨p, 0, none⟩)), (2, .int .i64 ((s_.1 : Nat) : Int)), (3, .int .i64 ((s_.2.1 : Nat) : Int))]) (fun s_ => WkL p q rv ov s_.2.2.1 most s_.2.2.2 Eo L) ?_ ?_
    · rintro ⟨n, m, t, e⟩ ⟨ht, hn, hmm, hm3, hmb3⟩
      simp only at ht hn hmm hm3 hmb3
      show SC _ _ _ [(0, .pointer (some ⟨p, 0, none⟩)), (2, .int .i64 ((n : Nat) : Int)), (3, .int .i64 ((m : Nat) : Int))] (WkL p q rv ov t most e Eo L)
      unfold WkL
      refine SC.join (α := Int) (fun e1 => (e1 = 0 → storedR bs most at_ out = storedBody n bs most t out) ∧ (e1 ≠ 0 → storedR bs most at_ out = .bad e1)) (fun _ => [(0, .pointer (some ⟨p, 0, none⟩)), (2, .int .i64 ((n : Nat) : Int))]) (fun e1 => WkL p q rv ov t most e1 Eo L) ?_ ?_
      · rintro e1 ⟨hm4, hmb4⟩
        show SC _ _ _ [(0, .pointer (some ⟨p, 0, none⟩)), (2, .int .i64 ((n : Nat) : Int))] (WkL p q rv ov t most e1 Eo L)
        refine SC.seq ?_
        refine SC.plain ?_
        refine St.assign rfl rfl ?_
        refine St.done ?_
        refine SX.seq ?_
        refine SC.block ?_
        refine SC.loop (α := Nat × Nat × List Nat × Value × Chunk × Int) (fun s_ => RIn w0 L rv bs most s_.2.1 s_.2.2.1 s_.2.2.2.1 s_.2.2.2.2.1 ∧ (s_.2.2.2.2.2 = 0 → s_.1 ≤ n ∧ storedR bs most at_ out = storedBody (n - s_.1) bs most s_.2.1 s_.2.2.1) ∧ (s_.2.2.2.2.2 ≠ 0 → storedR bs most at_ out = .bad s_.2.2.2.2.2)) (fun s_ => [(0, .pointer (some ⟨p, 0, none⟩)), (2, .int .i64 ((n : Nat) : Int)), (4, .int .i64 ((s_.1 : Nat) : Int))]) (fun s_ => WkL p q rv s_.2.2.2.1 s_.2.1 most s_.2.2.2.2.2 s_.2.2.2.2.1 L) (fun s_ => n - s_.1) (0, t, out, ov, Eo, e1) ⟨hR.to ht, fun h => ⟨Nat.zero_le _, hm4 h⟩, hmb4⟩ ⟨rfl, rfl, rfl, trivial⟩ (List.Perm.refl _) ?_
        rintro ⟨i, t3, o3, v3, E3, e3⟩ ⟨hR3, hm8, hmb8⟩
        simp only at hR3 hm8 hmb8
        show SC _ _ _ [(0, .pointer (some ⟨p, 0, none⟩)), (2, .int .i64 ((n : Nat) : Int)), (4, .int .i64 ((i : Nat) : Int))] (WkL p q rv v3 t3 most e3 E3 L)
        unfold WkL
        refine SC.seq ?_
        refine SC.seq ?_
        refine SC.plain ?_
        refine St.move rfl rfl ?_
        refine St.move rfl rfl ?_
        refine St.lss rfl rfl rfl ?_
        refine St.move rfl rfl ?_
        refine St.split 30 rfl (fun g30 => ?_) (fun g30 => ?_)
        · refine St.guard_yes rfl rfl ?_
          refine St.move rfl rfl ?_
          refine St.guard_yes rfl rfl ?_
          refine St.nilCheck rfl rfl ?_
          refine St.guard_yes rfl rfl ?_
          refine St.fieldAddr (off := 3) rfl rfl (by kernel_rfl) ?_
          refine St.guard_yes rfl rfl ?_
          refine St.load rfl rfl (by kernel_rfl) (by first | exact Holds.row mem0 rfl | exact Holds.row mem1 rfl | exact Holds.row mem2 rfl | exact Holds.row mem3 rfl | exact Holds.row mem4 rfl | exact Holds.row mem5 rfl | exact Holds.row mem6 rfl | exact Holds.row mem7 rfl | exact Holds.row mem8 rfl) ?_
          refine St.guard_yes rfl rfl ?_
          refine St.eql rfl rfl rfl ?_
          refine St.pick_true rfl rfl rfl ?_
          refine St.done ?_
          refine SX.seq ?_
          refine SC.condp rfl (fun c36 => ?_) (fun c36 => ?_)
          · obtain rfl : e3 = 0 := by omega
            obtain ⟨hin, hm8⟩ := hm8 rfl
            have hm8 := hm8.trans ((congrFun (congrFun (congrFun (congrFun (congrArg storedBody (show n - i = (n - (i + 1)) + 1 by omega)) bs) most) t3) o3).trans (body_succ _ _ _ _ _))
            refine SC.skip ?_
            refine SX.seq ?_
            refine SC.seq ?_
            refine SC.block ?_
            refine SC.seq ?_
            refine SC.plain ?_
            refine St.move rfl rfl ?_
            refine St.call [_, _] rfl (by kernel_rfl) rfl (wtake_spec w0 L p q rv v3 bs most t3 o3 0 E3 hR3 8 (by omega)) (fun _ _ _ _ h => h.nil) ?_
            rintro r4 L4 (⟨h4, rfl, rfl⟩ | ⟨h4, rfl, rfl⟩)
            · have hm9 := hm8.trans (bind_of (takeR_ok h4))
              have ht8 := take_lt bs t3 8
              have hR4 := hR3.to h4
              unfold WkL
              refine St.assign rfl rfl ?_
              refine St.done ?_
              refine SX.seq ?_
              refine SC.seq ?_
              refine SC.plain ?_
              refine St.move rfl rfl ?_
              refine St.nilCheck rfl rfl ?_
              refine St.fieldAddr (off := 3) rfl rfl (by kernel_rfl) ?_
              refine St.load rfl rfl (by kernel_rfl) (by first | exact Holds.row mem0 rfl | exact Holds.row mem1 rfl | exact Holds.row mem2 rfl | exact Holds.row mem3 rfl | exact Holds.row mem4 rfl | exact Holds.row mem5 rfl | exact Holds.row mem6 rfl | exact Holds.row mem7 rfl | exact Holds.row mem8 rfl) ?_
              refine St.eql rfl rfl rfl ?_
              refine St.done ?_
              refine SX.seq ?_
              refine SC.condp rfl (fun c45 => ?_) (fun c45 => ?_)
              · refine SC.plain ?_
                refine St.move rfl rfl ?_
                refine St.move rfl rfl ?_
                refine St.convUx un8 rfl rfl (by kernel_rfl) (by kernel_rfl) (by omega) ?_
                refine St.call [_, _] rfl (by kernel_rfl) rfl (wput_spec w0 L p q rv v3 bs most (t3 + 8) o3 0 E3 hR4 (takeN bs t3 8) (by omega)) (fun _ _ _ _ h => h.nil) ?_
                rintro r8 L8 (⟨h9, rfl⟩ | ⟨h9, v5, E5, hR5, rfl⟩)
                · have hm10 := hm9.trans (bind_bad (e := 5) (if_pos h9))
                  rw [first_zero]
                  refine St.done ?_
                  refine SX.blk ?_
                  refine SX.seq ?_
                  refine SC.plain ?_
                  refine St.move rfl rfl ?_
                  first | refine St.addN (b := 1) rfl rfl rfl (by omega) ?_ | refine St.addI rfl rfl rfl (by omega) ?_
                  refine St.assign rfl rfl ?_
                  refine St.done ?_
                  first
                    | exact SX.again (i + 1, t3 + 8, o3 ++ [takeN bs t3 8], v5, E5, 0) ⟨hR5, fun _ => ⟨by simp only; omega, hm10⟩, fun h => absurd rfl h⟩ (by simp only; omega) ⟨rfl, rfl, rfl, trivial⟩ (List.Perm.refl _)
                    | exact SX.again (i + 1, t3 + 8, o3, v3, E3, 5) ⟨hR4, fun h => absurd (show (5 : Int) = 0 from h) (by decide), fun _ => hm10⟩ (by simp only; omega) ⟨rfl, rfl, rfl, trivial⟩ (List.Perm.refl _)
                    | exact SX.again (i + 1, t3, o3, v3, E3, 4) ⟨hR3, fun h => absurd (show (4 : Int) = 0 from h) (by decide), fun _ => hm9⟩ (by simp only; omega) ⟨rfl, rfl, rfl, trivial⟩ (List.Perm.refl _)
                · have hm10 := hm9.trans (bind_of (p1 := t3 + 8) (o1 := o3 ++ [takeN bs t3 8]) (a := ()) (if_neg h9))
                  refine St.done ?_
                  refine SX.blk ?_
                  refine SX.seq ?_
                  refine SC.plain ?_
                  refine St.move rfl rfl ?_
                  first | refine St.addN (b := 1) rfl rfl rfl (by omega) ?_ | refine St.addI rfl rfl rfl (by omega) ?_
                  refine St.assign rfl rfl ?_
                  refine St.done ?_
                  first
                    | exact SX.again (i + 1, t3 + 8, o3 ++ [takeN bs t3 8], v5, E5, 0) ⟨hR5, fun _ => ⟨by simp only; omega, hm10⟩, fun h => absurd rfl h⟩ (by simp only; omega) ⟨rfl, rfl, rfl, trivial⟩ (List.Perm.refl _)
                    | exact SX.again (i + 1, t3 + 8, o3, v3, E3, 5) ⟨hR4, fun h => absurd (show (5 : Int) = 0 from h) (by decide), fun _ => hm10⟩ (by simp only; omega) ⟨rfl, rfl, rfl, trivial⟩ (List.Perm.refl _)
                    | exact SX.again (i + 1, t3, o3, v3, E3, 4) ⟨hR3, fun h => absurd (show (4 : Int) = 0 from h) (by decide), fun _ => hm9⟩ (by simp only; omega) ⟨rfl, rfl, rfl, trivial⟩ (List.Perm.refl _)
              · exfalso; omega
            · have hm9 := hm8.trans (bind_bad (takeR_bad h4))
              rw [first_zero]
              unfold WkL
              refine St.assign rfl rfl ?_
              refine St.done ?_
              refine SX.seq ?_
              refine SC.seq ?_
              refine SC.plain ?_
              refine St.move rfl rfl ?_
              refine St.nilCheck rfl rfl ?_
              refine St.fieldAddr (off := 3) rfl rfl (by kernel_rfl) ?_
              refine St.load rfl rfl (by kernel_rfl) (by first | exact Holds.row mem0 rfl | exact Holds.row mem1 rfl | exact Holds.row mem2 rfl | exact Holds.row mem3 rfl | exact Holds.row mem4 rfl | exact Holds.row mem5 rfl | exact Holds.row mem6 rfl | exact Holds.row mem7 rfl | exact Holds.row mem8 rfl) ?_
              refine St.eql rfl rfl rfl ?_
              refine St.done ?_
              refine SX.seq ?_
              refine SC.condp rfl (fun c45 => ?_) (fun c45 => ?_)
              · exfalso; omega
              · refine SC.skip ?_
                refine SX.blk ?_
                refine SX.seq ?_
                refine SC.plain ?_
                refine St.move rfl rfl ?_
                first | refine St.addN (b := 1) rfl rfl rfl (by omega) ?_ | refine St.addI rfl rfl rfl (by omega) ?_
                refine St.assign rfl rfl ?_
                refine St.done ?_
                first
                  | exact SX.again (i + 1, t3 + 8, o3 ++ [takeN bs t3 8], v5, E5, 0) ⟨hR5, fun _ => ⟨by simp only; omega, hm10⟩, fun h => absurd rfl h⟩ (by simp only; omega) ⟨rfl, rfl, rfl, trivial⟩ (List.Perm.refl _)
                  | exact SX.again (i + 1, t3 + 8, o3, v3, E3, 5) ⟨hR4, fun h => absurd (show (5 : Int) = 0 from h) (by decide), fun _ => hm10⟩ (by simp only; omega) ⟨rfl, rfl, rfl, trivial⟩ (List.Perm.refl _)
                  | exact SX.again (i + 1, t3, o3, v3, E3, 4) ⟨hR3, fun h => absurd (show (4 : Int) = 0 from h) (by decide), fun _ => hm9⟩ (by simp only; omega) ⟨rfl, rfl, rfl, trivial⟩ (List.Perm.refl _)
          · refine SC.exit ?_
            refine SX.seq_exit ?_
            refine SX.seq_exit ?_
            refine SX.hit ?_
            by_cases he0 : e3 = 0
            · obtain ⟨h1, h3⟩ := hm8 he0
              obtain rfl : i = n := by omega
              subst he0
              rw [Nat.sub_self] at h3
              exact SX.ret0 (.inr rfl) rfl (AnsW.ok h3 hR3)
            · exact SX.ret0 (.inr rfl) rfl (AnsW.bad (hmb8 he0) he0 hR3)
        · refine St.guard_no rfl rfl rfl ?_
          refine St.guard_no rfl rfl rfl ?_
          refine St.guard_no rfl rfl rfl ?_
          refine St.guard_no rfl rfl rfl ?_
          refine St.guard_no rfl rfl rfl ?_
          refine St.pick_false rfl rfl rfl ?_
          refine St.done ?_
          refine SX.seq ?_
          refine SC.cond_false rfl ?_
          refine SC.exit ?_
          refine SX.seq_exit ?_
          refine SX.seq_exit ?_
          refine SX.hit ?_
          by_cases he0 : e3 = 0
          · obtain ⟨h1, h3⟩ := hm8 he0
            obtain rfl : i = n := by omega
            subst he0
            rw [Nat.sub_self] at h3
            exact SX.ret0 (.inr rfl) rfl (AnsW.ok h3 hR3)
          · exact SX.ret0 (.inr rfl) rfl (AnsW.bad (hmb8 he0) he0 hR3)
      · refine SC.seq ?_
        refine SC.plain ?_
        refine St.move rfl rfl ?_
        refine St.move rfl rfl ?_
        first | refine St.addN rfl rfl rfl (by omega) ?_ | refine St.addI rfl rfl rfl (by omega) ?_
        refine St.neq rfl rfl rfl ?_
        refine St.move rfl rfl ?_
        refine St.split 19 rfl (fun g19 => ?_) (fun g19 => ?_)
        · refine St.guard_no rfl rfl rfl ?_
          refine St.guard_no rfl rfl rfl ?_
          refine St.guard_no rfl rfl rfl ?_
          refine St.guard_no rfl rfl rfl ?_
          refine St.pick_true rfl rfl rfl ?_
          refine St.done ?_
          refine SX.seq ?_
          refine SC.cond_true rfl ?_
          refine SC.plain ?_
          refine St.move rfl rfl ?_
          refine St.call [_, _] rfl (by kernel_rfl) rfl (wfail_spec w0 L p q rv _ most t e 3 Eo) (fun _ _ _ _ h => h.nil) ?_
          rintro r7 L7 rfl
          refine St.done ?_
          exact SX.some (firstE e 3) ⟨fun h => by unfold firstE at h; split at h; (exact absurd h (by decide)); (rename_i he; exact absurd h he), fun _ => by unfold firstE; split; (rename_i he; exact (hm3 he).trans (ifR_neg (by omega))); (rename_i he; exact hmb3 he)⟩ ⟨rfl, rfl, trivial⟩ (List.Perm.refl _)
        · refine St.guard_yes rfl rfl ?_
          refine St.move rfl rfl ?_
          refine St.guard_yes rfl rfl ?_
          refine St.move rfl rfl ?_
          refine St.guard_yes rfl rfl ?_
          first | refine St.andN rfl rfl rfl (by omega) (by omega) ?_ | refine St.andI rfl rfl rfl ?_
          refine St.guard_yes rfl rfl ?_
          refine St.neq rfl rfl rfl ?_
          refine St.pick_false rfl rfl rfl ?_
          refine St.done ?_
          refine SX.seq ?_
          refine SC.condp rfl (fun c24 => ?_) (fun c24 => ?_)
          · exact absurd (by rw [and_compl (show n + m = 65535 by omega)]; rfl) c24
          · refine SC.skip ?_
            exact SX.some e ⟨fun h => (hm3 h).trans (ifR_pos (by omega)), hmb3⟩ ⟨rfl, rfl, trivial⟩ (List.Perm.refl _)
    · refine SC.plain ?_
      refine St.move rfl rfl ?_
      refine St.call [_, _] rfl (by kernel_rfl) rfl (wtake_spec w0 L p q rv ov bs most ((at_ + 7) / 8 * 8) out 4 Eo hR1 16 (by omega)) (fun _ _ _ _ h => h.nil) ?_
      rintro r3 L3 (⟨h2, rfl, rfl⟩ | ⟨h2, rfl, rfl⟩)
      · exact absurd h2 h1
      · rw [first_old (show (4 : Int) ≠ 0 by decide)]
        refine St.assign rfl rfl ?_
        refine St.done ?_
        exact SX.some (0, 0, (at_ + 7) / 8 * 8, 4) ⟨hA8, by simp only; omega, by simp only; omega, fun h => absurd (show (4 : Int) = 0 from h) (by decide), fun _ => hm1⟩ ⟨rfl, rfl, rfl, trivial⟩ (List.Perm.refl _)
theorem wcoded_spec (w0 : World) (L : List Chunk) (p q : Nat) (rv ov : Value) (bs : List Nat) (most at_ : Nat) (out : List Nat) (Eo : Chunk) (hR : RIn w0 L rv bs most at_ out ov Eo) (ls ds : List Int) (lv dv : Value) (hl0 : codesE ls = 0) (hls : Rd w0 L lv 1 ls.length (ints ls)) (hd0 : codesE ds = 0) (hds : Rd w0 L dv 1 ds.length (ints ds)) (F : Nat) (hF : 8 * bs.length - at_ < F) :
    Meets Try.prog 165 #[.pointer (some ⟨p, 0, none⟩), lv, dv] w0 (WkL p q rv ov at_ most 0 Eo L) (fun r L' => AnsW w0 (codedR ls ds F bs most at_ out) p q rv bs most L L') := by
  have hx := hR.rd
  have hl := hR.len
  have hb := hR.lt
  have hat := hR.at_
  have hmost := hR.big
  have hroom := hR.room
  have hll := (codesE_ok hl0).2.1
  refine Meets.of_body [.pointer (some ⟨p, 0, none⟩), lv, dv] Try.func165 rfl Try.ntmps165 rfl ?_
  refine SC.block ?_
  refine SC.loop (α := Nat × Nat × List Nat × Value × Chunk × Int) (fun s_ => RIn w0 L rv bs most s_.2.1 s_.2.2.1 s_.2.2.2.1 s_.2.2.2.2.1 ∧ (s_.2.2.2.2.2 = 0 → 8 * bs.length - s_.2.1 < s_.1 ∧ codedR ls ds F bs most at_ out = codedR ls ds s_.1 bs most s_.2.1 s_.2.2.1) ∧ (s_.2.2.2.2.2 ≠ 0 → codedR ls ds F bs most at_ out = .bad s_.2.2.2.2.2)) (fun s_ => [(0, .pointer (some ⟨p, 0, none⟩)), (1, lv), (2, dv)]) (fun s_ => WkL p q rv s_.2.2.2.1 s_.2.1 most s_.2.2.2.2.2 s_.2.2.2.2.1 L) (fun s_ => s_.1) (F, at_, out, ov, Eo, 0) ⟨hR, fun _ => ⟨hF, rfl⟩, fun h => absurd rfl h⟩ ⟨rfl, rfl, rfl, trivial⟩ (List.Perm.refl _) ?_
  rintro ⟨f, t, o, v, E, e⟩ ⟨hRi, hmi, hmb⟩
  simp only at hRi hmi hmb
  show SC _ _ _ [(0, .pointer (some ⟨p, 0, none⟩)), (1, lv), (2, dv)] (WkL p q rv v t most e E L)
  unfold WkL
  refine SC.seq ?_
  refine SC.seq ?_
  refine SC.plain ?_
  refine St.move rfl rfl ?_
  refine St.nilCheck rfl rfl ?_
  refine St.fieldAddr (off := 3) rfl rfl (by kernel_rfl) ?_
  refine St.load rfl rfl (by kernel_rfl) (by first | exact Holds.row mem0 rfl | exact Holds.row mem1 rfl | exact Holds.row mem2 rfl | exact Holds.row mem3 rfl | exact Holds.row mem4 rfl | exact Holds.row mem5 rfl | exact Holds.row mem6 rfl | exact Holds.row mem7 rfl | exact Holds.row mem8 rfl) ?_
  refine St.eql rfl rfl rfl ?_
  refine St.done ?_
  refine SX.seq ?_
  refine SC.condp rfl (fun c11 => ?_) (fun c11 => ?_)
  · obtain rfl : e = 0 := by omega
    obtain ⟨hf, hmi⟩ := hmi rfl
    obtain ⟨f, rfl⟩ : ∃ k, f = k + 1 := ⟨f - 1, by omega⟩
    rw [coded_succ] at hmi
    refine SC.skip ?_
    refine SX.seq ?_
    refine SC.block ?_
    refine SC.seq ?_
    refine SC.plain ?_
    refine St.move rfl rfl ?_
    refine St.move rfl rfl ?_
    refine St.call [_, _] rfl (by kernel_rfl) rfl (wsymbol_spec w0 L p q rv v bs most t o 0 E hRi ls lv hl0 hls) (fun _ _ _ _ h => h.nil) ?_
    rintro r3 L3 (⟨h0, _⟩ | ⟨_, d, t2, hg2, hd1, hd2, hd3, rfl, rfl⟩ | ⟨_, e5, n2, t5, hg2, hne, hd2, hd3, rfl, rfl⟩)
    · exact absurd rfl h0
    · have hm2 := hmi.trans (bind_of hg2)
      have hR2 := hRi.to hd3
      unfold WkL
      refine St.assign rfl rfl ?_
      refine St.done ?_
      refine SX.seq ?_
      refine SC.block ?_
      refine SC.seq ?_
      refine SC.plain ?_
      refine St.move rfl rfl ?_
      refine St.nilCheck rfl rfl ?_
      refine St.fieldAddr (off := 3) rfl rfl (by kernel_rfl) ?_
      refine St.load rfl rfl (by kernel_rfl) (by first | exact Holds.row mem0 rfl | exact Holds.row mem1 rfl | exact Holds.row mem2 rfl | exact Holds.row mem3 rfl | exact Holds.row mem4 rfl | exact Holds.row mem5 rfl | exact Holds.row mem6 rfl | exact Holds.row mem7 rfl | exact Holds.row mem8 rfl) ?_
      refine St.neq rfl rfl rfl ?_
      refine St.assign rfl rfl ?_
      refine St.done ?_
      refine SX.seq ?_
      refine SC.condp rfl (fun c19 => ?_) (fun c19 => ?_)
      · exfalso; omega
      · refine SC.seq ?_
        refine SC.plain ?_
        refine St.move rfl rfl ?_
        refine St.lss rfl rfl rfl ?_
        refine St.assign rfl rfl ?_
        refine St.done ?_
        refine SX.seq ?_
        refine SC.condp rfl (fun c25 => ?_) (fun c25 => ?_)
        · have hm3 := hm2.trans (ifR_pos (by omega))
          rw [Int.toNat_natCast] at hm3
          refine SC.plain ?_
          refine St.move rfl rfl ?_
          refine St.move rfl rfl ?_
          refine St.convUx un8 rfl rfl (by kernel_rfl) (by kernel_rfl) (by omega) ?_
          refine St.call [_, _] rfl (by kernel_rfl) rfl (wput_spec w0 L p q rv v bs most t2 o 0 E hR2 d (by omega)) (fun _ _ _ _ h => h.nil) ?_
          rintro r8 L8 (⟨h9, rfl⟩ | ⟨h9, v5, E5, hR5, rfl⟩)
          · have hm7 := hm3.trans (bind_bad (e := 5) (if_pos h9))
            rw [first_zero]
            refine St.done ?_
            refine SX.blk ?_
            refine SX.blk ?_
            first
              | exact SX.again (f, t2, o5, v5, E5, 0) ⟨hR5, fun _ => ⟨by simp only; omega, hm7⟩, fun h => absurd rfl h⟩ (by simp only; omega) ⟨rfl, rfl, rfl, trivial⟩ (List.Perm.refl _)
              | exact SX.again (f, t5, o5, v5, E5, 0) ⟨hR5, fun _ => ⟨by simp only; omega, hm7⟩, fun h => absurd rfl h⟩ (by simp only; omega) ⟨rfl, rfl, rfl, trivial⟩ (List.Perm.refl _)
              | exact SX.again (f, t2, o, v, E, 5) ⟨hR2, fun h => absurd (show (5 : Int) = 0 from h) (by decide), fun _ => hm7⟩ (by simp only; omega) ⟨rfl, rfl, rfl, trivial⟩ (List.Perm.refl _)
              | exact SX.again (f, t5, o, v, E, e5) ⟨hRi.to hd3, fun h => absurd h hne, fun _ => hm7⟩ (by simp only; omega) ⟨rfl, rfl, rfl, trivial⟩ (List.Perm.refl _)
              | exact SX.again (f, t5, o5, v5, E5, e5) ⟨hR5, fun h => absurd h hne, fun _ => hm7⟩ (by simp only; omega) ⟨rfl, rfl, rfl, trivial⟩ (List.Perm.refl _)
          · have hm7 := hm3.trans (bind_of (p1 := t2) (o1 := o ++ [d]) (a := ()) (if_neg h9))
            obtain ⟨o5, ho5⟩ : ∃ o5, o5 = o ++ [d] := ⟨_, rfl⟩
            rw [← ho5] at hm7 hR5
            refine St.done ?_
            refine SX.blk ?_
            refine SX.blk ?_
            first
              | exact SX.again (f, t2, o5, v5, E5, 0) ⟨hR5, fun _ => ⟨by simp only; omega, hm7⟩, fun h => absurd rfl h⟩ (by simp only; omega) ⟨rfl, rfl, rfl, trivial⟩ (List.Perm.refl _)
              | exact SX.again (f, t5, o5, v5, E5, 0) ⟨hR5, fun _ => ⟨by simp only; omega, hm7⟩, fun h => absurd rfl h⟩ (by simp only; omega) ⟨rfl, rfl, rfl, trivial⟩ (List.Perm.refl _)
              | exact SX.again (f, t2, o, v, E, 5) ⟨hR2, fun h => absurd (show (5 : Int) = 0 from h) (by decide), fun _ => hm7⟩ (by simp only; omega) ⟨rfl, rfl, rfl, trivial⟩ (List.Perm.refl _)
              | exact SX.again (f, t5, o, v, E, e5) ⟨hRi.to hd3, fun h => absurd h hne, fun _ => hm7⟩ (by simp only; omega) ⟨rfl, rfl, rfl, trivial⟩ (List.Perm.refl _)
              | exact SX.again (f, t5, o5, v5, E5, e5) ⟨hR5, fun h => absurd h hne, fun _ => hm7⟩ (by simp only; omega) ⟨rfl, rfl, rfl, trivial⟩ (List.Perm.refl _)
        · have hm3 := hm2.trans (ifR_neg (by omega))
          refine SC.seq ?_
          refine SC.plain ?_
          refine St.move rfl rfl ?_
          refine St.eql rfl rfl rfl ?_
          refine St.assign rfl rfl ?_
          refine St.done ?_
          refine SX.seq ?_
          refine SC.condp rfl (fun c32 => ?_) (fun c32 => ?_)
          · have hm4 := hm3.trans (ifR_pos (by omega))
            refine SC.ret ?_
            refine SX.blk_ret ?_
            refine SX.blk_ret ?_
            refine SX.seq_ret ?_
            refine SX.blk_ret ?_
            exact SX.ret0 (.inl rfl) rfl (AnsW.ok hm4 hR2)
          · have hm4 := hm3.trans (ifR_neg (by omega))
            rw [Int.toNat_natCast] at hm4
            refine SC.plain ?_
            refine St.move rfl rfl ?_
            refine St.move rfl rfl ?_
            refine St.move rfl rfl ?_
            have hmq : codedR ls ds F bs most at_ out = bindR (matchQ ds d) (fun _ => codedR ls ds f) bs most t2 o := by
              rw [hm4]
              unfold matchQ
              by_cases h6 : 286 ≤ d
              · rw [ifR_pos (show (286 : Int) ≤ (d : Int) by omega)]; exact (bind_bad (e := 3) (ifR_pos h6)).symm
              · rw [ifR_neg (show ¬ (286 : Int) ≤ (d : Int) by omega)]; exact bind_eq (ifR_neg h6).symm
            refine St.call [_, _, _] rfl (by kernel_rfl) rfl (wmatch_spec w0 L p q rv v bs most t2 o E hR2 d ds dv (by omega) (by omega) hd0 hds) (fun _ _ _ _ h => h.nil) ?_
            rintro r8 L8 h8
            rcases h8.cases with ⟨a5, t5, o5, v5, E5, hg5, hR5, rfl⟩ | ⟨e5, t5, o5, v5, E5, hg5, hne, hR5, rfl⟩
            · have hm7 := hmq.trans (bind_of hg5)
              have hgl := (Good.mono (good_if (good_fail 3) (good_match ds d)) hg5 hR2.at_).1
              refine St.done ?_
              refine SX.blk ?_
              refine SX.blk ?_
              first
                | exact SX.again (f, t2, o5, v5, E5, 0) ⟨hR5, fun _ => ⟨by simp only; omega, hm7⟩, fun h => absurd rfl h⟩ (by simp only; omega) ⟨rfl, rfl, rfl, trivial⟩ (List.Perm.refl _)
                | exact SX.again (f, t5, o5, v5, E5, 0) ⟨hR5, fun _ => ⟨by simp only; omega, hm7⟩, fun h => absurd rfl h⟩ (by simp only; omega) ⟨rfl, rfl, rfl, trivial⟩ (List.Perm.refl _)
                | exact SX.again (f, t2, o, v, E, 5) ⟨hR2, fun h => absurd (show (5 : Int) = 0 from h) (by decide), fun _ => hm7⟩ (by simp only; omega) ⟨rfl, rfl, rfl, trivial⟩ (List.Perm.refl _)
                | exact SX.again (f, t5, o, v, E, e5) ⟨hRi.to hd3, fun h => absurd h hne, fun _ => hm7⟩ (by simp only; omega) ⟨rfl, rfl, rfl, trivial⟩ (List.Perm.refl _)
                | exact SX.again (f, t5, o5, v5, E5, e5) ⟨hR5, fun h => absurd h hne, fun _ => hm7⟩ (by simp only; omega) ⟨rfl, rfl, rfl, trivial⟩ (List.Perm.refl _)
            · have hm7 := hmq.trans (bind_bad hg5)
              refine St.done ?_
              refine SX.blk ?_
              refine SX.blk ?_
              first
                | exact SX.again (f, t2, o5, v5, E5, 0) ⟨hR5, fun _ => ⟨by simp only; omega, hm7⟩, fun h => absurd rfl h⟩ (by simp only; omega) ⟨rfl, rfl, rfl, trivial⟩ (List.Perm.refl _)
                | exact SX.again (f, t5, o5, v5, E5, 0) ⟨hR5, fun _ => ⟨by simp only; omega, hm7⟩, fun h => absurd rfl h⟩ (by simp only; omega) ⟨rfl, rfl, rfl, trivial⟩ (List.Perm.refl _)
                | exact SX.again (f, t2, o, v, E, 5) ⟨hR2, fun h => absurd (show (5 : Int) = 0 from h) (by decide), fun _ => hm7⟩ (by simp only; omega) ⟨rfl, rfl, rfl, trivial⟩ (List.Perm.refl _)
                | exact SX.again (f, t5, o, v, E, e5) ⟨hRi.to hd3, fun h => absurd h hne, fun _ => hm7⟩ (by simp only; omega) ⟨rfl, rfl, rfl, trivial⟩ (List.Perm.refl _)
                | exact SX.again (f, t5, o5, v5, E5, e5) ⟨hR5, fun h => absurd h hne, fun _ => hm7⟩ (by simp only; omega) ⟨rfl, rfl, rfl, trivial⟩ (List.Perm.refl _)
    · have hm7 := hmi.trans (bind_bad hg2)
      unfold WkL
      refine St.assign rfl rfl ?_
      refine St.done ?_
      refine SX.seq ?_
      refine SC.block ?_
      refine SC.seq ?_
      refine SC.plain ?_
      refine St.move rfl rfl ?_
      refine St.nilCheck rfl rfl ?_
      refine St.fieldAddr (off := 3) rfl rfl (by kernel_rfl) ?_
      refine St.load rfl rfl (by kernel_rfl) (by first | exact Holds.row mem0 rfl | exact Holds.row mem1 rfl | exact Holds.row mem2 rfl | exact Holds.row mem3 rfl | exact Holds.row mem4 rfl | exact Holds.row mem5 rfl | exact Holds.row mem6 rfl | exact Holds.row mem7 rfl | exact Holds.row mem8 rfl) ?_
      refine St.neq rfl rfl rfl ?_
      refine St.assign rfl rfl ?_
      refine St.done ?_
      refine SX.seq ?_
      refine SC.condp rfl (fun c19 => ?_) (fun c19 => ?_)
      · refine SC.skip ?_
        refine SX.blk ?_
        refine SX.blk ?_
        first
          | exact SX.again (f, t2, o5, v5, E5, 0) ⟨hR5, fun _ => ⟨by simp only; omega, hm7⟩, fun h => absurd rfl h⟩ (by simp only; omega) ⟨rfl, rfl, rfl, trivial⟩ (List.Perm.refl _)
          | exact SX.again (f, t5, o5, v5, E5, 0) ⟨hR5, fun _ => ⟨by simp only; omega, hm7⟩, fun h => absurd rfl h⟩ (by simp only; omega) ⟨rfl, rfl, rfl, trivial⟩ (List.Perm.refl _)
          | exact SX.again (f, t2, o, v, E, 5) ⟨hR2, fun h => absurd (show (5 : Int) = 0 from h) (by decide), fun _ => hm7⟩ (by simp only; omega) ⟨rfl, rfl, rfl, trivial⟩ (List.Perm.refl _)
          | exact SX.again (f, t5, o, v, E, e5) ⟨hRi.to hd3, fun h => absurd h hne, fun _ => hm7⟩ (by simp only; omega) ⟨rfl, rfl, rfl, trivial⟩ (List.Perm.refl _)
          | exact SX.again (f, t5, o5, v5, E5, e5) ⟨hR5, fun h => absurd h hne, fun _ => hm7⟩ (by simp only; omega) ⟨rfl, rfl, rfl, trivial⟩ (List.Perm.refl _)
      · exfalso; omega
  · refine SC.exit ?_
    refine SX.seq_exit ?_
    refine SX.seq_exit ?_
    refine SX.hit ?_
    exact SX.ret0 (.inr rfl) rfl (AnsW.bad (hmb (by omega)) (by omega) hRi)
end Go.Proofs.Ytahafepgmkiabaa
