/- Walks: the law StreamEnds. -/
import Derived.Test.YtahafepgmkiabaaV6
import Derived.Test.YtahafepgmkiabaaV8
set_option linter.unusedVariables false
set_option linter.unusedSimpArgs false
set_option linter.ambiguousOpen false
namespace Go.Proofs.Ytahafepgmkiabaa
open Go Go.Proofs.Ytahafepgmkiabaa.Sep

structure Sd where
  p : Nat
  e : En
  ov : Value
  iv : Value
  at_ : Int
  Eo : Chunk
  Ei : Chunk
def Sd.B (S : Sd) : Prop := EnB S.e S.ov S.iv S.at_ S.Eo S.Ei
def endL (b3 k : Nat) (K J : Sd) (T : List Chunk) : List Chunk :=
  [⟨b3, two k (.pointer (some ⟨K.p, 0, none⟩)) (.pointer (some ⟨J.p, 0, none⟩)), 80⟩] :: EnL K.p K.e K.ov K.iv K.at_ K.Eo K.Ei (EnL J.p J.e J.ov J.iv J.at_ J.Eo J.Ei T)
theorem endL_sel {b3 k : Nat} (hk : k < 2) (K J : Sd) (T : List Chunk) : (endL b3 k K J T).flatten.Perm (endL b3 0 (sel k K J) (sel k J K) T).flatten := by
  have : k = 0 ∨ k = 1 := by omega
  rcases this with rfl | rfl
  · exact List.Perm.refl _
  · exact perm_idx [[[⟨b3, two 1 (.pointer (some ⟨K.p, 0, none⟩)) (.pointer (some ⟨J.p, 0, none⟩)), 80⟩]], EnL K.p K.e K.ov K.iv K.at_ K.Eo K.Ei [], EnL J.p J.e J.ov J.iv J.at_ J.Eo J.Ei []] T [0, 2, 1] (by kernel_rfl)
theorem sel_e (k : Nat) (K J : Sd) : (sel k K J).e = sel k K.e J.e := by unfold sel; split <;> rfl
theorem sel_B {k : Nat} {K J : Sd} (h : K.B) (h' : J.B) : (sel k K J).B := by unfold sel; split <;> assumption
theorem Md.next {R i : Nat} {now : Int} {e0 e1 : En} {k : Nat} (hk : k < 2) {f0 f1 K J : En} (h : Md R i now e0 e1 k f0 f1) (t : Turn R i now (sel k f0 f1) (sel k f1 f0) K J) : Md R i now e0 e1 (k + 1) (sel k K J) (sel k J K) := by
  rcases h with ⟨rfl, rfl, rfl⟩ | ⟨rfl, h⟩ | ⟨rfl, _⟩
  · exact .inr (.inl ⟨rfl, t⟩)
  · exact .inr (.inr ⟨rfl, f0, f1, h, t⟩)
  · omega
theorem take_next {l d : List (List Nat)} {s : List Nat} {j : Nat} (hd : d = l.take j) (hs : l[j]? = some s) : d ++ [s] = l.take (j + 1) := by
  rw [List.take_add_one, hs, hd]; rfl
theorem outp_few20 (e : En) (now : Int) : (e.outp now).2.length ≤ 13 := by
  unfold En.outp
  split
  · split <;> simp
  · split
    · rw [sends_eq]
      have := pieces_few (e.back now) 11 (e.back now).next
      have h1 : (acksOf (e.back now)).length ≤ 1 := by unfold acksOf; split <;> simp
      have h2 : (finsOf (e.back now)).length ≤ 1 := by unfold finsOf; split <;> simp
      simp only [List.length_append]
      omega
    · simp
theorem clock20 {i : Nat} (h : i ≤ 1000) : Clock ((8 * i : Nat) : Int) := by unfold Clock; omega
theorem bool_get {bs : List Bool} {n : Nat} (h : n < bs.length) : (bs.map Value.bool)[n]? = some (.bool (bs.getD n false)) := by
  rw [List.getElem?_map, List.getElem?_eq_getElem h, List.getD_eq_getElem?_getD, List.getElem?_eq_getElem h]; rfl

theorem streamEnds_spec (w0 : World) (L : List Chunk) (va vb vl : Value) (a b : List Nat) (bs : List Bool) (rounds : Int) (hva : Rd w0 L va 1 a.length (bytes a)) (hvb : Rd w0 L vb 1 b.length (bytes b)) (hba : ∀ x ∈ a, x < 256) (hbb : ∀ x ∈ b, x < 256) (hla : a.length ≤ 140737488351232) (hlb : b.length ≤ 140737488351232)
    (hvl : Rd w0 [] vl 1 bs.length (bs.map Value.bool)) (hll : bs.length ≤ 140737488351232) (hr : -9223372036854775808 ≤ rounds ∧ rounds ≤ 9223372036854775807) :
    Meets Try.prog 20 #[va, vb, vl, .int .i64 rounds] w0 L (fun r L' => r = .bool true) := by
  obtain ⟨_, bl, ol, Al, cl, rfl, hAl, hhl⟩ := hvl
  obtain ⟨Aa, ca, hAa⟩ : ∃ A c, va = .slice A a.length c := by obtain ⟨_, _, _, A, c, h, _, _⟩ := hva; exact ⟨A, c, h⟩
  obtain ⟨Ab_, cb_, hAb_⟩ : ∃ A c, vb = .slice A b.length c := by obtain ⟨_, _, _, A, c, h, _, _⟩ := hvb; exact ⟨A, c, h⟩
  subst hAa hAb_
  refine Meets.of_body [.slice Aa a.length ca, .slice Ab_ b.length cb_, .slice Al bs.length cl, .int .i64 rounds] Try.func20 rfl Try.ntmps20 rfl ?_
  refine SC.seq ?_
  refine SC.plain ?_
  refine St.assign rfl rfl ?_
  refine St.done ?_
  refine SX.seq ?_
  refine SC.seq ?_
  refine SC.seq ?_
  refine SC.plain ?_
  refine St.move rfl rfl ?_
  refine St.lenSl rfl rfl (by kernel_rfl) ?_
  refine St.move rfl rfl ?_
  refine St.lenSl rfl rfl (by kernel_rfl) ?_
  first | refine St.addN rfl rfl rfl (by omega) ?_ | refine St.addI rfl rfl rfl (by omega) ?_
  refine St.gtr rfl rfl rfl ?_
  refine St.done ?_
  refine SX.seq ?_
  refine SC.condp rfl (fun c23 => ?_) (fun c23 => ?_)
  · refine SC.seq ?_
    refine SC.plain ?_
    refine St.call [] rfl (by kernel_rfl) rfl (awake18_spec w0 _) (by first | exact fun _ _ _ _ h => h.nil | assumption) ?_
    rintro r2 L1 ⟨rfl, rfl⟩
    refine St.assign rfl rfl ?_
    refine St.done ?_
    refine SX.seq ?_
    refine SC.ret ?_
    refine SX.seq_ret ?_
    exact SX.ret1 rfl rfl rfl
  · have hab : a.length + b.length ≤ 30000 := by omega
    refine SC.skip ?_
    refine SX.seq ?_
    refine SC.seq ?_
    refine SC.plain ?_
    refine St.call [.int .i64 9] rfl (by kernel_rfl) rfl (dial_spec w0 L 9) (by first | exact fun _ _ _ _ h => h.nil | assumption) ?_
    rintro r1 L1 ⟨p0, rfl, ov0, iv0, at0, Eo0, Ei0, hB0, rfl⟩
    refine St.call [.int .i64 9] rfl (by kernel_rfl) rfl (listen_spec w0 _ 9) (by first | exact fun _ _ _ _ h => h.nil | assumption) ?_
    rintro r1 L1 ⟨p1, rfl, ov1, iv1, at1, Eo1, Ei1, hB1, rfl⟩
    refine St.buildSl (e := 80) [(0, .pointer (some ⟨p0, 0, none⟩)), (1, .pointer (some ⟨p1, 0, none⟩))] [.pointer (some ⟨p0, 0, none⟩), .pointer (some ⟨p1, 0, none⟩)] rfl rfl (by kernel_rfl) (fun _ _ h => h.nil) (fun b3 => ?_)
    refine St.assign rfl rfl ?_
    refine St.done ?_
    refine SX.seq ?_
    refine SC.seq ?_
    refine SC.seq ?_
    refine SC.plain ?_
    refine St.move rfl rfl ?_
    refine St.indexSl (e := 80) (sz := 1) rfl rfl rfl (by kernel_rfl) (by omega) ?_
    refine St.load rfl rfl (by kernel_rfl) (Holds.row mem0 rfl) ?_
    refine St.ptrEql rfl rfl rfl (by kernel_rfl) ?_
    refine St.move rfl rfl ?_
    refine St.guard_yes rfl rfl ?_
    refine St.move rfl rfl ?_
    refine St.guard_yes rfl rfl ?_
    refine St.indexSl (e := 80) (sz := 1) rfl rfl rfl (by kernel_rfl) (by omega) ?_
    refine St.guard_yes rfl rfl ?_
    refine St.load rfl rfl (by kernel_rfl) (Holds.row mem0 rfl) ?_
    refine St.guard_yes rfl rfl ?_
    refine St.ptrEql rfl rfl rfl (by kernel_rfl) ?_
    refine St.pick_false rfl rfl rfl ?_
    refine St.move rfl rfl ?_
    refine St.guard_yes rfl rfl ?_
    refine St.move rfl rfl ?_
    refine St.guard_yes rfl rfl ?_
    refine St.indexSl (e := 80) (sz := 1) rfl rfl rfl (by kernel_rfl) (by omega) ?_
    refine St.guard_yes rfl rfl ?_
    refine St.load rfl rfl (by kernel_rfl) (Holds.row mem0 rfl) ?_
    refine St.guard_yes rfl rfl ?_
    refine St.move rfl rfl ?_
    refine St.guard_yes rfl rfl ?_
    refine St.perm (EnL p0 (enNew 9 1) ov0 iv0 at0 Eo0 Ei0 ([⟨b3, [.pointer (some ⟨p0, 0, none⟩), .pointer (some ⟨p1, 0, none⟩)], 80⟩] :: EnL p1 (enNew 9 2) ov1 iv1 at1 Eo1 Ei1 (L))) (perm_idx [[[⟨b3, [.pointer (some ⟨p0, 0, none⟩), .pointer (some ⟨p1, 0, none⟩)], 80⟩]], EnL p1 (enNew 9 2) ov1 iv1 at1 Eo1 Ei1 [], EnL p0 (enNew 9 1) ov0 iv0 at0 Eo0 Ei0 []] (L) [2, 0, 1] (by kernel_rfl)) ?_
    refine St.call [_, _] rfl (by kernel_rfl) rfl (write18_spec w0 _ p0 _ _ _ _ _ _ hB0 _ a (Rd.mono hva (fun w hw => hw.sub (sub_flat (.cons _ (.cons _ (.cons _ (.cons _ (List.Sublist.refl _)))))))) (by omega) hba) (fun _ _ _ _ h => h.nil) ?_
    rw [full_write (.inl rfl) (by omega)]
    rintro r4 L1 ⟨rfl, ov2, iv2, at2, Eo2, Ei2, hB2, rfl⟩
    refine St.perm ([⟨b3, [.pointer (some ⟨p0, 0, none⟩), .pointer (some ⟨p1, 0, none⟩)], 80⟩] :: EnL p0 { enNew 9 1 with out := a } ov2 iv2 at2 Eo2 Ei2 (EnL p1 (enNew 9 2) ov1 iv1 at1 Eo1 Ei1 (L))) (perm_idx [EnL p0 { enNew 9 1 with out := a } ov2 iv2 at2 Eo2 Ei2 [], [[⟨b3, [.pointer (some ⟨p0, 0, none⟩), .pointer (some ⟨p1, 0, none⟩)], 80⟩]], EnL p1 (enNew 9 2) ov1 iv1 at1 Eo1 Ei1 []] (L) [1, 0, 2] (by kernel_rfl)) ?_
    refine St.guard_yes rfl rfl ?_
    refine St.neq rfl rfl rfl ?_
    refine St.pick_false rfl rfl rfl ?_
    refine St.move rfl rfl ?_
    refine St.split 46 rfl (fun g46 => ?_) (fun g46 => ?_)
    · exact absurd rfl g46
    · refine St.guard_yes rfl rfl ?_
      refine St.move rfl rfl ?_
      refine St.guard_yes rfl rfl ?_
      refine St.indexSl (e := 80) (sz := 1) rfl rfl rfl (by kernel_rfl) (by omega) ?_
      refine St.guard_yes rfl rfl ?_
      refine St.load rfl rfl (by kernel_rfl) (Holds.row mem0 rfl) ?_
      refine St.guard_yes rfl rfl ?_
      refine St.move rfl rfl ?_
      refine St.guard_yes rfl rfl ?_
      refine St.perm (EnL p1 (enNew 9 2) ov1 iv1 at1 Eo1 Ei1 ([⟨b3, [.pointer (some ⟨p0, 0, none⟩), .pointer (some ⟨p1, 0, none⟩)], 80⟩] :: EnL p0 { enNew 9 1 with out := a } ov2 iv2 at2 Eo2 Ei2 (L))) (perm_idx [[[⟨b3, [.pointer (some ⟨p0, 0, none⟩), .pointer (some ⟨p1, 0, none⟩)], 80⟩]], EnL p0 { enNew 9 1 with out := a } ov2 iv2 at2 Eo2 Ei2 [], EnL p1 (enNew 9 2) ov1 iv1 at1 Eo1 Ei1 []] (L) [2, 0, 1] (by kernel_rfl)) ?_
      refine St.call [_, _] rfl (by kernel_rfl) rfl (write18_spec w0 _ p1 _ _ _ _ _ _ hB1 _ b (Rd.mono hvb (fun w hw => hw.sub (sub_flat (.cons _ (.cons _ (.cons _ (.cons _ (List.Sublist.refl _)))))))) (by omega) hbb) (fun _ _ _ _ h => h.nil) ?_
      rw [full_write (.inr rfl) (by omega)]
      rintro r4 L1 ⟨rfl, ov3, iv3, at3, Eo3, Ei3, hB3, rfl⟩
      refine St.perm ([⟨b3, [.pointer (some ⟨p0, 0, none⟩), .pointer (some ⟨p1, 0, none⟩)], 80⟩] :: EnL p0 { enNew 9 1 with out := a } ov2 iv2 at2 Eo2 Ei2 (EnL p1 { enNew 9 2 with out := b } ov3 iv3 at3 Eo3 Ei3 (L))) (perm_idx [EnL p1 { enNew 9 2 with out := b } ov3 iv3 at3 Eo3 Ei3 [], [[⟨b3, [.pointer (some ⟨p0, 0, none⟩), .pointer (some ⟨p1, 0, none⟩)], 80⟩]], EnL p0 { enNew 9 1 with out := a } ov2 iv2 at2 Eo2 Ei2 []] (L) [1, 2, 0] (by kernel_rfl)) ?_
      refine St.guard_yes rfl rfl ?_
      refine St.neq rfl rfl rfl ?_
      refine St.pick_false rfl rfl rfl ?_
      refine St.move rfl rfl ?_
      refine St.split 54 rfl (fun g54 => ?_) (fun g54 => ?_)
      · exact absurd rfl g54
      · refine St.guard_yes rfl rfl ?_
        refine St.move rfl rfl ?_
        refine St.guard_yes rfl rfl ?_
        refine St.indexSl (e := 80) (sz := 1) rfl rfl rfl (by kernel_rfl) (by omega) ?_
        refine St.guard_yes rfl rfl ?_
        refine St.load rfl rfl (by kernel_rfl) (Holds.row mem0 rfl) ?_
        refine St.guard_yes rfl rfl ?_
        refine St.perm (EnL p0 { enNew 9 1 with out := a } ov2 iv2 at2 Eo2 Ei2 ([⟨b3, [.pointer (some ⟨p0, 0, none⟩), .pointer (some ⟨p1, 0, none⟩)], 80⟩] :: EnL p1 { enNew 9 2 with out := b } ov3 iv3 at3 Eo3 Ei3 (L))) (perm_idx [[[⟨b3, [.pointer (some ⟨p0, 0, none⟩), .pointer (some ⟨p1, 0, none⟩)], 80⟩]], EnL p0 { enNew 9 1 with out := a } ov2 iv2 at2 Eo2 Ei2 [], EnL p1 { enNew 9 2 with out := b } ov3 iv3 at3 Eo3 Ei3 []] (L) [1, 0, 2] (by kernel_rfl)) ?_
        refine St.call [_] rfl (by kernel_rfl) rfl (close18_spec w0 _ p0 _ _ _ _ _ _ hB2) (fun _ _ _ _ h => h.nil) ?_
        rw [full_close (.inl rfl)]
        rintro r4 L1 ⟨rfl, ov4, iv4, at4, Eo4, Ei4, hB4, rfl⟩
        refine St.perm ([⟨b3, [.pointer (some ⟨p0, 0, none⟩), .pointer (some ⟨p1, 0, none⟩)], 80⟩] :: EnL p0 (enFull 1 a) ov4 iv4 at4 Eo4 Ei4 (EnL p1 { enNew 9 2 with out := b } ov3 iv3 at3 Eo3 Ei3 (L))) (perm_idx [EnL p0 (enFull 1 a) ov4 iv4 at4 Eo4 Ei4 [], [[⟨b3, [.pointer (some ⟨p0, 0, none⟩), .pointer (some ⟨p1, 0, none⟩)], 80⟩]], EnL p1 { enNew 9 2 with out := b } ov3 iv3 at3 Eo3 Ei3 []] (L) [1, 0, 2] (by kernel_rfl)) ?_
        refine St.guard_yes rfl rfl ?_
        refine St.neq rfl rfl rfl ?_
        refine St.pick_false rfl rfl rfl ?_
        refine St.move rfl rfl ?_
        refine St.split 61 rfl (fun g61 => ?_) (fun g61 => ?_)
        · exact absurd rfl g61
        · refine St.guard_yes rfl rfl ?_
          refine St.move rfl rfl ?_
          refine St.guard_yes rfl rfl ?_
          refine St.indexSl (e := 80) (sz := 1) rfl rfl rfl (by kernel_rfl) (by omega) ?_
          refine St.guard_yes rfl rfl ?_
          refine St.load rfl rfl (by kernel_rfl) (Holds.row mem0 rfl) ?_
          refine St.guard_yes rfl rfl ?_
          refine St.perm (EnL p1 { enNew 9 2 with out := b } ov3 iv3 at3 Eo3 Ei3 ([⟨b3, [.pointer (some ⟨p0, 0, none⟩), .pointer (some ⟨p1, 0, none⟩)], 80⟩] :: EnL p0 (enFull 1 a) ov4 iv4 at4 Eo4 Ei4 (L))) (perm_idx [[[⟨b3, [.pointer (some ⟨p0, 0, none⟩), .pointer (some ⟨p1, 0, none⟩)], 80⟩]], EnL p0 (enFull 1 a) ov4 iv4 at4 Eo4 Ei4 [], EnL p1 { enNew 9 2 with out := b } ov3 iv3 at3 Eo3 Ei3 []] (L) [2, 0, 1] (by kernel_rfl)) ?_
          refine St.call [_] rfl (by kernel_rfl) rfl (close18_spec w0 _ p1 _ _ _ _ _ _ hB3) (fun _ _ _ _ h => h.nil) ?_
          rw [full_close (.inr rfl)]
          rintro r4 L1 ⟨rfl, ov5, iv5, at5, Eo5, Ei5, hB5, rfl⟩
          refine St.perm ([⟨b3, [.pointer (some ⟨p0, 0, none⟩), .pointer (some ⟨p1, 0, none⟩)], 80⟩] :: EnL p0 (enFull 1 a) ov4 iv4 at4 Eo4 Ei4 (EnL p1 (enFull 2 b) ov5 iv5 at5 Eo5 Ei5 (L))) (perm_idx [EnL p1 (enFull 2 b) ov5 iv5 at5 Eo5 Ei5 [], [[⟨b3, [.pointer (some ⟨p0, 0, none⟩), .pointer (some ⟨p1, 0, none⟩)], 80⟩]], EnL p0 (enFull 1 a) ov4 iv4 at4 Eo4 Ei4 []] (L) [1, 2, 0] (by kernel_rfl)) ?_
          refine St.guard_yes rfl rfl ?_
          refine St.neq rfl rfl rfl ?_
          refine St.pick_false rfl rfl rfl ?_
          refine St.done ?_
          refine SX.seq ?_
          refine SC.condp rfl (fun c67 => ?_) (fun c67 => ?_)
          · exact absurd rfl c67
          · refine SC.skip ?_
            refine SX.seq ?_
            refine SC.seq ?_
            refine SC.perm ([⟨b3, [.pointer (some ⟨p0, 0, none⟩), .pointer (some ⟨p1, 0, none⟩)], 80⟩] :: EnL p0 (enFull 1 a) ov4 iv4 at4 Eo4 Ei4 (EnL p1 (enFull 2 b) ov5 iv5 at5 Eo5 Ei5 (L))) (perm_idx [[[⟨b3, [.pointer (some ⟨p0, 0, none⟩), .pointer (some ⟨p1, 0, none⟩)], 80⟩]], EnL p0 (enFull 1 a) ov4 iv4 at4 Eo4 Ei4 [], EnL p1 (enFull 2 b) ov5 iv5 at5 Eo5 Ei5 []] (L) [0, 1, 2] (by kernel_rfl)) ?_
            obtain ⟨R, hR⟩ : ∃ R : Nat, rounds % 16 = (R : Int) := ⟨(rounds % 16).toNat, by omega⟩
            have hR16 : R < 16 := by omega
            refine SC.plain ?_
            refine St.assign rfl rfl ?_
            refine St.assign rfl rfl ?_
            refine St.done ?_
            refine SX.seq ?_
            refine SC.seq ?_
            refine SC.plain ?_
            refine St.assign rfl rfl ?_
            refine St.assign rfl rfl ?_
            refine St.done ?_
            refine SX.seq ?_
            refine SC.seq ?_
            refine SC.seq ?_
            refine SC.plain ?_
            refine St.assign rfl rfl ?_
            refine St.done ?_
            refine SX.seq ?_
            refine SC.block ?_
            refine SC.loop (α := Nat × Nat × Sd × Sd × Value × Chunk × Value × Chunk) (fun s => s.1 ≤ (R + 40 + (a.length + b.length) / 100) ∧ s.2.1 ≤ 26 * s.1 ∧ Rr a b R s.1 ((8 * s.1 : Nat) : Int) s.2.2.1.e s.2.2.2.1.e ∧ s.2.2.1.B ∧ s.2.2.2.1.B ∧ Buf 5 1 s.2.2.2.2.1 (bytes s.2.2.2.1.e.inn) s.2.2.2.1.e.inn.length s.2.2.2.2.2.1 ∧ Buf 5 1 s.2.2.2.2.2.2.1 (bytes s.2.2.1.e.inn) s.2.2.1.e.inn.length s.2.2.2.2.2.2.2)       (fun s => [(0, .slice Aa a.length ca), (1, .slice Ab_ b.length cb_), (2, .slice Al bs.length cl), (3, .int .i64 rounds), (9, .slice (some ⟨b3, 0, none⟩) 2 2), (10, .int .i64 ((8 * s.1 : Nat) : Int)), (11, .int .i64 ((s.2.1 : Nat) : Int)), (12, s.2.2.2.2.1), (13, s.2.2.2.2.2.2.1), (14, .int .i64 ((s.1 : Nat) : Int))]) (fun s => endL b3 0 s.2.2.1 s.2.2.2.1 (s.2.2.2.2.2.1 :: s.2.2.2.2.2.2.2 :: L)) (fun s => (R + 40 + (a.length + b.length) / 100) - s.1)       (0, 0, Sd.mk p0 (enFull 1 a) ov4 iv4 at4 Eo4 Ei4, Sd.mk p1 (enFull 2 b) ov5 iv5 at5 Eo5 Ei5, .slice none 0 0, [], .slice none 0 0, []) ⟨Nat.zero_le _, Nat.zero_le _, full_rr hab hba hbb, hB4, hB5, Buf.nil 5 1, Buf.nil 5 1⟩ ⟨rfl, rfl, rfl, rfl, rfl, rfl, rfl, rfl, rfl, rfl, trivial⟩ (List.Perm.refl _) ?_
            rintro ⟨i, n, S0, S1, xv, Ex, yv, Ey⟩ ⟨hi, hn, hrr, hB0, hB1, hx, hy⟩
            simp only at hi hn hrr hB0 hB1 hx hy ⊢
            have hcl := clock20 (i := i) (by omega)
            refine SC.seq ?_
            refine SC.seq ?_
            refine SC.plain ?_
            refine St.move rfl rfl ?_
            refine St.move rfl rfl ?_
            refine St.andI rfl rfl rfl ?_
            rw [mask15, hR]
            first | refine St.addN (b := 40) rfl rfl rfl (by omega) ?_ | refine St.addI rfl rfl rfl (by omega) ?_
            refine St.move rfl rfl ?_
            refine St.lenSl rfl rfl (by kernel_rfl) ?_
            refine St.move rfl rfl ?_
            refine St.lenSl rfl rfl (by kernel_rfl) ?_
            first | refine St.addN rfl rfl rfl (by omega) ?_ | refine St.addI rfl rfl rfl (by omega) ?_
            first | refine St.quoN (b := 100) rfl rfl rfl (by omega) (by omega) ?_ | refine St.quo rfl rfl rfl (by omega) ?_
            first | refine St.addN rfl rfl rfl (by omega) ?_ | refine St.addI rfl rfl rfl (by omega) ?_
            refine St.lss rfl rfl rfl ?_
            refine St.done ?_
            refine SX.seq ?_
            refine SC.condp rfl (fun c79 => ?_) (fun c79 => ?_)
            · refine SC.skip ?_
              refine SX.seq ?_
              refine SC.seq ?_
              refine SC.block ?_
              refine SC.seq ?_
              refine SC.seq ?_
              refine SC.plain ?_
              refine St.assign rfl rfl ?_
              refine St.done ?_
              refine SX.seq ?_
              refine SC.block ?_
              refine SC.loop (α := Nat × Nat × Sd × Sd) (fun s => s.1 ≤ 2 ∧ s.2.1 ≤ 26 * i + 13 * s.1 ∧ Md R i ((8 * i : Nat) : Int) S0.e S1.e s.1 s.2.2.1.e s.2.2.2.e ∧ s.2.2.1.B ∧ s.2.2.2.B)       (fun s => [(0, .slice Aa a.length ca), (1, .slice Ab_ b.length cb_), (2, .slice Al bs.length cl), (3, .int .i64 rounds), (9, .slice (some ⟨b3, 0, none⟩) 2 2), (10, .int .i64 ((8 * i : Nat) : Int)), (11, .int .i64 ((s.2.1 : Nat) : Int)), (12, xv), (13, yv), (14, .int .i64 ((i : Nat) : Int)), (15, .int .i64 ((s.1 : Nat) : Int))]) (fun s => endL b3 0 s.2.2.1 s.2.2.2 (Ex :: Ey :: L)) (fun s => 2 - s.1) (0, n, S0, S1) ⟨Nat.zero_le _, by simp only; omega, .inl ⟨rfl, rfl, rfl⟩, hB0, hB1⟩ ⟨rfl, rfl, rfl, rfl, rfl, rfl, rfl, rfl, rfl, rfl, rfl, trivial⟩ (List.Perm.refl _) ?_
              rintro ⟨k, n2, T0, T1⟩ ⟨hk2, hn2, hmd, hC0, hC1⟩
              simp only at hk2 hn2 hmd hC0 hC1 ⊢
              refine SC.seq ?_
              refine SC.seq ?_
              refine SC.plain ?_
              refine St.move rfl rfl ?_
              refine St.lss rfl rfl rfl ?_
              refine St.done ?_
              refine SX.seq ?_
              refine SC.condp rfl (fun c83 => ?_) (fun c83 => ?_)
              · have hk : k < 2 := by omega
                obtain ⟨K, hK⟩ : ∃ K, sel k T0 T1 = K := ⟨_, rfl⟩
                obtain ⟨J, hJ⟩ : ∃ J, sel k T1 T0 = J := ⟨_, rfl⟩
                have hSS := sel_sel (k := k) T0 T1
                rw [hK, hJ] at hSS
                have heK := sel_e k T0 T1
                have heJ := sel_e k T1 T0
                have hKB := sel_B (k := k) hC0 hC1
                have hJB := sel_B (k := k) hC1 hC0
                rw [hK] at heK hKB
                rw [hJ] at heJ hJB
                have hpp := (endL_sel (b3 := b3) hk K J (Ex :: Ey :: L)).symm
                rw [hSS.1, hSS.2] at hpp
                refine SC.perm (endL b3 k K J (Ex :: Ey :: L)) hpp ?_
                clear hSS hK hJ hpp
                obtain ⟨pK, eK, ovK, ivK, atK, EoK, EiK⟩ := K
                obtain ⟨pJ, eJ, ovJ, ivJ, atJ, EoJ, EiJ⟩ := J
                simp only at heK heJ
                have hKB : EnB eK ovK ivK atK EoK EiK := hKB
                have hJB : EnB eJ ovJ ivJ atJ EoJ EiJ := hJB
                unfold endL
                refine SC.skip ?_
                refine SX.seq ?_
                refine SC.seq ?_
                refine SC.block ?_
                refine SC.seq ?_
                refine SC.plain ?_
                refine St.move rfl rfl ?_
                refine St.move rfl rfl ?_
                refine St.indexSl (e := 80) (sz := 1) rfl rfl rfl (by kernel_rfl) (by omega) ?_
                refine St.load rfl rfl (by kernel_rfl) (Holds.row mem0 (two_get hk _ _)) ?_
                refine St.move rfl rfl ?_
                refine St.perm (EnL pK eK ovK ivK atK EoK EiK ([⟨b3, two k (.pointer (some ⟨pK, 0, none⟩)) (.pointer (some ⟨pJ, 0, none⟩)), 80⟩] :: EnL pJ eJ ovJ ivJ atJ EoJ EiJ (Ex :: Ey :: L))) (perm_idx [[[⟨b3, two k (.pointer (some ⟨pK, 0, none⟩)) (.pointer (some ⟨pJ, 0, none⟩)), 80⟩]], EnL pK eK ovK ivK atK EoK EiK [], EnL pJ eJ ovJ ivJ atJ EoJ EiJ [], [Ex], [Ey]] (L) [1, 0, 2, 3, 4] (by kernel_rfl)) ?_
                refine St.call [_, _] rfl (by kernel_rfl) rfl (out18_spec w0 _ pK _ _ _ _ _ _ hKB _ hcl) (fun _ _ _ _ h => h.nil) ?_
                rintro r14 L1 ⟨vs, Eb, Es, ov2, iv2, at2, Eo2, Ei2, hbb, hos, hB2, rfl⟩
                have hfew := outp_few20 eK ((8 * i : Nat) : Int)
                have hfrom := outp_from hKB.ok hcl
                have hq := hbb.read
                obtain ⟨bb, ob, Ab, cb, rfl, hAb, hhb⟩ := hq
                refine St.perm ([⟨b3, two k (.pointer (some ⟨pK, 0, none⟩)) (.pointer (some ⟨pJ, 0, none⟩)), 80⟩] :: EnL pK (eK.outp ((8 * i : Nat) : Int)).1 ov2 iv2 at2 Eo2 Ei2 (EnL pJ eJ ovJ ivJ atJ EoJ EiJ (Eb :: Es ++ (Ex :: Ey :: L)))) (perm_idx [EnL pK (eK.outp ((8 * i : Nat) : Int)).1 ov2 iv2 at2 Eo2 Ei2 [], [Eb], Es, [[⟨b3, two k (.pointer (some ⟨pK, 0, none⟩)) (.pointer (some ⟨pJ, 0, none⟩)), 80⟩]], EnL pJ eJ ovJ ivJ atJ EoJ EiJ [], [Ex], [Ey]] (L) [3, 0, 4, 1, 2, 5, 6] (by kernel_rfl)) ?_
                refine St.assign rfl rfl ?_
                refine St.done ?_
                refine SX.seq ?_
                refine SC.seq ?_
                refine SC.plain ?_
                refine St.assign rfl rfl ?_
                refine St.done ?_
                refine SX.seq ?_
                refine SC.block ?_
                refine SC.loop (α := Nat × Nat × List (List Nat) × En × Value × Value × Int × Chunk × Chunk) (fun s => s.1 ≤ (eK.outp ((8 * i : Nat) : Int)).2.length ∧ s.2.1 ≤ 26 * i + 13 * k + s.1 ∧ (∀ t ∈ s.2.2.1, t ∈ (eK.outp ((8 * i : Nat) : Int)).2) ∧ (R ≤ i → s.2.2.1 = (eK.outp ((8 * i : Nat) : Int)).2.take s.1) ∧ s.2.2.2.1 = gets eJ ((8 * i : Nat) : Int) s.2.2.1 ∧ EnB s.2.2.2.1 s.2.2.2.2.1 s.2.2.2.2.2.1 s.2.2.2.2.2.2.1 s.2.2.2.2.2.2.2.1 s.2.2.2.2.2.2.2.2)       (fun s => [(0, .slice Aa a.length ca), (1, .slice Ab_ b.length cb_), (2, .slice Al bs.length cl), (3, .int .i64 rounds), (9, .slice (some ⟨b3, 0, none⟩) 2 2), (10, .int .i64 ((8 * i : Nat) : Int)), (11, .int .i64 ((s.2.1 : Nat) : Int)), (12, xv), (13, yv), (14, .int .i64 ((i : Nat) : Int)), (15, .int .i64 ((k : Nat) : Int)), (16, .slice Ab (eK.outp ((8 * i : Nat) : Int)).2.length cb), (17, .int .i64 ((s.1 : Nat) : Int))]) (fun s => [⟨b3, two k (.pointer (some ⟨pK, 0, none⟩)) (.pointer (some ⟨pJ, 0, none⟩)), 80⟩] :: EnL pK (eK.outp ((8 * i : Nat) : Int)).1 ov2 iv2 at2 Eo2 Ei2 (EnL pJ s.2.2.2.1 s.2.2.2.2.1 s.2.2.2.2.2.1 s.2.2.2.2.2.2.1 s.2.2.2.2.2.2.2.1 s.2.2.2.2.2.2.2.2 (Eb :: Es ++ (Ex :: Ey :: L)))) (fun s => (eK.outp ((8 * i : Nat) : Int)).2.length - s.1) (0, n2, [], eJ, ovJ, ivJ, atJ, EoJ, EiJ) ⟨Nat.zero_le _, by simp only; omega, by simp, fun _ => rfl, rfl, hJB⟩ ⟨rfl, rfl, rfl, rfl, rfl, rfl, rfl, rfl, rfl, rfl, rfl, rfl, rfl, trivial⟩ (List.Perm.refl _) ?_
                rintro ⟨j, n3, d, e3, ov3, iv3, at3, Eo3, Ei3⟩ ⟨hj, hn3, hdm, hdt, heq, hB3⟩
                simp only at hj hn3 hdm hdt heq hB3 ⊢
                refine SC.seq ?_
                refine SC.seq ?_
                refine SC.plain ?_
                refine St.move rfl rfl ?_
                refine St.move rfl rfl ?_
                refine St.lenSl rfl rfl (by kernel_rfl) ?_
                refine St.lss rfl rfl rfl ?_
                refine St.done ?_
                refine SX.seq ?_
                refine SC.condp rfl (fun c95 => ?_) (fun c95 => ?_)
                · have hjl : j < (eK.outp ((8 * i : Nat) : Int)).2.length := by omega
                  have hAe := hAb (by omega)
                  subst hAe
                  obtain ⟨s, hs⟩ : ∃ s, (eK.outp ((8 * i : Nat) : Int)).2[j]? = some s := ⟨_, List.getElem?_eq_getElem hjl⟩
                  obtain ⟨v, hv⟩ : ∃ v, vs[j]? = some v := ⟨_, List.getElem?_eq_getElem (by rw [hos.1]; exact hjl)⟩
                  obtain ⟨E, hE⟩ : ∃ E, Es[j]? = some E := ⟨_, List.getElem?_eq_getElem (by rw [hos.2.1]; exact hjl)⟩
                  have hseg := hos.2.2 j v s E hv hs hE
                  have hEm := List.mem_of_getElem? hE
                  have hfs := hfrom s (List.mem_of_getElem? hs)
                  have hfl := hfs.len
                  refine SC.skip ?_
                  refine SX.seq ?_
                  refine SC.seq ?_
                  refine SC.block ?_
                  refine SC.seq ?_
                  refine SC.plain ?_
                  refine St.move rfl rfl ?_
                  first | refine St.addN (b := 1) rfl rfl rfl (by omega) ?_ | refine St.addI rfl rfl rfl (by omega) ?_
                  refine St.assign rfl rfl ?_
                  refine St.done ?_
                  refine SX.seq ?_
                  refine SC.seq ?_
                  refine SC.plain ?_
                  refine St.move rfl rfl ?_
                  refine St.move rfl rfl ?_
                  refine St.andI rfl rfl rfl ?_
                  rw [mask15, hR]
                  refine St.geq rfl rfl rfl ?_
                  refine St.move rfl rfl ?_
                  refine St.split 104 rfl (fun g104 => ?_) (fun g104 => ?_)
                  · refine St.guard_no rfl rfl rfl ?_
                    refine St.guard_no rfl rfl rfl ?_
                    refine St.guard_no rfl rfl rfl ?_
                    refine St.guard_no rfl rfl rfl ?_
                    refine St.pick_true rfl rfl rfl ?_
                    refine St.move rfl rfl ?_
                    refine St.guard_no rfl rfl rfl ?_
                    refine St.guard_no rfl rfl rfl ?_
                    refine St.guard_no rfl rfl rfl ?_
                    refine St.guard_no rfl rfl rfl ?_
                    refine St.guard_no rfl rfl rfl ?_
                    refine St.pick_true rfl rfl rfl ?_
                    refine St.done ?_
                    refine SX.seq ?_
                    refine SC.cond_true rfl ?_
                    refine SC.drawn [(0, true), (1, true), (2, true), (3, true), (4, true), (5, true), (6, true), (7, true), (8, true), (9, true)] [10] (_) (by kernel_rfl) (by kernel_rfl) (fun _ h => h) ?_
                    refine St.move rfl rfl ?_
                    refine St.move rfl rfl ?_
                    first | refine St.subN (a := 1) rfl rfl rfl (by omega) (by omega) ?_ | refine St.subI rfl rfl rfl (by omega) ?_
                    refine St.indexSl (e := 80) (sz := 1) rfl rfl rfl (by kernel_rfl) (by omega) ?_
                    refine St.load rfl rfl (by kernel_rfl) (Holds.row mem0 (two_oth hk _ _)) ?_
                    refine St.move rfl rfl ?_
                    refine St.move rfl rfl ?_
                    refine St.indexSl (e := 35) (sz := 1) rfl rfl rfl (by kernel_rfl) (by omega) ?_
                    refine St.load rfl rfl (by kernel_rfl) (fun w hw => by have := hhb w0 [Eb] (by simp) w (hw.sub (sub_flat (.cons _ (.cons _ (.cons _ (.cons _ (.cons _ (.cons _ (.cons _ (.cons_cons _ (List.nil_sublist _))))))))))) j v hv; simpa using this) ?_
                    refine St.move rfl rfl ?_
                    refine St.done ?_
                    refine SX.tail ?_
                    refine St.perm (EnL pJ e3 ov3 iv3 at3 Eo3 Ei3 ([⟨b3, two k (.pointer (some ⟨pK, 0, none⟩)) (.pointer (some ⟨pJ, 0, none⟩)), 80⟩] :: EnL pK (eK.outp ((8 * i : Nat) : Int)).1 ov2 iv2 at2 Eo2 Ei2 (Eb :: Es ++ (Ex :: Ey :: L)))) (perm_idx [[[⟨b3, two k (.pointer (some ⟨pK, 0, none⟩)) (.pointer (some ⟨pJ, 0, none⟩)), 80⟩]], EnL pK (eK.outp ((8 * i : Nat) : Int)).1 ov2 iv2 at2 Eo2 Ei2 [], EnL pJ e3 ov3 iv3 at3 Eo3 Ei3 [], [Eb], Es, [Ex], [Ey]] (L) [2, 0, 1, 3, 4, 5, 6] (by kernel_rfl)) ?_
                    refine St.call [_, _, _] rfl (by kernel_rfl) rfl (in18_spec w0 _ pJ _ _ _ _ _ _ hB3 v s (hseg.rd (by simp [EnL, hEm])) hseg.cap (by omega) hfs.lt _ hcl) (fun _ _ _ _ h => h.nil) ?_
                    rintro r20 L1 ⟨ov4, iv4, at4, Eo4, Ei4, hB4, rfl⟩
                    refine St.perm ([⟨b3, two k (.pointer (some ⟨pK, 0, none⟩)) (.pointer (some ⟨pJ, 0, none⟩)), 80⟩] :: EnL pK (eK.outp ((8 * i : Nat) : Int)).1 ov2 iv2 at2 Eo2 Ei2 (EnL pJ (e3.inp s ((8 * i : Nat) : Int)) ov4 iv4 at4 Eo4 Ei4 (Eb :: Es ++ (Ex :: Ey :: L)))) (perm_idx [EnL pJ (e3.inp s ((8 * i : Nat) : Int)) ov4 iv4 at4 Eo4 Ei4 [], [[⟨b3, two k (.pointer (some ⟨pK, 0, none⟩)) (.pointer (some ⟨pJ, 0, none⟩)), 80⟩]], EnL pK (eK.outp ((8 * i : Nat) : Int)).1 ov2 iv2 at2 Eo2 Ei2 [], [Eb], Es, [Ex], [Ey]] (L) [1, 2, 0, 3, 4, 5, 6] (by kernel_rfl)) ?_
                    refine St.done ?_
                    refine SX.blk ?_
                    refine SX.seq ?_
                    refine SC.plain ?_
                    refine St.move rfl rfl ?_
                    first | refine St.addN (b := 1) rfl rfl rfl (by omega) ?_ | refine St.addI rfl rfl rfl (by omega) ?_
                    refine St.assign rfl rfl ?_
                    refine St.done ?_
                    exact SX.again (j + 1, n3 + 1, d ++ [s], (e3.inp s ((8 * i : Nat) : Int)), ov4, iv4, at4, Eo4, Ei4) ⟨by simp only; omega, by simp only; omega, by intro t ht; rcases List.mem_append.1 ht with ht | ht; exact hdm t ht; rcases List.mem_singleton.1 ht with rfl; exact List.mem_of_getElem? hs, fun h => take_next (hdt h) hs, by simp only [gets_snoc, heq], hB4⟩ (by simp only; omega) ⟨rfl, rfl, rfl, rfl, rfl, rfl, rfl, rfl, rfl, rfl, rfl, rfl, rfl, trivial⟩ (List.Perm.refl _)
                  · refine St.guard_yes rfl rfl ?_
                    refine St.move rfl rfl ?_
                    refine St.guard_yes rfl rfl ?_
                    refine St.move rfl rfl ?_
                    refine St.guard_yes rfl rfl ?_
                    refine St.lenSl rfl rfl (by kernel_rfl) ?_
                    refine St.guard_yes rfl rfl ?_
                    refine St.geq rfl rfl rfl ?_
                    refine St.pick_false rfl rfl rfl ?_
                    refine St.move rfl rfl ?_
                    refine St.split 110 rfl (fun g110 => ?_) (fun g110 => ?_)
                    · refine St.guard_no rfl rfl rfl ?_
                      refine St.guard_no rfl rfl rfl ?_
                      refine St.guard_no rfl rfl rfl ?_
                      refine St.guard_no rfl rfl rfl ?_
                      refine St.guard_no rfl rfl rfl ?_
                      refine St.pick_true rfl rfl rfl ?_
                      refine St.done ?_
                      refine SX.seq ?_
                      refine SC.cond_true rfl ?_
                      refine SC.drawn [(0, true), (1, true), (2, true), (3, true), (4, true), (5, true), (6, true), (7, true), (8, true), (9, true)] [10] (_) (by kernel_rfl) (by kernel_rfl) (fun _ h => h) ?_
                      refine St.move rfl rfl ?_
                      refine St.move rfl rfl ?_
                      first | refine St.subN (a := 1) rfl rfl rfl (by omega) (by omega) ?_ | refine St.subI rfl rfl rfl (by omega) ?_
                      refine St.indexSl (e := 80) (sz := 1) rfl rfl rfl (by kernel_rfl) (by omega) ?_
                      refine St.load rfl rfl (by kernel_rfl) (Holds.row mem0 (two_oth hk _ _)) ?_
                      refine St.move rfl rfl ?_
                      refine St.move rfl rfl ?_
                      refine St.indexSl (e := 35) (sz := 1) rfl rfl rfl (by kernel_rfl) (by omega) ?_
                      refine St.load rfl rfl (by kernel_rfl) (fun w hw => by have := hhb w0 [Eb] (by simp) w (hw.sub (sub_flat (.cons _ (.cons _ (.cons _ (.cons _ (.cons _ (.cons _ (.cons _ (.cons_cons _ (List.nil_sublist _))))))))))) j v hv; simpa using this) ?_
                      refine St.move rfl rfl ?_
                      refine St.done ?_
                      refine SX.tail ?_
                      refine St.perm (EnL pJ e3 ov3 iv3 at3 Eo3 Ei3 ([⟨b3, two k (.pointer (some ⟨pK, 0, none⟩)) (.pointer (some ⟨pJ, 0, none⟩)), 80⟩] :: EnL pK (eK.outp ((8 * i : Nat) : Int)).1 ov2 iv2 at2 Eo2 Ei2 (Eb :: Es ++ (Ex :: Ey :: L)))) (perm_idx [[[⟨b3, two k (.pointer (some ⟨pK, 0, none⟩)) (.pointer (some ⟨pJ, 0, none⟩)), 80⟩]], EnL pK (eK.outp ((8 * i : Nat) : Int)).1 ov2 iv2 at2 Eo2 Ei2 [], EnL pJ e3 ov3 iv3 at3 Eo3 Ei3 [], [Eb], Es, [Ex], [Ey]] (L) [2, 0, 1, 3, 4, 5, 6] (by kernel_rfl)) ?_
                      refine St.call [_, _, _] rfl (by kernel_rfl) rfl (in18_spec w0 _ pJ _ _ _ _ _ _ hB3 v s (hseg.rd (by simp [EnL, hEm])) hseg.cap (by omega) hfs.lt _ hcl) (fun _ _ _ _ h => h.nil) ?_
                      rintro r20 L1 ⟨ov4, iv4, at4, Eo4, Ei4, hB4, rfl⟩
                      refine St.perm ([⟨b3, two k (.pointer (some ⟨pK, 0, none⟩)) (.pointer (some ⟨pJ, 0, none⟩)), 80⟩] :: EnL pK (eK.outp ((8 * i : Nat) : Int)).1 ov2 iv2 at2 Eo2 Ei2 (EnL pJ (e3.inp s ((8 * i : Nat) : Int)) ov4 iv4 at4 Eo4 Ei4 (Eb :: Es ++ (Ex :: Ey :: L)))) (perm_idx [EnL pJ (e3.inp s ((8 * i : Nat) : Int)) ov4 iv4 at4 Eo4 Ei4 [], [[⟨b3, two k (.pointer (some ⟨pK, 0, none⟩)) (.pointer (some ⟨pJ, 0, none⟩)), 80⟩]], EnL pK (eK.outp ((8 * i : Nat) : Int)).1 ov2 iv2 at2 Eo2 Ei2 [], [Eb], Es, [Ex], [Ey]] (L) [1, 2, 0, 3, 4, 5, 6] (by kernel_rfl)) ?_
                      refine St.done ?_
                      refine SX.blk ?_
                      refine SX.seq ?_
                      refine SC.plain ?_
                      refine St.move rfl rfl ?_
                      first | refine St.addN (b := 1) rfl rfl rfl (by omega) ?_ | refine St.addI rfl rfl rfl (by omega) ?_
                      refine St.assign rfl rfl ?_
                      refine St.done ?_
                      exact SX.again (j + 1, n3 + 1, d ++ [s], (e3.inp s ((8 * i : Nat) : Int)), ov4, iv4, at4, Eo4, Ei4) ⟨by simp only; omega, by simp only; omega, by intro t ht; rcases List.mem_append.1 ht with ht | ht; exact hdm t ht; rcases List.mem_singleton.1 ht with rfl; exact List.mem_of_getElem? hs, fun h => take_next (hdt h) hs, by simp only [gets_snoc, heq], hB4⟩ (by simp only; omega) ⟨rfl, rfl, rfl, rfl, rfl, rfl, rfl, rfl, rfl, rfl, rfl, rfl, rfl, trivial⟩ (List.Perm.refl _)
                    · have hnl : n3 + 1 < bs.length := by omega
                      have hAle := hAl (by omega)
                      refine St.guard_yes rfl rfl ?_
                      refine St.move rfl rfl ?_
                      refine St.guard_yes rfl rfl ?_
                      refine St.move rfl rfl ?_
                      refine St.guard_yes rfl rfl ?_
                      rw [hAle]
                      refine St.indexSl (e := 4) (sz := 1) rfl rfl rfl (by kernel_rfl) (by omega) ?_
                      refine St.guard_yes rfl rfl ?_
                      refine St.load (v := .bool (bs.getD (n3 + 1) false)) rfl rfl (by kernel_rfl) (fun w hw => by have := hhl w (hw.sub (sub_flat (List.nil_sublist _))) (n3 + 1) _ (bool_get hnl); simpa using this) ?_
                      rw [← hAle]
                      refine St.guard_yes rfl rfl ?_
                      refine St.notB rfl rfl ?_
                      refine St.pick_false rfl rfl rfl ?_
                      refine St.done ?_
                      refine SX.seq ?_
                      refine SC.cond rfl (fun c116 => ?_) (fun c116 => ?_)
                      · refine SC.drawn [(0, true), (1, true), (2, true), (3, true), (4, true), (5, true), (6, true), (7, true), (8, true), (9, true)] [10] (_) (by kernel_rfl) (by kernel_rfl) (fun _ h => h) ?_
                        refine St.move rfl rfl ?_
                        refine St.move rfl rfl ?_
                        first | refine St.subN (a := 1) rfl rfl rfl (by omega) (by omega) ?_ | refine St.subI rfl rfl rfl (by omega) ?_
                        refine St.indexSl (e := 80) (sz := 1) rfl rfl rfl (by kernel_rfl) (by omega) ?_
                        refine St.load rfl rfl (by kernel_rfl) (Holds.row mem0 (two_oth hk _ _)) ?_
                        refine St.move rfl rfl ?_
                        refine St.move rfl rfl ?_
                        refine St.indexSl (e := 35) (sz := 1) rfl rfl rfl (by kernel_rfl) (by omega) ?_
                        refine St.load rfl rfl (by kernel_rfl) (fun w hw => by have := hhb w0 [Eb] (by simp) w (hw.sub (sub_flat (.cons _ (.cons _ (.cons _ (.cons _ (.cons _ (.cons _ (.cons _ (.cons_cons _ (List.nil_sublist _))))))))))) j v hv; simpa using this) ?_
                        refine St.move rfl rfl ?_
                        refine St.done ?_
                        refine SX.tail ?_
                        refine St.perm (EnL pJ e3 ov3 iv3 at3 Eo3 Ei3 ([⟨b3, two k (.pointer (some ⟨pK, 0, none⟩)) (.pointer (some ⟨pJ, 0, none⟩)), 80⟩] :: EnL pK (eK.outp ((8 * i : Nat) : Int)).1 ov2 iv2 at2 Eo2 Ei2 (Eb :: Es ++ (Ex :: Ey :: L)))) (perm_idx [[[⟨b3, two k (.pointer (some ⟨pK, 0, none⟩)) (.pointer (some ⟨pJ, 0, none⟩)), 80⟩]], EnL pK (eK.outp ((8 * i : Nat) : Int)).1 ov2 iv2 at2 Eo2 Ei2 [], EnL pJ e3 ov3 iv3 at3 Eo3 Ei3 [], [Eb], Es, [Ex], [Ey]] (L) [2, 0, 1, 3, 4, 5, 6] (by kernel_rfl)) ?_
                        refine St.call [_, _, _] rfl (by kernel_rfl) rfl (in18_spec w0 _ pJ _ _ _ _ _ _ hB3 v s (hseg.rd (by simp [EnL, hEm])) hseg.cap (by omega) hfs.lt _ hcl) (fun _ _ _ _ h => h.nil) ?_
                        rintro r20 L1 ⟨ov4, iv4, at4, Eo4, Ei4, hB4, rfl⟩
                        refine St.perm ([⟨b3, two k (.pointer (some ⟨pK, 0, none⟩)) (.pointer (some ⟨pJ, 0, none⟩)), 80⟩] :: EnL pK (eK.outp ((8 * i : Nat) : Int)).1 ov2 iv2 at2 Eo2 Ei2 (EnL pJ (e3.inp s ((8 * i : Nat) : Int)) ov4 iv4 at4 Eo4 Ei4 (Eb :: Es ++ (Ex :: Ey :: L)))) (perm_idx [EnL pJ (e3.inp s ((8 * i : Nat) : Int)) ov4 iv4 at4 Eo4 Ei4 [], [[⟨b3, two k (.pointer (some ⟨pK, 0, none⟩)) (.pointer (some ⟨pJ, 0, none⟩)), 80⟩]], EnL pK (eK.outp ((8 * i : Nat) : Int)).1 ov2 iv2 at2 Eo2 Ei2 [], [Eb], Es, [Ex], [Ey]] (L) [1, 2, 0, 3, 4, 5, 6] (by kernel_rfl)) ?_
                        refine St.done ?_
                        refine SX.blk ?_
                        refine SX.seq ?_
                        refine SC.plain ?_
                        refine St.move rfl rfl ?_
                        first | refine St.addN (b := 1) rfl rfl rfl (by omega) ?_ | refine St.addI rfl rfl rfl (by omega) ?_
                        refine St.assign rfl rfl ?_
                        refine St.done ?_
                        exact SX.again (j + 1, n3 + 1, d ++ [s], (e3.inp s ((8 * i : Nat) : Int)), ov4, iv4, at4, Eo4, Ei4) ⟨by simp only; omega, by simp only; omega, by intro t ht; rcases List.mem_append.1 ht with ht | ht; exact hdm t ht; rcases List.mem_singleton.1 ht with rfl; exact List.mem_of_getElem? hs, fun h => take_next (hdt h) hs, by simp only [gets_snoc, heq], hB4⟩ (by simp only; omega) ⟨rfl, rfl, rfl, rfl, rfl, rfl, rfl, rfl, rfl, rfl, rfl, rfl, rfl, trivial⟩ (List.Perm.refl _)
                      · refine SC.skip ?_
                        refine SX.blk ?_
                        refine SX.seq ?_
                        refine SC.plain ?_
                        refine St.move rfl rfl ?_
                        first | refine St.addN (b := 1) rfl rfl rfl (by omega) ?_ | refine St.addI rfl rfl rfl (by omega) ?_
                        refine St.assign rfl rfl ?_
                        refine St.done ?_
                        exact SX.again (j + 1, n3 + 1, d, e3, ov3, iv3, at3, Eo3, Ei3) ⟨by simp only; omega, by simp only; omega, hdm, fun h => absurd h (by omega), heq, hB3⟩ (by simp only; omega) ⟨rfl, rfl, rfl, rfl, rfl, rfl, rfl, rfl, rfl, rfl, rfl, rfl, rfl, trivial⟩ (List.Perm.refl _)
                · refine SC.exit ?_
                  refine SX.seq_exit ?_
                  refine SX.seq_exit ?_
                  refine SX.hit ?_
                  refine SX.blk ?_
                  refine SX.seq ?_
                  refine SC.plain ?_
                  refine St.move rfl rfl ?_
                  first | refine St.addN (b := 1) rfl rfl rfl (by omega) ?_ | refine St.addI rfl rfl rfl (by omega) ?_
                  refine St.assign rfl rfl ?_
                  refine St.done ?_
                  refine SX.weak ([⟨b3, two k (.pointer (some ⟨pK, 0, none⟩)) (.pointer (some ⟨pJ, 0, none⟩)), 80⟩] :: EnL pK (eK.outp ((8 * i : Nat) : Int)).1 ov2 iv2 at2 Eo2 Ei2 (EnL pJ e3 ov3 iv3 at3 Eo3 Ei3 (Ex :: Ey :: L))) (.cons_cons _ (.cons_cons _ (.cons_cons _ (.cons_cons _ (.cons_cons _ (.cons_cons _ (.cons_cons _ (.cons _ (List.Sublist.trans (List.Sublist.refl _) (List.sublist_append_right _ _)))))))))) ?_
                  have hjl : j = (eK.outp ((8 * i : Nat) : Int)).2.length := by omega
                  have hturn : Turn R i ((8 * i : Nat) : Int) eK eJ (eK.outp ((8 * i : Nat) : Int)).1 e3 := ⟨d, hdm, fun h => by rw [hdt h, hjl, List.take_length], rfl, heq⟩
                  rw [heK, heJ] at hturn
                  have hmd2 := Md.next hk hmd hturn
                  refine SX.again (k + 1, n3, sel k (Sd.mk pK (eK.outp ((8 * i : Nat) : Int)).1 ov2 iv2 at2 Eo2 Ei2) (Sd.mk pJ e3 ov3 iv3 at3 Eo3 Ei3), sel k (Sd.mk pJ e3 ov3 iv3 at3 Eo3 Ei3) (Sd.mk pK (eK.outp ((8 * i : Nat) : Int)).1 ov2 iv2 at2 Eo2 Ei2)) ⟨by simp only; omega, by simp only; omega, by rw [sel_e, sel_e]; simp only; rw [heK]; exact hmd2, sel_B hB2 hB3, sel_B hB3 hB2⟩ (by simp only; omega) ⟨rfl, rfl, rfl, rfl, rfl, rfl, rfl, rfl, rfl, rfl, rfl, trivial⟩ ?_
                  exact endL_sel hk (Sd.mk pK (eK.outp ((8 * i : Nat) : Int)).1 ov2 iv2 at2 Eo2 Ei2) (Sd.mk pJ e3 ov3 iv3 at3 Eo3 Ei3) (Ex :: Ey :: L)
              · refine SC.exit ?_
                refine SX.seq_exit ?_
                refine SX.seq_exit ?_
                refine SX.hit ?_
                refine SX.seq ?_
                refine SC.seq ?_
                have hk3 : k = 2 := by omega
                obtain ⟨g0, g1, ht1, ht2⟩ : ∃ g0 g1, Turn R i ((8 * i : Nat) : Int) S0.e S1.e g0 g1 ∧ Turn R i ((8 * i : Nat) : Int) g1 g0 T1.e T0.e := by rcases hmd with ⟨h, _⟩ | ⟨h, _⟩ | ⟨_, h⟩; omega; omega; exact h
                obtain ⟨hrr2, hy2, hx2⟩ := hrr.next hcl ht1 ht2
                obtain ⟨p0_, f0, ov6, iv6, at6, Eo6, Ei6⟩ := T0
                obtain ⟨p1_, f1, ov7, iv7, at7, Eo7, Ei7⟩ := T1
                have hC0 : EnB f0 ov6 iv6 at6 Eo6 Ei6 := hC0
                have hC1 : EnB f1 ov7 iv7 at7 Eo7 Ei7 := hC1
                simp only at hrr2 hx2 hy2
                unfold endL
                have hl1 := hC1.ok.inn
                have hl0 := hC0.ok.inn
                have hm1 := congrArg List.length hx2
                have hm0 := congrArg List.length hy2
                rw [List.length_append] at hm0 hm1
                refine SC.plain ?_
                refine St.move rfl rfl ?_
                first | refine St.addN (b := 8) rfl rfl rfl (by omega) ?_ | refine St.addI rfl rfl rfl (by omega) ?_
                refine St.assign rfl rfl ?_
                refine St.done ?_
                refine SX.seq ?_
                refine SC.seq ?_
                refine SC.plain ?_
                refine St.move rfl rfl ?_
                refine St.move rfl rfl ?_
                refine St.indexSl (e := 80) (sz := 1) rfl rfl rfl (by kernel_rfl) (by omega) ?_
                refine St.load rfl rfl (by kernel_rfl) (Holds.row mem0 rfl) ?_
                refine St.perm (EnL p1_ f1 ov7 iv7 at7 Eo7 Ei7 ([⟨b3, two 0 (.pointer (some ⟨p0_, 0, none⟩)) (.pointer (some ⟨p1_, 0, none⟩)), 80⟩] :: EnL p0_ f0 ov6 iv6 at6 Eo6 Ei6 (Ex :: Ey :: L))) (perm_idx [[[⟨b3, two 0 (.pointer (some ⟨p0_, 0, none⟩)) (.pointer (some ⟨p1_, 0, none⟩)), 80⟩]], EnL p0_ f0 ov6 iv6 at6 Eo6 Ei6 [], EnL p1_ f1 ov7 iv7 at7 Eo7 Ei7 [], [Ex], [Ey]] (L) [2, 0, 1, 3, 4] (by kernel_rfl)) ?_
                refine St.call [_] rfl (by kernel_rfl) rfl (read18_spec w0 _ p1_ _ _ _ _ _ _ hC1) (fun _ _ _ _ h => h.nil) ?_
                rintro r22 L1 ⟨Et, hbt, L2, ⟨ov8, iv8, at8, Eo8, Ei8, hD8, rfl⟩, rfl⟩
                refine St.perm (Ex :: Et :: [⟨b3, two 0 (.pointer (some ⟨p0_, 0, none⟩)) (.pointer (some ⟨p1_, 0, none⟩)), 80⟩] :: EnL p1_ f1.take.1 ov8 iv8 at8 Eo8 Ei8 (EnL p0_ f0 ov6 iv6 at6 Eo6 Ei6 (Ey :: L))) (perm_idx [[Et], EnL p1_ f1.take.1 ov8 iv8 at8 Eo8 Ei8 [], [[⟨b3, two 0 (.pointer (some ⟨p0_, 0, none⟩)) (.pointer (some ⟨p1_, 0, none⟩)), 80⟩]], EnL p0_ f0 ov6 iv6 at6 Eo6 Ei6 [], [Ex], [Ey]] (L) [4, 0, 2, 1, 3, 5] (by kernel_rfl)) ?_
                refine St.append (e := 5) (sz := 1) (bytes := 1) (xs := bytes S1.e.inn) (n := S1.e.inn.length) (news := bytes f1.take.2) (m := f1.take.2.length) rfl rfl rfl (by kernel_rfl) hx (hbt.rd (by simp)) (bytes_one _) (by omega) (by omega) (fun _ _ h => h.nil) (fun xv2 Exv2 hxv2 _ => ?_)
                rw [← bytes_app, ← List.length_append, hx2] at hxv2
                refine St.weak (Exv2 :: [⟨b3, two 0 (.pointer (some ⟨p0_, 0, none⟩)) (.pointer (some ⟨p1_, 0, none⟩)), 80⟩] :: EnL p1_ f1.take.1 ov8 iv8 at8 Eo8 Ei8 (EnL p0_ f0 ov6 iv6 at6 Eo6 Ei6 (Ey :: L))) (.cons_cons _ (.cons _ (List.Sublist.refl _))) ?_
                refine St.perm ([⟨b3, two 0 (.pointer (some ⟨p0_, 0, none⟩)) (.pointer (some ⟨p1_, 0, none⟩)), 80⟩] :: EnL p0_ f0 ov6 iv6 at6 Eo6 Ei6 (EnL p1_ f1.take.1 ov8 iv8 at8 Eo8 Ei8 (Exv2 :: Ey :: L))) (perm_idx [[Exv2], [[⟨b3, two 0 (.pointer (some ⟨p0_, 0, none⟩)) (.pointer (some ⟨p1_, 0, none⟩)), 80⟩]], EnL p1_ f1.take.1 ov8 iv8 at8 Eo8 Ei8 [], EnL p0_ f0 ov6 iv6 at6 Eo6 Ei6 [], [Ey]] (L) [1, 3, 2, 0, 4] (by kernel_rfl)) ?_
                refine St.assign rfl rfl ?_
                refine St.done ?_
                refine SX.seq ?_
                refine SC.plain ?_
                refine St.move rfl rfl ?_
                refine St.move rfl rfl ?_
                refine St.indexSl (e := 80) (sz := 1) rfl rfl rfl (by kernel_rfl) (by omega) ?_
                refine St.load rfl rfl (by kernel_rfl) (Holds.row mem0 rfl) ?_
                refine St.perm (EnL p0_ f0 ov6 iv6 at6 Eo6 Ei6 ([⟨b3, two 0 (.pointer (some ⟨p0_, 0, none⟩)) (.pointer (some ⟨p1_, 0, none⟩)), 80⟩] :: EnL p1_ f1.take.1 ov8 iv8 at8 Eo8 Ei8 (Exv2 :: Ey :: L))) (perm_idx [[[⟨b3, two 0 (.pointer (some ⟨p0_, 0, none⟩)) (.pointer (some ⟨p1_, 0, none⟩)), 80⟩]], EnL p0_ f0 ov6 iv6 at6 Eo6 Ei6 [], EnL p1_ f1.take.1 ov8 iv8 at8 Eo8 Ei8 [], [Exv2], [Ey]] (L) [1, 0, 2, 3, 4] (by kernel_rfl)) ?_
                refine St.call [_] rfl (by kernel_rfl) rfl (read18_spec w0 _ p0_ _ _ _ _ _ _ hC0) (fun _ _ _ _ h => h.nil) ?_
                rintro r22 L1 ⟨Et, hbt, L2, ⟨ov9, iv9, at9, Eo9, Ei9, hD9, rfl⟩, rfl⟩
                refine St.perm (Ey :: Et :: [⟨b3, two 0 (.pointer (some ⟨p0_, 0, none⟩)) (.pointer (some ⟨p1_, 0, none⟩)), 80⟩] :: EnL p0_ f0.take.1 ov9 iv9 at9 Eo9 Ei9 (EnL p1_ f1.take.1 ov8 iv8 at8 Eo8 Ei8 (Exv2 :: L))) (perm_idx [[Et], EnL p0_ f0.take.1 ov9 iv9 at9 Eo9 Ei9 [], [[⟨b3, two 0 (.pointer (some ⟨p0_, 0, none⟩)) (.pointer (some ⟨p1_, 0, none⟩)), 80⟩]], EnL p1_ f1.take.1 ov8 iv8 at8 Eo8 Ei8 [], [Exv2], [Ey]] (L) [5, 0, 2, 1, 3, 4] (by kernel_rfl)) ?_
                refine St.append (e := 5) (sz := 1) (bytes := 1) (xs := bytes S0.e.inn) (n := S0.e.inn.length) (news := bytes f0.take.2) (m := f0.take.2.length) rfl rfl rfl (by kernel_rfl) hy (hbt.rd (by simp)) (bytes_one _) (by omega) (by omega) (fun _ _ h => h.nil) (fun yv2 Eyv2 hyv2 _ => ?_)
                rw [← bytes_app, ← List.length_append, hy2] at hyv2
                refine St.weak (Eyv2 :: [⟨b3, two 0 (.pointer (some ⟨p0_, 0, none⟩)) (.pointer (some ⟨p1_, 0, none⟩)), 80⟩] :: EnL p0_ f0.take.1 ov9 iv9 at9 Eo9 Ei9 (EnL p1_ f1.take.1 ov8 iv8 at8 Eo8 Ei8 (Exv2 :: L))) (.cons_cons _ (.cons _ (List.Sublist.refl _))) ?_
                refine St.perm ([⟨b3, two 0 (.pointer (some ⟨p0_, 0, none⟩)) (.pointer (some ⟨p1_, 0, none⟩)), 80⟩] :: EnL p0_ f0.take.1 ov9 iv9 at9 Eo9 Ei9 (EnL p1_ f1.take.1 ov8 iv8 at8 Eo8 Ei8 (Exv2 :: Eyv2 :: L))) (perm_idx [[Eyv2], [[⟨b3, two 0 (.pointer (some ⟨p0_, 0, none⟩)) (.pointer (some ⟨p1_, 0, none⟩)), 80⟩]], EnL p0_ f0.take.1 ov9 iv9 at9 Eo9 Ei9 [], EnL p1_ f1.take.1 ov8 iv8 at8 Eo8 Ei8 [], [Exv2]] (L) [1, 2, 3, 4, 0] (by kernel_rfl)) ?_
                refine St.assign rfl rfl ?_
                refine St.done ?_
                refine SX.blk ?_
                refine SX.seq ?_
                refine SC.plain ?_
                refine St.move rfl rfl ?_
                first | refine St.addN (b := 1) rfl rfl rfl (by omega) ?_ | refine St.addI rfl rfl rfl (by omega) ?_
                refine St.assign rfl rfl ?_
                refine St.done ?_
                have hnow : ((8 * (i + 1) : Nat) : Int) = ((8 * i : Nat) : Int) + 8 := by omega
                exact SX.again (i + 1, n2, Sd.mk p0_ f0.take.1 ov9 iv9 at9 Eo9 Ei9, Sd.mk p1_ f1.take.1 ov8 iv8 at8 Eo8 Ei8, xv2, Exv2, yv2, Eyv2) ⟨by simp only; omega, by simp only; omega, by rw [hnow]; exact hrr2, hD9, hD8, hxv2, hyv2⟩ (by simp only; omega) ⟨rfl, rfl, rfl, rfl, rfl, rfl, rfl, rfl, rfl, rfl, trivial⟩ (List.Perm.refl _)
            · refine SC.exit ?_
              refine SX.seq_exit ?_
              refine SX.seq_exit ?_
              refine SX.hit ?_
              refine SX.seq ?_
              refine SC.seq ?_
              have hiN : R + 13 ≤ i := by omega
              obtain ⟨z1, z2, z3, z4, z5, z6⟩ := hrr.end_ hiN
              obtain ⟨p0_, f0, ov6, iv6, at6, Eo6, Ei6⟩ := S0
              obtain ⟨p1_, f1, ov7, iv7, at7, Eo7, Ei7⟩ := S1
              have hB0 : EnB f0 ov6 iv6 at6 Eo6 Ei6 := hB0
              have hB1 : EnB f1 ov7 iv7 at7 Eo7 Ei7 := hB1
              simp only at z1 z2 z3 z4 z5 z6 hx hy
              rw [z1] at hx
              rw [z2] at hy
              unfold endL
              refine SC.plain ?_
              refine St.move rfl rfl ?_
              refine St.toStr (e := 5) (bs := a) (n := a.length) rfl rfl (hx.rd (by simp [Lq, EnL])) (by kernel_rfl) (by kernel_rfl) (by kernel_rfl) ?_
              refine St.move rfl rfl ?_
              refine St.toStr (e := 5) (bs := a) (n := a.length) rfl rfl (Rd.mono hva (fun w hw => hw.sub (sub_flat (.cons _ (.cons _ (.cons _ (.cons _ (.cons _ (.cons _ (.cons _ (.cons _ (.cons _ (List.Sublist.refl _))))))))))))) (by kernel_rfl) (by kernel_rfl) (by kernel_rfl) ?_
              refine St.strEql rfl rfl rfl ?_
              refine St.move rfl rfl ?_
              refine St.split 147 rfl (fun g147 => ?_) (fun g147 => ?_)
              · refine St.guard_yes rfl rfl ?_
                refine St.move rfl rfl ?_
                refine St.guard_yes rfl rfl ?_
                refine St.toStr (e := 5) (bs := b) (n := b.length) rfl rfl (hy.rd (by simp [Lq, EnL])) (by kernel_rfl) (by kernel_rfl) (by kernel_rfl) ?_
                refine St.guard_yes rfl rfl ?_
                refine St.move rfl rfl ?_
                refine St.guard_yes rfl rfl ?_
                refine St.toStr (e := 5) (bs := b) (n := b.length) rfl rfl (Rd.mono hvb (fun w hw => hw.sub (sub_flat (.cons _ (.cons _ (.cons _ (.cons _ (.cons _ (.cons _ (.cons _ (.cons _ (.cons _ (List.Sublist.refl _))))))))))))) (by kernel_rfl) (by kernel_rfl) (by kernel_rfl) ?_
                refine St.guard_yes rfl rfl ?_
                refine St.strEql rfl rfl rfl ?_
                refine St.pick_true rfl rfl rfl ?_
                refine St.move rfl rfl ?_
                refine St.split 154 rfl (fun g154 => ?_) (fun g154 => ?_)
                · refine St.guard_yes rfl rfl ?_
                  refine St.move rfl rfl ?_
                  refine St.guard_yes rfl rfl ?_
                  refine St.indexSl (e := 80) (sz := 1) rfl rfl rfl (by kernel_rfl) (by omega) ?_
                  refine St.guard_yes rfl rfl ?_
                  refine St.load rfl rfl (by kernel_rfl) (Holds.row mem0 rfl) ?_
                  refine St.guard_yes rfl rfl ?_
                  refine St.perm (EnL p0_ f0 ov6 iv6 at6 Eo6 Ei6 ([⟨b3, two 0 (.pointer (some ⟨p0_, 0, none⟩)) (.pointer (some ⟨p1_, 0, none⟩)), 80⟩] :: EnL p1_ f1 ov7 iv7 at7 Eo7 Ei7 (Ex :: Ey :: L))) (perm_idx [[[⟨b3, two 0 (.pointer (some ⟨p0_, 0, none⟩)) (.pointer (some ⟨p1_, 0, none⟩)), 80⟩]], EnL p0_ f0 ov6 iv6 at6 Eo6 Ei6 [], EnL p1_ f1 ov7 iv7 at7 Eo7 Ei7 [], [Ex], [Ey]] (L) [1, 0, 2, 3, 4] (by kernel_rfl)) ?_
                  refine St.call [_] rfl (by kernel_rfl) rfl (done18_spec w0 _ p0_ _ _ _ _ _ _ hB0) (fun _ _ _ _ h => h.nil) ?_
                  rintro r24 L1 ⟨rfl, rfl⟩
                  rw [z3]
                  refine St.perm ([⟨b3, two 0 (.pointer (some ⟨p0_, 0, none⟩)) (.pointer (some ⟨p1_, 0, none⟩)), 80⟩] :: EnL p0_ f0 ov6 iv6 at6 Eo6 Ei6 (EnL p1_ f1 ov7 iv7 at7 Eo7 Ei7 (Ex :: Ey :: L))) (perm_idx [EnL p0_ f0 ov6 iv6 at6 Eo6 Ei6 [], [[⟨b3, two 0 (.pointer (some ⟨p0_, 0, none⟩)) (.pointer (some ⟨p1_, 0, none⟩)), 80⟩]], EnL p1_ f1 ov7 iv7 at7 Eo7 Ei7 [], [Ex], [Ey]] (L) [1, 0, 2, 3, 4] (by kernel_rfl)) ?_
                  refine St.pick_true rfl rfl rfl ?_
                  refine St.move rfl rfl ?_
                  refine St.guard_yes rfl rfl ?_
                  refine St.move rfl rfl ?_
                  refine St.guard_yes rfl rfl ?_
                  refine St.indexSl (e := 80) (sz := 1) rfl rfl rfl (by kernel_rfl) (by omega) ?_
                  refine St.guard_yes rfl rfl ?_
                  refine St.load rfl rfl (by kernel_rfl) (Holds.row mem0 rfl) ?_
                  refine St.guard_yes rfl rfl ?_
                  refine St.perm (EnL p1_ f1 ov7 iv7 at7 Eo7 Ei7 ([⟨b3, two 0 (.pointer (some ⟨p0_, 0, none⟩)) (.pointer (some ⟨p1_, 0, none⟩)), 80⟩] :: EnL p0_ f0 ov6 iv6 at6 Eo6 Ei6 (Ex :: Ey :: L))) (perm_idx [[[⟨b3, two 0 (.pointer (some ⟨p0_, 0, none⟩)) (.pointer (some ⟨p1_, 0, none⟩)), 80⟩]], EnL p0_ f0 ov6 iv6 at6 Eo6 Ei6 [], EnL p1_ f1 ov7 iv7 at7 Eo7 Ei7 [], [Ex], [Ey]] (L) [2, 0, 1, 3, 4] (by kernel_rfl)) ?_
                  refine St.call [_] rfl (by kernel_rfl) rfl (done18_spec w0 _ p1_ _ _ _ _ _ _ hB1) (fun _ _ _ _ h => h.nil) ?_
                  rintro r24 L1 ⟨rfl, rfl⟩
                  rw [z4]
                  refine St.perm ([⟨b3, two 0 (.pointer (some ⟨p0_, 0, none⟩)) (.pointer (some ⟨p1_, 0, none⟩)), 80⟩] :: EnL p0_ f0 ov6 iv6 at6 Eo6 Ei6 (EnL p1_ f1 ov7 iv7 at7 Eo7 Ei7 (Ex :: Ey :: L))) (perm_idx [EnL p1_ f1 ov7 iv7 at7 Eo7 Ei7 [], [[⟨b3, two 0 (.pointer (some ⟨p0_, 0, none⟩)) (.pointer (some ⟨p1_, 0, none⟩)), 80⟩]], EnL p0_ f0 ov6 iv6 at6 Eo6 Ei6 [], [Ex], [Ey]] (L) [1, 2, 0, 3, 4] (by kernel_rfl)) ?_
                  refine St.pick_true rfl rfl rfl ?_
                  refine St.move rfl rfl ?_
                  refine St.guard_yes rfl rfl ?_
                  refine St.move rfl rfl ?_
                  refine St.guard_yes rfl rfl ?_
                  refine St.indexSl (e := 80) (sz := 1) rfl rfl rfl (by kernel_rfl) (by omega) ?_
                  refine St.guard_yes rfl rfl ?_
                  refine St.load rfl rfl (by kernel_rfl) (Holds.row mem0 rfl) ?_
                  refine St.guard_yes rfl rfl ?_
                  refine St.perm (EnL p0_ f0 ov6 iv6 at6 Eo6 Ei6 ([⟨b3, two 0 (.pointer (some ⟨p0_, 0, none⟩)) (.pointer (some ⟨p1_, 0, none⟩)), 80⟩] :: EnL p1_ f1 ov7 iv7 at7 Eo7 Ei7 (Ex :: Ey :: L))) (perm_idx [[[⟨b3, two 0 (.pointer (some ⟨p0_, 0, none⟩)) (.pointer (some ⟨p1_, 0, none⟩)), 80⟩]], EnL p0_ f0 ov6 iv6 at6 Eo6 Ei6 [], EnL p1_ f1 ov7 iv7 at7 Eo7 Ei7 [], [Ex], [Ey]] (L) [1, 0, 2, 3, 4] (by kernel_rfl)) ?_
                  refine St.call [_] rfl (by kernel_rfl) rfl (idle18_spec w0 _ p0_ _ _ _ _ _ _ hB0) (fun _ _ _ _ h => h.nil) ?_
                  rintro r24 L1 ⟨rfl, rfl⟩
                  rw [z5]
                  refine St.perm ([⟨b3, two 0 (.pointer (some ⟨p0_, 0, none⟩)) (.pointer (some ⟨p1_, 0, none⟩)), 80⟩] :: EnL p0_ f0 ov6 iv6 at6 Eo6 Ei6 (EnL p1_ f1 ov7 iv7 at7 Eo7 Ei7 (Ex :: Ey :: L))) (perm_idx [EnL p0_ f0 ov6 iv6 at6 Eo6 Ei6 [], [[⟨b3, two 0 (.pointer (some ⟨p0_, 0, none⟩)) (.pointer (some ⟨p1_, 0, none⟩)), 80⟩]], EnL p1_ f1 ov7 iv7 at7 Eo7 Ei7 [], [Ex], [Ey]] (L) [1, 0, 2, 3, 4] (by kernel_rfl)) ?_
                  refine St.pick_true rfl rfl rfl ?_
                  refine St.move rfl rfl ?_
                  refine St.guard_yes rfl rfl ?_
                  refine St.move rfl rfl ?_
                  refine St.guard_yes rfl rfl ?_
                  refine St.indexSl (e := 80) (sz := 1) rfl rfl rfl (by kernel_rfl) (by omega) ?_
                  refine St.guard_yes rfl rfl ?_
                  refine St.load rfl rfl (by kernel_rfl) (Holds.row mem0 rfl) ?_
                  refine St.guard_yes rfl rfl ?_
                  refine St.perm (EnL p1_ f1 ov7 iv7 at7 Eo7 Ei7 ([⟨b3, two 0 (.pointer (some ⟨p0_, 0, none⟩)) (.pointer (some ⟨p1_, 0, none⟩)), 80⟩] :: EnL p0_ f0 ov6 iv6 at6 Eo6 Ei6 (Ex :: Ey :: L))) (perm_idx [[[⟨b3, two 0 (.pointer (some ⟨p0_, 0, none⟩)) (.pointer (some ⟨p1_, 0, none⟩)), 80⟩]], EnL p0_ f0 ov6 iv6 at6 Eo6 Ei6 [], EnL p1_ f1 ov7 iv7 at7 Eo7 Ei7 [], [Ex], [Ey]] (L) [2, 0, 1, 3, 4] (by kernel_rfl)) ?_
                  refine St.call [_] rfl (by kernel_rfl) rfl (idle18_spec w0 _ p1_ _ _ _ _ _ _ hB1) (fun _ _ _ _ h => h.nil) ?_
                  rintro r24 L1 ⟨rfl, rfl⟩
                  rw [z6]
                  refine St.perm ([⟨b3, two 0 (.pointer (some ⟨p0_, 0, none⟩)) (.pointer (some ⟨p1_, 0, none⟩)), 80⟩] :: EnL p0_ f0 ov6 iv6 at6 Eo6 Ei6 (EnL p1_ f1 ov7 iv7 at7 Eo7 Ei7 (Ex :: Ey :: L))) (perm_idx [EnL p1_ f1 ov7 iv7 at7 Eo7 Ei7 [], [[⟨b3, two 0 (.pointer (some ⟨p0_, 0, none⟩)) (.pointer (some ⟨p1_, 0, none⟩)), 80⟩]], EnL p0_ f0 ov6 iv6 at6 Eo6 Ei6 [], [Ex], [Ey]] (L) [1, 2, 0, 3, 4] (by kernel_rfl)) ?_
                  refine St.pick_true rfl rfl rfl ?_
                  refine St.move rfl rfl ?_
                  refine St.guard_yes rfl rfl ?_
                  refine St.call [] rfl (by kernel_rfl) rfl (awake18_spec w0 _) (by first | exact fun _ _ _ _ h => h.nil | assumption) ?_
                  rintro r24 L1 ⟨rfl, rfl⟩
                  refine St.pick_true rfl rfl rfl ?_
                  refine St.assign rfl rfl ?_
                  refine St.done ?_
                  refine SX.seq ?_
                  refine SC.ret ?_
                  exact SX.ret1 rfl rfl rfl
                · exact absurd rfl g154
              · exact absurd rfl g147
end Go.Proofs.Ytahafepgmkiabaa
