/- Walks: the document's inflating: whole streams. -/
import Derived.Test.YtahafepgmkiabaaK4
import Derived.Test.YtahafepgmkiabaaJ6
set_option linter.unusedVariables false
set_option linter.unusedSimpArgs false
set_option linter.ambiguousOpen false
namespace Go.Proofs.Ytahafepgmkiabaa
open Go Go.Proofs.Ytahafepgmkiabaa.Sep Go.Proofs.Ytahafepgmkiabaa.Inf

def gotCells (v : Value) (s : Res) : List Value := [v, .int .i64 ((s.2.1 : Nat) : Int), .int .i64 s.2.2]
/-- A result as the document's answers have it. -/
def GotA (s : Res) (L : List Chunk) (r : Value) (L' : List Chunk) : Prop := ∃ v E, r = .agg (gotCells v s).toArray ∧ Buf 5 1 v (bytes s.1) s.1.length E ∧ L' = E :: L
theorem raw_take3 {F g : Nat} {bs : List Nat} {most t : Nat} {o : List Nat} (h : t + 3 ≤ 8 * bs.length) : rawR F (g + 1) bs most t o = bindR (blockR F (takeN bs (t + 1) 2)) (fun _ => if takeN bs t 1 = 0 then rawR F g else pureR ()) bs most (t + 3) o := by
  rw [raw_succ, bind_of (takeR_ok (show t + 1 ≤ _ by omega)), bind_of (takeR_ok (show t + 1 + 2 ≤ _ by omega))]
theorem raw_torn3 {F g : Nat} {bs : List Nat} {most t : Nat} {o : List Nat} (h : ¬ t + 3 ≤ 8 * bs.length) : rawR F (g + 1) bs most t o = .bad 4 := by
  rw [raw_succ]
  by_cases h1 : t + 1 ≤ 8 * bs.length
  · rw [bind_of (takeR_ok h1)]; exact bind_bad (takeR_bad (by omega))
  · exact bind_bad (takeR_bad h1)

theorem wraw_spec (w0 : World) (L : List Chunk) (rv : Value) (bs : List Nat) (hv : Rd w0 L rv 1 bs.length (bytes bs)) (hcp : Cap rv) (hl : bs.length ≤ 140737488351232) (hb : ∀ b ∈ bs, b < 256) (m : Int) (hm0 : m ≤ 70368744177664) (F : Nat) (hF : 8 * bs.length < F) :
    Meets Try.prog 102 #[rv, .int .i64 m] w0 L (fun r L' => GotA (rawRes (rawR F F bs m.toNat 0 [])) L r L' ∧ RawOk bs m.toNat (rawR F F bs m.toNat 0 [])) := by
  have hmx : max m 0 = ((m.toNat : Nat) : Int) := by omega
  obtain ⟨most, hmo⟩ : ∃ k, k = m.toNat := ⟨_, rfl⟩
  rw [← hmo] at hmx ⊢
  refine Meets.of_body [rv, .int .i64 m] Try.func102 rfl Try.ntmps102 rfl ?_
  refine SC.seq ?_
  refine SC.plain ?_
  refine St.alloc [.slice none 0 0, .int .i64 0, .int .i64 0] rfl (by kernel_rfl) (fun _ _ h => h.nil) (fun b4 => ?_)
  refine St.done ?_
  refine SX.seq ?_
  refine SC.seq ?_
  refine SC.plain ?_
  refine St.move rfl rfl ?_
  obtain ⟨A0, n0, c0, hrv, hnc⟩ := hcp
  subst hrv
  refine St.build [(0, .slice A0 n0 c0)] [.slice A0 n0 c0, .int .i64 0] rfl rfl (by kernel_rfl) ?_
  refine St.box [.slice A0 n0 c0, .int .i64 0] rfl rfl rfl (fun _ _ h => h.nil) (fun q => ?_)
  refine St.move rfl rfl ?_
  refine St.max2 rfl rfl rfl ?_
  rw [hmx]
  refine St.build [(0, .pointer (some ⟨q, 0, none⟩)), (2, .int .i64 ((most : Nat) : Int))] [.pointer (some ⟨q, 0, none⟩), .slice none 0 0, .int .i64 ((most : Nat) : Int), .int .i64 0] rfl rfl (by kernel_rfl) ?_
  refine St.box [.pointer (some ⟨q, 0, none⟩), .slice none 0 0, .int .i64 ((most : Nat) : Int), .int .i64 0] rfl rfl rfl (fun _ _ h => h.nil) (fun p => ?_)
  obtain ⟨rv, hrv⟩ : ∃ rv, rv = Value.slice A0 n0 c0 := ⟨_, rfl⟩
  rw [← hrv] at hv ⊢
  have hcp : Cap rv := ⟨A0, n0, c0, hrv, hnc⟩
  have hR0 : RIn w0 L rv bs most 0 [] (.slice none 0 0) [] := ⟨hv, hl, hb, by omega, by omega, Buf.nil 5 1, Nat.zero_le _, by simp, hcp⟩
  refine St.perm (WkL p q rv (.slice none 0 0) 0 most 0 [] ([⟨b4, [.slice none 0 0, .int .i64 0, .int .i64 0], 66⟩] :: L)) (List.Perm.refl _) ?_
  refine St.assign rfl rfl ?_
  refine St.done ?_
  refine SX.seq ?_
  refine SC.seq ?_
  refine SC.plain ?_
  refine St.assign rfl rfl ?_
  refine St.done ?_
  refine SX.seq ?_
  refine SC.join (α := Nat × List Nat × Value × Chunk × Int) (fun s_ => RIn w0 L rv bs most s_.1 s_.2.1 s_.2.2.1 s_.2.2.2.1 ∧ (s_.2.2.2.2 = 0 → rawR F F bs most 0 [] = .ok () s_.1 s_.2.1) ∧ (s_.2.2.2.2 ≠ 0 → rawR F F bs most 0 [] = .bad s_.2.2.2.2)) (fun s_ => [(4, .pointer (some ⟨b4, 0, none⟩)), (5, .pointer (some ⟨p, 0, none⟩))]) (fun s_ => WkL p q rv s_.2.2.1 s_.1 most s_.2.2.2.2 s_.2.2.2.1 ([⟨b4, [.slice none 0 0, .int .i64 0, .int .i64 0], 66⟩] :: L)) ?_ ?_
  · rintro ⟨t, o, v, E, e⟩ ⟨hRi, hok, hbad⟩
    simp only at hRi hok hbad
    have hati := hRi.at_
    obtain ⟨bo, oo, Ao, co, rfl, _, _⟩ := hRi.sl
    show SC _ _ _ [(4, .pointer (some ⟨b4, 0, none⟩)), (5, .pointer (some ⟨p, 0, none⟩))] (WkL p q rv (.slice Ao o.length co) t most e E ([⟨b4, [.slice none 0 0, .int .i64 0, .int .i64 0], 66⟩] :: L))
    unfold WkL
    refine SC.seq ?_
    refine SC.seq ?_
    refine SC.plain ?_
    refine St.move rfl rfl ?_
    refine St.nilCheck rfl rfl ?_
    refine St.fieldAddr (off := 3) rfl rfl (by kernel_rfl) ?_
    refine St.load rfl rfl (by kernel_rfl) (by first | exact Holds.row mem0 rfl | exact Holds.row mem1 rfl | exact Holds.row mem2 rfl | exact Holds.row mem3 rfl | exact Holds.row mem4 rfl | exact Holds.row mem5 rfl | exact Holds.row mem6 rfl | exact Holds.row mem7 rfl | exact Holds.row mem8 rfl) ?_
    refine St.neq rfl rfl rfl ?_
    refine St.done ?_
    refine SX.seq ?_
    refine SC.condp rfl (fun c80 => ?_) (fun c80 => ?_)
    · refine SC.seq ?_
      refine SC.plain ?_
      refine St.move rfl rfl ?_
      refine St.nilCheck rfl rfl ?_
      refine St.fieldAddr (off := 3) rfl rfl (by kernel_rfl) ?_
      refine St.load rfl rfl (by kernel_rfl) (by first | exact Holds.row mem0 rfl | exact Holds.row mem1 rfl | exact Holds.row mem2 rfl | exact Holds.row mem3 rfl | exact Holds.row mem4 rfl | exact Holds.row mem5 rfl | exact Holds.row mem6 rfl | exact Holds.row mem7 rfl | exact Holds.row mem8 rfl) ?_
      refine St.build [(2, .int .i64 e)] (gotCells (.slice none 0 0) ([], 0, e)) rfl rfl (by kernel_rfl) ?_
      refine St.storeN3 rfl rfl rfl (gotCells (.slice none 0 0) ([], 0, e)) rfl (by kernel_rfl) (by simp [gotCells, one]) (by simp [gotCells]) (fun _ h => h.nil) ?_
      rw [show splice [.slice none 0 0, .int .i64 0, .int .i64 0] 0 (gotCells (.slice none 0 0) ([], 0, e)) = gotCells (.slice none 0 0) ([], 0, e) from rfl]
      refine St.done ?_
      refine SX.seq ?_
      refine SC.ret ?_
      refine SX.seq_ret ?_
      rw [hbad c80]
      exact SX.retC (gotCells (.slice none 0 0) ([], 0, e)) (.inl rfl) rfl rfl (by kernel_rfl) (HoldsN.of_row mem3) (L' := [] :: L) (fun _ h => h.drop.drop.drop.drop.perm (List.Perm.refl _)) ⟨⟨_, _, rfl, Buf.nil 5 1, rfl⟩, ⟨fun e1 h => (by cases h; exact c80), fun _ _ _ h => (by cases h)⟩⟩
    · obtain rfl : e = 0 := by omega
      refine SC.skip ?_
      refine SX.seq ?_
      refine SC.seq ?_
      refine SC.drawn [(0, true), (1, true), (2, true), (3, true), (4, true), (5, true), (6, true), (7, true), (8, false), (9, true)] [10] (_) (by kernel_rfl) (by kernel_rfl) (fun _ h => h) ?_
      refine St.move rfl rfl ?_
      refine St.nilCheck rfl rfl ?_
      refine St.fieldAddr (off := 1) rfl rfl (by kernel_rfl) ?_
      refine St.load rfl rfl (by kernel_rfl) (by first | exact Holds.row mem0 rfl | exact Holds.row mem1 rfl | exact Holds.row mem2 rfl | exact Holds.row mem3 rfl | exact Holds.row mem4 rfl | exact Holds.row mem5 rfl | exact Holds.row mem6 rfl | exact Holds.row mem7 rfl | exact Holds.row mem8 rfl) ?_
      refine St.move rfl rfl ?_
      refine St.nilCheck rfl rfl ?_
      refine St.fieldAddr (off := 0) rfl rfl (by kernel_rfl) ?_
      refine St.load rfl rfl (by kernel_rfl) (by first | exact Holds.row mem0 rfl | exact Holds.row mem1 rfl | exact Holds.row mem2 rfl | exact Holds.row mem3 rfl | exact Holds.row mem4 rfl | exact Holds.row mem5 rfl | exact Holds.row mem6 rfl | exact Holds.row mem7 rfl | exact Holds.row mem8 rfl) ?_
      refine St.perm _ (perm12 _ _ _) ?_
      refine St.call [_] rfl (by kernel_rfl) rfl (rused_spec w0 _ _ q t (by omega)) (fun _ _ _ h hw => by rw [← h.1] at hw; exact hw.perm (perm12 _ _ _)) ?_
      rintro r6 L6 ⟨rfl, rfl⟩
      refine St.perm _ (perm12 _ _ _) ?_
      refine St.build [(0, .slice Ao o.length co), (1, .int .i64 (((t + 7) / 8 : Nat) : Int)), (2, .int .i64 0)] (gotCells (.slice Ao o.length co) (o, (t + 7) / 8, 0)) rfl rfl (by kernel_rfl) ?_
      refine St.done ?_
      refine SX.tail ?_
      refine St.storeN3 rfl rfl rfl (gotCells (.slice Ao o.length co) (o, (t + 7) / 8, 0)) rfl (by kernel_rfl) (by simp [gotCells, one]) (by simp [gotCells]) (fun _ h => h.nil) ?_
      rw [show splice [.slice none 0 0, .int .i64 0, .int .i64 0] 0 (gotCells (.slice Ao o.length co) (o, (t + 7) / 8, 0)) = gotCells (.slice Ao o.length co) (o, (t + 7) / 8, 0) from rfl]
      refine St.done ?_
      refine SX.seq ?_
      refine SC.ret ?_
      rw [hok rfl]
      exact SX.retC (gotCells (.slice Ao o.length co) (o, (t + 7) / 8, 0)) (.inl rfl) rfl rfl (by kernel_rfl) (HoldsN.of_row mem3) (L' := E :: L) (fun _ h => h.sub (sub_flat (.cons _ (.cons _ (.cons_cons _ (.cons _ (List.Sublist.refl _))))))) ⟨⟨_, _, rfl, hRi.buf, rfl⟩, ⟨fun _ h => (by cases h), fun _ _ _ h => (by cases h; exact ⟨hRi.room, hRi.at_, hRi.outB⟩)⟩⟩
  · refine SC.block ?_
    refine SC.loop (α := Nat × Nat × List Nat × Value × Chunk × Nat × Int) (fun s_ => RIn w0 L rv bs most s_.2.1 s_.2.2.1 s_.2.2.2.1 s_.2.2.2.2.1 ∧ (s_.2.2.2.2.2.2 = 0 → (s_.2.2.2.2.2.1 = 0 → 8 * bs.length - s_.2.1 < s_.1 ∧ rawR F F bs most 0 [] = rawR F s_.1 bs most s_.2.1 s_.2.2.1) ∧ (s_.2.2.2.2.2.1 ≠ 0 → rawR F F bs most 0 [] = .ok () s_.2.1 s_.2.2.1)) ∧ (s_.2.2.2.2.2.2 ≠ 0 → rawR F F bs most 0 [] = .bad s_.2.2.2.2.2.2)) (fun s_ => [(4, .pointer (some ⟨b4, 0, none⟩)), (5, .pointer (some ⟨p, 0, none⟩)), (6, .int .i64 ((s_.2.2.2.2.2.1 : Nat) : Int))]) (fun s_ => WkL p q rv s_.2.2.2.1 s_.2.1 most s_.2.2.2.2.2.2 s_.2.2.2.2.1 ([⟨b4, [.slice none 0 0, .int .i64 0, .int .i64 0], 66⟩] :: L)) (fun s_ => s_.1) (F, 0, [], .slice none 0 0, [], 0, 0) ⟨hR0, fun _ => ⟨fun _ => ⟨by simp only; omega, rfl⟩, fun h => absurd rfl h⟩, fun h => absurd rfl h⟩ ⟨rfl, rfl, rfl, trivial⟩ (List.Perm.refl _) ?_
    rintro ⟨g, t, o, v, E, last, e⟩ ⟨hRi, hok, hbad⟩
    simp only at hRi hok hbad
    show SC _ _ _ [(4, .pointer (some ⟨b4, 0, none⟩)), (5, .pointer (some ⟨p, 0, none⟩)), (6, .int .i64 ((last : Nat) : Int))] (WkL p q rv v t most e E ([⟨b4, [.slice none 0 0, .int .i64 0, .int .i64 0], 66⟩] :: L))
    unfold WkL
    refine SC.seq ?_
    refine SC.seq ?_
    refine SC.plain ?_
    refine St.move rfl rfl ?_
    refine St.eql rfl rfl rfl ?_
    refine St.move rfl rfl ?_
    refine St.split 21 rfl (fun g21 => ?_) (fun g21 => ?_)
    · refine St.guard_yes rfl rfl ?_
      refine St.move rfl rfl ?_
      refine St.guard_yes rfl rfl ?_
      refine St.nilCheck rfl rfl ?_
      refine St.guard_yes rfl rfl ?_
      refine St.fieldAddr (off := 3) rfl rfl (by kernel_rfl) ?_
      refine St.guard_yes rfl rfl ?_
      refine St.load rfl rfl (by kernel_rfl) (by first | exact Holds.row mem0 rfl | exact Holds.row mem1 rfl | exact Holds.row mem2 rfl | exact Holds.row mem3 rfl | exact Holds.row mem4 rfl | exact Holds.row mem5 rfl | exact Holds.row mem6 rfl | exact Holds.row mem7 rfl | exact Holds.row mem8 rfl) ?_
      refine St.guard_yes rfl rfl ?_
      refine St.eql rfl rfl rfl ?_
      refine St.pick_true rfl rfl rfl ?_
      refine St.done ?_
      refine SX.seq ?_
      refine SC.condp rfl (fun c27 => ?_) (fun c27 => ?_)
      · obtain rfl : e = 0 := c27
        obtain ⟨hf, hmi⟩ := (hok rfl).1 (by omega)
        obtain ⟨g, rfl⟩ : ∃ k, g = k + 1 := ⟨g - 1, by omega⟩
        have hati := hRi.at_
        refine SC.skip ?_
        refine SX.seq ?_
        refine SC.block ?_
        refine SC.seq ?_
        refine SC.plain ?_
        refine St.move rfl rfl ?_
        refine St.call [_, _] rfl (by kernel_rfl) rfl (wtake_spec w0 ([⟨b4, [.slice none 0 0, .int .i64 0, .int .i64 0], 66⟩] :: L) p q rv v bs most t o 0 E (hRi.on hv.cons) 3 (by omega)) (fun _ _ _ _ h => h.nil) ?_
        rintro r4 L4 (⟨ht3, rfl, rfl⟩ | ⟨h4, rfl, rfl⟩)
        · have hm1 := hmi.trans (raw_take3 ht3)
          have hk3 : takeN bs t 3 = takeN bs t 1 + takeN bs (t + 1) 2 * 2 ^ 1 := take_add bs t 1 2
          have hlt1 := take_lt bs t 1
          have hlt2 := take_lt bs (t + 1) 2
          obtain ⟨lst, hlst⟩ : ∃ k, k = takeN bs t 1 := ⟨_, rfl⟩
          obtain ⟨k, hk⟩ : ∃ k, k = takeN bs (t + 1) 2 := ⟨_, rfl⟩
          rw [← hlst, ← hk] at hm1
          rw [show takeN bs t 3 = lst + k * 2 by omega]
          unfold WkL
          refine St.assign rfl rfl ?_
          refine St.done ?_
          refine SX.seq ?_
          refine SC.seq ?_
          refine SC.plain ?_
          refine St.move rfl rfl ?_
          refine St.andN (b := 1) rfl rfl rfl (by omega) (by omega) ?_
          rw [Nat.and_one_is_mod, show (lst + k * 2) % 2 = lst by omega]
          refine St.assign rfl rfl ?_
          refine St.done ?_
          refine SX.seq ?_
          refine SC.block ?_
          refine SC.seq ?_
          refine SC.plain ?_
          refine St.move rfl rfl ?_
          refine St.nilCheck rfl rfl ?_
          refine St.fieldAddr (off := 3) rfl rfl (by kernel_rfl) ?_
          refine St.load rfl rfl (by kernel_rfl) (by first | exact Holds.row mem0 rfl | exact Holds.row mem1 rfl | exact Holds.row mem2 rfl | exact Holds.row mem3 rfl | exact Holds.row mem4 rfl | exact Holds.row mem5 rfl | exact Holds.row mem6 rfl | exact Holds.row mem7 rfl | exact Holds.row mem8 rfl) ?_
          refine St.neq rfl rfl rfl ?_
          refine St.assign rfl rfl ?_
          refine St.done ?_
          refine SX.seq ?_
          refine SC.condp rfl (fun c34 => ?_) (fun c34 => ?_)
          · exfalso; omega
          · refine SC.seq ?_
            refine SC.plain ?_
            refine St.move rfl rfl ?_
            refine St.shrN (b := 1) rfl rfl rfl (by omega) ?_
            rw [show (lst + k * 2) / 2 ^ 1 = k by omega]
            refine St.eql rfl rfl rfl ?_
            refine St.assign rfl rfl ?_
            refine St.done ?_
            refine SX.seq ?_
            refine SC.condp rfl (fun c40 => ?_) (fun c40 => ?_)
            · obtain rfl : k = 0 := by omega
              have hm2 := hm1
              refine SC.plain ?_
              refine St.move rfl rfl ?_
              refine St.call [_] rfl (by kernel_rfl) rfl (wstored_spec w0 ([⟨b4, [.slice none 0 0, .int .i64 0, .int .i64 0], 66⟩] :: L) p q rv v bs most (t + 3) o E ((hRi.to ht3).on hv.cons)) (fun _ _ _ _ h => h.nil) ?_
              rintro r8 L8 h8
              rcases h8.cases with ⟨a5, t5, o5, v5, E5, hg5, hR5, rfl⟩ | ⟨e5, t5, o5, v5, E5, hg5, hne5, hR5, rfl⟩
              · have hm3 := hm2.trans (bind_of (m := blockR F 0) hg5)
                have hgl := ((good_block F 0).mono hg5 ht3).1
                refine St.done ?_
                refine SX.blk ?_
                refine SX.blk ?_
                first
                  | exact SX.again (g, t5, o5, v5, E5, lst, 0) ⟨hR5.on hv, fun _ => ⟨fun h => ⟨by simp only; omega, hm3.trans (ifR_pos h)⟩, fun h => hm3.trans (ifR_neg h)⟩, fun h => absurd rfl h⟩ (by simp only; omega) ⟨rfl, rfl, rfl, trivial⟩ (List.Perm.refl _)
                  | exact SX.again (g, t5, o5, v5, E5, lst, e5) ⟨hR5.on hv, fun h => absurd h hne5, fun _ => hm3⟩ (by simp only; omega) ⟨rfl, rfl, rfl, trivial⟩ (List.Perm.refl _)
                  | exact SX.again (g, t + 3, o, v, E, lst, 3) ⟨hRi.to ht3, fun h => absurd (show (3 : Int) = 0 from h) (by decide), fun _ => hm3⟩ (by simp only; omega) ⟨rfl, rfl, rfl, trivial⟩ (List.Perm.refl _)
                  | exact SX.again (g, t, o, v, E, 0, 4) ⟨hRi, fun h => absurd (show (4 : Int) = 0 from h) (by decide), fun _ => hm3⟩ (by simp only; omega) ⟨rfl, rfl, rfl, trivial⟩ (List.Perm.refl _)
              · have hm3 := hm2.trans (bind_bad (m := blockR F 0) hg5)
                refine St.done ?_
                refine SX.blk ?_
                refine SX.blk ?_
                first
                  | exact SX.again (g, t5, o5, v5, E5, lst, 0) ⟨hR5.on hv, fun _ => ⟨fun h => ⟨by simp only; omega, hm3.trans (ifR_pos h)⟩, fun h => hm3.trans (ifR_neg h)⟩, fun h => absurd rfl h⟩ (by simp only; omega) ⟨rfl, rfl, rfl, trivial⟩ (List.Perm.refl _)
                  | exact SX.again (g, t5, o5, v5, E5, lst, e5) ⟨hR5.on hv, fun h => absurd h hne5, fun _ => hm3⟩ (by simp only; omega) ⟨rfl, rfl, rfl, trivial⟩ (List.Perm.refl _)
                  | exact SX.again (g, t + 3, o, v, E, lst, 3) ⟨hRi.to ht3, fun h => absurd (show (3 : Int) = 0 from h) (by decide), fun _ => hm3⟩ (by simp only; omega) ⟨rfl, rfl, rfl, trivial⟩ (List.Perm.refl _)
                  | exact SX.again (g, t, o, v, E, 0, 4) ⟨hRi, fun h => absurd (show (4 : Int) = 0 from h) (by decide), fun _ => hm3⟩ (by simp only; omega) ⟨rfl, rfl, rfl, trivial⟩ (List.Perm.refl _)
            · refine SC.seq ?_
              refine SC.plain ?_
              refine St.move rfl rfl ?_
              refine St.shrN (b := 1) rfl rfl rfl (by omega) ?_
              rw [show (lst + k * 2) / 2 ^ 1 = k by omega]
              refine St.eql rfl rfl rfl ?_
              refine St.assign rfl rfl ?_
              refine St.done ?_
              refine SX.seq ?_
              refine SC.condp rfl (fun c46 => ?_) (fun c46 => ?_)
              · obtain rfl : k = 1 := by omega
                have hm2 := hm1
                refine SC.seq ?_
                refine SC.plain ?_
                refine St.call [] rfl (by kernel_rfl) rfl (wfixed_spec w0 _) (fun _ _ _ _ h => h.nil) ?_
                rintro r6 L6 ⟨x1, x2, G1, G2, rfl, hx1, hx2, rfl⟩
                refine St.perm (WkL p q rv v (t + 3) most 0 E (G1 :: G2 :: [⟨b4, [.slice none 0 0, .int .i64 0, .int .i64 0], 66⟩] :: L)) (perm_front3 [G1, G2] _ _ _ _) ?_
                refine St.move rfl rfl ?_
                refine St.extract rfl rfl rfl ?_
                refine St.extract rfl rfl rfl ?_
                refine St.assign rfl rfl ?_
                refine St.assign rfl rfl ?_
                refine St.done ?_
                refine SX.seq ?_
                refine SC.plain ?_
                refine St.move rfl rfl ?_
                refine St.move rfl rfl ?_
                refine St.move rfl rfl ?_
                refine St.call [_, _, _] rfl (by kernel_rfl) rfl (wcoded_spec w0 (G1 :: G2 :: [⟨b4, [.slice none 0 0, .int .i64 0, .int .i64 0], 66⟩] :: L) p q rv v bs most (t + 3) o E ((hRi.to ht3).on hv.cons.cons.cons) fixedLit fixedDist x1 x2 lit_codes (hx1.rd (by simp)) dist_codes (hx2.rd (by simp)) F (by omega)) (fun _ _ _ _ h => h.nil) ?_
                rintro r8 L8 h8
                rcases h8.cases with ⟨a5, t5, o5, v5, E5, hg5, hR5, rfl⟩ | ⟨e5, t5, o5, v5, E5, hg5, hne5, hR5, rfl⟩
                · have hm3 := hm2.trans (bind_of (m := blockR F 1) hg5)
                  have hgl := ((good_block F 1).mono hg5 ht3).1
                  refine St.weak (WkL p q rv v5 t5 most 0 E5 ([⟨b4, [.slice none 0 0, .int .i64 0, .int .i64 0], 66⟩] :: L)) (.cons_cons _ (.cons_cons _ (.cons_cons _ (.cons _ (.cons _ (List.Sublist.refl _)))))) ?_
                  refine St.done ?_
                  refine SX.blk ?_
                  refine SX.blk ?_
                  first
                    | exact SX.again (g, t5, o5, v5, E5, lst, 0) ⟨hR5.on hv, fun _ => ⟨fun h => ⟨by simp only; omega, hm3.trans (ifR_pos h)⟩, fun h => hm3.trans (ifR_neg h)⟩, fun h => absurd rfl h⟩ (by simp only; omega) ⟨rfl, rfl, rfl, trivial⟩ (List.Perm.refl _)
                    | exact SX.again (g, t5, o5, v5, E5, lst, e5) ⟨hR5.on hv, fun h => absurd h hne5, fun _ => hm3⟩ (by simp only; omega) ⟨rfl, rfl, rfl, trivial⟩ (List.Perm.refl _)
                    | exact SX.again (g, t + 3, o, v, E, lst, 3) ⟨hRi.to ht3, fun h => absurd (show (3 : Int) = 0 from h) (by decide), fun _ => hm3⟩ (by simp only; omega) ⟨rfl, rfl, rfl, trivial⟩ (List.Perm.refl _)
                    | exact SX.again (g, t, o, v, E, 0, 4) ⟨hRi, fun h => absurd (show (4 : Int) = 0 from h) (by decide), fun _ => hm3⟩ (by simp only; omega) ⟨rfl, rfl, rfl, trivial⟩ (List.Perm.refl _)
                · have hm3 := hm2.trans (bind_bad (m := blockR F 1) hg5)
                  refine St.weak (WkL p q rv v5 t5 most e5 E5 ([⟨b4, [.slice none 0 0, .int .i64 0, .int .i64 0], 66⟩] :: L)) (.cons_cons _ (.cons_cons _ (.cons_cons _ (.cons _ (.cons _ (List.Sublist.refl _)))))) ?_
                  refine St.done ?_
                  refine SX.blk ?_
                  refine SX.blk ?_
                  first
                    | exact SX.again (g, t5, o5, v5, E5, lst, 0) ⟨hR5.on hv, fun _ => ⟨fun h => ⟨by simp only; omega, hm3.trans (ifR_pos h)⟩, fun h => hm3.trans (ifR_neg h)⟩, fun h => absurd rfl h⟩ (by simp only; omega) ⟨rfl, rfl, rfl, trivial⟩ (List.Perm.refl _)
                    | exact SX.again (g, t5, o5, v5, E5, lst, e5) ⟨hR5.on hv, fun h => absurd h hne5, fun _ => hm3⟩ (by simp only; omega) ⟨rfl, rfl, rfl, trivial⟩ (List.Perm.refl _)
                    | exact SX.again (g, t + 3, o, v, E, lst, 3) ⟨hRi.to ht3, fun h => absurd (show (3 : Int) = 0 from h) (by decide), fun _ => hm3⟩ (by simp only; omega) ⟨rfl, rfl, rfl, trivial⟩ (List.Perm.refl _)
                    | exact SX.again (g, t, o, v, E, 0, 4) ⟨hRi, fun h => absurd (show (4 : Int) = 0 from h) (by decide), fun _ => hm3⟩ (by simp only; omega) ⟨rfl, rfl, rfl, trivial⟩ (List.Perm.refl _)
              · refine SC.seq ?_
                refine SC.plain ?_
                refine St.move rfl rfl ?_
                refine St.shrN (b := 1) rfl rfl rfl (by omega) ?_
                rw [show (lst + k * 2) / 2 ^ 1 = k by omega]
                refine St.eql rfl rfl rfl ?_
                refine St.assign rfl rfl ?_
                refine St.done ?_
                refine SX.seq ?_
                refine SC.condp rfl (fun c58 => ?_) (fun c58 => ?_)
                · obtain rfl : k = 2 := by omega
                  have hm2 := hm1
                  refine SC.seq ?_
                  refine SC.plain ?_
                  refine St.move rfl rfl ?_
                  refine St.call [_] rfl (by kernel_rfl) rfl (wlengths_spec w0 ([⟨b4, [.slice none 0 0, .int .i64 0, .int .i64 0], 66⟩] :: L) p q rv v bs most (t + 3) o E ((hRi.to ht3).on hv.cons) F) (fun _ _ _ _ h => h.nil) ?_
                  rintro r6 L6 ⟨xa, xb, va, vb, t6, o6, v6, E6, G, e6, rfl, rfl, hR6, (⟨rfl, hm6, hca, hcb, hra, hrb, hat6⟩ | ⟨hne6, hm6⟩)⟩
                  · unfold WkL
                    refine St.move rfl rfl ?_
                    refine St.extract rfl rfl rfl ?_
                    refine St.extract rfl rfl rfl ?_
                    refine St.assign rfl rfl ?_
                    refine St.assign rfl rfl ?_
                    refine St.done ?_
                    refine SX.seq ?_
                    refine SC.seq ?_
                    refine SC.plain ?_
                    refine St.move rfl rfl ?_
                    refine St.nilCheck rfl rfl ?_
                    refine St.fieldAddr (off := 3) rfl rfl (by kernel_rfl) ?_
                    refine St.load rfl rfl (by kernel_rfl) (by first | exact Holds.row mem0 rfl | exact Holds.row mem1 rfl | exact Holds.row mem2 rfl | exact Holds.row mem3 rfl | exact Holds.row mem4 rfl | exact Holds.row mem5 rfl | exact Holds.row mem6 rfl | exact Holds.row mem7 rfl | exact Holds.row mem8 rfl) ?_
                    refine St.eql rfl rfl rfl ?_
                    refine St.done ?_
                    refine SX.seq ?_
                    refine SC.condp rfl (fun c71 => ?_) (fun c71 => ?_)
                    · refine SC.plain ?_
                      refine St.move rfl rfl ?_
                      refine St.move rfl rfl ?_
                      refine St.move rfl rfl ?_
                      refine St.call [_, _, _] rfl (by kernel_rfl) rfl (wcoded_spec w0 (G ++ ([⟨b4, [.slice none 0 0, .int .i64 0, .int .i64 0], 66⟩] :: L)) p q rv v6 bs most t6 o6 E6 (hR6.on (hv.mono fun w hw => (Own.right G hw).drop)) xa xb va vb hca hra hcb hrb F (by omega)) (fun _ _ _ _ h => h.nil) ?_
                      rintro r8 L8 h8
                      rcases h8.cases with ⟨a5, t5, o5, v5, E5, hg5, hR5, rfl⟩ | ⟨e5, t5, o5, v5, E5, hg5, hne5, hR5, rfl⟩
                      · have hm3 := hm2.trans (bind_of (m := blockR F 2) (hm6.trans hg5))
                        have hgl := ((good_coded xa xb F).mono hg5 hR6.at_).1
                        refine St.weak (WkL p q rv v5 t5 most 0 E5 ([⟨b4, [.slice none 0 0, .int .i64 0, .int .i64 0], 66⟩] :: L)) (.cons_cons _ (.cons_cons _ (.cons_cons _ (List.sublist_append_right _ _)))) ?_
                        refine St.done ?_
                        refine SX.blk ?_
                        refine SX.blk ?_
                        first
                          | exact SX.again (g, t5, o5, v5, E5, lst, 0) ⟨hR5.on hv, fun _ => ⟨fun h => ⟨by simp only; omega, hm3.trans (ifR_pos h)⟩, fun h => hm3.trans (ifR_neg h)⟩, fun h => absurd rfl h⟩ (by simp only; omega) ⟨rfl, rfl, rfl, trivial⟩ (List.Perm.refl _)
                          | exact SX.again (g, t5, o5, v5, E5, lst, e5) ⟨hR5.on hv, fun h => absurd h hne5, fun _ => hm3⟩ (by simp only; omega) ⟨rfl, rfl, rfl, trivial⟩ (List.Perm.refl _)
                          | exact SX.again (g, t + 3, o, v, E, lst, 3) ⟨hRi.to ht3, fun h => absurd (show (3 : Int) = 0 from h) (by decide), fun _ => hm3⟩ (by simp only; omega) ⟨rfl, rfl, rfl, trivial⟩ (List.Perm.refl _)
                          | exact SX.again (g, t, o, v, E, 0, 4) ⟨hRi, fun h => absurd (show (4 : Int) = 0 from h) (by decide), fun _ => hm3⟩ (by simp only; omega) ⟨rfl, rfl, rfl, trivial⟩ (List.Perm.refl _)
                      · have hm3 := hm2.trans (bind_bad (m := blockR F 2) (hm6.trans hg5))
                        refine St.weak (WkL p q rv v5 t5 most e5 E5 ([⟨b4, [.slice none 0 0, .int .i64 0, .int .i64 0], 66⟩] :: L)) (.cons_cons _ (.cons_cons _ (.cons_cons _ (List.sublist_append_right _ _)))) ?_
                        refine St.done ?_
                        refine SX.blk ?_
                        refine SX.blk ?_
                        first
                          | exact SX.again (g, t5, o5, v5, E5, lst, 0) ⟨hR5.on hv, fun _ => ⟨fun h => ⟨by simp only; omega, hm3.trans (ifR_pos h)⟩, fun h => hm3.trans (ifR_neg h)⟩, fun h => absurd rfl h⟩ (by simp only; omega) ⟨rfl, rfl, rfl, trivial⟩ (List.Perm.refl _)
                          | exact SX.again (g, t5, o5, v5, E5, lst, e5) ⟨hR5.on hv, fun h => absurd h hne5, fun _ => hm3⟩ (by simp only; omega) ⟨rfl, rfl, rfl, trivial⟩ (List.Perm.refl _)
                          | exact SX.again (g, t + 3, o, v, E, lst, 3) ⟨hRi.to ht3, fun h => absurd (show (3 : Int) = 0 from h) (by decide), fun _ => hm3⟩ (by simp only; omega) ⟨rfl, rfl, rfl, trivial⟩ (List.Perm.refl _)
                          | exact SX.again (g, t, o, v, E, 0, 4) ⟨hRi, fun h => absurd (show (4 : Int) = 0 from h) (by decide), fun _ => hm3⟩ (by simp only; omega) ⟨rfl, rfl, rfl, trivial⟩ (List.Perm.refl _)
                    · exfalso; omega
                  · have hm3 := hm2.trans (bind_bad (m := blockR F 2) hm6)
                    refine St.weak (WkL p q rv v6 t6 most e6 E6 ([⟨b4, [.slice none 0 0, .int .i64 0, .int .i64 0], 66⟩] :: L)) (.cons_cons _ (.cons_cons _ (.cons_cons _ (List.sublist_append_right _ _)))) ?_
                    obtain ⟨t5, o5, v5, E5, e5, hR5, hne5, h1, h2, h3, h4, h5⟩ : ∃ t5 o5 v5 E5 e5, RIn w0 ([⟨b4, [.slice none 0 0, .int .i64 0, .int .i64 0], 66⟩] :: L) rv bs most t5 o5 v5 E5 ∧ e5 ≠ 0 ∧ t5 = t6 ∧ o5 = o6 ∧ v5 = v6 ∧ E5 = E6 ∧ e5 = e6 := ⟨_, _, _, _, _, hR6, hne6, rfl, rfl, rfl, rfl, rfl⟩
                    rw [← h5] at hm3
                    rw [← h1, ← h3, ← h4, ← h5]
                    unfold WkL
                    refine St.move rfl rfl ?_
                    refine St.extract rfl rfl rfl ?_
                    refine St.extract rfl rfl rfl ?_
                    refine St.assign rfl rfl ?_
                    refine St.assign rfl rfl ?_
                    refine St.done ?_
                    refine SX.seq ?_
                    refine SC.seq ?_
                    refine SC.plain ?_
                    refine St.move rfl rfl ?_
                    refine St.nilCheck rfl rfl ?_
                    refine St.fieldAddr (off := 3) rfl rfl (by kernel_rfl) ?_
                    refine St.load rfl rfl (by kernel_rfl) (by first | exact Holds.row mem0 rfl | exact Holds.row mem1 rfl | exact Holds.row mem2 rfl | exact Holds.row mem3 rfl | exact Holds.row mem4 rfl | exact Holds.row mem5 rfl | exact Holds.row mem6 rfl | exact Holds.row mem7 rfl | exact Holds.row mem8 rfl) ?_
                    refine St.eql rfl rfl rfl ?_
                    refine St.done ?_
                    refine SX.seq ?_
                    refine SC.condp rfl (fun c71 => ?_) (fun c71 => ?_)
                    · exfalso; omega
                    · refine SC.skip ?_
                      refine SX.blk ?_
                      refine SX.blk ?_
                      first
                        | exact SX.again (g, t5, o5, v5, E5, lst, 0) ⟨hR5.on hv, fun _ => ⟨fun h => ⟨by simp only; omega, hm3.trans (ifR_pos h)⟩, fun h => hm3.trans (ifR_neg h)⟩, fun h => absurd rfl h⟩ (by simp only; omega) ⟨rfl, rfl, rfl, trivial⟩ (List.Perm.refl _)
                        | exact SX.again (g, t5, o5, v5, E5, lst, e5) ⟨hR5.on hv, fun h => absurd h hne5, fun _ => hm3⟩ (by simp only; omega) ⟨rfl, rfl, rfl, trivial⟩ (List.Perm.refl _)
                        | exact SX.again (g, t + 3, o, v, E, lst, 3) ⟨hRi.to ht3, fun h => absurd (show (3 : Int) = 0 from h) (by decide), fun _ => hm3⟩ (by simp only; omega) ⟨rfl, rfl, rfl, trivial⟩ (List.Perm.refl _)
                        | exact SX.again (g, t, o, v, E, 0, 4) ⟨hRi, fun h => absurd (show (4 : Int) = 0 from h) (by decide), fun _ => hm3⟩ (by simp only; omega) ⟨rfl, rfl, rfl, trivial⟩ (List.Perm.refl _)
                · obtain rfl : k = 3 := by omega
                  have hm3 := hm1.trans (bind_bad (e := 3) rfl)
                  refine SC.plain ?_
                  refine St.move rfl rfl ?_
                  refine St.call [_, _] rfl (by kernel_rfl) rfl (wfail_spec w0 ([⟨b4, [.slice none 0 0, .int .i64 0, .int .i64 0], 66⟩] :: L) p q rv v most (t + 3) 0 3 E) (fun _ _ _ _ h => h.nil) ?_
                  rintro r8 L8 rfl
                  rw [first_zero]
                  refine St.done ?_
                  refine SX.blk ?_
                  refine SX.blk ?_
                  first
                    | exact SX.again (g, t5, o5, v5, E5, lst, 0) ⟨hR5.on hv, fun _ => ⟨fun h => ⟨by simp only; omega, hm3.trans (ifR_pos h)⟩, fun h => hm3.trans (ifR_neg h)⟩, fun h => absurd rfl h⟩ (by simp only; omega) ⟨rfl, rfl, rfl, trivial⟩ (List.Perm.refl _)
                    | exact SX.again (g, t5, o5, v5, E5, lst, e5) ⟨hR5.on hv, fun h => absurd h hne5, fun _ => hm3⟩ (by simp only; omega) ⟨rfl, rfl, rfl, trivial⟩ (List.Perm.refl _)
                    | exact SX.again (g, t + 3, o, v, E, lst, 3) ⟨hRi.to ht3, fun h => absurd (show (3 : Int) = 0 from h) (by decide), fun _ => hm3⟩ (by simp only; omega) ⟨rfl, rfl, rfl, trivial⟩ (List.Perm.refl _)
                    | exact SX.again (g, t, o, v, E, 0, 4) ⟨hRi, fun h => absurd (show (4 : Int) = 0 from h) (by decide), fun _ => hm3⟩ (by simp only; omega) ⟨rfl, rfl, rfl, trivial⟩ (List.Perm.refl _)
        · have hm3 := hmi.trans (raw_torn3 h4)
          rw [first_zero]
          unfold WkL
          refine St.assign rfl rfl ?_
          refine St.done ?_
          refine SX.seq ?_
          refine SC.seq ?_
          refine SC.plain ?_
          refine St.move rfl rfl ?_
          refine St.andN (a := 0) (b := 1) rfl rfl rfl (by omega) (by omega) ?_
          rw [show (0 : Nat) &&& 1 = 0 from rfl]
          refine St.assign rfl rfl ?_
          refine St.done ?_
          refine SX.seq ?_
          refine SC.block ?_
          refine SC.seq ?_
          refine SC.plain ?_
          refine St.move rfl rfl ?_
          refine St.nilCheck rfl rfl ?_
          refine St.fieldAddr (off := 3) rfl rfl (by kernel_rfl) ?_
          refine St.load rfl rfl (by kernel_rfl) (by first | exact Holds.row mem0 rfl | exact Holds.row mem1 rfl | exact Holds.row mem2 rfl | exact Holds.row mem3 rfl | exact Holds.row mem4 rfl | exact Holds.row mem5 rfl | exact Holds.row mem6 rfl | exact Holds.row mem7 rfl | exact Holds.row mem8 rfl) ?_
          refine St.neq rfl rfl rfl ?_
          refine St.assign rfl rfl ?_
          refine St.done ?_
          refine SX.seq ?_
          refine SC.condp rfl (fun c34 => ?_) (fun c34 => ?_)
          · refine SC.skip ?_
            refine SX.blk ?_
            refine SX.blk ?_
            first
              | exact SX.again (g, t5, o5, v5, E5, lst, 0) ⟨hR5.on hv, fun _ => ⟨fun h => ⟨by simp only; omega, hm3.trans (ifR_pos h)⟩, fun h => hm3.trans (ifR_neg h)⟩, fun h => absurd rfl h⟩ (by simp only; omega) ⟨rfl, rfl, rfl, trivial⟩ (List.Perm.refl _)
              | exact SX.again (g, t5, o5, v5, E5, lst, e5) ⟨hR5.on hv, fun h => absurd h hne5, fun _ => hm3⟩ (by simp only; omega) ⟨rfl, rfl, rfl, trivial⟩ (List.Perm.refl _)
              | exact SX.again (g, t + 3, o, v, E, lst, 3) ⟨hRi.to ht3, fun h => absurd (show (3 : Int) = 0 from h) (by decide), fun _ => hm3⟩ (by simp only; omega) ⟨rfl, rfl, rfl, trivial⟩ (List.Perm.refl _)
              | exact SX.again (g, t, o, v, E, 0, 4) ⟨hRi, fun h => absurd (show (4 : Int) = 0 from h) (by decide), fun _ => hm3⟩ (by simp only; omega) ⟨rfl, rfl, rfl, trivial⟩ (List.Perm.refl _)
          · exfalso; omega
      · refine SC.exit ?_
        refine SX.seq_exit ?_
        refine SX.seq_exit ?_
        refine SX.hit ?_
        exact SX.some (t, o, v, E, e) ⟨hRi, fun h => absurd h c27, hbad⟩ ⟨rfl, rfl, trivial⟩ (List.Perm.refl _)
    · refine St.guard_no rfl rfl rfl ?_
      refine St.guard_no rfl rfl rfl ?_
      refine St.guard_no rfl rfl rfl ?_
      refine St.guard_no rfl rfl rfl ?_
      refine St.guard_no rfl rfl rfl ?_
      refine St.pick_false rfl rfl rfl ?_
      refine St.done ?_
      refine SX.seq ?_
      refine SC.cond_false rfl ?_
      refine SC.exit ?_
      refine SX.seq_exit ?_
      refine SX.seq_exit ?_
      refine SX.hit ?_
      exact SX.some (t, o, v, E, e) ⟨hRi, fun h => (hok h).2 (by omega), hbad⟩ ⟨rfl, rfl, trivial⟩ (List.Perm.refl _)
end Go.Proofs.Ytahafepgmkiabaa
