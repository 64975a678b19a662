/- Walks: inflating: a whole stream. -/
import Derived.Test.YtahafepgmkiabaaJ4
set_option linter.unusedVariables false
set_option linter.unusedSimpArgs false
set_option linter.ambiguousOpen false
namespace Go.Proofs.Ytahafepgmkiabaa
open Go Go.Proofs.Ytahafepgmkiabaa.Sep Go.Proofs.Ytahafepgmkiabaa.Inf

abbrev Res := List Nat × Nat × Int
def rawRes (g : Got Unit) : Res := match g with
  | .ok _ t o => (o, (t + 7) / 8, 0)
  | .bad e => ([], 0, e)
/-- A result of three: what was made, how much was read, an error. -/
def ResA (s : Res) (L : List Chunk) (r : Value) (L' : List Chunk) : Prop :=
  ∃ v E, r = .tuple #[v, .int .i64 ((s.2.1 : Nat) : Int), .int .i64 s.2.2] ∧ Buf 5 1 v (bytes s.1) s.1.length E ∧ L' = E :: L
theorem ResA.bad {e : Int} (L : List Chunk) : ResA ([], 0, e) L (.tuple #[.slice none 0 0, .int .i64 0, .int .i64 e]) ([] :: L) := ⟨_, _, rfl, Buf.nil 5 1, rfl⟩
theorem raw_succ (f g : Nat) (bs : List Nat) (most p : Nat) (o : List Nat) : rawR f (g + 1) bs most p o = bindR (takeR 1) (fun last => bindR (takeR 2) fun k => bindR (blockR f k) fun _ => if last = 0 then rawR f g else pureR ()) bs most p o := rfl
def kindFns : List Value := [.func (.func 171) #[] #[], .func (.func 172) #[] #[], .func (.func 173) #[] #[]]
/-- What a whole stream's reading gives. -/
structure RawOk (bs : List Nat) (most : Nat) (g : Got Unit) : Prop where
  bad : ∀ e, g = .bad e → e ≠ 0
  ok : ∀ u t o, g = .ok u t o → o.length ≤ most ∧ t ≤ 8 * bs.length ∧ ∀ b ∈ o, b < 256

theorem kinds_spec (w0 : World) (L : List Chunk) : Meets Try.prog 125 #[] w0 L (fun r L' => L = L' ∧ r = .agg kindFns.toArray) := by
  refine Meets.of_body [] Try.func125 rfl Try.ntmps125 rfl ?_
  refine SC.seq ?_
  refine SC.plain ?_
  refine St.alloc [.nilFunc, .nilFunc, .nilFunc] rfl (by kernel_rfl) (fun _ _ h => h.nil) (fun b0 => ?_)
  refine St.done ?_
  refine SX.seq ?_
  refine SC.seq ?_
  refine SC.plain ?_
  refine St.build [(0, .func (.func 171) #[] #[]), (1, .func (.func 172) #[] #[]), (2, .func (.func 173) #[] #[])] kindFns rfl rfl (by kernel_rfl) ?_
  refine St.storeN rfl rfl rfl kindFns rfl (by kernel_rfl) (by simp [kindFns, one]) (by simp [kindFns]) (fun _ h => h.nil) ?_
  rw [show splice [.nilFunc, .nilFunc, .nilFunc] 0 kindFns = kindFns from rfl]
  refine St.done ?_
  refine SX.seq ?_
  refine SC.ret ?_
  exact SX.retC kindFns (.inl rfl) rfl rfl (by kernel_rfl) (HoldsN.of_row mem0) (fun _ h => h.drop) ⟨rfl, rfl⟩
theorem kind_spec (w0 : World) (L : List Chunk) (p q : Nat) (rv ov : Value) (bs : List Nat) (most at_ : Nat) (out : List Nat) (Eo : Chunk) (hR : RIn w0 L rv bs most at_ out ov Eo) (F : Nat) (hF : 8 * bs.length - at_ < F) (k : Nat) (hk : k < 3) :
    ∃ g, kindFns[k]? = some (.func (.func g) #[] #[]) ∧ callable Try.prog g = true ∧ Meets Try.prog g #[.pointer (some ⟨p, 0, none⟩)] w0 (RdL p q rv ov at_ most Eo L) (AnsE w0 (blockR F k bs most at_ out) p q rv bs most L) := by
  have h3 : k = 0 ∨ k = 1 ∨ k = 2 := by omega
  rcases h3 with rfl | rfl | rfl
  · exact ⟨171, rfl, by kernel_rfl, istored_spec w0 L p q rv ov bs most at_ out Eo hR⟩
  · exact ⟨172, rfl, by kernel_rfl, ifixed_spec w0 L p q rv ov bs most at_ out Eo hR F hF⟩
  · exact ⟨173, rfl, by kernel_rfl, idynamic_spec w0 L p q rv ov bs most at_ out Eo hR F hF⟩

theorem iraw_spec (w0 : World) (L : List Chunk) (v0 : Value) (bs : List Nat) (hv : Rd w0 L v0 1 bs.length (bytes bs)) (hl : bs.length ≤ 150000000000000) (hb : ∀ b ∈ bs, b < 256) (m : Int) (hm0 : m ≤ 70368744177664) (F : Nat) (hF : 8 * bs.length < F) :
    Meets Try.prog 64 #[v0, .int .i64 m] w0 L (fun r L' => ResA (rawRes (rawR F F bs m.toNat 0 [])) L r L' ∧ RawOk bs m.toNat (rawR F F bs m.toNat 0 [])) := by
  have hmx : max m 0 = ((m.toNat : Nat) : Int) := by omega
  obtain ⟨most, hmo⟩ : ∃ k, k = m.toNat := ⟨_, rfl⟩
  rw [← hmo] at hmx ⊢
  refine Meets.of_body [v0, .int .i64 m] Try.func64 rfl Try.ntmps64 rfl ?_
  refine SC.seq ?_
  refine SC.plain ?_
  refine St.assign rfl rfl ?_
  refine St.assign rfl rfl ?_
  refine St.assign rfl rfl ?_
  refine St.done ?_
  refine SX.seq ?_
  refine SC.seq ?_
  refine SC.plain ?_
  refine St.move rfl rfl ?_
  refine St.call [_] rfl (by kernel_rfl) rfl (bread_spec w0 _ v0 bs hv hl) (fun _ _ _ _ h => h.nil) ?_
  rintro r1 L1 ⟨q, v1, Ev, rfl, hbv, rfl⟩
  refine St.move rfl rfl ?_
  refine St.max2 rfl rfl rfl ?_
  rw [hmx]
  refine St.build [(0, .pointer (some ⟨q, 0, none⟩)), (2, .int .i64 ((most : Nat) : Int))] [.pointer (some ⟨q, 0, none⟩), .slice none 0 0, .int .i64 ((most : Nat) : Int)] rfl rfl (by kernel_rfl) ?_
  refine St.box [.pointer (some ⟨q, 0, none⟩), .slice none 0 0, .int .i64 ((most : Nat) : Int)] rfl rfl rfl (fun _ _ h => h.nil) (fun p => ?_)
  have hR0 : RIn w0 (Ev :: L) v1 bs most 0 [] (.slice none 0 0) [] := ⟨hbv.rd (by simp), hl, hb, by omega, by omega, Buf.nil 5 1, Nat.zero_le _, by simp, hbv.cap⟩
  refine St.perm (RdL p q v1 (.slice none 0 0) 0 most [] (Ev :: L)) (List.Perm.refl _) ?_
  obtain ⟨F1, hF1⟩ : ∃ k, k = F := ⟨_, rfl⟩
  refine St.assign rfl rfl ?_
  refine St.done ?_
  refine SX.seq ?_
  refine SC.seq ?_
  refine SC.seq ?_
  refine SC.plain ?_
  refine St.assign rfl rfl ?_
  refine St.done ?_
  refine SX.seq ?_
  refine SC.block ?_
  refine SC.loop (α := Nat × Nat × List Nat × Value × Chunk × Nat) (fun s_ => RIn w0 (Ev :: L) v1 bs most s_.2.1 s_.2.2.1 s_.2.2.2.1 s_.2.2.2.2.1 ∧ (s_.2.2.2.2.2 = 0 → 8 * bs.length - s_.2.1 < s_.1 ∧ rawR F F bs most 0 [] = rawR F s_.1 bs most s_.2.1 s_.2.2.1) ∧ (s_.2.2.2.2.2 ≠ 0 → rawR F F bs most 0 [] = .ok () s_.2.1 s_.2.2.1) ∧ s_.2.2.2.2.2 < 2) (fun s_ => [(7, .pointer (some ⟨p, 0, none⟩)), (8, .int .i64 ((s_.2.2.2.2.2 : Nat) : Int))]) (fun s_ => RdL p q v1 s_.2.2.2.1 s_.2.1 most s_.2.2.2.2.1 (Ev :: L)) (fun s_ => s_.1) (F, 0, [], .slice none 0 0, [], 0) ⟨hR0, fun _ => ⟨by simp only; omega, rfl⟩, fun h => absurd rfl h, Nat.zero_lt_two⟩ ⟨rfl, rfl, trivial⟩ (List.Perm.refl _) ?_
  rintro ⟨g, t, o, v, E, last⟩ ⟨hRi, hl0, hl1, hlast⟩
  simp only at hRi hl0 hl1 hlast
  show SC _ _ _ [(7, .pointer (some ⟨p, 0, none⟩)), (8, .int .i64 ((last : Nat) : Int))] (RdL p q v1 v t most E (Ev :: L))
  refine SC.seq ?_
  refine SC.seq ?_
  refine SC.plain ?_
  refine St.move rfl rfl ?_
  refine St.eql rfl rfl rfl ?_
  refine St.done ?_
  refine SX.seq ?_
  refine SC.condp rfl (fun c17 => ?_) (fun c17 => ?_)
  · obtain ⟨hf, hmi⟩ := hl0 (by omega)
    obtain ⟨g, rfl⟩ : ∃ k, g = k + 1 := ⟨g - 1, by omega⟩
    rw [raw_succ] at hmi
    have hati := hRi.at_
    refine SC.skip ?_
    refine SX.seq ?_
    refine SC.block ?_
    refine SC.seq ?_
    refine SC.plain ?_
    refine St.assign rfl rfl ?_
    refine St.done ?_
    refine SX.seq ?_
    refine SC.seq ?_
    refine SC.seq ?_
    refine SC.plain ?_
    refine St.move rfl rfl ?_
    refine St.call [_, _] rfl (by kernel_rfl) rfl (itake_spec w0 (Ev :: L) p q v1 v bs most t o E hRi 1 (by omega)) (fun _ _ _ _ h => h.nil) ?_
    rintro r2 L2 h2
    rcases h2.cases with ⟨a1, t1, o1, v2, E1, hg1, rfl, hR1, rfl⟩ | ⟨e, hg1, rfl, hne, rfl⟩
    · have hm1 := hmi.trans (bind_of hg1)
      have ha1 := takeR_lt hg1
      have hti1 := ((good_take _).mono hg1 hati).1
      have hx1 : t + 1 ≤ t1 := by unfold takeR at hg1; split at hg1; (simp only [Got.ok.injEq] at hg1; omega); cases hg1
      have hR1a := hR1.at_
      refine St.move rfl rfl ?_
      refine St.extract rfl rfl rfl ?_
      refine St.extract rfl rfl rfl ?_
      refine St.assign rfl rfl ?_
      refine St.assign rfl rfl ?_
      refine St.done ?_
      refine SX.seq ?_
      refine SC.seq ?_
      refine SC.plain ?_
      refine St.move rfl rfl ?_
      refine St.neq rfl rfl rfl ?_
      refine St.done ?_
      refine SX.seq ?_
      refine SC.condp rfl (fun c24 => ?_) (fun c24 => ?_)
      · exfalso; omega
      · refine SC.skip ?_
        refine SX.seq ?_
        refine SC.seq ?_
        refine SC.seq ?_
        refine SC.plain ?_
        refine St.move rfl rfl ?_
        refine St.call [_, _] rfl (by kernel_rfl) rfl (itake_spec w0 (Ev :: L) p q v1 v2 bs most t1 o1 E1 hR1 2 (by omega)) (fun _ _ _ _ h => h.nil) ?_
        rintro r3 L3 h3
        rcases h3.cases with ⟨a2, t2, o2, v3, E2, hg2, rfl, hR2, rfl⟩ | ⟨e, hg2, rfl, hne, rfl⟩
        · have hm2 := hm1.trans (bind_of hg2)
          have ha2 := takeR_lt hg2
          have hti2 := ((good_take _).mono hg2 hR1.at_).1
          refine St.move rfl rfl ?_
          refine St.extract rfl rfl rfl ?_
          refine St.extract rfl rfl rfl ?_
          refine St.assign rfl rfl ?_
          refine St.assign rfl rfl ?_
          refine St.done ?_
          refine SX.seq ?_
          refine SC.seq ?_
          refine SC.plain ?_
          refine St.move rfl rfl ?_
          refine St.neq rfl rfl rfl ?_
          refine St.done ?_
          refine SX.seq ?_
          refine SC.condp rfl (fun c32 => ?_) (fun c32 => ?_)
          · exfalso; omega
          · refine SC.skip ?_
            refine SX.seq ?_
            refine SC.seq ?_
            refine SC.seq ?_
            refine SC.plain ?_
            refine St.move rfl rfl ?_
            refine St.eql rfl rfl rfl ?_
            refine St.done ?_
            refine SX.seq ?_
            refine SC.condp rfl (fun c35 => ?_) (fun c35 => ?_)
            · obtain rfl : a2 = 3 := by omega
              have hm := hm2.trans (bind_bad (e := 3) rfl)
              refine SC.seq ?_
              refine SC.plain ?_
              refine St.assign rfl rfl ?_
              refine St.assign rfl rfl ?_
              refine St.assign rfl rfl ?_
              refine St.done ?_
              refine SX.seq ?_
              refine SC.ret ?_
              refine SX.seq_ret ?_
              refine SX.blk_ret ?_
              refine SX.seq_ret ?_
              refine SX.blk_ret ?_
              refine SX.seq_ret ?_
              refine SX.weak L (by (try simp only [RdL]); repeat (first | exact List.Sublist.refl _ | apply List.Sublist.cons | apply List.sublist_append_of_sublist_right)) ?_
              refine SX.perm ([] :: L) (List.Perm.refl _) ?_
              rw [hm]
              exact SX.ret3 rfl rfl rfl rfl ⟨ResA.bad L, ⟨fun e h => (by cases h; first | assumption | decide), fun _ _ _ h => (by cases h)⟩⟩
            · refine SC.skip ?_
              refine SX.seq ?_
              refine SC.seq ?_
              obtain ⟨g4, hk1, hk2, hk3⟩ := kind_spec w0 (Ev :: L) p q v1 v3 bs most t2 o2 E2 hR2 F (by omega) a2 (by omega)
              refine SC.plain ?_
              refine St.call [] rfl (by kernel_rfl) rfl (kinds_spec w0 _) (fun _ _ _ _ h => h.nil) ?_
              rintro r4 L1 ⟨rfl, rfl⟩
              refine St.move rfl rfl ?_
              refine St.indexAgg (n := 3) (sz := 1) (v := .func (.func g4) #[] #[]) rfl rfl rfl (by kernel_rfl) (by kernel_rfl) (by omega) (by rw [Int.toNat_natCast, Nat.mul_one]; exact hk1) ?_
              refine St.move rfl rfl ?_
              refine St.callv [_] rfl hk2 rfl rfl (by simp only [Array.append_empty]; exact hk3) (fun _ _ _ _ h => h.nil) ?_
              rintro r5 L5 h5
              rcases h5.cases with ⟨a5, t5, o5, v5, E5, hg5, rfl, hR5, rfl⟩ | ⟨e, hg5, rfl, hne, rfl⟩
              · have hm3 := hm2.trans (bind_of hg5)
                have hti5 := ((good_block _ _).mono hg5 hR2.at_).1
                refine St.assign rfl rfl ?_
                refine St.done ?_
                refine SX.seq ?_
                refine SC.seq ?_
                refine SC.plain ?_
                refine St.move rfl rfl ?_
                refine St.neq rfl rfl rfl ?_
                refine St.done ?_
                refine SX.seq ?_
                refine SC.condp rfl (fun c42 => ?_) (fun c42 => ?_)
                · exfalso; omega
                · refine SC.skip ?_
                  refine SX.blk ?_
                  exact SX.again (g, t5, o5, v5, E5, a1) ⟨hR5, fun h => ⟨by simp only; omega, hm3.trans (ifR_pos h)⟩, fun h => hm3.trans (ifR_neg h), by simp only; omega⟩ (by simp only; omega) ⟨rfl, rfl, trivial⟩ (List.Perm.refl _)
              · have hm := hm2.trans (bind_bad hg5)
                refine St.assign rfl rfl ?_
                refine St.done ?_
                refine SX.seq ?_
                refine SC.seq ?_
                refine SC.plain ?_
                refine St.move rfl rfl ?_
                refine St.neq rfl rfl rfl ?_
                refine St.done ?_
                refine SX.seq ?_
                refine SC.condp rfl (fun c42 => ?_) (fun c42 => ?_)
                · refine SC.seq ?_
                  refine SC.plain ?_
                  refine St.move rfl rfl ?_
                  refine St.assign rfl rfl ?_
                  refine St.assign rfl rfl ?_
                  refine St.assign rfl rfl ?_
                  refine St.done ?_
                  refine SX.seq ?_
                  refine SC.ret ?_
                  refine SX.blk_ret ?_
                  refine SX.seq_ret ?_
                  refine SX.blk_ret ?_
                  refine SX.seq_ret ?_
                  refine SX.weak L (by (try simp only [RdL]); repeat (first | exact List.Sublist.refl _ | apply List.Sublist.cons | apply List.sublist_append_of_sublist_right)) ?_
                  refine SX.perm ([] :: L) (List.Perm.refl _) ?_
                  rw [hm]
                  exact SX.ret3 rfl rfl rfl rfl ⟨ResA.bad L, ⟨fun e h => (by cases h; first | assumption | decide), fun _ _ _ h => (by cases h)⟩⟩
                · exfalso; omega
        · have hm := hm1.trans (bind_bad hg2)
          refine St.move rfl rfl ?_
          refine St.extract rfl rfl rfl ?_
          refine St.extract rfl rfl rfl ?_
          refine St.assign rfl rfl ?_
          refine St.assign rfl rfl ?_
          refine St.done ?_
          refine SX.seq ?_
          refine SC.seq ?_
          refine SC.plain ?_
          refine St.move rfl rfl ?_
          refine St.neq rfl rfl rfl ?_
          refine St.done ?_
          refine SX.seq ?_
          refine SC.condp rfl (fun c32 => ?_) (fun c32 => ?_)
          · refine SC.seq ?_
            refine SC.plain ?_
            refine St.move rfl rfl ?_
            refine St.assign rfl rfl ?_
            refine St.assign rfl rfl ?_
            refine St.assign rfl rfl ?_
            refine St.done ?_
            refine SX.seq ?_
            refine SC.ret ?_
            refine SX.seq_ret ?_
            refine SX.blk_ret ?_
            refine SX.seq_ret ?_
            refine SX.blk_ret ?_
            refine SX.seq_ret ?_
            refine SX.weak L (by (try simp only [RdL]); repeat (first | exact List.Sublist.refl _ | apply List.Sublist.cons | apply List.sublist_append_of_sublist_right)) ?_
            refine SX.perm ([] :: L) (List.Perm.refl _) ?_
            rw [hm]
            exact SX.ret3 rfl rfl rfl rfl ⟨ResA.bad L, ⟨fun e h => (by cases h; first | assumption | decide), fun _ _ _ h => (by cases h)⟩⟩
          · exfalso; omega
    · have hm := hmi.trans (bind_bad hg1)
      refine St.move rfl rfl ?_
      refine St.extract rfl rfl rfl ?_
      refine St.extract rfl rfl rfl ?_
      refine St.assign rfl rfl ?_
      refine St.assign rfl rfl ?_
      refine St.done ?_
      refine SX.seq ?_
      refine SC.seq ?_
      refine SC.plain ?_
      refine St.move rfl rfl ?_
      refine St.neq rfl rfl rfl ?_
      refine St.done ?_
      refine SX.seq ?_
      refine SC.condp rfl (fun c24 => ?_) (fun c24 => ?_)
      · refine SC.seq ?_
        refine SC.plain ?_
        refine St.move rfl rfl ?_
        refine St.assign rfl rfl ?_
        refine St.assign rfl rfl ?_
        refine St.assign rfl rfl ?_
        refine St.done ?_
        refine SX.seq ?_
        refine SC.ret ?_
        refine SX.seq_ret ?_
        refine SX.blk_ret ?_
        refine SX.seq_ret ?_
        refine SX.blk_ret ?_
        refine SX.seq_ret ?_
        refine SX.weak L (by (try simp only [RdL]); repeat (first | exact List.Sublist.refl _ | apply List.Sublist.cons | apply List.sublist_append_of_sublist_right)) ?_
        refine SX.perm ([] :: L) (List.Perm.refl _) ?_
        rw [hm]
        exact SX.ret3 rfl rfl rfl rfl ⟨ResA.bad L, ⟨fun e h => (by cases h; first | assumption | decide), fun _ _ _ h => (by cases h)⟩⟩
      · exfalso; omega
  · have hm := hl1 (by omega)
    have hro := hRi.buf
    have hati := hRi.at_
    have hroom := hRi.room
    obtain ⟨bo, oo, Ao, co, rfl, _, _⟩ := hRi.sl
    unfold RdL
    refine SC.exit ?_
    refine SX.seq_exit ?_
    refine SX.seq_exit ?_
    refine SX.hit ?_
    refine SX.seq ?_
    refine SC.seq ?_
    refine SC.drawn [(0, true), (1, true), (2, true), (3, true), (4, true), (5, true), (6, true), (7, true), (8, true), (9, true), (10, true), (11, true), (12, true), (13, true), (14, true), (15, true), (16, true), (17, true), (18, true), (19, false), (20, true), (21, true), (22, true)] [] (_) (by kernel_rfl) (by kernel_rfl) (fun _ h => h) ?_
    refine St.move rfl rfl ?_
    refine St.nilCheck rfl rfl ?_
    refine St.fieldAddr (off := 1) rfl rfl (by kernel_rfl) ?_
    refine St.load rfl rfl (by kernel_rfl) (by first | exact Holds.row mem0 rfl | exact Holds.row mem1 rfl | exact Holds.row mem2 rfl | exact Holds.row mem3 rfl | exact Holds.row mem4 rfl | exact Holds.row mem5 rfl | exact Holds.row mem6 rfl | exact Holds.row mem7 rfl | exact Holds.row mem8 rfl) ?_
    refine St.move rfl rfl ?_
    refine St.nilCheck rfl rfl ?_
    refine St.fieldAddr (off := 1) rfl rfl (by kernel_rfl) ?_
    refine St.load rfl rfl (by kernel_rfl) (by first | exact Holds.row mem0 rfl | exact Holds.row mem1 rfl | exact Holds.row mem2 rfl | exact Holds.row mem3 rfl | exact Holds.row mem4 rfl | exact Holds.row mem5 rfl | exact Holds.row mem6 rfl | exact Holds.row mem7 rfl | exact Holds.row mem8 rfl) ?_
    refine St.lenSl rfl rfl (by kernel_rfl) ?_
    refine St.move rfl rfl ?_
    refine St.nilCheck rfl rfl ?_
    refine St.fieldAddr (off := 1) rfl rfl (by kernel_rfl) ?_
    refine St.load rfl rfl (by kernel_rfl) (by first | exact Holds.row mem0 rfl | exact Holds.row mem1 rfl | exact Holds.row mem2 rfl | exact Holds.row mem3 rfl | exact Holds.row mem4 rfl | exact Holds.row mem5 rfl | exact Holds.row mem6 rfl | exact Holds.row mem7 rfl | exact Holds.row mem8 rfl) ?_
    refine St.lenSl rfl rfl (by kernel_rfl) ?_
    refine St.clip rfl rfl (by kernel_rfl) hro ⟨_, rfl⟩ ⟨_, rfl⟩ (fun v4 hb4 => ?_)
    refine St.move rfl rfl ?_
    refine St.nilCheck rfl rfl ?_
    refine St.fieldAddr (off := 0) rfl rfl (by kernel_rfl) ?_
    refine St.load rfl rfl (by kernel_rfl) (by first | exact Holds.row mem0 rfl | exact Holds.row mem1 rfl | exact Holds.row mem2 rfl | exact Holds.row mem3 rfl | exact Holds.row mem4 rfl | exact Holds.row mem5 rfl | exact Holds.row mem6 rfl | exact Holds.row mem7 rfl | exact Holds.row mem8 rfl) ?_
    refine St.perm _ (perm12 _ _ _) ?_
    refine St.call [_] rfl (by kernel_rfl) rfl (used_spec w0 _ _ q t (by omega)) (fun _ _ _ h hw => by rw [← h.1] at hw; exact hw.perm (perm12 _ _ _)) ?_
    rintro r6 L6 ⟨rfl, rfl⟩
    refine St.assign rfl rfl ?_
    refine St.assign rfl rfl ?_
    refine St.assign rfl rfl ?_
    refine St.done ?_
    refine SX.tail ?_
    refine St.done ?_
    refine SX.seq ?_
    refine SC.ret ?_
    refine SX.weak (E :: L) (.cons _ (.cons _ (.cons_cons _ (.cons _ (List.Sublist.refl _))))) ?_
    rw [hm]
    exact SX.ret3 rfl rfl rfl rfl ⟨⟨_, _, rfl, hb4, rfl⟩, ⟨fun _ h => (by cases h), fun _ _ _ h => (by cases h; exact ⟨hRi.room, hRi.at_, hRi.outB⟩)⟩⟩
end Go.Proofs.Ytahafepgmkiabaa
