/- Walks: the law SumCuts. -/
import Derived.Test.YtahafepgmkiabaaS8
import Derived.Test.YtahafepgmkiabaaSepJ
set_option linter.unusedVariables false
set_option linter.unusedSimpArgs false
set_option linter.ambiguousOpen false
namespace Go.Proofs.Ytahafepgmkiabaa
open Go Go.Proofs.Ytahafepgmkiabaa.Sep

theorem sumOf_len_lt (k : Nat) (xs : List Nat) : (∀ b ∈ sumOf k xs, b < 256) := by
  unfold sumOf
  split
  · exact sha1_lt xs
  · split
    · exact four_lt _
    · exact four_lt _

theorem new3_spec (w0 : World) (L : List Chunk) (k : Int) :
    Meets Try.prog 49 #[.int .i64 k] w0 L (fun r L' => (1 ≤ k ∧ k ≤ 3 ∧ ∃ p, r = .tuple #[.pointer (some ⟨p, 0, none⟩), .int .i64 0] ∧ SumAt k.toNat p [] L L') ∨ (¬ (1 ≤ k ∧ k ≤ 3) ∧ r = .tuple #[.pointer none, .int .i64 1] ∧ L' = L)) := by
  refine Meets.of_body [.int .i64 k] Try.func49 rfl Try.ntmps49 rfl ?_
  refine SC.seq ?_
  refine SC.plain ?_
  refine St.assign rfl rfl ?_
  refine St.assign rfl rfl ?_
  refine St.done ?_
  refine SX.seq ?_
  refine SC.seq ?_
  refine SC.seq ?_
  refine SC.plain ?_
  refine St.move rfl rfl ?_
  refine St.lss rfl rfl rfl ?_
  refine St.move rfl rfl ?_
  refine St.split 6 rfl (fun g6 => ?_) (fun g6 => ?_)
  · refine St.guard_no rfl rfl rfl ?_
    refine St.guard_no rfl rfl rfl ?_
    refine St.pick_true rfl rfl rfl ?_
    refine St.done ?_
    refine SX.seq ?_
    refine SC.cond_true rfl ?_
    refine SC.seq ?_
    refine SC.plain ?_
    refine St.assign rfl rfl ?_
    refine St.assign rfl rfl ?_
    refine St.done ?_
    refine SX.seq ?_
    refine SC.ret ?_
    refine SX.seq_ret ?_
    first
      | exact SX.ret2 rfl rfl rfl (.inl ⟨by omega, by omega, p, rfl, hs⟩)
      | exact SX.ret2 rfl rfl rfl (.inr ⟨by omega, rfl, rfl⟩)
  · refine St.guard_yes rfl rfl ?_
    refine St.move rfl rfl ?_
    refine St.guard_yes rfl rfl ?_
    refine St.gtr rfl rfl rfl ?_
    refine St.pick_false rfl rfl rfl ?_
    refine St.done ?_
    refine SX.seq ?_
    refine SC.condp rfl (fun c9 => ?_) (fun c9 => ?_)
    · refine SC.seq ?_
      refine SC.plain ?_
      refine St.assign rfl rfl ?_
      refine St.assign rfl rfl ?_
      refine St.done ?_
      refine SX.seq ?_
      refine SC.ret ?_
      refine SX.seq_ret ?_
      first
        | exact SX.ret2 rfl rfl rfl (.inl ⟨by omega, by omega, p, rfl, hs⟩)
        | exact SX.ret2 rfl rfl rfl (.inr ⟨by omega, rfl, rfl⟩)
    · refine SC.skip ?_
      refine SX.seq ?_
      refine SC.seq ?_
      refine SC.plain ?_
      refine St.move rfl rfl ?_
      refine St.call [.int .i64 k] rfl (by kernel_rfl) rfl (by have := begun_spec w0 L k.toNat (by omega); rw [Int.toNat_of_nonneg (by omega)] at this; exact this) (by first | exact fun _ _ _ _ h => h.nil | assumption) ?_
      rintro r L1 ⟨p, rfl, hs⟩
      refine St.assign rfl rfl ?_
      refine St.assign rfl rfl ?_
      refine St.done ?_
      refine SX.seq ?_
      refine SC.ret ?_
      first
        | exact SX.ret2 rfl rfl rfl (.inl ⟨by omega, by omega, p, rfl, hs⟩)
        | exact SX.ret2 rfl rfl rfl (.inr ⟨by omega, rfl, rfl⟩)
theorem rsum_spec (w0 : World) (L : List Chunk) (k : Nat) (s : ByteArray) (hk : 1 ≤ k ∧ k ≤ 3) (hl : s.size ≤ 140737488351232) :
    Meets Try.prog 52 #[.int .i64 ((k : Nat) : Int), .string s] w0 L (SumR (sumOf k (u8s s)) L) := by
  have hadl := adler_lt (u8s s)
  have hcrc := crc_lt (u8s_lt s)
  refine Meets.of_body [.int .i64 ((k : Nat) : Int), .string s] Try.func52 rfl Try.ntmps52 rfl ?_
  refine SC.seq ?_
  refine SC.plain ?_
  refine St.assign rfl rfl ?_
  refine St.done ?_
  refine SX.seq ?_
  refine SC.seq ?_
  refine SC.seq ?_
  refine SC.plain ?_
  refine St.move rfl rfl ?_
  refine St.done ?_
  refine SX.seq ?_
  refine SC.block ?_
  refine SC.seq ?_
  refine SC.plain ?_
  refine St.eql rfl rfl rfl ?_
  refine St.assign rfl rfl ?_
  refine St.done ?_
  refine SX.seq ?_
  refine SC.condp rfl (fun c6 => ?_) (fun c6 => ?_)
  · refine SC.seq ?_
    refine SC.plain ?_
    refine St.move rfl rfl ?_
    refine St.call [.string s] rfl (by kernel_rfl) rfl (rsha_spec w0 _ s hl) (by first | exact fun _ _ _ _ h => h.nil | assumption) ?_
    rintro r L1 ⟨E, rfl, hb⟩
    refine St.assign rfl rfl ?_
    refine St.done ?_
    refine SX.seq ?_
    refine SC.ret ?_
    refine SX.blk_ret ?_
    refine SX.seq_ret ?_
    first
      | (have e1 : k = 1 := by omega); subst e1; exact SX.ret1 rfl rfl ⟨E, rfl, hb⟩
      | (have e1 : k = 2 := by omega); subst e1; exact SX.ret1 rfl rfl ⟨E, rfl, by simp only [List.flatMap_cons, List.flatMap_nil, List.append_nil] at hb; exact hb⟩
      | (have e1 : k = 3 := by omega); subst e1; exact SX.ret1 rfl rfl ⟨E, rfl, by simp only [List.flatMap_cons, List.flatMap_nil, List.append_nil] at hb; exact hb⟩
  · refine SC.seq ?_
    refine SC.plain ?_
    refine St.eql rfl rfl rfl ?_
    refine St.assign rfl rfl ?_
    refine St.done ?_
    refine SX.seq ?_
    refine SC.condp rfl (fun c10 => ?_) (fun c10 => ?_)
    · refine SC.seq ?_
      refine SC.plain ?_
      refine St.move rfl rfl ?_
      refine St.call [.string s] rfl (by kernel_rfl) rfl (rcrc_spec w0 _ s hl) (by first | exact fun _ _ _ _ h => h.nil | assumption) ?_
      rintro r L1 ⟨rfl, rfl⟩
      refine St.buildSl (n := 1) (e := 33) [(0, .int .u32 ((crc (u8s s) : Nat) : Int))] [.int .u32 ((crc (u8s s) : Nat) : Int)] rfl rfl (by kernel_rfl) (fun _ _ h => h.nil) (fun b5 => ?_)
      refine St.call [_] rfl (by kernel_rfl) rfl (words_spec w0 _ _ [crc (u8s s)] (Rd.row rfl mem0) (by simp)) (by first | exact fun _ _ _ _ h => h.nil | assumption) ?_
      rintro r L1 ⟨E, rfl, hb⟩
      refine St.perm _ (perm12 _ _ _) ?_
      refine St.drop ?_
      refine St.assign rfl rfl ?_
      refine St.done ?_
      refine SX.seq ?_
      refine SC.ret ?_
      refine SX.blk_ret ?_
      refine SX.seq_ret ?_
      first
        | (have e1 : k = 1 := by omega); subst e1; exact SX.ret1 rfl rfl ⟨E, rfl, hb⟩
        | (have e1 : k = 2 := by omega); subst e1; exact SX.ret1 rfl rfl ⟨E, rfl, by simp only [List.flatMap_cons, List.flatMap_nil, List.append_nil] at hb; exact hb⟩
        | (have e1 : k = 3 := by omega); subst e1; exact SX.ret1 rfl rfl ⟨E, rfl, by simp only [List.flatMap_cons, List.flatMap_nil, List.append_nil] at hb; exact hb⟩
    · refine SC.seq ?_
      refine SC.plain ?_
      refine St.eql rfl rfl rfl ?_
      refine St.assign rfl rfl ?_
      refine St.done ?_
      refine SX.seq ?_
      refine SC.condp rfl (fun c16 => ?_) (fun c16 => ?_)
      · refine SC.seq ?_
        refine SC.plain ?_
        refine St.move rfl rfl ?_
        refine St.call [.string s] rfl (by kernel_rfl) rfl (radler_spec w0 _ s hl) (by first | exact fun _ _ _ _ h => h.nil | assumption) ?_
        rintro r L1 ⟨rfl, rfl⟩
        refine St.buildSl (n := 1) (e := 33) [(0, .int .u32 ((adler (u8s s) : Nat) : Int))] [.int .u32 ((adler (u8s s) : Nat) : Int)] rfl rfl (by kernel_rfl) (fun _ _ h => h.nil) (fun b5 => ?_)
        refine St.call [_] rfl (by kernel_rfl) rfl (words_spec w0 _ _ [adler (u8s s)] (Rd.row rfl mem0) (by simp)) (by first | exact fun _ _ _ _ h => h.nil | assumption) ?_
        rintro r L1 ⟨E, rfl, hb⟩
        refine St.perm _ (perm12 _ _ _) ?_
        refine St.drop ?_
        refine St.assign rfl rfl ?_
        refine St.done ?_
        refine SX.seq ?_
        refine SC.ret ?_
        refine SX.blk_ret ?_
        refine SX.seq_ret ?_
        first
          | (have e1 : k = 1 := by omega); subst e1; exact SX.ret1 rfl rfl ⟨E, rfl, hb⟩
          | (have e1 : k = 2 := by omega); subst e1; exact SX.ret1 rfl rfl ⟨E, rfl, by simp only [List.flatMap_cons, List.flatMap_nil, List.append_nil] at hb; exact hb⟩
          | (have e1 : k = 3 := by omega); subst e1; exact SX.ret1 rfl rfl ⟨E, rfl, by simp only [List.flatMap_cons, List.flatMap_nil, List.append_nil] at hb; exact hb⟩
      · exfalso; omega
theorem sumCuts_spec (w0 : World) (L : List Chunk) (v : Value) (k : Int) (vs : List Value) (bss : List (List Nat)) (hl : vs.length = bss.length) (hx : Rd w0 L v 1 bss.length vs) (hsum : (bss.map List.length).sum ≤ 1048576)
    (hall : ∀ (i : Nat) (v : Value) (bs : List Nat), vs[i]? = some v → bss[i]? = some bs → Rd w0 L v 1 bs.length (bytes bs) ∧ ∀ b ∈ bs, b < 256) :
    Meets Try.prog 8 #[v, .int .i64 k] w0 L (fun r L' => r = .bool true) := by
  have hx0 := hx
  obtain ⟨hnl, b, o, A, c, rfl, hA, hr⟩ := hx
  have hin : ∀ i, i < bss.length → Rd w0 L (vs.getD i undef) 1 (bss.getD i []).length (bytes (bss.getD i [])) ∧ (∀ b ∈ bss.getD i [], b < 256) := fun i hi => hall i _ _ (by rw [List.getD_eq_getElem?_getD, List.getElem?_eq_getElem (by omega)]; rfl) (by rw [List.getD_eq_getElem?_getD, List.getElem?_eq_getElem hi]; rfl)
  have hload : ∀ i : Nat, i < bss.length → Holds w0 L ⟨b, o + ((i : Nat) : Int).toNat * 1, none⟩ (vs.getD i undef) := fun i hi => by
    rw [Int.toNat_natCast, Nat.mul_one]
    exact hr.one i (by rw [List.getD_eq_getElem?_getD, List.getElem?_eq_getElem (by omega)]; rfl)
  have htl : ∀ i, (bss.take i).flatten.length ≤ 1048576 := fun i => Nat.le_trans (by
    rw [List.length_flatten, List.map_take]
    have := congrArg List.sum (List.take_append_drop i (bss.map List.length))
    rw [List.sum_append] at this
    omega) hsum
  have hlt : ∀ b ∈ bss.flatten, b < 256 := fun b hb => by
    obtain ⟨bs, h1, h2⟩ := List.mem_flatten.1 hb
    obtain ⟨i, hi⟩ := List.getElem?_of_mem h1
    have hil := (List.getElem?_eq_some_iff.1 hi).1
    have := (hin i hil).2
    rw [List.getD_eq_getElem?_getD, hi] at this
    exact this b h2
  have htlt : ∀ i, ∀ b ∈ (bss.take i).flatten, b < 256 := fun i b hb => by
    obtain ⟨bs, h1, h2⟩ := List.mem_flatten.1 hb
    exact hlt b (List.mem_flatten.2 ⟨bs, List.mem_of_mem_take h1, h2⟩)
  have hsucc : ∀ i, i < bss.length → (bss.take (i + 1)).flatten = (bss.take i).flatten ++ bss.getD i [] := fun i hi => by
    rw [List.take_succ_eq_append_getElem hi, List.flatten_append, List.getD_eq_getElem?_getD, List.getElem?_eq_getElem hi]
    simp
  have hone : ∀ i, i < bss.length → (bss.getD i []).length ≤ 1048576 := fun i hi => by
    have := htl (i + 1)
    rw [hsucc i hi, List.length_append] at this
    omega
  refine Meets.of_body [.slice A bss.length c, .int .i64 k] Try.func8 rfl Try.ntmps8 rfl ?_
  refine SC.seq ?_
  refine SC.plain ?_
  refine St.assign rfl rfl ?_
  refine St.done ?_
  refine SX.seq ?_
  refine SC.seq ?_
  refine SC.plain ?_
  refine St.move rfl rfl ?_
  refine St.call [.int .i64 k] rfl (by kernel_rfl) rfl (new3_spec w0 L k) (by first | exact fun _ _ _ _ h => h.nil | assumption) ?_
  rintro r L1 (⟨hk1, hk3, p, rfl, rv, E, hb, rfl⟩ | ⟨hk, rfl, rfl⟩)
  · refine St.move rfl rfl ?_
    refine St.extract rfl rfl rfl ?_
    refine St.extract rfl rfl rfl ?_
    refine St.assign rfl rfl ?_
    refine St.assign rfl rfl ?_
    refine St.done ?_
    refine SX.seq ?_
    refine SC.seq ?_
    refine SC.seq ?_
    refine SC.plain ?_
    refine St.move rfl rfl ?_
    refine St.lss rfl rfl rfl ?_
    refine St.move rfl rfl ?_
    refine St.split 19 rfl (fun g19 => ?_) (fun g19 => ?_)
    · exfalso; omega
    · refine St.guard_yes rfl rfl ?_
      refine St.move rfl rfl ?_
      refine St.guard_yes rfl rfl ?_
      refine St.gtr rfl rfl rfl ?_
      refine St.pick_false rfl rfl rfl ?_
      refine St.done ?_
      refine SX.seq ?_
      refine SC.condp rfl (fun c22 => ?_) (fun c22 => ?_)
      · exfalso; omega
      · refine SC.skip ?_
        refine SX.seq ?_
        refine SC.seq ?_
        refine SC.seq ?_
        refine SC.plain ?_
        refine St.move rfl rfl ?_
        refine St.ptrEql rfl rfl rfl (by kernel_rfl) ?_
        refine St.move rfl rfl ?_
        refine St.guard_yes rfl rfl ?_
        refine St.move rfl rfl ?_
        refine St.guard_yes rfl rfl ?_
        refine St.neq rfl rfl rfl ?_
        refine St.pick_false rfl rfl rfl ?_
        refine St.done ?_
        refine SX.seq ?_
        refine SC.condp rfl (fun c37 => ?_) (fun c37 => ?_)
        · exact absurd rfl c37
        · refine SC.skip ?_
          refine SX.seq ?_
          refine SC.seq ?_
          obtain ⟨k, rfl⟩ : ∃ n : Nat, k = (n : Int) := ⟨k.toNat, by omega⟩
          rw [Int.toNat_natCast] at hb ⊢
          have hk : 1 ≤ k ∧ k ≤ 3 := by omega
          refine SC.plain ?_
          refine St.assign rfl rfl ?_
          refine St.done ?_
          refine SX.seq ?_
          refine SC.seq ?_
          refine SC.seq ?_
          refine SC.plain ?_
          refine St.assign rfl rfl ?_
          refine St.done ?_
          refine SX.seq ?_
          refine SC.block ?_
          refine SC.loop (α := Nat × Value × Chunk × Value × Chunk) (fun s => s.1 ≤ bss.length ∧ Buf 5 1 s.2.1 (bytes (restOf k (bss.take s.1).flatten)) (restOf k (bss.take s.1).flatten).length s.2.2.1 ∧ Buf 5 1 s.2.2.2.1 (bytes (bss.take s.1).flatten) (bss.take s.1).flatten.length s.2.2.2.2) (fun s => [(0, .slice A bss.length c), (1, .int .i64 ((k : Nat) : Int)), (5, .pointer (some ⟨p, 0, none⟩)), (7, s.2.2.2.1), (8, .int .i64 ((s.1 : Nat) : Int))]) (fun s => [⟨p, sumRow k (bss.take s.1).flatten s.2.1, 168⟩] :: s.2.2.1 :: s.2.2.2.2 :: L) (fun s => bss.length - s.1) (0, rv, E, .slice none 0 0, []) ⟨Nat.zero_le _, hb, Buf.nil 5 1⟩ ⟨rfl, rfl, rfl, rfl, rfl, trivial⟩ (List.Perm.refl _) ?_
          rintro ⟨i, rv, E, av, Ea⟩ ⟨hi, hb, ha⟩
          simp only at hi hb ha
          show SC _ _ _ [(0, .slice A bss.length c), (1, .int .i64 ((k : Nat) : Int)), (5, .pointer (some ⟨p, 0, none⟩)), (7, av), (8, .int .i64 ((i : Nat) : Int))] ([⟨p, sumRow k (bss.take i).flatten rv, 168⟩] :: E :: Ea :: L)
          refine SC.seq ?_
          refine SC.seq ?_
          refine SC.plain ?_
          refine St.move rfl rfl ?_
          refine St.move rfl rfl ?_
          refine St.lenSl rfl rfl (by kernel_rfl) ?_
          refine St.lss rfl rfl rfl ?_
          refine St.move rfl rfl ?_
          refine St.split 42 rfl (fun g42 => ?_) (fun g42 => ?_)
          · refine St.guard_yes rfl rfl ?_
            refine St.move rfl rfl ?_
            refine St.guard_yes rfl rfl ?_
            refine St.lss rfl rfl rfl ?_
            refine St.pick_true rfl rfl rfl ?_
            refine St.done ?_
            refine SX.seq ?_
            refine SC.condp rfl (fun c45 => ?_) (fun c45 => ?_)
            · have hlti : i < bss.length := by omega
              have hAe := hA (by omega)
              subst hAe
              have h1l := htl i
              have h2l := hone i hlti
              have hap : (bss.take i).flatten.length + (bss.getD i []).length = (bss.take (i + 1)).flatten.length := by rw [hsucc i hlti, List.length_append]
              refine SC.skip ?_
              refine SX.seq ?_
              refine SC.seq ?_
              refine SC.block ?_
              refine SC.seq ?_
              refine SC.plain ?_
              refine St.move rfl rfl ?_
              refine St.move rfl rfl ?_
              refine St.move rfl rfl ?_
              refine St.indexSl (e := 35) (sz := 1) rfl rfl rfl (by kernel_rfl) (by omega) ?_
              refine St.load rfl rfl (by kernel_rfl) (fun w hw => hload i hlti w hw.drop.drop.drop) ?_
              refine St.call [_, _] rfl (by kernel_rfl) rfl (write_spec w0 (Ea :: L) k p _ rv (bss.take i).flatten (bss.getD i []) E hk hb (by omega) (Rd.mono (hin i hlti).1 (fun w hw => by first | exact hw | exact hw.drop | exact hw.drop.drop | exact hw.drop.drop.drop | exact hw.drop.drop.drop.drop | exact hw.drop.drop.drop.drop.drop | exact hw.drop.drop.drop.drop.drop.drop | exact hw.drop.drop.drop.drop.drop.drop.drop | exact hw.drop.drop.drop.drop.drop.drop.drop.drop)) (by omega) (hin i hlti).2 (htlt i)) (by first | exact fun _ _ _ _ h => h.nil | assumption) ?_
              rintro r L1 ⟨rv2, E2, hb2, rfl⟩
              rw [← hsucc i hlti] at hb2 ⊢
              refine St.done ?_
              refine SX.seq ?_
              refine SC.seq ?_
              refine SC.plain ?_
              refine St.move rfl rfl ?_
              refine St.move rfl rfl ?_
              refine St.move rfl rfl ?_
              refine St.indexSl (e := 35) (sz := 1) rfl rfl rfl (by kernel_rfl) (by omega) ?_
              refine St.load rfl rfl (by kernel_rfl) (fun w hw => hload i hlti w hw.drop.drop.drop) ?_
              refine St.append2 (e := 5) (sz := 1) (bytes := 1) (xs := bytes (bss.take i).flatten) (n := (bss.take i).flatten.length) (news := bytes (bss.getD i [])) (m := (bss.getD i []).length) rfl rfl rfl (by kernel_rfl) ha (Rd.mono (hin i hlti).1 (fun w hw => by first | exact hw | exact hw.drop | exact hw.drop.drop | exact hw.drop.drop.drop | exact hw.drop.drop.drop.drop | exact hw.drop.drop.drop.drop.drop | exact hw.drop.drop.drop.drop.drop.drop | exact hw.drop.drop.drop.drop.drop.drop.drop | exact hw.drop.drop.drop.drop.drop.drop.drop.drop)) (bytes_one _) (by omega) (by omega) (fun _ _ h => h.nil) (fun av2 Ea2 ha2 _ => ?_)
              rw [← bytes_app, ← hsucc i hlti, hap] at ha2
              refine St.assign rfl rfl ?_
              refine St.done ?_
              refine SX.seq ?_
              refine SC.seq ?_
              refine SC.plain ?_
              refine St.move rfl rfl ?_
              first | refine St.remN (b := 3) rfl rfl rfl (by omega) ?_ | refine St.rem rfl rfl rfl (by omega) ?_
              refine St.eql rfl rfl rfl ?_
              refine St.done ?_
              refine SX.seq ?_
              refine SC.condp rfl (fun c62 => ?_) (fun c62 => ?_)
              · refine SC.plain ?_
                refine St.move rfl rfl ?_
                refine St.call [_] rfl (by kernel_rfl) rfl (sum_spec w0 (Ea2 :: L) k p rv2 (bss.take (i + 1)).flatten E2 hk hb2 (htlt _) (by have := htl (i + 1); omega)) (by first | exact fun _ _ _ _ h => h.nil | assumption) ?_
                rintro r L1 ⟨E3, rfl, hb3⟩
                refine St.drop ?_
                refine St.done ?_
                refine SX.blk ?_
                refine SX.seq ?_
                refine SC.plain ?_
                refine St.move rfl rfl ?_
                first | refine St.addN (b := 1) rfl rfl rfl (by omega) ?_ | refine St.addI rfl rfl rfl (by omega) ?_
                refine St.assign rfl rfl ?_
                refine St.done ?_
                exact SX.again (i + 1, rv2, E2, av2, Ea2) ⟨hlti, hb2, ha2⟩ (by show bss.length - (i + 1) < bss.length - i; omega) ⟨rfl, rfl, rfl, rfl, rfl, trivial⟩ (List.Perm.refl _)
              · refine SC.skip ?_
                refine SX.blk ?_
                refine SX.seq ?_
                refine SC.plain ?_
                refine St.move rfl rfl ?_
                first | refine St.addN (b := 1) rfl rfl rfl (by omega) ?_ | refine St.addI rfl rfl rfl (by omega) ?_
                refine St.assign rfl rfl ?_
                refine St.done ?_
                exact SX.again (i + 1, rv2, E2, av2, Ea2) ⟨hlti, hb2, ha2⟩ (by show bss.length - (i + 1) < bss.length - i; omega) ⟨rfl, rfl, rfl, rfl, rfl, trivial⟩ (List.Perm.refl _)
            · refine SC.exit ?_
              refine SX.seq_exit ?_
              refine SX.seq_exit ?_
              refine SX.hit ?_
              refine SX.seq ?_
              refine SC.seq ?_
              have hxl := htl i
              have hxb := htlt i
              generalize (bss.take i).flatten = xs at *
              have hts := text_size xs
              have hut := u8s_text xs hxb
              refine SC.plain ?_
              refine St.move rfl rfl ?_
              refine St.call [_] rfl (by kernel_rfl) rfl (sum_spec w0 (Ea :: L) k p rv xs E hk hb hxb (by omega)) (by first | exact fun _ _ _ _ h => h.nil | assumption) ?_
              rintro r9 L1 ⟨Ex, rfl, hx9⟩
              refine St.assign rfl rfl ?_
              refine St.done ?_
              refine SX.seq ?_
              refine SC.seq ?_
              refine SC.plain ?_
              refine St.move rfl rfl ?_
              refine St.call [_] rfl (by kernel_rfl) rfl (new3_spec w0 _ _) (fun _ _ _ _ h => h.nil) ?_
              rintro r L1 (⟨_, _, q, rfl, ry, Ey, hby, rfl⟩ | ⟨hn, _, _⟩)
              rotate_left
              · exact absurd ⟨by omega, by omega⟩ hn
              rw [Int.toNat_natCast] at hby ⊢
              refine St.move rfl rfl ?_
              refine St.extract rfl rfl rfl ?_
              refine St.extract rfl rfl rfl ?_
              refine St.assign rfl rfl ?_
              refine St.assign rfl rfl ?_
              refine St.done ?_
              refine SX.seq ?_
              refine SC.seq ?_
              refine SC.plain ?_
              refine St.move rfl rfl ?_
              refine St.move rfl rfl ?_
              refine St.call [_, _] rfl (by kernel_rfl) rfl (write_spec w0 (Ex :: [⟨p, sumRow k xs rv, 168⟩] :: E :: Ea :: L) k q _ ry [] xs Ey hk hby (by simp) (ha.rd (by simp)) (by omega) hxb (by simp)) (by first | exact fun _ _ _ _ h => h.nil | assumption) ?_
              rintro r L1 ⟨ry2, Ey2, hby2, rfl⟩
              rw [List.nil_append] at hby2 ⊢
              refine St.done ?_
              refine SX.seq ?_
              refine SC.seq ?_
              refine SC.drawn [(0, true), (1, true), (2, true), (3, false), (4, true), (5, true), (6, true), (7, true), (8, true), (9, true), (10, true), (11, true), (12, false), (13, true), (14, true), (15, true), (16, true), (17, false), (18, true), (19, true)] [] ([⟨q, sumRow k xs ry2, 168⟩] :: Ey2 :: Ex :: [⟨p, sumRow k xs rv, 168⟩] :: E :: Ea :: L) (by kernel_rfl) (by kernel_rfl) (fun _ h => h) ?_
              refine St.move rfl rfl ?_
              refine St.toStr (e := 5) (bs := sumOf k xs) (n := (sumOf k xs).length) rfl rfl (hx9.rd (by simp [Lq])) (by kernel_rfl) (by kernel_rfl) (by kernel_rfl) ?_
              refine St.move rfl rfl ?_
              refine St.call [_] rfl (by kernel_rfl) rfl (sum_spec w0 (Ex :: [⟨p, sumRow k xs rv, 168⟩] :: E :: Ea :: L) k q ry2 xs Ey2 hk hby2 hxb (by omega)) (fun _ _ _ h hw => by obtain ⟨E1, e, _⟩ := h; rw [e] at hw; exact hw.drop) ?_
              rintro r1 L1 ⟨Ez, rfl, hz⟩
              refine St.grow (Ez :: [⟨q, sumRow k xs ry2, 168⟩] :: Ey2 :: Ex :: [⟨p, sumRow k xs rv, 168⟩] :: E :: Ea :: L) (fun _ h => h) (fun _ h => h.drop) ?_
              refine St.toStr (e := 5) (bs := sumOf k xs) (n := (sumOf k xs).length) rfl rfl (hz.rd (by simp [Lq])) (by kernel_rfl) (by kernel_rfl) (by kernel_rfl) ?_
              refine St.strEql rfl rfl rfl ?_
              refine St.move rfl rfl ?_
              refine St.split 81 rfl (fun g81 => ?_) (fun g81 => ?_)
              · refine St.guard_yes rfl rfl ?_
                refine St.move rfl rfl ?_
                refine St.guard_yes rfl rfl ?_
                refine St.toStr (e := 5) (bs := sumOf k xs) (n := (sumOf k xs).length) rfl rfl (hx9.rd (by simp [Lq])) (by kernel_rfl) (by kernel_rfl) (by kernel_rfl) ?_
                refine St.guard_yes rfl rfl ?_
                refine St.move rfl rfl ?_
                refine St.guard_yes rfl rfl ?_
                refine St.move rfl rfl ?_
                refine St.guard_yes rfl rfl ?_
                refine St.toStr (e := 5) (bs := xs) (n := xs.length) rfl rfl (ha.rd (by simp [Lq])) (by kernel_rfl) (by kernel_rfl) (by kernel_rfl) ?_
                refine St.guard_yes rfl rfl ?_
                refine St.call [_, _] rfl (by kernel_rfl) rfl (rsum_spec w0 _ k (text xs) hk (by omega)) (fun _ _ _ h hw => by obtain ⟨E1, e, _⟩ := h; rw [e] at hw; exact hw.drop) ?_
                rw [hut]
                rintro r2 L1 ⟨E5, rfl, h5⟩
                refine St.grow (E5 :: Ez :: [⟨q, sumRow k xs ry2, 168⟩] :: Ey2 :: Ex :: [⟨p, sumRow k xs rv, 168⟩] :: E :: Ea :: L) (fun _ h => h) (fun _ h => h.drop) ?_
                refine St.guard_yes rfl rfl ?_
                refine St.toStr (e := 5) (bs := sumOf k xs) (n := (sumOf k xs).length) rfl rfl (h5.rd (by simp [Lq])) (by kernel_rfl) (by kernel_rfl) (by kernel_rfl) ?_
                refine St.guard_yes rfl rfl ?_
                refine St.strEql rfl rfl rfl ?_
                refine St.pick_true rfl rfl rfl ?_
                refine St.move rfl rfl ?_
                refine St.split 91 rfl (fun g91 => ?_) (fun g91 => ?_)
                · refine St.guard_yes rfl rfl ?_
                  refine St.call [] rfl (by kernel_rfl) rfl (awake3_spec w0 _) (fun _ _ _ h hw => h.1 ▸ hw) ?_
                  rintro r7 L1 ⟨rfl, rfl⟩
                  refine St.pick_true rfl rfl rfl ?_
                  refine St.assign rfl rfl ?_
                  refine St.done ?_
                  refine SX.tail ?_
                  refine St.done ?_
                  refine SX.seq ?_
                  refine SC.ret ?_
                  exact SX.ret1 rfl rfl rfl
                · exact absurd rfl g91
              · exact absurd rfl g81
          · refine St.guard_no rfl rfl rfl ?_
            refine St.guard_no rfl rfl rfl ?_
            refine St.pick_false rfl rfl rfl ?_
            refine St.done ?_
            refine SX.seq ?_
            refine SC.cond_false rfl ?_
            refine SC.exit ?_
            refine SX.seq_exit ?_
            refine SX.seq_exit ?_
            refine SX.hit ?_
            refine SX.seq ?_
            refine SC.seq ?_
            have hxl := htl i
            have hxb := htlt i
            generalize (bss.take i).flatten = xs at *
            have hts := text_size xs
            have hut := u8s_text xs hxb
            refine SC.plain ?_
            refine St.move rfl rfl ?_
            refine St.call [_] rfl (by kernel_rfl) rfl (sum_spec w0 (Ea :: L) k p rv xs E hk hb hxb (by omega)) (by first | exact fun _ _ _ _ h => h.nil | assumption) ?_
            rintro r9 L1 ⟨Ex, rfl, hx9⟩
            refine St.assign rfl rfl ?_
            refine St.done ?_
            refine SX.seq ?_
            refine SC.seq ?_
            refine SC.plain ?_
            refine St.move rfl rfl ?_
            refine St.call [_] rfl (by kernel_rfl) rfl (new3_spec w0 _ _) (fun _ _ _ _ h => h.nil) ?_
            rintro r L1 (⟨_, _, q, rfl, ry, Ey, hby, rfl⟩ | ⟨hn, _, _⟩)
            rotate_left
            · exact absurd ⟨by omega, by omega⟩ hn
            rw [Int.toNat_natCast] at hby ⊢
            refine St.move rfl rfl ?_
            refine St.extract rfl rfl rfl ?_
            refine St.extract rfl rfl rfl ?_
            refine St.assign rfl rfl ?_
            refine St.assign rfl rfl ?_
            refine St.done ?_
            refine SX.seq ?_
            refine SC.seq ?_
            refine SC.plain ?_
            refine St.move rfl rfl ?_
            refine St.move rfl rfl ?_
            refine St.call [_, _] rfl (by kernel_rfl) rfl (write_spec w0 (Ex :: [⟨p, sumRow k xs rv, 168⟩] :: E :: Ea :: L) k q _ ry [] xs Ey hk hby (by simp) (ha.rd (by simp)) (by omega) hxb (by simp)) (by first | exact fun _ _ _ _ h => h.nil | assumption) ?_
            rintro r L1 ⟨ry2, Ey2, hby2, rfl⟩
            rw [List.nil_append] at hby2 ⊢
            refine St.done ?_
            refine SX.seq ?_
            refine SC.seq ?_
            refine SC.drawn [(0, true), (1, true), (2, true), (3, false), (4, true), (5, true), (6, true), (7, true), (8, true), (9, true), (10, true), (11, true), (12, false), (13, true), (14, true), (15, true), (16, true), (17, false), (18, true), (19, true)] [] ([⟨q, sumRow k xs ry2, 168⟩] :: Ey2 :: Ex :: [⟨p, sumRow k xs rv, 168⟩] :: E :: Ea :: L) (by kernel_rfl) (by kernel_rfl) (fun _ h => h) ?_
            refine St.move rfl rfl ?_
            refine St.toStr (e := 5) (bs := sumOf k xs) (n := (sumOf k xs).length) rfl rfl (hx9.rd (by simp [Lq])) (by kernel_rfl) (by kernel_rfl) (by kernel_rfl) ?_
            refine St.move rfl rfl ?_
            refine St.call [_] rfl (by kernel_rfl) rfl (sum_spec w0 (Ex :: [⟨p, sumRow k xs rv, 168⟩] :: E :: Ea :: L) k q ry2 xs Ey2 hk hby2 hxb (by omega)) (fun _ _ _ h hw => by obtain ⟨E1, e, _⟩ := h; rw [e] at hw; exact hw.drop) ?_
            rintro r1 L1 ⟨Ez, rfl, hz⟩
            refine St.grow (Ez :: [⟨q, sumRow k xs ry2, 168⟩] :: Ey2 :: Ex :: [⟨p, sumRow k xs rv, 168⟩] :: E :: Ea :: L) (fun _ h => h) (fun _ h => h.drop) ?_
            refine St.toStr (e := 5) (bs := sumOf k xs) (n := (sumOf k xs).length) rfl rfl (hz.rd (by simp [Lq])) (by kernel_rfl) (by kernel_rfl) (by kernel_rfl) ?_
            refine St.strEql rfl rfl rfl ?_
            refine St.move rfl rfl ?_
            refine St.split 81 rfl (fun g81 => ?_) (fun g81 => ?_)
            · refine St.guard_yes rfl rfl ?_
              refine St.move rfl rfl ?_
              refine St.guard_yes rfl rfl ?_
              refine St.toStr (e := 5) (bs := sumOf k xs) (n := (sumOf k xs).length) rfl rfl (hx9.rd (by simp [Lq])) (by kernel_rfl) (by kernel_rfl) (by kernel_rfl) ?_
              refine St.guard_yes rfl rfl ?_
              refine St.move rfl rfl ?_
              refine St.guard_yes rfl rfl ?_
              refine St.move rfl rfl ?_
              refine St.guard_yes rfl rfl ?_
              refine St.toStr (e := 5) (bs := xs) (n := xs.length) rfl rfl (ha.rd (by simp [Lq])) (by kernel_rfl) (by kernel_rfl) (by kernel_rfl) ?_
              refine St.guard_yes rfl rfl ?_
              refine St.call [_, _] rfl (by kernel_rfl) rfl (rsum_spec w0 _ k (text xs) hk (by omega)) (fun _ _ _ h hw => by obtain ⟨E1, e, _⟩ := h; rw [e] at hw; exact hw.drop) ?_
              rw [hut]
              rintro r2 L1 ⟨E5, rfl, h5⟩
              refine St.grow (E5 :: Ez :: [⟨q, sumRow k xs ry2, 168⟩] :: Ey2 :: Ex :: [⟨p, sumRow k xs rv, 168⟩] :: E :: Ea :: L) (fun _ h => h) (fun _ h => h.drop) ?_
              refine St.guard_yes rfl rfl ?_
              refine St.toStr (e := 5) (bs := sumOf k xs) (n := (sumOf k xs).length) rfl rfl (h5.rd (by simp [Lq])) (by kernel_rfl) (by kernel_rfl) (by kernel_rfl) ?_
              refine St.guard_yes rfl rfl ?_
              refine St.strEql rfl rfl rfl ?_
              refine St.pick_true rfl rfl rfl ?_
              refine St.move rfl rfl ?_
              refine St.split 91 rfl (fun g91 => ?_) (fun g91 => ?_)
              · refine St.guard_yes rfl rfl ?_
                refine St.call [] rfl (by kernel_rfl) rfl (awake3_spec w0 _) (fun _ _ _ h hw => h.1 ▸ hw) ?_
                rintro r7 L1 ⟨rfl, rfl⟩
                refine St.pick_true rfl rfl rfl ?_
                refine St.assign rfl rfl ?_
                refine St.done ?_
                refine SX.tail ?_
                refine St.done ?_
                refine SX.seq ?_
                refine SC.ret ?_
                exact SX.ret1 rfl rfl rfl
              · exact absurd rfl g91
            · exact absurd rfl g81
  · refine St.move rfl rfl ?_
    refine St.extract rfl rfl rfl ?_
    refine St.extract rfl rfl rfl ?_
    refine St.assign rfl rfl ?_
    refine St.assign rfl rfl ?_
    refine St.done ?_
    refine SX.seq ?_
    refine SC.seq ?_
    refine SC.seq ?_
    refine SC.plain ?_
    refine St.move rfl rfl ?_
    refine St.lss rfl rfl rfl ?_
    refine St.move rfl rfl ?_
    refine St.split 19 rfl (fun g19 => ?_) (fun g19 => ?_)
    · refine St.guard_no rfl rfl rfl ?_
      refine St.guard_no rfl rfl rfl ?_
      refine St.pick_true rfl rfl rfl ?_
      refine St.done ?_
      refine SX.seq ?_
      refine SC.cond_true rfl ?_
      refine SC.seq ?_
      refine SC.plain ?_
      refine St.move rfl rfl ?_
      refine St.ptrEql rfl rfl rfl (by kernel_rfl) ?_
      refine St.move rfl rfl ?_
      refine St.guard_yes rfl rfl ?_
      refine St.move rfl rfl ?_
      refine St.guard_yes rfl rfl ?_
      refine St.eql rfl rfl rfl ?_
      refine St.pick_true rfl rfl rfl ?_
      refine St.move rfl rfl ?_
      refine St.split 29 rfl (fun g29 => ?_) (fun g29 => ?_)
      · refine St.guard_yes rfl rfl ?_
        refine St.call [] rfl (by kernel_rfl) rfl (awake3_spec w0 _) (by first | exact fun _ _ _ _ h => h.nil | assumption) ?_
        rintro r7 L1 ⟨rfl, rfl⟩
        refine St.pick_true rfl rfl rfl ?_
        refine St.assign rfl rfl ?_
        refine St.done ?_
        refine SX.seq ?_
        refine SC.ret ?_
        refine SX.seq_ret ?_
        exact SX.ret1 rfl rfl rfl
      · exact absurd rfl g29
    · refine St.guard_yes rfl rfl ?_
      refine St.move rfl rfl ?_
      refine St.guard_yes rfl rfl ?_
      refine St.gtr rfl rfl rfl ?_
      refine St.pick_false rfl rfl rfl ?_
      refine St.done ?_
      refine SX.seq ?_
      refine SC.condp rfl (fun c22 => ?_) (fun c22 => ?_)
      · refine SC.seq ?_
        refine SC.plain ?_
        refine St.move rfl rfl ?_
        refine St.ptrEql rfl rfl rfl (by kernel_rfl) ?_
        refine St.move rfl rfl ?_
        refine St.guard_yes rfl rfl ?_
        refine St.move rfl rfl ?_
        refine St.guard_yes rfl rfl ?_
        refine St.eql rfl rfl rfl ?_
        refine St.pick_true rfl rfl rfl ?_
        refine St.move rfl rfl ?_
        refine St.split 29 rfl (fun g29 => ?_) (fun g29 => ?_)
        · refine St.guard_yes rfl rfl ?_
          refine St.call [] rfl (by kernel_rfl) rfl (awake3_spec w0 _) (by first | exact fun _ _ _ _ h => h.nil | assumption) ?_
          rintro r7 L1 ⟨rfl, rfl⟩
          refine St.pick_true rfl rfl rfl ?_
          refine St.assign rfl rfl ?_
          refine St.done ?_
          refine SX.seq ?_
          refine SC.ret ?_
          refine SX.seq_ret ?_
          exact SX.ret1 rfl rfl rfl
        · exact absurd rfl g29
      · exfalso; omega
end Go.Proofs.Ytahafepgmkiabaa
