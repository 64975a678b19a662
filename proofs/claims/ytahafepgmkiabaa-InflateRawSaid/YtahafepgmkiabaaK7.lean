/- The walks of the laws InflateZlib and InflateRaw. -/
import Derived.Test.YtahafepgmkiabaaK6
set_option linter.unusedVariables false
set_option linter.unusedSimpArgs false
set_option linter.ambiguousOpen false
namespace Go.Proofs.Ytahafepgmkiabaa
open Go Go.Proofs.Ytahafepgmkiabaa.Sep Go.Proofs.Ytahafepgmkiabaa.Inf

theorem inflateZlib_spec (w0 : World) (L : List Chunk) (v : Value) (bs : List Nat) (hv : Rd w0 L v 1 bs.length (bytes bs)) (hcp : Cap v) (hl : bs.length ≤ 140737488351232) (hb : ∀ b ∈ bs, b < 256) (m : Int) :
    Meets Try.prog 9 #[v, .int .i64 m] w0 L (fun r L' => r = .bool true) := by
  have hv0 := hv
  obtain ⟨_, b0, o0, A0, c0, rfl, hA0, hr⟩ := hv
  refine Meets.of_body [.slice A0 bs.length c0, .int .i64 m] Try.func9 rfl Try.ntmps9 rfl ?_
  refine SC.seq ?_
  refine SC.plain ?_
  refine St.assign rfl rfl ?_
  refine St.done ?_
  refine SX.seq ?_
  refine SC.seq ?_
  refine SC.seq ?_
  refine SC.plain ?_
  refine St.move rfl rfl ?_
  refine St.gtr rfl rfl rfl ?_
  refine St.move rfl rfl ?_
  refine St.split 11 rfl (fun g11 => ?_) (fun g11 => ?_)
  · refine St.guard_no rfl rfl rfl ?_
    refine St.guard_no rfl rfl rfl ?_
    refine St.guard_no rfl rfl rfl ?_
    refine St.pick_true rfl rfl rfl ?_
    refine St.done ?_
    refine SX.seq ?_
    refine SC.cond_true rfl ?_
    refine SC.seq ?_
    refine SC.plain ?_
    refine St.call [] rfl (by kernel_rfl) rfl (awake6_spec w0 _) (fun _ _ _ _ h => h.nil) ?_
    rintro ra La rfl
    refine St.assign rfl rfl ?_
    refine St.done ?_
    refine SX.seq ?_
    refine SC.ret ?_
    refine SX.seq_ret ?_
    exact SX.ret1 rfl rfl rfl
  · refine St.guard_yes rfl rfl ?_
    refine St.move rfl rfl ?_
    refine St.guard_yes rfl rfl ?_
    refine St.lenSl rfl rfl (by kernel_rfl) ?_
    refine St.guard_yes rfl rfl ?_
    refine St.gtr rfl rfl rfl ?_
    refine St.pick_false rfl rfl rfl ?_
    refine St.done ?_
    refine SX.seq ?_
    refine SC.condp rfl (fun c15 => ?_) (fun c15 => ?_)
    · refine SC.seq ?_
      refine SC.plain ?_
      refine St.call [] rfl (by kernel_rfl) rfl (awake6_spec w0 _) (fun _ _ _ _ h => h.nil) ?_
      rintro ra La rfl
      refine St.assign rfl rfl ?_
      refine St.done ?_
      refine SX.seq ?_
      refine SC.ret ?_
      refine SX.seq_ret ?_
      exact SX.ret1 rfl rfl rfl
    · refine SC.skip ?_
      refine SX.seq ?_
      refine SC.seq ?_
      have hl5 : bs.length ≤ 5000 := by omega
      have hm5 : m ≤ 100000 := by omega
      refine SC.plain ?_
      refine St.move rfl rfl ?_
      refine St.move rfl rfl ?_
      refine St.call [_, _] rfl (by kernel_rfl) rfl (izlib_spec w0 _ _ bs hv0 hcp hl hb m (by omega) 50000 (by omega)) (fun _ _ _ _ h => h.nil) ?_
      rintro r1 L1 ⟨v1, E1, rfl, hb1, rfl⟩
      obtain ⟨s, hs⟩ : ∃ s, s = zlibG 50000 bs m.toNat := ⟨_, rfl⟩
      rw [← hs] at hb1 ⊢
      obtain ⟨b1, o1, A1, c1, rfl, _, _⟩ := hb1.read
      refine St.move rfl rfl ?_
      refine St.extract rfl rfl rfl ?_
      refine St.extract rfl rfl rfl ?_
      refine St.extract rfl rfl rfl ?_
      refine St.assign rfl rfl ?_
      refine St.assign rfl rfl ?_
      refine St.assign rfl rfl ?_
      refine St.done ?_
      refine SX.seq ?_
      refine SC.seq ?_
      refine SC.plain ?_
      refine St.move rfl rfl ?_
      refine St.move rfl rfl ?_
      refine St.call [_, _] rfl (by kernel_rfl) rfl (wzlib_spec w0 _ _ bs hv0.cons hcp hl hb m (by omega) 50000 (by omega)) (fun _ _ _ _ h => h.nil) ?_
      rintro r2 L2 ⟨v2, E2, rfl, hb2, rfl⟩
      unfold gotCells
      rw [← hs] at hb2 ⊢
      obtain ⟨b2, o2, A2, c2, rfl, _, _⟩ := hb2.read
      refine St.alloc [.slice none 0 0, .int .i64 0, .int .i64 0] rfl (by kernel_rfl) (fun _ _ h => h.nil) (fun b8 => ?_)
      refine St.storeN rfl rfl rfl [.slice A2 s.1.length c2, .int .i64 ((s.2.1 : Nat) : Int), .int .i64 s.2.2] rfl (by kernel_rfl) (by simp [one]) (by simp) (fun _ h => h.nil) ?_
      rw [show splice [.slice none 0 0, .int .i64 0, .int .i64 0] 0 [.slice A2 s.1.length c2, .int .i64 ((s.2.1 : Nat) : Int), .int .i64 s.2.2] = [.slice A2 s.1.length c2, .int .i64 ((s.2.1 : Nat) : Int), .int .i64 s.2.2] from rfl]
      refine St.done ?_
      refine SX.seq ?_
      refine SC.seq ?_
      refine SC.plain ?_
      refine St.move rfl rfl ?_
      refine St.toStr (e := 5) (bs := s.1) (n := s.1.length) rfl rfl (hb1.rd (by simp [Lq])) (by kernel_rfl) (by kernel_rfl) (by kernel_rfl) ?_
      refine St.fieldAddr (off := 0) rfl rfl (by kernel_rfl) ?_
      refine St.load rfl rfl (by kernel_rfl) (by first | exact Holds.row mem0 rfl | exact Holds.row mem1 rfl | exact Holds.row mem2 rfl | exact Holds.row mem3 rfl | exact Holds.row mem4 rfl | exact Holds.row mem5 rfl | exact Holds.row mem6 rfl | exact Holds.row mem7 rfl | exact Holds.row mem8 rfl) ?_
      refine St.toStr (e := 5) (bs := s.1) (n := s.1.length) rfl rfl (hb2.rd (by simp [Lq])) (by kernel_rfl) (by kernel_rfl) (by kernel_rfl) ?_
      refine St.strEql rfl rfl rfl ?_
      refine St.move rfl rfl ?_
      refine St.split 33 rfl (fun g33 => ?_) (fun g33 => ?_)
      · refine St.guard_yes rfl rfl ?_
        refine St.move rfl rfl ?_
        refine St.guard_yes rfl rfl ?_
        refine St.fieldAddr (off := 1) rfl rfl (by kernel_rfl) ?_
        refine St.guard_yes rfl rfl ?_
        refine St.load rfl rfl (by kernel_rfl) (by first | exact Holds.row mem0 rfl | exact Holds.row mem1 rfl | exact Holds.row mem2 rfl | exact Holds.row mem3 rfl | exact Holds.row mem4 rfl | exact Holds.row mem5 rfl | exact Holds.row mem6 rfl | exact Holds.row mem7 rfl | exact Holds.row mem8 rfl) ?_
        refine St.guard_yes rfl rfl ?_
        refine St.eql rfl rfl rfl ?_
        refine St.pick_true rfl rfl rfl ?_
        refine St.move rfl rfl ?_
        refine St.split 39 rfl (fun g39 => ?_) (fun g39 => ?_)
        · refine St.guard_yes rfl rfl ?_
          refine St.move rfl rfl ?_
          refine St.guard_yes rfl rfl ?_
          refine St.fieldAddr (off := 2) rfl rfl (by kernel_rfl) ?_
          refine St.guard_yes rfl rfl ?_
          refine St.load rfl rfl (by kernel_rfl) (by first | exact Holds.row mem0 rfl | exact Holds.row mem1 rfl | exact Holds.row mem2 rfl | exact Holds.row mem3 rfl | exact Holds.row mem4 rfl | exact Holds.row mem5 rfl | exact Holds.row mem6 rfl | exact Holds.row mem7 rfl | exact Holds.row mem8 rfl) ?_
          refine St.guard_yes rfl rfl ?_
          refine St.eql rfl rfl rfl ?_
          refine St.pick_true rfl rfl rfl ?_
          refine St.move rfl rfl ?_
          refine St.split 45 rfl (fun g45 => ?_) (fun g45 => ?_)
          · refine St.guard_yes rfl rfl ?_
            refine St.call [] rfl (by kernel_rfl) rfl (awake6_spec w0 _) (fun _ _ _ _ h => h.nil) ?_
            rintro ra La rfl
            refine St.pick_true rfl rfl rfl ?_
            refine St.assign rfl rfl ?_
            refine St.done ?_
            refine SX.seq ?_
            refine SC.ret ?_
            exact SX.ret1 rfl rfl rfl
          · exact absurd rfl g45
        · exact absurd rfl g39
      · exact absurd rfl g33
theorem inflateRaw_spec (w0 : World) (L : List Chunk) (v : Value) (bs : List Nat) (hv : Rd w0 L v 1 bs.length (bytes bs)) (hcp : Cap v) (hl : bs.length ≤ 140737488351232) (hb : ∀ b ∈ bs, b < 256) (m : Int) :
    Meets Try.prog 29 #[v, .int .i64 m] w0 L (fun r L' => r = .bool true) := by
  have hv0 := hv
  obtain ⟨_, b0, o0, A0, c0, rfl, hA0, hr⟩ := hv
  refine Meets.of_body [.slice A0 bs.length c0, .int .i64 m] Try.func29 rfl Try.ntmps29 rfl ?_
  refine SC.seq ?_
  refine SC.plain ?_
  refine St.assign rfl rfl ?_
  refine St.done ?_
  refine SX.seq ?_
  refine SC.seq ?_
  refine SC.seq ?_
  refine SC.plain ?_
  refine St.move rfl rfl ?_
  refine St.gtr rfl rfl rfl ?_
  refine St.move rfl rfl ?_
  refine St.split 11 rfl (fun g11 => ?_) (fun g11 => ?_)
  · refine St.guard_no rfl rfl rfl ?_
    refine St.guard_no rfl rfl rfl ?_
    refine St.guard_no rfl rfl rfl ?_
    refine St.pick_true rfl rfl rfl ?_
    refine St.done ?_
    refine SX.seq ?_
    refine SC.cond_true rfl ?_
    refine SC.seq ?_
    refine SC.plain ?_
    refine St.call [] rfl (by kernel_rfl) rfl (awake6_spec w0 _) (fun _ _ _ _ h => h.nil) ?_
    rintro ra La rfl
    refine St.assign rfl rfl ?_
    refine St.done ?_
    refine SX.seq ?_
    refine SC.ret ?_
    refine SX.seq_ret ?_
    exact SX.ret1 rfl rfl rfl
  · refine St.guard_yes rfl rfl ?_
    refine St.move rfl rfl ?_
    refine St.guard_yes rfl rfl ?_
    refine St.lenSl rfl rfl (by kernel_rfl) ?_
    refine St.guard_yes rfl rfl ?_
    refine St.gtr rfl rfl rfl ?_
    refine St.pick_false rfl rfl rfl ?_
    refine St.done ?_
    refine SX.seq ?_
    refine SC.condp rfl (fun c15 => ?_) (fun c15 => ?_)
    · refine SC.seq ?_
      refine SC.plain ?_
      refine St.call [] rfl (by kernel_rfl) rfl (awake6_spec w0 _) (fun _ _ _ _ h => h.nil) ?_
      rintro ra La rfl
      refine St.assign rfl rfl ?_
      refine St.done ?_
      refine SX.seq ?_
      refine SC.ret ?_
      refine SX.seq_ret ?_
      exact SX.ret1 rfl rfl rfl
    · refine SC.skip ?_
      refine SX.seq ?_
      refine SC.seq ?_
      have hl5 : bs.length ≤ 5000 := by omega
      have hm5 : m ≤ 100000 := by omega
      refine SC.plain ?_
      refine St.move rfl rfl ?_
      refine St.move rfl rfl ?_
      refine St.call [_, _] rfl (by kernel_rfl) rfl (iraw_spec w0 _ _ bs hv0 hl hb m (by omega) 50000 (by omega)) (fun _ _ _ _ h => h.nil) ?_
      rintro r1 L1 ⟨⟨v1, E1, rfl, hb1, rfl⟩, -⟩
      obtain ⟨s, hs⟩ : ∃ s, s = rawRes (rawR 50000 50000 bs m.toNat 0 []) := ⟨_, rfl⟩
      rw [← hs] at hb1 ⊢
      obtain ⟨b1, o1, A1, c1, rfl, _, _⟩ := hb1.read
      refine St.move rfl rfl ?_
      refine St.extract rfl rfl rfl ?_
      refine St.extract rfl rfl rfl ?_
      refine St.extract rfl rfl rfl ?_
      refine St.assign rfl rfl ?_
      refine St.assign rfl rfl ?_
      refine St.assign rfl rfl ?_
      refine St.done ?_
      refine SX.seq ?_
      refine SC.seq ?_
      refine SC.plain ?_
      refine St.move rfl rfl ?_
      refine St.move rfl rfl ?_
      refine St.call [_, _] rfl (by kernel_rfl) rfl (wraw_spec w0 _ _ bs hv0.cons hcp hl hb m (by omega) 50000 (by omega)) (fun _ _ _ _ h => h.nil) ?_
      rintro r2 L2 ⟨⟨v2, E2, rfl, hb2, rfl⟩, -⟩
      unfold gotCells
      rw [← hs] at hb2 ⊢
      obtain ⟨b2, o2, A2, c2, rfl, _, _⟩ := hb2.read
      refine St.alloc [.slice none 0 0, .int .i64 0, .int .i64 0] rfl (by kernel_rfl) (fun _ _ h => h.nil) (fun b8 => ?_)
      refine St.storeN rfl rfl rfl [.slice A2 s.1.length c2, .int .i64 ((s.2.1 : Nat) : Int), .int .i64 s.2.2] rfl (by kernel_rfl) (by simp [one]) (by simp) (fun _ h => h.nil) ?_
      rw [show splice [.slice none 0 0, .int .i64 0, .int .i64 0] 0 [.slice A2 s.1.length c2, .int .i64 ((s.2.1 : Nat) : Int), .int .i64 s.2.2] = [.slice A2 s.1.length c2, .int .i64 ((s.2.1 : Nat) : Int), .int .i64 s.2.2] from rfl]
      refine St.done ?_
      refine SX.seq ?_
      refine SC.seq ?_
      refine SC.plain ?_
      refine St.move rfl rfl ?_
      refine St.toStr (e := 5) (bs := s.1) (n := s.1.length) rfl rfl (hb1.rd (by simp [Lq])) (by kernel_rfl) (by kernel_rfl) (by kernel_rfl) ?_
      refine St.fieldAddr (off := 0) rfl rfl (by kernel_rfl) ?_
      refine St.load rfl rfl (by kernel_rfl) (by first | exact Holds.row mem0 rfl | exact Holds.row mem1 rfl | exact Holds.row mem2 rfl | exact Holds.row mem3 rfl | exact Holds.row mem4 rfl | exact Holds.row mem5 rfl | exact Holds.row mem6 rfl | exact Holds.row mem7 rfl | exact Holds.row mem8 rfl) ?_
      refine St.toStr (e := 5) (bs := s.1) (n := s.1.length) rfl rfl (hb2.rd (by simp [Lq])) (by kernel_rfl) (by kernel_rfl) (by kernel_rfl) ?_
      refine St.strEql rfl rfl rfl ?_
      refine St.move rfl rfl ?_
      refine St.split 33 rfl (fun g33 => ?_) (fun g33 => ?_)
      · refine St.guard_yes rfl rfl ?_
        refine St.move rfl rfl ?_
        refine St.guard_yes rfl rfl ?_
        refine St.fieldAddr (off := 1) rfl rfl (by kernel_rfl) ?_
        refine St.guard_yes rfl rfl ?_
        refine St.load rfl rfl (by kernel_rfl) (by first | exact Holds.row mem0 rfl | exact Holds.row mem1 rfl | exact Holds.row mem2 rfl | exact Holds.row mem3 rfl | exact Holds.row mem4 rfl | exact Holds.row mem5 rfl | exact Holds.row mem6 rfl | exact Holds.row mem7 rfl | exact Holds.row mem8 rfl) ?_
        refine St.guard_yes rfl rfl ?_
        refine St.eql rfl rfl rfl ?_
        refine St.pick_true rfl rfl rfl ?_
        refine St.move rfl rfl ?_
        refine St.split 39 rfl (fun g39 => ?_) (fun g39 => ?_)
        · refine St.guard_yes rfl rfl ?_
          refine St.move rfl rfl ?_
          refine St.guard_yes rfl rfl ?_
          refine St.fieldAddr (off := 2) rfl rfl (by kernel_rfl) ?_
          refine St.guard_yes rfl rfl ?_
          refine St.load rfl rfl (by kernel_rfl) (by first | exact Holds.row mem0 rfl | exact Holds.row mem1 rfl | exact Holds.row mem2 rfl | exact Holds.row mem3 rfl | exact Holds.row mem4 rfl | exact Holds.row mem5 rfl | exact Holds.row mem6 rfl | exact Holds.row mem7 rfl | exact Holds.row mem8 rfl) ?_
          refine St.guard_yes rfl rfl ?_
          refine St.eql rfl rfl rfl ?_
          refine St.pick_true rfl rfl rfl ?_
          refine St.move rfl rfl ?_
          refine St.split 45 rfl (fun g45 => ?_) (fun g45 => ?_)
          · refine St.guard_yes rfl rfl ?_
            refine St.call [] rfl (by kernel_rfl) rfl (awake6_spec w0 _) (fun _ _ _ _ h => h.nil) ?_
            rintro ra La rfl
            refine St.pick_true rfl rfl rfl ?_
            refine St.assign rfl rfl ?_
            refine St.done ?_
            refine SX.seq ?_
            refine SC.ret ?_
            exact SX.ret1 rfl rfl rfl
          · exact absurd rfl g45
        · exact absurd rfl g39
      · exact absurd rfl g33
end Go.Proofs.Ytahafepgmkiabaa
