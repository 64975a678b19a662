/- The walk of the law InflateBound. -/
import Derived.Test.YtahafepgmkiabaaJ6
set_option linter.unusedVariables false
set_option linter.unusedSimpArgs false
set_option linter.ambiguousOpen false
namespace Go.Proofs.Ytahafepgmkiabaa
open Go Go.Proofs.Ytahafepgmkiabaa.Sep Go.Proofs.Ytahafepgmkiabaa.Inf

theorem and16 (m : Int) : ∃ n : Nat, n ≤ 65535 ∧ bits .and .i64 m 65535 = (n : Int) := by
  refine ⟨(BitVec.ofInt 64 m &&& BitVec.ofInt 64 65535).toNat, ?_, ?_⟩
  · rw [BitVec.toNat_and]
    exact Nat.le_trans Nat.and_le_right (by decide)
  · have h : (BitVec.ofInt 64 m &&& BitVec.ofInt 64 65535).toNat ≤ 65535 := by
      rw [BitVec.toNat_and]
      exact Nat.le_trans Nat.and_le_right (by decide)
    show IntKind.i64.wrap (((BitVec.ofInt 64 m &&& BitVec.ofInt 64 65535).toNat : Nat) : Int) = _
    exact wrap_i64_nat _ (by omega)
/-- The bounds' law, of readers. -/
structure Bounds (F : Nat) (bs : List Nat) (most t : Nat) (o : List Nat) : Prop where
  same : rawR F F bs o.length 0 [] = .ok () t o
  less : 0 < o.length → rawR F F bs (o.length - 1) 0 [] = .bad 5
  torn : 0 < (t + 7) / 8 → rawR F F (bs.take ((t + 7) / 8 - 1)) most 0 [] = .bad 4
  more : rawR F F (bs.take ((t + 7) / 8) ++ [7, 7, 7]) most 0 [] = .ok () t o
theorem take_at (bs : List Nat) (n k : Nat) (h : k < n) : (bs.take n).getD k 0 = bs.getD k 0 := by
  simp only [List.getD_eq_getElem?_getD, List.getElem?_take_of_lt h]
theorem bounds_of {F : Nat} {bs : List Nat} {most t : Nat} {o : List Nat} (h : rawR F F bs most 0 [] = .ok () t o) : Bounds F bs most t o := by
  have hg := good_raw F F
  have hm := hg.mono h (Nat.zero_le _)
  refine ⟨hg.more _ h (Nat.zero_le _) (Nat.le_refl _), fun h0 => hg.less _ h (Nat.zero_le _) (Nat.zero_le _) (by omega), fun h0 => ?_, ?_⟩
  · have hl : (bs.take ((t + 7) / 8 - 1)).length = (t + 7) / 8 - 1 := by rw [List.length_take]; omega
    refine hg.trunc _ h (Nat.zero_le _) (Nat.zero_le _) (by omega) (fun k hk => take_at _ _ _ (by omega))
  · have hl : (bs.take ((t + 7) / 8)).length = (t + 7) / 8 := by rw [List.length_take]; omega
    refine hg.ext _ h (Nat.zero_le _) (by rw [List.length_append, hl]; show t ≤ 8 * (_ + 3); omega) (fun k hk => ?_)
    rw [List.getD_eq_getElem?_getD, List.getElem?_append_left (by omega), ← List.getD_eq_getElem?_getD]
    exact take_at _ _ _ (by omega)

theorem inflateBound_spec (w0 : World) (L : List Chunk) (v : Value) (bs : List Nat) (hv : Rd w0 L v 1 bs.length (bytes bs)) (hcp : Cap v) (hl : bs.length ≤ 140737488351232) (hb : ∀ b ∈ bs, b < 256) (m : Int) :
    Meets Try.prog 12 #[v, .int .i64 m] w0 L (fun r L' => r = .bool true) := by
  have hv0 := hv
  obtain ⟨_, b0, o0, A0, c0, rfl, hA0, hr⟩ := hv
  refine Meets.of_body [.slice A0 bs.length c0, .int .i64 m] Try.func12 rfl Try.ntmps12 rfl ?_
  refine SC.seq ?_
  refine SC.plain ?_
  refine St.assign rfl rfl ?_
  refine St.done ?_
  refine SX.seq ?_
  refine SC.seq ?_
  refine SC.seq ?_
  refine SC.plain ?_
  refine St.move rfl rfl ?_
  refine St.lenSl rfl rfl (by kernel_rfl) ?_
  refine St.gtr rfl rfl rfl ?_
  refine St.done ?_
  refine SX.seq ?_
  refine SC.condp rfl (fun c22 => ?_) (fun c22 => ?_)
  · refine SC.seq ?_
    refine SC.plain ?_
    refine St.call [] rfl (by kernel_rfl) rfl (awake6_spec w0 _) (fun _ _ _ _ h => h.nil) ?_
    rintro ra La rfl
    refine St.assign rfl rfl ?_
    refine St.done ?_
    refine SX.seq ?_
    refine SC.ret ?_
    refine SX.seq_ret ?_
    exact SX.ret1 rfl rfl rfl
  · have hl5 : bs.length ≤ 5000 := by omega
    obtain ⟨mo, hmo, hme⟩ := and16 m
    refine SC.skip ?_
    refine SX.seq ?_
    refine SC.seq ?_
    refine SC.plain ?_
    refine St.move rfl rfl ?_
    refine St.andI rfl rfl rfl ?_
    rw [hme]
    refine St.assign rfl rfl ?_
    refine St.done ?_
    refine SX.seq ?_
    refine SC.seq ?_
    refine SC.plain ?_
    refine St.move rfl rfl ?_
    refine St.move rfl rfl ?_
    refine St.call [_, _] rfl (by kernel_rfl) rfl (iraw_spec w0 _ _ bs hv0 hl hb ((mo : Nat) : Int) (by omega) 50000 (by first | omega | (rw [List.length_take]; omega) | (rw [List.length_append, List.length_take]; show 8 * (_ + 3) < _; omega))) (fun _ _ _ _ h => h.nil) ?_
    rintro r1 L1 ⟨⟨v1, E1, rfl, hb1, rfl⟩, hok1⟩
    rw [Int.toNat_natCast] at hb1 hok1 ⊢
    rcases hg : rawR 50000 50000 bs mo 0 [] with ⟨u, t, o⟩ | e
    · rw [hg] at hb1 hok1
      obtain ⟨hol, htl, hob⟩ := hok1.ok _ _ _ rfl
      have hB := bounds_of hg
      simp only [rawRes] at hb1 ⊢
      have hb1r := hb1.read
      obtain ⟨b1, o1, A1, c1, rfl, _, _⟩ := hb1r
      refine St.move rfl rfl ?_
      refine St.extract rfl rfl rfl ?_
      refine St.extract rfl rfl rfl ?_
      refine St.extract rfl rfl rfl ?_
      refine St.assign rfl rfl ?_
      refine St.assign rfl rfl ?_
      refine St.assign rfl rfl ?_
      refine St.done ?_
      refine SX.seq ?_
      refine SC.seq ?_
      refine SC.seq ?_
      refine SC.plain ?_
      refine St.move rfl rfl ?_
      refine St.lenSl rfl rfl (by kernel_rfl) ?_
      refine St.move rfl rfl ?_
      refine St.gtr rfl rfl rfl ?_
      refine St.move rfl rfl ?_
      refine St.split 37 rfl (fun g37 => ?_) (fun g37 => ?_)
      · exfalso; omega
      · refine St.guard_yes rfl rfl ?_
        refine St.move rfl rfl ?_
        refine St.guard_yes rfl rfl ?_
        refine St.move rfl rfl ?_
        refine St.guard_yes rfl rfl ?_
        refine St.lenSl rfl rfl (by kernel_rfl) ?_
        refine St.guard_yes rfl rfl ?_
        refine St.gtr rfl rfl rfl ?_
        refine St.pick_false rfl rfl rfl ?_
        refine St.move rfl rfl ?_
        refine St.split 43 rfl (fun g43 => ?_) (fun g43 => ?_)
        · exfalso; omega
        · refine St.guard_yes rfl rfl ?_
          refine St.move rfl rfl ?_
          refine St.guard_yes rfl rfl ?_
          refine St.neq rfl rfl rfl ?_
          refine St.guard_yes rfl rfl ?_
          refine St.move rfl rfl ?_
          refine St.split 46 rfl (fun g46 => ?_) (fun g46 => ?_)
          · exfalso; omega
          · refine St.guard_no rfl rfl rfl ?_
            refine St.guard_no rfl rfl rfl ?_
            refine St.guard_no rfl rfl rfl ?_
            refine St.guard_no rfl rfl rfl ?_
            refine St.guard_no rfl rfl rfl ?_
            refine St.guard_yes rfl rfl ?_
            refine St.pick_false rfl rfl rfl ?_
            refine St.pick_false rfl rfl rfl ?_
            refine St.done ?_
            refine SX.seq ?_
            refine SC.cond_false rfl ?_
            refine SC.skip ?_
            refine SX.seq ?_
            refine SC.seq ?_
            refine SC.seq ?_
            refine SC.plain ?_
            refine St.move rfl rfl ?_
            refine St.neq rfl rfl rfl ?_
            refine St.done ?_
            refine SX.seq ?_
            refine SC.condp rfl (fun c55 => ?_) (fun c55 => ?_)
            · exfalso; omega
            · refine SC.skip ?_
              refine SX.seq ?_
              refine SC.seq ?_
              refine SC.plain ?_
              refine St.move rfl rfl ?_
              refine St.move rfl rfl ?_
              refine St.lenSl rfl rfl (by kernel_rfl) ?_
              refine St.call [_, _] rfl (by kernel_rfl) rfl (iraw_spec w0 _ _ bs (Rd.mono hv0 (fun w hw => by first | exact hw | exact hw.drop | exact hw.drop.drop | exact hw.drop.drop.drop | exact hw.drop.drop.drop.drop | exact hw.drop.drop.drop.drop.drop | exact hw.drop.drop.drop.drop.drop.drop | exact hw.drop.drop.drop.drop.drop.drop.drop | exact hw.drop.drop.drop.drop.drop.drop.drop.drop | exact hw.drop.drop.drop.drop.drop.drop.drop.drop.drop | exact hw.drop.drop.drop.drop.drop.drop.drop.drop.drop.drop | exact hw.drop.drop.drop.drop.drop.drop.drop.drop.drop.drop.drop | exact hw.drop.drop.drop.drop.drop.drop.drop.drop.drop.drop.drop.drop | exact hw.drop.drop.drop.drop.drop.drop.drop.drop.drop.drop.drop.drop.drop)) hl hb ((o.length : Nat) : Int) (by omega) 50000 (by first | omega | (rw [List.length_take]; omega) | (rw [List.length_append, List.length_take]; show 8 * (_ + 3) < _; omega))) (fun _ _ _ _ h => h.nil) ?_
              rintro r2 L2 ⟨⟨v2, E2, rfl, hb2, rfl⟩, -⟩
              rw [Int.toNat_natCast, hB.same] at hb2 ⊢
              simp only [rawRes] at hb2 ⊢
              have hb2r := hb2.read
              obtain ⟨b2, o2, A2, c2, rfl, _, _⟩ := hb2r
              refine St.move rfl rfl ?_
              refine St.extract rfl rfl rfl ?_
              refine St.extract rfl rfl rfl ?_
              refine St.extract rfl rfl rfl ?_
              refine St.assign rfl rfl ?_
              refine St.assign rfl rfl ?_
              refine St.assign rfl rfl ?_
              refine St.done ?_
              refine SX.seq ?_
              refine SC.seq ?_
              refine SC.seq ?_
              refine SC.plain ?_
              refine St.move rfl rfl ?_
              refine St.toStr (e := 5) (bs := o) (n := o.length) rfl rfl (hb2.rd (by simp [Lq])) (by kernel_rfl) (by kernel_rfl) (by kernel_rfl) ?_
              refine St.move rfl rfl ?_
              refine St.toStr (e := 5) (bs := o) (n := o.length) rfl rfl (hb1.rd (by simp [Lq])) (by kernel_rfl) (by kernel_rfl) (by kernel_rfl) ?_
              refine St.strNeq rfl rfl rfl ?_
              refine St.move rfl rfl ?_
              refine St.split 70 rfl (fun g70 => ?_) (fun g70 => ?_)
              · exact absurd rfl g70
              · refine St.guard_yes rfl rfl ?_
                refine St.move rfl rfl ?_
                refine St.guard_yes rfl rfl ?_
                refine St.move rfl rfl ?_
                refine St.guard_yes rfl rfl ?_
                refine St.neq rfl rfl rfl ?_
                refine St.pick_false rfl rfl rfl ?_
                refine St.move rfl rfl ?_
                refine St.split 75 rfl (fun g75 => ?_) (fun g75 => ?_)
                · exact absurd rfl g75
                · refine St.guard_yes rfl rfl ?_
                  refine St.move rfl rfl ?_
                  refine St.guard_yes rfl rfl ?_
                  refine St.neq rfl rfl rfl ?_
                  refine St.pick_false rfl rfl rfl ?_
                  refine St.done ?_
                  refine SX.seq ?_
                  refine SC.condp rfl (fun c78 => ?_) (fun c78 => ?_)
                  · exact absurd rfl c78
                  · refine SC.skip ?_
                    refine SX.seq ?_
                    refine SC.seq ?_
                    refine SC.seq ?_
                    refine SC.plain ?_
                    refine St.move rfl rfl ?_
                    refine St.lenSl rfl rfl (by kernel_rfl) ?_
                    refine St.gtr rfl rfl rfl ?_
                    refine St.done ?_
                    refine SX.seq ?_
                    refine SC.condp rfl (fun c81 => ?_) (fun c81 => ?_)
                    · refine SC.seq ?_
                      refine SC.plain ?_
                      refine St.move rfl rfl ?_
                      refine St.move rfl rfl ?_
                      refine St.lenSl rfl rfl (by kernel_rfl) ?_
                      first | refine St.subN (b := 1) rfl rfl rfl (by omega) (by omega) ?_ | refine St.subI rfl rfl rfl (by omega) ?_
                      refine St.call [_, _] rfl (by kernel_rfl) rfl (iraw_spec w0 _ _ bs (Rd.mono hv0 (fun w hw => by first | exact hw | exact hw.drop | exact hw.drop.drop | exact hw.drop.drop.drop | exact hw.drop.drop.drop.drop | exact hw.drop.drop.drop.drop.drop | exact hw.drop.drop.drop.drop.drop.drop | exact hw.drop.drop.drop.drop.drop.drop.drop | exact hw.drop.drop.drop.drop.drop.drop.drop.drop | exact hw.drop.drop.drop.drop.drop.drop.drop.drop.drop | exact hw.drop.drop.drop.drop.drop.drop.drop.drop.drop.drop | exact hw.drop.drop.drop.drop.drop.drop.drop.drop.drop.drop.drop | exact hw.drop.drop.drop.drop.drop.drop.drop.drop.drop.drop.drop.drop | exact hw.drop.drop.drop.drop.drop.drop.drop.drop.drop.drop.drop.drop.drop)) hl hb ((o.length - 1 : Nat) : Int) (by omega) 50000 (by first | omega | (rw [List.length_take]; omega) | (rw [List.length_append, List.length_take]; show 8 * (_ + 3) < _; omega))) (fun _ _ _ _ h => h.nil) ?_
                      rintro r3 L3 ⟨⟨v3, E3, rfl, hb3, rfl⟩, -⟩
                      rw [Int.toNat_natCast, hB.less (by omega)] at hb3 ⊢
                      simp only [rawRes] at hb3 ⊢
                      refine St.move rfl rfl ?_
                      refine St.extract rfl rfl rfl ?_
                      refine St.extract rfl rfl rfl ?_
                      refine St.extract rfl rfl rfl ?_
                      refine St.assign rfl rfl ?_
                      refine St.assign rfl rfl ?_
                      refine St.assign rfl rfl ?_
                      refine St.done ?_
                      refine SX.seq ?_
                      refine SC.seq ?_
                      refine SC.plain ?_
                      refine St.move rfl rfl ?_
                      refine St.neq rfl rfl rfl ?_
                      refine St.done ?_
                      refine SX.seq ?_
                      refine SC.condp rfl (fun c92 => ?_) (fun c92 => ?_)
                      · exact absurd rfl c92
                      · refine SC.skip ?_
                        refine SX.seq ?_
                        refine SC.seq ?_
                        refine SC.seq ?_
                        refine SC.plain ?_
                        refine St.move rfl rfl ?_
                        refine St.gtr rfl rfl rfl ?_
                        refine St.done ?_
                        refine SX.seq ?_
                        refine SC.condp rfl (fun c94 => ?_) (fun c94 => ?_)
                        · refine SC.seq ?_
                          refine SC.plain ?_
                          refine St.move rfl rfl ?_
                          refine St.move rfl rfl ?_
                          first | refine St.subN (b := 1) rfl rfl rfl (by omega) (by omega) ?_ | refine St.subI rfl rfl rfl (by omega) ?_
                          refine St.cutB (e := 5) 0 ((t + 7) / 8 - 1) rfl rfl (by kernel_rfl) hv0 hcp rfl ⟨_, _, rfl, rfl⟩ (by omega) (by omega) (fun v4 h4 _ => ?_)
                          rw [List.drop_zero, Nat.sub_zero] at h4
                          refine St.move rfl rfl ?_
                          refine St.call [_, _] rfl (by kernel_rfl) rfl (iraw_spec w0 _ v4 (bs.take ((t + 7) / 8 - 1)) (Rd.mono h4 (fun w hw => by first | exact hw | exact hw.drop | exact hw.drop.drop | exact hw.drop.drop.drop | exact hw.drop.drop.drop.drop | exact hw.drop.drop.drop.drop.drop | exact hw.drop.drop.drop.drop.drop.drop | exact hw.drop.drop.drop.drop.drop.drop.drop | exact hw.drop.drop.drop.drop.drop.drop.drop.drop | exact hw.drop.drop.drop.drop.drop.drop.drop.drop.drop | exact hw.drop.drop.drop.drop.drop.drop.drop.drop.drop.drop | exact hw.drop.drop.drop.drop.drop.drop.drop.drop.drop.drop.drop | exact hw.drop.drop.drop.drop.drop.drop.drop.drop.drop.drop.drop.drop | exact hw.drop.drop.drop.drop.drop.drop.drop.drop.drop.drop.drop.drop.drop)) (by rw [List.length_take]; omega) (fun b h => hb b (List.mem_of_mem_take h)) ((mo : Nat) : Int) (by omega) 50000 (by first | omega | (rw [List.length_take]; omega) | (rw [List.length_append, List.length_take]; show 8 * (_ + 3) < _; omega))) (fun _ _ _ _ h => h.nil) ?_
                          rintro r4 L4 ⟨⟨v5, E5, rfl, hb5, rfl⟩, -⟩
                          rw [Int.toNat_natCast, hB.torn (by omega)] at hb5 ⊢
                          simp only [rawRes] at hb5 ⊢
                          refine St.move rfl rfl ?_
                          refine St.extract rfl rfl rfl ?_
                          refine St.extract rfl rfl rfl ?_
                          refine St.extract rfl rfl rfl ?_
                          refine St.assign rfl rfl ?_
                          refine St.assign rfl rfl ?_
                          refine St.assign rfl rfl ?_
                          refine St.done ?_
                          refine SX.seq ?_
                          refine SC.seq ?_
                          refine SC.plain ?_
                          refine St.move rfl rfl ?_
                          refine St.neq rfl rfl rfl ?_
                          refine St.done ?_
                          refine SX.seq ?_
                          refine SC.condp rfl (fun c106 => ?_) (fun c106 => ?_)
                          · exact absurd rfl c106
                          · refine SC.skip ?_
                            refine SX.seq ?_
                            refine SC.seq ?_
                            refine SC.plain ?_
                            refine St.buildSl0 (e := 5) (sz := 1) rfl (by kernel_rfl) (fun _ _ h => h.nil) (fun b8 => ?_)
                            refine St.move rfl rfl ?_
                            refine St.move rfl rfl ?_
                            refine St.cutB (e := 5) 0 ((t + 7) / 8) rfl rfl (by kernel_rfl) hv0 hcp rfl ⟨_, _, rfl, rfl⟩ (by omega) (by omega) (fun v6 h6 _ => ?_)
                            rw [List.drop_zero, Nat.sub_zero] at h6
                            have htk : (bs.take ((t + 7) / 8)).length = (t + 7) / 8 := by rw [List.length_take]; omega
                            have hml := hB.more
                            refine St.append (e := 5) (sz := 1) (bytes := 1) (xs := []) (n := 0) (news := bytes (bs.take ((t + 7) / 8))) (m := (t + 7) / 8) rfl rfl rfl (by kernel_rfl) (Buf.whole rfl) (Rd.mono (by rw [htk] at h6; exact h6 : Rd w0 L v6 1 ((t + 7) / 8) _) (fun w hw => by first | exact hw | exact hw.drop | exact hw.drop.drop | exact hw.drop.drop.drop | exact hw.drop.drop.drop.drop | exact hw.drop.drop.drop.drop.drop | exact hw.drop.drop.drop.drop.drop.drop | exact hw.drop.drop.drop.drop.drop.drop.drop | exact hw.drop.drop.drop.drop.drop.drop.drop.drop | exact hw.drop.drop.drop.drop.drop.drop.drop.drop.drop | exact hw.drop.drop.drop.drop.drop.drop.drop.drop.drop.drop | exact hw.drop.drop.drop.drop.drop.drop.drop.drop.drop.drop.drop | exact hw.drop.drop.drop.drop.drop.drop.drop.drop.drop.drop.drop.drop | exact hw.drop.drop.drop.drop.drop.drop.drop.drop.drop.drop.drop.drop.drop)) (bytes_one _) (by omega) (by omega) (fun _ _ h => h.nil) (fun v7 E7 hb7 _ => ?_)
                            rw [List.nil_append, Nat.zero_add] at hb7
                            refine St.buildSl (n := 3) (e := 5) [(0, .int .u8 7), (1, .int .u8 7), (2, .int .u8 7)] (bytes [7, 7, 7]) rfl rfl (by kernel_rfl) (fun _ _ h => h.nil) (fun b9 => ?_)
                            refine St.append1 (e := 5) (sz := 1) (bytes := 1) (xs := bytes (bs.take ((t + 7) / 8))) (n := (t + 7) / 8) (news := bytes [7, 7, 7]) (m := 3) rfl rfl rfl (by kernel_rfl) hb7 (Rd.row rfl mem0) (bytes_one _) (by omega) (by omega) (fun _ _ h => h.nil) (fun v8 E8 hb8 _ => ?_)
                            rw [← bytes_app] at hb8
                            have hlb : (bs.take ((t + 7) / 8) ++ [7, 7, 7]).length = (t + 7) / 8 + 3 := by rw [List.length_append, htk]; rfl
                            refine St.move rfl rfl ?_
                            refine St.call [_, _] rfl (by kernel_rfl) rfl (iraw_spec w0 _ v8 (bs.take ((t + 7) / 8) ++ [7, 7, 7]) (by rw [hlb]; exact hb8.rd (by simp)) (by rw [hlb]; omega) (fun b h => by rcases List.mem_append.1 h with h | h; exact hb b (List.mem_of_mem_take h); simp at h; omega) ((mo : Nat) : Int) (by omega) 50000 (by first | omega | (rw [List.length_take]; omega) | (rw [List.length_append, List.length_take]; show 8 * (_ + 3) < _; omega))) (fun _ _ _ _ h => h.nil) ?_
                            rintro r6 L6 ⟨⟨v9, E9, rfl, hb9, rfl⟩, -⟩
                            rw [Int.toNat_natCast, hB.more] at hb9 ⊢
                            simp only [rawRes] at hb9 ⊢
                            refine St.move rfl rfl ?_
                            refine St.extract rfl rfl rfl ?_
                            refine St.extract rfl rfl rfl ?_
                            refine St.extract rfl rfl rfl ?_
                            refine St.assign rfl rfl ?_
                            refine St.assign rfl rfl ?_
                            refine St.assign rfl rfl ?_
                            refine St.done ?_
                            refine SX.seq ?_
                            refine SC.seq ?_
                            refine SC.plain ?_
                            refine St.move rfl rfl ?_
                            refine St.toStr (e := 5) (bs := o) (n := o.length) rfl rfl (hb9.rd (by simp [Lq])) (by kernel_rfl) (by kernel_rfl) (by kernel_rfl) ?_
                            refine St.move rfl rfl ?_
                            refine St.toStr (e := 5) (bs := o) (n := o.length) rfl rfl (hb1.rd (by simp [Lq])) (by kernel_rfl) (by kernel_rfl) (by kernel_rfl) ?_
                            refine St.strEql rfl rfl rfl ?_
                            refine St.move rfl rfl ?_
                            refine St.split 125 rfl (fun g125 => ?_) (fun g125 => ?_)
                            · refine St.guard_yes rfl rfl ?_
                              refine St.move rfl rfl ?_
                              refine St.guard_yes rfl rfl ?_
                              refine St.move rfl rfl ?_
                              refine St.guard_yes rfl rfl ?_
                              refine St.eql rfl rfl rfl ?_
                              refine St.pick_true rfl rfl rfl ?_
                              refine St.move rfl rfl ?_
                              refine St.split 130 rfl (fun g130 => ?_) (fun g130 => ?_)
                              · refine St.guard_yes rfl rfl ?_
                                refine St.move rfl rfl ?_
                                refine St.guard_yes rfl rfl ?_
                                refine St.eql rfl rfl rfl ?_
                                refine St.pick_true rfl rfl rfl ?_
                                refine St.move rfl rfl ?_
                                refine St.split 134 rfl (fun g134 => ?_) (fun g134 => ?_)
                                · refine St.guard_yes rfl rfl ?_
                                  refine St.call [] rfl (by kernel_rfl) rfl (awake6_spec w0 _) (fun _ _ _ _ h => h.nil) ?_
                                  rintro ra La rfl
                                  refine St.pick_true rfl rfl rfl ?_
                                  refine St.assign rfl rfl ?_
                                  refine St.done ?_
                                  refine SX.seq ?_
                                  refine SC.ret ?_
                                  exact SX.ret1 rfl rfl rfl
                                · exact absurd rfl g134
                              · exact absurd rfl g130
                            · exact absurd rfl g125
                        · refine SC.skip ?_
                          refine SX.seq ?_
                          refine SC.seq ?_
                          refine SC.plain ?_
                          refine St.buildSl0 (e := 5) (sz := 1) rfl (by kernel_rfl) (fun _ _ h => h.nil) (fun b8 => ?_)
                          refine St.move rfl rfl ?_
                          refine St.move rfl rfl ?_
                          refine St.cutB (e := 5) 0 ((t + 7) / 8) rfl rfl (by kernel_rfl) hv0 hcp rfl ⟨_, _, rfl, rfl⟩ (by omega) (by omega) (fun v6 h6 _ => ?_)
                          rw [List.drop_zero, Nat.sub_zero] at h6
                          have htk : (bs.take ((t + 7) / 8)).length = (t + 7) / 8 := by rw [List.length_take]; omega
                          have hml := hB.more
                          refine St.append (e := 5) (sz := 1) (bytes := 1) (xs := []) (n := 0) (news := bytes (bs.take ((t + 7) / 8))) (m := (t + 7) / 8) rfl rfl rfl (by kernel_rfl) (Buf.whole rfl) (Rd.mono (by rw [htk] at h6; exact h6 : Rd w0 L v6 1 ((t + 7) / 8) _) (fun w hw => by first | exact hw | exact hw.drop | exact hw.drop.drop | exact hw.drop.drop.drop | exact hw.drop.drop.drop.drop | exact hw.drop.drop.drop.drop.drop | exact hw.drop.drop.drop.drop.drop.drop | exact hw.drop.drop.drop.drop.drop.drop.drop | exact hw.drop.drop.drop.drop.drop.drop.drop.drop | exact hw.drop.drop.drop.drop.drop.drop.drop.drop.drop | exact hw.drop.drop.drop.drop.drop.drop.drop.drop.drop.drop | exact hw.drop.drop.drop.drop.drop.drop.drop.drop.drop.drop.drop | exact hw.drop.drop.drop.drop.drop.drop.drop.drop.drop.drop.drop.drop | exact hw.drop.drop.drop.drop.drop.drop.drop.drop.drop.drop.drop.drop.drop)) (bytes_one _) (by omega) (by omega) (fun _ _ h => h.nil) (fun v7 E7 hb7 _ => ?_)
                          rw [List.nil_append, Nat.zero_add] at hb7
                          refine St.buildSl (n := 3) (e := 5) [(0, .int .u8 7), (1, .int .u8 7), (2, .int .u8 7)] (bytes [7, 7, 7]) rfl rfl (by kernel_rfl) (fun _ _ h => h.nil) (fun b9 => ?_)
                          refine St.append1 (e := 5) (sz := 1) (bytes := 1) (xs := bytes (bs.take ((t + 7) / 8))) (n := (t + 7) / 8) (news := bytes [7, 7, 7]) (m := 3) rfl rfl rfl (by kernel_rfl) hb7 (Rd.row rfl mem0) (bytes_one _) (by omega) (by omega) (fun _ _ h => h.nil) (fun v8 E8 hb8 _ => ?_)
                          rw [← bytes_app] at hb8
                          have hlb : (bs.take ((t + 7) / 8) ++ [7, 7, 7]).length = (t + 7) / 8 + 3 := by rw [List.length_append, htk]; rfl
                          refine St.move rfl rfl ?_
                          refine St.call [_, _] rfl (by kernel_rfl) rfl (iraw_spec w0 _ v8 (bs.take ((t + 7) / 8) ++ [7, 7, 7]) (by rw [hlb]; exact hb8.rd (by simp)) (by rw [hlb]; omega) (fun b h => by rcases List.mem_append.1 h with h | h; exact hb b (List.mem_of_mem_take h); simp at h; omega) ((mo : Nat) : Int) (by omega) 50000 (by first | omega | (rw [List.length_take]; omega) | (rw [List.length_append, List.length_take]; show 8 * (_ + 3) < _; omega))) (fun _ _ _ _ h => h.nil) ?_
                          rintro r6 L6 ⟨⟨v9, E9, rfl, hb9, rfl⟩, -⟩
                          rw [Int.toNat_natCast, hB.more] at hb9 ⊢
                          simp only [rawRes] at hb9 ⊢
                          refine St.move rfl rfl ?_
                          refine St.extract rfl rfl rfl ?_
                          refine St.extract rfl rfl rfl ?_
                          refine St.extract rfl rfl rfl ?_
                          refine St.assign rfl rfl ?_
                          refine St.assign rfl rfl ?_
                          refine St.assign rfl rfl ?_
                          refine St.done ?_
                          refine SX.seq ?_
                          refine SC.seq ?_
                          refine SC.plain ?_
                          refine St.move rfl rfl ?_
                          refine St.toStr (e := 5) (bs := o) (n := o.length) rfl rfl (hb9.rd (by simp [Lq])) (by kernel_rfl) (by kernel_rfl) (by kernel_rfl) ?_
                          refine St.move rfl rfl ?_
                          refine St.toStr (e := 5) (bs := o) (n := o.length) rfl rfl (hb1.rd (by simp [Lq])) (by kernel_rfl) (by kernel_rfl) (by kernel_rfl) ?_
                          refine St.strEql rfl rfl rfl ?_
                          refine St.move rfl rfl ?_
                          refine St.split 125 rfl (fun g125 => ?_) (fun g125 => ?_)
                          · refine St.guard_yes rfl rfl ?_
                            refine St.move rfl rfl ?_
                            refine St.guard_yes rfl rfl ?_
                            refine St.move rfl rfl ?_
                            refine St.guard_yes rfl rfl ?_
                            refine St.eql rfl rfl rfl ?_
                            refine St.pick_true rfl rfl rfl ?_
                            refine St.move rfl rfl ?_
                            refine St.split 130 rfl (fun g130 => ?_) (fun g130 => ?_)
                            · refine St.guard_yes rfl rfl ?_
                              refine St.move rfl rfl ?_
                              refine St.guard_yes rfl rfl ?_
                              refine St.eql rfl rfl rfl ?_
                              refine St.pick_true rfl rfl rfl ?_
                              refine St.move rfl rfl ?_
                              refine St.split 134 rfl (fun g134 => ?_) (fun g134 => ?_)
                              · refine St.guard_yes rfl rfl ?_
                                refine St.call [] rfl (by kernel_rfl) rfl (awake6_spec w0 _) (fun _ _ _ _ h => h.nil) ?_
                                rintro ra La rfl
                                refine St.pick_true rfl rfl rfl ?_
                                refine St.assign rfl rfl ?_
                                refine St.done ?_
                                refine SX.seq ?_
                                refine SC.ret ?_
                                exact SX.ret1 rfl rfl rfl
                              · exact absurd rfl g134
                            · exact absurd rfl g130
                          · exact absurd rfl g125
                    · refine SC.skip ?_
                      refine SX.seq ?_
                      refine SC.seq ?_
                      refine SC.seq ?_
                      refine SC.plain ?_
                      refine St.move rfl rfl ?_
                      refine St.gtr rfl rfl rfl ?_
                      refine St.done ?_
                      refine SX.seq ?_
                      refine SC.condp rfl (fun c94 => ?_) (fun c94 => ?_)
                      · refine SC.seq ?_
                        refine SC.plain ?_
                        refine St.move rfl rfl ?_
                        refine St.move rfl rfl ?_
                        first | refine St.subN (b := 1) rfl rfl rfl (by omega) (by omega) ?_ | refine St.subI rfl rfl rfl (by omega) ?_
                        refine St.cutB (e := 5) 0 ((t + 7) / 8 - 1) rfl rfl (by kernel_rfl) hv0 hcp rfl ⟨_, _, rfl, rfl⟩ (by omega) (by omega) (fun v4 h4 _ => ?_)
                        rw [List.drop_zero, Nat.sub_zero] at h4
                        refine St.move rfl rfl ?_
                        refine St.call [_, _] rfl (by kernel_rfl) rfl (iraw_spec w0 _ v4 (bs.take ((t + 7) / 8 - 1)) (Rd.mono h4 (fun w hw => by first | exact hw | exact hw.drop | exact hw.drop.drop | exact hw.drop.drop.drop | exact hw.drop.drop.drop.drop | exact hw.drop.drop.drop.drop.drop | exact hw.drop.drop.drop.drop.drop.drop | exact hw.drop.drop.drop.drop.drop.drop.drop | exact hw.drop.drop.drop.drop.drop.drop.drop.drop | exact hw.drop.drop.drop.drop.drop.drop.drop.drop.drop | exact hw.drop.drop.drop.drop.drop.drop.drop.drop.drop.drop | exact hw.drop.drop.drop.drop.drop.drop.drop.drop.drop.drop.drop | exact hw.drop.drop.drop.drop.drop.drop.drop.drop.drop.drop.drop.drop | exact hw.drop.drop.drop.drop.drop.drop.drop.drop.drop.drop.drop.drop.drop)) (by rw [List.length_take]; omega) (fun b h => hb b (List.mem_of_mem_take h)) ((mo : Nat) : Int) (by omega) 50000 (by first | omega | (rw [List.length_take]; omega) | (rw [List.length_append, List.length_take]; show 8 * (_ + 3) < _; omega))) (fun _ _ _ _ h => h.nil) ?_
                        rintro r4 L4 ⟨⟨v5, E5, rfl, hb5, rfl⟩, -⟩
                        rw [Int.toNat_natCast, hB.torn (by omega)] at hb5 ⊢
                        simp only [rawRes] at hb5 ⊢
                        refine St.move rfl rfl ?_
                        refine St.extract rfl rfl rfl ?_
                        refine St.extract rfl rfl rfl ?_
                        refine St.extract rfl rfl rfl ?_
                        refine St.assign rfl rfl ?_
                        refine St.assign rfl rfl ?_
                        refine St.assign rfl rfl ?_
                        refine St.done ?_
                        refine SX.seq ?_
                        refine SC.seq ?_
                        refine SC.plain ?_
                        refine St.move rfl rfl ?_
                        refine St.neq rfl rfl rfl ?_
                        refine St.done ?_
                        refine SX.seq ?_
                        refine SC.condp rfl (fun c106 => ?_) (fun c106 => ?_)
                        · exact absurd rfl c106
                        · refine SC.skip ?_
                          refine SX.seq ?_
                          refine SC.seq ?_
                          refine SC.plain ?_
                          refine St.buildSl0 (e := 5) (sz := 1) rfl (by kernel_rfl) (fun _ _ h => h.nil) (fun b8 => ?_)
                          refine St.move rfl rfl ?_
                          refine St.move rfl rfl ?_
                          refine St.cutB (e := 5) 0 ((t + 7) / 8) rfl rfl (by kernel_rfl) hv0 hcp rfl ⟨_, _, rfl, rfl⟩ (by omega) (by omega) (fun v6 h6 _ => ?_)
                          rw [List.drop_zero, Nat.sub_zero] at h6
                          have htk : (bs.take ((t + 7) / 8)).length = (t + 7) / 8 := by rw [List.length_take]; omega
                          have hml := hB.more
                          refine St.append (e := 5) (sz := 1) (bytes := 1) (xs := []) (n := 0) (news := bytes (bs.take ((t + 7) / 8))) (m := (t + 7) / 8) rfl rfl rfl (by kernel_rfl) (Buf.whole rfl) (Rd.mono (by rw [htk] at h6; exact h6 : Rd w0 L v6 1 ((t + 7) / 8) _) (fun w hw => by first | exact hw | exact hw.drop | exact hw.drop.drop | exact hw.drop.drop.drop | exact hw.drop.drop.drop.drop | exact hw.drop.drop.drop.drop.drop | exact hw.drop.drop.drop.drop.drop.drop | exact hw.drop.drop.drop.drop.drop.drop.drop | exact hw.drop.drop.drop.drop.drop.drop.drop.drop | exact hw.drop.drop.drop.drop.drop.drop.drop.drop.drop | exact hw.drop.drop.drop.drop.drop.drop.drop.drop.drop.drop | exact hw.drop.drop.drop.drop.drop.drop.drop.drop.drop.drop.drop | exact hw.drop.drop.drop.drop.drop.drop.drop.drop.drop.drop.drop.drop | exact hw.drop.drop.drop.drop.drop.drop.drop.drop.drop.drop.drop.drop.drop)) (bytes_one _) (by omega) (by omega) (fun _ _ h => h.nil) (fun v7 E7 hb7 _ => ?_)
                          rw [List.nil_append, Nat.zero_add] at hb7
                          refine St.buildSl (n := 3) (e := 5) [(0, .int .u8 7), (1, .int .u8 7), (2, .int .u8 7)] (bytes [7, 7, 7]) rfl rfl (by kernel_rfl) (fun _ _ h => h.nil) (fun b9 => ?_)
                          refine St.append1 (e := 5) (sz := 1) (bytes := 1) (xs := bytes (bs.take ((t + 7) / 8))) (n := (t + 7) / 8) (news := bytes [7, 7, 7]) (m := 3) rfl rfl rfl (by kernel_rfl) hb7 (Rd.row rfl mem0) (bytes_one _) (by omega) (by omega) (fun _ _ h => h.nil) (fun v8 E8 hb8 _ => ?_)
                          rw [← bytes_app] at hb8
                          have hlb : (bs.take ((t + 7) / 8) ++ [7, 7, 7]).length = (t + 7) / 8 + 3 := by rw [List.length_append, htk]; rfl
                          refine St.move rfl rfl ?_
                          refine St.call [_, _] rfl (by kernel_rfl) rfl (iraw_spec w0 _ v8 (bs.take ((t + 7) / 8) ++ [7, 7, 7]) (by rw [hlb]; exact hb8.rd (by simp)) (by rw [hlb]; omega) (fun b h => by rcases List.mem_append.1 h with h | h; exact hb b (List.mem_of_mem_take h); simp at h; omega) ((mo : Nat) : Int) (by omega) 50000 (by first | omega | (rw [List.length_take]; omega) | (rw [List.length_append, List.length_take]; show 8 * (_ + 3) < _; omega))) (fun _ _ _ _ h => h.nil) ?_
                          rintro r6 L6 ⟨⟨v9, E9, rfl, hb9, rfl⟩, -⟩
                          rw [Int.toNat_natCast, hB.more] at hb9 ⊢
                          simp only [rawRes] at hb9 ⊢
                          refine St.move rfl rfl ?_
                          refine St.extract rfl rfl rfl ?_
                          refine St.extract rfl rfl rfl ?_
                          refine St.extract rfl rfl rfl ?_
                          refine St.assign rfl rfl ?_
                          refine St.assign rfl rfl ?_
                          refine St.assign rfl rfl ?_
                          refine St.done ?_
                          refine SX.seq ?_
                          refine SC.seq ?_
                          refine SC.plain ?_
                          refine St.move rfl rfl ?_
                          refine St.toStr (e := 5) (bs := o) (n := o.length) rfl rfl (hb9.rd (by simp [Lq])) (by kernel_rfl) (by kernel_rfl) (by kernel_rfl) ?_
                          refine St.move rfl rfl ?_
                          refine St.toStr (e := 5) (bs := o) (n := o.length) rfl rfl (hb1.rd (by simp [Lq])) (by kernel_rfl) (by kernel_rfl) (by kernel_rfl) ?_
                          refine St.strEql rfl rfl rfl ?_
                          refine St.move rfl rfl ?_
                          refine St.split 125 rfl (fun g125 => ?_) (fun g125 => ?_)
                          · refine St.guard_yes rfl rfl ?_
                            refine St.move rfl rfl ?_
                            refine St.guard_yes rfl rfl ?_
                            refine St.move rfl rfl ?_
                            refine St.guard_yes rfl rfl ?_
                            refine St.eql rfl rfl rfl ?_
                            refine St.pick_true rfl rfl rfl ?_
                            refine St.move rfl rfl ?_
                            refine St.split 130 rfl (fun g130 => ?_) (fun g130 => ?_)
                            · refine St.guard_yes rfl rfl ?_
                              refine St.move rfl rfl ?_
                              refine St.guard_yes rfl rfl ?_
                              refine St.eql rfl rfl rfl ?_
                              refine St.pick_true rfl rfl rfl ?_
                              refine St.move rfl rfl ?_
                              refine St.split 134 rfl (fun g134 => ?_) (fun g134 => ?_)
                              · refine St.guard_yes rfl rfl ?_
                                refine St.call [] rfl (by kernel_rfl) rfl (awake6_spec w0 _) (fun _ _ _ _ h => h.nil) ?_
                                rintro ra La rfl
                                refine St.pick_true rfl rfl rfl ?_
                                refine St.assign rfl rfl ?_
                                refine St.done ?_
                                refine SX.seq ?_
                                refine SC.ret ?_
                                exact SX.ret1 rfl rfl rfl
                              · exact absurd rfl g134
                            · exact absurd rfl g130
                          · exact absurd rfl g125
                      · refine SC.skip ?_
                        refine SX.seq ?_
                        refine SC.seq ?_
                        refine SC.plain ?_
                        refine St.buildSl0 (e := 5) (sz := 1) rfl (by kernel_rfl) (fun _ _ h => h.nil) (fun b8 => ?_)
                        refine St.move rfl rfl ?_
                        refine St.move rfl rfl ?_
                        refine St.cutB (e := 5) 0 ((t + 7) / 8) rfl rfl (by kernel_rfl) hv0 hcp rfl ⟨_, _, rfl, rfl⟩ (by omega) (by omega) (fun v6 h6 _ => ?_)
                        rw [List.drop_zero, Nat.sub_zero] at h6
                        have htk : (bs.take ((t + 7) / 8)).length = (t + 7) / 8 := by rw [List.length_take]; omega
                        have hml := hB.more
                        refine St.append (e := 5) (sz := 1) (bytes := 1) (xs := []) (n := 0) (news := bytes (bs.take ((t + 7) / 8))) (m := (t + 7) / 8) rfl rfl rfl (by kernel_rfl) (Buf.whole rfl) (Rd.mono (by rw [htk] at h6; exact h6 : Rd w0 L v6 1 ((t + 7) / 8) _) (fun w hw => by first | exact hw | exact hw.drop | exact hw.drop.drop | exact hw.drop.drop.drop | exact hw.drop.drop.drop.drop | exact hw.drop.drop.drop.drop.drop | exact hw.drop.drop.drop.drop.drop.drop | exact hw.drop.drop.drop.drop.drop.drop.drop | exact hw.drop.drop.drop.drop.drop.drop.drop.drop | exact hw.drop.drop.drop.drop.drop.drop.drop.drop.drop | exact hw.drop.drop.drop.drop.drop.drop.drop.drop.drop.drop | exact hw.drop.drop.drop.drop.drop.drop.drop.drop.drop.drop.drop | exact hw.drop.drop.drop.drop.drop.drop.drop.drop.drop.drop.drop.drop | exact hw.drop.drop.drop.drop.drop.drop.drop.drop.drop.drop.drop.drop.drop)) (bytes_one _) (by omega) (by omega) (fun _ _ h => h.nil) (fun v7 E7 hb7 _ => ?_)
                        rw [List.nil_append, Nat.zero_add] at hb7
                        refine St.buildSl (n := 3) (e := 5) [(0, .int .u8 7), (1, .int .u8 7), (2, .int .u8 7)] (bytes [7, 7, 7]) rfl rfl (by kernel_rfl) (fun _ _ h => h.nil) (fun b9 => ?_)
                        refine St.append1 (e := 5) (sz := 1) (bytes := 1) (xs := bytes (bs.take ((t + 7) / 8))) (n := (t + 7) / 8) (news := bytes [7, 7, 7]) (m := 3) rfl rfl rfl (by kernel_rfl) hb7 (Rd.row rfl mem0) (bytes_one _) (by omega) (by omega) (fun _ _ h => h.nil) (fun v8 E8 hb8 _ => ?_)
                        rw [← bytes_app] at hb8
                        have hlb : (bs.take ((t + 7) / 8) ++ [7, 7, 7]).length = (t + 7) / 8 + 3 := by rw [List.length_append, htk]; rfl
                        refine St.move rfl rfl ?_
                        refine St.call [_, _] rfl (by kernel_rfl) rfl (iraw_spec w0 _ v8 (bs.take ((t + 7) / 8) ++ [7, 7, 7]) (by rw [hlb]; exact hb8.rd (by simp)) (by rw [hlb]; omega) (fun b h => by rcases List.mem_append.1 h with h | h; exact hb b (List.mem_of_mem_take h); simp at h; omega) ((mo : Nat) : Int) (by omega) 50000 (by first | omega | (rw [List.length_take]; omega) | (rw [List.length_append, List.length_take]; show 8 * (_ + 3) < _; omega))) (fun _ _ _ _ h => h.nil) ?_
                        rintro r6 L6 ⟨⟨v9, E9, rfl, hb9, rfl⟩, -⟩
                        rw [Int.toNat_natCast, hB.more] at hb9 ⊢
                        simp only [rawRes] at hb9 ⊢
                        refine St.move rfl rfl ?_
                        refine St.extract rfl rfl rfl ?_
                        refine St.extract rfl rfl rfl ?_
                        refine St.extract rfl rfl rfl ?_
                        refine St.assign rfl rfl ?_
                        refine St.assign rfl rfl ?_
                        refine St.assign rfl rfl ?_
                        refine St.done ?_
                        refine SX.seq ?_
                        refine SC.seq ?_
                        refine SC.plain ?_
                        refine St.move rfl rfl ?_
                        refine St.toStr (e := 5) (bs := o) (n := o.length) rfl rfl (hb9.rd (by simp [Lq])) (by kernel_rfl) (by kernel_rfl) (by kernel_rfl) ?_
                        refine St.move rfl rfl ?_
                        refine St.toStr (e := 5) (bs := o) (n := o.length) rfl rfl (hb1.rd (by simp [Lq])) (by kernel_rfl) (by kernel_rfl) (by kernel_rfl) ?_
                        refine St.strEql rfl rfl rfl ?_
                        refine St.move rfl rfl ?_
                        refine St.split 125 rfl (fun g125 => ?_) (fun g125 => ?_)
                        · refine St.guard_yes rfl rfl ?_
                          refine St.move rfl rfl ?_
                          refine St.guard_yes rfl rfl ?_
                          refine St.move rfl rfl ?_
                          refine St.guard_yes rfl rfl ?_
                          refine St.eql rfl rfl rfl ?_
                          refine St.pick_true rfl rfl rfl ?_
                          refine St.move rfl rfl ?_
                          refine St.split 130 rfl (fun g130 => ?_) (fun g130 => ?_)
                          · refine St.guard_yes rfl rfl ?_
                            refine St.move rfl rfl ?_
                            refine St.guard_yes rfl rfl ?_
                            refine St.eql rfl rfl rfl ?_
                            refine St.pick_true rfl rfl rfl ?_
                            refine St.move rfl rfl ?_
                            refine St.split 134 rfl (fun g134 => ?_) (fun g134 => ?_)
                            · refine St.guard_yes rfl rfl ?_
                              refine St.call [] rfl (by kernel_rfl) rfl (awake6_spec w0 _) (fun _ _ _ _ h => h.nil) ?_
                              rintro ra La rfl
                              refine St.pick_true rfl rfl rfl ?_
                              refine St.assign rfl rfl ?_
                              refine St.done ?_
                              refine SX.seq ?_
                              refine SC.ret ?_
                              exact SX.ret1 rfl rfl rfl
                            · exact absurd rfl g134
                          · exact absurd rfl g130
                        · exact absurd rfl g125
    · rw [hg] at hb1 hok1
      have hne := hok1.bad _ rfl
      simp only [rawRes] at hb1 ⊢
      have hb1r := hb1.read
      obtain ⟨b1, o1, A1, c1, rfl, _, _⟩ := hb1r
      simp only [List.length_nil] at *
      refine St.move rfl rfl ?_
      refine St.extract rfl rfl rfl ?_
      refine St.extract rfl rfl rfl ?_
      refine St.extract rfl rfl rfl ?_
      refine St.assign rfl rfl ?_
      refine St.assign rfl rfl ?_
      refine St.assign rfl rfl ?_
      refine St.done ?_
      refine SX.seq ?_
      refine SC.seq ?_
      refine SC.seq ?_
      refine SC.plain ?_
      refine St.move rfl rfl ?_
      refine St.lenSl rfl rfl (by kernel_rfl) ?_
      refine St.move rfl rfl ?_
      refine St.gtr rfl rfl rfl ?_
      refine St.move rfl rfl ?_
      refine St.split 37 rfl (fun g37 => ?_) (fun g37 => ?_)
      · exfalso; omega
      · refine St.guard_yes rfl rfl ?_
        refine St.move rfl rfl ?_
        refine St.guard_yes rfl rfl ?_
        refine St.move rfl rfl ?_
        refine St.guard_yes rfl rfl ?_
        refine St.lenSl rfl rfl (by kernel_rfl) ?_
        refine St.guard_yes rfl rfl ?_
        refine St.gtr rfl rfl rfl ?_
        refine St.pick_false rfl rfl rfl ?_
        refine St.move rfl rfl ?_
        refine St.split 43 rfl (fun g43 => ?_) (fun g43 => ?_)
        · exfalso; omega
        · refine St.guard_yes rfl rfl ?_
          refine St.move rfl rfl ?_
          refine St.guard_yes rfl rfl ?_
          refine St.neq rfl rfl rfl ?_
          refine St.guard_yes rfl rfl ?_
          refine St.move rfl rfl ?_
          refine St.split 46 rfl (fun g46 => ?_) (fun g46 => ?_)
          · refine St.guard_yes rfl rfl ?_
            refine St.move rfl rfl ?_
            refine St.guard_yes rfl rfl ?_
            refine St.lenSl rfl rfl (by kernel_rfl) ?_
            refine St.guard_yes rfl rfl ?_
            refine St.move rfl rfl ?_
            refine St.guard_yes rfl rfl ?_
            first | refine St.addN rfl rfl rfl (by omega) ?_ | refine St.addI rfl rfl rfl (by omega) ?_
            refine St.guard_yes rfl rfl ?_
            refine St.neq rfl rfl rfl ?_
            refine St.guard_yes rfl rfl ?_
            refine St.pick_true rfl rfl rfl ?_
            refine St.pick_false rfl rfl rfl ?_
            refine St.done ?_
            refine SX.seq ?_
            refine SC.condp rfl (fun c53 => ?_) (fun c53 => ?_)
            · exfalso; omega
            · refine SC.skip ?_
              refine SX.seq ?_
              refine SC.seq ?_
              refine SC.seq ?_
              refine SC.plain ?_
              refine St.move rfl rfl ?_
              refine St.neq rfl rfl rfl ?_
              refine St.done ?_
              refine SX.seq ?_
              refine SC.condp rfl (fun c55 => ?_) (fun c55 => ?_)
              · refine SC.seq ?_
                refine SC.plain ?_
                refine St.call [] rfl (by kernel_rfl) rfl (awake6_spec w0 _) (fun _ _ _ _ h => h.nil) ?_
                rintro ra La rfl
                refine St.assign rfl rfl ?_
                refine St.done ?_
                refine SX.seq ?_
                refine SC.ret ?_
                refine SX.seq_ret ?_
                exact SX.ret1 rfl rfl rfl
              · exfalso; omega
          · exfalso; omega
end Go.Proofs.Ytahafepgmkiabaa
