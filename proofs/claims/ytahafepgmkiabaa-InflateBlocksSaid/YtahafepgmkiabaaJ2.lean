/- Walks: inflating: lengths, distances, matches, stored and coded blocks. -/
import Derived.Test.YtahafepgmkiabaaJ1
set_option linter.unusedVariables false
set_option linter.unusedSimpArgs false
set_option linter.ambiguousOpen false
namespace Go.Proofs.Ytahafepgmkiabaa
open Go Go.Proofs.Ytahafepgmkiabaa.Sep Go.Proofs.Ytahafepgmkiabaa.Inf

theorem coded_succ (ls ds : List Int) (f : Nat) (bs : List Nat) (most p : Nat) (o : List Nat) : codedR ls ds (f + 1) bs most p o = bindR (symR ls) (fun s => if s < 256 then bindR (putR s.toNat) fun _ => codedR ls ds f else if s = 256 then pureR () else if 286 ≤ s then failR 3 else bindR (matchR ds s.toNat) fun _ => codedR ls ds f) bs most p o := rfl
theorem copy_succ (back n : Nat) (bs : List Nat) (most p : Nat) (o : List Nat) : copyR back (n + 1) bs most p o = bindR (putR (o.getD (o.length - back) 0)) (fun _ => copyR back n) bs most p o := rfl
theorem RIn.sl {w0 : World} {L : List Chunk} {rv : Value} {bs : List Nat} {most at_ : Nat} {out : List Nat} {ov : Value} {Eo : Chunk} (h : RIn w0 L rv bs most at_ out ov Eo) : ∃ b o A c, ov = .slice A out.length c ∧ (0 < out.length → A = some ⟨b, o, none⟩) ∧ ∀ w0 L, Eo ∈ L → HoldsN w0 L b o (bytes out) := h.buf.read
theorem len_pow (s : Nat) (h : s < 285) (h1 : 257 ≤ s) : (4 + (s - 265) % 4) * 2 ^ ((s - 261) / 4) ≤ 448 ∧ 2 ^ ((s - 261) / 4) ≤ 64 := by
  have h2 : 2 ^ ((s - 261) / 4) ≤ 2 ^ 6 := Nat.pow_le_pow_right (by decide) (by omega)
  exact ⟨Nat.le_trans (Nat.mul_le_mul (show _ ≤ 7 by omega) h2) (by decide), h2⟩
theorem dist_pow (s : Nat) (h : s < 30) : (2 + s % 2) * 2 ^ ((s - 2) / 2) ≤ 24576 ∧ 2 ^ ((s - 2) / 2) ≤ 8192 := by
  have h2 : 2 ^ ((s - 2) / 2) ≤ 2 ^ 13 := Nat.pow_le_pow_right (by decide) (by omega)
  exact ⟨Nat.le_trans (Nat.mul_le_mul (show _ ≤ 3 by omega) h2) (by decide), h2⟩
theorem lenR_le {s : Nat} (h : s ≤ 285) (h1 : 257 ≤ s) {bs : List Nat} {most p a p' : Nat} {o o' : List Nat} (hg : lenR s bs most p o = .ok a p' o') : a ≤ 1000 := by
  unfold lenR at hg
  split at hg
  · simp only [pureR, Got.ok.injEq] at hg; omega
  · split at hg
    · simp only [pureR, Got.ok.injEq] at hg; omega
    · obtain ⟨b, p1, o1, h2, h3⟩ := bind_ok hg
      have := takeR_lt h2
      have := len_pow s (by omega) h1
      simp only [pureR, Got.ok.injEq] at h3; omega
theorem distR_le {s : Nat} (h : s < 30) {bs : List Nat} {most p a p' : Nat} {o o' : List Nat} (hg : distR s bs most p o = .ok a p' o') : 1 ≤ a ∧ a ≤ 100000 := by
  unfold distR at hg
  split at hg
  · simp only [pureR, Got.ok.injEq] at hg; omega
  · obtain ⟨b, p1, o1, h2, h3⟩ := bind_ok hg
    have := takeR_lt h2
    have := dist_pow s h
    simp only [pureR, Got.ok.injEq] at h3; omega

theorem take8 (bs : List Nat) (k : Nat) (hb : ∀ b ∈ bs, b < 256) : takeN bs (8 * k) 8 = bs.getD k 0 := by
  rw [take_byte bs (8 * k) 8 (by omega), show 8 * k / 8 = k by omega, show 8 * k % 8 = 0 by omega]
  have := getD_lt hb k
  omega
theorem take16 (bs : List Nat) (k : Nat) (hb : ∀ b ∈ bs, b < 256) : takeN bs (8 * k) 16 = bs.getD k 0 + 256 * bs.getD (k + 1) 0 := by
  rw [show 16 = 8 + 8 from rfl, take_add bs (8 * k) 8 8, take8 bs k hb, show 8 * k + 8 = 8 * (k + 1) by omega, take8 bs (k + 1) hb]
  omega
theorem part_at (bs : List Nat) (k n i : Nat) (h : i < n) : ((bs.drop k).take n).getD i 0 = bs.getD (k + i) 0 := by
  simp only [List.getD_eq_getElem?_getD, List.getElem?_take_of_lt h, List.getElem?_drop]
theorem stored_ok {bs : List Nat} {most at_ : Nat} {out : List Nat} (k : Nat) (hk : k = (at_ + 7) / 8) (h : k + 4 ≤ bs.length) (hb : ∀ b ∈ bs, b < 256) : storedR bs most at_ out =
    (if (bs.getD k 0 + 256 * bs.getD (k + 1) 0) + (bs.getD (k + 2) 0 + 256 * bs.getD (k + 3) 0) = 65535 then storedBody (bs.getD k 0 + 256 * bs.getD (k + 1) 0) else failR 3) bs most (8 * k + 32) out := by
  have e : (at_ + 7) / 8 * 8 = 8 * k := by omega
  unfold storedR
  rw [bind_of (m := alignR) (a := ()) rfl, e, bind_of (takeR_ok (by omega)), show 8 * k + 16 = 8 * (k + 2) by omega, bind_of (takeR_ok (by omega)), take16 bs k hb, take16 bs (k + 2) hb, show 8 * (k + 2) + 16 = 8 * k + 32 by omega]
theorem stored_bad {bs : List Nat} {most at_ : Nat} {out : List Nat} (h : ¬ (at_ + 7) / 8 + 4 ≤ bs.length) : storedR bs most at_ out = .bad 4 := by
  unfold storedR
  rw [bind_of (m := alignR) (a := ()) rfl]
  by_cases h2 : (at_ + 7) / 8 * 8 + 16 ≤ 8 * bs.length
  · rw [bind_of (takeR_ok h2)]
    exact bind_bad (takeR_bad (by omega))
  · exact bind_bad (takeR_bad h2)
theorem body_succ (n : Nat) (bs : List Nat) (most p : Nat) (o : List Nat) : storedBody (n + 1) bs most p o = bindR (takeR 8) (fun c => bindR (putR c) fun _ => storedBody n) bs most p o := rfl

theorem ilen_spec (w0 : World) (L : List Chunk) (p q : Nat) (rv ov : Value) (bs : List Nat) (most at_ : Nat) (out : List Nat) (Eo : Chunk) (hR : RIn w0 L rv bs most at_ out ov Eo) (s : Nat) (hs : 257 ≤ s) (hs2 : s ≤ 285) :
    Meets Try.prog 215 #[.pointer (some ⟨p, 0, none⟩), .int .i64 ((s : Nat) : Int)] w0 (RdL p q rv ov at_ most Eo L) (AnsV w0 (lenR s bs most at_ out) p q rv bs most L) := by
  have hx := hR.rd
  have hl := hR.len
  have hb := hR.lt
  have hat := hR.at_
  have hmost := hR.big
  have hroom := hR.room
  refine Meets.of_body [.pointer (some ⟨p, 0, none⟩), .int .i64 ((s : Nat) : Int)] Try.func215 rfl Try.ntmps215 rfl ?_
  refine SC.seq ?_
  refine SC.plain ?_
  refine St.assign rfl rfl ?_
  refine St.assign rfl rfl ?_
  refine St.done ?_
  refine SX.seq ?_
  refine SC.seq ?_
  refine SC.block ?_
  refine SC.seq ?_
  refine SC.plain ?_
  refine St.move rfl rfl ?_
  refine St.lss rfl rfl rfl ?_
  refine St.assign rfl rfl ?_
  refine St.done ?_
  refine SX.seq ?_
  refine SC.condp rfl (fun c9 => ?_) (fun c9 => ?_)
  · refine SC.seq ?_
    refine SC.plain ?_
    refine St.move rfl rfl ?_
    first | refine St.subN (b := 254) rfl rfl rfl (by omega) (by omega) ?_ | refine St.subI rfl rfl rfl (by omega) ?_
    refine St.assign rfl rfl ?_
    refine St.assign rfl rfl ?_
    refine St.done ?_
    refine SX.seq ?_
    refine SC.ret ?_
    refine SX.blk_ret ?_
    refine SX.seq_ret ?_
    exact SX.ret2 rfl rfl rfl (AnsV.ok (by unfold lenR; rw [ifR_pos (by omega)]; rfl) hR)
  · refine SC.seq ?_
    refine SC.plain ?_
    refine St.move rfl rfl ?_
    refine St.eql rfl rfl rfl ?_
    refine St.assign rfl rfl ?_
    refine St.done ?_
    refine SX.seq ?_
    refine SC.condp rfl (fun c14 => ?_) (fun c14 => ?_)
    · refine SC.seq ?_
      refine SC.plain ?_
      refine St.assign rfl rfl ?_
      refine St.assign rfl rfl ?_
      refine St.done ?_
      refine SX.seq ?_
      refine SC.ret ?_
      refine SX.blk_ret ?_
      refine SX.seq_ret ?_
      exact SX.ret2 rfl rfl rfl (AnsV.ok (a := 258) (by unfold lenR; rw [ifR_neg (by omega), ifR_pos (by omega)]; rfl) hR)
    · refine SC.skip ?_
      refine SX.blk ?_
      refine SX.seq ?_
      refine SC.seq ?_
      have hpw := len_pow s (by omega) hs
      have hm : lenR s bs most at_ out = bindR (takeR ((s - 261) / 4)) (fun more => pureR (3 + (4 + (s - 265) % 4) * 2 ^ ((s - 261) / 4) + more)) bs most at_ out := by unfold lenR; rw [ifR_neg (by omega), ifR_neg (by omega)]
      refine SC.plain ?_
      refine St.move rfl rfl ?_
      first | refine St.subN (b := 261) rfl rfl rfl (by omega) (by omega) ?_ | refine St.subI rfl rfl rfl (by omega) ?_
      first | refine St.quoN (b := 4) rfl rfl rfl (by omega) (by omega) ?_ | refine St.quo rfl rfl rfl (by omega) ?_
      refine St.assign rfl rfl ?_
      refine St.done ?_
      refine SX.seq ?_
      refine SC.seq ?_
      refine SC.plain ?_
      refine St.move rfl rfl ?_
      refine St.move rfl rfl ?_
      refine St.call [_, _] rfl (by kernel_rfl) rfl (itake_spec w0 L p q rv ov bs most at_ out Eo hR ((s - 261) / 4) (by omega)) (fun _ _ _ _ h => h.nil) ?_
      rintro r1 L1 h1
      rcases h1.cases with ⟨a1, t1, o1, v1, E1, hg1, rfl, hR1, rfl⟩ | ⟨e1, hg1, rfl, hne1, rfl⟩
      · have ha1 := takeR_lt hg1
        refine St.move rfl rfl ?_
        refine St.extract rfl rfl rfl ?_
        refine St.extract rfl rfl rfl ?_
        refine St.assign rfl rfl ?_
        refine St.assign rfl rfl ?_
        refine St.done ?_
        refine SX.seq ?_
        refine SC.seq ?_
        refine SC.plain ?_
        refine St.move rfl rfl ?_
        first | refine St.subN (b := 265) rfl rfl rfl (by omega) (by omega) ?_ | refine St.subI rfl rfl rfl (by omega) ?_
        first | refine St.remN (b := 4) rfl rfl rfl (by omega) ?_ | refine St.rem rfl rfl rfl (by omega) ?_
        first | refine St.addN (a := 4) rfl rfl rfl (by omega) ?_ | refine St.addI rfl rfl rfl (by omega) ?_
        refine St.move rfl rfl ?_
        refine St.shlN rfl rfl rfl (by omega) (Nat.le_trans hpw.1 (by decide)) ?_
        first | refine St.addN (a := 3) rfl rfl rfl (by omega) ?_ | refine St.addI rfl rfl rfl (by omega) ?_
        refine St.move rfl rfl ?_
        first | refine St.addN rfl rfl rfl (by omega) ?_ | refine St.addI rfl rfl rfl (by omega) ?_
        refine St.move rfl rfl ?_
        refine St.assign rfl rfl ?_
        refine St.assign rfl rfl ?_
        refine St.done ?_
        refine SX.seq ?_
        refine SC.ret ?_
        exact SX.ret2 rfl rfl rfl (AnsV.ok (hm.trans (bind_of hg1)) hR1)
      · refine St.move rfl rfl ?_
        refine St.extract rfl rfl rfl ?_
        refine St.extract rfl rfl rfl ?_
        refine St.assign rfl rfl ?_
        refine St.assign rfl rfl ?_
        refine St.done ?_
        refine SX.seq ?_
        refine SC.seq ?_
        refine SC.plain ?_
        refine St.move rfl rfl ?_
        first | refine St.subN (b := 265) rfl rfl rfl (by omega) (by omega) ?_ | refine St.subI rfl rfl rfl (by omega) ?_
        first | refine St.remN (b := 4) rfl rfl rfl (by omega) ?_ | refine St.rem rfl rfl rfl (by omega) ?_
        first | refine St.addN (a := 4) rfl rfl rfl (by omega) ?_ | refine St.addI rfl rfl rfl (by omega) ?_
        refine St.move rfl rfl ?_
        refine St.shlN rfl rfl rfl (by omega) (Nat.le_trans hpw.1 (by decide)) ?_
        first | refine St.addN (a := 3) rfl rfl rfl (by omega) ?_ | refine St.addI rfl rfl rfl (by omega) ?_
        refine St.move rfl rfl ?_
        first | refine St.addN rfl rfl rfl (by omega) ?_ | refine St.addI rfl rfl rfl (by omega) ?_
        refine St.move rfl rfl ?_
        refine St.assign rfl rfl ?_
        refine St.assign rfl rfl ?_
        refine St.done ?_
        refine SX.seq ?_
        refine SC.ret ?_
        exact SX.ret2 rfl rfl rfl (AnsV.bad (hm.trans (bind_bad hg1)) hne1)
theorem idist_spec (w0 : World) (L : List Chunk) (p q : Nat) (rv ov : Value) (bs : List Nat) (most at_ : Nat) (out : List Nat) (Eo : Chunk) (hR : RIn w0 L rv bs most at_ out ov Eo) (s : Nat) (hs : s < 30) :
    Meets Try.prog 216 #[.pointer (some ⟨p, 0, none⟩), .int .i64 ((s : Nat) : Int)] w0 (RdL p q rv ov at_ most Eo L) (AnsV w0 (distR s bs most at_ out) p q rv bs most L) := by
  have hx := hR.rd
  have hl := hR.len
  have hb := hR.lt
  have hat := hR.at_
  have hmost := hR.big
  have hroom := hR.room
  refine Meets.of_body [.pointer (some ⟨p, 0, none⟩), .int .i64 ((s : Nat) : Int)] Try.func216 rfl Try.ntmps216 rfl ?_
  refine SC.seq ?_
  refine SC.plain ?_
  refine St.assign rfl rfl ?_
  refine St.assign rfl rfl ?_
  refine St.done ?_
  refine SX.seq ?_
  refine SC.seq ?_
  refine SC.seq ?_
  refine SC.plain ?_
  refine St.move rfl rfl ?_
  refine St.lss rfl rfl rfl ?_
  refine St.done ?_
  refine SX.seq ?_
  refine SC.condp rfl (fun c10 => ?_) (fun c10 => ?_)
  · refine SC.seq ?_
    refine SC.plain ?_
    refine St.move rfl rfl ?_
    first | refine St.addN (b := 1) rfl rfl rfl (by omega) ?_ | refine St.addI rfl rfl rfl (by omega) ?_
    refine St.assign rfl rfl ?_
    refine St.assign rfl rfl ?_
    refine St.done ?_
    refine SX.seq ?_
    refine SC.ret ?_
    refine SX.seq_ret ?_
    exact SX.ret2 rfl rfl rfl (AnsV.ok (by unfold distR; rw [ifR_pos (by omega)]; rfl) hR)
  · refine SC.skip ?_
    refine SX.seq ?_
    refine SC.seq ?_
    have hpw := dist_pow s (by omega)
    have hm : distR s bs most at_ out = bindR (takeR ((s - 2) / 2)) (fun more => pureR (1 + (2 + s % 2) * 2 ^ ((s - 2) / 2) + more)) bs most at_ out := by unfold distR; rw [ifR_neg (by omega)]
    refine SC.plain ?_
    refine St.move rfl rfl ?_
    first | refine St.subN (b := 2) rfl rfl rfl (by omega) (by omega) ?_ | refine St.subI rfl rfl rfl (by omega) ?_
    first | refine St.quoN (b := 2) rfl rfl rfl (by omega) (by omega) ?_ | refine St.quo rfl rfl rfl (by omega) ?_
    refine St.assign rfl rfl ?_
    refine St.done ?_
    refine SX.seq ?_
    refine SC.seq ?_
    refine SC.plain ?_
    refine St.move rfl rfl ?_
    refine St.move rfl rfl ?_
    refine St.call [_, _] rfl (by kernel_rfl) rfl (itake_spec w0 L p q rv ov bs most at_ out Eo hR ((s - 2) / 2) (by omega)) (fun _ _ _ _ h => h.nil) ?_
    rintro r1 L1 h1
    rcases h1.cases with ⟨a1, t1, o1, v1, E1, hg1, rfl, hR1, rfl⟩ | ⟨e1, hg1, rfl, hne1, rfl⟩
    · have ha1 := takeR_lt hg1
      refine St.move rfl rfl ?_
      refine St.extract rfl rfl rfl ?_
      refine St.extract rfl rfl rfl ?_
      refine St.assign rfl rfl ?_
      refine St.assign rfl rfl ?_
      refine St.done ?_
      refine SX.seq ?_
      refine SC.seq ?_
      refine SC.plain ?_
      refine St.move rfl rfl ?_
      first | refine St.remN (b := 2) rfl rfl rfl (by omega) ?_ | refine St.rem rfl rfl rfl (by omega) ?_
      first | refine St.addN (a := 2) rfl rfl rfl (by omega) ?_ | refine St.addI rfl rfl rfl (by omega) ?_
      refine St.move rfl rfl ?_
      refine St.shlN rfl rfl rfl (by omega) (Nat.le_trans hpw.1 (by decide)) ?_
      first | refine St.addN (a := 1) rfl rfl rfl (by omega) ?_ | refine St.addI rfl rfl rfl (by omega) ?_
      refine St.move rfl rfl ?_
      first | refine St.addN rfl rfl rfl (by omega) ?_ | refine St.addI rfl rfl rfl (by omega) ?_
      refine St.move rfl rfl ?_
      refine St.assign rfl rfl ?_
      refine St.assign rfl rfl ?_
      refine St.done ?_
      refine SX.seq ?_
      refine SC.ret ?_
      exact SX.ret2 rfl rfl rfl (AnsV.ok (hm.trans (bind_of hg1)) hR1)
    · refine St.move rfl rfl ?_
      refine St.extract rfl rfl rfl ?_
      refine St.extract rfl rfl rfl ?_
      refine St.assign rfl rfl ?_
      refine St.assign rfl rfl ?_
      refine St.done ?_
      refine SX.seq ?_
      refine SC.seq ?_
      refine SC.plain ?_
      refine St.move rfl rfl ?_
      first | refine St.remN (b := 2) rfl rfl rfl (by omega) ?_ | refine St.rem rfl rfl rfl (by omega) ?_
      first | refine St.addN (a := 2) rfl rfl rfl (by omega) ?_ | refine St.addI rfl rfl rfl (by omega) ?_
      refine St.move rfl rfl ?_
      refine St.shlN rfl rfl rfl (by omega) (Nat.le_trans hpw.1 (by decide)) ?_
      first | refine St.addN (a := 1) rfl rfl rfl (by omega) ?_ | refine St.addI rfl rfl rfl (by omega) ?_
      refine St.move rfl rfl ?_
      first | refine St.addN rfl rfl rfl (by omega) ?_ | refine St.addI rfl rfl rfl (by omega) ?_
      refine St.move rfl rfl ?_
      refine St.assign rfl rfl ?_
      refine St.assign rfl rfl ?_
      refine St.done ?_
      refine SX.seq ?_
      refine SC.ret ?_
      exact SX.ret2 rfl rfl rfl (AnsV.bad (hm.trans (bind_bad hg1)) hne1)
theorem imatch_spec (w0 : World) (L : List Chunk) (p q : Nat) (rv ov : Value) (bs : List Nat) (most at_ : Nat) (out : List Nat) (Eo : Chunk) (hR : RIn w0 L rv bs most at_ out ov Eo) (s pd : Nat) (ds : List Int) (hs : 257 ≤ s) (hs2 : s ≤ 285) (hd0 : codesE ds = 0) (hC : CodeRd w0 L pd ds) :
    Meets Try.prog 211 #[.pointer (some ⟨p, 0, none⟩), .int .i64 ((s : Nat) : Int), .pointer (some ⟨pd, 0, none⟩)] w0 (RdL p q rv ov at_ most Eo L) (AnsE w0 (matchR ds s bs most at_ out) p q rv bs most L) := by
  have hx := hR.rd
  have hl := hR.len
  have hb := hR.lt
  have hat := hR.at_
  have hmost := hR.big
  have hroom := hR.room
  refine Meets.of_body [.pointer (some ⟨p, 0, none⟩), .int .i64 ((s : Nat) : Int), .pointer (some ⟨pd, 0, none⟩)] Try.func211 rfl Try.ntmps211 rfl ?_
  refine SC.seq ?_
  refine SC.plain ?_
  refine St.assign rfl rfl ?_
  refine St.done ?_
  refine SX.seq ?_
  refine SC.seq ?_
  refine SC.plain ?_
  refine St.move rfl rfl ?_
  refine St.move rfl rfl ?_
  refine St.call [_, _] rfl (by kernel_rfl) rfl (ilen_spec w0 L p q rv ov bs most at_ out Eo hR s hs hs2) (fun _ _ _ _ h => h.nil) ?_
  rintro r1 L1 h1
  rcases h1.cases with ⟨a1, t1, o1, v1, E1, hg1, rfl, hR1, rfl⟩ | ⟨e, n1, hg1, rfl, hne, rfl⟩
  · have hm1 : matchR ds s bs most at_ out = _ := bind_of hg1
    have ha1 := lenR_le hs2 hs hg1
    unfold RdL
    refine St.move rfl rfl ?_
    refine St.extract rfl rfl rfl ?_
    refine St.extract rfl rfl rfl ?_
    refine St.assign rfl rfl ?_
    refine St.assign rfl rfl ?_
    refine St.done ?_
    refine SX.seq ?_
    refine SC.seq ?_
    refine SC.seq ?_
    refine SC.plain ?_
    refine St.move rfl rfl ?_
    refine St.neq rfl rfl rfl ?_
    refine St.done ?_
    refine SX.seq ?_
    refine SC.condp rfl (fun c19 => ?_) (fun c19 => ?_)
    · exfalso; omega
    · refine SC.skip ?_
      refine SX.seq ?_
      refine SC.seq ?_
      refine SC.plain ?_
      refine St.move rfl rfl ?_
      refine St.move rfl rfl ?_
      refine St.nilCheck rfl rfl ?_
      refine St.fieldAddr (off := 0) rfl rfl (by kernel_rfl) ?_
      refine St.load rfl rfl (by kernel_rfl) (by first | exact Holds.row mem0 rfl | exact Holds.row mem1 rfl | exact Holds.row mem2 rfl | exact Holds.row mem3 rfl | exact Holds.row mem4 rfl | exact Holds.row mem5 rfl | exact Holds.row mem6 rfl | exact Holds.row mem7 rfl | exact Holds.row mem8 rfl) ?_
      refine St.perm _ (perm12 _ _ _) ?_
      refine St.call [_, _] rfl (by kernel_rfl) rfl (cread_spec w0 _ rv ds bs pd q t1 hd0 (hC.mono fun w hw => hw.drop.drop) (hx.mono fun w hw => hw.drop.drop) hl hb hR1.at_) (fun _ _ _ _ h => h.nil) ?_
      rintro r2 L2 h2
      rcases h2.cases most o1 hR1.at_ with ⟨d, t2, hg2, hd1, hd2, hd3, rfl, rfl⟩ | ⟨e, n2, t2, hg2, hne, rfl, rfl⟩
      · have hm2 := hm1.trans (bind_of hg2)
        refine St.move rfl rfl ?_
        refine St.extract rfl rfl rfl ?_
        refine St.extract rfl rfl rfl ?_
        refine St.assign rfl rfl ?_
        refine St.assign rfl rfl ?_
        refine St.done ?_
        refine SX.seq ?_
        refine SC.seq ?_
        refine SC.seq ?_
        refine SC.plain ?_
        refine St.move rfl rfl ?_
        refine St.neq rfl rfl rfl ?_
        refine St.done ?_
        refine SX.seq ?_
        refine SC.condp rfl (fun c31 => ?_) (fun c31 => ?_)
        · exfalso; omega
        · refine SC.skip ?_
          refine SX.seq ?_
          refine SC.seq ?_
          refine SC.seq ?_
          refine SC.plain ?_
          refine St.move rfl rfl ?_
          refine St.geq rfl rfl rfl ?_
          refine St.done ?_
          refine SX.seq ?_
          refine SC.condp rfl (fun c34 => ?_) (fun c34 => ?_)
          · have hm3 := hm2.trans (ifR_pos (by omega))
            refine SC.weak L (.cons _ (.cons _ (.cons _ (List.Sublist.refl _)))) ?_
            refine SC.seq ?_
            refine SC.plain ?_
            refine St.assign rfl rfl ?_
            refine St.done ?_
            refine SX.seq ?_
            refine SC.ret ?_
            refine SX.seq_ret ?_
            exact SX.ret1 rfl rfl (AnsE.bad hm3 (by decide))
          · have hm3 := hm2.trans (ifR_neg (by omega))
            have hR2 : RIn w0 L rv bs most t2 o1 v1 E1 := ⟨hR1.rd, hR1.len, hR1.lt, hd3, hR1.big, hR1.buf, hR1.room, hR1.outB, hR1.cap⟩
            refine SC.perm (RdL p q rv v1 t2 most E1 L) (perm12 _ _ _) ?_
            refine SC.skip ?_
            refine SX.seq ?_
            refine SC.seq ?_
            refine SC.plain ?_
            refine St.move rfl rfl ?_
            refine St.move rfl rfl ?_
            refine St.call [_, _] rfl (by kernel_rfl) rfl (idist_spec w0 L p q rv v1 bs most t2 o1 E1 hR2 d (by omega)) (fun _ _ _ _ h => h.nil) ?_
            rintro r3 L3 h3
            rcases h3.cases with ⟨a3, t3, o3, v3, E3, hg3, rfl, hR3, rfl⟩ | ⟨e, n3, hg3, rfl, hne, rfl⟩
            · have hm4 := hm3.trans (bind_of hg3)
              have ha3 := distR_le (by omega) hg3
              have hroom3 := hR3.room
              obtain ⟨_, _, A3, c3, rfl, _, _⟩ := hR3.sl
              unfold RdL
              refine St.move rfl rfl ?_
              refine St.extract rfl rfl rfl ?_
              refine St.extract rfl rfl rfl ?_
              refine St.assign rfl rfl ?_
              refine St.assign rfl rfl ?_
              refine St.done ?_
              refine SX.seq ?_
              refine SC.seq ?_
              refine SC.seq ?_
              refine SC.plain ?_
              refine St.move rfl rfl ?_
              refine St.neq rfl rfl rfl ?_
              refine St.done ?_
              refine SX.seq ?_
              refine SC.condp rfl (fun c42 => ?_) (fun c42 => ?_)
              · exfalso; omega
              · refine SC.skip ?_
                refine SX.seq ?_
                refine SC.seq ?_
                refine SC.seq ?_
                refine SC.plain ?_
                refine St.move rfl rfl ?_
                refine St.move rfl rfl ?_
                refine St.nilCheck rfl rfl ?_
                refine St.fieldAddr (off := 1) rfl rfl (by kernel_rfl) ?_
                refine St.load rfl rfl (by kernel_rfl) (by first | exact Holds.row mem0 rfl | exact Holds.row mem1 rfl | exact Holds.row mem2 rfl | exact Holds.row mem3 rfl | exact Holds.row mem4 rfl | exact Holds.row mem5 rfl | exact Holds.row mem6 rfl | exact Holds.row mem7 rfl | exact Holds.row mem8 rfl) ?_
                refine St.lenSl rfl rfl (by kernel_rfl) ?_
                refine St.gtr rfl rfl rfl ?_
                refine St.done ?_
                refine SX.seq ?_
                refine SC.condp rfl (fun c50 => ?_) (fun c50 => ?_)
                · have hm5 := hm4.trans (ifR_pos (by omega))
                  refine SC.weak L (.cons _ (.cons _ (.cons _ (List.Sublist.refl _)))) ?_
                  refine SC.seq ?_
                  refine SC.plain ?_
                  refine St.assign rfl rfl ?_
                  refine St.done ?_
                  refine SX.seq ?_
                  refine SC.ret ?_
                  refine SX.seq_ret ?_
                  exact SX.ret1 rfl rfl (AnsE.bad hm5 (by decide))
                · have hm5 := hm4.trans (ifR_neg (by omega))
                  refine SC.skip ?_
                  refine SX.seq ?_
                  refine SC.seq ?_
                  refine SC.seq ?_
                  refine SC.plain ?_
                  refine St.move rfl rfl ?_
                  refine St.move rfl rfl ?_
                  refine St.done ?_
                  refine SX.seq ?_
                  refine SC.block ?_
                  refine SC.loop (α := Nat × Nat × List Nat × Value × Chunk) (fun s_ => s_.1 ≤ a1 ∧ RIn w0 L rv bs most s_.2.1 s_.2.2.1 s_.2.2.2.1 s_.2.2.2.2 ∧ matchR ds s bs most at_ out = copyR a3 (a1 - s_.1) bs most s_.2.1 s_.2.2.1 ∧ a3 ≤ s_.2.2.1.length) (fun s_ => [(0, .pointer (some ⟨p, 0, none⟩)), (10, .int .i64 ((a3 : Nat) : Int)), (51, .int .i64 ((a1 : Nat) : Int)), (52, .int .i64 ((s_.1 : Nat) : Int))]) (fun s_ => RdL p q rv s_.2.2.2.1 s_.2.1 most s_.2.2.2.2 L) (fun s_ => a1 - s_.1) (0, t3, o3, _, E3) ⟨Nat.zero_le _, hR3, hm5, by simp only; omega⟩ ⟨rfl, rfl, rfl, rfl, trivial⟩ (List.Perm.refl _) ?_
                  rintro ⟨i, t, o, v, E⟩ ⟨hi, hRi, hmi, hai⟩
                  simp only at hi hRi hmi hai
                  have hroomi := hRi.room
                  obtain ⟨bo, oo, Ao, co, rfl, hAo, hro⟩ := hRi.sl
                  obtain rfl := hAo (by omega)
                  show SC _ _ _ [(0, .pointer (some ⟨p, 0, none⟩)), (10, .int .i64 ((a3 : Nat) : Int)), (51, .int .i64 ((a1 : Nat) : Int)), (52, .int .i64 ((i : Nat) : Int))] (RdL p q rv (.slice _ o.length co) t most E L)
                  unfold RdL
                  have hrr := hro w0 ([⟨p, [.pointer (some ⟨q, 0, none⟩), .slice (some ⟨bo, oo, none⟩) o.length co, .int .i64 ((most : Nat) : Int)], 178⟩] :: [⟨q, [rv, .int .i64 ((t : Nat) : Int)], 156⟩] :: E :: L) (by simp)
                  have hob := hRi.outB
                  refine SC.seq ?_
                  refine SC.plain ?_
                  refine St.lss rfl rfl rfl ?_
                  refine St.done ?_
                  refine SX.seq ?_
                  refine SC.seq ?_
                  refine SC.condp rfl (fun c53 => ?_) (fun c53 => ?_)
                  · have hm6 := hmi.trans ((congrFun (congrFun (congrFun (congrFun (congrArg (copyR a3) (show a1 - i = (a1 - (i + 1)) + 1 by omega)) bs) most) t) o).trans (copy_succ _ _ _ _ _ _))
                    refine SC.skip ?_
                    refine SX.seq ?_
                    refine SC.seq ?_
                    refine SC.block ?_
                    refine SC.seq ?_
                    refine SC.drawn [(0, true), (1, true), (2, true), (3, true), (4, true), (5, true), (6, true), (7, true), (8, true), (9, true), (10, true), (11, true), (12, true), (13, true)] [14, 15] (_) (by kernel_rfl) (by kernel_rfl) (fun _ h => h) ?_
                    refine St.move rfl rfl ?_
                    refine St.move rfl rfl ?_
                    refine St.nilCheck rfl rfl ?_
                    refine St.fieldAddr (off := 1) rfl rfl (by kernel_rfl) ?_
                    refine St.load rfl rfl (by kernel_rfl) (by first | exact Holds.row mem0 rfl | exact Holds.row mem1 rfl | exact Holds.row mem2 rfl | exact Holds.row mem3 rfl | exact Holds.row mem4 rfl | exact Holds.row mem5 rfl | exact Holds.row mem6 rfl | exact Holds.row mem7 rfl | exact Holds.row mem8 rfl) ?_
                    refine St.move rfl rfl ?_
                    refine St.nilCheck rfl rfl ?_
                    refine St.fieldAddr (off := 1) rfl rfl (by kernel_rfl) ?_
                    refine St.load rfl rfl (by kernel_rfl) (by first | exact Holds.row mem0 rfl | exact Holds.row mem1 rfl | exact Holds.row mem2 rfl | exact Holds.row mem3 rfl | exact Holds.row mem4 rfl | exact Holds.row mem5 rfl | exact Holds.row mem6 rfl | exact Holds.row mem7 rfl | exact Holds.row mem8 rfl) ?_
                    refine St.lenSl rfl rfl (by kernel_rfl) ?_
                    refine St.move rfl rfl ?_
                    first | refine St.subN rfl rfl rfl (by omega) (by omega) ?_ | refine St.subI rfl rfl rfl (by omega) ?_
                    refine St.indexSl (e := 5) (sz := 1) rfl rfl rfl (by kernel_rfl) (by omega) ?_
                    first | (refine St.loadB rfl rfl (by kernel_rfl) (HoldsN.mono hrr (fun w hw => by first | exact hw | exact hw.drop | exact hw.drop.drop | exact hw.drop.drop.drop | exact hw.drop.drop.drop.drop | exact hw.drop.drop.drop.drop.drop | exact hw.drop.drop.drop.drop.drop.drop | exact hw.drop.drop.drop.drop.drop.drop.drop | exact hw.drop.drop.drop.drop.drop.drop.drop.drop | exact hw.drop.drop.drop.drop.drop.drop.drop.drop.drop | exact hw.drop.drop.drop.drop.drop.drop.drop.drop.drop.drop | exact hw.drop.drop.drop.drop.drop.drop.drop.drop.drop.drop.drop | exact hw.drop.drop.drop.drop.drop.drop.drop.drop.drop.drop.drop.drop | exact hw.drop.drop.drop.drop.drop.drop.drop.drop.drop.drop.drop.drop.drop)) rfl (by omega) hob ?_; intro n67 e67 l67) | refine St.load rfl rfl (by kernel_rfl) (by first | exact Holds.row mem0 rfl | exact Holds.row mem1 rfl | exact Holds.row mem2 rfl | exact Holds.row mem3 rfl | exact Holds.row mem4 rfl | exact Holds.row mem5 rfl | exact Holds.row mem6 rfl | exact Holds.row mem7 rfl | exact Holds.row mem8 rfl) ?_
                    refine St.done ?_
                    refine SX.tail ?_
                    subst e67
                    refine St.call [_, _] rfl (by kernel_rfl) rfl (iput_spec w0 L p q rv _ bs most t o E hRi _ l67) (fun _ _ _ _ h => h.nil) ?_
                    rintro r5 L5 h5
                    rcases h5.cases with ⟨a5, t5, o5, v5, E5, hg5, rfl, hR5, rfl⟩ | ⟨e, hg5, rfl, hne, rfl⟩
                    · have hm7 := hm6.trans (bind_of hg5)
                      have hgl := ((good_put _).mono hg5 hRi.at_).2.2.1
                      refine St.assign rfl rfl ?_
                      refine St.done ?_
                      refine SX.seq ?_
                      refine SC.seq ?_
                      refine SC.plain ?_
                      refine St.move rfl rfl ?_
                      refine St.neq rfl rfl rfl ?_
                      refine St.done ?_
                      refine SX.seq ?_
                      refine SC.condp rfl (fun c70 => ?_) (fun c70 => ?_)
                      · exfalso; omega
                      · refine SC.skip ?_
                        refine SX.blk ?_
                        refine SX.seq ?_
                        refine SC.plain ?_
                        first | refine St.addN (b := 1) rfl rfl rfl (by omega) ?_ | refine St.addI rfl rfl rfl (by omega) ?_
                        refine St.move rfl rfl ?_
                        refine St.done ?_
                        exact SX.again (i + 1, t5, o5, v5, E5) ⟨by simp only; omega, hR5, hm7, by simp only; omega⟩ (by simp only; omega) ⟨rfl, rfl, rfl, rfl, trivial⟩ (List.Perm.refl _)
                    · have hm7 := hm6.trans (bind_bad hg5)
                      refine St.assign rfl rfl ?_
                      refine St.done ?_
                      refine SX.seq ?_
                      refine SC.seq ?_
                      refine SC.plain ?_
                      refine St.move rfl rfl ?_
                      refine St.neq rfl rfl rfl ?_
                      refine St.done ?_
                      refine SX.seq ?_
                      refine SC.condp rfl (fun c70 => ?_) (fun c70 => ?_)
                      · refine SC.seq ?_
                        refine SC.plain ?_
                        refine St.move rfl rfl ?_
                        refine St.assign rfl rfl ?_
                        refine St.done ?_
                        refine SX.seq ?_
                        refine SC.ret ?_
                        refine SX.blk_ret ?_
                        refine SX.seq_ret ?_
                        refine SX.seq_ret ?_
                        refine SX.blk_ret ?_
                        refine SX.seq_ret ?_
                        exact SX.ret1 rfl rfl (AnsE.bad hm7 hne)
                      · exfalso; omega
                  · refine SC.exit ?_
                    refine SX.seq_exit ?_
                    refine SX.seq_exit ?_
                    refine SX.hit ?_
                    refine SX.seq ?_
                    refine SC.seq ?_
                    refine SC.plain ?_
                    refine St.assign rfl rfl ?_
                    refine St.done ?_
                    refine SX.seq ?_
                    refine SC.ret ?_
                    have hie : a1 - i = 0 := by omega
                    rw [hie] at hmi
                    exact SX.ret1 rfl rfl (AnsE.ok hmi hRi)
            · have hm4 := hm3.trans (bind_bad hg3)
              refine St.move rfl rfl ?_
              refine St.extract rfl rfl rfl ?_
              refine St.extract rfl rfl rfl ?_
              refine St.assign rfl rfl ?_
              refine St.assign rfl rfl ?_
              refine St.done ?_
              refine SX.seq ?_
              refine SC.seq ?_
              refine SC.seq ?_
              refine SC.plain ?_
              refine St.move rfl rfl ?_
              refine St.neq rfl rfl rfl ?_
              refine St.done ?_
              refine SX.seq ?_
              refine SC.condp rfl (fun c42 => ?_) (fun c42 => ?_)
              · refine SC.seq ?_
                refine SC.plain ?_
                refine St.move rfl rfl ?_
                refine St.assign rfl rfl ?_
                refine St.done ?_
                refine SX.seq ?_
                refine SC.ret ?_
                refine SX.seq_ret ?_
                exact SX.ret1 rfl rfl (AnsE.bad hm4 hne)
              · exfalso; omega
      · have hm2 := hm1.trans (bind_bad hg2)
        refine St.weak L (.cons _ (.cons _ (.cons _ (List.Sublist.refl _)))) ?_
        refine St.move rfl rfl ?_
        refine St.extract rfl rfl rfl ?_
        refine St.extract rfl rfl rfl ?_
        refine St.assign rfl rfl ?_
        refine St.assign rfl rfl ?_
        refine St.done ?_
        refine SX.seq ?_
        refine SC.seq ?_
        refine SC.seq ?_
        refine SC.plain ?_
        refine St.move rfl rfl ?_
        refine St.neq rfl rfl rfl ?_
        refine St.done ?_
        refine SX.seq ?_
        refine SC.condp rfl (fun c31 => ?_) (fun c31 => ?_)
        · refine SC.seq ?_
          refine SC.plain ?_
          refine St.move rfl rfl ?_
          refine St.assign rfl rfl ?_
          refine St.done ?_
          refine SX.seq ?_
          refine SC.ret ?_
          refine SX.seq_ret ?_
          exact SX.ret1 rfl rfl (AnsE.bad hm2 hne)
        · exfalso; omega
  · have hm1 : matchR ds s bs most at_ out = _ := bind_bad hg1
    refine St.move rfl rfl ?_
    refine St.extract rfl rfl rfl ?_
    refine St.extract rfl rfl rfl ?_
    refine St.assign rfl rfl ?_
    refine St.assign rfl rfl ?_
    refine St.done ?_
    refine SX.seq ?_
    refine SC.seq ?_
    refine SC.seq ?_
    refine SC.plain ?_
    refine St.move rfl rfl ?_
    refine St.neq rfl rfl rfl ?_
    refine St.done ?_
    refine SX.seq ?_
    refine SC.condp rfl (fun c19 => ?_) (fun c19 => ?_)
    · refine SC.seq ?_
      refine SC.plain ?_
      refine St.move rfl rfl ?_
      refine St.assign rfl rfl ?_
      refine St.done ?_
      refine SX.seq ?_
      refine SC.ret ?_
      refine SX.seq_ret ?_
      exact SX.ret1 rfl rfl (AnsE.bad hm1 hne)
    · exfalso; omega
theorem isymbols_spec (w0 : World) (L : List Chunk) (p q : Nat) (rv ov : Value) (bs : List Nat) (most at_ : Nat) (out : List Nat) (Eo : Chunk) (hR : RIn w0 L rv bs most at_ out ov Eo) (pl pd : Nat) (ls ds : List Int) (hl0 : codesE ls = 0) (hC : CodeRd w0 L pl ls) (hd0 : codesE ds = 0) (hD : CodeRd w0 L pd ds) (F : Nat) (hF : 8 * bs.length - at_ < F) :
    Meets Try.prog 198 #[.pointer (some ⟨p, 0, none⟩), .pointer (some ⟨pl, 0, none⟩), .pointer (some ⟨pd, 0, none⟩)] w0 (RdL p q rv ov at_ most Eo L) (AnsE w0 (codedR ls ds F bs most at_ out) p q rv bs most L) := by
  have hx := hR.rd
  have hl := hR.len
  have hb := hR.lt
  have hat := hR.at_
  have hmost := hR.big
  have hroom := hR.room
  refine Meets.of_body [.pointer (some ⟨p, 0, none⟩), .pointer (some ⟨pl, 0, none⟩), .pointer (some ⟨pd, 0, none⟩)] Try.func198 rfl Try.ntmps198 rfl ?_
  refine SC.seq ?_
  refine SC.plain ?_
  refine St.assign rfl rfl ?_
  refine St.done ?_
  refine SX.seq ?_
  refine SC.scope ?_
  refine SC.seq ?_
  refine SC.label ?_
  refine SX.seq ?_
  refine SC.seq ?_
  refine SC.block ?_
  refine SC.loop (α := Nat × Nat × List Nat × Value × Chunk) (fun s_ => 8 * bs.length - s_.2.1 < s_.1 ∧ RIn w0 L rv bs most s_.2.1 s_.2.2.1 s_.2.2.2.1 s_.2.2.2.2 ∧ codedR ls ds F bs most at_ out = codedR ls ds s_.1 bs most s_.2.1 s_.2.2.1) (fun s_ => [(0, .pointer (some ⟨p, 0, none⟩)), (1, .pointer (some ⟨pl, 0, none⟩)), (2, .pointer (some ⟨pd, 0, none⟩))]) (fun s_ => RdL p q rv s_.2.2.2.1 s_.2.1 most s_.2.2.2.2 L) (fun s_ => s_.1) (F, at_, out, ov, Eo) ⟨hF, hR, rfl⟩ ⟨rfl, rfl, rfl, trivial⟩ (List.Perm.refl _) ?_
  rintro ⟨f, t, o, v, E⟩ ⟨hf, hRi, hmi⟩
  simp only at hf hRi hmi
  obtain ⟨f, rfl⟩ : ∃ f1, f = f1 + 1 := ⟨f - 1, by omega⟩
  rw [coded_succ] at hmi
  show SC _ _ _ [(0, .pointer (some ⟨p, 0, none⟩)), (1, .pointer (some ⟨pl, 0, none⟩)), (2, .pointer (some ⟨pd, 0, none⟩))] (RdL p q rv v t most E L)
  unfold RdL
  refine SC.block ?_
  refine SC.seq ?_
  refine SC.plain ?_
  refine St.move rfl rfl ?_
  refine St.move rfl rfl ?_
  refine St.nilCheck rfl rfl ?_
  refine St.fieldAddr (off := 0) rfl rfl (by kernel_rfl) ?_
  refine St.load rfl rfl (by kernel_rfl) (by first | exact Holds.row mem0 rfl | exact Holds.row mem1 rfl | exact Holds.row mem2 rfl | exact Holds.row mem3 rfl | exact Holds.row mem4 rfl | exact Holds.row mem5 rfl | exact Holds.row mem6 rfl | exact Holds.row mem7 rfl | exact Holds.row mem8 rfl) ?_
  refine St.perm _ (perm12 _ _ _) ?_
  refine St.call [_, _] rfl (by kernel_rfl) rfl (cread_spec w0 _ rv ls bs pl q t hl0 (hC.mono fun w hw => hw.drop.drop) (hx.mono fun w hw => hw.drop.drop) hl hb hRi.at_) (fun _ _ _ _ h => h.nil) ?_
  rintro r2 L2 h2
  rcases h2.cases most o hRi.at_ with ⟨d, t2, hg2, hd1, hd2, hd3, rfl, rfl⟩ | ⟨e, n2, t2, hg2, hne, rfl, rfl⟩
  · have hm2 := hmi.trans (bind_of hg2)
    have hR2 : RIn w0 L rv bs most t2 o v E := ⟨hRi.rd, hRi.len, hRi.lt, hd3, hRi.big, hRi.buf, hRi.room, hRi.outB, hRi.cap⟩
    refine St.perm (RdL p q rv v t2 most E L) (perm12 _ _ _) ?_
    refine St.move rfl rfl ?_
    refine St.extract rfl rfl rfl ?_
    refine St.extract rfl rfl rfl ?_
    refine St.assign rfl rfl ?_
    refine St.assign rfl rfl ?_
    refine St.done ?_
    refine SX.seq ?_
    refine SC.seq ?_
    refine SC.block ?_
    refine SC.seq ?_
    refine SC.plain ?_
    refine St.move rfl rfl ?_
    refine St.neq rfl rfl rfl ?_
    refine St.assign rfl rfl ?_
    refine St.done ?_
    refine SX.seq ?_
    refine SC.condp rfl (fun c20 => ?_) (fun c20 => ?_)
    · exfalso; omega
    · refine SC.seq ?_
      refine SC.plain ?_
      refine St.move rfl rfl ?_
      refine St.lss rfl rfl rfl ?_
      refine St.assign rfl rfl ?_
      refine St.done ?_
      refine SX.seq ?_
      refine SC.condp rfl (fun c24 => ?_) (fun c24 => ?_)
      · have hm3 := hm2.trans (ifR_pos (by omega))
        refine SC.seq ?_
        refine SC.seq ?_
        refine SC.plain ?_
        refine St.move rfl rfl ?_
        refine St.move rfl rfl ?_
        first | refine St.convUx un8 rfl rfl (by kernel_rfl) (by kernel_rfl) (by omega) ?_ | refine St.convU un8 rfl rfl (by kernel_rfl) (by kernel_rfl) ?_ | refine St.convZ un8 rfl rfl (by kernel_rfl) (by kernel_rfl) ?_
        refine St.call [_, _] rfl (by kernel_rfl) rfl (iput_spec w0 L p q rv v bs most t2 o E hR2 d (by omega)) (fun _ _ _ _ h => h.nil) ?_
        rintro r5 L5 h5
        rcases h5.cases with ⟨a5, t5, o5, v5, E5, hg5, rfl, hR5, rfl⟩ | ⟨e, hg5, rfl, hne, rfl⟩
        · have hm7 := hm3.trans (bind_of hg5)
          have hgl := ((good_put _).mono hg5 hR2.at_).1
          refine St.assign rfl rfl ?_
          refine St.done ?_
          refine SX.seq ?_
          refine SC.seq ?_
          refine SC.plain ?_
          refine St.move rfl rfl ?_
          refine St.neq rfl rfl rfl ?_
          refine St.done ?_
          refine SX.seq ?_
          refine SC.condp rfl (fun c32 => ?_) (fun c32 => ?_)
          · exfalso; omega
          · refine SC.skip ?_
            refine SX.seq ?_
            refine SC.exit ?_
            refine SX.miss rfl ?_
            refine SX.seq_exit ?_
            refine SX.hit ?_
            exact SX.again (f, t5, o5, v5, E5) ⟨by simp only; omega, hR5, hm7⟩ (by simp only; omega) ⟨rfl, rfl, rfl, trivial⟩ (List.Perm.refl _)
        · have hm7 := hm3.trans (bind_bad hg5)
          refine St.assign rfl rfl ?_
          refine St.done ?_
          refine SX.seq ?_
          refine SC.seq ?_
          refine SC.plain ?_
          refine St.move rfl rfl ?_
          refine St.neq rfl rfl rfl ?_
          refine St.done ?_
          refine SX.seq ?_
          refine SC.condp rfl (fun c32 => ?_) (fun c32 => ?_)
          · refine SC.seq ?_
            refine SC.plain ?_
            refine St.move rfl rfl ?_
            refine St.assign rfl rfl ?_
            refine St.done ?_
            refine SX.seq ?_
            refine SC.ret ?_
            refine SX.seq_ret ?_
            refine SX.blk_ret ?_
            refine SX.seq_ret ?_
            refine SX.blk_ret ?_
            refine SX.seq_ret ?_
            refine SX.blk_ret ?_
            refine SX.seq_ret ?_
            refine SX.ng_ret ?_
            exact SX.ret1 rfl rfl (AnsE.bad hm7 hne)
          · exfalso; omega
      · have hm3 := hm2.trans (ifR_neg (by omega))
        refine SC.seq ?_
        refine SC.plain ?_
        refine St.move rfl rfl ?_
        refine St.eql rfl rfl rfl ?_
        refine St.assign rfl rfl ?_
        refine St.done ?_
        refine SX.seq ?_
        refine SC.condp rfl (fun c34 => ?_) (fun c34 => ?_)
        · have hm4 := hm3.trans (ifR_pos (by omega))
          refine SC.exit ?_
          refine SX.miss rfl ?_
          refine SX.seq_exit ?_
          refine SX.miss rfl ?_
          refine SX.seq_exit ?_
          refine SX.hit ?_
          refine SX.seq ?_
          refine SC.seq ?_
          refine SC.plain ?_
          refine St.assign rfl rfl ?_
          refine St.done ?_
          refine SX.seq ?_
          refine SC.ret ?_
          refine SX.ng_ret ?_
          exact SX.ret1 rfl rfl (AnsE.ok hm4 hR2)
        · have hm4 := hm3.trans (ifR_neg (by omega))
          refine SC.seq ?_
          refine SC.plain ?_
          refine St.move rfl rfl ?_
          refine St.geq rfl rfl rfl ?_
          refine St.assign rfl rfl ?_
          refine St.done ?_
          refine SX.seq ?_
          refine SC.condp rfl (fun c37 => ?_) (fun c37 => ?_)
          · have hm5 := hm4.trans (ifR_pos (by omega))
            refine SC.weak L (.cons _ (.cons _ (.cons _ (List.Sublist.refl _)))) ?_
            refine SC.seq ?_
            refine SC.plain ?_
            refine St.assign rfl rfl ?_
            refine St.done ?_
            refine SX.seq ?_
            refine SC.ret ?_
            refine SX.blk_ret ?_
            refine SX.seq_ret ?_
            refine SX.blk_ret ?_
            refine SX.seq_ret ?_
            refine SX.blk_ret ?_
            refine SX.seq_ret ?_
            refine SX.ng_ret ?_
            exact SX.ret1 rfl rfl (AnsE.bad hm5 (by decide))
          · have hm5 := hm4.trans (ifR_neg (by omega))
            rw [Int.toNat_natCast] at hm5
            refine SC.skip ?_
            refine SX.blk ?_
            refine SX.seq ?_
            refine SC.seq ?_
            refine SC.plain ?_
            refine St.move rfl rfl ?_
            refine St.move rfl rfl ?_
            refine St.move rfl rfl ?_
            refine St.call [_, _, _] rfl (by kernel_rfl) rfl (imatch_spec w0 L p q rv v bs most t2 o E hR2 d pd ds (by omega) (by omega) hd0 hD) (fun _ _ _ _ h => h.nil) ?_
            rintro r5 L5 h5
            rcases h5.cases with ⟨a5, t5, o5, v5, E5, hg5, rfl, hR5, rfl⟩ | ⟨e, hg5, rfl, hne, rfl⟩
            · have hm7 := hm5.trans (bind_of hg5)
              have hgl := ((good_match _ _).mono hg5 hR2.at_).1
              refine St.assign rfl rfl ?_
              refine St.done ?_
              refine SX.seq ?_
              refine SC.seq ?_
              refine SC.plain ?_
              refine St.move rfl rfl ?_
              refine St.neq rfl rfl rfl ?_
              refine St.done ?_
              refine SX.seq ?_
              refine SC.condp rfl (fun c45 => ?_) (fun c45 => ?_)
              · exfalso; omega
              · refine SC.skip ?_
                refine SX.blk ?_
                exact SX.again (f, t5, o5, v5, E5) ⟨by simp only; omega, hR5, hm7⟩ (by simp only; omega) ⟨rfl, rfl, rfl, trivial⟩ (List.Perm.refl _)
            · have hm7 := hm5.trans (bind_bad hg5)
              refine St.assign rfl rfl ?_
              refine St.done ?_
              refine SX.seq ?_
              refine SC.seq ?_
              refine SC.plain ?_
              refine St.move rfl rfl ?_
              refine St.neq rfl rfl rfl ?_
              refine St.done ?_
              refine SX.seq ?_
              refine SC.condp rfl (fun c45 => ?_) (fun c45 => ?_)
              · refine SC.seq ?_
                refine SC.plain ?_
                refine St.move rfl rfl ?_
                refine St.assign rfl rfl ?_
                refine St.done ?_
                refine SX.seq ?_
                refine SC.ret ?_
                refine SX.blk_ret ?_
                refine SX.seq_ret ?_
                refine SX.blk_ret ?_
                refine SX.seq_ret ?_
                refine SX.ng_ret ?_
                exact SX.ret1 rfl rfl (AnsE.bad hm7 hne)
              · exfalso; omega
  · have hm2 := hmi.trans (bind_bad hg2)
    refine St.weak L (.cons _ (.cons _ (.cons _ (List.Sublist.refl _)))) ?_
    refine St.move rfl rfl ?_
    refine St.extract rfl rfl rfl ?_
    refine St.extract rfl rfl rfl ?_
    refine St.assign rfl rfl ?_
    refine St.assign rfl rfl ?_
    refine St.done ?_
    refine SX.seq ?_
    refine SC.seq ?_
    refine SC.block ?_
    refine SC.seq ?_
    refine SC.plain ?_
    refine St.move rfl rfl ?_
    refine St.neq rfl rfl rfl ?_
    refine St.assign rfl rfl ?_
    refine St.done ?_
    refine SX.seq ?_
    refine SC.condp rfl (fun c20 => ?_) (fun c20 => ?_)
    · refine SC.seq ?_
      refine SC.plain ?_
      refine St.move rfl rfl ?_
      refine St.assign rfl rfl ?_
      refine St.done ?_
      refine SX.seq ?_
      refine SC.ret ?_
      refine SX.blk_ret ?_
      refine SX.seq_ret ?_
      refine SX.blk_ret ?_
      refine SX.seq_ret ?_
      refine SX.blk_ret ?_
      refine SX.seq_ret ?_
      refine SX.ng_ret ?_
      exact SX.ret1 rfl rfl (AnsE.bad hm2 hne)
    · exfalso; omega
theorem istored_spec (w0 : World) (L : List Chunk) (p q : Nat) (rv ov : Value) (bs : List Nat) (most at_ : Nat) (out : List Nat) (Eo : Chunk) (hR : RIn w0 L rv bs most at_ out ov Eo) :
    Meets Try.prog 171 #[.pointer (some ⟨p, 0, none⟩)] w0 (RdL p q rv ov at_ most Eo L) (AnsE w0 (storedR bs most at_ out) p q rv bs most L) := by
  have hx := hR.rd
  have hl := hR.len
  have hb := hR.lt
  have hat := hR.at_
  have hmost := hR.big
  have hroom := hR.room
  refine Meets.of_body [.pointer (some ⟨p, 0, none⟩)] Try.func171 rfl Try.ntmps171 rfl ?_
  unfold RdL
  have hcp := hR.cap
  refine SC.seq ?_
  refine SC.plain ?_
  refine St.assign rfl rfl ?_
  refine St.done ?_
  refine SX.seq ?_
  refine SC.seq ?_
  refine SC.plain ?_
  refine St.move rfl rfl ?_
  refine St.nilCheck rfl rfl ?_
  refine St.fieldAddr (off := 0) rfl rfl (by kernel_rfl) ?_
  refine St.load rfl rfl (by kernel_rfl) (by first | exact Holds.row mem0 rfl | exact Holds.row mem1 rfl | exact Holds.row mem2 rfl | exact Holds.row mem3 rfl | exact Holds.row mem4 rfl | exact Holds.row mem5 rfl | exact Holds.row mem6 rfl | exact Holds.row mem7 rfl | exact Holds.row mem8 rfl) ?_
  refine St.perm _ (perm12 _ _ _) ?_
  refine St.call [_, _] rfl (by kernel_rfl) rfl (rbytes_spec w0 _ q at_ 4 rv bs (hx.mono fun w hw => hw.drop.drop) hcp hl hat (by omega)) (fun _ _ _ _ h => h.nil) ?_
  rintro r1 L1 (⟨hk4, v4, E4, rfl, hb4, rfl⟩ | ⟨hk4, rfl, rfl⟩)
  · have hm1 := stored_ok (most := most) (out := out) _ rfl hk4 hb
    have hb0 := getD_lt hb ((at_ + 7) / 8)
    have hb1 := getD_lt hb ((at_ + 7) / 8 + 1)
    have hb2 := getD_lt hb ((at_ + 7) / 8 + 2)
    have hb3 := getD_lt hb ((at_ + 7) / 8 + 3)
    obtain ⟨bb, ob, Ab, cb, rfl, hAb, hrb⟩ := hb4.read
    obtain rfl := hAb (by omega)
    have hrr := hrb w0 (E4 :: [⟨q, [rv, .int .i64 (((at_ + 7) / 8 * 8 + 8 * 4 : Nat) : Int)], 156⟩] :: [⟨p, [.pointer (some ⟨q, 0, none⟩), ov, .int .i64 ((most : Nat) : Int)], 178⟩] :: Eo :: L) (by simp)
    have hbl : ((bs.drop ((at_ + 7) / 8)).take 4).length = 4 := by rw [List.length_take, List.length_drop]; omega
    have hob : ∀ b ∈ (bs.drop ((at_ + 7) / 8)).take 4, b < 256 := fun b h => hb b (List.mem_of_mem_drop (List.mem_of_mem_take h))
    refine St.move rfl rfl ?_
    refine St.extract rfl rfl rfl ?_
    refine St.extract rfl rfl rfl ?_
    refine St.assign rfl rfl ?_
    refine St.assign rfl rfl ?_
    refine St.done ?_
    refine SX.seq ?_
    refine SC.seq ?_
    refine SC.seq ?_
    refine SC.plain ?_
    refine St.move rfl rfl ?_
    refine St.notB rfl rfl ?_
    refine St.done ?_
    refine SX.seq ?_
    refine SC.cond_false rfl ?_
    refine SC.skip ?_
    refine SX.seq ?_
    refine SC.seq ?_
    refine SC.drawn [(0, true), (1, true), (2, true), (3, true), (4, true), (5, true), (6, true), (7, true), (8, true)] [9, 10] (_) (by kernel_rfl) (by kernel_rfl) (fun _ h => h) ?_
    refine St.move rfl rfl ?_
    refine St.indexSl (e := 5) (sz := 1) rfl rfl rfl (by kernel_rfl) (by omega) ?_
    first | (refine St.loadB (i := 0) rfl rfl (by kernel_rfl) (HoldsN.mono hrr (fun w hw => by first | exact hw | exact hw.drop | exact hw.drop.drop | exact hw.drop.drop.drop | exact hw.drop.drop.drop.drop | exact hw.drop.drop.drop.drop.drop | exact hw.drop.drop.drop.drop.drop.drop | exact hw.drop.drop.drop.drop.drop.drop.drop | exact hw.drop.drop.drop.drop.drop.drop.drop.drop | exact hw.drop.drop.drop.drop.drop.drop.drop.drop.drop | exact hw.drop.drop.drop.drop.drop.drop.drop.drop.drop.drop | exact hw.drop.drop.drop.drop.drop.drop.drop.drop.drop.drop.drop | exact hw.drop.drop.drop.drop.drop.drop.drop.drop.drop.drop.drop.drop | exact hw.drop.drop.drop.drop.drop.drop.drop.drop.drop.drop.drop.drop.drop)) rfl (by omega) hob ?_; intro n21 e21 l21) | refine St.load rfl rfl (by kernel_rfl) (by first | exact Holds.row mem0 rfl | exact Holds.row mem1 rfl | exact Holds.row mem2 rfl | exact Holds.row mem3 rfl | exact Holds.row mem4 rfl | exact Holds.row mem5 rfl | exact Holds.row mem6 rfl | exact Holds.row mem7 rfl | exact Holds.row mem8 rfl) ?_
    refine St.convS rfl rfl (by kernel_rfl) (by kernel_rfl) (by omega) ?_
    refine St.move rfl rfl ?_
    refine St.indexSl (e := 5) (sz := 1) rfl rfl rfl (by kernel_rfl) (by omega) ?_
    first | (refine St.loadB (i := 1) rfl rfl (by kernel_rfl) (HoldsN.mono hrr (fun w hw => by first | exact hw | exact hw.drop | exact hw.drop.drop | exact hw.drop.drop.drop | exact hw.drop.drop.drop.drop | exact hw.drop.drop.drop.drop.drop | exact hw.drop.drop.drop.drop.drop.drop | exact hw.drop.drop.drop.drop.drop.drop.drop | exact hw.drop.drop.drop.drop.drop.drop.drop.drop | exact hw.drop.drop.drop.drop.drop.drop.drop.drop.drop | exact hw.drop.drop.drop.drop.drop.drop.drop.drop.drop.drop | exact hw.drop.drop.drop.drop.drop.drop.drop.drop.drop.drop.drop | exact hw.drop.drop.drop.drop.drop.drop.drop.drop.drop.drop.drop.drop | exact hw.drop.drop.drop.drop.drop.drop.drop.drop.drop.drop.drop.drop.drop)) rfl (by omega) hob ?_; intro n25 e25 l25) | refine St.load rfl rfl (by kernel_rfl) (by first | exact Holds.row mem0 rfl | exact Holds.row mem1 rfl | exact Holds.row mem2 rfl | exact Holds.row mem3 rfl | exact Holds.row mem4 rfl | exact Holds.row mem5 rfl | exact Holds.row mem6 rfl | exact Holds.row mem7 rfl | exact Holds.row mem8 rfl) ?_
    refine St.convS rfl rfl (by kernel_rfl) (by kernel_rfl) (by omega) ?_
    first | refine St.shlN (b := 8) rfl rfl rfl (by omega) (by omega) ?_ | refine St.shl rfl rfl rfl (by omega) ?_
    refine St.done ?_
    refine SX.tail ?_
    refine St.orN rfl rfl rfl (by omega) (by omega) ?_
    rw [Nat.or_comm, or8 _ _ l21]
    rw [part_at _ _ _ _ (by decide)] at e21 e25
    refine St.assign rfl rfl ?_
    refine St.done ?_
    refine SX.seq ?_
    refine SC.seq ?_
    refine SC.seq ?_
    refine SC.drawn [(0, true), (1, true), (2, true), (3, true), (4, true), (5, true), (6, true), (7, true), (8, true), (9, true), (10, true), (11, true), (12, true), (13, true), (14, true), (15, true)] [16, 17] (_) (by kernel_rfl) (by kernel_rfl) (fun _ h => h) ?_
    refine St.move rfl rfl ?_
    refine St.indexSl (e := 5) (sz := 1) rfl rfl rfl (by kernel_rfl) (by omega) ?_
    first | (refine St.loadB (i := 0) rfl rfl (by kernel_rfl) (HoldsN.mono hrr (fun w hw => by first | exact hw | exact hw.drop | exact hw.drop.drop | exact hw.drop.drop.drop | exact hw.drop.drop.drop.drop | exact hw.drop.drop.drop.drop.drop | exact hw.drop.drop.drop.drop.drop.drop | exact hw.drop.drop.drop.drop.drop.drop.drop | exact hw.drop.drop.drop.drop.drop.drop.drop.drop | exact hw.drop.drop.drop.drop.drop.drop.drop.drop.drop | exact hw.drop.drop.drop.drop.drop.drop.drop.drop.drop.drop | exact hw.drop.drop.drop.drop.drop.drop.drop.drop.drop.drop.drop | exact hw.drop.drop.drop.drop.drop.drop.drop.drop.drop.drop.drop.drop | exact hw.drop.drop.drop.drop.drop.drop.drop.drop.drop.drop.drop.drop.drop)) rfl (by omega) hob ?_; intro n31 e31 l31) | refine St.load rfl rfl (by kernel_rfl) (by first | exact Holds.row mem0 rfl | exact Holds.row mem1 rfl | exact Holds.row mem2 rfl | exact Holds.row mem3 rfl | exact Holds.row mem4 rfl | exact Holds.row mem5 rfl | exact Holds.row mem6 rfl | exact Holds.row mem7 rfl | exact Holds.row mem8 rfl) ?_
    refine St.move rfl rfl ?_
    refine St.indexSl (e := 5) (sz := 1) rfl rfl rfl (by kernel_rfl) (by omega) ?_
    first | (refine St.loadB (i := 2) rfl rfl (by kernel_rfl) (HoldsN.mono hrr (fun w hw => by first | exact hw | exact hw.drop | exact hw.drop.drop | exact hw.drop.drop.drop | exact hw.drop.drop.drop.drop | exact hw.drop.drop.drop.drop.drop | exact hw.drop.drop.drop.drop.drop.drop | exact hw.drop.drop.drop.drop.drop.drop.drop | exact hw.drop.drop.drop.drop.drop.drop.drop.drop | exact hw.drop.drop.drop.drop.drop.drop.drop.drop.drop | exact hw.drop.drop.drop.drop.drop.drop.drop.drop.drop.drop | exact hw.drop.drop.drop.drop.drop.drop.drop.drop.drop.drop.drop | exact hw.drop.drop.drop.drop.drop.drop.drop.drop.drop.drop.drop.drop | exact hw.drop.drop.drop.drop.drop.drop.drop.drop.drop.drop.drop.drop.drop)) rfl (by omega) hob ?_; intro n34 e34 l34) | refine St.load rfl rfl (by kernel_rfl) (by first | exact Holds.row mem0 rfl | exact Holds.row mem1 rfl | exact Holds.row mem2 rfl | exact Holds.row mem3 rfl | exact Holds.row mem4 rfl | exact Holds.row mem5 rfl | exact Holds.row mem6 rfl | exact Holds.row mem7 rfl | exact Holds.row mem8 rfl) ?_
    first | refine St.complU un8 rfl rfl (by omega) ?_ | refine St.compl rfl rfl ?_
    refine St.neq rfl rfl rfl ?_
    refine St.move rfl rfl ?_
    refine St.split 37 rfl (fun g37 => ?_) (fun g37 => ?_)
    · refine St.guard_no rfl rfl rfl ?_
      refine St.guard_no rfl rfl rfl ?_
      refine St.guard_no rfl rfl rfl ?_
      refine St.guard_no rfl rfl rfl ?_
      refine St.guard_no rfl rfl rfl ?_
      refine St.guard_no rfl rfl rfl ?_
      refine St.guard_no rfl rfl rfl ?_
      refine St.done ?_
      refine SX.tail ?_
      refine St.guard_no rfl rfl rfl ?_
      refine St.pick_true rfl rfl rfl ?_
      refine St.done ?_
      refine SX.seq ?_
      refine SC.cond_true rfl ?_
      refine SC.seq ?_
      refine SC.plain ?_
      refine St.assign rfl rfl ?_
      refine St.done ?_
      refine SX.seq ?_
      refine SC.ret ?_
      refine SX.seq_ret ?_
      rw [part_at _ _ _ _ (by decide)] at e31 e34
      rw [Nat.add_zero] at e31 e21
      have hs34 : ((256 - 1 - n34 : Nat) : Int) = 255 - (n34 : Int) := by omega
      rw [hs34] at g37
      refine SX.weak L (.cons _ (.cons _ (.cons _ (.cons _ (List.Sublist.refl _))))) ?_
      exact SX.ret1 rfl rfl (AnsE.bad (hm1.trans (ifR_neg (by omega))) (by decide))
    · refine St.guard_yes rfl rfl ?_
      refine St.move rfl rfl ?_
      refine St.guard_yes rfl rfl ?_
      refine St.indexSl (e := 5) (sz := 1) rfl rfl rfl (by kernel_rfl) (by omega) ?_
      refine St.guard_yes rfl rfl ?_
      first | (refine St.loadB (i := 1) rfl rfl (by kernel_rfl) (HoldsN.mono hrr (fun w hw => by first | exact hw | exact hw.drop | exact hw.drop.drop | exact hw.drop.drop.drop | exact hw.drop.drop.drop.drop | exact hw.drop.drop.drop.drop.drop | exact hw.drop.drop.drop.drop.drop.drop | exact hw.drop.drop.drop.drop.drop.drop.drop | exact hw.drop.drop.drop.drop.drop.drop.drop.drop | exact hw.drop.drop.drop.drop.drop.drop.drop.drop.drop | exact hw.drop.drop.drop.drop.drop.drop.drop.drop.drop.drop | exact hw.drop.drop.drop.drop.drop.drop.drop.drop.drop.drop.drop | exact hw.drop.drop.drop.drop.drop.drop.drop.drop.drop.drop.drop.drop | exact hw.drop.drop.drop.drop.drop.drop.drop.drop.drop.drop.drop.drop.drop)) rfl (by omega) hob ?_; intro n40 e40 l40) | refine St.load rfl rfl (by kernel_rfl) (by first | exact Holds.row mem0 rfl | exact Holds.row mem1 rfl | exact Holds.row mem2 rfl | exact Holds.row mem3 rfl | exact Holds.row mem4 rfl | exact Holds.row mem5 rfl | exact Holds.row mem6 rfl | exact Holds.row mem7 rfl | exact Holds.row mem8 rfl) ?_
      refine St.guard_yes rfl rfl ?_
      refine St.move rfl rfl ?_
      refine St.guard_yes rfl rfl ?_
      refine St.indexSl (e := 5) (sz := 1) rfl rfl rfl (by kernel_rfl) (by omega) ?_
      refine St.guard_yes rfl rfl ?_
      first | (refine St.loadB (i := 3) rfl rfl (by kernel_rfl) (HoldsN.mono hrr (fun w hw => by first | exact hw | exact hw.drop | exact hw.drop.drop | exact hw.drop.drop.drop | exact hw.drop.drop.drop.drop | exact hw.drop.drop.drop.drop.drop | exact hw.drop.drop.drop.drop.drop.drop | exact hw.drop.drop.drop.drop.drop.drop.drop | exact hw.drop.drop.drop.drop.drop.drop.drop.drop | exact hw.drop.drop.drop.drop.drop.drop.drop.drop.drop | exact hw.drop.drop.drop.drop.drop.drop.drop.drop.drop.drop | exact hw.drop.drop.drop.drop.drop.drop.drop.drop.drop.drop.drop | exact hw.drop.drop.drop.drop.drop.drop.drop.drop.drop.drop.drop.drop | exact hw.drop.drop.drop.drop.drop.drop.drop.drop.drop.drop.drop.drop.drop)) rfl (by omega) hob ?_; intro n43 e43 l43) | refine St.load rfl rfl (by kernel_rfl) (by first | exact Holds.row mem0 rfl | exact Holds.row mem1 rfl | exact Holds.row mem2 rfl | exact Holds.row mem3 rfl | exact Holds.row mem4 rfl | exact Holds.row mem5 rfl | exact Holds.row mem6 rfl | exact Holds.row mem7 rfl | exact Holds.row mem8 rfl) ?_
      refine St.guard_yes rfl rfl ?_
      first | refine St.complU un8 rfl rfl (by omega) ?_ | refine St.compl rfl rfl ?_
      refine St.done ?_
      refine SX.tail ?_
      refine St.guard_yes rfl rfl ?_
      refine St.neq rfl rfl rfl ?_
      refine St.pick_false rfl rfl rfl ?_
      refine St.done ?_
      refine SX.seq ?_
      refine SC.condp rfl (fun c46 => ?_) (fun c46 => ?_)
      · refine SC.seq ?_
        refine SC.plain ?_
        refine St.assign rfl rfl ?_
        refine St.done ?_
        refine SX.seq ?_
        refine SC.ret ?_
        refine SX.seq_ret ?_
        rw [part_at _ _ _ _ (by decide)] at e31 e34 e40 e43
        rw [Nat.add_zero] at e31 e21
        have hs34 : ((256 - 1 - n34 : Nat) : Int) = 255 - (n34 : Int) := by omega
        rw [hs34] at g37
        have hs43 : ((256 - 1 - n43 : Nat) : Int) = 255 - (n43 : Int) := by omega
        rw [hs43] at c46
        refine SX.weak L (.cons _ (.cons _ (.cons _ (.cons _ (List.Sublist.refl _))))) ?_
        exact SX.ret1 rfl rfl (AnsE.bad (hm1.trans (ifR_neg (by omega))) (by decide))
      · rw [part_at _ _ _ _ (by decide)] at e31 e34 e40 e43
        rw [Nat.add_zero] at e31 e21
        have hs34 : ((256 - 1 - n34 : Nat) : Int) = 255 - (n34 : Int) := by omega
        rw [hs34] at g37
        have hs43 : ((256 - 1 - n43 : Nat) : Int) = 255 - (n43 : Int) := by omega
        rw [hs43] at c46
        have hm2 : storedR bs most at_ out = storedBody (n25 * 256 + n21) bs most ((at_ + 7) / 8 * 8 + 8 * 4) out := by rw [hm1, ifR_pos (by omega), show bs.getD ((at_ + 7) / 8) 0 + 256 * bs.getD ((at_ + 7) / 8 + 1) 0 = n25 * 256 + n21 by omega, show 8 * ((at_ + 7) / 8) + 32 = (at_ + 7) / 8 * 8 + 8 * 4 by omega]
        have hR2 : RIn w0 L rv bs most ((at_ + 7) / 8 * 8 + 8 * 4) out ov Eo := ⟨hR.rd, hR.len, hR.lt, by omega, hR.big, hR.buf, hR.room, hR.outB, hR.cap⟩
        refine SC.weak _ (.cons _ (List.Sublist.refl _)) ?_
        refine SC.perm (RdL p q rv ov ((at_ + 7) / 8 * 8 + 8 * 4) most Eo L) (perm12 _ _ _) ?_
        refine SC.skip ?_
        refine SX.seq ?_
        refine SC.seq ?_
        refine SC.seq ?_
        refine SC.plain ?_
        refine St.move rfl rfl ?_
        refine St.move rfl rfl ?_
        refine St.done ?_
        refine SX.seq ?_
        refine SC.block ?_
        refine SC.loop (α := Nat × Nat × List Nat × Value × Chunk) (fun s_ => s_.1 ≤ n25 * 256 + n21 ∧ RIn w0 L rv bs most s_.2.1 s_.2.2.1 s_.2.2.2.1 s_.2.2.2.2 ∧ storedR bs most at_ out = storedBody (n25 * 256 + n21 - s_.1) bs most s_.2.1 s_.2.2.1 ∧ s_.2.1 % 8 = 0) (fun s_ => [(0, .pointer (some ⟨p, 0, none⟩)), (47, .int .i64 ((n25 * 256 + n21 : Nat) : Int)), (48, .int .i64 ((s_.1 : Nat) : Int))]) (fun s_ => RdL p q rv s_.2.2.2.1 s_.2.1 most s_.2.2.2.2 L) (fun s_ => n25 * 256 + n21 - s_.1) (0, _, out, _, Eo) ⟨Nat.zero_le _, hR2, hm2, by simp only; omega⟩ ⟨rfl, rfl, rfl, trivial⟩ (List.Perm.refl _) ?_
        rintro ⟨i, t, o, v, E⟩ ⟨hi, hRi, hmi, hti⟩
        simp only at hi hRi hmi hti
        show SC _ _ _ [(0, .pointer (some ⟨p, 0, none⟩)), (47, .int .i64 ((n25 * 256 + n21 : Nat) : Int)), (48, .int .i64 ((i : Nat) : Int))] (RdL p q rv v t most E L)
        have hati := hRi.at_
        unfold RdL
        refine SC.seq ?_
        refine SC.plain ?_
        refine St.lss rfl rfl rfl ?_
        refine St.done ?_
        refine SX.seq ?_
        refine SC.seq ?_
        refine SC.condp rfl (fun c49 => ?_) (fun c49 => ?_)
        · have hm6 := hmi.trans ((congrFun (congrFun (congrFun (congrFun (congrArg storedBody (show n25 * 256 + n21 - i = (n25 * 256 + n21 - (i + 1)) + 1 by omega)) bs) most) t) o).trans (body_succ _ _ _ _ _))
          refine SC.skip ?_
          refine SX.seq ?_
          refine SC.seq ?_
          refine SC.block ?_
          refine SC.seq ?_
          refine SC.plain ?_
          refine St.move rfl rfl ?_
          refine St.nilCheck rfl rfl ?_
          refine St.fieldAddr (off := 0) rfl rfl (by kernel_rfl) ?_
          refine St.load rfl rfl (by kernel_rfl) (by first | exact Holds.row mem0 rfl | exact Holds.row mem1 rfl | exact Holds.row mem2 rfl | exact Holds.row mem3 rfl | exact Holds.row mem4 rfl | exact Holds.row mem5 rfl | exact Holds.row mem6 rfl | exact Holds.row mem7 rfl | exact Holds.row mem8 rfl) ?_
          refine St.perm _ (perm12 _ _ _) ?_
          refine St.call [_, _] rfl (by kernel_rfl) rfl (rbytes_spec w0 _ q t 1 rv bs (hx.mono fun w hw => hw.drop.drop) hcp hl hRi.at_ (by omega)) (fun _ _ _ _ h => h.nil) ?_
          rintro r2 L2 (⟨hk1, v1, E1, rfl, hb1, rfl⟩ | ⟨hk1, rfl, rfl⟩)
          · have hm7 := hm6.trans (bind_of (takeR_ok (by omega)))
            obtain ⟨bb, ob, Ab, cb, rfl, hAb, hrb⟩ := hb1.read
            obtain rfl := hAb (by omega)
            rw [show (t + 7) / 8 * 8 + 8 * 1 = t + 8 by omega]
            have hrr := hrb w0 (E1 :: [⟨q, [rv, .int .i64 ((t + 8 : Nat) : Int)], 156⟩] :: [⟨p, [.pointer (some ⟨q, 0, none⟩), v, .int .i64 ((most : Nat) : Int)], 178⟩] :: E :: L) (by simp)
            have hbl : ((bs.drop ((t + 7) / 8)).take 1).length = 1 := by rw [List.length_take, List.length_drop]; omega
            have hob : ∀ b ∈ (bs.drop ((t + 7) / 8)).take 1, b < 256 := fun b h => hb b (List.mem_of_mem_drop (List.mem_of_mem_take h))
            have hR3 : RIn w0 L rv bs most (t + 8) o v E := ⟨hRi.rd, hRi.len, hRi.lt, by omega, hRi.big, hRi.buf, hRi.room, hRi.outB, hRi.cap⟩
            refine St.move rfl rfl ?_
            refine St.extract rfl rfl rfl ?_
            refine St.extract rfl rfl rfl ?_
            refine St.assign rfl rfl ?_
            refine St.assign rfl rfl ?_
            refine St.done ?_
            refine SX.seq ?_
            refine SC.seq ?_
            refine SC.seq ?_
            refine SC.plain ?_
            refine St.move rfl rfl ?_
            refine St.notB rfl rfl ?_
            refine St.done ?_
            refine SX.seq ?_
            refine SC.cond_false rfl ?_
            refine SC.skip ?_
            refine SX.seq ?_
            refine SC.seq ?_
            refine SC.plain ?_
            refine St.move rfl rfl ?_
            refine St.move rfl rfl ?_
            refine St.indexSl (e := 5) (sz := 1) rfl rfl rfl (by kernel_rfl) (by omega) ?_
            first | (refine St.loadB (i := 0) rfl rfl (by kernel_rfl) (HoldsN.mono hrr (fun w hw => by first | exact hw | exact hw.drop | exact hw.drop.drop | exact hw.drop.drop.drop | exact hw.drop.drop.drop.drop | exact hw.drop.drop.drop.drop.drop | exact hw.drop.drop.drop.drop.drop.drop | exact hw.drop.drop.drop.drop.drop.drop.drop | exact hw.drop.drop.drop.drop.drop.drop.drop.drop | exact hw.drop.drop.drop.drop.drop.drop.drop.drop.drop | exact hw.drop.drop.drop.drop.drop.drop.drop.drop.drop.drop | exact hw.drop.drop.drop.drop.drop.drop.drop.drop.drop.drop.drop | exact hw.drop.drop.drop.drop.drop.drop.drop.drop.drop.drop.drop.drop | exact hw.drop.drop.drop.drop.drop.drop.drop.drop.drop.drop.drop.drop.drop)) rfl (by omega) hob ?_; intro n63 e63 l63) | refine St.load rfl rfl (by kernel_rfl) (by first | exact Holds.row mem0 rfl | exact Holds.row mem1 rfl | exact Holds.row mem2 rfl | exact Holds.row mem3 rfl | exact Holds.row mem4 rfl | exact Holds.row mem5 rfl | exact Holds.row mem6 rfl | exact Holds.row mem7 rfl | exact Holds.row mem8 rfl) ?_
            have hn8 : takeN bs t 8 = n63 := by rw [e63, part_at _ _ _ _ (by decide)]; have h8 := take8 bs (t / 8) hb; rw [show 8 * (t / 8) = t by omega] at h8; rw [h8, show (t + 7) / 8 + 0 = t / 8 by omega]
            rw [hn8] at hm7
            refine St.weak _ (.cons _ (List.Sublist.refl _)) ?_
            refine St.perm (RdL p q rv v (t + 8) most E L) (perm12 _ _ _) ?_
            refine St.call [_, _] rfl (by kernel_rfl) rfl (iput_spec w0 L p q rv v bs most (t + 8) o E hR3 n63 l63) (fun _ _ _ _ h => h.nil) ?_
            rintro r5 L5 h5
            rcases h5.cases with ⟨a5, t5, o5, v5, E5, hg5, rfl, hR5, rfl⟩ | ⟨e, hg5, rfl, hne, rfl⟩
            · have hm8 := hm7.trans (bind_of hg5)
              have hti5 : t5 % 8 = 0 := by unfold putR at hg5; split at hg5; cases hg5; simp only [Got.ok.injEq] at hg5; omega
              refine St.assign rfl rfl ?_
              refine St.done ?_
              refine SX.seq ?_
              refine SC.seq ?_
              refine SC.plain ?_
              refine St.move rfl rfl ?_
              refine St.neq rfl rfl rfl ?_
              refine St.done ?_
              refine SX.seq ?_
              refine SC.condp rfl (fun c66 => ?_) (fun c66 => ?_)
              · exfalso; omega
              · refine SC.skip ?_
                refine SX.blk ?_
                refine SX.seq ?_
                refine SC.plain ?_
                first | refine St.addN (b := 1) rfl rfl rfl (by omega) ?_ | refine St.addI rfl rfl rfl (by omega) ?_
                refine St.move rfl rfl ?_
                refine St.done ?_
                exact SX.again (i + 1, t5, o5, v5, E5) ⟨by simp only; omega, hR5, hm8, hti5⟩ (by simp only; omega) ⟨rfl, rfl, rfl, trivial⟩ (List.Perm.refl _)
            · have hm8 := hm7.trans (bind_bad hg5)
              refine St.assign rfl rfl ?_
              refine St.done ?_
              refine SX.seq ?_
              refine SC.seq ?_
              refine SC.plain ?_
              refine St.move rfl rfl ?_
              refine St.neq rfl rfl rfl ?_
              refine St.done ?_
              refine SX.seq ?_
              refine SC.condp rfl (fun c66 => ?_) (fun c66 => ?_)
              · refine SC.seq ?_
                refine SC.plain ?_
                refine St.move rfl rfl ?_
                refine St.assign rfl rfl ?_
                refine St.done ?_
                refine SX.seq ?_
                refine SC.ret ?_
                refine SX.blk_ret ?_
                refine SX.seq_ret ?_
                refine SX.seq_ret ?_
                refine SX.blk_ret ?_
                refine SX.seq_ret ?_
                exact SX.ret1 rfl rfl (AnsE.bad hm8 hne)
              · exfalso; omega
          · have hm7 := hm6.trans (bind_bad (takeR_bad (by omega)))
            refine St.weak L (.cons _ (.cons _ (.cons _ (List.Sublist.refl _)))) ?_
            refine St.move rfl rfl ?_
            refine St.extract rfl rfl rfl ?_
            refine St.extract rfl rfl rfl ?_
            refine St.assign rfl rfl ?_
            refine St.assign rfl rfl ?_
            refine St.done ?_
            refine SX.seq ?_
            refine SC.seq ?_
            refine SC.seq ?_
            refine SC.plain ?_
            refine St.move rfl rfl ?_
            refine St.notB rfl rfl ?_
            refine St.done ?_
            refine SX.seq ?_
            refine SC.cond_true rfl ?_
            refine SC.seq ?_
            refine SC.plain ?_
            refine St.assign rfl rfl ?_
            refine St.done ?_
            refine SX.seq ?_
            refine SC.ret ?_
            refine SX.seq_ret ?_
            refine SX.blk_ret ?_
            refine SX.seq_ret ?_
            refine SX.seq_ret ?_
            refine SX.blk_ret ?_
            refine SX.seq_ret ?_
            exact SX.ret1 rfl rfl (AnsE.bad hm7 (by decide))
        · refine SC.exit ?_
          refine SX.seq_exit ?_
          refine SX.seq_exit ?_
          refine SX.hit ?_
          refine SX.seq ?_
          refine SC.seq ?_
          refine SC.plain ?_
          refine St.assign rfl rfl ?_
          refine St.done ?_
          refine SX.seq ?_
          refine SC.ret ?_
          have hie : n25 * 256 + n21 - i = 0 := by omega
          rw [hie] at hmi
          exact SX.ret1 rfl rfl (AnsE.ok hmi hRi)
  · have hm1 : storedR bs most at_ out = _ := stored_bad hk4
    refine St.weak L (.cons _ (.cons _ (.cons _ (List.Sublist.refl _)))) ?_
    refine St.move rfl rfl ?_
    refine St.extract rfl rfl rfl ?_
    refine St.extract rfl rfl rfl ?_
    refine St.assign rfl rfl ?_
    refine St.assign rfl rfl ?_
    refine St.done ?_
    refine SX.seq ?_
    refine SC.seq ?_
    refine SC.seq ?_
    refine SC.plain ?_
    refine St.move rfl rfl ?_
    refine St.notB rfl rfl ?_
    refine St.done ?_
    refine SX.seq ?_
    refine SC.cond_true rfl ?_
    refine SC.seq ?_
    refine SC.plain ?_
    refine St.assign rfl rfl ?_
    refine St.done ?_
    refine SX.seq ?_
    refine SC.ret ?_
    refine SX.seq_ret ?_
    exact SX.ret1 rfl rfl (AnsE.bad hm1 (by decide))
end Go.Proofs.Ytahafepgmkiabaa
