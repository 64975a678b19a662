/- Walks: the document's codes of lengths; costs. -/
import Derived.Test.YtahafepgmkiabaaH2
set_option linter.unusedVariables false
set_option linter.unusedSimpArgs false
set_option linter.ambiguousOpen false
namespace Go.Proofs.Ytahafepgmkiabaa
open Go Go.Proofs.Ytahafepgmkiabaa.Sep

def weightOf (xs : List Int) : Int := if lensOk xs then kraft xs else -1
def dot (a b : List Int) : Nat → Int
  | 0 => 0
  | i + 1 => dot a b i + a.getD i 0 * b.getD i 0

theorem weight_spec (w0 : World) (L : List Chunk) (v : Value) (xs : List Int) (hx : Rd w0 L v 1 xs.length (ints xs)) (hl : xs.length ≤ 35184372088832) :
    Meets Try.prog 104 #[v] w0 L (fun r L' => L = L' ∧ r = .int .i64 (weightOf xs)) := by
  have hx' := hx
  obtain ⟨_, b, o, A, c, rfl, hA, hr⟩ := hx'
  refine Meets.of_body [.slice A xs.length c] Try.func104 rfl Try.ntmps104 rfl ?_
  refine SC.seq ?_
  refine SC.plain ?_
  refine St.assign rfl rfl ?_
  refine St.done ?_
  refine SX.seq ?_
  refine SC.seq ?_
  refine SC.plain ?_
  refine St.assign rfl rfl ?_
  refine St.done ?_
  refine SX.seq ?_
  refine SC.seq ?_
  refine SC.seq ?_
  refine SC.plain ?_
  refine St.assign rfl rfl ?_
  refine St.done ?_
  refine SX.seq ?_
  refine SC.block ?_
  refine SC.loop (α := Nat) (fun i => i ≤ xs.length ∧ lensOk (xs.take i) = true) (fun i => [(0, .slice A xs.length c), (3, .int .i64 (kraft (xs.take i))), (4, .int .i64 i)]) (fun _ => L) (fun i => xs.length - i) 0 ⟨by omega, rfl⟩ ⟨rfl, rfl, rfl, trivial⟩ (List.Perm.refl _) ?_
  intro i ⟨hi, hok⟩
  refine SC.seq ?_
  refine SC.seq ?_
  refine SC.plain ?_
  refine St.move rfl rfl ?_
  refine St.move rfl rfl ?_
  refine St.lenSl rfl rfl (by kernel_rfl) ?_
  refine St.lss rfl rfl rfl ?_
  refine St.done ?_
  refine SX.seq ?_
  refine SC.condp rfl (fun c8 => ?_) (fun c8 => ?_)
  · have hlt : i < xs.length := by omega
    have hAe := hA (by omega)
    subst hAe
    have hk0 := kraft_bd (xs.take i)
    have hkl : (xs.take i).length ≤ xs.length := by rw [List.length_take]; omega
    refine SC.skip ?_
    refine SX.seq ?_
    refine SC.seq ?_
    refine SC.block ?_
    refine SC.seq ?_
    refine SC.seq ?_
    refine SC.plain ?_
    refine St.move rfl rfl ?_
    refine St.move rfl rfl ?_
    refine St.indexSl (e := 3) (sz := 1) rfl rfl rfl (by kernel_rfl) (by omega) ?_
    refine St.load rfl rfl (by kernel_rfl) (hr.nat i (by omega)) ?_
    refine St.lss rfl rfl rfl ?_
    refine St.move rfl rfl ?_
    refine St.split 16 rfl (fun g16 => ?_) (fun g16 => ?_)
    · refine St.guard_no rfl rfl rfl ?_
      refine St.guard_no rfl rfl rfl ?_
      refine St.guard_no rfl rfl rfl ?_
      refine St.guard_no rfl rfl rfl ?_
      refine St.guard_no rfl rfl rfl ?_
      refine St.pick_true rfl rfl rfl ?_
      refine St.done ?_
      refine SX.seq ?_
      refine SC.cond_true rfl ?_
      refine SC.seq ?_
      refine SC.plain ?_
      refine St.assign rfl rfl ?_
      refine St.done ?_
      refine SX.seq ?_
      refine SC.ret ?_
      refine SX.seq_ret ?_
      refine SX.blk_ret ?_
      refine SX.seq_ret ?_
      refine SX.seq_ret ?_
      refine SX.blk_ret ?_
      refine SX.seq_ret ?_
      refine SX.ret1 rfl rfl ⟨rfl, ?_⟩
      rw [weightOf, lens_bad xs i hlt (by omega)]; rfl
    · refine St.guard_yes rfl rfl ?_
      refine St.move rfl rfl ?_
      refine St.guard_yes rfl rfl ?_
      refine St.move rfl rfl ?_
      refine St.guard_yes rfl rfl ?_
      refine St.indexSl (e := 3) (sz := 1) rfl rfl rfl (by kernel_rfl) (by omega) ?_
      refine St.guard_yes rfl rfl ?_
      refine St.load rfl rfl (by kernel_rfl) (hr.nat i (by omega)) ?_
      refine St.guard_yes rfl rfl ?_
      refine St.gtr rfl rfl rfl ?_
      refine St.pick_false rfl rfl rfl ?_
      refine St.done ?_
      refine SX.seq ?_
      refine SC.condp rfl (fun c22 => ?_) (fun c22 => ?_)
      · refine SC.seq ?_
        refine SC.plain ?_
        refine St.assign rfl rfl ?_
        refine St.done ?_
        refine SX.seq ?_
        refine SC.ret ?_
        refine SX.seq_ret ?_
        refine SX.blk_ret ?_
        refine SX.seq_ret ?_
        refine SX.seq_ret ?_
        refine SX.blk_ret ?_
        refine SX.seq_ret ?_
        refine SX.ret1 rfl rfl ⟨rfl, ?_⟩
        rw [weightOf, lens_bad xs i hlt (by omega)]; rfl
      · refine SC.skip ?_
        refine SX.seq ?_
        refine SC.seq ?_
        refine SC.plain ?_
        refine St.move rfl rfl ?_
        refine St.move rfl rfl ?_
        refine St.indexSl (e := 3) (sz := 1) rfl rfl rfl (by kernel_rfl) (by omega) ?_
        refine St.load rfl rfl (by kernel_rfl) (hr.nat i (by omega)) ?_
        refine St.gtr rfl rfl rfl ?_
        refine St.done ?_
        refine SX.seq ?_
        refine SC.condp rfl (fun c27 => ?_) (fun c27 => ?_)
        · have hok2 := lens_next xs i hlt hok (by omega)
          have hk2 : kraft (xs.take (i + 1)) = kraft (xs.take i) + share (xs.getD i 0) := by rw [take_snocI xs i hlt, kraft_snoc]
          have hsb := share_bd (xs.getD i 0)
          refine SC.plain ?_
          refine St.move rfl rfl ?_
          refine St.move rfl rfl ?_
          refine St.move rfl rfl ?_
          refine St.indexSl (e := 3) (sz := 1) rfl rfl rfl (by kernel_rfl) (by omega) ?_
          refine St.load rfl rfl (by kernel_rfl) (hr.nat i (by omega)) ?_
          refine St.subI rfl rfl rfl (by omega) ?_
          refine St.shl rfl rfl rfl (by omega) ?_
          rw [shl_share _ (by omega)]
          refine St.addI rfl rfl rfl (by omega) ?_
          refine St.assign rfl rfl ?_
          refine St.done ?_
          refine SX.blk ?_
          refine SX.seq ?_
          refine SC.plain ?_
          refine St.move rfl rfl ?_
          refine St.addI rfl rfl rfl (by omega) ?_
          refine St.assign rfl rfl ?_
          refine St.done ?_
          refine SX.again (i + 1) ⟨by omega, hok2⟩ (by show xs.length - (i + 1) < xs.length - i; omega) ⟨rfl, by rw [hk2]; rfl, rfl, trivial⟩ (List.Perm.refl _)
        · have hok2 := lens_next xs i hlt hok (by omega)
          have hk2 : kraft (xs.take (i + 1)) = kraft (xs.take i) := by rw [take_snocI xs i hlt, kraft_snoc, show share (xs.getD i 0) = 0 from if_neg (by omega)]; omega
          refine SC.skip ?_
          refine SX.blk ?_
          refine SX.seq ?_
          refine SC.plain ?_
          refine St.move rfl rfl ?_
          refine St.addI rfl rfl rfl (by omega) ?_
          refine St.assign rfl rfl ?_
          refine St.done ?_
          refine SX.again (i + 1) ⟨by omega, hok2⟩ (by show xs.length - (i + 1) < xs.length - i; omega) ⟨rfl, by rw [hk2]; rfl, rfl, trivial⟩ (List.Perm.refl _)
  · have hie : i = xs.length := by omega
    subst hie
    rw [List.take_length] at hok ⊢
    refine SC.exit ?_
    refine SX.seq_exit ?_
    refine SX.seq_exit ?_
    refine SX.hit ?_
    refine SX.seq ?_
    refine SC.seq ?_
    refine SC.plain ?_
    refine St.move rfl rfl ?_
    refine St.assign rfl rfl ?_
    refine St.done ?_
    refine SX.seq ?_
    refine SC.ret ?_
    refine SX.ret1 rfl rfl ⟨rfl, ?_⟩
    rw [weightOf, hok]; rfl
theorem rcomplete_spec (w0 : World) (L : List Chunk) (v : Value) (xs : List Int) (hx : Rd w0 L v 1 xs.length (ints xs)) (hl : xs.length ≤ 35184372088832) :
    Meets Try.prog 34 #[v] w0 L (fun r L' => L = L' ∧ r = .bool (decide (weightOf xs = 32768))) := by
  refine Meets.of_body [v] Try.func34 rfl Try.ntmps34 rfl ?_
  refine SC.seq ?_
  refine SC.plain ?_
  refine St.assign rfl rfl ?_
  refine St.done ?_
  refine SX.seq ?_
  refine SC.seq ?_
  refine SC.plain ?_
  refine St.move rfl rfl ?_
  refine St.call [v] rfl (by kernel_rfl) rfl (weight_spec w0 L v xs hx hl) (fun _ _ _ _ h => h.nil) ?_
  rintro r L1 ⟨rfl, rfl⟩
  refine St.eql rfl rfl rfl ?_
  refine St.assign rfl rfl ?_
  refine St.done ?_
  refine SX.seq ?_
  refine SC.ret ?_
  exact SX.ret1 rfl rfl ⟨rfl, rfl⟩
theorem rcodes_spec (w0 : World) (L : List Chunk) (v : Value) (xs : List Int) (hx : Rd w0 L v 1 xs.length (ints xs)) (hl : xs.length ≤ 35184372088832) :
    Meets Try.prog 31 #[v] w0 L (CodesR xs L) := by
  have hk0 := kraft_bd xs
  have hw : weightOf xs < 0 ↔ lensOk xs = false := by
    unfold weightOf
    cases lensOk xs with
    | true => simp; omega
    | false => simp
  have hx' := hx
  obtain ⟨_, b, o, A, c, rfl, hA, hr⟩ := hx'
  refine Meets.of_body [.slice A xs.length c] Try.func31 rfl Try.ntmps31 rfl ?_
  refine SC.seq ?_
  refine SC.plain ?_
  refine St.assign rfl rfl ?_
  refine St.assign rfl rfl ?_
  refine St.done ?_
  refine SX.seq ?_
  refine SC.seq ?_
  refine SC.seq ?_
  refine SC.plain ?_
  refine St.move rfl rfl ?_
  refine St.lenSl rfl rfl (by kernel_rfl) ?_
  refine St.gtr rfl rfl rfl ?_
  refine St.move rfl rfl ?_
  refine St.split 11 rfl (fun g11 => ?_) (fun g11 => ?_)
  · have hE : codesE xs = 1 := if_pos (.inr (by omega))
    refine St.guard_no rfl rfl rfl ?_
    refine St.guard_no rfl rfl rfl ?_
    refine St.guard_no rfl rfl rfl ?_
    refine St.pick_true rfl rfl rfl ?_
    refine St.done ?_
    refine SX.seq ?_
    refine SC.cond_true rfl ?_
    refine SC.seq ?_
    refine SC.plain ?_
    refine St.assign rfl rfl ?_
    refine St.assign rfl rfl ?_
    refine St.done ?_
    refine SX.seq ?_
    refine SC.ret ?_
    refine SX.seq_ret ?_
    refine SX.ret2 rfl rfl rfl (.inl ⟨by rw [hE]; decide, by rw [hE], rfl⟩)
  · refine St.guard_yes rfl rfl ?_
    refine St.move rfl rfl ?_
    refine St.guard_yes rfl rfl ?_
    refine St.call [.slice A xs.length c] rfl (by kernel_rfl) rfl (weight_spec w0 L _ xs hx hl) (fun _ _ _ _ h => h.nil) ?_
    rintro r L1 ⟨rfl, rfl⟩
    refine St.guard_yes rfl rfl ?_
    refine St.lss rfl rfl rfl ?_
    refine St.pick_false rfl rfl rfl ?_
    refine St.done ?_
    refine SX.seq ?_
    refine SC.condp rfl (fun c15 => ?_) (fun c15 => ?_)
    · have hE : codesE xs = 1 := if_pos (.inl (hw.1 c15))
      refine SC.seq ?_
      refine SC.plain ?_
      refine St.assign rfl rfl ?_
      refine St.assign rfl rfl ?_
      refine St.done ?_
      refine SX.seq ?_
      refine SC.ret ?_
      refine SX.seq_ret ?_
      refine SX.ret2 rfl rfl rfl (.inl ⟨by rw [hE]; decide, by rw [hE], rfl⟩)
    · have hok2 : lensOk xs = true := by cases h : lensOk xs with | true => rfl | false => exact absurd (hw.2 h) c15
      have hw2 : weightOf xs = kraft xs := by rw [weightOf, hok2]; rfl
      refine SC.skip ?_
      refine SX.seq ?_
      refine SC.seq ?_
      refine SC.seq ?_
      refine SC.plain ?_
      refine St.move rfl rfl ?_
      refine St.call [.slice A xs.length c] rfl (by kernel_rfl) rfl (weight_spec w0 L _ xs hx hl) (fun _ _ _ _ h => h.nil) ?_
      rintro r L1 ⟨rfl, rfl⟩
      refine St.gtr rfl rfl rfl ?_
      refine St.done ?_
      refine SX.seq ?_
      refine SC.condp rfl (fun c18 => ?_) (fun c18 => ?_)
      · have hE : codesE xs = 3 := by unfold codesE; rw [if_neg (by simp [hok2]; omega), if_pos (by omega)]
        refine SC.seq ?_
        refine SC.plain ?_
        refine St.assign rfl rfl ?_
        refine St.assign rfl rfl ?_
        refine St.done ?_
        refine SX.seq ?_
        refine SC.ret ?_
        refine SX.seq_ret ?_
        refine SX.ret2 rfl rfl rfl (.inl ⟨by rw [hE]; decide, by rw [hE], rfl⟩)
      · have hE : codesE xs = 0 := by unfold codesE; rw [if_neg (by simp [hok2]; omega), if_neg (by omega)]
        refine SC.skip ?_
        refine SX.seq ?_
        refine SC.seq ?_
        refine SC.plain ?_
        refine St.move rfl rfl ?_
        refine St.lenSl rfl rfl (by kernel_rfl) ?_
        refine St.makeSl (e := 33) (zv := .int .u32 0) (bytes := 4) rfl rfl rfl (by kernel_rfl) (by omega) (by omega) (by omega) (fun _ _ h => h.nil) (fun p => ?_)
        rw [Int.toNat_natCast, u32s_zero]
        refine St.assign rfl rfl ?_
        refine St.done ?_
        refine SX.seq ?_
        refine SC.seq ?_
        refine SC.plain ?_
        refine St.assign rfl rfl ?_
        refine St.done ?_
        refine SX.seq ?_
        refine SC.seq ?_
        refine SC.seq ?_
        refine SC.plain ?_
        refine St.assign rfl rfl ?_
        refine St.done ?_
        refine SX.seq ?_
        refine SC.block ?_
        refine SC.loop (α := Nat) (fun k => k ≤ 15) (fun k => [(0, .slice A xs.length c), (4, .slice (some ⟨p, 0, none⟩) xs.length xs.length), (5, .int .u32 (cOuter xs k).2), (6, .int .i64 ((k : Int) + 1))]) (fun k => [⟨p, u32s (cOuter xs k).1, 33⟩] :: L) (fun k => 15 - k) 0 (by omega) ⟨rfl, rfl, rfl, rfl, trivial⟩ (List.Perm.refl _) ?_
        intro k hk
        refine SC.seq ?_
        refine SC.seq ?_
        refine SC.plain ?_
        refine St.move rfl rfl ?_
        refine St.leq rfl rfl rfl ?_
        refine St.done ?_
        refine SX.seq ?_
        refine SC.condp rfl (fun c23 => ?_) (fun c23 => ?_)
        · refine SC.skip ?_
          refine SX.seq ?_
          refine SC.seq ?_
          refine SC.block ?_
          refine SC.seq ?_
          refine SC.plain ?_
          refine St.move rfl rfl ?_
          refine St.shl rfl rfl rfl (by omega) ?_
          refine St.assign rfl rfl ?_
          refine St.done ?_
          refine SX.seq ?_
          refine SC.seq ?_
          refine SC.plain ?_
          refine St.assign rfl rfl ?_
          refine St.done ?_
          refine SX.seq ?_
          refine SC.block ?_
          refine SC.loop (α := Nat) (fun i => i ≤ xs.length) (fun i => [(0, .slice A xs.length c), (4, .slice (some ⟨p, 0, none⟩) xs.length xs.length), (5, .int .u32 (cInner ((k : Int) + 1) xs i ((cOuter xs k).1, shl1 (cOuter xs k).2)).2), (6, .int .i64 ((k : Int) + 1)), (7, .int .i64 i)]) (fun i => [⟨p, u32s (cInner ((k : Int) + 1) xs i ((cOuter xs k).1, shl1 (cOuter xs k).2)).1, 33⟩] :: L) (fun i => xs.length - i) 0 (by omega) ⟨rfl, rfl, rfl, rfl, rfl, trivial⟩ (List.Perm.refl _) ?_
          intro i hi
          refine SC.seq ?_
          refine SC.seq ?_
          refine SC.plain ?_
          refine St.move rfl rfl ?_
          refine St.move rfl rfl ?_
          refine St.lenSl rfl rfl (by kernel_rfl) ?_
          refine St.lss rfl rfl rfl ?_
          refine St.done ?_
          refine SX.seq ?_
          refine SC.condp rfl (fun c31 => ?_) (fun c31 => ?_)
          · have hlt : i < xs.length := by omega
            have hAe := hA (by omega)
            subst hAe
            have hlen : (u32s (cInner ((k : Int) + 1) xs i ((cOuter xs k).1, shl1 (cOuter xs k).2)).1).length = xs.length := by rw [u32s_length, cInner_len]; exact cOuter_len xs k
            refine SC.skip ?_
            refine SX.seq ?_
            refine SC.seq ?_
            refine SC.block ?_
            refine SC.seq ?_
            refine SC.plain ?_
            refine St.move rfl rfl ?_
            refine St.move rfl rfl ?_
            refine St.indexSl (e := 3) (sz := 1) rfl rfl rfl (by kernel_rfl) (by omega) ?_
            refine St.load rfl rfl (by kernel_rfl) (hr.cons.nat i (by omega)) ?_
            refine St.move rfl rfl ?_
            refine St.eql rfl rfl rfl ?_
            refine St.done ?_
            refine SX.seq ?_
            refine SC.condp rfl (fun c39 => ?_) (fun c39 => ?_)
            · have hs := cInner_yes (s := ((cOuter xs k).1, shl1 (cOuter xs k).2)) c39
              refine SC.seq ?_
              refine SC.plain ?_
              refine St.move rfl rfl ?_
              refine St.move rfl rfl ?_
              refine St.move rfl rfl ?_
              refine St.indexSl (e := 33) (sz := 1) rfl rfl rfl (by kernel_rfl) (by omega) ?_
              refine St.store rfl rfl rfl rfl (by kernel_rfl) (by omega) (fun _ h => h.nil) ?_
              rw [u32s_set]
              refine St.done ?_
              refine SX.seq ?_
              refine SC.plain ?_
              refine St.move rfl rfl ?_
              refine St.add rfl rfl rfl ?_
              refine St.assign rfl rfl ?_
              refine St.done ?_
              refine SX.blk ?_
              refine SX.seq ?_
              refine SC.plain ?_
              refine St.move rfl rfl ?_
              refine St.addI rfl rfl rfl (by omega) ?_
              refine St.assign rfl rfl ?_
              refine St.done ?_
              refine SX.again (i + 1) (by omega) (by show xs.length - (i + 1) < xs.length - i; omega) ⟨rfl, rfl, by rw [hs]; rfl, rfl, rfl, trivial⟩ (by rw [hs])
            · have hs := cInner_no (s := ((cOuter xs k).1, shl1 (cOuter xs k).2)) c39
              refine SC.skip ?_
              refine SX.blk ?_
              refine SX.seq ?_
              refine SC.plain ?_
              refine St.move rfl rfl ?_
              refine St.addI rfl rfl rfl (by omega) ?_
              refine St.assign rfl rfl ?_
              refine St.done ?_
              refine SX.again (i + 1) (by omega) (by show xs.length - (i + 1) < xs.length - i; omega) ⟨rfl, rfl, by rw [hs]; rfl, rfl, rfl, trivial⟩ (by rw [hs])
          · have hie : i = xs.length := by omega
            subst hie
            refine SC.exit ?_
            refine SX.seq_exit ?_
            refine SX.seq_exit ?_
            refine SX.hit ?_
            refine SX.blk ?_
            refine SX.seq ?_
            refine SC.plain ?_
            refine St.move rfl rfl ?_
            refine St.addI rfl rfl rfl (by omega) ?_
            refine St.assign rfl rfl ?_
            refine St.done ?_
            refine SX.again (k + 1) (by omega) (by show 15 - (k + 1) < 15 - k; omega) ⟨rfl, rfl, rfl, rfl, trivial⟩ (List.Perm.refl _)
        · have hke : k = 15 := by omega
          subst hke
          refine SC.exit ?_
          refine SX.seq_exit ?_
          refine SX.seq_exit ?_
          refine SX.hit ?_
          refine SX.seq ?_
          refine SC.seq ?_
          refine SC.plain ?_
          refine St.move rfl rfl ?_
          refine St.assign rfl rfl ?_
          refine St.assign rfl rfl ?_
          refine St.done ?_
          refine SX.seq ?_
          refine SC.ret ?_
          refine SX.ret2 rfl rfl rfl (.inr ⟨hE, p, rfl, rfl⟩)
theorem cost_spec (w0 : World) (L : List Chunk) (v v' : Value) (xs ys : List Int) (hx : Rd w0 L v 1 xs.length (ints xs)) (hy : Rd w0 L v' 1 ys.length (ints ys)) (hl : xs.length ≤ 400) (hl2 : ys.length ≤ 400)
    (hbx : ∀ i, 0 ≤ xs.getD i 0 ∧ xs.getD i 0 ≤ 1073741824) (hby : ∀ i, 0 ≤ ys.getD i 0 ∧ ys.getD i 0 ≤ 1000) :
    Meets Try.prog 72 #[v, v'] w0 L (fun r L' => L = L' ∧ r = .int .i64 (dot xs ys (min xs.length ys.length))) := by
  have hx' := hx
  obtain ⟨_, b, o, A, c, rfl, hA, hr⟩ := hx'
  have hy' := hy
  obtain ⟨_, b', o', A', c', rfl, hA', hr'⟩ := hy'
  have hdb : ∀ i, 0 ≤ dot xs ys i ∧ dot xs ys i ≤ 1073741824000 * i := by
    intro i
    induction i with
    | zero => exact ⟨Int.le_refl _, by simp [dot]⟩
    | succ i ih =>
      have h1 := hbx i
      have h2 := hby i
      have h3 : 0 ≤ xs.getD i 0 * ys.getD i 0 := Int.mul_nonneg h1.1 h2.1
      have h4 : xs.getD i 0 * ys.getD i 0 ≤ 1073741824 * 1000 := Int.mul_le_mul h1.2 h2.2 h2.1 (by omega)
      simp only [dot]
      omega
  refine Meets.of_body [.slice A xs.length c, .slice A' ys.length c'] Try.func72 rfl Try.ntmps72 rfl ?_
  refine SC.seq ?_
  refine SC.plain ?_
  refine St.assign rfl rfl ?_
  refine St.done ?_
  refine SX.seq ?_
  refine SC.seq ?_
  refine SC.plain ?_
  refine St.assign rfl rfl ?_
  refine St.done ?_
  refine SX.seq ?_
  refine SC.seq ?_
  refine SC.seq ?_
  refine SC.plain ?_
  refine St.move rfl rfl ?_
  refine St.lenSl rfl rfl (by kernel_rfl) ?_
  refine St.move rfl rfl ?_
  refine St.lenSl rfl rfl (by kernel_rfl) ?_
  refine St.min2 rfl rfl rfl ?_
  refine St.move rfl rfl ?_
  refine St.done ?_
  refine SX.seq ?_
  refine SC.block ?_
  refine SC.loop (α := Nat) (fun i => i ≤ min xs.length ys.length) (fun i => [(0, .slice A xs.length c), (1, .slice A' ys.length c'), (5, .int .i64 (dot xs ys i)), (11, .int .i64 (min (xs.length : Int) ys.length)), (12, .int .i64 i)]) (fun _ => L) (fun i => min xs.length ys.length - i) 0 (by omega) ⟨rfl, rfl, rfl, rfl, rfl, trivial⟩ (List.Perm.refl _) ?_
  intro i hi
  refine SC.seq ?_
  refine SC.plain ?_
  refine St.lss rfl rfl rfl ?_
  refine St.done ?_
  refine SX.seq ?_
  refine SC.seq ?_
  refine SC.condp rfl (fun c13 => ?_) (fun c13 => ?_)
  · have hlt : i < xs.length := by omega
    have hlt2 : i < ys.length := by omega
    have hAe := hA (by omega)
    have hAe2 := hA' (by omega)
    subst hAe hAe2
    have hd := hdb i
    have hd2 := hdb (i + 1)
    have h1 := hbx i
    have h2 := hby i
    have h3 : 0 ≤ xs.getD i 0 * ys.getD i 0 := Int.mul_nonneg h1.1 h2.1
    have h4 : xs.getD i 0 * ys.getD i 0 ≤ 1073741824 * 1000 := Int.mul_le_mul h1.2 h2.2 h2.1 (by omega)
    refine SC.skip ?_
    refine SX.seq ?_
    refine SC.seq ?_
    refine SC.block ?_
    refine SC.seq ?_
    refine SC.plain ?_
    refine St.move rfl rfl ?_
    refine St.assign rfl rfl ?_
    refine St.done ?_
    refine SX.seq ?_
    refine SC.drawn [(0, true), (1, true), (2, true), (3, true), (4, true), (5, true), (6, true), (7, true), (8, true), (9, true), (10, true), (11, true)] [] (L) (by kernel_rfl) (by kernel_rfl) (fun _ h => h) ?_
    refine St.move rfl rfl ?_
    refine St.move rfl rfl ?_
    refine St.move rfl rfl ?_
    refine St.indexSl (e := 3) (sz := 1) rfl rfl rfl (by kernel_rfl) (by omega) ?_
    refine St.load rfl rfl (by kernel_rfl) (hr.nat i (by omega)) ?_
    refine St.move rfl rfl ?_
    refine St.move rfl rfl ?_
    refine St.indexSl (e := 3) (sz := 1) rfl rfl rfl (by kernel_rfl) (by omega) ?_
    refine St.load rfl rfl (by kernel_rfl) (hr'.nat i (by omega)) ?_
    refine St.mulI rfl rfl rfl (by omega) ?_
    refine St.addI rfl rfl rfl (by omega) ?_
    refine St.assign rfl rfl ?_
    refine St.done ?_
    refine SX.tail ?_
    refine St.done ?_
    refine SX.blk ?_
    refine SX.seq ?_
    refine SC.plain ?_
    refine St.addI rfl rfl rfl (by omega) ?_
    refine St.move rfl rfl ?_
    refine St.done ?_
    refine SX.again (i + 1) (by omega) (by show min xs.length ys.length - (i + 1) < min xs.length ys.length - i; omega) ⟨rfl, rfl, rfl, rfl, rfl, trivial⟩ (List.Perm.refl _)
  · have hie : i = min xs.length ys.length := by omega
    subst hie
    refine SC.exit ?_
    refine SX.seq_exit ?_
    refine SX.seq_exit ?_
    refine SX.hit ?_
    refine SX.seq ?_
    refine SC.seq ?_
    refine SC.plain ?_
    refine St.move rfl rfl ?_
    refine St.assign rfl rfl ?_
    refine St.done ?_
    refine SX.seq ?_
    refine SC.ret ?_
    exact SX.ret1 rfl rfl ⟨rfl, rfl⟩
end Go.Proofs.Ytahafepgmkiabaa
