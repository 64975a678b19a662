/- Walks: the codes of lengths, the program's and the document's. -/
import Derived.Test.YtahafepgmkiabaaH1
set_option linter.unusedVariables false
set_option linter.unusedSimpArgs false
set_option linter.ambiguousOpen false
namespace Go.Proofs.Ytahafepgmkiabaa
open Go Go.Proofs.Ytahafepgmkiabaa.Sep

def u32s (xs : List Int) : List Value := xs.map (Value.int .u32)
theorem u32s_length (xs : List Int) : (u32s xs).length = xs.length := by simp [u32s]
theorem u32s_set (xs : List Int) (i : Nat) (n : Int) : (u32s xs).set (0 + (i : Int).toNat * 1) (.int .u32 n) = u32s (xs.set i n) := by
  have : 0 + (i : Int).toNat * 1 = i := by omega
  rw [this]; simp [u32s]
theorem u32s_zero (n : Nat) : List.replicate n (Value.int .u32 0) = u32s (List.replicate n 0) := by simp [u32s]
def up1 (n : Int) : Int := IntKind.u32.wrap (n + 1)
def shl1 (n : Int) : Int := IntKind.u32.wrap (n * 2 ^ (min (1 : Int).toNat IntKind.u32.bits))
def cInner (l : Int) (xs : List Int) : Nat → List Int × Int → List Int × Int
  | 0, s => s
  | i + 1, s => if xs.getD i 0 = l then ((cInner l xs i s).1.set i (cInner l xs i s).2, up1 (cInner l xs i s).2) else cInner l xs i s
def cOuter (xs : List Int) : Nat → List Int × Int
  | 0 => (List.replicate xs.length 0, 0)
  | k + 1 => cInner ((k : Int) + 1) xs xs.length ((cOuter xs k).1, shl1 (cOuter xs k).2)
def codesOf (xs : List Int) : List Int := (cOuter xs 15).1
theorem cInner_len (l : Int) (xs : List Int) : ∀ i s, (cInner l xs i s).1.length = s.1.length
  | 0, s => rfl
  | i + 1, s => by
    have ih := cInner_len l xs i s
    simp only [cInner]
    split
    · simpa using ih
    · exact ih
theorem cOuter_len (xs : List Int) : ∀ k, (cOuter xs k).1.length = xs.length
  | 0 => by simp [cOuter]
  | k + 1 => by simp only [cOuter, cInner_len]; exact cOuter_len xs k
theorem codesOf_len (xs : List Int) : (codesOf xs).length = xs.length := cOuter_len xs 15
theorem cInner_yes {l : Int} {xs : List Int} {i : Nat} {s : List Int × Int} (h : xs.getD i 0 = l) : cInner l xs (i + 1) s = ((cInner l xs i s).1.set i (cInner l xs i s).2, up1 (cInner l xs i s).2) := by simp only [cInner, if_pos h]
theorem cInner_no {l : Int} {xs : List Int} {i : Nat} {s : List Int × Int} (h : ¬ xs.getD i 0 = l) : cInner l xs (i + 1) s = cInner l xs i s := by simp only [cInner, if_neg h]
/-- Which error lengths make: 1, 3, or none. -/
def codesE (xs : List Int) : Int := if lensOk xs = false ∨ 400 < xs.length then 1 else if 32768 < kraft xs then 3 else 0
def CodesR (xs : List Int) (L : List Chunk) (r : Value) (L' : List Chunk) : Prop :=
  (codesE xs ≠ 0 ∧ r = .tuple #[.slice none 0 0, .int .i64 (codesE xs)] ∧ L' = L) ∨
    (codesE xs = 0 ∧ ∃ b, r = .tuple #[.slice (some ⟨b, 0, none⟩) xs.length xs.length, .int .i64 0] ∧ L' = [⟨b, u32s (codesOf xs), 33⟩] :: L)

theorem complete_spec (w0 : World) (L : List Chunk) (v : Value) (xs : List Int) (hx : Rd w0 L v 1 xs.length (ints xs)) (hl : xs.length ≤ 35184372088832) :
    Meets Try.prog 33 #[v] w0 L (fun r L' => L = L' ∧ r = .bool (lensOk xs && decide (kraft xs = 32768))) := by
  refine Meets.of_body [v] Try.func33 rfl Try.ntmps33 rfl ?_
  refine SC.seq ?_
  refine SC.plain ?_
  refine St.assign rfl rfl ?_
  refine St.done ?_
  refine SX.seq ?_
  refine SC.seq ?_
  refine SC.plain ?_
  refine St.move rfl rfl ?_
  refine St.call [v] rfl (by kernel_rfl) rfl (count_spec w0 L v xs hx hl) (fun _ _ _ _ h => h.nil) ?_
  rintro r L1 ⟨rfl, rfl⟩
  refine St.move rfl rfl ?_
  refine St.extract rfl rfl rfl ?_
  refine St.extract rfl rfl rfl ?_
  refine St.assign rfl rfl ?_
  refine St.assign rfl rfl ?_
  refine St.done ?_
  refine SX.seq ?_
  refine SC.seq ?_
  refine SC.plain ?_
  refine St.move rfl rfl ?_
  refine St.move rfl rfl ?_
  refine St.splitB 11 rfl (fun hok => ?_) (fun hok => ?_)
  · rw [hok]
    refine St.guard_yes rfl rfl ?_
    refine St.move rfl rfl ?_
    refine St.guard_yes rfl rfl ?_
    refine St.eql rfl rfl rfl ?_
    refine St.pick_true rfl rfl rfl ?_
    refine St.assign rfl rfl ?_
    refine St.done ?_
    refine SX.seq ?_
    refine SC.ret ?_
    refine SX.ret1 rfl rfl ⟨rfl, ?_⟩
    simp
  · refine St.guard_no rfl rfl rfl ?_
    refine St.guard_no rfl rfl rfl ?_
    refine St.pick_false rfl rfl rfl ?_
    refine St.assign rfl rfl ?_
    refine St.done ?_
    refine SX.seq ?_
    refine SC.ret ?_
    refine SX.ret1 rfl rfl ⟨rfl, ?_⟩
    rw [hok]; rfl
theorem codes_spec (w0 : World) (L : List Chunk) (v : Value) (xs : List Int) (hx : Rd w0 L v 1 xs.length (ints xs)) (hl : xs.length ≤ 35184372088832) :
    Meets Try.prog 30 #[v] w0 L (CodesR xs L) := by
  have hx' := hx
  obtain ⟨_, b, o, A, c, rfl, hA, hr⟩ := hx'
  refine Meets.of_body [.slice A xs.length c] Try.func30 rfl Try.ntmps30 rfl ?_
  refine SC.seq ?_
  refine SC.plain ?_
  refine St.assign rfl rfl ?_
  refine St.assign rfl rfl ?_
  refine St.done ?_
  refine SX.seq ?_
  refine SC.seq ?_
  refine SC.plain ?_
  refine St.move rfl rfl ?_
  refine St.call [.slice A xs.length c] rfl (by kernel_rfl) rfl (count_spec w0 L _ xs hx hl) (fun _ _ _ _ h => h.nil) ?_
  rintro r L1 ⟨rfl, rfl⟩
  refine St.move rfl rfl ?_
  refine St.extract rfl rfl rfl ?_
  refine St.extract rfl rfl rfl ?_
  refine St.assign rfl rfl ?_
  refine St.assign rfl rfl ?_
  refine St.done ?_
  refine SX.seq ?_
  refine SC.seq ?_
  refine SC.block ?_
  refine SC.seq ?_
  refine SC.plain ?_
  refine St.move rfl rfl ?_
  refine St.notB rfl rfl ?_
  refine St.move rfl rfl ?_
  refine St.splitB 19 rfl (fun hok => ?_) (fun hok => ?_)
  · have hok2 : lensOk xs = false := by simpa using hok
    have hE : codesE xs = 1 := if_pos (.inl hok2)
    refine St.guard_no rfl rfl rfl ?_
    refine St.guard_no rfl rfl rfl ?_
    refine St.guard_no rfl rfl rfl ?_
    refine St.pick_true rfl rfl rfl ?_
    refine St.assign rfl rfl ?_
    refine St.done ?_
    refine SX.seq ?_
    refine SC.cond_true rfl ?_
    refine SC.seq ?_
    refine SC.plain ?_
    refine St.assign rfl rfl ?_
    refine St.assign rfl rfl ?_
    refine St.done ?_
    refine SX.seq ?_
    refine SC.ret ?_
    refine SX.blk_ret ?_
    refine SX.seq_ret ?_
    refine SX.ret2 rfl rfl rfl (.inl ⟨by rw [hE]; decide, by rw [hE], rfl⟩)
  · have hok2 : lensOk xs = true := by simpa using hok
    refine St.guard_yes rfl rfl ?_
    refine St.move rfl rfl ?_
    refine St.guard_yes rfl rfl ?_
    refine St.lenSl rfl rfl (by kernel_rfl) ?_
    refine St.guard_yes rfl rfl ?_
    refine St.gtr rfl rfl rfl ?_
    refine St.pick_false rfl rfl rfl ?_
    refine St.assign rfl rfl ?_
    refine St.done ?_
    refine SX.seq ?_
    refine SC.condp rfl (fun c16 => ?_) (fun c16 => ?_)
    · refine SC.seq ?_
      refine SC.plain ?_
      refine St.assign rfl rfl ?_
      refine St.assign rfl rfl ?_
      refine St.done ?_
      refine SX.seq ?_
      refine SC.ret ?_
      refine SX.blk_ret ?_
      refine SX.seq_ret ?_
      have hE : codesE xs = 1 := if_pos (.inr (by omega))
      refine SX.ret2 rfl rfl rfl (.inl ⟨by rw [hE]; decide, by rw [hE], rfl⟩)
    · refine SC.seq ?_
      refine SC.plain ?_
      refine St.move rfl rfl ?_
      refine St.gtr rfl rfl rfl ?_
      refine St.assign rfl rfl ?_
      refine St.done ?_
      refine SX.seq ?_
      refine SC.condp rfl (fun c24 => ?_) (fun c24 => ?_)
      · have hE : codesE xs = 3 := by unfold codesE; rw [hok2] at c24; rw [if_neg (by simp [hok2]; omega), if_pos (by simpa using c24)]
        refine SC.seq ?_
        refine SC.plain ?_
        refine St.assign rfl rfl ?_
        refine St.assign rfl rfl ?_
        refine St.done ?_
        refine SX.seq ?_
        refine SC.ret ?_
        refine SX.blk_ret ?_
        refine SX.seq_ret ?_
        refine SX.ret2 rfl rfl rfl (.inl ⟨by rw [hE]; decide, by rw [hE], rfl⟩)
      · have hE : codesE xs = 0 := by unfold codesE; rw [hok2] at c24; rw [if_neg (by simp [hok2]; omega), if_neg (by simpa using c24)]
        refine SC.skip ?_
        refine SX.blk ?_
        refine SX.seq ?_
        refine SC.seq ?_
        refine SC.plain ?_
        refine St.move rfl rfl ?_
        refine St.lenSl rfl rfl (by kernel_rfl) ?_
        refine St.makeSl (e := 33) (zv := .int .u32 0) (bytes := 4) rfl rfl rfl (by kernel_rfl) (by omega) (by omega) (by omega) (fun _ _ h => h.nil) (fun p => ?_)
        rw [Int.toNat_natCast, u32s_zero]
        refine St.assign rfl rfl ?_
        refine St.done ?_
        refine SX.seq ?_
        refine SC.seq ?_
        refine SC.plain ?_
        refine St.assign rfl rfl ?_
        refine St.done ?_
        refine SX.seq ?_
        refine SC.seq ?_
        refine SC.seq ?_
        refine SC.plain ?_
        refine St.assign rfl rfl ?_
        refine St.done ?_
        refine SX.seq ?_
        refine SC.block ?_
        refine SC.loop (α := Nat) (fun k => k ≤ 15) (fun k => [(0, .slice A xs.length c), (6, .slice (some ⟨p, 0, none⟩) xs.length xs.length), (7, .int .u32 (cOuter xs k).2), (8, .int .i64 ((k : Int) + 1))]) (fun k => [⟨p, u32s (cOuter xs k).1, 33⟩] :: L) (fun k => 15 - k) 0 (by omega) ⟨rfl, rfl, rfl, rfl, trivial⟩ (List.Perm.refl _) ?_
        intro k hk
        refine SC.seq ?_
        refine SC.seq ?_
        refine SC.plain ?_
        refine St.move rfl rfl ?_
        refine St.leq rfl rfl rfl ?_
        refine St.done ?_
        refine SX.seq ?_
        refine SC.condp rfl (fun c31 => ?_) (fun c31 => ?_)
        · refine SC.skip ?_
          refine SX.seq ?_
          refine SC.seq ?_
          refine SC.block ?_
          refine SC.seq ?_
          refine SC.plain ?_
          refine St.move rfl rfl ?_
          refine St.shl rfl rfl rfl (by omega) ?_
          refine St.assign rfl rfl ?_
          refine St.done ?_
          refine SX.seq ?_
          refine SC.seq ?_
          refine SC.plain ?_
          refine St.move rfl rfl ?_
          refine St.lenSl rfl rfl (by kernel_rfl) ?_
          refine St.move rfl rfl ?_
          refine St.done ?_
          refine SX.seq ?_
          refine SC.block ?_
          refine SC.loop (α := Nat) (fun i => i ≤ xs.length) (fun i => [(0, .slice A xs.length c), (6, .slice (some ⟨p, 0, none⟩) xs.length xs.length), (7, .int .u32 (cInner ((k : Int) + 1) xs i ((cOuter xs k).1, shl1 (cOuter xs k).2)).2), (8, .int .i64 ((k : Int) + 1)), (36, .slice A xs.length c), (37, .int .i64 xs.length), (38, .int .i64 i)]) (fun i => [⟨p, u32s (cInner ((k : Int) + 1) xs i ((cOuter xs k).1, shl1 (cOuter xs k).2)).1, 33⟩] :: L) (fun i => xs.length - i) 0 (by omega) ⟨rfl, rfl, rfl, rfl, rfl, rfl, rfl, trivial⟩ (List.Perm.refl _) ?_
          intro i hi
          refine SC.seq ?_
          refine SC.plain ?_
          refine St.lss rfl rfl rfl ?_
          refine St.done ?_
          refine SX.seq ?_
          refine SC.seq ?_
          refine SC.condp rfl (fun c39 => ?_) (fun c39 => ?_)
          · have hlt : i < xs.length := by omega
            have hAe := hA (by omega)
            subst hAe
            have hlen : (u32s (cInner ((k : Int) + 1) xs i ((cOuter xs k).1, shl1 (cOuter xs k).2)).1).length = xs.length := by rw [u32s_length, cInner_len]; exact cOuter_len xs k
            refine SC.skip ?_
            refine SX.seq ?_
            refine SC.seq ?_
            refine SC.block ?_
            refine SC.seq ?_
            refine SC.plain ?_
            refine St.move rfl rfl ?_
            refine St.indexSl (e := 3) (sz := 1) rfl rfl rfl (by kernel_rfl) (by omega) ?_
            refine St.load rfl rfl (by kernel_rfl) (hr.cons.nat i (by omega)) ?_
            refine St.assign rfl rfl ?_
            refine St.assign rfl rfl ?_
            refine St.done ?_
            refine SX.seq ?_
            refine SC.seq ?_
            refine SC.plain ?_
            refine St.move rfl rfl ?_
            refine St.move rfl rfl ?_
            refine St.eql rfl rfl rfl ?_
            refine St.done ?_
            refine SX.seq ?_
            refine SC.condp rfl (fun c45 => ?_) (fun c45 => ?_)
            · have hs := cInner_yes (s := ((cOuter xs k).1, shl1 (cOuter xs k).2)) c45
              refine SC.seq ?_
              refine SC.plain ?_
              refine St.move rfl rfl ?_
              refine St.move rfl rfl ?_
              refine St.move rfl rfl ?_
              refine St.indexSl (e := 33) (sz := 1) rfl rfl rfl (by kernel_rfl) (by omega) ?_
              refine St.store rfl rfl rfl rfl (by kernel_rfl) (by omega) (fun _ h => h.nil) ?_
              rw [u32s_set]
              refine St.done ?_
              refine SX.seq ?_
              refine SC.plain ?_
              refine St.move rfl rfl ?_
              refine St.add rfl rfl rfl ?_
              refine St.assign rfl rfl ?_
              refine St.done ?_
              refine SX.blk ?_
              refine SX.seq ?_
              refine SC.plain ?_
              refine St.addI rfl rfl rfl (by omega) ?_
              refine St.move rfl rfl ?_
              refine St.done ?_
              refine SX.again (i + 1) (by omega) (by show xs.length - (i + 1) < xs.length - i; omega) ⟨rfl, rfl, by rw [hs]; rfl, rfl, rfl, rfl, rfl, trivial⟩ (by rw [hs])
            · have hs := cInner_no (s := ((cOuter xs k).1, shl1 (cOuter xs k).2)) c45
              refine SC.skip ?_
              refine SX.blk ?_
              refine SX.seq ?_
              refine SC.plain ?_
              refine St.addI rfl rfl rfl (by omega) ?_
              refine St.move rfl rfl ?_
              refine St.done ?_
              refine SX.again (i + 1) (by omega) (by show xs.length - (i + 1) < xs.length - i; omega) ⟨rfl, rfl, by rw [hs]; rfl, rfl, rfl, rfl, rfl, trivial⟩ (by rw [hs])
          · have hie : i = xs.length := by omega
            subst hie
            refine SC.exit ?_
            refine SX.seq_exit ?_
            refine SX.seq_exit ?_
            refine SX.hit ?_
            refine SX.blk ?_
            refine SX.seq ?_
            refine SC.plain ?_
            refine St.move rfl rfl ?_
            refine St.addI rfl rfl rfl (by omega) ?_
            refine St.assign rfl rfl ?_
            refine St.done ?_
            refine SX.again (k + 1) (by omega) (by show 15 - (k + 1) < 15 - k; omega) ⟨rfl, rfl, rfl, rfl, trivial⟩ (List.Perm.refl _)
        · have hke : k = 15 := by omega
          subst hke
          refine SC.exit ?_
          refine SX.seq_exit ?_
          refine SX.seq_exit ?_
          refine SX.hit ?_
          refine SX.seq ?_
          refine SC.seq ?_
          refine SC.plain ?_
          refine St.move rfl rfl ?_
          refine St.assign rfl rfl ?_
          refine St.assign rfl rfl ?_
          refine St.done ?_
          refine SX.seq ?_
          refine SC.ret ?_
          refine SX.ret2 rfl rfl rfl (.inr ⟨hE, p, rfl, rfl⟩)
end Go.Proofs.Ytahafepgmkiabaa
