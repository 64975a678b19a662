/- Walks: slices.Grow of nothing, slices.Concat, for coins and for numbers. -/
import Derived.Test.YtahafepgmkiabaaSepS
import Derived.Test.YtahafepgmkiabaaY1
set_option linter.unusedVariables false
set_option linter.unusedSimpArgs false
set_option linter.ambiguousOpen false
namespace Go.Proofs.Ytahafepgmkiabaa
open Go Go.Proofs.Ytahafepgmkiabaa.Sep

theorem growC_spec (w0 : World) (L : List Chunk) (n : Nat) (hn : n ≤ 4000000000000) :
    Meets Try.prog 178 #[.slice none 0 0, .int .i64 ((n : Nat) : Int)] w0 L (fun r L' => ∃ E, L' = E :: L ∧ Buf 194 2 r [] 0 E) := by
  refine Meets.of_body [.slice none 0 0, .int .i64 ((n : Nat) : Int)] Try.func178 rfl Try.ntmps178 rfl ?_
  refine SC.seq ?_
  refine SC.plain ?_
  refine St.assign rfl rfl ?_
  refine St.done ?_
  refine SX.seq ?_
  refine SC.seq ?_
  refine SC.seq ?_
  refine SC.plain ?_
  refine St.move rfl rfl ?_
  refine St.lss rfl rfl rfl ?_
  refine St.done ?_
  refine SX.seq ?_
  refine SC.condp rfl (fun c6 => ?_) (fun c6 => ?_)
  · exfalso; omega
  · refine SC.skip ?_
    refine SX.seq ?_
    refine SC.seq ?_
    refine SC.seq ?_
    refine SC.plain ?_
    refine St.move rfl rfl ?_
    refine St.move rfl rfl ?_
    refine St.capSl rfl rfl (by kernel_rfl) ?_
    refine St.move rfl rfl ?_
    refine St.lenSl rfl rfl (by kernel_rfl) ?_
    first | refine St.subN rfl rfl rfl (by omega) (by omega) ?_ | refine St.subI rfl rfl rfl (by omega) ?_
    first | refine St.subN rfl rfl rfl (by omega) (by omega) ?_ | refine St.subI rfl rfl rfl (by omega) ?_
    refine St.assign rfl rfl ?_
    refine St.done ?_
    refine SX.seq ?_
    refine SC.seq ?_
    refine SC.plain ?_
    refine St.move rfl rfl ?_
    refine St.gtr rfl rfl rfl ?_
    refine St.done ?_
    refine SX.seq ?_
    refine SC.condp rfl (fun c16 => ?_) (fun c16 => ?_)
    · refine SC.plain ?_
      refine St.move rfl rfl ?_
      refine St.move rfl rfl ?_
      refine St.capSl rfl rfl (by kernel_rfl) ?_
      refine St.cut (e := 194) (sz := 2) (l := 0) (h := 0) (m := 0) rfl rfl (by kernel_rfl) rfl ⟨_, _, rfl, rfl⟩ rfl (by omega) (by omega) (by omega) (by decide) ?_
      refine St.move rfl rfl ?_
      refine St.appendZ (n := n) (e := 194) (sz := 2) (bytes := 32) rfl rfl rfl (by kernel_rfl) (by kernel_rfl) (by omega) (by omega) (by omega) (by omega) (fun _ _ _ h => h.nil) (fun b cap cs hcap hcs => ?_)
      refine St.move rfl rfl ?_
      refine St.lenSl rfl rfl (by kernel_rfl) ?_
      refine St.cut (e := 194) (sz := 2) (l := 0) (h := 0) (m := cap) rfl rfl (by kernel_rfl) rfl ⟨_, _, rfl, rfl⟩ rfl (by omega) (by omega) (by omega) (by decide) ?_
      refine St.assign rfl rfl ?_
      refine St.done ?_
      refine SX.seq ?_
      refine SC.seq ?_
      refine SC.plain ?_
      refine St.move rfl rfl ?_
      refine St.assign rfl rfl ?_
      refine St.done ?_
      refine SX.seq ?_
      refine SC.ret ?_
      exact SX.ret1 rfl rfl ⟨_, rfl, by rw [if_neg (by omega)]; exact Buf.made (xs := []) (by simp) (by omega) (by omega)⟩
    · refine SC.skip ?_
      refine SX.seq ?_
      refine SC.seq ?_
      refine SC.plain ?_
      refine St.move rfl rfl ?_
      refine St.assign rfl rfl ?_
      refine St.done ?_
      refine SX.seq ?_
      refine SC.ret ?_
      refine SX.perm ([] :: L) (List.Perm.refl _) ?_
      exact SX.ret1 rfl rfl ⟨_, rfl, Buf.nil _ _⟩
theorem catC_spec (w0 : World) (L : List Chunk) (u : Value) (us : List (Value × Nat × List Value)) (hr : Rd w0 L u 1 us.length (us.map (fun u => u.1))) (hus : ∀ x ∈ us, Rd w0 L x.1 2 x.2.1 x.2.2 ∧ ∀ c ∈ x.2.2, one c = true) (hn : tot us ≤ 4000000000000) (hk : us.length ≤ 4000000000000) :
    Meets Try.prog 133 #[u] w0 L (fun r L' => ∃ E, L' = E :: L ∧ Buf 194 2 r (us.flatMap (fun u => u.2.2)) (tot us) E) := by
  obtain ⟨_, bu, ou, Au, cu, rfl, hAu, hhu⟩ := hr
  refine Meets.of_body [.slice Au us.length cu] Try.func133 rfl Try.ntmps133 rfl ?_
  refine SC.seq ?_
  refine SC.plain ?_
  refine St.assign rfl rfl ?_
  refine St.done ?_
  refine SX.seq ?_
  refine SC.seq ?_
  refine SC.plain ?_
  refine St.assign rfl rfl ?_
  refine St.done ?_
  refine SX.seq ?_
  refine SC.seq ?_
  refine SC.seq ?_
  refine SC.plain ?_
  refine St.move rfl rfl ?_
  refine St.lenSl rfl rfl (by kernel_rfl) ?_
  refine St.move rfl rfl ?_
  refine St.done ?_
  refine SX.seq ?_
  refine SC.block ?_
  refine SC.loop (α := Nat × Nat × List (Value × Nat × List Value) × List (Value × Nat × List Value)) (fun s => us = s.2.2.1 ++ s.2.2.2 ∧ s.1 = s.2.2.1.length ∧ s.2.1 = tot s.2.2.1) (fun s => [(0, .slice Au us.length cu), (3, .int .i64 ((s.2.1 : Nat) : Int)), (9, .slice Au us.length cu), (10, .int .i64 ((us.length : Nat) : Int)), (11, .int .i64 ((s.1 : Nat) : Int))]) (fun _ => L) (fun s => us.length - s.1) (0, 0, [], us) ⟨rfl, rfl, rfl⟩ ⟨rfl, rfl, rfl, rfl, rfl, trivial⟩ (List.Perm.refl _) ?_
  rintro ⟨i, s, d, r⟩ ⟨hu, hi, hs⟩
  simp only at hu hi hs ⊢
  have hul := congrArg List.length hu
  rw [List.length_append] at hul
  refine SC.seq ?_
  refine SC.plain ?_
  refine St.lss rfl rfl rfl ?_
  refine St.done ?_
  refine SX.seq ?_
  refine SC.seq ?_
  refine SC.condp rfl (fun c12 => ?_) (fun c12 => ?_)
  · obtain ⟨⟨xv, xn, xs⟩, r, rfl⟩ := cons_of (l := r) (by omega)
    simp only [List.length_cons] at hul
    obtain ⟨hxr, hx1⟩ := hus (xv, xn, xs) (by rw [hu]; simp)
    have hxr2 := hxr
    obtain ⟨_, b1, o1, A1, c1, hv1, _, _⟩ := hxr2
    simp only at hv1 hxr hx1
    subst hv1
    obtain rfl := hAu (by omega)
    have hti : (us.map (fun u => u.1))[i]? = some (.slice A1 xn c1) := by rw [hu, hi]; simp
    have ht := congrArg tot hu
    rw [tot_app, tot_cons] at ht
    simp only at ht
    refine SC.skip ?_
    refine SX.seq ?_
    refine SC.seq ?_
    refine SC.block ?_
    refine SC.seq ?_
    refine SC.plain ?_
    refine St.indexSl (e := 192) (sz := 1) rfl rfl rfl (by kernel_rfl) (by omega) ?_
    refine St.load rfl rfl (by kernel_rfl) (hhu.at i hti) ?_
    refine St.assign rfl rfl ?_
    refine St.done ?_
    refine SX.seq ?_
    refine SC.seq ?_
    refine SC.plain ?_
    refine St.move rfl rfl ?_
    refine St.move rfl rfl ?_
    refine St.lenSl rfl rfl (by kernel_rfl) ?_
    first | refine St.addN rfl rfl rfl (by omega) ?_ | refine St.addI rfl rfl rfl (by omega) ?_
    refine St.assign rfl rfl ?_
    refine St.done ?_
    refine SX.seq ?_
    refine SC.seq ?_
    refine SC.plain ?_
    refine St.move rfl rfl ?_
    refine St.lss rfl rfl rfl ?_
    refine St.done ?_
    refine SX.seq ?_
    refine SC.condp rfl (fun c20 => ?_) (fun c20 => ?_)
    · exfalso; omega
    · refine SC.skip ?_
      refine SX.blk ?_
      refine SX.seq ?_
      refine SC.plain ?_
      first | refine St.addN (b := 1) rfl rfl rfl (by omega) ?_ | refine St.addI rfl rfl rfl (by omega) ?_
      refine St.move rfl rfl ?_
      refine St.done ?_
      exact SX.again (i + 1, s + xn, d ++ [(.slice A1 xn c1, xn, xs)], r) ⟨by rw [hu]; simp, by simp only [List.length_append, List.length_cons, List.length_nil]; omega, by simp only [tot_app, tot_cons, tot_nil]; omega⟩ (by simp only; omega) ⟨rfl, rfl, rfl, rfl, rfl, trivial⟩ (List.Perm.refl _)
  · have h0 : r = [] := List.eq_nil_of_length_eq_zero (by omega)
    subst h0
    rw [List.append_nil] at hu
    subst hu
    refine SC.exit ?_
    refine SX.seq_exit ?_
    refine SX.seq_exit ?_
    refine SX.hit ?_
    refine SX.seq ?_
    refine SC.seq ?_
    refine SC.plain ?_
    refine St.move rfl rfl ?_
    refine St.call [_, _] rfl (by kernel_rfl) rfl (growC_spec w0 L s (by omega)) (fun _ _ _ _ h => h.nil) ?_
    rintro r0 L1 ⟨E, rfl, hb0⟩
    refine St.assign rfl rfl ?_
    refine St.done ?_
    refine SX.seq ?_
    refine SC.seq ?_
    refine SC.seq ?_
    refine SC.plain ?_
    refine St.move rfl rfl ?_
    refine St.lenSl rfl rfl (by kernel_rfl) ?_
    refine St.move rfl rfl ?_
    refine St.done ?_
    refine SX.seq ?_
    refine SC.block ?_
    refine SC.loop (α := Nat × List (Value × Nat × List Value) × List (Value × Nat × List Value) × Value × Chunk) (fun s => us = s.2.1 ++ s.2.2.1 ∧ s.1 = s.2.1.length ∧ Buf 194 2 s.2.2.2.1 (s.2.1.flatMap (fun u => u.2.2)) (tot s.2.1) s.2.2.2.2) (fun s => [(0, .slice Au us.length cu), (6, s.2.2.2.1), (25, .slice Au us.length cu), (26, .int .i64 ((us.length : Nat) : Int)), (27, .int .i64 ((s.1 : Nat) : Int))]) (fun s => s.2.2.2.2 :: L) (fun s => us.length - s.1) (0, [], us, _, E) ⟨rfl, rfl, hb0⟩ ⟨rfl, rfl, rfl, rfl, rfl, trivial⟩ (List.Perm.refl _) ?_
    clear hb0 E
    rintro ⟨i, d, r, v1, E⟩ ⟨hu, hi, hb1⟩
    simp only at hu hi hb1 ⊢
    have hul := congrArg List.length hu
    rw [List.length_append] at hul
    refine SC.seq ?_
    refine SC.plain ?_
    refine St.lss rfl rfl rfl ?_
    refine St.done ?_
    refine SX.seq ?_
    refine SC.seq ?_
    refine SC.condp rfl (fun c28 => ?_) (fun c28 => ?_)
    · obtain ⟨⟨xv, xn, xs⟩, r, rfl⟩ := cons_of (l := r) (by omega)
      simp only [List.length_cons] at hul
      obtain ⟨hxr, hx1⟩ := hus (xv, xn, xs) (by rw [hu]; simp)
      have hxr2 := hxr
      obtain ⟨_, b1, o1, A1, c1, hv1, _, _⟩ := hxr2
      simp only at hv1 hxr hx1
      subst hv1
      obtain rfl := hAu (by omega)
      have hti : (us.map (fun u => u.1))[i]? = some (.slice A1 xn c1) := by rw [hu, hi]; simp
      have ht := congrArg tot hu
      rw [tot_app, tot_cons] at ht
      simp only at ht
      refine SC.skip ?_
      refine SX.seq ?_
      refine SC.seq ?_
      refine SC.block ?_
      refine SC.seq ?_
      refine SC.plain ?_
      refine St.indexSl (e := 192) (sz := 1) rfl rfl rfl (by kernel_rfl) (by omega) ?_
      refine St.load rfl rfl (by kernel_rfl) (hhu.cons.at i hti) ?_
      refine St.assign rfl rfl ?_
      refine St.done ?_
      refine SX.seq ?_
      refine SC.plain ?_
      refine St.move rfl rfl ?_
      refine St.move rfl rfl ?_
      refine St.append (e := 194) (sz := 2) (bytes := 32) rfl rfl rfl (by kernel_rfl) hb1 hxr.cons hx1 (by omega) (by omega) (fun _ _ h => h.nil) (fun v2 E2 hb2 _ => ?_)
      refine St.assign rfl rfl ?_
      refine St.done ?_
      refine SX.blk ?_
      refine SX.seq ?_
      refine SC.plain ?_
      first | refine St.addN (b := 1) rfl rfl rfl (by omega) ?_ | refine St.addI rfl rfl rfl (by omega) ?_
      refine St.move rfl rfl ?_
      refine St.done ?_
      exact SX.again (i + 1, d ++ [(.slice A1 xn c1, xn, xs)], r, v2, E2) ⟨by rw [hu]; simp, by simp only [List.length_append, List.length_cons, List.length_nil]; omega, by simp only [tot_app, tot_cons, tot_nil, List.flatMap_append, List.flatMap_cons, List.flatMap_nil, List.append_nil]; exact hb2⟩ (by simp only; omega) ⟨rfl, rfl, rfl, rfl, rfl, trivial⟩ (List.Perm.refl _)
    · have h0 : r = [] := List.eq_nil_of_length_eq_zero (by omega)
      subst h0
      rw [List.append_nil] at hu
      subst hu
      refine SC.exit ?_
      refine SX.seq_exit ?_
      refine SX.seq_exit ?_
      refine SX.hit ?_
      refine SX.seq ?_
      refine SC.seq ?_
      refine SC.plain ?_
      refine St.move rfl rfl ?_
      refine St.assign rfl rfl ?_
      refine St.done ?_
      refine SX.seq ?_
      refine SC.ret ?_
      exact SX.ret1 rfl rfl ⟨E, rfl, hb1⟩
theorem growI_spec (w0 : World) (L : List Chunk) (n : Nat) (hn : n ≤ 4000000000000) :
    Meets Try.prog 205 #[.slice none 0 0, .int .i64 ((n : Nat) : Int)] w0 L (fun r L' => ∃ E, L' = E :: L ∧ Buf 3 1 r [] 0 E) := by
  refine Meets.of_body [.slice none 0 0, .int .i64 ((n : Nat) : Int)] Try.func205 rfl Try.ntmps205 rfl ?_
  refine SC.seq ?_
  refine SC.plain ?_
  refine St.assign rfl rfl ?_
  refine St.done ?_
  refine SX.seq ?_
  refine SC.seq ?_
  refine SC.seq ?_
  refine SC.plain ?_
  refine St.move rfl rfl ?_
  refine St.lss rfl rfl rfl ?_
  refine St.done ?_
  refine SX.seq ?_
  refine SC.condp rfl (fun c6 => ?_) (fun c6 => ?_)
  · exfalso; omega
  · refine SC.skip ?_
    refine SX.seq ?_
    refine SC.seq ?_
    refine SC.seq ?_
    refine SC.plain ?_
    refine St.move rfl rfl ?_
    refine St.move rfl rfl ?_
    refine St.capSl rfl rfl (by kernel_rfl) ?_
    refine St.move rfl rfl ?_
    refine St.lenSl rfl rfl (by kernel_rfl) ?_
    first | refine St.subN rfl rfl rfl (by omega) (by omega) ?_ | refine St.subI rfl rfl rfl (by omega) ?_
    first | refine St.subN rfl rfl rfl (by omega) (by omega) ?_ | refine St.subI rfl rfl rfl (by omega) ?_
    refine St.assign rfl rfl ?_
    refine St.done ?_
    refine SX.seq ?_
    refine SC.seq ?_
    refine SC.plain ?_
    refine St.move rfl rfl ?_
    refine St.gtr rfl rfl rfl ?_
    refine St.done ?_
    refine SX.seq ?_
    refine SC.condp rfl (fun c16 => ?_) (fun c16 => ?_)
    · refine SC.plain ?_
      refine St.move rfl rfl ?_
      refine St.move rfl rfl ?_
      refine St.capSl rfl rfl (by kernel_rfl) ?_
      refine St.cut (e := 3) (sz := 1) (l := 0) (h := 0) (m := 0) rfl rfl (by kernel_rfl) rfl ⟨_, _, rfl, rfl⟩ rfl (by omega) (by omega) (by omega) (by decide) ?_
      refine St.move rfl rfl ?_
      refine St.appendZ (n := n) (e := 3) (sz := 1) (bytes := 8) rfl rfl rfl (by kernel_rfl) (by kernel_rfl) (by omega) (by omega) (by omega) (by omega) (fun _ _ _ h => h.nil) (fun b cap cs hcap hcs => ?_)
      refine St.move rfl rfl ?_
      refine St.lenSl rfl rfl (by kernel_rfl) ?_
      refine St.cut (e := 3) (sz := 1) (l := 0) (h := 0) (m := cap) rfl rfl (by kernel_rfl) rfl ⟨_, _, rfl, rfl⟩ rfl (by omega) (by omega) (by omega) (by decide) ?_
      refine St.assign rfl rfl ?_
      refine St.done ?_
      refine SX.seq ?_
      refine SC.seq ?_
      refine SC.plain ?_
      refine St.move rfl rfl ?_
      refine St.assign rfl rfl ?_
      refine St.done ?_
      refine SX.seq ?_
      refine SC.ret ?_
      exact SX.ret1 rfl rfl ⟨_, rfl, by rw [if_neg (by omega)]; exact Buf.made (xs := []) (by simp) (by omega) (by omega)⟩
    · refine SC.skip ?_
      refine SX.seq ?_
      refine SC.seq ?_
      refine SC.plain ?_
      refine St.move rfl rfl ?_
      refine St.assign rfl rfl ?_
      refine St.done ?_
      refine SX.seq ?_
      refine SC.ret ?_
      refine SX.perm ([] :: L) (List.Perm.refl _) ?_
      exact SX.ret1 rfl rfl ⟨_, rfl, Buf.nil _ _⟩
theorem catI_spec (w0 : World) (L : List Chunk) (u : Value) (us : List (Value × Nat × List Value)) (hr : Rd w0 L u 1 us.length (us.map (fun u => u.1))) (hus : ∀ x ∈ us, Rd w0 L x.1 1 x.2.1 x.2.2 ∧ ∀ c ∈ x.2.2, one c = true) (hn : tot us ≤ 4000000000000) (hk : us.length ≤ 4000000000000) :
    Meets Try.prog 179 #[u] w0 L (fun r L' => ∃ E, L' = E :: L ∧ Buf 3 1 r (us.flatMap (fun u => u.2.2)) (tot us) E) := by
  obtain ⟨_, bu, ou, Au, cu, rfl, hAu, hhu⟩ := hr
  refine Meets.of_body [.slice Au us.length cu] Try.func179 rfl Try.ntmps179 rfl ?_
  refine SC.seq ?_
  refine SC.plain ?_
  refine St.assign rfl rfl ?_
  refine St.done ?_
  refine SX.seq ?_
  refine SC.seq ?_
  refine SC.plain ?_
  refine St.assign rfl rfl ?_
  refine St.done ?_
  refine SX.seq ?_
  refine SC.seq ?_
  refine SC.seq ?_
  refine SC.plain ?_
  refine St.move rfl rfl ?_
  refine St.lenSl rfl rfl (by kernel_rfl) ?_
  refine St.move rfl rfl ?_
  refine St.done ?_
  refine SX.seq ?_
  refine SC.block ?_
  refine SC.loop (α := Nat × Nat × List (Value × Nat × List Value) × List (Value × Nat × List Value)) (fun s => us = s.2.2.1 ++ s.2.2.2 ∧ s.1 = s.2.2.1.length ∧ s.2.1 = tot s.2.2.1) (fun s => [(0, .slice Au us.length cu), (3, .int .i64 ((s.2.1 : Nat) : Int)), (9, .slice Au us.length cu), (10, .int .i64 ((us.length : Nat) : Int)), (11, .int .i64 ((s.1 : Nat) : Int))]) (fun _ => L) (fun s => us.length - s.1) (0, 0, [], us) ⟨rfl, rfl, rfl⟩ ⟨rfl, rfl, rfl, rfl, rfl, trivial⟩ (List.Perm.refl _) ?_
  rintro ⟨i, s, d, r⟩ ⟨hu, hi, hs⟩
  simp only at hu hi hs ⊢
  have hul := congrArg List.length hu
  rw [List.length_append] at hul
  refine SC.seq ?_
  refine SC.plain ?_
  refine St.lss rfl rfl rfl ?_
  refine St.done ?_
  refine SX.seq ?_
  refine SC.seq ?_
  refine SC.condp rfl (fun c12 => ?_) (fun c12 => ?_)
  · obtain ⟨⟨xv, xn, xs⟩, r, rfl⟩ := cons_of (l := r) (by omega)
    simp only [List.length_cons] at hul
    obtain ⟨hxr, hx1⟩ := hus (xv, xn, xs) (by rw [hu]; simp)
    have hxr2 := hxr
    obtain ⟨_, b1, o1, A1, c1, hv1, _, _⟩ := hxr2
    simp only at hv1 hxr hx1
    subst hv1
    obtain rfl := hAu (by omega)
    have hti : (us.map (fun u => u.1))[i]? = some (.slice A1 xn c1) := by rw [hu, hi]; simp
    have ht := congrArg tot hu
    rw [tot_app, tot_cons] at ht
    simp only at ht
    refine SC.skip ?_
    refine SX.seq ?_
    refine SC.seq ?_
    refine SC.block ?_
    refine SC.seq ?_
    refine SC.plain ?_
    refine St.indexSl (e := 22) (sz := 1) rfl rfl rfl (by kernel_rfl) (by omega) ?_
    refine St.load rfl rfl (by kernel_rfl) (hhu.at i hti) ?_
    refine St.assign rfl rfl ?_
    refine St.done ?_
    refine SX.seq ?_
    refine SC.seq ?_
    refine SC.plain ?_
    refine St.move rfl rfl ?_
    refine St.move rfl rfl ?_
    refine St.lenSl rfl rfl (by kernel_rfl) ?_
    first | refine St.addN rfl rfl rfl (by omega) ?_ | refine St.addI rfl rfl rfl (by omega) ?_
    refine St.assign rfl rfl ?_
    refine St.done ?_
    refine SX.seq ?_
    refine SC.seq ?_
    refine SC.plain ?_
    refine St.move rfl rfl ?_
    refine St.lss rfl rfl rfl ?_
    refine St.done ?_
    refine SX.seq ?_
    refine SC.condp rfl (fun c20 => ?_) (fun c20 => ?_)
    · exfalso; omega
    · refine SC.skip ?_
      refine SX.blk ?_
      refine SX.seq ?_
      refine SC.plain ?_
      first | refine St.addN (b := 1) rfl rfl rfl (by omega) ?_ | refine St.addI rfl rfl rfl (by omega) ?_
      refine St.move rfl rfl ?_
      refine St.done ?_
      exact SX.again (i + 1, s + xn, d ++ [(.slice A1 xn c1, xn, xs)], r) ⟨by rw [hu]; simp, by simp only [List.length_append, List.length_cons, List.length_nil]; omega, by simp only [tot_app, tot_cons, tot_nil]; omega⟩ (by simp only; omega) ⟨rfl, rfl, rfl, rfl, rfl, trivial⟩ (List.Perm.refl _)
  · have h0 : r = [] := List.eq_nil_of_length_eq_zero (by omega)
    subst h0
    rw [List.append_nil] at hu
    subst hu
    refine SC.exit ?_
    refine SX.seq_exit ?_
    refine SX.seq_exit ?_
    refine SX.hit ?_
    refine SX.seq ?_
    refine SC.seq ?_
    refine SC.plain ?_
    refine St.move rfl rfl ?_
    refine St.call [_, _] rfl (by kernel_rfl) rfl (growI_spec w0 L s (by omega)) (fun _ _ _ _ h => h.nil) ?_
    rintro r0 L1 ⟨E, rfl, hb0⟩
    refine St.assign rfl rfl ?_
    refine St.done ?_
    refine SX.seq ?_
    refine SC.seq ?_
    refine SC.seq ?_
    refine SC.plain ?_
    refine St.move rfl rfl ?_
    refine St.lenSl rfl rfl (by kernel_rfl) ?_
    refine St.move rfl rfl ?_
    refine St.done ?_
    refine SX.seq ?_
    refine SC.block ?_
    refine SC.loop (α := Nat × List (Value × Nat × List Value) × List (Value × Nat × List Value) × Value × Chunk) (fun s => us = s.2.1 ++ s.2.2.1 ∧ s.1 = s.2.1.length ∧ Buf 3 1 s.2.2.2.1 (s.2.1.flatMap (fun u => u.2.2)) (tot s.2.1) s.2.2.2.2) (fun s => [(0, .slice Au us.length cu), (6, s.2.2.2.1), (25, .slice Au us.length cu), (26, .int .i64 ((us.length : Nat) : Int)), (27, .int .i64 ((s.1 : Nat) : Int))]) (fun s => s.2.2.2.2 :: L) (fun s => us.length - s.1) (0, [], us, _, E) ⟨rfl, rfl, hb0⟩ ⟨rfl, rfl, rfl, rfl, rfl, trivial⟩ (List.Perm.refl _) ?_
    clear hb0 E
    rintro ⟨i, d, r, v1, E⟩ ⟨hu, hi, hb1⟩
    simp only at hu hi hb1 ⊢
    have hul := congrArg List.length hu
    rw [List.length_append] at hul
    refine SC.seq ?_
    refine SC.plain ?_
    refine St.lss rfl rfl rfl ?_
    refine St.done ?_
    refine SX.seq ?_
    refine SC.seq ?_
    refine SC.condp rfl (fun c28 => ?_) (fun c28 => ?_)
    · obtain ⟨⟨xv, xn, xs⟩, r, rfl⟩ := cons_of (l := r) (by omega)
      simp only [List.length_cons] at hul
      obtain ⟨hxr, hx1⟩ := hus (xv, xn, xs) (by rw [hu]; simp)
      have hxr2 := hxr
      obtain ⟨_, b1, o1, A1, c1, hv1, _, _⟩ := hxr2
      simp only at hv1 hxr hx1
      subst hv1
      obtain rfl := hAu (by omega)
      have hti : (us.map (fun u => u.1))[i]? = some (.slice A1 xn c1) := by rw [hu, hi]; simp
      have ht := congrArg tot hu
      rw [tot_app, tot_cons] at ht
      simp only at ht
      refine SC.skip ?_
      refine SX.seq ?_
      refine SC.seq ?_
      refine SC.block ?_
      refine SC.seq ?_
      refine SC.plain ?_
      refine St.indexSl (e := 22) (sz := 1) rfl rfl rfl (by kernel_rfl) (by omega) ?_
      refine St.load rfl rfl (by kernel_rfl) (hhu.cons.at i hti) ?_
      refine St.assign rfl rfl ?_
      refine St.done ?_
      refine SX.seq ?_
      refine SC.plain ?_
      refine St.move rfl rfl ?_
      refine St.move rfl rfl ?_
      refine St.append (e := 3) (sz := 1) (bytes := 8) rfl rfl rfl (by kernel_rfl) hb1 hxr.cons hx1 (by omega) (by omega) (fun _ _ h => h.nil) (fun v2 E2 hb2 _ => ?_)
      refine St.assign rfl rfl ?_
      refine St.done ?_
      refine SX.blk ?_
      refine SX.seq ?_
      refine SC.plain ?_
      first | refine St.addN (b := 1) rfl rfl rfl (by omega) ?_ | refine St.addI rfl rfl rfl (by omega) ?_
      refine St.move rfl rfl ?_
      refine St.done ?_
      exact SX.again (i + 1, d ++ [(.slice A1 xn c1, xn, xs)], r, v2, E2) ⟨by rw [hu]; simp, by simp only [List.length_append, List.length_cons, List.length_nil]; omega, by simp only [tot_app, tot_cons, tot_nil, List.flatMap_append, List.flatMap_cons, List.flatMap_nil, List.append_nil]; exact hb2⟩ (by simp only; omega) ⟨rfl, rfl, rfl, rfl, rfl, trivial⟩ (List.Perm.refl _)
    · have h0 : r = [] := List.eq_nil_of_length_eq_zero (by omega)
      subst h0
      rw [List.append_nil] at hu
      subst hu
      refine SC.exit ?_
      refine SX.seq_exit ?_
      refine SX.seq_exit ?_
      refine SX.hit ?_
      refine SX.seq ?_
      refine SC.seq ?_
      refine SC.plain ?_
      refine St.move rfl rfl ?_
      refine St.assign rfl rfl ?_
      refine St.done ?_
      refine SX.seq ?_
      refine SC.ret ?_
      exact SX.ret1 rfl rfl ⟨E, rfl, hb1⟩
end Go.Proofs.Ytahafepgmkiabaa
