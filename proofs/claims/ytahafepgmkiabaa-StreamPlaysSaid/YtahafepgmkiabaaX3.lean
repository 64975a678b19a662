/- Walks: two ends beside the document's: lists of datagrams, states. -/
import Derived.Test.YtahafepgmkiabaaX2
set_option linter.unusedVariables false
set_option linter.unusedSimpArgs false
set_option linter.ambiguousOpen false
namespace Go.Proofs.Ytahafepgmkiabaa
open Go Go.Proofs.Ytahafepgmkiabaa.Sep

theorem outs_spec (w0 : World) (L : List Chunk) (v u : Value) (l : List (List Nat)) (vs : List Value) (hv : Rd w0 L v 1 l.length vs) (hu : Rd w0 L u 1 l.length (strs l)) (hl : l.length ≤ 1000) (hvl : vs.length = l.length)
    (heach : ∀ (i : Nat) (x : Value) (bs : List Nat), vs[i]? = some x → l[i]? = some bs → Rd w0 L x 1 bs.length (bytes bs)) :
    Meets Try.prog 83 #[v, u] w0 L (fun r L' => L = L' ∧ r = .bool true) := by
  obtain ⟨_, bv, ov, Av, cv, rfl, hAv, hhv⟩ := hv
  obtain ⟨_, bu, ou, Au, cu, rfl, hAu, hhu⟩ := hu
  refine Meets.of_body [.slice Av l.length cv, .slice Au l.length cu] Try.func83 rfl Try.ntmps83 rfl ?_
  refine SC.seq ?_
  refine SC.plain ?_
  refine St.assign rfl rfl ?_
  refine St.done ?_
  refine SX.seq ?_
  refine SC.seq ?_
  refine SC.seq ?_
  refine SC.plain ?_
  refine St.move rfl rfl ?_
  refine St.lenSl rfl rfl (by kernel_rfl) ?_
  refine St.move rfl rfl ?_
  refine St.lenSl rfl rfl (by kernel_rfl) ?_
  refine St.neq rfl rfl rfl ?_
  refine St.done ?_
  refine SX.seq ?_
  refine SC.condp rfl (fun c10 => ?_) (fun c10 => ?_)
  · exact absurd rfl c10
  · refine SC.skip ?_
    refine SX.seq ?_
    refine SC.seq ?_
    refine SC.seq ?_
    refine SC.plain ?_
    refine St.assign rfl rfl ?_
    refine St.done ?_
    refine SX.seq ?_
    refine SC.block ?_
    refine SC.loop (α := Nat) (fun i => i ≤ l.length) (fun i => [(0, .slice Av l.length cv), (1, .slice Au l.length cu), (5, .int .i64 ((i : Nat) : Int))]) (fun _ => L) (fun i => l.length - i) 0 (Nat.zero_le _) ⟨rfl, rfl, rfl, trivial⟩ (List.Perm.refl _) ?_
    intro i hi
    refine SC.seq ?_
    refine SC.seq ?_
    refine SC.plain ?_
    refine St.move rfl rfl ?_
    refine St.move rfl rfl ?_
    refine St.lenSl rfl rfl (by kernel_rfl) ?_
    refine St.lss rfl rfl rfl ?_
    refine St.done ?_
    refine SX.seq ?_
    refine SC.condp rfl (fun c14 => ?_) (fun c14 => ?_)
    · have hil : i < l.length := by omega
      have hAve := hAv (by omega)
      have hAue := hAu (by omega)
      subst hAve hAue
      obtain ⟨s, hs⟩ : ∃ s, l[i]? = some s := ⟨_, List.getElem?_eq_getElem hil⟩
      obtain ⟨x, hx⟩ : ∃ x, vs[i]? = some x := ⟨_, List.getElem?_eq_getElem (by omega)⟩
      have hr := heach i x s hx hs
      have hst : (strs l)[i]? = some (.string (text s)) := by unfold strs; rw [List.getElem?_map, hs]; rfl
      refine SC.skip ?_
      refine SX.seq ?_
      refine SC.seq ?_
      refine SC.block ?_
      refine SC.seq ?_
      refine SC.drawn [(0, true), (1, true), (2, true), (3, true), (4, true), (5, true), (6, true), (7, true), (8, true), (9, true)] [] (_) (by kernel_rfl) (by kernel_rfl) (fun _ h => h) ?_
      refine St.move rfl rfl ?_
      refine St.move rfl rfl ?_
      refine St.indexSl (e := 35) (sz := 1) rfl rfl rfl (by kernel_rfl) (by omega) ?_
      refine St.load rfl rfl (by kernel_rfl) (fun w hw => by have := hhv w hw i x hx; simpa using this) ?_
      refine St.toStr (e := 5) (bs := s) (n := s.length) rfl rfl hr (by kernel_rfl) (by kernel_rfl) (by kernel_rfl) ?_
      refine St.move rfl rfl ?_
      refine St.move rfl rfl ?_
      refine St.indexSl (e := 9) (sz := 1) rfl rfl rfl (by kernel_rfl) (by omega) ?_
      refine St.load rfl rfl (by kernel_rfl) (fun w hw => by have := hhu w hw i _ hst; simpa using this) ?_
      refine St.strNeq rfl rfl rfl ?_
      refine St.done ?_
      refine SX.tail ?_
      refine St.done ?_
      refine SX.seq ?_
      refine SC.condp rfl (fun c26 => ?_) (fun c26 => ?_)
      · exact absurd rfl c26
      · refine SC.skip ?_
        refine SX.blk ?_
        refine SX.seq ?_
        refine SC.plain ?_
        refine St.move rfl rfl ?_
        first | refine St.addN (b := 1) rfl rfl rfl (by omega) ?_ | refine St.addI rfl rfl rfl (by omega) ?_
        refine St.assign rfl rfl ?_
        refine St.done ?_
        exact SX.again (i + 1) (by omega) (by omega) ⟨rfl, rfl, rfl, trivial⟩ (List.Perm.refl _)
    · refine SC.exit ?_
      refine SX.seq_exit ?_
      refine SX.seq_exit ?_
      refine SX.hit ?_
      refine SX.seq ?_
      refine SC.seq ?_
      refine SC.plain ?_
      refine St.assign rfl rfl ?_
      refine St.done ?_
      refine SX.seq ?_
      refine SC.ret ?_
      exact SX.ret1 rfl rfl ⟨rfl, rfl⟩
theorem alike_spec (w0 : World) (L : List Chunk) (p q : Nat) (e : En) (ov iv : Value) (at_ : Int) (Eo Ei : Chunk) (hB : EnB e ov iv at_ Eo Ei) :
    Meets Try.prog 85 #[.pointer (some ⟨p, 0, none⟩), .pointer (some ⟨q, 0, none⟩)] w0 (EnL p e ov iv at_ Eo Ei (WnL q e L)) (fun r L' => EnL p e ov iv at_ Eo Ei (WnL q e L) = L' ∧ r = .bool true) := by
  unfold WnL
  refine Meets.of_body [.pointer (some ⟨p, 0, none⟩), .pointer (some ⟨q, 0, none⟩)] Try.func85 rfl Try.ntmps85 rfl ?_
  refine SC.seq ?_
  refine SC.plain ?_
  refine St.assign rfl rfl ?_
  refine St.done ?_
  refine SX.seq ?_
  refine SC.seq ?_
  refine SC.drawn [(0, true), (2, true), (3, true), (4, true), (5, true), (1, false), (6, true), (7, true), (8, true), (10, true), (9, false), (11, false), (12, true), (13, true), (14, true), (15, true), (17, true), (16, false), (18, false)] [19, 20, 21] (EnL p e ov iv at_ Eo Ei ([⟨q, wnRow e, 204⟩] :: L)) (by kernel_rfl) (by kernel_rfl) (fun _ h => h) ?_
  refine St.move rfl rfl ?_
  refine St.move rfl rfl ?_
  refine St.nilCheck rfl rfl ?_
  refine St.fieldAddr (off := 1) rfl rfl (by kernel_rfl) ?_
  refine St.load rfl rfl (by kernel_rfl) (Holds.row mem3 rfl) ?_
  refine St.call [_] rfl (by kernel_rfl) rfl (state18_spec w0 _ p _ _ _ _ _ _ hB) (fun _ _ _ h hw => by rw [← h.1] at hw; exact hw) ?_
  rintro r L1 ⟨rfl, rfl⟩
  refine St.eql rfl rfl rfl ?_
  refine St.move rfl rfl ?_
  refine St.split 12 rfl (fun g12 => ?_) (fun g12 => ?_)
  · refine St.guard_yes rfl rfl ?_
    refine St.move rfl rfl ?_
    refine St.guard_yes rfl rfl ?_
    refine St.move rfl rfl ?_
    refine St.guard_yes rfl rfl ?_
    refine St.call [_] rfl (by kernel_rfl) rfl (done18_spec w0 _ p _ _ _ _ _ _ hB) (fun _ _ _ h hw => by rw [← h.1] at hw; exact hw) ?_
    rintro r L1 ⟨rfl, rfl⟩
    refine St.guard_yes rfl rfl ?_
    refine St.perm ([⟨q, wnRow e, 204⟩] :: EnL p e ov iv at_ Eo Ei (L)) (perm_idx [EnL p e ov iv at_ Eo Ei [], [[⟨q, wnRow e, 204⟩]]] (L) [1, 0] (by kernel_rfl)) ?_
    refine St.call [_] rfl (by kernel_rfl) rfl (wdone_spec w0 _ q e hB.ok) (fun _ _ w h hw => by rw [← h.1] at hw; exact hw.perm (perm_idx [[[⟨q, wnRow e, 204⟩]], EnL p e ov iv at_ Eo Ei []] L [1, 0] (by kernel_rfl))) ?_
    rintro r L1 ⟨rfl, rfl⟩
    refine St.perm (EnL p e ov iv at_ Eo Ei ([⟨q, wnRow e, 204⟩] :: L)) (perm_idx [[[⟨q, wnRow e, 204⟩]], EnL p e ov iv at_ Eo Ei []] L [1, 0] (by kernel_rfl)) ?_
    refine St.guard_yes rfl rfl ?_
    refine St.boolEql rfl rfl rfl (by kernel_rfl) ?_
    refine St.pick_true rfl rfl rfl ?_
    refine St.move rfl rfl ?_
    refine St.split 19 rfl (fun g19 => ?_) (fun g19 => ?_)
    · refine St.guard_yes rfl rfl ?_
      refine St.move rfl rfl ?_
      refine St.guard_yes rfl rfl ?_
      refine St.move rfl rfl ?_
      refine St.guard_yes rfl rfl ?_
      refine St.call [_] rfl (by kernel_rfl) rfl (idle18_spec w0 _ p _ _ _ _ _ _ hB) (fun _ _ _ h hw => by rw [← h.1] at hw; exact hw) ?_
      rintro r L1 ⟨rfl, rfl⟩
      refine St.guard_yes rfl rfl ?_
      refine St.perm ([⟨q, wnRow e, 204⟩] :: EnL p e ov iv at_ Eo Ei (L)) (perm_idx [EnL p e ov iv at_ Eo Ei [], [[⟨q, wnRow e, 204⟩]]] (L) [1, 0] (by kernel_rfl)) ?_
      refine St.call [_] rfl (by kernel_rfl) rfl (widle_spec w0 _ q e hB.ok) (fun _ _ w h hw => by rw [← h.1] at hw; exact hw.perm (perm_idx [[[⟨q, wnRow e, 204⟩]], EnL p e ov iv at_ Eo Ei []] L [1, 0] (by kernel_rfl))) ?_
      rintro r L1 ⟨rfl, rfl⟩
      refine St.perm (EnL p e ov iv at_ Eo Ei ([⟨q, wnRow e, 204⟩] :: L)) (perm_idx [[[⟨q, wnRow e, 204⟩]], EnL p e ov iv at_ Eo Ei []] L [1, 0] (by kernel_rfl)) ?_
      refine St.done ?_
      refine SX.tail ?_
      refine St.guard_yes rfl rfl ?_
      refine St.boolEql rfl rfl rfl (by kernel_rfl) ?_
      refine St.pick_true rfl rfl rfl ?_
      refine St.assign rfl rfl ?_
      refine St.done ?_
      refine SX.seq ?_
      refine SC.ret ?_
      exact SX.ret1 rfl rfl ⟨rfl, by simp⟩
    · exact absurd rfl g19
  · exact absurd rfl g12
end Go.Proofs.Ytahafepgmkiabaa
