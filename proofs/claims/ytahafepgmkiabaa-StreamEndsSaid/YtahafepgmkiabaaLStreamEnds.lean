/- The law StreamEnds holds of all bytes both ways, whatever is lost in the first rounds: it returns true. Conditions: none but the form's own reach. -/
import Derived.Test.YtahafepgmkiabaaRows
import Derived.Test.YtahafepgmkiabaaV9
import Derived.Test.YtahafepgmkiabaaArgsF
import Derived.Test.YtahafepgmkiabaaArgs
import Derived.Test.YtahafepgmkiabaaFacts
import Derived.WalkKit
import Derived.ProofKit
import Derived.OpenShut
import Derived.ShutString
import Derived.ChangeOld
import Derived.Below
import Derived.SizedLaws

set_option linter.unusedVariables false
set_option linter.ambiguousOpen false
namespace Go.Proofs.Ytahafepgmkiabaa.streamEnds
open Go.ChangeShapes Go.WideShapes Go.ChangeAt Go.RowKit Go.Proofs.Ytahafepgmkiabaa.Sep
open Go.ChangeMaps (open_string shut_string)

theorem own : ownKnob Try.prog.godebug = none := Facts.own
theorem laidOut : laidOutB Try.prog = true := Facts.laid
set_option maxRecDepth 100000 in
theorem lifted (os : Os) (started : os.Started) (H : Type) (enc : TypeId × Value → H) :
    ReturnsInHanded {} Try.checked os 20 .any (Rows.streamEndsSpec.pre6 enc Try.prog Try.f20 Rows.streamEndsRow.domain false) (Rows.streamEndsSpec.post enc Try.prog Try.f20 false true false false) := by
  refine returnsInHanded_of_change_sized (C := Try.checked) own started (by kernel_rfl) Try.func20
    (ChangeSpec.witness6 (enc := enc) (C := Try.checked) false ⟨#[], #[.slice none 0 0, .slice none 0 0, .slice none 0 0, .int .i64 0], []⟩ 8 (by kernel_rfl) (by kernel_rfl) (by kernel_rfl) (by kernel_rfl)) ?_
  intro W base args ds gs before hval0 hW hcnd hsz _
  have hval : ∀ (j : Nat) t v, Try.f20.params[j]? = some t → args[j]? = some v → Value.okWide Try.prog W .any base t v := hval0
  have hW' := hW
  obtain ⟨p, q, hA0, hV, rfl, hfz, hnd⟩ := hW
  have hA : DataW.TrodAll enc Try.prog W 0 (fun _ => true) true Try.f20.params.toList args.toList ds p := hA0
  rw [Try.params20] at hA hval
  obtain ⟨v0, vs0, d0, ds0, p0, q0, hargs, rfl, rfl, h0, r0⟩ := trodAll_cons hA
  obtain ⟨v1, vs1, d1, ds1, p1, q1, rfl, rfl, rfl, h1, r1⟩ := trodAll_cons r0
  obtain ⟨v2, vs2, d2, ds2, p2, q2, rfl, rfl, rfl, h2, r2⟩ := trodAll_cons r1
  obtain ⟨v3, vs3, d3, ds3, p3, q3, rfl, rfl, rfl, h3, r3⟩ := trodAll_cons r2
  obtain ⟨rfl, rfl, rfl⟩ := trodAll_nil r3
  obtain rfl : args = #[v0, v1, v2, v3] := by cases args; simp_all
  obtain ⟨rfl, rfl⟩ := trodVars_none hV
  obtain ⟨a0, len0, cap0, rfl⟩ := okWide_slice Try.underlying35 (hval 0 35 v0 rfl rfl)
  have k0 := h0
  have lt0 : ∀ x ∈ p0, x.block < W.heap.size := by obtain ⟨m, hm⟩ := k0; exact DataW.trod_lt m _ _ _ hm
  obtain ⟨x0, hn0, hr0, hw0, _⟩ := in_ints Try.underlying35 Try.underlying5 (by kernel_rfl) h0
  have sz0 := in_sized hsz (j := 0) rfl rfl Try.underlying35 Try.underlying5 (by kernel_rfl) (B := 1) (by kernel_rfl) h0
  obtain ⟨y0, yl0, ye0, yb0⟩ := nats_of (fun n hn => wf_u8 (hw0 n hn))
  rw [ye0] at hr0
  have yn0 : y0.length = len0 := yl0.trans hn0
  obtain ⟨a1, len1, cap1, rfl⟩ := okWide_slice Try.underlying35 (hval 1 35 v1 rfl rfl)
  have k1 := h1
  have lt1 : ∀ x ∈ p1, x.block < W.heap.size := by obtain ⟨m, hm⟩ := k1; exact DataW.trod_lt m _ _ _ hm
  obtain ⟨x1, hn1, hr1, hw1, _⟩ := in_ints Try.underlying35 Try.underlying5 (by kernel_rfl) h1
  have sz1 := in_sized hsz (j := 1) rfl rfl Try.underlying35 Try.underlying5 (by kernel_rfl) (B := 1) (by kernel_rfl) h1
  obtain ⟨y1, yl1, ye1, yb1⟩ := nats_of (fun n hn => wf_u8 (hw1 n hn))
  rw [ye1] at hr1
  have yn1 : y1.length = len1 := yl1.trans hn1
  obtain ⟨a2, len2, cap2, rfl⟩ := okWide_slice Try.underlying88 (hval 2 88 v2 rfl rfl)
  have k2 := h2
  have lt2 : ∀ x ∈ p2, x.block < W.heap.size := by obtain ⟨m, hm⟩ := k2; exact DataW.trod_lt m _ _ _ hm
  obtain ⟨n3, rfl, rfl, rfl, w3⟩ := open_int Try.underlying3 (hval 3 3 v3 rfl rfl) h3
  have k3 : DataW.Trod enc Try.prog W 0 (fun _ => true) true 3 (.int .i64 n3) (.lit (.int .i64 n3)) [] := shut_int Try.underlying3 w3
  have lt3 : ∀ x ∈ ([] : List MemPlace), x.block < W.heap.size := fun x hx => by cases hx
  clear hA0 hval0
  obtain ⟨bs2, hbl2, hrd2, hlen2⟩ := in_bools Try.underlying88 Try.underlying4 (by kernel_rfl) (by kernel_rfl) h2 (fun n hn => of_decide_eq_true (List.all_eq_true.1 hsz n (DataW.weights_mem_each (j := 2) rfl rfl n hn)))
  subst hbl2
  have hwalk := streamEnds_spec W [] (.slice a0 len0 cap0) (.slice a1 len1 cap1) (.slice a2 bs2.length cap2) y0 y1 bs2 n3 (by rw [yn0]; exact hr0) (by rw [yn1]; exact hr1) yb0 yb1 (by omega) (by omega) hrd2 hlen2 (wf_i64 w3)
  refine (hwalk W (Own.refl W)).mono fun e W' hE => ?_
  obtain ⟨v, L', rfl, rfl, ho⟩ := hE
  have bel := ho.below
  exact ⟨_, rfl, _, _, _, [], _, [], hW', trodAll_mk1 (shut_bool Try.underlying4 _), (trodAll_cons_mk (Below.trod laidOut (by kernel_rfl) (of_decide_eq_true (by kernel_rfl)) k0 bel lt0) (trodAll_cons_mk (Below.trod laidOut (by kernel_rfl) (of_decide_eq_true (by kernel_rfl)) k1 bel lt1) (trodAll_cons_mk (Below.trod laidOut (by kernel_rfl) (of_decide_eq_true (by kernel_rfl)) k2 bel lt2) (trodAll_cons_mk (Below.trod laidOut (by kernel_rfl) (of_decide_eq_true (by kernel_rfl)) k3 bel lt3) trodAll_mk0)))), rfl, bel.frame _, fun h => by cases h⟩

theorem over : Rows.streamEndsRow.holds Try.pinned (OpenSpec.ofChange Rows.streamEndsSpec) :=
  OpenClaim.holds_of_wide 20 Try.f20 rfl rfl rfl rfl rfl rfl rfl ⟨rfl, rfl, rfl, rfl, rfl⟩ rfl rfl rfl rfl rfl (by kernel_rfl) Try.func20 (Facts.joined_of Try.prog Facts.laid Facts.mapped Facts.keys Facts.heard Facts.enters Facts.lifts Facts.make 20 Try.f20 _ _ (by kernel_rfl) (by kernel_rfl) (by kernel_rfl) rfl (by kernel_rfl) rfl (by kernel_rfl) (by kernel_rfl) (by kernel_rfl) (by kernel_rfl) (by kernel_rfl) (by kernel_rfl) (by kernel_rfl) (by kernel_rfl) (by kernel_rfl) (by kernel_rfl) (by kernel_rfl) (by kernel_rfl) (by kernel_rfl) (by kernel_rfl) rfl rfl rfl rfl (by kernel_rfl) (by kernel_rfl) (by kernel_rfl) (by kernel_rfl))
    (of_decide_eq_true (by kernel_rfl)) (by unfold Func.isWrapper; first | (rw [if_pos (by decide +kernel)]; kernel_rfl) | (rw [if_neg (by decide +kernel)]; exact ⟨rfl, rfl⟩))
    (fun os started H enc _ => lifted os started H enc)

theorem proved : Rows.StreamEndsSaid := over
#print axioms proved
end Go.Proofs.Ytahafepgmkiabaa.streamEnds
