/- More rules of the walk over owned rows: a drawn region in which a new row is made beside calls (each order for itself). -/
import Derived.Test.YtahafepgmkiabaaSepK
set_option linter.unusedVariables false
set_option linter.unusedSimpArgs false
namespace Go.Proofs.Ytahafepgmkiabaa.Sep
open Go Go.RowKit

/-- A region under way: n operations are left; S: what lies in Lr stays. -/
def SA (C : Cx) (ops : Array Oper) (Q : Post) (Lr : List Chunk) (n : Nat) (listed : Array Bool) (env : Env) (L : List Chunk) : Prop :=
  ∀ a w, Fr C.n env a → Own C.w0 L w → Own C.w0 Lr w → wpAnyK C.P ops Q.q (Own C.w0 Lr) [] n listed a w
def KA (C : Cx) (ops : Array Oper) (Q : Post) (Lr : List Chunk) (n : Nat) (listed : Array Bool) : Act → World → Prop :=
  fun a w => wpAnyK C.P ops Q.q (Own C.w0 Lr) [] n listed a w
/-- What is asked of an operation that only yields. -/
def Qt (C : Cx) (env : Env) : Post := ⟨fun e a w => e = .normal ∧ Fr C.n env a, fun c a w h => by cases h.1⟩
section sa
variable {C : Cx} {ops : Array Oper} {Q : Post} {Lr : List Chunk} {env : Env} {L : List Chunk} {n : Nat} {listed : Array Bool}
theorem SX.qt : SX C .normal (Qt C env) env L := fun a w hf _ => ⟨rfl, hf⟩
theorem SC.drawnA {id : Nat} (Lr : List Chunk) (hm : C.P.follows .mixedOrders = true) (hs : Region.noSelect ops = true) (hc : ∀ w, Own C.w0 L w → Own C.w0 Lr w)
    (h : SA C ops Q Lr ops.size (Array.replicate ops.size false) env L) : SC C (.region id ops true) Q env L := by
  intro a w hf ho
  refine wp_region_any hm (anyK_any (S := Own C.w0 Lr) (l2 := []) _ _ _ _ ?_)
  exact h a _ hf ho.drew (hc w ho).drew
theorem SA.end_ (hr : Region.ready .any ops listed = []) (h : SX C .normal Q env L) : SA C ops Q Lr 0 listed env L := fun a w hf ho _ => ⟨hr, h a w hf ho⟩
theorem yields_of_St {o : Oper} {v0 : Value} {d : Tmp} (hd : o.dst = some d) (hn : Nat.blt d C.n = true) (h : St C ops (Qt C (upd o.dst v0 env)) Lr [(true, o)] env Lr) {a : Act} {w : World} (hf : Fr C.n env a) (hw : Own C.w0 Lr w) : YieldsIf C.P ops (Own C.w0 Lr) o v0 a := by
  have key : ∀ w', Own C.w0 Lr w' → ((Region.wanted o (yielded ops a.tmps) = true ∧ (execOp a.eval o).run C.P w' = .ok (.value v0) w') ∨ (Region.wanted o (yielded ops a.tmps) = false ∧ v0 = undef)) := by
    intro w' hw'
    obtain ⟨S', hs', v, hy, hS, hr⟩ := h a w' hf hw' hw'
    have hfr : Fr C.n (upd o.dst v0 env) (a.put o.dst v) := hr.2
    have hlt : d < C.n := by simpa using hn
    have h1 := hfr.has d v0 (by rw [hd]; simp [upd, lk])
    have h2 : (a.put o.dst v).tmps[d]? = some v := by rw [hd]; simp [Act.put, hf.size, hlt]
    have hv : v = v0 := Option.some.inj (h2.symm.trans h1)
    subst hv
    rcases hy with ⟨h3, h4⟩ | ⟨h3, h4⟩
    · refine .inl ⟨h3, h4 w' ?_⟩
      split
      · exact hS
      · trivial
    · exact .inr ⟨h3, h4⟩
  rcases key w hw with ⟨h1, _⟩ | h1
  · refine .inl ⟨h1, fun w' hw' => ?_⟩
    rcases key w' hw' with ⟨_, h2⟩ | ⟨h2, _⟩
    · exact h2
    · rw [h1] at h2; cases h2
  · exact .inr h1
/-- One that only yields may come first. -/
theorem SA.q (i : Nat) {o : Oper} {v0 : Value} {d : Tmp} (hi : ops[i]? = some o) (hd : o.dst = some d) (hn : Nat.blt d C.n = true) (hs : Region.noSelect ops = true)
    (hk : ((Region.ready .any ops listed).contains i && Region.free .any ops listed i) = true) (h1 : St C ops (Qt C (upd o.dst v0 env)) Lr [(true, o)] env Lr)
    (h : SA C ops Q Lr n (listed.setIfInBounds i true) (upd o.dst v0 env) L) : SA C ops Q Lr (n + 1) listed env L := by
  intro a w hf ho hr
  simp only [Bool.and_eq_true] at hk
  have hlt : d < C.n := by simpa using hn
  have hdok : dok C.n o.dst = true := by rw [hd]; simpa [dok] using hlt
  exact anyK_first hi (Region.noSelect_spec hs) (fun c a a' w hp => (Q.calm c a' w hp).elim) (Own C.w0 Lr) (by simp) n listed a w (.inr ⟨rfl, by simp⟩) (Region.free_spec hi hk.2) (.inr (by simp)) (by simpa using hk.1) (yields_of_St hd hn h1 hf hr) hr (fun _ => hr) (h _ w (hf.put v0 hdok) ho hr)
theorem wpO_of_St {o : Oper} {K : Act → World → Prop} (h : St C ops (Q.seq K) Lr [(false, o)] env L) {a : Act} {w : World} (hf : Fr C.n env a) (ho : Own C.w0 L w) (hr : Own C.w0 Lr w) : wpO C.P ops Q.q o (fun a' w' => Own C.w0 Lr w' ∧ K a' w') a w := by
  have h := h a w hf ho hr
  unfold Run wpO at h
  unfold wpO
  split
  · rename_i hw
    rw [if_pos hw] at h
    rcases h with h | ⟨h, x, y, hx⟩
    · refine .inl ?_
      unfold Oper.wp at h ⊢
      generalize (execOp a.eval o).run C.P w = rr at *
      cases rr with
      | ok n w' => cases n <;> exact h
      | halt y w' => cases y <;> exact h
    · exact .inr ⟨h, x, y, hx⟩
  · rename_i hw
    rw [if_neg hw] at h
    exact h
/-- One that is alone. -/
theorem SA.act (i : Nat) {o : Oper} (hi : ops[i]? = some o) (hk : Region.ready .any ops listed = [i]) (h : St C ops (Q.seq (KA C ops Q Lr n (listed.setIfInBounds i true))) Lr [(false, o)] env L) : SA C ops Q Lr (n + 1) listed env L := by
  intro a w hf ho hr
  refine ⟨fun e => (by rw [e] at hk; cases hk), fun k hkm => ?_⟩
  have : k = i := by rw [hk] at hkm; simpa using hkm
  subst this
  unfold wpOp
  rw [hi]
  exact wpO_mono (fun a' w' h' => ⟨fun _ => h'.1, h'.2⟩) (wpO_of_St h hf ho hr)
/-- Two of which either may come. -/
theorem SA.fork (i j : Nat) {o o' : Oper} (hi : ops[i]? = some o) (hj : ops[j]? = some o') (hk : Region.ready .any ops listed = [i, j]) (h1 : St C ops (Q.seq (KA C ops Q Lr n (listed.setIfInBounds i true))) Lr [(false, o)] env L)
    (h2 : St C ops (Q.seq (KA C ops Q Lr n (listed.setIfInBounds j true))) Lr [(false, o')] env L) : SA C ops Q Lr (n + 1) listed env L := by
  intro a w hf ho hr
  refine ⟨fun e => (by rw [e] at hk; cases hk), fun k hkm => ?_⟩
  have : k = i ∨ k = j := by rw [hk] at hkm; simpa using hkm
  rcases this with rfl | rfl
  · unfold wpOp
    rw [hi]
    exact wpO_mono (fun a' w' h' => ⟨fun _ => h'.1, h'.2⟩) (wpO_of_St h1 hf ho hr)
  · unfold wpOp
    rw [hj]
    exact wpO_mono (fun a' w' h' => ⟨fun _ => h'.1, h'.2⟩) (wpO_of_St h2 hf ho hr)
theorem SX.sa (hc : ∀ w, Own C.w0 L w → Own C.w0 Lr w) (h : SA C ops Q Lr n listed env L) : SX C .normal (Q.seq (KA C ops Q Lr n listed)) env L := fun a w hf ho => h a w hf ho (hc w ho)
end sa
end Go.Proofs.Ytahafepgmkiabaa.Sep
