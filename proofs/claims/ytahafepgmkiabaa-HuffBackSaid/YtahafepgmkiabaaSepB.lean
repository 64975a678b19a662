/- The rules of the walk over owned rows: codes, regions, pure operations. -/
import Derived.Test.YtahafepgmkiabaaSep
set_option linter.unusedVariables false
set_option linter.unusedSimpArgs false
namespace Go.Proofs.Ytahafepgmkiabaa.Sep
open Go Go.RowKit

/-! ### Posts -/
structure Post where
  q : Exit → Act → World → Prop
  calm : ∀ c a w, ¬ q (.panic c) a w
def Post.seq (K : Act → World → Prop) (Q : Post) : Post := ⟨Exit.then K Q.q, fun c a w h => Q.calm c a w h⟩
def Post.blk (id : Nat) (Q : Post) : Post := ⟨Exit.inBlock id Q.q, fun c a w h => Q.calm c a w h⟩
/-- What a call comes to: a value and what is owned behind it. -/
def Ends (w0 : World) (R : Value → List Chunk → Prop) (e : Ending) (w' : World) : Prop := ∃ v L', e = .returned v ∧ R v L' ∧ Own w0 L' w'
def Fin (P : Program) (fn : Func) (w0 : World) (R : Value → List Chunk → Prop) : Post :=
  ⟨bodyPost P fn (Ends w0 R), fun c a w h => by
    obtain ⟨_, v, L', he, _⟩ := h
    cases he⟩
/-- The contract of a function. -/
def Meets (P : Program) (f : FuncId) (args : Array Value) (w0 : World) (L : List Chunk) (R : Value → List Chunk → Prop) : Prop :=
  ∀ w, Own w0 L w → Calls P f args w (Ends w0 R)
theorem Meets.mono {P : Program} {f : FuncId} {args : Array Value} {w0 : World} {L : List Chunk} {R R' : Value → List Chunk → Prop} (h : Meets P f args w0 L R) (hr : ∀ v L', R v L' → R' v L') : Meets P f args w0 L R' :=
  fun w hw => (h w hw).mono fun e w' ⟨v, L', he, hR, ho⟩ => ⟨v, L', he, hr _ _ hR, ho⟩
theorem Meets.perm {P : Program} {f : FuncId} {args : Array Value} {w0 : World} {L L' : List Chunk} {R : Value → List Chunk → Prop} (h : Meets P f args w0 L' R) (hp : L.flatten.Perm L'.flatten) : Meets P f args w0 L R :=
  fun w hw => h w (hw.perm hp)

structure Cx where
  P : Program
  n : Nat
  w0 : World
def SC (C : Cx) (c : Code) (Q : Post) (env : Env) (L : List Chunk) : Prop := ∀ a w, Fr C.n env a → Own C.w0 L w → c.wp C.P Q.q a w
def SX (C : Cx) (e : Exit) (Q : Post) (env : Env) (L : List Chunk) : Prop := ∀ a w, Fr C.n env a → Own C.w0 L w → Q.q e a w
def K (C : Cx) (y : Code) (Q : Post) : Act → World → Prop := fun a w => y.wp C.P Q.q a w

section codes
variable {C : Cx} {Q : Post} {env : Env} {L : List Chunk}
theorem SC.seq {x y : Code} (h : SC C x (Q.seq (K C y Q)) env L) : SC C (x.seq y) Q env L := fun a w hf ho => wp_seq (h a w hf ho)
theorem SC.skip (h : SX C .normal Q env L) : SC C .skip Q env L := fun a w hf ho => wp_skip (h a w hf ho)
theorem SC.ret (h : SX C .ret Q env L) : SC C .ret Q env L := fun a w hf ho => wp_ret (h a w hf ho)
theorem SC.exit {id : Nat} (h : SX C (.exit id) Q env L) : SC C (.exit id) Q env L := fun a w hf ho => wp_exit (h a w hf ho)
theorem SC.block {id : Nat} {c : Code} (h : SC C c (Q.blk id) env L) : SC C (.block id c) Q env L := fun a w hf ho => wp_block (h a w hf ho)
theorem SC.cond {x : Operand} {t e : Code} {b : Bool} (hx : ev env x = some (.bool b)) (h1 : b = true → SC C t Q env L) (h2 : b = false → SC C e Q env L) : SC C (.cond x t e) Q env L :=
  fun a w hf ho => wp_cond_split (hf.eval hx) (fun h => h1 h a w hf ho) (fun h => h2 h a w hf ho)
theorem SC.condp {x : Operand} {t e : Code} {p : Prop} [Decidable p] (hx : ev env x = some (.bool (decide p))) (h1 : p → SC C t Q env L) (h2 : ¬ p → SC C e Q env L) : SC C (.cond x t e) Q env L :=
  SC.cond hx (fun h => h1 (of_decide_eq_true h)) (fun h => h2 (of_decide_eq_false h))
theorem SC.keep {c : Code} (env' : Env) (hs : Sub env' env) (h : SC C c Q env' L) : SC C c Q env L := fun a w hf ho => h a w (hf.keep hs) ho
theorem SC.perm {c : Code} (L' : List Chunk) (hp : L.flatten.Perm L'.flatten) (h : SC C c Q env L') : SC C c Q env L := fun a w hf ho => h a w hf (ho.perm hp)
theorem SC.drop {c : Code} {x : Chunk} (h : SC C c Q env L) : SC C c Q env (x :: L) := fun a w hf ho => h a w hf ho.drop
theorem SX.seq {y : Code} (h : SC C y Q env L) : SX C .normal (Q.seq (K C y Q)) env L := h
theorem SX.seq_exit {K' : Act → World → Prop} {id : Nat} (h : SX C (.exit id) Q env L) : SX C (.exit id) (Q.seq K') env L := h
theorem SX.seq_ret {K' : Act → World → Prop} (h : SX C .ret Q env L) : SX C .ret (Q.seq K') env L := h
theorem SX.hit {id : Nat} (h : SX C .normal Q env L) : SX C (.exit id) (Q.blk id) env L := fun a w hf ho => by
  show Exit.inBlock id Q.q (.exit id) a w
  simp only [Exit.inBlock, if_true]
  exact h a w hf ho
theorem SX.miss {id id' : Nat} (hne : Nat.beq id' id = false) (h : SX C (.exit id') Q env L) : SX C (.exit id') (Q.blk id) env L := fun a w hf ho => by
  show Exit.inBlock id Q.q (.exit id') a w
  simp only [Exit.inBlock, if_neg (Nat.ne_of_beq_eq_false hne)]
  exact h a w hf ho
theorem SX.blk (h : SX C .normal Q env L) {id : Nat} : SX C .normal (Q.blk id) env L := h
theorem SX.blk_ret (h : SX C .ret Q env L) {id : Nat} : SX C .ret (Q.blk id) env L := h
theorem SX.keep {e : Exit} (env' : Env) (hs : Sub env' env) (h : SX C e Q env' L) : SX C e Q env L := fun a w hf ho => h a w (hf.keep hs) ho
theorem SX.perm {e : Exit} (L' : List Chunk) (hp : L.flatten.Perm L'.flatten) (h : SX C e Q env L') : SX C e Q env L := fun a w hf ho => h a w hf (ho.perm hp)
theorem SX.drop {e : Exit} {x : Chunk} (h : SX C e Q env L) : SX C e Q env (x :: L) := fun a w hf ho => h a w hf ho.drop

theorem least_of {p : Nat → Prop} {m : Nat} (hm : p m) : ∃ m, p m ∧ ∀ m', m' < m → ¬ p m' := by
  induction m using Nat.strongRecOn with
  | _ m ih =>
    by_cases hex : ∃ m', m' < m ∧ p m'
    · obtain ⟨m', h1, h2⟩ := hex
      exact ih m' h1 h2
    · exact ⟨m, hm, fun m' h1 h2 => hex ⟨m', h1, h2⟩⟩
/-- A loop: a family of states, one of which holds at the head of each round; a measure falls. -/
def Again {α : Type} (C : Cx) (I : α → Prop) (env : α → Env) (L : α → List Chunk) (μ : α → Nat) (x : α) : Act → World → Prop :=
  fun a w => ∃ y, I y ∧ μ y < μ x ∧ Fr C.n (env y) a ∧ Own C.w0 (L y) w
theorem SC.loop {α : Type} {c : Code} (I : α → Prop) (env' : α → Env) (L' : α → List Chunk) (μ : α → Nat) (x0 : α) (h0 : I x0) (hs : Sub (env' x0) env) (hp : L.flatten.Perm (L' x0).flatten)
    (h : ∀ x, I x → SC C c (Q.seq (Again C I env' L' μ x)) (env' x) (L' x)) : SC C (.loop c) Q env L := by
  intro a w hf ho
  let G : Act → World → Prop := fun a w => ∃ x, I x ∧ Fr C.n (env' x) a ∧ Own C.w0 (L' x) w
  let T : Act → World → Nat → Prop := fun a w m => ∃ x, I x ∧ Fr C.n (env' x) a ∧ Own C.w0 (L' x) w ∧ μ x ≤ m
  have least : ∀ a w, G a w → ∃ m, T a w m ∧ ∀ m', m' < m → ¬ T a w m' := by
    intro a w ⟨x, hx⟩
    exact least_of (p := T a w) (m := μ x) ⟨x, hx.1, hx.2.1, hx.2.2, Nat.le_refl _⟩
  exact wp_loop G (fun a w => open Classical in if h : ∃ m, T a w m ∧ ∀ m', m' < m → ¬ T a w m' then h.choose else 0) ⟨x0, h0, hf.keep hs, ho.perm hp⟩ (by
    intro a w hG
    have hl := least a w hG
    simp only [dif_pos hl]
    obtain ⟨⟨x, hI, hfx, hox, hle⟩, hmin⟩ := hl.choose_spec
    refine Code.wp_mono ?_ (h x hI a w hfx hox)
    intro e a' w' hq
    cases e with
    | normal =>
      obtain ⟨y, hy, hlt, hfy, hoy⟩ := hq
      refine ⟨⟨y, hy, hfy, hoy⟩, ?_⟩
      have hl' := least a' w' ⟨y, hy, hfy, hoy⟩
      simp only [dif_pos hl']
      have hs' := hl'.choose_spec
      have : hl'.choose ≤ μ y := by
        rcases Nat.lt_or_ge (μ y) hl'.choose with h1 | h1
        · exact absurd ⟨y, hy, hfy, hoy, Nat.le_refl _⟩ (hs'.2 _ h1)
        · exact h1
      omega
    | exit id => exact hq
    | goto l => exact hq
    | ret => exact hq
    | panic c => exact hq
    | outgrown => exact hq)
theorem SX.again {α : Type} {I : α → Prop} {env' : α → Env} {L' : α → List Chunk} {μ : α → Nat} {x : α} (y : α) (hI : I y) (hμ : μ y < μ x) (hs : Sub (env' y) env) (hp : L.flatten.Perm (L' y).flatten) :
    SX C .normal (Q.seq (Again C I env' L' μ x)) env L := fun a w hf ho => ⟨y, hI, hμ, hf.keep hs, ho.perm hp⟩
end codes

/-! ### Regions -/
def Lq (f : Bool) (Lr L : List Chunk) : List Chunk := match f with
  | true => Lr
  | false => L
def St (C : Cx) (ops : Array Oper) (Q : Post) (Lr : List Chunk) (κ : List (Bool × Oper)) (env : Env) (L : List Chunk) : Prop :=
  ∀ a w, Fr C.n env a → Own C.w0 L w → Own C.w0 Lr w → Run C.P ops Q.q (Own C.w0 Lr) κ a w
theorem SC.plain {C : Cx} {Q : Post} {env : Env} {L : List Chunk} {id : Nat} {l : List Oper} (h : St C l.toArray Q [] (l.map fun o => (false, o)) env L) : SC C (.region id l.toArray false) Q env L :=
  fun a w hf ho => wp_plain (S := Own C.w0 []) (by simpa using h a w hf ho ho.nil)
def Tail (C : Cx) (ops : Array Oper) (Q : Post) (l2 : List Nat) : Act → World → Prop := Tl C.P ops Q.q l2 (Own C.w0 [])
theorem SC.drawn {C : Cx} {Q : Post} {env : Env} {L : List Chunk} {id : Nat} {ops : Array Oper} (l : List (Nat × Bool)) (l2 : List Nat) (Lr : List Chunk) (hm : C.P.follows .mixedOrders = true) (hk : okAll ops l l2 = true)
    (hc : ∀ w, Own C.w0 L w → Own C.w0 Lr w) (h : St C ops (Q.seq (Tail C ops Q l2)) Lr (pickOps ops l) env L) : SC C (.region id ops true) Q env L := by
  intro a w hf ho
  exact wp_drawn (S2 := Own C.w0 []) l l2 hm hk (fun c a a' w hp => (Q.calm c a' w hp).elim) (h a _ hf ho.drew (hc w ho).drew)
/-- Behind all that only yield. -/
theorem SX.tail {C : Cx} {Q : Post} {env : Env} {L : List Chunk} {ops : Array Oper} {l2 : List Nat} (h : St C ops Q [] (pickTail ops l2) env L) : SX C .normal (Q.seq (Tail C ops Q l2)) env L :=
  fun a w hf ho => h a w hf ho ho.nil
section steps
variable {C : Cx} {ops : Array Oper} {Q : Post} {Lr : List Chunk} {κ : List (Bool × Oper)} {env : Env} {L : List Chunk} {f : Bool}
/-- Of a larger part is spoken from here on. -/
theorem St.grow (Lr' : List Chunk) (h1 : ∀ w, Own C.w0 L w → Own C.w0 Lr' w) (h2 : ∀ w, Own C.w0 Lr' w → Own C.w0 Lr w) (h : St C ops Q Lr' κ env L) : St C ops Q Lr κ env L :=
  fun a w hf ho hr => Run_mono _ h2 (h a w hf ho (h1 w ho))
theorem St.done (h : SX C .normal Q env L) : St C ops Q Lr [] env L := fun a w hf ho _ => h a w hf ho
theorem St.keep (env' : Env) (hs : Sub env' env) (h : St C ops Q Lr κ env' L) : St C ops Q Lr κ env L := fun a w hf ho hr => h a w (hf.keep hs) ho hr
theorem St.perm (L' : List Chunk) (hp : L.flatten.Perm L'.flatten) (h : St C ops Q Lr κ env L') : St C ops Q Lr κ env L := fun a w hf ho hr => h a w hf (ho.perm hp) hr
theorem St.drop {x : Chunk} (h : St C ops Q Lr κ env L) : St C ops Q Lr κ env (x :: L) := fun a w hf ho hr => h a w hf ho.drop hr
/-- An operation that looks at memory, yields a value and turns nothing. -/
theorem St.quiet {o : Oper} {v : Value} (hd : dok C.n o.dst = true) (hg : o.guard = none) (hrd : rdr o = true)
    (hq : ∀ a w, Fr C.n env a → Own C.w0 (Lq f Lr L) w → (execOp a.eval o).run C.P w = .ok (.value v) w)
    (h : St C ops Q Lr κ (upd o.dst v env) L) : St C ops Q Lr ((f, o) :: κ) env L := by
  intro a w hf ho hr
  have hw : Region.wanted o (yielded ops a.tmps) = true := by simp [Region.wanted, hg]
  cases f with
  | true =>
    refine ⟨_, fun _ h => h, v, ?_, hr, h _ w (hf.put v hd) ho hr⟩
    rw [if_pos hrd]
    exact .inl ⟨hw, fun w' hw' => hq a w' hf hw'⟩
  | false =>
    unfold Run wpO
    rw [if_pos hw]
    refine .inl ?_
    unfold Oper.wp
    rw [hq a w hf ho]
    exact ⟨hr, h _ w (hf.put v hd) ho hr⟩
/-- An operation that only computes. -/
theorem St.plain {o : Oper} {v : Value} (hd : dok C.n o.dst = true) (hg : o.guard = none)
    (hq : ∀ a w, Fr C.n env a → (execOp a.eval o).run C.P w = .ok (.value v) w)
    (h : St C ops Q Lr κ (upd o.dst v env) L) : St C ops Q Lr ((f, o) :: κ) env L := by
  intro a w hf ho hr
  have hw : Region.wanted o (yielded ops a.tmps) = true := by simp [Region.wanted, hg]
  cases f with
  | true => exact ⟨_, fun _ h => h, v, .inl ⟨hw, fun w' _ => hq a w' hf⟩, hr, h _ w (hf.put v hd) ho hr⟩
  | false =>
    unfold Run wpO
    rw [if_pos hw]
    refine .inl ?_
    unfold Oper.wp
    rw [hq a w hf]
    exact ⟨hr, h _ w (hf.put v hd) ho hr⟩
/-- An operation that may turn what is owned. -/
theorem St.act {o : Oper} {L' : Value → List Chunk → Prop} (hd : dok C.n o.dst = true) (hg : o.guard = none)
    (hq : ∀ a w (K : Act → World → Prop), Fr C.n env a → Own C.w0 L w → (∀ v L1 w', L' v L1 → Own C.w0 L1 w' → K (a.put o.dst v) w') → o.wp C.P a w K Q.q)
    (h : ∀ v L1, L' v L1 → St C ops Q Lr κ (upd o.dst v env) L1) (hc : ∀ v L1 w, L' v L1 → Own C.w0 L1 w → Own C.w0 Lr w) : St C ops Q Lr ((false, o) :: κ) env L := by
  intro a w hf ho hr
  have hw : Region.wanted o (yielded ops a.tmps) = true := by simp [Region.wanted, hg]
  unfold Run wpO
  rw [if_pos hw]
  refine .inl (hq a w _ hf ho fun v L1 w' hl ho' => ⟨hc v L1 w' hl ho', h v L1 hl _ w' (hf.put v hd) ho' (hc v L1 w' hl ho')⟩)
theorem St.guard {dst : Option Tmp} {op : Op} {ty : TypeId} {pos : String} {after : Array Edge} {j : Nat} {want b : Bool} {d : Tmp} (hd : dok C.n dst = true) (hj : (ops[j]?).bind (·.dst) = some d) (hb : lk env d = some (.bool b))
    (h1 : b = want → St C ops Q Lr ((f, ⟨dst, op, ty, pos, after, none⟩) :: κ) env L) (h2 : b = !want → St C ops Q Lr κ (upd dst undef env) L) :
    St C ops Q Lr ((f, ⟨dst, op, ty, pos, after, some (j, want)⟩) :: κ) env L := by
  intro a w hf ho hr
  have hy : yielded ops a.tmps j = some b := by
    unfold yielded
    rw [hj]
    simp only [Option.bind_some, hf.has d _ hb]
  have hw : Region.wanted (⟨dst, op, ty, pos, after, some (j, want)⟩ : Oper) (yielded ops a.tmps) = (b == want) := by
    simp [Region.wanted, hy]
  by_cases hbw : b = want
  · have h := h1 hbw a w hf ho hr
    subst hbw
    have hw' : Region.wanted (⟨dst, op, ty, pos, after, none⟩ : Oper) (yielded ops a.tmps) = true := by simp [Region.wanted]
    cases f with
    | true =>
      obtain ⟨S', hs', v, hv, hS, hk⟩ := h
      refine ⟨S', hs', v, ?_, hS, hk⟩
      rcases hv with ⟨_, hv⟩ | ⟨hv, _⟩
      · exact .inl ⟨by rw [hw]; simp, hv⟩
      · rw [hw'] at hv; cases hv
    | false =>
      unfold Run wpO at h ⊢
      rw [hw, beq_self_eq_true, if_pos rfl]
      rw [hw', if_pos rfl] at h
      exact h
  · have hn : b = !want := by cases b <;> cases want <;> simp_all
    have h := h2 hn _ w (hf.put undef hd) ho hr
    have hw2 : (b == want) = false := by simpa using hbw
    cases f with
    | true => exact ⟨_, fun _ h => h, undef, .inr ⟨by rw [hw]; exact hw2, rfl⟩, hr, h⟩
    | false =>
      unfold Run wpO
      rw [hw, hw2, if_neg (by simp)]
      exact ⟨hr, h⟩
end steps
end Go.Proofs.Ytahafepgmkiabaa.Sep
