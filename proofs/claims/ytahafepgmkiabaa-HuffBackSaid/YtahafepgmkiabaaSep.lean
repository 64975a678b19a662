/- A small separation logic over the model's walk: what a call owns is a list of rows, each with its block; a frame is a list of slots with their values. -/
import Derived.WalkKit
import Derived.OrdersHeld
set_option linter.unusedVariables false
set_option linter.unusedSimpArgs false
namespace Go.Proofs.Ytahafepgmkiabaa.Sep
open Go Go.RowKit

/-! ### What is owned -/
/-- A row of cells of the call's own. -/
structure Ent where
  b : Nat
  cs : List Value
  e : TypeId
abbrev Chunk := List Ent

/-- A mark that no cell of a row bears. -/
def Clean (n : Nat) (fr : Nat × Nat) : Prop := n ≤ fr.1 ∨ fr.1 = fr.2
def RowAt (w : World) (b : Nat) (cs : List Value) (e : TypeId) : Prop := ∃ fr, Clean cs.length fr ∧ w.heap[b]? = some (.cells cs.toArray e fr)
/-- The world is w0 with the rows of L beside it (and whatever else was made). -/
structure Own (w0 : World) (L : List Chunk) (w : World) : Prop where
  below : Below w0.heap.size w0 w
  rows : ∀ x ∈ L.flatten, w0.heap.size ≤ x.b ∧ RowAt w x.b x.cs x.e
  nodup : (L.flatten.map Ent.b).Nodup

theorem Own.perm {w0 w : World} {L L' : List Chunk} (h : Own w0 L w) (hp : L.flatten.Perm L'.flatten) : Own w0 L' w :=
  ⟨h.below, fun x hx => h.rows x (hp.mem_iff.2 hx), (hp.map _).nodup_iff.1 h.nodup⟩
theorem Own.sub {w0 w : World} {L L' : List Chunk} (h : Own w0 L w) (hp : L'.flatten.Sublist L.flatten) : Own w0 L' w :=
  ⟨h.below, fun x hx => h.rows x (hp.mem hx), h.nodup.sublist (hp.map _)⟩
theorem Own.drop {w0 w : World} {c : Chunk} {L : List Chunk} (h : Own w0 (c :: L) w) : Own w0 L w :=
  h.sub (by simp)
theorem Own.nil {w0 w : World} {L : List Chunk} (h : Own w0 L w) : Own w0 [] w := h.sub (by simp)
theorem Own.drew {w0 w : World} {L : List Chunk} (h : Own w0 L w) : Own w0 L { w with drawn := w.drawn + 1 } :=
  ⟨⟨h.below.os, h.below.tape, h.below.output, h.below.size, h.below.block⟩, h.rows, h.nodup⟩
theorem Own.refl (w : World) : Own w [] w := ⟨Below.refl _ _, by simp, by simp⟩
theorem RowAt.lt {w : World} {b : Nat} {cs : List Value} {e : TypeId} (h : RowAt w b cs e) : b < w.heap.size := by
  obtain ⟨fr, _, h⟩ := h
  exact (Array.getElem?_eq_some_iff.1 h).1
theorem Own.lt {w0 w : World} {L : List Chunk} (h : Own w0 L w) : ∀ x ∈ L.flatten, x.b < w.heap.size := fun x hx => (h.rows x hx).2.lt
/-- A new row, with a mark that none of its cells bears. -/
theorem Own.push {w0 w w' : World} {L : List Chunk} (h : Own w0 L w) (cs : List Value) (e : TypeId) (fr : Nat × Nat) (hfr : Clean cs.length fr)
    (ho : w'.os = w.os) (ht : w'.tape = w.tape) (hp : w'.output = w.output) (hh : w'.heap = w.heap.push (.cells cs.toArray e fr)) : Own w0 ([⟨w.heap.size, cs, e⟩] :: L) w' := by
  have old : ∀ k, k < w.heap.size → w'.heap[k]? = w.heap[k]? := fun k hk => by rw [hh, Array.getElem?_push, if_neg (by omega)]
  refine ⟨⟨ho.trans h.below.os, ht.trans h.below.tape, hp.trans h.below.output, ?_, fun k hk => ?_⟩, fun x hx => ?_, ?_⟩
  · rw [hh, Array.size_push]; have := h.below.size; omega
  · rw [old k (by have := h.below.size; omega)]; exact h.below.block k hk
  · simp only [List.flatten_cons, List.singleton_append, List.mem_cons] at hx
    rcases hx with rfl | hx
    · exact ⟨h.below.size, fr, hfr, by rw [hh]; simp⟩
    · have h1 := h.lt x hx
      obtain ⟨h2, fr', h3, h4⟩ := h.rows x hx
      exact ⟨h2, fr', h3, by rw [old _ h1]; exact h4⟩
  · simp only [List.flatten_cons, List.singleton_append, List.map_cons, List.nodup_cons]
    refine ⟨fun hm => ?_, h.nodup⟩
    obtain ⟨x, hx, e⟩ := List.mem_map.1 hm
    have := h.lt x hx
    omega
theorem Own.alloc {w0 w : World} {L : List Chunk} (h : Own w0 L w) (cs : List Value) (e : TypeId) : Own w0 ([⟨w.heap.size, cs, e⟩] :: L) (w.alloc (.cells cs.toArray e)) :=
  h.push cs e (0, 0) (.inr rfl) rfl rfl rfl rfl
/-- Another content, as long as the old one, for the first row. -/
theorem Own.setRow {w0 w : World} {L : List Chunk} {b : Nat} {cs : List Value} {e : TypeId} (h : Own w0 ([⟨b, cs, e⟩] :: L) w) (cs' : List Value) (hl : cs'.length = cs.length) :
    Own w0 ([⟨b, cs', e⟩] :: L) (w.setRow b cs'.toArray) := by
  have hb := h.rows ⟨b, cs, e⟩ (by simp)
  have hn := h.nodup
  simp only [List.flatten_cons, List.singleton_append, List.map_cons, List.nodup_cons] at hn
  refine ⟨?_, fun x hx => ?_, ?_⟩
  · refine ⟨h.below.os, h.below.tape, h.below.output, by simp [World.setRow]; exact h.below.size, fun k hk => ?_⟩
    rw [setRow_other w b k _ (by have := hb.1; simp at this; omega)]
    exact h.below.block k hk
  · simp only [List.flatten_cons, List.singleton_append, List.mem_cons] at hx
    rcases hx with rfl | hx
    · obtain ⟨h1, fr, h2, h3⟩ := hb
      exact ⟨h1, fr, by rw [hl]; exact h2, setRow_heap w b cs.toArray cs'.toArray e fr h3⟩
    · obtain ⟨h1, fr, h2, h3⟩ := h.rows x (by simp [hx])
      refine ⟨h1, fr, h2, ?_⟩
      rw [setRow_other w b x.b _ (fun he => hn.1 (List.mem_map.2 ⟨x, hx, he⟩))]
      exact h3
  · simpa using h.nodup
theorem RowAt.cell {w : World} {b : Nat} {cs : List Value} {e : TypeId} (h : RowAt w b cs e) (o : Nat) : w.cell? ⟨b, o, none⟩ = cs[o]? := by
  obtain ⟨fr, _, h⟩ := h
  simp [World.cell?, h]
theorem RowAt.free {w : World} {b : Nat} {cs : List Value} {e : TypeId} (h : RowAt w b cs e) (o : Nat) (ho : o < cs.length) : w.frozen? ⟨b, o, none⟩ = false := by
  obtain ⟨fr, hc, h⟩ := h
  simp only [World.frozen?, h]
  unfold Clean at hc
  simp
  omega
theorem setCell_row {w : World} {b : Nat} {cs : List Value} {e : TypeId} (h : RowAt w b cs e) (o : Nat) (v : Value) : w.setCell ⟨b, o, none⟩ v = w.setRow b (cs.set o v).toArray := by
  obtain ⟨fr, _, h⟩ := h
  unfold World.setCell World.setRow
  congr 1
  apply Array.ext_getElem?
  intro k
  simp only [Array.getElem?_modify]
  by_cases e' : b = k
  · subst e'
    simp [h]
  · simp [e']

/-! ### Frames -/
abbrev Env := List (Nat × Value)
def lk : Env → Nat → Option Value
  | [], _ => none
  | p :: r, k => cond (Nat.beq p.1 k) (some p.2) (lk r k)
def ev (env : Env) : Operand → Option Value
  | .tmp t => lk env t
  | .const v => some v
  | .global g => some (.pointer (some ⟨g, 0, none⟩))
  | .func f => some (.func (.func f) #[] #[])
def upd (d : Option Tmp) (v : Value) (env : Env) : Env := match d with
  | some d => (d, v) :: env
  | none => env
def dok (n : Nat) : Option Tmp → Bool
  | some d => Nat.blt d n
  | none => true
def Sub : Env → Env → Prop
  | [], _ => True
  | p :: r, env => lk env p.1 = some p.2 ∧ Sub r env
structure Fr (n : Nat) (env : Env) (a : Act) : Prop where
  size : a.tmps.size = n
  defers : a.defers = []
  has : ∀ k v, lk env k = some v → a.tmps[k]? = some v
theorem Fr.eval {n : Nat} {env : Env} {a : Act} (h : Fr n env a) {x : Operand} {v : Value} (hx : ev env x = some v) : a.eval x = v := by
  cases x with
  | tmp t => simp only [Act.eval, Array.getD_eq_getD_getElem?, h.has t v hx, Option.getD_some]
  | const u => exact Option.some.inj hx
  | global g => exact Option.some.inj hx
  | func f => exact Option.some.inj hx
theorem Fr.put {n : Nat} {env : Env} {a : Act} (h : Fr n env a) {d : Option Tmp} (v : Value) (hd : dok n d = true) : Fr n (upd d v env) (a.put d v) := by
  cases d with
  | none => exact h
  | some d =>
    have hlt : d < n := by simpa [dok] using hd
    refine ⟨by simp [Act.put, h.size], h.defers, fun k u hk => ?_⟩
    simp only [upd, lk] at hk
    cases hb : Nat.beq d k with
    | true =>
      have : d = k := Nat.eq_of_beq_eq_true hb
      subst this
      rw [hb] at hk
      simp only [cond_true] at hk
      simp [Act.put, h.size, hlt, hk]
    | false =>
      have : d ≠ k := Nat.ne_of_beq_eq_false hb
      rw [hb] at hk
      simp only [cond_false] at hk
      simp only [Act.put, Array.getElem?_setIfInBounds_ne this]
      exact h.has k u hk
theorem sub_lk : ∀ {env' env : Env}, Sub env' env → ∀ k v, lk env' k = some v → lk env k = some v
  | [], _, _, k, v, hk => by simp [lk] at hk
  | p :: r, env, h, k, v, hk => by
    simp only [lk] at hk
    cases hb : Nat.beq p.1 k with
    | true =>
      have : p.1 = k := Nat.eq_of_beq_eq_true hb
      rw [hb] at hk
      simp only [cond_true] at hk
      rw [← this, h.1, hk]
    | false =>
      rw [hb] at hk
      exact sub_lk h.2 k v (by simpa using hk)
theorem Fr.keep {n : Nat} {env env' : Env} {a : Act} (h : Fr n env a) (hs : Sub env' env) : Fr n env' a :=
  ⟨h.size, h.defers, fun k v hk => h.has k v (sub_lk hs k v hk)⟩

/-! ### The walk of a region -/
section run
variable (P : Program) (ops : Array Oper) (Q : Exit → Act → World → Prop)
def wpO (o : Oper) (K : Act → World → Prop) (a : Act) (w : World) : Prop :=
  if Region.wanted o (yielded ops a.tmps) then o.wp P a w K Q ∨ (o.asks P a w ∧ LetsOut Q) else K (a.put o.dst undef) w
/-- Does it look at memory? -/
def rdr (o : Oper) : Bool := match o.op with
  | .load _ _ => true
  | .convert _ _ _ => true
  | _ => false
/-- The operations in an order: 'true': this one only yields a value, in every world that meets S (if it looks at memory), in every world (if not). -/
def Run : (S : World → Prop) → List (Bool × Oper) → Act → World → Prop
  | S, [], a, w => Q .normal a w
  | S, (true, o) :: r, a, w => ∃ S' : World → Prop, (∀ w, S' w → S w) ∧ ∃ v, YieldsIf P ops (if rdr o then S' else fun _ => True) o v a ∧ S' w ∧ Run S' r (a.put o.dst v) w
  | S, (false, o) :: r, a, w => wpO P ops Q o (fun a' w' => S w' ∧ Run S r a' w') a w
end run
theorem wpO_mono {P : Program} {ops : Array Oper} {Q : Exit → Act → World → Prop} {o : Oper} {K K' : Act → World → Prop} {a : Act} {w : World} (h : ∀ a w, K a w → K' a w)
    (hh : wpO P ops Q o K a w) : wpO P ops Q o K' a w := by
  unfold wpO at *
  split
  · rename_i hw; rw [if_pos hw] at hh; exact hh.imp (Oper.wp_mono h) id
  · rename_i hw; rw [if_neg hw] at hh; exact h _ _ hh
theorem Run_mono {P : Program} {ops : Array Oper} {Q : Exit → Act → World → Prop} : ∀ {S S' : World → Prop} (l : List (Bool × Oper)) {a : Act} {w : World}, (∀ w, S' w → S w) → Run P ops Q S' l a w → Run P ops Q S l a w
  | S, S', [], a, w, hs, h => h
  | S, S', (true, o) :: r, a, w, hs, h => by
    obtain ⟨S2, h2, v, hy, hw, hr⟩ := h
    exact ⟨S2, fun w h => hs w (h2 w h), v, hy, hw, hr⟩
  | S, S', (false, o) :: r, a, w, hs, h => wpO_mono (fun a' w' h' => ⟨hs w' h'.1, Run_mono r hs h'.2⟩) h
theorem run_list {P : Program} {ops : Array Oper} {Q : Exit → Act → World → Prop} {S : World → Prop} : ∀ (l : List Oper) (a : Act) (w : World), Run P ops Q S (l.map fun o => (false, o)) a w → wpList P ops Q l a w
  | [], a, w, h => h
  | o :: l, a, w, h => by
    simp only [List.map_cons, Run, wpO] at h
    unfold wpList
    split
    · rename_i hw
      rw [if_pos hw] at h
      exact h.imp (Oper.wp_mono fun a' w' h' => run_list l a' w' h'.2) id
    · rename_i hw
      rw [if_neg hw] at h
      exact run_list l _ _ h.2

/-! ### Every order of a region that draws: the operations of l1 first, those that only yield ('true') as early as may be; those of l2 wait for all that look at memory -/
/-- Is S wanted behind operation j? As long as none of l2 has come up. -/
def nd (l2 : List Nat) (listed : Array Bool) (j : Nat) : Bool := !(l2.contains j) && l2.all fun k => !(listed.getD k false)
theorem nd_step {l2 : List Nat} {listed : Array Bool} {i j : Nat} (hj : listed.getD j true = false) (h : nd l2 (listed.setIfInBounds j true) i = true) : nd l2 listed j = true := by
  simp only [nd, Bool.and_eq_true, Bool.not_eq_true', List.all_eq_true] at h ⊢
  have hlt : j < listed.size := by
    rcases Nat.lt_or_ge j listed.size with h' | h'
    · exact h'
    · simp [Array.getElem?_eq_none h'] at hj
  have hnj : j ∉ l2 := fun hm => by
    have := h.2 j hm
    simp [hlt] at this
  refine ⟨by simpa using hnj, fun k hk => ?_⟩
  have := h.2 k hk
  rw [getD_set_ne false (show j ≠ k from fun e => hnj (e ▸ hk))] at this
  exact this
section any
variable {P : Program} {ops : Array Oper} {Q : Exit → Act → World → Prop} {S : World → Prop} {l2 : List Nat}
/-- Whatever order is picked, and S holds behind each operation as long as none of l2 has come up. -/
def wpAnyK (P : Program) (ops : Array Oper) (Q : Exit → Act → World → Prop) (S : World → Prop) (l2 : List Nat) : Nat → Array Bool → Act → World → Prop
  | 0, listed, a, w => Region.ready .any ops listed = [] ∧ Q .normal a w
  | n + 1, listed, a, w => (Region.ready .any ops listed = [] → Q .normal a w) ∧
    ∀ i ∈ Region.ready .any ops listed, wpOp P ops Q i (fun a' w' => (nd l2 listed i = true → S w') ∧ wpAnyK P ops Q S l2 n (listed.setIfInBounds i true) a' w') a w
theorem anyK_any : ∀ (n : Nat) (listed : Array Bool) (a : Act) (w : World), wpAnyK P ops Q S l2 n listed a w → wpAny P .any ops Q n listed a w
  | 0, _, _, _, h => h
  | n + 1, _, _, _, h => ⟨h.1, fun i hi => wpOp_mono (fun a' w' h' => anyK_any n _ a' w' h'.2) (h.2 i hi)⟩
theorem anyK_mono {S' : World → Prop} (hs : ∀ w, S' w → S w) : ∀ (n : Nat) (listed : Array Bool) (a : Act) (w : World), wpAnyK P ops Q S' l2 n listed a w → wpAnyK P ops Q S l2 n listed a w
  | 0, _, _, _, h => h
  | n + 1, _, _, _, h => ⟨h.1, fun i hi => wpOp_mono (fun a' w' h' => ⟨fun hn => hs w' (h'.1 hn), anyK_mono hs n _ a' w' h'.2⟩) (h.2 i hi)⟩
/-- It comes behind i: by an edge, or by one to an operation that is not listed yet and comes behind i itself. -/
inductive Aft (ops : Array Oper) (listed : Array Bool) (i : Nat) : Oper → Prop
  | one {o : Oper} {e} (he : e ∈ o.after) (hb : Region.binds .any e = true) (hon : e.on = i) : Aft ops listed i o
  | two {o o' : Oper} {e} (he : e ∈ o.after) (hb : Region.binds .any e = true) (hun : listed.getD e.on true = false) (ho : ops[e.on]? = some o') (h : Aft ops listed i o') : Aft ops listed i o
def aftB (ops : Array Oper) (listed : Array Bool) (i : Nat) : Nat → Oper → Bool
  | 0, o => o.after.any fun e => Region.binds .any e && e.on == i
  | n + 1, o => (o.after.any fun e => Region.binds .any e && e.on == i) || (o.after.any fun e => Region.binds .any e && (!(listed.getD e.on true) && match ops[e.on]? with
      | some o' => aftB ops listed i n o'
      | none => false))
theorem aftB_spec {ops : Array Oper} {listed : Array Bool} {i : Nat} : ∀ (n : Nat) (o : Oper), aftB ops listed i n o = true → Aft ops listed i o
  | 0, o, h => by
    obtain ⟨e, he, hb⟩ := Array.any_eq_true'.1 h
    simp only [Bool.and_eq_true, beq_iff_eq] at hb
    exact .one he hb.1 hb.2
  | n + 1, o, h => by
    unfold aftB at h
    rcases Bool.or_eq_true_iff.1 h with h | h
    · obtain ⟨e, he, hb⟩ := Array.any_eq_true'.1 h
      simp only [Bool.and_eq_true, beq_iff_eq] at hb
      exact .one he hb.1 hb.2
    · obtain ⟨e, he, hb⟩ := Array.any_eq_true'.1 h
      simp only [Bool.and_eq_true, Bool.not_eq_true'] at hb
      obtain ⟨hb1, hb2, hb3⟩ := hb
      cases ho : ops[e.on]? with
      | none => rw [ho] at hb3; cases hb3
      | some o' => rw [ho] at hb3; exact .two he hb1 hb2 ho (aftB_spec n o' hb3)
/-- What is ready while i is not listed doesn't come behind it. -/
theorem not_aft {ops : Array Oper} {listed : Array Bool} {i : Nat} {o : Oper} (hno : ∀ e ∈ o.after, Region.binds .any e = true → e.on ≠ i) (hall : ∀ e ∈ o.after, Region.binds .any e = true → listed.getD e.on false = true) : ¬ Aft ops listed i o := fun h => by
  cases h with
  | one he hb hon => exact hno _ he hb hon
  | two he hb hun ho h =>
    rename_i o' e
    have h1 := hall e he hb
    rcases Nat.lt_or_ge e.on listed.size with h' | h'
    · simp [h'] at h1 hun; rw [hun] at h1; cases h1
    · simp [Array.getElem?_eq_none h'] at h1
theorem Aft.list {ops : Array Oper} {listed : Array Bool} {i j : Nat} {oj o : Oper} (hoj : ops[j]? = some oj) (hn : ¬ Aft ops listed i oj) (h : Aft ops listed i o) : Aft ops (listed.setIfInBounds j true) i o := by
  induction h with
  | one he hb hon => exact .one he hb hon
  | two he hb hun ho h ih =>
    rename_i o1 o' e
    have hne : j ≠ e.on := fun heq => by
      subst heq
      rw [hoj] at ho
      injection ho with ho
      subst ho
      exact hn h
    exact .two he hb (by rw [getD_set_ne true hne]; exact hun) ho ih
theorem anyK_first {i : Nat} {oi : Oper} {v : Value} (hi : ops[i]? = some oi) (hsel : ∀ (j : Nat) (o : Oper) cs b, ops[j]? = some o → o.op ≠ .select cs b)
    (hQ : ∀ c (a a' : Act) w, Q (.panic c) a' w → Q (.panic c) a w) (S' : World → Prop)
    (hil : i ∉ l2) :
    ∀ (n : Nat) (listed : Array Bool) (a : Act) (w : World), ((∀ w, S' w) ∨ (S' = S ∧ ∀ j ∈ l2, ∀ o, ops[j]? = some o → Aft ops listed i o)) →
      (∀ j oj, ops[j]? = some oj → j ≠ i → listed.getD j true = false → (∀ e ∈ oj.after, Region.binds .any e = true → e.on ≠ i) → oi.apart ops oj = true) →
      ((∀ w, S' w) ∨ l2.all (fun k => !(listed.getD k false)) = true) →
      i ∈ Region.ready .any ops listed → YieldsIf P ops S' oi v a → S' w → (nd l2 listed i = true → S w) →
      wpAnyK P ops Q S l2 n (listed.setIfInBounds i true) (a.put oi.dst v) w → wpAnyK P ops Q S l2 (n + 1) listed a w := by
  intro n
  induction n with
  | zero =>
    intro listed a w _ _ _ hr hy hS' hS h
    refine ⟨fun e => (by rw [e] at hr; cases hr), fun j hj => ?_⟩
    rcases Decidable.em (j = i) with rfl | hji
    · exact hy.wpOp hi hS' ⟨hS, h⟩
    · have := ready_mono hj hji
      rw [h.1] at this
      cases this
  | succ n ih =>
    intro listed a w hS1 hfree hnone hr hy hS' hS h
    have hiu : listed.getD i true = false := (mem_ready.1 hr).1
    refine ⟨fun e => (by rw [e] at hr; cases hr), fun j hj => ?_⟩
    rcases Decidable.em (j = i) with rfl | hji
    · exact hy.wpOp hi hS' ⟨hS, h⟩
    · obtain ⟨hun, oj, hoj, hall⟩ := mem_ready.1 hj
      have hno : ∀ e ∈ oj.after, Region.binds .any e = true → e.on ≠ i := fun e he hb heq => by
        have h1 := hall e he hb
        have h0 := (mem_ready.1 hr).1
        rw [heq] at h1
        rcases Nat.lt_or_ge i listed.size with h' | h'
        · simp [h'] at h0 h1; rw [h0] at h1; cases h1
        · simp [Array.getElem?_eq_none h'] at h1
      have hna : ¬ Aft ops listed i oj := not_aft hno hall
      have h2 := wpOp_putIf hoj (hfree j oj hoj hji hun hno) (fun cs b => hsel i oi cs b hi) (fun cs b => hsel j oj cs b hoj) (fun c a w => hQ c a _ w) hy (h.2 j (ready_mono hj hji))
      have hgi : ∀ k, k ≠ i → (listed.setIfInBounds i true).getD k false = listed.getD k false := fun k hk => getD_set_ne false (Ne.symm hk)
      -- j is none of l2 where S' is S
      have hjl : (∀ w, S' w) ∨ (S' = S ∧ nd l2 (listed.setIfInBounds i true) j = true ∧ l2.all (fun k => !((listed.setIfInBounds j true).getD k false)) = true) := by
        rcases hS1 with h' | ⟨h', hafter⟩
        · exact .inl h'
        · rcases hnone with h'' | hnone
          · exact .inl h''
          · have hjn : j ∉ l2 := fun hm => by
              exact hna (hafter j hm oj hoj)
            simp only [List.all_eq_true] at hnone
            refine .inr ⟨h', ?_, ?_⟩
            · simp only [nd, Bool.and_eq_true, Bool.not_eq_true', List.all_eq_true]
              refine ⟨by simpa using hjn, fun k hk => ?_⟩
              rw [hgi k (fun e => hil (e ▸ hk))]
              simpa using hnone k hk
            · rw [List.all_eq_true]
              intro k hk
              rw [getD_set_ne false (show j ≠ k from fun e => hjn (e ▸ hk))]
              exact hnone k hk
      have hup : nd l2 listed j = true → nd l2 (listed.setIfInBounds i true) j = true := fun hn => by
        simp only [nd, Bool.and_eq_true, Bool.not_eq_true', List.all_eq_true] at hn ⊢
        exact ⟨hn.1, fun k hk => by rw [hgi k (fun e => hil (e ▸ hk))]; exact hn.2 k hk⟩
      refine wpOp_mono (fun a' w' h3 => ⟨fun hn => h3.2.1 (hup hn), ih (listed.setIfInBounds j true) a' w' ?_ ?_ (hjl.imp id fun h => h.2.2) (ready_mono hr (Ne.symm hji)) h3.1 ?_ (fun hn => h3.2.1 (hup (nd_step hun hn))) ?_⟩) h2
      · exact hS1.imp id fun ⟨h', hafter⟩ => ⟨h', fun k hk ok hok => (hafter k hk ok hok).list hoj hna⟩
      · intro k ok hk hki hkun hkno
        refine hfree k ok hk hki ?_ hkno
        rcases Decidable.em (j = k) with rfl | hjk
        · exact hun
        · rw [getD_set_ne true hjk] at hkun; exact hkun
      · rcases hjl with h' | ⟨h', hn, _⟩
        · exact h' w'
        · rw [h']; exact h3.2.1 hn
      · rw [Array.setIfInBounds_comm _ _ hji]
        exact h3.2.2
end any
/-- The order that is taken: each may come up in its turn; one marked 'true' may be taken first, one marked 'false' is alone; those of l2 are alone and wait for all that look at memory (q). -/
def okTail (ops : Array Oper) : List Nat → Array Bool → Bool
  | [], listed => (Region.ready .any ops listed).isEmpty
  | j :: r, listed => (Region.ready .any ops listed == [j]) && (ops[j]?).isSome && okTail ops r (listed.setIfInBounds j true)
def okOrd (ops : Array Oper) (l2 : List Nat) : List (Nat × Bool) → Array Bool → Bool
  | [], listed => okTail ops l2 listed
  | (i, true) :: r, listed => (Region.ready .any ops listed).contains i && Region.free .any ops listed i && !(l2.contains i) && l2.all (fun k => !(listed.getD k false)) &&
      (match ops[i]? with
        | some o => !(rdr o) || l2.all fun j => match ops[j]? with
          | some o => aftB ops listed i 8 o
          | none => false
        | none => false) && okOrd ops l2 r (listed.setIfInBounds i true)
  | (i, false) :: r, listed => (Region.ready .any ops listed == [i]) && (ops[i]?).isSome && okOrd ops l2 r (listed.setIfInBounds i true)
def pickOps (ops : Array Oper) (l : List (Nat × Bool)) : List (Bool × Oper) := l.map fun p => (p.2, (ops[p.1]?).getD default)
def pickTail (ops : Array Oper) (l : List Nat) : List (Bool × Oper) := l.map fun j => (false, (ops[j]?).getD default)
def Tl (P : Program) (ops : Array Oper) (Q : Exit → Act → World → Prop) (l2 : List Nat) (S2 : World → Prop) : Act → World → Prop := fun a w => Run P ops Q S2 (pickTail ops l2) a w
section any
variable {P : Program} {ops : Array Oper} {Q : Exit → Act → World → Prop} {S S2 : World → Prop}
theorem anyK_of_tail {l : List Nat} : ∀ (l2 : List Nat) (listed : Array Bool) (a : Act) (w : World), (∀ j ∈ l2, j ∈ l) → okTail ops l2 listed = true → Run P ops Q S2 (pickTail ops l2) a w → wpAnyK P ops Q S l l2.length listed a w
  | [], listed, a, w, hm, hk, h => by
    simp only [okTail, List.isEmpty_iff] at hk
    exact ⟨hk, h⟩
  | j :: r, listed, a, w, hm, hk, h => by
    simp only [okTail, Bool.and_eq_true, beq_iff_eq] at hk
    obtain ⟨⟨h1, h2⟩, h3⟩ := hk
    obtain ⟨o, ho⟩ := Option.isSome_iff_exists.1 h2
    simp only [pickTail, List.map_cons, Run, ho, Option.getD_some] at h
    refine ⟨fun e => (by rw [e] at h1; cases h1), fun i hi => ?_⟩
    have : i = j := by rw [h1] at hi; simpa using hi
    subst this
    unfold wpOp
    rw [ho]
    refine wpO_mono (fun a' w' h' => ⟨fun hn => ?_, anyK_of_tail r _ a' w' (fun k hk => hm k (by simp [hk])) h3 h'.2⟩) h
    have := hm i (by simp)
    simp [nd, this] at hn
theorem anyK_of_run {S2 : World → Prop} {l2 : List Nat} (hs : Region.noSelect ops = true) (hQ : ∀ c (a a' : Act) w, Q (.panic c) a' w → Q (.panic c) a w) :
    ∀ {S : World → Prop} (l : List (Nat × Bool)) (listed : Array Bool) (a : Act) (w : World), okOrd ops l2 l listed = true → Run P ops (Exit.then (Tl P ops Q l2 S2) Q) S (pickOps ops l) a w →
      wpAnyK P ops Q S l2 (l.length + l2.length) listed a w
  | S, [], listed, a, w, hk, h => by
    simp only [List.length_nil, Nat.zero_add]
    exact anyK_of_tail l2 listed a w (fun j hj => hj) (by simpa [okOrd] using hk) h
  | S0, (i, true) :: r, listed, a, w, hk, h => by
    simp only [okOrd, Bool.and_eq_true] at hk
    obtain ⟨⟨⟨⟨⟨h1, h2⟩, h3⟩, hnone⟩, hrd⟩, h4⟩ := hk
    cases ho : ops[i]? with
    | none => simp [ho] at hrd
    | some o =>
      simp only [pickOps, List.map_cons, Run, ho, Option.getD_some] at h
      obtain ⟨S, hsub, v, hy, hS, hr⟩ := h
      refine anyK_mono hsub _ _ _ _ ?_
      have ih := anyK_of_run hs hQ r _ _ w h4 hr
      rw [ho] at hrd
      rw [List.length_cons, Nat.add_right_comm]
      refine anyK_first ho (Region.noSelect_spec hs) hQ (if rdr o then S else fun _ => True) (by simpa using h3) _ listed a w ?_ (Region.free_spec ho h2) (.inr hnone) (by simpa using h1) hy ?_ (fun _ => hS) ih
      · by_cases hr : rdr o = true
        · refine .inr ⟨by rw [if_pos hr], fun j hj oj hoj => ?_⟩
          simp only [hr, Bool.not_true, Bool.false_or, List.all_eq_true] at hrd
          have := hrd j hj
          rw [hoj] at this
          exact aftB_spec 8 oj this
        · exact .inl fun w => by rw [if_neg hr]; trivial
      · split
        · exact hS
        · trivial
  | S, (i, false) :: r, listed, a, w, hk, h => by
    simp only [okOrd, Bool.and_eq_true, beq_iff_eq] at hk
    obtain ⟨⟨h1, h3⟩, h4⟩ := hk
    obtain ⟨o, ho⟩ := Option.isSome_iff_exists.1 h3
    simp only [pickOps, List.map_cons, Run, ho, Option.getD_some] at h
    rw [List.length_cons, Nat.add_right_comm]
    refine ⟨fun e => (by rw [e] at h1; cases h1), fun k hk => ?_⟩
    have : k = i := by rw [h1] at hk; simpa using hk
    subst this
    unfold wpOp
    rw [ho]
    have h' : wpO P ops Q o (fun a' w' => S w' ∧ Run P ops (Exit.then (Tl P ops Q l2 S2) Q) S (pickOps ops r) a' w') a w := by
      unfold wpO at h ⊢
      split
      · rename_i hw
        rw [if_pos hw] at h
        rcases h with h | ⟨h, x, y, hx⟩
        · refine .inl ?_
          unfold Oper.wp at h ⊢
          generalize (execOp a.eval o).run P w = rr at *
          cases rr with
          | ok n w' => cases n <;> exact h
          | halt y w' => cases y <;> exact h
        · exact .inr ⟨h, x, y, hx⟩
      · rename_i hw
        rw [if_neg hw] at h
        exact h
    exact wpO_mono (fun a' w' h2 => ⟨fun _ => h2.1, anyK_of_run hs hQ r _ a' w' h4 h2.2⟩) h'
end any
def okAll (ops : Array Oper) (l : List (Nat × Bool)) (l2 : List Nat) : Bool :=
  Region.noSelect ops && (l.length + l2.length == ops.size) && okOrd ops l2 l (Array.replicate ops.size false)
theorem wp_drawn {P : Program} {id : Nat} {ops : Array Oper} {Q : Exit → Act → World → Prop} {S S2 : World → Prop} {a : Act} {w : World} (l : List (Nat × Bool)) (l2 : List Nat) (hm : P.follows .mixedOrders = true)
    (hk : okAll ops l l2 = true) (hQ : ∀ c (a a' : Act) w, Q (.panic c) a' w → Q (.panic c) a w)
    (h : Run P ops (Exit.then (Tl P ops Q l2 S2) Q) S (pickOps ops l) a { w with drawn := w.drawn + 1 }) : (Code.region id ops true).wp P Q a w := by
  simp only [okAll, Bool.and_eq_true, beq_iff_eq] at hk
  obtain ⟨⟨h1, h2⟩, h3⟩ := hk
  refine wp_region_any hm (anyK_any (S := S) (l2 := l2) _ _ _ _ ?_)
  rw [← h2]
  exact anyK_of_run h1 hQ l _ _ _ (by rw [h2]; exact h3) h
theorem wp_plain {P : Program} {id : Nat} {ops : Array Oper} {Q : Exit → Act → World → Prop} {S : World → Prop} {a : Act} {w : World} (h : Run P ops Q S (ops.toList.map fun o => (false, o)) a w) :
    (Code.region id ops false).wp P Q a w := wp_region_list (run_list _ _ _ h)
end Go.Proofs.Ytahafepgmkiabaa.Sep
