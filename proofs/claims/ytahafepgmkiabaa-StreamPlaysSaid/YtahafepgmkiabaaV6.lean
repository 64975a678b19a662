/- Two ends and what is on the way between them: what holds at any time of the law StreamOrder. -/
import Derived.Test.YtahafepgmkiabaaU4
import Derived.Test.YtahafepgmkiabaaV1
import Derived.Test.YtahafepgmkiabaaSepR
set_option linter.unusedVariables false
set_option linter.unusedSimpArgs false
namespace Go.Proofs.Ytahafepgmkiabaa
open Go Go.Proofs.Ytahafepgmkiabaa.Sep

/-- Of two things the k-th. -/
def sel {α : Type} (k : Nat) (a b : α) : α := if k = 0 then a else b
def two (k : Nat) (a b : Value) : List Value := [sel k a b, sel k b a]
theorem two_get {k : Nat} (hk : k < 2) (a b : Value) : (two k a b)[0 + ((k : Nat) : Int).toNat * 1]? = some a := by
  have : k = 0 ∨ k = 1 := by omega
  rcases this with rfl | rfl <;> rfl
theorem two_oth {k : Nat} (hk : k < 2) (a b : Value) : (two k a b)[0 + ((1 - k : Nat) : Int).toNat * 1]? = some b := by
  have : k = 0 ∨ k = 1 := by omega
  rcases this with rfl | rfl <;> rfl
theorem two_set {k : Nat} (hk : k < 2) (a b c : Value) : (two k a b).set (0 + ((k : Nat) : Int).toNat * 1) c = two k c b := by
  have : k = 0 ∨ k = 1 := by omega
  rcases this with rfl | rfl <;> rfl
theorem two_put {k : Nat} (hk : k < 2) (a b c : Value) : (two k a b).set (0 + ((1 - k : Nat) : Int).toNat * 1) c = two k a c := by
  have : k = 0 ∨ k = 1 := by omega
  rcases this with rfl | rfl <;> rfl
theorem two_len (k : Nat) (a b : Value) : (two k a b).length = 2 := rfl
/-- Datagrams in a list, each lying in one of the rows Ds. -/
def Wayed (Ds : List Chunk) (vs : List Value) (bss : List (List Nat)) : Prop :=
  vs.length = bss.length ∧ ∀ (i : Nat) (v : Value) (bs : List Nat), vs[i]? = some v → bss[i]? = some bs → ∃ E ∈ Ds, Buf 5 1 v (bytes bs) bs.length E
theorem Wayed.nil (Ds : List Chunk) : Wayed Ds [] [] := ⟨rfl, by simp⟩
theorem Wayed.mono {Ds Ds' : List Chunk} {vs : List Value} {bss : List (List Nat)} (h : Wayed Ds vs bss) (hs : ∀ E ∈ Ds, E ∈ Ds') : Wayed Ds' vs bss :=
  ⟨h.1, fun i v bs hv hb => by obtain ⟨E, hE, h⟩ := h.2 i v bs hv hb; exact ⟨E, hs E hE, h⟩⟩
theorem Wayed.app {Ds : List Chunk} {vs vs' : List Value} {bss bss' : List (List Nat)} (h : Wayed Ds vs bss) (h' : Wayed Ds vs' bss') : Wayed Ds (vs ++ vs') (bss ++ bss') := by
  refine ⟨by rw [List.length_append, List.length_append, h.1, h'.1], fun i v bs hv hb => ?_⟩
  by_cases hi : i < bss.length
  · rw [List.getElem?_append_left (by rw [h.1]; exact hi)] at hv
    rw [List.getElem?_append_left hi] at hb
    exact h.2 i v bs hv hb
  · rw [List.getElem?_append_right (by rw [h.1]; omega), h.1] at hv
    rw [List.getElem?_append_right (by omega)] at hb
    exact h'.2 _ v bs hv hb
theorem Outs.wayed {vs : List Value} {bss : List (List Nat)} {Es Ds : List Chunk} (h : Outs vs bss Es) : Wayed (Es ++ Ds) vs bss :=
  ⟨h.1, fun i v bs hv hb => by
    have hlt : i < bss.length := (List.getElem?_eq_some_iff.1 hb).1
    have hE : Es[i]? = some (Es[i]'(by rw [h.2.1]; exact hlt)) := List.getElem?_eq_getElem _
    exact ⟨_, List.mem_append.2 (.inl (List.mem_of_getElem? hE)), h.2.2 i v bs _ hv hb hE⟩⟩
theorem Wayed.take {Ds : List Chunk} {vs : List Value} {bss : List (List Nat)} (h : Wayed Ds vs bss) (n : Nat) : Wayed Ds (vs.take n) (bss.take n) := by
  refine ⟨by rw [List.length_take, List.length_take, h.1], fun i v bs hv hb => ?_⟩
  rw [List.getElem?_take] at hv hb
  split at hv
  · rename_i hi
    rw [if_pos hi] at hb
    exact h.2 i v bs hv hb
  · cases hv
theorem Wayed.drop {Ds : List Chunk} {vs : List Value} {bss : List (List Nat)} (h : Wayed Ds vs bss) (n : Nat) : Wayed Ds (vs.drop n) (bss.drop n) := by
  refine ⟨by rw [List.length_drop, List.length_drop, h.1], fun i v bs hv hb => ?_⟩
  rw [List.getElem?_drop] at hv hb
  exact h.2 _ v bs hv hb
theorem Wayed.one {Ds : List Chunk} {vs : List Value} {bss : List (List Nat)} (h : Wayed Ds vs bss) : ∀ c ∈ vs, one c = true := by
  intro c hc
  obtain ⟨i, hi⟩ := List.getElem?_of_mem hc
  have hlt := (List.getElem?_eq_some_iff.1 hi).1
  obtain ⟨E, _, hb⟩ := h.2 i c (bss[i]'(by rw [← h.1]; exact hlt)) hi (List.getElem?_eq_getElem _)
  obtain ⟨_, _, _, _, rfl, _, _⟩ := hb.read
  rfl
theorem Wayed.get {Ds : List Chunk} {vs : List Value} {bss : List (List Nat)} (h : Wayed Ds vs bss) {n : Nat} (hn : n < bss.length) : ∃ v s E, vs[n]? = some v ∧ bss[n]? = some s ∧ E ∈ Ds ∧ Buf 5 1 v (bytes s) s.length E := by
  have hv : vs[n]? = some (vs[n]'(by rw [h.1]; exact hn)) := List.getElem?_eq_getElem _
  have hb : bss[n]? = some (bss[n]'hn) := List.getElem?_eq_getElem _
  obtain ⟨E, hE, hB⟩ := h.2 n _ _ hv hb
  exact ⟨_, _, E, hv, hb, hE, hB⟩
/-- One side: an end; what is on the way to it; what was written to it and read from it. -/
structure Sid where
  p : Nat
  e : En
  ov : Value
  iv : Value
  at_ : Int
  Eo : Chunk
  Ei : Chunk
  wv : Value
  vs : List Value
  bss : List (List Nat)
  Ew : Chunk
  xv : Value
  Ex : Chunk
  rv : Value
  Er : Chunk
structure Half (Ds : List Chunk) (m : Nat) (K J : Sid) : Prop where
  en : EnB K.e K.ov K.iv K.at_ K.Eo K.Ei
  id : K.e.id = 3
  way : Buf 35 1 K.wv K.vs K.bss.length K.Ew
  wayed : Wayed Ds K.vs K.bss
  from_ : ∀ s ∈ K.bss, From 3 J.e.out s
  few : K.bss.length ≤ m
  wrote : Buf 5 1 K.xv (bytes K.e.out) K.e.out.length K.Ex
  read : Buf 5 1 K.rv (bytes (K.e.inn.take K.e.read)) (K.e.inn.take K.e.read).length K.Er
  pre : K.e.inn <+: J.e.out
structure Both (Ds : List Chunk) (m : Nat) (K J : Sid) : Prop where
  k : Half Ds m K J
  j : Half Ds m J K
theorem Half.mono {Ds Ds' : List Chunk} {m m' : Nat} {K J : Sid} (h : Half Ds m K J) (hs : ∀ E ∈ Ds, E ∈ Ds') (hm : m ≤ m') : Half Ds' m' K J :=
  ⟨h.en, h.id, h.way, h.wayed.mono hs, h.from_, Nat.le_trans h.few hm, h.wrote, h.read, h.pre⟩
theorem Both.mono {Ds Ds' : List Chunk} {m m' : Nat} {K J : Sid} (h : Both Ds m K J) (hs : ∀ E ∈ Ds, E ∈ Ds') (hm : m ≤ m') : Both Ds' m' K J := ⟨h.k.mono hs hm, h.j.mono hs hm⟩
theorem Both.sel {Ds : List Chunk} {m : Nat} {K J : Sid} (h : Both Ds m K J) (k : Nat) : Both Ds m (sel k K J) (sel k J K) := by
  unfold Ytahafepgmkiabaa.sel
  split
  · exact h
  · exact ⟨h.j, h.k⟩
/-- The end of one side changes; it keeps what it is to send and its number. -/
theorem Half.end_ {Ds : List Chunk} {m : Nat} {K J : Sid} (h : Half Ds m K J) {e : En} {ov iv : Value} {at_ : Int} {Eo Ei : Chunk} (hB : EnB e ov iv at_ Eo Ei) (ho : e.out = K.e.out) (hid : e.id = K.e.id) (hi : e.inn <+: J.e.out) (hr : e.inn.take e.read = K.e.inn.take K.e.read) :
    Half Ds m { K with e := e, ov := ov, iv := iv, at_ := at_, Eo := Eo, Ei := Ei } J :=
  ⟨hB, hid.trans h.id, h.way, h.wayed, h.from_, h.few, by simp only [ho]; exact h.wrote, by simp only [hr]; exact h.read, hi⟩
theorem Half.other {Ds : List Chunk} {m : Nat} {K J J' : Sid} (h : Half Ds m K J) (ho : J.e.out <+: J'.e.out) : Half Ds m K J' :=
  ⟨h.en, h.id, h.way, h.wayed, fun s hs => (h.from_ s hs).mono ho, h.few, h.wrote, h.read, h.pre.trans ho⟩
theorem write_cases (e : En) (bs : List Nat) : ((e.write bs).2 = 0 ∧ (e.write bs).1 = { e with out := e.out ++ bs } ∧ bs.length ≤ 1048576 - e.out.length) ∨ ((e.write bs).2 ≠ 0 ∧ (e.write bs).1 = e) := by
  unfold En.write
  split
  · exact .inr ⟨by simp, rfl⟩
  · split
    · exact .inr ⟨by simp, rfl⟩
    · split
      · exact .inr ⟨by simp, rfl⟩
      · exact .inl ⟨rfl, rfl, by omega⟩
/-- Something was written. -/
theorem Both.write {Ds : List Chunk} {m : Nat} {K J : Sid} (h : Both Ds m K J) (bs : List Nat) {ov iv : Value} {at_ : Int} {Eo Ei : Chunk} (hB : EnB { K.e with out := K.e.out ++ bs } ov iv at_ Eo Ei) {xv : Value} {Ex : Chunk} (hx : Buf 5 1 xv (bytes (K.e.out ++ bs)) (K.e.out ++ bs).length Ex) :
    Both Ds m { K with e := { K.e with out := K.e.out ++ bs }, ov := ov, iv := iv, at_ := at_, Eo := Eo, Ei := Ei, xv := xv, Ex := Ex } J :=
  ⟨⟨hB, h.k.id, h.k.way, h.k.wayed, h.k.from_, h.k.few, hx, h.k.read, h.k.pre⟩, h.j.other (List.prefix_append _ _)⟩
/-- The end of one side changes, and neither what it has to send nor its number does. -/
theorem Both.same {Ds : List Chunk} {m : Nat} {K J : Sid} (h : Both Ds m K J) {e : En} {ov iv : Value} {at_ : Int} {Eo Ei : Chunk} (hB : EnB e ov iv at_ Eo Ei) (ho : e.out = K.e.out) (hid : e.id = K.e.id) (hi : e.inn <+: J.e.out) (hr : e.inn.take e.read = K.e.inn.take K.e.read) :
    Both Ds m { K with e := e, ov := ov, iv := iv, at_ := at_, Eo := Eo, Ei := Ei } J :=
  ⟨h.k.end_ hB ho hid hi hr, h.j.other (by simp only [ho]; exact List.prefix_refl _)⟩
/-- It sends. -/
theorem Both.out {Ds : List Chunk} {m : Nat} {K J : Sid} (h : Both Ds m K J) {now : Int} (hn : Clock now) {ov iv : Value} {at_ : Int} {Eo Ei Ew : Chunk} {Ws : List Chunk} {vs : List Value} {wv : Value} (hB : EnB (K.e.outp now).1 ov iv at_ Eo Ei)
    (ho : Outs vs (K.e.outp now).2 Ws) (hw : Buf 35 1 wv (J.vs ++ vs) (J.bss.length + (K.e.outp now).2.length) Ew) (hf : (K.e.outp now).2.length ≤ 13) :
    Both (Ws ++ Ds) (m + 13) { K with e := (K.e.outp now).1, ov := ov, iv := iv, at_ := at_, Eo := Eo, Ei := Ei } { J with wv := wv, vs := J.vs ++ vs, bss := J.bss ++ (K.e.outp now).2, Ew := Ew } := by
  obtain ⟨k1, k2, k3, k4, k5⟩ := outp_keeps K.e now
  have h0 := h.mono (Ds' := Ws ++ Ds) (m' := m + 13) (fun E hE => List.mem_append.2 (.inr hE)) (by omega)
  have h1 := h0.same hB k1 k2 (by rw [k3]; exact h.k.pre) (by rw [k3, k4])
  have hfr := outp_from h.k.en.ok hn
  rw [h.k.id] at hfr
  have hfw := h.j.few
  refine ⟨⟨h1.k.en, h1.k.id, h1.k.way, h1.k.wayed, h1.k.from_, h1.k.few, h1.k.wrote, h1.k.read, h1.k.pre⟩, ⟨h1.j.en, h1.j.id, by simp only [List.length_append]; exact hw, h1.j.wayed.app ho.wayed, fun s hs => ?_, by simp only [List.length_append]; omega, h1.j.wrote, h1.j.read, h1.j.pre⟩⟩
  rcases List.mem_append.1 hs with hs | hs
  · exact h1.j.from_ s hs
  · show From 3 (K.e.outp now).1.out s
    rw [k1]; exact hfr s hs
/-- A datagram comes in. -/
theorem Both.inp {Ds : List Chunk} {m : Nat} {K J : Sid} (h : Both Ds m K J) {now : Int} {s : List Nat} (hs : s ∈ K.bss) {ov iv : Value} {at_ : Int} {Eo Ei : Chunk} (hB : EnB (K.e.inp s now) ov iv at_ Eo Ei) :
    Both Ds m { K with e := K.e.inp s now, ov := ov, iv := iv, at_ := at_, Eo := Eo, Ei := Ei } J := by
  obtain ⟨k1, k2, k3⟩ := inp_keeps K.e s now
  have hf := h.k.from_ s hs
  have hp := inp_prefix now (id := 3) (by decide) hf h.k.pre
  refine h.same hB k1 k2 hp ?_
  rw [k3]
  -- what was read stays what it was
  have hr := h.k.en.ok.read
  have e1 : K.e.inn.take K.e.read = J.e.out.take K.e.read := by
    have := prefix_take h.k.pre
    rw [this, List.take_take, Nat.min_eq_left hr]
  have hr2 : K.e.read ≤ (K.e.inp s now).inn.length := by have := hB.ok.read; rw [k3] at this; exact this
  have e2 : (K.e.inp s now).inn.take K.e.read = J.e.out.take K.e.read := by
    have := prefix_take hp
    rw [this, List.take_take, Nat.min_eq_left hr2]
  rw [e1, e2]
/-- What is on the way to one side changes. -/
theorem Both.way {Ds : List Chunk} {m : Nat} {K J : Sid} (h : Both Ds m K J) {wv : Value} {vs : List Value} {bss : List (List Nat)} {Ew : Chunk} (hw : Buf 35 1 wv vs bss.length Ew) (hy : Wayed Ds vs bss) (hs : ∀ s ∈ bss, s ∈ K.bss) (hf : bss.length ≤ m) : Both Ds m { K with wv := wv, vs := vs, bss := bss, Ew := Ew } J :=
  ⟨⟨h.k.en, h.k.id, hw, hy, fun s hm => h.k.from_ s (hs s hm), hf, h.k.wrote, h.k.read, h.k.pre⟩, ⟨h.j.en, h.j.id, h.j.way, h.j.wayed, h.j.from_, h.j.few, h.j.wrote, h.j.read, h.j.pre⟩⟩
/-- What came is read. -/
theorem Both.took {Ds : List Chunk} {m : Nat} {K J : Sid} (h : Both Ds m K J) {ov iv : Value} {at_ : Int} {Eo Ei : Chunk} (hB : EnB K.e.take.1 ov iv at_ Eo Ei) {rv : Value} {Er : Chunk} (hr : Buf 5 1 rv (bytes (K.e.inn.take K.e.read) ++ bytes K.e.take.2) ((K.e.inn.take K.e.read).length + K.e.take.2.length) Er) :
    Both Ds m { K with e := K.e.take.1, ov := ov, iv := iv, at_ := at_, Eo := Eo, Ei := Ei, rv := rv, Er := Er } J ∧ Buf 5 1 rv (bytes K.e.inn) K.e.inn.length Er := by
  have e1 : K.e.inn.take K.e.read ++ K.e.take.2 = K.e.inn := List.take_append_drop _ _
  have e2 : (K.e.inn.take K.e.read).length + K.e.take.2.length = K.e.inn.length := by rw [← List.length_append, e1]
  rw [← bytes_app, e1, e2] at hr
  have e3 : K.e.take.1.inn.take K.e.take.1.read = K.e.inn := List.take_length
  refine ⟨⟨⟨hB, h.k.id, h.k.way, h.k.wayed, h.k.from_, h.k.few, h.k.wrote, by simp only [e3]; exact hr, h.k.pre⟩, ⟨h.j.en, h.j.id, h.j.way, h.j.wayed, h.j.from_, h.j.few, h.j.wrote, h.j.read, h.j.pre⟩⟩, hr⟩
/-- All that the two sides own, the k-th ahead. -/
def ordL (b3 b4 b5 b6 k : Nat) (K J : Sid) (T : List Chunk) : List Chunk :=
  [⟨b3, two k (.pointer (some ⟨K.p, 0, none⟩)) (.pointer (some ⟨J.p, 0, none⟩)), 80⟩] :: [⟨b4, two k K.wv J.wv, 99⟩] :: [⟨b5, two k K.xv J.xv, 100⟩] :: [⟨b6, two k K.rv J.rv, 100⟩] ::
    K.Ew :: J.Ew :: K.Ex :: J.Ex :: K.Er :: J.Er :: EnL K.p K.e K.ov K.iv K.at_ K.Eo K.Ei (EnL J.p J.e J.ov J.iv J.at_ J.Eo J.Ei T)
theorem ordL_sel {b3 b4 b5 b6 k : Nat} (hk : k < 2) (K J : Sid) (T : List Chunk) : (ordL b3 b4 b5 b6 k K J T).flatten.Perm (ordL b3 b4 b5 b6 0 (sel k K J) (sel k J K) T).flatten := by
  have : k = 0 ∨ k = 1 := by omega
  rcases this with rfl | rfl
  · exact List.Perm.refl _
  · exact perm_idx [[[⟨b3, two 1 (.pointer (some ⟨K.p, 0, none⟩)) (.pointer (some ⟨J.p, 0, none⟩)), 80⟩]], [[⟨b4, two 1 K.wv J.wv, 99⟩]], [[⟨b5, two 1 K.xv J.xv, 100⟩]], [[⟨b6, two 1 K.rv J.rv, 100⟩]],
      [K.Ew], [J.Ew], [K.Ex], [J.Ex], [K.Er], [J.Er], EnL K.p K.e K.ov K.iv K.at_ K.Eo K.Ei [], EnL J.p J.e J.ov J.iv J.at_ J.Eo J.Ei []] T [0, 1, 2, 3, 5, 4, 7, 6, 9, 8, 11, 10] (by kernel_rfl)
theorem sel_sel {α : Type} {k : Nat} (a b : α) : sel k (sel k a b) (sel k b a) = a ∧ sel k (sel k b a) (sel k a b) = b := by
  unfold sel
  split <;> exact ⟨rfl, rfl⟩
end Go.Proofs.Ytahafepgmkiabaa
