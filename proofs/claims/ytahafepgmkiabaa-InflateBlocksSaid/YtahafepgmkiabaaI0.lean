/- Plain inflating: a reader of blocks over bits, and what holds of every such reader. -/
import Derived.Test.YtahafepgmkiabaaH6
set_option linter.unusedVariables false
set_option linter.unusedSimpArgs false
namespace Go.Proofs.Ytahafepgmkiabaa.Inf
open Go Go.Proofs.Ytahafepgmkiabaa Go.Proofs.Ytahafepgmkiabaa.Sep

/-- What a reader comes to: a result, where it stands, all that it made; or an error. -/
inductive Got (α : Type) where
  | ok (a : α) (p : Nat) (out : List Nat)
  | bad (e : Int)
/-- A reader: bytes, how much it may make, where it stands, what it made. -/
abbrev Rdr (α : Type) := List Nat → Nat → Nat → List Nat → Got α
variable {α β : Type}
def pureR (a : α) : Rdr α := fun _ _ p o => .ok a p o
def failR (e : Int) : Rdr α := fun _ _ _ _ => .bad e
def bindR (m : Rdr α) (f : α → Rdr β) : Rdr β := fun bs most p o => match m bs most p o with
  | .ok a p' o' => f a bs most p' o'
  | .bad e => .bad e
def takeR (n : Nat) : Rdr Nat := fun bs _ p o => if p + n ≤ 8 * bs.length then .ok (takeN bs p n) (p + n) o else .bad 4
def symR (xs : List Int) : Rdr Int := fun bs _ p o => if (readSym xs bs p).2.1 = 0 then .ok (readSym xs bs p).1 (readSym xs bs p).2.2 o else .bad (readSym xs bs p).2.1
def putR (c : Nat) : Rdr Unit := fun _ most p o => if most ≤ o.length then .bad 5 else .ok () p (o ++ [c])
def alignR : Rdr Unit := fun _ _ p o => .ok () ((p + 7) / 8 * 8) o
def outR : Rdr (List Nat) := fun _ _ p o => .ok o p o

/-- What holds of every reader. -/
structure Good (m : Rdr α) : Prop where
  mono : ∀ {bs most p o a p' o'}, m bs most p o = .ok a p' o' → p ≤ 8 * bs.length → p ≤ p' ∧ p' ≤ 8 * bs.length ∧ o.length ≤ o'.length ∧ (o.length ≤ most → o'.length ≤ most)
  ext : ∀ {bs most p o a p' o'} (cs : List Nat), m bs most p o = .ok a p' o' → p ≤ 8 * bs.length → p' ≤ 8 * cs.length → (∀ k, 8 * k < p' → cs.getD k 0 = bs.getD k 0) → m cs most p o = .ok a p' o'
  trunc : ∀ {bs most p o a p' o'} (cs : List Nat), m bs most p o = .ok a p' o' → p ≤ 8 * bs.length → p ≤ 8 * cs.length → 8 * cs.length < p' → (∀ k, k < cs.length → cs.getD k 0 = bs.getD k 0) → m cs most p o = .bad 4
  more : ∀ {bs most p o a p' o'} (most' : Nat), m bs most p o = .ok a p' o' → p ≤ 8 * bs.length → o'.length ≤ most' → m bs most' p o = .ok a p' o'
  less : ∀ {bs most p o a p' o'} (most' : Nat), m bs most p o = .ok a p' o' → p ≤ 8 * bs.length → o.length ≤ most' → most' < o'.length → m bs most' p o = .bad 5

theorem good_pure (a : α) : Good (pureR a) where
  mono := by
    intro bs most p o a' p' o' h hp
    simp only [pureR, Got.ok.injEq] at h
    obtain ⟨_, rfl, rfl⟩ := h
    exact ⟨Nat.le_refl _, hp, Nat.le_refl _, id⟩
  ext := by intro bs most p o a' p' o' cs h hp _ _; exact h
  trunc := by
    intro bs most p o a' p' o' cs h hp h1 h2 _
    simp only [pureR, Got.ok.injEq] at h
    omega
  more := by intro bs most p o a' p' o' most' h hp _; exact h
  less := by
    intro bs most p o a' p' o' most' h hp h1 h2
    simp only [pureR, Got.ok.injEq] at h
    obtain ⟨_, rfl, rfl⟩ := h
    omega
theorem good_out : Good outR where
  mono := by
    intro bs most p o a' p' o' h hp
    simp only [outR, Got.ok.injEq] at h
    obtain ⟨_, rfl, rfl⟩ := h
    exact ⟨Nat.le_refl _, hp, Nat.le_refl _, id⟩
  ext := by intro bs most p o a' p' o' cs h hp _ _; exact h
  trunc := by
    intro bs most p o a' p' o' cs h hp h1 h2 _
    simp only [outR, Got.ok.injEq] at h
    omega
  more := by intro bs most p o a' p' o' most' h hp _; exact h
  less := by
    intro bs most p o a' p' o' most' h hp h1 h2
    simp only [outR, Got.ok.injEq] at h
    obtain ⟨_, rfl, rfl⟩ := h
    omega
theorem good_fail (e : Int) : Good (failR e : Rdr α) where
  mono := by intro bs most p o a p' o' h; simp [failR] at h
  ext := by intro bs most p o a p' o' cs h; simp [failR] at h
  trunc := by intro bs most p o a p' o' cs h; simp [failR] at h
  more := by intro bs most p o a p' o' m h; simp [failR] at h
  less := by intro bs most p o a p' o' m h; simp [failR] at h
theorem bind_ok {m : Rdr α} {f : α → Rdr β} {bs most p o b p' o'} (h : bindR m f bs most p o = .ok b p' o') : ∃ a p1 o1, m bs most p o = .ok a p1 o1 ∧ f a bs most p1 o1 = .ok b p' o' := by
  unfold bindR at h
  split at h
  · rename_i a p1 o1 he
    exact ⟨a, p1, o1, he, h⟩
  · cases h
theorem bind_of {m : Rdr α} {f : α → Rdr β} {bs most p o a p1 o1} (h : m bs most p o = .ok a p1 o1) : bindR m f bs most p o = f a bs most p1 o1 := by
  unfold bindR; rw [h]
theorem bind_bad {m : Rdr α} {f : α → Rdr β} {bs most p o e} (h : m bs most p o = .bad e) : bindR m f bs most p o = .bad e := by
  unfold bindR; rw [h]
theorem good_bind {m : Rdr α} {f : α → Rdr β} (hm : Good m) (hf : ∀ a, Good (f a)) : Good (bindR m f) where
  mono := by
    intro bs most p o b p' o' h hp
    obtain ⟨a, p1, o1, h1, h2⟩ := bind_ok h
    have a1 := hm.mono h1 hp
    have a2 := (hf a).mono h2 a1.2.1
    exact ⟨by omega, a2.2.1, by omega, fun hh => a2.2.2.2 (a1.2.2.2 hh)⟩
  ext := by
    intro bs most p o b p' o' cs h hp hc he
    obtain ⟨a, p1, o1, h1, h2⟩ := bind_ok h
    have a1 := hm.mono h1 hp
    have a2 := (hf a).mono h2 a1.2.1
    rw [bind_of (hm.ext cs h1 hp (by omega) (fun k hk => he k (by omega)))]
    exact (hf a).ext cs h2 a1.2.1 hc he
  trunc := by
    intro bs most p o b p' o' cs h hp hc hl he
    obtain ⟨a, p1, o1, h1, h2⟩ := bind_ok h
    have a1 := hm.mono h1 hp
    have a2 := (hf a).mono h2 a1.2.1
    by_cases hq : 8 * cs.length < p1
    · exact bind_bad (hm.trunc cs h1 hp hc hq he)
    · rw [bind_of (hm.ext cs h1 hp (by omega) (fun k hk => he k (by omega)))]
      exact (hf a).trunc cs h2 a1.2.1 (by omega) hl he
  more := by
    intro bs most p o b p' o' most' h hp hl
    obtain ⟨a, p1, o1, h1, h2⟩ := bind_ok h
    have a1 := hm.mono h1 hp
    have a2 := (hf a).mono h2 a1.2.1
    rw [bind_of (hm.more most' h1 hp (by omega))]
    exact (hf a).more most' h2 a1.2.1 hl
  less := by
    intro bs most p o b p' o' most' h hp hl hlt
    obtain ⟨a, p1, o1, h1, h2⟩ := bind_ok h
    have a1 := hm.mono h1 hp
    have a2 := (hf a).mono h2 a1.2.1
    by_cases hq : most' < o1.length
    · exact bind_bad (hm.less most' h1 hp hl hq)
    · rw [bind_of (hm.more most' h1 hp (by omega))]
      exact (hf a).less most' h2 a1.2.1 (by omega) hlt
theorem takeN_same {bs cs : List Nat} {p : Nat} : ∀ n, (∀ k, 8 * k < p + n → cs.getD k 0 = bs.getD k 0) → takeN cs p n = takeN bs p n
  | 0, _ => rfl
  | n + 1, h => by
    have e : bitAt cs (p + n) = bitAt bs (p + n) := by unfold bitAt; rw [h _ (by omega)]
    simp only [takeN]
    rw [takeN_same n (fun k hk => h k (by omega)), e]
theorem good_take (n : Nat) : Good (takeR n) where
  mono := by
    intro bs most p o a p' o' h hp
    unfold takeR at h
    split at h
    · simp only [Got.ok.injEq] at h
      obtain ⟨_, rfl, rfl⟩ := h
      exact ⟨by omega, by omega, Nat.le_refl _, id⟩
    · cases h
  ext := by
    intro bs most p o a p' o' cs h hp hc he
    unfold takeR at h ⊢
    split at h
    · simp only [Got.ok.injEq] at h
      obtain ⟨rfl, rfl, rfl⟩ := h
      rw [if_pos hc, takeN_same n he]
    · cases h
  trunc := by
    intro bs most p o a p' o' cs h hp hc hl he
    unfold takeR at h ⊢
    split at h
    · simp only [Got.ok.injEq] at h
      obtain ⟨rfl, rfl, rfl⟩ := h
      rw [if_neg (by omega)]
    · cases h
  more := by intro bs most p o a p' o' most' h hp _; exact h
  less := by
    intro bs most p o a p' o' most' h hp h1 h2
    unfold takeR at h
    split at h
    · simp only [Got.ok.injEq] at h
      obtain ⟨rfl, rfl, rfl⟩ := h
      omega
    · cases h
theorem good_align : Good alignR where
  mono := by
    intro bs most p o a p' o' h hp
    simp only [alignR, Got.ok.injEq] at h
    obtain ⟨_, rfl, rfl⟩ := h
    exact ⟨by omega, by omega, Nat.le_refl _, id⟩
  ext := by intro bs most p o a' p' o' cs h hp _ _; exact h
  trunc := by
    intro bs most p o a p' o' cs h hp hc hl he
    simp only [alignR, Got.ok.injEq] at h
    omega
  more := by intro bs most p o a p' o' most' h hp _; exact h
  less := by
    intro bs most p o a p' o' most' h hp h1 h2
    simp only [alignR, Got.ok.injEq] at h
    obtain ⟨_, rfl, rfl⟩ := h
    omega
theorem good_put (c : Nat) : Good (putR c) where
  mono := by
    intro bs most p o a p' o' h hp
    unfold putR at h
    split at h
    · cases h
    · simp only [Got.ok.injEq] at h
      obtain ⟨_, rfl, rfl⟩ := h
      exact ⟨Nat.le_refl _, hp, by simp, fun _ => by simp; omega⟩
  ext := by intro bs most p o a' p' o' cs h hp _ _; exact h
  trunc := by
    intro bs most p o a p' o' cs h hp hc hl he
    unfold putR at h
    split at h
    · cases h
    · simp only [Got.ok.injEq] at h
      omega
  more := by
    intro bs most p o a p' o' most' h hp hl
    unfold putR at h ⊢
    split at h
    · cases h
    · simp only [Got.ok.injEq] at h
      obtain ⟨_, rfl, rfl⟩ := h
      simp at hl
      rw [if_neg (by omega)]
  less := by
    intro bs most p o a p' o' most' h hp h1 h2
    unfold putR at h ⊢
    split at h
    · cases h
    · simp only [Got.ok.injEq] at h
      obtain ⟨_, rfl, rfl⟩ := h
      simp at h2
      rw [if_pos (by omega)]
theorem readFrom_ok {xs : List Int} {bs : List Nat} : ∀ (k n v p : Nat), p ≤ 8 * bs.length → (readFrom xs bs n v p k).2.1 = 0 → p ≤ (readFrom xs bs n v p k).2.2 ∧ (readFrom xs bs n v p k).2.2 ≤ 8 * bs.length
  | 0, n, v, p, hp, h => by simp [readFrom] at h
  | k + 1, n, v, p, hp, h => by
    unfold readFrom at h ⊢
    split at h
    · rename_i s hs
      exact ⟨Nat.le_refl _, hp⟩
    · rename_i hs
      split at h
      · cases h
      · rename_i ha
        rw [if_neg ha]
        split at h
        · cases h
        · rename_i hq
          rw [if_neg hq]
          have := readFrom_ok k (n + 1) _ (p + 1) (by omega) h
          omega
theorem readFrom_ext {xs : List Int} {bs cs : List Nat} : ∀ (k n v p : Nat), p ≤ 8 * bs.length → (readFrom xs bs n v p k).2.1 = 0 → (readFrom xs bs n v p k).2.2 ≤ 8 * cs.length →
    (∀ j, 8 * j < (readFrom xs bs n v p k).2.2 → cs.getD j 0 = bs.getD j 0) → readFrom xs cs n v p k = readFrom xs bs n v p k
  | 0, n, v, p, hp, h, _, _ => rfl
  | k + 1, n, v, p, hp, h, hc, he => by
    have h' := h
    have hc' := hc
    unfold readFrom at h hc he ⊢
    split at h
    · rename_i s hs
      rfl
    · rename_i hs
      simp only [hs] at hc he ⊢
      split at h
      · cases h
      · rename_i ha
        simp only [if_neg ha] at hc he ⊢
        split at h
        · cases h
        · rename_i hq
          simp only [if_neg hq] at hc he ⊢
          have hle := readFrom_ok k (n + 1) _ (p + 1) (by omega) h
          rw [if_neg (by omega)]
          have hb : bitAt cs p = bitAt bs p := by unfold bitAt; rw [he _ (by omega)]
          rw [hb]
          exact readFrom_ext k (n + 1) _ (p + 1) (by omega) h hc he
theorem readFrom_trunc {xs : List Int} {bs cs : List Nat} : ∀ (k n v p : Nat), p ≤ 8 * bs.length → (readFrom xs bs n v p k).2.1 = 0 → p ≤ 8 * cs.length → 8 * cs.length < (readFrom xs bs n v p k).2.2 →
    (∀ j, j < cs.length → cs.getD j 0 = bs.getD j 0) → (readFrom xs cs n v p k).2.1 = 4
  | 0, n, v, p, hp, h, _, _, _ => by simp [readFrom] at h
  | k + 1, n, v, p, hp, h, hc, hl, he => by
    unfold readFrom at h hl ⊢
    split at h
    · rename_i s hs
      simp only [hs] at hl
      omega
    · rename_i hs
      simp only [hs] at hl ⊢
      split at h
      · cases h
      · rename_i ha
        simp only [if_neg ha] at hl ⊢
        split at h
        · cases h
        · rename_i hq
          simp only [if_neg hq] at hl
          by_cases hq2 : p = 8 * cs.length
          · rw [if_pos hq2]
          · rw [if_neg hq2]
            have hb : bitAt cs p = bitAt bs p := by unfold bitAt; rw [he _ (by omega)]
            rw [hb]
            exact readFrom_trunc k (n + 1) _ (p + 1) (by omega) h (by omega) hl he
theorem good_sym (xs : List Int) : Good (symR xs) where
  mono := by
    intro bs most p o a p' o' h hp
    unfold symR at h
    split at h
    · rename_i h0
      simp only [Got.ok.injEq] at h
      obtain ⟨_, rfl, rfl⟩ := h
      have := readFrom_ok 16 0 0 p hp h0
      exact ⟨this.1, this.2, Nat.le_refl _, id⟩
    · cases h
  ext := by
    intro bs most p o a p' o' cs h hp hc he
    unfold symR at h ⊢
    split at h
    · rename_i h0
      simp only [Got.ok.injEq] at h
      obtain ⟨rfl, rfl, rfl⟩ := h
      have e : readSym xs cs p = readSym xs bs p := readFrom_ext 16 0 0 p hp h0 hc he
      rw [e, if_pos h0]
    · cases h
  trunc := by
    intro bs most p o a p' o' cs h hp hc hl he
    unfold symR at h ⊢
    split at h
    · rename_i h0
      simp only [Got.ok.injEq] at h
      obtain ⟨rfl, rfl, rfl⟩ := h
      have e : (readSym xs cs p).2.1 = 4 := readFrom_trunc 16 0 0 p hp h0 hc hl he
      rw [e, if_neg (by decide)]
    · cases h
  more := by intro bs most p o a p' o' most' h hp _; exact h
  less := by
    intro bs most p o a p' o' most' h hp h1 h2
    unfold symR at h
    split at h
    · simp only [Got.ok.injEq] at h
      obtain ⟨rfl, rfl, rfl⟩ := h
      omega
    · cases h
theorem good_if {c : Prop} [Decidable c] {m m' : Rdr α} (h : Good m) (h' : Good m') : Good (if c then m else m') := by split <;> assumption

/-! the blocks -/
def storedBody : Nat → Rdr Unit
  | 0 => pureR ()
  | n + 1 => bindR (takeR 8) fun c => bindR (putR c) fun _ => storedBody n
def storedR : Rdr Unit := bindR alignR fun _ => bindR (takeR 16) fun n => bindR (takeR 16) fun m => if n + m = 65535 then storedBody n else failR 3
def copyR (back : Nat) : Nat → Rdr Unit
  | 0 => pureR ()
  | n + 1 => bindR outR fun o => bindR (putR (o.getD (o.length - back) 0)) fun _ => copyR back n
def lenR (s : Nat) : Rdr Nat :=
  if s < 265 then pureR (s - 254) else if s = 285 then pureR 258 else bindR (takeR ((s - 261) / 4)) fun more => pureR (3 + (4 + (s - 265) % 4) * 2 ^ ((s - 261) / 4) + more)
def distR (s : Nat) : Rdr Nat :=
  if s < 4 then pureR (s + 1) else bindR (takeR ((s - 2) / 2)) fun more => pureR (1 + (2 + s % 2) * 2 ^ ((s - 2) / 2) + more)
def matchR (ds : List Int) (s : Nat) : Rdr Unit :=
  bindR (lenR s) fun n => bindR (symR ds) fun d => if 30 ≤ d then failR 3 else bindR (distR d.toNat) fun back => bindR outR fun o => if o.length < back then failR 3 else copyR back n
def codedR (ls ds : List Int) : Nat → Rdr Unit
  | 0 => failR 99
  | f + 1 => bindR (symR ls) fun s => if s < 256 then bindR (putR s.toNat) fun _ => codedR ls ds f else if s = 256 then pureR () else if 286 ≤ s then failR 3 else bindR (matchR ds s.toNat) fun _ => codedR ls ds f
def fixedLit : List Int := List.replicate 144 8 ++ (List.replicate 112 9 ++ (List.replicate 24 7 ++ List.replicate 8 8))
def fixedDist : List Int := List.replicate 32 5
def orderL : List Nat := [16, 17, 18, 0, 8, 7, 9, 6, 10, 5, 11, 4, 12, 3, 13, 2, 14, 1, 15]
/-- The lengths of the lengths' code: those of the places from the i-th on. -/
def ownR : List Nat → List Int → Rdr (List Int)
  | [], l => pureR l
  | i :: r, l => bindR (takeR 3) fun v => ownR r (l.set i (v : Int))
def isOne (l : List Int) : Bool := l.all (fun x => x == 0 || x == 1) && decide ((l.filter (fun x => x ≠ 0)).length < 2)
/-- A code that must be complete, but for one of one symbol, or of none, if that may be. -/
def wholeOk (few : Bool) (l : List Int) : Bool := decide (codesE l = 0) && (decide (kraft l = 32768) || (few && isOne l))
def lengthsR (own : List Int) (n : Nat) : Nat → List Int → Rdr (List Int)
  | 0, _ => failR 99
  | f + 1, l => if l.length < n then bindR (symR own) fun s => if s < 16 then lengthsR own n f (l ++ [s]) else
      bindR (takeR (if s = 17 then 3 else if s = 18 then 7 else 2)) fun more =>
        if (s = 16 ∧ l.length = 0) ∨ n - l.length < (if s = 18 then 11 else 3) + more then failR 3
        else lengthsR own n f (l ++ List.replicate ((if s = 18 then 11 else 3) + more) (if s = 16 then l.getD (l.length - 1) 0 else 0))
    else pureR l
def dynamicR (f : Nat) : Rdr Unit :=
  bindR (takeR 5) fun lit => if 286 < lit + 257 then failR 3 else bindR (takeR 5) fun dist => if 30 < dist + 1 then failR 3 else bindR (takeR 4) fun n =>
    bindR (ownR (orderL.take (n + 4)) (List.replicate 19 0)) fun own => if wholeOk false own then
      bindR (lengthsR own (lit + 257 + dist + 1) 400 []) fun l =>
        if l.getD 256 0 ≠ 0 ∧ wholeOk false (l.take (lit + 257)) ∧ wholeOk true (l.drop (lit + 257)) then codedR (l.take (lit + 257)) (l.drop (lit + 257)) f else failR 3
    else failR 3
def blockR (f k : Nat) : Rdr Unit := if k = 0 then storedR else if k = 1 then codedR fixedLit fixedDist f else if k = 2 then dynamicR f else failR 3
def rawR (f : Nat) : Nat → Rdr Unit
  | 0 => failR 99
  | g + 1 => bindR (takeR 1) fun last => bindR (takeR 2) fun k => bindR (blockR f k) fun _ => if last = 0 then rawR f g else pureR ()

theorem good_storedBody : ∀ n, Good (storedBody n)
  | 0 => good_pure _
  | n + 1 => good_bind (good_take _) fun _ => good_bind (good_put _) fun _ => good_storedBody n
theorem good_stored : Good storedR := good_bind good_align fun _ => good_bind (good_take _) fun n => good_bind (good_take _) fun _ => good_if (good_storedBody n) (good_fail _)
theorem good_copy (back : Nat) : ∀ n, Good (copyR back n)
  | 0 => good_pure _
  | n + 1 => good_bind good_out fun _ => good_bind (good_put _) fun _ => good_copy back n
theorem good_len (s : Nat) : Good (lenR s) := good_if (good_pure _) (good_if (good_pure _) (good_bind (good_take _) fun _ => good_pure _))
theorem good_dist (s : Nat) : Good (distR s) := good_if (good_pure _) (good_bind (good_take _) fun _ => good_pure _)
theorem good_match (ds : List Int) (s : Nat) : Good (matchR ds s) :=
  good_bind (good_len s) fun _ => good_bind (good_sym _) fun _ => good_if (good_fail _) (good_bind (good_dist _) fun _ => good_bind good_out fun _ => good_if (good_fail _) (good_copy _ _))
theorem good_coded (ls ds : List Int) : ∀ f, Good (codedR ls ds f)
  | 0 => good_fail _
  | f + 1 => good_bind (good_sym _) fun _ => good_if (good_bind (good_put _) fun _ => good_coded ls ds f) (good_if (good_pure _) (good_if (good_fail _) (good_bind (good_match _ _) fun _ => good_coded ls ds f)))
theorem good_own : ∀ (r : List Nat) (l : List Int), Good (ownR r l)
  | [], l => good_pure _
  | i :: r, l => good_bind (good_take _) fun _ => good_own r _
theorem good_lengths (own : List Int) (n : Nat) : ∀ f l, Good (lengthsR own n f l)
  | 0, _ => good_fail _
  | f + 1, l => good_if (good_bind (good_sym _) fun _ => good_if (good_lengths own n f _) (good_bind (good_take _) fun _ => good_if (good_fail _) (good_lengths own n f _))) (good_pure _)
theorem good_dynamic (f : Nat) : Good (dynamicR f) :=
  good_bind (good_take _) fun _ => good_if (good_fail _) (good_bind (good_take _) fun _ => good_if (good_fail _) (good_bind (good_take _) fun _ => good_bind (good_own _ _) fun _ =>
    good_if (good_bind (good_lengths _ _ _ _) fun _ => good_if (good_coded _ _ _) (good_fail _)) (good_fail _)))
theorem good_block (f k : Nat) : Good (blockR f k) := good_if good_stored (good_if (good_coded _ _ _) (good_if (good_dynamic f) (good_fail _)))
theorem good_raw (f : Nat) : ∀ g, Good (rawR f g)
  | 0 => good_fail _
  | g + 1 => good_bind (good_take _) fun _ => good_bind (good_take _) fun _ => good_bind (good_block _ _) fun _ => good_if (good_raw f g) (good_pure _)
end Go.Proofs.Ytahafepgmkiabaa.Inf
