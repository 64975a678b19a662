/- Plain streams: one end as a state, what datagrams do to it and which it sends. -/
import Derived.Test.YtahafepgmkiabaaG0
set_option linter.unusedVariables false
set_option linter.unusedSimpArgs false
namespace Go.Proofs.Ytahafepgmkiabaa
open Go Go.Proofs.Ytahafepgmkiabaa.Sep

/-- An end: its number, its state (1 to 4), what is to be sent, how much of it was acknowledged and sent, and what came. -/
structure En where
  id : Nat
  st : Nat
  asked : Bool
  out : List Nat
  una : Nat
  next : Nat
  at_ : Int
  closed : Bool
  endSent : Bool
  endAcked : Bool
  inn : List Nat
  read : Nat
  other : Bool
  owes : Bool
def enNew (id : Int) (st : Nat) : En := ⟨u32i id, st, false, [], 0, 0, 0, false, false, false, [], 0, false, false⟩
/-- What holds of every end. -/
structure En.Ok (e : En) : Prop where
  id : e.id < 4294967296
  st : 1 ≤ e.st ∧ e.st ≤ 4
  room : e.out.length ≤ 1048576
  una : e.una ≤ e.next
  next : e.next ≤ e.out.length
  sent : e.endSent = true → e.next = e.out.length ∧ e.closed = true
  acked : e.endAcked = true → e.endSent = true ∧ e.una = e.out.length
  inn : e.inn.length ≤ 1048576
  read : e.read ≤ e.inn.length
  at_ : -9223372036854775808 ≤ e.at_ ∧ e.at_ ≤ 9223372036854775807
  outB : ∀ b ∈ e.out, b < 256
  innB : ∀ b ∈ e.inn, b < 256
def En.write (e : En) (bs : List Nat) : En × Int :=
  if e.st = 4 then (e, 81) else if e.closed then (e, 1) else if 1048576 - e.out.length < bs.length then (e, 60) else ({ e with out := e.out ++ bs }, 0)
def En.close (e : En) : En × Int := if e.st = 4 then (e, 81) else ({ e with closed := true }, 0)
def En.take (e : En) : En × List Nat := ({ e with read := e.inn.length }, e.inn.drop e.read)
def En.acksTo (e : En) : Nat := e.una + (if e.endAcked then 1 else 0)
def En.sentTo (e : En) : Nat := e.next + (if e.endSent then 1 else 0)
def En.ack (e : En) (n : Int) (now : Int) : En :=
  if (e.acksTo : Int) < n ∧ n ≤ (e.sentTo : Int) then { e with una := min n.toNat e.out.length, endAcked := decide ((e.out.length : Int) < n), at_ := now } else e
def En.data (e : En) (seq : Int) (d : List Nat) : En :=
  if seq = (e.inn.length : Int) ∧ d.length ≤ 1048576 - e.inn.length ∧ e.other = false then { e with inn := e.inn ++ d, owes := true } else { e with owes := true }
def En.fin (e : En) (seq : Int) : En := { e with other := e.other || decide (seq = (e.inn.length : Int)), owes := true }
def En.open_ (e : En) (s : Seg) (now : Int) : En :=
  if s.ty = 1 then { e with owes := true } else if s.ty = 2 then e.ack s.ack now else if s.ty = 3 then e.data s.seq s.data else if s.ty = 4 then e.fin s.seq else e
def En.seg (e : En) (s : Seg) (now : Int) : En :=
  if s.ty = 5 then { e with st := 4 }
  else if e.st = 1 then (if s.ty = 2 ∧ s.ack = 0 then { e with st := 3 } else e)
  else if e.st = 2 then (if s.ty = 1 then { e with st := 3, owes := true } else e)
  else e.open_ s now
def En.inp (e : En) (bs : List Nat) (now : Int) : En :=
  if isSeg bs = false ∨ (segFrom bs).id ≠ (e.id : Int) ∨ e.st = 4 then e else e.seg (segFrom bs) now
def En.waits (e : En) : Bool := decide (e.una < e.next) || (e.endSent && !e.endAcked)
def En.due (e : En) (now : Int) : Bool := decide (e.at_ ≤ 9223372036854775799) && decide (e.at_ + 8 ≤ now)
def En.say (e : En) (ty seq ack : Int) (d : List Nat) : List Nat := segOf ⟨ty, e.id, seq, ack, d⟩
/-- What goes back to what was acknowledged. -/
def En.back (e : En) (now : Int) : En := if e.waits && e.due now then { e with next := e.una, at_ := now, endSent := e.endAcked } else e
/-- The pieces from a place on. -/
def En.pieces (e : En) : Nat → Nat → List (List Nat) × Nat
  | 0, n => ([], n)
  | f + 1, n => if n < e.out.length ∧ n < e.una + 4000 then
      (e.say 3 n 0 ((e.out.drop n).take (min 400 (e.out.length - n))) :: (e.pieces f (n + min 400 (e.out.length - n))).1, (e.pieces f (n + min 400 (e.out.length - n))).2)
    else ([], n)
def En.sends (e : En) (now : Int) : En × List (List Nat) :=
  let b := e.back now
  let acks := if b.owes then [b.say 2 0 (b.inn.length + (if b.other then 1 else 0) : Nat) []] else []
  let ps := b.pieces 11 b.next
  let fin := b.closed && !b.endSent && decide (ps.2 = b.out.length)
  let fins := if fin then [b.say 4 ps.2 0 []] else []
  ({ b with owes := false, next := ps.2, endSent := b.endSent || fin, at_ := if !b.waits && (decide (ps.1 ≠ []) || fin) then now else b.at_ }, acks ++ (ps.1 ++ fins))
def En.outp (e : En) (now : Int) : En × List (List Nat) :=
  if e.st = 1 then (if !e.asked || e.due now then ({ e with asked := true, at_ := now }, [e.say 1 0 0 []]) else (e, []))
  else if e.st = 3 then e.sends now else (e, [])
def En.done (e : En) : Bool := e.endAcked && e.other
def En.idle (e : En) : Bool := decide (e.st = 4) || (decide (e.st ≠ 1) && (!e.waits && decide (e.next = e.out.length) && (!e.closed || e.endAcked) && !e.owes))
end Go.Proofs.Ytahafepgmkiabaa
