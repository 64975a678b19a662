/- The facts of the whole program that every row asks for: the words at its head, and the laws of the tables. -/
import Derived.Test.YtahafepgmkiabaaRows
import Derived.WalkKit
import Derived.ProofKit
import Derived.JoinedOf
import Derived.JoinedCond
set_option linter.unusedVariables false
namespace Go.Proofs.Ytahafepgmkiabaa.Facts

theorem words_app : ∀ (l : List Char) (_ : l.all (fun c => decide (c ≠ Char.ofNat 32)) = true) (r : List Char), wordsSigns (l ++ Char.ofNat 32 :: r) = l :: wordsSigns r
  | [], _, r => rfl
  | c :: l, h, r => by
    have h1 : (c ≠ Char.ofNat 32) ∧ l.all (fun c => decide (c ≠ Char.ofNat 32)) = true := by simpa using h
    have e := words_app l h1.2 r
    have one : ∀ (x : List Char), wordsSigns (c :: x) = match wordsSigns x with | w :: ws => (c :: w) :: ws | [] => [[c]] := by
      intro x
      rw [wordsSigns.eq_def]
      split
      · rename_i k; exact absurd k (by simp)
      · rename_i k; simp only [List.cons.injEq] at k; exact absurd k.1 h1.1
      · rename_i k; simp only [List.cons.injEq] at k
        obtain ⟨rfl, rfl⟩ := k
        rfl
    show wordsSigns (c :: (l ++ Char.ofNat 32 :: r)) = _
    rw [one, e]

def rest : List Char := ([97, 116, 32, 115, 116, 101, 109, 109, 97, 47, 115, 116, 101, 109, 109, 97, 108, 97, 119, 53, 46, 72, 117, 102, 102, 67, 111, 100, 101, 115, 32, 115, 116, 101, 109, 109, 97, 47, 115, 116, 101, 109, 109, 97, 108, 97, 119, 53, 46, 72, 117, 102, 102, 82, 101, 97, 100, 115, 32, 115, 116, 101, 109, 109, 97, 47, 115, 116, 101, 109, 109, 97, 108, 97, 119, 51, 46, 83, 117, 109, 80, 97, 114, 116, 115, 32, 115, 116, 101, 109, 109, 97, 47, 115, 116, 101, 109, 109, 97, 108, 97, 119, 51, 46, 83, 117, 109, 73, 115, 32, 115, 116, 101, 109, 109, 97, 47, 115, 116, 101, 109, 109, 97, 108, 97, 119, 51, 46, 83, 117, 109, 66, 117, 114, 115, 116, 115, 32, 115, 116, 101, 109, 109, 97, 47, 115, 116, 101, 109, 109, 97, 108, 97, 119, 51, 46, 83, 117, 109, 67, 117, 116, 115, 32, 115, 116, 101, 109, 109, 97, 47, 115, 116, 101, 109, 109, 97, 108, 97, 119, 54, 46, 73, 110, 102, 108, 97, 116, 101, 90, 108, 105, 98, 32, 115, 116, 101, 109, 109, 97, 47, 115, 116, 101, 109, 109, 97, 108, 97, 119, 51, 46, 83, 117, 109, 72, 101, 120, 32, 115, 116, 101, 109, 109, 97, 47, 115, 116, 101, 109, 109, 97, 108, 97, 119, 49, 56, 46, 83, 101, 103, 109, 101, 110, 116, 66, 121, 116, 101, 115, 32, 115, 116, 101, 109, 109, 97, 47, 115, 116, 101, 109, 109, 97, 108, 97, 119, 54, 46, 73, 110, 102, 108, 97, 116, 101, 66, 111, 117, 110, 100, 32, 115, 116, 101, 109, 109, 97, 47, 115, 116, 101, 109, 109, 97, 108, 97, 119, 49, 56, 46, 83, 116, 114, 101, 97, 109, 87, 105, 110, 100, 111, 119, 32, 115, 116, 101, 109, 109, 97, 47, 115, 116, 101, 109, 109, 97, 108, 97, 119, 53, 46, 72, 117, 102, 102, 70, 108, 97, 116, 32, 115, 116, 101, 109, 109, 97, 47, 115, 116, 101, 109, 109, 97, 108, 97, 119, 53, 46, 72, 117, 102, 102, 76, 101, 97, 115, 116, 32, 115, 116, 101, 109, 109, 97, 47, 115, 116, 101, 109, 109, 97, 108, 97, 119, 53, 46, 72, 117, 102, 102, 79, 102, 116, 101, 110, 32, 115, 116, 101, 109, 109, 97, 47, 115, 116, 101, 109, 109, 97, 108, 97, 119, 49, 56, 46, 83, 116, 114, 101, 97, 109, 83, 116, 114, 97, 110, 103, 101, 32, 115, 116, 101, 109, 109, 97, 47, 115, 116, 101, 109, 109, 97, 108, 97, 119, 49, 56, 46, 83, 116, 114, 101, 97, 109, 79, 114, 100, 101, 114, 32, 115, 116, 101, 109, 109, 97, 47, 115, 116, 101, 109, 109, 97, 108, 97, 119, 49, 56, 46, 83, 116, 114, 101, 97, 109, 80, 108, 97, 121, 115, 32, 115, 116, 101, 109, 109, 97, 47, 115, 116, 101, 109, 109, 97, 108, 97, 119, 49, 56, 46, 83, 116, 114, 101, 97, 109, 69, 110, 100, 115, 32, 115, 116, 101, 109, 109, 97, 47, 115, 116, 101, 109, 109, 97, 108, 97, 119, 53, 46, 72, 117, 102, 102, 66, 97, 99, 107, 32, 115, 116, 101, 109, 109, 97, 47, 115, 116, 101, 109, 109, 97, 108, 97, 119, 49, 50, 46, 73, 100, 120, 70, 97, 110, 32, 115, 116, 101, 109, 109, 97, 47, 115, 116, 101, 109, 109, 97, 108, 97, 119, 49, 50, 46, 73, 100, 120, 66, 117, 105, 108, 100, 115, 32, 115, 116, 101, 109, 109, 97, 47, 115, 116, 101, 109, 109, 97, 108, 97, 119, 49, 50, 46, 73, 100, 120, 80, 97, 114, 115, 101, 115, 32, 115, 116, 101, 109, 109, 97, 47, 115, 116, 101, 109, 109, 97, 108, 97, 119, 49, 50, 46, 73, 100, 120, 66, 97, 99, 107, 32, 115, 116, 101, 109, 109, 97, 47, 115, 116, 101, 109, 109, 97, 108, 97, 119, 54, 46, 73, 110, 102, 108, 97, 116, 101, 70, 105, 120, 101, 100, 32, 115, 116, 101, 109, 109, 97, 47, 115, 116, 101, 109, 109, 97, 108, 97, 119, 54, 46, 73, 110, 102, 108, 97, 116, 101, 77, 97, 116, 99, 104, 101, 115, 32, 115, 116, 101, 109, 109, 97, 47, 115, 116, 101, 109, 109, 97, 108, 97, 119, 54, 46, 73, 110, 102, 108, 97, 116, 101, 66, 108, 111, 99, 107, 115, 32, 115, 116, 101, 109, 109, 97, 47, 115, 116, 101, 109, 109, 97, 108, 97, 119, 54, 46, 73, 110, 102, 108, 97, 116, 101, 82, 97, 119] : List Nat).map Char.ofNat
def signs (l : List Nat) : List Char := l.map Char.ofNat
def one : List Char := signs [104, 97, 114, 110, 101, 115, 115]
def two : List Char := signs [53, 56, 55, 101, 55, 52, 99, 51, 48, 53, 99, 48, 57, 48, 48, 57, 51, 102, 55, 57, 50, 98, 54, 54, 50, 51, 99, 56, 54, 54, 53, 99, 99, 53, 98, 50, 98, 49, 100, 52, 97, 54, 53, 53, 102, 54, 101, 50, 51, 56, 57, 53, 52, 52, 97, 100, 55, 98, 99, 48, 54, 51, 48, 97]
def three : List Char := signs [99, 117, 116]

theorem order : Try.prog.initOrder = String.ofList (one ++ Char.ofNat 32 :: (two ++ Char.ofNat 32 :: (three ++ Char.ofNat 32 :: rest))) := by kernel_rfl

theorem words : ∃ r, wordsSigns Try.prog.initOrder.toList = one :: two :: three :: r := by
  refine ⟨wordsSigns rest, ?_⟩
  rw [order, String.toList_ofList, words_app one (by decide +kernel), words_app two (by decide +kernel), words_app three (by decide +kernel)]

theorem behind (r : List (List Char)) : behindMainWord (one :: two :: three :: r) = three :: r := by
  show (if ((one == "harness".toList || one == "ownmain".toList) && isSumSigns two) = true then three :: r else one :: two :: three :: r) = _
  rw [if_pos (by decide +kernel)]

theorem strip (r : List (List Char)) : stripLifts liftWords (three :: r) = ([], three :: r) := by
  have e : ∀ (l : List String), l.all (fun o => !(three == o.toList)) = true → stripLifts l (three :: r) = ([], three :: r) := by
    intro l
    induction l with
    | nil => intro _; rfl
    | cons o os ih =>
      intro h
      simp only [List.all_cons, Bool.and_eq_true] at h
      have h1 : (three == o.toList) = false := by simpa using h.1
      unfold stripLifts
      rw [h1]
      exact ih h.2
  exact e _ (by decide +kernel)

theorem later : Try.prog.laysLater = false := by kernel_rfl
theorem bears : Try.prog.bearsReflect = false := by kernel_rfl
theorem rowless : (Try.prog.funcs.toList.filter fun fn => fn.body.isNone && opensWith (nameBytes "var's door: ") (nameBytes fn.name)).isEmpty = true := by kernel_rfl
theorem doors_of (P : Program) (h : (P.funcs.toList.filter fun fn => fn.body.isNone && opensWith (nameBytes "var's door: ") (nameBytes fn.name)).isEmpty = true) : P.doorFits [] = true := by
  have h' := List.isEmpty_iff.mp h
  have e : P.doorRows = [] := by unfold Program.doorRows; rw [h']; rfl
  unfold Program.doorFits
  rw [e]
  rfl

theorem enters_of (P : Program) (hw : ∃ r, wordsSigns P.initOrder.toList = one :: two :: three :: r) (hl : P.laysLater = false) (hb : P.bearsReflect = false) (hd : P.doorFits [] = true) : P.mayEnter = true := by
  obtain ⟨r, h⟩ := hw
  unfold Program.mayEnter
  rw [h, behind, hl, hb]
  simp only []
  rw [strip, hd]
  have e1 : (three == "gc".toList) = false := by decide +kernel
  have e2 : (three == "spec".toList) = false := by decide +kernel
  have e3 : (three == "carried".toList) = false := by decide +kernel
  have e4 : (some three == some "cut".toList) = true := by decide +kernel
  simp only [e1, e2, e3, List.head?_cons, e4, Bool.not_false, Bool.or_true, Bool.and_true, Bool.false_and, Bool.false_or, List.contains_nil, Bool.false_or]

theorem headLifts_of (P : Program) (hw : ∃ r, wordsSigns P.initOrder.toList = one :: two :: three :: r) : P.headLifts = [] := by
  obtain ⟨r, h⟩ := hw
  unfold Program.headLifts
  rw [h, behind, strip]
  simp only []
  split <;> rfl

theorem lifts_of (P : Program) (hw : ∃ r, wordsSigns P.initOrder.toList = one :: two :: three :: r) : P.liftsFinal = false := by
  have hh := headLifts_of P hw
  obtain ⟨r, h⟩ := hw
  unfold Program.liftsFinal
  rw [h, behind, hh]
  have e3 : (some three == some "carried".toList) = false := by decide +kernel
  simp only [List.head?_cons, e3, Bool.false_and, List.contains_nil, Bool.or_false]

theorem make_of (P : Program) (hw : ∃ r, wordsSigns P.initOrder.toList = one :: two :: three :: r) : P.make = some .cut := by
  obtain ⟨r, h⟩ := hw
  unfold Program.make
  rw [h, behind]
  have e1 : (three == "gc".toList) = false := by decide +kernel
  have e2 : (three == "spec".toList) = false := by decide +kernel
  have e4 : (three == "cut".toList) = true := by decide +kernel
  simp only [e1, e2, e4, Bool.or_self, Bool.true_or, if_true, Bool.false_eq_true, if_false]

theorem enters : Try.prog.mayEnter = true := enters_of _ words later bears (doors_of _ rowless)
theorem lifts : Try.prog.liftsFinal = false := lifts_of _ words
theorem make : Try.prog.make = some .cut := make_of _ words
theorem laid : laidOutB Try.prog = true := by kernel_rfl
theorem mapped : mapsRowed Try.prog = true := by kernel_rfl
theorem keys : Try.prog.plainKeys = true := by kernel_rfl
theorem heard : Try.prog.stopsHeard = true := by kernel_rfl
theorem own : ownKnob Try.prog.godebug = none := by kernel_rfl
theorem joined_of (P : Program) (laid : laidOutB P = true) (mapped : mapsRowed P = true) (keys : P.plainKeys = true) (heard : P.stopsHeard = true) (enters : P.mayEnter = true) (lifts : P.liftsFinal = false) (make : P.make = some .cut) (f : FuncId) (fn : Func) (s : ChangeSpec) (c : OpenClaim)
    (k1 : c.wf (OpenSpec.ofChange s) = true) (k4 : fn.params.all (P.readableRec ·) = true) (k5 : namedTie P c.named s.vars = true)
    (k6 : (c.stops == []) = true) (k7 : (P.stops == []) = true) (k8 : (c.knobs == []) = true) (k9 : (P.stopKnobs == []) = true)
    (k10 : (c.inPlace == P.inPlace f) = true) (k11 : (c.unfollowed == P.unfollowed f) = true) (k12 : (c.recurses == P.recurses f) = true) (k13 : (c.named == P.varsNamed f) = true)
    (k14 : (c.maps == (fn.params.toList ++ s.plain.varTypes P).any (P.mapsRec ·)) = true) (k15 : (c.ifaces == (fn.params.toList ++ s.plain.varTypes P).any (P.ifacesRec ·)) = true) (k16 : (c.mapsOut == P.mapsAmong fn.resultTypes.toList) = true)
    (k17 : (c.loops == (fn.params.toList ++ s.plain.varTypes P).any (P.loopsFrom ·)) = true) (k17b : (c.wideKeys == (fn.params.toList ++ s.plain.varTypes P ++ fn.resultTypes.toList).any (P.wideKeysFrom ·)) = true)
    (k18 : s.vars.all (P.varReadable ·) = true) (k19 : fn.resultTypes.all (fun t => P.readableRec t && decide (t < P.types.size)) = true)
    (k20 : (c.ifacesOut == fn.resultTypes.toList.any (P.ifacesRec ·)) = true) (k21 : (c.loopsOut == fn.resultTypes.toList.any (P.loopsFrom ·)) = true)
    (k22 : c.plainKeys = true) (k23 : c.shortTexts.isNone = true) (k24 : c.lifted = false) (k25 : c.make = .cut)
    (k26 : (c.kinds == (if c.domain.isEmpty then [] else fn.params.toList.map fun t => match P.underlying t with | some (.int k) => some k | _ => none)) = true)
    (k27 : (c.pinned == c.pinnedBy) = true) (k28 : (c.veiled == (fn.params.toList ++ s.plain.varTypes P ++ fn.resultTypes.toList).any (P.veiledRec ·)) = true)
    (k29 : c.veiledFits P fn.params.toList (fn.params.toList ++ s.plain.varTypes P ++ fn.resultTypes.toList) = true) :
    joinedFacts P f fn s c = true := by
  have a22 : (c.plainKeys == P.plainKeys) = true := by rw [k22, keys]; rfl
  have a24 : (c.lifted == P.liftsFinal) = true := by rw [k24, lifts]; rfl
  have a25 : (P.make == some c.make) = true := by rw [k25, make]; decide
  unfold joinedFacts
  simp only [Bool.and_eq_true]
  exact ⟨⟨⟨⟨⟨⟨⟨⟨⟨⟨⟨⟨⟨⟨⟨⟨⟨⟨⟨⟨⟨⟨⟨⟨⟨⟨⟨⟨⟨⟨⟨k1, laid⟩, mapped⟩, k4⟩, k5⟩, k6⟩, k7⟩, k8⟩, k9⟩, k10⟩, k11⟩, k12⟩, k13⟩, k14⟩, k15⟩, k16⟩, k17⟩, k17b⟩, k18⟩, k19⟩, k20⟩, k21⟩, a22⟩, k23⟩, heard⟩, enters⟩, a24⟩, a25⟩, k26⟩, k27⟩, k28⟩, k29⟩
end Go.Proofs.Ytahafepgmkiabaa.Facts
