/- Walks: the law StreamOrder. -/
import Derived.Test.YtahafepgmkiabaaV6
set_option linter.unusedVariables false
set_option linter.unusedSimpArgs false
set_option linter.ambiguousOpen false
namespace Go.Proofs.Ytahafepgmkiabaa
open Go Go.Proofs.Ytahafepgmkiabaa.Sep

/-- A call of a script. -/
structure OpV where
  kind : Int
  who : Int
  idx : Int
  data : List Nat
  dv : Value
def OpV.cells (o : OpV) : List Value := [.int .i64 o.kind, .int .i64 o.who, .int .i64 o.idx, o.dv]
theorem opv_get : ∀ (ops : List OpV) (i : Nat) (o : OpV), ops[i]? = some o → ∀ (j : Nat) (u : Value), o.cells[j]? = some u → (ops.flatMap OpV.cells)[((i : Nat) : Int).toNat * 4 + j]? = some u
  | [], i, o, h, j, u, hu => by simp at h
  | a :: ops, 0, o, h, j, u, hu => by
    simp only [List.getElem?_cons_zero, Option.some.injEq] at h
    subst h
    have hj : j < 4 := (List.getElem?_eq_some_iff.1 hu).1
    simp only [List.flatMap_cons]
    rw [List.getElem?_append_left (by show ((0 : Nat) : Int).toNat * 4 + j < 4; omega)]
    simpa using hu
  | a :: ops, i + 1, o, h, j, u, hu => by
    have ih := opv_get ops i o (by simpa using h) j u hu
    simp only [List.flatMap_cons]
    have hl : a.cells.length = 4 := rfl
    rw [List.getElem?_append_right (by omega), hl]
    rw [← ih]
    congr 1
    omega
/-- What holds of each call of a script that came in. -/
structure OpV.In (w0 : World) (L : List Chunk) (o : OpV) : Prop where
  seg : SegIn w0 L ⟨0, 0, 0, 0, o.data⟩ o.dv
  kind : -9223372036854775808 ≤ o.kind ∧ o.kind ≤ 9223372036854775807
  who : -9223372036854775808 ≤ o.who ∧ o.who ≤ 9223372036854775807
  idx : -9223372036854775808 ≤ o.idx ∧ o.idx ≤ 9223372036854775807
theorem close_keeps (e : En) : e.close.1.out = e.out ∧ e.close.1.id = e.id ∧ e.close.1.inn = e.inn ∧ e.close.1.read = e.read := by
  unfold En.close
  split <;> exact ⟨rfl, rfl, rfl, rfl⟩
theorem clock_of {now : Int} (h0 : 0 ≤ now) (h1 : now ≤ 100000) : Clock now := by unfold Clock; omega
theorem outp_few13 (e : En) (now : Int) : (e.outp now).2.length ≤ 13 := by
  unfold En.outp
  split
  · split <;> simp
  · split
    · rw [sends_eq]
      have := pieces_few (e.back now) 11 (e.back now).next
      have h1 : (acksOf (e.back now)).length ≤ 1 := by unfold acksOf; split <;> simp
      have h2 : (finsOf (e.back now)).length ≤ 1 := by unfold finsOf; split <;> simp
      simp only [List.length_append]
      omega
    · simp
namespace Sep
section steps
variable {C : Cx} {ops : Array Oper} {Q : Post} {Lr : List Chunk} {κ : List (Bool × Oper)} {env : Env} {L : List Chunk} {f : Bool}
  {dst : Option Tmp} {ty : TypeId} {pos : String} {after : Array Edge} {v u : Value} {x y z : Operand}
theorem St.cutV {t e : TypeId} {lo hi : Option Operand} {L1 : List Chunk} {xs : List Value} (l h : Nat) (hd : dok C.n dst = true) (hx : ev env x = some v) (ht : sliceTy C.P t = some (e, 1)) (hr : Rd C.w0 L1 v 1 xs.length xs) (hcp : Cap v)
    (hl : Bd env lo 0 l) (hh : Bd env hi xs.length h) (h1 : l ≤ h) (h2 : h ≤ xs.length)
    (hk : ∀ v', Rd C.w0 L1 v' 1 ((xs.drop l).take (h - l)).length ((xs.drop l).take (h - l)) → Cap v' → St C ops Q Lr κ (upd dst v' env) L) :
    St C ops Q Lr ((f, ⟨dst, .slice t x lo hi none, ty, pos, after, none⟩) :: κ) env L := by
  have hr' := hr
  obtain ⟨_, b, o, A, c, rfl, hA, hh0⟩ := hr'
  have hnc := hcp.le
  have hc := hr.cut l h c h1 h2 (by omega)
  rw [Nat.mul_one, Nat.mul_one] at hc
  have hlen : ((xs.drop l).take (h - l)).length = h - l := by rw [List.length_take, List.length_drop]; omega
  refine St.cut hd hx ht hl hh rfl h1 (by omega) (Nat.le_refl _) (by simp) (hk _ ?_ ⟨_, _, _, rfl, by omega⟩)
  rw [hlen]; simpa using hc
end steps
end Sep

theorem streamOrder_spec (w0 : World) (L : List Chunk) (v : Value) (ops : List OpV) (hx : Rd w0 L v 4 ops.length (ops.flatMap OpV.cells)) (hhx : ∃ b o A c, v = .slice A ops.length c ∧ (0 < ops.length → A = some ⟨b, o, none⟩) ∧ HoldsN w0 [] b o (ops.flatMap OpV.cells)) (hin : ∀ o ∈ ops, OpV.In w0 L o) (hlen : ops.length ≤ 140737488351232) :
    Meets Try.prog 18 #[v] w0 L (fun r L' => r = .bool true) := by
  obtain ⟨bs, os, As, cs, rfl, hAs, hhs⟩ := hhx
  refine Meets.of_body [.slice As ops.length cs] Try.func18 rfl Try.ntmps18 rfl ?_
  refine SC.seq ?_
  refine SC.plain ?_
  refine St.assign rfl rfl ?_
  refine St.done ?_
  refine SX.seq ?_
  refine SC.seq ?_
  refine SC.plain ?_
  refine St.call [.int .i64 3] rfl (by kernel_rfl) rfl (dial_spec w0 L 3) (by first | exact fun _ _ _ _ h => h.nil | assumption) ?_
  rintro r1 L1 ⟨p0, rfl, ov0, iv0, at0, Eo0, Ei0, hB0, rfl⟩
  refine St.call [.int .i64 3] rfl (by kernel_rfl) rfl (listen_spec w0 _ 3) (by first | exact fun _ _ _ _ h => h.nil | assumption) ?_
  rintro r1 L1 ⟨p1, rfl, ov1, iv1, at1, Eo1, Ei1, hB1, rfl⟩
  refine St.buildSl (e := 80) [(0, .pointer (some ⟨p0, 0, none⟩)), (1, .pointer (some ⟨p1, 0, none⟩))] [.pointer (some ⟨p0, 0, none⟩), .pointer (some ⟨p1, 0, none⟩)] rfl rfl (by kernel_rfl) (fun _ _ h => h.nil) (fun b3 => ?_)
  refine St.assign rfl rfl ?_
  refine St.done ?_
  refine SX.seq ?_
  refine SC.seq ?_
  refine SC.seq ?_
  refine SC.plain ?_
  refine St.move rfl rfl ?_
  refine St.indexSl (e := 80) (sz := 1) rfl rfl rfl (by kernel_rfl) (by omega) ?_
  refine St.load rfl rfl (by kernel_rfl) (Holds.row mem0 rfl) ?_
  refine St.ptrEql rfl rfl rfl (by kernel_rfl) ?_
  refine St.move rfl rfl ?_
  refine St.guard_yes rfl rfl ?_
  refine St.move rfl rfl ?_
  refine St.guard_yes rfl rfl ?_
  refine St.indexSl (e := 80) (sz := 1) rfl rfl rfl (by kernel_rfl) (by omega) ?_
  refine St.guard_yes rfl rfl ?_
  refine St.load rfl rfl (by kernel_rfl) (Holds.row mem0 rfl) ?_
  refine St.guard_yes rfl rfl ?_
  refine St.ptrEql rfl rfl rfl (by kernel_rfl) ?_
  refine St.pick_false rfl rfl rfl ?_
  refine St.done ?_
  refine SX.seq ?_
  refine SC.cond_false rfl ?_
  refine SC.skip ?_
  refine SX.seq ?_
  refine SC.seq ?_
  refine SC.plain ?_
  refine St.alloc [.slice none 0 0, .slice none 0 0] rfl (by kernel_rfl) (fun _ _ h => h.nil) (fun b4 => ?_)
  refine St.done ?_
  refine SX.seq ?_
  refine SC.seq ?_
  refine SC.plain ?_
  refine St.alloc [.slice none 0 0, .slice none 0 0] rfl (by kernel_rfl) (fun _ _ h => h.nil) (fun b5 => ?_)
  refine St.alloc [.slice none 0 0, .slice none 0 0] rfl (by kernel_rfl) (fun _ _ h => h.nil) (fun b6 => ?_)
  refine St.done ?_
  refine SX.seq ?_
  refine SC.seq ?_
  refine SC.plain ?_
  refine St.assign rfl rfl ?_
  refine St.done ?_
  refine SX.seq ?_
  refine SC.seq ?_
  refine SC.seq ?_
  refine SC.perm ([⟨b3, [.pointer (some ⟨p0, 0, none⟩), .pointer (some ⟨p1, 0, none⟩)], 80⟩] :: [⟨b4, [.slice none 0 0, .slice none 0 0], 99⟩] :: [⟨b5, [.slice none 0 0, .slice none 0 0], 100⟩] :: [⟨b6, [.slice none 0 0, .slice none 0 0], 100⟩] :: EnL p0 (enNew 3 1) ov0 iv0 at0 Eo0 Ei0 (EnL p1 (enNew 3 2) ov1 iv1 at1 Eo1 Ei1 (L))) (perm_idx [[[⟨b6, [.slice none 0 0, .slice none 0 0], 100⟩]], [[⟨b5, [.slice none 0 0, .slice none 0 0], 100⟩]], [[⟨b4, [.slice none 0 0, .slice none 0 0], 99⟩]], [[⟨b3, [.pointer (some ⟨p0, 0, none⟩), .pointer (some ⟨p1, 0, none⟩)], 80⟩]], EnL p1 (enNew 3 2) ov1 iv1 at1 Eo1 Ei1 [], EnL p0 (enNew 3 1) ov0 iv0 at0 Eo0 Ei0 []] (L) [3, 2, 1, 0, 5, 4] (by kernel_rfl)) ?_
  refine SC.plain ?_
  refine St.assign rfl rfl ?_
  refine St.done ?_
  refine SX.seq ?_
  refine SC.block ?_
  refine SC.loop (α := Nat × Int × Sid × Sid × List Chunk) (fun s => s.1 ≤ ops.length ∧ s.1 ≤ 150 ∧ 0 ≤ s.2.1 ∧ s.2.1 ≤ 15 * (s.1 : Int) ∧ Both s.2.2.2.2 (14 * s.1) s.2.2.1 s.2.2.2.1) (fun s => [(0, .slice As ops.length cs), (3, .slice (some ⟨b3, 0, none⟩) 2 2), (4, .pointer (some ⟨b4, 0, none⟩)), (5, .pointer (some ⟨b5, 0, none⟩)), (6, .pointer (some ⟨b6, 0, none⟩)), (7, .int .i64 s.2.1), (8, .int .i64 ((s.1 : Nat) : Int))]) (fun s => ordL b3 b4 b5 b6 0 s.2.2.1 s.2.2.2.1 (s.2.2.2.2 ++ L)) (fun s => ops.length - s.1) (0, 0, Sid.mk p0 (enNew 3 1) ov0 iv0 at0 Eo0 Ei0 (.slice none 0 0) [] [] [] (.slice none 0 0) [] (.slice none 0 0) [], Sid.mk p1 (enNew 3 2) ov1 iv1 at1 Eo1 Ei1 (.slice none 0 0) [] [] [] (.slice none 0 0) [] (.slice none 0 0) [], []) ⟨Nat.zero_le _, Nat.zero_le _, Int.le_refl _, Int.le_refl _, ⟨⟨hB0, rfl, Buf.nil 35 1, Wayed.nil _, by simp, Nat.zero_le _, Buf.nil 5 1, Buf.nil 5 1, List.nil_prefix⟩, ⟨hB1, rfl, Buf.nil 35 1, Wayed.nil _, by simp, Nat.zero_le _, Buf.nil 5 1, Buf.nil 5 1, List.nil_prefix⟩⟩⟩ ⟨rfl, rfl, rfl, rfl, rfl, rfl, rfl, trivial⟩ (List.Perm.refl _) ?_
  rintro ⟨i, now, S0, S1, Ds⟩ ⟨hi, hi2, hn0, hn1, hb⟩
  simp only at hi hi2 hn0 hn1 hb ⊢
  refine SC.seq ?_
  refine SC.seq ?_
  refine SC.plain ?_
  refine St.move rfl rfl ?_
  refine St.move rfl rfl ?_
  refine St.lenSl rfl rfl (by kernel_rfl) ?_
  refine St.lss rfl rfl rfl ?_
  refine St.move rfl rfl ?_
  refine St.split 30 rfl (fun g30 => ?_) (fun g30 => ?_)
  · refine St.guard_yes rfl rfl ?_
    refine St.move rfl rfl ?_
    refine St.guard_yes rfl rfl ?_
    refine St.lss rfl rfl rfl ?_
    refine St.pick_true rfl rfl rfl ?_
    refine St.done ?_
    refine SX.seq ?_
    refine SC.condp rfl (fun c33 => ?_) (fun c33 => ?_)
    · have hil : i < ops.length := by omega
      have hi150 : i < 150 := by omega
      have hAse := hAs (by omega)
      subst hAse
      obtain ⟨o, ho⟩ : ∃ o, ops[i]? = some o := ⟨_, List.getElem?_eq_getElem hil⟩
      have hS := hin o (List.mem_of_getElem? ho)
      have hcell := opv_get ops i o ho
      have hcl : Clock now := clock_of hn0 (by omega)
      obtain ⟨kind, who, idx, data, dv⟩ := o
      obtain ⟨Ad, cd, hdv⟩ := hS.seg.slice
      simp only at hdv
      subst hdv
      have hidx : -9223372036854775808 ≤ idx ∧ idx ≤ 9223372036854775807 := hS.idx
      have hdl : data.length ≤ 140737488351232 := hS.seg.len
      refine SC.skip ?_
      refine SX.seq ?_
      refine SC.seq ?_
      refine SC.block ?_
      refine SC.seq ?_
      refine SC.plain ?_
      refine St.move rfl rfl ?_
      refine St.move rfl rfl ?_
      refine St.indexSl (e := 102) (sz := 4) rfl rfl rfl (by kernel_rfl) (by omega) ?_
      refine St.loadAgg (OpV.cells ⟨kind, who, idx, data, .slice Ad data.length cd⟩) rfl rfl (by kernel_rfl) (fun w hw => (hhs.part _ _ hcell) w (hw.sub (sub_flat (List.nil_sublist _)))) ?_
      refine St.alloc [.int .i64 0, .int .i64 0, .int .i64 0, .slice none 0 0] rfl (by kernel_rfl) (fun _ _ h => h.nil) (fun b9 => ?_)
      refine St.storeN rfl rfl rfl (OpV.cells ⟨kind, who, idx, data, .slice Ad data.length cd⟩) rfl (by kernel_rfl) (by simp [OpV.cells, one]) (by simp [OpV.cells]) (fun _ h => h.nil) ?_
      rw [show splice [.int .i64 0, .int .i64 0, .int .i64 0, .slice none 0 0] 0 (OpV.cells ⟨kind, who, idx, data, .slice Ad data.length cd⟩) = [.int .i64 kind, .int .i64 who, .int .i64 idx, .slice Ad data.length cd] from rfl]
      show St _ _ _ _ _ _ ([⟨b9, [.int .i64 kind, .int .i64 who, .int .i64 idx, .slice Ad data.length cd], 102⟩] :: ordL b3 b4 b5 b6 0 S0 S1 (Ds ++ L))
      refine St.done ?_
      refine SX.seq ?_
      refine SC.seq ?_
      refine SC.plain ?_
      refine St.fieldAddr (off := 1) rfl rfl (by kernel_rfl) ?_
      refine St.load rfl rfl (by kernel_rfl) (by first | exact Holds.row mem0 rfl | exact Holds.row mem1 rfl | exact Holds.row mem2 rfl | exact Holds.row mem3 rfl | exact Holds.row mem4 rfl | exact Holds.row mem5 rfl | exact Holds.row mem6 rfl | exact Holds.row mem7 rfl | exact Holds.row mem8 rfl) ?_
      refine St.andI rfl rfl rfl ?_
      rw [mask1]
      obtain ⟨k, hkw⟩ : ∃ k : Nat, who % 2 = (k : Int) := ⟨(who % 2).toNat, by omega⟩
      have hk : k < 2 := by omega
      rw [hkw]
      refine St.assign rfl rfl ?_
      refine St.done ?_
      obtain ⟨K, hK⟩ : ∃ K, sel k S0 S1 = K := ⟨_, rfl⟩
      obtain ⟨J, hJ⟩ : ∃ J, sel k S1 S0 = J := ⟨_, rfl⟩
      have hSS := sel_sel (k := k) S0 S1
      rw [hK, hJ] at hSS
      have hb := hb.sel k
      rw [hK, hJ] at hb
      have hpp := (ordL_sel (b3 := b3) (b4 := b4) (b5 := b5) (b6 := b6) hk K J (Ds ++ L)).symm
      rw [hSS.1, hSS.2] at hpp
      clear hSS hK hJ
      refine SX.perm ([⟨b9, [.int .i64 kind, .int .i64 who, .int .i64 idx, .slice Ad data.length cd], 102⟩] :: ordL b3 b4 b5 b6 k K J (Ds ++ L)) (List.Perm.append_left _ hpp) ?_
      clear hpp
      obtain ⟨pK, eK, ovK, ivK, atK, EoK, EiK, wvK, vsK, bssK, EwK, xvK, ExK, rvK, ErK⟩ := K
      obtain ⟨pJ, eJ, ovJ, ivJ, atJ, EoJ, EiJ, wvJ, vsJ, bssJ, EwJ, xvJ, ExJ, rvJ, ErJ⟩ := J
      have hwK : Buf 35 1 wvK vsK bssK.length EwK := hb.k.way
      have hwJ : Buf 35 1 wvJ vsJ bssJ.length EwJ := hb.j.way
      have hxK : Buf 5 1 xvK (bytes eK.out) eK.out.length ExK := hb.k.wrote
      have hxJ : Buf 5 1 xvJ (bytes eJ.out) eJ.out.length ExJ := hb.j.wrote
      have hrK : Buf 5 1 rvK (bytes (eK.inn.take eK.read)) (eK.inn.take eK.read).length ErK := hb.k.read
      have hrJ : Buf 5 1 rvJ (bytes (eJ.inn.take eJ.read)) (eJ.inn.take eJ.read).length ErJ := hb.j.read
      have heK : EnB eK ovK ivK atK EoK EiK := hb.k.en
      have heJ : EnB eJ ovJ ivJ atJ EoJ EiJ := hb.j.en
      have hfK : bssK.length ≤ _ := hb.k.few
      have hfJ : bssJ.length ≤ _ := hb.j.few
      have hyK : Wayed _ vsK bssK := hb.k.wayed
      have hyJ : Wayed _ vsJ bssJ := hb.j.wayed
      have hoK := heK.ok.room
      have hoJ := heJ.ok.room
      have hiK := heK.ok.inn
      have hiJ := heJ.ok.inn
      have hqK := heK.ok.read
      have hq := hwK.read
      obtain ⟨bwK, owK, AwK, cwK, rfl, hAwK, hhwK⟩ := hq
      have hq := hwJ.read
      obtain ⟨bwJ, owJ, AwJ, cwJ, rfl, hAwJ, hhwJ⟩ := hq
      have hq := hxK.read
      obtain ⟨bxK, oxK, AxK, cxK, rfl, hAxK, hhxK⟩ := hq
      have hq := hxJ.read
      obtain ⟨bxJ, oxJ, AxJ, cxJ, rfl, hAxJ, hhxJ⟩ := hq
      have hq := hrK.read
      obtain ⟨brK, orK, ArK, crK, rfl, hArK, hhrK⟩ := hq
      have hq := hrJ.read
      obtain ⟨brJ, orJ, ArJ, crJ, rfl, hArJ, hhrJ⟩ := hq
      unfold ordL
      refine SX.seq ?_
      refine SC.seq ?_
      refine SC.plain ?_
      refine St.assign rfl rfl ?_
      refine St.done ?_
      refine SX.seq ?_
      refine SC.join (α := Nat) (fun n => 0 < bssK.length → n < bssK.length) (fun n => [(0, .slice (some ⟨bs, os, none⟩) ops.length cs), (3, .slice (some ⟨b3, 0, none⟩) 2 2), (4, .pointer (some ⟨b4, 0, none⟩)), (5, .pointer (some ⟨b5, 0, none⟩)), (6, .pointer (some ⟨b6, 0, none⟩)), (7, .int .i64 now), (8, .int .i64 ((i : Nat) : Int)), (9, .pointer (some ⟨b9, 0, none⟩)), (10, .int .i64 ((k : Nat) : Int)), (11, .int .i64 ((n : Nat) : Int))]) (fun _ => [⟨b9, [.int .i64 kind, .int .i64 who, .int .i64 idx, .slice Ad data.length cd], 102⟩] :: [⟨b3, two k (.pointer (some ⟨pK, 0, none⟩)) (.pointer (some ⟨pJ, 0, none⟩)), 80⟩] :: [⟨b4, two k (.slice AwK bssK.length cwK) (.slice AwJ bssJ.length cwJ), 99⟩] :: [⟨b5, two k (.slice AxK eK.out.length cxK) (.slice AxJ eJ.out.length cxJ), 100⟩] :: [⟨b6, two k (.slice ArK (eK.inn.take eK.read).length crK) (.slice ArJ (eJ.inn.take eJ.read).length crJ), 100⟩] :: EwK :: EwJ :: ExK :: ExJ :: ErK :: ErJ :: EnL pK eK ovK ivK atK EoK EiK (EnL pJ eJ ovJ ivJ atJ EoJ EiJ (Ds ++ (L)))) ?_ ?_
      · intro n hn
        refine SC.join (α := Sid × Sid × Int × List Chunk) (fun s => Both s.2.2.2 (14 * i + 13) s.1 s.2.1 ∧ 0 ≤ s.2.2.1 ∧ s.2.2.1 ≤ 15 * (i : Int) + 15) (fun s => [(0, .slice (some ⟨bs, os, none⟩) ops.length cs), (3, .slice (some ⟨b3, 0, none⟩) 2 2), (4, .pointer (some ⟨b4, 0, none⟩)), (5, .pointer (some ⟨b5, 0, none⟩)), (6, .pointer (some ⟨b6, 0, none⟩)), (7, .int .i64 s.2.2.1), (8, .int .i64 ((i : Nat) : Int)), (10, .int .i64 ((k : Nat) : Int))]) (fun s => [⟨b9, [.int .i64 kind, .int .i64 who, .int .i64 idx, .slice Ad data.length cd], 102⟩] :: ordL b3 b4 b5 b6 k s.1 s.2.1 (s.2.2.2 ++ L)) ?_ ?_
        · clear hb hwK hwJ hxK hxJ hrK hrJ heK heJ hfK hfJ hyK hyJ hoK hoJ hiK hiJ hqK hhwK hhwJ hhxK hhxJ hhrK hhrJ hAwK hAwJ hAxK hAxJ hArK hArJ hn
          rintro ⟨K, J, now2, Ds2⟩ ⟨hb, hn2, hn3⟩
          simp only at hb hn2 hn3 ⊢
          obtain ⟨pK, eK, ovK, ivK, atK, EoK, EiK, wvK, vsK, bssK, EwK, xvK, ExK, rvK, ErK⟩ := K
          obtain ⟨pJ, eJ, ovJ, ivJ, atJ, EoJ, EiJ, wvJ, vsJ, bssJ, EwJ, xvJ, ExJ, rvJ, ErJ⟩ := J
          have hwK : Buf 35 1 wvK vsK bssK.length EwK := hb.k.way
          have hwJ : Buf 35 1 wvJ vsJ bssJ.length EwJ := hb.j.way
          have hxK : Buf 5 1 xvK (bytes eK.out) eK.out.length ExK := hb.k.wrote
          have hxJ : Buf 5 1 xvJ (bytes eJ.out) eJ.out.length ExJ := hb.j.wrote
          have hrK : Buf 5 1 rvK (bytes (eK.inn.take eK.read)) (eK.inn.take eK.read).length ErK := hb.k.read
          have hrJ : Buf 5 1 rvJ (bytes (eJ.inn.take eJ.read)) (eJ.inn.take eJ.read).length ErJ := hb.j.read
          have heK : EnB eK ovK ivK atK EoK EiK := hb.k.en
          have heJ : EnB eJ ovJ ivJ atJ EoJ EiJ := hb.j.en
          have hfK : bssK.length ≤ _ := hb.k.few
          have hfJ : bssJ.length ≤ _ := hb.j.few
          have hyK : Wayed _ vsK bssK := hb.k.wayed
          have hyJ : Wayed _ vsJ bssJ := hb.j.wayed
          have hoK := heK.ok.room
          have hoJ := heJ.ok.room
          have hiK := heK.ok.inn
          have hiJ := heJ.ok.inn
          have hqK := heK.ok.read
          have hq := hwK.read
          obtain ⟨bwK, owK, AwK, cwK, rfl, hAwK, hhwK⟩ := hq
          have hq := hwJ.read
          obtain ⟨bwJ, owJ, AwJ, cwJ, rfl, hAwJ, hhwJ⟩ := hq
          have hq := hxK.read
          obtain ⟨bxK, oxK, AxK, cxK, rfl, hAxK, hhxK⟩ := hq
          have hq := hxJ.read
          obtain ⟨bxJ, oxJ, AxJ, cxJ, rfl, hAxJ, hhxJ⟩ := hq
          have hq := hrK.read
          obtain ⟨brK, orK, ArK, crK, rfl, hArK, hhrK⟩ := hq
          have hq := hrJ.read
          obtain ⟨brJ, orJ, ArJ, crJ, rfl, hArJ, hhrJ⟩ := hq
          unfold ordL
          refine SC.seq ?_
          refine SC.drawn [(0, true), (1, true), (2, true), (3, true), (4, true), (5, true), (6, true), (7, true), (8, false)] [9, 10, 11] ([[⟨b3, two k (.pointer (some ⟨pK, 0, none⟩)) (.pointer (some ⟨pJ, 0, none⟩)), 80⟩], [⟨b6, two k (.slice ArK (eK.inn.take eK.read).length crK) (.slice ArJ (eJ.inn.take eJ.read).length crJ), 100⟩]]) (by kernel_rfl) (by kernel_rfl) (fun w hw => hw.sub (sub_flat (.cons _ (.cons_cons _ (.cons _ (.cons _ (.cons_cons _ (List.nil_sublist _)))))))) ?_
          refine St.move rfl rfl ?_
          refine St.move rfl rfl ?_
          refine St.indexArr (n := 2) (sz := 1) rfl rfl rfl (by kernel_rfl) (by omega) ?_
          refine St.load rfl rfl (by kernel_rfl) (Holds.row mem1 (two_get hk _ _)) ?_
          refine St.move rfl rfl ?_
          refine St.move rfl rfl ?_
          refine St.indexSl (e := 80) (sz := 1) rfl rfl rfl (by kernel_rfl) (by omega) ?_
          refine St.load rfl rfl (by kernel_rfl) (Holds.row mem0 (two_get hk _ _)) ?_
          refine St.perm (EnL pK eK ovK ivK atK EoK EiK ([⟨b9, [.int .i64 kind, .int .i64 who, .int .i64 idx, .slice Ad data.length cd], 102⟩] :: [⟨b3, two k (.pointer (some ⟨pK, 0, none⟩)) (.pointer (some ⟨pJ, 0, none⟩)), 80⟩] :: [⟨b4, two k (.slice AwK bssK.length cwK) (.slice AwJ bssJ.length cwJ), 99⟩] :: [⟨b5, two k (.slice AxK eK.out.length cxK) (.slice AxJ eJ.out.length cxJ), 100⟩] :: [⟨b6, two k (.slice ArK (eK.inn.take eK.read).length crK) (.slice ArJ (eJ.inn.take eJ.read).length crJ), 100⟩] :: EwK :: EwJ :: ExK :: ExJ :: ErK :: ErJ :: EnL pJ eJ ovJ ivJ atJ EoJ EiJ (Ds2 ++ (L)))) (perm_idx [[[⟨b9, [.int .i64 kind, .int .i64 who, .int .i64 idx, .slice Ad data.length cd], 102⟩]], [[⟨b3, two k (.pointer (some ⟨pK, 0, none⟩)) (.pointer (some ⟨pJ, 0, none⟩)), 80⟩]], [[⟨b4, two k (.slice AwK bssK.length cwK) (.slice AwJ bssJ.length cwJ), 99⟩]], [[⟨b5, two k (.slice AxK eK.out.length cxK) (.slice AxJ eJ.out.length cxJ), 100⟩]], [[⟨b6, two k (.slice ArK (eK.inn.take eK.read).length crK) (.slice ArJ (eJ.inn.take eJ.read).length crJ), 100⟩]], [EwK], [EwJ], [ExK], [ExJ], [ErK], [ErJ], EnL pK eK ovK ivK atK EoK EiK [], EnL pJ eJ ovJ ivJ atJ EoJ EiJ [], Ds2] (L) [11, 0, 1, 2, 3, 4, 5, 6, 7, 8, 9, 10, 12, 13] (by kernel_rfl)) ?_
          refine St.call [_] rfl (by kernel_rfl) rfl (read18_spec w0 _ pK _ _ _ _ _ _ heK) (by rintro _ _ w ⟨Et, _, _, ⟨ov2, iv2, at2, Eo2, Ei2, _, rfl⟩, rfl⟩ hw; exact hw.sub (sub_flat (.cons _ (.cons _ (.cons _ (.cons _ (.cons _ (.cons_cons _ (.cons _ (.cons _ (.cons_cons _ (List.nil_sublist _)))))))))))) ?_
          rintro r37 L1 ⟨Et, hbt, L2, ⟨ov2, iv2, at2, Eo2, Ei2, hB2, rfl⟩, rfl⟩
          have htl : eK.take.2.length ≤ eK.inn.length := by show (eK.inn.drop eK.read).length ≤ _; rw [List.length_drop]; omega
          have htk : (eK.inn.take eK.read).length ≤ eK.inn.length := by rw [List.length_take]; omega
          have htb : ∀ c ∈ bytes eK.take.2, one c = true := bytes_one _
          refine St.done ?_
          refine SX.tail ?_
          refine St.perm (ErK :: Et :: [⟨b9, [.int .i64 kind, .int .i64 who, .int .i64 idx, .slice Ad data.length cd], 102⟩] :: [⟨b3, two k (.pointer (some ⟨pK, 0, none⟩)) (.pointer (some ⟨pJ, 0, none⟩)), 80⟩] :: [⟨b4, two k (.slice AwK bssK.length cwK) (.slice AwJ bssJ.length cwJ), 99⟩] :: [⟨b6, two k (.slice ArK (eK.inn.take eK.read).length crK) (.slice ArJ (eJ.inn.take eJ.read).length crJ), 100⟩] :: [⟨b5, two k (.slice AxK eK.out.length cxK) (.slice AxJ eJ.out.length cxJ), 100⟩] :: EwK :: EwJ :: ExK :: ExJ :: ErJ :: EnL pK eK.take.1 ov2 iv2 at2 Eo2 Ei2 (EnL pJ eJ ovJ ivJ atJ EoJ EiJ (Ds2 ++ (L)))) (perm_idx [[Et], EnL pK eK.take.1 ov2 iv2 at2 Eo2 Ei2 [], [[⟨b9, [.int .i64 kind, .int .i64 who, .int .i64 idx, .slice Ad data.length cd], 102⟩]], [[⟨b3, two k (.pointer (some ⟨pK, 0, none⟩)) (.pointer (some ⟨pJ, 0, none⟩)), 80⟩]], [[⟨b4, two k (.slice AwK bssK.length cwK) (.slice AwJ bssJ.length cwJ), 99⟩]], [[⟨b5, two k (.slice AxK eK.out.length cxK) (.slice AxJ eJ.out.length cxJ), 100⟩]], [[⟨b6, two k (.slice ArK (eK.inn.take eK.read).length crK) (.slice ArJ (eJ.inn.take eJ.read).length crJ), 100⟩]], [EwK], [EwJ], [ExK], [ExJ], [ErK], [ErJ], EnL pJ eJ ovJ ivJ atJ EoJ EiJ [], Ds2] (L) [11, 0, 2, 3, 4, 6, 5, 7, 8, 9, 10, 12, 1, 13, 14] (by kernel_rfl)) ?_
          refine St.append (e := 5) (sz := 1) (bytes := 1) (xs := bytes (eK.inn.take eK.read)) (n := (eK.inn.take eK.read).length) (news := bytes eK.take.2) (m := eK.take.2.length) rfl rfl rfl (by kernel_rfl) hrK (hbt.rd (by simp)) htb (by omega) (by omega) (fun _ _ h => h.nil) (fun rv2 Er2 hr2 _ => ?_)
          obtain ⟨hb5, hr3⟩ := hb.took hB2 hr2
          have hq := hr3.read
          obtain ⟨br2, or2, Ar2, cr2, rfl, hAr2, hhr2⟩ := hq
          refine St.indexArr (n := 2) (sz := 1) rfl rfl rfl (by kernel_rfl) (by omega) ?_
          refine St.store5 rfl rfl rfl rfl (by kernel_rfl) (by rw [two_len]; omega) (fun _ h => h.nil) ?_
          rw [two_set hk]
          refine St.done ?_
          refine SX.weak (Er2 :: [⟨b9, [.int .i64 kind, .int .i64 who, .int .i64 idx, .slice Ad data.length cd], 102⟩] :: [⟨b3, two k (.pointer (some ⟨pK, 0, none⟩)) (.pointer (some ⟨pJ, 0, none⟩)), 80⟩] :: [⟨b4, two k (.slice AwK bssK.length cwK) (.slice AwJ bssJ.length cwJ), 99⟩] :: [⟨b6, two k (.slice Ar2 eK.inn.length cr2) (.slice ArJ (eJ.inn.take eJ.read).length crJ), 100⟩] :: [⟨b5, two k (.slice AxK eK.out.length cxK) (.slice AxJ eJ.out.length cxJ), 100⟩] :: EwK :: EwJ :: ExK :: ExJ :: ErJ :: EnL pK eK.take.1 ov2 iv2 at2 Eo2 Ei2 (EnL pJ eJ ovJ ivJ atJ EoJ EiJ (Ds2 ++ (L)))) (.cons_cons _ (.cons _ (List.Sublist.refl _))) ?_
          refine SX.perm ([⟨b9, [.int .i64 kind, .int .i64 who, .int .i64 idx, .slice Ad data.length cd], 102⟩] :: [⟨b3, two k (.pointer (some ⟨pK, 0, none⟩)) (.pointer (some ⟨pJ, 0, none⟩)), 80⟩] :: [⟨b4, two k (.slice AwK bssK.length cwK) (.slice AwJ bssJ.length cwJ), 99⟩] :: [⟨b5, two k (.slice AxK eK.out.length cxK) (.slice AxJ eJ.out.length cxJ), 100⟩] :: [⟨b6, two k (.slice Ar2 eK.inn.length cr2) (.slice ArJ (eJ.inn.take eJ.read).length crJ), 100⟩] :: EwK :: EwJ :: ExK :: ExJ :: Er2 :: ErJ :: EnL pK eK.take.1 ov2 iv2 at2 Eo2 Ei2 (EnL pJ eJ ovJ ivJ atJ EoJ EiJ (Ds2 ++ (L)))) (perm_idx [[Er2], [[⟨b9, [.int .i64 kind, .int .i64 who, .int .i64 idx, .slice Ad data.length cd], 102⟩]], [[⟨b3, two k (.pointer (some ⟨pK, 0, none⟩)) (.pointer (some ⟨pJ, 0, none⟩)), 80⟩]], [[⟨b4, two k (.slice AwK bssK.length cwK) (.slice AwJ bssJ.length cwJ), 99⟩]], [[⟨b6, two k (.slice Ar2 eK.inn.length cr2) (.slice ArJ (eJ.inn.take eJ.read).length crJ), 100⟩]], [[⟨b5, two k (.slice AxK eK.out.length cxK) (.slice AxJ eJ.out.length cxJ), 100⟩]], [EwK], [EwJ], [ExK], [ExJ], [ErJ], EnL pK eK.take.1 ov2 iv2 at2 Eo2 Ei2 [], EnL pJ eJ ovJ ivJ atJ EoJ EiJ [], Ds2] (L) [1, 2, 3, 5, 4, 6, 7, 8, 9, 0, 10, 11, 12, 13] (by kernel_rfl)) ?_
          refine SX.seq ?_
          refine SC.seq ?_
          have hpre : eK.inn <+: eJ.out := hb.k.pre
          have hplen := hpre.length_le
          have hpt := prefix_take hpre
          refine SC.drawn [(0, true), (1, true), (2, true), (3, true), (4, true), (5, true), (6, true), (7, true), (8, true), (9, true), (10, true), (11, true), (12, true), (13, true), (14, true), (15, true), (16, true), (17, true), (18, true), (19, true), (20, true), (21, true), (22, true), (23, true), (24, true), (25, true), (26, true)] [] (_) (by kernel_rfl) (by kernel_rfl) (fun _ h => h) ?_
          refine St.move rfl rfl ?_
          refine St.indexArr (n := 2) (sz := 1) rfl rfl rfl (by kernel_rfl) (by omega) ?_
          refine St.load rfl rfl (by kernel_rfl) (Holds.row mem4 (two_get hk _ _)) ?_
          refine St.lenSl rfl rfl (by kernel_rfl) ?_
          refine St.move rfl rfl ?_
          first | refine St.subN (a := 1) rfl rfl rfl (by omega) (by omega) ?_ | refine St.subI rfl rfl rfl (by omega) ?_
          refine St.indexArr (n := 2) (sz := 1) rfl rfl rfl (by kernel_rfl) (by omega) ?_
          refine St.load rfl rfl (by kernel_rfl) (Holds.row mem3 (two_oth hk _ _)) ?_
          refine St.lenSl rfl rfl (by kernel_rfl) ?_
          refine St.gtr rfl rfl rfl ?_
          refine St.move rfl rfl ?_
          refine St.split 193 rfl (fun g193 => ?_) (fun g193 => ?_)
          · exfalso; omega
          · refine St.guard_yes rfl rfl ?_
            refine St.move rfl rfl ?_
            refine St.guard_yes rfl rfl ?_
            refine St.indexArr (n := 2) (sz := 1) rfl rfl rfl (by kernel_rfl) (by omega) ?_
            refine St.guard_yes rfl rfl ?_
            refine St.load rfl rfl (by kernel_rfl) (Holds.row mem4 (two_get hk _ _)) ?_
            refine St.guard_yes rfl rfl ?_
            refine St.toStr (e := 5) (bs := eK.inn) (n := eK.inn.length) rfl rfl (hr3.rd (by simp [Lq, EnL])) (by kernel_rfl) (by kernel_rfl) (by kernel_rfl) ?_
            refine St.guard_yes rfl rfl ?_
            refine St.move rfl rfl ?_
            refine St.guard_yes rfl rfl ?_
            first | refine St.subN (a := 1) rfl rfl rfl (by omega) (by omega) ?_ | refine St.subI rfl rfl rfl (by omega) ?_
            refine St.guard_yes rfl rfl ?_
            refine St.indexArr (n := 2) (sz := 1) rfl rfl rfl (by kernel_rfl) (by omega) ?_
            refine St.guard_yes rfl rfl ?_
            refine St.load rfl rfl (by kernel_rfl) (Holds.row mem3 (two_oth hk _ _)) ?_
            refine St.guard_yes rfl rfl ?_
            refine St.move rfl rfl ?_
            refine St.guard_yes rfl rfl ?_
            refine St.indexArr (n := 2) (sz := 1) rfl rfl rfl (by kernel_rfl) (by omega) ?_
            refine St.guard_yes rfl rfl ?_
            refine St.load rfl rfl (by kernel_rfl) (Holds.row mem4 (two_get hk _ _)) ?_
            refine St.guard_yes rfl rfl ?_
            refine St.lenSl rfl rfl (by kernel_rfl) ?_
            refine St.guard_yes rfl rfl ?_
            refine St.cutB (e := 5) (L1 := _) (bs := eJ.out) 0 eK.inn.length rfl rfl (by kernel_rfl) (hxJ.rd (List.mem_singleton.2 rfl)) hxJ.cap rfl ⟨_, _, rfl, rfl⟩ (Nat.zero_le _) hplen (fun v23 h23 _ => ?_)
            rw [List.drop_zero, Nat.sub_zero, ← hpt] at h23
            refine St.guard_yes rfl rfl ?_
            refine St.toStr (e := 5) (bs := eK.inn) (n := eK.inn.length) rfl rfl (Rd.mono h23 (fun w hw => hw.sub (sub_flat (.cons _ (.cons _ (.cons _ (.cons _ (.cons _ (.cons _ (.cons _ (.cons _ (.cons_cons _ (List.nil_sublist _))))))))))))) (by kernel_rfl) (by kernel_rfl) (by kernel_rfl) ?_
            refine St.guard_yes rfl rfl ?_
            refine St.strNeq rfl rfl rfl ?_
            refine St.pick_false rfl rfl rfl ?_
            refine St.done ?_
            refine SX.tail ?_
            refine St.done ?_
            refine SX.seq ?_
            refine SC.condp rfl (fun c209 => ?_) (fun c209 => ?_)
            · exact absurd rfl c209
            · refine SC.skip ?_
              refine SX.blk ?_
              refine SX.seq ?_
              refine SC.plain ?_
              refine St.move rfl rfl ?_
              first | refine St.addN (b := 1) rfl rfl rfl (by omega) ?_ | refine St.addI rfl rfl rfl (by omega) ?_
              refine St.assign rfl rfl ?_
              refine St.done ?_
              refine SX.weak ([⟨b3, two k (.pointer (some ⟨pK, 0, none⟩)) (.pointer (some ⟨pJ, 0, none⟩)), 80⟩] :: [⟨b4, two k (.slice AwK bssK.length cwK) (.slice AwJ bssJ.length cwJ), 99⟩] :: [⟨b5, two k (.slice AxK eK.out.length cxK) (.slice AxJ eJ.out.length cxJ), 100⟩] :: [⟨b6, two k (.slice Ar2 eK.inn.length cr2) (.slice ArJ (eJ.inn.take eJ.read).length crJ), 100⟩] :: EwK :: EwJ :: ExK :: ExJ :: Er2 :: ErJ :: EnL pK eK.take.1 ov2 iv2 at2 Eo2 Ei2 (EnL pJ eJ ovJ ivJ atJ EoJ EiJ (Ds2 ++ (L)))) (.cons _ (List.Sublist.refl _)) ?_
              refine SX.again (i + 1, now2, sel k (Sid.mk pK eK.take.1 ov2 iv2 at2 Eo2 Ei2 (.slice AwK bssK.length cwK) vsK bssK EwK (.slice AxK eK.out.length cxK) ExK (.slice Ar2 eK.inn.length cr2) Er2) (Sid.mk pJ eJ ovJ ivJ atJ EoJ EiJ (.slice AwJ bssJ.length cwJ) vsJ bssJ EwJ (.slice AxJ eJ.out.length cxJ) ExJ (.slice ArJ (eJ.inn.take eJ.read).length crJ) ErJ), sel k (Sid.mk pJ eJ ovJ ivJ atJ EoJ EiJ (.slice AwJ bssJ.length cwJ) vsJ bssJ EwJ (.slice AxJ eJ.out.length cxJ) ExJ (.slice ArJ (eJ.inn.take eJ.read).length crJ) ErJ) (Sid.mk pK eK.take.1 ov2 iv2 at2 Eo2 Ei2 (.slice AwK bssK.length cwK) vsK bssK EwK (.slice AxK eK.out.length cxK) ExK (.slice Ar2 eK.inn.length cr2) Er2), Ds2) ⟨by simp only; omega, by simp only; omega, by simp only; omega, by simp only; omega, (hb5.mono (fun _ h => h) (by simp only; omega)).sel k⟩ (by simp only; omega) ⟨rfl, rfl, rfl, rfl, rfl, rfl, rfl, trivial⟩ ?_
              exact ordL_sel hk (Sid.mk pK eK.take.1 ov2 iv2 at2 Eo2 Ei2 (.slice AwK bssK.length cwK) vsK bssK EwK (.slice AxK eK.out.length cxK) ExK (.slice Ar2 eK.inn.length cr2) Er2) (Sid.mk pJ eJ ovJ ivJ atJ EoJ EiJ (.slice AwJ bssJ.length cwJ) vsJ bssJ EwJ (.slice AxJ eJ.out.length cxJ) ExJ (.slice ArJ (eJ.inn.take eJ.read).length crJ) ErJ) (Ds2 ++ L)
        · refine SC.seq ?_
          refine SC.plain ?_
          refine St.fieldAddr (off := 0) rfl rfl (by kernel_rfl) ?_
          refine St.load rfl rfl (by kernel_rfl) (by first | exact Holds.row mem0 rfl | exact Holds.row mem1 rfl | exact Holds.row mem2 rfl | exact Holds.row mem3 rfl | exact Holds.row mem4 rfl | exact Holds.row mem5 rfl | exact Holds.row mem6 rfl | exact Holds.row mem7 rfl | exact Holds.row mem8 rfl) ?_
          refine St.done ?_
          refine SX.seq ?_
          refine SC.block ?_
          refine SC.seq ?_
          refine SC.plain ?_
          refine St.eql rfl rfl rfl ?_
          refine St.assign rfl rfl ?_
          refine St.done ?_
          refine SX.seq ?_
          refine SC.condp rfl (fun c67 => ?_) (fun c67 => ?_)
          · refine SC.seq ?_
            refine SC.seq ?_
            refine SC.plain ?_
            refine St.fieldAddr (off := 3) rfl rfl (by kernel_rfl) ?_
            refine St.load rfl rfl (by kernel_rfl) (by first | exact Holds.row mem0 rfl | exact Holds.row mem1 rfl | exact Holds.row mem2 rfl | exact Holds.row mem3 rfl | exact Holds.row mem4 rfl | exact Holds.row mem5 rfl | exact Holds.row mem6 rfl | exact Holds.row mem7 rfl | exact Holds.row mem8 rfl) ?_
            refine St.lenSl rfl rfl (by kernel_rfl) ?_
            refine St.gtr rfl rfl rfl ?_
            refine St.done ?_
            refine SX.seq ?_
            refine SC.condp rfl (fun c72 => ?_) (fun c72 => ?_)
            · refine SC.seq ?_
              refine SC.plain ?_
              refine St.call [] rfl (by kernel_rfl) rfl (awake18_spec w0 _) (by first | exact fun _ _ _ _ h => h.nil | assumption) ?_
              rintro r18 L1 ⟨rfl, rfl⟩
              refine St.assign rfl rfl ?_
              refine St.done ?_
              refine SX.seq ?_
              refine SC.ret ?_
              refine SX.seq_ret ?_
              refine SX.blk_ret ?_
              refine SX.seq_ret ?_
              refine SX.blk_ret ?_
              refine SX.seq_ret ?_
              refine SX.seq_ret ?_
              refine SX.blk_ret ?_
              refine SX.seq_ret ?_
              exact SX.ret1 rfl rfl rfl
            · refine SC.skip ?_
              refine SX.seq ?_
              refine SC.seq ?_
              refine SC.drawn [(0, true), (1, true), (2, true), (3, true), (4, true), (5, true)] [6, 7] (_) (by kernel_rfl) (by kernel_rfl) (fun _ h => h) ?_
              refine St.move rfl rfl ?_
              refine St.move rfl rfl ?_
              refine St.indexSl (e := 80) (sz := 1) rfl rfl rfl (by kernel_rfl) (by omega) ?_
              refine St.load rfl rfl (by kernel_rfl) (Holds.row mem1 (two_get hk _ _)) ?_
              refine St.fieldAddr (off := 3) rfl rfl (by kernel_rfl) ?_
              refine St.load rfl rfl (by kernel_rfl) (Holds.row mem0 rfl) ?_
              refine St.done ?_
              refine SX.tail ?_
              refine St.perm (EnL pK eK ovK ivK atK EoK EiK ([⟨b9, [.int .i64 kind, .int .i64 who, .int .i64 idx, .slice Ad data.length cd], 102⟩] :: [⟨b3, two k (.pointer (some ⟨pK, 0, none⟩)) (.pointer (some ⟨pJ, 0, none⟩)), 80⟩] :: [⟨b4, two k (.slice AwK bssK.length cwK) (.slice AwJ bssJ.length cwJ), 99⟩] :: [⟨b5, two k (.slice AxK eK.out.length cxK) (.slice AxJ eJ.out.length cxJ), 100⟩] :: [⟨b6, two k (.slice ArK (eK.inn.take eK.read).length crK) (.slice ArJ (eJ.inn.take eJ.read).length crJ), 100⟩] :: EwK :: EwJ :: ExK :: ExJ :: ErK :: ErJ :: EnL pJ eJ ovJ ivJ atJ EoJ EiJ (Ds ++ (L)))) (perm_idx [[[⟨b9, [.int .i64 kind, .int .i64 who, .int .i64 idx, .slice Ad data.length cd], 102⟩]], [[⟨b3, two k (.pointer (some ⟨pK, 0, none⟩)) (.pointer (some ⟨pJ, 0, none⟩)), 80⟩]], [[⟨b4, two k (.slice AwK bssK.length cwK) (.slice AwJ bssJ.length cwJ), 99⟩]], [[⟨b5, two k (.slice AxK eK.out.length cxK) (.slice AxJ eJ.out.length cxJ), 100⟩]], [[⟨b6, two k (.slice ArK (eK.inn.take eK.read).length crK) (.slice ArJ (eJ.inn.take eJ.read).length crJ), 100⟩]], [EwK], [EwJ], [ExK], [ExJ], [ErK], [ErJ], EnL pK eK ovK ivK atK EoK EiK [], EnL pJ eJ ovJ ivJ atJ EoJ EiJ [], Ds] (L) [11, 0, 1, 2, 3, 4, 5, 6, 7, 8, 9, 10, 12, 13] (by kernel_rfl)) ?_
              refine St.call [_, _] rfl (by kernel_rfl) rfl (write18_spec w0 _ pK _ _ _ _ _ _ heK _ data (Rd.mono hS.seg.rd (fun w hw => hw.sub (sub_flat (.cons _ (.cons _ (.cons _ (.cons _ (.cons _ (.cons _ (.cons _ (.cons _ (.cons _ (.cons _ (.cons _ (.cons _ (.cons _ (.cons _ (List.Sublist.trans (List.Sublist.refl _) (List.sublist_append_right _ _))))))))))))))))))) hS.seg.len hS.seg.lt) (fun _ _ _ _ h => h.nil) ?_
              rintro r19 L1 ⟨rfl, ov2, iv2, at2, Eo2, Ei2, hB2, rfl⟩
              rcases write_cases eK data with ⟨hz, he, hlen⟩ | ⟨hz, he⟩
              · rw [he] at hB2 ⊢
                rw [hz]
                refine St.perm ([⟨b9, [.int .i64 kind, .int .i64 who, .int .i64 idx, .slice Ad data.length cd], 102⟩] :: [⟨b3, two k (.pointer (some ⟨pK, 0, none⟩)) (.pointer (some ⟨pJ, 0, none⟩)), 80⟩] :: [⟨b4, two k (.slice AwK bssK.length cwK) (.slice AwJ bssJ.length cwJ), 99⟩] :: [⟨b5, two k (.slice AxK eK.out.length cxK) (.slice AxJ eJ.out.length cxJ), 100⟩] :: [⟨b6, two k (.slice ArK (eK.inn.take eK.read).length crK) (.slice ArJ (eJ.inn.take eJ.read).length crJ), 100⟩] :: EwK :: EwJ :: ExK :: ExJ :: ErK :: ErJ :: EnL pK { eK with out := eK.out ++ data } ov2 iv2 at2 Eo2 Ei2 (EnL pJ eJ ovJ ivJ atJ EoJ EiJ (Ds ++ (L)))) (perm_idx [EnL pK { eK with out := eK.out ++ data } ov2 iv2 at2 Eo2 Ei2 [], [[⟨b9, [.int .i64 kind, .int .i64 who, .int .i64 idx, .slice Ad data.length cd], 102⟩]], [[⟨b3, two k (.pointer (some ⟨pK, 0, none⟩)) (.pointer (some ⟨pJ, 0, none⟩)), 80⟩]], [[⟨b4, two k (.slice AwK bssK.length cwK) (.slice AwJ bssJ.length cwJ), 99⟩]], [[⟨b5, two k (.slice AxK eK.out.length cxK) (.slice AxJ eJ.out.length cxJ), 100⟩]], [[⟨b6, two k (.slice ArK (eK.inn.take eK.read).length crK) (.slice ArJ (eJ.inn.take eJ.read).length crJ), 100⟩]], [EwK], [EwJ], [ExK], [ExJ], [ErK], [ErJ], EnL pJ eJ ovJ ivJ atJ EoJ EiJ [], Ds] (L) [1, 2, 3, 4, 5, 6, 7, 8, 9, 10, 11, 0, 12, 13] (by kernel_rfl)) ?_
                refine St.eql rfl rfl rfl ?_
                refine St.done ?_
                refine SX.seq ?_
                refine SC.condp rfl (fun c81 => ?_) (fun c81 => ?_)
                · refine SC.drawn [(0, true), (1, true), (2, true), (3, true), (4, true), (5, true)] [6, 7, 8] (_) (by kernel_rfl) (by kernel_rfl) (fun _ h => h) ?_
                  refine St.move rfl rfl ?_
                  refine St.move rfl rfl ?_
                  refine St.indexArr (n := 2) (sz := 1) rfl rfl rfl (by kernel_rfl) (by omega) ?_
                  refine St.load rfl rfl (by kernel_rfl) (Holds.row mem3 (two_get hk _ _)) ?_
                  refine St.fieldAddr (off := 3) rfl rfl (by kernel_rfl) ?_
                  refine St.load rfl rfl (by kernel_rfl) (by first | exact Holds.row mem0 rfl | exact Holds.row mem1 rfl | exact Holds.row mem2 rfl | exact Holds.row mem3 rfl | exact Holds.row mem4 rfl | exact Holds.row mem5 rfl | exact Holds.row mem6 rfl | exact Holds.row mem7 rfl | exact Holds.row mem8 rfl) ?_
                  refine St.done ?_
                  refine SX.tail ?_
                  refine St.perm (ExK :: [⟨b9, [.int .i64 kind, .int .i64 who, .int .i64 idx, .slice Ad data.length cd], 102⟩] :: [⟨b3, two k (.pointer (some ⟨pK, 0, none⟩)) (.pointer (some ⟨pJ, 0, none⟩)), 80⟩] :: [⟨b4, two k (.slice AwK bssK.length cwK) (.slice AwJ bssJ.length cwJ), 99⟩] :: [⟨b5, two k (.slice AxK eK.out.length cxK) (.slice AxJ eJ.out.length cxJ), 100⟩] :: [⟨b6, two k (.slice ArK (eK.inn.take eK.read).length crK) (.slice ArJ (eJ.inn.take eJ.read).length crJ), 100⟩] :: EwK :: EwJ :: ExJ :: ErK :: ErJ :: EnL pK { eK with out := eK.out ++ data } ov2 iv2 at2 Eo2 Ei2 (EnL pJ eJ ovJ ivJ atJ EoJ EiJ (Ds ++ (L)))) (perm_idx [[[⟨b9, [.int .i64 kind, .int .i64 who, .int .i64 idx, .slice Ad data.length cd], 102⟩]], [[⟨b3, two k (.pointer (some ⟨pK, 0, none⟩)) (.pointer (some ⟨pJ, 0, none⟩)), 80⟩]], [[⟨b4, two k (.slice AwK bssK.length cwK) (.slice AwJ bssJ.length cwJ), 99⟩]], [[⟨b5, two k (.slice AxK eK.out.length cxK) (.slice AxJ eJ.out.length cxJ), 100⟩]], [[⟨b6, two k (.slice ArK (eK.inn.take eK.read).length crK) (.slice ArJ (eJ.inn.take eJ.read).length crJ), 100⟩]], [EwK], [EwJ], [ExK], [ExJ], [ErK], [ErJ], EnL pK { eK with out := eK.out ++ data } ov2 iv2 at2 Eo2 Ei2 [], EnL pJ eJ ovJ ivJ atJ EoJ EiJ [], Ds] (L) [7, 0, 1, 2, 3, 4, 5, 6, 8, 9, 10, 11, 12, 13] (by kernel_rfl)) ?_
                  refine St.append (e := 5) (sz := 1) (bytes := 1) (xs := bytes eK.out) (n := eK.out.length) (news := bytes data) (m := data.length) rfl rfl rfl (by kernel_rfl) hxK (Rd.mono hS.seg.rd (fun w hw => hw.sub (sub_flat (.cons _ (.cons _ (.cons _ (.cons _ (.cons _ (.cons _ (.cons _ (.cons _ (.cons _ (.cons _ (.cons _ (.cons _ (.cons _ (.cons _ (.cons _ (.cons _ (.cons _ (List.Sublist.trans (List.Sublist.refl _) (List.sublist_append_right _ _)))))))))))))))))))))) (bytes_one _) (by omega) (by omega) (fun _ _ h => h.nil) (fun xv2 Ex2 hx2 _ => ?_)
                  rw [← bytes_app, ← List.length_append] at hx2
                  have hq := hx2.read
                  obtain ⟨bx2, ox2, Ax2, cx2, rfl, hAx2, hhx2⟩ := hq
                  refine St.indexArr (n := 2) (sz := 1) rfl rfl rfl (by kernel_rfl) (by omega) ?_
                  refine St.store4 rfl rfl rfl rfl (by kernel_rfl) (by rw [two_len]; omega) (fun _ h => h.nil) ?_
                  rw [two_set hk]
                  refine St.done ?_
                  refine SX.blk ?_
                  refine SX.perm ([⟨b9, [.int .i64 kind, .int .i64 who, .int .i64 idx, .slice Ad data.length cd], 102⟩] :: [⟨b3, two k (.pointer (some ⟨pK, 0, none⟩)) (.pointer (some ⟨pJ, 0, none⟩)), 80⟩] :: [⟨b4, two k (.slice AwK bssK.length cwK) (.slice AwJ bssJ.length cwJ), 99⟩] :: [⟨b5, two k (.slice Ax2 (eK.out ++ data).length cx2) (.slice AxJ eJ.out.length cxJ), 100⟩] :: [⟨b6, two k (.slice ArK (eK.inn.take eK.read).length crK) (.slice ArJ (eJ.inn.take eJ.read).length crJ), 100⟩] :: EwK :: EwJ :: Ex2 :: ExJ :: ErK :: ErJ :: EnL pK { eK with out := eK.out ++ data } ov2 iv2 at2 Eo2 Ei2 (EnL pJ eJ ovJ ivJ atJ EoJ EiJ (Ds ++ (L)))) (perm_idx [[Ex2], [[⟨b9, [.int .i64 kind, .int .i64 who, .int .i64 idx, .slice Ad data.length cd], 102⟩]], [[⟨b3, two k (.pointer (some ⟨pK, 0, none⟩)) (.pointer (some ⟨pJ, 0, none⟩)), 80⟩]], [[⟨b4, two k (.slice AwK bssK.length cwK) (.slice AwJ bssJ.length cwJ), 99⟩]], [[⟨b5, two k (.slice Ax2 (eK.out ++ data).length cx2) (.slice AxJ eJ.out.length cxJ), 100⟩]], [[⟨b6, two k (.slice ArK (eK.inn.take eK.read).length crK) (.slice ArJ (eJ.inn.take eJ.read).length crJ), 100⟩]], [EwK], [EwJ], [ExJ], [ErK], [ErJ], EnL pK { eK with out := eK.out ++ data } ov2 iv2 at2 Eo2 Ei2 [], EnL pJ eJ ovJ ivJ atJ EoJ EiJ [], Ds] (L) [1, 2, 3, 4, 5, 6, 7, 0, 8, 9, 10, 11, 12, 13] (by kernel_rfl)) ?_
                  exact SX.some (Sid.mk pK { eK with out := eK.out ++ data } ov2 iv2 at2 Eo2 Ei2 (.slice AwK bssK.length cwK) vsK bssK EwK (.slice Ax2 (eK.out ++ data).length cx2) Ex2 (.slice ArK (eK.inn.take eK.read).length crK) ErK, Sid.mk pJ eJ ovJ ivJ atJ EoJ EiJ (.slice AwJ bssJ.length cwJ) vsJ bssJ EwJ (.slice AxJ eJ.out.length cxJ) ExJ (.slice ArJ (eJ.inn.take eJ.read).length crJ) ErJ, now, Ds) ⟨(hb.write data hB2 hx2).mono (fun _ h => h) (by omega), hn0, by simp only; omega⟩ ⟨rfl, rfl, rfl, rfl, rfl, rfl, rfl, rfl, trivial⟩ (List.Perm.refl _)
                · exact absurd rfl c81
              · rw [he] at hB2 ⊢
                refine St.perm ([⟨b9, [.int .i64 kind, .int .i64 who, .int .i64 idx, .slice Ad data.length cd], 102⟩] :: [⟨b3, two k (.pointer (some ⟨pK, 0, none⟩)) (.pointer (some ⟨pJ, 0, none⟩)), 80⟩] :: [⟨b4, two k (.slice AwK bssK.length cwK) (.slice AwJ bssJ.length cwJ), 99⟩] :: [⟨b5, two k (.slice AxK eK.out.length cxK) (.slice AxJ eJ.out.length cxJ), 100⟩] :: [⟨b6, two k (.slice ArK (eK.inn.take eK.read).length crK) (.slice ArJ (eJ.inn.take eJ.read).length crJ), 100⟩] :: EwK :: EwJ :: ExK :: ExJ :: ErK :: ErJ :: EnL pK eK ov2 iv2 at2 Eo2 Ei2 (EnL pJ eJ ovJ ivJ atJ EoJ EiJ (Ds ++ (L)))) (perm_idx [EnL pK eK ov2 iv2 at2 Eo2 Ei2 [], [[⟨b9, [.int .i64 kind, .int .i64 who, .int .i64 idx, .slice Ad data.length cd], 102⟩]], [[⟨b3, two k (.pointer (some ⟨pK, 0, none⟩)) (.pointer (some ⟨pJ, 0, none⟩)), 80⟩]], [[⟨b4, two k (.slice AwK bssK.length cwK) (.slice AwJ bssJ.length cwJ), 99⟩]], [[⟨b5, two k (.slice AxK eK.out.length cxK) (.slice AxJ eJ.out.length cxJ), 100⟩]], [[⟨b6, two k (.slice ArK (eK.inn.take eK.read).length crK) (.slice ArJ (eJ.inn.take eJ.read).length crJ), 100⟩]], [EwK], [EwJ], [ExK], [ExJ], [ErK], [ErJ], EnL pJ eJ ovJ ivJ atJ EoJ EiJ [], Ds] (L) [1, 2, 3, 4, 5, 6, 7, 8, 9, 10, 11, 0, 12, 13] (by kernel_rfl)) ?_
                refine St.eql rfl rfl rfl ?_
                refine St.done ?_
                refine SX.seq ?_
                refine SC.condp rfl (fun c81 => ?_) (fun c81 => ?_)
                · exact absurd c81 hz
                · refine SC.skip ?_
                  refine SX.blk ?_
                  exact SX.some (Sid.mk pK eK ov2 iv2 at2 Eo2 Ei2 (.slice AwK bssK.length cwK) vsK bssK EwK (.slice AxK eK.out.length cxK) ExK (.slice ArK (eK.inn.take eK.read).length crK) ErK, Sid.mk pJ eJ ovJ ivJ atJ EoJ EiJ (.slice AwJ bssJ.length cwJ) vsJ bssJ EwJ (.slice AxJ eJ.out.length cxJ) ExJ (.slice ArJ (eJ.inn.take eJ.read).length crJ) ErJ, now, Ds) ⟨(hb.same hB2 rfl rfl hb.k.pre rfl).mono (fun _ h => h) (by omega), hn0, by simp only; omega⟩ ⟨rfl, rfl, rfl, rfl, rfl, rfl, rfl, rfl, trivial⟩ (List.Perm.refl _)
          · refine SC.seq ?_
            refine SC.plain ?_
            refine St.eql rfl rfl rfl ?_
            refine St.assign rfl rfl ?_
            refine St.done ?_
            refine SX.seq ?_
            refine SC.condp rfl (fun c90 => ?_) (fun c90 => ?_)
            · refine SC.plain ?_
              refine St.move rfl rfl ?_
              refine St.move rfl rfl ?_
              refine St.indexSl (e := 80) (sz := 1) rfl rfl rfl (by kernel_rfl) (by omega) ?_
              refine St.load rfl rfl (by kernel_rfl) (Holds.row mem1 (two_get hk _ _)) ?_
              refine St.perm (EnL pK eK ovK ivK atK EoK EiK ([⟨b9, [.int .i64 kind, .int .i64 who, .int .i64 idx, .slice Ad data.length cd], 102⟩] :: [⟨b3, two k (.pointer (some ⟨pK, 0, none⟩)) (.pointer (some ⟨pJ, 0, none⟩)), 80⟩] :: [⟨b4, two k (.slice AwK bssK.length cwK) (.slice AwJ bssJ.length cwJ), 99⟩] :: [⟨b5, two k (.slice AxK eK.out.length cxK) (.slice AxJ eJ.out.length cxJ), 100⟩] :: [⟨b6, two k (.slice ArK (eK.inn.take eK.read).length crK) (.slice ArJ (eJ.inn.take eJ.read).length crJ), 100⟩] :: EwK :: EwJ :: ExK :: ExJ :: ErK :: ErJ :: EnL pJ eJ ovJ ivJ atJ EoJ EiJ (Ds ++ (L)))) (perm_idx [[[⟨b9, [.int .i64 kind, .int .i64 who, .int .i64 idx, .slice Ad data.length cd], 102⟩]], [[⟨b3, two k (.pointer (some ⟨pK, 0, none⟩)) (.pointer (some ⟨pJ, 0, none⟩)), 80⟩]], [[⟨b4, two k (.slice AwK bssK.length cwK) (.slice AwJ bssJ.length cwJ), 99⟩]], [[⟨b5, two k (.slice AxK eK.out.length cxK) (.slice AxJ eJ.out.length cxJ), 100⟩]], [[⟨b6, two k (.slice ArK (eK.inn.take eK.read).length crK) (.slice ArJ (eJ.inn.take eJ.read).length crJ), 100⟩]], [EwK], [EwJ], [ExK], [ExJ], [ErK], [ErJ], EnL pK eK ovK ivK atK EoK EiK [], EnL pJ eJ ovJ ivJ atJ EoJ EiJ [], Ds] (L) [11, 0, 1, 2, 3, 4, 5, 6, 7, 8, 9, 10, 12, 13] (by kernel_rfl)) ?_
              refine St.call [_] rfl (by kernel_rfl) rfl (close18_spec w0 _ pK _ _ _ _ _ _ heK) (fun _ _ _ _ h => h.nil) ?_
              rintro r22 L1 ⟨rfl, ov2, iv2, at2, Eo2, Ei2, hB2, rfl⟩
              have hck := close_keeps eK
              refine St.perm ([⟨b9, [.int .i64 kind, .int .i64 who, .int .i64 idx, .slice Ad data.length cd], 102⟩] :: [⟨b3, two k (.pointer (some ⟨pK, 0, none⟩)) (.pointer (some ⟨pJ, 0, none⟩)), 80⟩] :: [⟨b4, two k (.slice AwK bssK.length cwK) (.slice AwJ bssJ.length cwJ), 99⟩] :: [⟨b5, two k (.slice AxK eK.out.length cxK) (.slice AxJ eJ.out.length cxJ), 100⟩] :: [⟨b6, two k (.slice ArK (eK.inn.take eK.read).length crK) (.slice ArJ (eJ.inn.take eJ.read).length crJ), 100⟩] :: EwK :: EwJ :: ExK :: ExJ :: ErK :: ErJ :: EnL pK eK.close.1 ov2 iv2 at2 Eo2 Ei2 (EnL pJ eJ ovJ ivJ atJ EoJ EiJ (Ds ++ (L)))) (perm_idx [EnL pK eK.close.1 ov2 iv2 at2 Eo2 Ei2 [], [[⟨b9, [.int .i64 kind, .int .i64 who, .int .i64 idx, .slice Ad data.length cd], 102⟩]], [[⟨b3, two k (.pointer (some ⟨pK, 0, none⟩)) (.pointer (some ⟨pJ, 0, none⟩)), 80⟩]], [[⟨b4, two k (.slice AwK bssK.length cwK) (.slice AwJ bssJ.length cwJ), 99⟩]], [[⟨b5, two k (.slice AxK eK.out.length cxK) (.slice AxJ eJ.out.length cxJ), 100⟩]], [[⟨b6, two k (.slice ArK (eK.inn.take eK.read).length crK) (.slice ArJ (eJ.inn.take eJ.read).length crJ), 100⟩]], [EwK], [EwJ], [ExK], [ExJ], [ErK], [ErJ], EnL pJ eJ ovJ ivJ atJ EoJ EiJ [], Ds] (L) [1, 2, 3, 4, 5, 6, 7, 8, 9, 10, 11, 0, 12, 13] (by kernel_rfl)) ?_
              refine St.done ?_
              refine SX.blk ?_
              exact SX.some (Sid.mk pK eK.close.1 ov2 iv2 at2 Eo2 Ei2 (.slice AwK bssK.length cwK) vsK bssK EwK (.slice AxK eK.out.length cxK) ExK (.slice ArK (eK.inn.take eK.read).length crK) ErK, Sid.mk pJ eJ ovJ ivJ atJ EoJ EiJ (.slice AwJ bssJ.length cwJ) vsJ bssJ EwJ (.slice AxJ eJ.out.length cxJ) ExJ (.slice ArJ (eJ.inn.take eJ.read).length crJ) ErJ, now, Ds) ⟨(hb.same hB2 hck.1 hck.2.1 (by rw [hck.2.2.1]; exact hb.k.pre) (by rw [hck.2.2.1, hck.2.2.2])).mono (fun _ h => h) (by omega), hn0, by simp only; omega⟩ ⟨rfl, rfl, rfl, rfl, rfl, rfl, rfl, rfl, trivial⟩ (List.Perm.refl _)
            · refine SC.seq ?_
              refine SC.plain ?_
              refine St.eql rfl rfl rfl ?_
              refine St.assign rfl rfl ?_
              refine St.done ?_
              refine SX.seq ?_
              refine SC.condp rfl (fun c97 => ?_) (fun c97 => ?_)
              · refine SC.drawn [(0, true), (1, true), (2, true), (3, true), (4, true), (5, true), (6, true), (7, true), (8, true), (9, true), (10, true), (11, false)] [12, 13, 14] ([[⟨b3, two k (.pointer (some ⟨pK, 0, none⟩)) (.pointer (some ⟨pJ, 0, none⟩)), 80⟩], [⟨b4, two k (.slice AwK bssK.length cwK) (.slice AwJ bssJ.length cwJ), 99⟩]]) (by kernel_rfl) (by kernel_rfl) (fun w hw => hw.sub (sub_flat (.cons _ (.cons_cons _ (.cons_cons _ (List.nil_sublist _)))))) ?_
                refine St.move rfl rfl ?_
                first | refine St.subN (a := 1) rfl rfl rfl (by omega) (by omega) ?_ | refine St.subI rfl rfl rfl (by omega) ?_
                refine St.move rfl rfl ?_
                first | refine St.subN (a := 1) rfl rfl rfl (by omega) (by omega) ?_ | refine St.subI rfl rfl rfl (by omega) ?_
                refine St.indexArr (n := 2) (sz := 1) rfl rfl rfl (by kernel_rfl) (by omega) ?_
                refine St.load rfl rfl (by kernel_rfl) (Holds.row mem1 (two_oth hk _ _)) ?_
                refine St.move rfl rfl ?_
                refine St.move rfl rfl ?_
                refine St.indexSl (e := 80) (sz := 1) rfl rfl rfl (by kernel_rfl) (by omega) ?_
                refine St.load rfl rfl (by kernel_rfl) (Holds.row mem0 (two_get hk _ _)) ?_
                refine St.move rfl rfl ?_
                refine St.perm (EnL pK eK ovK ivK atK EoK EiK ([⟨b9, [.int .i64 kind, .int .i64 who, .int .i64 idx, .slice Ad data.length cd], 102⟩] :: [⟨b3, two k (.pointer (some ⟨pK, 0, none⟩)) (.pointer (some ⟨pJ, 0, none⟩)), 80⟩] :: [⟨b4, two k (.slice AwK bssK.length cwK) (.slice AwJ bssJ.length cwJ), 99⟩] :: [⟨b5, two k (.slice AxK eK.out.length cxK) (.slice AxJ eJ.out.length cxJ), 100⟩] :: [⟨b6, two k (.slice ArK (eK.inn.take eK.read).length crK) (.slice ArJ (eJ.inn.take eJ.read).length crJ), 100⟩] :: EwK :: EwJ :: ExK :: ExJ :: ErK :: ErJ :: EnL pJ eJ ovJ ivJ atJ EoJ EiJ (Ds ++ (L)))) (perm_idx [[[⟨b9, [.int .i64 kind, .int .i64 who, .int .i64 idx, .slice Ad data.length cd], 102⟩]], [[⟨b3, two k (.pointer (some ⟨pK, 0, none⟩)) (.pointer (some ⟨pJ, 0, none⟩)), 80⟩]], [[⟨b4, two k (.slice AwK bssK.length cwK) (.slice AwJ bssJ.length cwJ), 99⟩]], [[⟨b5, two k (.slice AxK eK.out.length cxK) (.slice AxJ eJ.out.length cxJ), 100⟩]], [[⟨b6, two k (.slice ArK (eK.inn.take eK.read).length crK) (.slice ArJ (eJ.inn.take eJ.read).length crJ), 100⟩]], [EwK], [EwJ], [ExK], [ExJ], [ErK], [ErJ], EnL pK eK ovK ivK atK EoK EiK [], EnL pJ eJ ovJ ivJ atJ EoJ EiJ [], Ds] (L) [11, 0, 1, 2, 3, 4, 5, 6, 7, 8, 9, 10, 12, 13] (by kernel_rfl)) ?_
                refine St.call [_, _] rfl (by kernel_rfl) rfl (out18_spec w0 _ pK _ _ _ _ _ _ heK now hcl) (by rintro _ _ w ⟨vs, Eb, Es, ov2, iv2, at2, Eo2, Ei2, _, _, _, rfl⟩ hw; exact hw.sub (sub_flat (.cons _ (.cons _ (.cons _ (.cons _ (List.Sublist.trans (.cons _ (.cons_cons _ (.cons_cons _ (List.nil_sublist _)))) (List.sublist_append_right _ _)))))))) ?_
                rintro r24 L1 ⟨vs, Eb, Es, ov2, iv2, at2, Eo2, Ei2, hbb, hos, hB2, rfl⟩
                have hfew := outp_few13 eK now
                have hq := hbb.read
                obtain ⟨bb, ob, Ab, cb, rfl, hAb, hhb⟩ := hq
                refine St.done ?_
                refine SX.tail ?_
                refine St.perm (EwJ :: Eb :: [⟨b9, [.int .i64 kind, .int .i64 who, .int .i64 idx, .slice Ad data.length cd], 102⟩] :: [⟨b3, two k (.pointer (some ⟨pK, 0, none⟩)) (.pointer (some ⟨pJ, 0, none⟩)), 80⟩] :: [⟨b4, two k (.slice AwK bssK.length cwK) (.slice AwJ bssJ.length cwJ), 99⟩] :: [⟨b5, two k (.slice AxK eK.out.length cxK) (.slice AxJ eJ.out.length cxJ), 100⟩] :: [⟨b6, two k (.slice ArK (eK.inn.take eK.read).length crK) (.slice ArJ (eJ.inn.take eJ.read).length crJ), 100⟩] :: EwK :: ExK :: ExJ :: ErK :: ErJ :: EnL pK (eK.outp now).1 ov2 iv2 at2 Eo2 Ei2 (EnL pJ eJ ovJ ivJ atJ EoJ EiJ (Es ++ (Ds ++ (L))))) (perm_idx [EnL pK (eK.outp now).1 ov2 iv2 at2 Eo2 Ei2 [], [Eb], Es, [[⟨b9, [.int .i64 kind, .int .i64 who, .int .i64 idx, .slice Ad data.length cd], 102⟩]], [[⟨b3, two k (.pointer (some ⟨pK, 0, none⟩)) (.pointer (some ⟨pJ, 0, none⟩)), 80⟩]], [[⟨b4, two k (.slice AwK bssK.length cwK) (.slice AwJ bssJ.length cwJ), 99⟩]], [[⟨b5, two k (.slice AxK eK.out.length cxK) (.slice AxJ eJ.out.length cxJ), 100⟩]], [[⟨b6, two k (.slice ArK (eK.inn.take eK.read).length crK) (.slice ArJ (eJ.inn.take eJ.read).length crJ), 100⟩]], [EwK], [EwJ], [ExK], [ExJ], [ErK], [ErJ], EnL pJ eJ ovJ ivJ atJ EoJ EiJ [], Ds] (L) [9, 1, 3, 4, 5, 6, 7, 8, 10, 11, 12, 13, 0, 14, 2, 15] (by kernel_rfl)) ?_
                refine St.append (e := 35) (sz := 1) (bytes := 24) (xs := vsJ) (n := bssJ.length) (news := vs) (m := (eK.outp now).2.length) rfl rfl rfl (by kernel_rfl) hwJ (hbb.rd (by simp)) hos.one (by omega) (by omega) (fun _ _ h => h.nil) (fun wv2 Ew2 hw2 _ => ?_)
                have hq := hw2.read
                obtain ⟨bw2, ow2, Aw2, cw2, rfl, hAw2, hhw2⟩ := hq
                have hl3 : bssJ.length + (eK.outp now).2.length = (bssJ ++ (eK.outp now).2).length := List.length_append.symm
                rw [hl3] at hw2
                rw [hl3]
                refine St.indexArr (n := 2) (sz := 1) rfl rfl rfl (by kernel_rfl) (by omega) ?_
                refine St.store4 rfl rfl rfl rfl (by kernel_rfl) (by rw [two_len]; omega) (fun _ h => h.nil) ?_
                rw [two_put hk]
                refine St.done ?_
                refine SX.blk ?_
                refine SX.weak (Ew2 :: [⟨b9, [.int .i64 kind, .int .i64 who, .int .i64 idx, .slice Ad data.length cd], 102⟩] :: [⟨b3, two k (.pointer (some ⟨pK, 0, none⟩)) (.pointer (some ⟨pJ, 0, none⟩)), 80⟩] :: [⟨b4, two k (.slice AwK bssK.length cwK) (.slice Aw2 (bssJ ++ (eK.outp now).2).length cw2), 99⟩] :: [⟨b5, two k (.slice AxK eK.out.length cxK) (.slice AxJ eJ.out.length cxJ), 100⟩] :: [⟨b6, two k (.slice ArK (eK.inn.take eK.read).length crK) (.slice ArJ (eJ.inn.take eJ.read).length crJ), 100⟩] :: EwK :: ExK :: ExJ :: ErK :: ErJ :: EnL pK (eK.outp now).1 ov2 iv2 at2 Eo2 Ei2 (EnL pJ eJ ovJ ivJ atJ EoJ EiJ (Es ++ (Ds ++ (L))))) (.cons_cons _ (.cons _ (List.Sublist.refl _))) ?_
                refine SX.some (Sid.mk pK (eK.outp now).1 ov2 iv2 at2 Eo2 Ei2 (.slice AwK bssK.length cwK) vsK bssK EwK (.slice AxK eK.out.length cxK) ExK (.slice ArK (eK.inn.take eK.read).length crK) ErK, Sid.mk pJ eJ ovJ ivJ atJ EoJ EiJ (.slice Aw2 (bssJ ++ (eK.outp now).2).length cw2) (vsJ ++ vs) (bssJ ++ (eK.outp now).2) Ew2 (.slice AxJ eJ.out.length cxJ) ExJ (.slice ArJ (eJ.inn.take eJ.read).length crJ) ErJ, now, Es ++ Ds) ⟨(hb.out hcl hB2 hos (by rw [← List.length_append]; exact hw2) hfew).mono (fun _ h => h) (by omega), hn0, by simp only; omega⟩ ⟨rfl, rfl, rfl, rfl, rfl, rfl, rfl, rfl, trivial⟩ ?_
                show List.Perm _ (_ :: ordL b3 b4 b5 b6 k _ _ ((Es ++ Ds) ++ L)).flatten
                rw [List.append_assoc]
                exact (perm_idx [[Ew2], [[⟨b9, [.int .i64 kind, .int .i64 who, .int .i64 idx, .slice Ad data.length cd], 102⟩]], [[⟨b3, two k (.pointer (some ⟨pK, 0, none⟩)) (.pointer (some ⟨pJ, 0, none⟩)), 80⟩]], [[⟨b4, two k (.slice AwK bssK.length cwK) (.slice Aw2 (bssJ ++ (eK.outp now).2).length cw2), 99⟩]], [[⟨b5, two k (.slice AxK eK.out.length cxK) (.slice AxJ eJ.out.length cxJ), 100⟩]], [[⟨b6, two k (.slice ArK (eK.inn.take eK.read).length crK) (.slice ArJ (eJ.inn.take eJ.read).length crJ), 100⟩]], [EwK], [ExK], [ExJ], [ErK], [ErJ], EnL pK (eK.outp now).1 ov2 iv2 at2 Eo2 Ei2 [], EnL pJ eJ ovJ ivJ atJ EoJ EiJ [], Es, Ds] (L) [1, 2, 3, 4, 5, 6, 0, 7, 8, 9, 10, 11, 12, 13, 14] (by kernel_rfl))
              · refine SC.join (α := Bool) (fun b => b = true ↔ (kind = 4 ∨ kind = 5 ∨ kind = 6)) (fun b => [(0, .slice (some ⟨bs, os, none⟩) ops.length cs), (3, .slice (some ⟨b3, 0, none⟩) 2 2), (4, .pointer (some ⟨b4, 0, none⟩)), (5, .pointer (some ⟨b5, 0, none⟩)), (6, .pointer (some ⟨b6, 0, none⟩)), (7, .int .i64 now), (8, .int .i64 ((i : Nat) : Int)), (9, .pointer (some ⟨b9, 0, none⟩)), (10, .int .i64 ((k : Nat) : Int)), (11, .int .i64 ((n : Nat) : Int)), (66, .int .i64 kind), (113, .bool b)]) (fun _ => [⟨b9, [.int .i64 kind, .int .i64 who, .int .i64 idx, .slice Ad data.length cd], 102⟩] :: [⟨b3, two k (.pointer (some ⟨pK, 0, none⟩)) (.pointer (some ⟨pJ, 0, none⟩)), 80⟩] :: [⟨b4, two k (.slice AwK bssK.length cwK) (.slice AwJ bssJ.length cwJ), 99⟩] :: [⟨b5, two k (.slice AxK eK.out.length cxK) (.slice AxJ eJ.out.length cxJ), 100⟩] :: [⟨b6, two k (.slice ArK (eK.inn.take eK.read).length crK) (.slice ArJ (eJ.inn.take eJ.read).length crJ), 100⟩] :: EwK :: EwJ :: ExK :: ExJ :: ErK :: ErJ :: EnL pK eK ovK ivK atK EoK EiK (EnL pJ eJ ovJ ivJ atJ EoJ EiJ (Ds ++ (L)))) ?_ ?_
                · intro bk hbk
                  refine SC.cond rfl (fun c113 => ?_) (fun c113 => ?_)
                  · refine SC.seq ?_
                    refine SC.seq ?_
                    refine SC.plain ?_
                    refine St.move rfl rfl ?_
                    refine St.indexArr (n := 2) (sz := 1) rfl rfl rfl (by kernel_rfl) (by omega) ?_
                    refine St.load rfl rfl (by kernel_rfl) (Holds.row mem2 (two_get hk _ _)) ?_
                    refine St.lenSl rfl rfl (by kernel_rfl) ?_
                    refine St.eql rfl rfl rfl ?_
                    refine St.done ?_
                    refine SX.seq ?_
                    refine SC.condp rfl (fun c121 => ?_) (fun c121 => ?_)
                    · refine SC.exit ?_
                      refine SX.seq_exit ?_
                      refine SX.miss rfl ?_
                      refine SX.seq_exit ?_
                      refine SX.hit ?_
                      refine SX.seq ?_
                      refine SC.plain ?_
                      refine St.move rfl rfl ?_
                      first | refine St.addN (b := 1) rfl rfl rfl (by omega) ?_ | refine St.addI rfl rfl rfl (by omega) ?_
                      refine St.assign rfl rfl ?_
                      refine St.done ?_
                      refine SX.weak ([⟨b3, two k (.pointer (some ⟨pK, 0, none⟩)) (.pointer (some ⟨pJ, 0, none⟩)), 80⟩] :: [⟨b4, two k (.slice AwK bssK.length cwK) (.slice AwJ bssJ.length cwJ), 99⟩] :: [⟨b5, two k (.slice AxK eK.out.length cxK) (.slice AxJ eJ.out.length cxJ), 100⟩] :: [⟨b6, two k (.slice ArK (eK.inn.take eK.read).length crK) (.slice ArJ (eJ.inn.take eJ.read).length crJ), 100⟩] :: EwK :: EwJ :: ExK :: ExJ :: ErK :: ErJ :: EnL pK eK ovK ivK atK EoK EiK (EnL pJ eJ ovJ ivJ atJ EoJ EiJ (Ds ++ (L)))) (.cons _ (List.Sublist.refl _)) ?_
                      refine SX.again (i + 1, now, sel k (Sid.mk pK eK ovK ivK atK EoK EiK (.slice AwK bssK.length cwK) vsK bssK EwK (.slice AxK eK.out.length cxK) ExK (.slice ArK (eK.inn.take eK.read).length crK) ErK) (Sid.mk pJ eJ ovJ ivJ atJ EoJ EiJ (.slice AwJ bssJ.length cwJ) vsJ bssJ EwJ (.slice AxJ eJ.out.length cxJ) ExJ (.slice ArJ (eJ.inn.take eJ.read).length crJ) ErJ), sel k (Sid.mk pJ eJ ovJ ivJ atJ EoJ EiJ (.slice AwJ bssJ.length cwJ) vsJ bssJ EwJ (.slice AxJ eJ.out.length cxJ) ExJ (.slice ArJ (eJ.inn.take eJ.read).length crJ) ErJ) (Sid.mk pK eK ovK ivK atK EoK EiK (.slice AwK bssK.length cwK) vsK bssK EwK (.slice AxK eK.out.length cxK) ExK (.slice ArK (eK.inn.take eK.read).length crK) ErK), Ds) ⟨by simp only; omega, by simp only; omega, by simp only; omega, by simp only; omega, (hb.mono (fun _ h => h) (by simp only; omega)).sel k⟩ (by simp only; omega) ⟨rfl, rfl, rfl, rfl, rfl, rfl, rfl, trivial⟩ ?_
                      exact ordL_sel hk (Sid.mk pK eK ovK ivK atK EoK EiK (.slice AwK bssK.length cwK) vsK bssK EwK (.slice AxK eK.out.length cxK) ExK (.slice ArK (eK.inn.take eK.read).length crK) ErK) (Sid.mk pJ eJ ovJ ivJ atJ EoJ EiJ (.slice AwJ bssJ.length cwJ) vsJ bssJ EwJ (.slice AxJ eJ.out.length cxJ) ExJ (.slice ArJ (eJ.inn.take eJ.read).length crJ) ErJ) (Ds ++ L)
                    · have hnl := hn (by omega)
                      obtain ⟨v0, s0, E, hv0, hs0, hEm, hEb⟩ := hyK.get hnl
                      have hsm : s0 ∈ bssK := List.mem_of_getElem? hs0
                      have hfs := hb.k.from_ s0 hsm
                      have hsl := hfs.len
                      have hAwe := hAwK (by omega)
                      subst hAwe
                      have hq := hEb.read
                      obtain ⟨bv, ov_, Av, cv, rfl, _, _⟩ := hq
                      refine SC.skip ?_
                      refine SX.seq ?_
                      refine SC.seq ?_
                      refine SC.plain ?_
                      refine St.move rfl rfl ?_
                      refine St.indexArr (n := 2) (sz := 1) rfl rfl rfl (by kernel_rfl) (by omega) ?_
                      refine St.load rfl rfl (by kernel_rfl) (Holds.row mem2 (two_get hk _ _)) ?_
                      refine St.move rfl rfl ?_
                      refine St.indexSl (e := 35) (sz := 1) rfl rfl rfl (by kernel_rfl) (by omega) ?_
                      refine St.load rfl rfl (by kernel_rfl) (fun w hw => by have := hhwK w0 [EwK] (by simp) w (hw.sub (sub_flat (.cons _ (.cons _ (.cons _ (.cons _ (.cons _ (.cons_cons _ (List.nil_sublist _))))))))) n _ hv0; simpa using this) ?_
                      refine St.assign rfl rfl ?_
                      refine St.done ?_
                      refine SX.seq ?_
                      refine SC.join (α := En × Value × Value × Int × Chunk × Chunk) (fun s => Both Ds (14 * i) (Sid.mk pK s.1 s.2.1 s.2.2.1 s.2.2.2.1 s.2.2.2.2.1 s.2.2.2.2.2 (.slice (some ⟨bwK, owK, none⟩) bssK.length cwK) vsK bssK EwK (.slice AxK eK.out.length cxK) ExK (.slice ArK (eK.inn.take eK.read).length crK) ErK) (Sid.mk pJ eJ ovJ ivJ atJ EoJ EiJ (.slice AwJ bssJ.length cwJ) vsJ bssJ EwJ (.slice AxJ eJ.out.length cxJ) ExJ (.slice ArJ (eJ.inn.take eJ.read).length crJ) ErJ)) (fun s => [(0, .slice (some ⟨bs, os, none⟩) ops.length cs), (3, .slice (some ⟨b3, 0, none⟩) 2 2), (4, .pointer (some ⟨b4, 0, none⟩)), (5, .pointer (some ⟨b5, 0, none⟩)), (6, .pointer (some ⟨b6, 0, none⟩)), (7, .int .i64 now), (8, .int .i64 ((i : Nat) : Int)), (9, .pointer (some ⟨b9, 0, none⟩)), (10, .int .i64 ((k : Nat) : Int)), (11, .int .i64 ((n : Nat) : Int)), (12, .slice Av s0.length cv)]) (fun s => [⟨b9, [.int .i64 kind, .int .i64 who, .int .i64 idx, .slice Ad data.length cd], 102⟩] :: [⟨b3, two k (.pointer (some ⟨pK, 0, none⟩)) (.pointer (some ⟨pJ, 0, none⟩)), 80⟩] :: [⟨b4, two k (.slice (some ⟨bwK, owK, none⟩) bssK.length cwK) (.slice AwJ bssJ.length cwJ), 99⟩] :: [⟨b5, two k (.slice AxK eK.out.length cxK) (.slice AxJ eJ.out.length cxJ), 100⟩] :: [⟨b6, two k (.slice ArK (eK.inn.take eK.read).length crK) (.slice ArJ (eJ.inn.take eJ.read).length crJ), 100⟩] :: EwK :: EwJ :: ExK :: ExJ :: ErK :: ErJ :: EnL pK s.1 s.2.1 s.2.2.1 s.2.2.2.1 s.2.2.2.2.1 s.2.2.2.2.2 (EnL pJ eJ ovJ ivJ atJ EoJ EiJ (Ds ++ (L)))) ?_ ?_
                      · rintro ⟨e4, ov4, iv4, at4, Eo4, Ei4⟩ hb4
                        simp only at hb4 ⊢
                        refine SC.seq ?_
                        refine SC.plain ?_
                        refine St.fieldAddr (off := 0) rfl rfl (by kernel_rfl) ?_
                        refine St.load rfl rfl (by kernel_rfl) (by first | exact Holds.row mem0 rfl | exact Holds.row mem1 rfl | exact Holds.row mem2 rfl | exact Holds.row mem3 rfl | exact Holds.row mem4 rfl | exact Holds.row mem5 rfl | exact Holds.row mem6 rfl | exact Holds.row mem7 rfl | exact Holds.row mem8 rfl) ?_
                        refine St.eql rfl rfl rfl ?_
                        refine St.done ?_
                        refine SX.seq ?_
                        refine SC.condp rfl (fun c140 => ?_) (fun c140 => ?_)
                        · refine SC.plain ?_
                          refine St.move rfl rfl ?_
                          refine St.move rfl rfl ?_
                          refine St.indexArr (n := 2) (sz := 1) rfl rfl rfl (by kernel_rfl) (by omega) ?_
                          refine St.load rfl rfl (by kernel_rfl) (Holds.row mem2 (two_get hk _ _)) ?_
                          refine St.move rfl rfl ?_
                          refine St.buildSl (e := 35) [(0, .slice Av s0.length cv)] [.slice Av s0.length cv] rfl rfl (by kernel_rfl) (fun _ _ h => h.nil) (fun bn => ?_)
                          refine St.perm (EwK :: [⟨bn, [.slice Av s0.length cv], 35⟩] :: [⟨b9, [.int .i64 kind, .int .i64 who, .int .i64 idx, .slice Ad data.length cd], 102⟩] :: [⟨b3, two k (.pointer (some ⟨pK, 0, none⟩)) (.pointer (some ⟨pJ, 0, none⟩)), 80⟩] :: [⟨b4, two k (.slice (some ⟨bwK, owK, none⟩) bssK.length cwK) (.slice AwJ bssJ.length cwJ), 99⟩] :: [⟨b5, two k (.slice AxK eK.out.length cxK) (.slice AxJ eJ.out.length cxJ), 100⟩] :: [⟨b6, two k (.slice ArK (eK.inn.take eK.read).length crK) (.slice ArJ (eJ.inn.take eJ.read).length crJ), 100⟩] :: EwJ :: ExK :: ExJ :: ErK :: ErJ :: EnL pK e4 ov4 iv4 at4 Eo4 Ei4 (EnL pJ eJ ovJ ivJ atJ EoJ EiJ (Ds ++ (L)))) (perm_idx [[[⟨bn, [.slice Av s0.length cv], 35⟩]], [[⟨b9, [.int .i64 kind, .int .i64 who, .int .i64 idx, .slice Ad data.length cd], 102⟩]], [[⟨b3, two k (.pointer (some ⟨pK, 0, none⟩)) (.pointer (some ⟨pJ, 0, none⟩)), 80⟩]], [[⟨b4, two k (.slice (some ⟨bwK, owK, none⟩) bssK.length cwK) (.slice AwJ bssJ.length cwJ), 99⟩]], [[⟨b5, two k (.slice AxK eK.out.length cxK) (.slice AxJ eJ.out.length cxJ), 100⟩]], [[⟨b6, two k (.slice ArK (eK.inn.take eK.read).length crK) (.slice ArJ (eJ.inn.take eJ.read).length crJ), 100⟩]], [EwK], [EwJ], [ExK], [ExJ], [ErK], [ErJ], EnL pK e4 ov4 iv4 at4 Eo4 Ei4 [], EnL pJ eJ ovJ ivJ atJ EoJ EiJ [], Ds] (L) [6, 0, 1, 2, 3, 4, 5, 7, 8, 9, 10, 11, 12, 13, 14] (by kernel_rfl)) ?_
                          refine St.append (e := 35) (sz := 1) (bytes := 24) (xs := vsK) (n := bssK.length) (news := [.slice Av s0.length cv]) (m := 1) rfl rfl rfl (by kernel_rfl) hwK (Rd.row (e := 35) rfl mem1) (by simp [one]) (by omega) (by omega) (fun _ _ h => h.nil) (fun wv2 Ew2 hw2 _ => ?_)
                          have hq := hw2.read
                          obtain ⟨bw2, ow2, Aw2, cw2, rfl, hAw2, hhw2⟩ := hq
                          have hl2 : bssK.length + 1 = (bssK ++ [s0]).length := by simp
                          rw [hl2] at hw2
                          rw [hl2]
                          refine St.indexArr (n := 2) (sz := 1) rfl rfl rfl (by kernel_rfl) (by omega) ?_
                          refine St.store4 rfl rfl rfl rfl (by kernel_rfl) (by rw [two_len]; omega) (fun _ h => h.nil) ?_
                          rw [two_set hk]
                          refine St.done ?_
                          refine SX.blk ?_
                          refine SX.weak (Ew2 :: [⟨b9, [.int .i64 kind, .int .i64 who, .int .i64 idx, .slice Ad data.length cd], 102⟩] :: [⟨b3, two k (.pointer (some ⟨pK, 0, none⟩)) (.pointer (some ⟨pJ, 0, none⟩)), 80⟩] :: [⟨b4, two k (.slice Aw2 (bssK ++ [s0]).length cw2) (.slice AwJ bssJ.length cwJ), 99⟩] :: [⟨b5, two k (.slice AxK eK.out.length cxK) (.slice AxJ eJ.out.length cxJ), 100⟩] :: [⟨b6, two k (.slice ArK (eK.inn.take eK.read).length crK) (.slice ArJ (eJ.inn.take eJ.read).length crJ), 100⟩] :: EwJ :: ExK :: ExJ :: ErK :: ErJ :: EnL pK e4 ov4 iv4 at4 Eo4 Ei4 (EnL pJ eJ ovJ ivJ atJ EoJ EiJ (Ds ++ (L)))) (.cons_cons _ (.cons _ (List.Sublist.refl _))) ?_
                          refine SX.perm ([⟨b9, [.int .i64 kind, .int .i64 who, .int .i64 idx, .slice Ad data.length cd], 102⟩] :: [⟨b3, two k (.pointer (some ⟨pK, 0, none⟩)) (.pointer (some ⟨pJ, 0, none⟩)), 80⟩] :: [⟨b4, two k (.slice Aw2 (bssK ++ [s0]).length cw2) (.slice AwJ bssJ.length cwJ), 99⟩] :: [⟨b5, two k (.slice AxK eK.out.length cxK) (.slice AxJ eJ.out.length cxJ), 100⟩] :: [⟨b6, two k (.slice ArK (eK.inn.take eK.read).length crK) (.slice ArJ (eJ.inn.take eJ.read).length crJ), 100⟩] :: Ew2 :: EwJ :: ExK :: ExJ :: ErK :: ErJ :: EnL pK e4 ov4 iv4 at4 Eo4 Ei4 (EnL pJ eJ ovJ ivJ atJ EoJ EiJ (Ds ++ (L)))) (perm_idx [[Ew2], [[⟨b9, [.int .i64 kind, .int .i64 who, .int .i64 idx, .slice Ad data.length cd], 102⟩]], [[⟨b3, two k (.pointer (some ⟨pK, 0, none⟩)) (.pointer (some ⟨pJ, 0, none⟩)), 80⟩]], [[⟨b4, two k (.slice Aw2 (bssK ++ [s0]).length cw2) (.slice AwJ bssJ.length cwJ), 99⟩]], [[⟨b5, two k (.slice AxK eK.out.length cxK) (.slice AxJ eJ.out.length cxJ), 100⟩]], [[⟨b6, two k (.slice ArK (eK.inn.take eK.read).length crK) (.slice ArJ (eJ.inn.take eJ.read).length crJ), 100⟩]], [EwJ], [ExK], [ExJ], [ErK], [ErJ], EnL pK e4 ov4 iv4 at4 Eo4 Ei4 [], EnL pJ eJ ovJ ivJ atJ EoJ EiJ [], Ds] (L) [1, 2, 3, 4, 5, 0, 6, 7, 8, 9, 10, 11, 12, 13] (by kernel_rfl)) ?_
                          exact SX.some (Sid.mk pK e4 ov4 iv4 at4 Eo4 Ei4 (.slice Aw2 (bssK ++ [s0]).length cw2) (vsK ++ [.slice Av s0.length cv]) (bssK ++ [s0]) Ew2 (.slice AxK eK.out.length cxK) ExK (.slice ArK (eK.inn.take eK.read).length crK) ErK, Sid.mk pJ eJ ovJ ivJ atJ EoJ EiJ (.slice AwJ bssJ.length cwJ) vsJ bssJ EwJ (.slice AxJ eJ.out.length cxJ) ExJ (.slice ArJ (eJ.inn.take eJ.read).length crJ) ErJ, now, Ds) ⟨(hb4.mono (fun _ h => h) (by omega : 14 * i ≤ 14 * i + 13)).way hw2 (hyK.app (vs' := [.slice Av s0.length cv]) (bss' := [s0]) ⟨rfl, fun j v bs hv hbs => by cases j with | zero => simp only [List.getElem?_cons_zero, Option.some.injEq] at hv hbs; subst hv hbs; exact ⟨E, hEm, hEb⟩ | succ j => simp at hv⟩) (by intro t ht; rcases List.mem_append.1 ht with ht | ht; exact ht; rcases List.mem_singleton.1 ht with rfl; exact hsm) (by simp only [List.length_append, List.length_singleton]; omega), hn0, by simp only; omega⟩ ⟨rfl, rfl, rfl, rfl, rfl, rfl, rfl, rfl, trivial⟩ (List.Perm.refl _)
                        · refine SC.drawn [(0, true), (2, true), (3, true), (4, true), (5, true), (6, true), (8, true), (9, true), (10, true), (11, true), (12, true), (13, true), (1, false), (7, false)] [14, 15, 16] ([[⟨b4, two k (.slice (some ⟨bwK, owK, none⟩) bssK.length cwK) (.slice AwJ bssJ.length cwJ), 99⟩]]) (by kernel_rfl) (by kernel_rfl) (fun w hw => hw.sub (sub_flat (.cons _ (.cons _ (.cons_cons _ (List.nil_sublist _)))))) ?_
                          refine St.move rfl rfl ?_
                          refine St.move rfl rfl ?_
                          refine St.indexArr (n := 2) (sz := 1) rfl rfl rfl (by kernel_rfl) (by omega) ?_
                          refine St.load rfl rfl (by kernel_rfl) (Holds.row mem0 (two_get hk _ _)) ?_
                          refine St.move rfl rfl ?_
                          refine St.cutV (e := 35) (L1 := [EwK]) (xs := vsK) 0 n rfl rfl (by kernel_rfl) (by rw [hyK.1]; exact hwK.rd (by simp)) hwK.cap rfl ⟨_, _, rfl, rfl⟩ (by omega) (by rw [hyK.1]; omega) (fun cv1 hc1 _ => ?_)
                          rw [List.drop_zero, Nat.sub_zero] at hc1
                          obtain ⟨hl1, bc1, oc1, Ac1, cc1, rfl, hAc1, hhc1⟩ := id hc1
                          refine St.move rfl rfl ?_
                          refine St.indexArr (n := 2) (sz := 1) rfl rfl rfl (by kernel_rfl) (by omega) ?_
                          refine St.load rfl rfl (by kernel_rfl) (Holds.row mem0 (two_get hk _ _)) ?_
                          refine St.move rfl rfl ?_
                          first | refine St.addN (b := 1) rfl rfl rfl (by omega) ?_ | refine St.addI rfl rfl rfl (by omega) ?_
                          refine St.cutV (e := 35) (L1 := [EwK]) (xs := vsK) (n + 1) vsK.length rfl rfl (by kernel_rfl) (by rw [hyK.1]; exact hwK.rd (by simp)) hwK.cap ⟨_, _, rfl, rfl⟩ (by show vsK.length = vsK.length; rfl) (by rw [hyK.1]; omega) (Nat.le_refl _) (fun cv2 hc2 _ => ?_)
                          rw [List.take_of_length_le (by rw [List.length_drop]; omega)] at hc2
                          refine St.buildSl0 (e := 35) (sz := 1) rfl (by kernel_rfl) (by intro bz w hw; exact hw.sub (sub_flat (.cons _ (.cons _ (.cons _ (.cons_cons _ (List.nil_sublist _))))))) (fun bz => ?_)
                          refine St.append (e := 35) (sz := 1) (bytes := 24) (xs := []) (n := 0) (news := vsK.take n) (m := (vsK.take n).length) rfl rfl rfl (by kernel_rfl) (Buf.whole rfl) (Rd.mono hc1 (fun w hw => hw.sub (sub_flat (.cons _ (.cons _ (.cons _ (.cons _ (.cons _ (.cons _ (.cons_cons _ (List.nil_sublist _))))))))))) (fun c hc => hyK.one c (List.mem_of_mem_take hc)) (by rw [List.length_take, hyK.1]; omega) (by rw [List.length_take, hyK.1]; omega) (by intro Ez1 w hw; exact hw.sub (sub_flat (.cons _ (.cons _ (.cons _ (.cons_cons _ (List.nil_sublist _))))))) (fun zv1 Ez1 hz1 _ => ?_)
                          rw [List.nil_append, Nat.zero_add] at hz1
                          refine St.done ?_
                          refine SX.tail ?_
                          refine St.append (e := 35) (sz := 1) (bytes := 24) (xs := vsK.take n) (n := (vsK.take n).length) (news := vsK.drop (n + 1)) (m := (vsK.drop (n + 1)).length) rfl rfl rfl (by kernel_rfl) hz1 (Rd.mono hc2 (fun w hw => hw.sub (sub_flat (.cons _ (.cons _ (.cons _ (.cons _ (.cons _ (.cons _ (.cons_cons _ (List.nil_sublist _))))))))))) (fun c hc => hyK.one c (List.mem_of_mem_drop hc)) (by rw [List.length_take, List.length_drop, hyK.1]; omega) (by rw [List.length_take, List.length_drop, hyK.1]; omega) (fun _ _ h => h.nil) (fun wv2 Ew2 hw2 _ => ?_)
                          have hl2 : (vsK.take n).length + (vsK.drop (n + 1)).length = (bssK.take n ++ bssK.drop (n + 1)).length := by rw [List.length_append, List.length_take, List.length_take, List.length_drop, List.length_drop, hyK.1]
                          rw [hl2] at hw2
                          have hq := hw2.read
                          obtain ⟨bw2, ow2, Aw2, cw2, rfl, hAw2, hhw2⟩ := hq
                          refine St.indexArr (n := 2) (sz := 1) rfl rfl rfl (by kernel_rfl) (by omega) ?_
                          refine St.store3 rfl rfl rfl rfl (by kernel_rfl) (by rw [two_len]; omega) (fun _ h => h.nil) ?_
                          rw [two_set hk]
                          refine St.done ?_
                          refine SX.blk ?_
                          refine SX.weak (Ew2 :: [⟨b9, [.int .i64 kind, .int .i64 who, .int .i64 idx, .slice Ad data.length cd], 102⟩] :: [⟨b3, two k (.pointer (some ⟨pK, 0, none⟩)) (.pointer (some ⟨pJ, 0, none⟩)), 80⟩] :: [⟨b4, two k (.slice Aw2 (bssK.take n ++ bssK.drop (n + 1)).length cw2) (.slice AwJ bssJ.length cwJ), 99⟩] :: [⟨b5, two k (.slice AxK eK.out.length cxK) (.slice AxJ eJ.out.length cxJ), 100⟩] :: [⟨b6, two k (.slice ArK (eK.inn.take eK.read).length crK) (.slice ArJ (eJ.inn.take eJ.read).length crJ), 100⟩] :: EwJ :: ExK :: ExJ :: ErK :: ErJ :: EnL pK e4 ov4 iv4 at4 Eo4 Ei4 (EnL pJ eJ ovJ ivJ atJ EoJ EiJ (Ds ++ (L)))) (.cons_cons _ (.cons_cons _ (.cons_cons _ (.cons_cons _ (.cons_cons _ (.cons_cons _ (.cons _ (List.Sublist.refl _)))))))) ?_
                          refine SX.perm ([⟨b9, [.int .i64 kind, .int .i64 who, .int .i64 idx, .slice Ad data.length cd], 102⟩] :: [⟨b3, two k (.pointer (some ⟨pK, 0, none⟩)) (.pointer (some ⟨pJ, 0, none⟩)), 80⟩] :: [⟨b4, two k (.slice Aw2 (bssK.take n ++ bssK.drop (n + 1)).length cw2) (.slice AwJ bssJ.length cwJ), 99⟩] :: [⟨b5, two k (.slice AxK eK.out.length cxK) (.slice AxJ eJ.out.length cxJ), 100⟩] :: [⟨b6, two k (.slice ArK (eK.inn.take eK.read).length crK) (.slice ArJ (eJ.inn.take eJ.read).length crJ), 100⟩] :: Ew2 :: EwJ :: ExK :: ExJ :: ErK :: ErJ :: EnL pK e4 ov4 iv4 at4 Eo4 Ei4 (EnL pJ eJ ovJ ivJ atJ EoJ EiJ (Ds ++ (L)))) (perm_idx [[Ew2], [[⟨b9, [.int .i64 kind, .int .i64 who, .int .i64 idx, .slice Ad data.length cd], 102⟩]], [[⟨b3, two k (.pointer (some ⟨pK, 0, none⟩)) (.pointer (some ⟨pJ, 0, none⟩)), 80⟩]], [[⟨b4, two k (.slice Aw2 (bssK.take n ++ bssK.drop (n + 1)).length cw2) (.slice AwJ bssJ.length cwJ), 99⟩]], [[⟨b5, two k (.slice AxK eK.out.length cxK) (.slice AxJ eJ.out.length cxJ), 100⟩]], [[⟨b6, two k (.slice ArK (eK.inn.take eK.read).length crK) (.slice ArJ (eJ.inn.take eJ.read).length crJ), 100⟩]], [EwJ], [ExK], [ExJ], [ErK], [ErJ], EnL pK e4 ov4 iv4 at4 Eo4 Ei4 [], EnL pJ eJ ovJ ivJ atJ EoJ EiJ [], Ds] (L) [1, 2, 3, 4, 5, 0, 6, 7, 8, 9, 10, 11, 12, 13] (by kernel_rfl)) ?_
                          exact SX.some (Sid.mk pK e4 ov4 iv4 at4 Eo4 Ei4 (.slice Aw2 (bssK.take n ++ bssK.drop (n + 1)).length cw2) (vsK.take n ++ vsK.drop (n + 1)) (bssK.take n ++ bssK.drop (n + 1)) Ew2 (.slice AxK eK.out.length cxK) ExK (.slice ArK (eK.inn.take eK.read).length crK) ErK, Sid.mk pJ eJ ovJ ivJ atJ EoJ EiJ (.slice AwJ bssJ.length cwJ) vsJ bssJ EwJ (.slice AxJ eJ.out.length cxJ) ExJ (.slice ArJ (eJ.inn.take eJ.read).length crJ) ErJ, now, Ds) ⟨(hb4.mono (fun _ h => h) (by omega : 14 * i ≤ 14 * i + 13)).way hw2 ((hyK.take n).app (hyK.drop (n + 1))) (by intro t ht; rcases List.mem_append.1 ht with ht | ht; exact List.mem_of_mem_take ht; exact List.mem_of_mem_drop ht) (by rw [List.length_append, List.length_take, List.length_drop]; omega), hn0, by simp only; omega⟩ ⟨rfl, rfl, rfl, rfl, rfl, rfl, rfl, rfl, trivial⟩ (List.Perm.refl _)
                      · refine SC.seq ?_
                        refine SC.plain ?_
                        refine St.fieldAddr (off := 0) rfl rfl (by kernel_rfl) ?_
                        refine St.load rfl rfl (by kernel_rfl) (by first | exact Holds.row mem0 rfl | exact Holds.row mem1 rfl | exact Holds.row mem2 rfl | exact Holds.row mem3 rfl | exact Holds.row mem4 rfl | exact Holds.row mem5 rfl | exact Holds.row mem6 rfl | exact Holds.row mem7 rfl | exact Holds.row mem8 rfl) ?_
                        refine St.eql rfl rfl rfl ?_
                        refine St.done ?_
                        refine SX.seq ?_
                        refine SC.condp rfl (fun c130 => ?_) (fun c130 => ?_)
                        · refine SC.plain ?_
                          refine St.move rfl rfl ?_
                          refine St.move rfl rfl ?_
                          refine St.indexSl (e := 80) (sz := 1) rfl rfl rfl (by kernel_rfl) (by omega) ?_
                          refine St.load rfl rfl (by kernel_rfl) (Holds.row mem1 (two_get hk _ _)) ?_
                          refine St.move rfl rfl ?_
                          refine St.move rfl rfl ?_
                          refine St.perm (EnL pK eK ovK ivK atK EoK EiK ([⟨b9, [.int .i64 kind, .int .i64 who, .int .i64 idx, .slice Ad data.length cd], 102⟩] :: [⟨b3, two k (.pointer (some ⟨pK, 0, none⟩)) (.pointer (some ⟨pJ, 0, none⟩)), 80⟩] :: [⟨b4, two k (.slice (some ⟨bwK, owK, none⟩) bssK.length cwK) (.slice AwJ bssJ.length cwJ), 99⟩] :: [⟨b5, two k (.slice AxK eK.out.length cxK) (.slice AxJ eJ.out.length cxJ), 100⟩] :: [⟨b6, two k (.slice ArK (eK.inn.take eK.read).length crK) (.slice ArJ (eJ.inn.take eJ.read).length crJ), 100⟩] :: EwK :: EwJ :: ExK :: ExJ :: ErK :: ErJ :: EnL pJ eJ ovJ ivJ atJ EoJ EiJ (Ds ++ (L)))) (perm_idx [[[⟨b9, [.int .i64 kind, .int .i64 who, .int .i64 idx, .slice Ad data.length cd], 102⟩]], [[⟨b3, two k (.pointer (some ⟨pK, 0, none⟩)) (.pointer (some ⟨pJ, 0, none⟩)), 80⟩]], [[⟨b4, two k (.slice (some ⟨bwK, owK, none⟩) bssK.length cwK) (.slice AwJ bssJ.length cwJ), 99⟩]], [[⟨b5, two k (.slice AxK eK.out.length cxK) (.slice AxJ eJ.out.length cxJ), 100⟩]], [[⟨b6, two k (.slice ArK (eK.inn.take eK.read).length crK) (.slice ArJ (eJ.inn.take eJ.read).length crJ), 100⟩]], [EwK], [EwJ], [ExK], [ExJ], [ErK], [ErJ], EnL pK eK ovK ivK atK EoK EiK [], EnL pJ eJ ovJ ivJ atJ EoJ EiJ [], Ds] (L) [11, 0, 1, 2, 3, 4, 5, 6, 7, 8, 9, 10, 12, 13] (by kernel_rfl)) ?_
                          refine St.call [_, _, _] rfl (by kernel_rfl) rfl (in18_spec w0 _ pK _ _ _ _ _ _ heK _ s0 (hEb.rd (by simp [EnL, hEm])) hEb.cap (by omega) hfs.lt now hcl) (fun _ _ _ _ h => h.nil) ?_
                          rintro r31 L1 ⟨ov2, iv2, at2, Eo2, Ei2, hB2, rfl⟩
                          refine St.perm ([⟨b9, [.int .i64 kind, .int .i64 who, .int .i64 idx, .slice Ad data.length cd], 102⟩] :: [⟨b3, two k (.pointer (some ⟨pK, 0, none⟩)) (.pointer (some ⟨pJ, 0, none⟩)), 80⟩] :: [⟨b4, two k (.slice (some ⟨bwK, owK, none⟩) bssK.length cwK) (.slice AwJ bssJ.length cwJ), 99⟩] :: [⟨b5, two k (.slice AxK eK.out.length cxK) (.slice AxJ eJ.out.length cxJ), 100⟩] :: [⟨b6, two k (.slice ArK (eK.inn.take eK.read).length crK) (.slice ArJ (eJ.inn.take eJ.read).length crJ), 100⟩] :: EwK :: EwJ :: ExK :: ExJ :: ErK :: ErJ :: EnL pK (eK.inp s0 now) ov2 iv2 at2 Eo2 Ei2 (EnL pJ eJ ovJ ivJ atJ EoJ EiJ (Ds ++ (L)))) (perm_idx [EnL pK (eK.inp s0 now) ov2 iv2 at2 Eo2 Ei2 [], [[⟨b9, [.int .i64 kind, .int .i64 who, .int .i64 idx, .slice Ad data.length cd], 102⟩]], [[⟨b3, two k (.pointer (some ⟨pK, 0, none⟩)) (.pointer (some ⟨pJ, 0, none⟩)), 80⟩]], [[⟨b4, two k (.slice (some ⟨bwK, owK, none⟩) bssK.length cwK) (.slice AwJ bssJ.length cwJ), 99⟩]], [[⟨b5, two k (.slice AxK eK.out.length cxK) (.slice AxJ eJ.out.length cxJ), 100⟩]], [[⟨b6, two k (.slice ArK (eK.inn.take eK.read).length crK) (.slice ArJ (eJ.inn.take eJ.read).length crJ), 100⟩]], [EwK], [EwJ], [ExK], [ExJ], [ErK], [ErJ], EnL pJ eJ ovJ ivJ atJ EoJ EiJ [], Ds] (L) [1, 2, 3, 4, 5, 6, 7, 8, 9, 10, 11, 0, 12, 13] (by kernel_rfl)) ?_
                          refine St.done ?_
                          exact SX.some (eK.inp s0 now, ov2, iv2, at2, Eo2, Ei2) (hb.inp hsm hB2) ⟨rfl, rfl, rfl, rfl, rfl, rfl, rfl, rfl, rfl, rfl, rfl, trivial⟩ (List.Perm.refl _)
                        · refine SC.skip ?_
                          exact SX.some (eK, ovK, ivK, atK, EoK, EiK) hb ⟨rfl, rfl, rfl, rfl, rfl, rfl, rfl, rfl, rfl, rfl, rfl, trivial⟩ (List.Perm.refl _)
                  · refine SC.seq ?_
                    refine SC.plain ?_
                    refine St.eql rfl rfl rfl ?_
                    refine St.assign rfl rfl ?_
                    refine St.done ?_
                    refine SX.seq ?_
                    refine SC.condp rfl (fun c165 => ?_) (fun c165 => ?_)
                    · refine SC.plain ?_
                      refine St.move rfl rfl ?_
                      refine St.fieldAddr (off := 2) rfl rfl (by kernel_rfl) ?_
                      refine St.load rfl rfl (by kernel_rfl) (by first | exact Holds.row mem0 rfl | exact Holds.row mem1 rfl | exact Holds.row mem2 rfl | exact Holds.row mem3 rfl | exact Holds.row mem4 rfl | exact Holds.row mem5 rfl | exact Holds.row mem6 rfl | exact Holds.row mem7 rfl | exact Holds.row mem8 rfl) ?_
                      refine St.andI rfl rfl rfl ?_
                      rw [mask15]
                      refine St.addI rfl rfl rfl (by omega) ?_
                      refine St.assign rfl rfl ?_
                      refine St.done ?_
                      refine SX.blk ?_
                      exact SX.some (Sid.mk pK eK ovK ivK atK EoK EiK (.slice AwK bssK.length cwK) vsK bssK EwK (.slice AxK eK.out.length cxK) ExK (.slice ArK (eK.inn.take eK.read).length crK) ErK, Sid.mk pJ eJ ovJ ivJ atJ EoJ EiJ (.slice AwJ bssJ.length cwJ) vsJ bssJ EwJ (.slice AxJ eJ.out.length cxJ) ExJ (.slice ArJ (eJ.inn.take eJ.read).length crJ) ErJ, (now + idx % 16), Ds) ⟨hb.mono (fun _ h => h) (by omega), by simp only; omega, by simp only; omega⟩ ⟨rfl, rfl, rfl, rfl, rfl, rfl, rfl, rfl, trivial⟩ (List.Perm.refl _)
                    · refine SC.skip ?_
                      refine SX.blk ?_
                      exact SX.some (Sid.mk pK eK ovK ivK atK EoK EiK (.slice AwK bssK.length cwK) vsK bssK EwK (.slice AxK eK.out.length cxK) ExK (.slice ArK (eK.inn.take eK.read).length crK) ErK, Sid.mk pJ eJ ovJ ivJ atJ EoJ EiJ (.slice AwJ bssJ.length cwJ) vsJ bssJ EwJ (.slice AxJ eJ.out.length cxJ) ExJ (.slice ArJ (eJ.inn.take eJ.read).length crJ) ErJ, now, Ds) ⟨hb.mono (fun _ h => h) (by omega), hn0, by simp only; omega⟩ ⟨rfl, rfl, rfl, rfl, rfl, rfl, rfl, rfl, trivial⟩ (List.Perm.refl _)
                · refine SC.seq ?_
                  refine SC.plain ?_
                  refine St.eql rfl rfl rfl ?_
                  refine St.assign rfl rfl ?_
                  refine St.done ?_
                  refine SX.seq ?_
                  refine SC.condp rfl (fun c113 => ?_) (fun c113 => ?_)
                  · refine SC.skip ?_
                    first
                    | exact SX.some (decide (kind = 4)) (by simp only [decide_eq_true_eq]; omega) ⟨rfl, rfl, rfl, rfl, rfl, rfl, rfl, rfl, rfl, rfl, rfl, rfl, trivial⟩ (List.Perm.refl _)
                    | exact SX.some (decide (kind = 5)) (by simp only [decide_eq_true_eq]; omega) ⟨rfl, rfl, rfl, rfl, rfl, rfl, rfl, rfl, rfl, rfl, rfl, rfl, trivial⟩ (List.Perm.refl _)
                    | exact SX.some (decide (kind = 6)) (by simp only [decide_eq_true_eq]; omega) ⟨rfl, rfl, rfl, rfl, rfl, rfl, rfl, rfl, rfl, rfl, rfl, rfl, trivial⟩ (List.Perm.refl _)
                  · refine SC.seq ?_
                    refine SC.plain ?_
                    refine St.eql rfl rfl rfl ?_
                    refine St.assign rfl rfl ?_
                    refine St.done ?_
                    refine SX.seq ?_
                    refine SC.condp rfl (fun c113 => ?_) (fun c113 => ?_)
                    · refine SC.skip ?_
                      first
                      | exact SX.some (decide (kind = 4)) (by simp only [decide_eq_true_eq]; omega) ⟨rfl, rfl, rfl, rfl, rfl, rfl, rfl, rfl, rfl, rfl, rfl, rfl, trivial⟩ (List.Perm.refl _)
                      | exact SX.some (decide (kind = 5)) (by simp only [decide_eq_true_eq]; omega) ⟨rfl, rfl, rfl, rfl, rfl, rfl, rfl, rfl, rfl, rfl, rfl, rfl, trivial⟩ (List.Perm.refl _)
                      | exact SX.some (decide (kind = 6)) (by simp only [decide_eq_true_eq]; omega) ⟨rfl, rfl, rfl, rfl, rfl, rfl, rfl, rfl, rfl, rfl, rfl, rfl, trivial⟩ (List.Perm.refl _)
                    · refine SC.plain ?_
                      refine St.eql rfl rfl rfl ?_
                      refine St.assign rfl rfl ?_
                      refine St.done ?_
                      first
                      | exact SX.some (decide (kind = 4)) (by simp only [decide_eq_true_eq]; omega) ⟨rfl, rfl, rfl, rfl, rfl, rfl, rfl, rfl, rfl, rfl, rfl, rfl, trivial⟩ (List.Perm.refl _)
                      | exact SX.some (decide (kind = 5)) (by simp only [decide_eq_true_eq]; omega) ⟨rfl, rfl, rfl, rfl, rfl, rfl, rfl, rfl, rfl, rfl, rfl, rfl, trivial⟩ (List.Perm.refl _)
                      | exact SX.some (decide (kind = 6)) (by simp only [decide_eq_true_eq]; omega) ⟨rfl, rfl, rfl, rfl, rfl, rfl, rfl, rfl, rfl, rfl, rfl, rfl, trivial⟩ (List.Perm.refl _)
      · refine SC.seq ?_
        refine SC.plain ?_
        refine St.move rfl rfl ?_
        refine St.indexArr (n := 2) (sz := 1) rfl rfl rfl (by kernel_rfl) (by omega) ?_
        refine St.load rfl rfl (by kernel_rfl) (Holds.row mem2 (two_get hk _ _)) ?_
        refine St.lenSl rfl rfl (by kernel_rfl) ?_
        refine St.gtr rfl rfl rfl ?_
        refine St.done ?_
        refine SX.seq ?_
        refine SC.condp rfl (fun c47 => ?_) (fun c47 => ?_)
        · have hb1 : (0 : Int) < (bssK.length : Int) := by omega
          have hk1 := Int.tmod_lt_of_pos idx hb1
          have hk2 := Int.lt_tmod_of_pos idx hb1
          have hk3 := Int.tmod_lt_of_pos (idx.tmod (bssK.length : Int) + (bssK.length : Int)) hb1
          have hk4 := Int.tmod_nonneg (a := idx.tmod (bssK.length : Int) + (bssK.length : Int)) (bssK.length : Int) (by omega)
          refine SC.drawn [(0, true), (1, true), (2, true), (3, true), (4, true), (5, true), (6, true), (7, true), (8, true), (9, true), (10, true), (11, true), (12, true), (13, true), (14, true), (15, true), (16, true), (17, true)] [] (_) (by kernel_rfl) (by kernel_rfl) (fun _ h => h) ?_
          refine St.fieldAddr (off := 2) rfl rfl (by kernel_rfl) ?_
          refine St.load rfl rfl (by kernel_rfl) (by first | exact Holds.row mem0 rfl | exact Holds.row mem1 rfl | exact Holds.row mem2 rfl | exact Holds.row mem3 rfl | exact Holds.row mem4 rfl | exact Holds.row mem5 rfl | exact Holds.row mem6 rfl | exact Holds.row mem7 rfl | exact Holds.row mem8 rfl) ?_
          refine St.move rfl rfl ?_
          refine St.indexArr (n := 2) (sz := 1) rfl rfl rfl (by kernel_rfl) (by omega) ?_
          refine St.load rfl rfl (by kernel_rfl) (Holds.row mem2 (two_get hk _ _)) ?_
          refine St.lenSl rfl rfl (by kernel_rfl) ?_
          first | refine St.remN rfl rfl rfl (by omega) ?_ | refine St.rem rfl rfl rfl (by omega) ?_
          refine St.move rfl rfl ?_
          refine St.indexArr (n := 2) (sz := 1) rfl rfl rfl (by kernel_rfl) (by omega) ?_
          refine St.load rfl rfl (by kernel_rfl) (Holds.row mem2 (two_get hk _ _)) ?_
          refine St.lenSl rfl rfl (by kernel_rfl) ?_
          first | refine St.addN rfl rfl rfl (by omega) ?_ | refine St.addI rfl rfl rfl (by omega) ?_
          refine St.move rfl rfl ?_
          refine St.indexArr (n := 2) (sz := 1) rfl rfl rfl (by kernel_rfl) (by omega) ?_
          refine St.load rfl rfl (by kernel_rfl) (Holds.row mem2 (two_get hk _ _)) ?_
          refine St.lenSl rfl rfl (by kernel_rfl) ?_
          first | refine St.remN rfl rfl rfl (by omega) ?_ | refine St.rem rfl rfl rfl (by omega) ?_
          refine St.assign rfl rfl ?_
          refine St.done ?_
          refine SX.tail ?_
          refine St.done ?_
          obtain ⟨nn, hn⟩ : ∃ nn : Nat, (idx.tmod (bssK.length : Int) + (bssK.length : Int)).tmod (bssK.length : Int) = (nn : Int) := ⟨((idx.tmod (bssK.length : Int) + (bssK.length : Int)).tmod (bssK.length : Int)).toNat, by omega⟩
          rw [hn]
          have hnn : nn < bssK.length := by omega
          exact SX.some nn (fun _ => hnn) ⟨rfl, rfl, rfl, rfl, rfl, rfl, rfl, rfl, rfl, rfl, trivial⟩ (List.Perm.refl _)
        · refine SC.skip ?_
          exact SX.some 0 (fun h => h) ⟨rfl, rfl, rfl, rfl, rfl, rfl, rfl, rfl, rfl, rfl, trivial⟩ (List.Perm.refl _)
    · refine SC.exit ?_
      refine SX.seq_exit ?_
      refine SX.seq_exit ?_
      refine SX.hit ?_
      refine SX.seq ?_
      refine SC.seq ?_
      refine SC.plain ?_
      refine St.call [] rfl (by kernel_rfl) rfl (awake18_spec w0 _) (by first | exact fun _ _ _ _ h => h.nil | assumption) ?_
      rintro r40 L1 ⟨rfl, rfl⟩
      refine St.assign rfl rfl ?_
      refine St.done ?_
      refine SX.seq ?_
      refine SC.ret ?_
      exact SX.ret1 rfl rfl rfl
  · refine St.guard_no rfl rfl rfl ?_
    refine St.guard_no rfl rfl rfl ?_
    refine St.pick_false rfl rfl rfl ?_
    refine St.done ?_
    refine SX.seq ?_
    refine SC.cond_false rfl ?_
    refine SC.exit ?_
    refine SX.seq_exit ?_
    refine SX.seq_exit ?_
    refine SX.hit ?_
    refine SX.seq ?_
    refine SC.seq ?_
    refine SC.plain ?_
    refine St.call [] rfl (by kernel_rfl) rfl (awake18_spec w0 _) (by first | exact fun _ _ _ _ h => h.nil | assumption) ?_
    rintro r40 L1 ⟨rfl, rfl⟩
    refine St.assign rfl rfl ?_
    refine St.done ?_
    refine SX.seq ?_
    refine SC.ret ?_
    exact SX.ret1 rfl rfl rfl
end Go.Proofs.Ytahafepgmkiabaa
