/- The walk of the law InflateBlocks. -/
import Derived.Test.YtahafepgmkiabaaP5
import Derived.Test.YtahafepgmkiabaaJ6
import Derived.Test.YtahafepgmkiabaaSepP
set_option linter.unusedVariables false
set_option linter.unusedSimpArgs false
set_option linter.ambiguousOpen false
namespace Go.Proofs.Ytahafepgmkiabaa
open Go Go.Proofs.Ytahafepgmkiabaa.Sep Go.Proofs.Ytahafepgmkiabaa.Inf

def bOf : List (List Nat) → List Nat
  | [] => []
  | l :: ls => blockOf 0 l ++ bOf ls
theorem bOf_snoc : ∀ (ls : List (List Nat)) (l : List Nat), bOf (ls ++ [l]) = bOf ls ++ blockOf 0 l
  | [], l => by simp [bOf]
  | a :: ls, l => by simp only [List.cons_append, bOf, bOf_snoc ls l, List.append_assoc]
theorem blocksOf_eq : ∀ ls : List (List Nat), blocksOf ls = bOf ls ++ blockOf 1 []
  | [] => rfl
  | l :: ls => by simp only [blocksOf, bOf, blocksOf_eq ls, List.append_assoc]
theorem bOf_lt : ∀ {ls : List (List Nat)}, (∀ l ∈ ls, ∀ b ∈ l, b < 256) → ∀ b ∈ bOf ls, b < 256
  | [], _ => fun _ h => nomatch h
  | l :: ls, h => fun b hb => by
    rcases List.mem_append.1 hb with hb | hb
    · exact blockOf_lt (by decide) (h l (by simp)) b hb
    · exact bOf_lt (fun x hx => h x (by simp [hx])) b hb

theorem inflateBlocks_spec (w0 : World) (L : List Chunk) (v v1 : Value) (vs : List Value) (bss : List (List Nat)) (more : List Nat) (hl : vs.length = bss.length) (hx : Rd w0 L v 1 bss.length vs)
    (hall : ∀ (i : Nat) (v : Value) (bs : List Nat), vs[i]? = some v → bss[i]? = some bs → Rd w0 L v 1 bs.length (bytes bs) ∧ ∀ b ∈ bs, b < 256)
    (hm : Rd w0 L v1 1 more.length (bytes more)) (hml : more.length ≤ 140737488351232) (hmb : ∀ b ∈ more, b < 256) :
    Meets Try.prog 28 #[v, v1] w0 L (fun r L' => r = .bool true) := by
  have hm0 := hm
  obtain ⟨hnl, b, o, A, c, rfl, hA, hr⟩ := hx
  obtain ⟨_, b1, o1, A1, c1, rfl, hA1, hr1⟩ := hm
  have hin : ∀ i, i < bss.length → Rd w0 L (vs.getD i undef) 1 (bss.getD i []).length (bytes (bss.getD i [])) ∧ (∀ b ∈ bss.getD i [], b < 256) := fun i hi => hall i _ _ (by rw [List.getD_eq_getElem?_getD, List.getElem?_eq_getElem (by omega)]; rfl) (by rw [List.getD_eq_getElem?_getD, List.getElem?_eq_getElem hi]; rfl)
  have hload : ∀ i : Nat, i < bss.length → Holds w0 L ⟨b, o + ((i : Nat) : Int).toNat * 1, none⟩ (vs.getD i undef) := fun i hi => by
    rw [Int.toNat_natCast, Nat.mul_one]
    exact hr.one i (by rw [List.getD_eq_getElem?_getD, List.getElem?_eq_getElem (by omega)]; rfl)
  have hsucc : ∀ i, i < bss.length → bss.take (i + 1) = bss.take i ++ [bss.getD i []] := fun i hi => by
    rw [List.take_add_one, List.getElem?_eq_getElem hi, List.getD_eq_getElem?_getD, List.getElem?_eq_getElem hi]; rfl
  have hlts : ∀ i, ∀ l ∈ bss.take i, ∀ x ∈ l, x < 256 := fun i l hl2 x hx2 => by
    obtain ⟨j, hj, rfl⟩ := List.getElem_of_mem (List.mem_of_mem_take hl2)
    have := (hin j hj).2
    rw [List.getD_eq_getElem?_getD, List.getElem?_eq_getElem hj] at this
    exact this x hx2
  refine Meets.of_body [.slice A bss.length c, .slice A1 more.length c1] Try.func28 rfl Try.ntmps28 rfl ?_
  refine SC.seq ?_
  refine SC.plain ?_
  refine St.assign rfl rfl ?_
  refine St.done ?_
  refine SX.seq ?_
  refine SC.seq ?_
  refine SC.plain ?_
  refine St.assign rfl rfl ?_
  refine St.assign rfl rfl ?_
  refine St.done ?_
  refine SX.seq ?_
  refine SC.join (α := Nat × Value × Chunk × Value × Chunk) (fun s_ => s_.1 ≤ 10 ∧ Buf 5 1 s_.2.1 (bytes (bOf (bss.take s_.1))) (bOf (bss.take s_.1)).length s_.2.2.1 ∧ Buf 5 1 s_.2.2.2.1 (bytes (bss.take s_.1).flatten) (bss.take s_.1).flatten.length s_.2.2.2.2 ∧ (bOf (bss.take s_.1)).length ≤ 1005 * s_.1 ∧ (bss.take s_.1).flatten.length ≤ 1000 * s_.1 ∧ ∀ l ∈ (bss.take s_.1), l.length ≤ 1000) (fun s_ => [(1, .slice A1 more.length c1), (5, s_.2.1), (6, s_.2.2.2.1)]) (fun s_ => s_.2.2.1 :: s_.2.2.2.2 :: L) ?_ ?_
  · rintro ⟨i, vb, Eb, vw, Ew⟩ ⟨hi10, hbb, hbw, hlb, hlw, hsm⟩
    simp only at hi10 hbb hbw hlb hlw hsm
    have hll := hlts i
    obtain ⟨ls, hls⟩ : ∃ ls, ls = bss.take i := ⟨_, rfl⟩
    have hlsl : ls.length ≤ 10 := by rw [hls, List.length_take]; omega
    rw [← hls] at hbb hbw hlb hlw hsm hll
    obtain ⟨bw, ow, Aw, cw, rfl, _, _⟩ := hbw.read
    show SC _ _ _ [(1, .slice A1 more.length c1), (5, vb), (6, .slice Aw ls.flatten.length cw)] (Eb :: Ew :: L)
    refine SC.seq ?_
    refine SC.plain ?_
    refine St.move rfl rfl ?_
    refine St.buildSl (n := 5) (e := 5) [(0, .int .u8 1), (1, .int .u8 0), (2, .int .u8 0), (3, .int .u8 255), (4, .int .u8 255)] (bytes [1, 0, 0, 255, 255]) rfl rfl (by kernel_rfl) (fun _ _ h => h.nil) (fun b9 => ?_)
    refine St.append1 (e := 5) (sz := 1) (bytes := 1) (xs := bytes (bOf ls)) (n := (bOf ls).length) (news := bytes [1, 0, 0, 255, 255]) (m := 5) rfl rfl rfl (by kernel_rfl) hbb (Rd.row rfl mem0) (bytes_one _) (by omega) (by omega) (fun _ _ h => h.nil) (fun v2 E2 hb2 _ => ?_)
    rw [← bytes_app, show bOf ls ++ [1, 0, 0, 255, 255] = blocksOf ls from (blocksOf_eq ls).symm] at hb2
    have hbl : (blocksOf ls).length = (bOf ls).length + 5 := by rw [blocksOf_eq, List.length_append]; rfl
    rw [← hbl] at hb2
    refine St.drop ?_
    have hb2r := hb2
    obtain ⟨b2, o2, A2, c2, rfl, _, _⟩ := hb2.read
    refine St.assign rfl rfl ?_
    refine St.done ?_
    refine SX.seq ?_
    refine SC.seq ?_
    refine SC.plain ?_
    refine St.buildSl0 (e := 5) (sz := 1) rfl (by kernel_rfl) (fun _ _ h => h.nil) (fun b8 => ?_)
    refine St.move rfl rfl ?_
    refine St.append (e := 5) (sz := 1) (bytes := 1) (xs := []) (n := 0) (news := bytes (blocksOf ls)) (m := (blocksOf ls).length) rfl rfl rfl (by kernel_rfl) (Buf.whole rfl) (hb2.rd (by simp)) (bytes_one _) (by omega) (by omega) (fun _ _ h => h.nil) (fun v5 E5 hb5 _ => ?_)
    rw [List.nil_append, Nat.zero_add] at hb5
    refine St.move rfl rfl ?_
    refine St.appendW (e := 5) (sz := 1) (bytes := 1) (xs := bytes (blocksOf ls)) (n := (blocksOf ls).length) (news := bytes more) (m := more.length) rfl rfl rfl (by kernel_rfl) hb5 (Rd.mono hm0 (fun w hw => by first | exact hw | exact hw.drop | exact hw.drop.drop | exact hw.drop.drop.drop | exact hw.drop.drop.drop.drop | exact hw.drop.drop.drop.drop.drop | exact hw.drop.drop.drop.drop.drop.drop | exact hw.drop.drop.drop.drop.drop.drop.drop | exact hw.drop.drop.drop.drop.drop.drop.drop.drop | exact hw.drop.drop.drop.drop.drop.drop.drop.drop.drop | exact hw.drop.drop.drop.drop.drop.drop.drop.drop.drop.drop | exact hw.drop.drop.drop.drop.drop.drop.drop.drop.drop.drop.drop | exact hw.drop.drop.drop.drop.drop.drop.drop.drop.drop.drop.drop.drop | exact hw.drop.drop.drop.drop.drop.drop.drop.drop.drop.drop.drop.drop.drop)) (bytes_one _) (by omega) (by omega) (fun _ _ h => h.nil) (fun v6 E6 hb6 _ => ?_)
    rw [← bytes_app, ← List.length_append] at hb6
    have htot : (blocksOf ls ++ more).length = (blocksOf ls).length + more.length := List.length_append
    have hblt : ∀ x ∈ blocksOf ls, x < 256 := by rw [blocksOf_eq]; intro x hx3; rcases List.mem_append.1 hx3 with h | h; exact bOf_lt hll x h; exact blockOf_lt (by decide) (by intro y hy; simp at hy) x h
    have hWb : ∀ x ∈ blocksOf ls ++ more, x < 256 := fun x hx3 => (List.mem_append.1 hx3).elim (hblt x) (hmb x)
    obtain ⟨g, hg⟩ : ∃ g, 8 * (blocksOf ls ++ more).length < g := ⟨_, Nat.lt_succ_self _⟩
    have hlaw := blocks_read (g + ls.length + 1) g ls.flatten.length more ls [] [] (fun l h => Nat.le_trans (hsm l h) (by decide)) hWb (by simp)
    refine St.move rfl rfl ?_
    refine St.lenSl rfl rfl (by kernel_rfl) ?_
    refine St.call [_, _] rfl (by kernel_rfl) rfl (iraw_spec w0 _ v6 (blocksOf ls ++ more) (hb6.rd (by simp)) (by omega) hWb ((ls.flatten.length : Nat) : Int) (by omega) (g + ls.length + 1) (by omega)) (fun _ _ _ _ h => h.nil) ?_
    rintro r7 L7 ⟨⟨v7, E7, rfl, hb7, rfl⟩, -⟩
    simp only [List.length_nil, Nat.mul_zero, List.nil_append] at hlaw
    rw [Int.toNat_natCast, hlaw] at hb7 ⊢
    simp only [rawRes] at hb7 ⊢
    obtain ⟨b7, o7, A7, c7, rfl, _, _⟩ := hb7.read
    refine St.move rfl rfl ?_
    refine St.extract rfl rfl rfl ?_
    refine St.extract rfl rfl rfl ?_
    refine St.extract rfl rfl rfl ?_
    refine St.assign rfl rfl ?_
    refine St.assign rfl rfl ?_
    refine St.assign rfl rfl ?_
    refine St.done ?_
    refine SX.seq ?_
    refine SC.seq ?_
    refine SC.plain ?_
    refine St.move rfl rfl ?_
    refine St.eql rfl rfl rfl ?_
    refine St.move rfl rfl ?_
    refine St.split 78 rfl (fun g78 => ?_) (fun g78 => ?_)
    · refine St.guard_yes rfl rfl ?_
      refine St.move rfl rfl ?_
      refine St.guard_yes rfl rfl ?_
      refine St.move rfl rfl ?_
      refine St.guard_yes rfl rfl ?_
      refine St.lenSl rfl rfl (by kernel_rfl) ?_
      refine St.guard_yes rfl rfl ?_
      refine St.eql rfl rfl rfl ?_
      refine St.pick_true rfl rfl rfl ?_
      refine St.move rfl rfl ?_
      refine St.split 84 rfl (fun g84 => ?_) (fun g84 => ?_)
      · refine St.guard_yes rfl rfl ?_
        refine St.move rfl rfl ?_
        refine St.guard_yes rfl rfl ?_
        refine St.toStr (e := 5) (bs := ls.flatten) (n := ls.flatten.length) rfl rfl (hb7.rd (by simp [Lq])) (by kernel_rfl) (by kernel_rfl) (by kernel_rfl) ?_
        refine St.guard_yes rfl rfl ?_
        refine St.move rfl rfl ?_
        refine St.guard_yes rfl rfl ?_
        refine St.toStr (e := 5) (bs := ls.flatten) (n := ls.flatten.length) rfl rfl (hbw.rd (by simp [Lq])) (by kernel_rfl) (by kernel_rfl) (by kernel_rfl) ?_
        refine St.guard_yes rfl rfl ?_
        refine St.strEql rfl rfl rfl ?_
        refine St.pick_true rfl rfl rfl ?_
        refine St.move rfl rfl ?_
        refine St.split 91 rfl (fun g91 => ?_) (fun g91 => ?_)
        · refine St.guard_yes rfl rfl ?_
          refine St.call [] rfl (by kernel_rfl) rfl (awake6_spec w0 _) (fun _ _ _ _ h => h.nil) ?_
          rintro ra La rfl
          refine St.pick_true rfl rfl rfl ?_
          refine St.assign rfl rfl ?_
          refine St.done ?_
          refine SX.seq ?_
          refine SC.ret ?_
          exact SX.ret1 rfl rfl rfl
        · exact absurd rfl g91
      · exact absurd (by omega) g84
    · exact absurd rfl g78
  · refine SC.seq ?_
    refine SC.plain ?_
    refine St.assign rfl rfl ?_
    refine St.done ?_
    refine SX.seq ?_
    refine SC.block ?_
    refine SC.perm ([] :: [] :: L) (List.Perm.refl _) ?_
    refine SC.loop (α := Nat × Value × Chunk × Value × Chunk) (fun s_ => s_.1 ≤ bss.length ∧ s_.1 ≤ 10 ∧ Buf 5 1 s_.2.1 (bytes (bOf (bss.take s_.1))) (bOf (bss.take s_.1)).length s_.2.2.1 ∧ Buf 5 1 s_.2.2.2.1 (bytes (bss.take s_.1).flatten) (bss.take s_.1).flatten.length s_.2.2.2.2 ∧ (bOf (bss.take s_.1)).length ≤ 1005 * s_.1 ∧ (bss.take s_.1).flatten.length ≤ 1000 * s_.1 ∧ ∀ l ∈ (bss.take s_.1), l.length ≤ 1000) (fun s_ => [(0, .slice A bss.length c), (1, .slice A1 more.length c1), (5, s_.2.1), (6, s_.2.2.2.1), (7, .int .i64 ((s_.1 : Nat) : Int))]) (fun s_ => s_.2.2.1 :: s_.2.2.2.2 :: L) (fun s_ => 10 - s_.1) (0, .slice none 0 0, [], .slice none 0 0, []) ⟨Nat.zero_le _, Nat.zero_le _, Buf.nil 5 1, Buf.nil 5 1, Nat.zero_le _, Nat.zero_le _, (by intro l h; simp at h)⟩ ⟨rfl, rfl, rfl, rfl, rfl, trivial⟩ (List.Perm.refl _) ?_
    rintro ⟨i, vb, Eb, vw, Ew⟩ ⟨hi, hi10, hbb, hbw, hlb, hlw, hsm⟩
    simp only at hi hi10 hbb hbw hlb hlw hsm
    show SC _ _ _ [(0, .slice A bss.length c), (1, .slice A1 more.length c1), (5, vb), (6, vw), (7, .int .i64 ((i : Nat) : Int))] (Eb :: Ew :: L)
    refine SC.seq ?_
    refine SC.seq ?_
    refine SC.plain ?_
    refine St.move rfl rfl ?_
    refine St.move rfl rfl ?_
    refine St.lenSl rfl rfl (by kernel_rfl) ?_
    refine St.lss rfl rfl rfl ?_
    refine St.move rfl rfl ?_
    refine St.split 16 rfl (fun g16 => ?_) (fun g16 => ?_)
    · refine St.guard_yes rfl rfl ?_
      refine St.move rfl rfl ?_
      refine St.guard_yes rfl rfl ?_
      refine St.lss rfl rfl rfl ?_
      refine St.pick_true rfl rfl rfl ?_
      refine St.done ?_
      refine SX.seq ?_
      refine SC.condp rfl (fun c19 => ?_) (fun c19 => ?_)
      · have hlt : i < bss.length := by omega
        obtain rfl := hA (by omega)
        obtain ⟨hpr, hpb⟩ := hin i hlt
        have hpr0 := hpr
        obtain ⟨_, bp, op, Ap, cp, hpv, hAp, hrp⟩ := hpr
        have hld := hload i hlt
        rw [hpv] at hld hpr0
        have hs1 := hsucc i hlt
        refine SC.skip ?_
        refine SX.seq ?_
        refine SC.seq ?_
        refine SC.block ?_
        refine SC.seq ?_
        refine SC.seq ?_
        refine SC.plain ?_
        refine St.move rfl rfl ?_
        refine St.move rfl rfl ?_
        refine St.indexSl (e := 35) (sz := 1) rfl rfl rfl (by kernel_rfl) (by omega) ?_
        refine St.load rfl rfl (by kernel_rfl) (fun w hw => hld w hw.drop.drop) ?_
        refine St.lenSl rfl rfl (by kernel_rfl) ?_
        refine St.gtr rfl rfl rfl ?_
        refine St.done ?_
        refine SX.seq ?_
        refine SC.condp rfl (fun c27 => ?_) (fun c27 => ?_)
        · refine SC.seq ?_
          refine SC.plain ?_
          refine St.call [] rfl (by kernel_rfl) rfl (awake6_spec w0 _) (fun _ _ _ _ h => h.nil) ?_
          rintro ra La rfl
          refine St.assign rfl rfl ?_
          refine St.done ?_
          refine SX.seq ?_
          refine SC.ret ?_
          refine SX.seq_ret ?_
          refine SX.blk_ret ?_
          refine SX.seq_ret ?_
          refine SX.seq_ret ?_
          refine SX.blk_ret ?_
          refine SX.seq_ret ?_
          exact SX.ret1 rfl rfl rfl
        · have hp1000 : (bss.getD i []).length ≤ 1000 := by omega
          have hbo : bOf (bss.take (i + 1)) = (bOf (bss.take i) ++ [0, (bss.getD i []).length % 256, (bss.getD i []).length / 2 ^ 8, 256 - 1 - (bss.getD i []).length % 256, 256 - 1 - (bss.getD i []).length / 2 ^ 8]) ++ bss.getD i [] := by rw [hs1, bOf_snoc]; unfold blockOf; rw [show (bss.getD i []).length / 256 % 256 = (bss.getD i []).length / 2 ^ 8 by omega, List.append_assoc]
          have hfl : (bss.take (i + 1)).flatten = (bss.take i).flatten ++ bss.getD i [] := by rw [hs1, List.flatten_append]; simp
          refine SC.skip ?_
          refine SX.seq ?_
          refine SC.seq ?_
          refine SC.plain ?_
          refine St.move rfl rfl ?_
          refine St.move rfl rfl ?_
          refine St.indexSl (e := 35) (sz := 1) rfl rfl rfl (by kernel_rfl) (by omega) ?_
          refine St.load rfl rfl (by kernel_rfl) (fun w hw => hld w hw.drop.drop) ?_
          refine St.lenSl rfl rfl (by kernel_rfl) ?_
          refine St.assign rfl rfl ?_
          refine St.done ?_
          refine SX.seq ?_
          refine SC.seq ?_
          refine SC.plain ?_
          refine St.move rfl rfl ?_
          refine St.move rfl rfl ?_
          first | refine St.convUx un8 rfl rfl (by kernel_rfl) (by kernel_rfl) (by omega) ?_ | refine St.convU un8 rfl rfl (by kernel_rfl) (by kernel_rfl) ?_ | refine St.convZ un8 rfl rfl (by kernel_rfl) (by kernel_rfl) ?_
          refine St.move rfl rfl ?_
          first | refine St.shrN (b := 8) rfl rfl rfl (by omega) ?_ | refine St.shr rfl rfl rfl (by omega) ?_
          first | refine St.convUx un8 rfl rfl (by kernel_rfl) (by kernel_rfl) (by omega) ?_ | refine St.convU un8 rfl rfl (by kernel_rfl) (by kernel_rfl) ?_ | refine St.convZ un8 rfl rfl (by kernel_rfl) (by kernel_rfl) ?_
          refine St.move rfl rfl ?_
          first | refine St.convUx un8 rfl rfl (by kernel_rfl) (by kernel_rfl) (by omega) ?_ | refine St.convU un8 rfl rfl (by kernel_rfl) (by kernel_rfl) ?_ | refine St.convZ un8 rfl rfl (by kernel_rfl) (by kernel_rfl) ?_
          first | refine St.complU un8 rfl rfl (by omega) ?_ | refine St.compl rfl rfl ?_
          refine St.move rfl rfl ?_
          first | refine St.shrN (b := 8) rfl rfl rfl (by omega) ?_ | refine St.shr rfl rfl rfl (by omega) ?_
          first | refine St.convUx un8 rfl rfl (by kernel_rfl) (by kernel_rfl) (by omega) ?_ | refine St.convU un8 rfl rfl (by kernel_rfl) (by kernel_rfl) ?_ | refine St.convZ un8 rfl rfl (by kernel_rfl) (by kernel_rfl) ?_
          first | refine St.complU un8 rfl rfl (by omega) ?_ | refine St.compl rfl rfl ?_
          refine St.buildSl (n := 5) (e := 5) [(0, .int .u8 0), (1, .int .u8 (((bss.getD i []).length % 256 : Nat) : Int)), (2, .int .u8 (((bss.getD i []).length / 2 ^ 8 : Nat) : Int)), (3, .int .u8 ((256 - 1 - (bss.getD i []).length % 256 : Nat) : Int)), (4, .int .u8 ((256 - 1 - (bss.getD i []).length / 2 ^ 8 : Nat) : Int))] (bytes [0, (bss.getD i []).length % 256, (bss.getD i []).length / 2 ^ 8, 256 - 1 - (bss.getD i []).length % 256, 256 - 1 - (bss.getD i []).length / 2 ^ 8]) rfl rfl (by kernel_rfl) (fun _ _ h => h.nil) (fun b9 => ?_)
          refine St.append1 (e := 5) (sz := 1) (bytes := 1) (xs := bytes (bOf (bss.take i))) (n := (bOf (bss.take i)).length) (news := bytes [0, (bss.getD i []).length % 256, (bss.getD i []).length / 2 ^ 8, 256 - 1 - (bss.getD i []).length % 256, 256 - 1 - (bss.getD i []).length / 2 ^ 8]) (m := 5) rfl rfl rfl (by kernel_rfl) hbb (Rd.row rfl mem0) (bytes_one _) (by omega) (by omega) (fun _ _ h => h.nil) (fun v2 E2 hb2 _ => ?_)
          rw [← bytes_app] at hb2
          refine St.drop ?_
          refine St.assign rfl rfl ?_
          refine St.done ?_
          refine SX.seq ?_
          refine SC.seq ?_
          refine SC.plain ?_
          refine St.move rfl rfl ?_
          refine St.move rfl rfl ?_
          refine St.move rfl rfl ?_
          refine St.indexSl (e := 35) (sz := 1) rfl rfl rfl (by kernel_rfl) (by omega) ?_
          refine St.load rfl rfl (by kernel_rfl) (fun w hw => hld w hw.drop.drop) ?_
          refine St.append (e := 5) (sz := 1) (bytes := 1) (xs := bytes (bOf (bss.take i) ++ [0, (bss.getD i []).length % 256, (bss.getD i []).length / 2 ^ 8, 256 - 1 - (bss.getD i []).length % 256, 256 - 1 - (bss.getD i []).length / 2 ^ 8])) (n := (bOf (bss.take i)).length + 5) (news := bytes (bss.getD i [])) (m := (bss.getD i []).length) rfl rfl rfl (by kernel_rfl) hb2 (Rd.mono hpr0 (fun w hw => by first | exact hw | exact hw.drop | exact hw.drop.drop | exact hw.drop.drop.drop | exact hw.drop.drop.drop.drop | exact hw.drop.drop.drop.drop.drop | exact hw.drop.drop.drop.drop.drop.drop | exact hw.drop.drop.drop.drop.drop.drop.drop | exact hw.drop.drop.drop.drop.drop.drop.drop.drop | exact hw.drop.drop.drop.drop.drop.drop.drop.drop.drop | exact hw.drop.drop.drop.drop.drop.drop.drop.drop.drop.drop | exact hw.drop.drop.drop.drop.drop.drop.drop.drop.drop.drop.drop | exact hw.drop.drop.drop.drop.drop.drop.drop.drop.drop.drop.drop.drop | exact hw.drop.drop.drop.drop.drop.drop.drop.drop.drop.drop.drop.drop.drop)) (bytes_one _) (by omega) (by omega) (fun _ _ h => h.nil) (fun v3 E3 hb3 _ => ?_)
          rw [← bytes_app] at hb3
          refine St.assign rfl rfl ?_
          refine St.done ?_
          refine SX.seq ?_
          refine SC.plain ?_
          refine St.move rfl rfl ?_
          refine St.move rfl rfl ?_
          refine St.move rfl rfl ?_
          refine St.indexSl (e := 35) (sz := 1) rfl rfl rfl (by kernel_rfl) (by omega) ?_
          refine St.load rfl rfl (by kernel_rfl) (fun w hw => hld w hw.drop.drop) ?_
          refine St.append1 (e := 5) (sz := 1) (bytes := 1) (xs := bytes (bss.take i).flatten) (n := (bss.take i).flatten.length) (news := bytes (bss.getD i [])) (m := (bss.getD i []).length) rfl rfl rfl (by kernel_rfl) hbw (Rd.mono hpr0 (fun w hw => by first | exact hw | exact hw.drop | exact hw.drop.drop | exact hw.drop.drop.drop | exact hw.drop.drop.drop.drop | exact hw.drop.drop.drop.drop.drop | exact hw.drop.drop.drop.drop.drop.drop | exact hw.drop.drop.drop.drop.drop.drop.drop | exact hw.drop.drop.drop.drop.drop.drop.drop.drop | exact hw.drop.drop.drop.drop.drop.drop.drop.drop.drop | exact hw.drop.drop.drop.drop.drop.drop.drop.drop.drop.drop | exact hw.drop.drop.drop.drop.drop.drop.drop.drop.drop.drop.drop | exact hw.drop.drop.drop.drop.drop.drop.drop.drop.drop.drop.drop.drop | exact hw.drop.drop.drop.drop.drop.drop.drop.drop.drop.drop.drop.drop.drop)) (bytes_one _) (by omega) (by omega) (fun _ _ h => h.nil) (fun v4 E4 hb4 _ => ?_)
          rw [← bytes_app] at hb4
          refine St.assign rfl rfl ?_
          refine St.done ?_
          refine SX.blk ?_
          refine SX.seq ?_
          refine SC.plain ?_
          refine St.move rfl rfl ?_
          first | refine St.addN (b := 1) rfl rfl rfl (by omega) ?_ | refine St.addI rfl rfl rfl (by omega) ?_
          refine St.assign rfl rfl ?_
          refine St.done ?_
          exact SX.again (i + 1, v3, E3, v4, E4) ⟨by simp only; omega, by simp only; omega, by simp only; rw [hbo]; simp only [List.length_append] at hb3 ⊢; exact hb3, by simp only; rw [hfl, List.length_append]; exact hb4, by simp only; rw [hbo, List.length_append, List.length_append]; show _ + 5 + _ ≤ _; omega, by simp only; rw [hfl, List.length_append]; omega, by simp only; rw [hs1]; intro l hl3; rcases List.mem_append.1 hl3 with h | h; exact hsm l h; rw [List.mem_singleton.1 h]; omega⟩ (by simp only; omega) ⟨rfl, rfl, rfl, rfl, rfl, trivial⟩ (List.Perm.refl _)
      · refine SC.exit ?_
        refine SX.seq_exit ?_
        refine SX.seq_exit ?_
        refine SX.hit ?_
        exact SX.some (i, vb, Eb, vw, Ew) ⟨hi10, hbb, hbw, hlb, hlw, hsm⟩ ⟨rfl, rfl, rfl, trivial⟩ (List.Perm.refl _)
    · refine St.guard_no rfl rfl rfl ?_
      refine St.guard_no rfl rfl rfl ?_
      refine St.pick_false rfl rfl rfl ?_
      refine St.done ?_
      refine SX.seq ?_
      refine SC.cond_false rfl ?_
      refine SC.exit ?_
      refine SX.seq_exit ?_
      refine SX.seq_exit ?_
      refine SX.hit ?_
      exact SX.some (i, vb, Eb, vw, Ew) ⟨hi10, hbb, hbw, hlb, hlw, hsm⟩ ⟨rfl, rfl, rfl, trivial⟩ (List.Perm.refl _)
end Go.Proofs.Ytahafepgmkiabaa
