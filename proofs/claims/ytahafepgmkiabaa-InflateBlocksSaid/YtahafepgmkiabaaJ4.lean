/- Walks: inflating: the blocks of fixed and of told codes. -/
import Derived.Test.YtahafepgmkiabaaJ3
set_option linter.unusedVariables false
set_option linter.unusedSimpArgs false
set_option linter.ambiguousOpen false
namespace Go.Proofs.Ytahafepgmkiabaa
open Go Go.Proofs.Ytahafepgmkiabaa.Sep Go.Proofs.Ytahafepgmkiabaa.Inf

def litAt (j : Nat) : Int := if j < 144 then 8 else if j < 256 then 9 else if j < 280 then 7 else 8
def fillL (f : Nat → Int) (n i : Nat) : List Int := (List.range i).map f ++ List.replicate (n - i) 0
theorem fill_zero (f : Nat → Int) (n : Nat) : ints (fillL f n 0) = List.replicate n (.int .i64 0) := by simp [fillL, ints]
theorem fill_length (f : Nat → Int) (n i : Nat) (h : i ≤ n) : (fillL f n i).length = n := by simp [fillL]; omega
theorem fill_set (f : Nat → Int) (n i : Nat) (h : i < n) (x : Int) (hx : x = f i) : (ints (fillL f n i)).set i (.int .i64 x) = ints (fillL f n (i + 1)) := by
  unfold fillL ints
  rw [← List.map_set, List.set_append_right _ _ (by simp), hx, List.length_map, List.length_range, Nat.sub_self, show n - i = (n - (i + 1)) + 1 by omega, List.replicate_succ, List.set_cons_zero, List.range_succ]
  simp
theorem fill_lit : fillL litAt 288 288 = fixedLit := by kernel_rfl
theorem fill_dist : fillL (fun _ => 5) 32 32 = fixedDist := by kernel_rfl
theorem lit_codes : codesE fixedLit = 0 := by kernel_rfl
theorem dist_codes : codesE fixedDist = 0 := by kernel_rfl
theorem lit_len : fixedLit.length = 288 := by kernel_rfl
theorem dist_len : fixedDist.length = 32 := by kernel_rfl
/-- What a method of a reader did, with a frame that is let go. -/
theorem SX.drops {α : Type} {fn : Func} {env : Env} {w0 : World} {p q : Nat} {rv ov : Value} {at_ most : Nat} {Eo : Chunk} {L1 L : List Chunk} {g : Got α} {bs : List Nat} {t : Tmp} {o : List Nat} {a : α} (C : Cx) (hC : C.w0 = w0) (hs : L.Sublist L1) (hr : fn.results = #[.tmp t]) (hv : lk env t = some (.int .i64 0))
    (hg : g = .ok a at_ o) (hR : RIn w0 L rv bs most at_ o ov Eo) : SX C .ret (Fin C.P fn C.w0 (AnsE w0 g p q rv bs most L)) env (RdL p q rv ov at_ most Eo L1) := by
  subst hC
  refine SX.weak (RdL p q rv ov at_ most Eo L) (.cons_cons _ (.cons_cons _ (.cons_cons _ hs))) ?_
  exact SX.ret1 hr hv (AnsE.ok hg hR)

theorem ifixed_spec (w0 : World) (L : List Chunk) (p q : Nat) (rv ov : Value) (bs : List Nat) (most at_ : Nat) (out : List Nat) (Eo : Chunk) (hR : RIn w0 L rv bs most at_ out ov Eo) (F : Nat) (hF : 8 * bs.length - at_ < F) :
    Meets Try.prog 172 #[.pointer (some ⟨p, 0, none⟩)] w0 (RdL p q rv ov at_ most Eo L) (AnsE w0 (codedR fixedLit fixedDist F bs most at_ out) p q rv bs most L) := by
  have hx := hR.rd
  have hl := hR.len
  have hb := hR.lt
  have hat := hR.at_
  have hmost := hR.big
  have hroom := hR.room
  refine Meets.of_body [.pointer (some ⟨p, 0, none⟩)] Try.func172 rfl Try.ntmps172 rfl ?_
  refine SC.seq ?_
  refine SC.plain ?_
  refine St.assign rfl rfl ?_
  refine St.done ?_
  refine SX.seq ?_
  refine SC.seq ?_
  refine SC.plain ?_
  refine St.makeSl (e := 3) (zv := .int .i64 0) (bytes := 8) (l := 288) (c := 288) rfl rfl rfl (by kernel_rfl) ⟨by omega, by omega⟩ (by omega) (by omega) (fun _ _ h => h.nil) (fun b3 => ?_)
  refine St.assign rfl rfl ?_
  refine St.done ?_
  refine SX.seq ?_
  refine SC.seq ?_
  refine SC.seq ?_
  refine SC.plain ?_
  refine St.move rfl rfl ?_
  refine St.lenSl rfl rfl (by kernel_rfl) ?_
  refine St.move rfl rfl ?_
  refine St.done ?_
  refine SX.seq ?_
  refine SC.block ?_
  refine SC.loop (α := Nat) (fun i => i ≤ 288) (fun i => [(0, .pointer (some ⟨p, 0, none⟩)), (3, .slice (some ⟨b3, 0, none⟩) 288 288), (13, .int .i64 288), (14, .int .i64 ((i : Nat) : Int))]) (fun i => [⟨b3, ints (fillL litAt 288 i), 3⟩] :: RdL p q rv ov at_ most Eo L) (fun i => 288 - i) 0 (Nat.zero_le _) ⟨rfl, rfl, rfl, rfl, trivial⟩ (by rw [fill_zero]; exact List.Perm.refl _) ?_
  intro i hi
  have hfl := fill_length litAt 288 i hi
  refine SC.seq ?_
  refine SC.plain ?_
  refine St.lss rfl rfl rfl ?_
  refine St.done ?_
  refine SX.seq ?_
  refine SC.seq ?_
  refine SC.condp rfl (fun c15 => ?_) (fun c15 => ?_)
  · have hlt : i < 288 := by omega
    refine SC.skip ?_
    refine SX.seq ?_
    refine SC.seq ?_
    refine SC.block ?_
    refine SC.seq ?_
    refine SC.plain ?_
    refine St.move rfl rfl ?_
    refine St.assign rfl rfl ?_
    refine St.done ?_
    refine SX.seq ?_
    refine SC.block ?_
    refine SC.seq ?_
    refine SC.plain ?_
    refine St.move rfl rfl ?_
    refine St.lss rfl rfl rfl ?_
    refine St.assign rfl rfl ?_
    refine St.done ?_
    refine SX.seq ?_
    refine SC.condp rfl (fun c20 => ?_) (fun c20 => ?_)
    · refine SC.plain ?_
      refine St.move rfl rfl ?_
      refine St.move rfl rfl ?_
      refine St.indexSl (e := 3) (sz := 1) rfl rfl rfl (by kernel_rfl) (by omega) ?_
      refine St.store rfl rfl rfl rfl (by kernel_rfl) (by rw [ints_length, fill_length _ _ _ hi]; omega) (fun _ h => h.nil) ?_
      rw [show 0 + ((i : Nat) : Int).toNat * 1 = i by omega, fill_set litAt 288 i hlt _ (by unfold litAt; first | rw [if_pos (by omega)] | rw [if_neg (by omega), if_pos (by omega)] | rw [if_neg (by omega), if_neg (by omega), if_pos (by omega)] | rw [if_neg (by omega), if_neg (by omega), if_neg (by omega)])]
      refine St.done ?_
      refine SX.blk ?_
      refine SX.blk ?_
      refine SX.seq ?_
      refine SC.plain ?_
      first | refine St.addN (b := 1) rfl rfl rfl (by omega) ?_ | refine St.addI rfl rfl rfl (by omega) ?_
      refine St.move rfl rfl ?_
      refine St.done ?_
      exact SX.again (i + 1) (by omega) (by show 288 - (i + 1) < 288 - i; omega) ⟨rfl, rfl, rfl, rfl, trivial⟩ (List.Perm.refl _)
    · refine SC.seq ?_
      refine SC.plain ?_
      refine St.move rfl rfl ?_
      refine St.lss rfl rfl rfl ?_
      refine St.assign rfl rfl ?_
      refine St.done ?_
      refine SX.seq ?_
      refine SC.condp rfl (fun c26 => ?_) (fun c26 => ?_)
      · refine SC.plain ?_
        refine St.move rfl rfl ?_
        refine St.move rfl rfl ?_
        refine St.indexSl (e := 3) (sz := 1) rfl rfl rfl (by kernel_rfl) (by omega) ?_
        refine St.store rfl rfl rfl rfl (by kernel_rfl) (by rw [ints_length, fill_length _ _ _ hi]; omega) (fun _ h => h.nil) ?_
        rw [show 0 + ((i : Nat) : Int).toNat * 1 = i by omega, fill_set litAt 288 i hlt _ (by unfold litAt; first | rw [if_pos (by omega)] | rw [if_neg (by omega), if_pos (by omega)] | rw [if_neg (by omega), if_neg (by omega), if_pos (by omega)] | rw [if_neg (by omega), if_neg (by omega), if_neg (by omega)])]
        refine St.done ?_
        refine SX.blk ?_
        refine SX.blk ?_
        refine SX.seq ?_
        refine SC.plain ?_
        first | refine St.addN (b := 1) rfl rfl rfl (by omega) ?_ | refine St.addI rfl rfl rfl (by omega) ?_
        refine St.move rfl rfl ?_
        refine St.done ?_
        exact SX.again (i + 1) (by omega) (by show 288 - (i + 1) < 288 - i; omega) ⟨rfl, rfl, rfl, rfl, trivial⟩ (List.Perm.refl _)
      · refine SC.seq ?_
        refine SC.plain ?_
        refine St.move rfl rfl ?_
        refine St.lss rfl rfl rfl ?_
        refine St.assign rfl rfl ?_
        refine St.done ?_
        refine SX.seq ?_
        refine SC.condp rfl (fun c32 => ?_) (fun c32 => ?_)
        · refine SC.plain ?_
          refine St.move rfl rfl ?_
          refine St.move rfl rfl ?_
          refine St.indexSl (e := 3) (sz := 1) rfl rfl rfl (by kernel_rfl) (by omega) ?_
          refine St.store rfl rfl rfl rfl (by kernel_rfl) (by rw [ints_length, fill_length _ _ _ hi]; omega) (fun _ h => h.nil) ?_
          rw [show 0 + ((i : Nat) : Int).toNat * 1 = i by omega, fill_set litAt 288 i hlt _ (by unfold litAt; first | rw [if_pos (by omega)] | rw [if_neg (by omega), if_pos (by omega)] | rw [if_neg (by omega), if_neg (by omega), if_pos (by omega)] | rw [if_neg (by omega), if_neg (by omega), if_neg (by omega)])]
          refine St.done ?_
          refine SX.blk ?_
          refine SX.blk ?_
          refine SX.seq ?_
          refine SC.plain ?_
          first | refine St.addN (b := 1) rfl rfl rfl (by omega) ?_ | refine St.addI rfl rfl rfl (by omega) ?_
          refine St.move rfl rfl ?_
          refine St.done ?_
          exact SX.again (i + 1) (by omega) (by show 288 - (i + 1) < 288 - i; omega) ⟨rfl, rfl, rfl, rfl, trivial⟩ (List.Perm.refl _)
        · refine SC.plain ?_
          refine St.move rfl rfl ?_
          refine St.move rfl rfl ?_
          refine St.indexSl (e := 3) (sz := 1) rfl rfl rfl (by kernel_rfl) (by omega) ?_
          refine St.store rfl rfl rfl rfl (by kernel_rfl) (by rw [ints_length, fill_length _ _ _ hi]; omega) (fun _ h => h.nil) ?_
          rw [show 0 + ((i : Nat) : Int).toNat * 1 = i by omega, fill_set litAt 288 i hlt _ (by unfold litAt; first | rw [if_pos (by omega)] | rw [if_neg (by omega), if_pos (by omega)] | rw [if_neg (by omega), if_neg (by omega), if_pos (by omega)] | rw [if_neg (by omega), if_neg (by omega), if_neg (by omega)])]
          refine St.done ?_
          refine SX.blk ?_
          refine SX.blk ?_
          refine SX.seq ?_
          refine SC.plain ?_
          first | refine St.addN (b := 1) rfl rfl rfl (by omega) ?_ | refine St.addI rfl rfl rfl (by omega) ?_
          refine St.move rfl rfl ?_
          refine St.done ?_
          exact SX.again (i + 1) (by omega) (by show 288 - (i + 1) < 288 - i; omega) ⟨rfl, rfl, rfl, rfl, trivial⟩ (List.Perm.refl _)
  · obtain rfl : i = 288 := by omega
    rw [fill_lit]
    refine SC.exit ?_
    refine SX.seq_exit ?_
    refine SX.seq_exit ?_
    refine SX.hit ?_
    refine SX.seq ?_
    refine SC.seq ?_
    refine SC.plain ?_
    refine St.makeSl (e := 3) (zv := .int .i64 0) (bytes := 8) (l := 32) (c := 32) rfl rfl rfl (by kernel_rfl) ⟨by omega, by omega⟩ (by omega) (by omega) (fun _ _ h => h.nil) (fun b5 => ?_)
    refine St.assign rfl rfl ?_
    refine St.done ?_
    refine SX.seq ?_
    refine SC.seq ?_
    refine SC.seq ?_
    refine SC.plain ?_
    refine St.move rfl rfl ?_
    refine St.lenSl rfl rfl (by kernel_rfl) ?_
    refine St.move rfl rfl ?_
    refine St.done ?_
    refine SX.seq ?_
    refine SC.block ?_
    refine SC.loop (α := Nat) (fun i => i ≤ 32) (fun i => [(0, .pointer (some ⟨p, 0, none⟩)), (3, .slice (some ⟨b3, 0, none⟩) 288 288), (5, .slice (some ⟨b5, 0, none⟩) 32 32), (41, .int .i64 32), (42, .int .i64 ((i : Nat) : Int))]) (fun i => [⟨b5, ints (fillL (fun _ => 5) 32 i), 3⟩] :: [⟨b3, ints fixedLit, 3⟩] :: RdL p q rv ov at_ most Eo L) (fun i => 32 - i) 0 (Nat.zero_le _) ⟨rfl, rfl, rfl, rfl, rfl, trivial⟩ (by rw [fill_zero]; exact List.Perm.refl _) ?_
    intro i hi
    refine SC.seq ?_
    refine SC.plain ?_
    refine St.lss rfl rfl rfl ?_
    refine St.done ?_
    refine SX.seq ?_
    refine SC.seq ?_
    refine SC.condp rfl (fun c43 => ?_) (fun c43 => ?_)
    · have hlt : i < 32 := by omega
      refine SC.skip ?_
      refine SX.seq ?_
      refine SC.seq ?_
      refine SC.block ?_
      refine SC.seq ?_
      refine SC.plain ?_
      refine St.move rfl rfl ?_
      refine St.assign rfl rfl ?_
      refine St.done ?_
      refine SX.seq ?_
      refine SC.plain ?_
      refine St.move rfl rfl ?_
      refine St.move rfl rfl ?_
      refine St.indexSl (e := 3) (sz := 1) rfl rfl rfl (by kernel_rfl) (by omega) ?_
      refine St.store rfl rfl rfl rfl (by kernel_rfl) (by rw [ints_length, fill_length _ _ _ hi]; omega) (fun _ h => h.nil) ?_
      rw [show 0 + ((i : Nat) : Int).toNat * 1 = i by omega, fill_set (fun _ => 5) 32 i hlt _ (by rfl)]
      refine St.done ?_
      refine SX.blk ?_
      refine SX.seq ?_
      refine SC.plain ?_
      first | refine St.addN (b := 1) rfl rfl rfl (by omega) ?_ | refine St.addI rfl rfl rfl (by omega) ?_
      refine St.move rfl rfl ?_
      refine St.done ?_
      exact SX.again (i + 1) (by omega) (by show 32 - (i + 1) < 32 - i; omega) ⟨rfl, rfl, rfl, rfl, rfl, trivial⟩ (List.Perm.refl _)
    · obtain rfl : i = 32 := by omega
      rw [fill_dist]
      refine SC.exit ?_
      refine SX.seq_exit ?_
      refine SX.seq_exit ?_
      refine SX.hit ?_
      refine SX.seq ?_
      refine SC.seq ?_
      refine SC.plain ?_
      refine St.move rfl rfl ?_
      refine St.call [_] rfl (by kernel_rfl) rfl (new_spec w0 _ (.slice (some ⟨b3, 0, none⟩) 288 288) fixedLit (by rw [lit_len]; exact Rd.row (by rw [ints_length, lit_len]) mem1) (by rw [lit_len]; decide)) (fun _ _ _ _ h => h.nil) ?_
      rintro r1 L1 (⟨he, _, _⟩ | ⟨he, p1, E1, rfl, hE1, rfl⟩)
      · exact absurd lit_codes he
      · refine St.move rfl rfl ?_
        refine St.extract rfl rfl rfl ?_
        refine St.extract rfl rfl rfl ?_
        refine St.assign rfl rfl ?_
        refine St.assign rfl rfl ?_
        refine St.done ?_
        refine SX.seq ?_
        refine SC.seq ?_
        refine SC.plain ?_
        refine St.move rfl rfl ?_
        refine St.call [_] rfl (by kernel_rfl) rfl (new_spec w0 _ (.slice (some ⟨b5, 0, none⟩) 32 32) fixedDist ((show Rd w0 ([⟨b5, ints fixedDist, 3⟩] :: [⟨b3, ints fixedLit, 3⟩] :: RdL p q rv ov at_ most Eo L) (.slice (some ⟨b5, 0, none⟩) 32 32) 1 fixedDist.length (ints fixedDist) by rw [dist_len]; exact Rd.row (by rw [ints_length, dist_len]) mem0).mono fun w hw => Own.right E1 hw) (by rw [dist_len]; decide)) (fun _ _ _ _ h => h.nil) ?_
        rintro r2 L2 (⟨he2, _, _⟩ | ⟨he2, p2, E2, rfl, hE2, rfl⟩)
        · exact absurd dist_codes he2
        · refine St.move rfl rfl ?_
          refine St.extract rfl rfl rfl ?_
          refine St.extract rfl rfl rfl ?_
          refine St.assign rfl rfl ?_
          refine St.assign rfl rfl ?_
          refine St.done ?_
          refine SX.seq ?_
          refine SC.seq ?_
          refine SC.plain ?_
          refine St.move rfl rfl ?_
          refine St.move rfl rfl ?_
          refine St.move rfl rfl ?_
          refine St.weak (E2 ++ (E1 ++ RdL p q rv ov at_ most Eo L)) (((List.Sublist.refl _).cons _).cons _ |>.append_left E1 |>.append_left E2) ?_
          rw [← List.append_assoc]
          refine St.perm (RdL p q rv ov at_ most Eo ((E2 ++ E1) ++ L)) (perm_front3 _ _ _ _ _) ?_
          refine St.call [_, _, _] rfl (by kernel_rfl) rfl (isymbols_spec w0 ((E2 ++ E1) ++ L) p q rv ov bs most at_ out Eo (hR.on (hx.mono fun w hw => Own.right _ hw)) p1 p2 fixedLit fixedDist lit_codes (by rw [List.append_assoc]; exact (hE1.rd lit_codes).mono fun w hw => Own.right _ hw) dist_codes (by rw [List.append_assoc]; exact hE2.rd dist_codes) F hF) (fun _ _ _ _ h => h.nil) ?_
          rintro r5 L5 h5
          rcases h5.cases with ⟨a5, t5, o5, v5, E5, hg5, rfl, hR5, rfl⟩ | ⟨e, hg5, rfl, hne, rfl⟩
          · refine St.assign rfl rfl ?_
            refine St.done ?_
            refine SX.seq ?_
            refine SC.ret ?_
            exact SX.drops _ rfl (List.sublist_append_right _ L) rfl rfl hg5 (hR5.on hx)
          · refine St.assign rfl rfl ?_
            refine St.done ?_
            refine SX.seq ?_
            refine SC.ret ?_
            refine SX.weak L (List.sublist_append_right _ L) ?_
            exact SX.ret1 rfl rfl (AnsE.bad hg5 hne)
def dynEnd (f lit : Nat) (l : List Int) : Rdr Unit := if l.getD 256 0 ≠ 0 ∧ wholeOk false (l.take (lit + 257)) ∧ wholeOk true (l.drop (lit + 257)) then codedR (l.take (lit + 257)) (l.drop (lit + 257)) f else failR 3
def dynRest (f lit dist : Nat) (own : List Int) : Rdr Unit := if wholeOk false own then bindR (lengthsR own (lit + 257 + dist + 1) 400 []) (dynEnd f lit) else failR 3
theorem dyn_eq (f : Nat) (bs : List Nat) (most p : Nat) (o : List Nat) : dynamicR f bs most p o = bindR (takeR 5) (fun lit => if 286 < lit + 257 then failR 3 else bindR (takeR 5) fun dist => if 30 < dist + 1 then failR 3 else bindR (takeR 4) fun n => bindR (ownR (orderL.take (n + 4)) (List.replicate 19 0)) (dynRest f lit dist)) bs most p o := rfl
theorem own_bind {β : Type} (i : Nat) (r : List Nat) (l : List Int) (g : List Int → Rdr β) (bs : List Nat) (most p : Nat) (o : List Nat) : bindR (ownR (i :: r) l) g bs most p o = bindR (takeR 3) (fun v => bindR (ownR r (l.set i (v : Int))) g) bs most p o := by
  simp only [ownR, bindR]
  cases takeR 3 bs most p o <;> rfl
theorem own_nil {β : Type} (l : List Int) (g : List Int → Rdr β) (bs : List Nat) (most p : Nat) (o : List Nat) : bindR (ownR [] l) g bs most p o = g l bs most p o := rfl
theorem order_drop (n k : Nat) (h : k < n) (hn : n ≤ 19) : (orderL.take n).drop k = orderL.getD k 0 :: (orderL.take n).drop (k + 1) := by
  have hk : k < (orderL.take n).length := by rw [List.length_take]; show k < min n 19; omega
  rw [List.drop_eq_getElem_cons hk, List.getElem_take, List.getD_eq_getElem?_getD, List.getElem?_eq_getElem (by rw [List.length_take] at hk; omega)]; rfl
theorem order_at : ∀ k, k < 19 → orderI.getD k 0 = ((orderL.getD k 0 : Nat) : Int) ∧ orderL.getD k 0 < 19 := by decide
theorem ints_set (l : List Int) (i : Nat) (x : Int) : (ints l).set i (.int .i64 x) = ints (l.set i x) := by
  unfold ints; rw [List.map_set]
theorem lengths_len {own : List Int} {n : Nat} : ∀ (f : Nat) {l0 l : List Int} {bs : List Nat} {most p p' : Nat} {o o' : List Nat}, l0.length ≤ n → lengthsR own n f l0 bs most p o = .ok l p' o' → l.length = n
  | 0, _, _, _, _, _, _, _, _, _, h => by simp [lengthsR, failR] at h
  | f + 1, l0, l, bs, most, p, p', o, o', hl, h => by
    rw [lengths_succ] at h
    split at h
    · rename_i hlt
      obtain ⟨s, p1, o1, h1, h2⟩ := bind_ok h
      split at h2
      · exact lengths_len f (by rw [List.length_append, List.length_singleton]; omega) h2
      · obtain ⟨m, p2, o2, h3, h4⟩ := bind_ok h2
        generalize (if s = 18 then 11 else 3) = K at h4
        generalize (if s = 16 then l0.getD (l0.length - 1) 0 else 0) = X at h4
        split at h4
        · simp [failR] at h4
        · rename_i hno
          exact lengths_len f (by rw [List.length_append, List.length_replicate]; omega) h4
    · simp only [pureR, Got.ok.injEq] at h
      rw [← h.1]; omega

theorem idynamic_spec (w0 : World) (L : List Chunk) (p q : Nat) (rv ov : Value) (bs : List Nat) (most at_ : Nat) (out : List Nat) (Eo : Chunk) (hR : RIn w0 L rv bs most at_ out ov Eo) (F : Nat) (hF : 8 * bs.length - at_ < F) :
    Meets Try.prog 173 #[.pointer (some ⟨p, 0, none⟩)] w0 (RdL p q rv ov at_ most Eo L) (AnsE w0 (dynamicR F bs most at_ out) p q rv bs most L) := by
  have hx := hR.rd
  have hl := hR.len
  have hb := hR.lt
  have hat := hR.at_
  have hmost := hR.big
  have hroom := hR.room
  have hm0 := dyn_eq F bs most at_ out
  refine Meets.of_body [.pointer (some ⟨p, 0, none⟩)] Try.func173 rfl Try.ntmps173 rfl ?_
  refine SC.seq ?_
  refine SC.plain ?_
  refine St.assign rfl rfl ?_
  refine St.done ?_
  refine SX.seq ?_
  refine SC.seq ?_
  refine SC.plain ?_
  refine St.move rfl rfl ?_
  refine St.call [_, _] rfl (by kernel_rfl) rfl (itake_spec w0 L p q rv ov bs most at_ out Eo hR 5 (by omega)) (fun _ _ _ _ h => h.nil) ?_
  rintro r1 L1 h1
  rcases h1.cases with ⟨a1, t1, o1, v1, E1, hg1, rfl, hR1, rfl⟩ | ⟨e, hg1, rfl, hne, rfl⟩
  · have hm1 := hm0.trans (bind_of hg1)
    have ha1 := takeR_lt hg1
    refine St.move rfl rfl ?_
    refine St.extract rfl rfl rfl ?_
    refine St.extract rfl rfl rfl ?_
    refine St.assign rfl rfl ?_
    refine St.assign rfl rfl ?_
    refine St.done ?_
    refine SX.seq ?_
    refine SC.seq ?_
    refine SC.seq ?_
    refine SC.plain ?_
    refine St.move rfl rfl ?_
    refine St.neq rfl rfl rfl ?_
    refine St.done ?_
    refine SX.seq ?_
    refine SC.condp rfl (fun c21 => ?_) (fun c21 => ?_)
    · exfalso; omega
    · refine SC.skip ?_
      refine SX.seq ?_
      refine SC.seq ?_
      refine SC.seq ?_
      refine SC.plain ?_
      refine St.move rfl rfl ?_
      first | refine St.addN (b := 257) rfl rfl rfl (by omega) ?_ | refine St.addI rfl rfl rfl (by omega) ?_
      refine St.gtr rfl rfl rfl ?_
      refine St.done ?_
      refine SX.seq ?_
      refine SC.condp rfl (fun c25 => ?_) (fun c25 => ?_)
      · have hm := hm1.trans (ifR_pos (by omega))
        refine SC.seq ?_
        refine SC.plain ?_
        refine St.assign rfl rfl ?_
        refine St.done ?_
        refine SX.seq ?_
        refine SC.ret ?_
        refine SX.seq_ret ?_
        refine SX.weak L (by (try simp only [RdL]); repeat (first | exact List.Sublist.refl _ | apply List.Sublist.cons | apply List.sublist_append_of_sublist_right)) ?_
        exact SX.ret1 rfl rfl (AnsE.bad hm (by first | assumption | decide))
      · have hm2 := hm1.trans (ifR_neg (by omega))
        refine SC.skip ?_
        refine SX.seq ?_
        refine SC.seq ?_
        refine SC.plain ?_
        refine St.move rfl rfl ?_
        refine St.call [_, _] rfl (by kernel_rfl) rfl (itake_spec w0 L p q rv v1 bs most t1 o1 E1 hR1 5 (by omega)) (fun _ _ _ _ h => h.nil) ?_
        rintro r2 L2 h2
        rcases h2.cases with ⟨a2, t2, o2, v2, E2, hg2, rfl, hR2, rfl⟩ | ⟨e, hg2, rfl, hne, rfl⟩
        · have hm3 := hm2.trans (bind_of hg2)
          have ha2 := takeR_lt hg2
          refine St.move rfl rfl ?_
          refine St.extract rfl rfl rfl ?_
          refine St.extract rfl rfl rfl ?_
          refine St.assign rfl rfl ?_
          refine St.assign rfl rfl ?_
          refine St.done ?_
          refine SX.seq ?_
          refine SC.seq ?_
          refine SC.seq ?_
          refine SC.plain ?_
          refine St.move rfl rfl ?_
          refine St.neq rfl rfl rfl ?_
          refine St.done ?_
          refine SX.seq ?_
          refine SC.condp rfl (fun c32 => ?_) (fun c32 => ?_)
          · exfalso; omega
          · refine SC.skip ?_
            refine SX.seq ?_
            refine SC.seq ?_
            refine SC.seq ?_
            refine SC.plain ?_
            refine St.move rfl rfl ?_
            first | refine St.addN (b := 1) rfl rfl rfl (by omega) ?_ | refine St.addI rfl rfl rfl (by omega) ?_
            refine St.gtr rfl rfl rfl ?_
            refine St.done ?_
            refine SX.seq ?_
            refine SC.condp rfl (fun c36 => ?_) (fun c36 => ?_)
            · have hm := hm3.trans (ifR_pos (by omega))
              refine SC.seq ?_
              refine SC.plain ?_
              refine St.assign rfl rfl ?_
              refine St.done ?_
              refine SX.seq ?_
              refine SC.ret ?_
              refine SX.seq_ret ?_
              refine SX.weak L (by (try simp only [RdL]); repeat (first | exact List.Sublist.refl _ | apply List.Sublist.cons | apply List.sublist_append_of_sublist_right)) ?_
              exact SX.ret1 rfl rfl (AnsE.bad hm (by first | assumption | decide))
            · have hm4 := hm3.trans (ifR_neg (by omega))
              refine SC.skip ?_
              refine SX.seq ?_
              refine SC.seq ?_
              refine SC.plain ?_
              refine St.move rfl rfl ?_
              refine St.call [_, _] rfl (by kernel_rfl) rfl (itake_spec w0 L p q rv v2 bs most t2 o2 E2 hR2 4 (by omega)) (fun _ _ _ _ h => h.nil) ?_
              rintro r3 L3 h3
              rcases h3.cases with ⟨a3, t3, o3, v3, E3, hg3, rfl, hR3, rfl⟩ | ⟨e, hg3, rfl, hne, rfl⟩
              · have hm5 := hm4.trans (bind_of hg3)
                have ha3 := takeR_lt hg3
                refine St.move rfl rfl ?_
                refine St.extract rfl rfl rfl ?_
                refine St.extract rfl rfl rfl ?_
                refine St.assign rfl rfl ?_
                refine St.assign rfl rfl ?_
                refine St.done ?_
                refine SX.seq ?_
                refine SC.seq ?_
                refine SC.seq ?_
                refine SC.plain ?_
                refine St.move rfl rfl ?_
                refine St.neq rfl rfl rfl ?_
                refine St.done ?_
                refine SX.seq ?_
                refine SC.condp rfl (fun c43 => ?_) (fun c43 => ?_)
                · exfalso; omega
                · refine SC.skip ?_
                  refine SX.seq ?_
                  refine SC.seq ?_
                  refine SC.plain ?_
                  refine St.makeSl (e := 3) (zv := .int .i64 0) (bytes := 8) (l := 19) (c := 19) rfl rfl rfl (by kernel_rfl) ⟨by omega, by omega⟩ (by omega) (by omega) (fun _ _ h => h.nil) (fun b7 => ?_)
                  refine St.assign rfl rfl ?_
                  refine St.done ?_
                  refine SX.seq ?_
                  refine SC.seq ?_
                  refine SC.plain ?_
                  refine St.call [] rfl (by kernel_rfl) rfl (iorder_spec w0 _) (fun _ _ _ _ h => h.nil) ?_
                  rintro r4 L1 ⟨rfl, rfl⟩
                  refine St.alloc (List.replicate 19 (.int .i64 0)) rfl (by kernel_rfl) (fun _ _ h => h.nil) (fun b8 => ?_)
                  refine St.storeN rfl rfl rfl (ints orderI) rfl (by kernel_rfl) (ints_one _) (by decide) (fun _ h => h.nil) ?_
                  rw [show splice (List.replicate 19 (.int .i64 0)) 0 (ints orderI) = ints orderI from rfl]
                  refine St.done ?_
                  refine SX.seq ?_
                  refine SC.seq ?_
                  refine SC.seq ?_
                  refine SC.plain ?_
                  refine St.move rfl rfl ?_
                  first | refine St.addN (b := 4) rfl rfl rfl (by omega) ?_ | refine St.addI rfl rfl rfl (by omega) ?_
                  refine St.cutArr (h := a3 + 4) (n := 19) (sz := 1) rfl rfl (by kernel_rfl) ⟨_, _, rfl, rfl⟩ (by omega) ?_
                  refine St.lenSl rfl rfl (by kernel_rfl) ?_
                  refine St.move rfl rfl ?_
                  refine St.done ?_
                  refine SX.seq ?_
                  refine SC.block ?_
                  refine SC.loop (α := Nat × Nat × List Nat × Value × Chunk × List Int) (fun s_ => s_.1 ≤ a3 + 4 ∧ RIn w0 L rv bs most s_.2.1 s_.2.2.1 s_.2.2.2.1 s_.2.2.2.2.1 ∧ s_.2.2.2.2.2.length = 19 ∧ dynamicR F bs most at_ out = bindR (ownR ((orderL.take (a3 + 4)).drop s_.1) s_.2.2.2.2.2) (dynRest F a1 a2) bs most s_.2.1 s_.2.2.1 ∧ at_ ≤ s_.2.1) (fun s_ => [(0, .pointer (some ⟨p, 0, none⟩)), (3, .int .i64 ((a1 : Nat) : Int)), (5, .int .i64 ((a2 : Nat) : Int)), (7, .slice (some ⟨b7, 0, none⟩) 19 19), (49, .slice (some ⟨b8, 0, none⟩) (a3 + 4) 19), (50, .int .i64 ((a3 + 4 : Nat) : Int)), (51, .int .i64 ((s_.1 : Nat) : Int))]) (fun s_ => RdL p q rv s_.2.2.2.1 s_.2.1 most s_.2.2.2.2.1 ([⟨b8, ints orderI, 254⟩] :: [⟨b7, ints s_.2.2.2.2.2, 3⟩] :: L)) (fun s_ => a3 + 4 - s_.1) (0, t3, o3, v3, E3, List.replicate 19 0) ⟨Nat.zero_le _, hR3, rfl, hm5, Nat.le_trans ((good_take _).mono hg1 hR.at_).1 (Nat.le_trans ((good_take _).mono hg2 hR1.at_).1 ((good_take _).mono hg3 hR2.at_).1)⟩ ⟨rfl, rfl, rfl, rfl, rfl, rfl, rfl, trivial⟩ (perm_front3 [_, _] _ _ _ _) ?_
                  rintro ⟨k, t, o, v, E, l⟩ ⟨hk, hRi, hl19, hmi, hati⟩
                  simp only at hk hRi hl19 hmi hati
                  show SC _ _ _ [(0, .pointer (some ⟨p, 0, none⟩)), (3, .int .i64 ((a1 : Nat) : Int)), (5, .int .i64 ((a2 : Nat) : Int)), (7, .slice (some ⟨b7, 0, none⟩) 19 19), (49, .slice (some ⟨b8, 0, none⟩) (a3 + 4) 19), (50, .int .i64 ((a3 + 4 : Nat) : Int)), (51, .int .i64 ((k : Nat) : Int))] (RdL p q rv v t most E ([⟨b8, ints orderI, 254⟩] :: [⟨b7, ints l, 3⟩] :: L))
                  refine SC.seq ?_
                  refine SC.plain ?_
                  refine St.lss rfl rfl rfl ?_
                  refine St.done ?_
                  refine SX.seq ?_
                  refine SC.seq ?_
                  refine SC.condp rfl (fun c52 => ?_) (fun c52 => ?_)
                  · have hlt : k < a3 + 4 := by omega
                    obtain ⟨hoa, hol⟩ := order_at k (by omega)
                    have hm6 := hmi
                    rw [order_drop (a3 + 4) k hlt (by omega), own_bind] at hm6
                    refine SC.skip ?_
                    refine SX.seq ?_
                    refine SC.seq ?_
                    refine SC.block ?_
                    refine SC.seq ?_
                    refine SC.plain ?_
                    refine St.indexSl (e := 3) (sz := 1) rfl rfl rfl (by kernel_rfl) (by omega) ?_
                    refine St.load rfl rfl (by kernel_rfl) ((HoldsN.of_row (cs := ints orderI) (e := 254) mem3).nat k (by show k < 19; omega)) ?_
                    rw [hoa]
                    refine St.assign rfl rfl ?_
                    refine St.done ?_
                    refine SX.seq ?_
                    refine SC.seq ?_
                    refine SC.plain ?_
                    refine St.move rfl rfl ?_
                    refine St.move rfl rfl ?_
                    refine St.move rfl rfl ?_
                    refine St.call [_, _] rfl (by kernel_rfl) rfl (itake_spec w0 ([⟨b8, ints orderI, 254⟩] :: [⟨b7, ints l, 3⟩] :: L) p q rv v bs most t o E (hRi.on (hx.cons.cons)) 3 (by omega)) (fun _ _ _ _ h => h.nil) ?_
                    rintro r4 L4 h4
                    rcases h4.cases with ⟨a4, t4, o4, v4, E4, hg4, rfl, hR4, rfl⟩ | ⟨e, hg4, rfl, hne, rfl⟩
                    · have hm7 := hm6.trans (bind_of hg4)
                      have ha4 := takeR_lt hg4
                      refine St.move rfl rfl ?_
                      refine St.extract rfl rfl rfl ?_
                      refine St.extract rfl rfl rfl ?_
                      refine St.indexSl (e := 3) (sz := 1) rfl rfl rfl (by kernel_rfl) (by omega) ?_
                      refine St.store4 rfl rfl rfl rfl (by kernel_rfl) (by rw [ints_length]; omega) (fun _ h => h.nil) ?_
                      rw [show 0 + ((orderL.getD k 0 : Nat) : Int).toNat * 1 = orderL.getD k 0 by omega]
                      show St _ _ _ _ _ _ (_ :: _ :: _ :: _ :: [⟨b7, (ints l).set (orderL.getD k 0) (.int .i64 ((a4 : Nat) : Int)), 3⟩] :: L)
                      rw [ints_set]
                      refine St.assign rfl rfl ?_
                      refine St.done ?_
                      refine SX.seq ?_
                      refine SC.seq ?_
                      refine SC.plain ?_
                      refine St.move rfl rfl ?_
                      refine St.neq rfl rfl rfl ?_
                      refine St.done ?_
                      refine SX.seq ?_
                      refine SC.condp rfl (fun c64 => ?_) (fun c64 => ?_)
                      · exfalso; omega
                      · refine SC.skip ?_
                        refine SX.blk ?_
                        refine SX.seq ?_
                        refine SC.plain ?_
                        first | refine St.addN (b := 1) rfl rfl rfl (by omega) ?_ | refine St.addI rfl rfl rfl (by omega) ?_
                        refine St.move rfl rfl ?_
                        refine St.done ?_
                        exact SX.again (k + 1, t4, o4, v4, E4, l.set (orderL.getD k 0) (a4 : Int)) ⟨by simp only; omega, hR4.on hx, by simp only [List.length_set]; exact hl19, hm7, Nat.le_trans hati ((good_take _).mono hg4 hRi.at_).1⟩ (by simp only; omega) ⟨rfl, rfl, rfl, rfl, rfl, rfl, rfl, trivial⟩ (List.Perm.refl _)
                    · have hm7 := hm6.trans (bind_bad hg4)
                      refine St.move rfl rfl ?_
                      refine St.extract rfl rfl rfl ?_
                      refine St.extract rfl rfl rfl ?_
                      refine St.indexSl (e := 3) (sz := 1) rfl rfl rfl (by kernel_rfl) (by omega) ?_
                      refine St.store1 rfl rfl rfl rfl (by kernel_rfl) (by rw [ints_length]; omega) (fun _ h => h.nil) ?_
                      refine St.assign rfl rfl ?_
                      refine St.done ?_
                      refine SX.seq ?_
                      refine SC.seq ?_
                      refine SC.plain ?_
                      refine St.move rfl rfl ?_
                      refine St.neq rfl rfl rfl ?_
                      refine St.done ?_
                      refine SX.seq ?_
                      refine SC.condp rfl (fun c64 => ?_) (fun c64 => ?_)
                      · refine SC.seq ?_
                        refine SC.plain ?_
                        refine St.move rfl rfl ?_
                        refine St.assign rfl rfl ?_
                        refine St.done ?_
                        refine SX.seq ?_
                        refine SC.ret ?_
                        refine SX.blk_ret ?_
                        refine SX.seq_ret ?_
                        refine SX.seq_ret ?_
                        refine SX.blk_ret ?_
                        refine SX.seq_ret ?_
                        refine SX.weak L (by (try simp only [RdL]); repeat (first | exact List.Sublist.refl _ | apply List.Sublist.cons | apply List.sublist_append_of_sublist_right)) ?_
                        exact SX.ret1 rfl rfl (AnsE.bad hm7 (by first | assumption | decide))
                      · exfalso; omega
                  · obtain rfl : k = a3 + 4 := by omega
                    rw [List.drop_of_length_le (by rw [List.length_take]; omega), own_nil] at hmi
                    refine SC.exit ?_
                    refine SX.seq_exit ?_
                    refine SX.seq_exit ?_
                    refine SX.hit ?_
                    refine SX.seq ?_
                    refine SC.seq ?_
                    refine SC.plain ?_
                    refine St.move rfl rfl ?_
                    refine St.call [_, _] rfl (by kernel_rfl) rfl (iwhole_spec w0 _ _ l false (by rw [hl19]; exact Rd.row (by rw [ints_length, hl19]) mem4) (by omega)) (fun _ _ _ _ h => h.nil) ?_
                    rintro r5 L5 (⟨hw1, hc1, p1, G1, rfl, hG1, rfl⟩ | ⟨hw1, rfl, rfl⟩)
                    · have hm8 := hmi.trans (ifR_pos hw1)
                      refine St.perm (RdL p q rv v t most E (G1 ++ ([⟨b8, ints orderI, 254⟩] :: [⟨b7, ints l, 3⟩] :: L))) (perm_front3 _ _ _ _ _) ?_
                      refine St.move rfl rfl ?_
                      refine St.extract rfl rfl rfl ?_
                      refine St.extract rfl rfl rfl ?_
                      refine St.assign rfl rfl ?_
                      refine St.assign rfl rfl ?_
                      refine St.done ?_
                      refine SX.seq ?_
                      refine SC.seq ?_
                      refine SC.seq ?_
                      refine SC.plain ?_
                      refine St.move rfl rfl ?_
                      refine St.neq rfl rfl rfl ?_
                      refine St.done ?_
                      refine SX.seq ?_
                      refine SC.condp rfl (fun c73 => ?_) (fun c73 => ?_)
                      · exfalso; omega
                      · refine SC.skip ?_
                        refine SX.seq ?_
                        refine SC.seq ?_
                        refine SC.plain ?_
                        refine St.move rfl rfl ?_
                        refine St.move rfl rfl ?_
                        refine St.move rfl rfl ?_
                        first | refine St.addN (b := 257) rfl rfl rfl (by omega) ?_ | refine St.addI rfl rfl rfl (by omega) ?_
                        refine St.move rfl rfl ?_
                        first | refine St.addN rfl rfl rfl (by omega) ?_ | refine St.addI rfl rfl rfl (by omega) ?_
                        first | refine St.addN (b := 1) rfl rfl rfl (by omega) ?_ | refine St.addI rfl rfl rfl (by omega) ?_
                        refine St.call [_, _, _] rfl (by kernel_rfl) rfl (ilengths_spec w0 (G1 ++ ([⟨b8, ints orderI, 254⟩] :: [⟨b7, ints l, 3⟩] :: L)) p q rv v bs most t o E (hRi.on (hx.mono fun w hw => (Own.right G1 hw).drop.drop)) p1 (a1 + 257 + a2 + 1) l (by omega) hl19 hc1 (hG1.rd hc1) 400 (by omega)) (fun _ _ _ _ h => h.nil) ?_
                        rintro r6 L6 h6
                        rcases h6.cases with ⟨l2, t6, o6, vl, El, v6, E6, hg6, rfl, hbl, hR6, rfl⟩ | ⟨e, hg6, rfl, hne, rfl⟩
                        · have hm9 := hm8.trans (bind_of hg6)
                          have hl2 := lengths_len 400 (Nat.zero_le _) hg6
                          have hati6 := ((good_lengths _ _ _ _).mono hg6 hRi.at_).1
                          have hrl : Rd w0 (RdL p q rv v6 t6 most E6 (El :: (G1 ++ ([⟨b8, ints orderI, 254⟩] :: [⟨b7, ints l, 3⟩] :: L)))) vl 1 l2.length (ints l2) := hbl.rd (by simp [RdL])
                          have hcl := hbl.cap
                          obtain ⟨bl, ol, Al, cl, rfl, hAl, hrr⟩ := hbl.read
                          obtain rfl := hAl (by omega)
                          refine St.move rfl rfl ?_
                          refine St.extract rfl rfl rfl ?_
                          refine St.extract rfl rfl rfl ?_
                          refine St.assign rfl rfl ?_
                          refine St.assign rfl rfl ?_
                          refine St.done ?_
                          refine SX.seq ?_
                          refine SC.seq ?_
                          refine SC.seq ?_
                          refine SC.plain ?_
                          refine St.move rfl rfl ?_
                          refine St.neq rfl rfl rfl ?_
                          refine St.done ?_
                          refine SX.seq ?_
                          refine SC.condp rfl (fun c87 => ?_) (fun c87 => ?_)
                          · exfalso; omega
                          · refine SC.skip ?_
                            refine SX.seq ?_
                            refine SC.seq ?_
                            refine SC.seq ?_
                            refine SC.plain ?_
                            refine St.move rfl rfl ?_
                            refine St.indexSl (e := 3) (sz := 1) rfl rfl rfl (by kernel_rfl) (by omega) ?_
                            refine St.load rfl rfl (by kernel_rfl) ((hrr w0 _ (.tail _ (.tail _ (.tail _ (.head _))))).nat 256 (by omega)) ?_
                            refine St.eql rfl rfl rfl ?_
                            refine St.done ?_
                            refine SX.seq ?_
                            refine SC.condp rfl (fun c92 => ?_) (fun c92 => ?_)
                            · have hm := hm9.trans (ifR_neg (fun h => h.1 c92))
                              refine SC.seq ?_
                              refine SC.plain ?_
                              refine St.assign rfl rfl ?_
                              refine St.done ?_
                              refine SX.seq ?_
                              refine SC.ret ?_
                              refine SX.seq_ret ?_
                              refine SX.weak L (by (try simp only [RdL]); repeat (first | exact List.Sublist.refl _ | apply List.Sublist.cons | apply List.sublist_append_of_sublist_right)) ?_
                              exact SX.ret1 rfl rfl (AnsE.bad hm (by first | assumption | decide))
                            · refine SC.skip ?_
                              refine SX.seq ?_
                              refine SC.seq ?_
                              refine SC.plain ?_
                              refine St.move rfl rfl ?_
                              refine St.move rfl rfl ?_
                              first | refine St.addN (b := 257) rfl rfl rfl (by omega) ?_ | refine St.addI rfl rfl rfl (by omega) ?_
                              refine St.cutI (e := 3) 0 (a1 + 257) rfl rfl (by kernel_rfl) hrl hcl rfl ⟨_, _, rfl, rfl⟩ (by omega) (by omega) (fun v7 h7 _ => ?_)
                              rw [List.drop_zero, Nat.sub_zero] at h7
                              refine St.call [_, _] rfl (by kernel_rfl) rfl (iwhole_spec w0 _ _ (l2.take (a1 + 257)) false h7 (by rw [List.length_take]; omega)) (fun _ _ _ _ h => h.nil) ?_
                              rintro r7 L7 (⟨hw2, hc2, p2, G2, rfl, hG2, rfl⟩ | ⟨hw2, rfl, rfl⟩)
                              · refine St.move rfl rfl ?_
                                refine St.extract rfl rfl rfl ?_
                                refine St.extract rfl rfl rfl ?_
                                refine St.assign rfl rfl ?_
                                refine St.assign rfl rfl ?_
                                refine St.done ?_
                                refine SX.seq ?_
                                refine SC.seq ?_
                                refine SC.seq ?_
                                refine SC.plain ?_
                                refine St.move rfl rfl ?_
                                refine St.neq rfl rfl rfl ?_
                                refine St.done ?_
                                refine SX.seq ?_
                                refine SC.condp rfl (fun c102 => ?_) (fun c102 => ?_)
                                · exfalso; omega
                                · refine SC.skip ?_
                                  refine SX.seq ?_
                                  refine SC.seq ?_
                                  refine SC.plain ?_
                                  refine St.move rfl rfl ?_
                                  refine St.move rfl rfl ?_
                                  first | refine St.addN (b := 257) rfl rfl rfl (by omega) ?_ | refine St.addI rfl rfl rfl (by omega) ?_
                                  refine St.cutI (e := 3) (a1 + 257) l2.length rfl rfl (by kernel_rfl) hrl hcl ⟨_, _, rfl, rfl⟩ rfl (by omega) (by omega) (fun v8 h8 _ => ?_)
                                  rw [List.take_of_length_le (by rw [List.length_drop]; omega)] at h8
                                  refine St.call [_, _] rfl (by kernel_rfl) rfl (iwhole_spec w0 _ _ (l2.drop (a1 + 257)) true (h8.mono fun w hw => Own.right G2 hw) (by rw [List.length_drop]; omega)) (fun _ _ _ _ h => h.nil) ?_
                                  rintro r8 L8 (⟨hw3, hc3, p3, G3, rfl, hG3, rfl⟩ | ⟨hw3, rfl, rfl⟩)
                                  · have hm10 := hm9.trans (ifR_pos ⟨c92, hw2, hw3⟩)
                                    refine St.move rfl rfl ?_
                                    refine St.extract rfl rfl rfl ?_
                                    refine St.extract rfl rfl rfl ?_
                                    refine St.assign rfl rfl ?_
                                    refine St.assign rfl rfl ?_
                                    refine St.done ?_
                                    refine SX.seq ?_
                                    refine SC.seq ?_
                                    refine SC.seq ?_
                                    refine SC.plain ?_
                                    refine St.move rfl rfl ?_
                                    refine St.neq rfl rfl rfl ?_
                                    refine St.done ?_
                                    refine SX.seq ?_
                                    refine SC.condp rfl (fun c113 => ?_) (fun c113 => ?_)
                                    · exfalso; omega
                                    · refine SC.skip ?_
                                      refine SX.seq ?_
                                      refine SC.seq ?_
                                      refine SC.plain ?_
                                      refine St.move rfl rfl ?_
                                      refine St.move rfl rfl ?_
                                      refine St.move rfl rfl ?_
                                      rw [← List.append_assoc]
                                      refine St.perm (RdL p q rv v6 t6 most E6 ((G3 ++ G2) ++ (El :: (G1 ++ ([⟨b8, ints orderI, 254⟩] :: [⟨b7, ints l, 3⟩] :: L))))) (perm_front3 _ _ _ _ _) ?_
                                      refine St.call [_, _, _] rfl (by kernel_rfl) rfl (isymbols_spec w0 ((G3 ++ G2) ++ (El :: (G1 ++ ([⟨b8, ints orderI, 254⟩] :: [⟨b7, ints l, 3⟩] :: L)))) p q rv v6 bs most t6 o6 E6 (hR6.on (hx.mono fun w hw => (Own.right G1 (Own.right _ hw).drop).drop.drop)) p2 p3 (l2.take (a1 + 257)) (l2.drop (a1 + 257)) hc2 (by rw [List.append_assoc]; exact (hG2.rd hc2).mono fun w hw => Own.right _ hw) hc3 (by rw [List.append_assoc]; exact hG3.rd hc3) F (by omega)) (fun _ _ _ _ h => h.nil) ?_
                                      rintro r9 L9 h9
                                      rcases h9.cases with ⟨a9, t9, o9, v9, E9, hg9, rfl, hR9, rfl⟩ | ⟨e, hg9, rfl, hne, rfl⟩
                                      · refine St.assign rfl rfl ?_
                                        refine St.done ?_
                                        refine SX.seq ?_
                                        refine SC.ret ?_
                                        exact SX.drops _ rfl (by (try simp only [RdL]); repeat (first | exact List.Sublist.refl _ | apply List.Sublist.cons | apply List.sublist_append_of_sublist_right)) rfl rfl (hm10.trans hg9) (hR9.on hx)
                                      · have hm := hm10.trans hg9
                                        refine St.assign rfl rfl ?_
                                        refine St.done ?_
                                        refine SX.seq ?_
                                        refine SC.ret ?_
                                        refine SX.weak L (by (try simp only [RdL]); repeat (first | exact List.Sublist.refl _ | apply List.Sublist.cons | apply List.sublist_append_of_sublist_right)) ?_
                                        exact SX.ret1 rfl rfl (AnsE.bad hm (by first | assumption | decide))
                                  · have hm := hm9.trans (ifR_neg (fun h => by have := h.2.2; rw [hw3] at this; cases this))
                                    refine St.move rfl rfl ?_
                                    refine St.extract rfl rfl rfl ?_
                                    refine St.extract rfl rfl rfl ?_
                                    refine St.assign rfl rfl ?_
                                    refine St.assign rfl rfl ?_
                                    refine St.done ?_
                                    refine SX.seq ?_
                                    refine SC.seq ?_
                                    refine SC.seq ?_
                                    refine SC.plain ?_
                                    refine St.move rfl rfl ?_
                                    refine St.neq rfl rfl rfl ?_
                                    refine St.done ?_
                                    refine SX.seq ?_
                                    refine SC.condp rfl (fun c113 => ?_) (fun c113 => ?_)
                                    · refine SC.seq ?_
                                      refine SC.plain ?_
                                      refine St.move rfl rfl ?_
                                      refine St.assign rfl rfl ?_
                                      refine St.done ?_
                                      refine SX.seq ?_
                                      refine SC.ret ?_
                                      refine SX.seq_ret ?_
                                      refine SX.weak L (by (try simp only [RdL]); repeat (first | exact List.Sublist.refl _ | apply List.Sublist.cons | apply List.sublist_append_of_sublist_right)) ?_
                                      exact SX.ret1 rfl rfl (AnsE.bad hm (by first | assumption | decide))
                                    · exfalso; omega
                              · have hm := hm9.trans (ifR_neg (fun h => by have := h.2.1; rw [hw2] at this; cases this))
                                refine St.move rfl rfl ?_
                                refine St.extract rfl rfl rfl ?_
                                refine St.extract rfl rfl rfl ?_
                                refine St.assign rfl rfl ?_
                                refine St.assign rfl rfl ?_
                                refine St.done ?_
                                refine SX.seq ?_
                                refine SC.seq ?_
                                refine SC.seq ?_
                                refine SC.plain ?_
                                refine St.move rfl rfl ?_
                                refine St.neq rfl rfl rfl ?_
                                refine St.done ?_
                                refine SX.seq ?_
                                refine SC.condp rfl (fun c102 => ?_) (fun c102 => ?_)
                                · refine SC.seq ?_
                                  refine SC.plain ?_
                                  refine St.move rfl rfl ?_
                                  refine St.assign rfl rfl ?_
                                  refine St.done ?_
                                  refine SX.seq ?_
                                  refine SC.ret ?_
                                  refine SX.seq_ret ?_
                                  refine SX.weak L (by (try simp only [RdL]); repeat (first | exact List.Sublist.refl _ | apply List.Sublist.cons | apply List.sublist_append_of_sublist_right)) ?_
                                  exact SX.ret1 rfl rfl (AnsE.bad hm (by first | assumption | decide))
                                · exfalso; omega
                        · have hm := hm8.trans (bind_bad hg6)
                          refine St.move rfl rfl ?_
                          refine St.extract rfl rfl rfl ?_
                          refine St.extract rfl rfl rfl ?_
                          refine St.assign rfl rfl ?_
                          refine St.assign rfl rfl ?_
                          refine St.done ?_
                          refine SX.seq ?_
                          refine SC.seq ?_
                          refine SC.seq ?_
                          refine SC.plain ?_
                          refine St.move rfl rfl ?_
                          refine St.neq rfl rfl rfl ?_
                          refine St.done ?_
                          refine SX.seq ?_
                          refine SC.condp rfl (fun c87 => ?_) (fun c87 => ?_)
                          · refine SC.seq ?_
                            refine SC.plain ?_
                            refine St.move rfl rfl ?_
                            refine St.assign rfl rfl ?_
                            refine St.done ?_
                            refine SX.seq ?_
                            refine SC.ret ?_
                            refine SX.seq_ret ?_
                            refine SX.weak L (by (try simp only [RdL]); repeat (first | exact List.Sublist.refl _ | apply List.Sublist.cons | apply List.sublist_append_of_sublist_right)) ?_
                            exact SX.ret1 rfl rfl (AnsE.bad hm (by first | assumption | decide))
                          · exfalso; omega
                    · have hm := hmi.trans (ifR_neg (by rw [hw1]; decide))
                      refine St.move rfl rfl ?_
                      refine St.extract rfl rfl rfl ?_
                      refine St.extract rfl rfl rfl ?_
                      refine St.assign rfl rfl ?_
                      refine St.assign rfl rfl ?_
                      refine St.done ?_
                      refine SX.seq ?_
                      refine SC.seq ?_
                      refine SC.seq ?_
                      refine SC.plain ?_
                      refine St.move rfl rfl ?_
                      refine St.neq rfl rfl rfl ?_
                      refine St.done ?_
                      refine SX.seq ?_
                      refine SC.condp rfl (fun c73 => ?_) (fun c73 => ?_)
                      · refine SC.seq ?_
                        refine SC.plain ?_
                        refine St.move rfl rfl ?_
                        refine St.assign rfl rfl ?_
                        refine St.done ?_
                        refine SX.seq ?_
                        refine SC.ret ?_
                        refine SX.seq_ret ?_
                        refine SX.weak L (by (try simp only [RdL]); repeat (first | exact List.Sublist.refl _ | apply List.Sublist.cons | apply List.sublist_append_of_sublist_right)) ?_
                        exact SX.ret1 rfl rfl (AnsE.bad hm (by first | assumption | decide))
                      · exfalso; omega
              · have hm5 := hm4.trans (bind_bad hg3)
                refine St.move rfl rfl ?_
                refine St.extract rfl rfl rfl ?_
                refine St.extract rfl rfl rfl ?_
                refine St.assign rfl rfl ?_
                refine St.assign rfl rfl ?_
                refine St.done ?_
                refine SX.seq ?_
                refine SC.seq ?_
                refine SC.seq ?_
                refine SC.plain ?_
                refine St.move rfl rfl ?_
                refine St.neq rfl rfl rfl ?_
                refine St.done ?_
                refine SX.seq ?_
                refine SC.condp rfl (fun c43 => ?_) (fun c43 => ?_)
                · refine SC.seq ?_
                  refine SC.plain ?_
                  refine St.move rfl rfl ?_
                  refine St.assign rfl rfl ?_
                  refine St.done ?_
                  refine SX.seq ?_
                  refine SC.ret ?_
                  refine SX.seq_ret ?_
                  refine SX.weak L (by (try simp only [RdL]); repeat (first | exact List.Sublist.refl _ | apply List.Sublist.cons | apply List.sublist_append_of_sublist_right)) ?_
                  exact SX.ret1 rfl rfl (AnsE.bad hm5 (by first | assumption | decide))
                · exfalso; omega
        · have hm3 := hm2.trans (bind_bad hg2)
          refine St.move rfl rfl ?_
          refine St.extract rfl rfl rfl ?_
          refine St.extract rfl rfl rfl ?_
          refine St.assign rfl rfl ?_
          refine St.assign rfl rfl ?_
          refine St.done ?_
          refine SX.seq ?_
          refine SC.seq ?_
          refine SC.seq ?_
          refine SC.plain ?_
          refine St.move rfl rfl ?_
          refine St.neq rfl rfl rfl ?_
          refine St.done ?_
          refine SX.seq ?_
          refine SC.condp rfl (fun c32 => ?_) (fun c32 => ?_)
          · refine SC.seq ?_
            refine SC.plain ?_
            refine St.move rfl rfl ?_
            refine St.assign rfl rfl ?_
            refine St.done ?_
            refine SX.seq ?_
            refine SC.ret ?_
            refine SX.seq_ret ?_
            refine SX.weak L (by (try simp only [RdL]); repeat (first | exact List.Sublist.refl _ | apply List.Sublist.cons | apply List.sublist_append_of_sublist_right)) ?_
            exact SX.ret1 rfl rfl (AnsE.bad hm3 (by first | assumption | decide))
          · exfalso; omega
  · have hm1 := hm0.trans (bind_bad hg1)
    refine St.move rfl rfl ?_
    refine St.extract rfl rfl rfl ?_
    refine St.extract rfl rfl rfl ?_
    refine St.assign rfl rfl ?_
    refine St.assign rfl rfl ?_
    refine St.done ?_
    refine SX.seq ?_
    refine SC.seq ?_
    refine SC.seq ?_
    refine SC.plain ?_
    refine St.move rfl rfl ?_
    refine St.neq rfl rfl rfl ?_
    refine St.done ?_
    refine SX.seq ?_
    refine SC.condp rfl (fun c21 => ?_) (fun c21 => ?_)
    · refine SC.seq ?_
      refine SC.plain ?_
      refine St.move rfl rfl ?_
      refine St.assign rfl rfl ?_
      refine St.done ?_
      refine SX.seq ?_
      refine SC.ret ?_
      refine SX.seq_ret ?_
      refine SX.weak L (by (try simp only [RdL]); repeat (first | exact List.Sublist.refl _ | apply List.Sublist.cons | apply List.sublist_append_of_sublist_right)) ?_
      exact SX.ret1 rfl rfl (AnsE.bad hm1 (by first | assumption | decide))
    · exfalso; omega
end Go.Proofs.Ytahafepgmkiabaa
