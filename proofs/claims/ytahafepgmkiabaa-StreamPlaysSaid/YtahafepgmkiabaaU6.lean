/- Walks: the law StreamStrange. -/
import Derived.Test.YtahafepgmkiabaaU4
set_option linter.unusedVariables false
set_option linter.unusedSimpArgs false
set_option linter.ambiguousOpen false
namespace Go.Proofs.Ytahafepgmkiabaa
open Go Go.Proofs.Ytahafepgmkiabaa.Sep

def o7 : En := { enNew 7 2 with st := 3, owes := true }
def o8 : En := { o7 with owes := false }
def ack7 : List Nat := o7.say 2 0 (0 : Nat) []
theorem o7_out : o7.outp 2 = (o8, [ack7]) := rfl
theorem o7_in : (enNew 7 2).inp (segOf ⟨1, 7, 0, 0, []⟩) 0 = o7 := aw4
theorem o7_same {bs : List Nat} {now : Int} (h : isSeg bs = false ∨ (segFrom bs).id ≠ 7) : o7.inp bs now = o7 := if_pos (h.imp id fun h => .inl h)
def o9 : En := { o8 with st := 4 }
theorem o8_take : o8.take = (o8, []) := rfl
theorem o8_in : o8.inp (segOf ⟨5, 7, 0, 0, []⟩) 3 = o9 := by
  have := seg_back (s := ⟨5, 7, 0, 0, []⟩) (by simp) (by decide)
  unfold En.inp
  rw [this.1, this.2]
  rfl
theorem o9_write (bs : List Nat) : o9.write bs = (o9, 81) := rfl
theorem o9_close : o9.close = (o9, 81) := rfl
theorem o9_out : o9.outp 9 = (o9, []) := rfl
theorem rsegment_in (w0 : World) (L : List Chunk) (s : Seg) (dv : Value) (h : SegIn w0 L s dv) : Meets Try.prog 62 #[.agg (segCells s dv).toArray] w0 L (fun r L' => L = L' ∧ r = .string (text (segOf s))) := rsegment_spec w0 L s dv h.rd h.cap h.len h.lt
theorem clock1 : Clock 1 := by unfold Clock; decide
theorem clock2 : Clock 2 := by unfold Clock; decide
theorem clock9 : Clock 9 := by unfold Clock; decide

theorem streamStrange_spec (w0 : World) (L : List Chunk) (v dv : Value) (bs ds : List Nat) (id : Int) (hid : -9223372036854775808 ≤ id ∧ id ≤ 9223372036854775807) (hv : Rd w0 L v 1 bs.length (bytes bs)) (hcp : Cap v) (hl : bs.length ≤ 140737488351232) (hb : ∀ b ∈ bs, b < 256) (hS : SegIn w0 L ⟨0, 0, 0, 0, ds⟩ dv) :
    Meets Try.prog 17 #[v, .int .i64 id, dv] w0 L (fun r L' => r = .bool true) := by
  have hdl : ds.length ≤ 140737488351232 := hS.len
  obtain ⟨Ad, cd, rfl⟩ := hS.slice
  refine Meets.of_body [v, .int .i64 id, .slice Ad ds.length cd] Try.func17 rfl Try.ntmps17 rfl ?_
  refine SC.seq ?_
  refine SC.plain ?_
  refine St.assign rfl rfl ?_
  refine St.done ?_
  refine SX.seq ?_
  refine SC.seq ?_
  refine SC.plain ?_
  refine St.call [.int .i64 7] rfl (by kernel_rfl) rfl (listen_spec w0 L 7) (by first | exact fun _ _ _ _ h => h.nil | assumption) ?_
  rintro r1 L1 ⟨p, rfl, ovp, ivp, atp, Eop, Eip, hP, rfl⟩
  refine St.assign rfl rfl ?_
  refine St.done ?_
  refine SX.seq ?_
  refine SC.seq ?_
  refine SC.plain ?_
  refine St.call [.int .i64 7] rfl (by kernel_rfl) rfl (listen_spec w0 _ 7) (by first | exact fun _ _ _ _ h => h.nil | assumption) ?_
  rintro r2 L1 ⟨q, rfl, ovq, ivq, atq, Eoq, Eiq, hQ, rfl⟩
  refine St.perm (EnL p (enNew 7 2) ovp ivp atp Eop Eip (EnL q (enNew 7 2) ovq ivq atq Eoq Eiq (L))) (perm33 _ _ _ _ _ _ _) ?_
  refine St.assign rfl rfl ?_
  refine St.done ?_
  refine SX.seq ?_
  refine SC.seq ?_
  refine SC.seq ?_
  refine SC.plain ?_
  refine St.move rfl rfl ?_
  refine St.ptrEql rfl rfl rfl (by kernel_rfl) ?_
  refine St.move rfl rfl ?_
  refine St.guard_yes rfl rfl ?_
  refine St.move rfl rfl ?_
  refine St.guard_yes rfl rfl ?_
  refine St.ptrEql rfl rfl rfl (by kernel_rfl) ?_
  refine St.pick_false rfl rfl rfl ?_
  refine St.move rfl rfl ?_
  refine St.guard_yes rfl rfl ?_
  refine St.move rfl rfl ?_
  refine St.guard_yes rfl rfl ?_
  refine St.lenSl rfl rfl (by kernel_rfl) ?_
  refine St.guard_yes rfl rfl ?_
  refine St.gtr rfl rfl rfl ?_
  refine St.pick_false rfl rfl rfl ?_
  refine St.done ?_
  refine SX.seq ?_
  refine SC.condp rfl (fun c28 => ?_) (fun c28 => ?_)
  · refine SC.seq ?_
    refine SC.plain ?_
    refine St.move rfl rfl ?_
    refine St.ptrNeq rfl rfl rfl (by kernel_rfl) ?_
    refine St.move rfl rfl ?_
    refine St.guard_yes rfl rfl ?_
    refine St.move rfl rfl ?_
    refine St.guard_yes rfl rfl ?_
    refine St.ptrNeq rfl rfl rfl (by kernel_rfl) ?_
    refine St.pick_true rfl rfl rfl ?_
    refine St.move rfl rfl ?_
    refine St.guard_yes rfl rfl ?_
    refine St.call [] rfl (by kernel_rfl) rfl (awake18_spec w0 _) (by first | exact fun _ _ _ _ h => h.nil | assumption) ?_
    rintro r4 L1 ⟨rfl, rfl⟩
    refine St.pick_true rfl rfl rfl ?_
    refine St.assign rfl rfl ?_
    refine St.done ?_
    refine SX.seq ?_
    refine SC.ret ?_
    refine SX.seq_ret ?_
    exact SX.ret1 rfl rfl rfl
  · have hd3 : ds.length ≤ 300 := by omega
    refine SC.skip ?_
    refine SX.seq ?_
    refine SC.seq ?_
    refine SC.plain ?_
    refine St.build [(0, .int .i64 1), (1, .int .i64 7)] (segCells ⟨1, 7, 0, 0, []⟩ (.slice none 0 0)) rfl rfl (by kernel_rfl) ?_
    refine St.call [_] rfl (by kernel_rfl) rfl (rsegment_in w0 _ ⟨1, 7, 0, 0, []⟩ _ (SegIn.none (w0 := w0) (L := _) 1 7 0 0)) (fun _ _ _ _ h => h.nil) ?_
    rintro ra L1 ⟨rfl, rfl⟩
    refine St.toBytes (e := 5) rfl rfl (by kernel_rfl) (by kernel_rfl) (by kernel_rfl) (fun _ _ h => h.nil) (fun vba Ea hba _ => ?_)
    rw [u8s_text (segOf ⟨1, 7, 0, 0, []⟩) (segOf_lt (by simp)), text_size] at hba
    have hba : Buf 5 1 vba (bytes (segOf ⟨1, 7, 0, 0, []⟩)) (segOf ⟨1, 7, 0, 0, []⟩).length Ea := hba
    refine St.assign rfl rfl ?_
    refine St.done ?_
    refine SX.seq ?_
    refine SC.seq ?_
    refine SC.plain ?_
    refine St.move rfl rfl ?_
    refine St.move rfl rfl ?_
    refine St.perm (EnL p (enNew 7 2) ovp ivp atp Eop Eip (Ea :: EnL q (enNew 7 2) ovq ivq atq Eoq Eiq (L))) (perm_block [_] [_, _, _] _) ?_
    refine St.call [_, _, _] rfl (by kernel_rfl) rfl (in18_spec w0 _ p _ _ _ _ _ _ hP vba _ (hba.rd (by simp [EnL])) hba.cap (by decide) (segOf_lt (by simp)) 0 clock0) (fun _ _ _ _ h => h.nil) ?_
    rw [o7_in]
    rintro r6 L1 ⟨ovp1, ivp1, atp1, Eop1, Eip1, hP1, rfl⟩
    refine St.done ?_
    refine SX.seq ?_
    refine SC.seq ?_
    refine SC.plain ?_
    refine St.move rfl rfl ?_
    refine St.move rfl rfl ?_
    refine St.perm (EnL q (enNew 7 2) ovq ivq atq Eoq Eiq (EnL p o7 ovp1 ivp1 atp1 Eop1 Eip1 (Ea :: L))) (perm_block [_, _, _, _] [_, _, _] _) ?_
    refine St.call [_, _, _] rfl (by kernel_rfl) rfl (in18_spec w0 _ q _ _ _ _ _ _ hQ vba _ (hba.rd (by simp [EnL])) hba.cap (by decide) (segOf_lt (by simp)) 0 clock0) (fun _ _ _ _ h => h.nil) ?_
    rw [o7_in]
    rintro r7 L1 ⟨ovq1, ivq1, atq1, Eoq1, Eiq1, hQ1, rfl⟩
    refine St.weak (EnL q o7 ovq1 ivq1 atq1 Eoq1 Eiq1 (EnL p o7 ovp1 ivp1 atp1 Eop1 Eip1 (L))) (.cons_cons _ (.cons_cons _ (.cons_cons _ (.cons_cons _ (.cons_cons _ (.cons_cons _ (.cons _ (List.Sublist.refl _)))))))) ?_
    refine St.perm (EnL p o7 ovp1 ivp1 atp1 Eop1 Eip1 (EnL q o7 ovq1 ivq1 atq1 Eoq1 Eiq1 (L))) (perm33 _ _ _ _ _ _ _) ?_
    refine St.done ?_
    refine SX.seq ?_
    refine SC.join (α := Value × Value × Int × Chunk × Chunk) (fun s => EnB o7 s.1 s.2.1 s.2.2.1 s.2.2.2.1 s.2.2.2.2) (fun s => [(1, .int .i64 id), (2, .slice Ad ds.length cd), (7, .pointer (some ⟨p, 0, none⟩)), (8, .pointer (some ⟨q, 0, none⟩))]) (fun s => EnL p o7 s.1 s.2.1 s.2.2.1 s.2.2.2.1 s.2.2.2.2 (EnL q o7 ovq1 ivq1 atq1 Eoq1 Eiq1 (L))) ?_ ?_
    · rintro ⟨ovp2, ivp2, atp2, Eop2, Eip2⟩ hP2
      simp only at hP2 ⊢
      refine SC.join (α := Value × Value × Int × Chunk × Chunk) (fun s => EnB o7 s.1 s.2.1 s.2.2.1 s.2.2.2.1 s.2.2.2.2) (fun s => [(2, .slice Ad ds.length cd), (7, .pointer (some ⟨p, 0, none⟩)), (8, .pointer (some ⟨q, 0, none⟩))]) (fun s => EnL p o7 s.1 s.2.1 s.2.2.1 s.2.2.2.1 s.2.2.2.2 (EnL q o7 ovq1 ivq1 atq1 Eoq1 Eiq1 (L))) ?_ ?_
      · rintro ⟨ovp3, ivp3, atp3, Eop3, Eip3⟩ hP3
        simp only at hP3 ⊢
        clear hP2
        refine SC.seq ?_
        refine SC.plain ?_
        refine St.move rfl rfl ?_
        refine St.call [_, _] rfl (by kernel_rfl) rfl (out18_spec w0 _ p _ _ _ _ _ _ hP3 2 clock2) (fun _ _ _ _ h => h.nil) ?_
        rw [o7_out]
        rintro r3 L1 ⟨vs, Es1, Es, ovp5, ivp5, atp5, Eop5, Eip5, hs1, hos, hP5, rfl⟩
        obtain ⟨E1, rfl⟩ := list1 hos.2.1
        obtain ⟨v1, rfl⟩ := list1 hos.1
        have hseg := hos.2.2 0 v1 ack7 E1 rfl rfl rfl
        have hbr := hs1.read
        obtain ⟨ba, oa, Aa, ca, rfl, hAa, hha⟩ := hbr
        have hAe := hAa (by decide)
        subst hAe
        refine St.move rfl rfl ?_
        refine St.perm (EnL q o7 ovq1 ivq1 atq1 Eoq1 Eiq1 (EnL p o8 ovp5 ivp5 atp5 Eop5 Eip5 (Es1 :: E1 :: L))) (perm_block [_, _, _, _, _] [_, _, _] _) ?_
        refine St.call [_, _] rfl (by kernel_rfl) rfl (out18_spec w0 _ q _ _ _ _ _ _ hQ1 2 clock2) (fun _ _ _ _ h => h.nil) ?_
        rw [o7_out]
        rintro r4 L1 ⟨vs2, Es2, Esx, ovq5, ivq5, atq5, Eoq5, Eiq5, hs2, hos2, hQ5, rfl⟩
        obtain ⟨E2, rfl⟩ := list1 hos2.2.1
        obtain ⟨v2, rfl⟩ := list1 hos2.1
        have hseg2 := hos2.2.2 0 v2 ack7 E2 rfl rfl rfl
        have hbr2 := hs2.read
        obtain ⟨bc, oc, Ac, cc, rfl, hAc, hhc⟩ := hbr2
        have hAe2 := hAc (by decide)
        subst hAe2
        refine St.perm (EnL p o8 ovp5 ivp5 atp5 Eop5 Eip5 (EnL q o8 ovq5 ivq5 atq5 Eoq5 Eiq5 (Es2 :: E2 :: Es1 :: E1 :: L))) (perm_block [_, _, _, _, _] [_, _, _] _) ?_
        refine St.assign rfl rfl ?_
        refine St.assign rfl rfl ?_
        refine St.done ?_
        refine SX.seq ?_
        refine SC.seq ?_
        refine SC.seq ?_
        refine SC.plain ?_
        refine St.move rfl rfl ?_
        refine St.lenSl rfl rfl (by kernel_rfl) ?_
        refine St.move rfl rfl ?_
        refine St.lenSl rfl rfl (by kernel_rfl) ?_
        refine St.neq rfl rfl rfl ?_
        refine St.move rfl rfl ?_
        refine St.split 86 rfl (fun g86 => ?_) (fun g86 => ?_)
        · exact absurd rfl g86
        · refine St.guard_yes rfl rfl ?_
          refine St.move rfl rfl ?_
          refine St.guard_yes rfl rfl ?_
          refine St.call [_] rfl (by kernel_rfl) rfl (read18_spec w0 _ p _ _ _ _ _ _ hP5) (fun _ _ _ _ h => h.nil) ?_
          rw [o8_take]
          rintro r5 L1 ⟨E5, hb5, L2, ⟨ovp6, ivp6, atp6, Eop6, Eip6, hP6, rfl⟩, rfl⟩
          have hb5r := hb5.read
          obtain ⟨_, _, A5, c5, rfl, _, _⟩ := hb5r
          refine St.drop ?_
          refine St.guard_yes rfl rfl ?_
          refine St.lenSl rfl rfl (by kernel_rfl) ?_
          refine St.guard_yes rfl rfl ?_
          refine St.neq rfl rfl rfl ?_
          refine St.pick_false rfl rfl rfl ?_
          refine St.move rfl rfl ?_
          refine St.split 92 rfl (fun g92 => ?_) (fun g92 => ?_)
          · exact absurd rfl g92
          · refine St.guard_yes rfl rfl ?_
            refine St.move rfl rfl ?_
            refine St.guard_yes rfl rfl ?_
            refine St.call [_] rfl (by kernel_rfl) rfl (state18_spec w0 _ p _ _ _ _ _ _ hP6) (fun _ _ _ _ h => h.nil) ?_
            rintro r7 L1 ⟨rfl, rfl⟩
            refine St.guard_yes rfl rfl ?_
            refine St.neq rfl rfl rfl ?_
            refine St.pick_false rfl rfl rfl ?_
            refine St.done ?_
            refine SX.seq ?_
            refine SC.condp rfl (fun c96 => ?_) (fun c96 => ?_)
            · exact absurd rfl c96
            · refine SC.skip ?_
              refine SX.seq ?_
              refine SC.seq ?_
              refine SC.seq ?_
              refine SC.plain ?_
              refine St.assign rfl rfl ?_
              refine St.done ?_
              refine SX.seq ?_
              refine SC.block ?_
              refine SC.loop (α := Nat) (fun i => i ≤ 1) (fun i => [(2, .slice Ad ds.length cd), (7, .pointer (some ⟨p, 0, none⟩)), (13, .slice (some ⟨ba, oa, none⟩) 1 ca), (14, .slice (some ⟨bc, oc, none⟩) 1 cc), (15, .int .i64 ((i : Nat) : Int))]) (fun i => EnL p o8 ovp6 ivp6 atp6 Eop6 Eip6 (EnL q o8 ovq5 ivq5 atq5 Eoq5 Eiq5 (Es2 :: E2 :: Es1 :: E1 :: L))) (fun i => 1 - i) 0 (by decide) ⟨rfl, rfl, rfl, rfl, rfl, trivial⟩ (List.Perm.refl _) ?_
              intro i hi
              refine SC.seq ?_
              refine SC.seq ?_
              refine SC.plain ?_
              refine St.move rfl rfl ?_
              refine St.move rfl rfl ?_
              refine St.lenSl rfl rfl (by kernel_rfl) ?_
              refine St.lss rfl rfl rfl ?_
              refine St.done ?_
              refine SX.seq ?_
              refine SC.condp rfl (fun c100 => ?_) (fun c100 => ?_)
              · have hi0 : i = 0 := by omega
                subst hi0
                refine SC.skip ?_
                refine SX.seq ?_
                refine SC.seq ?_
                refine SC.block ?_
                refine SC.seq ?_
                refine SC.drawn [(0, true), (1, true), (2, true), (3, true), (4, true), (5, true), (6, true), (7, true), (8, true), (9, true), (10, true)] [] (_) (by kernel_rfl) (by kernel_rfl) (fun _ h => h) ?_
                refine St.move rfl rfl ?_
                refine St.move rfl rfl ?_
                refine St.indexSl (e := 35) (sz := 1) rfl rfl rfl (by kernel_rfl) (by omega) ?_
                refine St.load rfl rfl (by kernel_rfl) (fun w hw => hha w0 [Es1] (by simp) w (hw.sub (sub_flat (.cons _ (.cons _ (.cons _ (.cons _ (.cons _ (.cons _ (.cons _ (.cons _ (.cons_cons _ (List.nil_sublist _)))))))))))) 0 v1 rfl) ?_
                refine St.toStr (e := 5) (bs := ack7) (n := ack7.length) rfl rfl (hseg.rd (by simp [Lq, EnL])) (by kernel_rfl) (by kernel_rfl) (by kernel_rfl) ?_
                refine St.move rfl rfl ?_
                refine St.move rfl rfl ?_
                refine St.indexSl (e := 35) (sz := 1) rfl rfl rfl (by kernel_rfl) (by omega) ?_
                refine St.load rfl rfl (by kernel_rfl) (fun w hw => hhc w0 [Es2] (by simp) w (hw.sub (sub_flat (.cons _ (.cons _ (.cons _ (.cons _ (.cons _ (.cons _ (.cons_cons _ (List.nil_sublist _)))))))))) 0 v2 rfl) ?_
                refine St.toStr (e := 5) (bs := ack7) (n := ack7.length) rfl rfl (hseg2.rd (by simp [Lq, EnL])) (by kernel_rfl) (by kernel_rfl) (by kernel_rfl) ?_
                refine St.strNeq rfl rfl rfl ?_
                refine St.done ?_
                refine SX.tail ?_
                refine St.done ?_
                refine SX.seq ?_
                refine SC.condp rfl (fun c113 => ?_) (fun c113 => ?_)
                · exact absurd rfl c113
                · refine SC.skip ?_
                  refine SX.blk ?_
                  refine SX.seq ?_
                  refine SC.plain ?_
                  refine St.move rfl rfl ?_
                  first | refine St.addN (b := 1) rfl rfl rfl (by omega) ?_ | refine St.addI rfl rfl rfl (by omega) ?_
                  refine St.assign rfl rfl ?_
                  refine St.done ?_
                  exact SX.again (0 + 1) (by omega) (by show 1 - (0 + 1) < 1 - 0; omega) ⟨rfl, rfl, rfl, rfl, rfl, trivial⟩ (List.Perm.refl _)
              · refine SC.exit ?_
                refine SX.seq_exit ?_
                refine SX.seq_exit ?_
                refine SX.hit ?_
                refine SX.seq ?_
                refine SC.seq ?_
                refine SC.plain ?_
                refine St.move rfl rfl ?_
                refine St.build [(0, .int .i64 5), (1, .int .i64 7)] (segCells ⟨5, 7, 0, 0, []⟩ (.slice none 0 0)) rfl rfl (by kernel_rfl) ?_
                refine St.call [_] rfl (by kernel_rfl) rfl (rsegment_in w0 _ ⟨5, 7, 0, 0, []⟩ _ (SegIn.none (w0 := w0) (L := _) 5 7 0 0)) (fun _ _ _ _ h => h.nil) ?_
                rintro rc L1 ⟨rfl, rfl⟩
                refine St.toBytes (e := 5) rfl rfl (by kernel_rfl) (by kernel_rfl) (by kernel_rfl) (fun _ _ h => h.nil) (fun vbc Ec hbc _ => ?_)
                rw [u8s_text (segOf ⟨5, 7, 0, 0, []⟩) (segOf_lt (by simp)), text_size] at hbc
                have hbc : Buf 5 1 vbc (bytes (segOf ⟨5, 7, 0, 0, []⟩)) (segOf ⟨5, 7, 0, 0, []⟩).length Ec := hbc
                refine St.perm (EnL p o8 ovp6 ivp6 atp6 Eop6 Eip6 (Ec :: EnL q o8 ovq5 ivq5 atq5 Eoq5 Eiq5 (Es2 :: E2 :: Es1 :: E1 :: L))) (perm_block [_] [_, _, _] _) ?_
                refine St.call [_, _, _] rfl (by kernel_rfl) rfl (in18_spec w0 _ p _ _ _ _ _ _ hP6 vbc _ (hbc.rd (by simp [EnL])) hbc.cap (by decide) (segOf_lt (by simp)) 3 clock3) (fun _ _ _ _ h => h.nil) ?_
                rw [o8_in]
                rintro r24 L1 ⟨ovp7, ivp7, atp7, Eop7, Eip7, hP7, rfl⟩
                refine St.weak (EnL p o9 ovp7 ivp7 atp7 Eop7 Eip7 (L)) (.cons_cons _ (.cons_cons _ (.cons_cons _ (.cons _ (.cons _ (.cons _ (.cons _ (.cons _ (.cons _ (.cons _ (.cons _ (List.Sublist.refl _)))))))))))) ?_
                refine St.done ?_
                refine SX.seq ?_
                refine SC.seq ?_
                refine SC.plain ?_
                refine St.move rfl rfl ?_
                refine St.call [_] rfl (by kernel_rfl) rfl (state18_spec w0 _ p _ _ _ _ _ _ hP7) (fun _ _ _ _ h => h.nil) ?_
                rintro r7 L1 ⟨rfl, rfl⟩
                refine St.eql rfl rfl rfl ?_
                refine St.move rfl rfl ?_
                refine St.split 122 rfl (fun g122 => ?_) (fun g122 => ?_)
                · refine St.guard_yes rfl rfl ?_
                  refine St.move rfl rfl ?_
                  refine St.guard_yes rfl rfl ?_
                  refine St.move rfl rfl ?_
                  refine St.guard_yes rfl rfl ?_
                  refine St.call [_, _] rfl (by kernel_rfl) rfl (write18_spec w0 _ p _ _ _ _ _ _ hP7 _ ds (Rd.mono hS.rd (fun w hw => by first | exact hw | exact hw.drop | exact hw.drop.drop | exact hw.drop.drop.drop | exact hw.drop.drop.drop.drop | exact hw.drop.drop.drop.drop.drop | exact hw.drop.drop.drop.drop.drop.drop | exact hw.drop.drop.drop.drop.drop.drop.drop | exact hw.drop.drop.drop.drop.drop.drop.drop.drop | exact hw.drop.drop.drop.drop.drop.drop.drop.drop.drop | exact hw.drop.drop.drop.drop.drop.drop.drop.drop.drop.drop | exact hw.drop.drop.drop.drop.drop.drop.drop.drop.drop.drop.drop | exact hw.drop.drop.drop.drop.drop.drop.drop.drop.drop.drop.drop.drop | exact hw.drop.drop.drop.drop.drop.drop.drop.drop.drop.drop.drop.drop.drop)) hS.len hS.lt) (fun _ _ _ _ h => h.nil) ?_
                  rw [o9_write]
                  rintro r8 L1 ⟨rfl, ovp8, ivp8, atp8, Eop8, Eip8, hP8, rfl⟩
                  refine St.guard_yes rfl rfl ?_
                  refine St.eql rfl rfl rfl ?_
                  refine St.pick_true rfl rfl rfl ?_
                  refine St.move rfl rfl ?_
                  refine St.split 128 rfl (fun g128 => ?_) (fun g128 => ?_)
                  · refine St.guard_yes rfl rfl ?_
                    refine St.move rfl rfl ?_
                    refine St.guard_yes rfl rfl ?_
                    refine St.call [_] rfl (by kernel_rfl) rfl (close18_spec w0 _ p _ _ _ _ _ _ hP8) (fun _ _ _ _ h => h.nil) ?_
                    rw [o9_close]
                    rintro r9 L1 ⟨rfl, ovp9, ivp9, atp9, Eop9, Eip9, hP9, rfl⟩
                    refine St.guard_yes rfl rfl ?_
                    refine St.eql rfl rfl rfl ?_
                    refine St.pick_true rfl rfl rfl ?_
                    refine St.move rfl rfl ?_
                    refine St.split 133 rfl (fun g133 => ?_) (fun g133 => ?_)
                    · refine St.guard_yes rfl rfl ?_
                      refine St.move rfl rfl ?_
                      refine St.guard_yes rfl rfl ?_
                      refine St.call [_, _] rfl (by kernel_rfl) rfl (out18_spec w0 _ p _ _ _ _ _ _ hP9 9 clock9) (fun _ _ _ _ h => h.nil) ?_
                      rw [o9_out]
                      rintro r10 L1 ⟨vs7, Es7, Esy, ovp10, ivp10, atp10, Eop10, Eip10, hs7, hos7, hP10, rfl⟩
                      have hs7r := hs7.read
                      obtain ⟨_, _, A7, c7, rfl, _, _⟩ := hs7r
                      refine St.guard_yes rfl rfl ?_
                      refine St.lenSl rfl rfl (by kernel_rfl) ?_
                      refine St.guard_yes rfl rfl ?_
                      refine St.eql rfl rfl rfl ?_
                      refine St.pick_true rfl rfl rfl ?_
                      refine St.move rfl rfl ?_
                      refine St.split 139 rfl (fun g139 => ?_) (fun g139 => ?_)
                      · refine St.guard_yes rfl rfl ?_
                        refine St.call [] rfl (by kernel_rfl) rfl (awake18_spec w0 _) (by first | exact fun _ _ _ _ h => h.nil | assumption) ?_
                        rintro r11 L1 ⟨rfl, rfl⟩
                        refine St.pick_true rfl rfl rfl ?_
                        refine St.assign rfl rfl ?_
                        refine St.done ?_
                        refine SX.seq ?_
                        refine SC.ret ?_
                        exact SX.ret1 rfl rfl rfl
                      · exact absurd rfl g139
                    · exact absurd rfl g133
                  · exact absurd rfl g128
                · exact absurd rfl g122
      · refine SC.seq ?_
        refine SC.plain ?_
        refine St.move rfl rfl ?_
        refine St.convZ un32 rfl rfl (by kernel_rfl) (by kernel_rfl) ?_
        rw [u32i_conv]
        refine St.neq rfl rfl rfl ?_
        refine St.done ?_
        refine SX.seq ?_
        refine SC.condp rfl (fun c64 => ?_) (fun c64 => ?_)
        · refine SC.seq ?_
          refine SC.plain ?_
          refine St.assign rfl rfl ?_
          refine St.done ?_
          refine SX.seq ?_
          refine SC.block ?_
          refine SC.loop (α := Nat × Value × Value × Int × Chunk × Chunk) (fun s => 1 ≤ s.1 ∧ s.1 ≤ 6 ∧ EnB o7 s.2.1 s.2.2.1 s.2.2.2.1 s.2.2.2.2.1 s.2.2.2.2.2) (fun s => [(1, .int .i64 id), (2, .slice Ad ds.length cd), (7, .pointer (some ⟨p, 0, none⟩)), (8, .pointer (some ⟨q, 0, none⟩)), (12, .int .i64 ((s.1 : Nat) : Int))]) (fun s => EnL p o7 s.2.1 s.2.2.1 s.2.2.2.1 s.2.2.2.2.1 s.2.2.2.2.2 (EnL q o7 ovq1 ivq1 atq1 Eoq1 Eiq1 (L))) (fun s => 6 - s.1) (1, ovp2, ivp2, atp2, Eop2, Eip2) ⟨Nat.le_refl _, by simp, hP2⟩ ⟨rfl, rfl, rfl, rfl, rfl, trivial⟩ (List.Perm.refl _) ?_
          clear hP2
          rintro ⟨t, ovp3, ivp3, atp3, Eop3, Eip3⟩ ⟨ht1, ht6, hP3⟩
          simp only at ht1 ht6 hP3 ⊢
          refine SC.seq ?_
          refine SC.seq ?_
          refine SC.plain ?_
          refine St.move rfl rfl ?_
          refine St.leq rfl rfl rfl ?_
          refine St.done ?_
          refine SX.seq ?_
          refine SC.condp rfl (fun c66 => ?_) (fun c66 => ?_)
          · have hSs : SegIn w0 L ⟨((t : Nat) : Int), id, 0, 0, ds⟩ (.slice Ad ds.length cd) := ⟨hS.rd, hS.cap, hS.len, hS.lt⟩
            have hbk := seg_back (s := ⟨((t : Nat) : Int), id, 0, 0, ds⟩) hS.lt ⟨by simp only; omega, by simp only; omega⟩
            have hso := segOf_len ⟨((t : Nat) : Int), id, 0, 0, ds⟩
            have hdl := List.length_take (i := 400) (l := ds)
            have hsame : o7.inp (segOf ⟨((t : Nat) : Int), id, 0, 0, ds⟩) 1 = o7 := o7_same (.inr (by rw [hbk.2]; simp only; omega))
            refine SC.skip ?_
            refine SX.seq ?_
            refine SC.seq ?_
            refine SC.block ?_
            refine SC.plain ?_
            refine St.move rfl rfl ?_
            refine St.move rfl rfl ?_
            refine St.move rfl rfl ?_
            refine St.move rfl rfl ?_
            refine St.build [(0, .int .i64 ((t : Nat) : Int)), (1, .int .i64 id), (4, .slice Ad ds.length cd)] (segCells ⟨((t : Nat) : Int), id, 0, 0, ds⟩ (.slice Ad ds.length cd)) rfl rfl (by kernel_rfl) ?_
            refine St.call [_] rfl (by kernel_rfl) rfl (rsegment_in w0 _ ⟨((t : Nat) : Int), id, 0, 0, ds⟩ _ (hSs.mono (fun w hw => by first | exact hw | exact hw.drop | exact hw.drop.drop | exact hw.drop.drop.drop | exact hw.drop.drop.drop.drop | exact hw.drop.drop.drop.drop.drop | exact hw.drop.drop.drop.drop.drop.drop | exact hw.drop.drop.drop.drop.drop.drop.drop | exact hw.drop.drop.drop.drop.drop.drop.drop.drop | exact hw.drop.drop.drop.drop.drop.drop.drop.drop.drop | exact hw.drop.drop.drop.drop.drop.drop.drop.drop.drop.drop | exact hw.drop.drop.drop.drop.drop.drop.drop.drop.drop.drop.drop | exact hw.drop.drop.drop.drop.drop.drop.drop.drop.drop.drop.drop.drop | exact hw.drop.drop.drop.drop.drop.drop.drop.drop.drop.drop.drop.drop.drop))) (fun _ _ _ _ h => h.nil) ?_
            rintro rb L1 ⟨rfl, rfl⟩
            refine St.toBytes (e := 5) rfl rfl (by kernel_rfl) (by kernel_rfl) (by kernel_rfl) (fun _ _ h => h.nil) (fun vbb Eb hbb _ => ?_)
            rw [u8s_text (segOf ⟨((t : Nat) : Int), id, 0, 0, ds⟩) (segOf_lt hS.lt), text_size] at hbb
            have hbb : Buf 5 1 vbb (bytes (segOf ⟨((t : Nat) : Int), id, 0, 0, ds⟩)) (segOf ⟨((t : Nat) : Int), id, 0, 0, ds⟩).length Eb := hbb
            refine St.perm (EnL p o7 ovp3 ivp3 atp3 Eop3 Eip3 (Eb :: EnL q o7 ovq1 ivq1 atq1 Eoq1 Eiq1 (L))) (perm_block [_] [_, _, _] _) ?_
            refine St.call [_, _, _] rfl (by kernel_rfl) rfl (in18_spec w0 _ p _ _ _ _ _ _ hP3 vbb _ (hbb.rd (by simp [EnL])) hbb.cap (by simp only at hso; omega) (segOf_lt hS.lt) 1 clock1) (fun _ _ _ _ h => h.nil) ?_
            rw [hsame]
            rintro r15 L1 ⟨ovp4, ivp4, atp4, Eop4, Eip4, hP4, rfl⟩
            refine St.weak (EnL p o7 ovp4 ivp4 atp4 Eop4 Eip4 (EnL q o7 ovq1 ivq1 atq1 Eoq1 Eiq1 (L))) (.cons_cons _ (.cons_cons _ (.cons_cons _ (.cons _ (List.Sublist.refl _))))) ?_
            refine St.done ?_
            refine SX.blk ?_
            refine SX.seq ?_
            refine SC.plain ?_
            refine St.move rfl rfl ?_
            first | refine St.addN (b := 1) rfl rfl rfl (by omega) ?_ | refine St.addI rfl rfl rfl (by omega) ?_
            refine St.assign rfl rfl ?_
            refine St.done ?_
            exact SX.again (t + 1, ovp4, ivp4, atp4, Eop4, Eip4) ⟨by simp only; omega, by simp only; omega, hP4⟩ (by simp only; omega) ⟨rfl, rfl, rfl, rfl, rfl, trivial⟩ (List.Perm.refl _)
          · refine SC.exit ?_
            refine SX.seq_exit ?_
            refine SX.seq_exit ?_
            refine SX.hit ?_
            exact SX.some (ovp3, ivp3, atp3, Eop3, Eip3) hP3 ⟨rfl, rfl, rfl, trivial⟩ (List.Perm.refl _)
        · refine SC.skip ?_
          exact SX.some (ovp2, ivp2, atp2, Eop2, Eip2) hP2 ⟨rfl, rfl, rfl, trivial⟩ (List.Perm.refl _)
    · refine SC.seq ?_
      refine SC.plain ?_
      refine St.move rfl rfl ?_
      refine St.call [_] rfl (by kernel_rfl) rfl (parse_spec w0 _ v bs (Rd.mono hv (fun w hw => by first | exact hw | exact hw.drop | exact hw.drop.drop | exact hw.drop.drop.drop | exact hw.drop.drop.drop.drop | exact hw.drop.drop.drop.drop.drop | exact hw.drop.drop.drop.drop.drop.drop | exact hw.drop.drop.drop.drop.drop.drop.drop | exact hw.drop.drop.drop.drop.drop.drop.drop.drop | exact hw.drop.drop.drop.drop.drop.drop.drop.drop.drop | exact hw.drop.drop.drop.drop.drop.drop.drop.drop.drop.drop | exact hw.drop.drop.drop.drop.drop.drop.drop.drop.drop.drop.drop | exact hw.drop.drop.drop.drop.drop.drop.drop.drop.drop.drop.drop.drop | exact hw.drop.drop.drop.drop.drop.drop.drop.drop.drop.drop.drop.drop.drop)) hcp hl hb) (by first | exact fun _ _ _ _ h => h.nil | assumption) ?_
      rintro r1 L1 ⟨dx, Ex, rfl, rfl, hbx⟩
      have hbxr := hbx.read
      obtain ⟨_, _, Ax, cx, rfl, _, _⟩ := hbxr
      refine St.move rfl rfl ?_
      refine St.extract rfl rfl rfl ?_
      refine St.extract rfl rfl rfl ?_
      refine St.alloc [.int .i64 0, .int .i64 0, .int .i64 0, .int .i64 0, .slice none 0 0] rfl (by kernel_rfl) (by first | exact fun _ _ h => h.nil | exact fun _ _ h => h | exact fun _ _ h => h.drop | exact fun _ _ h => h.drop.drop | exact fun _ _ h => h.drop.drop.drop) (fun b10 => ?_)
      refine St.storeN rfl rfl rfl (segCells (segFrom bs) (.slice Ax (segFrom bs).data.length cx)) rfl (by kernel_rfl) (by simp [segCells, one]) (by simp [segCells]) (fun _ h => h.nil) ?_
      rw [show splice [.int .i64 0, .int .i64 0, .int .i64 0, .int .i64 0, .slice none 0 0] 0 (segCells (segFrom bs) (.slice Ax (segFrom bs).data.length cx)) = segCells (segFrom bs) (.slice Ax (segFrom bs).data.length cx) from rfl]
      refine St.assign rfl rfl ?_
      refine St.done ?_
      refine SX.seq ?_
      refine SC.seq ?_
      refine SC.plain ?_
      refine St.move rfl rfl ?_
      refine St.notB rfl rfl ?_
      refine St.move rfl rfl ?_
      refine St.splitB 54 rfl (fun g54 => ?_) (fun g54 => ?_)
      · refine St.guard_no rfl rfl rfl ?_
        refine St.guard_no rfl rfl rfl ?_
        refine St.guard_no rfl rfl rfl ?_
        refine St.pick_true rfl rfl rfl ?_
        refine St.done ?_
        refine SX.seq ?_
        refine SC.cond_true rfl ?_
        refine SC.plain ?_
        refine St.move rfl rfl ?_
        refine St.move rfl rfl ?_
        refine St.weak (EnL p o7 ovp1 ivp1 atp1 Eop1 Eip1 (EnL q o7 ovq1 ivq1 atq1 Eoq1 Eiq1 (L))) (.cons _ (.cons _ (List.Sublist.refl _))) ?_
        refine St.call [_, _, _] rfl (by kernel_rfl) rfl (in18_spec w0 _ p _ _ _ _ _ _ hP1 v bs (Rd.mono hv (fun w hw => by first | exact hw | exact hw.drop | exact hw.drop.drop | exact hw.drop.drop.drop | exact hw.drop.drop.drop.drop | exact hw.drop.drop.drop.drop.drop | exact hw.drop.drop.drop.drop.drop.drop | exact hw.drop.drop.drop.drop.drop.drop.drop | exact hw.drop.drop.drop.drop.drop.drop.drop.drop | exact hw.drop.drop.drop.drop.drop.drop.drop.drop.drop | exact hw.drop.drop.drop.drop.drop.drop.drop.drop.drop.drop | exact hw.drop.drop.drop.drop.drop.drop.drop.drop.drop.drop.drop | exact hw.drop.drop.drop.drop.drop.drop.drop.drop.drop.drop.drop.drop | exact hw.drop.drop.drop.drop.drop.drop.drop.drop.drop.drop.drop.drop.drop)) hcp hl hb 1 clock1) (fun _ _ _ _ h => h.nil) ?_
        rw [o7_same (by first | exact .inl (by simpa using g54) | exact .inr c58)]
        rintro r10 L1 ⟨ovp2, ivp2, atp2, Eop2, Eip2, hP2, rfl⟩
        refine St.done ?_
        exact SX.some (ovp2, ivp2, atp2, Eop2, Eip2) hP2 ⟨rfl, rfl, rfl, rfl, trivial⟩ (List.Perm.refl _)
      · refine St.guard_yes rfl rfl ?_
        refine St.fieldAddr (off := 1) rfl rfl (by kernel_rfl) ?_
        refine St.guard_yes rfl rfl ?_
        refine St.load rfl rfl (by kernel_rfl) (by first | exact Holds.row mem0 rfl | exact Holds.row mem1 rfl | exact Holds.row mem2 rfl | exact Holds.row mem3 rfl | exact Holds.row mem4 rfl | exact Holds.row mem5 rfl | exact Holds.row mem6 rfl | exact Holds.row mem7 rfl | exact Holds.row mem8 rfl) ?_
        refine St.guard_yes rfl rfl ?_
        refine St.neq rfl rfl rfl ?_
        refine St.pick_false rfl rfl rfl ?_
        refine St.done ?_
        refine SX.seq ?_
        refine SC.condp rfl (fun c58 => ?_) (fun c58 => ?_)
        · refine SC.plain ?_
          refine St.move rfl rfl ?_
          refine St.move rfl rfl ?_
          refine St.weak (EnL p o7 ovp1 ivp1 atp1 Eop1 Eip1 (EnL q o7 ovq1 ivq1 atq1 Eoq1 Eiq1 (L))) (.cons _ (.cons _ (List.Sublist.refl _))) ?_
          refine St.call [_, _, _] rfl (by kernel_rfl) rfl (in18_spec w0 _ p _ _ _ _ _ _ hP1 v bs (Rd.mono hv (fun w hw => by first | exact hw | exact hw.drop | exact hw.drop.drop | exact hw.drop.drop.drop | exact hw.drop.drop.drop.drop | exact hw.drop.drop.drop.drop.drop | exact hw.drop.drop.drop.drop.drop.drop | exact hw.drop.drop.drop.drop.drop.drop.drop | exact hw.drop.drop.drop.drop.drop.drop.drop.drop | exact hw.drop.drop.drop.drop.drop.drop.drop.drop.drop | exact hw.drop.drop.drop.drop.drop.drop.drop.drop.drop.drop | exact hw.drop.drop.drop.drop.drop.drop.drop.drop.drop.drop.drop | exact hw.drop.drop.drop.drop.drop.drop.drop.drop.drop.drop.drop.drop | exact hw.drop.drop.drop.drop.drop.drop.drop.drop.drop.drop.drop.drop.drop)) hcp hl hb 1 clock1) (fun _ _ _ _ h => h.nil) ?_
          rw [o7_same (by first | exact .inl (by simpa using g54) | exact .inr c58)]
          rintro r10 L1 ⟨ovp2, ivp2, atp2, Eop2, Eip2, hP2, rfl⟩
          refine St.done ?_
          exact SX.some (ovp2, ivp2, atp2, Eop2, Eip2) hP2 ⟨rfl, rfl, rfl, rfl, trivial⟩ (List.Perm.refl _)
        · refine SC.skip ?_
          refine SX.weak (EnL p o7 ovp1 ivp1 atp1 Eop1 Eip1 (EnL q o7 ovq1 ivq1 atq1 Eoq1 Eiq1 (L))) (.cons _ (.cons _ (List.Sublist.refl _))) ?_
          exact SX.some (ovp1, ivp1, atp1, Eop1, Eip1) hP1 ⟨rfl, rfl, rfl, rfl, trivial⟩ (List.Perm.refl _)
end Go.Proofs.Ytahafepgmkiabaa
