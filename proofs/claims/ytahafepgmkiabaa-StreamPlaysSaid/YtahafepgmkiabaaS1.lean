/- Walks: the small functions of the sums. -/
import Derived.Test.YtahafepgmkiabaaS0
import Derived.Test.YtahafepgmkiabaaH4
set_option linter.unusedVariables false
set_option linter.unusedSimpArgs false
set_option linter.ambiguousOpen false
namespace Go.Proofs.Ytahafepgmkiabaa
open Go Go.Proofs.Ytahafepgmkiabaa.Sep

def w32 (n : Nat) : Value := .int .u32 (n : Int)
def w32s (l : List Nat) : List Value := l.map w32
theorem w32s_length (l : List Nat) : (w32s l).length = l.length := by simp [w32s]
theorem w32s_get (l : List Nat) (i : Nat) (h : i < l.length) : (w32s l)[i]? = some (.int .u32 ((l.getD i 0 : Nat) : Int)) := by
  simp [w32s, w32, List.getD_eq_getElem?_getD, List.getElem?_eq_getElem h]
theorem no_u32 (a : Nat) (h : a < 4294967296) : bits .xor .u32 (if IntKind.u32.signed then (-1 : Int) else IntKind.u32.max) (a : Int) = ((no32 a : Nat) : Int) := by
  rw [u32_max, xor_u32 _ _ (by decide) h]; rfl

theorem rotate_spec (w0 : World) (L : List Chunk) (x n : Nat) (hx : x < 4294967296) (hn : n < 32) :
    Meets Try.prog 169 #[.int .u32 ((x : Nat) : Int), .int .i64 ((n : Nat) : Int)] w0 L (fun r L' => L = L' ∧ r = .int .u32 ((rotl x n : Nat) : Int)) := by
  refine Meets.of_body [.int .u32 ((x : Nat) : Int), .int .i64 ((n : Nat) : Int)] Try.func169 rfl Try.ntmps169 rfl ?_
  refine SC.seq ?_
  refine SC.plain ?_
  refine St.assign rfl rfl ?_
  refine St.done ?_
  refine SX.seq ?_
  refine SC.seq ?_
  refine SC.plain ?_
  refine St.move rfl rfl ?_
  refine St.convI (k := .u64) rfl rfl (by kernel_rfl) (by kernel_rfl) ?_
  rw [wrap_u64, Nat.mod_eq_of_lt (by omega)]
  refine St.andI rfl rfl rfl ?_
  rw [show bits .and .u64 ((n : Nat) : Int) 31 = ((n : Nat) : Int) from (and_u64 n 31 (by omega) (by decide)).trans (by rw [show (31 : Nat) = 2 ^ 5 - 1 by decide, and_mask, Nat.mod_eq_of_lt (by omega)])]
  refine St.assign rfl rfl ?_
  refine St.done ?_
  refine SX.seq ?_
  refine SC.seq ?_
  refine SC.plain ?_
  refine St.move rfl rfl ?_
  refine St.move rfl rfl ?_
  refine St.shl rfl rfl rfl (by omega) ?_
  rw [shl_u32 _ _ (by omega)]
  refine St.move rfl rfl ?_
  refine St.move rfl rfl ?_
  refine St.sub rfl rfl rfl ?_
  rw [show IntKind.u64.wrap ((32 : Int) - ((n : Nat) : Int)) = ((32 - n : Nat) : Int) by rw [show (32 : Int) - ((n : Nat) : Int) = ((32 - n : Nat) : Int) by omega, wrap_u64, Nat.mod_eq_of_lt (by omega)]]
  refine St.shr rfl rfl rfl (by omega) ?_
  rw [shr_u32 _ _ (by omega)]
  refine St.orI rfl rfl rfl ?_
  have hd := Nat.div_le_self x (2 ^ (32 - n))
  rw [or_u32 _ _ (Nat.mod_lt _ (by decide)) (by omega)]
  refine St.assign rfl rfl ?_
  refine St.done ?_
  refine SX.seq ?_
  refine SC.ret ?_
  exact SX.ret1 rfl rfl ⟨rfl, rfl⟩
theorem rol_spec (w0 : World) (L : List Chunk) (x n : Nat) (hx : x < 4294967296) (hn : n < 32) :
    Meets Try.prog 111 #[.int .u32 ((x : Nat) : Int), .int .i64 ((n : Nat) : Int)] w0 L (fun r L' => L = L' ∧ r = .int .u32 ((rotl x n : Nat) : Int)) := by
  refine Meets.of_body [.int .u32 ((x : Nat) : Int), .int .i64 ((n : Nat) : Int)] Try.func111 rfl Try.ntmps111 rfl ?_
  refine SC.seq ?_
  refine SC.plain ?_
  refine St.assign rfl rfl ?_
  refine St.done ?_
  refine SX.seq ?_
  refine SC.seq ?_
  refine SC.drawn [(0, true), (1, true), (2, true), (3, true), (4, true), (5, true), (6, true), (7, true), (8, true)] [] (_) (by kernel_rfl) (by kernel_rfl) (fun _ h => h) ?_
  refine St.move rfl rfl ?_
  refine St.move rfl rfl ?_
  refine St.shl rfl rfl rfl (by omega) ?_
  rw [shl_u32 _ _ (by omega)]
  refine St.move rfl rfl ?_
  refine St.move rfl rfl ?_
  refine St.subI rfl rfl rfl (by omega) ?_
  rw [show (32 : Int) - ((n : Nat) : Int) = ((32 - n : Nat) : Int) by omega]
  refine St.shr rfl rfl rfl (by omega) ?_
  rw [shr_u32 _ _ (by omega)]
  refine St.orI rfl rfl rfl ?_
  have hd := Nat.div_le_self x (2 ^ (32 - n))
  rw [or_u32 _ _ (Nat.mod_lt _ (by decide)) (by omega)]
  refine St.assign rfl rfl ?_
  refine St.done ?_
  refine SX.tail ?_
  refine St.done ?_
  refine SX.seq ?_
  refine SC.ret ?_
  exact SX.ret1 rfl rfl ⟨rfl, rfl⟩
theorem parity_spec (w0 : World) (L : List Chunk) (b c d : Nat) (hb : b < 4294967296) (hc : c < 4294967296) (hd : d < 4294967296) :
    Meets Try.prog 193 #[.int .u32 ((b : Nat) : Int), .int .u32 ((c : Nat) : Int), .int .u32 ((d : Nat) : Int)] w0 L (fun r L' => L = L' ∧ r = .int .u32 ((parf b c d : Nat) : Int)) := by
  refine Meets.of_body [.int .u32 ((b : Nat) : Int), .int .u32 ((c : Nat) : Int), .int .u32 ((d : Nat) : Int)] Try.func193 rfl Try.ntmps193 rfl ?_
  refine SC.seq ?_
  refine SC.plain ?_
  refine St.assign rfl rfl ?_
  refine St.done ?_
  refine SX.seq ?_
  refine SC.seq ?_
  refine SC.plain ?_
  refine St.move rfl rfl ?_
  refine St.move rfl rfl ?_
  refine St.xorI rfl rfl rfl ?_
  rw [xor_u32 _ _ hb hc]
  refine St.move rfl rfl ?_
  refine St.xorI rfl rfl rfl ?_
  rw [xor_u32 _ _ (xor_lt hb hc) hd]
  refine St.assign rfl rfl ?_
  refine St.done ?_
  refine SX.seq ?_
  refine SC.ret ?_
  exact SX.ret1 rfl rfl ⟨rfl, rfl⟩
theorem choice_spec (w0 : World) (L : List Chunk) (b c d : Nat) (hb : b < 4294967296) (hc : c < 4294967296) (hd : d < 4294967296) :
    Meets Try.prog 194 #[.int .u32 ((b : Nat) : Int), .int .u32 ((c : Nat) : Int), .int .u32 ((d : Nat) : Int)] w0 L (fun r L' => L = L' ∧ r = .int .u32 ((chf b c d : Nat) : Int)) := by
  refine Meets.of_body [.int .u32 ((b : Nat) : Int), .int .u32 ((c : Nat) : Int), .int .u32 ((d : Nat) : Int)] Try.func194 rfl Try.ntmps194 rfl ?_
  refine SC.seq ?_
  refine SC.plain ?_
  refine St.assign rfl rfl ?_
  refine St.done ?_
  refine SX.seq ?_
  refine SC.seq ?_
  refine SC.plain ?_
  refine St.move rfl rfl ?_
  refine St.move rfl rfl ?_
  refine St.andI rfl rfl rfl ?_
  rw [and_u32 _ _ hb hc]
  refine St.move rfl rfl ?_
  refine St.compl rfl rfl ?_
  rw [no_u32 _ hb]
  refine St.move rfl rfl ?_
  refine St.andI rfl rfl rfl ?_
  rw [and_u32 _ _ (no_lt hb) hd]
  refine St.orI rfl rfl rfl ?_
  rw [or_u32 _ _ (and_lt hb) (and_lt (no_lt hb))]
  refine St.assign rfl rfl ?_
  refine St.done ?_
  refine SX.seq ?_
  refine SC.ret ?_
  exact SX.ret1 rfl rfl ⟨rfl, rfl⟩
theorem majority_spec (w0 : World) (L : List Chunk) (b c d : Nat) (hb : b < 4294967296) (hc : c < 4294967296) (hd : d < 4294967296) :
    Meets Try.prog 195 #[.int .u32 ((b : Nat) : Int), .int .u32 ((c : Nat) : Int), .int .u32 ((d : Nat) : Int)] w0 L (fun r L' => L = L' ∧ r = .int .u32 ((majf b c d : Nat) : Int)) := by
  refine Meets.of_body [.int .u32 ((b : Nat) : Int), .int .u32 ((c : Nat) : Int), .int .u32 ((d : Nat) : Int)] Try.func195 rfl Try.ntmps195 rfl ?_
  refine SC.seq ?_
  refine SC.plain ?_
  refine St.assign rfl rfl ?_
  refine St.done ?_
  refine SX.seq ?_
  refine SC.seq ?_
  refine SC.plain ?_
  refine St.move rfl rfl ?_
  refine St.move rfl rfl ?_
  refine St.andI rfl rfl rfl ?_
  rw [and_u32 _ _ hb hc]
  refine St.move rfl rfl ?_
  refine St.move rfl rfl ?_
  refine St.andI rfl rfl rfl ?_
  rw [and_u32 _ _ hb hd]
  refine St.orI rfl rfl rfl ?_
  rw [or_u32 _ _ (and_lt hb) (and_lt hb)]
  refine St.move rfl rfl ?_
  refine St.move rfl rfl ?_
  refine St.andI rfl rfl rfl ?_
  rw [and_u32 _ _ hc hd]
  refine St.orI rfl rfl rfl ?_
  rw [or_u32 _ _ (or_lt (and_lt hb) (and_lt hb)) (and_lt hc)]
  refine St.assign rfl rfl ?_
  refine St.done ?_
  refine SX.seq ?_
  refine SC.ret ?_
  exact SX.ret1 rfl rfl ⟨rfl, rfl⟩
def stepFns : List Value := [.func (.func 194) #[] #[], .func (.func 193) #[] #[], .func (.func 195) #[] #[], .func (.func 193) #[] #[]]
def stepAdds : List Value := [.int .u32 1518500249, .int .u32 1859775393, .int .u32 2400959708, .int .u32 3395469782]
def undef4 : List Value := [.nilFunc, .nilFunc, .nilFunc, .nilFunc]
def zero4 : List Value := [.int .u32 0, .int .u32 0, .int .u32 0, .int .u32 0]
theorem steps_spec (w0 : World) (L : List Chunk) : Meets Try.prog 170 #[] w0 L (fun r L' => L = L' ∧ r = .tuple #[.agg stepFns.toArray, .agg stepAdds.toArray]) := by
  refine Meets.of_body [] Try.func170 rfl Try.ntmps170 rfl ?_
  refine SC.seq ?_
  refine SC.plain ?_
  refine St.alloc undef4 rfl (by kernel_rfl) (fun _ _ h => h.nil) (fun p => ?_)
  refine St.alloc zero4 rfl (by kernel_rfl) (fun _ _ h => h.nil) (fun q => ?_)
  refine St.done ?_
  refine SX.seq ?_
  refine SC.seq ?_
  refine SC.plain ?_
  refine St.assign rfl rfl ?_
  refine St.done ?_
  refine SX.seq ?_
  refine SC.seq ?_
  refine SC.plain ?_
  refine St.move rfl rfl ?_
  refine St.move rfl rfl ?_
  refine St.build [(0, .func (.func 194) #[] #[]), (1, .func (.func 193) #[] #[]), (2, .func (.func 195) #[] #[]), (3, .func (.func 193) #[] #[])] stepFns rfl rfl (by kernel_rfl) ?_
  refine St.build [(0, .int .u32 1518500249), (1, .int .u32 1859775393), (2, .int .u32 2400959708), (3, .int .u32 3395469782)] stepAdds rfl rfl (by kernel_rfl) ?_
  refine St.perm _ (perm12 _ _ _) ?_
  refine St.storeN rfl rfl rfl stepFns rfl (by kernel_rfl) (by simp [stepFns, one]) (by decide) (fun _ h => h.nil) ?_
  refine St.perm _ (perm12 _ _ _) ?_
  refine St.storeN rfl rfl rfl stepAdds rfl (by kernel_rfl) (by simp [stepAdds, one]) (by decide) (fun _ h => h.nil) ?_
  refine St.done ?_
  refine SX.seq ?_
  refine SC.ret ?_
  refine SX.retCC stepFns stepAdds (.inl rfl) rfl rfl rfl (by kernel_rfl) (HoldsN.of_row mem1) (by kernel_rfl) (HoldsN.of_row mem0) (fun w h => h.drop.drop) ⟨rfl, rfl⟩
theorem four_spec (w0 : World) (L : List Chunk) (v : Value) (xs : List Nat) (n : Nat) (E : Chunk) (hb : Buf 5 1 v (bytes xs) xs.length E) (hl : xs.length + 4 ≤ 140737488355328) :
    Meets Try.prog 115 #[v, .int .u32 ((n : Nat) : Int)] w0 (E :: L) (fun r L' => ∃ E', L' = E' :: L ∧ Buf 5 1 r (bytes (xs ++ four n)) (xs.length + 4) E') := by
  refine Meets.of_body [v, .int .u32 ((n : Nat) : Int)] Try.func115 rfl Try.ntmps115 rfl ?_
  refine SC.seq ?_
  refine SC.plain ?_
  refine St.assign rfl rfl ?_
  refine St.done ?_
  refine SX.seq ?_
  refine SC.seq ?_
  refine SC.plain ?_
  refine St.move rfl rfl ?_
  refine St.move rfl rfl ?_
  refine St.shr rfl rfl rfl (by omega) ?_
  rw [shr_24]
  refine St.convI (k := .u8) rfl rfl (by kernel_rfl) (by kernel_rfl) ?_
  rw [conv_u8]
  refine St.move rfl rfl ?_
  refine St.shr rfl rfl rfl (by omega) ?_
  rw [shr_16]
  refine St.convI (k := .u8) rfl rfl (by kernel_rfl) (by kernel_rfl) ?_
  rw [conv_u8]
  refine St.move rfl rfl ?_
  refine St.shr rfl rfl rfl (by omega) ?_
  rw [shr_8]
  refine St.convI (k := .u8) rfl rfl (by kernel_rfl) (by kernel_rfl) ?_
  rw [conv_u8]
  refine St.move rfl rfl ?_
  refine St.convI (k := .u8) rfl rfl (by kernel_rfl) (by kernel_rfl) ?_
  rw [conv_u8]
  refine St.buildSl (e := 5) [(0, .int .u8 ((n / 2 ^ 24 % 256 : Nat) : Int)), (1, .int .u8 ((n / 2 ^ 16 % 256 : Nat) : Int)), (2, .int .u8 ((n / 2 ^ 8 % 256 : Nat) : Int)), (3, .int .u8 ((n % 256 : Nat) : Int))] (bytes (four n)) rfl rfl (by kernel_rfl) (fun _ _ h => h.nil) (fun lit => ?_)
  refine St.perm _ (perm12 _ _ _) ?_
  refine St.append (e := 5) (sz := 1) (bytes := 1) (xs := bytes xs) (n := xs.length) (news := bytes (four n)) (m := 4) rfl rfl rfl (by kernel_rfl) hb (Rd.row (by first | rfl | simp [bytes]) mem1) (bytes_one _) (by omega) (by omega) (fun _ _ h => h.nil) (fun v2 E2 hb2 _ => ?_)
  rw [← bytes_app] at hb2
  refine St.perm _ (perm12 _ _ _) (St.drop ?_)
  refine St.assign rfl rfl ?_
  refine St.done ?_
  refine SX.seq ?_
  refine SC.ret ?_
  exact SX.ret1 rfl rfl ⟨E2, rfl, hb2⟩
theorem number_spec (w0 : World) (L : List Chunk) (v : Value) (n : Nat) (bs : List Nat) (hx : Rd w0 L v 1 n (bytes bs)) (hn : 4 ≤ n) (hb : ∀ b ∈ bs, b < 256) :
    Meets Try.prog 112 #[v] w0 L (fun r L' => L = L' ∧ r = .int .u32 ((be32 (bs.getD 0 0) (bs.getD 1 0) (bs.getD 2 0) (bs.getD 3 0) : Nat) : Int)) := by
  obtain ⟨hl, b, o, A, c, rfl, hA, hr⟩ := hx
  rw [bytes_length, Nat.mul_one] at hl
  have hAe := hA (by omega)
  subst hAe
  have h0 := getD_lt hb 0
  have h1 := getD_lt hb 1
  have h2 := getD_lt hb 2
  have h3 := getD_lt hb 3
  refine Meets.of_body [.slice (some ⟨b, o, none⟩) n c] Try.func112 rfl Try.ntmps112 rfl ?_
  refine SC.seq ?_
  refine SC.plain ?_
  refine St.assign rfl rfl ?_
  refine St.done ?_
  refine SX.seq ?_
  refine SC.seq ?_
  refine SC.drawn [(0, true), (1, true), (2, true), (3, true), (4, true), (5, true), (6, true), (7, true), (8, true), (9, true), (10, true), (11, true), (12, true), (13, true), (14, true), (15, true), (16, true), (17, true), (18, true), (19, true), (20, true), (21, true), (22, true)] [] (_) (by kernel_rfl) (by kernel_rfl) (fun _ h => h) ?_
  refine St.move rfl rfl ?_
  refine St.indexSl (e := 5) (sz := 1) rfl rfl rfl (by kernel_rfl) (by omega) ?_
  refine St.load rfl rfl (by kernel_rfl) (byte_at0 hr 0 (by omega) _ (by decide)) ?_
  refine St.convI (k := .u32) rfl rfl (by kernel_rfl) (by kernel_rfl) ?_
  rw [wrap_u32_lt _ (by omega)]
  refine St.shl rfl rfl rfl (by omega) ?_
  rw [shl_24]
  refine St.move rfl rfl ?_
  refine St.indexSl (e := 5) (sz := 1) rfl rfl rfl (by kernel_rfl) (by omega) ?_
  refine St.load rfl rfl (by kernel_rfl) (byte_at0 hr 1 (by omega) _ (by decide)) ?_
  refine St.convI (k := .u32) rfl rfl (by kernel_rfl) (by kernel_rfl) ?_
  rw [wrap_u32_lt _ (by omega)]
  refine St.shl rfl rfl rfl (by omega) ?_
  rw [shl_16]
  refine St.orI rfl rfl rfl ?_
  rw [or_u32 _ _ (mod32 _) (mod32 _)]
  refine St.move rfl rfl ?_
  refine St.indexSl (e := 5) (sz := 1) rfl rfl rfl (by kernel_rfl) (by omega) ?_
  refine St.load rfl rfl (by kernel_rfl) (byte_at0 hr 2 (by omega) _ (by decide)) ?_
  refine St.convI (k := .u32) rfl rfl (by kernel_rfl) (by kernel_rfl) ?_
  rw [wrap_u32_lt _ (by omega)]
  refine St.shl rfl rfl rfl (by omega) ?_
  rw [shl_8]
  refine St.orI rfl rfl rfl ?_
  rw [or_u32 _ _ (or_lt (mod32 _) (mod32 _)) (mod32 _)]
  refine St.move rfl rfl ?_
  refine St.indexSl (e := 5) (sz := 1) rfl rfl rfl (by kernel_rfl) (by omega) ?_
  refine St.load rfl rfl (by kernel_rfl) (byte_at0 hr 3 (by omega) _ (by decide)) ?_
  refine St.convI (k := .u32) rfl rfl (by kernel_rfl) (by kernel_rfl) ?_
  rw [wrap_u32_lt _ (by omega)]
  refine St.orI rfl rfl rfl ?_
  rw [or_u32 _ _ (or_lt (or_lt (mod32 _) (mod32 _)) (mod32 _)) (by omega)]
  refine St.assign rfl rfl ?_
  refine St.done ?_
  refine SX.tail ?_
  refine St.done ?_
  refine SX.seq ?_
  refine SC.ret ?_
  exact SX.ret1 rfl rfl ⟨rfl, rfl⟩
theorem word_at {w0 : World} {L : List Chunk} {b o : Nat} {ws : List Nat} (h : HoldsN w0 L b o (w32s ws)) (i : Nat) (hi : i < ws.length) : Holds w0 L ⟨b, o + (i : Int).toNat * 1, none⟩ (.int .u32 ((ws.getD i 0 : Nat) : Int)) := by
  rw [Int.toNat_natCast, Nat.mul_one]
  exact h.one i (w32s_get ws i hi)
theorem flat_len (ws : List Nat) (i : Nat) (h : i ≤ ws.length) : ((ws.take i).flatMap four).length = 4 * i := by
  induction i with
  | zero => simp
  | succ i ih =>
    rw [List.take_succ_eq_append_getElem (by omega), List.flatMap_append, List.length_append, ih (by omega)]
    simp [four]
    omega
theorem flat_succ (ws : List Nat) (i : Nat) (h : i < ws.length) : (ws.take (i + 1)).flatMap four = (ws.take i).flatMap four ++ four (ws.getD i 0) := by
  rw [List.take_succ_eq_append_getElem h, List.flatMap_append, List.getD_eq_getElem?_getD, List.getElem?_eq_getElem h]
  simp
theorem words_spec (w0 : World) (L : List Chunk) (v : Value) (ws : List Nat) (hx : Rd w0 L v 1 ws.length (w32s ws)) (hl : ws.length ≤ 1000) :
    Meets Try.prog 110 #[v] w0 L (fun r L' => ∃ E, L' = E :: L ∧ Buf 5 1 r (bytes (ws.flatMap four)) (ws.flatMap four).length E) := by
  obtain ⟨_, b, o, A, c, rfl, hA, hr⟩ := hx
  refine Meets.of_body [.slice A ws.length c] Try.func110 rfl Try.ntmps110 rfl ?_
  refine SC.seq ?_
  refine SC.plain ?_
  refine St.assign rfl rfl ?_
  refine St.done ?_
  refine SX.seq ?_
  refine SC.seq ?_
  refine SC.plain ?_
  refine St.assign rfl rfl ?_
  refine St.done ?_
  refine SX.seq ?_
  refine SC.seq ?_
  refine SC.seq ?_
  refine SC.plain ?_
  refine St.assign rfl rfl ?_
  refine St.done ?_
  refine SX.seq ?_
  refine SC.block ?_
  refine SC.perm ([] :: L) (List.Perm.refl _) ?_
  refine SC.loop (α := Nat × Value × Chunk) (fun s => s.1 ≤ ws.length ∧ Buf 5 1 s.2.1 (bytes ((ws.take s.1).flatMap four)) (((ws.take s.1).flatMap four).length) s.2.2) (fun s => [(0, .slice A ws.length c), (3, s.2.1), (4, .int .i64 ((s.1 : Nat) : Int))]) (fun s => s.2.2 :: L) (fun s => ws.length - s.1) (0, .slice none 0 0, []) ⟨Nat.zero_le _, Buf.nil 5 1⟩ ⟨rfl, rfl, rfl, trivial⟩ (List.Perm.refl _) ?_
  rintro ⟨i, v, E⟩ ⟨hi, hb⟩
  simp only at hi hb
  show SC _ _ _ [(0, .slice A ws.length c), (3, v), (4, .int .i64 ((i : Nat) : Int))] (E :: L)
  refine SC.seq ?_
  refine SC.seq ?_
  refine SC.plain ?_
  refine St.move rfl rfl ?_
  refine St.move rfl rfl ?_
  refine St.lenSl rfl rfl (by kernel_rfl) ?_
  refine St.lss rfl rfl rfl ?_
  refine St.done ?_
  refine SX.seq ?_
  refine SC.condp rfl (fun c8 => ?_) (fun c8 => ?_)
  · have hlt : i < ws.length := by omega
    have hAe := hA (by omega)
    subst hAe
    have hlen := flat_len ws i (by omega)
    have hlen2 := flat_len ws (i + 1) (by omega)
    refine SC.skip ?_
    refine SX.seq ?_
    refine SC.seq ?_
    refine SC.block ?_
    refine SC.drawn [(0, true), (1, true), (2, true), (3, true), (4, true), (5, true), (6, true), (7, true), (8, true), (9, true), (10, true), (11, true), (12, true), (13, true), (14, true), (15, true), (16, true), (17, true), (18, true), (19, true), (20, true), (21, true), (22, true), (23, true), (24, false), (25, false), (26, true)] [] (L) (by kernel_rfl) (by kernel_rfl) (fun _ h => h.drop) ?_
    refine St.move rfl rfl ?_
    refine St.move rfl rfl ?_
    refine St.move rfl rfl ?_
    refine St.indexSl (e := 33) (sz := 1) rfl rfl rfl (by kernel_rfl) (by omega) ?_
    refine St.load rfl rfl (by kernel_rfl) (word_at hr i (by omega)) ?_
    refine St.shr rfl rfl rfl (by omega) ?_
    rw [shr_24]
    refine St.convI (k := .u8) rfl rfl (by kernel_rfl) (by kernel_rfl) ?_
    rw [conv_u8]
    refine St.move rfl rfl ?_
    refine St.move rfl rfl ?_
    refine St.indexSl (e := 33) (sz := 1) rfl rfl rfl (by kernel_rfl) (by omega) ?_
    refine St.load rfl rfl (by kernel_rfl) (word_at hr i (by omega)) ?_
    refine St.shr rfl rfl rfl (by omega) ?_
    rw [shr_16]
    refine St.convI (k := .u8) rfl rfl (by kernel_rfl) (by kernel_rfl) ?_
    rw [conv_u8]
    refine St.move rfl rfl ?_
    refine St.move rfl rfl ?_
    refine St.indexSl (e := 33) (sz := 1) rfl rfl rfl (by kernel_rfl) (by omega) ?_
    refine St.load rfl rfl (by kernel_rfl) (word_at hr i (by omega)) ?_
    refine St.shr rfl rfl rfl (by omega) ?_
    rw [shr_8]
    refine St.convI (k := .u8) rfl rfl (by kernel_rfl) (by kernel_rfl) ?_
    rw [conv_u8]
    refine St.move rfl rfl ?_
    refine St.move rfl rfl ?_
    refine St.indexSl (e := 33) (sz := 1) rfl rfl rfl (by kernel_rfl) (by omega) ?_
    refine St.load rfl rfl (by kernel_rfl) (word_at hr i (by omega)) ?_
    refine St.convI (k := .u8) rfl rfl (by kernel_rfl) (by kernel_rfl) ?_
    rw [conv_u8]
    refine St.buildSl (e := 5) [(0, .int .u8 ((ws.getD i 0 / 2 ^ 24 % 256 : Nat) : Int)), (1, .int .u8 ((ws.getD i 0 / 2 ^ 16 % 256 : Nat) : Int)), (2, .int .u8 ((ws.getD i 0 / 2 ^ 8 % 256 : Nat) : Int)), (3, .int .u8 ((ws.getD i 0 % 256 : Nat) : Int))] (bytes (four (ws.getD i 0))) rfl rfl (by kernel_rfl) (fun _ _ h => h.drop.drop) (fun lit => ?_)
    refine St.perm _ (perm12 _ _ _) ?_
    refine St.append (e := 5) (sz := 1) (bytes := 1) (xs := bytes ((ws.take i).flatMap four)) (n := ((ws.take i).flatMap four).length) (news := bytes (four (ws.getD i 0))) (m := 4) rfl rfl rfl (by kernel_rfl) hb (Rd.row (by first | rfl | simp [bytes]) mem1) (bytes_one _) (by omega) (by omega) (fun _ _ h => h.drop.drop) (fun v2 E2 hb2 _ => ?_)
    rw [← bytes_app] at hb2
    refine St.perm _ (perm12 _ _ _) (St.drop ?_)
    rw [← flat_succ ws i hlt, show ((ws.take i).flatMap four).length + 4 = ((ws.take (i + 1)).flatMap four).length by omega] at hb2
    refine St.assign rfl rfl ?_
    refine St.done ?_
    refine SX.tail ?_
    refine St.done ?_
    refine SX.blk ?_
    refine SX.seq ?_
    refine SC.plain ?_
    refine St.move rfl rfl ?_
    refine St.addI rfl rfl rfl (by omega) ?_
    refine St.assign rfl rfl ?_
    refine St.done ?_
    exact SX.again (i + 1, v2, E2) ⟨by simp only; omega, hb2⟩ (by simp only; omega) ⟨rfl, rfl, rfl, trivial⟩ (List.Perm.refl _)
  · have hie : i = ws.length := by omega
    subst hie
    rw [List.take_length] at hb
    refine SC.exit ?_
    refine SX.seq_exit ?_
    refine SX.seq_exit ?_
    refine SX.hit ?_
    refine SX.seq ?_
    refine SC.seq ?_
    refine SC.plain ?_
    refine St.move rfl rfl ?_
    refine St.assign rfl rfl ?_
    refine St.done ?_
    refine SX.seq ?_
    refine SC.ret ?_
    exact SX.ret1 rfl rfl ⟨E, rfl, hb⟩
end Go.Proofs.Ytahafepgmkiabaa
