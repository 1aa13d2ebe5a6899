/-
Part 3 of the road to the statement: Gf_declaration_Hash, HTag, Gf_threshold_node, Gf_threshold_level_fn1, Gf_slices_IndexFunc___int_int_, Gf_slices_ContainsFunc___int_int_, Gf_nodeset_Of, Gf_threshold_Depth, Gf_threshold_Size, Gf_threshold_level, Gf_threshold_Valid, Gf_strconv_Itoa, Gf_strings_Join, Gf_notation_write, Gf_notation_Text, Gf_ref03_text, Gf_ref03_Text, Gf_ref07_Hash, Gf_ref07_Tag, T7a, T7b, Gf_declaration_Plain, Gf_declaration_Bytes, Gf_declaration_Check, Gf_ref07_Plain, Gf_ref07_Bytes, Gf_ref07_Sign, Gf_make_Keys, Gf_make_Declared, Gf_make_Declaration, T7c, T7d, Gf_declaration_copied.
-/
import Derived.Test.YthkahljlmncdiaaDoorOr2
/-
How declaration.Hash runs, as a pure function.
-/
namespace Go.Am
open Go Go.Proofs
set_option linter.unusedVariables false
set_option linter.unusedSimpArgs false
set_option maxRecDepth 4000
set_option maxHeartbeats 4000000
noncomputable def B_declaration_Hash_0 (L1 : (List Int)) (i3 : Nat) (x3_0 : Int) (e4 : Int) : Option Int :=
  some (mulK .u64 (xorK .u64 x3_0 (IntKind.wrap .u64 e4)) 1099511628211)
def I_declaration_Hash_0 (L1 : (List Int)) (i3 : Nat) (x3_0 : Int) (q : St) : Prop := q (.t 3) = (.pv (.int .u64 x3_0)) ∧ q (.t 7) = (.pv (.sl L1.length (es_u8 L1))) ∧ q (.t 8) = (i64 (L1.length : Int)) ∧ q (.t 9) = (i64 (i3 : Int))
def Q_declaration_Hash_0 (L1 : (List Int)) (x3_0 : Int) (q : St) : Prop := q (.t 3) = (.pv (.int .u64 x3_0))
theorem Pb_declaration_Hash_0 {L1 : (List Int)} {i3 : Nat} {x3_0 : Int} {e4 : Int} {q : St} {r : Int} (hx : L1[i3]? = some e4) (hi : i3 < L1.length) (hn : L1.length < 4611686018427387904) (hI : I_declaration_Hash_0 L1 i3 x3_0 q) (hB : B_declaration_Hash_0 L1 i3 x3_0 e4 = some r) : Res (C Tryd.prog cf (Code.fst (Code.fst (Code.snd (Code.fst (Code.snd (Code.snd ((Tryd.f22.body).getD .skip))))))) q) (postG (fun a q => I_declaration_Hash_0 L1 (i3 + 1) a q) r) := by
  have hi3 : (i3 : Int) < (L1.length : Int) := by omega
  have hi2 := decide_eq_true hi3
  have hi4 := idx_step hi hn
  have hi5 := ne_of_get hx
  simp only [I_declaration_Hash_0] at hI
  obtain ⟨q1, q2, q3, q4⟩ := hI
  simp only [Code.fst, Code.snd, Tryd.f22, Option.getD_some]
  generalize hr5 : Code.region 5 _ _ = rr5
  unfold B_declaration_Hash_0 at hB
  obtain rfl := Option.some.inj hB
  subst hr5
  try simp -implicitDefEqProofs [-getElem?_pos, -Int.ofNat_lt, -Int.ofNat_le, -Int.natCast_eq_zero, -Int.natCast_pos, -List.length_eq_zero_iff, List.getElem?_cons_zero, List.getElem?_cons_succ, List.getElem?_nil, q1, q2, q3, q4, hx, hi2, hi3, hi4, hi5]
  refine Res.g ?_
  simp -implicitDefEqProofs [-getElem?_pos, -Int.ofNat_lt, -Int.ofNat_le, -Int.natCast_eq_zero, -Int.natCast_pos, -List.length_eq_zero_iff, List.getElem?_cons_zero, List.getElem?_cons_succ, List.getElem?_nil, and_assoc, I_declaration_Hash_0, ownAt, q1, q2, q3, q4, hx, hi2, hi3, hi4, hi5]
theorem Pe_declaration_Hash_0 {L1 : (List Int)} {x3_0 : Int} {q : St} (hI : I_declaration_Hash_0 L1 L1.length x3_0 q) : Res (C Tryd.prog cf (Code.fst (Code.fst (Code.snd (Code.fst (Code.snd (Code.snd ((Tryd.f22.body).getD .skip))))))) q) fun e q' => e = .exit 0 ∧ Q_declaration_Hash_0 L1 x3_0 q' := by
  simp only [I_declaration_Hash_0] at hI
  obtain ⟨q1, q2, q3, q4⟩ := hI
  simp only [Code.fst, Code.snd, Tryd.f22, Option.getD_some]
  simp -implicitDefEqProofs [-getElem?_pos, -Int.ofNat_lt, -Int.ofNat_le, -Int.natCast_eq_zero, -Int.natCast_pos, -List.length_eq_zero_iff, List.getElem?_cons_zero, List.getElem?_cons_succ, List.getElem?_nil, q1, q2, q3, q4]
  refine Res.x ?_
  simp -implicitDefEqProofs [-getElem?_pos, -Int.ofNat_lt, -Int.ofNat_le, -Int.natCast_eq_zero, -Int.natCast_pos, -List.length_eq_zero_iff, List.getElem?_cons_zero, List.getElem?_cons_succ, List.getElem?_nil, and_assoc, Q_declaration_Hash_0, ownAt, q1, q2, q3, q4]
theorem P_declaration_Hash_0 {L1 : (List Int)} {x3_0 : Int} {cc : Code} (hcc : cc = .block 0 (.loop (Code.fst (Code.fst (Code.snd (Code.fst (Code.snd (Code.snd ((Tryd.f22.body).getD .skip))))))))) {s : St} {z : Option (Ex × St)} (hz : C Tryd.prog cf cc s = z) {r : Int} (hn : L1.length < 4611686018427387904) (hI : I_declaration_Hash_0 L1 0 x3_0 s) (hB : foldO (fun i a x => B_declaration_Hash_0 L1 i a x) 0 x3_0 L1 = some r) : Res z (postG (fun a q => Q_declaration_Hash_0 L1 a q) r) := by
  subst hcc
  exact fold_sim (I := fun i a q => I_declaration_Hash_0 L1 i a q) (Q := (fun a q => Q_declaration_Hash_0 L1 a q)) (fun i x a q r hx hi h hB => Pb_declaration_Hash_0 hx hi hn h hB) (fun a q h => Pe_declaration_Hash_0 h) hI hz hB
noncomputable def B_declaration_Hash (p0 : (List UInt8)) : Option Int :=
  kb (u8K p0) fun L1 =>
  kb (smallK L1) fun _ =>
  kb (foldO (fun i a x => B_declaration_Hash_0 L1 i a x) 0 14695981039346656037 L1) fun z4 =>
  some z4
theorem sim_declaration_Hash {p0 : (List UInt8)} {r : Int} (hB : B_declaration_Hash p0 = some r) : R 22 [(.pv (.str p0))] [] = some ((.pv (.int .u64 r)), [], []) := by
  rw [R_eq _ _ _ fn_declaration_Hash]
  simp only [Code.fst, Code.snd, Tryd.f22, Option.getD_some]
  generalize hc0 : Code.block 0 _ = cc0
  generalize hr2 : Code.region 2 _ _ = rr2
  unfold B_declaration_Hash at hB
  obtain ⟨L1, u2, hB⟩ := kb_inv hB
  obtain ⟨u2a, u2b⟩ := u8K_inv u2
  try dsimp only at hB
  subst hr2
  try simp -implicitDefEqProofs [-getElem?_pos, -Int.ofNat_lt, -Int.ofNat_le, -Int.natCast_eq_zero, -Int.natCast_pos, -List.length_eq_zero_iff, List.getElem?_cons_zero, List.getElem?_cons_succ, List.getElem?_nil, u2a, u2b]
  generalize hz0 : C Tryd.prog cf cc0 _ = z0
  obtain ⟨_, hsm, hB⟩ := kb_inv hB
  obtain ⟨z4, hB1, hB⟩ := kb_inv hB
  have hJ := P_declaration_Hash_0 (hc0.symm.trans (by kernel_rfl)) hz0 (smallK_inv hsm) (by simp -implicitDefEqProofs [-getElem?_pos, -Int.ofNat_lt, -Int.ofNat_le, -Int.natCast_eq_zero, -Int.natCast_pos, -List.length_eq_zero_iff, List.getElem?_cons_zero, List.getElem?_cons_succ, List.getElem?_nil, and_assoc, I_declaration_Hash_0, ownAt, u2a, u2b]) hB1
  obtain ⟨e0, s0, rfl, hq⟩ := hJ.open
  clear hB1
  obtain ⟨rfl, hq⟩ := hq
  simp only [Q_declaration_Hash_0] at hq
  have q4_1 := hq
  obtain rfl := Option.some.inj hB
  simp -implicitDefEqProofs [-getElem?_pos, -Int.ofNat_lt, -Int.ofNat_le, -Int.natCast_eq_zero, -Int.natCast_pos, -List.length_eq_zero_iff, List.getElem?_cons_zero, List.getElem?_cons_succ, List.getElem?_nil, q4_1, u2a, u2b]
theorem g_declaration_Hash {p0 : (List UInt8)} {r : Int} (hB : B_declaration_Hash p0 = some r) : G_declaration_Hash p0 = some r := dec_of (fun a b h => by rcases a with a0_; rcases b with b0_; simp at h; simp [*]) (sim_declaration_Hash hB)
end Go.Am

/-
How declaration.Tag runs: eight bytes of the key ahead of the bytes.
-/
namespace Go.Am
open Go Go.Proofs
set_option linter.unusedVariables false
set_option linter.unusedSimpArgs false
set_option maxRecDepth 4000
set_option maxHeartbeats 4000000

theorem C_loop' {P : Program} {cfg : Cfg} (b : Code) (s : St) : C P cfg (.loop b) s = thenC (C P cfg b s) (fun s' => C P cfg (.loop b) s') := by
  rw [C_loop]
  cases C P cfg b s with
  | none => rfl
  | some q => obtain ⟨e, s'⟩ := q; cases e <;> rfl
def loopBody : Code → Code
  | .loop b => b
  | _ => .skip
theorem loopBody_loop (b : Code) : loopBody (.loop b) = b := rfl
def tagByte (key : Int) (k : Int) : UInt8 := UInt8.ofNat (IntKind.u8.wrap (shrK .u64 key k)).toNat
def tagHead (key : Int) : List UInt8 := [tagByte key 56, tagByte key 48, tagByte key 40, tagByte key 32, tagByte key 24, tagByte key 16, tagByte key 8, tagByte key 0]
theorem sim_declaration_Tag {p0 : Int} {p1 : List UInt8} {r : Int} (hl : p1.length < 1000000000) (hr : G_declaration_Hash (tagHead p0 ++ p1) = some r) : R 21 [(.pv (.int .u64 p0)), (.pv (.str p1))] [] = some ((.pv (.int .u64 r)), [], []) := by
  have k := run_declaration_Hash hr
  simp only [tagHead, tagByte, List.cons_append, List.nil_append] at k
  have hl2 : p1.length + 8 < 4611686018427387904 := by omega
  have hl3 : 8 + p1.length < 4611686018427387904 := by omega
  have m0 : sub64 56 (mul64 8 0) = 56 := by decide
  have m1 : sub64 56 (mul64 8 1) = 48 := by decide
  have m2 : sub64 56 (mul64 8 2) = 40 := by decide
  have m3 : sub64 56 (mul64 8 3) = 32 := by decide
  have m4 : sub64 56 (mul64 8 4) = 24 := by decide
  have m5 : sub64 56 (mul64 8 5) = 16 := by decide
  have m6 : sub64 56 (mul64 8 6) = 8 := by decide
  have m7 : sub64 56 (mul64 8 7) = 0 := by decide
  have a0 : add64 0 1 = 1 := by decide
  have a1 : add64 1 1 = 2 := by decide
  have a2 : add64 2 1 = 3 := by decide
  have a3 : add64 3 1 = 4 := by decide
  have a4 : add64 4 1 = 5 := by decide
  have a5 : add64 5 1 = 6 := by decide
  have a6 : add64 6 1 = 7 := by decide
  have a7 : add64 7 1 = 8 := by decide
  rw [R_eq _ _ _ fn_declaration_Tag]
  simp only [Code.fst, Code.snd, Tryd.f21, Option.getD_some]
  generalize hr7 : Code.region 7 _ _ = rr7
  generalize hL : Code.loop _ = lp
  simp -implicitDefEqProofs
  have hl0 : ∀ s, C Tryd.prog cf lp s = thenC (C Tryd.prog cf (loopBody lp) s) (fun s' => C Tryd.prog cf lp s') := by
    intro s
    subst hL
    exact C_loop' _ s
  have hbd := congrArg loopBody hL
  rw [loopBody_loop] at hbd
  rw [← hbd] at hl0
  clear hbd
  rw [hl0]
  simp -implicitDefEqProofs [m0, a0]
  rw [hl0]
  simp -implicitDefEqProofs [m1, a1]
  rw [hl0]
  simp -implicitDefEqProofs [m2, a2]
  rw [hl0]
  simp -implicitDefEqProofs [m3, a3]
  rw [hl0]
  simp -implicitDefEqProofs [m4, a4]
  rw [hl0]
  simp -implicitDefEqProofs [m5, a5]
  rw [hl0]
  simp -implicitDefEqProofs [m6, a6]
  rw [hl0]
  simp -implicitDefEqProofs [m7, a7]
  rw [hl0]
  simp -implicitDefEqProofs
  subst hr7
  simp -implicitDefEqProofs [unbytes, hl2, hl3, tagByte, k]
theorem g_declaration_Tag {p0 : Int} {p1 : List UInt8} {r : Int} (hl : p1.length < 1000000000) (hr : G_declaration_Hash (tagHead p0 ++ p1) = some r) : G_declaration_Tag p0 p1 = some r := of_declaration_Tag (sim_declaration_Tag hl hr)
end Go.Am

/-
How threshold.node runs, as a pure function.
-/
namespace Go.Am
open Go Go.Proofs
set_option linter.unusedVariables false
set_option linter.unusedSimpArgs false
set_option maxRecDepth 4000
set_option maxHeartbeats 4000000
noncomputable def B_threshold_node (p0 : Int) : Option Bool :=
  cnd (decide (0 ≤ p0)) (
    some (decide (p0 < 10))) (
    some false)
theorem sim_threshold_node {p0 : Int} {r : Bool} (hB : B_threshold_node p0 = some r) : R 56 [(i64 p0)] [] = some ((bl r), [], []) := by
  rw [R_eq _ _ _ fn_threshold_node]
  simp only [Code.fst, Code.snd, Tryd.f56, Option.getD_some]
  generalize hr1 : Code.region 1 _ _ = rr1
  unfold B_threshold_node at hB
  rcases cnd_inv hB with ⟨c1, hB⟩ | ⟨c1, hB⟩
  · have pc1 := eq_true (of_decide_eq_true c1)
    obtain rfl := Option.some.inj hB
    subst hr1
    simp -implicitDefEqProofs [-getElem?_pos, -Int.ofNat_lt, -Int.ofNat_le, -Int.natCast_eq_zero, -Int.natCast_pos, -List.length_eq_zero_iff, List.getElem?_cons_zero, List.getElem?_cons_succ, List.getElem?_nil, c1, pc1]
  · have pc1 := eq_false (of_decide_eq_false c1)
    obtain rfl := Option.some.inj hB
    subst hr1
    simp -implicitDefEqProofs [-getElem?_pos, -Int.ofNat_lt, -Int.ofNat_le, -Int.natCast_eq_zero, -Int.natCast_pos, -List.length_eq_zero_iff, List.getElem?_cons_zero, List.getElem?_cons_succ, List.getElem?_nil, c1, pc1]
theorem g_threshold_node {p0 : Int} {r : Bool} (hB : B_threshold_node p0 = some r) : G_threshold_node p0 = some r := dec_of (fun a b h => by rcases a with a0_; rcases b with b0_; simp at h; simp [*]) (sim_threshold_node hB)
end Go.Am

/-
How threshold.level$1 runs, as a pure function.
-/
namespace Go.Am
open Go Go.Proofs
set_option linter.unusedVariables false
set_option linter.unusedSimpArgs false
set_option maxRecDepth 4000
set_option maxHeartbeats 4000000
noncomputable def B_threshold_level_fn1 (p0 : Int) : Option Bool :=
  kb (G_threshold_node p0) fun y1 =>
  some (!y1)
theorem sim_threshold_level_fn1 {p0 : Int} {r : Bool} (hB : B_threshold_level_fn1 p0 = some r) : R 55 [(i64 p0)] [] = some ((bl r), [], []) := by
  rw [R_eq _ _ _ fn_threshold_level_fn1]
  simp only [Code.fst, Code.snd, Tryd.f55, Option.getD_some]
  generalize hr1 : Code.region 1 _ _ = rr1
  unfold B_threshold_level_fn1 at hB
  obtain ⟨y1, k2, hB⟩ := kb_inv hB
  replace k2 := run_threshold_node k2
  try simp only [Int.cast_ofNat_Int, Int.natCast_zero, List.length_cons, List.length_nil, List.nil_append, List.cons_append, Nat.zero_add, Nat.reduceAdd, Tru.thr_mk, Tru.nodes_mk, Tru.inner_mk, ints_cons, ints_nil, encTs_cons, encTs_nil, es_str_cons, es_str_nil, es_u64_cons, es_u64_nil, es_u8_cons, es_u8_nil] at k2
  try dsimp only at hB
  obtain rfl := Option.some.inj hB
  subst hr1
  simp -implicitDefEqProofs [-getElem?_pos, -Int.ofNat_lt, -Int.ofNat_le, -Int.natCast_eq_zero, -Int.natCast_pos, -List.length_eq_zero_iff, List.getElem?_cons_zero, List.getElem?_cons_succ, List.getElem?_nil, k2]
theorem g_threshold_level_fn1 {p0 : Int} {r : Bool} (hB : B_threshold_level_fn1 p0 = some r) : G_threshold_level_fn1 p0 = some r := dec_of (fun a b h => by rcases a with a0_; rcases b with b0_; simp at h; simp [*]) (sim_threshold_level_fn1 hB)
end Go.Am

/-
How slices.IndexFunc[[]int,int] runs, as a pure function.
-/
namespace Go.Am
open Go Go.Proofs
set_option linter.unusedVariables false
set_option linter.unusedSimpArgs false
set_option maxRecDepth 4000
set_option maxHeartbeats 4000000
noncomputable def B_slices_IndexFunc___int_int__0 (p0 : (List Int)) (i1 : Nat) (e2 : Int) : Option (Stp Unit Int) :=
  kb (G_threshold_level_fn1 e2) fun y2 =>
  cnd y2 (
    some (.ret (i1 : Int))) (
    some (.go ()))
def I_slices_IndexFunc___int_int__0 (p0 : (List Int)) (i1 : Nat) (q : St) : Prop := q (.t 0) = (.pv (.sl p0.length (ints p0))) ∧ q (.t 1) = (.fn 55 [] []) ∧ q (.t 7) = (i64 (p0.length : Int)) ∧ q (.t 8) = (i64 (i1 : Int))
def Q_slices_IndexFunc___int_int__0 (p0 : (List Int)) (q : St) : Prop := True
def QR_slices_IndexFunc___int_int__0 (p0 : (List Int)) (r4_0 : Int) (q : St) : Prop := q (.t 4) = (i64 r4_0)
theorem Pb_slices_IndexFunc___int_int__0 {p0 : (List Int)} {i1 : Nat} {e2 : Int} {q : St} {r : (Stp Unit Int)} (hx : p0[i1]? = some e2) (hi : i1 < p0.length) (hn : p0.length < 4611686018427387904) (hI : I_slices_IndexFunc___int_int__0 p0 i1 q) (hB : B_slices_IndexFunc___int_int__0 p0 i1 e2 = some r) : Res (C Tryd.prog cf (Code.fst (Code.fst (Code.snd (Code.fst (Code.snd ((Tryd.f66.body).getD .skip)))))) q) (postB 0 (fun a q => I_slices_IndexFunc___int_int__0 p0 (i1 + 1) q) (fun a q => Q_slices_IndexFunc___int_int__0 p0 q) (fun a q => QR_slices_IndexFunc___int_int__0 p0 a q) r) := by
  have hi3 : (i1 : Int) < (p0.length : Int) := by omega
  have hi2 := decide_eq_true hi3
  have hi4 := idx_step hi hn
  have hi5 := ne_of_get hx
  simp only [I_slices_IndexFunc___int_int__0] at hI
  obtain ⟨q1, q2, q3, q4⟩ := hI
  simp only [Code.fst, Code.snd, Tryd.f66, Option.getD_some]
  generalize hr4 : Code.region 4 _ _ = rr4
  unfold B_slices_IndexFunc___int_int__0 at hB
  obtain ⟨y2, k3, hB⟩ := kb_inv hB
  replace k3 := run_threshold_level_fn1 k3
  try simp only [Int.cast_ofNat_Int, Int.natCast_zero, List.length_cons, List.length_nil, List.nil_append, List.cons_append, Nat.zero_add, Nat.reduceAdd, Tru.thr_mk, Tru.nodes_mk, Tru.inner_mk, ints_cons, ints_nil, encTs_cons, encTs_nil, es_str_cons, es_str_nil, es_u64_cons, es_u64_nil, es_u8_cons, es_u8_nil] at k3
  try dsimp only at hB
  rcases cnd_inv hB with ⟨c4, hB⟩ | ⟨c4, hB⟩
  · obtain rfl := Option.some.inj hB
    subst hr4
    try simp -implicitDefEqProofs [-getElem?_pos, -Int.ofNat_lt, -Int.ofNat_le, -Int.natCast_eq_zero, -Int.natCast_pos, -List.length_eq_zero_iff, List.getElem?_cons_zero, List.getElem?_cons_succ, List.getElem?_nil, q1, q2, q3, q4, hx, hi2, hi3, hi4, hi5, k3, c4]
    refine Res.bret ?_
    simp -implicitDefEqProofs [-getElem?_pos, -Int.ofNat_lt, -Int.ofNat_le, -Int.natCast_eq_zero, -Int.natCast_pos, -List.length_eq_zero_iff, List.getElem?_cons_zero, List.getElem?_cons_succ, List.getElem?_nil, and_assoc, QR_slices_IndexFunc___int_int__0, ownAt, q1, q2, q3, q4, hx, hi2, hi3, hi4, hi5, k3, c4]
  · obtain rfl := Option.some.inj hB
    subst hr4
    try simp -implicitDefEqProofs [-getElem?_pos, -Int.ofNat_lt, -Int.ofNat_le, -Int.natCast_eq_zero, -Int.natCast_pos, -List.length_eq_zero_iff, List.getElem?_cons_zero, List.getElem?_cons_succ, List.getElem?_nil, q1, q2, q3, q4, hx, hi2, hi3, hi4, hi5, k3, c4]
    refine Res.bgo ?_
    simp -implicitDefEqProofs [-getElem?_pos, -Int.ofNat_lt, -Int.ofNat_le, -Int.natCast_eq_zero, -Int.natCast_pos, -List.length_eq_zero_iff, List.getElem?_cons_zero, List.getElem?_cons_succ, List.getElem?_nil, and_assoc, I_slices_IndexFunc___int_int__0, ownAt, q1, q2, q3, q4, hx, hi2, hi3, hi4, hi5, k3, c4]
theorem Pe_slices_IndexFunc___int_int__0 {p0 : (List Int)} {q : St} (hI : I_slices_IndexFunc___int_int__0 p0 p0.length q) : Res (C Tryd.prog cf (Code.fst (Code.fst (Code.snd (Code.fst (Code.snd ((Tryd.f66.body).getD .skip)))))) q) fun e q' => e = .exit 0 ∧ Q_slices_IndexFunc___int_int__0 p0 q' := by
  simp only [I_slices_IndexFunc___int_int__0] at hI
  obtain ⟨q1, q2, q3, q4⟩ := hI
  simp only [Code.fst, Code.snd, Tryd.f66, Option.getD_some]
  simp -implicitDefEqProofs [-getElem?_pos, -Int.ofNat_lt, -Int.ofNat_le, -Int.natCast_eq_zero, -Int.natCast_pos, -List.length_eq_zero_iff, List.getElem?_cons_zero, List.getElem?_cons_succ, List.getElem?_nil, q1, q2, q3, q4]
  refine Res.x ?_
  simp -implicitDefEqProofs [-getElem?_pos, -Int.ofNat_lt, -Int.ofNat_le, -Int.natCast_eq_zero, -Int.natCast_pos, -List.length_eq_zero_iff, List.getElem?_cons_zero, List.getElem?_cons_succ, List.getElem?_nil, and_assoc, Q_slices_IndexFunc___int_int__0, ownAt, q1, q2, q3, q4]
theorem P_slices_IndexFunc___int_int__0 {p0 : (List Int)} {cc : Code} (hcc : cc = .block 0 (.loop (Code.fst (Code.fst (Code.snd (Code.fst (Code.snd ((Tryd.f66.body).getD .skip)))))))) {s : St} {z : Option (Ex × St)} (hz : C Tryd.prog cf cc s = z) {r : (Stp Unit Int)} (hn : p0.length < 4611686018427387904) (hI : I_slices_IndexFunc___int_int__0 p0 0 s) (hB : loopL (fun i a x => B_slices_IndexFunc___int_int__0 p0 i x) 0 () p0 = some r) : Res z (postS (fun a q => Q_slices_IndexFunc___int_int__0 p0 q) (fun a q => QR_slices_IndexFunc___int_int__0 p0 a q) r) := by
  subst hcc
  exact loopL_sim (I := fun i a q => I_slices_IndexFunc___int_int__0 p0 i q) (Q := (fun a q => Q_slices_IndexFunc___int_int__0 p0 q)) (QR := (fun a q => QR_slices_IndexFunc___int_int__0 p0 a q)) (fun i x a q r hx hi h hB => Pb_slices_IndexFunc___int_int__0 hx hi hn h hB) (fun a q h => Pe_slices_IndexFunc___int_int__0 h) hI hz hB
noncomputable def B_slices_IndexFunc___int_int_ (p0 : (List Int)) : Option Int :=
  kb (smallK p0) fun _ =>
  kb (loopL (fun i a x => B_slices_IndexFunc___int_int__0 p0 i x) 0 () p0) fun o => stpK o (fun z5 =>
    some (-1)) (fun z5r =>
    some z5r)
theorem sim_slices_IndexFunc___int_int_ {p0 : (List Int)} {r : Int} (hB : B_slices_IndexFunc___int_int_ p0 = some r) : R 66 [(.pv (.sl p0.length (ints p0))), (.fn 55 [] [])] [] = some ((i64 r), [], []) := by
  rw [R_eq _ _ _ fn_slices_IndexFunc___int_int_]
  simp only [Code.fst, Code.snd, Tryd.f66, Option.getD_some]
  generalize hc0 : Code.block 0 _ = cc0
  unfold B_slices_IndexFunc___int_int_ at hB
  try simp -implicitDefEqProofs [-getElem?_pos, -Int.ofNat_lt, -Int.ofNat_le, -Int.natCast_eq_zero, -Int.natCast_pos, -List.length_eq_zero_iff, List.getElem?_cons_zero, List.getElem?_cons_succ, List.getElem?_nil]
  generalize hz0 : C Tryd.prog cf cc0 _ = z0
  obtain ⟨_, hsm, hB⟩ := kb_inv hB
  obtain ⟨o, hB1, hB⟩ := kb_inv hB
  have hJ := P_slices_IndexFunc___int_int__0 (hc0.symm.trans (by kernel_rfl)) hz0 (smallK_inv hsm) (by simp -implicitDefEqProofs [-getElem?_pos, -Int.ofNat_lt, -Int.ofNat_le, -Int.natCast_eq_zero, -Int.natCast_pos, -List.length_eq_zero_iff, List.getElem?_cons_zero, List.getElem?_cons_succ, List.getElem?_nil, and_assoc, I_slices_IndexFunc___int_int__0, ownAt]) hB1
  obtain ⟨e0, s0, rfl, hq⟩ := hJ.open
  clear hB1
  rcases o with z5 | ⟨_, _⟩ | z5r
  · simp only [stpK_go] at hB
    obtain ⟨rfl, hq⟩ := hq
    simp only [Q_slices_IndexFunc___int_int__0] at hq
    obtain rfl := Option.some.inj hB
    simp -implicitDefEqProofs [-getElem?_pos, -Int.ofNat_lt, -Int.ofNat_le, -Int.natCast_eq_zero, -Int.natCast_pos, -List.length_eq_zero_iff, List.getElem?_cons_zero, List.getElem?_cons_succ, List.getElem?_nil]
  · exact hq.elim
  · simp only [stpK_ret] at hB
    obtain ⟨rfl, hq⟩ := hq
    simp only [QR_slices_IndexFunc___int_int__0] at hq
    have q5_r1 := hq
    obtain rfl := Option.some.inj hB
    simp -implicitDefEqProofs [-getElem?_pos, -Int.ofNat_lt, -Int.ofNat_le, -Int.natCast_eq_zero, -Int.natCast_pos, -List.length_eq_zero_iff, List.getElem?_cons_zero, List.getElem?_cons_succ, List.getElem?_nil, q5_r1]
theorem g_slices_IndexFunc___int_int_ {p0 : (List Int)} {r : Int} (hB : B_slices_IndexFunc___int_int_ p0 = some r) : G_slices_IndexFunc___int_int_ p0 = some r := dec_of (fun a b h => by rcases a with a0_; rcases b with b0_; simp at h; simp [*]) (sim_slices_IndexFunc___int_int_ hB)
end Go.Am

/-
How slices.ContainsFunc[[]int,int] runs, as a pure function.
-/
namespace Go.Am
open Go Go.Proofs
set_option linter.unusedVariables false
set_option linter.unusedSimpArgs false
set_option maxRecDepth 4000
set_option maxHeartbeats 4000000
noncomputable def B_slices_ContainsFunc___int_int_ (p0 : (List Int)) : Option Bool :=
  kb (G_slices_IndexFunc___int_int_ p0) fun y1 =>
  some (decide (0 ≤ y1))
theorem sim_slices_ContainsFunc___int_int_ {p0 : (List Int)} {r : Bool} (hB : B_slices_ContainsFunc___int_int_ p0 = some r) : R 54 [(.pv (.sl p0.length (ints p0))), (.fn 55 [] [])] [] = some ((bl r), [], []) := by
  rw [R_eq _ _ _ fn_slices_ContainsFunc___int_int_]
  simp only [Code.fst, Code.snd, Tryd.f54, Option.getD_some]
  generalize hr1 : Code.region 1 _ _ = rr1
  unfold B_slices_ContainsFunc___int_int_ at hB
  obtain ⟨y1, k2, hB⟩ := kb_inv hB
  replace k2 := run_slices_IndexFunc___int_int_ k2
  try simp only [Int.cast_ofNat_Int, Int.natCast_zero, List.length_cons, List.length_nil, List.nil_append, List.cons_append, Nat.zero_add, Nat.reduceAdd, Tru.thr_mk, Tru.nodes_mk, Tru.inner_mk, ints_cons, ints_nil, encTs_cons, encTs_nil, es_str_cons, es_str_nil, es_u64_cons, es_u64_nil, es_u8_cons, es_u8_nil] at k2
  try dsimp only at hB
  obtain rfl := Option.some.inj hB
  subst hr1
  simp -implicitDefEqProofs [-getElem?_pos, -Int.ofNat_lt, -Int.ofNat_le, -Int.natCast_eq_zero, -Int.natCast_pos, -List.length_eq_zero_iff, List.getElem?_cons_zero, List.getElem?_cons_succ, List.getElem?_nil, k2]
theorem g_slices_ContainsFunc___int_int_ {p0 : (List Int)} {r : Bool} (hB : B_slices_ContainsFunc___int_int_ p0 = some r) : G_slices_ContainsFunc___int_int_ p0 = some r := dec_of (fun a b h => by rcases a with a0_; rcases b with b0_; simp at h; simp [*]) (sim_slices_ContainsFunc___int_int_ hB)
end Go.Am

/-
How nodeset.Of runs, as a pure function.
-/
namespace Go.Am
open Go Go.Proofs
set_option linter.unusedVariables false
set_option linter.unusedSimpArgs false
set_option maxRecDepth 4000
set_option maxHeartbeats 4000000
noncomputable def B_nodeset_Of_0 (p4_0 : Int) (e2 : Int) (p0 : (List Int)) (i1 : Nat) : Option Bool :=
  cnd (decide (e2 < 0)) (
    some true) (
    some (decide (10 ≤ e2)))
def J_nodeset_Of_0 (p4_0 : Int) (e2 : Int) (p0 : (List Int)) (i1 : Nat) (q : St) : Prop := q (.t 4) = (i64 p4_0) ∧ q (.t 6) = (i64 e2) ∧ q (.t 7) = (.pv (.sl p0.length (ints p0))) ∧ q (.t 8) = (i64 (p0.length : Int)) ∧ q (.t 9) = (i64 (i1 : Int))
def Q_nodeset_Of_0 (p4_0 : Int) (e2 : Int) (p0 : (List Int)) (i1 : Nat) (o18_0 : Bool) (q : St) : Prop := q (.t 18) = (bl o18_0) ∧ q (.t 4) = (i64 p4_0) ∧ q (.t 6) = (i64 e2) ∧ q (.t 7) = (.pv (.sl p0.length (ints p0))) ∧ q (.t 8) = (i64 (p0.length : Int)) ∧ q (.t 9) = (i64 (i1 : Int))
theorem P_nodeset_Of_0 {p4_0 : Int} {e2 : Int} {p0 : (List Int)} {i1 : Nat} {cc : Code} (hcc : cc = (Code.fst (Code.fst (Code.snd (Code.fst (Code.fst (Code.snd (Code.snd (Code.fst (Code.fst (Code.snd (Code.fst (Code.snd (Code.snd ((Tryd.f57.body).getD .skip))))))))))))))) {s : St} {z : Option (Ex × St)} (hz : C Tryd.prog cf cc s = z) {r : Bool} (hI : J_nodeset_Of_0 p4_0 e2 p0 i1 s) (hB : B_nodeset_Of_0 p4_0 e2 p0 i1 = some r) : Res z (postG (fun a q => Q_nodeset_Of_0 p4_0 e2 p0 i1 a q) r) := by
  subst hcc
  subst hz
  simp only [J_nodeset_Of_0] at hI
  obtain ⟨q1, q2, q3, q4, q5⟩ := hI
  simp only [Code.fst, Code.snd, Tryd.f57, Option.getD_some]
  unfold B_nodeset_Of_0 at hB
  rcases cnd_inv hB with ⟨c2, hB⟩ | ⟨c2, hB⟩
  · have pc2 := eq_true (of_decide_eq_true c2)
    obtain rfl := Option.some.inj hB
    try simp -implicitDefEqProofs [-getElem?_pos, -Int.ofNat_lt, -Int.ofNat_le, -Int.natCast_eq_zero, -Int.natCast_pos, -List.length_eq_zero_iff, List.getElem?_cons_zero, List.getElem?_cons_succ, List.getElem?_nil, q1, q2, q3, q4, q5, c2, pc2]
    refine Res.g ?_
    simp -implicitDefEqProofs [-getElem?_pos, -Int.ofNat_lt, -Int.ofNat_le, -Int.natCast_eq_zero, -Int.natCast_pos, -List.length_eq_zero_iff, List.getElem?_cons_zero, List.getElem?_cons_succ, List.getElem?_nil, and_assoc, Q_nodeset_Of_0, ownAt, q1, q2, q3, q4, q5, c2, pc2]
  · have pc2 := eq_false (of_decide_eq_false c2)
    obtain rfl := Option.some.inj hB
    try simp -implicitDefEqProofs [-getElem?_pos, -Int.ofNat_lt, -Int.ofNat_le, -Int.natCast_eq_zero, -Int.natCast_pos, -List.length_eq_zero_iff, List.getElem?_cons_zero, List.getElem?_cons_succ, List.getElem?_nil, q1, q2, q3, q4, q5, c2, pc2]
    refine Res.g ?_
    simp -implicitDefEqProofs [-getElem?_pos, -Int.ofNat_lt, -Int.ofNat_le, -Int.natCast_eq_zero, -Int.natCast_pos, -List.length_eq_zero_iff, List.getElem?_cons_zero, List.getElem?_cons_succ, List.getElem?_nil, and_assoc, Q_nodeset_Of_0, ownAt, q1, q2, q3, q4, q5, c2, pc2]
noncomputable def B_nodeset_Of_1 (p0 : (List Int)) (i1 : Nat) (x4_1 : Int) (e2 : Int) : Option (Stp Int Int) :=
  kb (B_nodeset_Of_0 x4_1 e2 p0 i1) fun z3 =>
  cnd z3 (
    some (.ret 5)) (
    kb (G_nodeset_Has x4_1 e2) fun y5 =>
    cnd y5 (
      some (.ret 6)) (
      kb (mustK (¬ e2 < 0)) fun _ =>
      some (.go (or64 x4_1 (shl64 1 e2)))))
def I_nodeset_Of_1 (p0 : (List Int)) (i1 : Nat) (x4_1 : Int) (q : St) : Prop := q (.t 4) = (i64 x4_1) ∧ q (.t 7) = (.pv (.sl p0.length (ints p0))) ∧ q (.t 8) = (i64 (p0.length : Int)) ∧ q (.t 9) = (i64 (i1 : Int))
def Q_nodeset_Of_1 (p0 : (List Int)) (x4_1 : Int) (q : St) : Prop := q (.t 4) = (i64 x4_1)
def QR_nodeset_Of_1 (p0 : (List Int)) (r3_1 : Int) (q : St) : Prop := q (.t 2) = (i64 0) ∧ q (.t 3) = (i64 r3_1)
theorem Pb_nodeset_Of_1 {p0 : (List Int)} {i1 : Nat} {x4_1 : Int} {e2 : Int} {q : St} {r : (Stp Int Int)} (hx : p0[i1]? = some e2) (hi : i1 < p0.length) (hn : p0.length < 4611686018427387904) (hI : I_nodeset_Of_1 p0 i1 x4_1 q) (hB : B_nodeset_Of_1 p0 i1 x4_1 e2 = some r) : Res (C Tryd.prog cf (Code.fst (Code.fst (Code.snd (Code.fst (Code.snd (Code.snd ((Tryd.f57.body).getD .skip))))))) q) (postB 0 (fun a q => I_nodeset_Of_1 p0 (i1 + 1) a q) (fun a q => Q_nodeset_Of_1 p0 a q) (fun a q => QR_nodeset_Of_1 p0 a q) r) := by
  have hi3 : (i1 : Int) < (p0.length : Int) := by omega
  have hi2 := decide_eq_true hi3
  have hi4 := idx_step hi hn
  have hi5 := ne_of_get hx
  simp only [I_nodeset_Of_1] at hI
  obtain ⟨q1, q2, q3, q4⟩ := hI
  simp only [Code.fst, Code.snd, Tryd.f57, Option.getD_some]
  generalize hc0 : Code.region 5 _ _ = cc0
  generalize hr9 : Code.region 9 _ _ = rr9
  unfold B_nodeset_Of_1 at hB
  try simp -implicitDefEqProofs [-getElem?_pos, -Int.ofNat_lt, -Int.ofNat_le, -Int.natCast_eq_zero, -Int.natCast_pos, -List.length_eq_zero_iff, List.getElem?_cons_zero, List.getElem?_cons_succ, List.getElem?_nil, q1, q2, q3, q4, hx, hi2, hi3, hi4, hi5]
  generalize hz0 : C Tryd.prog cf cc0 _ = z0
  obtain ⟨z3, hB1, hB⟩ := kb_inv hB
  have hJ := P_nodeset_Of_0 (hc0.symm.trans (by kernel_rfl)) hz0 (by simp -implicitDefEqProofs [-getElem?_pos, -Int.ofNat_lt, -Int.ofNat_le, -Int.natCast_eq_zero, -Int.natCast_pos, -List.length_eq_zero_iff, List.getElem?_cons_zero, List.getElem?_cons_succ, List.getElem?_nil, and_assoc, J_nodeset_Of_0, ownAt, q1, q2, q3, q4, hx, hi2, hi3, hi4, hi5]) hB1
  obtain ⟨e0, s0, rfl, hq⟩ := hJ.open
  clear hB1
  obtain ⟨rfl, hq⟩ := hq
  simp only [Q_nodeset_Of_0] at hq
  obtain ⟨q3_1, q3_2, q3_3, q3_4, q3_5, q3_6⟩ := hq
  rcases cnd_inv hB with ⟨c4, hB⟩ | ⟨c4, hB⟩
  · obtain rfl := Option.some.inj hB
    try simp -implicitDefEqProofs [-getElem?_pos, -Int.ofNat_lt, -Int.ofNat_le, -Int.natCast_eq_zero, -Int.natCast_pos, -List.length_eq_zero_iff, List.getElem?_cons_zero, List.getElem?_cons_succ, List.getElem?_nil, q3_1, q3_2, q3_3, q3_4, q3_5, q3_6, hx, hi2, hi3, hi4, hi5, c4]
    refine Res.bret ?_
    simp -implicitDefEqProofs [-getElem?_pos, -Int.ofNat_lt, -Int.ofNat_le, -Int.natCast_eq_zero, -Int.natCast_pos, -List.length_eq_zero_iff, List.getElem?_cons_zero, List.getElem?_cons_succ, List.getElem?_nil, and_assoc, QR_nodeset_Of_1, ownAt, q3_1, q3_2, q3_3, q3_4, q3_5, q3_6, hx, hi2, hi3, hi4, hi5, c4]
  · obtain ⟨y5, k6, hB⟩ := kb_inv hB
    replace k6 := run_nodeset_Has k6
    try simp only [Int.cast_ofNat_Int, Int.natCast_zero, List.length_cons, List.length_nil, List.nil_append, List.cons_append, Nat.zero_add, Nat.reduceAdd, Tru.thr_mk, Tru.nodes_mk, Tru.inner_mk, ints_cons, ints_nil, encTs_cons, encTs_nil, es_str_cons, es_str_nil, es_u64_cons, es_u64_nil, es_u8_cons, es_u8_nil, c4] at k6
    try dsimp only at hB
    rcases cnd_inv hB with ⟨c7, hB⟩ | ⟨c7, hB⟩
    · obtain rfl := Option.some.inj hB
      try simp -implicitDefEqProofs [-getElem?_pos, -Int.ofNat_lt, -Int.ofNat_le, -Int.natCast_eq_zero, -Int.natCast_pos, -List.length_eq_zero_iff, List.getElem?_cons_zero, List.getElem?_cons_succ, List.getElem?_nil, q3_1, q3_2, q3_3, q3_4, q3_5, q3_6, hx, hi2, hi3, hi4, hi5, c4, k6, c7]
      refine Res.bret ?_
      simp -implicitDefEqProofs [-getElem?_pos, -Int.ofNat_lt, -Int.ofNat_le, -Int.natCast_eq_zero, -Int.natCast_pos, -List.length_eq_zero_iff, List.getElem?_cons_zero, List.getElem?_cons_succ, List.getElem?_nil, and_assoc, QR_nodeset_Of_1, ownAt, q3_1, q3_2, q3_3, q3_4, q3_5, q3_6, hx, hi2, hi3, hi4, hi5, c4, k6, c7]
    · obtain ⟨_, n8, hB⟩ := kb_inv hB
      have n8a := mustK_inv n8
      try dsimp only at hB
      obtain rfl := Option.some.inj hB
      subst hr9
      try simp -implicitDefEqProofs [-getElem?_pos, -Int.ofNat_lt, -Int.ofNat_le, -Int.natCast_eq_zero, -Int.natCast_pos, -List.length_eq_zero_iff, List.getElem?_cons_zero, List.getElem?_cons_succ, List.getElem?_nil, q3_1, q3_2, q3_3, q3_4, q3_5, q3_6, hx, hi2, hi3, hi4, hi5, c4, k6, c7, n8a]
      refine Res.bgo ?_
      simp -implicitDefEqProofs [-getElem?_pos, -Int.ofNat_lt, -Int.ofNat_le, -Int.natCast_eq_zero, -Int.natCast_pos, -List.length_eq_zero_iff, List.getElem?_cons_zero, List.getElem?_cons_succ, List.getElem?_nil, and_assoc, I_nodeset_Of_1, ownAt, q3_1, q3_2, q3_3, q3_4, q3_5, q3_6, hx, hi2, hi3, hi4, hi5, c4, k6, c7, n8a]
theorem Pe_nodeset_Of_1 {p0 : (List Int)} {x4_1 : Int} {q : St} (hI : I_nodeset_Of_1 p0 p0.length x4_1 q) : Res (C Tryd.prog cf (Code.fst (Code.fst (Code.snd (Code.fst (Code.snd (Code.snd ((Tryd.f57.body).getD .skip))))))) q) fun e q' => e = .exit 0 ∧ Q_nodeset_Of_1 p0 x4_1 q' := by
  simp only [I_nodeset_Of_1] at hI
  obtain ⟨q1, q2, q3, q4⟩ := hI
  simp only [Code.fst, Code.snd, Tryd.f57, Option.getD_some]
  simp -implicitDefEqProofs [-getElem?_pos, -Int.ofNat_lt, -Int.ofNat_le, -Int.natCast_eq_zero, -Int.natCast_pos, -List.length_eq_zero_iff, List.getElem?_cons_zero, List.getElem?_cons_succ, List.getElem?_nil, q1, q2, q3, q4]
  refine Res.x ?_
  simp -implicitDefEqProofs [-getElem?_pos, -Int.ofNat_lt, -Int.ofNat_le, -Int.natCast_eq_zero, -Int.natCast_pos, -List.length_eq_zero_iff, List.getElem?_cons_zero, List.getElem?_cons_succ, List.getElem?_nil, and_assoc, Q_nodeset_Of_1, ownAt, q1, q2, q3, q4]
theorem P_nodeset_Of_1 {p0 : (List Int)} {x4_1 : Int} {cc : Code} (hcc : cc = .block 0 (.loop (Code.fst (Code.fst (Code.snd (Code.fst (Code.snd (Code.snd ((Tryd.f57.body).getD .skip))))))))) {s : St} {z : Option (Ex × St)} (hz : C Tryd.prog cf cc s = z) {r : (Stp Int Int)} (hn : p0.length < 4611686018427387904) (hI : I_nodeset_Of_1 p0 0 x4_1 s) (hB : loopL (fun i a x => B_nodeset_Of_1 p0 i a x) 0 x4_1 p0 = some r) : Res z (postS (fun a q => Q_nodeset_Of_1 p0 a q) (fun a q => QR_nodeset_Of_1 p0 a q) r) := by
  subst hcc
  exact loopL_sim (I := fun i a q => I_nodeset_Of_1 p0 i a q) (Q := (fun a q => Q_nodeset_Of_1 p0 a q)) (QR := (fun a q => QR_nodeset_Of_1 p0 a q)) (fun i x a q r hx hi h hB => Pb_nodeset_Of_1 hx hi hn h hB) (fun a q h => Pe_nodeset_Of_1 h) hI hz hB
noncomputable def B_nodeset_Of (p0 : (List Int)) : Option (Int × Int) :=
  kb (smallK p0) fun _ =>
  kb (loopL (fun i a x => B_nodeset_Of_1 p0 i a x) 0 0 p0) fun o => stpK o (fun z9 =>
    some (z9, 0)) (fun z9r =>
    some (0, z9r))
theorem sim_nodeset_Of {p0 : (List Int)} {r : (Int × Int)} (hB : B_nodeset_Of p0 = some r) : R 57 [(.pv (.sl p0.length (ints p0)))] [] = some (.tup [(i64 r.1), (i64 r.2)], [], []) := by
  rw [R_eq _ _ _ fn_nodeset_Of]
  simp only [Code.fst, Code.snd, Tryd.f57, Option.getD_some]
  generalize hc1 : Code.block 0 _ = cc1
  unfold B_nodeset_Of at hB
  try simp -implicitDefEqProofs [-getElem?_pos, -Int.ofNat_lt, -Int.ofNat_le, -Int.natCast_eq_zero, -Int.natCast_pos, -List.length_eq_zero_iff, List.getElem?_cons_zero, List.getElem?_cons_succ, List.getElem?_nil]
  generalize hz1 : C Tryd.prog cf cc1 _ = z1
  obtain ⟨_, hsm, hB⟩ := kb_inv hB
  obtain ⟨o, hB1, hB⟩ := kb_inv hB
  have hJ := P_nodeset_Of_1 (hc1.symm.trans (by kernel_rfl)) hz1 (smallK_inv hsm) (by simp -implicitDefEqProofs [-getElem?_pos, -Int.ofNat_lt, -Int.ofNat_le, -Int.natCast_eq_zero, -Int.natCast_pos, -List.length_eq_zero_iff, List.getElem?_cons_zero, List.getElem?_cons_succ, List.getElem?_nil, and_assoc, I_nodeset_Of_1, ownAt]) hB1
  obtain ⟨e1, s1, rfl, hq⟩ := hJ.open
  clear hB1
  rcases o with z9 | ⟨_, _⟩ | z9r
  · simp only [stpK_go] at hB
    obtain ⟨rfl, hq⟩ := hq
    simp only [Q_nodeset_Of_1] at hq
    have q9_1 := hq
    obtain rfl := Option.some.inj hB
    simp -implicitDefEqProofs [-getElem?_pos, -Int.ofNat_lt, -Int.ofNat_le, -Int.natCast_eq_zero, -Int.natCast_pos, -List.length_eq_zero_iff, List.getElem?_cons_zero, List.getElem?_cons_succ, List.getElem?_nil, q9_1]
  · exact hq.elim
  · simp only [stpK_ret] at hB
    obtain ⟨rfl, hq⟩ := hq
    simp only [QR_nodeset_Of_1] at hq
    obtain ⟨q9_r1, q9_r2⟩ := hq
    obtain rfl := Option.some.inj hB
    simp -implicitDefEqProofs [-getElem?_pos, -Int.ofNat_lt, -Int.ofNat_le, -Int.natCast_eq_zero, -Int.natCast_pos, -List.length_eq_zero_iff, List.getElem?_cons_zero, List.getElem?_cons_succ, List.getElem?_nil, q9_r1, q9_r2]
theorem g_nodeset_Of {p0 : (List Int)} {r : (Int × Int)} (hB : B_nodeset_Of p0 = some r) : G_nodeset_Of p0 = some r := dec_of (fun a b h => by rcases a with ⟨a0_, a1_⟩; rcases b with ⟨b0_, b1_⟩; simp at h; simp [*]) (sim_nodeset_Of hB)
end Go.Am

/-
How threshold.Depth runs, as a pure function.
-/
namespace Go.Am
open Go Go.Proofs
set_option linter.unusedVariables false
set_option linter.unusedSimpArgs false
set_option maxRecDepth 4000
set_option maxHeartbeats 4000000
noncomputable def B_threshold_Depth_0 (p0 : Tru) (i1 : Nat) (x3_0 : Int) (e2 : Tru) : Option Int :=
  kb (G_threshold_Depth e2) fun y2 =>
  some (if x3_0 < y2 then y2 else x3_0)
def I_threshold_Depth_0 (p0 : Tru) (i1 : Nat) (x3_0 : Int) (q : St) : Prop := q (.t 3) = (i64 x3_0) ∧ q (.t 7) = (.pv (.sl p0.inner.length (encTs p0.inner))) ∧ q (.t 8) = (i64 (p0.inner.length : Int)) ∧ q (.t 9) = (i64 (i1 : Int))
def Q_threshold_Depth_0 (p0 : Tru) (x3_0 : Int) (q : St) : Prop := q (.t 3) = (i64 x3_0)
theorem Pb_threshold_Depth_0 {p0 : Tru} {i1 : Nat} {x3_0 : Int} {e2 : Tru} {q : St} {r : Int} (hx : p0.inner[i1]? = some e2) (hi : i1 < p0.inner.length) (hn : p0.inner.length < 4611686018427387904) (hI : I_threshold_Depth_0 p0 i1 x3_0 q) (hB : B_threshold_Depth_0 p0 i1 x3_0 e2 = some r) : Res (C Tryd.prog cf (Code.fst (Code.fst (Code.snd (Code.fst (Code.snd (Code.snd ((Tryd.f37.body).getD .skip))))))) q) (postG (fun a q => I_threshold_Depth_0 p0 (i1 + 1) a q) r) := by
  have hi3 : (i1 : Int) < (p0.inner.length : Int) := by omega
  have hi2 := decide_eq_true hi3
  have hi4 := idx_step hi hn
  have hi5 := ne_of_get hx
  simp only [I_threshold_Depth_0] at hI
  obtain ⟨q1, q2, q3, q4⟩ := hI
  simp only [Code.fst, Code.snd, Tryd.f37, Option.getD_some]
  generalize hr4 : Code.region 4 _ _ = rr4
  generalize hr5 : Code.region 5 _ _ = rr5
  unfold B_threshold_Depth_0 at hB
  have l1 := encTs_ld hx
  obtain ⟨y2, k3, hB⟩ := kb_inv hB
  replace k3 := run_threshold_Depth k3
  try simp only [Int.cast_ofNat_Int, Int.natCast_zero, List.length_cons, List.length_nil, List.nil_append, List.cons_append, Nat.zero_add, Nat.reduceAdd, Tru.thr_mk, Tru.nodes_mk, Tru.inner_mk, ints_cons, ints_nil, encTs_cons, encTs_nil, es_str_cons, es_str_nil, es_u64_cons, es_u64_nil, es_u8_cons, es_u8_nil] at k3
  try dsimp only at hB
  obtain rfl := Option.some.inj hB
  subst hr4
  subst hr5
  try simp -implicitDefEqProofs [-getElem?_pos, -Int.ofNat_lt, -Int.ofNat_le, -Int.natCast_eq_zero, -Int.natCast_pos, -List.length_eq_zero_iff, List.getElem?_cons_zero, List.getElem?_cons_succ, List.getElem?_nil, q1, q2, q3, q4, hx, hi2, hi3, hi4, hi5, l1, k3]
  refine Res.g ?_
  simp -implicitDefEqProofs [-getElem?_pos, -Int.ofNat_lt, -Int.ofNat_le, -Int.natCast_eq_zero, -Int.natCast_pos, -List.length_eq_zero_iff, List.getElem?_cons_zero, List.getElem?_cons_succ, List.getElem?_nil, and_assoc, I_threshold_Depth_0, ownAt, q1, q2, q3, q4, hx, hi2, hi3, hi4, hi5, l1, k3]
theorem Pe_threshold_Depth_0 {p0 : Tru} {x3_0 : Int} {q : St} (hI : I_threshold_Depth_0 p0 p0.inner.length x3_0 q) : Res (C Tryd.prog cf (Code.fst (Code.fst (Code.snd (Code.fst (Code.snd (Code.snd ((Tryd.f37.body).getD .skip))))))) q) fun e q' => e = .exit 0 ∧ Q_threshold_Depth_0 p0 x3_0 q' := by
  simp only [I_threshold_Depth_0] at hI
  obtain ⟨q1, q2, q3, q4⟩ := hI
  simp only [Code.fst, Code.snd, Tryd.f37, Option.getD_some]
  simp -implicitDefEqProofs [-getElem?_pos, -Int.ofNat_lt, -Int.ofNat_le, -Int.natCast_eq_zero, -Int.natCast_pos, -List.length_eq_zero_iff, List.getElem?_cons_zero, List.getElem?_cons_succ, List.getElem?_nil, q1, q2, q3, q4]
  refine Res.x ?_
  simp -implicitDefEqProofs [-getElem?_pos, -Int.ofNat_lt, -Int.ofNat_le, -Int.natCast_eq_zero, -Int.natCast_pos, -List.length_eq_zero_iff, List.getElem?_cons_zero, List.getElem?_cons_succ, List.getElem?_nil, and_assoc, Q_threshold_Depth_0, ownAt, q1, q2, q3, q4]
theorem P_threshold_Depth_0 {p0 : Tru} {x3_0 : Int} {cc : Code} (hcc : cc = .block 0 (.loop (Code.fst (Code.fst (Code.snd (Code.fst (Code.snd (Code.snd ((Tryd.f37.body).getD .skip))))))))) {s : St} {z : Option (Ex × St)} (hz : C Tryd.prog cf cc s = z) {r : Int} (hn : p0.inner.length < 4611686018427387904) (hI : I_threshold_Depth_0 p0 0 x3_0 s) (hB : foldO (fun i a x => B_threshold_Depth_0 p0 i a x) 0 x3_0 p0.inner = some r) : Res z (postG (fun a q => Q_threshold_Depth_0 p0 a q) r) := by
  subst hcc
  exact fold_sim (I := fun i a q => I_threshold_Depth_0 p0 i a q) (Q := (fun a q => Q_threshold_Depth_0 p0 a q)) (fun i x a q r hx hi h hB => Pb_threshold_Depth_0 hx hi hn h hB) (fun a q h => Pe_threshold_Depth_0 h) hI hz hB
noncomputable def B_threshold_Depth (p0 : Tru) : Option Int :=
  kb (smallK p0.inner) fun _ =>
  kb (foldO (fun i a x => B_threshold_Depth_0 p0 i a x) 0 0 p0.inner) fun z4 =>
  some (add64 z4 1)
theorem sim_threshold_Depth {p0 : Tru} {r : Int} (hB : B_threshold_Depth p0 = some r) : R 37 [(.agg [(i64 p0.thr), (.pv (.sl p0.nodes.length (ints p0.nodes))), (.pv (.sl p0.inner.length (encTs p0.inner)))])] [] = some ((i64 r), [], []) := by
  rw [R_eq _ _ _ fn_threshold_Depth]
  simp only [Code.fst, Code.snd, Tryd.f37, Option.getD_some]
  generalize hc0 : Code.block 0 _ = cc0
  generalize hr2 : Code.region 2 _ _ = rr2
  unfold B_threshold_Depth at hB
  subst hr2
  try simp -implicitDefEqProofs [-getElem?_pos, -Int.ofNat_lt, -Int.ofNat_le, -Int.natCast_eq_zero, -Int.natCast_pos, -List.length_eq_zero_iff, List.getElem?_cons_zero, List.getElem?_cons_succ, List.getElem?_nil]
  generalize hz0 : C Tryd.prog cf cc0 _ = z0
  obtain ⟨_, hsm, hB⟩ := kb_inv hB
  obtain ⟨z4, hB1, hB⟩ := kb_inv hB
  have hJ := P_threshold_Depth_0 (hc0.symm.trans (by kernel_rfl)) hz0 (smallK_inv hsm) (by simp -implicitDefEqProofs [-getElem?_pos, -Int.ofNat_lt, -Int.ofNat_le, -Int.natCast_eq_zero, -Int.natCast_pos, -List.length_eq_zero_iff, List.getElem?_cons_zero, List.getElem?_cons_succ, List.getElem?_nil, and_assoc, I_threshold_Depth_0, ownAt]) hB1
  obtain ⟨e0, s0, rfl, hq⟩ := hJ.open
  clear hB1
  obtain ⟨rfl, hq⟩ := hq
  simp only [Q_threshold_Depth_0] at hq
  have q4_1 := hq
  obtain rfl := Option.some.inj hB
  simp -implicitDefEqProofs [-getElem?_pos, -Int.ofNat_lt, -Int.ofNat_le, -Int.natCast_eq_zero, -Int.natCast_pos, -List.length_eq_zero_iff, List.getElem?_cons_zero, List.getElem?_cons_succ, List.getElem?_nil, q4_1]
theorem g_threshold_Depth {p0 : Tru} {r : Int} (hB : B_threshold_Depth p0 = some r) : G_threshold_Depth p0 = some r := dec_of (fun a b h => by rcases a with a0_; rcases b with b0_; simp at h; simp [*]) (sim_threshold_Depth hB)
end Go.Am

/-
How threshold.Size runs, as a pure function.
-/
namespace Go.Am
open Go Go.Proofs
set_option linter.unusedVariables false
set_option linter.unusedSimpArgs false
set_option maxRecDepth 4000
set_option maxHeartbeats 4000000
noncomputable def B_threshold_Size_0 (p0 : Tru) (i1 : Nat) (x3_0 : Int) (e2 : Tru) : Option Int :=
  kb (G_threshold_Size e2) fun y2 =>
  some (add64 x3_0 y2)
def I_threshold_Size_0 (p0 : Tru) (i1 : Nat) (x3_0 : Int) (q : St) : Prop := q (.t 14) = (.pv (.sl p0.inner.length (encTs p0.inner))) ∧ q (.t 15) = (i64 (p0.inner.length : Int)) ∧ q (.t 16) = (i64 (i1 : Int)) ∧ q (.t 3) = (i64 x3_0)
def Q_threshold_Size_0 (p0 : Tru) (x3_0 : Int) (q : St) : Prop := q (.t 3) = (i64 x3_0)
theorem Pb_threshold_Size_0 {p0 : Tru} {i1 : Nat} {x3_0 : Int} {e2 : Tru} {q : St} {r : Int} (hx : p0.inner[i1]? = some e2) (hi : i1 < p0.inner.length) (hn : p0.inner.length < 4611686018427387904) (hI : I_threshold_Size_0 p0 i1 x3_0 q) (hB : B_threshold_Size_0 p0 i1 x3_0 e2 = some r) : Res (C Tryd.prog cf (Code.fst (Code.fst (Code.snd (Code.fst (Code.snd (Code.snd ((Tryd.f38.body).getD .skip))))))) q) (postG (fun a q => I_threshold_Size_0 p0 (i1 + 1) a q) r) := by
  have hi3 : (i1 : Int) < (p0.inner.length : Int) := by omega
  have hi2 := decide_eq_true hi3
  have hi4 := idx_step hi hn
  have hi5 := ne_of_get hx
  simp only [I_threshold_Size_0] at hI
  obtain ⟨q1, q2, q3, q4⟩ := hI
  simp only [Code.fst, Code.snd, Tryd.f38, Option.getD_some]
  generalize hr4 : Code.region 4 _ _ = rr4
  generalize hr5 : Code.region 5 _ _ = rr5
  unfold B_threshold_Size_0 at hB
  have l1 := encTs_ld hx
  obtain ⟨y2, k3, hB⟩ := kb_inv hB
  replace k3 := run_threshold_Size k3
  try simp only [Int.cast_ofNat_Int, Int.natCast_zero, List.length_cons, List.length_nil, List.nil_append, List.cons_append, Nat.zero_add, Nat.reduceAdd, Tru.thr_mk, Tru.nodes_mk, Tru.inner_mk, ints_cons, ints_nil, encTs_cons, encTs_nil, es_str_cons, es_str_nil, es_u64_cons, es_u64_nil, es_u8_cons, es_u8_nil] at k3
  try dsimp only at hB
  obtain rfl := Option.some.inj hB
  subst hr4
  subst hr5
  try simp -implicitDefEqProofs [-getElem?_pos, -Int.ofNat_lt, -Int.ofNat_le, -Int.natCast_eq_zero, -Int.natCast_pos, -List.length_eq_zero_iff, List.getElem?_cons_zero, List.getElem?_cons_succ, List.getElem?_nil, q1, q2, q3, q4, hx, hi2, hi3, hi4, hi5, l1, k3]
  refine Res.g ?_
  simp -implicitDefEqProofs [-getElem?_pos, -Int.ofNat_lt, -Int.ofNat_le, -Int.natCast_eq_zero, -Int.natCast_pos, -List.length_eq_zero_iff, List.getElem?_cons_zero, List.getElem?_cons_succ, List.getElem?_nil, and_assoc, I_threshold_Size_0, ownAt, q1, q2, q3, q4, hx, hi2, hi3, hi4, hi5, l1, k3]
theorem Pe_threshold_Size_0 {p0 : Tru} {x3_0 : Int} {q : St} (hI : I_threshold_Size_0 p0 p0.inner.length x3_0 q) : Res (C Tryd.prog cf (Code.fst (Code.fst (Code.snd (Code.fst (Code.snd (Code.snd ((Tryd.f38.body).getD .skip))))))) q) fun e q' => e = .exit 0 ∧ Q_threshold_Size_0 p0 x3_0 q' := by
  simp only [I_threshold_Size_0] at hI
  obtain ⟨q1, q2, q3, q4⟩ := hI
  simp only [Code.fst, Code.snd, Tryd.f38, Option.getD_some]
  simp -implicitDefEqProofs [-getElem?_pos, -Int.ofNat_lt, -Int.ofNat_le, -Int.natCast_eq_zero, -Int.natCast_pos, -List.length_eq_zero_iff, List.getElem?_cons_zero, List.getElem?_cons_succ, List.getElem?_nil, q1, q2, q3, q4]
  refine Res.x ?_
  simp -implicitDefEqProofs [-getElem?_pos, -Int.ofNat_lt, -Int.ofNat_le, -Int.natCast_eq_zero, -Int.natCast_pos, -List.length_eq_zero_iff, List.getElem?_cons_zero, List.getElem?_cons_succ, List.getElem?_nil, and_assoc, Q_threshold_Size_0, ownAt, q1, q2, q3, q4]
theorem P_threshold_Size_0 {p0 : Tru} {x3_0 : Int} {cc : Code} (hcc : cc = .block 0 (.loop (Code.fst (Code.fst (Code.snd (Code.fst (Code.snd (Code.snd ((Tryd.f38.body).getD .skip))))))))) {s : St} {z : Option (Ex × St)} (hz : C Tryd.prog cf cc s = z) {r : Int} (hn : p0.inner.length < 4611686018427387904) (hI : I_threshold_Size_0 p0 0 x3_0 s) (hB : foldO (fun i a x => B_threshold_Size_0 p0 i a x) 0 x3_0 p0.inner = some r) : Res z (postG (fun a q => Q_threshold_Size_0 p0 a q) r) := by
  subst hcc
  exact fold_sim (I := fun i a q => I_threshold_Size_0 p0 i a q) (Q := (fun a q => Q_threshold_Size_0 p0 a q)) (fun i x a q r hx hi h hB => Pb_threshold_Size_0 hx hi hn h hB) (fun a q h => Pe_threshold_Size_0 h) hI hz hB
noncomputable def B_threshold_Size (p0 : Tru) : Option Int :=
  kb (smallK p0.inner) fun _ =>
  kb (foldO (fun i a x => B_threshold_Size_0 p0 i a x) 0 (add64 (p0.nodes.length : Int) (p0.inner.length : Int)) p0.inner) fun z4 =>
  some z4
theorem sim_threshold_Size {p0 : Tru} {r : Int} (hB : B_threshold_Size p0 = some r) : R 38 [(.agg [(i64 p0.thr), (.pv (.sl p0.nodes.length (ints p0.nodes))), (.pv (.sl p0.inner.length (encTs p0.inner)))])] [] = some ((i64 r), [], []) := by
  rw [R_eq _ _ _ fn_threshold_Size]
  simp only [Code.fst, Code.snd, Tryd.f38, Option.getD_some]
  generalize hc0 : Code.block 0 _ = cc0
  generalize hr1 : Code.region 1 _ _ = rr1
  generalize hr2 : Code.region 2 _ _ = rr2
  unfold B_threshold_Size at hB
  subst hr1
  subst hr2
  try simp -implicitDefEqProofs [-getElem?_pos, -Int.ofNat_lt, -Int.ofNat_le, -Int.natCast_eq_zero, -Int.natCast_pos, -List.length_eq_zero_iff, List.getElem?_cons_zero, List.getElem?_cons_succ, List.getElem?_nil]
  generalize hz0 : C Tryd.prog cf cc0 _ = z0
  obtain ⟨_, hsm, hB⟩ := kb_inv hB
  obtain ⟨z4, hB1, hB⟩ := kb_inv hB
  have hJ := P_threshold_Size_0 (hc0.symm.trans (by kernel_rfl)) hz0 (smallK_inv hsm) (by simp -implicitDefEqProofs [-getElem?_pos, -Int.ofNat_lt, -Int.ofNat_le, -Int.natCast_eq_zero, -Int.natCast_pos, -List.length_eq_zero_iff, List.getElem?_cons_zero, List.getElem?_cons_succ, List.getElem?_nil, and_assoc, I_threshold_Size_0, ownAt]) hB1
  obtain ⟨e0, s0, rfl, hq⟩ := hJ.open
  clear hB1
  obtain ⟨rfl, hq⟩ := hq
  simp only [Q_threshold_Size_0] at hq
  have q4_1 := hq
  obtain rfl := Option.some.inj hB
  simp -implicitDefEqProofs [-getElem?_pos, -Int.ofNat_lt, -Int.ofNat_le, -Int.natCast_eq_zero, -Int.natCast_pos, -List.length_eq_zero_iff, List.getElem?_cons_zero, List.getElem?_cons_succ, List.getElem?_nil, q4_1]
theorem g_threshold_Size {p0 : Tru} {r : Int} (hB : B_threshold_Size p0 = some r) : G_threshold_Size p0 = some r := dec_of (fun a b h => by rcases a with a0_; rcases b with b0_; simp at h; simp [*]) (sim_threshold_Size hB)
end Go.Am

/-
How threshold.level runs, as a pure function.
-/
namespace Go.Am
open Go Go.Proofs
set_option linter.unusedVariables false
set_option linter.unusedSimpArgs false
set_option maxRecDepth 4000
set_option maxHeartbeats 4000000
noncomputable def B_threshold_level_0 (p0 : Tru) : Option Bool :=
  cnd (decide (p0.thr < 1)) (
    some true) (
    some (decide ((add64 (p0.nodes.length : Int) (p0.inner.length : Int)) < p0.thr)))
def J_threshold_level_0 (p0 : Tru) (q : St) : Prop := (∃ (g : Nat), q (.t 1) = .ptr (.site 0 0 0) g 0 ∧ q (.i (.site 0 0 0)) = .box g [(i64 p0.thr), (.pv (.sl p0.nodes.length (ints p0.nodes))), (.pv (.sl p0.inner.length (encTs p0.inner)))])
def Q_threshold_level_0 (p0 : Tru) (o22_0 : Bool) (q : St) : Prop := q (.t 22) = (bl o22_0) ∧ (∃ (g : Nat), q (.t 1) = .ptr (.site 0 0 0) g 0 ∧ q (.i (.site 0 0 0)) = .box g [(i64 p0.thr), (.pv (.sl p0.nodes.length (ints p0.nodes))), (.pv (.sl p0.inner.length (encTs p0.inner)))])
theorem P_threshold_level_0 {p0 : Tru} {cc : Code} (hcc : cc = (Code.fst (Code.fst (Code.snd ((Tryd.f47.body).getD .skip))))) {s : St} {z : Option (Ex × St)} (hz : C Tryd.prog cf cc s = z) {r : Bool} (hI : J_threshold_level_0 p0 s) (hB : B_threshold_level_0 p0 = some r) : Res z (postG (fun a q => Q_threshold_level_0 p0 a q) r) := by
  subst hcc
  subst hz
  simp only [J_threshold_level_0] at hI
  obtain ⟨g2, q1, q2⟩ := hI
  simp only [Code.fst, Code.snd, Tryd.f47, Option.getD_some]
  unfold B_threshold_level_0 at hB
  rcases cnd_inv hB with ⟨c1, hB⟩ | ⟨c1, hB⟩
  · have pc1 := eq_true (of_decide_eq_true c1)
    obtain rfl := Option.some.inj hB
    try simp -implicitDefEqProofs [-getElem?_pos, -Int.ofNat_lt, -Int.ofNat_le, -Int.natCast_eq_zero, -Int.natCast_pos, -List.length_eq_zero_iff, List.getElem?_cons_zero, List.getElem?_cons_succ, List.getElem?_nil, q1, q2, c1, pc1]
    refine Res.g ?_
    simp -implicitDefEqProofs [-getElem?_pos, -Int.ofNat_lt, -Int.ofNat_le, -Int.natCast_eq_zero, -Int.natCast_pos, -List.length_eq_zero_iff, List.getElem?_cons_zero, List.getElem?_cons_succ, List.getElem?_nil, and_assoc, Q_threshold_level_0, ownAt, q1, q2, c1, pc1]
  · have pc1 := eq_false (of_decide_eq_false c1)
    obtain rfl := Option.some.inj hB
    try simp -implicitDefEqProofs [-getElem?_pos, -Int.ofNat_lt, -Int.ofNat_le, -Int.natCast_eq_zero, -Int.natCast_pos, -List.length_eq_zero_iff, List.getElem?_cons_zero, List.getElem?_cons_succ, List.getElem?_nil, q1, q2, c1, pc1]
    refine Res.g ?_
    simp -implicitDefEqProofs [-getElem?_pos, -Int.ofNat_lt, -Int.ofNat_le, -Int.natCast_eq_zero, -Int.natCast_pos, -List.length_eq_zero_iff, List.getElem?_cons_zero, List.getElem?_cons_succ, List.getElem?_nil, and_assoc, Q_threshold_level_0, ownAt, q1, q2, c1, pc1]
noncomputable def B_threshold_level_1 (p0 : Tru) (i10 : Nat) (e11 : Tru) : Option (Stp Unit Int) :=
  kb (G_threshold_level e11) fun y11 =>
  cnd (decide (y11 = 0)) (
    some (.go ())) (
    some (.ret y11))
def I_threshold_level_1 (p0 : Tru) (i10 : Nat) (q : St) : Prop := q (.t 36) = (.pv (.sl p0.inner.length (encTs p0.inner))) ∧ q (.t 37) = (i64 (p0.inner.length : Int)) ∧ q (.t 38) = (i64 (i10 : Int))
def Q_threshold_level_1 (p0 : Tru) (q : St) : Prop := True
def QR_threshold_level_1 (p0 : Tru) (r2_1 : Int) (q : St) : Prop := q (.t 2) = (i64 r2_1)
theorem Pb_threshold_level_1 {p0 : Tru} {i10 : Nat} {e11 : Tru} {q : St} {r : (Stp Unit Int)} (hx : p0.inner[i10]? = some e11) (hi : i10 < p0.inner.length) (hn : p0.inner.length < 4611686018427387904) (hI : I_threshold_level_1 p0 i10 q) (hB : B_threshold_level_1 p0 i10 e11 = some r) : Res (C Tryd.prog cf (Code.fst (Code.fst (Code.snd (Code.fst (Code.snd (Code.snd (Code.snd (Code.snd ((Tryd.f47.body).getD .skip))))))))) q) (postB 0 (fun a q => I_threshold_level_1 p0 (i10 + 1) q) (fun a q => Q_threshold_level_1 p0 q) (fun a q => QR_threshold_level_1 p0 a q) r) := by
  have hi3 : (i10 : Int) < (p0.inner.length : Int) := by omega
  have hi2 := decide_eq_true hi3
  have hi4 := idx_step hi hn
  have hi5 := ne_of_get hx
  simp only [I_threshold_level_1] at hI
  obtain ⟨q1, q2, q3⟩ := hI
  simp only [Code.fst, Code.snd, Tryd.f47, Option.getD_some]
  generalize hr10 : Code.region 10 _ _ = rr10
  unfold B_threshold_level_1 at hB
  have l10 := encTs_ld hx
  obtain ⟨y11, k12, hB⟩ := kb_inv hB
  replace k12 := run_threshold_level k12
  try simp only [Int.cast_ofNat_Int, Int.natCast_zero, List.length_cons, List.length_nil, List.nil_append, List.cons_append, Nat.zero_add, Nat.reduceAdd, Tru.thr_mk, Tru.nodes_mk, Tru.inner_mk, ints_cons, ints_nil, encTs_cons, encTs_nil, es_str_cons, es_str_nil, es_u64_cons, es_u64_nil, es_u8_cons, es_u8_nil] at k12
  try dsimp only at hB
  rcases cnd_inv hB with ⟨c13, hB⟩ | ⟨c13, hB⟩
  · have pc13 := eq_true (of_decide_eq_true c13)
    obtain rfl := Option.some.inj hB
    subst hr10
    try simp -implicitDefEqProofs [-getElem?_pos, -Int.ofNat_lt, -Int.ofNat_le, -Int.natCast_eq_zero, -Int.natCast_pos, -List.length_eq_zero_iff, List.getElem?_cons_zero, List.getElem?_cons_succ, List.getElem?_nil, q1, q2, q3, hx, hi2, hi3, hi4, hi5, l10, k12, c13, pc13]
    refine Res.bgo ?_
    simp -implicitDefEqProofs [-getElem?_pos, -Int.ofNat_lt, -Int.ofNat_le, -Int.natCast_eq_zero, -Int.natCast_pos, -List.length_eq_zero_iff, List.getElem?_cons_zero, List.getElem?_cons_succ, List.getElem?_nil, and_assoc, I_threshold_level_1, ownAt, q1, q2, q3, hx, hi2, hi3, hi4, hi5, l10, k12, c13, pc13]
  · have pc13 := eq_false (of_decide_eq_false c13)
    obtain rfl := Option.some.inj hB
    subst hr10
    try simp -implicitDefEqProofs [-getElem?_pos, -Int.ofNat_lt, -Int.ofNat_le, -Int.natCast_eq_zero, -Int.natCast_pos, -List.length_eq_zero_iff, List.getElem?_cons_zero, List.getElem?_cons_succ, List.getElem?_nil, q1, q2, q3, hx, hi2, hi3, hi4, hi5, l10, k12, c13, pc13]
    refine Res.bret ?_
    simp -implicitDefEqProofs [-getElem?_pos, -Int.ofNat_lt, -Int.ofNat_le, -Int.natCast_eq_zero, -Int.natCast_pos, -List.length_eq_zero_iff, List.getElem?_cons_zero, List.getElem?_cons_succ, List.getElem?_nil, and_assoc, QR_threshold_level_1, ownAt, q1, q2, q3, hx, hi2, hi3, hi4, hi5, l10, k12, c13, pc13]
theorem Pe_threshold_level_1 {p0 : Tru} {q : St} (hI : I_threshold_level_1 p0 p0.inner.length q) : Res (C Tryd.prog cf (Code.fst (Code.fst (Code.snd (Code.fst (Code.snd (Code.snd (Code.snd (Code.snd ((Tryd.f47.body).getD .skip))))))))) q) fun e q' => e = .exit 0 ∧ Q_threshold_level_1 p0 q' := by
  simp only [I_threshold_level_1] at hI
  obtain ⟨q1, q2, q3⟩ := hI
  simp only [Code.fst, Code.snd, Tryd.f47, Option.getD_some]
  simp -implicitDefEqProofs [-getElem?_pos, -Int.ofNat_lt, -Int.ofNat_le, -Int.natCast_eq_zero, -Int.natCast_pos, -List.length_eq_zero_iff, List.getElem?_cons_zero, List.getElem?_cons_succ, List.getElem?_nil, q1, q2, q3]
  refine Res.x ?_
  simp -implicitDefEqProofs [-getElem?_pos, -Int.ofNat_lt, -Int.ofNat_le, -Int.natCast_eq_zero, -Int.natCast_pos, -List.length_eq_zero_iff, List.getElem?_cons_zero, List.getElem?_cons_succ, List.getElem?_nil, and_assoc, Q_threshold_level_1, ownAt, q1, q2, q3]
theorem P_threshold_level_1 {p0 : Tru} {cc : Code} (hcc : cc = .block 0 (.loop (Code.fst (Code.fst (Code.snd (Code.fst (Code.snd (Code.snd (Code.snd (Code.snd ((Tryd.f47.body).getD .skip))))))))))) {s : St} {z : Option (Ex × St)} (hz : C Tryd.prog cf cc s = z) {r : (Stp Unit Int)} (hn : p0.inner.length < 4611686018427387904) (hI : I_threshold_level_1 p0 0 s) (hB : loopL (fun i a x => B_threshold_level_1 p0 i x) 0 () p0.inner = some r) : Res z (postS (fun a q => Q_threshold_level_1 p0 q) (fun a q => QR_threshold_level_1 p0 a q) r) := by
  subst hcc
  exact loopL_sim (I := fun i a q => I_threshold_level_1 p0 i q) (Q := (fun a q => Q_threshold_level_1 p0 q)) (QR := (fun a q => QR_threshold_level_1 p0 a q)) (fun i x a q r hx hi h hB => Pb_threshold_level_1 hx hi hn h hB) (fun a q h => Pe_threshold_level_1 h) hI hz hB
noncomputable def B_threshold_level (p0 : Tru) : Option Int :=
  kb (B_threshold_level_0 p0) fun z2 =>
  cnd z2 (
    some 4) (
    kb (G_slices_ContainsFunc___int_int_ p0.nodes) fun y4 =>
    cnd y4 (
      some 5) (
      kb (G_nodeset_Of p0.nodes) fun y7 =>
      cnd (decide (y7.2 = 0)) (
        kb (smallK p0.inner) fun _ =>
        kb (loopL (fun i a x => B_threshold_level_1 p0 i x) 0 () p0.inner) fun o => stpK o (fun z14 =>
          some 0) (fun z14r =>
          some z14r)) (
        some y7.2)))
theorem sim_threshold_level {p0 : Tru} {r : Int} (hB : B_threshold_level p0 = some r) : R 47 [(.agg [(i64 p0.thr), (.pv (.sl p0.nodes.length (ints p0.nodes))), (.pv (.sl p0.inner.length (encTs p0.inner)))])] [] = some ((i64 r), [], []) := by
  rw [R_eq _ _ _ fn_threshold_level]
  simp only [Code.fst, Code.snd, Tryd.f47, Option.getD_some]
  generalize hc0 : Code.region 1 _ _ = cc0
  generalize hc1 : Code.block 0 _ = cc1
  generalize hr5 : Code.region 5 _ _ = rr5
  generalize hr8 : Code.region 8 _ _ = rr8
  unfold B_threshold_level at hB
  try simp -implicitDefEqProofs [-getElem?_pos, -Int.ofNat_lt, -Int.ofNat_le, -Int.natCast_eq_zero, -Int.natCast_pos, -List.length_eq_zero_iff, List.getElem?_cons_zero, List.getElem?_cons_succ, List.getElem?_nil]
  generalize hz0 : C Tryd.prog cf cc0 _ = z0
  obtain ⟨z2, hB1, hB⟩ := kb_inv hB
  have hJ := P_threshold_level_0 (hc0.symm.trans (by kernel_rfl)) hz0 (by simp -implicitDefEqProofs [-getElem?_pos, -Int.ofNat_lt, -Int.ofNat_le, -Int.natCast_eq_zero, -Int.natCast_pos, -List.length_eq_zero_iff, List.getElem?_cons_zero, List.getElem?_cons_succ, List.getElem?_nil, and_assoc, J_threshold_level_0, ownAt]) hB1
  obtain ⟨e0, s0, rfl, hq⟩ := hJ.open
  clear hB1
  obtain ⟨rfl, hq⟩ := hq
  simp only [Q_threshold_level_0] at hq
  obtain ⟨q2_1, ⟨g2_3, q2_2, q2_3⟩⟩ := hq
  rcases cnd_inv hB with ⟨c3, hB⟩ | ⟨c3, hB⟩
  · obtain rfl := Option.some.inj hB
    simp -implicitDefEqProofs [-getElem?_pos, -Int.ofNat_lt, -Int.ofNat_le, -Int.natCast_eq_zero, -Int.natCast_pos, -List.length_eq_zero_iff, List.getElem?_cons_zero, List.getElem?_cons_succ, List.getElem?_nil, q2_1, q2_2, q2_3, c3]
  · obtain ⟨y4, k5, hB⟩ := kb_inv hB
    replace k5 := run_slices_ContainsFunc___int_int_ k5
    try simp only [Int.cast_ofNat_Int, Int.natCast_zero, List.length_cons, List.length_nil, List.nil_append, List.cons_append, Nat.zero_add, Nat.reduceAdd, Tru.thr_mk, Tru.nodes_mk, Tru.inner_mk, ints_cons, ints_nil, encTs_cons, encTs_nil, es_str_cons, es_str_nil, es_u64_cons, es_u64_nil, es_u8_cons, es_u8_nil, c3] at k5
    try dsimp only at hB
    rcases cnd_inv hB with ⟨c6, hB⟩ | ⟨c6, hB⟩
    · obtain rfl := Option.some.inj hB
      simp -implicitDefEqProofs [-getElem?_pos, -Int.ofNat_lt, -Int.ofNat_le, -Int.natCast_eq_zero, -Int.natCast_pos, -List.length_eq_zero_iff, List.getElem?_cons_zero, List.getElem?_cons_succ, List.getElem?_nil, q2_1, q2_2, q2_3, c3, k5, c6]
    · obtain ⟨y7, k8, hB⟩ := kb_inv hB
      replace k8 := run_nodeset_Of k8
      try simp only [Int.cast_ofNat_Int, Int.natCast_zero, List.length_cons, List.length_nil, List.nil_append, List.cons_append, Nat.zero_add, Nat.reduceAdd, Tru.thr_mk, Tru.nodes_mk, Tru.inner_mk, ints_cons, ints_nil, encTs_cons, encTs_nil, es_str_cons, es_str_nil, es_u64_cons, es_u64_nil, es_u8_cons, es_u8_nil, c3, c6] at k8
      try dsimp only at hB
      rcases cnd_inv hB with ⟨c9, hB⟩ | ⟨c9, hB⟩
      · have pc9 := eq_true (of_decide_eq_true c9)
        subst hr5
        subst hr8
        try simp -implicitDefEqProofs [-getElem?_pos, -Int.ofNat_lt, -Int.ofNat_le, -Int.natCast_eq_zero, -Int.natCast_pos, -List.length_eq_zero_iff, List.getElem?_cons_zero, List.getElem?_cons_succ, List.getElem?_nil, q2_1, q2_2, q2_3, c3, k5, c6, k8, c9, pc9]
        generalize hz1 : C Tryd.prog cf cc1 _ = z1
        obtain ⟨_, hsm, hB⟩ := kb_inv hB
        obtain ⟨o, hB1, hB⟩ := kb_inv hB
        have hJ := P_threshold_level_1 (hc1.symm.trans (by kernel_rfl)) hz1 (smallK_inv hsm) (by simp -implicitDefEqProofs [-getElem?_pos, -Int.ofNat_lt, -Int.ofNat_le, -Int.natCast_eq_zero, -Int.natCast_pos, -List.length_eq_zero_iff, List.getElem?_cons_zero, List.getElem?_cons_succ, List.getElem?_nil, and_assoc, I_threshold_level_1, ownAt, q2_1, q2_2, q2_3, c3, k5, c6, k8, c9, pc9]) hB1
        obtain ⟨e1, s1, rfl, hq⟩ := hJ.open
        clear hB1
        rcases o with z14 | ⟨_, _⟩ | z14r
        · simp only [stpK_go] at hB
          obtain ⟨rfl, hq⟩ := hq
          simp only [Q_threshold_level_1] at hq
          obtain rfl := Option.some.inj hB
          simp -implicitDefEqProofs [-getElem?_pos, -Int.ofNat_lt, -Int.ofNat_le, -Int.natCast_eq_zero, -Int.natCast_pos, -List.length_eq_zero_iff, List.getElem?_cons_zero, List.getElem?_cons_succ, List.getElem?_nil, c3, k5, c6, k8, c9, pc9]
        · exact hq.elim
        · simp only [stpK_ret] at hB
          obtain ⟨rfl, hq⟩ := hq
          simp only [QR_threshold_level_1] at hq
          have q14_r1 := hq
          obtain rfl := Option.some.inj hB
          simp -implicitDefEqProofs [-getElem?_pos, -Int.ofNat_lt, -Int.ofNat_le, -Int.natCast_eq_zero, -Int.natCast_pos, -List.length_eq_zero_iff, List.getElem?_cons_zero, List.getElem?_cons_succ, List.getElem?_nil, q14_r1, c3, k5, c6, k8, c9, pc9]
      · have pc9 := eq_false (of_decide_eq_false c9)
        obtain rfl := Option.some.inj hB
        subst hr5
        simp -implicitDefEqProofs [-getElem?_pos, -Int.ofNat_lt, -Int.ofNat_le, -Int.natCast_eq_zero, -Int.natCast_pos, -List.length_eq_zero_iff, List.getElem?_cons_zero, List.getElem?_cons_succ, List.getElem?_nil, q2_1, q2_2, q2_3, c3, k5, c6, k8, c9, pc9]
theorem g_threshold_level {p0 : Tru} {r : Int} (hB : B_threshold_level p0 = some r) : G_threshold_level p0 = some r := dec_of (fun a b h => by rcases a with a0_; rcases b with b0_; simp at h; simp [*]) (sim_threshold_level hB)
end Go.Am

/-
How threshold.Valid runs, as a pure function.
-/
namespace Go.Am
open Go Go.Proofs
set_option linter.unusedVariables false
set_option linter.unusedSimpArgs false
set_option maxRecDepth 4000
set_option maxHeartbeats 4000000
noncomputable def B_threshold_Valid_0 (p0 : Tru) : Option Bool :=
  kb (G_threshold_Depth p0) fun y1 =>
  cnd (decide (4 < y1)) (
    some true) (
    kb (G_threshold_Size p0) fun y4 =>
    some (decide (200 < y4)))
def J_threshold_Valid_0 (p0 : Tru) (q : St) : Prop := (∃ (g : Nat), q (.t 1) = .ptr (.site 0 0 0) g 0 ∧ q (.i (.site 0 0 0)) = .box g [(i64 p0.thr), (.pv (.sl p0.nodes.length (ints p0.nodes))), (.pv (.sl p0.inner.length (encTs p0.inner)))])
def Q_threshold_Valid_0 (p0 : Tru) (o10_0 : Bool) (q : St) : Prop := q (.t 10) = (bl o10_0) ∧ (∃ (g : Nat), q (.t 1) = .ptr (.site 0 0 0) g 0 ∧ q (.i (.site 0 0 0)) = .box g [(i64 p0.thr), (.pv (.sl p0.nodes.length (ints p0.nodes))), (.pv (.sl p0.inner.length (encTs p0.inner)))])
theorem P_threshold_Valid_0 {p0 : Tru} {cc : Code} (hcc : cc = (Code.fst (Code.fst (Code.snd ((Tryd.f36.body).getD .skip))))) {s : St} {z : Option (Ex × St)} (hz : C Tryd.prog cf cc s = z) {r : Bool} (hI : J_threshold_Valid_0 p0 s) (hB : B_threshold_Valid_0 p0 = some r) : Res z (postG (fun a q => Q_threshold_Valid_0 p0 a q) r) := by
  subst hcc
  subst hz
  simp only [J_threshold_Valid_0] at hI
  obtain ⟨g2, q1, q2⟩ := hI
  simp only [Code.fst, Code.snd, Tryd.f36, Option.getD_some]
  unfold B_threshold_Valid_0 at hB
  obtain ⟨y1, k2, hB⟩ := kb_inv hB
  replace k2 := run_threshold_Depth k2
  try simp only [Int.cast_ofNat_Int, Int.natCast_zero, List.length_cons, List.length_nil, List.nil_append, List.cons_append, Nat.zero_add, Nat.reduceAdd, Tru.thr_mk, Tru.nodes_mk, Tru.inner_mk, ints_cons, ints_nil, encTs_cons, encTs_nil, es_str_cons, es_str_nil, es_u64_cons, es_u64_nil, es_u8_cons, es_u8_nil] at k2
  try dsimp only at hB
  rcases cnd_inv hB with ⟨c3, hB⟩ | ⟨c3, hB⟩
  · have pc3 := eq_true (of_decide_eq_true c3)
    obtain rfl := Option.some.inj hB
    try simp -implicitDefEqProofs [-getElem?_pos, -Int.ofNat_lt, -Int.ofNat_le, -Int.natCast_eq_zero, -Int.natCast_pos, -List.length_eq_zero_iff, List.getElem?_cons_zero, List.getElem?_cons_succ, List.getElem?_nil, q1, q2, k2, c3, pc3]
    refine Res.g ?_
    simp -implicitDefEqProofs [-getElem?_pos, -Int.ofNat_lt, -Int.ofNat_le, -Int.natCast_eq_zero, -Int.natCast_pos, -List.length_eq_zero_iff, List.getElem?_cons_zero, List.getElem?_cons_succ, List.getElem?_nil, and_assoc, Q_threshold_Valid_0, ownAt, q1, q2, k2, c3, pc3]
  · have pc3 := eq_false (of_decide_eq_false c3)
    obtain ⟨y4, k5, hB⟩ := kb_inv hB
    replace k5 := run_threshold_Size k5
    try simp only [Int.cast_ofNat_Int, Int.natCast_zero, List.length_cons, List.length_nil, List.nil_append, List.cons_append, Nat.zero_add, Nat.reduceAdd, Tru.thr_mk, Tru.nodes_mk, Tru.inner_mk, ints_cons, ints_nil, encTs_cons, encTs_nil, es_str_cons, es_str_nil, es_u64_cons, es_u64_nil, es_u8_cons, es_u8_nil] at k5
    try dsimp only at hB
    obtain rfl := Option.some.inj hB
    try simp -implicitDefEqProofs [-getElem?_pos, -Int.ofNat_lt, -Int.ofNat_le, -Int.natCast_eq_zero, -Int.natCast_pos, -List.length_eq_zero_iff, List.getElem?_cons_zero, List.getElem?_cons_succ, List.getElem?_nil, q1, q2, k2, c3, pc3, k5]
    refine Res.g ?_
    simp -implicitDefEqProofs [-getElem?_pos, -Int.ofNat_lt, -Int.ofNat_le, -Int.natCast_eq_zero, -Int.natCast_pos, -List.length_eq_zero_iff, List.getElem?_cons_zero, List.getElem?_cons_succ, List.getElem?_nil, and_assoc, Q_threshold_Valid_0, ownAt, q1, q2, k2, c3, pc3, k5]
noncomputable def B_threshold_Valid (p0 : Tru) : Option Int :=
  kb (B_threshold_Valid_0 p0) fun z6 =>
  cnd z6 (
    some 3) (
    kb (G_threshold_level p0) fun y8 =>
    some y8)
theorem sim_threshold_Valid {p0 : Tru} {r : Int} (hB : B_threshold_Valid p0 = some r) : R 36 [(.agg [(i64 p0.thr), (.pv (.sl p0.nodes.length (ints p0.nodes))), (.pv (.sl p0.inner.length (encTs p0.inner)))])] [] = some ((i64 r), [], []) := by
  rw [R_eq _ _ _ fn_threshold_Valid]
  simp only [Code.fst, Code.snd, Tryd.f36, Option.getD_some]
  generalize hc0 : Code.region 1 _ _ = cc0
  unfold B_threshold_Valid at hB
  try simp -implicitDefEqProofs [-getElem?_pos, -Int.ofNat_lt, -Int.ofNat_le, -Int.natCast_eq_zero, -Int.natCast_pos, -List.length_eq_zero_iff, List.getElem?_cons_zero, List.getElem?_cons_succ, List.getElem?_nil]
  generalize hz0 : C Tryd.prog cf cc0 _ = z0
  obtain ⟨z6, hB1, hB⟩ := kb_inv hB
  have hJ := P_threshold_Valid_0 (hc0.symm.trans (by kernel_rfl)) hz0 (by simp -implicitDefEqProofs [-getElem?_pos, -Int.ofNat_lt, -Int.ofNat_le, -Int.natCast_eq_zero, -Int.natCast_pos, -List.length_eq_zero_iff, List.getElem?_cons_zero, List.getElem?_cons_succ, List.getElem?_nil, and_assoc, J_threshold_Valid_0, ownAt]) hB1
  obtain ⟨e0, s0, rfl, hq⟩ := hJ.open
  clear hB1
  obtain ⟨rfl, hq⟩ := hq
  simp only [Q_threshold_Valid_0] at hq
  obtain ⟨q6_1, ⟨g6_3, q6_2, q6_3⟩⟩ := hq
  rcases cnd_inv hB with ⟨c7, hB⟩ | ⟨c7, hB⟩
  · obtain rfl := Option.some.inj hB
    simp -implicitDefEqProofs [-getElem?_pos, -Int.ofNat_lt, -Int.ofNat_le, -Int.natCast_eq_zero, -Int.natCast_pos, -List.length_eq_zero_iff, List.getElem?_cons_zero, List.getElem?_cons_succ, List.getElem?_nil, q6_1, q6_2, q6_3, c7]
  · obtain ⟨y8, k9, hB⟩ := kb_inv hB
    replace k9 := run_threshold_level k9
    try simp only [Int.cast_ofNat_Int, Int.natCast_zero, List.length_cons, List.length_nil, List.nil_append, List.cons_append, Nat.zero_add, Nat.reduceAdd, Tru.thr_mk, Tru.nodes_mk, Tru.inner_mk, ints_cons, ints_nil, encTs_cons, encTs_nil, es_str_cons, es_str_nil, es_u64_cons, es_u64_nil, es_u8_cons, es_u8_nil, c7] at k9
    try dsimp only at hB
    obtain rfl := Option.some.inj hB
    simp -implicitDefEqProofs [-getElem?_pos, -Int.ofNat_lt, -Int.ofNat_le, -Int.natCast_eq_zero, -Int.natCast_pos, -List.length_eq_zero_iff, List.getElem?_cons_zero, List.getElem?_cons_succ, List.getElem?_nil, q6_1, q6_2, q6_3, c7, k9]
theorem g_threshold_Valid {p0 : Tru} {r : Int} (hB : B_threshold_Valid p0 = some r) : G_threshold_Valid p0 = some r := dec_of (fun a b h => by rcases a with a0_; rcases b with b0_; simp at h; simp [*]) (sim_threshold_Valid hB)
end Go.Am

/-
How strconv.Itoa runs, as a pure function.
-/
namespace Go.Am
open Go Go.Proofs
set_option linter.unusedVariables false
set_option linter.unusedSimpArgs false
set_option maxRecDepth 4000
set_option maxHeartbeats 4000000
noncomputable def B_strconv_Itoa (p0 : Int) : Option (List UInt8) := itoaK p0
theorem sim_strconv_Itoa {p0 : Int} {r : (List UInt8)} (hB : B_strconv_Itoa p0 = some r) : R 31 [(i64 p0)] [] = some ((.pv (.str r)), [], []) := by
  show W Tryd.prog cf _ _ _ = _
  rw [W_ext (sm := itoaSm) rfl]
  unfold B_strconv_Itoa at hB
  simp [itoaSm, es_strs, unStrs_strsP, strsP_len, hB]
theorem g_strconv_Itoa {p0 : Int} {r : (List UInt8)} (hB : B_strconv_Itoa p0 = some r) : G_strconv_Itoa p0 = some r := dec_of (fun a b h => by rcases a with a0_; rcases b with b0_; simp at h; simp [*]) (sim_strconv_Itoa hB)
end Go.Am

/-
How strings.Join runs, as a pure function.
-/
namespace Go.Am
open Go Go.Proofs
set_option linter.unusedVariables false
set_option linter.unusedSimpArgs false
set_option maxRecDepth 4000
set_option maxHeartbeats 4000000
noncomputable def B_strings_Join (p0 : (List (List UInt8))) (p1 : (List UInt8)) : Option (List UInt8) := joinK p0 p1
theorem sim_strings_Join {p0 : (List (List UInt8))} {p1 : (List UInt8)} {r : (List UInt8)} (hB : B_strings_Join p0 p1 = some r) : R 52 [(.pv (.sl p0.length (es_str p0))), (.pv (.str p1))] [] = some ((.pv (.str r)), [], []) := by
  show W Tryd.prog cf _ _ _ = _
  rw [W_ext (sm := joinSm) rfl]
  unfold B_strings_Join at hB
  simp [joinSm, es_strs, unStrs_strsP, strsP_len, hB]
theorem g_strings_Join {p0 : (List (List UInt8))} {p1 : (List UInt8)} {r : (List UInt8)} (hB : B_strings_Join p0 p1 = some r) : G_strings_Join p0 p1 = some r := dec_of (fun a b h => by rcases a with a0_; rcases b with b0_; simp at h; simp [*]) (sim_strings_Join hB)
end Go.Am

/-
How notation.write runs, as a pure function.
-/
namespace Go.Am
open Go Go.Proofs
set_option linter.unusedVariables false
set_option linter.unusedSimpArgs false
set_option maxRecDepth 4000
set_option maxHeartbeats 4000000
noncomputable def B_notation_write_0 (p0 : Tru) (i1 : Nat) (x3_0 : (List (List UInt8))) (e2 : Int) : Option (List (List UInt8)) :=
  kb (G_strconv_Itoa e2) fun y2 =>
  kb (appK x3_0 ([y2] : List (List UInt8)) 16) fun L4 =>
  some L4
def I_notation_write_0 (p0 : Tru) (i1 : Nat) (x3_0 : (List (List UInt8))) (q : St) : Prop := q (.t 10) = (i64 (p0.nodes.length : Int)) ∧ q (.t 11) = (i64 (i1 : Int)) ∧ (∃ v : AV, q (.t 3) = v ∧ (ownAt q v (.site 5 4 0) false 1 x3_0.length (es_str x3_0) ∨ (v = .nilsl ∧ x3_0 = []))) ∧ q (.t 9) = (.pv (.sl p0.nodes.length (ints p0.nodes))) ∧ (∃ (g : Nat), q (.t 1) = .ptr (.site 0 0 0) g 0 ∧ q (.i (.site 0 0 0)) = .box g [(i64 p0.thr), (.pv (.sl p0.nodes.length (ints p0.nodes))), (.pv (.sl p0.inner.length (encTs p0.inner)))])
def Q_notation_write_0 (p0 : Tru) (x3_0 : (List (List UInt8))) (q : St) : Prop := (∃ v : AV, q (.t 3) = v ∧ (ownAt q v (.site 5 4 0) false 1 x3_0.length (es_str x3_0) ∨ (v = .nilsl ∧ x3_0 = []))) ∧ (∃ (g : Nat), q (.t 1) = .ptr (.site 0 0 0) g 0 ∧ q (.i (.site 0 0 0)) = .box g [(i64 p0.thr), (.pv (.sl p0.nodes.length (ints p0.nodes))), (.pv (.sl p0.inner.length (encTs p0.inner)))])
theorem Pb_notation_write_0 {p0 : Tru} {i1 : Nat} {x3_0 : (List (List UInt8))} {e2 : Int} {q : St} {r : (List (List UInt8))} (hx : p0.nodes[i1]? = some e2) (hi : i1 < p0.nodes.length) (hn : p0.nodes.length < 4611686018427387904) (hI : I_notation_write_0 p0 i1 x3_0 q) (hB : B_notation_write_0 p0 i1 x3_0 e2 = some r) : Res (C Tryd.prog cf (Code.fst (Code.fst (Code.snd (Code.fst (Code.snd (Code.snd ((Tryd.f44.body).getD .skip))))))) q) (postG (fun a q => I_notation_write_0 p0 (i1 + 1) a q) r) := by
  have hi3 : (i1 : Int) < (p0.nodes.length : Int) := by omega
  have hi2 := decide_eq_true hi3
  have hi4 := idx_step hi hn
  have hi5 := ne_of_get hx
  simp only [I_notation_write_0] at hI
  obtain ⟨q1, q2, ⟨v3, q3, a3⟩, q4, ⟨g6, q5, q6⟩⟩ := hI
  simp only [Code.fst, Code.snd, Tryd.f44, Option.getD_some]
  generalize hr5 : Code.region 5 _ _ = rr5
  unfold B_notation_write_0 at hB
  rcases a3 with ⟨ga3, rfl, oa3⟩ | ⟨rfl, ea3⟩
  · obtain ⟨y2, k3, hB⟩ := kb_inv hB
    replace k3 := run_strconv_Itoa k3
    try simp only [Int.cast_ofNat_Int, Int.natCast_zero, List.length_cons, List.length_nil, List.nil_append, List.cons_append, Nat.zero_add, Nat.reduceAdd, Tru.thr_mk, Tru.nodes_mk, Tru.inner_mk, ints_cons, ints_nil, encTs_cons, encTs_nil, es_str_cons, es_str_nil, es_u64_cons, es_u64_nil, es_u8_cons, es_u8_nil] at k3
    try dsimp only at hB
    obtain ⟨L4, a5, hB⟩ := kb_inv hB
    obtain ⟨a5z, a5a, a5y⟩ := appK_inv a5
    try (simp only [List.nil_append] at a5z; subst a5z)
    have a5b := appK_len a5
    have a5c := es_str_appK a5
    have a5d := appK_le a5
    try simp only [Int.cast_ofNat_Int, Int.natCast_zero, List.length_cons, List.length_nil, List.nil_append, List.cons_append, Nat.zero_add, Nat.reduceAdd, Tru.thr_mk, Tru.nodes_mk, Tru.inner_mk, ints_cons, ints_nil, encTs_cons, encTs_nil, es_str_cons, es_str_nil, es_u64_cons, es_u64_nil, es_u8_cons, es_u8_nil] at a5a a5b a5c
    try replace a5b : _ = (1 : Nat) := a5b.symm
    try dsimp only at hB
    obtain rfl := Option.some.inj hB
    subst hr5
    try simp -implicitDefEqProofs [-getElem?_pos, -Int.ofNat_lt, -Int.ofNat_le, -Int.natCast_eq_zero, -Int.natCast_pos, -List.length_eq_zero_iff, List.getElem?_cons_zero, List.getElem?_cons_succ, List.getElem?_nil, q1, q2, q3, q4, q5, q6, oa3, hx, hi2, hi3, hi4, hi5, k3, a5a, a5b, a5c, a5d]
    refine Res.g ?_
    simp -implicitDefEqProofs [-getElem?_pos, -Int.ofNat_lt, -Int.ofNat_le, -Int.natCast_eq_zero, -Int.natCast_pos, -List.length_eq_zero_iff, List.getElem?_cons_zero, List.getElem?_cons_succ, List.getElem?_nil, and_assoc, I_notation_write_0, ownAt, q1, q2, q3, q4, q5, q6, oa3, hx, hi2, hi3, hi4, hi5, k3, a5a, a5b, a5c, a5d]
  · try subst ea3
    obtain ⟨y2, k3, hB⟩ := kb_inv hB
    replace k3 := run_strconv_Itoa k3
    try simp only [Int.cast_ofNat_Int, Int.natCast_zero, List.length_cons, List.length_nil, List.nil_append, List.cons_append, Nat.zero_add, Nat.reduceAdd, Tru.thr_mk, Tru.nodes_mk, Tru.inner_mk, ints_cons, ints_nil, encTs_cons, encTs_nil, es_str_cons, es_str_nil, es_u64_cons, es_u64_nil, es_u8_cons, es_u8_nil] at k3
    try dsimp only at hB
    obtain ⟨L4, a5, hB⟩ := kb_inv hB
    obtain ⟨a5z, a5a, a5y⟩ := appK_inv a5
    simp only [List.nil_append] at a5z
    subst a5z
    try dsimp only at hB
    obtain rfl := Option.some.inj hB
    subst hr5
    try simp -implicitDefEqProofs [-getElem?_pos, -Int.ofNat_lt, -Int.ofNat_le, -Int.natCast_eq_zero, -Int.natCast_pos, -List.length_eq_zero_iff, List.getElem?_cons_zero, List.getElem?_cons_succ, List.getElem?_nil, q1, q2, q3, q4, q5, q6, hx, hi2, hi3, hi4, hi5, k3]
    refine Res.g ?_
    simp -implicitDefEqProofs [-getElem?_pos, -Int.ofNat_lt, -Int.ofNat_le, -Int.natCast_eq_zero, -Int.natCast_pos, -List.length_eq_zero_iff, List.getElem?_cons_zero, List.getElem?_cons_succ, List.getElem?_nil, and_assoc, I_notation_write_0, ownAt, q1, q2, q3, q4, q5, q6, hx, hi2, hi3, hi4, hi5, k3]
theorem Pe_notation_write_0 {p0 : Tru} {x3_0 : (List (List UInt8))} {q : St} (hI : I_notation_write_0 p0 p0.nodes.length x3_0 q) : Res (C Tryd.prog cf (Code.fst (Code.fst (Code.snd (Code.fst (Code.snd (Code.snd ((Tryd.f44.body).getD .skip))))))) q) fun e q' => e = .exit 0 ∧ Q_notation_write_0 p0 x3_0 q' := by
  simp only [I_notation_write_0] at hI
  obtain ⟨q1, q2, ⟨v3, q3, a3⟩, q4, ⟨g6, q5, q6⟩⟩ := hI
  simp only [Code.fst, Code.snd, Tryd.f44, Option.getD_some]
  rcases a3 with ⟨ga3, rfl, oa3⟩ | ⟨rfl, ea3⟩
  · simp -implicitDefEqProofs [-getElem?_pos, -Int.ofNat_lt, -Int.ofNat_le, -Int.natCast_eq_zero, -Int.natCast_pos, -List.length_eq_zero_iff, List.getElem?_cons_zero, List.getElem?_cons_succ, List.getElem?_nil, q1, q2, q3, q4, q5, q6, oa3]
    refine Res.x ?_
    simp -implicitDefEqProofs [-getElem?_pos, -Int.ofNat_lt, -Int.ofNat_le, -Int.natCast_eq_zero, -Int.natCast_pos, -List.length_eq_zero_iff, List.getElem?_cons_zero, List.getElem?_cons_succ, List.getElem?_nil, and_assoc, Q_notation_write_0, ownAt, q1, q2, q3, q4, q5, q6, oa3]
  · try subst ea3
    simp -implicitDefEqProofs [-getElem?_pos, -Int.ofNat_lt, -Int.ofNat_le, -Int.natCast_eq_zero, -Int.natCast_pos, -List.length_eq_zero_iff, List.getElem?_cons_zero, List.getElem?_cons_succ, List.getElem?_nil, q1, q2, q3, q4, q5, q6]
    refine Res.x ?_
    simp -implicitDefEqProofs [-getElem?_pos, -Int.ofNat_lt, -Int.ofNat_le, -Int.natCast_eq_zero, -Int.natCast_pos, -List.length_eq_zero_iff, List.getElem?_cons_zero, List.getElem?_cons_succ, List.getElem?_nil, and_assoc, Q_notation_write_0, ownAt, q1, q2, q3, q4, q5, q6]
theorem P_notation_write_0 {p0 : Tru} {x3_0 : (List (List UInt8))} {cc : Code} (hcc : cc = .block 0 (.loop (Code.fst (Code.fst (Code.snd (Code.fst (Code.snd (Code.snd ((Tryd.f44.body).getD .skip))))))))) {s : St} {z : Option (Ex × St)} (hz : C Tryd.prog cf cc s = z) {r : (List (List UInt8))} (hn : p0.nodes.length < 4611686018427387904) (hI : I_notation_write_0 p0 0 x3_0 s) (hB : foldO (fun i a x => B_notation_write_0 p0 i a x) 0 x3_0 p0.nodes = some r) : Res z (postG (fun a q => Q_notation_write_0 p0 a q) r) := by
  subst hcc
  exact fold_sim (I := fun i a q => I_notation_write_0 p0 i a q) (Q := (fun a q => Q_notation_write_0 p0 a q)) (fun i x a q r hx hi h hB => Pb_notation_write_0 hx hi hn h hB) (fun a q h => Pe_notation_write_0 h) hI hz hB
noncomputable def B_notation_write_1 (p0 : Tru) (i14 : Nat) (x3_1 : (List (List UInt8))) (e15 : Tru) : Option (List (List UInt8)) :=
  kb (G_notation_write e15) fun y8 =>
  kb (appK x3_1 ([y8] : List (List UInt8)) 16) fun L10 =>
  some L10
def I_notation_write_1 (p0 : Tru) (i14 : Nat) (x3_1 : (List (List UInt8))) (q : St) : Prop := q (.t 22) = (.pv (.sl p0.inner.length (encTs p0.inner))) ∧ q (.t 23) = (i64 (p0.inner.length : Int)) ∧ q (.t 24) = (i64 (i14 : Int)) ∧ (∃ v : AV, q (.t 3) = v ∧ (ownAt q v (.site 10 4 0) false 1 x3_1.length (es_str x3_1) ∨ ownAt q v (.site 5 4 0) false 1 x3_1.length (es_str x3_1) ∨ (v = .nilsl ∧ x3_1 = []))) ∧ (∃ (g : Nat), q (.t 1) = .ptr (.site 0 0 0) g 0 ∧ q (.i (.site 0 0 0)) = .box g [(i64 p0.thr), (.pv (.sl p0.nodes.length (ints p0.nodes))), (.pv (.sl p0.inner.length (encTs p0.inner)))])
def Q_notation_write_1 (p0 : Tru) (x3_1 : (List (List UInt8))) (q : St) : Prop := (∃ v : AV, q (.t 3) = v ∧ (ownAt q v (.site 10 4 0) false 1 x3_1.length (es_str x3_1) ∨ ownAt q v (.site 5 4 0) false 1 x3_1.length (es_str x3_1) ∨ (v = .nilsl ∧ x3_1 = []))) ∧ (∃ (g : Nat), q (.t 1) = .ptr (.site 0 0 0) g 0 ∧ q (.i (.site 0 0 0)) = .box g [(i64 p0.thr), (.pv (.sl p0.nodes.length (ints p0.nodes))), (.pv (.sl p0.inner.length (encTs p0.inner)))])
theorem Pb_notation_write_1 {p0 : Tru} {i14 : Nat} {x3_1 : (List (List UInt8))} {e15 : Tru} {q : St} {r : (List (List UInt8))} (hx : p0.inner[i14]? = some e15) (hi : i14 < p0.inner.length) (hn : p0.inner.length < 4611686018427387904) (hI : I_notation_write_1 p0 i14 x3_1 q) (hB : B_notation_write_1 p0 i14 x3_1 e15 = some r) : Res (C Tryd.prog cf (Code.fst (Code.fst (Code.snd (Code.fst (Code.snd (Code.snd (Code.snd ((Tryd.f44.body).getD .skip)))))))) q) (postG (fun a q => I_notation_write_1 p0 (i14 + 1) a q) r) := by
  have hi3 : (i14 : Int) < (p0.inner.length : Int) := by omega
  have hi2 := decide_eq_true hi3
  have hi4 := idx_step hi hn
  have hi5 := ne_of_get hx
  simp only [I_notation_write_1] at hI
  obtain ⟨q1, q2, q3, ⟨v4, q4, a4⟩, ⟨g6, q5, q6⟩⟩ := hI
  simp only [Code.fst, Code.snd, Tryd.f44, Option.getD_some]
  generalize hr9 : Code.region 9 _ _ = rr9
  generalize hr10 : Code.region 10 _ _ = rr10
  unfold B_notation_write_1 at hB
  rcases a4 with ⟨ga4, rfl, oa4⟩ | ⟨ga4, rfl, oa4⟩ | ⟨rfl, ea4⟩
  · have l7 := encTs_ld hx
    obtain ⟨y8, k9, hB⟩ := kb_inv hB
    replace k9 := run_notation_write k9
    try simp only [Int.cast_ofNat_Int, Int.natCast_zero, List.length_cons, List.length_nil, List.nil_append, List.cons_append, Nat.zero_add, Nat.reduceAdd, Tru.thr_mk, Tru.nodes_mk, Tru.inner_mk, ints_cons, ints_nil, encTs_cons, encTs_nil, es_str_cons, es_str_nil, es_u64_cons, es_u64_nil, es_u8_cons, es_u8_nil] at k9
    try dsimp only at hB
    obtain ⟨L10, a11, hB⟩ := kb_inv hB
    obtain ⟨a11z, a11a, a11y⟩ := appK_inv a11
    try (simp only [List.nil_append] at a11z; subst a11z)
    have a11b := appK_len a11
    have a11c := es_str_appK a11
    have a11d := appK_le a11
    try simp only [Int.cast_ofNat_Int, Int.natCast_zero, List.length_cons, List.length_nil, List.nil_append, List.cons_append, Nat.zero_add, Nat.reduceAdd, Tru.thr_mk, Tru.nodes_mk, Tru.inner_mk, ints_cons, ints_nil, encTs_cons, encTs_nil, es_str_cons, es_str_nil, es_u64_cons, es_u64_nil, es_u8_cons, es_u8_nil] at a11a a11b a11c
    try replace a11b : _ = (1 : Nat) := a11b.symm
    try dsimp only at hB
    obtain rfl := Option.some.inj hB
    subst hr9
    subst hr10
    try simp -implicitDefEqProofs [-getElem?_pos, -Int.ofNat_lt, -Int.ofNat_le, -Int.natCast_eq_zero, -Int.natCast_pos, -List.length_eq_zero_iff, List.getElem?_cons_zero, List.getElem?_cons_succ, List.getElem?_nil, q1, q2, q3, q4, q5, q6, oa4, hx, hi2, hi3, hi4, hi5, l7, k9, a11a, a11b, a11c, a11d]
    refine Res.g ?_
    simp -implicitDefEqProofs [-getElem?_pos, -Int.ofNat_lt, -Int.ofNat_le, -Int.natCast_eq_zero, -Int.natCast_pos, -List.length_eq_zero_iff, List.getElem?_cons_zero, List.getElem?_cons_succ, List.getElem?_nil, and_assoc, I_notation_write_1, ownAt, q1, q2, q3, q4, q5, q6, oa4, hx, hi2, hi3, hi4, hi5, l7, k9, a11a, a11b, a11c, a11d]
  · have l7 := encTs_ld hx
    obtain ⟨y8, k9, hB⟩ := kb_inv hB
    replace k9 := run_notation_write k9
    try simp only [Int.cast_ofNat_Int, Int.natCast_zero, List.length_cons, List.length_nil, List.nil_append, List.cons_append, Nat.zero_add, Nat.reduceAdd, Tru.thr_mk, Tru.nodes_mk, Tru.inner_mk, ints_cons, ints_nil, encTs_cons, encTs_nil, es_str_cons, es_str_nil, es_u64_cons, es_u64_nil, es_u8_cons, es_u8_nil] at k9
    try dsimp only at hB
    obtain ⟨L10, a11, hB⟩ := kb_inv hB
    obtain ⟨a11z, a11a, a11y⟩ := appK_inv a11
    try (simp only [List.nil_append] at a11z; subst a11z)
    have a11b := appK_len a11
    have a11c := es_str_appK a11
    have a11d := appK_le a11
    try simp only [Int.cast_ofNat_Int, Int.natCast_zero, List.length_cons, List.length_nil, List.nil_append, List.cons_append, Nat.zero_add, Nat.reduceAdd, Tru.thr_mk, Tru.nodes_mk, Tru.inner_mk, ints_cons, ints_nil, encTs_cons, encTs_nil, es_str_cons, es_str_nil, es_u64_cons, es_u64_nil, es_u8_cons, es_u8_nil] at a11a a11b a11c
    try replace a11b : _ = (1 : Nat) := a11b.symm
    try dsimp only at hB
    obtain rfl := Option.some.inj hB
    subst hr9
    subst hr10
    try simp -implicitDefEqProofs [-getElem?_pos, -Int.ofNat_lt, -Int.ofNat_le, -Int.natCast_eq_zero, -Int.natCast_pos, -List.length_eq_zero_iff, List.getElem?_cons_zero, List.getElem?_cons_succ, List.getElem?_nil, q1, q2, q3, q4, q5, q6, oa4, hx, hi2, hi3, hi4, hi5, l7, k9, a11a, a11b, a11c, a11d]
    refine Res.g ?_
    simp -implicitDefEqProofs [-getElem?_pos, -Int.ofNat_lt, -Int.ofNat_le, -Int.natCast_eq_zero, -Int.natCast_pos, -List.length_eq_zero_iff, List.getElem?_cons_zero, List.getElem?_cons_succ, List.getElem?_nil, and_assoc, I_notation_write_1, ownAt, q1, q2, q3, q4, q5, q6, oa4, hx, hi2, hi3, hi4, hi5, l7, k9, a11a, a11b, a11c, a11d]
  · try subst ea4
    have l7 := encTs_ld hx
    obtain ⟨y8, k9, hB⟩ := kb_inv hB
    replace k9 := run_notation_write k9
    try simp only [Int.cast_ofNat_Int, Int.natCast_zero, List.length_cons, List.length_nil, List.nil_append, List.cons_append, Nat.zero_add, Nat.reduceAdd, Tru.thr_mk, Tru.nodes_mk, Tru.inner_mk, ints_cons, ints_nil, encTs_cons, encTs_nil, es_str_cons, es_str_nil, es_u64_cons, es_u64_nil, es_u8_cons, es_u8_nil] at k9
    try dsimp only at hB
    obtain ⟨L10, a11, hB⟩ := kb_inv hB
    obtain ⟨a11z, a11a, a11y⟩ := appK_inv a11
    simp only [List.nil_append] at a11z
    subst a11z
    try dsimp only at hB
    obtain rfl := Option.some.inj hB
    subst hr9
    subst hr10
    try simp -implicitDefEqProofs [-getElem?_pos, -Int.ofNat_lt, -Int.ofNat_le, -Int.natCast_eq_zero, -Int.natCast_pos, -List.length_eq_zero_iff, List.getElem?_cons_zero, List.getElem?_cons_succ, List.getElem?_nil, q1, q2, q3, q4, q5, q6, hx, hi2, hi3, hi4, hi5, l7, k9]
    refine Res.g ?_
    simp -implicitDefEqProofs [-getElem?_pos, -Int.ofNat_lt, -Int.ofNat_le, -Int.natCast_eq_zero, -Int.natCast_pos, -List.length_eq_zero_iff, List.getElem?_cons_zero, List.getElem?_cons_succ, List.getElem?_nil, and_assoc, I_notation_write_1, ownAt, q1, q2, q3, q4, q5, q6, hx, hi2, hi3, hi4, hi5, l7, k9]
theorem Pe_notation_write_1 {p0 : Tru} {x3_1 : (List (List UInt8))} {q : St} (hI : I_notation_write_1 p0 p0.inner.length x3_1 q) : Res (C Tryd.prog cf (Code.fst (Code.fst (Code.snd (Code.fst (Code.snd (Code.snd (Code.snd ((Tryd.f44.body).getD .skip)))))))) q) fun e q' => e = .exit 2 ∧ Q_notation_write_1 p0 x3_1 q' := by
  simp only [I_notation_write_1] at hI
  obtain ⟨q1, q2, q3, ⟨v4, q4, a4⟩, ⟨g6, q5, q6⟩⟩ := hI
  simp only [Code.fst, Code.snd, Tryd.f44, Option.getD_some]
  rcases a4 with ⟨ga4, rfl, oa4⟩ | ⟨ga4, rfl, oa4⟩ | ⟨rfl, ea4⟩
  · simp -implicitDefEqProofs [-getElem?_pos, -Int.ofNat_lt, -Int.ofNat_le, -Int.natCast_eq_zero, -Int.natCast_pos, -List.length_eq_zero_iff, List.getElem?_cons_zero, List.getElem?_cons_succ, List.getElem?_nil, q1, q2, q3, q4, q5, q6, oa4]
    refine Res.x ?_
    simp -implicitDefEqProofs [-getElem?_pos, -Int.ofNat_lt, -Int.ofNat_le, -Int.natCast_eq_zero, -Int.natCast_pos, -List.length_eq_zero_iff, List.getElem?_cons_zero, List.getElem?_cons_succ, List.getElem?_nil, and_assoc, Q_notation_write_1, ownAt, q1, q2, q3, q4, q5, q6, oa4]
  · simp -implicitDefEqProofs [-getElem?_pos, -Int.ofNat_lt, -Int.ofNat_le, -Int.natCast_eq_zero, -Int.natCast_pos, -List.length_eq_zero_iff, List.getElem?_cons_zero, List.getElem?_cons_succ, List.getElem?_nil, q1, q2, q3, q4, q5, q6, oa4]
    refine Res.x ?_
    simp -implicitDefEqProofs [-getElem?_pos, -Int.ofNat_lt, -Int.ofNat_le, -Int.natCast_eq_zero, -Int.natCast_pos, -List.length_eq_zero_iff, List.getElem?_cons_zero, List.getElem?_cons_succ, List.getElem?_nil, and_assoc, Q_notation_write_1, ownAt, q1, q2, q3, q4, q5, q6, oa4]
  · try subst ea4
    simp -implicitDefEqProofs [-getElem?_pos, -Int.ofNat_lt, -Int.ofNat_le, -Int.natCast_eq_zero, -Int.natCast_pos, -List.length_eq_zero_iff, List.getElem?_cons_zero, List.getElem?_cons_succ, List.getElem?_nil, q1, q2, q3, q4, q5, q6]
    refine Res.x ?_
    simp -implicitDefEqProofs [-getElem?_pos, -Int.ofNat_lt, -Int.ofNat_le, -Int.natCast_eq_zero, -Int.natCast_pos, -List.length_eq_zero_iff, List.getElem?_cons_zero, List.getElem?_cons_succ, List.getElem?_nil, and_assoc, Q_notation_write_1, ownAt, q1, q2, q3, q4, q5, q6]
theorem P_notation_write_1 {p0 : Tru} {x3_1 : (List (List UInt8))} {cc : Code} (hcc : cc = .block 2 (.loop (Code.fst (Code.fst (Code.snd (Code.fst (Code.snd (Code.snd (Code.snd ((Tryd.f44.body).getD .skip)))))))))) {s : St} {z : Option (Ex × St)} (hz : C Tryd.prog cf cc s = z) {r : (List (List UInt8))} (hn : p0.inner.length < 4611686018427387904) (hI : I_notation_write_1 p0 0 x3_1 s) (hB : foldO (fun i a x => B_notation_write_1 p0 i a x) 0 x3_1 p0.inner = some r) : Res z (postG (fun a q => Q_notation_write_1 p0 a q) r) := by
  subst hcc
  exact fold_sim (I := fun i a q => I_notation_write_1 p0 i a q) (Q := (fun a q => Q_notation_write_1 p0 a q)) (fun i x a q r hx hi h hB => Pb_notation_write_1 hx hi hn h hB) (fun a q h => Pe_notation_write_1 h) hI hz hB
noncomputable def B_notation_write (p0 : Tru) : Option (List UInt8) :=
  kb (smallK p0.nodes) fun _ =>
  kb (foldO (fun i a x => B_notation_write_0 p0 i a x) 0 ([] : (List (List UInt8))) p0.nodes) fun z6 =>
  kb (smallK p0.inner) fun _ =>
  kb (foldO (fun i a x => B_notation_write_1 p0 i a x) 0 z6 p0.inner) fun z12 =>
  kb (G_strconv_Itoa p0.thr) fun y13 =>
  kb (catK y13 ([32, 111, 102, 32, 40] : List UInt8)) fun S16 =>
  kb (G_strings_Join z12 ([44, 32] : List UInt8)) fun y17 =>
  kb (catK S16 y17) fun S20 =>
  kb (catK S20 ([41] : List UInt8)) fun S22 =>
  some S22
theorem sim_notation_write {p0 : Tru} {r : (List UInt8)} (hB : B_notation_write p0 = some r) : R 44 [(.agg [(i64 p0.thr), (.pv (.sl p0.nodes.length (ints p0.nodes))), (.pv (.sl p0.inner.length (encTs p0.inner)))])] [] = some ((.pv (.str r)), [], []) := by
  rw [R_eq _ _ _ fn_notation_write]
  simp only [Code.fst, Code.snd, Tryd.f44, Option.getD_some]
  generalize hc0 : Code.block 0 _ = cc0
  generalize hc1 : Code.block 2 _ = cc1
  generalize hr2 : Code.region 2 _ _ = rr2
  generalize hr7 : Code.region 7 _ _ = rr7
  generalize hr12 : Code.region 12 _ _ = rr12
  unfold B_notation_write at hB
  subst hr2
  try simp -implicitDefEqProofs [-getElem?_pos, -Int.ofNat_lt, -Int.ofNat_le, -Int.natCast_eq_zero, -Int.natCast_pos, -List.length_eq_zero_iff, List.getElem?_cons_zero, List.getElem?_cons_succ, List.getElem?_nil]
  generalize hz0 : C Tryd.prog cf cc0 _ = z0
  obtain ⟨_, hsm, hB⟩ := kb_inv hB
  obtain ⟨z6, hB1, hB⟩ := kb_inv hB
  have hJ := P_notation_write_0 (hc0.symm.trans (by kernel_rfl)) hz0 (smallK_inv hsm) (by simp -implicitDefEqProofs [-getElem?_pos, -Int.ofNat_lt, -Int.ofNat_le, -Int.natCast_eq_zero, -Int.natCast_pos, -List.length_eq_zero_iff, List.getElem?_cons_zero, List.getElem?_cons_succ, List.getElem?_nil, and_assoc, I_notation_write_0, ownAt]) hB1
  obtain ⟨e0, s0, rfl, hq⟩ := hJ.open
  clear hB1
  obtain ⟨rfl, hq⟩ := hq
  simp only [Q_notation_write_0] at hq
  obtain ⟨⟨v6_1, q6_1, a6_1⟩, ⟨g6_3, q6_2, q6_3⟩⟩ := hq
  rcases a6_1 with ⟨ga6_1, rfl, oa6_1⟩ | ⟨rfl, ea6_1⟩
  · subst hr7
    try simp -implicitDefEqProofs [-getElem?_pos, -Int.ofNat_lt, -Int.ofNat_le, -Int.natCast_eq_zero, -Int.natCast_pos, -List.length_eq_zero_iff, List.getElem?_cons_zero, List.getElem?_cons_succ, List.getElem?_nil, q6_1, q6_2, q6_3, oa6_1]
    generalize hz1 : C Tryd.prog cf cc1 _ = z1
    obtain ⟨_, hsm, hB⟩ := kb_inv hB
    obtain ⟨z12, hB1, hB⟩ := kb_inv hB
    have hJ := P_notation_write_1 (hc1.symm.trans (by kernel_rfl)) hz1 (smallK_inv hsm) (by simp -implicitDefEqProofs [-getElem?_pos, -Int.ofNat_lt, -Int.ofNat_le, -Int.natCast_eq_zero, -Int.natCast_pos, -List.length_eq_zero_iff, List.getElem?_cons_zero, List.getElem?_cons_succ, List.getElem?_nil, and_assoc, I_notation_write_1, ownAt, q6_1, q6_2, q6_3, oa6_1]) hB1
    obtain ⟨e1, s1, rfl, hq⟩ := hJ.open
    clear hB1
    obtain ⟨rfl, hq⟩ := hq
    simp only [Q_notation_write_1] at hq
    obtain ⟨⟨v12_1, q12_1, a12_1⟩, ⟨g12_3, q12_2, q12_3⟩⟩ := hq
    rcases a12_1 with ⟨ga12_1, rfl, oa12_1⟩ | ⟨ga12_1, rfl, oa12_1⟩ | ⟨rfl, ea12_1⟩
    · obtain ⟨y13, k14, hB⟩ := kb_inv hB
      replace k14 := run_strconv_Itoa k14
      try simp only [Int.cast_ofNat_Int, Int.natCast_zero, List.length_cons, List.length_nil, List.nil_append, List.cons_append, Nat.zero_add, Nat.reduceAdd, Tru.thr_mk, Tru.nodes_mk, Tru.inner_mk, ints_cons, ints_nil, encTs_cons, encTs_nil, es_str_cons, es_str_nil, es_u64_cons, es_u64_nil, es_u8_cons, es_u8_nil] at k14
      try dsimp only at hB
      obtain ⟨S16, n15, hB⟩ := kb_inv hB
      obtain ⟨n15a, n15b⟩ := catK_inv n15
      try simp only [List.length_cons, List.length_nil, Nat.zero_add, Nat.reduceAdd] at n15a
      try simp only [List.cons_append, List.nil_append] at n15b
      try dsimp only at hB
      obtain ⟨y17, k18, hB⟩ := kb_inv hB
      replace k18 := run_strings_Join k18
      try simp only [Int.cast_ofNat_Int, Int.natCast_zero, List.length_cons, List.length_nil, List.nil_append, List.cons_append, Nat.zero_add, Nat.reduceAdd, Tru.thr_mk, Tru.nodes_mk, Tru.inner_mk, ints_cons, ints_nil, encTs_cons, encTs_nil, es_str_cons, es_str_nil, es_u64_cons, es_u64_nil, es_u8_cons, es_u8_nil] at k18
      try dsimp only at hB
      obtain ⟨S20, n19, hB⟩ := kb_inv hB
      obtain ⟨n19a, n19b⟩ := catK_inv n19
      try dsimp only at hB
      obtain ⟨S22, n21, hB⟩ := kb_inv hB
      obtain ⟨n21a, n21b⟩ := catK_inv n21
      try simp only [List.length_cons, List.length_nil, Nat.zero_add, Nat.reduceAdd] at n21a
      try simp only [List.cons_append, List.nil_append] at n21b
      try dsimp only at hB
      obtain rfl := Option.some.inj hB
      subst hr12
      simp -implicitDefEqProofs [-getElem?_pos, -Int.ofNat_lt, -Int.ofNat_le, -Int.natCast_eq_zero, -Int.natCast_pos, -List.length_eq_zero_iff, List.getElem?_cons_zero, List.getElem?_cons_succ, List.getElem?_nil, q12_1, q12_2, q12_3, oa12_1, k14, n15a, n15b, k18, n19a, n19b, n21a, n21b]
    · obtain ⟨y13, k14, hB⟩ := kb_inv hB
      replace k14 := run_strconv_Itoa k14
      try simp only [Int.cast_ofNat_Int, Int.natCast_zero, List.length_cons, List.length_nil, List.nil_append, List.cons_append, Nat.zero_add, Nat.reduceAdd, Tru.thr_mk, Tru.nodes_mk, Tru.inner_mk, ints_cons, ints_nil, encTs_cons, encTs_nil, es_str_cons, es_str_nil, es_u64_cons, es_u64_nil, es_u8_cons, es_u8_nil] at k14
      try dsimp only at hB
      obtain ⟨S16, n15, hB⟩ := kb_inv hB
      obtain ⟨n15a, n15b⟩ := catK_inv n15
      try simp only [List.length_cons, List.length_nil, Nat.zero_add, Nat.reduceAdd] at n15a
      try simp only [List.cons_append, List.nil_append] at n15b
      try dsimp only at hB
      obtain ⟨y17, k18, hB⟩ := kb_inv hB
      replace k18 := run_strings_Join k18
      try simp only [Int.cast_ofNat_Int, Int.natCast_zero, List.length_cons, List.length_nil, List.nil_append, List.cons_append, Nat.zero_add, Nat.reduceAdd, Tru.thr_mk, Tru.nodes_mk, Tru.inner_mk, ints_cons, ints_nil, encTs_cons, encTs_nil, es_str_cons, es_str_nil, es_u64_cons, es_u64_nil, es_u8_cons, es_u8_nil] at k18
      try dsimp only at hB
      obtain ⟨S20, n19, hB⟩ := kb_inv hB
      obtain ⟨n19a, n19b⟩ := catK_inv n19
      try dsimp only at hB
      obtain ⟨S22, n21, hB⟩ := kb_inv hB
      obtain ⟨n21a, n21b⟩ := catK_inv n21
      try simp only [List.length_cons, List.length_nil, Nat.zero_add, Nat.reduceAdd] at n21a
      try simp only [List.cons_append, List.nil_append] at n21b
      try dsimp only at hB
      obtain rfl := Option.some.inj hB
      subst hr12
      simp -implicitDefEqProofs [-getElem?_pos, -Int.ofNat_lt, -Int.ofNat_le, -Int.natCast_eq_zero, -Int.natCast_pos, -List.length_eq_zero_iff, List.getElem?_cons_zero, List.getElem?_cons_succ, List.getElem?_nil, q12_1, q12_2, q12_3, oa12_1, k14, n15a, n15b, k18, n19a, n19b, n21a, n21b]
    · try subst ea12_1
      obtain ⟨y13, k14, hB⟩ := kb_inv hB
      replace k14 := run_strconv_Itoa k14
      try simp only [Int.cast_ofNat_Int, Int.natCast_zero, List.length_cons, List.length_nil, List.nil_append, List.cons_append, Nat.zero_add, Nat.reduceAdd, Tru.thr_mk, Tru.nodes_mk, Tru.inner_mk, ints_cons, ints_nil, encTs_cons, encTs_nil, es_str_cons, es_str_nil, es_u64_cons, es_u64_nil, es_u8_cons, es_u8_nil] at k14
      try dsimp only at hB
      obtain ⟨S16, n15, hB⟩ := kb_inv hB
      obtain ⟨n15a, n15b⟩ := catK_inv n15
      try simp only [List.length_cons, List.length_nil, Nat.zero_add, Nat.reduceAdd] at n15a
      try simp only [List.cons_append, List.nil_append] at n15b
      try dsimp only at hB
      obtain ⟨y17, k18, hB⟩ := kb_inv hB
      replace k18 := run_strings_Join k18
      try simp only [Int.cast_ofNat_Int, Int.natCast_zero, List.length_cons, List.length_nil, List.nil_append, List.cons_append, Nat.zero_add, Nat.reduceAdd, Tru.thr_mk, Tru.nodes_mk, Tru.inner_mk, ints_cons, ints_nil, encTs_cons, encTs_nil, es_str_cons, es_str_nil, es_u64_cons, es_u64_nil, es_u8_cons, es_u8_nil] at k18
      try dsimp only at hB
      obtain ⟨S20, n19, hB⟩ := kb_inv hB
      obtain ⟨n19a, n19b⟩ := catK_inv n19
      try dsimp only at hB
      obtain ⟨S22, n21, hB⟩ := kb_inv hB
      obtain ⟨n21a, n21b⟩ := catK_inv n21
      try simp only [List.length_cons, List.length_nil, Nat.zero_add, Nat.reduceAdd] at n21a
      try simp only [List.cons_append, List.nil_append] at n21b
      try dsimp only at hB
      obtain rfl := Option.some.inj hB
      subst hr12
      simp -implicitDefEqProofs [-getElem?_pos, -Int.ofNat_lt, -Int.ofNat_le, -Int.natCast_eq_zero, -Int.natCast_pos, -List.length_eq_zero_iff, List.getElem?_cons_zero, List.getElem?_cons_succ, List.getElem?_nil, q12_1, q12_2, q12_3, k14, n15a, n15b, k18, n19a, n19b, n21a, n21b]
  · try subst ea6_1
    subst hr7
    try simp -implicitDefEqProofs [-getElem?_pos, -Int.ofNat_lt, -Int.ofNat_le, -Int.natCast_eq_zero, -Int.natCast_pos, -List.length_eq_zero_iff, List.getElem?_cons_zero, List.getElem?_cons_succ, List.getElem?_nil, q6_1, q6_2, q6_3]
    generalize hz1 : C Tryd.prog cf cc1 _ = z1
    obtain ⟨_, hsm, hB⟩ := kb_inv hB
    obtain ⟨z12, hB1, hB⟩ := kb_inv hB
    have hJ := P_notation_write_1 (hc1.symm.trans (by kernel_rfl)) hz1 (smallK_inv hsm) (by simp -implicitDefEqProofs [-getElem?_pos, -Int.ofNat_lt, -Int.ofNat_le, -Int.natCast_eq_zero, -Int.natCast_pos, -List.length_eq_zero_iff, List.getElem?_cons_zero, List.getElem?_cons_succ, List.getElem?_nil, and_assoc, I_notation_write_1, ownAt, q6_1, q6_2, q6_3]) hB1
    obtain ⟨e1, s1, rfl, hq⟩ := hJ.open
    clear hB1
    obtain ⟨rfl, hq⟩ := hq
    simp only [Q_notation_write_1] at hq
    obtain ⟨⟨v12_1, q12_1, a12_1⟩, ⟨g12_3, q12_2, q12_3⟩⟩ := hq
    rcases a12_1 with ⟨ga12_1, rfl, oa12_1⟩ | ⟨ga12_1, rfl, oa12_1⟩ | ⟨rfl, ea12_1⟩
    · obtain ⟨y13, k14, hB⟩ := kb_inv hB
      replace k14 := run_strconv_Itoa k14
      try simp only [Int.cast_ofNat_Int, Int.natCast_zero, List.length_cons, List.length_nil, List.nil_append, List.cons_append, Nat.zero_add, Nat.reduceAdd, Tru.thr_mk, Tru.nodes_mk, Tru.inner_mk, ints_cons, ints_nil, encTs_cons, encTs_nil, es_str_cons, es_str_nil, es_u64_cons, es_u64_nil, es_u8_cons, es_u8_nil] at k14
      try dsimp only at hB
      obtain ⟨S16, n15, hB⟩ := kb_inv hB
      obtain ⟨n15a, n15b⟩ := catK_inv n15
      try simp only [List.length_cons, List.length_nil, Nat.zero_add, Nat.reduceAdd] at n15a
      try simp only [List.cons_append, List.nil_append] at n15b
      try dsimp only at hB
      obtain ⟨y17, k18, hB⟩ := kb_inv hB
      replace k18 := run_strings_Join k18
      try simp only [Int.cast_ofNat_Int, Int.natCast_zero, List.length_cons, List.length_nil, List.nil_append, List.cons_append, Nat.zero_add, Nat.reduceAdd, Tru.thr_mk, Tru.nodes_mk, Tru.inner_mk, ints_cons, ints_nil, encTs_cons, encTs_nil, es_str_cons, es_str_nil, es_u64_cons, es_u64_nil, es_u8_cons, es_u8_nil] at k18
      try dsimp only at hB
      obtain ⟨S20, n19, hB⟩ := kb_inv hB
      obtain ⟨n19a, n19b⟩ := catK_inv n19
      try dsimp only at hB
      obtain ⟨S22, n21, hB⟩ := kb_inv hB
      obtain ⟨n21a, n21b⟩ := catK_inv n21
      try simp only [List.length_cons, List.length_nil, Nat.zero_add, Nat.reduceAdd] at n21a
      try simp only [List.cons_append, List.nil_append] at n21b
      try dsimp only at hB
      obtain rfl := Option.some.inj hB
      subst hr12
      simp -implicitDefEqProofs [-getElem?_pos, -Int.ofNat_lt, -Int.ofNat_le, -Int.natCast_eq_zero, -Int.natCast_pos, -List.length_eq_zero_iff, List.getElem?_cons_zero, List.getElem?_cons_succ, List.getElem?_nil, q12_1, q12_2, q12_3, oa12_1, k14, n15a, n15b, k18, n19a, n19b, n21a, n21b]
    · obtain ⟨y13, k14, hB⟩ := kb_inv hB
      replace k14 := run_strconv_Itoa k14
      try simp only [Int.cast_ofNat_Int, Int.natCast_zero, List.length_cons, List.length_nil, List.nil_append, List.cons_append, Nat.zero_add, Nat.reduceAdd, Tru.thr_mk, Tru.nodes_mk, Tru.inner_mk, ints_cons, ints_nil, encTs_cons, encTs_nil, es_str_cons, es_str_nil, es_u64_cons, es_u64_nil, es_u8_cons, es_u8_nil] at k14
      try dsimp only at hB
      obtain ⟨S16, n15, hB⟩ := kb_inv hB
      obtain ⟨n15a, n15b⟩ := catK_inv n15
      try simp only [List.length_cons, List.length_nil, Nat.zero_add, Nat.reduceAdd] at n15a
      try simp only [List.cons_append, List.nil_append] at n15b
      try dsimp only at hB
      obtain ⟨y17, k18, hB⟩ := kb_inv hB
      replace k18 := run_strings_Join k18
      try simp only [Int.cast_ofNat_Int, Int.natCast_zero, List.length_cons, List.length_nil, List.nil_append, List.cons_append, Nat.zero_add, Nat.reduceAdd, Tru.thr_mk, Tru.nodes_mk, Tru.inner_mk, ints_cons, ints_nil, encTs_cons, encTs_nil, es_str_cons, es_str_nil, es_u64_cons, es_u64_nil, es_u8_cons, es_u8_nil] at k18
      try dsimp only at hB
      obtain ⟨S20, n19, hB⟩ := kb_inv hB
      obtain ⟨n19a, n19b⟩ := catK_inv n19
      try dsimp only at hB
      obtain ⟨S22, n21, hB⟩ := kb_inv hB
      obtain ⟨n21a, n21b⟩ := catK_inv n21
      try simp only [List.length_cons, List.length_nil, Nat.zero_add, Nat.reduceAdd] at n21a
      try simp only [List.cons_append, List.nil_append] at n21b
      try dsimp only at hB
      obtain rfl := Option.some.inj hB
      subst hr12
      simp -implicitDefEqProofs [-getElem?_pos, -Int.ofNat_lt, -Int.ofNat_le, -Int.natCast_eq_zero, -Int.natCast_pos, -List.length_eq_zero_iff, List.getElem?_cons_zero, List.getElem?_cons_succ, List.getElem?_nil, q12_1, q12_2, q12_3, oa12_1, k14, n15a, n15b, k18, n19a, n19b, n21a, n21b]
    · try subst ea12_1
      obtain ⟨y13, k14, hB⟩ := kb_inv hB
      replace k14 := run_strconv_Itoa k14
      try simp only [Int.cast_ofNat_Int, Int.natCast_zero, List.length_cons, List.length_nil, List.nil_append, List.cons_append, Nat.zero_add, Nat.reduceAdd, Tru.thr_mk, Tru.nodes_mk, Tru.inner_mk, ints_cons, ints_nil, encTs_cons, encTs_nil, es_str_cons, es_str_nil, es_u64_cons, es_u64_nil, es_u8_cons, es_u8_nil] at k14
      try dsimp only at hB
      obtain ⟨S16, n15, hB⟩ := kb_inv hB
      obtain ⟨n15a, n15b⟩ := catK_inv n15
      try simp only [List.length_cons, List.length_nil, Nat.zero_add, Nat.reduceAdd] at n15a
      try simp only [List.cons_append, List.nil_append] at n15b
      try dsimp only at hB
      obtain ⟨y17, k18, hB⟩ := kb_inv hB
      replace k18 := run_strings_Join k18
      try simp only [Int.cast_ofNat_Int, Int.natCast_zero, List.length_cons, List.length_nil, List.nil_append, List.cons_append, Nat.zero_add, Nat.reduceAdd, Tru.thr_mk, Tru.nodes_mk, Tru.inner_mk, ints_cons, ints_nil, encTs_cons, encTs_nil, es_str_cons, es_str_nil, es_u64_cons, es_u64_nil, es_u8_cons, es_u8_nil] at k18
      try dsimp only at hB
      obtain ⟨S20, n19, hB⟩ := kb_inv hB
      obtain ⟨n19a, n19b⟩ := catK_inv n19
      try dsimp only at hB
      obtain ⟨S22, n21, hB⟩ := kb_inv hB
      obtain ⟨n21a, n21b⟩ := catK_inv n21
      try simp only [List.length_cons, List.length_nil, Nat.zero_add, Nat.reduceAdd] at n21a
      try simp only [List.cons_append, List.nil_append] at n21b
      try dsimp only at hB
      obtain rfl := Option.some.inj hB
      subst hr12
      simp -implicitDefEqProofs [-getElem?_pos, -Int.ofNat_lt, -Int.ofNat_le, -Int.natCast_eq_zero, -Int.natCast_pos, -List.length_eq_zero_iff, List.getElem?_cons_zero, List.getElem?_cons_succ, List.getElem?_nil, q12_1, q12_2, q12_3, k14, n15a, n15b, k18, n19a, n19b, n21a, n21b]
theorem g_notation_write {p0 : Tru} {r : (List UInt8)} (hB : B_notation_write p0 = some r) : G_notation_write p0 = some r := dec_of (fun a b h => by rcases a with a0_; rcases b with b0_; simp at h; simp [*]) (sim_notation_write hB)
end Go.Am

/-
How notation.Text runs, as a pure function.
-/
namespace Go.Am
open Go Go.Proofs
set_option linter.unusedVariables false
set_option linter.unusedSimpArgs false
set_option maxRecDepth 4000
set_option maxHeartbeats 4000000
noncomputable def B_notation_Text (p0 : Tru) : Option (List UInt8) :=
  kb (G_threshold_Valid p0) fun y1 =>
  cnd (decide (y1 = 0)) (
    kb (G_notation_write p0) fun y4 =>
    some y4) (
    some ([63] : List UInt8))
theorem sim_notation_Text {p0 : Tru} {r : (List UInt8)} (hB : B_notation_Text p0 = some r) : R 32 [(.agg [(i64 p0.thr), (.pv (.sl p0.nodes.length (ints p0.nodes))), (.pv (.sl p0.inner.length (encTs p0.inner)))])] [] = some ((.pv (.str r)), [], []) := by
  rw [R_eq _ _ _ fn_notation_Text]
  simp only [Code.fst, Code.snd, Tryd.f32, Option.getD_some]
  unfold B_notation_Text at hB
  obtain ⟨y1, k2, hB⟩ := kb_inv hB
  replace k2 := run_threshold_Valid k2
  try simp only [Int.cast_ofNat_Int, Int.natCast_zero, List.length_cons, List.length_nil, List.nil_append, List.cons_append, Nat.zero_add, Nat.reduceAdd, Tru.thr_mk, Tru.nodes_mk, Tru.inner_mk, ints_cons, ints_nil, encTs_cons, encTs_nil, es_str_cons, es_str_nil, es_u64_cons, es_u64_nil, es_u8_cons, es_u8_nil] at k2
  try dsimp only at hB
  rcases cnd_inv hB with ⟨c3, hB⟩ | ⟨c3, hB⟩
  · have pc3 := eq_true (of_decide_eq_true c3)
    obtain ⟨y4, k5, hB⟩ := kb_inv hB
    replace k5 := run_notation_write k5
    try simp only [Int.cast_ofNat_Int, Int.natCast_zero, List.length_cons, List.length_nil, List.nil_append, List.cons_append, Nat.zero_add, Nat.reduceAdd, Tru.thr_mk, Tru.nodes_mk, Tru.inner_mk, ints_cons, ints_nil, encTs_cons, encTs_nil, es_str_cons, es_str_nil, es_u64_cons, es_u64_nil, es_u8_cons, es_u8_nil] at k5
    try dsimp only at hB
    obtain rfl := Option.some.inj hB
    simp -implicitDefEqProofs [-getElem?_pos, -Int.ofNat_lt, -Int.ofNat_le, -Int.natCast_eq_zero, -Int.natCast_pos, -List.length_eq_zero_iff, List.getElem?_cons_zero, List.getElem?_cons_succ, List.getElem?_nil, k2, c3, pc3, k5]
  · have pc3 := eq_false (of_decide_eq_false c3)
    obtain rfl := Option.some.inj hB
    simp -implicitDefEqProofs [-getElem?_pos, -Int.ofNat_lt, -Int.ofNat_le, -Int.natCast_eq_zero, -Int.natCast_pos, -List.length_eq_zero_iff, List.getElem?_cons_zero, List.getElem?_cons_succ, List.getElem?_nil, k2, c3, pc3]
theorem g_notation_Text {p0 : Tru} {r : (List UInt8)} (hB : B_notation_Text p0 = some r) : G_notation_Text p0 = some r := dec_of (fun a b h => by rcases a with a0_; rcases b with b0_; simp at h; simp [*]) (sim_notation_Text hB)
end Go.Am

/-
How trustquorumref03.text runs, as a pure function.
-/
namespace Go.Am
open Go Go.Proofs
set_option linter.unusedVariables false
set_option linter.unusedSimpArgs false
set_option maxRecDepth 4000
set_option maxHeartbeats 4000000
noncomputable def B_ref03_text_0 (p0 : Tru) (i5 : Nat) (x3_0 : (List UInt8)) (x4_0 : (List UInt8)) (e6 : Int) : Option ((List UInt8) × (List UInt8)) :=
  kb (catK x3_0 x4_0) fun S7 =>
  kb (G_strconv_Itoa e6) fun y8 =>
  kb (catK S7 y8) fun S11 =>
  some (S11, ([44, 32] : List UInt8))
def I_ref03_text_0 (p0 : Tru) (i5 : Nat) (x3_0 : (List UInt8)) (x4_0 : (List UInt8)) (q : St) : Prop := q (.t 14) = (.pv (.sl p0.nodes.length (ints p0.nodes))) ∧ q (.t 15) = (i64 (p0.nodes.length : Int)) ∧ q (.t 16) = (i64 (i5 : Int)) ∧ q (.t 3) = (.pv (.str x3_0)) ∧ q (.t 4) = (.pv (.str x4_0)) ∧ (∃ (g : Nat), q (.t 1) = .ptr (.site 0 0 0) g 0 ∧ q (.i (.site 0 0 0)) = .box g [(i64 p0.thr), (.pv (.sl p0.nodes.length (ints p0.nodes))), (.pv (.sl p0.inner.length (encTs p0.inner)))])
def Q_ref03_text_0 (p0 : Tru) (x3_0 : (List UInt8)) (x4_0 : (List UInt8)) (q : St) : Prop := q (.t 3) = (.pv (.str x3_0)) ∧ q (.t 4) = (.pv (.str x4_0)) ∧ (∃ (g : Nat), q (.t 1) = .ptr (.site 0 0 0) g 0 ∧ q (.i (.site 0 0 0)) = .box g [(i64 p0.thr), (.pv (.sl p0.nodes.length (ints p0.nodes))), (.pv (.sl p0.inner.length (encTs p0.inner)))])
theorem Pb_ref03_text_0 {p0 : Tru} {i5 : Nat} {x3_0 : (List UInt8)} {x4_0 : (List UInt8)} {e6 : Int} {q : St} {r : ((List UInt8) × (List UInt8))} (hx : p0.nodes[i5]? = some e6) (hi : i5 < p0.nodes.length) (hn : p0.nodes.length < 4611686018427387904) (hI : I_ref03_text_0 p0 i5 x3_0 x4_0 q) (hB : B_ref03_text_0 p0 i5 x3_0 x4_0 e6 = some r) : Res (C Tryd.prog cf (Code.fst (Code.fst (Code.snd (Code.fst (Code.snd (Code.snd (Code.snd ((Tryd.f53.body).getD .skip)))))))) q) (postG (fun a q => I_ref03_text_0 p0 (i5 + 1) a.1 a.2 q) r) := by
  have hi3 : (i5 : Int) < (p0.nodes.length : Int) := by omega
  have hi2 := decide_eq_true hi3
  have hi4 := idx_step hi hn
  have hi5 := ne_of_get hx
  simp only [I_ref03_text_0] at hI
  obtain ⟨q1, q2, q3, q4, q5, ⟨g7, q6, q7⟩⟩ := hI
  simp only [Code.fst, Code.snd, Tryd.f53, Option.getD_some]
  generalize hr6 : Code.region 6 _ _ = rr6
  unfold B_ref03_text_0 at hB
  obtain ⟨S7, n6, hB⟩ := kb_inv hB
  obtain ⟨n6a, n6b⟩ := catK_inv n6
  try dsimp only at hB
  obtain ⟨y8, k9, hB⟩ := kb_inv hB
  replace k9 := run_strconv_Itoa k9
  try simp only [Int.cast_ofNat_Int, Int.natCast_zero, List.length_cons, List.length_nil, List.nil_append, List.cons_append, Nat.zero_add, Nat.reduceAdd, Tru.thr_mk, Tru.nodes_mk, Tru.inner_mk, ints_cons, ints_nil, encTs_cons, encTs_nil, es_str_cons, es_str_nil, es_u64_cons, es_u64_nil, es_u8_cons, es_u8_nil] at k9
  try dsimp only at hB
  obtain ⟨S11, n10, hB⟩ := kb_inv hB
  obtain ⟨n10a, n10b⟩ := catK_inv n10
  try dsimp only at hB
  obtain rfl := Option.some.inj hB
  subst hr6
  try simp -implicitDefEqProofs [-getElem?_pos, -Int.ofNat_lt, -Int.ofNat_le, -Int.natCast_eq_zero, -Int.natCast_pos, -List.length_eq_zero_iff, List.getElem?_cons_zero, List.getElem?_cons_succ, List.getElem?_nil, q1, q2, q3, q4, q5, q6, q7, hx, hi2, hi3, hi4, hi5, n6a, n6b, k9, n10a, n10b]
  refine Res.g ?_
  simp -implicitDefEqProofs [-getElem?_pos, -Int.ofNat_lt, -Int.ofNat_le, -Int.natCast_eq_zero, -Int.natCast_pos, -List.length_eq_zero_iff, List.getElem?_cons_zero, List.getElem?_cons_succ, List.getElem?_nil, and_assoc, I_ref03_text_0, ownAt, q1, q2, q3, q4, q5, q6, q7, hx, hi2, hi3, hi4, hi5, n6a, n6b, k9, n10a, n10b]
theorem Pe_ref03_text_0 {p0 : Tru} {x3_0 : (List UInt8)} {x4_0 : (List UInt8)} {q : St} (hI : I_ref03_text_0 p0 p0.nodes.length x3_0 x4_0 q) : Res (C Tryd.prog cf (Code.fst (Code.fst (Code.snd (Code.fst (Code.snd (Code.snd (Code.snd ((Tryd.f53.body).getD .skip)))))))) q) fun e q' => e = .exit 0 ∧ Q_ref03_text_0 p0 x3_0 x4_0 q' := by
  simp only [I_ref03_text_0] at hI
  obtain ⟨q1, q2, q3, q4, q5, ⟨g7, q6, q7⟩⟩ := hI
  simp only [Code.fst, Code.snd, Tryd.f53, Option.getD_some]
  simp -implicitDefEqProofs [-getElem?_pos, -Int.ofNat_lt, -Int.ofNat_le, -Int.natCast_eq_zero, -Int.natCast_pos, -List.length_eq_zero_iff, List.getElem?_cons_zero, List.getElem?_cons_succ, List.getElem?_nil, q1, q2, q3, q4, q5, q6, q7]
  refine Res.x ?_
  simp -implicitDefEqProofs [-getElem?_pos, -Int.ofNat_lt, -Int.ofNat_le, -Int.natCast_eq_zero, -Int.natCast_pos, -List.length_eq_zero_iff, List.getElem?_cons_zero, List.getElem?_cons_succ, List.getElem?_nil, and_assoc, Q_ref03_text_0, ownAt, q1, q2, q3, q4, q5, q6, q7]
theorem P_ref03_text_0 {p0 : Tru} {x3_0 : (List UInt8)} {x4_0 : (List UInt8)} {cc : Code} (hcc : cc = .block 0 (.loop (Code.fst (Code.fst (Code.snd (Code.fst (Code.snd (Code.snd (Code.snd ((Tryd.f53.body).getD .skip)))))))))) {s : St} {z : Option (Ex × St)} (hz : C Tryd.prog cf cc s = z) {r : ((List UInt8) × (List UInt8))} (hn : p0.nodes.length < 4611686018427387904) (hI : I_ref03_text_0 p0 0 x3_0 x4_0 s) (hB : foldO (fun i a x => B_ref03_text_0 p0 i a.1 a.2 x) 0 (x3_0, x4_0) p0.nodes = some r) : Res z (postG (fun a q => Q_ref03_text_0 p0 a.1 a.2 q) r) := by
  subst hcc
  exact fold_sim (I := fun i a q => I_ref03_text_0 p0 i a.1 a.2 q) (Q := (fun a q => Q_ref03_text_0 p0 a.1 a.2 q)) (fun i x a q r hx hi h hB => Pb_ref03_text_0 hx hi hn h hB) (fun a q h => Pe_ref03_text_0 h) hI hz hB
noncomputable def B_ref03_text_1 (p0 : Tru) (i22 : Nat) (x3_1 : (List UInt8)) (x4_1 : (List UInt8)) (e23 : Tru) : Option ((List UInt8) × (List UInt8)) :=
  kb (catK x3_1 x4_1) fun S15 =>
  kb (G_ref03_text e23) fun y16 =>
  kb (catK S15 y16) fun S19 =>
  some (S19, ([44, 32] : List UInt8))
def I_ref03_text_1 (p0 : Tru) (i22 : Nat) (x3_1 : (List UInt8)) (x4_1 : (List UInt8)) (q : St) : Prop := q (.t 28) = (.pv (.sl p0.inner.length (encTs p0.inner))) ∧ q (.t 29) = (i64 (p0.inner.length : Int)) ∧ q (.t 3) = (.pv (.str x3_1)) ∧ q (.t 30) = (i64 (i22 : Int)) ∧ q (.t 4) = (.pv (.str x4_1))
def Q_ref03_text_1 (p0 : Tru) (x3_1 : (List UInt8)) (x4_1 : (List UInt8)) (q : St) : Prop := q (.t 3) = (.pv (.str x3_1))
theorem Pb_ref03_text_1 {p0 : Tru} {i22 : Nat} {x3_1 : (List UInt8)} {x4_1 : (List UInt8)} {e23 : Tru} {q : St} {r : ((List UInt8) × (List UInt8))} (hx : p0.inner[i22]? = some e23) (hi : i22 < p0.inner.length) (hn : p0.inner.length < 4611686018427387904) (hI : I_ref03_text_1 p0 i22 x3_1 x4_1 q) (hB : B_ref03_text_1 p0 i22 x3_1 x4_1 e23 = some r) : Res (C Tryd.prog cf (Code.fst (Code.fst (Code.snd (Code.fst (Code.snd (Code.snd (Code.snd (Code.snd ((Tryd.f53.body).getD .skip))))))))) q) (postG (fun a q => I_ref03_text_1 p0 (i22 + 1) a.1 a.2 q) r) := by
  have hi3 : (i22 : Int) < (p0.inner.length : Int) := by omega
  have hi2 := decide_eq_true hi3
  have hi4 := idx_step hi hn
  have hi5 := ne_of_get hx
  simp only [I_ref03_text_1] at hI
  obtain ⟨q1, q2, q3, q4, q5⟩ := hI
  simp only [Code.fst, Code.snd, Tryd.f53, Option.getD_some]
  generalize hr10 : Code.region 10 _ _ = rr10
  generalize hr11 : Code.region 11 _ _ = rr11
  unfold B_ref03_text_1 at hB
  have l13 := encTs_ld hx
  obtain ⟨S15, n14, hB⟩ := kb_inv hB
  obtain ⟨n14a, n14b⟩ := catK_inv n14
  try dsimp only at hB
  obtain ⟨y16, k17, hB⟩ := kb_inv hB
  replace k17 := run_ref03_text k17
  try simp only [Int.cast_ofNat_Int, Int.natCast_zero, List.length_cons, List.length_nil, List.nil_append, List.cons_append, Nat.zero_add, Nat.reduceAdd, Tru.thr_mk, Tru.nodes_mk, Tru.inner_mk, ints_cons, ints_nil, encTs_cons, encTs_nil, es_str_cons, es_str_nil, es_u64_cons, es_u64_nil, es_u8_cons, es_u8_nil] at k17
  try dsimp only at hB
  obtain ⟨S19, n18, hB⟩ := kb_inv hB
  obtain ⟨n18a, n18b⟩ := catK_inv n18
  try dsimp only at hB
  obtain rfl := Option.some.inj hB
  subst hr10
  subst hr11
  try simp -implicitDefEqProofs [-getElem?_pos, -Int.ofNat_lt, -Int.ofNat_le, -Int.natCast_eq_zero, -Int.natCast_pos, -List.length_eq_zero_iff, List.getElem?_cons_zero, List.getElem?_cons_succ, List.getElem?_nil, q1, q2, q3, q4, q5, hx, hi2, hi3, hi4, hi5, l13, n14a, n14b, k17, n18a, n18b]
  refine Res.g ?_
  simp -implicitDefEqProofs [-getElem?_pos, -Int.ofNat_lt, -Int.ofNat_le, -Int.natCast_eq_zero, -Int.natCast_pos, -List.length_eq_zero_iff, List.getElem?_cons_zero, List.getElem?_cons_succ, List.getElem?_nil, and_assoc, I_ref03_text_1, ownAt, q1, q2, q3, q4, q5, hx, hi2, hi3, hi4, hi5, l13, n14a, n14b, k17, n18a, n18b]
theorem Pe_ref03_text_1 {p0 : Tru} {x3_1 : (List UInt8)} {x4_1 : (List UInt8)} {q : St} (hI : I_ref03_text_1 p0 p0.inner.length x3_1 x4_1 q) : Res (C Tryd.prog cf (Code.fst (Code.fst (Code.snd (Code.fst (Code.snd (Code.snd (Code.snd (Code.snd ((Tryd.f53.body).getD .skip))))))))) q) fun e q' => e = .exit 2 ∧ Q_ref03_text_1 p0 x3_1 x4_1 q' := by
  simp only [I_ref03_text_1] at hI
  obtain ⟨q1, q2, q3, q4, q5⟩ := hI
  simp only [Code.fst, Code.snd, Tryd.f53, Option.getD_some]
  simp -implicitDefEqProofs [-getElem?_pos, -Int.ofNat_lt, -Int.ofNat_le, -Int.natCast_eq_zero, -Int.natCast_pos, -List.length_eq_zero_iff, List.getElem?_cons_zero, List.getElem?_cons_succ, List.getElem?_nil, q1, q2, q3, q4, q5]
  refine Res.x ?_
  simp -implicitDefEqProofs [-getElem?_pos, -Int.ofNat_lt, -Int.ofNat_le, -Int.natCast_eq_zero, -Int.natCast_pos, -List.length_eq_zero_iff, List.getElem?_cons_zero, List.getElem?_cons_succ, List.getElem?_nil, and_assoc, Q_ref03_text_1, ownAt, q1, q2, q3, q4, q5]
theorem P_ref03_text_1 {p0 : Tru} {x3_1 : (List UInt8)} {x4_1 : (List UInt8)} {cc : Code} (hcc : cc = .block 2 (.loop (Code.fst (Code.fst (Code.snd (Code.fst (Code.snd (Code.snd (Code.snd (Code.snd ((Tryd.f53.body).getD .skip))))))))))) {s : St} {z : Option (Ex × St)} (hz : C Tryd.prog cf cc s = z) {r : ((List UInt8) × (List UInt8))} (hn : p0.inner.length < 4611686018427387904) (hI : I_ref03_text_1 p0 0 x3_1 x4_1 s) (hB : foldO (fun i a x => B_ref03_text_1 p0 i a.1 a.2 x) 0 (x3_1, x4_1) p0.inner = some r) : Res z (postG (fun a q => Q_ref03_text_1 p0 a.1 a.2 q) r) := by
  subst hcc
  exact fold_sim (I := fun i a q => I_ref03_text_1 p0 i a.1 a.2 q) (Q := (fun a q => Q_ref03_text_1 p0 a.1 a.2 q)) (fun i x a q r hx hi h hB => Pb_ref03_text_1 hx hi hn h hB) (fun a q h => Pe_ref03_text_1 h) hI hz hB
noncomputable def B_ref03_text (p0 : Tru) : Option (List UInt8) :=
  kb (G_strconv_Itoa p0.thr) fun y1 =>
  kb (catK y1 ([32, 111, 102, 32, 40] : List UInt8)) fun S4 =>
  kb (smallK p0.nodes) fun _ =>
  kb (foldO (fun i a x => B_ref03_text_0 p0 i a.1 a.2 x) 0 (S4, ([] : List UInt8)) p0.nodes) fun z12 =>
  kb (smallK p0.inner) fun _ =>
  kb (foldO (fun i a x => B_ref03_text_1 p0 i a.1 a.2 x) 0 (z12.1, z12.2) p0.inner) fun z20 =>
  kb (catK z20.1 ([41] : List UInt8)) fun S22 =>
  some S22
theorem sim_ref03_text {p0 : Tru} {r : (List UInt8)} (hB : B_ref03_text p0 = some r) : R 53 [(.agg [(i64 p0.thr), (.pv (.sl p0.nodes.length (ints p0.nodes))), (.pv (.sl p0.inner.length (encTs p0.inner)))])] [] = some ((.pv (.str r)), [], []) := by
  rw [R_eq _ _ _ fn_ref03_text]
  simp only [Code.fst, Code.snd, Tryd.f53, Option.getD_some]
  generalize hc0 : Code.block 0 _ = cc0
  generalize hc1 : Code.block 2 _ = cc1
  generalize hr1 : Code.region 1 _ _ = rr1
  generalize hr3 : Code.region 3 _ _ = rr3
  generalize hr8 : Code.region 8 _ _ = rr8
  unfold B_ref03_text at hB
  obtain ⟨y1, k2, hB⟩ := kb_inv hB
  replace k2 := run_strconv_Itoa k2
  try simp only [Int.cast_ofNat_Int, Int.natCast_zero, List.length_cons, List.length_nil, List.nil_append, List.cons_append, Nat.zero_add, Nat.reduceAdd, Tru.thr_mk, Tru.nodes_mk, Tru.inner_mk, ints_cons, ints_nil, encTs_cons, encTs_nil, es_str_cons, es_str_nil, es_u64_cons, es_u64_nil, es_u8_cons, es_u8_nil] at k2
  try dsimp only at hB
  obtain ⟨S4, n3, hB⟩ := kb_inv hB
  obtain ⟨n3a, n3b⟩ := catK_inv n3
  try simp only [List.length_cons, List.length_nil, Nat.zero_add, Nat.reduceAdd] at n3a
  try simp only [List.cons_append, List.nil_append] at n3b
  try dsimp only at hB
  subst hr1
  subst hr3
  try simp -implicitDefEqProofs [-getElem?_pos, -Int.ofNat_lt, -Int.ofNat_le, -Int.natCast_eq_zero, -Int.natCast_pos, -List.length_eq_zero_iff, List.getElem?_cons_zero, List.getElem?_cons_succ, List.getElem?_nil, k2, n3a, n3b]
  generalize hz0 : C Tryd.prog cf cc0 _ = z0
  obtain ⟨_, hsm, hB⟩ := kb_inv hB
  obtain ⟨z12, hB1, hB⟩ := kb_inv hB
  have hJ := P_ref03_text_0 (hc0.symm.trans (by kernel_rfl)) hz0 (smallK_inv hsm) (by simp -implicitDefEqProofs [-getElem?_pos, -Int.ofNat_lt, -Int.ofNat_le, -Int.natCast_eq_zero, -Int.natCast_pos, -List.length_eq_zero_iff, List.getElem?_cons_zero, List.getElem?_cons_succ, List.getElem?_nil, and_assoc, I_ref03_text_0, ownAt, k2, n3a, n3b]) hB1
  obtain ⟨e0, s0, rfl, hq⟩ := hJ.open
  clear hB1
  obtain ⟨rfl, hq⟩ := hq
  simp only [Q_ref03_text_0] at hq
  obtain ⟨q12_1, q12_2, ⟨g12_4, q12_3, q12_4⟩⟩ := hq
  subst hr8
  try simp -implicitDefEqProofs [-getElem?_pos, -Int.ofNat_lt, -Int.ofNat_le, -Int.natCast_eq_zero, -Int.natCast_pos, -List.length_eq_zero_iff, List.getElem?_cons_zero, List.getElem?_cons_succ, List.getElem?_nil, q12_1, q12_2, q12_3, q12_4, k2, n3a, n3b]
  generalize hz1 : C Tryd.prog cf cc1 _ = z1
  obtain ⟨_, hsm, hB⟩ := kb_inv hB
  obtain ⟨z20, hB1, hB⟩ := kb_inv hB
  have hJ := P_ref03_text_1 (hc1.symm.trans (by kernel_rfl)) hz1 (smallK_inv hsm) (by simp -implicitDefEqProofs [-getElem?_pos, -Int.ofNat_lt, -Int.ofNat_le, -Int.natCast_eq_zero, -Int.natCast_pos, -List.length_eq_zero_iff, List.getElem?_cons_zero, List.getElem?_cons_succ, List.getElem?_nil, and_assoc, I_ref03_text_1, ownAt, q12_1, q12_2, q12_3, q12_4, k2, n3a, n3b]) hB1
  obtain ⟨e1, s1, rfl, hq⟩ := hJ.open
  clear hB1
  obtain ⟨rfl, hq⟩ := hq
  simp only [Q_ref03_text_1] at hq
  have q20_1 := hq
  obtain ⟨S22, n21, hB⟩ := kb_inv hB
  obtain ⟨n21a, n21b⟩ := catK_inv n21
  try simp only [List.length_cons, List.length_nil, Nat.zero_add, Nat.reduceAdd] at n21a
  try simp only [List.cons_append, List.nil_append] at n21b
  try dsimp only at hB
  obtain rfl := Option.some.inj hB
  simp -implicitDefEqProofs [-getElem?_pos, -Int.ofNat_lt, -Int.ofNat_le, -Int.natCast_eq_zero, -Int.natCast_pos, -List.length_eq_zero_iff, List.getElem?_cons_zero, List.getElem?_cons_succ, List.getElem?_nil, q20_1, k2, n3a, n3b, n21a, n21b]
theorem g_ref03_text {p0 : Tru} {r : (List UInt8)} (hB : B_ref03_text p0 = some r) : G_ref03_text p0 = some r := dec_of (fun a b h => by rcases a with a0_; rcases b with b0_; simp at h; simp [*]) (sim_ref03_text hB)
end Go.Am

/-
How trustquorumref03.Text runs, as a pure function.
-/
namespace Go.Am
open Go Go.Proofs
set_option linter.unusedVariables false
set_option linter.unusedSimpArgs false
set_option maxRecDepth 4000
set_option maxHeartbeats 4000000
noncomputable def B_ref03_Text (p0 : Tru) : Option (List UInt8) :=
  kb (G_ref02_Valid p0) fun y1 =>
  cnd (decide (y1 = 0)) (
    kb (G_ref03_text p0) fun y4 =>
    some y4) (
    some ([63] : List UInt8))
theorem sim_ref03_Text {p0 : Tru} {r : (List UInt8)} (hB : B_ref03_Text p0 = some r) : R 46 [(.agg [(i64 p0.thr), (.pv (.sl p0.nodes.length (ints p0.nodes))), (.pv (.sl p0.inner.length (encTs p0.inner)))])] [] = some ((.pv (.str r)), [], []) := by
  rw [R_eq _ _ _ fn_ref03_Text]
  simp only [Code.fst, Code.snd, Tryd.f46, Option.getD_some]
  unfold B_ref03_Text at hB
  obtain ⟨y1, k2, hB⟩ := kb_inv hB
  replace k2 := run_ref02_Valid k2
  try simp only [Int.cast_ofNat_Int, Int.natCast_zero, List.length_cons, List.length_nil, List.nil_append, List.cons_append, Nat.zero_add, Nat.reduceAdd, Tru.thr_mk, Tru.nodes_mk, Tru.inner_mk, ints_cons, ints_nil, encTs_cons, encTs_nil, es_str_cons, es_str_nil, es_u64_cons, es_u64_nil, es_u8_cons, es_u8_nil] at k2
  try dsimp only at hB
  rcases cnd_inv hB with ⟨c3, hB⟩ | ⟨c3, hB⟩
  · have pc3 := eq_true (of_decide_eq_true c3)
    obtain ⟨y4, k5, hB⟩ := kb_inv hB
    replace k5 := run_ref03_text k5
    try simp only [Int.cast_ofNat_Int, Int.natCast_zero, List.length_cons, List.length_nil, List.nil_append, List.cons_append, Nat.zero_add, Nat.reduceAdd, Tru.thr_mk, Tru.nodes_mk, Tru.inner_mk, ints_cons, ints_nil, encTs_cons, encTs_nil, es_str_cons, es_str_nil, es_u64_cons, es_u64_nil, es_u8_cons, es_u8_nil] at k5
    try dsimp only at hB
    obtain rfl := Option.some.inj hB
    simp -implicitDefEqProofs [-getElem?_pos, -Int.ofNat_lt, -Int.ofNat_le, -Int.natCast_eq_zero, -Int.natCast_pos, -List.length_eq_zero_iff, List.getElem?_cons_zero, List.getElem?_cons_succ, List.getElem?_nil, k2, c3, pc3, k5]
  · have pc3 := eq_false (of_decide_eq_false c3)
    obtain rfl := Option.some.inj hB
    simp -implicitDefEqProofs [-getElem?_pos, -Int.ofNat_lt, -Int.ofNat_le, -Int.natCast_eq_zero, -Int.natCast_pos, -List.length_eq_zero_iff, List.getElem?_cons_zero, List.getElem?_cons_succ, List.getElem?_nil, k2, c3, pc3]
theorem g_ref03_Text {p0 : Tru} {r : (List UInt8)} (hB : B_ref03_Text p0 = some r) : G_ref03_Text p0 = some r := dec_of (fun a b h => by rcases a with a0_; rcases b with b0_; simp at h; simp [*]) (sim_ref03_Text hB)
end Go.Am

/-
How trustquorumref07.Hash runs, as a pure function.
-/
namespace Go.Am
open Go Go.Proofs
set_option linter.unusedVariables false
set_option linter.unusedSimpArgs false
set_option maxRecDepth 4000
set_option maxHeartbeats 4000000
noncomputable def B_ref07_Hash_0 (p0 : (List UInt8)) (x3_0 : Int) (x4_0 : Int) : Option (Stp (Int × Int) Unit) :=
  cnd (decide (x4_0 < (p0.length : Int))) (
    kb (getI p0 x4_0) fun x2 =>
    some (.go ((mulK .u64 (xorK .u64 x3_0 (IntKind.wrap .u64 (x2.toNat : Int))) 1099511628211), (add64 x4_0 1)))) (
    some (.ex 0 (x3_0, x4_0)))
def I_ref07_Hash_0 (p0 : (List UInt8)) (x3_0 : Int) (x4_0 : Int) (q : St) : Prop := q (.t 0) = (.pv (.str p0)) ∧ q (.t 3) = (.pv (.int .u64 x3_0)) ∧ q (.t 4) = (i64 x4_0)
def Q_ref07_Hash_0 (p0 : (List UInt8)) (x3_0 : Int) (x4_0 : Int) (q : St) : Prop := q (.t 3) = (.pv (.int .u64 x3_0))
theorem Pb_ref07_Hash_0 {p0 : (List UInt8)} {x3_0 : Int} {x4_0 : Int} {q : St} {r : (Stp (Int × Int) Unit)} (hI : I_ref07_Hash_0 p0 x3_0 x4_0 q) (hB : B_ref07_Hash_0 p0 x3_0 x4_0 = some r) : Res (C Tryd.prog cf (Code.fst (Code.fst (Code.snd (Code.fst (Code.snd (Code.snd ((Tryd.f45.body).getD .skip))))))) q) (postB 0 (fun a q => I_ref07_Hash_0 p0 a.1 a.2 q) (fun a q => Q_ref07_Hash_0 p0 a.1 a.2 q) (fun _ _ => False) r) := by
  simp only [I_ref07_Hash_0] at hI
  obtain ⟨q1, q2, q3⟩ := hI
  simp only [Code.fst, Code.snd, Tryd.f45, Option.getD_some]
  generalize hr3 : Code.region 3 _ _ = rr3
  generalize hr5 : Code.region 5 _ _ = rr5
  unfold B_ref07_Hash_0 at hB
  rcases cnd_inv hB with ⟨c1, hB⟩ | ⟨c1, hB⟩
  · have pc1 := eq_true (of_decide_eq_true c1)
    have nc1 := c1
    try simp only [List.length_nil, List.length_cons, Int.cast_ofNat_Int, Int.natCast_zero, Nat.zero_add, Nat.reduceAdd, Int.reduceLT, Int.reduceLE, Int.reduceEq, eq_self, decide_true, decide_false, Bool.true_eq_false, Bool.false_eq_true] at nc1
    all_goals
      obtain ⟨x2, h3, hB⟩ := kb_inv hB
      obtain ⟨h3a, h3b, h3c, h3d⟩ := getI_inv h3
      try dsimp only at hB
      obtain rfl := Option.some.inj hB
      subst hr3
      subst hr5
      try simp -implicitDefEqProofs [-getElem?_pos, -Int.ofNat_lt, -Int.ofNat_le, -Int.natCast_eq_zero, -Int.natCast_pos, -List.length_eq_zero_iff, List.getElem?_cons_zero, List.getElem?_cons_succ, List.getElem?_nil, q1, q2, q3, c1, pc1, nc1, h3a, h3b, h3c]
      refine Res.bgo ?_
      simp -implicitDefEqProofs [-getElem?_pos, -Int.ofNat_lt, -Int.ofNat_le, -Int.natCast_eq_zero, -Int.natCast_pos, -List.length_eq_zero_iff, List.getElem?_cons_zero, List.getElem?_cons_succ, List.getElem?_nil, and_assoc, I_ref07_Hash_0, ownAt, q1, q2, q3, c1, pc1, nc1, h3a, h3b, h3c]
  · have pc1 := eq_false (of_decide_eq_false c1)
    have nc1 := c1
    try simp only [List.length_nil, List.length_cons, Int.cast_ofNat_Int, Int.natCast_zero, Nat.zero_add, Nat.reduceAdd, Int.reduceLT, Int.reduceLE, Int.reduceEq, eq_self, decide_true, decide_false, Bool.true_eq_false, Bool.false_eq_true] at nc1
    all_goals
      obtain rfl := Option.some.inj hB
      subst hr3
      try simp -implicitDefEqProofs [-getElem?_pos, -Int.ofNat_lt, -Int.ofNat_le, -Int.natCast_eq_zero, -Int.natCast_pos, -List.length_eq_zero_iff, List.getElem?_cons_zero, List.getElem?_cons_succ, List.getElem?_nil, q1, q2, q3, c1, pc1, nc1]
      refine Res.bex ?_
      simp -implicitDefEqProofs [-getElem?_pos, -Int.ofNat_lt, -Int.ofNat_le, -Int.natCast_eq_zero, -Int.natCast_pos, -List.length_eq_zero_iff, List.getElem?_cons_zero, List.getElem?_cons_succ, List.getElem?_nil, and_assoc, Q_ref07_Hash_0, ownAt, q1, q2, q3, c1, pc1, nc1]
theorem P_ref07_Hash_0 {p0 : (List UInt8)} {x3_0 : Int} {x4_0 : Int} {cc : Code} (hcc : cc = .block 0 (.loop (Code.fst (Code.fst (Code.snd (Code.fst (Code.snd (Code.snd ((Tryd.f45.body).getD .skip))))))))) {s : St} {z : Option (Ex × St)} (hz : C Tryd.prog cf cc s = z) {r : (Stp (Int × Int) Unit)} (hI : I_ref07_Hash_0 p0 x3_0 x4_0 s) (hB : iterW (fun a => B_ref07_Hash_0 p0 a.1 a.2) (x3_0, x4_0) = some r) : Res z (postS (fun a q => Q_ref07_Hash_0 p0 a.1 a.2 q) (fun _ _ => False) r) := by
  subst hcc
  exact while_sim (I := fun a q => I_ref07_Hash_0 p0 a.1 a.2 q) (Q := (fun a q => Q_ref07_Hash_0 p0 a.1 a.2 q)) (QR := (fun _ _ => False)) (fun a q r h hB => Pb_ref07_Hash_0 h hB) hI hz hB
noncomputable def B_ref07_Hash (p0 : (List UInt8)) : Option Int :=
  kb (iterW (fun a => B_ref07_Hash_0 p0 a.1 a.2) (14695981039346656037, 0)) fun o => stpK o (fun z4 =>
    some z4.1) (fun z4r =>
    none)
theorem sim_ref07_Hash {p0 : (List UInt8)} {r : Int} (hB : B_ref07_Hash p0 = some r) : R 45 [(.pv (.str p0))] [] = some ((.pv (.int .u64 r)), [], []) := by
  rw [R_eq _ _ _ fn_ref07_Hash]
  simp only [Code.fst, Code.snd, Tryd.f45, Option.getD_some]
  generalize hc0 : Code.block 0 _ = cc0
  unfold B_ref07_Hash at hB
  try simp -implicitDefEqProofs [-getElem?_pos, -Int.ofNat_lt, -Int.ofNat_le, -Int.natCast_eq_zero, -Int.natCast_pos, -List.length_eq_zero_iff, List.getElem?_cons_zero, List.getElem?_cons_succ, List.getElem?_nil]
  generalize hz0 : C Tryd.prog cf cc0 _ = z0
  obtain ⟨o, hB1, hB⟩ := kb_inv hB
  have hJ := P_ref07_Hash_0 (hc0.symm.trans (by kernel_rfl)) hz0 (by simp -implicitDefEqProofs [-getElem?_pos, -Int.ofNat_lt, -Int.ofNat_le, -Int.natCast_eq_zero, -Int.natCast_pos, -List.length_eq_zero_iff, List.getElem?_cons_zero, List.getElem?_cons_succ, List.getElem?_nil, and_assoc, I_ref07_Hash_0, ownAt]) hB1
  obtain ⟨e0, s0, rfl, hq⟩ := hJ.open
  clear hB1
  rcases o with z4 | ⟨_, _⟩ | z4r
  · simp only [stpK_go] at hB
    obtain ⟨rfl, hq⟩ := hq
    simp only [Q_ref07_Hash_0] at hq
    have q4_1 := hq
    obtain rfl := Option.some.inj hB
    simp -implicitDefEqProofs [-getElem?_pos, -Int.ofNat_lt, -Int.ofNat_le, -Int.natCast_eq_zero, -Int.natCast_pos, -List.length_eq_zero_iff, List.getElem?_cons_zero, List.getElem?_cons_succ, List.getElem?_nil, q4_1]
  · exact hq.elim
  · cases hB
theorem g_ref07_Hash {p0 : (List UInt8)} {r : Int} (hB : B_ref07_Hash p0 = some r) : G_ref07_Hash p0 = some r := dec_of (fun a b h => by rcases a with a0_; rcases b with b0_; simp at h; simp [*]) (sim_ref07_Hash hB)
end Go.Am

/-
How trustquorumref07.Tag runs, as a pure function.
-/
namespace Go.Am
open Go Go.Proofs
set_option linter.unusedVariables false
set_option linter.unusedSimpArgs false
set_option maxRecDepth 4000
set_option maxHeartbeats 4000000
noncomputable def B_ref07_Tag_0 (p0 : Int) (p1 : (List UInt8)) (x5_0 : (List Int)) (x6_0 : Int) : Option (Stp ((List Int) × Int) Unit) :=
  cnd (decide (0 ≤ x6_0)) (
    kb (mustK (¬ x6_0 < 0)) fun _ =>
    kb (appK x5_0 ([(IntKind.wrap .u8 (shrK .u64 p0 x6_0))] : List Int) 1) fun L3 =>
    some (.go (L3, (sub64 x6_0 8)))) (
    some (.ex 0 (x5_0, x6_0)))
def I_ref07_Tag_0 (p0 : Int) (p1 : (List UInt8)) (x5_0 : (List Int)) (x6_0 : Int) (q : St) : Prop := q (.t 0) = (.pv (.int .u64 p0)) ∧ q (.t 1) = (.pv (.str p1)) ∧ (∃ v : AV, q (.t 5) = v ∧ (ownAt q v (.site 5 6 0) false 1 x5_0.length (es_u8 x5_0) ∨ (v = .nilsl ∧ x5_0 = []))) ∧ q (.t 6) = (i64 x6_0)
def Q_ref07_Tag_0 (p0 : Int) (p1 : (List UInt8)) (x5_0 : (List Int)) (x6_0 : Int) (q : St) : Prop := q (.t 1) = (.pv (.str p1)) ∧ (∃ v : AV, q (.t 5) = v ∧ (ownAt q v (.site 5 6 0) false 1 x5_0.length (es_u8 x5_0) ∨ (v = .nilsl ∧ x5_0 = [])))
theorem Pb_ref07_Tag_0 {p0 : Int} {p1 : (List UInt8)} {x5_0 : (List Int)} {x6_0 : Int} {q : St} {r : (Stp ((List Int) × Int) Unit)} (hI : I_ref07_Tag_0 p0 p1 x5_0 x6_0 q) (hB : B_ref07_Tag_0 p0 p1 x5_0 x6_0 = some r) : Res (C Tryd.prog cf (Code.fst (Code.fst (Code.snd (Code.fst (Code.snd (Code.snd ((Tryd.f34.body).getD .skip))))))) q) (postB 0 (fun a q => I_ref07_Tag_0 p0 p1 a.1 a.2 q) (fun a q => Q_ref07_Tag_0 p0 p1 a.1 a.2 q) (fun _ _ => False) r) := by
  simp only [I_ref07_Tag_0] at hI
  obtain ⟨q1, q2, ⟨v3, q3, a3⟩, q4⟩ := hI
  simp only [Code.fst, Code.snd, Tryd.f34, Option.getD_some]
  generalize hr5 : Code.region 5 _ _ = rr5
  unfold B_ref07_Tag_0 at hB
  rcases a3 with ⟨ga3, rfl, oa3⟩ | ⟨rfl, ea3⟩
  · rcases cnd_inv hB with ⟨c1, hB⟩ | ⟨c1, hB⟩
    · have pc1 := eq_true (of_decide_eq_true c1)
      obtain ⟨_, n2, hB⟩ := kb_inv hB
      have n2a := mustK_inv n2
      try dsimp only at hB
      obtain ⟨L3, a4, hB⟩ := kb_inv hB
      obtain ⟨a4z, a4a, a4y⟩ := appK_inv a4
      try (simp only [List.nil_append] at a4z; subst a4z)
      have a4b := appK_len a4
      have a4c := es_u8_appK a4
      have a4d := appK_le a4
      simp only [Nat.mul_one] at a4d
      try simp only [Int.cast_ofNat_Int, Int.natCast_zero, List.length_cons, List.length_nil, List.nil_append, List.cons_append, Nat.zero_add, Nat.reduceAdd, Tru.thr_mk, Tru.nodes_mk, Tru.inner_mk, ints_cons, ints_nil, encTs_cons, encTs_nil, es_str_cons, es_str_nil, es_u64_cons, es_u64_nil, es_u8_cons, es_u8_nil] at a4a a4b a4c
      try replace a4b : _ = (1 : Nat) := a4b.symm
      try dsimp only at hB
      obtain rfl := Option.some.inj hB
      subst hr5
      try simp -implicitDefEqProofs [-getElem?_pos, -Int.ofNat_lt, -Int.ofNat_le, -Int.natCast_eq_zero, -Int.natCast_pos, -List.length_eq_zero_iff, List.getElem?_cons_zero, List.getElem?_cons_succ, List.getElem?_nil, q1, q2, q3, q4, oa3, c1, pc1, n2a, a4a, a4b, a4c, a4d]
      refine Res.bgo ?_
      simp -implicitDefEqProofs [-getElem?_pos, -Int.ofNat_lt, -Int.ofNat_le, -Int.natCast_eq_zero, -Int.natCast_pos, -List.length_eq_zero_iff, List.getElem?_cons_zero, List.getElem?_cons_succ, List.getElem?_nil, and_assoc, I_ref07_Tag_0, ownAt, q1, q2, q3, q4, oa3, c1, pc1, n2a, a4a, a4b, a4c, a4d]
    · have pc1 := eq_false (of_decide_eq_false c1)
      obtain rfl := Option.some.inj hB
      try simp -implicitDefEqProofs [-getElem?_pos, -Int.ofNat_lt, -Int.ofNat_le, -Int.natCast_eq_zero, -Int.natCast_pos, -List.length_eq_zero_iff, List.getElem?_cons_zero, List.getElem?_cons_succ, List.getElem?_nil, q1, q2, q3, q4, oa3, c1, pc1]
      refine Res.bex ?_
      simp -implicitDefEqProofs [-getElem?_pos, -Int.ofNat_lt, -Int.ofNat_le, -Int.natCast_eq_zero, -Int.natCast_pos, -List.length_eq_zero_iff, List.getElem?_cons_zero, List.getElem?_cons_succ, List.getElem?_nil, and_assoc, Q_ref07_Tag_0, ownAt, q1, q2, q3, q4, oa3, c1, pc1]
  · try subst ea3
    rcases cnd_inv hB with ⟨c1, hB⟩ | ⟨c1, hB⟩
    · have pc1 := eq_true (of_decide_eq_true c1)
      obtain ⟨_, n2, hB⟩ := kb_inv hB
      have n2a := mustK_inv n2
      try dsimp only at hB
      obtain ⟨L3, a4, hB⟩ := kb_inv hB
      obtain ⟨a4z, a4a, a4y⟩ := appK_inv a4
      simp only [List.nil_append] at a4z
      subst a4z
      try dsimp only at hB
      obtain rfl := Option.some.inj hB
      subst hr5
      try simp -implicitDefEqProofs [-getElem?_pos, -Int.ofNat_lt, -Int.ofNat_le, -Int.natCast_eq_zero, -Int.natCast_pos, -List.length_eq_zero_iff, List.getElem?_cons_zero, List.getElem?_cons_succ, List.getElem?_nil, q1, q2, q3, q4, c1, pc1, n2a]
      refine Res.bgo ?_
      simp -implicitDefEqProofs [-getElem?_pos, -Int.ofNat_lt, -Int.ofNat_le, -Int.natCast_eq_zero, -Int.natCast_pos, -List.length_eq_zero_iff, List.getElem?_cons_zero, List.getElem?_cons_succ, List.getElem?_nil, and_assoc, I_ref07_Tag_0, ownAt, q1, q2, q3, q4, c1, pc1, n2a]
    · have pc1 := eq_false (of_decide_eq_false c1)
      obtain rfl := Option.some.inj hB
      try simp -implicitDefEqProofs [-getElem?_pos, -Int.ofNat_lt, -Int.ofNat_le, -Int.natCast_eq_zero, -Int.natCast_pos, -List.length_eq_zero_iff, List.getElem?_cons_zero, List.getElem?_cons_succ, List.getElem?_nil, q1, q2, q3, q4, c1, pc1]
      refine Res.bex ?_
      simp -implicitDefEqProofs [-getElem?_pos, -Int.ofNat_lt, -Int.ofNat_le, -Int.natCast_eq_zero, -Int.natCast_pos, -List.length_eq_zero_iff, List.getElem?_cons_zero, List.getElem?_cons_succ, List.getElem?_nil, and_assoc, Q_ref07_Tag_0, ownAt, q1, q2, q3, q4, c1, pc1]
theorem P_ref07_Tag_0 {p0 : Int} {p1 : (List UInt8)} {x5_0 : (List Int)} {x6_0 : Int} {cc : Code} (hcc : cc = .block 0 (.loop (Code.fst (Code.fst (Code.snd (Code.fst (Code.snd (Code.snd ((Tryd.f34.body).getD .skip))))))))) {s : St} {z : Option (Ex × St)} (hz : C Tryd.prog cf cc s = z) {r : (Stp ((List Int) × Int) Unit)} (hI : I_ref07_Tag_0 p0 p1 x5_0 x6_0 s) (hB : iterW (fun a => B_ref07_Tag_0 p0 p1 a.1 a.2) (x5_0, x6_0) = some r) : Res z (postS (fun a q => Q_ref07_Tag_0 p0 p1 a.1 a.2 q) (fun _ _ => False) r) := by
  subst hcc
  exact while_sim (I := fun a q => I_ref07_Tag_0 p0 p1 a.1 a.2 q) (Q := (fun a q => Q_ref07_Tag_0 p0 p1 a.1 a.2 q)) (QR := (fun _ _ => False)) (fun a q r h hB => Pb_ref07_Tag_0 h hB) hI hz hB
noncomputable def B_ref07_Tag (p0 : Int) (p1 : (List UInt8)) : Option Int :=
  kb (iterW (fun a => B_ref07_Tag_0 p0 p1 a.1 a.2) (([] : (List Int)), 56)) fun o => stpK o (fun z5 =>
    kb (toU8K z5.1) fun L6 =>
    kb (catK L6 p1) fun S9 =>
    kb (G_ref07_Hash S9) fun y10 =>
    some y10) (fun z5r =>
    none)
theorem sim_ref07_Tag {p0 : Int} {p1 : (List UInt8)} {r : Int} (hB : B_ref07_Tag p0 p1 = some r) : R 34 [(.pv (.int .u64 p0)), (.pv (.str p1))] [] = some ((.pv (.int .u64 r)), [], []) := by
  rw [R_eq _ _ _ fn_ref07_Tag]
  simp only [Code.fst, Code.snd, Tryd.f34, Option.getD_some]
  generalize hc0 : Code.block 0 _ = cc0
  generalize hr6 : Code.region 6 _ _ = rr6
  unfold B_ref07_Tag at hB
  try simp -implicitDefEqProofs [-getElem?_pos, -Int.ofNat_lt, -Int.ofNat_le, -Int.natCast_eq_zero, -Int.natCast_pos, -List.length_eq_zero_iff, List.getElem?_cons_zero, List.getElem?_cons_succ, List.getElem?_nil]
  generalize hz0 : C Tryd.prog cf cc0 _ = z0
  obtain ⟨o, hB1, hB⟩ := kb_inv hB
  have hJ := P_ref07_Tag_0 (hc0.symm.trans (by kernel_rfl)) hz0 (by simp -implicitDefEqProofs [-getElem?_pos, -Int.ofNat_lt, -Int.ofNat_le, -Int.natCast_eq_zero, -Int.natCast_pos, -List.length_eq_zero_iff, List.getElem?_cons_zero, List.getElem?_cons_succ, List.getElem?_nil, and_assoc, I_ref07_Tag_0, ownAt]) hB1
  obtain ⟨e0, s0, rfl, hq⟩ := hJ.open
  clear hB1
  rcases o with z5 | ⟨_, _⟩ | z5r
  · simp only [stpK_go] at hB
    obtain ⟨rfl, hq⟩ := hq
    obtain ⟨u0_0, u0_1⟩ := z5
    dsimp only at hB hq
    simp only [Q_ref07_Tag_0] at hq
    obtain ⟨q5_1, ⟨v5_2, q5_2, a5_2⟩⟩ := hq
    rcases a5_2 with ⟨ga5_2, rfl, oa5_2⟩ | ⟨rfl, ea5_2⟩
    · obtain ⟨L6, u7, hB⟩ := kb_inv hB
      have u7a := toU8K_inv u7
      try simp only [Int.cast_ofNat_Int, Int.natCast_zero, List.length_cons, List.length_nil, List.nil_append, List.cons_append, Nat.zero_add, Nat.reduceAdd, Tru.thr_mk, Tru.nodes_mk, Tru.inner_mk, ints_cons, ints_nil, encTs_cons, encTs_nil, es_str_cons, es_str_nil, es_u64_cons, es_u64_nil, es_u8_cons, es_u8_nil] at u7a
      try dsimp only at hB
      obtain ⟨S9, n8, hB⟩ := kb_inv hB
      obtain ⟨n8a, n8b⟩ := catK_inv n8
      try dsimp only at hB
      obtain ⟨y10, k11, hB⟩ := kb_inv hB
      replace k11 := run_ref07_Hash k11
      try simp only [Int.cast_ofNat_Int, Int.natCast_zero, List.length_cons, List.length_nil, List.nil_append, List.cons_append, Nat.zero_add, Nat.reduceAdd, Tru.thr_mk, Tru.nodes_mk, Tru.inner_mk, ints_cons, ints_nil, encTs_cons, encTs_nil, es_str_cons, es_str_nil, es_u64_cons, es_u64_nil, es_u8_cons, es_u8_nil] at k11
      try dsimp only at hB
      obtain rfl := Option.some.inj hB
      subst hr6
      simp -implicitDefEqProofs [-getElem?_pos, -Int.ofNat_lt, -Int.ofNat_le, -Int.natCast_eq_zero, -Int.natCast_pos, -List.length_eq_zero_iff, List.getElem?_cons_zero, List.getElem?_cons_succ, List.getElem?_nil, q5_1, q5_2, oa5_2, u7a, n8a, n8b, k11]
    · try subst ea5_2
      obtain ⟨L6, u7, hB⟩ := kb_inv hB
      have u7a := toU8K_inv u7
      try simp only [Int.cast_ofNat_Int, Int.natCast_zero, List.length_cons, List.length_nil, List.nil_append, List.cons_append, Nat.zero_add, Nat.reduceAdd, Tru.thr_mk, Tru.nodes_mk, Tru.inner_mk, ints_cons, ints_nil, encTs_cons, encTs_nil, es_str_cons, es_str_nil, es_u64_cons, es_u64_nil, es_u8_cons, es_u8_nil] at u7a
      try dsimp only at hB
      obtain ⟨S9, n8, hB⟩ := kb_inv hB
      obtain ⟨n8a, n8b⟩ := catK_inv n8
      try dsimp only at hB
      obtain ⟨y10, k11, hB⟩ := kb_inv hB
      replace k11 := run_ref07_Hash k11
      try simp only [Int.cast_ofNat_Int, Int.natCast_zero, List.length_cons, List.length_nil, List.nil_append, List.cons_append, Nat.zero_add, Nat.reduceAdd, Tru.thr_mk, Tru.nodes_mk, Tru.inner_mk, ints_cons, ints_nil, encTs_cons, encTs_nil, es_str_cons, es_str_nil, es_u64_cons, es_u64_nil, es_u8_cons, es_u8_nil] at k11
      try dsimp only at hB
      obtain rfl := Option.some.inj hB
      subst hr6
      simp -implicitDefEqProofs [-getElem?_pos, -Int.ofNat_lt, -Int.ofNat_le, -Int.natCast_eq_zero, -Int.natCast_pos, -List.length_eq_zero_iff, List.getElem?_cons_zero, List.getElem?_cons_succ, List.getElem?_nil, q5_1, q5_2, u7a, n8a, n8b, k11]
  · exact hq.elim
  · cases hB
theorem g_ref07_Tag {p0 : Int} {p1 : (List UInt8)} {r : Int} (hB : B_ref07_Tag p0 p1 = some r) : G_ref07_Tag p0 p1 = some r := dec_of (fun a b h => by rcases a with a0_; rcases b with b0_; simp at h; simp [*]) (sim_ref07_Tag hB)
end Go.Am

/-
Plain laws of chapters 02, 03 and 07: what a trust's text is, whether a trust is valid, hashes.
-/
namespace Go.Am
open Go
set_option linter.unusedVariables false
set_option linter.unusedSimpArgs false

/-! ### validity, as the program has it -/
theorem s_threshold_Depth : ∀ x : Tru, x.Fine → G_threshold_Depth x = some (dep x : Int) := by
  refine tru_ind fun t n i ih h => g_threshold_Depth ?_
  have hl := Fine_len h
  simp only [Tru.nodes_mk, Tru.inner_mk] at hl
  unfold B_threshold_Depth
  simp only [Tru.inner_mk]
  rw [smallK_some (by omega), kb_some]
  have h1 := foldO_spec (f := fun j a x => B_threshold_Depth_0 (.mk t n i) j a x) (g := fun (a : Int) x => if a < (dep x : Int) then (dep x : Int) else a) (fun j a => True) i 0 0 (by
    intro j a x hj hp
    have hx : x ∈ i := List.mem_of_getElem? hj
    refine ⟨?_, trivial⟩
    simp only [B_threshold_Depth_0, ih x hx (Fine_inner h hx), kb_some]) trivial
  rw [h1.1, kb_some]
  have := foldl_deps i 0
  simp only [Int.natCast_zero, Nat.zero_max] at this
  rw [this]
  have hd := dep_le (.mk t n i)
  have hs := h.1
  simp only [dep] at hd ⊢
  rw [add64_of (by omega) (by omega)]
  simp
theorem s_threshold_Size : ∀ x : Tru, x.Fine → G_threshold_Size x = some (x.size : Int) := by
  refine tru_ind fun t n i ih h => g_threshold_Size ?_
  have hl := Fine_len h
  have hs := h.1
  simp only [Tru.nodes_mk, Tru.inner_mk] at hl
  simp only [Tru.size] at hs
  unfold B_threshold_Size
  simp only [Tru.inner_mk, Tru.nodes_mk]
  rw [smallK_some (by omega), kb_some]
  have h1 := foldO_spec (f := fun j a x => B_threshold_Size_0 (.mk t n i) j a x) (g := fun (a : Int) x => a + (x.size : Int)) (fun j a => a = n.length + i.length + (sizes (i.take j) : Int)) i 0 (n.length + i.length) (by
    intro j a x hj hp
    have hx : x ∈ i := List.mem_of_getElem? hj
    have hb := sizes_take i (j + 1)
    have e : sizes (i.take (j + 1)) = sizes (i.take j) + x.size := by rw [List.take_add_one, hj, sizes_app]; simp [sizes]
    simp only [Nat.zero_add] at hp ⊢
    simp only [B_threshold_Size_0, ih x hx (Fine_inner h hx), kb_some]
    have := sizes_take i j
    exact ⟨by rw [add64_of (by omega) (by omega)], by omega⟩) (by simp [sizes])
  rw [add64_of (by omega) (by omega), h1.1, kb_some, foldl_sizes]
  simp only [Tru.size]
  congr 1
  omega

/-! ### texts -/
mutual
def txtT : Tru → List UInt8
  | .mk t n i => itoa2 t.toNat ++ ([32, 111, 102, 32, 40] ++ (joinL (n.map (fun k => itoa2 k.toNat) ++ txtTs i) [44, 32] ++ [41]))
def txtTs : List Tru → List (List UInt8)
  | [] => []
  | x :: r => txtT x :: txtTs r
end
theorem txtTs_eq : ∀ l, txtTs l = l.map txtT
  | [] => rfl
  | x :: r => by simp only [txtTs, txtTs_eq r, List.map_cons]
mutual
/-- the numbers are below 100 -/
def dec2 : Tru → Prop
  | .mk t n i => (0 ≤ t ∧ t < 100) ∧ ((∀ k ∈ n, 0 ≤ k ∧ k < 100) ∧ dec2s i)
def dec2s : List Tru → Prop
  | [] => True
  | x :: r => dec2 x ∧ dec2s r
end
theorem dec2s_iff : ∀ {l : List Tru}, dec2s l ↔ ∀ x ∈ l, dec2 x
  | [] => by simp [dec2s]
  | y :: r => by simp [dec2s, dec2s_iff (l := r)]
theorem itoa2_len (n : Nat) : (itoa2 n).length ≤ 2 := by unfold itoa2; split <;> simp
def lenS : List (List UInt8) → Nat
  | [] => 0
  | w :: r => w.length + 2 + lenS r
theorem lenS_app : ∀ a b, lenS (a ++ b) = lenS a + lenS b
  | [], b => by simp [lenS]
  | w :: a, b => by simp only [List.cons_append, lenS, lenS_app a b]; omega
theorem joinL_len : ∀ (ws : List (List UInt8)), (joinL ws [44, 32]).length ≤ lenS ws
  | [] => by simp [joinL]
  | [x] => by simp [joinL, lenS]
  | x :: y :: r => by
    have h2 := joinL_len (y :: r)
    simp only [joinL, lenS, List.length_append, List.length_cons, List.length_nil] at h2 ⊢
    omega
theorem lenS_nodes : ∀ n : List Int, lenS (n.map fun k => itoa2 k.toNat) ≤ 4 * n.length
  | [] => by simp [lenS]
  | k :: r => by
    have h1 := itoa2_len k.toNat
    have h2 := lenS_nodes r
    simp only [List.map_cons, lenS, List.length_cons]; omega
mutual
theorem txt_len : ∀ x : Tru, (txtT x).length ≤ 10 * x.size + 8
  | .mk t n i => by
    have h1 := itoa2_len t.toNat
    have h2 := lenS_nodes n
    have h3 := txts_len i
    have h4 := joinL_len (n.map (fun k => itoa2 k.toNat) ++ txtTs i)
    rw [lenS_app] at h4
    simp only [txtT, Tru.size, List.length_append, List.length_cons, List.length_nil]
    omega
theorem txts_len : ∀ l : List Tru, lenS (txtTs l) ≤ 10 * (l.length + sizes l)
  | [] => by simp [txtTs, lenS]
  | x :: r => by
    have h1 := txt_len x
    have h2 := txts_len r
    simp only [txtTs, lenS, sizes, List.length_cons]; omega
end
theorem joinL_app (sep : List UInt8) (w : List UInt8) : ∀ ws : List (List UInt8), joinL (ws ++ [w]) sep = joinL ws sep ++ ((if ws = [] then [] else sep) ++ w)
  | [] => by simp [joinL]
  | [x] => by simp [joinL]
  | x :: y :: r => by
    have h := joinL_app sep w (y :: r)
    simp only [List.cons_append, joinL] at h ⊢
    rw [h]
    simp
theorem s_Itoa {k : Int} (h0 : 0 ≤ k) (h1 : k < 100) : G_strconv_Itoa k = some (itoa2 k.toNat) := by
  refine g_strconv_Itoa ?_
  unfold B_strconv_Itoa itoaK
  rw [if_pos ⟨h0, h1⟩]
theorem s_Join {ws : List (List UInt8)} (h1 : ws.length ≤ 1000000000000) (h2 : lenS ws ≤ 1000000000000) : G_strings_Join ws [44, 32] = some (joinL ws [44, 32]) := by
  refine g_strings_Join ?_
  unfold B_strings_Join joinK
  have := joinL_len ws
  rw [if_pos ⟨by omega, by omega⟩]
theorem map_take_succ {X Y : Type} (f : X → Y) {l : List X} {j : Nat} {x : X} (h : l[j]? = some x) : (l.take (j + 1)).map f = (l.take j).map f ++ [f x] := by
  rw [List.take_add_one, h]; simp
theorem s_write : ∀ x : Tru, dec2 x → x.Fine → G_notation_write x = some (txtT x) := by
  refine tru_ind fun t n i ih hd h => g_notation_write ?_
  have hl := Fine_len h
  have hs := h.1
  simp only [Tru.nodes_mk, Tru.inner_mk] at hl
  simp only [Tru.size] at hs
  obtain ⟨⟨ht0, ht1⟩, hn, hi⟩ := hd
  rw [dec2s_iff] at hi
  unfold B_notation_write
  simp only [Tru.inner_mk, Tru.nodes_mk, Tru.thr_mk]
  rw [smallK_some (by omega), kb_some]
  obtain ⟨z, e1, p1⟩ := foldO_inv (f := fun j a x => B_notation_write_0 (.mk t n i) j a x) (fun j a => a = (n.take j).map fun k => itoa2 k.toNat) n 0 [] (by
    intro j a x hj hp
    have hjl := (List.getElem?_eq_some_iff.1 hj).1
    have hx := hn x (List.mem_of_getElem? hj)
    simp only [Nat.zero_add] at hp ⊢
    refine ⟨a ++ [itoa2 x.toNat], ?_, ?_⟩
    · unfold B_notation_write_0
      rw [s_Itoa hx.1 hx.2, kb_some, appK_some (by rw [hp]; simp; omega), kb_some]
    · rw [map_take_succ _ hj, hp]) (by simp)
  rw [e1, kb_some, smallK_some (by omega), kb_some]
  simp only [Nat.zero_add, List.take_length] at p1
  subst p1
  obtain ⟨z, e2, p2⟩ := foldO_inv (f := fun j a x => B_notation_write_1 (.mk t n i) j a x) (fun j a => a = (n.map fun k => itoa2 k.toNat) ++ (i.take j).map txtT) i 0 (n.map fun k => itoa2 k.toNat) (by
    intro j a x hj hp
    have hjl := (List.getElem?_eq_some_iff.1 hj).1
    have hx := List.mem_of_getElem? hj
    simp only [Nat.zero_add] at hp ⊢
    refine ⟨a ++ [txtT x], ?_, ?_⟩
    · unfold B_notation_write_1
      rw [ih x hx (hi x hx) (Fine_inner h hx), kb_some, appK_some (by rw [hp]; simp; omega), kb_some]
    · rw [map_take_succ _ hj, hp, List.append_assoc]) (by simp)
  rw [e2, kb_some, s_Itoa ht0 ht1, kb_some]
  simp only [Nat.zero_add, List.take_length] at p2
  have hw : z = n.map (fun k => itoa2 k.toNat) ++ txtTs i := by rw [p2, txtTs_eq]
  have b1 := lenS_nodes n
  have b2 := txts_len i
  have b3 : lenS z = lenS (n.map fun k => itoa2 k.toNat) + lenS (txtTs i) := by rw [hw, lenS_app]
  have b4 : z.length = n.length + i.length := by rw [p2]; simp
  have b5 := joinL_len z
  have b6 := itoa2_len t.toNat
  rw [catK_some (by simp; omega), kb_some, s_Join (by omega) (by omega), kb_some, catK_some (by simp; omega), kb_some, catK_some (by simp; omega), kb_some]
  simp only [txtT, hw, List.append_assoc]
theorem s_ref03_text : ∀ x : Tru, dec2 x → x.Fine → G_ref03_text x = some (txtT x) := by
  refine tru_ind fun t n i ih hd h => g_ref03_text ?_
  have hl := Fine_len h
  have hs := h.1
  simp only [Tru.nodes_mk, Tru.inner_mk] at hl
  simp only [Tru.size] at hs
  obtain ⟨⟨ht0, ht1⟩, hn, hi⟩ := hd
  rw [dec2s_iff] at hi
  have b6 := itoa2_len t.toNat
  unfold B_ref03_text
  simp only [Tru.inner_mk, Tru.nodes_mk, Tru.thr_mk]
  rw [s_Itoa ht0 ht1, kb_some, catK_some (by simp; omega), kb_some, smallK_some (by omega), kb_some]
  generalize hpre : itoa2 t.toNat ++ [32, 111, 102, 32, 40] = pre
  have bp : pre.length ≤ 7 := by rw [← hpre]; simp; omega
  obtain ⟨⟨z1, z2⟩, e1, p1⟩ := foldO_inv (f := fun j (a : List UInt8 × List UInt8) x => B_ref03_text_0 (.mk t n i) j a.1 a.2 x) (fun j a => (a.1 = pre ++ joinL ((n.take j).map fun k => itoa2 k.toNat) [44, 32]) ∧ a.2 = if (n.take j).map (fun k => itoa2 k.toNat) = [] then [] else [44, 32]) n 0 (pre, []) (by
    rintro j ⟨a, b⟩ x hj ⟨hp, hq⟩
    have hjl := (List.getElem?_eq_some_iff.1 hj).1
    have hx := hn x (List.mem_of_getElem? hj)
    simp only [Nat.zero_add] at hp hq ⊢
    have c1 := joinL_len ((n.take j).map fun k => itoa2 k.toNat)
    have c2 := lenS_nodes (n.take j)
    have c3 : (n.take j).length ≤ n.length := by simp; omega
    have c4 := itoa2_len x.toNat
    have c5 : b.length ≤ 2 := by rw [hq]; split <;> simp
    have c6 : a.length = pre.length + (joinL ((n.take j).map fun k => itoa2 k.toNat) [44, 32]).length := by rw [hp, List.length_append]
    refine ⟨(a ++ b ++ itoa2 x.toNat, [44, 32]), ?_, ?_, ?_⟩
    · unfold B_ref03_text_0
      rw [catK_some (by omega), kb_some, s_Itoa hx.1 hx.2, kb_some, catK_some (by simp; omega), kb_some]
    · rw [map_take_succ _ hj, joinL_app, hp, hq]
      simp only [List.append_assoc]
    · rw [map_take_succ _ hj]; simp) (by simp [joinL])
  rw [e1, kb_some, smallK_some (by omega), kb_some]
  simp only [Nat.zero_add, List.take_length] at p1
  obtain ⟨⟨w1, w2⟩, e2, p2⟩ := foldO_inv (f := fun j (a : List UInt8 × List UInt8) x => B_ref03_text_1 (.mk t n i) j a.1 a.2 x) (fun j a => (a.1 = pre ++ joinL ((n.map fun k => itoa2 k.toNat) ++ (i.take j).map txtT) [44, 32]) ∧ a.2 = if (n.map fun k => itoa2 k.toNat) ++ (i.take j).map txtT = [] then [] else [44, 32]) i 0 (z1, z2) (by
    rintro j ⟨a, b⟩ x hj ⟨hp, hq⟩
    have hjl := (List.getElem?_eq_some_iff.1 hj).1
    have hx := List.mem_of_getElem? hj
    simp only [Nat.zero_add] at hp hq ⊢
    have c1 := joinL_len ((n.map fun k => itoa2 k.toNat) ++ (i.take j).map txtT)
    have c2 := lenS_nodes n
    have c3 := txts_len (i.take j)
    rw [txtTs_eq] at c3
    have c7 := sizes_take i j
    have c8 : (i.take j).length ≤ i.length := by simp; omega
    rw [lenS_app] at c1
    have c4 := txt_len x
    have c9 := sizes_mem hx
    have c5 : b.length ≤ 2 := by rw [hq]; split <;> simp
    have c6 : a.length = pre.length + (joinL ((n.map fun k => itoa2 k.toNat) ++ (i.take j).map txtT) [44, 32]).length := by rw [hp, List.length_append]
    refine ⟨(a ++ b ++ txtT x, [44, 32]), ?_, ?_, ?_⟩
    · unfold B_ref03_text_1
      rw [catK_some (by omega), kb_some, ih x hx (hi x hx) (Fine_inner h hx), kb_some, catK_some (by simp; omega), kb_some]
    · rw [map_take_succ _ hj, ← List.append_assoc, joinL_app, hp, hq]
      simp only [List.append_assoc]
    · rw [map_take_succ _ hj]; simp) (by simpa using p1)
  rw [e2, kb_some]
  simp only [Nat.zero_add, List.take_length] at p2
  obtain ⟨p3, p4⟩ := p2
  have c1 := joinL_len ((n.map fun k => itoa2 k.toNat) ++ i.map txtT)
  have c2 := lenS_nodes n
  have c3 := txts_len i
  rw [txtTs_eq] at c3
  rw [lenS_app] at c1
  have c6 : w1.length = pre.length + (joinL ((n.map fun k => itoa2 k.toNat) ++ i.map txtT) [44, 32]).length := by rw [p3, List.length_append]
  rw [catK_some (by simp; omega), kb_some, p3, ← hpre]
  simp only [txtT, txtTs_eq, List.append_assoc]
end Go.Am

/-
Plain laws of chapter 02 and 07: the program's validity is the reference's; hashes and tags.
-/
namespace Go.Am
open Go
set_option linter.unusedVariables false
set_option linter.unusedSimpArgs false

theorem s_node (k : Int) : G_threshold_node k = some (!badN k) := by
  refine g_threshold_node ?_
  unfold B_threshold_node badN
  by_cases c : 0 ≤ k
  · have : ¬ k < 0 := by omega
    simp only [c, this, decide_true, decide_false, cnd_true, Bool.false_or]
    congr 1
    rw [← decide_not]
    congr 1
    simp
  · have : k < 0 := by omega
    simp [c, this, cnd_false]
theorem s_bad (k : Int) : G_threshold_level_fn1 k = some (badN k) := by
  refine g_threshold_level_fn1 ?_
  unfold B_threshold_level_fn1
  rw [s_node, kb_some]
  simp
theorem s_IndexFunc (l : List Int) (hl : l.length < 4611686018427387904) : ∃ v, G_slices_IndexFunc___int_int_ l = some v ∧ (0 ≤ v ↔ badA l = true) := by
  have hx : ∀ (r : List Int) (j : Nat), ∃ o, loopL (fun i a x => B_slices_IndexFunc___int_int__0 l i x) j () r = some o ∧ ((badA r = false ∧ o = .go ()) ∨ (badA r = true ∧ ∃ q : Nat, o = .ret (q : Int))) := by
    intro r
    induction r with
    | nil => intro j; exact ⟨_, rfl, .inl ⟨rfl, rfl⟩⟩
    | cons x r ih =>
      intro j
      have e : B_slices_IndexFunc___int_int__0 l j x = some (if badN x = true then .ret (j : Int) else .go ()) := by
        unfold B_slices_IndexFunc___int_int__0
        rw [s_bad, kb_some]
        cases badN x <;> rfl
      cases c : badN x
      · obtain ⟨o, h1, h2⟩ := ih (j + 1)
        refine ⟨o, ?_, ?_⟩
        · show kb (B_slices_IndexFunc___int_int__0 l j x) _ = _
          rw [e, kb_some, c]
          exact h1
        · simpa [badA, c] using h2
      · refine ⟨.ret (j : Int), ?_, .inr ⟨by simp [badA, c], j, rfl⟩⟩
        show kb (B_slices_IndexFunc___int_int__0 l j x) _ = _
        rw [e, kb_some, c]
        rfl
  obtain ⟨o, h1, h2⟩ := hx l 0
  rcases h2 with ⟨hb, rfl⟩ | ⟨hb, q, rfl⟩
  · refine ⟨-1, g_slices_IndexFunc___int_int_ ?_, by simp [hb]⟩
    unfold B_slices_IndexFunc___int_int_
    rw [smallK_some hl, kb_some, h1, kb_some, stpK_go]
  · refine ⟨(q : Int), g_slices_IndexFunc___int_int_ ?_, by simp [hb]⟩
    unfold B_slices_IndexFunc___int_int_
    rw [smallK_some hl, kb_some, h1, kb_some, stpK_ret]
theorem s_ContainsFunc (l : List Int) (hl : l.length < 4611686018427387904) : G_slices_ContainsFunc___int_int_ l = some (badA l) := by
  obtain ⟨v, h1, h2⟩ := s_IndexFunc l hl
  refine g_slices_ContainsFunc___int_int_ ?_
  unfold B_slices_ContainsFunc___int_int_
  rw [h1, kb_some]
  congr 1
  cases hb : badA l
  · rw [hb] at h2
    simpa using h2
  · rw [hb] at h2
    simpa using h2
theorem s_nodeset_Of (l : List Int) (hl : l.length < 4611686018427387904) : G_nodeset_Of l = G_ref01_Of l := by
  rw [s_ref01_Of l hl]
  refine g_nodeset_Of ?_
  unfold B_nodeset_Of
  rw [smallK_some hl, kb_some]
  have h1 := loopL_spec (f := fun i a x => B_nodeset_Of_1 l i a x) ofG ofR (fun j a => True) (fun a => rfl) (fun a x r => by simp only [ofR]; cases ofG a x <;> rfl) l 0 0 (by
    intro j a x hj hp
    refine ⟨?_, fun _ _ => trivial⟩
    unfold B_nodeset_Of_1 B_nodeset_Of_0 ofG badN
    by_cases c1 : x < 0
    · simp [c1, cnd_true, kb_some]
    · by_cases c2 : 10 ≤ x
      · simp [c1, c2, cnd_true, cnd_false, kb_some]
      · simp only [c1, c2, decide_false, cnd_false, kb_some, s_nodeset_Has, Bool.or_self, Bool.false_eq_true, if_false]
        cases hasS a x
        · simp only [cnd_false, not_false_eq_true, mustK_T, kb_some]; simp
        · simp [cnd_true]) trivial
  rw [h1, kb_some]
  cases h : ofR 0 l with
  | go s => rfl
  | ex k s => exact absurd h (ofR_ne l 0 k s)
  | ret e => rfl

/-! ### the error of a trust -/
def ofE (l : List Int) : Int := match ofR 0 l with
  | .go _ => 0
  | .ex _ _ => 0
  | .ret e => e
mutual
def errT : Tru → Int
  | .mk t n i => if t < 1 then 4 else if ((n.length + i.length : Nat) : Int) < t then 4 else if badA n = true then 5 else if ofE n = 0 then errTs i else ofE n
def errTs : List Tru → Int
  | [] => 0
  | x :: r => if errT x = 0 then errTs r else errT x
end
theorem s_Of_E (l : List Int) (hl : l.length < 4611686018427387904) : ∃ s, G_ref01_Of l = some (s, ofE l) := by
  rw [s_ref01_Of l hl]
  unfold ofE
  cases h : ofR 0 l with
  | go s => exact ⟨s, rfl⟩
  | ex k s => exact ⟨s, rfl⟩
  | ret e => exact ⟨0, rfl⟩
theorem errs_loop {f : Nat → Unit → Tru → Option (Stp Unit Int)} : ∀ (l : List Tru) (j : Nat), (∀ (k : Nat), ∀ x ∈ l, f k () x = some (if errT x = 0 then .go () else .ret (errT x))) →
    loopL f j () l = some (if errTs l = 0 then .go () else .ret (errTs l))
  | [], j, _ => rfl
  | x :: r, j, h => by
    show kb (f j () x) _ = _
    rw [h j x (by simp), kb_some]
    by_cases c : errT x = 0
    · simp only [c, if_true, errTs]
      exact errs_loop r (j + 1) fun k y hy => h k y (by simp [hy])
    · simp [c, errTs]
theorem s_threshold_level : ∀ x : Tru, x.Fine → G_threshold_level x = some (errT x) := by
  refine tru_ind fun t n i ih h => g_threshold_level ?_
  have hl := Fine_len h
  simp only [Tru.nodes_mk, Tru.inner_mk] at hl
  have h0 : B_threshold_level_0 (.mk t n i) = some (decide (t < 1) || decide (((n.length + i.length : Nat) : Int) < t)) := by
    unfold B_threshold_level_0
    simp only [Tru.thr_mk, Tru.nodes_mk, Tru.inner_mk]
    have e := add64_of (a := (n.length : Int)) (b := (i.length : Int)) (by omega) (by omega)
    simp only [e]
    by_cases c : t < 1
    · simp [c, cnd_true]
    · simp [c, cnd_false]
  unfold B_threshold_level
  rw [h0, kb_some]
  simp only [Tru.nodes_mk, Tru.inner_mk, errT]
  by_cases c1 : t < 1
  · simp [c1, cnd_true]
  by_cases c2 : ((n.length + i.length : Nat) : Int) < t
  · simp only [c1, c2, decide_true, decide_false, Bool.or_true, cnd_true, if_true, if_false]
  simp only [c1, c2, decide_false, Bool.or_self, cnd_false, if_false]
  rw [s_ContainsFunc n (by omega), kb_some]
  cases hb : badA n
  case true => simp [cnd_true]
  simp only [cnd_false, Bool.false_eq_true, if_false]
  obtain ⟨s, ho⟩ := s_Of_E n (by omega)
  rw [s_nodeset_Of n (by omega), ho, kb_some]
  by_cases c3 : ofE n = 0
  case neg => simp [c3, cnd_false]
  simp only [c3, decide_true, cnd_true, if_true]
  rw [smallK_some (by omega), kb_some, errs_loop i 0 (fun k x hx => by
    unfold B_threshold_level_1
    rw [ih x hx (Fine_inner h hx), kb_some]
    by_cases c : errT x = 0 <;> simp [c, cnd_true, cnd_false]), kb_some]
  by_cases c : errTs i = 0 <;> simp [c, stpK_go, stpK_ret]
theorem s_check_E : ∀ x : Tru, x.Fine → G_ref02_check x = some (errT x) := by
  refine tru_ind fun t n i ih h => g_ref02_check ?_
  have hl := Fine_len h
  simp only [Tru.nodes_mk, Tru.inner_mk] at hl
  have h0 : B_ref02_check_0 (.mk t n i) = some (decide (t < 1) || decide (((n.length + i.length : Nat) : Int) < t)) := by
    unfold B_ref02_check_0
    simp only [Tru.thr_mk, Tru.nodes_mk, Tru.inner_mk]
    have e := add64_of (a := (n.length : Int)) (b := (i.length : Int)) (by omega) (by omega)
    simp only [e]
    by_cases c : t < 1
    · simp [c, cnd_true]
    · simp [c, cnd_false]
  have h1 : loopL (fun j a x => B_ref02_check_3 (.mk t n i) j x) 0 () n = some (if badA n = true then .ret () else .go ()) := by
    refine loopL_spec (fun a x => if badN x = true then .ret () else .go ()) (fun a l => if badA l = true then .ret () else .go ()) (fun j a => True) (fun a => by simp [badA]) (fun a x r => ?_) n 0 () (fun j a x hj hp => ⟨?_, fun _ _ => trivial⟩) trivial
    · by_cases c : badN x = true <;> simp [badA, c]
    · unfold B_ref02_check_3 B_ref02_check_1 badN
      by_cases c1 : x < 0
      · simp [c1, cnd_true, kb_some]
      · by_cases c2 : 10 ≤ x <;> simp [c1, c2, cnd_true, cnd_false, kb_some]
  unfold B_ref02_check
  rw [h0, kb_some]
  simp only [Tru.nodes_mk, Tru.inner_mk, errT]
  by_cases c1 : t < 1
  · simp [c1, cnd_true]
  by_cases c2 : ((n.length + i.length : Nat) : Int) < t
  · simp only [c1, c2, decide_true, decide_false, Bool.or_true, cnd_true, if_true, if_false]
  simp only [c1, c2, decide_false, Bool.or_self, cnd_false, if_false]
  rw [smallK_some (by omega), kb_some, h1, kb_some]
  cases hb : badA n
  case true => simp [stpK_ret]
  simp only [Bool.false_eq_true, if_false, stpK_go]
  obtain ⟨s, ho⟩ := s_Of_E n (by omega)
  rw [ho, kb_some]
  by_cases c3 : ofE n = 0
  case neg => simp [c3, cnd_false]
  simp only [c3, decide_true, cnd_true, if_true]
  rw [smallK_some (by omega), kb_some, errs_loop i 0 (fun k x hx => by
    unfold B_ref02_check_2
    rw [ih x hx (Fine_inner h hx), kb_some]
    by_cases c : errT x = 0 <;> simp [c, cnd_true, cnd_false]), kb_some]
  by_cases c : errTs i = 0 <;> simp [c, stpK_go, stpK_ret]
theorem errT_good {x : Tru} (h : x.Fine) : errT x = 0 ↔ good x = true := by
  obtain ⟨e, h1, h2⟩ := s_ref02_check x h
  rw [s_check_E x h] at h1
  cases h1
  exact h2
/-- the error of a trust, its limits too -/
def valE (x : Tru) : Int := if 4 < dep x then 3 else if 200 < x.size then 3 else errT x
theorem valE_ok {x : Tru} (h : x.Fine) : valE x = 0 ↔ valB x = true := by
  unfold valE valB
  by_cases c1 : 4 < dep x
  · have : ¬ dep x ≤ 4 := by omega
    simp [c1, this]
  · by_cases c2 : 200 < x.size
    · have : ¬ x.size ≤ 200 := by omega
      simp [c1, c2, this]
    · have e1 : dep x ≤ 4 := by omega
      have e2 : x.size ≤ 200 := by omega
      simp only [c1, c2, if_false, e1, e2, decide_true, Bool.true_and]
      exact errT_good h
theorem s_threshold_Valid {x : Tru} (h : x.Fine) : G_threshold_Valid x = some (valE x) := by
  refine g_threshold_Valid ?_
  unfold B_threshold_Valid B_threshold_Valid_0 valE
  rw [s_threshold_Depth x h, kb_some]
  by_cases c1 : 4 < dep x
  · have : (4 : Int) < (dep x : Int) := by omega
    simp [c1, this, cnd_true, kb_some]
  · have : ¬ (4 : Int) < (dep x : Int) := by omega
    simp only [c1, this, decide_false, cnd_false, if_false]
    rw [s_threshold_Size x h, kb_some, kb_some]
    by_cases c2 : 200 < x.size
    · have : (200 : Int) < (x.size : Int) := by omega
      simp [c2, this, cnd_true]
    · have : ¬ (200 : Int) < (x.size : Int) := by omega
      simp only [c2, this, decide_false, cnd_false, if_false]
      rw [s_threshold_level x h, kb_some]
theorem s_ref02_ValidE {x : Tru} (h : x.Fine) : G_ref02_Valid x = some (valE x) := by
  refine g_ref02_Valid ?_
  unfold B_ref02_Valid B_ref02_Valid_0 valE
  rw [s_ref02_Depth x h, kb_some]
  by_cases c1 : 4 < dep x
  · have : (4 : Int) < (dep x : Int) := by omega
    simp [c1, this, cnd_true, kb_some]
  · have : ¬ (4 : Int) < (dep x : Int) := by omega
    simp only [c1, this, decide_false, cnd_false, if_false]
    rw [s_ref02_Size x h, kb_some, kb_some]
    by_cases c2 : 200 < x.size
    · have : (200 : Int) < (x.size : Int) := by omega
      simp [c2, this, cnd_true]
    · have : ¬ (200 : Int) < (x.size : Int) := by omega
      simp only [c2, this, decide_false, cnd_false, if_false]
      rw [s_check_E x h, kb_some]

/-! ### hashes -/
def hashG (h : Int) (b : UInt8) : Int := mulK .u64 (xorK .u64 h (IntKind.wrap .u64 (b.toNat : Int))) 1099511628211
def hashV (l : List UInt8) : Int := l.foldl hashG 14695981039346656037
theorem s_declaration_Hash (l : List UInt8) (hl : l.length < 4611686018427387904) : G_declaration_Hash l = some (hashV l) := by
  refine g_declaration_Hash ?_
  unfold B_declaration_Hash u8K
  rw [kb_some, smallK_some (by rw [u8s_len]; exact hl), kb_some]
  have h1 := foldO_spec (f := fun i a x => B_declaration_Hash_0 (u8s l) i a x) (g := fun a e => mulK .u64 (xorK .u64 a (IntKind.wrap .u64 e)) 1099511628211) (fun j a => True) (u8s l) 0 14695981039346656037 (fun j a x _ _ => ⟨rfl, trivial⟩) trivial
  rw [h1.1, kb_some]
  unfold hashV u8s
  rw [List.foldl_map]
  rfl
theorem s_ref07_Hash (l : List UInt8) (hl : l.length < 4611686018427387904) : G_ref07_Hash l = some (hashV l) := by
  have hloop := iterW_spec (A := Int × Int) (R := Unit) (f := fun a => B_ref07_Hash_0 l a.1 a.2)
    (fun k a => (0 ≤ a.2 ∧ a.2 ≤ l.length ∧ k = l.length - a.2.toNat) ∧ a.1 = (l.take a.2.toNat).foldl hashG 14695981039346656037)
    (fun x => ∃ a : Int × Int, x = .go a ∧ a.1 = hashV l) (by
      rintro k ⟨a, j⟩ ⟨⟨hj0, hj1, hk⟩, ha⟩
      dsimp only at hj0 hj1 hk ha
      by_cases c : j < (l.length : Int)
      · left
        have hlt : j.toNat < l.length := by omega
        refine ⟨(hashG a l[j.toNat], j + 1), l.length - (j + 1).toNat, ?_, by omega, ⟨by show 0 ≤ j + 1; omega, by show j + 1 ≤ _; omega, rfl⟩, ?_⟩
        · unfold B_ref07_Hash_0
          simp only [c, decide_true, cnd_true]
          rw [getI_some hj0 hlt, kb_some, add64_of (by omega) (by omega)]
          rfl
        · show hashG a l[j.toNat] = _
          rw [show (j + 1).toNat = j.toNat + 1 by omega, List.take_add_one, List.getElem?_eq_getElem hlt, List.foldl_append, ← ha]
          rfl
      · right; left
        refine ⟨0, (a, j), ?_, (a, j), rfl, ?_⟩
        · unfold B_ref07_Hash_0
          simp only [c, decide_false, cnd_false]
        · show a = _
          rw [ha, show j.toNat = l.length by omega, List.take_length]
          rfl) l.length (14695981039346656037, 0) ⟨⟨by simp, by simp, by simp⟩, by simp⟩
  obtain ⟨_, e, a, rfl, h⟩ := hloop
  refine g_ref07_Hash ?_
  unfold B_ref07_Hash
  rw [e, kb_some, stpK_go, h]
def tagV (key : Int) (b : List UInt8) : Int := hashV (tagHead key ++ b)
theorem tagHead_len (key : Int) : (tagHead key).length = 8 := rfl
theorem s_declaration_Tag (key : Int) {b : List UInt8} (h : b.length < 1000000000) : G_declaration_Tag key b = some (tagV key b) :=
  g_declaration_Tag h (s_declaration_Hash _ (by rw [List.length_append, tagHead_len]; omega))
theorem s_ref07_Tag (key : Int) {b : List UInt8} (h : b.length < 1000000000) : G_ref07_Tag key b = some (tagV key b) := by
  have e : iterW (fun a : List Int × Int => B_ref07_Tag_0 key b a.1 a.2) (([] : List Int), 56) = some (.go ([IntKind.wrap .u8 (shrK .u64 key 56), IntKind.wrap .u8 (shrK .u64 key 48), IntKind.wrap .u8 (shrK .u64 key 40), IntKind.wrap .u8 (shrK .u64 key 32), IntKind.wrap .u8 (shrK .u64 key 24), IntKind.wrap .u8 (shrK .u64 key 16), IntKind.wrap .u8 (shrK .u64 key 8), IntKind.wrap .u8 (shrK .u64 key 0)], -8)) := by
    have stp : ∀ (l : List Int) (j j' : Int), 0 ≤ j → l.length ≤ 8 → sub64 j 8 = j' → iterW (fun a : List Int × Int => B_ref07_Tag_0 key b a.1 a.2) (l, j) = iterW (fun a : List Int × Int => B_ref07_Tag_0 key b a.1 a.2) (l ++ [IntKind.wrap .u8 (shrK .u64 key j)], j') := by
      intro l j j' h0 hl hj
      refine iterW_go ?_
      unfold B_ref07_Tag_0
      simp only [h0, decide_true, cnd_true]
      rw [mustK_some (show ¬ j < 0 by omega), kb_some, appK_some (by simp; omega), kb_some, hj]
    rw [stp [] 56 48 (by omega) (by simp) (by decide), stp _ 48 40 (by omega) (by simp) (by decide), stp _ 40 32 (by omega) (by simp) (by decide), stp _ 32 24 (by omega) (by simp) (by decide), stp _ 24 16 (by omega) (by simp) (by decide), stp _ 16 8 (by omega) (by simp) (by decide), stp _ 8 0 (by omega) (by simp) (by decide), stp _ 0 (-8) (by omega) (by simp) (by decide)]
    refine iterW_ex (k := 0) ?_
    unfold B_ref07_Tag_0
    simp [cnd_false]
  refine g_ref07_Tag ?_
  unfold B_ref07_Tag
  rw [e, kb_some, stpK_go]
  unfold toU8K
  rw [kb_some]
  have hh : toU8 [IntKind.wrap .u8 (shrK .u64 key 56), IntKind.wrap .u8 (shrK .u64 key 48), IntKind.wrap .u8 (shrK .u64 key 40), IntKind.wrap .u8 (shrK .u64 key 32), IntKind.wrap .u8 (shrK .u64 key 24), IntKind.wrap .u8 (shrK .u64 key 16), IntKind.wrap .u8 (shrK .u64 key 8), IntKind.wrap .u8 (shrK .u64 key 0)] = tagHead key := rfl
  dsimp only
  rw [hh, catK_some (by rw [tagHead_len]; omega), kb_some, s_ref07_Hash _ (by rw [List.length_append, tagHead_len]; omega), kb_some]
  rfl
end Go.Am

/-
How declaration.Plain runs, as a pure function.
-/
namespace Go.Am
open Go Go.Proofs
set_option linter.unusedVariables false
set_option linter.unusedSimpArgs false
set_option maxRecDepth 4000
set_option maxHeartbeats 4000000
noncomputable def B_declaration_Plain_0 (p0 : S_api_Declaration) : Option Bool :=
  cnd (decide (p0.f0 < 0)) (
    some true) (
    some (decide (10 ≤ p0.f0)))
def J_declaration_Plain_0 (p0 : S_api_Declaration) (q : St) : Prop := (∃ (g : Nat), q (.t 1) = .ptr (.site 0 0 0) g 0 ∧ q (.i (.site 0 0 0)) = .box g [(i64 p0.f0), (i64 p0.f1), (i64 p0.f2.thr), (.pv (.sl p0.f2.nodes.length (ints p0.f2.nodes))), (.pv (.sl p0.f2.inner.length (encTs p0.f2.inner))), (.pv (.int .u64 p0.f3))])
def Q_declaration_Plain_0 (p0 : S_api_Declaration) (o11_0 : Bool) (q : St) : Prop := q (.t 11) = (bl o11_0) ∧ (∃ (g : Nat), q (.t 1) = .ptr (.site 0 0 0) g 0 ∧ q (.i (.site 0 0 0)) = .box g [(i64 p0.f0), (i64 p0.f1), (i64 p0.f2.thr), (.pv (.sl p0.f2.nodes.length (ints p0.f2.nodes))), (.pv (.sl p0.f2.inner.length (encTs p0.f2.inner))), (.pv (.int .u64 p0.f3))])
theorem P_declaration_Plain_0 {p0 : S_api_Declaration} {cc : Code} (hcc : cc = (Code.fst (Code.fst (Code.snd ((Tryd.f20.body).getD .skip))))) {s : St} {z : Option (Ex × St)} (hz : C Tryd.prog cf cc s = z) {r : Bool} (hI : J_declaration_Plain_0 p0 s) (hB : B_declaration_Plain_0 p0 = some r) : Res z (postG (fun a q => Q_declaration_Plain_0 p0 a q) r) := by
  subst hcc
  subst hz
  simp only [J_declaration_Plain_0] at hI
  obtain ⟨g2, q1, q2⟩ := hI
  simp only [Code.fst, Code.snd, Tryd.f20, Option.getD_some]
  unfold B_declaration_Plain_0 at hB
  rcases cnd_inv hB with ⟨c1, hB⟩ | ⟨c1, hB⟩
  · have pc1 := eq_true (of_decide_eq_true c1)
    obtain rfl := Option.some.inj hB
    try simp -implicitDefEqProofs [-getElem?_pos, -Int.ofNat_lt, -Int.ofNat_le, -Int.natCast_eq_zero, -Int.natCast_pos, -List.length_eq_zero_iff, List.getElem?_cons_zero, List.getElem?_cons_succ, List.getElem?_nil, q1, q2, c1, pc1]
    refine Res.g ?_
    simp -implicitDefEqProofs [-getElem?_pos, -Int.ofNat_lt, -Int.ofNat_le, -Int.natCast_eq_zero, -Int.natCast_pos, -List.length_eq_zero_iff, List.getElem?_cons_zero, List.getElem?_cons_succ, List.getElem?_nil, and_assoc, Q_declaration_Plain_0, ownAt, q1, q2, c1, pc1]
  · have pc1 := eq_false (of_decide_eq_false c1)
    obtain rfl := Option.some.inj hB
    try simp -implicitDefEqProofs [-getElem?_pos, -Int.ofNat_lt, -Int.ofNat_le, -Int.natCast_eq_zero, -Int.natCast_pos, -List.length_eq_zero_iff, List.getElem?_cons_zero, List.getElem?_cons_succ, List.getElem?_nil, q1, q2, c1, pc1]
    refine Res.g ?_
    simp -implicitDefEqProofs [-getElem?_pos, -Int.ofNat_lt, -Int.ofNat_le, -Int.natCast_eq_zero, -Int.natCast_pos, -List.length_eq_zero_iff, List.getElem?_cons_zero, List.getElem?_cons_succ, List.getElem?_nil, and_assoc, Q_declaration_Plain_0, ownAt, q1, q2, c1, pc1]
noncomputable def B_declaration_Plain_1 (p0 : S_api_Declaration) : Option Bool :=
  cnd (decide (p0.f1 < 1)) (
    some true) (
    some (decide (30 < p0.f1)))
def J_declaration_Plain_1 (p0 : S_api_Declaration) (q : St) : Prop := (∃ (g : Nat), q (.t 1) = .ptr (.site 0 0 0) g 0 ∧ q (.i (.site 0 0 0)) = .box g [(i64 p0.f0), (i64 p0.f1), (i64 p0.f2.thr), (.pv (.sl p0.f2.nodes.length (ints p0.f2.nodes))), (.pv (.sl p0.f2.inner.length (encTs p0.f2.inner))), (.pv (.int .u64 p0.f3))])
def Q_declaration_Plain_1 (p0 : S_api_Declaration) (o19_1 : Bool) (q : St) : Prop := q (.t 19) = (bl o19_1) ∧ (∃ (g : Nat), q (.t 1) = .ptr (.site 0 0 0) g 0 ∧ q (.i (.site 0 0 0)) = .box g [(i64 p0.f0), (i64 p0.f1), (i64 p0.f2.thr), (.pv (.sl p0.f2.nodes.length (ints p0.f2.nodes))), (.pv (.sl p0.f2.inner.length (encTs p0.f2.inner))), (.pv (.int .u64 p0.f3))])
theorem P_declaration_Plain_1 {p0 : S_api_Declaration} {cc : Code} (hcc : cc = (Code.fst (Code.fst (Code.snd (Code.snd ((Tryd.f20.body).getD .skip)))))) {s : St} {z : Option (Ex × St)} (hz : C Tryd.prog cf cc s = z) {r : Bool} (hI : J_declaration_Plain_1 p0 s) (hB : B_declaration_Plain_1 p0 = some r) : Res z (postG (fun a q => Q_declaration_Plain_1 p0 a q) r) := by
  subst hcc
  subst hz
  simp only [J_declaration_Plain_1] at hI
  obtain ⟨g2, q1, q2⟩ := hI
  simp only [Code.fst, Code.snd, Tryd.f20, Option.getD_some]
  unfold B_declaration_Plain_1 at hB
  rcases cnd_inv hB with ⟨c4, hB⟩ | ⟨c4, hB⟩
  · have pc4 := eq_true (of_decide_eq_true c4)
    obtain rfl := Option.some.inj hB
    try simp -implicitDefEqProofs [-getElem?_pos, -Int.ofNat_lt, -Int.ofNat_le, -Int.natCast_eq_zero, -Int.natCast_pos, -List.length_eq_zero_iff, List.getElem?_cons_zero, List.getElem?_cons_succ, List.getElem?_nil, q1, q2, c4, pc4]
    refine Res.g ?_
    simp -implicitDefEqProofs [-getElem?_pos, -Int.ofNat_lt, -Int.ofNat_le, -Int.natCast_eq_zero, -Int.natCast_pos, -List.length_eq_zero_iff, List.getElem?_cons_zero, List.getElem?_cons_succ, List.getElem?_nil, and_assoc, Q_declaration_Plain_1, ownAt, q1, q2, c4, pc4]
  · have pc4 := eq_false (of_decide_eq_false c4)
    obtain rfl := Option.some.inj hB
    try simp -implicitDefEqProofs [-getElem?_pos, -Int.ofNat_lt, -Int.ofNat_le, -Int.natCast_eq_zero, -Int.natCast_pos, -List.length_eq_zero_iff, List.getElem?_cons_zero, List.getElem?_cons_succ, List.getElem?_nil, q1, q2, c4, pc4]
    refine Res.g ?_
    simp -implicitDefEqProofs [-getElem?_pos, -Int.ofNat_lt, -Int.ofNat_le, -Int.natCast_eq_zero, -Int.natCast_pos, -List.length_eq_zero_iff, List.getElem?_cons_zero, List.getElem?_cons_succ, List.getElem?_nil, and_assoc, Q_declaration_Plain_1, ownAt, q1, q2, c4, pc4]
noncomputable def B_declaration_Plain_2 (p0 : S_api_Declaration) : Option Bool :=
  kb (G_threshold_Depth p0.f2) fun y10 =>
  cnd (decide (3 < y10)) (
    some true) (
    kb (G_threshold_Size p0.f2) fun y13 =>
    some (decide (40 < y13)))
def J_declaration_Plain_2 (p0 : S_api_Declaration) (q : St) : Prop := (∃ (g : Nat), q (.t 1) = .ptr (.site 0 0 0) g 0 ∧ q (.i (.site 0 0 0)) = .box g [(i64 p0.f0), (i64 p0.f1), (i64 p0.f2.thr), (.pv (.sl p0.f2.nodes.length (ints p0.f2.nodes))), (.pv (.sl p0.f2.inner.length (encTs p0.f2.inner))), (.pv (.int .u64 p0.f3))])
def Q_declaration_Plain_2 (p0 : S_api_Declaration) (o35_2 : Bool) (q : St) : Prop := q (.t 35) = (bl o35_2)
theorem P_declaration_Plain_2 {p0 : S_api_Declaration} {cc : Code} (hcc : cc = (Code.fst (Code.fst (Code.snd (Code.snd (Code.snd (Code.snd ((Tryd.f20.body).getD .skip)))))))) {s : St} {z : Option (Ex × St)} (hz : C Tryd.prog cf cc s = z) {r : Bool} (hI : J_declaration_Plain_2 p0 s) (hB : B_declaration_Plain_2 p0 = some r) : Res z (postG (fun a q => Q_declaration_Plain_2 p0 a q) r) := by
  subst hcc
  subst hz
  simp only [J_declaration_Plain_2] at hI
  obtain ⟨g2, q1, q2⟩ := hI
  simp only [Code.fst, Code.snd, Tryd.f20, Option.getD_some]
  unfold B_declaration_Plain_2 at hB
  obtain ⟨y10, k11, hB⟩ := kb_inv hB
  replace k11 := run_threshold_Depth k11
  try simp only [Int.cast_ofNat_Int, Int.natCast_zero, List.length_cons, List.length_nil, List.nil_append, List.cons_append, Nat.zero_add, Nat.reduceAdd, Tru.thr_mk, Tru.nodes_mk, Tru.inner_mk, ints_cons, ints_nil, encTs_cons, encTs_nil, es_str_cons, es_str_nil, es_u64_cons, es_u64_nil, es_u8_cons, es_u8_nil] at k11
  try dsimp only at hB
  rcases cnd_inv hB with ⟨c12, hB⟩ | ⟨c12, hB⟩
  · have pc12 := eq_true (of_decide_eq_true c12)
    obtain rfl := Option.some.inj hB
    try simp -implicitDefEqProofs [-getElem?_pos, -Int.ofNat_lt, -Int.ofNat_le, -Int.natCast_eq_zero, -Int.natCast_pos, -List.length_eq_zero_iff, List.getElem?_cons_zero, List.getElem?_cons_succ, List.getElem?_nil, q1, q2, k11, c12, pc12]
    refine Res.g ?_
    simp -implicitDefEqProofs [-getElem?_pos, -Int.ofNat_lt, -Int.ofNat_le, -Int.natCast_eq_zero, -Int.natCast_pos, -List.length_eq_zero_iff, List.getElem?_cons_zero, List.getElem?_cons_succ, List.getElem?_nil, and_assoc, Q_declaration_Plain_2, ownAt, q1, q2, k11, c12, pc12]
  · have pc12 := eq_false (of_decide_eq_false c12)
    obtain ⟨y13, k14, hB⟩ := kb_inv hB
    replace k14 := run_threshold_Size k14
    try simp only [Int.cast_ofNat_Int, Int.natCast_zero, List.length_cons, List.length_nil, List.nil_append, List.cons_append, Nat.zero_add, Nat.reduceAdd, Tru.thr_mk, Tru.nodes_mk, Tru.inner_mk, ints_cons, ints_nil, encTs_cons, encTs_nil, es_str_cons, es_str_nil, es_u64_cons, es_u64_nil, es_u8_cons, es_u8_nil] at k14
    try dsimp only at hB
    obtain rfl := Option.some.inj hB
    try simp -implicitDefEqProofs [-getElem?_pos, -Int.ofNat_lt, -Int.ofNat_le, -Int.natCast_eq_zero, -Int.natCast_pos, -List.length_eq_zero_iff, List.getElem?_cons_zero, List.getElem?_cons_succ, List.getElem?_nil, q1, q2, k11, c12, pc12, k14]
    refine Res.g ?_
    simp -implicitDefEqProofs [-getElem?_pos, -Int.ofNat_lt, -Int.ofNat_le, -Int.natCast_eq_zero, -Int.natCast_pos, -List.length_eq_zero_iff, List.getElem?_cons_zero, List.getElem?_cons_succ, List.getElem?_nil, and_assoc, Q_declaration_Plain_2, ownAt, q1, q2, k11, c12, pc12, k14]
noncomputable def B_declaration_Plain (p0 : S_api_Declaration) : Option Int :=
  kb (B_declaration_Plain_0 p0) fun z2 =>
  cnd z2 (
    some 5) (
    kb (B_declaration_Plain_1 p0) fun z5 =>
    cnd z5 (
      some 1) (
      kb (G_threshold_Valid p0.f2) fun y7 =>
      cnd (decide (y7 = 0)) (
        kb (B_declaration_Plain_2 p0) fun z15 =>
        cnd z15 (
          some 3) (
          some 0)) (
        some y7)))
theorem sim_declaration_Plain {p0 : S_api_Declaration} {r : Int} (hB : B_declaration_Plain p0 = some r) : R 20 [(.agg [(i64 p0.f0), (i64 p0.f1), (i64 p0.f2.thr), (.pv (.sl p0.f2.nodes.length (ints p0.f2.nodes))), (.pv (.sl p0.f2.inner.length (encTs p0.f2.inner))), (.pv (.int .u64 p0.f3))])] [] = some ((i64 r), [], []) := by
  rw [R_eq _ _ _ fn_declaration_Plain]
  simp only [Code.fst, Code.snd, Tryd.f20, Option.getD_some]
  generalize hc0 : Code.region 1 _ _ = cc0
  generalize hc1 : Code.region 3 _ _ = cc1
  generalize hc2 : Code.region 8 _ _ = cc2
  generalize hr5 : Code.region 5 _ _ = rr5
  unfold B_declaration_Plain at hB
  try simp -implicitDefEqProofs [-getElem?_pos, -Int.ofNat_lt, -Int.ofNat_le, -Int.natCast_eq_zero, -Int.natCast_pos, -List.length_eq_zero_iff, List.getElem?_cons_zero, List.getElem?_cons_succ, List.getElem?_nil]
  generalize hz0 : C Tryd.prog cf cc0 _ = z0
  obtain ⟨z2, hB1, hB⟩ := kb_inv hB
  have hJ := P_declaration_Plain_0 (hc0.symm.trans (by kernel_rfl)) hz0 (by simp -implicitDefEqProofs [-getElem?_pos, -Int.ofNat_lt, -Int.ofNat_le, -Int.natCast_eq_zero, -Int.natCast_pos, -List.length_eq_zero_iff, List.getElem?_cons_zero, List.getElem?_cons_succ, List.getElem?_nil, and_assoc, J_declaration_Plain_0, ownAt]) hB1
  obtain ⟨e0, s0, rfl, hq⟩ := hJ.open
  clear hB1
  obtain ⟨rfl, hq⟩ := hq
  simp only [Q_declaration_Plain_0] at hq
  obtain ⟨q2_1, ⟨g2_3, q2_2, q2_3⟩⟩ := hq
  rcases cnd_inv hB with ⟨c3, hB⟩ | ⟨c3, hB⟩
  · obtain rfl := Option.some.inj hB
    simp -implicitDefEqProofs [-getElem?_pos, -Int.ofNat_lt, -Int.ofNat_le, -Int.natCast_eq_zero, -Int.natCast_pos, -List.length_eq_zero_iff, List.getElem?_cons_zero, List.getElem?_cons_succ, List.getElem?_nil, q2_1, q2_2, q2_3, c3]
  · try simp -implicitDefEqProofs [-getElem?_pos, -Int.ofNat_lt, -Int.ofNat_le, -Int.natCast_eq_zero, -Int.natCast_pos, -List.length_eq_zero_iff, List.getElem?_cons_zero, List.getElem?_cons_succ, List.getElem?_nil, q2_1, q2_2, q2_3, c3]
    generalize hz1 : C Tryd.prog cf cc1 _ = z1
    obtain ⟨z5, hB1, hB⟩ := kb_inv hB
    have hJ := P_declaration_Plain_1 (hc1.symm.trans (by kernel_rfl)) hz1 (by simp -implicitDefEqProofs [-getElem?_pos, -Int.ofNat_lt, -Int.ofNat_le, -Int.natCast_eq_zero, -Int.natCast_pos, -List.length_eq_zero_iff, List.getElem?_cons_zero, List.getElem?_cons_succ, List.getElem?_nil, and_assoc, J_declaration_Plain_1, ownAt, q2_1, q2_2, q2_3, c3]) hB1
    obtain ⟨e1, s1, rfl, hq⟩ := hJ.open
    clear hB1
    obtain ⟨rfl, hq⟩ := hq
    simp only [Q_declaration_Plain_1] at hq
    obtain ⟨q5_1, ⟨g5_3, q5_2, q5_3⟩⟩ := hq
    rcases cnd_inv hB with ⟨c6, hB⟩ | ⟨c6, hB⟩
    · obtain rfl := Option.some.inj hB
      simp -implicitDefEqProofs [-getElem?_pos, -Int.ofNat_lt, -Int.ofNat_le, -Int.natCast_eq_zero, -Int.natCast_pos, -List.length_eq_zero_iff, List.getElem?_cons_zero, List.getElem?_cons_succ, List.getElem?_nil, q5_1, q5_2, q5_3, c3, c6]
    · obtain ⟨y7, k8, hB⟩ := kb_inv hB
      replace k8 := run_threshold_Valid k8
      try simp only [Int.cast_ofNat_Int, Int.natCast_zero, List.length_cons, List.length_nil, List.nil_append, List.cons_append, Nat.zero_add, Nat.reduceAdd, Tru.thr_mk, Tru.nodes_mk, Tru.inner_mk, ints_cons, ints_nil, encTs_cons, encTs_nil, es_str_cons, es_str_nil, es_u64_cons, es_u64_nil, es_u8_cons, es_u8_nil, c3, c6] at k8
      try dsimp only at hB
      rcases cnd_inv hB with ⟨c9, hB⟩ | ⟨c9, hB⟩
      · have pc9 := eq_true (of_decide_eq_true c9)
        subst hr5
        try simp -implicitDefEqProofs [-getElem?_pos, -Int.ofNat_lt, -Int.ofNat_le, -Int.natCast_eq_zero, -Int.natCast_pos, -List.length_eq_zero_iff, List.getElem?_cons_zero, List.getElem?_cons_succ, List.getElem?_nil, q5_1, q5_2, q5_3, c3, c6, k8, c9, pc9]
        generalize hz2 : C Tryd.prog cf cc2 _ = z2
        obtain ⟨z15, hB1, hB⟩ := kb_inv hB
        have hJ := P_declaration_Plain_2 (hc2.symm.trans (by kernel_rfl)) hz2 (by simp -implicitDefEqProofs [-getElem?_pos, -Int.ofNat_lt, -Int.ofNat_le, -Int.natCast_eq_zero, -Int.natCast_pos, -List.length_eq_zero_iff, List.getElem?_cons_zero, List.getElem?_cons_succ, List.getElem?_nil, and_assoc, J_declaration_Plain_2, ownAt, q5_1, q5_2, q5_3, c3, c6, k8, c9, pc9]) hB1
        obtain ⟨e2, s2, rfl, hq⟩ := hJ.open
        clear hB1
        obtain ⟨rfl, hq⟩ := hq
        simp only [Q_declaration_Plain_2] at hq
        have q15_1 := hq
        rcases cnd_inv hB with ⟨c16, hB⟩ | ⟨c16, hB⟩
        · obtain rfl := Option.some.inj hB
          simp -implicitDefEqProofs [-getElem?_pos, -Int.ofNat_lt, -Int.ofNat_le, -Int.natCast_eq_zero, -Int.natCast_pos, -List.length_eq_zero_iff, List.getElem?_cons_zero, List.getElem?_cons_succ, List.getElem?_nil, q15_1, c3, c6, k8, c9, pc9, c16]
        · obtain rfl := Option.some.inj hB
          simp -implicitDefEqProofs [-getElem?_pos, -Int.ofNat_lt, -Int.ofNat_le, -Int.natCast_eq_zero, -Int.natCast_pos, -List.length_eq_zero_iff, List.getElem?_cons_zero, List.getElem?_cons_succ, List.getElem?_nil, q15_1, c3, c6, k8, c9, pc9, c16]
      · have pc9 := eq_false (of_decide_eq_false c9)
        obtain rfl := Option.some.inj hB
        subst hr5
        simp -implicitDefEqProofs [-getElem?_pos, -Int.ofNat_lt, -Int.ofNat_le, -Int.natCast_eq_zero, -Int.natCast_pos, -List.length_eq_zero_iff, List.getElem?_cons_zero, List.getElem?_cons_succ, List.getElem?_nil, q5_1, q5_2, q5_3, c3, c6, k8, c9, pc9]
theorem g_declaration_Plain {p0 : S_api_Declaration} {r : Int} (hB : B_declaration_Plain p0 = some r) : G_declaration_Plain p0 = some r := dec_of (fun a b h => by rcases a with a0_; rcases b with b0_; simp at h; simp [*]) (sim_declaration_Plain hB)
end Go.Am

/-
How declaration.Bytes runs, as a pure function.
-/
namespace Go.Am
open Go Go.Proofs
set_option linter.unusedVariables false
set_option linter.unusedSimpArgs false
set_option maxRecDepth 4000
set_option maxHeartbeats 4000000
noncomputable def B_declaration_Bytes (p0 : S_api_Declaration) : Option (List UInt8) :=
  kb (G_declaration_Plain p0) fun y1 =>
  cnd (decide (y1 = 0)) (
    kb (G_strconv_Itoa p0.f0) fun y4 =>
    kb (catK ([100, 32] : List UInt8) y4) fun S7 =>
    kb (catK S7 ([32] : List UInt8)) fun S9 =>
    kb (G_strconv_Itoa p0.f1) fun y10 =>
    kb (catK S9 y10) fun S13 =>
    kb (catK S13 ([32] : List UInt8)) fun S15 =>
    kb (G_notation_Text p0.f2) fun y16 =>
    kb (catK S15 y16) fun S19 =>
    some S19) (
    some ([] : List UInt8))
theorem sim_declaration_Bytes {p0 : S_api_Declaration} {r : (List UInt8)} (hB : B_declaration_Bytes p0 = some r) : R 18 [(.agg [(i64 p0.f0), (i64 p0.f1), (i64 p0.f2.thr), (.pv (.sl p0.f2.nodes.length (ints p0.f2.nodes))), (.pv (.sl p0.f2.inner.length (encTs p0.f2.inner))), (.pv (.int .u64 p0.f3))])] [] = some ((.pv (.str r)), [], []) := by
  rw [R_eq _ _ _ fn_declaration_Bytes]
  simp only [Code.fst, Code.snd, Tryd.f18, Option.getD_some]
  generalize hr3 : Code.region 3 _ _ = rr3
  unfold B_declaration_Bytes at hB
  obtain ⟨y1, k2, hB⟩ := kb_inv hB
  replace k2 := run_declaration_Plain k2
  try simp only [Int.cast_ofNat_Int, Int.natCast_zero, List.length_cons, List.length_nil, List.nil_append, List.cons_append, Nat.zero_add, Nat.reduceAdd, Tru.thr_mk, Tru.nodes_mk, Tru.inner_mk, ints_cons, ints_nil, encTs_cons, encTs_nil, es_str_cons, es_str_nil, es_u64_cons, es_u64_nil, es_u8_cons, es_u8_nil] at k2
  try dsimp only at hB
  rcases cnd_inv hB with ⟨c3, hB⟩ | ⟨c3, hB⟩
  · have pc3 := eq_true (of_decide_eq_true c3)
    obtain ⟨y4, k5, hB⟩ := kb_inv hB
    replace k5 := run_strconv_Itoa k5
    try simp only [Int.cast_ofNat_Int, Int.natCast_zero, List.length_cons, List.length_nil, List.nil_append, List.cons_append, Nat.zero_add, Nat.reduceAdd, Tru.thr_mk, Tru.nodes_mk, Tru.inner_mk, ints_cons, ints_nil, encTs_cons, encTs_nil, es_str_cons, es_str_nil, es_u64_cons, es_u64_nil, es_u8_cons, es_u8_nil] at k5
    try dsimp only at hB
    obtain ⟨S7, n6, hB⟩ := kb_inv hB
    obtain ⟨n6a, n6b⟩ := catK_inv n6
    try simp only [List.length_cons, List.length_nil, Nat.zero_add, Nat.reduceAdd] at n6a
    try simp only [List.cons_append, List.nil_append] at n6b
    try dsimp only at hB
    obtain ⟨S9, n8, hB⟩ := kb_inv hB
    obtain ⟨n8a, n8b⟩ := catK_inv n8
    try simp only [List.length_cons, List.length_nil, Nat.zero_add, Nat.reduceAdd] at n8a
    try simp only [List.cons_append, List.nil_append] at n8b
    try dsimp only at hB
    obtain ⟨y10, k11, hB⟩ := kb_inv hB
    replace k11 := run_strconv_Itoa k11
    try simp only [Int.cast_ofNat_Int, Int.natCast_zero, List.length_cons, List.length_nil, List.nil_append, List.cons_append, Nat.zero_add, Nat.reduceAdd, Tru.thr_mk, Tru.nodes_mk, Tru.inner_mk, ints_cons, ints_nil, encTs_cons, encTs_nil, es_str_cons, es_str_nil, es_u64_cons, es_u64_nil, es_u8_cons, es_u8_nil] at k11
    try dsimp only at hB
    obtain ⟨S13, n12, hB⟩ := kb_inv hB
    obtain ⟨n12a, n12b⟩ := catK_inv n12
    try dsimp only at hB
    obtain ⟨S15, n14, hB⟩ := kb_inv hB
    obtain ⟨n14a, n14b⟩ := catK_inv n14
    try simp only [List.length_cons, List.length_nil, Nat.zero_add, Nat.reduceAdd] at n14a
    try simp only [List.cons_append, List.nil_append] at n14b
    try dsimp only at hB
    obtain ⟨y16, k17, hB⟩ := kb_inv hB
    replace k17 := run_notation_Text k17
    try simp only [Int.cast_ofNat_Int, Int.natCast_zero, List.length_cons, List.length_nil, List.nil_append, List.cons_append, Nat.zero_add, Nat.reduceAdd, Tru.thr_mk, Tru.nodes_mk, Tru.inner_mk, ints_cons, ints_nil, encTs_cons, encTs_nil, es_str_cons, es_str_nil, es_u64_cons, es_u64_nil, es_u8_cons, es_u8_nil] at k17
    try dsimp only at hB
    obtain ⟨S19, n18, hB⟩ := kb_inv hB
    obtain ⟨n18a, n18b⟩ := catK_inv n18
    try dsimp only at hB
    obtain rfl := Option.some.inj hB
    subst hr3
    simp -implicitDefEqProofs [-getElem?_pos, -Int.ofNat_lt, -Int.ofNat_le, -Int.natCast_eq_zero, -Int.natCast_pos, -List.length_eq_zero_iff, List.getElem?_cons_zero, List.getElem?_cons_succ, List.getElem?_nil, k2, c3, pc3, k5, n6a, n6b, n8a, n8b, k11, n12a, n12b, n14a, n14b, k17, n18a, n18b]
    rw [drawK_ok _ _ _ (by kernel_rfl)]
    simp -implicitDefEqProofs [-getElem?_pos, -Int.ofNat_lt, -Int.ofNat_le, -Int.natCast_eq_zero, -Int.natCast_pos, -List.length_eq_zero_iff, List.getElem?_cons_zero, List.getElem?_cons_succ, List.getElem?_nil, k2, c3, pc3, k5, n6a, n6b, n8a, n8b, k11, n12a, n12b, n14a, n14b, k17, n18a, n18b]
  · have pc3 := eq_false (of_decide_eq_false c3)
    obtain rfl := Option.some.inj hB
    simp -implicitDefEqProofs [-getElem?_pos, -Int.ofNat_lt, -Int.ofNat_le, -Int.natCast_eq_zero, -Int.natCast_pos, -List.length_eq_zero_iff, List.getElem?_cons_zero, List.getElem?_cons_succ, List.getElem?_nil, k2, c3, pc3]
theorem g_declaration_Bytes {p0 : S_api_Declaration} {r : (List UInt8)} (hB : B_declaration_Bytes p0 = some r) : G_declaration_Bytes p0 = some r := dec_of (fun a b h => by rcases a with a0_; rcases b with b0_; simp at h; simp [*]) (sim_declaration_Bytes hB)
end Go.Am

/-
How declaration.Check runs, as a pure function.
-/
namespace Go.Am
open Go Go.Proofs
set_option linter.unusedVariables false
set_option linter.unusedSimpArgs false
set_option maxRecDepth 4000
set_option maxHeartbeats 4000000
noncomputable def B_declaration_Check (p0 : (List Int)) (p1 : S_api_Declaration) : Option Int :=
  kb (G_declaration_Plain p1) fun y1 =>
  cnd (decide (y1 = 0)) (
    cnd (decide ((p0.length : Int) ≤ p1.f0)) (
      some 10) (
      kb (getI p0 p1.f0) fun x5 =>
      kb (G_declaration_Bytes p1) fun y8 =>
      kb (G_declaration_Tag x5 y8) fun y10 =>
      cnd (decide (p1.f3 = y10)) (
        some 0) (
        some 8))) (
    some y1)
theorem sim_declaration_Check {p0 : (List Int)} {p1 : S_api_Declaration} {r : Int} (hB : B_declaration_Check p0 p1 = some r) : R 10 [(.pv (.sl p0.length (es_u64 p0))), (.agg [(i64 p1.f0), (i64 p1.f1), (i64 p1.f2.thr), (.pv (.sl p1.f2.nodes.length (ints p1.f2.nodes))), (.pv (.sl p1.f2.inner.length (encTs p1.f2.inner))), (.pv (.int .u64 p1.f3))])] [] = some ((i64 r), [], []) := by
  rw [R_eq _ _ _ fn_declaration_Check]
  simp only [Code.fst, Code.snd, Tryd.f10, Option.getD_some]
  generalize hr4 : Code.region 4 _ _ = rr4
  generalize hr6 : Code.region 6 _ _ = rr6
  unfold B_declaration_Check at hB
  obtain ⟨y1, k2, hB⟩ := kb_inv hB
  replace k2 := run_declaration_Plain k2
  try simp only [Int.cast_ofNat_Int, Int.natCast_zero, List.length_cons, List.length_nil, List.nil_append, List.cons_append, Nat.zero_add, Nat.reduceAdd, Tru.thr_mk, Tru.nodes_mk, Tru.inner_mk, ints_cons, ints_nil, encTs_cons, encTs_nil, es_str_cons, es_str_nil, es_u64_cons, es_u64_nil, es_u8_cons, es_u8_nil] at k2
  try dsimp only at hB
  rcases cnd_inv hB with ⟨c3, hB⟩ | ⟨c3, hB⟩
  · have pc3 := eq_true (of_decide_eq_true c3)
    rcases cnd_inv hB with ⟨c4, hB⟩ | ⟨c4, hB⟩
    · have pc4 := eq_true (of_decide_eq_true c4)
      have nc4 := c4
      try simp only [List.length_nil, List.length_cons, Int.cast_ofNat_Int, Int.natCast_zero, Nat.zero_add, Nat.reduceAdd, Int.reduceLT, Int.reduceLE, Int.reduceEq, eq_self, decide_true, decide_false, Bool.true_eq_false, Bool.false_eq_true] at nc4
      all_goals
        obtain rfl := Option.some.inj hB
        subst hr4
        simp -implicitDefEqProofs [-getElem?_pos, -Int.ofNat_lt, -Int.ofNat_le, -Int.natCast_eq_zero, -Int.natCast_pos, -List.length_eq_zero_iff, List.getElem?_cons_zero, List.getElem?_cons_succ, List.getElem?_nil, k2, c3, pc3, c4, pc4, nc4]
    · have pc4 := eq_false (of_decide_eq_false c4)
      have nc4 := c4
      try simp only [List.length_nil, List.length_cons, Int.cast_ofNat_Int, Int.natCast_zero, Nat.zero_add, Nat.reduceAdd, Int.reduceLT, Int.reduceLE, Int.reduceEq, eq_self, decide_true, decide_false, Bool.true_eq_false, Bool.false_eq_true] at nc4
      all_goals
        obtain ⟨x5, h6, hB⟩ := kb_inv hB
        obtain ⟨h6a, h6b, h6c, h6d⟩ := getI_inv h6
        try simp only [Int.toNat_natCast, Int.reduceToNat] at h6c
        try dsimp only at hB
        obtain ⟨y8, k9, hB⟩ := kb_inv hB
        replace k9 := run_declaration_Bytes k9
        try simp only [Int.cast_ofNat_Int, Int.natCast_zero, List.length_cons, List.length_nil, List.nil_append, List.cons_append, Nat.zero_add, Nat.reduceAdd, Tru.thr_mk, Tru.nodes_mk, Tru.inner_mk, ints_cons, ints_nil, encTs_cons, encTs_nil, es_str_cons, es_str_nil, es_u64_cons, es_u64_nil, es_u8_cons, es_u8_nil] at k9
        try dsimp only at hB
        obtain ⟨y10, k11, hB⟩ := kb_inv hB
        replace k11 := run_declaration_Tag k11
        try simp only [Int.cast_ofNat_Int, Int.natCast_zero, List.length_cons, List.length_nil, List.nil_append, List.cons_append, Nat.zero_add, Nat.reduceAdd, Tru.thr_mk, Tru.nodes_mk, Tru.inner_mk, ints_cons, ints_nil, encTs_cons, encTs_nil, es_str_cons, es_str_nil, es_u64_cons, es_u64_nil, es_u8_cons, es_u8_nil] at k11
        try dsimp only at hB
        rcases cnd_inv hB with ⟨c12, hB⟩ | ⟨c12, hB⟩
        · have pc12 := eq_true (of_decide_eq_true c12)
          obtain rfl := Option.some.inj hB
          subst hr4
          subst hr6
          simp -implicitDefEqProofs [-getElem?_pos, -Int.ofNat_lt, -Int.ofNat_le, -Int.natCast_eq_zero, -Int.natCast_pos, -List.length_eq_zero_iff, List.getElem?_cons_zero, List.getElem?_cons_succ, List.getElem?_nil, k2, c3, pc3, c4, pc4, nc4, h6a, h6b, h6c, h6d, k9, k11, c12, pc12]
          rw [drawK_ok _ _ _ (by kernel_rfl)]
          simp -implicitDefEqProofs [-getElem?_pos, -Int.ofNat_lt, -Int.ofNat_le, -Int.natCast_eq_zero, -Int.natCast_pos, -List.length_eq_zero_iff, List.getElem?_cons_zero, List.getElem?_cons_succ, List.getElem?_nil, k2, c3, pc3, c4, pc4, nc4, h6a, h6b, h6c, h6d, k9, k11, c12, pc12]
        · have pc12 := eq_false (of_decide_eq_false c12)
          obtain rfl := Option.some.inj hB
          subst hr4
          subst hr6
          simp -implicitDefEqProofs [-getElem?_pos, -Int.ofNat_lt, -Int.ofNat_le, -Int.natCast_eq_zero, -Int.natCast_pos, -List.length_eq_zero_iff, List.getElem?_cons_zero, List.getElem?_cons_succ, List.getElem?_nil, k2, c3, pc3, c4, pc4, nc4, h6a, h6b, h6c, h6d, k9, k11, c12, pc12]
          rw [drawK_ok _ _ _ (by kernel_rfl)]
          simp -implicitDefEqProofs [-getElem?_pos, -Int.ofNat_lt, -Int.ofNat_le, -Int.natCast_eq_zero, -Int.natCast_pos, -List.length_eq_zero_iff, List.getElem?_cons_zero, List.getElem?_cons_succ, List.getElem?_nil, k2, c3, pc3, c4, pc4, nc4, h6a, h6b, h6c, h6d, k9, k11, c12, pc12]
  · have pc3 := eq_false (of_decide_eq_false c3)
    obtain rfl := Option.some.inj hB
    simp -implicitDefEqProofs [-getElem?_pos, -Int.ofNat_lt, -Int.ofNat_le, -Int.natCast_eq_zero, -Int.natCast_pos, -List.length_eq_zero_iff, List.getElem?_cons_zero, List.getElem?_cons_succ, List.getElem?_nil, k2, c3, pc3]
theorem g_declaration_Check {p0 : (List Int)} {p1 : S_api_Declaration} {r : Int} (hB : B_declaration_Check p0 p1 = some r) : G_declaration_Check p0 p1 = some r := dec_of (fun a b h => by rcases a with a0_; rcases b with b0_; simp at h; simp [*]) (sim_declaration_Check hB)
end Go.Am

/-
How trustquorumref07.Plain runs, as a pure function.
-/
namespace Go.Am
open Go Go.Proofs
set_option linter.unusedVariables false
set_option linter.unusedSimpArgs false
set_option maxRecDepth 4000
set_option maxHeartbeats 4000000
noncomputable def B_ref07_Plain_0 (p0 : S_api_Declaration) : Option Bool :=
  cnd (decide (p0.f0 < 0)) (
    some true) (
    some (decide (10 ≤ p0.f0)))
def J_ref07_Plain_0 (p0 : S_api_Declaration) (q : St) : Prop := (∃ (g : Nat), q (.t 1) = .ptr (.site 0 0 0) g 0 ∧ q (.i (.site 0 0 0)) = .box g [(i64 p0.f0), (i64 p0.f1), (i64 p0.f2.thr), (.pv (.sl p0.f2.nodes.length (ints p0.f2.nodes))), (.pv (.sl p0.f2.inner.length (encTs p0.f2.inner))), (.pv (.int .u64 p0.f3))])
def Q_ref07_Plain_0 (p0 : S_api_Declaration) (o11_0 : Bool) (q : St) : Prop := q (.t 11) = (bl o11_0) ∧ (∃ (g : Nat), q (.t 1) = .ptr (.site 0 0 0) g 0 ∧ q (.i (.site 0 0 0)) = .box g [(i64 p0.f0), (i64 p0.f1), (i64 p0.f2.thr), (.pv (.sl p0.f2.nodes.length (ints p0.f2.nodes))), (.pv (.sl p0.f2.inner.length (encTs p0.f2.inner))), (.pv (.int .u64 p0.f3))])
theorem P_ref07_Plain_0 {p0 : S_api_Declaration} {cc : Code} (hcc : cc = (Code.fst (Code.fst (Code.snd ((Tryd.f33.body).getD .skip))))) {s : St} {z : Option (Ex × St)} (hz : C Tryd.prog cf cc s = z) {r : Bool} (hI : J_ref07_Plain_0 p0 s) (hB : B_ref07_Plain_0 p0 = some r) : Res z (postG (fun a q => Q_ref07_Plain_0 p0 a q) r) := by
  subst hcc
  subst hz
  simp only [J_ref07_Plain_0] at hI
  obtain ⟨g2, q1, q2⟩ := hI
  simp only [Code.fst, Code.snd, Tryd.f33, Option.getD_some]
  unfold B_ref07_Plain_0 at hB
  rcases cnd_inv hB with ⟨c1, hB⟩ | ⟨c1, hB⟩
  · have pc1 := eq_true (of_decide_eq_true c1)
    obtain rfl := Option.some.inj hB
    try simp -implicitDefEqProofs [-getElem?_pos, -Int.ofNat_lt, -Int.ofNat_le, -Int.natCast_eq_zero, -Int.natCast_pos, -List.length_eq_zero_iff, List.getElem?_cons_zero, List.getElem?_cons_succ, List.getElem?_nil, q1, q2, c1, pc1]
    refine Res.g ?_
    simp -implicitDefEqProofs [-getElem?_pos, -Int.ofNat_lt, -Int.ofNat_le, -Int.natCast_eq_zero, -Int.natCast_pos, -List.length_eq_zero_iff, List.getElem?_cons_zero, List.getElem?_cons_succ, List.getElem?_nil, and_assoc, Q_ref07_Plain_0, ownAt, q1, q2, c1, pc1]
  · have pc1 := eq_false (of_decide_eq_false c1)
    obtain rfl := Option.some.inj hB
    try simp -implicitDefEqProofs [-getElem?_pos, -Int.ofNat_lt, -Int.ofNat_le, -Int.natCast_eq_zero, -Int.natCast_pos, -List.length_eq_zero_iff, List.getElem?_cons_zero, List.getElem?_cons_succ, List.getElem?_nil, q1, q2, c1, pc1]
    refine Res.g ?_
    simp -implicitDefEqProofs [-getElem?_pos, -Int.ofNat_lt, -Int.ofNat_le, -Int.natCast_eq_zero, -Int.natCast_pos, -List.length_eq_zero_iff, List.getElem?_cons_zero, List.getElem?_cons_succ, List.getElem?_nil, and_assoc, Q_ref07_Plain_0, ownAt, q1, q2, c1, pc1]
noncomputable def B_ref07_Plain_1 (p0 : S_api_Declaration) : Option Bool :=
  cnd (decide (p0.f1 < 1)) (
    some true) (
    some (decide (30 < p0.f1)))
def J_ref07_Plain_1 (p0 : S_api_Declaration) (q : St) : Prop := (∃ (g : Nat), q (.t 1) = .ptr (.site 0 0 0) g 0 ∧ q (.i (.site 0 0 0)) = .box g [(i64 p0.f0), (i64 p0.f1), (i64 p0.f2.thr), (.pv (.sl p0.f2.nodes.length (ints p0.f2.nodes))), (.pv (.sl p0.f2.inner.length (encTs p0.f2.inner))), (.pv (.int .u64 p0.f3))])
def Q_ref07_Plain_1 (p0 : S_api_Declaration) (o19_1 : Bool) (q : St) : Prop := q (.t 19) = (bl o19_1) ∧ (∃ (g : Nat), q (.t 1) = .ptr (.site 0 0 0) g 0 ∧ q (.i (.site 0 0 0)) = .box g [(i64 p0.f0), (i64 p0.f1), (i64 p0.f2.thr), (.pv (.sl p0.f2.nodes.length (ints p0.f2.nodes))), (.pv (.sl p0.f2.inner.length (encTs p0.f2.inner))), (.pv (.int .u64 p0.f3))])
theorem P_ref07_Plain_1 {p0 : S_api_Declaration} {cc : Code} (hcc : cc = (Code.fst (Code.fst (Code.snd (Code.snd ((Tryd.f33.body).getD .skip)))))) {s : St} {z : Option (Ex × St)} (hz : C Tryd.prog cf cc s = z) {r : Bool} (hI : J_ref07_Plain_1 p0 s) (hB : B_ref07_Plain_1 p0 = some r) : Res z (postG (fun a q => Q_ref07_Plain_1 p0 a q) r) := by
  subst hcc
  subst hz
  simp only [J_ref07_Plain_1] at hI
  obtain ⟨g2, q1, q2⟩ := hI
  simp only [Code.fst, Code.snd, Tryd.f33, Option.getD_some]
  unfold B_ref07_Plain_1 at hB
  rcases cnd_inv hB with ⟨c4, hB⟩ | ⟨c4, hB⟩
  · have pc4 := eq_true (of_decide_eq_true c4)
    obtain rfl := Option.some.inj hB
    try simp -implicitDefEqProofs [-getElem?_pos, -Int.ofNat_lt, -Int.ofNat_le, -Int.natCast_eq_zero, -Int.natCast_pos, -List.length_eq_zero_iff, List.getElem?_cons_zero, List.getElem?_cons_succ, List.getElem?_nil, q1, q2, c4, pc4]
    refine Res.g ?_
    simp -implicitDefEqProofs [-getElem?_pos, -Int.ofNat_lt, -Int.ofNat_le, -Int.natCast_eq_zero, -Int.natCast_pos, -List.length_eq_zero_iff, List.getElem?_cons_zero, List.getElem?_cons_succ, List.getElem?_nil, and_assoc, Q_ref07_Plain_1, ownAt, q1, q2, c4, pc4]
  · have pc4 := eq_false (of_decide_eq_false c4)
    obtain rfl := Option.some.inj hB
    try simp -implicitDefEqProofs [-getElem?_pos, -Int.ofNat_lt, -Int.ofNat_le, -Int.natCast_eq_zero, -Int.natCast_pos, -List.length_eq_zero_iff, List.getElem?_cons_zero, List.getElem?_cons_succ, List.getElem?_nil, q1, q2, c4, pc4]
    refine Res.g ?_
    simp -implicitDefEqProofs [-getElem?_pos, -Int.ofNat_lt, -Int.ofNat_le, -Int.natCast_eq_zero, -Int.natCast_pos, -List.length_eq_zero_iff, List.getElem?_cons_zero, List.getElem?_cons_succ, List.getElem?_nil, and_assoc, Q_ref07_Plain_1, ownAt, q1, q2, c4, pc4]
noncomputable def B_ref07_Plain_2 (p0 : S_api_Declaration) : Option Bool :=
  kb (G_ref02_Depth p0.f2) fun y10 =>
  cnd (decide (3 < y10)) (
    some true) (
    kb (G_ref02_Size p0.f2) fun y13 =>
    some (decide (40 < y13)))
def J_ref07_Plain_2 (p0 : S_api_Declaration) (q : St) : Prop := (∃ (g : Nat), q (.t 1) = .ptr (.site 0 0 0) g 0 ∧ q (.i (.site 0 0 0)) = .box g [(i64 p0.f0), (i64 p0.f1), (i64 p0.f2.thr), (.pv (.sl p0.f2.nodes.length (ints p0.f2.nodes))), (.pv (.sl p0.f2.inner.length (encTs p0.f2.inner))), (.pv (.int .u64 p0.f3))])
def Q_ref07_Plain_2 (p0 : S_api_Declaration) (o35_2 : Bool) (q : St) : Prop := q (.t 35) = (bl o35_2)
theorem P_ref07_Plain_2 {p0 : S_api_Declaration} {cc : Code} (hcc : cc = (Code.fst (Code.fst (Code.snd (Code.snd (Code.snd (Code.snd ((Tryd.f33.body).getD .skip)))))))) {s : St} {z : Option (Ex × St)} (hz : C Tryd.prog cf cc s = z) {r : Bool} (hI : J_ref07_Plain_2 p0 s) (hB : B_ref07_Plain_2 p0 = some r) : Res z (postG (fun a q => Q_ref07_Plain_2 p0 a q) r) := by
  subst hcc
  subst hz
  simp only [J_ref07_Plain_2] at hI
  obtain ⟨g2, q1, q2⟩ := hI
  simp only [Code.fst, Code.snd, Tryd.f33, Option.getD_some]
  unfold B_ref07_Plain_2 at hB
  obtain ⟨y10, k11, hB⟩ := kb_inv hB
  replace k11 := run_ref02_Depth k11
  try simp only [Int.cast_ofNat_Int, Int.natCast_zero, List.length_cons, List.length_nil, List.nil_append, List.cons_append, Nat.zero_add, Nat.reduceAdd, Tru.thr_mk, Tru.nodes_mk, Tru.inner_mk, ints_cons, ints_nil, encTs_cons, encTs_nil, es_str_cons, es_str_nil, es_u64_cons, es_u64_nil, es_u8_cons, es_u8_nil] at k11
  try dsimp only at hB
  rcases cnd_inv hB with ⟨c12, hB⟩ | ⟨c12, hB⟩
  · have pc12 := eq_true (of_decide_eq_true c12)
    obtain rfl := Option.some.inj hB
    try simp -implicitDefEqProofs [-getElem?_pos, -Int.ofNat_lt, -Int.ofNat_le, -Int.natCast_eq_zero, -Int.natCast_pos, -List.length_eq_zero_iff, List.getElem?_cons_zero, List.getElem?_cons_succ, List.getElem?_nil, q1, q2, k11, c12, pc12]
    refine Res.g ?_
    simp -implicitDefEqProofs [-getElem?_pos, -Int.ofNat_lt, -Int.ofNat_le, -Int.natCast_eq_zero, -Int.natCast_pos, -List.length_eq_zero_iff, List.getElem?_cons_zero, List.getElem?_cons_succ, List.getElem?_nil, and_assoc, Q_ref07_Plain_2, ownAt, q1, q2, k11, c12, pc12]
  · have pc12 := eq_false (of_decide_eq_false c12)
    obtain ⟨y13, k14, hB⟩ := kb_inv hB
    replace k14 := run_ref02_Size k14
    try simp only [Int.cast_ofNat_Int, Int.natCast_zero, List.length_cons, List.length_nil, List.nil_append, List.cons_append, Nat.zero_add, Nat.reduceAdd, Tru.thr_mk, Tru.nodes_mk, Tru.inner_mk, ints_cons, ints_nil, encTs_cons, encTs_nil, es_str_cons, es_str_nil, es_u64_cons, es_u64_nil, es_u8_cons, es_u8_nil] at k14
    try dsimp only at hB
    obtain rfl := Option.some.inj hB
    try simp -implicitDefEqProofs [-getElem?_pos, -Int.ofNat_lt, -Int.ofNat_le, -Int.natCast_eq_zero, -Int.natCast_pos, -List.length_eq_zero_iff, List.getElem?_cons_zero, List.getElem?_cons_succ, List.getElem?_nil, q1, q2, k11, c12, pc12, k14]
    refine Res.g ?_
    simp -implicitDefEqProofs [-getElem?_pos, -Int.ofNat_lt, -Int.ofNat_le, -Int.natCast_eq_zero, -Int.natCast_pos, -List.length_eq_zero_iff, List.getElem?_cons_zero, List.getElem?_cons_succ, List.getElem?_nil, and_assoc, Q_ref07_Plain_2, ownAt, q1, q2, k11, c12, pc12, k14]
noncomputable def B_ref07_Plain (p0 : S_api_Declaration) : Option Int :=
  kb (B_ref07_Plain_0 p0) fun z2 =>
  cnd z2 (
    some 5) (
    kb (B_ref07_Plain_1 p0) fun z5 =>
    cnd z5 (
      some 1) (
      kb (G_ref02_Valid p0.f2) fun y7 =>
      cnd (decide (y7 = 0)) (
        kb (B_ref07_Plain_2 p0) fun z15 =>
        cnd z15 (
          some 3) (
          some 0)) (
        some y7)))
theorem sim_ref07_Plain {p0 : S_api_Declaration} {r : Int} (hB : B_ref07_Plain p0 = some r) : R 33 [(.agg [(i64 p0.f0), (i64 p0.f1), (i64 p0.f2.thr), (.pv (.sl p0.f2.nodes.length (ints p0.f2.nodes))), (.pv (.sl p0.f2.inner.length (encTs p0.f2.inner))), (.pv (.int .u64 p0.f3))])] [] = some ((i64 r), [], []) := by
  rw [R_eq _ _ _ fn_ref07_Plain]
  simp only [Code.fst, Code.snd, Tryd.f33, Option.getD_some]
  generalize hc0 : Code.region 1 _ _ = cc0
  generalize hc1 : Code.region 3 _ _ = cc1
  generalize hc2 : Code.region 8 _ _ = cc2
  generalize hr5 : Code.region 5 _ _ = rr5
  unfold B_ref07_Plain at hB
  try simp -implicitDefEqProofs [-getElem?_pos, -Int.ofNat_lt, -Int.ofNat_le, -Int.natCast_eq_zero, -Int.natCast_pos, -List.length_eq_zero_iff, List.getElem?_cons_zero, List.getElem?_cons_succ, List.getElem?_nil]
  generalize hz0 : C Tryd.prog cf cc0 _ = z0
  obtain ⟨z2, hB1, hB⟩ := kb_inv hB
  have hJ := P_ref07_Plain_0 (hc0.symm.trans (by kernel_rfl)) hz0 (by simp -implicitDefEqProofs [-getElem?_pos, -Int.ofNat_lt, -Int.ofNat_le, -Int.natCast_eq_zero, -Int.natCast_pos, -List.length_eq_zero_iff, List.getElem?_cons_zero, List.getElem?_cons_succ, List.getElem?_nil, and_assoc, J_ref07_Plain_0, ownAt]) hB1
  obtain ⟨e0, s0, rfl, hq⟩ := hJ.open
  clear hB1
  obtain ⟨rfl, hq⟩ := hq
  simp only [Q_ref07_Plain_0] at hq
  obtain ⟨q2_1, ⟨g2_3, q2_2, q2_3⟩⟩ := hq
  rcases cnd_inv hB with ⟨c3, hB⟩ | ⟨c3, hB⟩
  · obtain rfl := Option.some.inj hB
    simp -implicitDefEqProofs [-getElem?_pos, -Int.ofNat_lt, -Int.ofNat_le, -Int.natCast_eq_zero, -Int.natCast_pos, -List.length_eq_zero_iff, List.getElem?_cons_zero, List.getElem?_cons_succ, List.getElem?_nil, q2_1, q2_2, q2_3, c3]
  · try simp -implicitDefEqProofs [-getElem?_pos, -Int.ofNat_lt, -Int.ofNat_le, -Int.natCast_eq_zero, -Int.natCast_pos, -List.length_eq_zero_iff, List.getElem?_cons_zero, List.getElem?_cons_succ, List.getElem?_nil, q2_1, q2_2, q2_3, c3]
    generalize hz1 : C Tryd.prog cf cc1 _ = z1
    obtain ⟨z5, hB1, hB⟩ := kb_inv hB
    have hJ := P_ref07_Plain_1 (hc1.symm.trans (by kernel_rfl)) hz1 (by simp -implicitDefEqProofs [-getElem?_pos, -Int.ofNat_lt, -Int.ofNat_le, -Int.natCast_eq_zero, -Int.natCast_pos, -List.length_eq_zero_iff, List.getElem?_cons_zero, List.getElem?_cons_succ, List.getElem?_nil, and_assoc, J_ref07_Plain_1, ownAt, q2_1, q2_2, q2_3, c3]) hB1
    obtain ⟨e1, s1, rfl, hq⟩ := hJ.open
    clear hB1
    obtain ⟨rfl, hq⟩ := hq
    simp only [Q_ref07_Plain_1] at hq
    obtain ⟨q5_1, ⟨g5_3, q5_2, q5_3⟩⟩ := hq
    rcases cnd_inv hB with ⟨c6, hB⟩ | ⟨c6, hB⟩
    · obtain rfl := Option.some.inj hB
      simp -implicitDefEqProofs [-getElem?_pos, -Int.ofNat_lt, -Int.ofNat_le, -Int.natCast_eq_zero, -Int.natCast_pos, -List.length_eq_zero_iff, List.getElem?_cons_zero, List.getElem?_cons_succ, List.getElem?_nil, q5_1, q5_2, q5_3, c3, c6]
    · obtain ⟨y7, k8, hB⟩ := kb_inv hB
      replace k8 := run_ref02_Valid k8
      try simp only [Int.cast_ofNat_Int, Int.natCast_zero, List.length_cons, List.length_nil, List.nil_append, List.cons_append, Nat.zero_add, Nat.reduceAdd, Tru.thr_mk, Tru.nodes_mk, Tru.inner_mk, ints_cons, ints_nil, encTs_cons, encTs_nil, es_str_cons, es_str_nil, es_u64_cons, es_u64_nil, es_u8_cons, es_u8_nil, c3, c6] at k8
      try dsimp only at hB
      rcases cnd_inv hB with ⟨c9, hB⟩ | ⟨c9, hB⟩
      · have pc9 := eq_true (of_decide_eq_true c9)
        subst hr5
        try simp -implicitDefEqProofs [-getElem?_pos, -Int.ofNat_lt, -Int.ofNat_le, -Int.natCast_eq_zero, -Int.natCast_pos, -List.length_eq_zero_iff, List.getElem?_cons_zero, List.getElem?_cons_succ, List.getElem?_nil, q5_1, q5_2, q5_3, c3, c6, k8, c9, pc9]
        generalize hz2 : C Tryd.prog cf cc2 _ = z2
        obtain ⟨z15, hB1, hB⟩ := kb_inv hB
        have hJ := P_ref07_Plain_2 (hc2.symm.trans (by kernel_rfl)) hz2 (by simp -implicitDefEqProofs [-getElem?_pos, -Int.ofNat_lt, -Int.ofNat_le, -Int.natCast_eq_zero, -Int.natCast_pos, -List.length_eq_zero_iff, List.getElem?_cons_zero, List.getElem?_cons_succ, List.getElem?_nil, and_assoc, J_ref07_Plain_2, ownAt, q5_1, q5_2, q5_3, c3, c6, k8, c9, pc9]) hB1
        obtain ⟨e2, s2, rfl, hq⟩ := hJ.open
        clear hB1
        obtain ⟨rfl, hq⟩ := hq
        simp only [Q_ref07_Plain_2] at hq
        have q15_1 := hq
        rcases cnd_inv hB with ⟨c16, hB⟩ | ⟨c16, hB⟩
        · obtain rfl := Option.some.inj hB
          simp -implicitDefEqProofs [-getElem?_pos, -Int.ofNat_lt, -Int.ofNat_le, -Int.natCast_eq_zero, -Int.natCast_pos, -List.length_eq_zero_iff, List.getElem?_cons_zero, List.getElem?_cons_succ, List.getElem?_nil, q15_1, c3, c6, k8, c9, pc9, c16]
        · obtain rfl := Option.some.inj hB
          simp -implicitDefEqProofs [-getElem?_pos, -Int.ofNat_lt, -Int.ofNat_le, -Int.natCast_eq_zero, -Int.natCast_pos, -List.length_eq_zero_iff, List.getElem?_cons_zero, List.getElem?_cons_succ, List.getElem?_nil, q15_1, c3, c6, k8, c9, pc9, c16]
      · have pc9 := eq_false (of_decide_eq_false c9)
        obtain rfl := Option.some.inj hB
        subst hr5
        simp -implicitDefEqProofs [-getElem?_pos, -Int.ofNat_lt, -Int.ofNat_le, -Int.natCast_eq_zero, -Int.natCast_pos, -List.length_eq_zero_iff, List.getElem?_cons_zero, List.getElem?_cons_succ, List.getElem?_nil, q5_1, q5_2, q5_3, c3, c6, k8, c9, pc9]
theorem g_ref07_Plain {p0 : S_api_Declaration} {r : Int} (hB : B_ref07_Plain p0 = some r) : G_ref07_Plain p0 = some r := dec_of (fun a b h => by rcases a with a0_; rcases b with b0_; simp at h; simp [*]) (sim_ref07_Plain hB)
end Go.Am

/-
How trustquorumref07.Bytes runs, as a pure function.
-/
namespace Go.Am
open Go Go.Proofs
set_option linter.unusedVariables false
set_option linter.unusedSimpArgs false
set_option maxRecDepth 4000
set_option maxHeartbeats 4000000
noncomputable def B_ref07_Bytes (p0 : S_api_Declaration) : Option (List UInt8) :=
  kb (G_ref07_Plain p0) fun y1 =>
  cnd (decide (y1 = 0)) (
    kb (G_strconv_Itoa p0.f0) fun y4 =>
    kb (catK ([100, 32] : List UInt8) y4) fun S7 =>
    kb (catK S7 ([32] : List UInt8)) fun S9 =>
    kb (G_strconv_Itoa p0.f1) fun y10 =>
    kb (catK S9 y10) fun S13 =>
    kb (catK S13 ([32] : List UInt8)) fun S15 =>
    kb (G_ref03_Text p0.f2) fun y16 =>
    kb (catK S15 y16) fun S19 =>
    some S19) (
    some ([] : List UInt8))
theorem sim_ref07_Bytes {p0 : S_api_Declaration} {r : (List UInt8)} (hB : B_ref07_Bytes p0 = some r) : R 35 [(.agg [(i64 p0.f0), (i64 p0.f1), (i64 p0.f2.thr), (.pv (.sl p0.f2.nodes.length (ints p0.f2.nodes))), (.pv (.sl p0.f2.inner.length (encTs p0.f2.inner))), (.pv (.int .u64 p0.f3))])] [] = some ((.pv (.str r)), [], []) := by
  rw [R_eq _ _ _ fn_ref07_Bytes]
  simp only [Code.fst, Code.snd, Tryd.f35, Option.getD_some]
  generalize hr3 : Code.region 3 _ _ = rr3
  unfold B_ref07_Bytes at hB
  obtain ⟨y1, k2, hB⟩ := kb_inv hB
  replace k2 := run_ref07_Plain k2
  try simp only [Int.cast_ofNat_Int, Int.natCast_zero, List.length_cons, List.length_nil, List.nil_append, List.cons_append, Nat.zero_add, Nat.reduceAdd, Tru.thr_mk, Tru.nodes_mk, Tru.inner_mk, ints_cons, ints_nil, encTs_cons, encTs_nil, es_str_cons, es_str_nil, es_u64_cons, es_u64_nil, es_u8_cons, es_u8_nil] at k2
  try dsimp only at hB
  rcases cnd_inv hB with ⟨c3, hB⟩ | ⟨c3, hB⟩
  · have pc3 := eq_true (of_decide_eq_true c3)
    obtain ⟨y4, k5, hB⟩ := kb_inv hB
    replace k5 := run_strconv_Itoa k5
    try simp only [Int.cast_ofNat_Int, Int.natCast_zero, List.length_cons, List.length_nil, List.nil_append, List.cons_append, Nat.zero_add, Nat.reduceAdd, Tru.thr_mk, Tru.nodes_mk, Tru.inner_mk, ints_cons, ints_nil, encTs_cons, encTs_nil, es_str_cons, es_str_nil, es_u64_cons, es_u64_nil, es_u8_cons, es_u8_nil] at k5
    try dsimp only at hB
    obtain ⟨S7, n6, hB⟩ := kb_inv hB
    obtain ⟨n6a, n6b⟩ := catK_inv n6
    try simp only [List.length_cons, List.length_nil, Nat.zero_add, Nat.reduceAdd] at n6a
    try simp only [List.cons_append, List.nil_append] at n6b
    try dsimp only at hB
    obtain ⟨S9, n8, hB⟩ := kb_inv hB
    obtain ⟨n8a, n8b⟩ := catK_inv n8
    try simp only [List.length_cons, List.length_nil, Nat.zero_add, Nat.reduceAdd] at n8a
    try simp only [List.cons_append, List.nil_append] at n8b
    try dsimp only at hB
    obtain ⟨y10, k11, hB⟩ := kb_inv hB
    replace k11 := run_strconv_Itoa k11
    try simp only [Int.cast_ofNat_Int, Int.natCast_zero, List.length_cons, List.length_nil, List.nil_append, List.cons_append, Nat.zero_add, Nat.reduceAdd, Tru.thr_mk, Tru.nodes_mk, Tru.inner_mk, ints_cons, ints_nil, encTs_cons, encTs_nil, es_str_cons, es_str_nil, es_u64_cons, es_u64_nil, es_u8_cons, es_u8_nil] at k11
    try dsimp only at hB
    obtain ⟨S13, n12, hB⟩ := kb_inv hB
    obtain ⟨n12a, n12b⟩ := catK_inv n12
    try dsimp only at hB
    obtain ⟨S15, n14, hB⟩ := kb_inv hB
    obtain ⟨n14a, n14b⟩ := catK_inv n14
    try simp only [List.length_cons, List.length_nil, Nat.zero_add, Nat.reduceAdd] at n14a
    try simp only [List.cons_append, List.nil_append] at n14b
    try dsimp only at hB
    obtain ⟨y16, k17, hB⟩ := kb_inv hB
    replace k17 := run_ref03_Text k17
    try simp only [Int.cast_ofNat_Int, Int.natCast_zero, List.length_cons, List.length_nil, List.nil_append, List.cons_append, Nat.zero_add, Nat.reduceAdd, Tru.thr_mk, Tru.nodes_mk, Tru.inner_mk, ints_cons, ints_nil, encTs_cons, encTs_nil, es_str_cons, es_str_nil, es_u64_cons, es_u64_nil, es_u8_cons, es_u8_nil] at k17
    try dsimp only at hB
    obtain ⟨S19, n18, hB⟩ := kb_inv hB
    obtain ⟨n18a, n18b⟩ := catK_inv n18
    try dsimp only at hB
    obtain rfl := Option.some.inj hB
    subst hr3
    simp -implicitDefEqProofs [-getElem?_pos, -Int.ofNat_lt, -Int.ofNat_le, -Int.natCast_eq_zero, -Int.natCast_pos, -List.length_eq_zero_iff, List.getElem?_cons_zero, List.getElem?_cons_succ, List.getElem?_nil, k2, c3, pc3, k5, n6a, n6b, n8a, n8b, k11, n12a, n12b, n14a, n14b, k17, n18a, n18b]
    rw [drawK_ok _ _ _ (by kernel_rfl)]
    simp -implicitDefEqProofs [-getElem?_pos, -Int.ofNat_lt, -Int.ofNat_le, -Int.natCast_eq_zero, -Int.natCast_pos, -List.length_eq_zero_iff, List.getElem?_cons_zero, List.getElem?_cons_succ, List.getElem?_nil, k2, c3, pc3, k5, n6a, n6b, n8a, n8b, k11, n12a, n12b, n14a, n14b, k17, n18a, n18b]
  · have pc3 := eq_false (of_decide_eq_false c3)
    obtain rfl := Option.some.inj hB
    simp -implicitDefEqProofs [-getElem?_pos, -Int.ofNat_lt, -Int.ofNat_le, -Int.natCast_eq_zero, -Int.natCast_pos, -List.length_eq_zero_iff, List.getElem?_cons_zero, List.getElem?_cons_succ, List.getElem?_nil, k2, c3, pc3]
theorem g_ref07_Bytes {p0 : S_api_Declaration} {r : (List UInt8)} (hB : B_ref07_Bytes p0 = some r) : G_ref07_Bytes p0 = some r := dec_of (fun a b h => by rcases a with a0_; rcases b with b0_; simp at h; simp [*]) (sim_ref07_Bytes hB)
end Go.Am

/-
How trustquorumref07.Sign runs, as a pure function.
-/
namespace Go.Am
open Go Go.Proofs
set_option linter.unusedVariables false
set_option linter.unusedSimpArgs false
set_option maxRecDepth 4000
set_option maxHeartbeats 4000000
noncomputable def B_ref07_Sign (p0 : Int) (p1 : Int) (p2 : Int) (p3 : Tru) : Option (S_api_Declaration × Int) :=
  kb (G_ref07_Plain (S_api_Declaration.mk p1 p2 p3 0)) fun y1 =>
  cnd (decide (y1 = 0)) (
    kb (G_ref07_Bytes (S_api_Declaration.mk p1 p2 p3 0)) fun y4 =>
    kb (G_ref07_Tag p0 y4) fun y6 =>
    some ((S_api_Declaration.mk p1 p2 p3 y6), 0)) (
    some ((S_api_Declaration.mk 0 0 (Tru.mk 0 ([] : (List Int)) ([] : (List Tru))) 0), y1))
theorem sim_ref07_Sign {p0 : Int} {p1 : Int} {p2 : Int} {p3 : Tru} {r : (S_api_Declaration × Int)} (hB : B_ref07_Sign p0 p1 p2 p3 = some r) : R 19 [(.pv (.int .u64 p0)), (i64 p1), (i64 p2), (.agg [(i64 p3.thr), (.pv (.sl p3.nodes.length (ints p3.nodes))), (.pv (.sl p3.inner.length (encTs p3.inner)))])] [] = some (.tup [(.agg [(i64 r.1.f0), (i64 r.1.f1), (i64 r.1.f2.thr), (.pv (.sl r.1.f2.nodes.length (ints r.1.f2.nodes))), (.pv (.sl r.1.f2.inner.length (encTs r.1.f2.inner))), (.pv (.int .u64 r.1.f3))]), (i64 r.2)], [], []) := by
  rw [R_eq _ _ _ fn_ref07_Sign]
  simp only [Code.fst, Code.snd, Tryd.f19, Option.getD_some]
  generalize hr1 : Code.region 1 _ _ = rr1
  generalize hr4 : Code.region 4 _ _ = rr4
  generalize hr5 : Code.region 5 _ _ = rr5
  unfold B_ref07_Sign at hB
  obtain ⟨y1, k2, hB⟩ := kb_inv hB
  replace k2 := run_ref07_Plain k2
  try simp only [Int.cast_ofNat_Int, Int.natCast_zero, List.length_cons, List.length_nil, List.nil_append, List.cons_append, Nat.zero_add, Nat.reduceAdd, Tru.thr_mk, Tru.nodes_mk, Tru.inner_mk, ints_cons, ints_nil, encTs_cons, encTs_nil, es_str_cons, es_str_nil, es_u64_cons, es_u64_nil, es_u8_cons, es_u8_nil] at k2
  try dsimp only at hB
  rcases cnd_inv hB with ⟨c3, hB⟩ | ⟨c3, hB⟩
  · have pc3 := eq_true (of_decide_eq_true c3)
    obtain ⟨y4, k5, hB⟩ := kb_inv hB
    replace k5 := run_ref07_Bytes k5
    try simp only [Int.cast_ofNat_Int, Int.natCast_zero, List.length_cons, List.length_nil, List.nil_append, List.cons_append, Nat.zero_add, Nat.reduceAdd, Tru.thr_mk, Tru.nodes_mk, Tru.inner_mk, ints_cons, ints_nil, encTs_cons, encTs_nil, es_str_cons, es_str_nil, es_u64_cons, es_u64_nil, es_u8_cons, es_u8_nil] at k5
    try dsimp only at hB
    obtain ⟨y6, k7, hB⟩ := kb_inv hB
    replace k7 := run_ref07_Tag k7
    try simp only [Int.cast_ofNat_Int, Int.natCast_zero, List.length_cons, List.length_nil, List.nil_append, List.cons_append, Nat.zero_add, Nat.reduceAdd, Tru.thr_mk, Tru.nodes_mk, Tru.inner_mk, ints_cons, ints_nil, encTs_cons, encTs_nil, es_str_cons, es_str_nil, es_u64_cons, es_u64_nil, es_u8_cons, es_u8_nil] at k7
    try dsimp only at hB
    obtain rfl := Option.some.inj hB
    subst hr1
    subst hr5
    simp -implicitDefEqProofs [-getElem?_pos, -Int.ofNat_lt, -Int.ofNat_le, -Int.natCast_eq_zero, -Int.natCast_pos, -List.length_eq_zero_iff, List.getElem?_cons_zero, List.getElem?_cons_succ, List.getElem?_nil, k2, c3, pc3, k5, k7]
  · have pc3 := eq_false (of_decide_eq_false c3)
    obtain rfl := Option.some.inj hB
    subst hr1
    subst hr4
    simp -implicitDefEqProofs [-getElem?_pos, -Int.ofNat_lt, -Int.ofNat_le, -Int.natCast_eq_zero, -Int.natCast_pos, -List.length_eq_zero_iff, List.getElem?_cons_zero, List.getElem?_cons_succ, List.getElem?_nil, k2, c3, pc3]
theorem g_ref07_Sign {p0 : Int} {p1 : Int} {p2 : Int} {p3 : Tru} {r : (S_api_Declaration × Int)} (hB : B_ref07_Sign p0 p1 p2 p3 = some r) : G_ref07_Sign p0 p1 p2 p3 = some r := dec_of (fun a b h => by rcases a with ⟨⟨a0_0, a0_1, ⟨a0_20, a0_21, a0_22⟩, a0_3⟩, a1_⟩; rcases b with ⟨⟨b0_0, b0_1, ⟨b0_20, b0_21, b0_22⟩, b0_3⟩, b1_⟩; simp at h; simp [*]) (sim_ref07_Sign hB)
end Go.Am

/-
How trustquorummake.Keys runs, as a pure function.
-/
namespace Go.Am
open Go Go.Proofs
set_option linter.unusedVariables false
set_option linter.unusedSimpArgs false
set_option maxRecDepth 4000
set_option maxHeartbeats 4000000
noncomputable def B_make_Keys_0 (p1 : Int) (xba0_0_0 : (List Int)) (xba0_1_0 : Int) (x5_0 : (List Int)) (x6_0 : Int) : Option (Stp ((List Int) × Int × (List Int) × Int) Unit) :=
  cnd (decide (x6_0 < p1)) (
    kb (G_make_Tape_N (S_trustquorummake_Tape.mk xba0_0_0 xba0_1_0) 1000) fun y2 =>
    kb (appK x5_0 ([(addK .u64 (mulK .u64 (IntKind.wrap .u64 y2.1) 2654435761) (mulK .u64 (IntKind.wrap .u64 x6_0) 97))] : List Int) 8) fun L4 =>
    some (.go (y2.2.f0, y2.2.f1, L4, (add64 x6_0 1)))) (
    some (.ex 0 (xba0_0_0, xba0_1_0, x5_0, x6_0)))
def I_make_Keys_0 (p1 : Int) (xba0_0_0 : (List Int)) (xba0_1_0 : Int) (x5_0 : (List Int)) (x6_0 : Int) (q : St) : Prop := q (.t 1) = (i64 p1) ∧ (∃ v : AV, q (.t 5) = v ∧ (ownAt q v (.site 5 10 0) false 1 x5_0.length (es_u64 x5_0) ∨ (v = .nilsl ∧ x5_0 = []))) ∧ q (.t 6) = (i64 x6_0) ∧ (q (.t 0) = .ptr (.arg 0) 0 0 ∧ q (.i (.arg 0)) = .box 0 [(.pv (.sl xba0_0_0.length (ints xba0_0_0))), (i64 xba0_1_0)])
def Q_make_Keys_0 (p1 : Int) (xba0_0_0 : (List Int)) (xba0_1_0 : Int) (x5_0 : (List Int)) (x6_0 : Int) (q : St) : Prop := (∃ v : AV, q (.t 5) = v ∧ (ownAt q v (.site 5 10 0) false 1 x5_0.length (es_u64 x5_0) ∨ (v = .nilsl ∧ x5_0 = []))) ∧ (q (.i (.arg 0)) = .box 0 [(.pv (.sl xba0_0_0.length (ints xba0_0_0))), (i64 xba0_1_0)])
theorem Pb_make_Keys_0 {p1 : Int} {xba0_0_0 : (List Int)} {xba0_1_0 : Int} {x5_0 : (List Int)} {x6_0 : Int} {q : St} {r : (Stp ((List Int) × Int × (List Int) × Int) Unit)} (hI : I_make_Keys_0 p1 xba0_0_0 xba0_1_0 x5_0 x6_0 q) (hB : B_make_Keys_0 p1 xba0_0_0 xba0_1_0 x5_0 x6_0 = some r) : Res (C Tryd.prog cf (Code.fst (Code.fst (Code.snd (Code.fst (Code.snd (Code.snd ((Tryd.f7.body).getD .skip))))))) q) (postB 0 (fun a q => I_make_Keys_0 p1 a.1 a.2.1 a.2.2.1 a.2.2.2 q) (fun a q => Q_make_Keys_0 p1 a.1 a.2.1 a.2.2.1 a.2.2.2 q) (fun _ _ => False) r) := by
  simp only [I_make_Keys_0] at hI
  obtain ⟨q1, ⟨v2, q2, a2⟩, q3, ⟨q4, q5⟩⟩ := hI
  simp only [Code.fst, Code.snd, Tryd.f7, Option.getD_some]
  generalize hr5 : Code.region 5 _ _ = rr5
  unfold B_make_Keys_0 at hB
  rcases a2 with ⟨ga2, rfl, oa2⟩ | ⟨rfl, ea2⟩
  · rcases cnd_inv hB with ⟨c1, hB⟩ | ⟨c1, hB⟩
    · have pc1 := eq_true (of_decide_eq_true c1)
      obtain ⟨y2, k3, hB⟩ := kb_inv hB
      replace k3 := run_make_Tape_N k3
      try simp only [Int.cast_ofNat_Int, Int.natCast_zero, List.length_cons, List.length_nil, List.nil_append, List.cons_append, Nat.zero_add, Nat.reduceAdd, Tru.thr_mk, Tru.nodes_mk, Tru.inner_mk, ints_cons, ints_nil, encTs_cons, encTs_nil, es_str_cons, es_str_nil, es_u64_cons, es_u64_nil, es_u8_cons, es_u8_nil] at k3
      try dsimp only at hB
      obtain ⟨L4, a5, hB⟩ := kb_inv hB
      obtain ⟨a5z, a5a, a5y⟩ := appK_inv a5
      try (simp only [List.nil_append] at a5z; subst a5z)
      have a5b := appK_len a5
      have a5c := es_u64_appK a5
      have a5d := appK_le a5
      try simp only [Int.cast_ofNat_Int, Int.natCast_zero, List.length_cons, List.length_nil, List.nil_append, List.cons_append, Nat.zero_add, Nat.reduceAdd, Tru.thr_mk, Tru.nodes_mk, Tru.inner_mk, ints_cons, ints_nil, encTs_cons, encTs_nil, es_str_cons, es_str_nil, es_u64_cons, es_u64_nil, es_u8_cons, es_u8_nil] at a5a a5b a5c
      try replace a5b : _ = (1 : Nat) := a5b.symm
      try dsimp only at hB
      obtain rfl := Option.some.inj hB
      subst hr5
      try simp -implicitDefEqProofs [-getElem?_pos, -Int.ofNat_lt, -Int.ofNat_le, -Int.natCast_eq_zero, -Int.natCast_pos, -List.length_eq_zero_iff, List.getElem?_cons_zero, List.getElem?_cons_succ, List.getElem?_nil, q1, q2, q3, q4, q5, oa2, c1, pc1, k3, a5a, a5b, a5c, a5d]
      refine Res.bgo ?_
      simp -implicitDefEqProofs [-getElem?_pos, -Int.ofNat_lt, -Int.ofNat_le, -Int.natCast_eq_zero, -Int.natCast_pos, -List.length_eq_zero_iff, List.getElem?_cons_zero, List.getElem?_cons_succ, List.getElem?_nil, and_assoc, I_make_Keys_0, ownAt, q1, q2, q3, q4, q5, oa2, c1, pc1, k3, a5a, a5b, a5c, a5d]
    · have pc1 := eq_false (of_decide_eq_false c1)
      obtain rfl := Option.some.inj hB
      try simp -implicitDefEqProofs [-getElem?_pos, -Int.ofNat_lt, -Int.ofNat_le, -Int.natCast_eq_zero, -Int.natCast_pos, -List.length_eq_zero_iff, List.getElem?_cons_zero, List.getElem?_cons_succ, List.getElem?_nil, q1, q2, q3, q4, q5, oa2, c1, pc1]
      refine Res.bex ?_
      simp -implicitDefEqProofs [-getElem?_pos, -Int.ofNat_lt, -Int.ofNat_le, -Int.natCast_eq_zero, -Int.natCast_pos, -List.length_eq_zero_iff, List.getElem?_cons_zero, List.getElem?_cons_succ, List.getElem?_nil, and_assoc, Q_make_Keys_0, ownAt, q1, q2, q3, q4, q5, oa2, c1, pc1]
  · try subst ea2
    rcases cnd_inv hB with ⟨c1, hB⟩ | ⟨c1, hB⟩
    · have pc1 := eq_true (of_decide_eq_true c1)
      obtain ⟨y2, k3, hB⟩ := kb_inv hB
      replace k3 := run_make_Tape_N k3
      try simp only [Int.cast_ofNat_Int, Int.natCast_zero, List.length_cons, List.length_nil, List.nil_append, List.cons_append, Nat.zero_add, Nat.reduceAdd, Tru.thr_mk, Tru.nodes_mk, Tru.inner_mk, ints_cons, ints_nil, encTs_cons, encTs_nil, es_str_cons, es_str_nil, es_u64_cons, es_u64_nil, es_u8_cons, es_u8_nil] at k3
      try dsimp only at hB
      obtain ⟨L4, a5, hB⟩ := kb_inv hB
      obtain ⟨a5z, a5a, a5y⟩ := appK_inv a5
      simp only [List.nil_append] at a5z
      subst a5z
      try dsimp only at hB
      obtain rfl := Option.some.inj hB
      subst hr5
      try simp -implicitDefEqProofs [-getElem?_pos, -Int.ofNat_lt, -Int.ofNat_le, -Int.natCast_eq_zero, -Int.natCast_pos, -List.length_eq_zero_iff, List.getElem?_cons_zero, List.getElem?_cons_succ, List.getElem?_nil, q1, q2, q3, q4, q5, c1, pc1, k3]
      refine Res.bgo ?_
      simp -implicitDefEqProofs [-getElem?_pos, -Int.ofNat_lt, -Int.ofNat_le, -Int.natCast_eq_zero, -Int.natCast_pos, -List.length_eq_zero_iff, List.getElem?_cons_zero, List.getElem?_cons_succ, List.getElem?_nil, and_assoc, I_make_Keys_0, ownAt, q1, q2, q3, q4, q5, c1, pc1, k3]
    · have pc1 := eq_false (of_decide_eq_false c1)
      obtain rfl := Option.some.inj hB
      try simp -implicitDefEqProofs [-getElem?_pos, -Int.ofNat_lt, -Int.ofNat_le, -Int.natCast_eq_zero, -Int.natCast_pos, -List.length_eq_zero_iff, List.getElem?_cons_zero, List.getElem?_cons_succ, List.getElem?_nil, q1, q2, q3, q4, q5, c1, pc1]
      refine Res.bex ?_
      simp -implicitDefEqProofs [-getElem?_pos, -Int.ofNat_lt, -Int.ofNat_le, -Int.natCast_eq_zero, -Int.natCast_pos, -List.length_eq_zero_iff, List.getElem?_cons_zero, List.getElem?_cons_succ, List.getElem?_nil, and_assoc, Q_make_Keys_0, ownAt, q1, q2, q3, q4, q5, c1, pc1]
theorem P_make_Keys_0 {p1 : Int} {xba0_0_0 : (List Int)} {xba0_1_0 : Int} {x5_0 : (List Int)} {x6_0 : Int} {cc : Code} (hcc : cc = .block 0 (.loop (Code.fst (Code.fst (Code.snd (Code.fst (Code.snd (Code.snd ((Tryd.f7.body).getD .skip))))))))) {s : St} {z : Option (Ex × St)} (hz : C Tryd.prog cf cc s = z) {r : (Stp ((List Int) × Int × (List Int) × Int) Unit)} (hI : I_make_Keys_0 p1 xba0_0_0 xba0_1_0 x5_0 x6_0 s) (hB : iterW (fun a => B_make_Keys_0 p1 a.1 a.2.1 a.2.2.1 a.2.2.2) (xba0_0_0, xba0_1_0, x5_0, x6_0) = some r) : Res z (postS (fun a q => Q_make_Keys_0 p1 a.1 a.2.1 a.2.2.1 a.2.2.2 q) (fun _ _ => False) r) := by
  subst hcc
  exact while_sim (I := fun a q => I_make_Keys_0 p1 a.1 a.2.1 a.2.2.1 a.2.2.2 q) (Q := (fun a q => Q_make_Keys_0 p1 a.1 a.2.1 a.2.2.1 a.2.2.2 q)) (QR := (fun _ _ => False)) (fun a q r h hB => Pb_make_Keys_0 h hB) hI hz hB
noncomputable def B_make_Keys (p0 : S_trustquorummake_Tape) (p1 : Int) : Option ((List Int) × S_trustquorummake_Tape) :=
  kb (iterW (fun a => B_make_Keys_0 p1 a.1 a.2.1 a.2.2.1 a.2.2.2) (p0.f0, p0.f1, ([] : (List Int)), 0)) fun o => stpK o (fun z6 =>
    some (z6.2.2.1, (S_trustquorummake_Tape.mk z6.1 z6.2.1))) (fun z6r =>
    none)
theorem sim_make_Keys {p0 : S_trustquorummake_Tape} {p1 : Int} {r : ((List Int) × S_trustquorummake_Tape)} (hB : B_make_Keys p0 p1 = some r) : R 7 [.ptr (.arg 0) 0 0, (i64 p1)] [.box 0 [(.pv (.sl p0.f0.length (ints p0.f0))), (i64 p0.f1)]] = some ((.pv (.sl r.1.length (es_u64 r.1))), [.box 0 [(.pv (.sl r.2.f0.length (ints r.2.f0))), (i64 r.2.f1)]], []) := by
  rw [R_eq _ _ _ fn_make_Keys]
  simp only [Code.fst, Code.snd, Tryd.f7, Option.getD_some]
  generalize hc0 : Code.block 0 _ = cc0
  unfold B_make_Keys at hB
  try simp -implicitDefEqProofs [-getElem?_pos, -Int.ofNat_lt, -Int.ofNat_le, -Int.natCast_eq_zero, -Int.natCast_pos, -List.length_eq_zero_iff, List.getElem?_cons_zero, List.getElem?_cons_succ, List.getElem?_nil]
  generalize hz0 : C Tryd.prog cf cc0 _ = z0
  obtain ⟨o, hB1, hB⟩ := kb_inv hB
  have hJ := P_make_Keys_0 (hc0.symm.trans (by kernel_rfl)) hz0 (by simp -implicitDefEqProofs [-getElem?_pos, -Int.ofNat_lt, -Int.ofNat_le, -Int.natCast_eq_zero, -Int.natCast_pos, -List.length_eq_zero_iff, List.getElem?_cons_zero, List.getElem?_cons_succ, List.getElem?_nil, and_assoc, I_make_Keys_0, ownAt]) hB1
  obtain ⟨e0, s0, rfl, hq⟩ := hJ.open
  clear hB1
  rcases o with z6 | ⟨_, _⟩ | z6r
  · simp only [stpK_go] at hB
    obtain ⟨rfl, hq⟩ := hq
    obtain ⟨u0_0, u0_1, u0_2, u0_3⟩ := z6
    dsimp only at hB hq
    simp only [Q_make_Keys_0] at hq
    obtain ⟨⟨v6_1, q6_1, a6_1⟩, q6_2⟩ := hq
    rcases a6_1 with ⟨ga6_1, rfl, oa6_1⟩ | ⟨rfl, ea6_1⟩
    · obtain rfl := Option.some.inj hB
      simp -implicitDefEqProofs [-getElem?_pos, -Int.ofNat_lt, -Int.ofNat_le, -Int.natCast_eq_zero, -Int.natCast_pos, -List.length_eq_zero_iff, List.getElem?_cons_zero, List.getElem?_cons_succ, List.getElem?_nil, q6_1, q6_2, oa6_1]
    · try subst ea6_1
      obtain rfl := Option.some.inj hB
      simp -implicitDefEqProofs [-getElem?_pos, -Int.ofNat_lt, -Int.ofNat_le, -Int.natCast_eq_zero, -Int.natCast_pos, -List.length_eq_zero_iff, List.getElem?_cons_zero, List.getElem?_cons_succ, List.getElem?_nil, q6_1, q6_2]
  · exact hq.elim
  · cases hB
theorem g_make_Keys {p0 : S_trustquorummake_Tape} {p1 : Int} {r : ((List Int) × S_trustquorummake_Tape)} (hB : B_make_Keys p0 p1 = some r) : G_make_Keys p0 p1 = some r := dec_of (fun a b h => by rcases a with ⟨a0_, ⟨a1_0, a1_1⟩⟩; rcases b with ⟨b0_, ⟨b1_0, b1_1⟩⟩; simp at h; simp [*]) (sim_make_Keys hB)
end Go.Am

/-
How trustquorummake.Declared runs, as a pure function.
-/
namespace Go.Am
open Go Go.Proofs
set_option linter.unusedVariables false
set_option linter.unusedSimpArgs false
set_option maxRecDepth 4000
set_option maxHeartbeats 4000000
noncomputable def B_make_Declared_0 (y1 : (Tru × S_trustquorummake_Tape)) : Option Bool :=
  kb (G_ref02_Size y1.1) fun y3 =>
  cnd (decide (40 < y3)) (
    some true) (
    kb (G_ref02_Depth y1.1) fun y6 =>
    some (decide (3 < y6)))
def J_make_Declared_0 (y1 : (Tru × S_trustquorummake_Tape)) (q : St) : Prop := (q (.i (.arg 0)) = .box 0 [(.pv (.sl y1.2.f0.length (ints y1.2.f0))), (i64 y1.2.f1)]) ∧ (∃ (g : Nat), q (.t 4) = .ptr (.site 0 0 0) g 0 ∧ q (.i (.site 0 0 0)) = .box g [(i64 0), .nilsl, .nilsl]) ∧ (∃ (g : Nat), q (.t 5) = .ptr (.site 1 3 0) g 0 ∧ q (.i (.site 1 3 0)) = .box g [(i64 y1.1.thr), (.pv (.sl y1.1.nodes.length (ints y1.1.nodes))), (.pv (.sl y1.1.inner.length (encTs y1.1.inner)))])
def Q_make_Declared_0 (y1 : (Tru × S_trustquorummake_Tape)) (o16_0 : Bool) (q : St) : Prop := q (.t 16) = (bl o16_0) ∧ (q (.i (.arg 0)) = .box 0 [(.pv (.sl y1.2.f0.length (ints y1.2.f0))), (i64 y1.2.f1)]) ∧ (∃ (g : Nat), q (.t 4) = .ptr (.site 0 0 0) g 0 ∧ q (.i (.site 0 0 0)) = .box g [(i64 0), .nilsl, .nilsl]) ∧ (∃ (g : Nat), q (.t 5) = .ptr (.site 1 3 0) g 0 ∧ q (.i (.site 1 3 0)) = .box g [(i64 y1.1.thr), (.pv (.sl y1.1.nodes.length (ints y1.1.nodes))), (.pv (.sl y1.1.inner.length (encTs y1.1.inner)))])
theorem P_make_Declared_0 {y1 : (Tru × S_trustquorummake_Tape)} {cc : Code} (hcc : cc = (Code.fst (Code.fst (Code.snd (Code.snd ((Tryd.f13.body).getD .skip)))))) {s : St} {z : Option (Ex × St)} (hz : C Tryd.prog cf cc s = z) {r : Bool} (hI : J_make_Declared_0 y1 s) (hB : B_make_Declared_0 y1 = some r) : Res z (postG (fun a q => Q_make_Declared_0 y1 a q) r) := by
  subst hcc
  subst hz
  simp only [J_make_Declared_0] at hI
  obtain ⟨q1, ⟨g3, q2, q3⟩, ⟨g5, q4, q5⟩⟩ := hI
  simp only [Code.fst, Code.snd, Tryd.f13, Option.getD_some]
  unfold B_make_Declared_0 at hB
  obtain ⟨y3, k4, hB⟩ := kb_inv hB
  replace k4 := run_ref02_Size k4
  try simp only [Int.cast_ofNat_Int, Int.natCast_zero, List.length_cons, List.length_nil, List.nil_append, List.cons_append, Nat.zero_add, Nat.reduceAdd, Tru.thr_mk, Tru.nodes_mk, Tru.inner_mk, ints_cons, ints_nil, encTs_cons, encTs_nil, es_str_cons, es_str_nil, es_u64_cons, es_u64_nil, es_u8_cons, es_u8_nil] at k4
  try dsimp only at hB
  rcases cnd_inv hB with ⟨c5, hB⟩ | ⟨c5, hB⟩
  · have pc5 := eq_true (of_decide_eq_true c5)
    obtain rfl := Option.some.inj hB
    try simp -implicitDefEqProofs [-getElem?_pos, -Int.ofNat_lt, -Int.ofNat_le, -Int.natCast_eq_zero, -Int.natCast_pos, -List.length_eq_zero_iff, List.getElem?_cons_zero, List.getElem?_cons_succ, List.getElem?_nil, q1, q2, q3, q4, q5, k4, c5, pc5]
    refine Res.g ?_
    simp -implicitDefEqProofs [-getElem?_pos, -Int.ofNat_lt, -Int.ofNat_le, -Int.natCast_eq_zero, -Int.natCast_pos, -List.length_eq_zero_iff, List.getElem?_cons_zero, List.getElem?_cons_succ, List.getElem?_nil, and_assoc, Q_make_Declared_0, ownAt, q1, q2, q3, q4, q5, k4, c5, pc5]
  · have pc5 := eq_false (of_decide_eq_false c5)
    obtain ⟨y6, k7, hB⟩ := kb_inv hB
    replace k7 := run_ref02_Depth k7
    try simp only [Int.cast_ofNat_Int, Int.natCast_zero, List.length_cons, List.length_nil, List.nil_append, List.cons_append, Nat.zero_add, Nat.reduceAdd, Tru.thr_mk, Tru.nodes_mk, Tru.inner_mk, ints_cons, ints_nil, encTs_cons, encTs_nil, es_str_cons, es_str_nil, es_u64_cons, es_u64_nil, es_u8_cons, es_u8_nil] at k7
    try dsimp only at hB
    obtain rfl := Option.some.inj hB
    try simp -implicitDefEqProofs [-getElem?_pos, -Int.ofNat_lt, -Int.ofNat_le, -Int.natCast_eq_zero, -Int.natCast_pos, -List.length_eq_zero_iff, List.getElem?_cons_zero, List.getElem?_cons_succ, List.getElem?_nil, q1, q2, q3, q4, q5, k4, c5, pc5, k7]
    refine Res.g ?_
    simp -implicitDefEqProofs [-getElem?_pos, -Int.ofNat_lt, -Int.ofNat_le, -Int.natCast_eq_zero, -Int.natCast_pos, -List.length_eq_zero_iff, List.getElem?_cons_zero, List.getElem?_cons_succ, List.getElem?_nil, and_assoc, Q_make_Declared_0, ownAt, q1, q2, q3, q4, q5, k4, c5, pc5, k7]
noncomputable def B_make_Declared (p0 : S_trustquorummake_Tape) (p1 : Int) : Option (Tru × S_trustquorummake_Tape) :=
  kb (G_make_Trust p0 p1 2) fun y1 =>
  kb (B_make_Declared_0 y1) fun z8 =>
  cnd z8 (
    some ((Tru.mk 1 ([0] : List Int) ([] : (List Tru))), y1.2)) (
    some (y1.1, y1.2))
theorem sim_make_Declared {p0 : S_trustquorummake_Tape} {p1 : Int} {r : (Tru × S_trustquorummake_Tape)} (hB : B_make_Declared p0 p1 = some r) : R 13 [.ptr (.arg 0) 0 0, (i64 p1)] [.box 0 [(.pv (.sl p0.f0.length (ints p0.f0))), (i64 p0.f1)]] = some ((.agg [(i64 r.1.thr), (.pv (.sl r.1.nodes.length (ints r.1.nodes))), (.pv (.sl r.1.inner.length (encTs r.1.inner)))]), [.box 0 [(.pv (.sl r.2.f0.length (ints r.2.f0))), (i64 r.2.f1)]], []) := by
  rw [R_eq _ _ _ fn_make_Declared]
  simp only [Code.fst, Code.snd, Tryd.f13, Option.getD_some]
  generalize hc0 : Code.region 2 _ _ = cc0
  generalize hr1 : Code.region 1 _ _ = rr1
  unfold B_make_Declared at hB
  obtain ⟨y1, k2, hB⟩ := kb_inv hB
  replace k2 := run_make_Trust k2
  try simp only [Int.cast_ofNat_Int, Int.natCast_zero, List.length_cons, List.length_nil, List.nil_append, List.cons_append, Nat.zero_add, Nat.reduceAdd, Tru.thr_mk, Tru.nodes_mk, Tru.inner_mk, ints_cons, ints_nil, encTs_cons, encTs_nil, es_str_cons, es_str_nil, es_u64_cons, es_u64_nil, es_u8_cons, es_u8_nil] at k2
  try dsimp only at hB
  subst hr1
  try simp -implicitDefEqProofs [-getElem?_pos, -Int.ofNat_lt, -Int.ofNat_le, -Int.natCast_eq_zero, -Int.natCast_pos, -List.length_eq_zero_iff, List.getElem?_cons_zero, List.getElem?_cons_succ, List.getElem?_nil, k2]
  generalize hz0 : C Tryd.prog cf cc0 _ = z0
  obtain ⟨z8, hB1, hB⟩ := kb_inv hB
  have hJ := P_make_Declared_0 (hc0.symm.trans (by kernel_rfl)) hz0 (by simp -implicitDefEqProofs [-getElem?_pos, -Int.ofNat_lt, -Int.ofNat_le, -Int.natCast_eq_zero, -Int.natCast_pos, -List.length_eq_zero_iff, List.getElem?_cons_zero, List.getElem?_cons_succ, List.getElem?_nil, and_assoc, J_make_Declared_0, ownAt, k2]) hB1
  obtain ⟨e0, s0, rfl, hq⟩ := hJ.open
  clear hB1
  obtain ⟨rfl, hq⟩ := hq
  simp only [Q_make_Declared_0] at hq
  obtain ⟨q8_1, q8_2, ⟨g8_4, q8_3, q8_4⟩, ⟨g8_6, q8_5, q8_6⟩⟩ := hq
  rcases cnd_inv hB with ⟨c9, hB⟩ | ⟨c9, hB⟩
  · obtain rfl := Option.some.inj hB
    simp -implicitDefEqProofs [-getElem?_pos, -Int.ofNat_lt, -Int.ofNat_le, -Int.natCast_eq_zero, -Int.natCast_pos, -List.length_eq_zero_iff, List.getElem?_cons_zero, List.getElem?_cons_succ, List.getElem?_nil, q8_1, q8_2, q8_3, q8_4, q8_5, q8_6, k2, c9]
  · obtain rfl := Option.some.inj hB
    simp -implicitDefEqProofs [-getElem?_pos, -Int.ofNat_lt, -Int.ofNat_le, -Int.natCast_eq_zero, -Int.natCast_pos, -List.length_eq_zero_iff, List.getElem?_cons_zero, List.getElem?_cons_succ, List.getElem?_nil, q8_1, q8_2, q8_3, q8_4, q8_5, q8_6, k2, c9]
theorem g_make_Declared {p0 : S_trustquorummake_Tape} {p1 : Int} {r : (Tru × S_trustquorummake_Tape)} (hB : B_make_Declared p0 p1 = some r) : G_make_Declared p0 p1 = some r := dec_of (fun a b h => by rcases a with ⟨⟨a0_0, a0_1, a0_2⟩, ⟨a1_0, a1_1⟩⟩; rcases b with ⟨⟨b0_0, b0_1, b0_2⟩, ⟨b1_0, b1_1⟩⟩; simp at h; simp [*]) (sim_make_Declared hB)
end Go.Am

/-
How trustquorummake.Declaration runs, as a pure function.
-/
namespace Go.Am
open Go Go.Proofs
set_option linter.unusedVariables false
set_option linter.unusedSimpArgs false
set_option maxRecDepth 4000
set_option maxHeartbeats 4000000
noncomputable def B_make_Declaration (p0 : S_trustquorummake_Tape) (p1 : (List Int)) : Option (S_api_Declaration × S_trustquorummake_Tape) :=
  kb (G_make_Tape_N p0 (p1.length : Int)) fun y1 =>
  kb (getI p1 y1.1) fun x3 =>
  kb (G_make_Tape_Range y1.2 1 4) fun y6 =>
  kb (G_make_Declared y6.2 (p1.length : Int)) fun y8 =>
  kb (G_ref07_Sign x3 y1.1 y6.1 y8.1) fun y10 =>
  some (y10.1, y8.2)
theorem sim_make_Declaration {p0 : S_trustquorummake_Tape} {p1 : (List Int)} {r : (S_api_Declaration × S_trustquorummake_Tape)} (hB : B_make_Declaration p0 p1 = some r) : R 9 [.ptr (.arg 0) 0 0, (.pv (.sl p1.length (es_u64 p1)))] [.box 0 [(.pv (.sl p0.f0.length (ints p0.f0))), (i64 p0.f1)]] = some ((.agg [(i64 r.1.f0), (i64 r.1.f1), (i64 r.1.f2.thr), (.pv (.sl r.1.f2.nodes.length (ints r.1.f2.nodes))), (.pv (.sl r.1.f2.inner.length (encTs r.1.f2.inner))), (.pv (.int .u64 r.1.f3))]), [.box 0 [(.pv (.sl r.2.f0.length (ints r.2.f0))), (i64 r.2.f1)]], []) := by
  rw [R_eq _ _ _ fn_make_Declaration]
  simp only [Code.fst, Code.snd, Tryd.f9, Option.getD_some]
  generalize hr1 : Code.region 1 _ _ = rr1
  generalize hr2 : Code.region 2 _ _ = rr2
  unfold B_make_Declaration at hB
  obtain ⟨y1, k2, hB⟩ := kb_inv hB
  replace k2 := run_make_Tape_N k2
  try simp only [Int.cast_ofNat_Int, Int.natCast_zero, List.length_cons, List.length_nil, List.nil_append, List.cons_append, Nat.zero_add, Nat.reduceAdd, Tru.thr_mk, Tru.nodes_mk, Tru.inner_mk, ints_cons, ints_nil, encTs_cons, encTs_nil, es_str_cons, es_str_nil, es_u64_cons, es_u64_nil, es_u8_cons, es_u8_nil] at k2
  try dsimp only at hB
  obtain ⟨x3, h4, hB⟩ := kb_inv hB
  obtain ⟨h4a, h4b, h4c, h4d⟩ := getI_inv h4
  try simp only [Int.toNat_natCast, Int.reduceToNat] at h4c
  try dsimp only at hB
  obtain ⟨y6, k7, hB⟩ := kb_inv hB
  replace k7 := run_make_Tape_Range k7
  try simp only [Int.cast_ofNat_Int, Int.natCast_zero, List.length_cons, List.length_nil, List.nil_append, List.cons_append, Nat.zero_add, Nat.reduceAdd, Tru.thr_mk, Tru.nodes_mk, Tru.inner_mk, ints_cons, ints_nil, encTs_cons, encTs_nil, es_str_cons, es_str_nil, es_u64_cons, es_u64_nil, es_u8_cons, es_u8_nil] at k7
  try dsimp only at hB
  obtain ⟨y8, k9, hB⟩ := kb_inv hB
  replace k9 := run_make_Declared k9
  try simp only [Int.cast_ofNat_Int, Int.natCast_zero, List.length_cons, List.length_nil, List.nil_append, List.cons_append, Nat.zero_add, Nat.reduceAdd, Tru.thr_mk, Tru.nodes_mk, Tru.inner_mk, ints_cons, ints_nil, encTs_cons, encTs_nil, es_str_cons, es_str_nil, es_u64_cons, es_u64_nil, es_u8_cons, es_u8_nil] at k9
  try dsimp only at hB
  obtain ⟨y10, k11, hB⟩ := kb_inv hB
  replace k11 := run_ref07_Sign k11
  try simp only [Int.cast_ofNat_Int, Int.natCast_zero, List.length_cons, List.length_nil, List.nil_append, List.cons_append, Nat.zero_add, Nat.reduceAdd, Tru.thr_mk, Tru.nodes_mk, Tru.inner_mk, ints_cons, ints_nil, encTs_cons, encTs_nil, es_str_cons, es_str_nil, es_u64_cons, es_u64_nil, es_u8_cons, es_u8_nil] at k11
  try dsimp only at hB
  obtain rfl := Option.some.inj hB
  subst hr1
  subst hr2
  simp -implicitDefEqProofs [-getElem?_pos, -Int.ofNat_lt, -Int.ofNat_le, -Int.natCast_eq_zero, -Int.natCast_pos, -List.length_eq_zero_iff, List.getElem?_cons_zero, List.getElem?_cons_succ, List.getElem?_nil, k2, h4a, h4b, h4c, h4d, k7, k9, k11]
  rw [drawK_ok _ _ _ (by kernel_rfl)]
  simp -implicitDefEqProofs [-getElem?_pos, -Int.ofNat_lt, -Int.ofNat_le, -Int.natCast_eq_zero, -Int.natCast_pos, -List.length_eq_zero_iff, List.getElem?_cons_zero, List.getElem?_cons_succ, List.getElem?_nil, k2, h4a, h4b, h4c, h4d, k7, k9, k11]
theorem g_make_Declaration {p0 : S_trustquorummake_Tape} {p1 : (List Int)} {r : (S_api_Declaration × S_trustquorummake_Tape)} (hB : B_make_Declaration p0 p1 = some r) : G_make_Declaration p0 p1 = some r := dec_of (fun a b h => by rcases a with ⟨⟨a0_0, a0_1, ⟨a0_20, a0_21, a0_22⟩, a0_3⟩, ⟨a1_0, a1_1⟩⟩; rcases b with ⟨⟨b0_0, b0_1, ⟨b0_20, b0_21, b0_22⟩, b0_3⟩, ⟨b1_0, b1_1⟩⟩; simp at h; simp [*]) (sim_make_Declaration hB)
end Go.Am

/-
Plain laws of chapter 07: declarations.
-/
namespace Go.Am
open Go
set_option linter.unusedVariables false
set_option linter.unusedSimpArgs false

abbrev Decl := S_api_Declaration
def plainE (d : Decl) : Int :=
  if d.f0 < 0 then 5 else if 10 ≤ d.f0 then 5 else if d.f1 < 1 then 1 else if 30 < d.f1 then 1 else
  if valE d.f2 = 0 then (if 3 < dep d.f2 then 3 else if 40 < d.f2.size then 3 else 0) else valE d.f2
/-- a declaration without an error, but for its tag -/
def DOk (d : Decl) : Prop := ((0 ≤ d.f0 ∧ d.f0 < 10) ∧ (1 ≤ d.f1 ∧ d.f1 ≤ 30)) ∧ ((valB d.f2 = true ∧ d.f2.Fine) ∧ (dep d.f2 ≤ 3 ∧ d.f2.size ≤ 40))
theorem plainE_ok {d : Decl} (h : DOk d) : plainE d = 0 := by
  obtain ⟨⟨⟨h1, h2⟩, h3, h4⟩, ⟨h5, h6⟩, h7, h8⟩ := h
  have := (valE_ok h6).2 h5
  unfold plainE
  rw [if_neg (by omega), if_neg (by omega), if_neg (by omega), if_neg (by omega), if_pos this, if_neg (by omega), if_neg (by omega)]
theorem s_declaration_Plain (d : Decl) (h : d.f2.Fine) : G_declaration_Plain d = some (plainE d) := by
  refine g_declaration_Plain ?_
  unfold B_declaration_Plain B_declaration_Plain_0 B_declaration_Plain_1 B_declaration_Plain_2 plainE
  by_cases c1 : d.f0 < 0
  · simp [c1, cnd_true, kb_some]
  by_cases c2 : 10 ≤ d.f0
  · simp [c1, c2, cnd_true, cnd_false, kb_some]
  simp only [c1, c2, decide_false, cnd_false, kb_some, if_false]
  by_cases c3 : d.f1 < 1
  · simp [c3, cnd_true, kb_some]
  by_cases c4 : 30 < d.f1
  · simp [c3, c4, cnd_true, cnd_false, kb_some]
  simp only [c3, c4, decide_false, cnd_false, kb_some, if_false]
  rw [s_threshold_Valid h, kb_some]
  by_cases c5 : valE d.f2 = 0
  case neg => simp [c5, cnd_false]
  simp only [c5, decide_true, cnd_true, if_true]
  rw [s_threshold_Depth _ h, kb_some]
  by_cases c6 : 3 < dep d.f2
  · have : (3 : Int) < (dep d.f2 : Int) := by omega
    simp [c6, this, cnd_true, kb_some]
  · have : ¬ (3 : Int) < (dep d.f2 : Int) := by omega
    simp only [c6, this, decide_false, cnd_false, if_false]
    rw [s_threshold_Size _ h, kb_some, kb_some]
    by_cases c7 : 40 < d.f2.size
    · have : (40 : Int) < (d.f2.size : Int) := by omega
      simp [c7, this, cnd_true]
    · have : ¬ (40 : Int) < (d.f2.size : Int) := by omega
      simp [c7, this, cnd_false]
theorem s_ref07_Plain (d : Decl) (h : d.f2.Fine) : G_ref07_Plain d = some (plainE d) := by
  refine g_ref07_Plain ?_
  unfold B_ref07_Plain B_ref07_Plain_0 B_ref07_Plain_1 B_ref07_Plain_2 plainE
  by_cases c1 : d.f0 < 0
  · simp [c1, cnd_true, kb_some]
  by_cases c2 : 10 ≤ d.f0
  · simp [c1, c2, cnd_true, cnd_false, kb_some]
  simp only [c1, c2, decide_false, cnd_false, kb_some, if_false]
  by_cases c3 : d.f1 < 1
  · simp [c3, cnd_true, kb_some]
  by_cases c4 : 30 < d.f1
  · simp [c3, c4, cnd_true, cnd_false, kb_some]
  simp only [c3, c4, decide_false, cnd_false, kb_some, if_false]
  rw [s_ref02_ValidE h, kb_some]
  by_cases c5 : valE d.f2 = 0
  case neg => simp [c5, cnd_false]
  simp only [c5, decide_true, cnd_true, if_true]
  rw [s_ref02_Depth _ h, kb_some]
  by_cases c6 : 3 < dep d.f2
  · have : (3 : Int) < (dep d.f2 : Int) := by omega
    simp [c6, this, cnd_true, kb_some]
  · have : ¬ (3 : Int) < (dep d.f2 : Int) := by omega
    simp only [c6, this, decide_false, cnd_false, if_false]
    rw [s_ref02_Size _ h, kb_some, kb_some]
    by_cases c7 : 40 < d.f2.size
    · have : (40 : Int) < (d.f2.size : Int) := by omega
      simp [c7, this, cnd_true]
    · have : ¬ (40 : Int) < (d.f2.size : Int) := by omega
      simp [c7, this, cnd_false]
theorem badA_iff : ∀ {l : List Int}, badA l = false ↔ ∀ k ∈ l, 0 ≤ k ∧ k < 10
  | [] => by simp [badA]
  | x :: r => by
    have ih := badA_iff (l := r)
    have e : badA (x :: r) = (badN x || badA r) := by simp [badA]
    rw [e, Bool.or_eq_false_iff, ih]
    have e2 : badN x = false ↔ 0 ≤ x ∧ x < 10 := by unfold badN; simp
    rw [e2]
    simp
theorem good_dec2 : ∀ x : Tru, good x = true → x.size < 100 → dec2 x := by
  refine tru_ind fun t n i ih h hs => ?_
  simp only [good, Bool.and_eq_true, decide_eq_true_eq, goods_eq, List.all_eq_true, Bool.not_eq_true'] at h
  obtain ⟨⟨h1, h2⟩, h3, h4, h5⟩ := h
  rw [size_mk] at hs
  refine ⟨by omega, fun k hk => ?_, dec2s_iff.2 fun x hx => ih x hx (h5 x hx) ?_⟩
  · have := badA_iff.1 h3 k hk
    omega
  · have := sizes_mem hx
    omega
theorem val_dec2 {x : Tru} (h : valB x = true) (hs : x.size ≤ 40) : dec2 x := by
  unfold valB at h
  rw [Bool.and_eq_true, Bool.and_eq_true] at h
  exact good_dec2 x h.2.2 (by omega)
def bytesV (d : Decl) : List UInt8 := ((((([100, 32] ++ itoa2 d.f0.toNat) ++ [32]) ++ itoa2 d.f1.toNat) ++ [32]) ++ txtT d.f2)
theorem bytesV_len {d : Decl} (h : DOk d) : (bytesV d).length < 1000 := by
  have h1 := itoa2_len d.f0.toNat
  have h2 := itoa2_len d.f1.toNat
  have h3 := txt_len d.f2
  have h4 := h.2.2.2
  simp only [bytesV, List.length_append, List.length_cons, List.length_nil]
  omega
theorem s_declaration_Bytes {d : Decl} (h : DOk d) : G_declaration_Bytes d = some (bytesV d) := by
  have hp := plainE_ok h
  have hl := bytesV_len h
  obtain ⟨⟨⟨h1, h2⟩, h3, h4⟩, ⟨h5, h6⟩, h7, h8⟩ := h
  have ht : G_notation_Text d.f2 = some (txtT d.f2) := by
    refine g_notation_Text ?_
    unfold B_notation_Text
    rw [s_threshold_Valid h6, (valE_ok h6).2 h5, kb_some]
    simp only [decide_true, cnd_true]
    rw [s_write _ (val_dec2 h5 h8) h6, kb_some]
  have b1 := itoa2_len d.f0.toNat
  have b2 := itoa2_len d.f1.toNat
  have b3 := txt_len d.f2
  refine g_declaration_Bytes ?_
  unfold B_declaration_Bytes
  rw [s_declaration_Plain d h6, hp, kb_some]
  simp only [decide_true, cnd_true]
  rw [s_Itoa h1 (by omega), kb_some, catK_some (by simp; omega), kb_some, catK_some (by simp; omega), kb_some, s_Itoa (by omega) (by omega), kb_some, catK_some (by simp; omega), kb_some, catK_some (by simp; omega), kb_some, ht, kb_some, catK_some (by simp; omega), kb_some]
  rfl
theorem s_ref07_Bytes {d : Decl} (h : DOk d) : G_ref07_Bytes d = some (bytesV d) := by
  have hp := plainE_ok h
  have hl := bytesV_len h
  obtain ⟨⟨⟨h1, h2⟩, h3, h4⟩, ⟨h5, h6⟩, h7, h8⟩ := h
  have ht : G_ref03_Text d.f2 = some (txtT d.f2) := by
    refine g_ref03_Text ?_
    unfold B_ref03_Text
    rw [s_ref02_ValidE h6, (valE_ok h6).2 h5, kb_some]
    simp only [decide_true, cnd_true]
    rw [s_ref03_text _ (val_dec2 h5 h8) h6, kb_some]
  have b1 := itoa2_len d.f0.toNat
  have b2 := itoa2_len d.f1.toNat
  have b3 := txt_len d.f2
  refine g_ref07_Bytes ?_
  unfold B_ref07_Bytes
  rw [s_ref07_Plain d h6, hp, kb_some]
  simp only [decide_true, cnd_true]
  rw [s_Itoa h1 (by omega), kb_some, catK_some (by simp; omega), kb_some, catK_some (by simp; omega), kb_some, s_Itoa (by omega) (by omega), kb_some, catK_some (by simp; omega), kb_some, catK_some (by simp; omega), kb_some, ht, kb_some, catK_some (by simp; omega), kb_some]
  rfl
theorem s_Check {keys : List Int} {d : Decl} (h : DOk d) {k : Int} (hk : keys[d.f0.toNat]? = some k) : G_declaration_Check keys d = some (if d.f3 = tagV k (bytesV d) then 0 else 8) := by
  have hlt := (List.getElem?_eq_some_iff.1 hk).1
  have h0 := h.1.1
  have hl := bytesV_len h
  refine g_declaration_Check ?_
  unfold B_declaration_Check
  rw [s_declaration_Plain d h.2.1.2, plainE_ok h, kb_some]
  have : ¬ (keys.length : Int) ≤ d.f0 := by omega
  simp only [decide_true, cnd_true, this, decide_false, cnd_false]
  rw [getI_of h0.1 hk, kb_some, s_declaration_Bytes h, kb_some, s_declaration_Tag k (by omega), kb_some]
  by_cases c : d.f3 = tagV k (bytesV d) <;> simp [c, cnd_true, cnd_false]
theorem s_Check_nil {d : Decl} (h : DOk d) : G_declaration_Check [] d = some 10 := by
  have h0 := h.1.1
  refine g_declaration_Check ?_
  unfold B_declaration_Check
  rw [s_declaration_Plain d h.2.1.2, plainE_ok h, kb_some]
  have : (([] : List Int).length : Int) ≤ d.f0 := by simp; omega
  simp only [decide_true, cnd_true, this]
theorem s_Keys {t : Tape} (ht : Tp t) (n : Int) (h1 : 1 ≤ n) (h2 : n ≤ 10) : ∃ l t', G_make_Keys t n = some (l, t') ∧ (l.length : Int) = n ∧ Tp t' := by
  have hloop := iterW_spec (A := List Int × Int × List Int × Int) (R := Unit) (f := fun a => B_make_Keys_0 n a.1 a.2.1 a.2.2.1 a.2.2.2)
    (fun k a => (0 ≤ a.2.2.2 ∧ a.2.2.2 ≤ n ∧ k = (n - a.2.2.2).toNat) ∧ (a.2.2.1.length : Int) = a.2.2.2 ∧ Tp ⟨a.1, a.2.1⟩)
    (fun x => ∃ a : List Int × Int × List Int × Int, x = .go a ∧ (a.2.2.1.length : Int) = n ∧ Tp ⟨a.1, a.2.1⟩) (by
      rintro k ⟨tl, ta, l, i⟩ ⟨⟨hi, hin, hk⟩, hl, htp⟩
      dsimp only at hi hin hk hl htp
      by_cases c : i < n
      · left
        obtain ⟨v, t', e, hv, ht'⟩ := s_N htp (n := 1000) (by omega) (by omega)
        refine ⟨(t'.f0, t'.f1, l ++ [addK .u64 (mulK .u64 (IntKind.wrap .u64 v) 2654435761) (mulK .u64 (IntKind.wrap .u64 i) 97)], i + 1), (n - (i + 1)).toNat, ?_, by omega, ⟨by show 0 ≤ i + 1; omega, by show i + 1 ≤ n; omega, rfl⟩, by simp; omega, ht'⟩
        unfold B_make_Keys_0
        simp only [c, decide_true, cnd_true]
        rw [e, kb_some, appK_some (by simp; omega), kb_some, add64_of (by omega) (by omega)]
      · right; left
        refine ⟨0, (tl, ta, l, i), ?_, (tl, ta, l, i), rfl, by dsimp only; omega, htp⟩
        unfold B_make_Keys_0
        simp only [c, decide_false, cnd_false]) (n - 0).toNat (t.f0, t.f1, [], 0) ⟨⟨by simp, by dsimp only; omega, rfl⟩, by simp, ht⟩
  obtain ⟨_, e, ⟨tl, ta, l, i⟩, rfl, h3, h4⟩ := hloop
  refine ⟨l, ⟨tl, ta⟩, g_make_Keys ?_, h3, h4⟩
  unfold B_make_Keys
  rw [e, kb_some, stpK_go]
/-- a trust that can be declared -/
def TOk (x : Tru) : Prop := (valB x = true ∧ x.Fine) ∧ (dep x ≤ 3 ∧ x.size ≤ 40)
theorem s_Declared {t : Tape} (ht : Tp t) (n : Int) (h1 : 1 ≤ n) (h2 : n ≤ 10) : ∃ x t', G_make_Declared t n = some (x, t') ∧ TOk x ∧ Tp t' := by
  obtain ⟨x, t1, e1, ⟨hv, hf, _⟩, ht1⟩ := s_mkTrust n h1 h2 2 (by omega) t ht
  have h0 : B_make_Declared_0 (x, t1) = some (decide (40 < x.size) || decide (3 < dep x)) := by
    unfold B_make_Declared_0
    dsimp only
    rw [s_ref02_Size x hf, kb_some]
    by_cases c : 40 < x.size
    · have : (40 : Int) < (x.size : Int) := by omega
      simp [c, this, cnd_true]
    · have : ¬ (40 : Int) < (x.size : Int) := by omega
      simp only [c, this, decide_false, cnd_false, Bool.false_or]
      rw [s_ref02_Depth x hf, kb_some]
      congr 1
      by_cases c : 3 < dep x
      · have : (3 : Int) < (dep x : Int) := by omega
        simp [c, this]
      · have : ¬ (3 : Int) < (dep x : Int) := by omega
        simp [c, this]
  cases hb : decide (40 < x.size) || decide (3 < dep x)
  · refine ⟨x, t1, g_make_Declared ?_, ⟨⟨hv, hf⟩, ?_⟩, ht1⟩
    · unfold B_make_Declared
      rw [e1, kb_some, h0, hb, kb_some, cnd_false]
    · rw [Bool.or_eq_false_iff, decide_eq_false_iff_not, decide_eq_false_iff_not] at hb
      omega
  · refine ⟨.mk 1 [0] [], t1, g_make_Declared ?_, ⟨⟨by decide, by rw [size_mk]; simp [sizes], by unfold in64; omega, fun k hk => by simp at hk; unfold in64; omega, trivial⟩, by decide, by decide⟩, ht1⟩
    unfold B_make_Declared
    rw [e1, kb_some, h0, hb, kb_some, cnd_true]
theorem s_ref07_Sign {key node seq : Int} {x : Tru} (h : DOk ⟨node, seq, x, 0⟩) : G_ref07_Sign key node seq x = some (⟨node, seq, x, tagV key (bytesV ⟨node, seq, x, 0⟩)⟩, 0) := by
  have hl := bytesV_len h
  refine g_ref07_Sign ?_
  unfold B_ref07_Sign
  rw [s_ref07_Plain _ h.2.1.2, plainE_ok h, kb_some]
  simp only [decide_true, cnd_true]
  rw [s_ref07_Bytes h, kb_some, s_ref07_Tag key (by omega), kb_some]
theorem s_Declaration {t : Tape} (ht : Tp t) {keys : List Int} (h1 : 1 ≤ (keys.length : Int)) (h2 : (keys.length : Int) ≤ 10) : ∃ d t' k, G_make_Declaration t keys = some (d, t') ∧ (DOk d ∧ (keys[d.f0.toNat]? = some k ∧ d.f3 = tagV k (bytesV d))) ∧ Tp t' := by
  obtain ⟨v, t1, e1, hv, ht1⟩ := s_N ht (n := (keys.length : Int)) (by omega) (by omega)
  have hlt : v.toNat < keys.length := by omega
  obtain ⟨q, t2, e2, hq, ht2⟩ := s_Range ht1 (a := 1) (b := 4) (by omega) (by omega) (by omega)
  obtain ⟨x, t3, e3, hx, ht3⟩ := s_Declared ht2 (keys.length : Int) h1 h2
  have hd : DOk ⟨v, q, x, 0⟩ := ⟨⟨by show 0 ≤ v ∧ v < 10; omega, by show 1 ≤ q ∧ q ≤ 30; omega⟩, hx⟩
  have hb : ∀ T : Int, bytesV ⟨v, q, x, 0⟩ = bytesV ⟨v, q, x, T⟩ := fun _ => rfl
  generalize hT : tagV keys[v.toNat] (bytesV ⟨v, q, x, 0⟩) = T
  refine ⟨⟨v, q, x, T⟩, t3, keys[v.toNat], g_make_Declaration ?_, ⟨⟨hd.1, hd.2⟩, by simp [hlt], by rw [← hb]; exact hT.symm⟩, ht3⟩
  unfold B_make_Declaration
  rw [e1, kb_some]
  dsimp only
  rw [getI_some hv.1 hlt, kb_some, e2, kb_some]
  dsimp only
  rw [e3, kb_some]
  dsimp only
  rw [s_ref07_Sign hd, kb_some, hT]
end Go.Am

/-
The text of a trust is one to one; the bytes of a declaration are.
-/
namespace Go.Am
open Go
set_option linter.unusedVariables false
set_option linter.unusedSimpArgs false

def Dig (l : List UInt8) : Prop := ∀ b ∈ l, 48 ≤ b.toNat ∧ b.toNat ≤ 57
theorem itoa2_dig {n : Nat} (h : n < 100) : Dig (itoa2 n) := by
  intro b hb
  unfold itoa2 at hb
  split at hb
  · simp only [List.mem_cons, List.not_mem_nil, or_false] at hb
    subst hb
    rw [UInt8.toNat_ofNat']; omega
  · simp only [List.mem_cons, List.not_mem_nil, or_false] at hb
    rcases hb with rfl | rfl <;> rw [UInt8.toNat_ofNat'] <;> omega
theorem itoa2_ne (n : Nat) : itoa2 n ≠ [] := by unfold itoa2; split <;> simp
theorem itoa2_inj {m n : Nat} (hm : m < 100) (hn : n < 100) (h : itoa2 m = itoa2 n) : m = n := by
  have key : ∀ m, m < 100 → ∀ n, n < 100 → itoa2 m = itoa2 n → m = n := by decide +kernel
  exact key m hm n hn h
/-- digits, and then what is none -/
theorem dig_split : ∀ {u v : List UInt8} {r s : List UInt8} {a b : UInt8}, Dig u → Dig v → ¬(48 ≤ a.toNat ∧ a.toNat ≤ 57) → ¬(48 ≤ b.toNat ∧ b.toNat ≤ 57) → u ++ a :: r = v ++ b :: s → u = v ∧ (a = b ∧ r = s)
  | [], [], r, s, a, b, _, _, _, _, h => by simpa using h
  | [], y :: v, r, s, a, b, _, hv, ha, _, h => by
    simp only [List.nil_append, List.cons_append, List.cons.injEq] at h
    exact absurd (h.1 ▸ hv y (by simp)) ha
  | x :: u, [], r, s, a, b, hu, _, _, hb, h => by
    simp only [List.nil_append, List.cons_append, List.cons.injEq] at h
    exact absurd (h.1 ▸ hu x (by simp)) hb
  | x :: u, y :: v, r, s, a, b, hu, hv, ha, hb, h => by
    simp only [List.cons_append, List.cons.injEq] at h
    obtain ⟨h1, h2⟩ := dig_split (fun z hz => hu z (by simp [hz])) (fun z hz => hv z (by simp [hz])) ha hb h.2
    exact ⟨by rw [h.1, h1], h2⟩
/-- what stands behind a word: the next one, or the end -/
def tailW (ws : List (List UInt8)) (r : List UInt8) : List UInt8 := if ws = [] then 41 :: r else 44 :: 32 :: (joinL ws [44, 32] ++ 41 :: r)
theorem join_tail (w : List UInt8) (ws : List (List UInt8)) (r : List UInt8) : joinL (w :: ws) [44, 32] ++ 41 :: r = w ++ tailW ws r := by
  cases ws with
  | nil => simp [joinL, tailW]
  | cons y q => simp [joinL, tailW]
theorem tail_head (ws : List (List UInt8)) (r : List UInt8) : ∃ a q, tailW ws r = a :: q ∧ ((a = 41 ∧ (ws = [] ∧ q = r)) ∨ (a = 44 ∧ (ws ≠ [] ∧ q = 32 :: (joinL ws [44, 32] ++ 41 :: r)))) := by
  unfold tailW
  split
  · exact ⟨41, r, rfl, .inl ⟨rfl, by assumption, rfl⟩⟩
  · exact ⟨44, _, rfl, .inr ⟨rfl, by assumption, rfl⟩⟩
theorem tail_inj {ws vs : List (List UInt8)} {r s : List UInt8} (h : tailW ws r = tailW vs s) : (ws = [] ∧ (vs = [] ∧ r = s)) ∨ (ws ≠ [] ∧ (vs ≠ [] ∧ joinL ws [44, 32] ++ 41 :: r = joinL vs [44, 32] ++ 41 :: s)) := by
  unfold tailW at h
  split at h
  · split at h
    · rename_i h1 h2
      simp only [List.cons.injEq, true_and] at h
      exact .inl ⟨h1, h2, h⟩
    · simp at h
  · split at h
    · simp at h
    · rename_i h1 h2
      simp only [List.cons.injEq, true_and] at h
      exact .inr ⟨h1, h2, h⟩
theorem txt_shape (t : Int) (n : List Int) (i : List Tru) (r : List UInt8) : txtT (.mk t n i) ++ r = itoa2 t.toNat ++ 32 :: (111 :: 102 :: 32 :: 40 :: (joinL (n.map (fun k => itoa2 k.toNat) ++ txtTs i) [44, 32] ++ 41 :: r)) := by
  simp [txtT]
theorem nd_32 : ¬(48 ≤ (32 : UInt8).toNat ∧ (32 : UInt8).toNat ≤ 57) := by decide
theorem nd_41 : ¬(48 ≤ (41 : UInt8).toNat ∧ (41 : UInt8).toNat ≤ 57) := by decide
theorem nd_44 : ¬(48 ≤ (44 : UInt8).toNat ∧ (44 : UInt8).toNat ≤ 57) := by decide
theorem nd_tail {ws : List (List UInt8)} {r : List UInt8} : ∃ a q, tailW ws r = a :: q ∧ (¬(48 ≤ a.toNat ∧ a.toNat ≤ 57) ∧ a ≠ 32) := by
  obtain ⟨a, q, h, h1 | h1⟩ := tail_head ws r
  · exact ⟨a, q, h, by rw [h1.1]; exact nd_41, by rw [h1.1]; decide⟩
  · exact ⟨a, q, h, by rw [h1.1]; exact nd_44, by rw [h1.1]; decide⟩
theorem inner_inj (i : List Tru) (ih : ∀ x ∈ i, ∀ y r s, dec2 x → dec2 y → txtT x ++ r = txtT y ++ s → x = y ∧ r = s) : ∀ (j : List Tru) (r s : List UInt8), dec2s i → dec2s j →
    joinL (txtTs i) [44, 32] ++ 41 :: r = joinL (txtTs j) [44, 32] ++ 41 :: s → i = j ∧ r = s := by
  have first : ∀ (x : Tru) (ws : List (List UInt8)) (r s : List UInt8), dec2 x → txtT x ++ tailW ws r ≠ 41 :: s := by
    intro x ws r s hx h
    obtain ⟨t, n, i⟩ := x
    rw [txt_shape] at h
    have hd := itoa2_dig (n := t.toNat) (by have := hx.1; omega)
    cases hi : itoa2 t.toNat with
    | nil => exact itoa2_ne _ hi
    | cons a q =>
      rw [hi] at h hd
      simp only [List.cons_append, List.cons.injEq] at h
      have := hd a (by simp)
      rw [h.1] at this
      exact nd_41 this
  induction i with
  | nil =>
    intro j r s _ hj h
    cases j with
    | nil => simpa [txtTs, joinL] using h
    | cons y j =>
      exfalso
      rw [show txtTs (y :: j) = txtT y :: txtTs j from rfl, join_tail] at h
      exact first y _ _ r hj.1 (by simpa [txtTs, joinL] using h.symm)
  | cons x i ihi =>
    intro j r s hi hj h
    cases j with
    | nil =>
      exfalso
      rw [show txtTs (x :: i) = txtT x :: txtTs i from rfl, join_tail] at h
      exact first x _ _ s hi.1 (by simpa [txtTs, joinL] using h)
    | cons y j =>
      rw [show txtTs (x :: i) = txtT x :: txtTs i from rfl, show txtTs (y :: j) = txtT y :: txtTs j from rfl, join_tail, join_tail] at h
      obtain ⟨h1, h2⟩ := ih x (by simp) y _ _ hi.1 hj.1 h
      subst h1
      rcases tail_inj h2 with ⟨e1, e2, e3⟩ | ⟨e1, e2, e3⟩
      · have : i = [] := by cases i with
          | nil => rfl
          | cons _ _ => simp [txtTs] at e1
        have : j = [] := by cases j with
          | nil => rfl
          | cons _ _ => simp [txtTs] at e2
        simp_all
      · obtain ⟨h3, h4⟩ := ihi (fun z hz => ih z (by simp [hz])) j r s hi.2 hj.2 e3
        exact ⟨by rw [h3], h4⟩
theorem nodes_inj (i : List Tru) (ih : ∀ x ∈ i, ∀ y r s, dec2 x → dec2 y → txtT x ++ r = txtT y ++ s → x = y ∧ r = s) : ∀ (n m : List Int) (j : List Tru) (r s : List UInt8), (∀ k ∈ n, 0 ≤ k ∧ k < 100) → (∀ k ∈ m, 0 ≤ k ∧ k < 100) → dec2s i → dec2s j →
    joinL (n.map (fun k => itoa2 k.toNat) ++ txtTs i) [44, 32] ++ 41 :: r = joinL (m.map (fun k => itoa2 k.toNat) ++ txtTs j) [44, 32] ++ 41 :: s → n = m ∧ (i = j ∧ r = s) := by
  -- a number stands where a trust or the end stands: never
  have clash : ∀ (k : Int) (ws : List (List UInt8)) (r : List UInt8) (j : List Tru) (s : List UInt8), 0 ≤ k ∧ k < 100 → dec2s j → itoa2 k.toNat ++ tailW ws r ≠ joinL (txtTs j) [44, 32] ++ 41 :: s := by
    intro k ws r j s hk hj h
    obtain ⟨a, q, ha, hn, h32⟩ := nd_tail (ws := ws) (r := r)
    have hd := itoa2_dig (n := k.toNat) (by omega)
    rw [ha] at h
    cases j with
    | nil =>
      have e : itoa2 k.toNat ++ a :: q = [] ++ 41 :: s := by simpa [txtTs, joinL] using h
      exact itoa2_ne _ (dig_split hd (fun _ hb => by cases hb) hn nd_41 e).1
    | cons y j =>
      obtain ⟨t, n', i'⟩ := y
      rw [show txtTs (.mk t n' i' :: j) = txtT (.mk t n' i') :: txtTs j from rfl, join_tail, txt_shape] at h
      exact h32 (dig_split hd (itoa2_dig (by have := hj.1.1; omega)) hn nd_32 h).2.1
  intro n
  induction n with
  | nil =>
    intro m j r s _ hm hi hj h
    cases m with
    | nil => exact ⟨rfl, inner_inj i ih j r s hi hj (by simpa using h)⟩
    | cons k m =>
      exfalso
      rw [List.map_cons, List.cons_append, join_tail] at h
      exact clash k _ s i r (hm k (by simp)) hi (by simpa using h.symm)
  | cons k n ihn =>
    intro m j r s hn hm hi hj h
    cases m with
    | nil =>
      exfalso
      rw [List.map_cons, List.cons_append, join_tail] at h
      exact clash k _ r j s (hn k (by simp)) hj (by simpa using h)
    | cons k' m =>
      rw [List.map_cons, List.cons_append, join_tail, List.map_cons, List.cons_append, join_tail] at h
      obtain ⟨a, q, ha, hna, _⟩ := nd_tail (ws := n.map (fun k => itoa2 k.toNat) ++ txtTs i) (r := r)
      obtain ⟨b, p, hb, hnb, _⟩ := nd_tail (ws := m.map (fun k => itoa2 k.toNat) ++ txtTs j) (r := s)
      have hk := hn k (by simp)
      have hk' := hm k' (by simp)
      rw [ha, hb] at h
      obtain ⟨h1, h2, h3⟩ := dig_split (itoa2_dig (by omega)) (itoa2_dig (by omega)) hna hnb h
      have ek : k = k' := by
        have := itoa2_inj (by omega) (by omega) h1
        omega
      have et : tailW (n.map (fun k => itoa2 k.toNat) ++ txtTs i) r = tailW (m.map (fun k => itoa2 k.toNat) ++ txtTs j) s := by rw [ha, hb, h2, h3]
      rcases tail_inj et with ⟨e1, e2, e3⟩ | ⟨e1, e2, e3⟩
      · simp only [List.append_eq_nil_iff, List.map_eq_nil_iff] at e1 e2
        have hi0 : i = [] := by cases i with
          | nil => rfl
          | cons _ _ => simp [txtTs] at e1
        have hj0 : j = [] := by cases j with
          | nil => rfl
          | cons _ _ => simp [txtTs] at e2
        rw [e1.1, e2.1, ek, hi0, hj0, e3]
        simp
      · obtain ⟨g1, g2, g3⟩ := ihn m j r s (fun z hz => hn z (by simp [hz])) (fun z hz => hm z (by simp [hz])) hi hj e3
        exact ⟨by rw [ek, g1], g2, g3⟩
theorem txt_pre : ∀ x : Tru, ∀ y r s, dec2 x → dec2 y → txtT x ++ r = txtT y ++ s → x = y ∧ r = s := by
  refine tru_ind fun t n i ih y r s hx hy h => ?_
  obtain ⟨u, m, j⟩ := y
  rw [txt_shape, txt_shape] at h
  have h1 := hx.1
  have h2 := hy.1
  obtain ⟨e1, _, e2⟩ := dig_split (itoa2_dig (by omega)) (itoa2_dig (by omega)) nd_32 nd_32 h
  have et : t = u := by
    have := itoa2_inj (by omega) (by omega) e1
    omega
  simp only [List.cons.injEq, true_and] at e2
  obtain ⟨g1, g2, g3⟩ := nodes_inj i ih n m j r s hx.2.1 hy.2.1 hx.2.2 hy.2.2 e2
  exact ⟨by rw [et, g1, g2], g3⟩
theorem txt_inj {x y : Tru} (hx : dec2 x) (hy : dec2 y) (h : txtT x = txtT y) : x = y :=
  (txt_pre x y [] [] hx hy (by rw [h])).1
end Go.Am

/-
How declaration.copied runs, as a pure function.
-/
namespace Go.Am
open Go Go.Proofs
set_option linter.unusedVariables false
set_option linter.unusedSimpArgs false
set_option maxRecDepth 4000
set_option maxHeartbeats 4000000
noncomputable def B_declaration_copied_0 (p0 : Tru) (i3 : Nat) (xb1_6_2_0 : (List Tru)) (e4 : Tru) : Option (List Tru) :=
  kb (G_declaration_copied e4) fun y4 =>
  kb (appK xb1_6_2_0 ([y4] : List Tru) 56) fun L6 =>
  some L6
def I_declaration_copied_0 (p0 : Tru) (i3 : Nat) (xb1_6_2_0 : (List Tru)) (q : St) : Prop := q (.t 13) = (.pv (.sl p0.inner.length (encTs p0.inner))) ∧ q (.t 14) = (i64 (p0.inner.length : Int)) ∧ q (.t 15) = (i64 (i3 : Int)) ∧ (∃ (g : Nat), q (.t 2) = .ptr (.site 0 1 0) g 0 ∧ q (.i (.site 0 1 0)) = .box g [(i64 0), .nilsl, .nilsl]) ∧ (∃ (g : Nat) (w0 : AV) (w1 : AV), q (.t 3) = .ptr (.site 1 6 0) g 0 ∧ q (.i (.site 1 6 0)) = .box g [(i64 p0.thr), w0, w1] ∧ (ownAt q w0 (.site 1 4 0) false 1 p0.nodes.length (ints p0.nodes) ∨ (w0 = .nilsl ∧ p0.nodes = [])) ∧ (ownAt q w1 (.site 5 5 0) false 3 xb1_6_2_0.length (encTs xb1_6_2_0) ∨ (w1 = .nilsl ∧ xb1_6_2_0 = [])))
def Q_declaration_copied_0 (p0 : Tru) (xb1_6_2_0 : (List Tru)) (q : St) : Prop := (∃ (g : Nat), q (.t 2) = .ptr (.site 0 1 0) g 0 ∧ q (.i (.site 0 1 0)) = .box g [(i64 0), .nilsl, .nilsl]) ∧ (∃ (g : Nat) (w0 : AV) (w1 : AV), q (.t 3) = .ptr (.site 1 6 0) g 0 ∧ q (.i (.site 1 6 0)) = .box g [(i64 p0.thr), w0, w1] ∧ (ownAt q w0 (.site 1 4 0) false 1 p0.nodes.length (ints p0.nodes) ∨ (w0 = .nilsl ∧ p0.nodes = [])) ∧ (ownAt q w1 (.site 5 5 0) false 3 xb1_6_2_0.length (encTs xb1_6_2_0) ∨ (w1 = .nilsl ∧ xb1_6_2_0 = [])))
theorem Pb_declaration_copied_0 {p0 : Tru} {i3 : Nat} {xb1_6_2_0 : (List Tru)} {e4 : Tru} {q : St} {r : (List Tru)} (hx : p0.inner[i3]? = some e4) (hi : i3 < p0.inner.length) (hn : p0.inner.length < 4611686018427387904) (hI : I_declaration_copied_0 p0 i3 xb1_6_2_0 q) (hB : B_declaration_copied_0 p0 i3 xb1_6_2_0 e4 = some r) : Res (C Tryd.prog cf (Code.fst (Code.fst (Code.snd (Code.fst (Code.snd (Code.snd ((Tryd.f26.body).getD .skip))))))) q) (postG (fun a q => I_declaration_copied_0 p0 (i3 + 1) a q) r) := by
  have hi3 : (i3 : Int) < (p0.inner.length : Int) := by omega
  have hi2 := decide_eq_true hi3
  have hi4 := idx_step hi hn
  have hi5 := ne_of_get hx
  simp only [I_declaration_copied_0] at hI
  obtain ⟨q1, q2, q3, ⟨g5, q4, q5⟩, ⟨g7, v7_w0, v7_w1, q6, q7, a7_w0, a7_w1⟩⟩ := hI
  simp only [Code.fst, Code.snd, Tryd.f26, Option.getD_some]
  generalize hr4 : Code.region 4 _ _ = rr4
  generalize hr5 : Code.region 5 _ _ = rr5
  unfold B_declaration_copied_0 at hB
  rcases a7_w0 with ⟨ga7_w0, rfl, oa7_w0⟩ | ⟨rfl, ea7_w0⟩
  · rcases a7_w1 with ⟨ga7_w1, rfl, oa7_w1⟩ | ⟨rfl, ea7_w1⟩
    · have l3 := encTs_ld hx
      obtain ⟨y4, k5, hB⟩ := kb_inv hB
      replace k5 := run_declaration_copied k5
      try simp only [Int.cast_ofNat_Int, Int.natCast_zero, List.length_cons, List.length_nil, List.nil_append, List.cons_append, Nat.zero_add, Nat.reduceAdd, Tru.thr_mk, Tru.nodes_mk, Tru.inner_mk, ints_cons, ints_nil, encTs_cons, encTs_nil, es_str_cons, es_str_nil, es_u64_cons, es_u64_nil, es_u8_cons, es_u8_nil] at k5
      try dsimp only at hB
      obtain ⟨L6, a7, hB⟩ := kb_inv hB
      obtain ⟨a7z, a7a, a7y⟩ := appK_inv a7
      try (simp only [List.nil_append] at a7z; subst a7z)
      have a7b := appK_len a7
      have a7c := encTs_appK a7
      have a7d := appK_le a7
      try simp only [Int.cast_ofNat_Int, Int.natCast_zero, List.length_cons, List.length_nil, List.nil_append, List.cons_append, Nat.zero_add, Nat.reduceAdd, Tru.thr_mk, Tru.nodes_mk, Tru.inner_mk, ints_cons, ints_nil, encTs_cons, encTs_nil, es_str_cons, es_str_nil, es_u64_cons, es_u64_nil, es_u8_cons, es_u8_nil] at a7a a7b a7c
      try replace a7b : _ = (1 : Nat) := a7b.symm
      try dsimp only at hB
      obtain rfl := Option.some.inj hB
      subst hr4
      subst hr5
      try simp -implicitDefEqProofs [-getElem?_pos, -Int.ofNat_lt, -Int.ofNat_le, -Int.natCast_eq_zero, -Int.natCast_pos, -List.length_eq_zero_iff, List.getElem?_cons_zero, List.getElem?_cons_succ, List.getElem?_nil, q1, q2, q3, q4, q5, q6, q7, oa7_w0, oa7_w1, hx, hi2, hi3, hi4, hi5, l3, k5, a7a, a7b, a7c, a7d]
      rw [drawK_ok _ _ _ (by kernel_rfl)]
      simp -implicitDefEqProofs [-getElem?_pos, -Int.ofNat_lt, -Int.ofNat_le, -Int.natCast_eq_zero, -Int.natCast_pos, -List.length_eq_zero_iff, List.getElem?_cons_zero, List.getElem?_cons_succ, List.getElem?_nil, q1, q2, q3, q4, q5, q6, q7, oa7_w0, oa7_w1, hx, hi2, hi3, hi4, hi5, l3, k5, a7a, a7b, a7c, a7d]
      refine Res.g ?_
      simp -implicitDefEqProofs [-getElem?_pos, -Int.ofNat_lt, -Int.ofNat_le, -Int.natCast_eq_zero, -Int.natCast_pos, -List.length_eq_zero_iff, List.getElem?_cons_zero, List.getElem?_cons_succ, List.getElem?_nil, and_assoc, I_declaration_copied_0, ownAt, q1, q2, q3, q4, q5, q6, q7, oa7_w0, oa7_w1, hx, hi2, hi3, hi4, hi5, l3, k5, a7a, a7b, a7c, a7d]
    · try subst ea7_w1
      have l3 := encTs_ld hx
      obtain ⟨y4, k5, hB⟩ := kb_inv hB
      replace k5 := run_declaration_copied k5
      try simp only [Int.cast_ofNat_Int, Int.natCast_zero, List.length_cons, List.length_nil, List.nil_append, List.cons_append, Nat.zero_add, Nat.reduceAdd, Tru.thr_mk, Tru.nodes_mk, Tru.inner_mk, ints_cons, ints_nil, encTs_cons, encTs_nil, es_str_cons, es_str_nil, es_u64_cons, es_u64_nil, es_u8_cons, es_u8_nil] at k5
      try dsimp only at hB
      obtain ⟨L6, a7, hB⟩ := kb_inv hB
      obtain ⟨a7z, a7a, a7y⟩ := appK_inv a7
      simp only [List.nil_append] at a7z
      subst a7z
      try dsimp only at hB
      obtain rfl := Option.some.inj hB
      subst hr4
      subst hr5
      try simp -implicitDefEqProofs [-getElem?_pos, -Int.ofNat_lt, -Int.ofNat_le, -Int.natCast_eq_zero, -Int.natCast_pos, -List.length_eq_zero_iff, List.getElem?_cons_zero, List.getElem?_cons_succ, List.getElem?_nil, q1, q2, q3, q4, q5, q6, q7, oa7_w0, hx, hi2, hi3, hi4, hi5, l3, k5]
      rw [drawK_ok _ _ _ (by kernel_rfl)]
      simp -implicitDefEqProofs [-getElem?_pos, -Int.ofNat_lt, -Int.ofNat_le, -Int.natCast_eq_zero, -Int.natCast_pos, -List.length_eq_zero_iff, List.getElem?_cons_zero, List.getElem?_cons_succ, List.getElem?_nil, q1, q2, q3, q4, q5, q6, q7, oa7_w0, hx, hi2, hi3, hi4, hi5, l3, k5]
      refine Res.g ?_
      simp -implicitDefEqProofs [-getElem?_pos, -Int.ofNat_lt, -Int.ofNat_le, -Int.natCast_eq_zero, -Int.natCast_pos, -List.length_eq_zero_iff, List.getElem?_cons_zero, List.getElem?_cons_succ, List.getElem?_nil, and_assoc, I_declaration_copied_0, ownAt, q1, q2, q3, q4, q5, q6, q7, oa7_w0, hx, hi2, hi3, hi4, hi5, l3, k5]
  · rcases a7_w1 with ⟨ga7_w1, rfl, oa7_w1⟩ | ⟨rfl, ea7_w1⟩
    · have l3 := encTs_ld hx
      obtain ⟨y4, k5, hB⟩ := kb_inv hB
      replace k5 := run_declaration_copied k5
      try simp only [Int.cast_ofNat_Int, Int.natCast_zero, List.length_cons, List.length_nil, List.nil_append, List.cons_append, Nat.zero_add, Nat.reduceAdd, Tru.thr_mk, Tru.nodes_mk, Tru.inner_mk, ints_cons, ints_nil, encTs_cons, encTs_nil, es_str_cons, es_str_nil, es_u64_cons, es_u64_nil, es_u8_cons, es_u8_nil] at k5
      try dsimp only at hB
      obtain ⟨L6, a7, hB⟩ := kb_inv hB
      obtain ⟨a7z, a7a, a7y⟩ := appK_inv a7
      try (simp only [List.nil_append] at a7z; subst a7z)
      have a7b := appK_len a7
      have a7c := encTs_appK a7
      have a7d := appK_le a7
      try simp only [Int.cast_ofNat_Int, Int.natCast_zero, List.length_cons, List.length_nil, List.nil_append, List.cons_append, Nat.zero_add, Nat.reduceAdd, Tru.thr_mk, Tru.nodes_mk, Tru.inner_mk, ints_cons, ints_nil, encTs_cons, encTs_nil, es_str_cons, es_str_nil, es_u64_cons, es_u64_nil, es_u8_cons, es_u8_nil] at a7a a7b a7c
      try replace a7b : _ = (1 : Nat) := a7b.symm
      try dsimp only at hB
      obtain rfl := Option.some.inj hB
      subst hr4
      subst hr5
      try simp -implicitDefEqProofs [-getElem?_pos, -Int.ofNat_lt, -Int.ofNat_le, -Int.natCast_eq_zero, -Int.natCast_pos, -List.length_eq_zero_iff, List.getElem?_cons_zero, List.getElem?_cons_succ, List.getElem?_nil, q1, q2, q3, q4, q5, q6, q7, ea7_w0, oa7_w1, hx, hi2, hi3, hi4, hi5, l3, k5, a7a, a7b, a7c, a7d]
      rw [drawK_ok _ _ _ (by kernel_rfl)]
      simp -implicitDefEqProofs [-getElem?_pos, -Int.ofNat_lt, -Int.ofNat_le, -Int.natCast_eq_zero, -Int.natCast_pos, -List.length_eq_zero_iff, List.getElem?_cons_zero, List.getElem?_cons_succ, List.getElem?_nil, q1, q2, q3, q4, q5, q6, q7, ea7_w0, oa7_w1, hx, hi2, hi3, hi4, hi5, l3, k5, a7a, a7b, a7c, a7d]
      refine Res.g ?_
      simp -implicitDefEqProofs [-getElem?_pos, -Int.ofNat_lt, -Int.ofNat_le, -Int.natCast_eq_zero, -Int.natCast_pos, -List.length_eq_zero_iff, List.getElem?_cons_zero, List.getElem?_cons_succ, List.getElem?_nil, and_assoc, I_declaration_copied_0, ownAt, q1, q2, q3, q4, q5, q6, q7, ea7_w0, oa7_w1, hx, hi2, hi3, hi4, hi5, l3, k5, a7a, a7b, a7c, a7d]
    · try subst ea7_w1
      have l3 := encTs_ld hx
      obtain ⟨y4, k5, hB⟩ := kb_inv hB
      replace k5 := run_declaration_copied k5
      try simp only [Int.cast_ofNat_Int, Int.natCast_zero, List.length_cons, List.length_nil, List.nil_append, List.cons_append, Nat.zero_add, Nat.reduceAdd, Tru.thr_mk, Tru.nodes_mk, Tru.inner_mk, ints_cons, ints_nil, encTs_cons, encTs_nil, es_str_cons, es_str_nil, es_u64_cons, es_u64_nil, es_u8_cons, es_u8_nil] at k5
      try dsimp only at hB
      obtain ⟨L6, a7, hB⟩ := kb_inv hB
      obtain ⟨a7z, a7a, a7y⟩ := appK_inv a7
      simp only [List.nil_append] at a7z
      subst a7z
      try dsimp only at hB
      obtain rfl := Option.some.inj hB
      subst hr4
      subst hr5
      try simp -implicitDefEqProofs [-getElem?_pos, -Int.ofNat_lt, -Int.ofNat_le, -Int.natCast_eq_zero, -Int.natCast_pos, -List.length_eq_zero_iff, List.getElem?_cons_zero, List.getElem?_cons_succ, List.getElem?_nil, q1, q2, q3, q4, q5, q6, q7, ea7_w0, hx, hi2, hi3, hi4, hi5, l3, k5]
      rw [drawK_ok _ _ _ (by kernel_rfl)]
      simp -implicitDefEqProofs [-getElem?_pos, -Int.ofNat_lt, -Int.ofNat_le, -Int.natCast_eq_zero, -Int.natCast_pos, -List.length_eq_zero_iff, List.getElem?_cons_zero, List.getElem?_cons_succ, List.getElem?_nil, q1, q2, q3, q4, q5, q6, q7, ea7_w0, hx, hi2, hi3, hi4, hi5, l3, k5]
      refine Res.g ?_
      simp -implicitDefEqProofs [-getElem?_pos, -Int.ofNat_lt, -Int.ofNat_le, -Int.natCast_eq_zero, -Int.natCast_pos, -List.length_eq_zero_iff, List.getElem?_cons_zero, List.getElem?_cons_succ, List.getElem?_nil, and_assoc, I_declaration_copied_0, ownAt, q1, q2, q3, q4, q5, q6, q7, ea7_w0, hx, hi2, hi3, hi4, hi5, l3, k5]
theorem Pe_declaration_copied_0 {p0 : Tru} {xb1_6_2_0 : (List Tru)} {q : St} (hI : I_declaration_copied_0 p0 p0.inner.length xb1_6_2_0 q) : Res (C Tryd.prog cf (Code.fst (Code.fst (Code.snd (Code.fst (Code.snd (Code.snd ((Tryd.f26.body).getD .skip))))))) q) fun e q' => e = .exit 0 ∧ Q_declaration_copied_0 p0 xb1_6_2_0 q' := by
  simp only [I_declaration_copied_0] at hI
  obtain ⟨q1, q2, q3, ⟨g5, q4, q5⟩, ⟨g7, v7_w0, v7_w1, q6, q7, a7_w0, a7_w1⟩⟩ := hI
  simp only [Code.fst, Code.snd, Tryd.f26, Option.getD_some]
  rcases a7_w0 with ⟨ga7_w0, rfl, oa7_w0⟩ | ⟨rfl, ea7_w0⟩
  · rcases a7_w1 with ⟨ga7_w1, rfl, oa7_w1⟩ | ⟨rfl, ea7_w1⟩
    · simp -implicitDefEqProofs [-getElem?_pos, -Int.ofNat_lt, -Int.ofNat_le, -Int.natCast_eq_zero, -Int.natCast_pos, -List.length_eq_zero_iff, List.getElem?_cons_zero, List.getElem?_cons_succ, List.getElem?_nil, q1, q2, q3, q4, q5, q6, q7, oa7_w0, oa7_w1]
      refine Res.x ?_
      simp -implicitDefEqProofs [-getElem?_pos, -Int.ofNat_lt, -Int.ofNat_le, -Int.natCast_eq_zero, -Int.natCast_pos, -List.length_eq_zero_iff, List.getElem?_cons_zero, List.getElem?_cons_succ, List.getElem?_nil, and_assoc, Q_declaration_copied_0, ownAt, q1, q2, q3, q4, q5, q6, q7, oa7_w0, oa7_w1]
    · try subst ea7_w1
      simp -implicitDefEqProofs [-getElem?_pos, -Int.ofNat_lt, -Int.ofNat_le, -Int.natCast_eq_zero, -Int.natCast_pos, -List.length_eq_zero_iff, List.getElem?_cons_zero, List.getElem?_cons_succ, List.getElem?_nil, q1, q2, q3, q4, q5, q6, q7, oa7_w0]
      refine Res.x ?_
      simp -implicitDefEqProofs [-getElem?_pos, -Int.ofNat_lt, -Int.ofNat_le, -Int.natCast_eq_zero, -Int.natCast_pos, -List.length_eq_zero_iff, List.getElem?_cons_zero, List.getElem?_cons_succ, List.getElem?_nil, and_assoc, Q_declaration_copied_0, ownAt, q1, q2, q3, q4, q5, q6, q7, oa7_w0]
  · rcases a7_w1 with ⟨ga7_w1, rfl, oa7_w1⟩ | ⟨rfl, ea7_w1⟩
    · simp -implicitDefEqProofs [-getElem?_pos, -Int.ofNat_lt, -Int.ofNat_le, -Int.natCast_eq_zero, -Int.natCast_pos, -List.length_eq_zero_iff, List.getElem?_cons_zero, List.getElem?_cons_succ, List.getElem?_nil, q1, q2, q3, q4, q5, q6, q7, ea7_w0, oa7_w1]
      refine Res.x ?_
      simp -implicitDefEqProofs [-getElem?_pos, -Int.ofNat_lt, -Int.ofNat_le, -Int.natCast_eq_zero, -Int.natCast_pos, -List.length_eq_zero_iff, List.getElem?_cons_zero, List.getElem?_cons_succ, List.getElem?_nil, and_assoc, Q_declaration_copied_0, ownAt, q1, q2, q3, q4, q5, q6, q7, ea7_w0, oa7_w1]
    · try subst ea7_w1
      simp -implicitDefEqProofs [-getElem?_pos, -Int.ofNat_lt, -Int.ofNat_le, -Int.natCast_eq_zero, -Int.natCast_pos, -List.length_eq_zero_iff, List.getElem?_cons_zero, List.getElem?_cons_succ, List.getElem?_nil, q1, q2, q3, q4, q5, q6, q7, ea7_w0]
      refine Res.x ?_
      simp -implicitDefEqProofs [-getElem?_pos, -Int.ofNat_lt, -Int.ofNat_le, -Int.natCast_eq_zero, -Int.natCast_pos, -List.length_eq_zero_iff, List.getElem?_cons_zero, List.getElem?_cons_succ, List.getElem?_nil, and_assoc, Q_declaration_copied_0, ownAt, q1, q2, q3, q4, q5, q6, q7, ea7_w0]
theorem P_declaration_copied_0 {p0 : Tru} {xb1_6_2_0 : (List Tru)} {cc : Code} (hcc : cc = .block 0 (.loop (Code.fst (Code.fst (Code.snd (Code.fst (Code.snd (Code.snd ((Tryd.f26.body).getD .skip))))))))) {s : St} {z : Option (Ex × St)} (hz : C Tryd.prog cf cc s = z) {r : (List Tru)} (hn : p0.inner.length < 4611686018427387904) (hI : I_declaration_copied_0 p0 0 xb1_6_2_0 s) (hB : foldO (fun i a x => B_declaration_copied_0 p0 i a x) 0 xb1_6_2_0 p0.inner = some r) : Res z (postG (fun a q => Q_declaration_copied_0 p0 a q) r) := by
  subst hcc
  exact fold_sim (I := fun i a q => I_declaration_copied_0 p0 i a q) (Q := (fun a q => Q_declaration_copied_0 p0 a q)) (fun i x a q r hx hi h hB => Pb_declaration_copied_0 hx hi hn h hB) (fun a q h => Pe_declaration_copied_0 h) hI hz hB
noncomputable def B_declaration_copied (p0 : Tru) : Option Tru :=
  kb (appK ([] : (List Int)) p0.nodes 8) fun _ =>
  kb (smallK p0.inner) fun _ =>
  kb (foldO (fun i a x => B_declaration_copied_0 p0 i a x) 0 ([] : (List Tru)) p0.inner) fun z8 =>
  some (Tru.mk p0.thr p0.nodes z8)
theorem sim_declaration_copied {p0 : Tru} {r : Tru} (hB : B_declaration_copied p0 = some r) : R 26 [(.agg [(i64 p0.thr), (.pv (.sl p0.nodes.length (ints p0.nodes))), (.pv (.sl p0.inner.length (encTs p0.inner)))])] [] = some ((.agg [(i64 r.thr), (.pv (.sl r.nodes.length (ints r.nodes))), (.pv (.sl r.inner.length (encTs r.inner)))]), [], []) := by
  rw [R_eq _ _ _ fn_declaration_copied]
  simp only [Code.fst, Code.snd, Tryd.f26, Option.getD_some]
  generalize hc0 : Code.block 0 _ = cc0
  generalize hr1 : Code.region 1 _ _ = rr1
  generalize hr2 : Code.region 2 _ _ = rr2
  unfold B_declaration_copied at hB
  obtain ⟨_, a2, hB⟩ := kb_inv hB
  obtain ⟨a2z, a2a, a2y⟩ := appK_inv a2
  try dsimp only at hB
  rcases appK_cases a2 with a2e | a2e
  · have a2e2 := List.eq_nil_of_length_eq_zero a2e
    subst hr1
    subst hr2
    try simp -implicitDefEqProofs [-getElem?_pos, -Int.ofNat_lt, -Int.ofNat_le, -Int.natCast_eq_zero, -Int.natCast_pos, -List.length_eq_zero_iff, List.getElem?_cons_zero, List.getElem?_cons_succ, List.getElem?_nil, a2e, a2e2]
    rw [drawK_ok _ _ _ (by kernel_rfl)]
    simp -implicitDefEqProofs [-getElem?_pos, -Int.ofNat_lt, -Int.ofNat_le, -Int.natCast_eq_zero, -Int.natCast_pos, -List.length_eq_zero_iff, List.getElem?_cons_zero, List.getElem?_cons_succ, List.getElem?_nil, a2e, a2e2]
    generalize hz0 : C Tryd.prog cf cc0 _ = z0
    obtain ⟨_, hsm, hB⟩ := kb_inv hB
    obtain ⟨z8, hB1, hB⟩ := kb_inv hB
    have hJ := P_declaration_copied_0 (hc0.symm.trans (by kernel_rfl)) hz0 (smallK_inv hsm) (by simp -implicitDefEqProofs [-getElem?_pos, -Int.ofNat_lt, -Int.ofNat_le, -Int.natCast_eq_zero, -Int.natCast_pos, -List.length_eq_zero_iff, List.getElem?_cons_zero, List.getElem?_cons_succ, List.getElem?_nil, and_assoc, I_declaration_copied_0, ownAt, a2e, a2e2]) hB1
    obtain ⟨e0, s0, rfl, hq⟩ := hJ.open
    clear hB1
    obtain ⟨rfl, hq⟩ := hq
    simp only [Q_declaration_copied_0] at hq
    obtain ⟨⟨g8_2, q8_1, q8_2⟩, ⟨g8_4, v8_4_w0, v8_4_w1, q8_3, q8_4, a8_4_w0, a8_4_w1⟩⟩ := hq
    rcases a8_4_w0 with ⟨ga8_4_w0, rfl, oa8_4_w0⟩ | ⟨rfl, ea8_4_w0⟩
    · rcases a8_4_w1 with ⟨ga8_4_w1, rfl, oa8_4_w1⟩ | ⟨rfl, ea8_4_w1⟩
      · obtain rfl := Option.some.inj hB
        simp -implicitDefEqProofs [-getElem?_pos, -Int.ofNat_lt, -Int.ofNat_le, -Int.natCast_eq_zero, -Int.natCast_pos, -List.length_eq_zero_iff, List.getElem?_cons_zero, List.getElem?_cons_succ, List.getElem?_nil, q8_1, q8_2, q8_3, q8_4, oa8_4_w0, oa8_4_w1, a2e, a2e2]
      · try subst ea8_4_w1
        obtain rfl := Option.some.inj hB
        simp -implicitDefEqProofs [-getElem?_pos, -Int.ofNat_lt, -Int.ofNat_le, -Int.natCast_eq_zero, -Int.natCast_pos, -List.length_eq_zero_iff, List.getElem?_cons_zero, List.getElem?_cons_succ, List.getElem?_nil, q8_1, q8_2, q8_3, q8_4, oa8_4_w0, a2e, a2e2]
    · rcases a8_4_w1 with ⟨ga8_4_w1, rfl, oa8_4_w1⟩ | ⟨rfl, ea8_4_w1⟩
      · obtain rfl := Option.some.inj hB
        simp -implicitDefEqProofs [-getElem?_pos, -Int.ofNat_lt, -Int.ofNat_le, -Int.natCast_eq_zero, -Int.natCast_pos, -List.length_eq_zero_iff, List.getElem?_cons_zero, List.getElem?_cons_succ, List.getElem?_nil, q8_1, q8_2, q8_3, q8_4, ea8_4_w0, oa8_4_w1, a2e, a2e2]
      · try subst ea8_4_w1
        obtain rfl := Option.some.inj hB
        simp -implicitDefEqProofs [-getElem?_pos, -Int.ofNat_lt, -Int.ofNat_le, -Int.natCast_eq_zero, -Int.natCast_pos, -List.length_eq_zero_iff, List.getElem?_cons_zero, List.getElem?_cons_succ, List.getElem?_nil, q8_1, q8_2, q8_3, q8_4, ea8_4_w0, a2e, a2e2]
  · subst hr1
    subst hr2
    try simp -implicitDefEqProofs [-getElem?_pos, -Int.ofNat_lt, -Int.ofNat_le, -Int.natCast_eq_zero, -Int.natCast_pos, -List.length_eq_zero_iff, List.getElem?_cons_zero, List.getElem?_cons_succ, List.getElem?_nil, a2e, a2y]
    rw [drawK_ok _ _ _ (by kernel_rfl)]
    simp -implicitDefEqProofs [-getElem?_pos, -Int.ofNat_lt, -Int.ofNat_le, -Int.natCast_eq_zero, -Int.natCast_pos, -List.length_eq_zero_iff, List.getElem?_cons_zero, List.getElem?_cons_succ, List.getElem?_nil, a2e, a2y]
    generalize hz0 : C Tryd.prog cf cc0 _ = z0
    obtain ⟨_, hsm, hB⟩ := kb_inv hB
    obtain ⟨z8, hB1, hB⟩ := kb_inv hB
    have hJ := P_declaration_copied_0 (hc0.symm.trans (by kernel_rfl)) hz0 (smallK_inv hsm) (by simp -implicitDefEqProofs [-getElem?_pos, -Int.ofNat_lt, -Int.ofNat_le, -Int.natCast_eq_zero, -Int.natCast_pos, -List.length_eq_zero_iff, List.getElem?_cons_zero, List.getElem?_cons_succ, List.getElem?_nil, and_assoc, I_declaration_copied_0, ownAt, a2e, a2y]) hB1
    obtain ⟨e0, s0, rfl, hq⟩ := hJ.open
    clear hB1
    obtain ⟨rfl, hq⟩ := hq
    simp only [Q_declaration_copied_0] at hq
    obtain ⟨⟨g8_2, q8_1, q8_2⟩, ⟨g8_4, v8_4_w0, v8_4_w1, q8_3, q8_4, a8_4_w0, a8_4_w1⟩⟩ := hq
    rcases a8_4_w0 with ⟨ga8_4_w0, rfl, oa8_4_w0⟩ | ⟨rfl, ea8_4_w0⟩
    · rcases a8_4_w1 with ⟨ga8_4_w1, rfl, oa8_4_w1⟩ | ⟨rfl, ea8_4_w1⟩
      · obtain rfl := Option.some.inj hB
        simp -implicitDefEqProofs [-getElem?_pos, -Int.ofNat_lt, -Int.ofNat_le, -Int.natCast_eq_zero, -Int.natCast_pos, -List.length_eq_zero_iff, List.getElem?_cons_zero, List.getElem?_cons_succ, List.getElem?_nil, q8_1, q8_2, q8_3, q8_4, oa8_4_w0, oa8_4_w1, a2e, a2y]
      · try subst ea8_4_w1
        obtain rfl := Option.some.inj hB
        simp -implicitDefEqProofs [-getElem?_pos, -Int.ofNat_lt, -Int.ofNat_le, -Int.natCast_eq_zero, -Int.natCast_pos, -List.length_eq_zero_iff, List.getElem?_cons_zero, List.getElem?_cons_succ, List.getElem?_nil, q8_1, q8_2, q8_3, q8_4, oa8_4_w0, a2e, a2y]
    · rcases a8_4_w1 with ⟨ga8_4_w1, rfl, oa8_4_w1⟩ | ⟨rfl, ea8_4_w1⟩
      · obtain rfl := Option.some.inj hB
        simp -implicitDefEqProofs [-getElem?_pos, -Int.ofNat_lt, -Int.ofNat_le, -Int.natCast_eq_zero, -Int.natCast_pos, -List.length_eq_zero_iff, List.getElem?_cons_zero, List.getElem?_cons_succ, List.getElem?_nil, q8_1, q8_2, q8_3, q8_4, ea8_4_w0, oa8_4_w1, a2e, a2y]
      · try subst ea8_4_w1
        obtain rfl := Option.some.inj hB
        simp -implicitDefEqProofs [-getElem?_pos, -Int.ofNat_lt, -Int.ofNat_le, -Int.natCast_eq_zero, -Int.natCast_pos, -List.length_eq_zero_iff, List.getElem?_cons_zero, List.getElem?_cons_succ, List.getElem?_nil, q8_1, q8_2, q8_3, q8_4, ea8_4_w0, a2e, a2y]
theorem g_declaration_copied {p0 : Tru} {r : Tru} (hB : B_declaration_copied p0 = some r) : G_declaration_copied p0 = some r := dec_of (fun a b h => by rcases a with ⟨a0_0, a0_1, a0_2⟩; rcases b with ⟨b0_0, b0_1, b0_2⟩; simp at h; simp [*]) (sim_declaration_copied hB)
end Go.Am
