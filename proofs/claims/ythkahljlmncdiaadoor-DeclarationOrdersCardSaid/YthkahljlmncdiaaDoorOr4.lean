/-
Part 4 of the road to the statement: Gf_declaration_Sign, Gf_declaration_Proves, T7e, Gf_cmp_isNaN_int_, Gf_cmp_isNaN_string_, Gf_cmp_Compare_int_, Gf_cmp_Compare_string_, Gf_cmp_Or_int_, Gf_declaration_Compare, T7f, Aw07, Gf_law07_DeclarationOrders, POrders, OpnA.
-/
import Derived.Test.YthkahljlmncdiaaDoorOr3
import Derived.ChangeSlices
import Derived.Handed
/-
How declaration.Sign runs, as a pure function.
-/
namespace Go.Am
open Go Go.Proofs
set_option linter.unusedVariables false
set_option linter.unusedSimpArgs false
set_option maxRecDepth 4000
set_option maxHeartbeats 4000000
noncomputable def B_declaration_Sign (p0 : Int) (p1 : Int) (p2 : Int) (p3 : Tru) : Option (S_api_Declaration × Int) :=
  kb (G_declaration_copied p3) fun y1 =>
  kb (G_declaration_Plain (S_api_Declaration.mk p1 p2 y1 0)) fun y3 =>
  cnd (decide (y3 = 0)) (
    kb (G_declaration_Bytes (S_api_Declaration.mk p1 p2 y1 0)) fun y6 =>
    kb (G_declaration_Tag p0 y6) fun y8 =>
    some ((S_api_Declaration.mk p1 p2 y1 y8), 0)) (
    some ((S_api_Declaration.mk 0 0 (Tru.mk 0 ([] : (List Int)) ([] : (List Tru))) 0), y3))
theorem sim_declaration_Sign {p0 : Int} {p1 : Int} {p2 : Int} {p3 : Tru} {r : (S_api_Declaration × Int)} (hB : B_declaration_Sign p0 p1 p2 p3 = some r) : R 14 [(.pv (.int .u64 p0)), (i64 p1), (i64 p2), (.agg [(i64 p3.thr), (.pv (.sl p3.nodes.length (ints p3.nodes))), (.pv (.sl p3.inner.length (encTs p3.inner)))])] [] = some (.tup [(.agg [(i64 r.1.f0), (i64 r.1.f1), (i64 r.1.f2.thr), (.pv (.sl r.1.f2.nodes.length (ints r.1.f2.nodes))), (.pv (.sl r.1.f2.inner.length (encTs r.1.f2.inner))), (.pv (.int .u64 r.1.f3))]), (i64 r.2)], [], []) := by
  rw [R_eq _ _ _ fn_declaration_Sign]
  simp only [Code.fst, Code.snd, Tryd.f14, Option.getD_some]
  generalize hr1 : Code.region 1 _ _ = rr1
  generalize hr4 : Code.region 4 _ _ = rr4
  generalize hr5 : Code.region 5 _ _ = rr5
  unfold B_declaration_Sign at hB
  obtain ⟨y1, k2, hB⟩ := kb_inv hB
  replace k2 := run_declaration_copied k2
  try simp only [Int.cast_ofNat_Int, Int.natCast_zero, List.length_cons, List.length_nil, List.nil_append, List.cons_append, Nat.zero_add, Nat.reduceAdd, Tru.thr_mk, Tru.nodes_mk, Tru.inner_mk, ints_cons, ints_nil, encTs_cons, encTs_nil, es_str_cons, es_str_nil, es_u64_cons, es_u64_nil, es_u8_cons, es_u8_nil] at k2
  try dsimp only at hB
  obtain ⟨y3, k4, hB⟩ := kb_inv hB
  replace k4 := run_declaration_Plain k4
  try simp only [Int.cast_ofNat_Int, Int.natCast_zero, List.length_cons, List.length_nil, List.nil_append, List.cons_append, Nat.zero_add, Nat.reduceAdd, Tru.thr_mk, Tru.nodes_mk, Tru.inner_mk, ints_cons, ints_nil, encTs_cons, encTs_nil, es_str_cons, es_str_nil, es_u64_cons, es_u64_nil, es_u8_cons, es_u8_nil] at k4
  try dsimp only at hB
  rcases cnd_inv hB with ⟨c5, hB⟩ | ⟨c5, hB⟩
  · have pc5 := eq_true (of_decide_eq_true c5)
    obtain ⟨y6, k7, hB⟩ := kb_inv hB
    replace k7 := run_declaration_Bytes k7
    try simp only [Int.cast_ofNat_Int, Int.natCast_zero, List.length_cons, List.length_nil, List.nil_append, List.cons_append, Nat.zero_add, Nat.reduceAdd, Tru.thr_mk, Tru.nodes_mk, Tru.inner_mk, ints_cons, ints_nil, encTs_cons, encTs_nil, es_str_cons, es_str_nil, es_u64_cons, es_u64_nil, es_u8_cons, es_u8_nil] at k7
    try dsimp only at hB
    obtain ⟨y8, k9, hB⟩ := kb_inv hB
    replace k9 := run_declaration_Tag k9
    try simp only [Int.cast_ofNat_Int, Int.natCast_zero, List.length_cons, List.length_nil, List.nil_append, List.cons_append, Nat.zero_add, Nat.reduceAdd, Tru.thr_mk, Tru.nodes_mk, Tru.inner_mk, ints_cons, ints_nil, encTs_cons, encTs_nil, es_str_cons, es_str_nil, es_u64_cons, es_u64_nil, es_u8_cons, es_u8_nil] at k9
    try dsimp only at hB
    obtain rfl := Option.some.inj hB
    subst hr1
    subst hr5
    simp -implicitDefEqProofs [-getElem?_pos, -Int.ofNat_lt, -Int.ofNat_le, -Int.natCast_eq_zero, -Int.natCast_pos, -List.length_eq_zero_iff, List.getElem?_cons_zero, List.getElem?_cons_succ, List.getElem?_nil, k2, k4, c5, pc5, k7, k9]
  · have pc5 := eq_false (of_decide_eq_false c5)
    obtain rfl := Option.some.inj hB
    subst hr1
    subst hr4
    simp -implicitDefEqProofs [-getElem?_pos, -Int.ofNat_lt, -Int.ofNat_le, -Int.natCast_eq_zero, -Int.natCast_pos, -List.length_eq_zero_iff, List.getElem?_cons_zero, List.getElem?_cons_succ, List.getElem?_nil, k2, k4, c5, pc5]
theorem g_declaration_Sign {p0 : Int} {p1 : Int} {p2 : Int} {p3 : Tru} {r : (S_api_Declaration × Int)} (hB : B_declaration_Sign p0 p1 p2 p3 = some r) : G_declaration_Sign p0 p1 p2 p3 = some r := dec_of (fun a b h => by rcases a with ⟨⟨a0_0, a0_1, ⟨a0_20, a0_21, a0_22⟩, a0_3⟩, a1_⟩; rcases b with ⟨⟨b0_0, b0_1, ⟨b0_20, b0_21, b0_22⟩, b0_3⟩, b1_⟩; simp at h; simp [*]) (sim_declaration_Sign hB)
end Go.Am

/-
How declaration.Proves runs, as a pure function.
-/
namespace Go.Am
open Go Go.Proofs
set_option linter.unusedVariables false
set_option linter.unusedSimpArgs false
set_option maxRecDepth 4000
set_option maxHeartbeats 4000000
noncomputable def B_declaration_Proves_0 (p1 : S_api_Evidence) : Option Bool :=
  cnd (decide (p1.f0.f0 = p1.f1.f0)) (
    some (!(decide (p1.f0.f1 = p1.f1.f1)))) (
    some true)
def J_declaration_Proves_0 (p1 : S_api_Evidence) (q : St) : Prop := (∃ (g : Nat), q (.t 3) = .ptr (.site 0 0 0) g 0 ∧ q (.i (.site 0 0 0)) = .box g [(i64 p1.f0.f0), (i64 p1.f0.f1), (i64 p1.f0.f2.thr), (.pv (.sl p1.f0.f2.nodes.length (ints p1.f0.f2.nodes))), (.pv (.sl p1.f0.f2.inner.length (encTs p1.f0.f2.inner))), (.pv (.int .u64 p1.f0.f3)), (i64 p1.f1.f0), (i64 p1.f1.f1), (i64 p1.f1.f2.thr), (.pv (.sl p1.f1.f2.nodes.length (ints p1.f1.f2.nodes))), (.pv (.sl p1.f1.f2.inner.length (encTs p1.f1.f2.inner))), (.pv (.int .u64 p1.f1.f3))])
def Q_declaration_Proves_0 (p1 : S_api_Evidence) (o36_0 : Bool) (q : St) : Prop := q (.t 36) = (bl o36_0) ∧ (∃ (g : Nat), q (.t 3) = .ptr (.site 0 0 0) g 0 ∧ q (.i (.site 0 0 0)) = .box g [(i64 p1.f0.f0), (i64 p1.f0.f1), (i64 p1.f0.f2.thr), (.pv (.sl p1.f0.f2.nodes.length (ints p1.f0.f2.nodes))), (.pv (.sl p1.f0.f2.inner.length (encTs p1.f0.f2.inner))), (.pv (.int .u64 p1.f0.f3)), (i64 p1.f1.f0), (i64 p1.f1.f1), (i64 p1.f1.f2.thr), (.pv (.sl p1.f1.f2.nodes.length (ints p1.f1.f2.nodes))), (.pv (.sl p1.f1.f2.inner.length (encTs p1.f1.f2.inner))), (.pv (.int .u64 p1.f1.f3))])
theorem P_declaration_Proves_0 {p1 : S_api_Evidence} {cc : Code} (hcc : cc = (Code.fst (Code.fst (Code.snd (Code.snd (Code.snd ((Tryd.f15.body).getD .skip))))))) {s : St} {z : Option (Ex × St)} (hz : C Tryd.prog cf cc s = z) {r : Bool} (hI : J_declaration_Proves_0 p1 s) (hB : B_declaration_Proves_0 p1 = some r) : Res z (postG (fun a q => Q_declaration_Proves_0 p1 a q) r) := by
  subst hcc
  subst hz
  simp only [J_declaration_Proves_0] at hI
  obtain ⟨g2, q1, q2⟩ := hI
  simp only [Code.fst, Code.snd, Tryd.f15, Option.getD_some]
  unfold B_declaration_Proves_0 at hB
  rcases cnd_inv hB with ⟨c7, hB⟩ | ⟨c7, hB⟩
  · have pc7 := eq_true (of_decide_eq_true c7)
    obtain rfl := Option.some.inj hB
    try simp -implicitDefEqProofs [-getElem?_pos, -Int.ofNat_lt, -Int.ofNat_le, -Int.natCast_eq_zero, -Int.natCast_pos, -List.length_eq_zero_iff, List.getElem?_cons_zero, List.getElem?_cons_succ, List.getElem?_nil, q1, q2, c7, pc7]
    refine Res.g ?_
    simp -implicitDefEqProofs [-getElem?_pos, -Int.ofNat_lt, -Int.ofNat_le, -Int.natCast_eq_zero, -Int.natCast_pos, -List.length_eq_zero_iff, List.getElem?_cons_zero, List.getElem?_cons_succ, List.getElem?_nil, and_assoc, Q_declaration_Proves_0, ownAt, q1, q2, c7, pc7]
  · have pc7 := eq_false (of_decide_eq_false c7)
    obtain rfl := Option.some.inj hB
    try simp -implicitDefEqProofs [-getElem?_pos, -Int.ofNat_lt, -Int.ofNat_le, -Int.natCast_eq_zero, -Int.natCast_pos, -List.length_eq_zero_iff, List.getElem?_cons_zero, List.getElem?_cons_succ, List.getElem?_nil, q1, q2, c7, pc7]
    refine Res.g ?_
    simp -implicitDefEqProofs [-getElem?_pos, -Int.ofNat_lt, -Int.ofNat_le, -Int.natCast_eq_zero, -Int.natCast_pos, -List.length_eq_zero_iff, List.getElem?_cons_zero, List.getElem?_cons_succ, List.getElem?_nil, and_assoc, Q_declaration_Proves_0, ownAt, q1, q2, c7, pc7]
noncomputable def B_declaration_Proves (p0 : (List Int)) (p1 : S_api_Evidence) : Option Int :=
  kb (G_declaration_Check p0 p1.f0) fun y1 =>
  cnd (decide (y1 = 0)) (
    kb (G_declaration_Check p0 p1.f1) fun y4 =>
    cnd (decide (y4 = 0)) (
      kb (B_declaration_Proves_0 p1) fun z8 =>
      cnd z8 (
        some 1) (
        kb (G_declaration_Bytes p1.f0) fun y10 =>
        kb (G_declaration_Bytes p1.f1) fun y12 =>
        cnd (Op.bytesLess y10 y12) (
          some 0) (
          some 7))) (
      some y4)) (
    some y1)
theorem sim_declaration_Proves {p0 : (List Int)} {p1 : S_api_Evidence} {r : Int} (hB : B_declaration_Proves p0 p1 = some r) : R 15 [(.pv (.sl p0.length (es_u64 p0))), (.agg [(i64 p1.f0.f0), (i64 p1.f0.f1), (i64 p1.f0.f2.thr), (.pv (.sl p1.f0.f2.nodes.length (ints p1.f0.f2.nodes))), (.pv (.sl p1.f0.f2.inner.length (encTs p1.f0.f2.inner))), (.pv (.int .u64 p1.f0.f3)), (i64 p1.f1.f0), (i64 p1.f1.f1), (i64 p1.f1.f2.thr), (.pv (.sl p1.f1.f2.nodes.length (ints p1.f1.f2.nodes))), (.pv (.sl p1.f1.f2.inner.length (encTs p1.f1.f2.inner))), (.pv (.int .u64 p1.f1.f3))])] [] = some ((i64 r), [], []) := by
  rw [R_eq _ _ _ fn_declaration_Proves]
  simp only [Code.fst, Code.snd, Tryd.f15, Option.getD_some]
  generalize hc0 : Code.region 7 _ _ = cc0
  generalize hr1 : Code.region 1 _ _ = rr1
  generalize hr4 : Code.region 4 _ _ = rr4
  generalize hr9 : Code.region 9 _ _ = rr9
  unfold B_declaration_Proves at hB
  obtain ⟨y1, k2, hB⟩ := kb_inv hB
  replace k2 := run_declaration_Check k2
  try simp only [Int.cast_ofNat_Int, Int.natCast_zero, List.length_cons, List.length_nil, List.nil_append, List.cons_append, Nat.zero_add, Nat.reduceAdd, Tru.thr_mk, Tru.nodes_mk, Tru.inner_mk, ints_cons, ints_nil, encTs_cons, encTs_nil, es_str_cons, es_str_nil, es_u64_cons, es_u64_nil, es_u8_cons, es_u8_nil] at k2
  try dsimp only at hB
  rcases cnd_inv hB with ⟨c3, hB⟩ | ⟨c3, hB⟩
  · have pc3 := eq_true (of_decide_eq_true c3)
    obtain ⟨y4, k5, hB⟩ := kb_inv hB
    replace k5 := run_declaration_Check k5
    try simp only [Int.cast_ofNat_Int, Int.natCast_zero, List.length_cons, List.length_nil, List.nil_append, List.cons_append, Nat.zero_add, Nat.reduceAdd, Tru.thr_mk, Tru.nodes_mk, Tru.inner_mk, ints_cons, ints_nil, encTs_cons, encTs_nil, es_str_cons, es_str_nil, es_u64_cons, es_u64_nil, es_u8_cons, es_u8_nil] at k5
    try dsimp only at hB
    rcases cnd_inv hB with ⟨c6, hB⟩ | ⟨c6, hB⟩
    · have pc6 := eq_true (of_decide_eq_true c6)
      subst hr1
      subst hr4
      try simp -implicitDefEqProofs [-getElem?_pos, -Int.ofNat_lt, -Int.ofNat_le, -Int.natCast_eq_zero, -Int.natCast_pos, -List.length_eq_zero_iff, List.getElem?_cons_zero, List.getElem?_cons_succ, List.getElem?_nil, k2, c3, pc3, k5, c6, pc6]
      generalize hz0 : C Tryd.prog cf cc0 _ = z0
      obtain ⟨z8, hB1, hB⟩ := kb_inv hB
      have hJ := P_declaration_Proves_0 (hc0.symm.trans (by kernel_rfl)) hz0 (by simp -implicitDefEqProofs [-getElem?_pos, -Int.ofNat_lt, -Int.ofNat_le, -Int.natCast_eq_zero, -Int.natCast_pos, -List.length_eq_zero_iff, List.getElem?_cons_zero, List.getElem?_cons_succ, List.getElem?_nil, and_assoc, J_declaration_Proves_0, ownAt, k2, c3, pc3, k5, c6, pc6]) hB1
      obtain ⟨e0, s0, rfl, hq⟩ := hJ.open
      clear hB1
      obtain ⟨rfl, hq⟩ := hq
      simp only [Q_declaration_Proves_0] at hq
      obtain ⟨q8_1, ⟨g8_3, q8_2, q8_3⟩⟩ := hq
      rcases cnd_inv hB with ⟨c9, hB⟩ | ⟨c9, hB⟩
      · obtain rfl := Option.some.inj hB
        simp -implicitDefEqProofs [-getElem?_pos, -Int.ofNat_lt, -Int.ofNat_le, -Int.natCast_eq_zero, -Int.natCast_pos, -List.length_eq_zero_iff, List.getElem?_cons_zero, List.getElem?_cons_succ, List.getElem?_nil, q8_1, q8_2, q8_3, k2, c3, pc3, k5, c6, pc6, c9]
      · obtain ⟨y10, k11, hB⟩ := kb_inv hB
        replace k11 := run_declaration_Bytes k11
        try simp only [Int.cast_ofNat_Int, Int.natCast_zero, List.length_cons, List.length_nil, List.nil_append, List.cons_append, Nat.zero_add, Nat.reduceAdd, Tru.thr_mk, Tru.nodes_mk, Tru.inner_mk, ints_cons, ints_nil, encTs_cons, encTs_nil, es_str_cons, es_str_nil, es_u64_cons, es_u64_nil, es_u8_cons, es_u8_nil, c9] at k11
        try dsimp only at hB
        obtain ⟨y12, k13, hB⟩ := kb_inv hB
        replace k13 := run_declaration_Bytes k13
        try simp only [Int.cast_ofNat_Int, Int.natCast_zero, List.length_cons, List.length_nil, List.nil_append, List.cons_append, Nat.zero_add, Nat.reduceAdd, Tru.thr_mk, Tru.nodes_mk, Tru.inner_mk, ints_cons, ints_nil, encTs_cons, encTs_nil, es_str_cons, es_str_nil, es_u64_cons, es_u64_nil, es_u8_cons, es_u8_nil, c9] at k13
        try dsimp only at hB
        rcases cnd_inv hB with ⟨c14, hB⟩ | ⟨c14, hB⟩
        · obtain rfl := Option.some.inj hB
          subst hr9
          simp -implicitDefEqProofs [-getElem?_pos, -Int.ofNat_lt, -Int.ofNat_le, -Int.natCast_eq_zero, -Int.natCast_pos, -List.length_eq_zero_iff, List.getElem?_cons_zero, List.getElem?_cons_succ, List.getElem?_nil, q8_1, q8_2, q8_3, k2, c3, pc3, k5, c6, pc6, c9, k11, k13, c14]
          rw [drawK_ok _ _ _ (by kernel_rfl)]
          simp -implicitDefEqProofs [-getElem?_pos, -Int.ofNat_lt, -Int.ofNat_le, -Int.natCast_eq_zero, -Int.natCast_pos, -List.length_eq_zero_iff, List.getElem?_cons_zero, List.getElem?_cons_succ, List.getElem?_nil, q8_1, q8_2, q8_3, k2, c3, pc3, k5, c6, pc6, c9, k11, k13, c14]
        · obtain rfl := Option.some.inj hB
          subst hr9
          simp -implicitDefEqProofs [-getElem?_pos, -Int.ofNat_lt, -Int.ofNat_le, -Int.natCast_eq_zero, -Int.natCast_pos, -List.length_eq_zero_iff, List.getElem?_cons_zero, List.getElem?_cons_succ, List.getElem?_nil, q8_1, q8_2, q8_3, k2, c3, pc3, k5, c6, pc6, c9, k11, k13, c14]
          rw [drawK_ok _ _ _ (by kernel_rfl)]
          simp -implicitDefEqProofs [-getElem?_pos, -Int.ofNat_lt, -Int.ofNat_le, -Int.natCast_eq_zero, -Int.natCast_pos, -List.length_eq_zero_iff, List.getElem?_cons_zero, List.getElem?_cons_succ, List.getElem?_nil, q8_1, q8_2, q8_3, k2, c3, pc3, k5, c6, pc6, c9, k11, k13, c14]
    · have pc6 := eq_false (of_decide_eq_false c6)
      obtain rfl := Option.some.inj hB
      subst hr1
      subst hr4
      simp -implicitDefEqProofs [-getElem?_pos, -Int.ofNat_lt, -Int.ofNat_le, -Int.natCast_eq_zero, -Int.natCast_pos, -List.length_eq_zero_iff, List.getElem?_cons_zero, List.getElem?_cons_succ, List.getElem?_nil, k2, c3, pc3, k5, c6, pc6]
  · have pc3 := eq_false (of_decide_eq_false c3)
    obtain rfl := Option.some.inj hB
    subst hr1
    simp -implicitDefEqProofs [-getElem?_pos, -Int.ofNat_lt, -Int.ofNat_le, -Int.natCast_eq_zero, -Int.natCast_pos, -List.length_eq_zero_iff, List.getElem?_cons_zero, List.getElem?_cons_succ, List.getElem?_nil, k2, c3, pc3]
theorem g_declaration_Proves {p0 : (List Int)} {p1 : S_api_Evidence} {r : Int} (hB : B_declaration_Proves p0 p1 = some r) : G_declaration_Proves p0 p1 = some r := dec_of (fun a b h => by rcases a with a0_; rcases b with b0_; simp at h; simp [*]) (sim_declaration_Proves hB)
end Go.Am

/-
Plain laws of chapter 07: the order of bytes, signatures, evidence.
-/
namespace Go.Am
open Go
set_option linter.unusedVariables false
set_option linter.unusedSimpArgs false

/-! ### the order of bytes -/
theorem bl_irrefl : ∀ l : List UInt8, Op.bytesLess l l = false
  | [] => rfl
  | a :: l => by simp [Op.bytesLess, bl_irrefl l]
theorem bl_asymm : ∀ l m : List UInt8, Op.bytesLess l m = true → Op.bytesLess m l = false
  | _, [], h => by cases ‹List UInt8› <;> simp [Op.bytesLess] at h
  | [], _ :: _, _ => rfl
  | a :: l, b :: m, h => by
    simp only [Op.bytesLess, Bool.or_eq_true, Bool.and_eq_true, decide_eq_true_eq, beq_iff_eq, Bool.or_eq_false_iff, Bool.and_eq_false_iff, decide_eq_false_iff_not] at h ⊢
    rcases h with h | ⟨rfl, h⟩
    · have h' := UInt8.lt_iff_toNat_lt.1 h
      refine ⟨fun h2 => ?_, .inl ?_⟩
      · have := UInt8.lt_iff_toNat_lt.1 h2; omega
      · rw [beq_eq_false_iff_ne]; rintro rfl; omega
    · refine ⟨fun h2 => ?_, .inr (bl_asymm l m h)⟩
      have := UInt8.lt_iff_toNat_lt.1 h2; omega
theorem bl_total : ∀ l m : List UInt8, l ≠ m → Op.bytesLess l m = true ∨ Op.bytesLess m l = true
  | [], [], h => absurd rfl h
  | [], _ :: _, _ => .inl rfl
  | _ :: _, [], _ => .inr rfl
  | a :: l, b :: m, h => by
    simp only [Op.bytesLess, Bool.or_eq_true, Bool.and_eq_true, decide_eq_true_eq, beq_iff_eq]
    by_cases e : a = b
    · subst e
      have : l ≠ m := fun e => h (by rw [e])
      rcases bl_total l m this with h1 | h1
      · exact .inl (.inr ⟨rfl, h1⟩)
      · exact .inr (.inr ⟨rfl, h1⟩)
    · have : a.toNat ≠ b.toNat := fun h2 => e (UInt8.toNat_inj.1 h2)
      by_cases c : a.toNat < b.toNat
      · exact .inl (.inl (UInt8.lt_iff_toNat_lt.2 c))
      · exact .inr (.inl (UInt8.lt_iff_toNat_lt.2 (by omega)))
theorem bl_trans : ∀ l m n : List UInt8, Op.bytesLess l m = true → Op.bytesLess m n = true → Op.bytesLess l n = true
  | _, [], _, h, _ => by cases ‹List UInt8› <;> simp [Op.bytesLess] at h
  | _, _ :: _, [], _, h => by simp [Op.bytesLess] at h
  | [], _ :: _, _ :: _, _, _ => rfl
  | a :: l, b :: m, c :: n, h1, h2 => by
    simp only [Op.bytesLess, Bool.or_eq_true, Bool.and_eq_true, decide_eq_true_eq, beq_iff_eq] at h1 h2 ⊢
    rcases h1 with h1 | ⟨rfl, h1⟩
    · rcases h2 with h2 | ⟨rfl, h2⟩
      · left
        have := UInt8.lt_iff_toNat_lt.1 h1
        have := UInt8.lt_iff_toNat_lt.1 h2
        exact UInt8.lt_iff_toNat_lt.2 (by omega)
      · exact .inl h1
    · rcases h2 with h2 | ⟨rfl, h2⟩
      · exact .inl h2
      · exact .inr ⟨rfl, bl_trans l m n h1 h2⟩

theorem s_declaration_copied : ∀ x : Tru, x.Fine → G_declaration_copied x = some x := by
  refine tru_ind fun t n i ih h => g_declaration_copied ?_
  have hl := Fine_len h
  simp only [Tru.nodes_mk, Tru.inner_mk] at hl
  unfold B_declaration_copied
  simp only [Tru.nodes_mk, Tru.inner_mk, Tru.thr_mk]
  rw [appK_some (by simp; omega), kb_some, smallK_some (by omega), kb_some]
  have h1 := foldO_spec (f := fun j a x => B_declaration_copied_0 (.mk t n i) j a x) (g := fun a x => a ++ [x]) (fun j a => a.length ≤ j) i 0 [] (by
    intro j a x hj hp
    have hjl := (List.getElem?_eq_some_iff.1 hj).1
    have hx : x ∈ i := List.mem_of_getElem? hj
    simp only [Nat.zero_add] at hp ⊢
    unfold B_declaration_copied_0
    rw [ih x hx (Fine_inner h hx), kb_some, appK_some (by simp; omega), kb_some]
    exact ⟨rfl, by simp; omega⟩) (by simp)
  rw [h1.1, kb_some]
  have e : ∀ (l a : List Tru), l.foldl (fun a x => a ++ [x]) a = a ++ l := by
    intro l
    induction l with
    | nil => intro a; simp
    | cons x r ihr => intro a; rw [List.foldl_cons, ihr]; simp
  rw [e]
  rfl
theorem s_declaration_Sign {key node seq : Int} {x : Tru} (h : DOk ⟨node, seq, x, 0⟩) : G_declaration_Sign key node seq x = some (⟨node, seq, x, tagV key (bytesV ⟨node, seq, x, 0⟩)⟩, 0) := by
  have hl := bytesV_len h
  refine g_declaration_Sign ?_
  unfold B_declaration_Sign
  rw [s_declaration_copied x h.2.1.2, kb_some, s_declaration_Plain _ h.2.1.2, plainE_ok h, kb_some]
  simp only [decide_true, cnd_true]
  rw [s_declaration_Bytes h, kb_some, s_declaration_Tag key (by omega), kb_some]
/-- signed with the key of its node -/
def Signed (keys : List Int) (d : Decl) : Prop := DOk d ∧ ∃ k, keys[d.f0.toNat]? = some k ∧ d.f3 = tagV k (bytesV d)
theorem s_Check_ok {keys : List Int} {d : Decl} (h : Signed keys d) : G_declaration_Check keys d = some 0 := by
  obtain ⟨h1, k, h2, h3⟩ := h
  rw [s_Check h1 h2, if_pos h3]
theorem s_Proves {keys : List Int} {a b : Decl} (ha : Signed keys a) (hb : Signed keys b) : G_declaration_Proves keys ⟨a, b⟩ = some (if a.f0 = b.f0 ∧ a.f1 = b.f1 then (if Op.bytesLess (bytesV a) (bytesV b) = true then 0 else 7) else 1) := by
  refine g_declaration_Proves ?_
  unfold B_declaration_Proves
  dsimp only
  rw [s_Check_ok ha, kb_some]
  simp only [decide_true, cnd_true]
  rw [s_Check_ok hb, kb_some]
  simp only [decide_true, cnd_true]
  have h0 : B_declaration_Proves_0 ⟨a, b⟩ = some (!decide (a.f0 = b.f0 ∧ a.f1 = b.f1)) := by
    unfold B_declaration_Proves_0
    dsimp only
    by_cases c : a.f0 = b.f0 <;> simp [c, cnd_true, cnd_false]
  rw [h0, kb_some]
  by_cases c : a.f0 = b.f0 ∧ a.f1 = b.f1
  · simp only [c, decide_true, Bool.not_true, cnd_false, and_self, if_true]
    rw [s_declaration_Bytes ha.1, kb_some, s_declaration_Bytes hb.1, kb_some]
    cases Op.bytesLess (bytesV a) (bytesV b) <;> simp [cnd_true, cnd_false]
  · simp only [c, decide_false, Bool.not_false, cnd_true, if_false]
theorem bytes_trust {a b : Decl} (ha : DOk a) (hb : DOk b) (h0 : a.f0 = b.f0) (h1 : a.f1 = b.f1) (h : bytesV a = bytesV b) : a.f2 = b.f2 := by
  unfold bytesV at h
  rw [h0, h1] at h
  exact txt_inj (val_dec2 ha.2.1.1 ha.2.2.2) (val_dec2 hb.2.1.1 hb.2.2.2) (List.append_cancel_left h)
end Go.Am

/-
How cmp.isNaN[int] runs, as a pure function.
-/
namespace Go.Am
open Go Go.Proofs
set_option linter.unusedVariables false
set_option linter.unusedSimpArgs false
set_option maxRecDepth 4000
set_option maxHeartbeats 4000000
noncomputable def B_cmp_isNaN_int_ (p0 : Int) : Option Bool :=
  some (!(decide (p0 = p0)))
theorem sim_cmp_isNaN_int_ {p0 : Int} {r : Bool} (hB : B_cmp_isNaN_int_ p0 = some r) : R 41 [(i64 p0)] [] = some ((bl r), [], []) := by
  rw [R_eq _ _ _ fn_cmp_isNaN_int_]
  simp only [Code.fst, Code.snd, Tryd.f41, Option.getD_some]
  generalize hr1 : Code.region 1 _ _ = rr1
  unfold B_cmp_isNaN_int_ at hB
  obtain rfl := Option.some.inj hB
  subst hr1
  simp -implicitDefEqProofs [-getElem?_pos, -Int.ofNat_lt, -Int.ofNat_le, -Int.natCast_eq_zero, -Int.natCast_pos, -List.length_eq_zero_iff, List.getElem?_cons_zero, List.getElem?_cons_succ, List.getElem?_nil]
theorem g_cmp_isNaN_int_ {p0 : Int} {r : Bool} (hB : B_cmp_isNaN_int_ p0 = some r) : G_cmp_isNaN_int_ p0 = some r := dec_of (fun a b h => by rcases a with a0_; rcases b with b0_; simp at h; simp [*]) (sim_cmp_isNaN_int_ hB)
end Go.Am

/-
How cmp.isNaN[string] runs, as a pure function.
-/
namespace Go.Am
open Go Go.Proofs
set_option linter.unusedVariables false
set_option linter.unusedSimpArgs false
set_option maxRecDepth 4000
set_option maxHeartbeats 4000000
noncomputable def B_cmp_isNaN_string_ (p0 : (List UInt8)) : Option Bool :=
  some (!(p0 == p0))
theorem sim_cmp_isNaN_string_ {p0 : (List UInt8)} {r : Bool} (hB : B_cmp_isNaN_string_ p0 = some r) : R 42 [(.pv (.str p0))] [] = some ((bl r), [], []) := by
  rw [R_eq _ _ _ fn_cmp_isNaN_string_]
  simp only [Code.fst, Code.snd, Tryd.f42, Option.getD_some]
  generalize hr1 : Code.region 1 _ _ = rr1
  unfold B_cmp_isNaN_string_ at hB
  obtain rfl := Option.some.inj hB
  subst hr1
  simp -implicitDefEqProofs [-getElem?_pos, -Int.ofNat_lt, -Int.ofNat_le, -Int.natCast_eq_zero, -Int.natCast_pos, -List.length_eq_zero_iff, List.getElem?_cons_zero, List.getElem?_cons_succ, List.getElem?_nil]
theorem g_cmp_isNaN_string_ {p0 : (List UInt8)} {r : Bool} (hB : B_cmp_isNaN_string_ p0 = some r) : G_cmp_isNaN_string_ p0 = some r := dec_of (fun a b h => by rcases a with a0_; rcases b with b0_; simp at h; simp [*]) (sim_cmp_isNaN_string_ hB)
end Go.Am

/-
How cmp.Compare[int] runs, as a pure function.
-/
namespace Go.Am
open Go Go.Proofs
set_option linter.unusedVariables false
set_option linter.unusedSimpArgs false
set_option maxRecDepth 4000
set_option maxHeartbeats 4000000
noncomputable def B_cmp_Compare_int_ (p0 : Int) (p1 : Int) : Option Int :=
  kb (G_cmp_isNaN_int_ p0) fun y1 =>
  kb (G_cmp_isNaN_int_ p1) fun y3 =>
  cnd y1 (
    cnd y3 (
      some 0) (
      some (-1))) (
    cnd y3 (
      some 1) (
      cnd (decide (p0 < p1)) (
        some (-1)) (
        cnd (decide (p1 < p0)) (
          some 1) (
          some 0))))
theorem sim_cmp_Compare_int_ {p0 : Int} {p1 : Int} {r : Int} (hB : B_cmp_Compare_int_ p0 p1 = some r) : R 29 [(i64 p0), (i64 p1)] [] = some ((i64 r), [], []) := by
  rw [R_eq _ _ _ fn_cmp_Compare_int_]
  simp only [Code.fst, Code.snd, Tryd.f29, Option.getD_some]
  unfold B_cmp_Compare_int_ at hB
  obtain ⟨y1, k2, hB⟩ := kb_inv hB
  replace k2 := run_cmp_isNaN_int_ k2
  try simp only [Int.cast_ofNat_Int, Int.natCast_zero, List.length_cons, List.length_nil, List.nil_append, List.cons_append, Nat.zero_add, Nat.reduceAdd, Tru.thr_mk, Tru.nodes_mk, Tru.inner_mk, ints_cons, ints_nil, encTs_cons, encTs_nil, es_str_cons, es_str_nil, es_u64_cons, es_u64_nil, es_u8_cons, es_u8_nil] at k2
  try dsimp only at hB
  obtain ⟨y3, k4, hB⟩ := kb_inv hB
  replace k4 := run_cmp_isNaN_int_ k4
  try simp only [Int.cast_ofNat_Int, Int.natCast_zero, List.length_cons, List.length_nil, List.nil_append, List.cons_append, Nat.zero_add, Nat.reduceAdd, Tru.thr_mk, Tru.nodes_mk, Tru.inner_mk, ints_cons, ints_nil, encTs_cons, encTs_nil, es_str_cons, es_str_nil, es_u64_cons, es_u64_nil, es_u8_cons, es_u8_nil] at k4
  try dsimp only at hB
  rcases cnd_inv hB with ⟨c5, hB⟩ | ⟨c5, hB⟩
  · rcases cnd_inv hB with ⟨c6, hB⟩ | ⟨c6, hB⟩
    · obtain rfl := Option.some.inj hB
      simp -implicitDefEqProofs [-getElem?_pos, -Int.ofNat_lt, -Int.ofNat_le, -Int.natCast_eq_zero, -Int.natCast_pos, -List.length_eq_zero_iff, List.getElem?_cons_zero, List.getElem?_cons_succ, List.getElem?_nil, k2, k4, c5, c6]
    · obtain rfl := Option.some.inj hB
      simp -implicitDefEqProofs [-getElem?_pos, -Int.ofNat_lt, -Int.ofNat_le, -Int.natCast_eq_zero, -Int.natCast_pos, -List.length_eq_zero_iff, List.getElem?_cons_zero, List.getElem?_cons_succ, List.getElem?_nil, k2, k4, c5, c6]
  · rcases cnd_inv hB with ⟨c7, hB⟩ | ⟨c7, hB⟩
    · obtain rfl := Option.some.inj hB
      simp -implicitDefEqProofs [-getElem?_pos, -Int.ofNat_lt, -Int.ofNat_le, -Int.natCast_eq_zero, -Int.natCast_pos, -List.length_eq_zero_iff, List.getElem?_cons_zero, List.getElem?_cons_succ, List.getElem?_nil, k2, k4, c5, c7]
    · rcases cnd_inv hB with ⟨c8, hB⟩ | ⟨c8, hB⟩
      · have pc8 := eq_true (of_decide_eq_true c8)
        obtain rfl := Option.some.inj hB
        simp -implicitDefEqProofs [-getElem?_pos, -Int.ofNat_lt, -Int.ofNat_le, -Int.natCast_eq_zero, -Int.natCast_pos, -List.length_eq_zero_iff, List.getElem?_cons_zero, List.getElem?_cons_succ, List.getElem?_nil, k2, k4, c5, c7, c8, pc8]
      · have pc8 := eq_false (of_decide_eq_false c8)
        rcases cnd_inv hB with ⟨c9, hB⟩ | ⟨c9, hB⟩
        · have pc9 := eq_true (of_decide_eq_true c9)
          obtain rfl := Option.some.inj hB
          simp -implicitDefEqProofs [-getElem?_pos, -Int.ofNat_lt, -Int.ofNat_le, -Int.natCast_eq_zero, -Int.natCast_pos, -List.length_eq_zero_iff, List.getElem?_cons_zero, List.getElem?_cons_succ, List.getElem?_nil, k2, k4, c5, c7, c8, pc8, c9, pc9]
        · have pc9 := eq_false (of_decide_eq_false c9)
          obtain rfl := Option.some.inj hB
          simp -implicitDefEqProofs [-getElem?_pos, -Int.ofNat_lt, -Int.ofNat_le, -Int.natCast_eq_zero, -Int.natCast_pos, -List.length_eq_zero_iff, List.getElem?_cons_zero, List.getElem?_cons_succ, List.getElem?_nil, k2, k4, c5, c7, c8, pc8, c9, pc9]
theorem g_cmp_Compare_int_ {p0 : Int} {p1 : Int} {r : Int} (hB : B_cmp_Compare_int_ p0 p1 = some r) : G_cmp_Compare_int_ p0 p1 = some r := dec_of (fun a b h => by rcases a with a0_; rcases b with b0_; simp at h; simp [*]) (sim_cmp_Compare_int_ hB)
end Go.Am

/-
How cmp.Compare[string] runs, as a pure function.
-/
namespace Go.Am
open Go Go.Proofs
set_option linter.unusedVariables false
set_option linter.unusedSimpArgs false
set_option maxRecDepth 4000
set_option maxHeartbeats 4000000
noncomputable def B_cmp_Compare_string_ (p0 : (List UInt8)) (p1 : (List UInt8)) : Option Int :=
  kb (G_cmp_isNaN_string_ p0) fun y1 =>
  kb (G_cmp_isNaN_string_ p1) fun y3 =>
  cnd y1 (
    cnd y3 (
      some 0) (
      some (-1))) (
    cnd y3 (
      some 1) (
      cnd (Op.bytesLess p0 p1) (
        some (-1)) (
        cnd (p0 == p1) (
          some 0) (
          some 1))))
theorem sim_cmp_Compare_string_ {p0 : (List UInt8)} {p1 : (List UInt8)} {r : Int} (hB : B_cmp_Compare_string_ p0 p1 = some r) : R 30 [(.pv (.str p0)), (.pv (.str p1))] [] = some ((i64 r), [], []) := by
  rw [R_eq _ _ _ fn_cmp_Compare_string_]
  simp only [Code.fst, Code.snd, Tryd.f30, Option.getD_some]
  unfold B_cmp_Compare_string_ at hB
  obtain ⟨y1, k2, hB⟩ := kb_inv hB
  replace k2 := run_cmp_isNaN_string_ k2
  try simp only [Int.cast_ofNat_Int, Int.natCast_zero, List.length_cons, List.length_nil, List.nil_append, List.cons_append, Nat.zero_add, Nat.reduceAdd, Tru.thr_mk, Tru.nodes_mk, Tru.inner_mk, ints_cons, ints_nil, encTs_cons, encTs_nil, es_str_cons, es_str_nil, es_u64_cons, es_u64_nil, es_u8_cons, es_u8_nil] at k2
  try dsimp only at hB
  obtain ⟨y3, k4, hB⟩ := kb_inv hB
  replace k4 := run_cmp_isNaN_string_ k4
  try simp only [Int.cast_ofNat_Int, Int.natCast_zero, List.length_cons, List.length_nil, List.nil_append, List.cons_append, Nat.zero_add, Nat.reduceAdd, Tru.thr_mk, Tru.nodes_mk, Tru.inner_mk, ints_cons, ints_nil, encTs_cons, encTs_nil, es_str_cons, es_str_nil, es_u64_cons, es_u64_nil, es_u8_cons, es_u8_nil] at k4
  try dsimp only at hB
  rcases cnd_inv hB with ⟨c5, hB⟩ | ⟨c5, hB⟩
  · rcases cnd_inv hB with ⟨c6, hB⟩ | ⟨c6, hB⟩
    · obtain rfl := Option.some.inj hB
      simp -implicitDefEqProofs [-getElem?_pos, -Int.ofNat_lt, -Int.ofNat_le, -Int.natCast_eq_zero, -Int.natCast_pos, -List.length_eq_zero_iff, List.getElem?_cons_zero, List.getElem?_cons_succ, List.getElem?_nil, k2, k4, c5, c6]
    · obtain rfl := Option.some.inj hB
      simp -implicitDefEqProofs [-getElem?_pos, -Int.ofNat_lt, -Int.ofNat_le, -Int.natCast_eq_zero, -Int.natCast_pos, -List.length_eq_zero_iff, List.getElem?_cons_zero, List.getElem?_cons_succ, List.getElem?_nil, k2, k4, c5, c6]
  · rcases cnd_inv hB with ⟨c7, hB⟩ | ⟨c7, hB⟩
    · obtain rfl := Option.some.inj hB
      simp -implicitDefEqProofs [-getElem?_pos, -Int.ofNat_lt, -Int.ofNat_le, -Int.natCast_eq_zero, -Int.natCast_pos, -List.length_eq_zero_iff, List.getElem?_cons_zero, List.getElem?_cons_succ, List.getElem?_nil, k2, k4, c5, c7]
    · rcases cnd_inv hB with ⟨c8, hB⟩ | ⟨c8, hB⟩
      · obtain rfl := Option.some.inj hB
        simp -implicitDefEqProofs [-getElem?_pos, -Int.ofNat_lt, -Int.ofNat_le, -Int.natCast_eq_zero, -Int.natCast_pos, -List.length_eq_zero_iff, List.getElem?_cons_zero, List.getElem?_cons_succ, List.getElem?_nil, k2, k4, c5, c7, c8]
      · rcases cnd_inv hB with ⟨c9, hB⟩ | ⟨c9, hB⟩
        · obtain rfl := Option.some.inj hB
          simp -implicitDefEqProofs [-getElem?_pos, -Int.ofNat_lt, -Int.ofNat_le, -Int.natCast_eq_zero, -Int.natCast_pos, -List.length_eq_zero_iff, List.getElem?_cons_zero, List.getElem?_cons_succ, List.getElem?_nil, k2, k4, c5, c7, c8, c9]
        · obtain rfl := Option.some.inj hB
          simp -implicitDefEqProofs [-getElem?_pos, -Int.ofNat_lt, -Int.ofNat_le, -Int.natCast_eq_zero, -Int.natCast_pos, -List.length_eq_zero_iff, List.getElem?_cons_zero, List.getElem?_cons_succ, List.getElem?_nil, k2, k4, c5, c7, c8, c9]
theorem g_cmp_Compare_string_ {p0 : (List UInt8)} {p1 : (List UInt8)} {r : Int} (hB : B_cmp_Compare_string_ p0 p1 = some r) : G_cmp_Compare_string_ p0 p1 = some r := dec_of (fun a b h => by rcases a with a0_; rcases b with b0_; simp at h; simp [*]) (sim_cmp_Compare_string_ hB)
end Go.Am

/-
How cmp.Or[int] runs, as a pure function.
-/
namespace Go.Am
open Go Go.Proofs
set_option linter.unusedVariables false
set_option linter.unusedSimpArgs false
set_option maxRecDepth 4000
set_option maxHeartbeats 4000000
noncomputable def B_cmp_Or_int__0 (p0 : (List Int)) (i1 : Nat) (e2 : Int) : Option (Stp Unit Int) :=
  cnd (decide (e2 = 0)) (
    some (.go ())) (
    some (.ret e2))
def I_cmp_Or_int__0 (p0 : (List Int)) (i1 : Nat) (q : St) : Prop := q (.t 3) = (i64 0) ∧ q (.t 6) = (.pv (.sl p0.length (ints p0))) ∧ q (.t 7) = (i64 (p0.length : Int)) ∧ q (.t 8) = (i64 (i1 : Int))
def Q_cmp_Or_int__0 (p0 : (List Int)) (q : St) : Prop := q (.t 3) = (i64 0)
def QR_cmp_Or_int__0 (p0 : (List Int)) (r2_0 : Int) (q : St) : Prop := q (.t 2) = (i64 r2_0)
theorem Pb_cmp_Or_int__0 {p0 : (List Int)} {i1 : Nat} {e2 : Int} {q : St} {r : (Stp Unit Int)} (hx : p0[i1]? = some e2) (hi : i1 < p0.length) (hn : p0.length < 4611686018427387904) (hI : I_cmp_Or_int__0 p0 i1 q) (hB : B_cmp_Or_int__0 p0 i1 e2 = some r) : Res (C Tryd.prog cf (Code.fst (Code.fst (Code.snd (Code.fst (Code.snd (Code.snd ((Tryd.f28.body).getD .skip))))))) q) (postB 0 (fun a q => I_cmp_Or_int__0 p0 (i1 + 1) q) (fun a q => Q_cmp_Or_int__0 p0 q) (fun a q => QR_cmp_Or_int__0 p0 a q) r) := by
  have hi3 : (i1 : Int) < (p0.length : Int) := by omega
  have hi2 := decide_eq_true hi3
  have hi4 := idx_step hi hn
  have hi5 := ne_of_get hx
  simp only [I_cmp_Or_int__0] at hI
  obtain ⟨q1, q2, q3, q4⟩ := hI
  simp only [Code.fst, Code.snd, Tryd.f28, Option.getD_some]
  unfold B_cmp_Or_int__0 at hB
  rcases cnd_inv hB with ⟨c2, hB⟩ | ⟨c2, hB⟩
  · have pc2 := eq_true (of_decide_eq_true c2)
    obtain rfl := Option.some.inj hB
    try simp -implicitDefEqProofs [-getElem?_pos, -Int.ofNat_lt, -Int.ofNat_le, -Int.natCast_eq_zero, -Int.natCast_pos, -List.length_eq_zero_iff, List.getElem?_cons_zero, List.getElem?_cons_succ, List.getElem?_nil, q1, q2, q3, q4, hx, hi2, hi3, hi4, hi5, c2, pc2]
    refine Res.bgo ?_
    simp -implicitDefEqProofs [-getElem?_pos, -Int.ofNat_lt, -Int.ofNat_le, -Int.natCast_eq_zero, -Int.natCast_pos, -List.length_eq_zero_iff, List.getElem?_cons_zero, List.getElem?_cons_succ, List.getElem?_nil, and_assoc, I_cmp_Or_int__0, ownAt, q1, q2, q3, q4, hx, hi2, hi3, hi4, hi5, c2, pc2]
  · have pc2 := eq_false (of_decide_eq_false c2)
    obtain rfl := Option.some.inj hB
    try simp -implicitDefEqProofs [-getElem?_pos, -Int.ofNat_lt, -Int.ofNat_le, -Int.natCast_eq_zero, -Int.natCast_pos, -List.length_eq_zero_iff, List.getElem?_cons_zero, List.getElem?_cons_succ, List.getElem?_nil, q1, q2, q3, q4, hx, hi2, hi3, hi4, hi5, c2, pc2]
    refine Res.bret ?_
    simp -implicitDefEqProofs [-getElem?_pos, -Int.ofNat_lt, -Int.ofNat_le, -Int.natCast_eq_zero, -Int.natCast_pos, -List.length_eq_zero_iff, List.getElem?_cons_zero, List.getElem?_cons_succ, List.getElem?_nil, and_assoc, QR_cmp_Or_int__0, ownAt, q1, q2, q3, q4, hx, hi2, hi3, hi4, hi5, c2, pc2]
theorem Pe_cmp_Or_int__0 {p0 : (List Int)} {q : St} (hI : I_cmp_Or_int__0 p0 p0.length q) : Res (C Tryd.prog cf (Code.fst (Code.fst (Code.snd (Code.fst (Code.snd (Code.snd ((Tryd.f28.body).getD .skip))))))) q) fun e q' => e = .exit 0 ∧ Q_cmp_Or_int__0 p0 q' := by
  simp only [I_cmp_Or_int__0] at hI
  obtain ⟨q1, q2, q3, q4⟩ := hI
  simp only [Code.fst, Code.snd, Tryd.f28, Option.getD_some]
  simp -implicitDefEqProofs [-getElem?_pos, -Int.ofNat_lt, -Int.ofNat_le, -Int.natCast_eq_zero, -Int.natCast_pos, -List.length_eq_zero_iff, List.getElem?_cons_zero, List.getElem?_cons_succ, List.getElem?_nil, q1, q2, q3, q4]
  refine Res.x ?_
  simp -implicitDefEqProofs [-getElem?_pos, -Int.ofNat_lt, -Int.ofNat_le, -Int.natCast_eq_zero, -Int.natCast_pos, -List.length_eq_zero_iff, List.getElem?_cons_zero, List.getElem?_cons_succ, List.getElem?_nil, and_assoc, Q_cmp_Or_int__0, ownAt, q1, q2, q3, q4]
theorem P_cmp_Or_int__0 {p0 : (List Int)} {cc : Code} (hcc : cc = .block 0 (.loop (Code.fst (Code.fst (Code.snd (Code.fst (Code.snd (Code.snd ((Tryd.f28.body).getD .skip))))))))) {s : St} {z : Option (Ex × St)} (hz : C Tryd.prog cf cc s = z) {r : (Stp Unit Int)} (hn : p0.length < 4611686018427387904) (hI : I_cmp_Or_int__0 p0 0 s) (hB : loopL (fun i a x => B_cmp_Or_int__0 p0 i x) 0 () p0 = some r) : Res z (postS (fun a q => Q_cmp_Or_int__0 p0 q) (fun a q => QR_cmp_Or_int__0 p0 a q) r) := by
  subst hcc
  exact loopL_sim (I := fun i a q => I_cmp_Or_int__0 p0 i q) (Q := (fun a q => Q_cmp_Or_int__0 p0 q)) (QR := (fun a q => QR_cmp_Or_int__0 p0 a q)) (fun i x a q r hx hi h hB => Pb_cmp_Or_int__0 hx hi hn h hB) (fun a q h => Pe_cmp_Or_int__0 h) hI hz hB
noncomputable def B_cmp_Or_int_ (p0 : (List Int)) : Option Int :=
  kb (smallK p0) fun _ =>
  kb (loopL (fun i a x => B_cmp_Or_int__0 p0 i x) 0 () p0) fun o => stpK o (fun z3 =>
    some 0) (fun z3r =>
    some z3r)
theorem sim_cmp_Or_int_ {p0 : (List Int)} {r : Int} (hB : B_cmp_Or_int_ p0 = some r) : R 28 [(.pv (.sl p0.length (ints p0)))] [] = some ((i64 r), [], []) := by
  rw [R_eq _ _ _ fn_cmp_Or_int_]
  simp only [Code.fst, Code.snd, Tryd.f28, Option.getD_some]
  generalize hc0 : Code.block 0 _ = cc0
  unfold B_cmp_Or_int_ at hB
  try simp -implicitDefEqProofs [-getElem?_pos, -Int.ofNat_lt, -Int.ofNat_le, -Int.natCast_eq_zero, -Int.natCast_pos, -List.length_eq_zero_iff, List.getElem?_cons_zero, List.getElem?_cons_succ, List.getElem?_nil]
  generalize hz0 : C Tryd.prog cf cc0 _ = z0
  obtain ⟨_, hsm, hB⟩ := kb_inv hB
  obtain ⟨o, hB1, hB⟩ := kb_inv hB
  have hJ := P_cmp_Or_int__0 (hc0.symm.trans (by kernel_rfl)) hz0 (smallK_inv hsm) (by simp -implicitDefEqProofs [-getElem?_pos, -Int.ofNat_lt, -Int.ofNat_le, -Int.natCast_eq_zero, -Int.natCast_pos, -List.length_eq_zero_iff, List.getElem?_cons_zero, List.getElem?_cons_succ, List.getElem?_nil, and_assoc, I_cmp_Or_int__0, ownAt]) hB1
  obtain ⟨e0, s0, rfl, hq⟩ := hJ.open
  clear hB1
  rcases o with z3 | ⟨_, _⟩ | z3r
  · simp only [stpK_go] at hB
    obtain ⟨rfl, hq⟩ := hq
    simp only [Q_cmp_Or_int__0] at hq
    have q3_1 := hq
    obtain rfl := Option.some.inj hB
    simp -implicitDefEqProofs [-getElem?_pos, -Int.ofNat_lt, -Int.ofNat_le, -Int.natCast_eq_zero, -Int.natCast_pos, -List.length_eq_zero_iff, List.getElem?_cons_zero, List.getElem?_cons_succ, List.getElem?_nil, q3_1]
  · exact hq.elim
  · simp only [stpK_ret] at hB
    obtain ⟨rfl, hq⟩ := hq
    simp only [QR_cmp_Or_int__0] at hq
    have q3_r1 := hq
    obtain rfl := Option.some.inj hB
    simp -implicitDefEqProofs [-getElem?_pos, -Int.ofNat_lt, -Int.ofNat_le, -Int.natCast_eq_zero, -Int.natCast_pos, -List.length_eq_zero_iff, List.getElem?_cons_zero, List.getElem?_cons_succ, List.getElem?_nil, q3_r1]
theorem g_cmp_Or_int_ {p0 : (List Int)} {r : Int} (hB : B_cmp_Or_int_ p0 = some r) : G_cmp_Or_int_ p0 = some r := dec_of (fun a b h => by rcases a with a0_; rcases b with b0_; simp at h; simp [*]) (sim_cmp_Or_int_ hB)
end Go.Am

/-
How declaration.Compare runs, as a pure function.
-/
namespace Go.Am
open Go Go.Proofs
set_option linter.unusedVariables false
set_option linter.unusedSimpArgs false
set_option maxRecDepth 4000
set_option maxHeartbeats 4000000
noncomputable def B_declaration_Compare (p0 : S_api_Declaration) (p1 : S_api_Declaration) : Option Int :=
  kb (G_cmp_Compare_int_ p0.f0 p1.f0) fun y1 =>
  kb (G_cmp_Compare_int_ p0.f1 p1.f1) fun y3 =>
  kb (G_declaration_Bytes p0) fun y5 =>
  kb (G_declaration_Bytes p1) fun y7 =>
  kb (G_cmp_Compare_string_ y5 y7) fun y9 =>
  kb (G_cmp_Or_int_ ([y1, y3, y9] : List Int)) fun y11 =>
  some y11
theorem sim_declaration_Compare {p0 : S_api_Declaration} {p1 : S_api_Declaration} {r : Int} (hB : B_declaration_Compare p0 p1 = some r) : R 17 [(.agg [(i64 p0.f0), (i64 p0.f1), (i64 p0.f2.thr), (.pv (.sl p0.f2.nodes.length (ints p0.f2.nodes))), (.pv (.sl p0.f2.inner.length (encTs p0.f2.inner))), (.pv (.int .u64 p0.f3))]), (.agg [(i64 p1.f0), (i64 p1.f1), (i64 p1.f2.thr), (.pv (.sl p1.f2.nodes.length (ints p1.f2.nodes))), (.pv (.sl p1.f2.inner.length (encTs p1.f2.inner))), (.pv (.int .u64 p1.f3))])] [] = some ((i64 r), [], []) := by
  rw [R_eq _ _ _ fn_declaration_Compare]
  simp only [Code.fst, Code.snd, Tryd.f17, Option.getD_some]
  generalize hr1 : Code.region 1 _ _ = rr1
  unfold B_declaration_Compare at hB
  obtain ⟨y1, k2, hB⟩ := kb_inv hB
  replace k2 := run_cmp_Compare_int_ k2
  try simp only [Int.cast_ofNat_Int, Int.natCast_zero, List.length_cons, List.length_nil, List.nil_append, List.cons_append, Nat.zero_add, Nat.reduceAdd, Tru.thr_mk, Tru.nodes_mk, Tru.inner_mk, ints_cons, ints_nil, encTs_cons, encTs_nil, es_str_cons, es_str_nil, es_u64_cons, es_u64_nil, es_u8_cons, es_u8_nil] at k2
  try dsimp only at hB
  obtain ⟨y3, k4, hB⟩ := kb_inv hB
  replace k4 := run_cmp_Compare_int_ k4
  try simp only [Int.cast_ofNat_Int, Int.natCast_zero, List.length_cons, List.length_nil, List.nil_append, List.cons_append, Nat.zero_add, Nat.reduceAdd, Tru.thr_mk, Tru.nodes_mk, Tru.inner_mk, ints_cons, ints_nil, encTs_cons, encTs_nil, es_str_cons, es_str_nil, es_u64_cons, es_u64_nil, es_u8_cons, es_u8_nil] at k4
  try dsimp only at hB
  obtain ⟨y5, k6, hB⟩ := kb_inv hB
  replace k6 := run_declaration_Bytes k6
  try simp only [Int.cast_ofNat_Int, Int.natCast_zero, List.length_cons, List.length_nil, List.nil_append, List.cons_append, Nat.zero_add, Nat.reduceAdd, Tru.thr_mk, Tru.nodes_mk, Tru.inner_mk, ints_cons, ints_nil, encTs_cons, encTs_nil, es_str_cons, es_str_nil, es_u64_cons, es_u64_nil, es_u8_cons, es_u8_nil] at k6
  try dsimp only at hB
  obtain ⟨y7, k8, hB⟩ := kb_inv hB
  replace k8 := run_declaration_Bytes k8
  try simp only [Int.cast_ofNat_Int, Int.natCast_zero, List.length_cons, List.length_nil, List.nil_append, List.cons_append, Nat.zero_add, Nat.reduceAdd, Tru.thr_mk, Tru.nodes_mk, Tru.inner_mk, ints_cons, ints_nil, encTs_cons, encTs_nil, es_str_cons, es_str_nil, es_u64_cons, es_u64_nil, es_u8_cons, es_u8_nil] at k8
  try dsimp only at hB
  obtain ⟨y9, k10, hB⟩ := kb_inv hB
  replace k10 := run_cmp_Compare_string_ k10
  try simp only [Int.cast_ofNat_Int, Int.natCast_zero, List.length_cons, List.length_nil, List.nil_append, List.cons_append, Nat.zero_add, Nat.reduceAdd, Tru.thr_mk, Tru.nodes_mk, Tru.inner_mk, ints_cons, ints_nil, encTs_cons, encTs_nil, es_str_cons, es_str_nil, es_u64_cons, es_u64_nil, es_u8_cons, es_u8_nil] at k10
  try dsimp only at hB
  obtain ⟨y11, k12, hB⟩ := kb_inv hB
  replace k12 := run_cmp_Or_int_ k12
  try simp only [Int.cast_ofNat_Int, Int.natCast_zero, List.length_cons, List.length_nil, List.nil_append, List.cons_append, Nat.zero_add, Nat.reduceAdd, Tru.thr_mk, Tru.nodes_mk, Tru.inner_mk, ints_cons, ints_nil, encTs_cons, encTs_nil, es_str_cons, es_str_nil, es_u64_cons, es_u64_nil, es_u8_cons, es_u8_nil] at k12
  try dsimp only at hB
  obtain rfl := Option.some.inj hB
  subst hr1
  simp -implicitDefEqProofs [-getElem?_pos, -Int.ofNat_lt, -Int.ofNat_le, -Int.natCast_eq_zero, -Int.natCast_pos, -List.length_eq_zero_iff, List.getElem?_cons_zero, List.getElem?_cons_succ, List.getElem?_nil, k2, k4, k6, k8, k10, k12]
  rw [drawK_ok _ _ _ (by kernel_rfl)]
  simp -implicitDefEqProofs [-getElem?_pos, -Int.ofNat_lt, -Int.ofNat_le, -Int.natCast_eq_zero, -Int.natCast_pos, -List.length_eq_zero_iff, List.getElem?_cons_zero, List.getElem?_cons_succ, List.getElem?_nil, k2, k4, k6, k8, k10, k12]
theorem g_declaration_Compare {p0 : S_api_Declaration} {p1 : S_api_Declaration} {r : Int} (hB : B_declaration_Compare p0 p1 = some r) : G_declaration_Compare p0 p1 = some r := dec_of (fun a b h => by rcases a with a0_; rcases b with b0_; simp at h; simp [*]) (sim_declaration_Compare hB)
end Go.Am

/-
Plain laws of chapter 07: the order of declarations.
-/
namespace Go.Am
open Go
set_option linter.unusedVariables false
set_option linter.unusedSimpArgs false

def cmpI (p q : Int) : Int := if p < q then -1 else if q < p then 1 else 0
def cmpS (x y : List UInt8) : Int := if Op.bytesLess x y = true then -1 else if x = y then 0 else 1
def or3 (a b c : Int) : Int := if a = 0 then (if b = 0 then c else b) else a
theorem s_isNaN_int (p : Int) : G_cmp_isNaN_int_ p = some false := by
  refine g_cmp_isNaN_int_ ?_
  unfold B_cmp_isNaN_int_
  simp
theorem s_isNaN_string (p : List UInt8) : G_cmp_isNaN_string_ p = some false := by
  refine g_cmp_isNaN_string_ ?_
  unfold B_cmp_isNaN_string_
  simp
theorem s_Compare_int (p q : Int) : G_cmp_Compare_int_ p q = some (cmpI p q) := by
  refine g_cmp_Compare_int_ ?_
  unfold B_cmp_Compare_int_ cmpI
  rw [s_isNaN_int, kb_some, s_isNaN_int, kb_some, cnd_false, cnd_false]
  by_cases c1 : p < q
  · simp [c1, cnd_true]
  · by_cases c2 : q < p <;> simp [c1, c2, cnd_true, cnd_false]
theorem s_Compare_string (x y : List UInt8) : G_cmp_Compare_string_ x y = some (cmpS x y) := by
  refine g_cmp_Compare_string_ ?_
  unfold B_cmp_Compare_string_ cmpS
  rw [s_isNaN_string, kb_some, s_isNaN_string, kb_some, cnd_false, cnd_false]
  cases c1 : Op.bytesLess x y
  · by_cases c2 : x = y
    · simp [c2, cnd_true, cnd_false]
    · have : (x == y) = false := by rw [beq_eq_false_iff_ne]; exact c2
      simp [c2, this, cnd_false]
  · simp [cnd_true]
theorem s_Or (a b c : Int) : G_cmp_Or_int_ [a, b, c] = some (or3 a b c) := by
  refine g_cmp_Or_int_ ?_
  unfold B_cmp_Or_int_
  rw [smallK_some (by simp), kb_some]
  have e : ∀ (j : Nat) (x : Int), B_cmp_Or_int__0 [a, b, c] j x = some (if x = 0 then .go () else .ret x) := by
    intro j x
    unfold B_cmp_Or_int__0
    by_cases h : x = 0 <;> simp [h, cnd_true, cnd_false]
  have e2 : loopL (fun i (a_1 : Unit) x => B_cmp_Or_int__0 [a, b, c] i x) 0 () [a, b, c] = some (if a = 0 then (if b = 0 then (if c = 0 then .go () else .ret c) else .ret b) else .ret a) := by
    show kb (B_cmp_Or_int__0 [a, b, c] 0 a) _ = _
    rw [e, kb_some]
    by_cases h1 : a = 0
    · simp only [h1, if_true]
      show kb (B_cmp_Or_int__0 [0, b, c] 1 b) _ = _
      have e' := e 1 b
      rw [h1] at e'
      rw [e', kb_some]
      by_cases h2 : b = 0
      · simp only [h2, if_true]
        show kb (B_cmp_Or_int__0 [0, 0, c] 2 c) _ = _
        have e' := e 2 c
        rw [h1, h2] at e'
        rw [e', kb_some]
        by_cases h3 : c = 0
        · simp only [h3, if_true]; rfl
        · simp only [h3, if_false]
      · simp only [h2, if_false]
    · simp only [h1, if_false]
  rw [e2, kb_some]
  unfold or3
  by_cases h1 : a = 0
  · by_cases h2 : b = 0
    · by_cases h3 : c = 0 <;> simp [h1, h2, h3, stpK_go, stpK_ret]
    · simp [h1, h2, stpK_ret]
  · simp [h1, stpK_ret]
def cmpD (a b : Decl) : Int := or3 (cmpI a.f0 b.f0) (cmpI a.f1 b.f1) (cmpS (bytesV a) (bytesV b))
theorem s_declaration_Compare {a b : Decl} (ha : DOk a) (hb : DOk b) : G_declaration_Compare a b = some (cmpD a b) := by
  refine g_declaration_Compare ?_
  unfold B_declaration_Compare cmpD
  rw [s_Compare_int, kb_some, s_Compare_int, kb_some, s_declaration_Bytes ha, kb_some, s_declaration_Bytes hb, kb_some, s_Compare_string, kb_some, s_Or, kb_some]
theorem cmpS_neg (x y : List UInt8) : cmpS x y = -cmpS y x := by
  unfold cmpS
  by_cases h : x = y
  · subst h; simp [bl_irrefl]
  · have h' : ¬ y = x := fun e => h e.symm
    rcases bl_total x y h with h1 | h1
    · simp [h1, bl_asymm _ _ h1, h']
    · simp [h1, bl_asymm _ _ h1, h]
theorem cmpI_neg (p q : Int) : cmpI p q = -cmpI q p := by
  unfold cmpI
  split <;> split <;> omega
theorem or3_neg (a b c : Int) : or3 (-a) (-b) (-c) = -or3 a b c := by
  unfold or3
  split <;> split <;> (try split) <;> (try split) <;> omega
theorem cmpD_neg (a b : Decl) : cmpD a b = -cmpD b a := by
  unfold cmpD
  rw [cmpI_neg a.f0, cmpI_neg a.f1, cmpS_neg (bytesV a), or3_neg]
theorem cmpS_range (x y : List UInt8) : -1 ≤ cmpS x y ∧ cmpS x y ≤ 1 := by unfold cmpS; split <;> (try split) <;> omega
theorem cmpI_range (x y : Int) : -1 ≤ cmpI x y ∧ cmpI x y ≤ 1 := by unfold cmpI; split <;> (try split) <;> omega
theorem cmpD_range (a b : Decl) : -1 ≤ cmpD a b ∧ cmpD a b ≤ 1 := by
  have h1 := cmpI_range a.f0 b.f0
  have h2 := cmpI_range a.f1 b.f1
  have h3 := cmpS_range (bytesV a) (bytesV b)
  unfold cmpD or3
  split <;> (try split) <;> omega
theorem cmpS_le {x y : List UInt8} : cmpS x y ≤ 0 ↔ Op.bytesLess x y = true ∨ x = y := by
  unfold cmpS
  by_cases h1 : Op.bytesLess x y = true
  · simp [h1]
  · by_cases h2 : x = y
    · subst h2; simp [bl_irrefl]
    · simp [h1, h2]
theorem cmpS_trans {x y z : List UInt8} (h1 : cmpS x y ≤ 0) (h2 : cmpS y z ≤ 0) : cmpS x z ≤ 0 := by
  rw [cmpS_le] at h1 h2 ⊢
  rcases h1 with h1 | rfl
  · rcases h2 with h2 | rfl
    · exact .inl (bl_trans _ _ _ h1 h2)
    · exact .inl h1
  · exact h2
theorem cmpI_lt {p q : Int} : cmpI p q = -1 ↔ p < q := by unfold cmpI; split <;> (try split) <;> omega
theorem cmpI_eq {p q : Int} : cmpI p q = 0 ↔ p = q := by unfold cmpI; split <;> (try split) <;> omega
theorem cmpD_le {a b : Decl} : cmpD a b ≤ 0 ↔ a.f0 < b.f0 ∨ (a.f0 = b.f0 ∧ (a.f1 < b.f1 ∨ (a.f1 = b.f1 ∧ cmpS (bytesV a) (bytesV b) ≤ 0))) := by
  have r1 := cmpI_range a.f0 b.f0
  have r2 := cmpI_range a.f1 b.f1
  have e1 := cmpI_lt (p := a.f0) (q := b.f0)
  have e2 := cmpI_eq (p := a.f0) (q := b.f0)
  have e3 := cmpI_lt (p := a.f1) (q := b.f1)
  have e4 := cmpI_eq (p := a.f1) (q := b.f1)
  unfold cmpD or3
  generalize cmpI a.f0 b.f0 = u at *
  generalize cmpI a.f1 b.f1 = v at *
  generalize cmpS (bytesV a) (bytesV b) = w at *
  by_cases c1 : u = 0
  · by_cases c2 : v = 0
    · simp only [c1, c2, if_true]
      have := e2.1 c1
      have := e4.1 c2
      omega
    · simp only [c1, c2, if_true, if_false]
      have := e2.1 c1
      have h4 : ¬ a.f1 = b.f1 := fun h => c2 (e4.2 h)
      by_cases c3 : v = -1
      · have := e3.1 c3; omega
      · have : ¬ a.f1 < b.f1 := fun h => c3 (e3.2 h)
        omega
  · simp only [c1, if_false]
    have h2 : ¬ a.f0 = b.f0 := fun h => c1 (e2.2 h)
    by_cases c3 : u = -1
    · have := e1.1 c3; omega
    · have : ¬ a.f0 < b.f0 := fun h => c3 (e1.2 h)
      omega
theorem cmpD_trans {a b c : Decl} (h1 : cmpD a b ≤ 0) (h2 : cmpD b c ≤ 0) : cmpD a c ≤ 0 := by
  rw [cmpD_le] at h1 h2 ⊢
  by_cases k1 : a.f0 < b.f0
  · left; omega
  · by_cases k2 : b.f0 < c.f0
    · left; omega
    · right
      refine ⟨by omega, ?_⟩
      by_cases k3 : a.f1 < b.f1
      · left; omega
      · by_cases k4 : b.f1 < c.f1
        · left; omega
        · right
          refine ⟨by omega, cmpS_trans (y := bytesV b) ?_ ?_⟩ <;> omega
theorem bytes_num {a b : Decl} (ha : DOk a) (hb : DOk b) (h : bytesV a = bytesV b) : a.f0 = b.f0 ∧ a.f1 = b.f1 := by
  have e : ∀ d : Decl, bytesV d = [100, 32] ++ (itoa2 d.f0.toNat ++ 32 :: (itoa2 d.f1.toNat ++ 32 :: txtT d.f2)) := by
    intro d; simp [bytesV]
  rw [e, e] at h
  have h := List.append_cancel_left h
  have a1 := ha.1.1
  have a2 := ha.1.2
  have b1 := hb.1.1
  have b2 := hb.1.2
  obtain ⟨h1, _, h2⟩ := dig_split (itoa2_dig (by omega)) (itoa2_dig (by omega)) nd_32 nd_32 h
  obtain ⟨h3, _, _⟩ := dig_split (itoa2_dig (by omega)) (itoa2_dig (by omega)) nd_32 nd_32 h2
  have g1 := itoa2_inj (by omega) (by omega) h1
  have g2 := itoa2_inj (by omega) (by omega) h3
  omega
theorem cmpD_zero {a b : Decl} (ha : DOk a) (hb : DOk b) : cmpD a b = 0 ↔ bytesV a = bytesV b := by
  constructor
  · intro h
    unfold cmpD or3 at h
    split at h
    · split at h
      · unfold cmpS at h
        split at h
        · omega
        · split at h
          · assumption
          · omega
      · rename_i c; exact absurd h c
    · rename_i c; exact absurd h c
  · intro h
    obtain ⟨h0, h1⟩ := bytes_num ha hb h
    unfold cmpD or3
    rw [cmpI_eq.2 h0, cmpI_eq.2 h1, h]
    simp [cmpS, bl_irrefl]
end Go.Am

/-
The example of the chapter: the kernel runs it.
-/
namespace Go.Am
open Go Go.Proofs
theorem awake_run : R 11 [] [] = some (bl true, [], []) := (W_iff _ _ _ _).2 ⟨200, by kernel_rfl⟩
theorem s_awake07 : G_law07_awake = some true := of_law07_awake awake_run
end Go.Am

/-
How trustquorumlaw07.DeclarationOrders runs, as a pure function.
-/
namespace Go.Am
open Go Go.Proofs
set_option linter.unusedVariables false
set_option linter.unusedSimpArgs false
set_option maxRecDepth 4000
set_option maxHeartbeats 4000000
noncomputable def B_law07_DeclarationOrders_0 (y9 : (S_api_Declaration × S_trustquorummake_Tape)) (y7 : (S_api_Declaration × S_trustquorummake_Tape)) (y17 : Int) (y13 : Int) (y15 : Int) : Option Bool :=
  kb (G_declaration_Compare y9.1 y7.1) fun y19 =>
  cnd (decide (y13 = (IntKind.wrap .i64 (-y19)))) (
    cnd (decide (y13 ≤ 0)) (
      cnd (decide (y15 ≤ 0)) (
        cnd (decide (0 < y17)) (
          some true) (
          kb (G_declaration_Bytes y7.1) fun y25 =>
          kb (G_declaration_Bytes y9.1) fun y27 =>
          some (!((decide (y13 = 0)) == (y25 == y27))))) (
        kb (G_declaration_Bytes y7.1) fun y29 =>
        kb (G_declaration_Bytes y9.1) fun y31 =>
        some (!((decide (y13 = 0)) == (y29 == y31))))) (
      kb (G_declaration_Bytes y7.1) fun y33 =>
      kb (G_declaration_Bytes y9.1) fun y35 =>
      some (!((decide (y13 = 0)) == (y33 == y35))))) (
    some true)
def J_law07_DeclarationOrders_0 (y9 : (S_api_Declaration × S_trustquorummake_Tape)) (y7 : (S_api_Declaration × S_trustquorummake_Tape)) (y17 : Int) (y13 : Int) (y15 : Int) (q : St) : Prop := q (.t 10) = (i64 y17) ∧ q (.t 8) = (i64 y13) ∧ q (.t 9) = (i64 y15) ∧ (∃ (g : Nat), q (.t 6) = .ptr (.site 3 10 0) g 0 ∧ q (.i (.site 3 10 0)) = .box g [(i64 y9.1.f0), (i64 y9.1.f1), (i64 y9.1.f2.thr), (.pv (.sl y9.1.f2.nodes.length (ints y9.1.f2.nodes))), (.pv (.sl y9.1.f2.inner.length (encTs y9.1.f2.inner))), (.pv (.int .u64 y9.1.f3))]) ∧ (∃ (g : Nat), q (.t 5) = .ptr (.site 3 9 0) g 0 ∧ q (.i (.site 3 9 0)) = .box g [(i64 y7.1.f0), (i64 y7.1.f1), (i64 y7.1.f2.thr), (.pv (.sl y7.1.f2.nodes.length (ints y7.1.f2.nodes))), (.pv (.sl y7.1.f2.inner.length (encTs y7.1.f2.inner))), (.pv (.int .u64 y7.1.f3))])
def Q_law07_DeclarationOrders_0 (y9 : (S_api_Declaration × S_trustquorummake_Tape)) (y7 : (S_api_Declaration × S_trustquorummake_Tape)) (y17 : Int) (y13 : Int) (y15 : Int) (o62_0 : Bool) (q : St) : Prop := q (.t 62) = (bl o62_0) ∧ q (.t 8) = (i64 y13) ∧ (∃ (g : Nat), q (.t 6) = .ptr (.site 3 10 0) g 0 ∧ q (.i (.site 3 10 0)) = .box g [(i64 y9.1.f0), (i64 y9.1.f1), (i64 y9.1.f2.thr), (.pv (.sl y9.1.f2.nodes.length (ints y9.1.f2.nodes))), (.pv (.sl y9.1.f2.inner.length (encTs y9.1.f2.inner))), (.pv (.int .u64 y9.1.f3))]) ∧ (∃ (g : Nat), q (.t 5) = .ptr (.site 3 9 0) g 0 ∧ q (.i (.site 3 9 0)) = .box g [(i64 y7.1.f0), (i64 y7.1.f1), (i64 y7.1.f2.thr), (.pv (.sl y7.1.f2.nodes.length (ints y7.1.f2.nodes))), (.pv (.sl y7.1.f2.inner.length (encTs y7.1.f2.inner))), (.pv (.int .u64 y7.1.f3))])
theorem P_law07_DeclarationOrders_0 {y9 : (S_api_Declaration × S_trustquorummake_Tape)} {y7 : (S_api_Declaration × S_trustquorummake_Tape)} {y17 : Int} {y13 : Int} {y15 : Int} {cc : Code} (hcc : cc = (Code.fst (Code.fst (Code.snd (Code.snd (Code.snd (Code.snd (Code.snd ((Tryd.f5.body).getD .skip))))))))) {s : St} {z : Option (Ex × St)} (hz : C Tryd.prog cf cc s = z) {r : Bool} (hI : J_law07_DeclarationOrders_0 y9 y7 y17 y13 y15 s) (hB : B_law07_DeclarationOrders_0 y9 y7 y17 y13 y15 = some r) : Res z (postG (fun a q => Q_law07_DeclarationOrders_0 y9 y7 y17 y13 y15 a q) r) := by
  subst hcc
  subst hz
  simp only [J_law07_DeclarationOrders_0] at hI
  obtain ⟨q1, q2, q3, ⟨g5, q4, q5⟩, ⟨g7, q6, q7⟩⟩ := hI
  simp only [Code.fst, Code.snd, Tryd.f5, Option.getD_some]
  unfold B_law07_DeclarationOrders_0 at hB
  obtain ⟨y19, k20, hB⟩ := kb_inv hB
  replace k20 := run_declaration_Compare k20
  try simp only [Int.cast_ofNat_Int, Int.natCast_zero, List.length_cons, List.length_nil, List.nil_append, List.cons_append, Nat.zero_add, Nat.reduceAdd, Tru.thr_mk, Tru.nodes_mk, Tru.inner_mk, ints_cons, ints_nil, encTs_cons, encTs_nil, es_str_cons, es_str_nil, es_u64_cons, es_u64_nil, es_u8_cons, es_u8_nil] at k20
  try dsimp only at hB
  rcases cnd_inv hB with ⟨c21, hB⟩ | ⟨c21, hB⟩
  · have pc21 := eq_true (of_decide_eq_true c21)
    rcases cnd_inv hB with ⟨c22, hB⟩ | ⟨c22, hB⟩
    · have pc22 := eq_true (of_decide_eq_true c22)
      rcases cnd_inv hB with ⟨c23, hB⟩ | ⟨c23, hB⟩
      · have pc23 := eq_true (of_decide_eq_true c23)
        rcases cnd_inv hB with ⟨c24, hB⟩ | ⟨c24, hB⟩
        · have pc24 := eq_true (of_decide_eq_true c24)
          obtain rfl := Option.some.inj hB
          try simp -implicitDefEqProofs [-getElem?_pos, -Int.ofNat_lt, -Int.ofNat_le, -Int.natCast_eq_zero, -Int.natCast_pos, -List.length_eq_zero_iff, List.getElem?_cons_zero, List.getElem?_cons_succ, List.getElem?_nil, q1, q2, q3, q4, q5, q6, q7, k20, c21, pc21, c22, pc22, c23, pc23, c24, pc24]
          rw [drawK_ok _ _ _ (by kernel_rfl)]
          simp -implicitDefEqProofs [-getElem?_pos, -Int.ofNat_lt, -Int.ofNat_le, -Int.natCast_eq_zero, -Int.natCast_pos, -List.length_eq_zero_iff, List.getElem?_cons_zero, List.getElem?_cons_succ, List.getElem?_nil, q1, q2, q3, q4, q5, q6, q7, k20, c21, pc21, c22, pc22, c23, pc23, c24, pc24]
          refine Res.g ?_
          simp -implicitDefEqProofs [-getElem?_pos, -Int.ofNat_lt, -Int.ofNat_le, -Int.natCast_eq_zero, -Int.natCast_pos, -List.length_eq_zero_iff, List.getElem?_cons_zero, List.getElem?_cons_succ, List.getElem?_nil, and_assoc, Q_law07_DeclarationOrders_0, ownAt, q1, q2, q3, q4, q5, q6, q7, k20, c21, pc21, c22, pc22, c23, pc23, c24, pc24]
        · have pc24 := eq_false (of_decide_eq_false c24)
          obtain ⟨y25, k26, hB⟩ := kb_inv hB
          replace k26 := run_declaration_Bytes k26
          try simp only [Int.cast_ofNat_Int, Int.natCast_zero, List.length_cons, List.length_nil, List.nil_append, List.cons_append, Nat.zero_add, Nat.reduceAdd, Tru.thr_mk, Tru.nodes_mk, Tru.inner_mk, ints_cons, ints_nil, encTs_cons, encTs_nil, es_str_cons, es_str_nil, es_u64_cons, es_u64_nil, es_u8_cons, es_u8_nil] at k26
          try dsimp only at hB
          obtain ⟨y27, k28, hB⟩ := kb_inv hB
          replace k28 := run_declaration_Bytes k28
          try simp only [Int.cast_ofNat_Int, Int.natCast_zero, List.length_cons, List.length_nil, List.nil_append, List.cons_append, Nat.zero_add, Nat.reduceAdd, Tru.thr_mk, Tru.nodes_mk, Tru.inner_mk, ints_cons, ints_nil, encTs_cons, encTs_nil, es_str_cons, es_str_nil, es_u64_cons, es_u64_nil, es_u8_cons, es_u8_nil] at k28
          try dsimp only at hB
          obtain rfl := Option.some.inj hB
          try simp -implicitDefEqProofs [-getElem?_pos, -Int.ofNat_lt, -Int.ofNat_le, -Int.natCast_eq_zero, -Int.natCast_pos, -List.length_eq_zero_iff, List.getElem?_cons_zero, List.getElem?_cons_succ, List.getElem?_nil, q1, q2, q3, q4, q5, q6, q7, k20, c21, pc21, c22, pc22, c23, pc23, c24, pc24, k26, k28]
          rw [drawK_ok _ _ _ (by kernel_rfl)]
          simp -implicitDefEqProofs [-getElem?_pos, -Int.ofNat_lt, -Int.ofNat_le, -Int.natCast_eq_zero, -Int.natCast_pos, -List.length_eq_zero_iff, List.getElem?_cons_zero, List.getElem?_cons_succ, List.getElem?_nil, q1, q2, q3, q4, q5, q6, q7, k20, c21, pc21, c22, pc22, c23, pc23, c24, pc24, k26, k28]
          refine Res.g ?_
          simp -implicitDefEqProofs [-getElem?_pos, -Int.ofNat_lt, -Int.ofNat_le, -Int.natCast_eq_zero, -Int.natCast_pos, -List.length_eq_zero_iff, List.getElem?_cons_zero, List.getElem?_cons_succ, List.getElem?_nil, and_assoc, Q_law07_DeclarationOrders_0, ownAt, q1, q2, q3, q4, q5, q6, q7, k20, c21, pc21, c22, pc22, c23, pc23, c24, pc24, k26, k28]
      · have pc23 := eq_false (of_decide_eq_false c23)
        obtain ⟨y29, k30, hB⟩ := kb_inv hB
        replace k30 := run_declaration_Bytes k30
        try simp only [Int.cast_ofNat_Int, Int.natCast_zero, List.length_cons, List.length_nil, List.nil_append, List.cons_append, Nat.zero_add, Nat.reduceAdd, Tru.thr_mk, Tru.nodes_mk, Tru.inner_mk, ints_cons, ints_nil, encTs_cons, encTs_nil, es_str_cons, es_str_nil, es_u64_cons, es_u64_nil, es_u8_cons, es_u8_nil] at k30
        try dsimp only at hB
        obtain ⟨y31, k32, hB⟩ := kb_inv hB
        replace k32 := run_declaration_Bytes k32
        try simp only [Int.cast_ofNat_Int, Int.natCast_zero, List.length_cons, List.length_nil, List.nil_append, List.cons_append, Nat.zero_add, Nat.reduceAdd, Tru.thr_mk, Tru.nodes_mk, Tru.inner_mk, ints_cons, ints_nil, encTs_cons, encTs_nil, es_str_cons, es_str_nil, es_u64_cons, es_u64_nil, es_u8_cons, es_u8_nil] at k32
        try dsimp only at hB
        obtain rfl := Option.some.inj hB
        try simp -implicitDefEqProofs [-getElem?_pos, -Int.ofNat_lt, -Int.ofNat_le, -Int.natCast_eq_zero, -Int.natCast_pos, -List.length_eq_zero_iff, List.getElem?_cons_zero, List.getElem?_cons_succ, List.getElem?_nil, q1, q2, q3, q4, q5, q6, q7, k20, c21, pc21, c22, pc22, c23, pc23, k30, k32]
        rw [drawK_ok _ _ _ (by kernel_rfl)]
        simp -implicitDefEqProofs [-getElem?_pos, -Int.ofNat_lt, -Int.ofNat_le, -Int.natCast_eq_zero, -Int.natCast_pos, -List.length_eq_zero_iff, List.getElem?_cons_zero, List.getElem?_cons_succ, List.getElem?_nil, q1, q2, q3, q4, q5, q6, q7, k20, c21, pc21, c22, pc22, c23, pc23, k30, k32]
        refine Res.g ?_
        simp -implicitDefEqProofs [-getElem?_pos, -Int.ofNat_lt, -Int.ofNat_le, -Int.natCast_eq_zero, -Int.natCast_pos, -List.length_eq_zero_iff, List.getElem?_cons_zero, List.getElem?_cons_succ, List.getElem?_nil, and_assoc, Q_law07_DeclarationOrders_0, ownAt, q1, q2, q3, q4, q5, q6, q7, k20, c21, pc21, c22, pc22, c23, pc23, k30, k32]
    · have pc22 := eq_false (of_decide_eq_false c22)
      obtain ⟨y33, k34, hB⟩ := kb_inv hB
      replace k34 := run_declaration_Bytes k34
      try simp only [Int.cast_ofNat_Int, Int.natCast_zero, List.length_cons, List.length_nil, List.nil_append, List.cons_append, Nat.zero_add, Nat.reduceAdd, Tru.thr_mk, Tru.nodes_mk, Tru.inner_mk, ints_cons, ints_nil, encTs_cons, encTs_nil, es_str_cons, es_str_nil, es_u64_cons, es_u64_nil, es_u8_cons, es_u8_nil] at k34
      try dsimp only at hB
      obtain ⟨y35, k36, hB⟩ := kb_inv hB
      replace k36 := run_declaration_Bytes k36
      try simp only [Int.cast_ofNat_Int, Int.natCast_zero, List.length_cons, List.length_nil, List.nil_append, List.cons_append, Nat.zero_add, Nat.reduceAdd, Tru.thr_mk, Tru.nodes_mk, Tru.inner_mk, ints_cons, ints_nil, encTs_cons, encTs_nil, es_str_cons, es_str_nil, es_u64_cons, es_u64_nil, es_u8_cons, es_u8_nil] at k36
      try dsimp only at hB
      obtain rfl := Option.some.inj hB
      try simp -implicitDefEqProofs [-getElem?_pos, -Int.ofNat_lt, -Int.ofNat_le, -Int.natCast_eq_zero, -Int.natCast_pos, -List.length_eq_zero_iff, List.getElem?_cons_zero, List.getElem?_cons_succ, List.getElem?_nil, q1, q2, q3, q4, q5, q6, q7, k20, c21, pc21, c22, pc22, k34, k36]
      rw [drawK_ok _ _ _ (by kernel_rfl)]
      simp -implicitDefEqProofs [-getElem?_pos, -Int.ofNat_lt, -Int.ofNat_le, -Int.natCast_eq_zero, -Int.natCast_pos, -List.length_eq_zero_iff, List.getElem?_cons_zero, List.getElem?_cons_succ, List.getElem?_nil, q1, q2, q3, q4, q5, q6, q7, k20, c21, pc21, c22, pc22, k34, k36]
      refine Res.g ?_
      simp -implicitDefEqProofs [-getElem?_pos, -Int.ofNat_lt, -Int.ofNat_le, -Int.natCast_eq_zero, -Int.natCast_pos, -List.length_eq_zero_iff, List.getElem?_cons_zero, List.getElem?_cons_succ, List.getElem?_nil, and_assoc, Q_law07_DeclarationOrders_0, ownAt, q1, q2, q3, q4, q5, q6, q7, k20, c21, pc21, c22, pc22, k34, k36]
  · have pc21 := eq_false (of_decide_eq_false c21)
    obtain rfl := Option.some.inj hB
    try simp -implicitDefEqProofs [-getElem?_pos, -Int.ofNat_lt, -Int.ofNat_le, -Int.natCast_eq_zero, -Int.natCast_pos, -List.length_eq_zero_iff, List.getElem?_cons_zero, List.getElem?_cons_succ, List.getElem?_nil, q1, q2, q3, q4, q5, q6, q7, k20, c21, pc21]
    rw [drawK_ok _ _ _ (by kernel_rfl)]
    simp -implicitDefEqProofs [-getElem?_pos, -Int.ofNat_lt, -Int.ofNat_le, -Int.natCast_eq_zero, -Int.natCast_pos, -List.length_eq_zero_iff, List.getElem?_cons_zero, List.getElem?_cons_succ, List.getElem?_nil, q1, q2, q3, q4, q5, q6, q7, k20, c21, pc21]
    refine Res.g ?_
    simp -implicitDefEqProofs [-getElem?_pos, -Int.ofNat_lt, -Int.ofNat_le, -Int.natCast_eq_zero, -Int.natCast_pos, -List.length_eq_zero_iff, List.getElem?_cons_zero, List.getElem?_cons_succ, List.getElem?_nil, and_assoc, Q_law07_DeclarationOrders_0, ownAt, q1, q2, q3, q4, q5, q6, q7, k20, c21, pc21]
noncomputable def B_law07_DeclarationOrders (p0 : (List Int)) : Option Bool :=
  kb (G_make_New p0) fun y1 =>
  kb (G_make_Tape_Range y1 1 4) fun y3 =>
  kb (G_make_Keys y3.2 y3.1) fun y5 =>
  kb (G_make_Declaration y5.2 y5.1) fun y7 =>
  kb (G_make_Declaration y7.2 y5.1) fun y9 =>
  kb (G_make_Declaration y9.2 y5.1) fun y11 =>
  kb (G_declaration_Compare y7.1 y9.1) fun y13 =>
  kb (G_declaration_Compare y9.1 y11.1) fun y15 =>
  kb (G_declaration_Compare y7.1 y11.1) fun y17 =>
  kb (B_law07_DeclarationOrders_0 y9 y7 y17 y13 y15) fun z37 =>
  cnd z37 (
    some false) (
    cnd (decide (y9.1.f0 ≤ y7.1.f0)) (
      cnd (decide (y7.1.f0 = y9.1.f0)) (
        cnd (decide (y9.1.f1 ≤ y7.1.f1)) (
          kb (G_law07_awake ) fun y42 =>
          some y42) (
          cnd (decide (y13 = (-1))) (
            kb (G_law07_awake ) fun y45 =>
            some y45) (
            some false))) (
        kb (G_law07_awake ) fun y47 =>
        some y47)) (
      cnd (decide (y13 = (-1))) (
        cnd (decide (y7.1.f0 = y9.1.f0)) (
          cnd (decide (y9.1.f1 ≤ y7.1.f1)) (
            kb (G_law07_awake ) fun y52 =>
            some y52) (
            kb (G_law07_awake ) fun y54 =>
            some y54)) (
          kb (G_law07_awake ) fun y56 =>
          some y56)) (
        some false)))
theorem sim_law07_DeclarationOrders {p0 : (List Int)} {r : Bool} (hB : B_law07_DeclarationOrders p0 = some r) : R 5 [(.pv (.sl p0.length (ints p0)))] [] = some ((bl r), [], []) := by
  rw [R_eq _ _ _ fn_law07_DeclarationOrders]
  simp only [Code.fst, Code.snd, Tryd.f5, Option.getD_some]
  generalize hc0 : Code.region 5 _ _ = cc0
  generalize hr2 : Code.region 2 _ _ = rr2
  generalize hr3 : Code.region 3 _ _ = rr3
  generalize hr4 : Code.region 4 _ _ = rr4
  generalize hr7 : Code.region 7 _ _ = rr7
  unfold B_law07_DeclarationOrders at hB
  obtain ⟨y1, k2, hB⟩ := kb_inv hB
  replace k2 := run_make_New k2
  try simp only [Int.cast_ofNat_Int, Int.natCast_zero, List.length_cons, List.length_nil, List.nil_append, List.cons_append, Nat.zero_add, Nat.reduceAdd, Tru.thr_mk, Tru.nodes_mk, Tru.inner_mk, ints_cons, ints_nil, encTs_cons, encTs_nil, es_str_cons, es_str_nil, es_u64_cons, es_u64_nil, es_u8_cons, es_u8_nil] at k2
  try dsimp only at hB
  obtain ⟨y3, k4, hB⟩ := kb_inv hB
  replace k4 := run_make_Tape_Range k4
  try simp only [Int.cast_ofNat_Int, Int.natCast_zero, List.length_cons, List.length_nil, List.nil_append, List.cons_append, Nat.zero_add, Nat.reduceAdd, Tru.thr_mk, Tru.nodes_mk, Tru.inner_mk, ints_cons, ints_nil, encTs_cons, encTs_nil, es_str_cons, es_str_nil, es_u64_cons, es_u64_nil, es_u8_cons, es_u8_nil] at k4
  try dsimp only at hB
  obtain ⟨y5, k6, hB⟩ := kb_inv hB
  replace k6 := run_make_Keys k6
  try simp only [Int.cast_ofNat_Int, Int.natCast_zero, List.length_cons, List.length_nil, List.nil_append, List.cons_append, Nat.zero_add, Nat.reduceAdd, Tru.thr_mk, Tru.nodes_mk, Tru.inner_mk, ints_cons, ints_nil, encTs_cons, encTs_nil, es_str_cons, es_str_nil, es_u64_cons, es_u64_nil, es_u8_cons, es_u8_nil] at k6
  try dsimp only at hB
  obtain ⟨y7, k8, hB⟩ := kb_inv hB
  replace k8 := run_make_Declaration k8
  try simp only [Int.cast_ofNat_Int, Int.natCast_zero, List.length_cons, List.length_nil, List.nil_append, List.cons_append, Nat.zero_add, Nat.reduceAdd, Tru.thr_mk, Tru.nodes_mk, Tru.inner_mk, ints_cons, ints_nil, encTs_cons, encTs_nil, es_str_cons, es_str_nil, es_u64_cons, es_u64_nil, es_u8_cons, es_u8_nil] at k8
  try dsimp only at hB
  obtain ⟨y9, k10, hB⟩ := kb_inv hB
  replace k10 := run_make_Declaration k10
  try simp only [Int.cast_ofNat_Int, Int.natCast_zero, List.length_cons, List.length_nil, List.nil_append, List.cons_append, Nat.zero_add, Nat.reduceAdd, Tru.thr_mk, Tru.nodes_mk, Tru.inner_mk, ints_cons, ints_nil, encTs_cons, encTs_nil, es_str_cons, es_str_nil, es_u64_cons, es_u64_nil, es_u8_cons, es_u8_nil] at k10
  try dsimp only at hB
  obtain ⟨y11, k12, hB⟩ := kb_inv hB
  replace k12 := run_make_Declaration k12
  try simp only [Int.cast_ofNat_Int, Int.natCast_zero, List.length_cons, List.length_nil, List.nil_append, List.cons_append, Nat.zero_add, Nat.reduceAdd, Tru.thr_mk, Tru.nodes_mk, Tru.inner_mk, ints_cons, ints_nil, encTs_cons, encTs_nil, es_str_cons, es_str_nil, es_u64_cons, es_u64_nil, es_u8_cons, es_u8_nil] at k12
  try dsimp only at hB
  obtain ⟨y13, k14, hB⟩ := kb_inv hB
  replace k14 := run_declaration_Compare k14
  try simp only [Int.cast_ofNat_Int, Int.natCast_zero, List.length_cons, List.length_nil, List.nil_append, List.cons_append, Nat.zero_add, Nat.reduceAdd, Tru.thr_mk, Tru.nodes_mk, Tru.inner_mk, ints_cons, ints_nil, encTs_cons, encTs_nil, es_str_cons, es_str_nil, es_u64_cons, es_u64_nil, es_u8_cons, es_u8_nil] at k14
  try dsimp only at hB
  obtain ⟨y15, k16, hB⟩ := kb_inv hB
  replace k16 := run_declaration_Compare k16
  try simp only [Int.cast_ofNat_Int, Int.natCast_zero, List.length_cons, List.length_nil, List.nil_append, List.cons_append, Nat.zero_add, Nat.reduceAdd, Tru.thr_mk, Tru.nodes_mk, Tru.inner_mk, ints_cons, ints_nil, encTs_cons, encTs_nil, es_str_cons, es_str_nil, es_u64_cons, es_u64_nil, es_u8_cons, es_u8_nil] at k16
  try dsimp only at hB
  obtain ⟨y17, k18, hB⟩ := kb_inv hB
  replace k18 := run_declaration_Compare k18
  try simp only [Int.cast_ofNat_Int, Int.natCast_zero, List.length_cons, List.length_nil, List.nil_append, List.cons_append, Nat.zero_add, Nat.reduceAdd, Tru.thr_mk, Tru.nodes_mk, Tru.inner_mk, ints_cons, ints_nil, encTs_cons, encTs_nil, es_str_cons, es_str_nil, es_u64_cons, es_u64_nil, es_u8_cons, es_u8_nil] at k18
  try dsimp only at hB
  subst hr2
  subst hr3
  subst hr4
  try simp -implicitDefEqProofs [-getElem?_pos, -Int.ofNat_lt, -Int.ofNat_le, -Int.natCast_eq_zero, -Int.natCast_pos, -List.length_eq_zero_iff, List.getElem?_cons_zero, List.getElem?_cons_succ, List.getElem?_nil, k2, k4, k6, k8, k10, k12, k14, k16, k18]
  rw [drawK_ok _ _ _ (by kernel_rfl)]
  simp -implicitDefEqProofs [-getElem?_pos, -Int.ofNat_lt, -Int.ofNat_le, -Int.natCast_eq_zero, -Int.natCast_pos, -List.length_eq_zero_iff, List.getElem?_cons_zero, List.getElem?_cons_succ, List.getElem?_nil, k2, k4, k6, k8, k10, k12, k14, k16, k18]
  generalize hz0 : C Tryd.prog cf cc0 _ = z0
  obtain ⟨z37, hB1, hB⟩ := kb_inv hB
  have hJ := P_law07_DeclarationOrders_0 (hc0.symm.trans (by kernel_rfl)) hz0 (by simp -implicitDefEqProofs [-getElem?_pos, -Int.ofNat_lt, -Int.ofNat_le, -Int.natCast_eq_zero, -Int.natCast_pos, -List.length_eq_zero_iff, List.getElem?_cons_zero, List.getElem?_cons_succ, List.getElem?_nil, and_assoc, J_law07_DeclarationOrders_0, ownAt, k2, k4, k6, k8, k10, k12, k14, k16, k18]) hB1
  obtain ⟨e0, s0, rfl, hq⟩ := hJ.open
  clear hB1
  obtain ⟨rfl, hq⟩ := hq
  simp only [Q_law07_DeclarationOrders_0] at hq
  obtain ⟨q37_1, q37_2, ⟨g37_4, q37_3, q37_4⟩, ⟨g37_6, q37_5, q37_6⟩⟩ := hq
  rcases cnd_inv hB with ⟨c38, hB⟩ | ⟨c38, hB⟩
  · obtain rfl := Option.some.inj hB
    simp -implicitDefEqProofs [-getElem?_pos, -Int.ofNat_lt, -Int.ofNat_le, -Int.natCast_eq_zero, -Int.natCast_pos, -List.length_eq_zero_iff, List.getElem?_cons_zero, List.getElem?_cons_succ, List.getElem?_nil, q37_1, q37_2, q37_3, q37_4, q37_5, q37_6, k2, k4, k6, k8, k10, k12, k14, k16, k18, c38]
  · rcases cnd_inv hB with ⟨c39, hB⟩ | ⟨c39, hB⟩
    · have pc39 := eq_true (of_decide_eq_true c39)
      rcases cnd_inv hB with ⟨c40, hB⟩ | ⟨c40, hB⟩
      · have pc40 := eq_true (of_decide_eq_true c40)
        rcases cnd_inv hB with ⟨c41, hB⟩ | ⟨c41, hB⟩
        · have pc41 := eq_true (of_decide_eq_true c41)
          obtain ⟨y42, k43, hB⟩ := kb_inv hB
          replace k43 := run_law07_awake k43
          try simp only [Int.cast_ofNat_Int, Int.natCast_zero, List.length_cons, List.length_nil, List.nil_append, List.cons_append, Nat.zero_add, Nat.reduceAdd, Tru.thr_mk, Tru.nodes_mk, Tru.inner_mk, ints_cons, ints_nil, encTs_cons, encTs_nil, es_str_cons, es_str_nil, es_u64_cons, es_u64_nil, es_u8_cons, es_u8_nil, c38] at k43
          try dsimp only at hB
          obtain rfl := Option.some.inj hB
          subst hr7
          simp -implicitDefEqProofs [-getElem?_pos, -Int.ofNat_lt, -Int.ofNat_le, -Int.natCast_eq_zero, -Int.natCast_pos, -List.length_eq_zero_iff, List.getElem?_cons_zero, List.getElem?_cons_succ, List.getElem?_nil, q37_1, q37_2, q37_3, q37_4, q37_5, q37_6, k2, k4, k6, k8, k10, k12, k14, k16, k18, c38, c39, pc39, c40, pc40, c41, pc41, k43]
        · have pc41 := eq_false (of_decide_eq_false c41)
          rcases cnd_inv hB with ⟨c44, hB⟩ | ⟨c44, hB⟩
          · have pc44 := eq_true (of_decide_eq_true c44)
            obtain ⟨y45, k46, hB⟩ := kb_inv hB
            replace k46 := run_law07_awake k46
            try simp only [Int.cast_ofNat_Int, Int.natCast_zero, List.length_cons, List.length_nil, List.nil_append, List.cons_append, Nat.zero_add, Nat.reduceAdd, Tru.thr_mk, Tru.nodes_mk, Tru.inner_mk, ints_cons, ints_nil, encTs_cons, encTs_nil, es_str_cons, es_str_nil, es_u64_cons, es_u64_nil, es_u8_cons, es_u8_nil, c38] at k46
            try dsimp only at hB
            obtain rfl := Option.some.inj hB
            subst hr7
            simp -implicitDefEqProofs [-getElem?_pos, -Int.ofNat_lt, -Int.ofNat_le, -Int.natCast_eq_zero, -Int.natCast_pos, -List.length_eq_zero_iff, List.getElem?_cons_zero, List.getElem?_cons_succ, List.getElem?_nil, q37_1, q37_2, q37_3, q37_4, q37_5, q37_6, k2, k4, k6, k8, k10, k12, k14, k16, k18, c38, c39, pc39, c40, pc40, c41, pc41, c44, pc44, k46]
          · have pc44 := eq_false (of_decide_eq_false c44)
            obtain rfl := Option.some.inj hB
            subst hr7
            simp -implicitDefEqProofs [-getElem?_pos, -Int.ofNat_lt, -Int.ofNat_le, -Int.natCast_eq_zero, -Int.natCast_pos, -List.length_eq_zero_iff, List.getElem?_cons_zero, List.getElem?_cons_succ, List.getElem?_nil, q37_1, q37_2, q37_3, q37_4, q37_5, q37_6, k2, k4, k6, k8, k10, k12, k14, k16, k18, c38, c39, pc39, c40, pc40, c41, pc41, c44, pc44]
      · have pc40 := eq_false (of_decide_eq_false c40)
        obtain ⟨y47, k48, hB⟩ := kb_inv hB
        replace k48 := run_law07_awake k48
        try simp only [Int.cast_ofNat_Int, Int.natCast_zero, List.length_cons, List.length_nil, List.nil_append, List.cons_append, Nat.zero_add, Nat.reduceAdd, Tru.thr_mk, Tru.nodes_mk, Tru.inner_mk, ints_cons, ints_nil, encTs_cons, encTs_nil, es_str_cons, es_str_nil, es_u64_cons, es_u64_nil, es_u8_cons, es_u8_nil, c38] at k48
        try dsimp only at hB
        obtain rfl := Option.some.inj hB
        subst hr7
        simp -implicitDefEqProofs [-getElem?_pos, -Int.ofNat_lt, -Int.ofNat_le, -Int.natCast_eq_zero, -Int.natCast_pos, -List.length_eq_zero_iff, List.getElem?_cons_zero, List.getElem?_cons_succ, List.getElem?_nil, q37_1, q37_2, q37_3, q37_4, q37_5, q37_6, k2, k4, k6, k8, k10, k12, k14, k16, k18, c38, c39, pc39, c40, pc40, k48]
    · have pc39 := eq_false (of_decide_eq_false c39)
      rcases cnd_inv hB with ⟨c49, hB⟩ | ⟨c49, hB⟩
      · have pc49 := eq_true (of_decide_eq_true c49)
        rcases cnd_inv hB with ⟨c50, hB⟩ | ⟨c50, hB⟩
        · have pc50 := eq_true (of_decide_eq_true c50)
          rcases cnd_inv hB with ⟨c51, hB⟩ | ⟨c51, hB⟩
          · have pc51 := eq_true (of_decide_eq_true c51)
            obtain ⟨y52, k53, hB⟩ := kb_inv hB
            replace k53 := run_law07_awake k53
            try simp only [Int.cast_ofNat_Int, Int.natCast_zero, List.length_cons, List.length_nil, List.nil_append, List.cons_append, Nat.zero_add, Nat.reduceAdd, Tru.thr_mk, Tru.nodes_mk, Tru.inner_mk, ints_cons, ints_nil, encTs_cons, encTs_nil, es_str_cons, es_str_nil, es_u64_cons, es_u64_nil, es_u8_cons, es_u8_nil, c38] at k53
            try dsimp only at hB
            obtain rfl := Option.some.inj hB
            subst hr7
            simp -implicitDefEqProofs [-getElem?_pos, -Int.ofNat_lt, -Int.ofNat_le, -Int.natCast_eq_zero, -Int.natCast_pos, -List.length_eq_zero_iff, List.getElem?_cons_zero, List.getElem?_cons_succ, List.getElem?_nil, q37_1, q37_2, q37_3, q37_4, q37_5, q37_6, k2, k4, k6, k8, k10, k12, k14, k16, k18, c38, c39, pc39, c49, pc49, c50, pc50, c51, pc51, k53]
          · have pc51 := eq_false (of_decide_eq_false c51)
            obtain ⟨y54, k55, hB⟩ := kb_inv hB
            replace k55 := run_law07_awake k55
            try simp only [Int.cast_ofNat_Int, Int.natCast_zero, List.length_cons, List.length_nil, List.nil_append, List.cons_append, Nat.zero_add, Nat.reduceAdd, Tru.thr_mk, Tru.nodes_mk, Tru.inner_mk, ints_cons, ints_nil, encTs_cons, encTs_nil, es_str_cons, es_str_nil, es_u64_cons, es_u64_nil, es_u8_cons, es_u8_nil, c38] at k55
            try dsimp only at hB
            obtain rfl := Option.some.inj hB
            subst hr7
            simp -implicitDefEqProofs [-getElem?_pos, -Int.ofNat_lt, -Int.ofNat_le, -Int.natCast_eq_zero, -Int.natCast_pos, -List.length_eq_zero_iff, List.getElem?_cons_zero, List.getElem?_cons_succ, List.getElem?_nil, q37_1, q37_2, q37_3, q37_4, q37_5, q37_6, k2, k4, k6, k8, k10, k12, k14, k16, k18, c38, c39, pc39, c49, pc49, c50, pc50, c51, pc51, k55]
        · have pc50 := eq_false (of_decide_eq_false c50)
          obtain ⟨y56, k57, hB⟩ := kb_inv hB
          replace k57 := run_law07_awake k57
          try simp only [Int.cast_ofNat_Int, Int.natCast_zero, List.length_cons, List.length_nil, List.nil_append, List.cons_append, Nat.zero_add, Nat.reduceAdd, Tru.thr_mk, Tru.nodes_mk, Tru.inner_mk, ints_cons, ints_nil, encTs_cons, encTs_nil, es_str_cons, es_str_nil, es_u64_cons, es_u64_nil, es_u8_cons, es_u8_nil, c38] at k57
          try dsimp only at hB
          obtain rfl := Option.some.inj hB
          subst hr7
          simp -implicitDefEqProofs [-getElem?_pos, -Int.ofNat_lt, -Int.ofNat_le, -Int.natCast_eq_zero, -Int.natCast_pos, -List.length_eq_zero_iff, List.getElem?_cons_zero, List.getElem?_cons_succ, List.getElem?_nil, q37_1, q37_2, q37_3, q37_4, q37_5, q37_6, k2, k4, k6, k8, k10, k12, k14, k16, k18, c38, c39, pc39, c49, pc49, c50, pc50, k57]
      · have pc49 := eq_false (of_decide_eq_false c49)
        obtain rfl := Option.some.inj hB
        subst hr7
        simp -implicitDefEqProofs [-getElem?_pos, -Int.ofNat_lt, -Int.ofNat_le, -Int.natCast_eq_zero, -Int.natCast_pos, -List.length_eq_zero_iff, List.getElem?_cons_zero, List.getElem?_cons_succ, List.getElem?_nil, q37_1, q37_2, q37_3, q37_4, q37_5, q37_6, k2, k4, k6, k8, k10, k12, k14, k16, k18, c38, c39, pc39, c49, pc49]
theorem g_law07_DeclarationOrders {p0 : (List Int)} {r : Bool} (hB : B_law07_DeclarationOrders p0 = some r) : G_law07_DeclarationOrders p0 = some r := dec_of (fun a b h => by rcases a with a0_; rcases b with b0_; simp at h; simp [*]) (sim_law07_DeclarationOrders hB)
end Go.Am

/-
The plain law of DeclarationOrders.
-/
namespace Go.Am
open Go
set_option linter.unusedVariables false
set_option linter.unusedSimpArgs false

theorem law_DeclarationOrders (l : List Int) (hl : ∀ k ∈ l, in64 k) : B_law07_DeclarationOrders l = some true := by
  obtain ⟨t0, e0, ht0⟩ := s_New hl
  obtain ⟨n, t1, e1, hn, ht1⟩ := s_Range ht0 (a := 1) (b := 4) (by omega) (by omega) (by omega)
  obtain ⟨keys, t2, e2, hk, ht2⟩ := s_Keys ht1 n hn.1 (by omega)
  obtain ⟨a, t3, _, e3, ⟨ha, _⟩, ht3⟩ := s_Declaration ht2 (keys := keys) (by omega) (by omega)
  obtain ⟨b, t4, _, e4, ⟨hb, _⟩, ht4⟩ := s_Declaration ht3 (keys := keys) (by omega) (by omega)
  obtain ⟨c, t5, _, e5, ⟨hc, _⟩, ht5⟩ := s_Declaration ht4 (keys := keys) (by omega) (by omega)
  have r1 := cmpD_range b a
  have hneg : IntKind.wrap .i64 (-(cmpD b a)) = -(cmpD b a) := wrap64_of (by omega) (by omega)
  have hz := cmpD_zero ha hb
  have hs : (decide (cmpD a b = 0) == (bytesV a == bytesV b)) = true := by
    by_cases h : bytesV a = bytesV b
    · simp [h, hz.2 h]
    · have : ¬ cmpD a b = 0 := fun e => h (hz.1 e)
      have h2 : (bytesV a == bytesV b) = false := by rw [beq_eq_false_iff_ne]; exact h
      simp [this, h2]
  have h0 : B_law07_DeclarationOrders_0 (b, t4) (a, t3) (cmpD a c) (cmpD a b) (cmpD b c) = some false := by
    unfold B_law07_DeclarationOrders_0
    dsimp only
    rw [s_declaration_Compare hb ha, kb_some, hneg, s_declaration_Bytes ha, s_declaration_Bytes hb]
    simp only [kb_some, hs, Bool.not_true, ← cmpD_neg a b, decide_true, cnd_true]
    by_cases k1 : cmpD a b ≤ 0
    · by_cases k2 : cmpD b c ≤ 0
      · have := cmpD_trans k1 k2
        have k3 : ¬ 0 < cmpD a c := by omega
        simp only [k1, k2, k3, decide_true, decide_false, cnd_true, cnd_false]
      · simp only [k1, k2, decide_true, decide_false, cnd_true, cnd_false]
    · simp only [k1, decide_false, cnd_false]
  unfold B_law07_DeclarationOrders
  rw [e0, kb_some, e1, kb_some]
  dsimp only
  rw [e2, kb_some]
  dsimp only
  rw [e3, kb_some]
  dsimp only
  rw [e4, kb_some]
  dsimp only
  rw [e5, kb_some]
  dsimp only
  rw [s_declaration_Compare ha hb, kb_some, s_declaration_Compare hb hc, kb_some, s_declaration_Compare ha hc, kb_some, h0, kb_some, cnd_false]
  simp only [s_awake07, kb_some]
  have lt0 : a.f0 < b.f0 → cmpD a b = -1 := fun h => by
    unfold cmpD or3
    rw [cmpI_lt.2 h]
    simp
  have lt1 : a.f0 = b.f0 → a.f1 < b.f1 → cmpD a b = -1 := fun h h' => by
    unfold cmpD or3
    rw [cmpI_eq.2 h, cmpI_lt.2 h']
    simp
  by_cases k1 : b.f0 ≤ a.f0
  · simp only [k1, decide_true, cnd_true]
    by_cases k2 : a.f0 = b.f0
    · simp only [k2, decide_true, cnd_true]
      by_cases k3 : b.f1 ≤ a.f1
      · simp only [k3, decide_true, cnd_true]
      · simp only [k3, decide_false, cnd_false, lt1 k2 (by omega), decide_true, cnd_true]
    · simp only [k2, decide_false, cnd_false]
  · have k2 : ¬ a.f0 = b.f0 := by omega
    simp only [k1, k2, decide_false, cnd_false, lt0 (by omega), decide_true, cnd_true]
end Go.Am

/-
Arguments of a call, opened: trusts and configurations that lie in memory, as pure values.
-/
namespace Go.Am
open Go Go.Proofs
set_option linter.unusedVariables false

section
variable {H : Type} {enc : TypeId × Value → H} {P : Program} {w : World} {spare : Nat → Bool} {held : Bool}

/-- cells in memory that stand for pure ones -/
def Reps (w : World) (ps : List PV) (cs : List Value) : Prop := ps.length = cs.length ∧ ∀ (j : Nat) p v, ps[j]? = some p → cs[j]? = some v → RepP w.heap (I0 w) p v

theorem RepRow_append {h : Heap} {I : Nat → Prop} {b : Nat} : ∀ {off : Nat} {p q : List PV}, RepRow h I b off p → RepRow h I b (off + p.length) q → RepRow h I b off (p ++ q)
  | off, [], q, _, h2 => by simpa using h2
  | off, x :: p, q, h1, h2 => ⟨h1.1, RepRow_append h1.2 (by rw [show off + 1 + p.length = off + (x :: p).length by simp; omega]; exact h2)⟩

theorem addr_zero (a : Addr) : a.add 0 = a := by simp [Addr.add]
theorem addr_none (b o j : Nat) : Addr.add ⟨b, o, none⟩ j = ⟨b, o + j, none⟩ := by
  unfold Addr.add
  split
  · rename_i h; subst h; rfl
  · rfl

/-- no list in it is longer than memory -/
def Lite (P : Program) (t : TypeId) (d : DataW H) : Prop := ∀ n ∈ d.weights P t, n ≤ reachBytes
theorem lite_all {e : TypeId} : ∀ {l : List (DataW H)}, (∀ n ∈ DataW.weightsAll P e l, n ≤ reachBytes) → ∀ d ∈ l, Lite P e d
  | [], _, d, hd => by cases hd
  | x :: r, h, d, hd => by
    unfold DataW.weightsAll at h
    cases hd with
    | head => exact fun n hn => h n (List.mem_append.2 (.inl hn))
    | tail _ hd => exact lite_all (fun n hn => h n (List.mem_append.2 (.inr hn))) d hd
theorem lite_each : ∀ {ts : List TypeId} {ds : List (DataW H)}, (∀ n ∈ DataW.weightsEach P ts ds, n ≤ reachBytes) → ∀ (i : Nat) t d, ts[i]? = some t → ds[i]? = some d → Lite P t d
  | [], ds, h, i, t, d, ht, hd => by simp at ht
  | _ :: _, [], h, i, t, d, ht, hd => by simp at hd
  | t' :: ts, d' :: ds, h, i, t, d, ht, hd => by
    unfold DataW.weightsEach at h
    cases i with
    | zero =>
      simp at ht hd; subst ht; subst hd
      exact fun n hn => h n (List.mem_append.2 (.inl hn))
    | succ i => exact lite_each (fun n hn => h n (List.mem_append.2 (.inr hn))) i t d (by simpa using ht) (by simpa using hd)
theorem lite_slice {t e : TypeId} (ht : P.underlying t = some (.slice e)) {a b : List (DataW H)} (h : Lite P t (.slice a b)) : a.length * P.bytesOf e ≤ reachBytes ∧ ∀ d ∈ a, Lite P e d := by
  unfold Lite at h
  unfold DataW.weights at h
  rw [ht] at h
  simp only [List.mem_cons, List.mem_append] at h
  refine ⟨Nat.le_trans (Nat.mul_le_mul_right _ (Nat.le_add_right _ _)) (h _ (.inl rfl)), lite_all fun n hn => h n (.inr (.inl hn))⟩
theorem lite_struct {t : TypeId} {fs : Array Field} (ht : P.underlying t = some (.struct fs)) {a : List (DataW H)} (h : Lite P t (.agg a)) : ∀ (i : Nat) u d, (fs.toList.map (·.type))[i]? = some u → a[i]? = some d → Lite P u d := by
  unfold Lite at h
  unfold DataW.weights at h
  rw [ht] at h
  exact lite_each h
theorem open_slice {X : Type} (E : List X → List PV) (cell : X → List PV) {z : Nat} (hz : 0 < z) (h0 : E [] = []) (h1 : ∀ x l, E (x :: l) = cell x ++ E l) (hc : ∀ x, (cell x).length = z) (Ok : X → Prop) {t e : TypeId} {fuel : Nat} {v : Value} {x : DataW H × List MemPlace}
    (ht : P.underlying t = some (.slice e)) (hsz : P.cellsOf e = z)
    (he : ∀ n cs y, n < fuel → DataW.trod enc P w 0 spare held n e cs = some y → Lite P e y.1 → ∃ q : X, Ok q ∧ Reps w (cell q) cs)
    (h : DataW.trod enc P w 0 spare held fuel t [v] = some x) (hL : Lite P t x.1) : ∃ l : List X, ((∀ q ∈ l, Ok q) ∧ l.length * P.bytesOf e ≤ reachBytes) ∧ RepP w.heap (I0 w) (.sl l.length (E l)) v := by
  rcases DataW.trod_slice ht h with ⟨hcs, _⟩ | ⟨a, len, cap, elems, rest, n, hf, hcs, hxe, hb, hl, hm, hlen, hel, _⟩
  · obtain rfl : v = .slice none 0 0 := by simpa using hcs
    exact ⟨[], ⟨by simp, by simp⟩, none, 0, rfl, Nat.le_refl _, .inl h0⟩
  · obtain rfl : v = .slice (some a) len cap := by simpa using hcs
    rw [hsz] at hel
    rw [hxe] at hL
    obtain ⟨hL1, hL2⟩ := lite_slice ht hL
    rw [List.length_map, hlen] at hL1
    have each : ∀ i, i < len → ∃ q : X, Ok q ∧ ∀ j p, (cell q)[j]? = some p → ∃ u, w.cell? ((a.add (i * z)).add j) = some u ∧ RepP w.heap (I0 w) p u := by
      intro i hi
      have h2 := hel i hi
      rw [List.getElem?_eq_getElem (by omega), Option.bind_eq_some_iff] at h2
      obtain ⟨cs, hc1, hc2⟩ := h2
      obtain ⟨_, hcl, hcc⟩ := World.cells?_some hc1
      obtain ⟨q, hq, hr⟩ := he n cs _ (by omega) hc2 (hL2 _ (List.mem_map_of_mem (List.getElem_mem _)))
      refine ⟨q, hq, fun j p hp => ?_⟩
      have hj : j < z := by rw [← hc q]; exact (List.getElem?_eq_some_iff.1 hp).1
      have hj2 : j < cs.length := by omega
      refine ⟨cs[j], ?_, hr.2 j p _ hp (by simp [hj2])⟩
      rw [hcc j hj]
      simp [hj2]
    by_cases hlen0 : len = 0
    · subst hlen0
      exact ⟨[], ⟨by simp, by simp⟩, some a, cap, rfl, hl, .inl h0⟩
    · obtain ⟨q0, _, hq0⟩ := each 0 (by omega)
      have hcell : 0 < (cell q0).length := by rw [hc]; exact hz
      obtain ⟨u0, hu0, _⟩ := hq0 0 (cell q0)[0] (by simp [hcell])
      rw [Nat.zero_mul, addr_zero, addr_zero] at hu0
      obtain ⟨hblk, hspot⟩ := cell_block hu0
      obtain ⟨b, o, s⟩ := a
      simp only at hspot hblk
      subst hspot
      have hd : ∀ d k, k + d = len → ∃ l : List X, l.length = d ∧ (∀ q ∈ l, Ok q) ∧ RepRow w.heap (I0 w) b (o + k * z) (E l) := by
        intro d
        induction d with
        | zero => intro k _; exact ⟨[], rfl, by simp, by rw [h0]; trivial⟩
        | succ d ih =>
          intro k hk
          obtain ⟨l, hll, hlo, hlr⟩ := ih (k + 1) (by omega)
          obtain ⟨q, hq, hqr⟩ := each k (by omega)
          refine ⟨q :: l, by simp [hll], fun y hy => ?_, ?_⟩
          · cases hy with
            | head => exact hq
            | tail _ hy => exact hlo y hy
          · rw [h1]
            refine RepRow_append (.of_get fun j p hp => ?_) ?_
            · obtain ⟨u, hu, hr⟩ := hqr j p hp
              rw [addr_none, addr_none, cell?_eq] at hu
              exact ⟨u, hu, hr⟩
            · rw [hc, show o + k * z + z = o + (k + 1) * z by rw [Nat.add_mul]; omega]
              exact hlr
      obtain ⟨l, hll, hlo, hlr⟩ := hd len 0 (by omega)
      rw [Nat.zero_mul, Nat.add_zero] at hlr
      refine ⟨l, ⟨hlo, by rw [hll]; exact hL1⟩, ?_⟩
      rw [hll]
      exact ⟨some ⟨b, o, none⟩, cap, rfl, hl, .inr ⟨b, o, rfl, hblk, hlr⟩⟩
end

section
variable {H : Type} {enc : TypeId × Value → H} {w : World} {spare : Nat → Bool} {held : Bool}
theorem wf_in64 {k : Int} (h : (Lit.int .i64 k).wf = true) : in64 k := by
  simp [Lit.wf, IntKind.min, IntKind.max, IntKind.signed, IntKind.bits] at h
  unfold in64
  omega
theorem reps_one {p : PV} {v : Value} (h : RepP w.heap (I0 w) p v) : Reps w [p] [v] := by
  refine ⟨rfl, fun j q u hq hu => ?_⟩
  cases j with
  | zero => simp at hq hu; subst hq; subst hu; exact h
  | succ j => simp at hq
theorem open_intl {fuel : Nat} {v : Value} {x : DataW H × List MemPlace} (h : DataW.trod enc Tryd.prog w 0 spare held fuel 22 [v] = some x) (hL : Lite Tryd.prog 22 x.1) : ∃ l : List Int, ((∀ k ∈ l, in64 k) ∧ l.length * Tryd.prog.bytesOf 3 ≤ reachBytes) ∧ RepP w.heap (I0 w) (.sl l.length (ints l)) v :=
  open_slice ints (fun k => [.int .i64 k]) (z := 1) (by omega) rfl (fun _ _ => rfl) (fun _ => rfl) in64 Tryd.underlying22 (by kernel_rfl)
    (fun n cs y _ hy _ => by
      obtain ⟨m, rfl, _, hw⟩ := DataW.trod_int Tryd.underlying3 hy
      exact ⟨m, wf_in64 hw, reps_one rfl⟩) h hL
theorem take_one {α : Type} {l : List α} {a b c : α} (h : l.length = 3) : ∃ a b c, l = [a, b, c] := by
  match l, h with
  | [a, b, c], _ => exact ⟨a, b, c, rfl⟩
/-- a struct as an argument -/
theorem repV_agg {ps : List PV} {u : Array Value} (h : Reps w ps u.toList) : RepV w.heap (I0 w) G0 M0 (.agg (ps.map .pv)) (.agg u) :=
  ⟨u, rfl, RepL.of_get (by simpa using h.1) fun j a v ha hv => by
    simp only [List.getElem?_map, Option.map_eq_some_iff] at ha
    obtain ⟨p, hp, rfl⟩ := ha
    exact h.2 j p v hp hv⟩
/-! ### arguments -/
theorem trod_in {P : Program} {t : TypeId} {v : Value} {d : DataW H} {ps : List MemPlace} (h : DataW.Trod enc P w 0 spare held t v d ps) : ∀ x ∈ ps, x.block < w.heap.size := by
  obtain ⟨m, hm⟩ := h
  exact DataW.trod_lt m _ _ _ hm
theorem arg_intl {r : Reach} {b0 : Nat} {v : Value} {d : DataW H} {ps : List MemPlace} (hv : Value.okWide Tryd.prog w r b0 22 v) (hd : DataW.Trod enc Tryd.prog w 0 spare held 22 v d ps) (hL : Lite Tryd.prog 22 d) :
    ∃ l : List Int, (∀ k ∈ l, in64 k) ∧ RepV w.heap (I0 w) G0 M0 (.pv (.sl l.length (ints l))) v := by
  obtain ⟨a, n, c, rfl⟩ := WideShapes.okWide_slice Tryd.underlying22 hv
  obtain ⟨fuel, hf⟩ := hd
  obtain ⟨l, ⟨h1, _⟩, h2⟩ := open_intl hf hL
  exact ⟨l, h1, h2⟩
theorem arg_int {r : Reach} {b0 : Nat} {v : Value} {d : DataW H} {ps : List MemPlace} (hv : Value.okWide Tryd.prog w r b0 3 v) (hd : DataW.Trod enc Tryd.prog w 0 spare held 3 v d ps) :
    ∃ k : Int, in64 k ∧ RepV w.heap (I0 w) G0 M0 (i64 k) v := by
  obtain ⟨k, rfl⟩ := WideShapes.okWide_int Tryd.underlying3 hv
  obtain ⟨fuel, hf⟩ := hd
  obtain ⟨n, h1, _, h2⟩ := DataW.trod_int Tryd.underlying3 hf
  simp [Value.cells] at h1
  subst h1
  exact ⟨_, wf_in64 h2, rfl⟩
theorem arg_u64 {r : Reach} {b0 : Nat} {v : Value} {d : DataW H} {ps : List MemPlace} (hv : Value.okWide Tryd.prog w r b0 23 v) (hd : DataW.Trod enc Tryd.prog w 0 spare held 23 v d ps) :
    ∃ k : Int, (0 ≤ k ∧ k ≤ 18446744073709551615) ∧ RepV w.heap (I0 w) G0 M0 (.pv (.int .u64 k)) v := by
  obtain ⟨k, rfl⟩ := WideShapes.okWide_int Tryd.underlying23 hv
  obtain ⟨fuel, hf⟩ := hd
  obtain ⟨n, h1, _, h2⟩ := DataW.trod_int Tryd.underlying23 hf
  simp [Value.cells] at h1
  subst h1
  simp [Lit.wf, IntKind.min, IntKind.max, IntKind.signed, IntKind.bits] at h2
  exact ⟨_, by omega, rfl⟩
end
end Go.Am
