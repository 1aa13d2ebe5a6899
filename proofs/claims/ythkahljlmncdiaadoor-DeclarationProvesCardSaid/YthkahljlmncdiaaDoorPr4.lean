/-
Part 4 of the road to the statement: Gf_declaration_Sign, Gf_declaration_Proves, T7e, Aw07, Gf_law07_DeclarationProves, PProves, OpnA.
-/
import Derived.Test.YthkahljlmncdiaaDoorPr3
import Derived.ChangeSlices
import Derived.Handed
/-
How declaration.Sign runs, as a pure function.
-/
namespace Go.Am
open Go Go.Proofs
set_option linter.unusedVariables false
set_option linter.unusedSimpArgs false
set_option maxRecDepth 4000
set_option maxHeartbeats 4000000
noncomputable def B_declaration_Sign (p0 : Int) (p1 : Int) (p2 : Int) (p3 : Tru) : Option (S_api_Declaration × Int) :=
  kb (G_declaration_copied p3) fun y1 =>
  kb (G_declaration_Plain (S_api_Declaration.mk p1 p2 y1 0)) fun y3 =>
  cnd (decide (y3 = 0)) (
    kb (G_declaration_Bytes (S_api_Declaration.mk p1 p2 y1 0)) fun y6 =>
    kb (G_declaration_Tag p0 y6) fun y8 =>
    some ((S_api_Declaration.mk p1 p2 y1 y8), 0)) (
    some ((S_api_Declaration.mk 0 0 (Tru.mk 0 ([] : (List Int)) ([] : (List Tru))) 0), y3))
theorem sim_declaration_Sign {p0 : Int} {p1 : Int} {p2 : Int} {p3 : Tru} {r : (S_api_Declaration × Int)} (hB : B_declaration_Sign p0 p1 p2 p3 = some r) : R 14 [(.pv (.int .u64 p0)), (i64 p1), (i64 p2), (.agg [(i64 p3.thr), (.pv (.sl p3.nodes.length (ints p3.nodes))), (.pv (.sl p3.inner.length (encTs p3.inner)))])] [] = some (.tup [(.agg [(i64 r.1.f0), (i64 r.1.f1), (i64 r.1.f2.thr), (.pv (.sl r.1.f2.nodes.length (ints r.1.f2.nodes))), (.pv (.sl r.1.f2.inner.length (encTs r.1.f2.inner))), (.pv (.int .u64 r.1.f3))]), (i64 r.2)], [], []) := by
  rw [R_eq _ _ _ fn_declaration_Sign]
  simp only [Code.fst, Code.snd, Tryd.f14, Option.getD_some]
  generalize hr1 : Code.region 1 _ _ = rr1
  generalize hr4 : Code.region 4 _ _ = rr4
  generalize hr5 : Code.region 5 _ _ = rr5
  unfold B_declaration_Sign at hB
  obtain ⟨y1, k2, hB⟩ := kb_inv hB
  replace k2 := run_declaration_copied k2
  try simp only [Int.cast_ofNat_Int, Int.natCast_zero, List.length_cons, List.length_nil, List.nil_append, List.cons_append, Nat.zero_add, Nat.reduceAdd, Tru.thr_mk, Tru.nodes_mk, Tru.inner_mk, ints_cons, ints_nil, encTs_cons, encTs_nil, es_str_cons, es_str_nil, es_u64_cons, es_u64_nil, es_u8_cons, es_u8_nil] at k2
  try dsimp only at hB
  obtain ⟨y3, k4, hB⟩ := kb_inv hB
  replace k4 := run_declaration_Plain k4
  try simp only [Int.cast_ofNat_Int, Int.natCast_zero, List.length_cons, List.length_nil, List.nil_append, List.cons_append, Nat.zero_add, Nat.reduceAdd, Tru.thr_mk, Tru.nodes_mk, Tru.inner_mk, ints_cons, ints_nil, encTs_cons, encTs_nil, es_str_cons, es_str_nil, es_u64_cons, es_u64_nil, es_u8_cons, es_u8_nil] at k4
  try dsimp only at hB
  rcases cnd_inv hB with ⟨c5, hB⟩ | ⟨c5, hB⟩
  · have pc5 := eq_true (of_decide_eq_true c5)
    obtain ⟨y6, k7, hB⟩ := kb_inv hB
    replace k7 := run_declaration_Bytes k7
    try simp only [Int.cast_ofNat_Int, Int.natCast_zero, List.length_cons, List.length_nil, List.nil_append, List.cons_append, Nat.zero_add, Nat.reduceAdd, Tru.thr_mk, Tru.nodes_mk, Tru.inner_mk, ints_cons, ints_nil, encTs_cons, encTs_nil, es_str_cons, es_str_nil, es_u64_cons, es_u64_nil, es_u8_cons, es_u8_nil] at k7
    try dsimp only at hB
    obtain ⟨y8, k9, hB⟩ := kb_inv hB
    replace k9 := run_declaration_Tag k9
    try simp only [Int.cast_ofNat_Int, Int.natCast_zero, List.length_cons, List.length_nil, List.nil_append, List.cons_append, Nat.zero_add, Nat.reduceAdd, Tru.thr_mk, Tru.nodes_mk, Tru.inner_mk, ints_cons, ints_nil, encTs_cons, encTs_nil, es_str_cons, es_str_nil, es_u64_cons, es_u64_nil, es_u8_cons, es_u8_nil] at k9
    try dsimp only at hB
    obtain rfl := Option.some.inj hB
    subst hr1
    subst hr5
    simp -implicitDefEqProofs [-getElem?_pos, -Int.ofNat_lt, -Int.ofNat_le, -Int.natCast_eq_zero, -Int.natCast_pos, -List.length_eq_zero_iff, List.getElem?_cons_zero, List.getElem?_cons_succ, List.getElem?_nil, k2, k4, c5, pc5, k7, k9]
  · have pc5 := eq_false (of_decide_eq_false c5)
    obtain rfl := Option.some.inj hB
    subst hr1
    subst hr4
    simp -implicitDefEqProofs [-getElem?_pos, -Int.ofNat_lt, -Int.ofNat_le, -Int.natCast_eq_zero, -Int.natCast_pos, -List.length_eq_zero_iff, List.getElem?_cons_zero, List.getElem?_cons_succ, List.getElem?_nil, k2, k4, c5, pc5]
theorem g_declaration_Sign {p0 : Int} {p1 : Int} {p2 : Int} {p3 : Tru} {r : (S_api_Declaration × Int)} (hB : B_declaration_Sign p0 p1 p2 p3 = some r) : G_declaration_Sign p0 p1 p2 p3 = some r := dec_of (fun a b h => by rcases a with ⟨⟨a0_0, a0_1, ⟨a0_20, a0_21, a0_22⟩, a0_3⟩, a1_⟩; rcases b with ⟨⟨b0_0, b0_1, ⟨b0_20, b0_21, b0_22⟩, b0_3⟩, b1_⟩; simp at h; simp [*]) (sim_declaration_Sign hB)
end Go.Am

/-
How declaration.Proves runs, as a pure function.
-/
namespace Go.Am
open Go Go.Proofs
set_option linter.unusedVariables false
set_option linter.unusedSimpArgs false
set_option maxRecDepth 4000
set_option maxHeartbeats 4000000
noncomputable def B_declaration_Proves_0 (p1 : S_api_Evidence) : Option Bool :=
  cnd (decide (p1.f0.f0 = p1.f1.f0)) (
    some (!(decide (p1.f0.f1 = p1.f1.f1)))) (
    some true)
def J_declaration_Proves_0 (p1 : S_api_Evidence) (q : St) : Prop := (∃ (g : Nat), q (.t 3) = .ptr (.site 0 0 0) g 0 ∧ q (.i (.site 0 0 0)) = .box g [(i64 p1.f0.f0), (i64 p1.f0.f1), (i64 p1.f0.f2.thr), (.pv (.sl p1.f0.f2.nodes.length (ints p1.f0.f2.nodes))), (.pv (.sl p1.f0.f2.inner.length (encTs p1.f0.f2.inner))), (.pv (.int .u64 p1.f0.f3)), (i64 p1.f1.f0), (i64 p1.f1.f1), (i64 p1.f1.f2.thr), (.pv (.sl p1.f1.f2.nodes.length (ints p1.f1.f2.nodes))), (.pv (.sl p1.f1.f2.inner.length (encTs p1.f1.f2.inner))), (.pv (.int .u64 p1.f1.f3))])
def Q_declaration_Proves_0 (p1 : S_api_Evidence) (o36_0 : Bool) (q : St) : Prop := q (.t 36) = (bl o36_0) ∧ (∃ (g : Nat), q (.t 3) = .ptr (.site 0 0 0) g 0 ∧ q (.i (.site 0 0 0)) = .box g [(i64 p1.f0.f0), (i64 p1.f0.f1), (i64 p1.f0.f2.thr), (.pv (.sl p1.f0.f2.nodes.length (ints p1.f0.f2.nodes))), (.pv (.sl p1.f0.f2.inner.length (encTs p1.f0.f2.inner))), (.pv (.int .u64 p1.f0.f3)), (i64 p1.f1.f0), (i64 p1.f1.f1), (i64 p1.f1.f2.thr), (.pv (.sl p1.f1.f2.nodes.length (ints p1.f1.f2.nodes))), (.pv (.sl p1.f1.f2.inner.length (encTs p1.f1.f2.inner))), (.pv (.int .u64 p1.f1.f3))])
theorem P_declaration_Proves_0 {p1 : S_api_Evidence} {cc : Code} (hcc : cc = (Code.fst (Code.fst (Code.snd (Code.snd (Code.snd ((Tryd.f15.body).getD .skip))))))) {s : St} {z : Option (Ex × St)} (hz : C Tryd.prog cf cc s = z) {r : Bool} (hI : J_declaration_Proves_0 p1 s) (hB : B_declaration_Proves_0 p1 = some r) : Res z (postG (fun a q => Q_declaration_Proves_0 p1 a q) r) := by
  subst hcc
  subst hz
  simp only [J_declaration_Proves_0] at hI
  obtain ⟨g2, q1, q2⟩ := hI
  simp only [Code.fst, Code.snd, Tryd.f15, Option.getD_some]
  unfold B_declaration_Proves_0 at hB
  rcases cnd_inv hB with ⟨c7, hB⟩ | ⟨c7, hB⟩
  · have pc7 := eq_true (of_decide_eq_true c7)
    obtain rfl := Option.some.inj hB
    try simp -implicitDefEqProofs [-getElem?_pos, -Int.ofNat_lt, -Int.ofNat_le, -Int.natCast_eq_zero, -Int.natCast_pos, -List.length_eq_zero_iff, List.getElem?_cons_zero, List.getElem?_cons_succ, List.getElem?_nil, q1, q2, c7, pc7]
    refine Res.g ?_
    simp -implicitDefEqProofs [-getElem?_pos, -Int.ofNat_lt, -Int.ofNat_le, -Int.natCast_eq_zero, -Int.natCast_pos, -List.length_eq_zero_iff, List.getElem?_cons_zero, List.getElem?_cons_succ, List.getElem?_nil, and_assoc, Q_declaration_Proves_0, ownAt, q1, q2, c7, pc7]
  · have pc7 := eq_false (of_decide_eq_false c7)
    obtain rfl := Option.some.inj hB
    try simp -implicitDefEqProofs [-getElem?_pos, -Int.ofNat_lt, -Int.ofNat_le, -Int.natCast_eq_zero, -Int.natCast_pos, -List.length_eq_zero_iff, List.getElem?_cons_zero, List.getElem?_cons_succ, List.getElem?_nil, q1, q2, c7, pc7]
    refine Res.g ?_
    simp -implicitDefEqProofs [-getElem?_pos, -Int.ofNat_lt, -Int.ofNat_le, -Int.natCast_eq_zero, -Int.natCast_pos, -List.length_eq_zero_iff, List.getElem?_cons_zero, List.getElem?_cons_succ, List.getElem?_nil, and_assoc, Q_declaration_Proves_0, ownAt, q1, q2, c7, pc7]
noncomputable def B_declaration_Proves (p0 : (List Int)) (p1 : S_api_Evidence) : Option Int :=
  kb (G_declaration_Check p0 p1.f0) fun y1 =>
  cnd (decide (y1 = 0)) (
    kb (G_declaration_Check p0 p1.f1) fun y4 =>
    cnd (decide (y4 = 0)) (
      kb (B_declaration_Proves_0 p1) fun z8 =>
      cnd z8 (
        some 1) (
        kb (G_declaration_Bytes p1.f0) fun y10 =>
        kb (G_declaration_Bytes p1.f1) fun y12 =>
        cnd (Op.bytesLess y10 y12) (
          some 0) (
          some 7))) (
      some y4)) (
    some y1)
theorem sim_declaration_Proves {p0 : (List Int)} {p1 : S_api_Evidence} {r : Int} (hB : B_declaration_Proves p0 p1 = some r) : R 15 [(.pv (.sl p0.length (es_u64 p0))), (.agg [(i64 p1.f0.f0), (i64 p1.f0.f1), (i64 p1.f0.f2.thr), (.pv (.sl p1.f0.f2.nodes.length (ints p1.f0.f2.nodes))), (.pv (.sl p1.f0.f2.inner.length (encTs p1.f0.f2.inner))), (.pv (.int .u64 p1.f0.f3)), (i64 p1.f1.f0), (i64 p1.f1.f1), (i64 p1.f1.f2.thr), (.pv (.sl p1.f1.f2.nodes.length (ints p1.f1.f2.nodes))), (.pv (.sl p1.f1.f2.inner.length (encTs p1.f1.f2.inner))), (.pv (.int .u64 p1.f1.f3))])] [] = some ((i64 r), [], []) := by
  rw [R_eq _ _ _ fn_declaration_Proves]
  simp only [Code.fst, Code.snd, Tryd.f15, Option.getD_some]
  generalize hc0 : Code.region 7 _ _ = cc0
  generalize hr1 : Code.region 1 _ _ = rr1
  generalize hr4 : Code.region 4 _ _ = rr4
  generalize hr9 : Code.region 9 _ _ = rr9
  unfold B_declaration_Proves at hB
  obtain ⟨y1, k2, hB⟩ := kb_inv hB
  replace k2 := run_declaration_Check k2
  try simp only [Int.cast_ofNat_Int, Int.natCast_zero, List.length_cons, List.length_nil, List.nil_append, List.cons_append, Nat.zero_add, Nat.reduceAdd, Tru.thr_mk, Tru.nodes_mk, Tru.inner_mk, ints_cons, ints_nil, encTs_cons, encTs_nil, es_str_cons, es_str_nil, es_u64_cons, es_u64_nil, es_u8_cons, es_u8_nil] at k2
  try dsimp only at hB
  rcases cnd_inv hB with ⟨c3, hB⟩ | ⟨c3, hB⟩
  · have pc3 := eq_true (of_decide_eq_true c3)
    obtain ⟨y4, k5, hB⟩ := kb_inv hB
    replace k5 := run_declaration_Check k5
    try simp only [Int.cast_ofNat_Int, Int.natCast_zero, List.length_cons, List.length_nil, List.nil_append, List.cons_append, Nat.zero_add, Nat.reduceAdd, Tru.thr_mk, Tru.nodes_mk, Tru.inner_mk, ints_cons, ints_nil, encTs_cons, encTs_nil, es_str_cons, es_str_nil, es_u64_cons, es_u64_nil, es_u8_cons, es_u8_nil] at k5
    try dsimp only at hB
    rcases cnd_inv hB with ⟨c6, hB⟩ | ⟨c6, hB⟩
    · have pc6 := eq_true (of_decide_eq_true c6)
      subst hr1
      subst hr4
      try simp -implicitDefEqProofs [-getElem?_pos, -Int.ofNat_lt, -Int.ofNat_le, -Int.natCast_eq_zero, -Int.natCast_pos, -List.length_eq_zero_iff, List.getElem?_cons_zero, List.getElem?_cons_succ, List.getElem?_nil, k2, c3, pc3, k5, c6, pc6]
      generalize hz0 : C Tryd.prog cf cc0 _ = z0
      obtain ⟨z8, hB1, hB⟩ := kb_inv hB
      have hJ := P_declaration_Proves_0 (hc0.symm.trans (by kernel_rfl)) hz0 (by simp -implicitDefEqProofs [-getElem?_pos, -Int.ofNat_lt, -Int.ofNat_le, -Int.natCast_eq_zero, -Int.natCast_pos, -List.length_eq_zero_iff, List.getElem?_cons_zero, List.getElem?_cons_succ, List.getElem?_nil, and_assoc, J_declaration_Proves_0, ownAt, k2, c3, pc3, k5, c6, pc6]) hB1
      obtain ⟨e0, s0, rfl, hq⟩ := hJ.open
      clear hB1
      obtain ⟨rfl, hq⟩ := hq
      simp only [Q_declaration_Proves_0] at hq
      obtain ⟨q8_1, ⟨g8_3, q8_2, q8_3⟩⟩ := hq
      rcases cnd_inv hB with ⟨c9, hB⟩ | ⟨c9, hB⟩
      · obtain rfl := Option.some.inj hB
        simp -implicitDefEqProofs [-getElem?_pos, -Int.ofNat_lt, -Int.ofNat_le, -Int.natCast_eq_zero, -Int.natCast_pos, -List.length_eq_zero_iff, List.getElem?_cons_zero, List.getElem?_cons_succ, List.getElem?_nil, q8_1, q8_2, q8_3, k2, c3, pc3, k5, c6, pc6, c9]
      · obtain ⟨y10, k11, hB⟩ := kb_inv hB
        replace k11 := run_declaration_Bytes k11
        try simp only [Int.cast_ofNat_Int, Int.natCast_zero, List.length_cons, List.length_nil, List.nil_append, List.cons_append, Nat.zero_add, Nat.reduceAdd, Tru.thr_mk, Tru.nodes_mk, Tru.inner_mk, ints_cons, ints_nil, encTs_cons, encTs_nil, es_str_cons, es_str_nil, es_u64_cons, es_u64_nil, es_u8_cons, es_u8_nil, c9] at k11
        try dsimp only at hB
        obtain ⟨y12, k13, hB⟩ := kb_inv hB
        replace k13 := run_declaration_Bytes k13
        try simp only [Int.cast_ofNat_Int, Int.natCast_zero, List.length_cons, List.length_nil, List.nil_append, List.cons_append, Nat.zero_add, Nat.reduceAdd, Tru.thr_mk, Tru.nodes_mk, Tru.inner_mk, ints_cons, ints_nil, encTs_cons, encTs_nil, es_str_cons, es_str_nil, es_u64_cons, es_u64_nil, es_u8_cons, es_u8_nil, c9] at k13
        try dsimp only at hB
        rcases cnd_inv hB with ⟨c14, hB⟩ | ⟨c14, hB⟩
        · obtain rfl := Option.some.inj hB
          subst hr9
          simp -implicitDefEqProofs [-getElem?_pos, -Int.ofNat_lt, -Int.ofNat_le, -Int.natCast_eq_zero, -Int.natCast_pos, -List.length_eq_zero_iff, List.getElem?_cons_zero, List.getElem?_cons_succ, List.getElem?_nil, q8_1, q8_2, q8_3, k2, c3, pc3, k5, c6, pc6, c9, k11, k13, c14]
          rw [drawK_ok _ _ _ (by kernel_rfl)]
          simp -implicitDefEqProofs [-getElem?_pos, -Int.ofNat_lt, -Int.ofNat_le, -Int.natCast_eq_zero, -Int.natCast_pos, -List.length_eq_zero_iff, List.getElem?_cons_zero, List.getElem?_cons_succ, List.getElem?_nil, q8_1, q8_2, q8_3, k2, c3, pc3, k5, c6, pc6, c9, k11, k13, c14]
        · obtain rfl := Option.some.inj hB
          subst hr9
          simp -implicitDefEqProofs [-getElem?_pos, -Int.ofNat_lt, -Int.ofNat_le, -Int.natCast_eq_zero, -Int.natCast_pos, -List.length_eq_zero_iff, List.getElem?_cons_zero, List.getElem?_cons_succ, List.getElem?_nil, q8_1, q8_2, q8_3, k2, c3, pc3, k5, c6, pc6, c9, k11, k13, c14]
          rw [drawK_ok _ _ _ (by kernel_rfl)]
          simp -implicitDefEqProofs [-getElem?_pos, -Int.ofNat_lt, -Int.ofNat_le, -Int.natCast_eq_zero, -Int.natCast_pos, -List.length_eq_zero_iff, List.getElem?_cons_zero, List.getElem?_cons_succ, List.getElem?_nil, q8_1, q8_2, q8_3, k2, c3, pc3, k5, c6, pc6, c9, k11, k13, c14]
    · have pc6 := eq_false (of_decide_eq_false c6)
      obtain rfl := Option.some.inj hB
      subst hr1
      subst hr4
      simp -implicitDefEqProofs [-getElem?_pos, -Int.ofNat_lt, -Int.ofNat_le, -Int.natCast_eq_zero, -Int.natCast_pos, -List.length_eq_zero_iff, List.getElem?_cons_zero, List.getElem?_cons_succ, List.getElem?_nil, k2, c3, pc3, k5, c6, pc6]
  · have pc3 := eq_false (of_decide_eq_false c3)
    obtain rfl := Option.some.inj hB
    subst hr1
    simp -implicitDefEqProofs [-getElem?_pos, -Int.ofNat_lt, -Int.ofNat_le, -Int.natCast_eq_zero, -Int.natCast_pos, -List.length_eq_zero_iff, List.getElem?_cons_zero, List.getElem?_cons_succ, List.getElem?_nil, k2, c3, pc3]
theorem g_declaration_Proves {p0 : (List Int)} {p1 : S_api_Evidence} {r : Int} (hB : B_declaration_Proves p0 p1 = some r) : G_declaration_Proves p0 p1 = some r := dec_of (fun a b h => by rcases a with a0_; rcases b with b0_; simp at h; simp [*]) (sim_declaration_Proves hB)
end Go.Am

/-
Plain laws of chapter 07: the order of bytes, signatures, evidence.
-/
namespace Go.Am
open Go
set_option linter.unusedVariables false
set_option linter.unusedSimpArgs false

/-! ### the order of bytes -/
theorem bl_irrefl : ∀ l : List UInt8, Op.bytesLess l l = false
  | [] => rfl
  | a :: l => by simp [Op.bytesLess, bl_irrefl l]
theorem bl_asymm : ∀ l m : List UInt8, Op.bytesLess l m = true → Op.bytesLess m l = false
  | _, [], h => by cases ‹List UInt8› <;> simp [Op.bytesLess] at h
  | [], _ :: _, _ => rfl
  | a :: l, b :: m, h => by
    simp only [Op.bytesLess, Bool.or_eq_true, Bool.and_eq_true, decide_eq_true_eq, beq_iff_eq, Bool.or_eq_false_iff, Bool.and_eq_false_iff, decide_eq_false_iff_not] at h ⊢
    rcases h with h | ⟨rfl, h⟩
    · have h' := UInt8.lt_iff_toNat_lt.1 h
      refine ⟨fun h2 => ?_, .inl ?_⟩
      · have := UInt8.lt_iff_toNat_lt.1 h2; omega
      · rw [beq_eq_false_iff_ne]; rintro rfl; omega
    · refine ⟨fun h2 => ?_, .inr (bl_asymm l m h)⟩
      have := UInt8.lt_iff_toNat_lt.1 h2; omega
theorem bl_total : ∀ l m : List UInt8, l ≠ m → Op.bytesLess l m = true ∨ Op.bytesLess m l = true
  | [], [], h => absurd rfl h
  | [], _ :: _, _ => .inl rfl
  | _ :: _, [], _ => .inr rfl
  | a :: l, b :: m, h => by
    simp only [Op.bytesLess, Bool.or_eq_true, Bool.and_eq_true, decide_eq_true_eq, beq_iff_eq]
    by_cases e : a = b
    · subst e
      have : l ≠ m := fun e => h (by rw [e])
      rcases bl_total l m this with h1 | h1
      · exact .inl (.inr ⟨rfl, h1⟩)
      · exact .inr (.inr ⟨rfl, h1⟩)
    · have : a.toNat ≠ b.toNat := fun h2 => e (UInt8.toNat_inj.1 h2)
      by_cases c : a.toNat < b.toNat
      · exact .inl (.inl (UInt8.lt_iff_toNat_lt.2 c))
      · exact .inr (.inl (UInt8.lt_iff_toNat_lt.2 (by omega)))
theorem bl_trans : ∀ l m n : List UInt8, Op.bytesLess l m = true → Op.bytesLess m n = true → Op.bytesLess l n = true
  | _, [], _, h, _ => by cases ‹List UInt8› <;> simp [Op.bytesLess] at h
  | _, _ :: _, [], _, h => by simp [Op.bytesLess] at h
  | [], _ :: _, _ :: _, _, _ => rfl
  | a :: l, b :: m, c :: n, h1, h2 => by
    simp only [Op.bytesLess, Bool.or_eq_true, Bool.and_eq_true, decide_eq_true_eq, beq_iff_eq] at h1 h2 ⊢
    rcases h1 with h1 | ⟨rfl, h1⟩
    · rcases h2 with h2 | ⟨rfl, h2⟩
      · left
        have := UInt8.lt_iff_toNat_lt.1 h1
        have := UInt8.lt_iff_toNat_lt.1 h2
        exact UInt8.lt_iff_toNat_lt.2 (by omega)
      · exact .inl h1
    · rcases h2 with h2 | ⟨rfl, h2⟩
      · exact .inl h2
      · exact .inr ⟨rfl, bl_trans l m n h1 h2⟩

theorem s_declaration_copied : ∀ x : Tru, x.Fine → G_declaration_copied x = some x := by
  refine tru_ind fun t n i ih h => g_declaration_copied ?_
  have hl := Fine_len h
  simp only [Tru.nodes_mk, Tru.inner_mk] at hl
  unfold B_declaration_copied
  simp only [Tru.nodes_mk, Tru.inner_mk, Tru.thr_mk]
  rw [appK_some (by simp; omega), kb_some, smallK_some (by omega), kb_some]
  have h1 := foldO_spec (f := fun j a x => B_declaration_copied_0 (.mk t n i) j a x) (g := fun a x => a ++ [x]) (fun j a => a.length ≤ j) i 0 [] (by
    intro j a x hj hp
    have hjl := (List.getElem?_eq_some_iff.1 hj).1
    have hx : x ∈ i := List.mem_of_getElem? hj
    simp only [Nat.zero_add] at hp ⊢
    unfold B_declaration_copied_0
    rw [ih x hx (Fine_inner h hx), kb_some, appK_some (by simp; omega), kb_some]
    exact ⟨rfl, by simp; omega⟩) (by simp)
  rw [h1.1, kb_some]
  have e : ∀ (l a : List Tru), l.foldl (fun a x => a ++ [x]) a = a ++ l := by
    intro l
    induction l with
    | nil => intro a; simp
    | cons x r ihr => intro a; rw [List.foldl_cons, ihr]; simp
  rw [e]
  rfl
theorem s_declaration_Sign {key node seq : Int} {x : Tru} (h : DOk ⟨node, seq, x, 0⟩) : G_declaration_Sign key node seq x = some (⟨node, seq, x, tagV key (bytesV ⟨node, seq, x, 0⟩)⟩, 0) := by
  have hl := bytesV_len h
  refine g_declaration_Sign ?_
  unfold B_declaration_Sign
  rw [s_declaration_copied x h.2.1.2, kb_some, s_declaration_Plain _ h.2.1.2, plainE_ok h, kb_some]
  simp only [decide_true, cnd_true]
  rw [s_declaration_Bytes h, kb_some, s_declaration_Tag key (by omega), kb_some]
/-- signed with the key of its node -/
def Signed (keys : List Int) (d : Decl) : Prop := DOk d ∧ ∃ k, keys[d.f0.toNat]? = some k ∧ d.f3 = tagV k (bytesV d)
theorem s_Check_ok {keys : List Int} {d : Decl} (h : Signed keys d) : G_declaration_Check keys d = some 0 := by
  obtain ⟨h1, k, h2, h3⟩ := h
  rw [s_Check h1 h2, if_pos h3]
theorem s_Proves {keys : List Int} {a b : Decl} (ha : Signed keys a) (hb : Signed keys b) : G_declaration_Proves keys ⟨a, b⟩ = some (if a.f0 = b.f0 ∧ a.f1 = b.f1 then (if Op.bytesLess (bytesV a) (bytesV b) = true then 0 else 7) else 1) := by
  refine g_declaration_Proves ?_
  unfold B_declaration_Proves
  dsimp only
  rw [s_Check_ok ha, kb_some]
  simp only [decide_true, cnd_true]
  rw [s_Check_ok hb, kb_some]
  simp only [decide_true, cnd_true]
  have h0 : B_declaration_Proves_0 ⟨a, b⟩ = some (!decide (a.f0 = b.f0 ∧ a.f1 = b.f1)) := by
    unfold B_declaration_Proves_0
    dsimp only
    by_cases c : a.f0 = b.f0 <;> simp [c, cnd_true, cnd_false]
  rw [h0, kb_some]
  by_cases c : a.f0 = b.f0 ∧ a.f1 = b.f1
  · simp only [c, decide_true, Bool.not_true, cnd_false, and_self, if_true]
    rw [s_declaration_Bytes ha.1, kb_some, s_declaration_Bytes hb.1, kb_some]
    cases Op.bytesLess (bytesV a) (bytesV b) <;> simp [cnd_true, cnd_false]
  · simp only [c, decide_false, Bool.not_false, cnd_true, if_false]
theorem bytes_trust {a b : Decl} (ha : DOk a) (hb : DOk b) (h0 : a.f0 = b.f0) (h1 : a.f1 = b.f1) (h : bytesV a = bytesV b) : a.f2 = b.f2 := by
  unfold bytesV at h
  rw [h0, h1] at h
  exact txt_inj (val_dec2 ha.2.1.1 ha.2.2.2) (val_dec2 hb.2.1.1 hb.2.2.2) (List.append_cancel_left h)
end Go.Am

/-
The example of the chapter: the kernel runs it.
-/
namespace Go.Am
open Go Go.Proofs
theorem awake_run : R 11 [] [] = some (bl true, [], []) := (W_iff _ _ _ _).2 ⟨200, by kernel_rfl⟩
theorem s_awake07 : G_law07_awake = some true := of_law07_awake awake_run
end Go.Am

/-
How trustquorumlaw07.DeclarationProves runs, as a pure function.
-/
namespace Go.Am
open Go Go.Proofs
set_option linter.unusedVariables false
set_option linter.unusedSimpArgs false
set_option maxRecDepth 4000
set_option maxHeartbeats 4000000
noncomputable def B_law07_DeclarationProves_0 (y9 : (Tru × S_trustquorummake_Tape)) (y11 : (Tru × S_trustquorummake_Tape)) (y16 : (S_api_Declaration × Int)) (y19 : (S_api_Declaration × Int)) (y22 : (S_api_Declaration × Int)) (y5 : ((List Int) × S_trustquorummake_Tape)) : Option Bool :=
  cnd (decide (y16.2 = 0)) (
    cnd (decide (y19.2 = 0)) (
      some (!(decide (y22.2 = 0)))) (
      some true)) (
    some true)
def J_law07_DeclarationProves_0 (y9 : (Tru × S_trustquorummake_Tape)) (y11 : (Tru × S_trustquorummake_Tape)) (y16 : (S_api_Declaration × Int)) (y19 : (S_api_Declaration × Int)) (y22 : (S_api_Declaration × Int)) (y5 : ((List Int) × S_trustquorummake_Tape)) (q : St) : Prop := q (.t 11) = (i64 y19.2) ∧ q (.t 13) = (i64 y22.2) ∧ q (.t 4) = (.pv (.sl y5.1.length (es_u64 y5.1))) ∧ q (.t 9) = (i64 y16.2) ∧ (∃ (g : Nat), q (.t 6) = .ptr (.site 4 8 0) g 0 ∧ q (.i (.site 4 8 0)) = .box g [(i64 y9.1.thr), (.pv (.sl y9.1.nodes.length (ints y9.1.nodes))), (.pv (.sl y9.1.inner.length (encTs y9.1.inner)))]) ∧ (∃ (g : Nat), q (.t 7) = .ptr (.site 4 9 0) g 0 ∧ q (.i (.site 4 9 0)) = .box g [(i64 y11.1.thr), (.pv (.sl y11.1.nodes.length (ints y11.1.nodes))), (.pv (.sl y11.1.inner.length (encTs y11.1.inner)))]) ∧ (∃ (g : Nat), q (.t 8) = .ptr (.site 5 10 0) g 0 ∧ q (.i (.site 5 10 0)) = .box g [(i64 y16.1.f0), (i64 y16.1.f1), (i64 y16.1.f2.thr), (.pv (.sl y16.1.f2.nodes.length (ints y16.1.f2.nodes))), (.pv (.sl y16.1.f2.inner.length (encTs y16.1.f2.inner))), (.pv (.int .u64 y16.1.f3))]) ∧ (∃ (g : Nat), q (.t 10) = .ptr (.site 6 10 0) g 0 ∧ q (.i (.site 6 10 0)) = .box g [(i64 y19.1.f0), (i64 y19.1.f1), (i64 y19.1.f2.thr), (.pv (.sl y19.1.f2.nodes.length (ints y19.1.f2.nodes))), (.pv (.sl y19.1.f2.inner.length (encTs y19.1.f2.inner))), (.pv (.int .u64 y19.1.f3))]) ∧ (∃ (g : Nat), q (.t 12) = .ptr (.site 7 10 0) g 0 ∧ q (.i (.site 7 10 0)) = .box g [(i64 y22.1.f0), (i64 y22.1.f1), (i64 y22.1.f2.thr), (.pv (.sl y22.1.f2.nodes.length (ints y22.1.f2.nodes))), (.pv (.sl y22.1.f2.inner.length (encTs y22.1.f2.inner))), (.pv (.int .u64 y22.1.f3))])
def Q_law07_DeclarationProves_0 (y9 : (Tru × S_trustquorummake_Tape)) (y11 : (Tru × S_trustquorummake_Tape)) (y16 : (S_api_Declaration × Int)) (y19 : (S_api_Declaration × Int)) (y22 : (S_api_Declaration × Int)) (y5 : ((List Int) × S_trustquorummake_Tape)) (o73_0 : Bool) (q : St) : Prop := q (.t 4) = (.pv (.sl y5.1.length (es_u64 y5.1))) ∧ q (.t 73) = (bl o73_0) ∧ (∃ (g : Nat), q (.t 6) = .ptr (.site 4 8 0) g 0 ∧ q (.i (.site 4 8 0)) = .box g [(i64 y9.1.thr), (.pv (.sl y9.1.nodes.length (ints y9.1.nodes))), (.pv (.sl y9.1.inner.length (encTs y9.1.inner)))]) ∧ (∃ (g : Nat), q (.t 7) = .ptr (.site 4 9 0) g 0 ∧ q (.i (.site 4 9 0)) = .box g [(i64 y11.1.thr), (.pv (.sl y11.1.nodes.length (ints y11.1.nodes))), (.pv (.sl y11.1.inner.length (encTs y11.1.inner)))]) ∧ (∃ (g : Nat), q (.t 8) = .ptr (.site 5 10 0) g 0 ∧ q (.i (.site 5 10 0)) = .box g [(i64 y16.1.f0), (i64 y16.1.f1), (i64 y16.1.f2.thr), (.pv (.sl y16.1.f2.nodes.length (ints y16.1.f2.nodes))), (.pv (.sl y16.1.f2.inner.length (encTs y16.1.f2.inner))), (.pv (.int .u64 y16.1.f3))]) ∧ (∃ (g : Nat), q (.t 10) = .ptr (.site 6 10 0) g 0 ∧ q (.i (.site 6 10 0)) = .box g [(i64 y19.1.f0), (i64 y19.1.f1), (i64 y19.1.f2.thr), (.pv (.sl y19.1.f2.nodes.length (ints y19.1.f2.nodes))), (.pv (.sl y19.1.f2.inner.length (encTs y19.1.f2.inner))), (.pv (.int .u64 y19.1.f3))]) ∧ (∃ (g : Nat), q (.t 12) = .ptr (.site 7 10 0) g 0 ∧ q (.i (.site 7 10 0)) = .box g [(i64 y22.1.f0), (i64 y22.1.f1), (i64 y22.1.f2.thr), (.pv (.sl y22.1.f2.nodes.length (ints y22.1.f2.nodes))), (.pv (.sl y22.1.f2.inner.length (encTs y22.1.f2.inner))), (.pv (.int .u64 y22.1.f3))])
theorem P_law07_DeclarationProves_0 {y9 : (Tru × S_trustquorummake_Tape)} {y11 : (Tru × S_trustquorummake_Tape)} {y16 : (S_api_Declaration × Int)} {y19 : (S_api_Declaration × Int)} {y22 : (S_api_Declaration × Int)} {y5 : ((List Int) × S_trustquorummake_Tape)} {cc : Code} (hcc : cc = (Code.fst (Code.fst (Code.snd (Code.snd (Code.snd (Code.snd (Code.snd (Code.snd (Code.snd (Code.snd ((Tryd.f4.body).getD .skip)))))))))))) {s : St} {z : Option (Ex × St)} (hz : C Tryd.prog cf cc s = z) {r : Bool} (hI : J_law07_DeclarationProves_0 y9 y11 y16 y19 y22 y5 s) (hB : B_law07_DeclarationProves_0 y9 y11 y16 y19 y22 y5 = some r) : Res z (postG (fun a q => Q_law07_DeclarationProves_0 y9 y11 y16 y19 y22 y5 a q) r) := by
  subst hcc
  subst hz
  simp only [J_law07_DeclarationProves_0] at hI
  obtain ⟨q1, q2, q3, q4, ⟨g6, q5, q6⟩, ⟨g8, q7, q8⟩, ⟨g10, q9, q10⟩, ⟨g12, q11, q12⟩, ⟨g14, q13, q14⟩⟩ := hI
  simp only [Code.fst, Code.snd, Tryd.f4, Option.getD_some]
  unfold B_law07_DeclarationProves_0 at hB
  rcases cnd_inv hB with ⟨c24, hB⟩ | ⟨c24, hB⟩
  · have pc24 := eq_true (of_decide_eq_true c24)
    rcases cnd_inv hB with ⟨c25, hB⟩ | ⟨c25, hB⟩
    · have pc25 := eq_true (of_decide_eq_true c25)
      obtain rfl := Option.some.inj hB
      try simp -implicitDefEqProofs [-getElem?_pos, -Int.ofNat_lt, -Int.ofNat_le, -Int.natCast_eq_zero, -Int.natCast_pos, -List.length_eq_zero_iff, List.getElem?_cons_zero, List.getElem?_cons_succ, List.getElem?_nil, q1, q2, q3, q4, q5, q6, q7, q8, q9, q10, q11, q12, q13, q14, c24, pc24, c25, pc25]
      refine Res.g ?_
      simp -implicitDefEqProofs [-getElem?_pos, -Int.ofNat_lt, -Int.ofNat_le, -Int.natCast_eq_zero, -Int.natCast_pos, -List.length_eq_zero_iff, List.getElem?_cons_zero, List.getElem?_cons_succ, List.getElem?_nil, and_assoc, Q_law07_DeclarationProves_0, ownAt, q1, q2, q3, q4, q5, q6, q7, q8, q9, q10, q11, q12, q13, q14, c24, pc24, c25, pc25]
    · have pc25 := eq_false (of_decide_eq_false c25)
      obtain rfl := Option.some.inj hB
      try simp -implicitDefEqProofs [-getElem?_pos, -Int.ofNat_lt, -Int.ofNat_le, -Int.natCast_eq_zero, -Int.natCast_pos, -List.length_eq_zero_iff, List.getElem?_cons_zero, List.getElem?_cons_succ, List.getElem?_nil, q1, q2, q3, q4, q5, q6, q7, q8, q9, q10, q11, q12, q13, q14, c24, pc24, c25, pc25]
      refine Res.g ?_
      simp -implicitDefEqProofs [-getElem?_pos, -Int.ofNat_lt, -Int.ofNat_le, -Int.natCast_eq_zero, -Int.natCast_pos, -List.length_eq_zero_iff, List.getElem?_cons_zero, List.getElem?_cons_succ, List.getElem?_nil, and_assoc, Q_law07_DeclarationProves_0, ownAt, q1, q2, q3, q4, q5, q6, q7, q8, q9, q10, q11, q12, q13, q14, c24, pc24, c25, pc25]
  · have pc24 := eq_false (of_decide_eq_false c24)
    obtain rfl := Option.some.inj hB
    try simp -implicitDefEqProofs [-getElem?_pos, -Int.ofNat_lt, -Int.ofNat_le, -Int.natCast_eq_zero, -Int.natCast_pos, -List.length_eq_zero_iff, List.getElem?_cons_zero, List.getElem?_cons_succ, List.getElem?_nil, q1, q2, q3, q4, q5, q6, q7, q8, q9, q10, q11, q12, q13, q14, c24, pc24]
    refine Res.g ?_
    simp -implicitDefEqProofs [-getElem?_pos, -Int.ofNat_lt, -Int.ofNat_le, -Int.natCast_eq_zero, -Int.natCast_pos, -List.length_eq_zero_iff, List.getElem?_cons_zero, List.getElem?_cons_succ, List.getElem?_nil, and_assoc, Q_law07_DeclarationProves_0, ownAt, q1, q2, q3, q4, q5, q6, q7, q8, q9, q10, q11, q12, q13, q14, c24, pc24]
noncomputable def B_law07_DeclarationProves_1 (y28 : Int) (y30 : Int) : Option Bool :=
  cnd (decide (y28 = 0)) (
    some false) (
    cnd (decide (y30 = 0)) (
      some false) (
      kb (G_law07_awake ) fun y37 =>
      some y37))
def J_law07_DeclarationProves_1 (y28 : Int) (y30 : Int) (q : St) : Prop := q (.t 14) = (bl (decide (y28 = 0))) ∧ q (.t 15) = (bl (decide (y30 = 0)))
def Q_law07_DeclarationProves_1 (y28 : Int) (y30 : Int) (o2_1 : Bool) (q : St) : Prop := q (.t 2) = (bl o2_1)
theorem P_law07_DeclarationProves_1 {y28 : Int} {y30 : Int} {cc : Code} (hcc : cc = (Code.fst (Code.fst (Code.snd (Code.fst (Code.snd (Code.snd (Code.snd (Code.snd (Code.snd (Code.snd (Code.snd (Code.snd (Code.snd (Code.snd ((Tryd.f4.body).getD .skip)))))))))))))))) {s : St} {z : Option (Ex × St)} (hz : C Tryd.prog cf cc s = z) {r : Bool} (hI : J_law07_DeclarationProves_1 y28 y30 s) (hB : B_law07_DeclarationProves_1 y28 y30 = some r) : Res z (postG (fun a q => Q_law07_DeclarationProves_1 y28 y30 a q) r) := by
  subst hcc
  subst hz
  simp only [J_law07_DeclarationProves_1] at hI
  obtain ⟨q1, q2⟩ := hI
  simp only [Code.fst, Code.snd, Tryd.f4, Option.getD_some]
  unfold B_law07_DeclarationProves_1 at hB
  rcases cnd_inv hB with ⟨c35, hB⟩ | ⟨c35, hB⟩
  · have pc35 := eq_true (of_decide_eq_true c35)
    obtain rfl := Option.some.inj hB
    try simp -implicitDefEqProofs [-getElem?_pos, -Int.ofNat_lt, -Int.ofNat_le, -Int.natCast_eq_zero, -Int.natCast_pos, -List.length_eq_zero_iff, List.getElem?_cons_zero, List.getElem?_cons_succ, List.getElem?_nil, q1, q2, c35, pc35]
    refine Res.g ?_
    simp -implicitDefEqProofs [-getElem?_pos, -Int.ofNat_lt, -Int.ofNat_le, -Int.natCast_eq_zero, -Int.natCast_pos, -List.length_eq_zero_iff, List.getElem?_cons_zero, List.getElem?_cons_succ, List.getElem?_nil, and_assoc, Q_law07_DeclarationProves_1, ownAt, q1, q2, c35, pc35]
  · have pc35 := eq_false (of_decide_eq_false c35)
    rcases cnd_inv hB with ⟨c36, hB⟩ | ⟨c36, hB⟩
    · have pc36 := eq_true (of_decide_eq_true c36)
      obtain rfl := Option.some.inj hB
      try simp -implicitDefEqProofs [-getElem?_pos, -Int.ofNat_lt, -Int.ofNat_le, -Int.natCast_eq_zero, -Int.natCast_pos, -List.length_eq_zero_iff, List.getElem?_cons_zero, List.getElem?_cons_succ, List.getElem?_nil, q1, q2, c35, pc35, c36, pc36]
      refine Res.g ?_
      simp -implicitDefEqProofs [-getElem?_pos, -Int.ofNat_lt, -Int.ofNat_le, -Int.natCast_eq_zero, -Int.natCast_pos, -List.length_eq_zero_iff, List.getElem?_cons_zero, List.getElem?_cons_succ, List.getElem?_nil, and_assoc, Q_law07_DeclarationProves_1, ownAt, q1, q2, c35, pc35, c36, pc36]
    · have pc36 := eq_false (of_decide_eq_false c36)
      obtain ⟨y37, k38, hB⟩ := kb_inv hB
      replace k38 := run_law07_awake k38
      try simp only [Int.cast_ofNat_Int, Int.natCast_zero, List.length_cons, List.length_nil, List.nil_append, List.cons_append, Nat.zero_add, Nat.reduceAdd, Tru.thr_mk, Tru.nodes_mk, Tru.inner_mk, ints_cons, ints_nil, encTs_cons, encTs_nil, es_str_cons, es_str_nil, es_u64_cons, es_u64_nil, es_u8_cons, es_u8_nil] at k38
      try dsimp only at hB
      obtain rfl := Option.some.inj hB
      try simp -implicitDefEqProofs [-getElem?_pos, -Int.ofNat_lt, -Int.ofNat_le, -Int.natCast_eq_zero, -Int.natCast_pos, -List.length_eq_zero_iff, List.getElem?_cons_zero, List.getElem?_cons_succ, List.getElem?_nil, q1, q2, c35, pc35, c36, pc36, k38]
      refine Res.g ?_
      simp -implicitDefEqProofs [-getElem?_pos, -Int.ofNat_lt, -Int.ofNat_le, -Int.natCast_eq_zero, -Int.natCast_pos, -List.length_eq_zero_iff, List.getElem?_cons_zero, List.getElem?_cons_succ, List.getElem?_nil, and_assoc, Q_law07_DeclarationProves_1, ownAt, q1, q2, c35, pc35, c36, pc36, k38]
noncomputable def B_law07_DeclarationProves (p0 : (List Int)) : Option Bool :=
  kb (G_make_New p0) fun y1 =>
  kb (G_make_Tape_Range y1 1 10) fun y3 =>
  kb (G_make_Keys y3.2 y3.1) fun y5 =>
  kb (G_make_Tape_N y5.2 (y5.1.length : Int)) fun y7 =>
  kb (G_make_Declared y7.2 (y5.1.length : Int)) fun y9 =>
  kb (G_make_Declared y9.2 (y5.1.length : Int)) fun y11 =>
  kb (getI y5.1 y7.1) fun x13 =>
  kb (G_declaration_Sign x13 y7.1 2 y9.1) fun y16 =>
  kb (G_declaration_Sign x13 y7.1 2 y11.1) fun y19 =>
  kb (G_declaration_Sign x13 y7.1 3 y11.1) fun y22 =>
  kb (B_law07_DeclarationProves_0 y9 y11 y16 y19 y22 y5) fun z26 =>
  cnd z26 (
    some false) (
    kb (G_declaration_Proves y5.1 (S_api_Evidence.mk y16.1 y19.1)) fun y28 =>
    kb (G_declaration_Proves y5.1 (S_api_Evidence.mk y19.1 y16.1)) fun y30 =>
    kb (G_ref02_Same y9.1 y11.1) fun y32 =>
    cnd y32 (
      kb (B_law07_DeclarationProves_1 y28 y30) fun z39 =>
      some z39) (
      cnd (decide (y28 = 0)) (
        cnd (decide (y30 = 0)) (
          some false) (
          kb (G_declaration_Proves y5.1 (S_api_Evidence.mk y16.1 y22.1)) fun y42 =>
          cnd (decide (y42 = 1)) (
            kb (G_law07_awake ) fun y45 =>
            some y45) (
            some false))) (
        cnd (decide (y30 = 0)) (
          kb (G_declaration_Proves y5.1 (S_api_Evidence.mk y16.1 y22.1)) fun y48 =>
          cnd (decide (y48 = 1)) (
            kb (G_law07_awake ) fun y51 =>
            some y51) (
            some false)) (
          some false))))
theorem sim_law07_DeclarationProves {p0 : (List Int)} {r : Bool} (hB : B_law07_DeclarationProves p0 = some r) : R 4 [(.pv (.sl p0.length (ints p0)))] [] = some ((bl r), [], []) := by
  rw [R_eq _ _ _ fn_law07_DeclarationProves]
  simp only [Code.fst, Code.snd, Tryd.f4, Option.getD_some]
  generalize hc0 : Code.region 8 _ _ = cc0
  generalize hc1 : Code.region 12 _ _ = cc1
  generalize hr2 : Code.region 2 _ _ = rr2
  generalize hr3 : Code.region 3 _ _ = rr3
  generalize hr4 : Code.region 4 _ _ = rr4
  generalize hr5 : Code.region 5 _ _ = rr5
  generalize hr6 : Code.region 6 _ _ = rr6
  generalize hr7 : Code.region 7 _ _ = rr7
  generalize hr10 : Code.region 10 _ _ = rr10
  generalize hr13 : Code.region 13 _ _ = rr13
  unfold B_law07_DeclarationProves at hB
  obtain ⟨y1, k2, hB⟩ := kb_inv hB
  replace k2 := run_make_New k2
  try simp only [Int.cast_ofNat_Int, Int.natCast_zero, List.length_cons, List.length_nil, List.nil_append, List.cons_append, Nat.zero_add, Nat.reduceAdd, Tru.thr_mk, Tru.nodes_mk, Tru.inner_mk, ints_cons, ints_nil, encTs_cons, encTs_nil, es_str_cons, es_str_nil, es_u64_cons, es_u64_nil, es_u8_cons, es_u8_nil] at k2
  try dsimp only at hB
  obtain ⟨y3, k4, hB⟩ := kb_inv hB
  replace k4 := run_make_Tape_Range k4
  try simp only [Int.cast_ofNat_Int, Int.natCast_zero, List.length_cons, List.length_nil, List.nil_append, List.cons_append, Nat.zero_add, Nat.reduceAdd, Tru.thr_mk, Tru.nodes_mk, Tru.inner_mk, ints_cons, ints_nil, encTs_cons, encTs_nil, es_str_cons, es_str_nil, es_u64_cons, es_u64_nil, es_u8_cons, es_u8_nil] at k4
  try dsimp only at hB
  obtain ⟨y5, k6, hB⟩ := kb_inv hB
  replace k6 := run_make_Keys k6
  try simp only [Int.cast_ofNat_Int, Int.natCast_zero, List.length_cons, List.length_nil, List.nil_append, List.cons_append, Nat.zero_add, Nat.reduceAdd, Tru.thr_mk, Tru.nodes_mk, Tru.inner_mk, ints_cons, ints_nil, encTs_cons, encTs_nil, es_str_cons, es_str_nil, es_u64_cons, es_u64_nil, es_u8_cons, es_u8_nil] at k6
  try dsimp only at hB
  obtain ⟨y7, k8, hB⟩ := kb_inv hB
  replace k8 := run_make_Tape_N k8
  try simp only [Int.cast_ofNat_Int, Int.natCast_zero, List.length_cons, List.length_nil, List.nil_append, List.cons_append, Nat.zero_add, Nat.reduceAdd, Tru.thr_mk, Tru.nodes_mk, Tru.inner_mk, ints_cons, ints_nil, encTs_cons, encTs_nil, es_str_cons, es_str_nil, es_u64_cons, es_u64_nil, es_u8_cons, es_u8_nil] at k8
  try dsimp only at hB
  obtain ⟨y9, k10, hB⟩ := kb_inv hB
  replace k10 := run_make_Declared k10
  try simp only [Int.cast_ofNat_Int, Int.natCast_zero, List.length_cons, List.length_nil, List.nil_append, List.cons_append, Nat.zero_add, Nat.reduceAdd, Tru.thr_mk, Tru.nodes_mk, Tru.inner_mk, ints_cons, ints_nil, encTs_cons, encTs_nil, es_str_cons, es_str_nil, es_u64_cons, es_u64_nil, es_u8_cons, es_u8_nil] at k10
  try dsimp only at hB
  obtain ⟨y11, k12, hB⟩ := kb_inv hB
  replace k12 := run_make_Declared k12
  try simp only [Int.cast_ofNat_Int, Int.natCast_zero, List.length_cons, List.length_nil, List.nil_append, List.cons_append, Nat.zero_add, Nat.reduceAdd, Tru.thr_mk, Tru.nodes_mk, Tru.inner_mk, ints_cons, ints_nil, encTs_cons, encTs_nil, es_str_cons, es_str_nil, es_u64_cons, es_u64_nil, es_u8_cons, es_u8_nil] at k12
  try dsimp only at hB
  obtain ⟨x13, h14, hB⟩ := kb_inv hB
  obtain ⟨h14a, h14b, h14c, h14d⟩ := getI_inv h14
  try simp only [Int.toNat_natCast, Int.reduceToNat] at h14c
  try dsimp only at hB
  obtain ⟨y16, k17, hB⟩ := kb_inv hB
  replace k17 := run_declaration_Sign k17
  try simp only [Int.cast_ofNat_Int, Int.natCast_zero, List.length_cons, List.length_nil, List.nil_append, List.cons_append, Nat.zero_add, Nat.reduceAdd, Tru.thr_mk, Tru.nodes_mk, Tru.inner_mk, ints_cons, ints_nil, encTs_cons, encTs_nil, es_str_cons, es_str_nil, es_u64_cons, es_u64_nil, es_u8_cons, es_u8_nil] at k17
  try dsimp only at hB
  obtain ⟨y19, k20, hB⟩ := kb_inv hB
  replace k20 := run_declaration_Sign k20
  try simp only [Int.cast_ofNat_Int, Int.natCast_zero, List.length_cons, List.length_nil, List.nil_append, List.cons_append, Nat.zero_add, Nat.reduceAdd, Tru.thr_mk, Tru.nodes_mk, Tru.inner_mk, ints_cons, ints_nil, encTs_cons, encTs_nil, es_str_cons, es_str_nil, es_u64_cons, es_u64_nil, es_u8_cons, es_u8_nil] at k20
  try dsimp only at hB
  obtain ⟨y22, k23, hB⟩ := kb_inv hB
  replace k23 := run_declaration_Sign k23
  try simp only [Int.cast_ofNat_Int, Int.natCast_zero, List.length_cons, List.length_nil, List.nil_append, List.cons_append, Nat.zero_add, Nat.reduceAdd, Tru.thr_mk, Tru.nodes_mk, Tru.inner_mk, ints_cons, ints_nil, encTs_cons, encTs_nil, es_str_cons, es_str_nil, es_u64_cons, es_u64_nil, es_u8_cons, es_u8_nil] at k23
  try dsimp only at hB
  subst hr2
  subst hr3
  subst hr4
  subst hr5
  subst hr6
  subst hr7
  try simp -implicitDefEqProofs [-getElem?_pos, -Int.ofNat_lt, -Int.ofNat_le, -Int.natCast_eq_zero, -Int.natCast_pos, -List.length_eq_zero_iff, List.getElem?_cons_zero, List.getElem?_cons_succ, List.getElem?_nil, k2, k4, k6, k8, k10, k12, h14a, h14b, h14c, h14d, k17, k20, k23]
  rw [drawK_ok _ _ _ (by kernel_rfl)]
  simp -implicitDefEqProofs [-getElem?_pos, -Int.ofNat_lt, -Int.ofNat_le, -Int.natCast_eq_zero, -Int.natCast_pos, -List.length_eq_zero_iff, List.getElem?_cons_zero, List.getElem?_cons_succ, List.getElem?_nil, k2, k4, k6, k8, k10, k12, h14a, h14b, h14c, h14d, k17, k20, k23]
  rw [drawK_ok _ _ _ (by kernel_rfl)]
  simp -implicitDefEqProofs [-getElem?_pos, -Int.ofNat_lt, -Int.ofNat_le, -Int.natCast_eq_zero, -Int.natCast_pos, -List.length_eq_zero_iff, List.getElem?_cons_zero, List.getElem?_cons_succ, List.getElem?_nil, k2, k4, k6, k8, k10, k12, h14a, h14b, h14c, h14d, k17, k20, k23]
  rw [drawK_ok _ _ _ (by kernel_rfl)]
  simp -implicitDefEqProofs [-getElem?_pos, -Int.ofNat_lt, -Int.ofNat_le, -Int.natCast_eq_zero, -Int.natCast_pos, -List.length_eq_zero_iff, List.getElem?_cons_zero, List.getElem?_cons_succ, List.getElem?_nil, k2, k4, k6, k8, k10, k12, h14a, h14b, h14c, h14d, k17, k20, k23]
  generalize hz0 : C Tryd.prog cf cc0 _ = z0
  obtain ⟨z26, hB1, hB⟩ := kb_inv hB
  have hJ := P_law07_DeclarationProves_0 (hc0.symm.trans (by kernel_rfl)) hz0 (by simp -implicitDefEqProofs [-getElem?_pos, -Int.ofNat_lt, -Int.ofNat_le, -Int.natCast_eq_zero, -Int.natCast_pos, -List.length_eq_zero_iff, List.getElem?_cons_zero, List.getElem?_cons_succ, List.getElem?_nil, and_assoc, J_law07_DeclarationProves_0, ownAt, k2, k4, k6, k8, k10, k12, h14a, h14b, h14c, h14d, k17, k20, k23]) hB1
  obtain ⟨e0, s0, rfl, hq⟩ := hJ.open
  clear hB1
  obtain ⟨rfl, hq⟩ := hq
  simp only [Q_law07_DeclarationProves_0] at hq
  obtain ⟨q26_1, q26_2, ⟨g26_4, q26_3, q26_4⟩, ⟨g26_6, q26_5, q26_6⟩, ⟨g26_8, q26_7, q26_8⟩, ⟨g26_10, q26_9, q26_10⟩, ⟨g26_12, q26_11, q26_12⟩⟩ := hq
  rcases cnd_inv hB with ⟨c27, hB⟩ | ⟨c27, hB⟩
  · obtain rfl := Option.some.inj hB
    simp -implicitDefEqProofs [-getElem?_pos, -Int.ofNat_lt, -Int.ofNat_le, -Int.natCast_eq_zero, -Int.natCast_pos, -List.length_eq_zero_iff, List.getElem?_cons_zero, List.getElem?_cons_succ, List.getElem?_nil, q26_1, q26_2, q26_3, q26_4, q26_5, q26_6, q26_7, q26_8, q26_9, q26_10, q26_11, q26_12, k2, k4, k6, k8, k10, k12, h14a, h14b, h14c, h14d, k17, k20, k23, c27]
  · obtain ⟨y28, k29, hB⟩ := kb_inv hB
    replace k29 := run_declaration_Proves k29
    try simp only [Int.cast_ofNat_Int, Int.natCast_zero, List.length_cons, List.length_nil, List.nil_append, List.cons_append, Nat.zero_add, Nat.reduceAdd, Tru.thr_mk, Tru.nodes_mk, Tru.inner_mk, ints_cons, ints_nil, encTs_cons, encTs_nil, es_str_cons, es_str_nil, es_u64_cons, es_u64_nil, es_u8_cons, es_u8_nil, c27] at k29
    try dsimp only at hB
    obtain ⟨y30, k31, hB⟩ := kb_inv hB
    replace k31 := run_declaration_Proves k31
    try simp only [Int.cast_ofNat_Int, Int.natCast_zero, List.length_cons, List.length_nil, List.nil_append, List.cons_append, Nat.zero_add, Nat.reduceAdd, Tru.thr_mk, Tru.nodes_mk, Tru.inner_mk, ints_cons, ints_nil, encTs_cons, encTs_nil, es_str_cons, es_str_nil, es_u64_cons, es_u64_nil, es_u8_cons, es_u8_nil, c27] at k31
    try dsimp only at hB
    obtain ⟨y32, k33, hB⟩ := kb_inv hB
    replace k33 := run_ref02_Same k33
    try simp only [Int.cast_ofNat_Int, Int.natCast_zero, List.length_cons, List.length_nil, List.nil_append, List.cons_append, Nat.zero_add, Nat.reduceAdd, Tru.thr_mk, Tru.nodes_mk, Tru.inner_mk, ints_cons, ints_nil, encTs_cons, encTs_nil, es_str_cons, es_str_nil, es_u64_cons, es_u64_nil, es_u8_cons, es_u8_nil, c27] at k33
    try dsimp only at hB
    rcases cnd_inv hB with ⟨c34, hB⟩ | ⟨c34, hB⟩
    · subst hr10
      try simp -implicitDefEqProofs [-getElem?_pos, -Int.ofNat_lt, -Int.ofNat_le, -Int.natCast_eq_zero, -Int.natCast_pos, -List.length_eq_zero_iff, List.getElem?_cons_zero, List.getElem?_cons_succ, List.getElem?_nil, q26_1, q26_2, q26_3, q26_4, q26_5, q26_6, q26_7, q26_8, q26_9, q26_10, q26_11, q26_12, k2, k4, k6, k8, k10, k12, h14a, h14b, h14c, h14d, k17, k20, k23, c27, k29, k31, k33, c34]
      rw [drawK_ok _ _ _ (by kernel_rfl)]
      simp -implicitDefEqProofs [-getElem?_pos, -Int.ofNat_lt, -Int.ofNat_le, -Int.natCast_eq_zero, -Int.natCast_pos, -List.length_eq_zero_iff, List.getElem?_cons_zero, List.getElem?_cons_succ, List.getElem?_nil, q26_1, q26_2, q26_3, q26_4, q26_5, q26_6, q26_7, q26_8, q26_9, q26_10, q26_11, q26_12, k2, k4, k6, k8, k10, k12, h14a, h14b, h14c, h14d, k17, k20, k23, c27, k29, k31, k33, c34]
      generalize hz1 : C Tryd.prog cf cc1 _ = z1
      obtain ⟨z39, hB1, hB⟩ := kb_inv hB
      have hJ := P_law07_DeclarationProves_1 (hc1.symm.trans (by kernel_rfl)) hz1 (by simp -implicitDefEqProofs [-getElem?_pos, -Int.ofNat_lt, -Int.ofNat_le, -Int.natCast_eq_zero, -Int.natCast_pos, -List.length_eq_zero_iff, List.getElem?_cons_zero, List.getElem?_cons_succ, List.getElem?_nil, and_assoc, J_law07_DeclarationProves_1, ownAt, q26_1, q26_2, q26_3, q26_4, q26_5, q26_6, q26_7, q26_8, q26_9, q26_10, q26_11, q26_12, k2, k4, k6, k8, k10, k12, h14a, h14b, h14c, h14d, k17, k20, k23, c27, k29, k31, k33, c34]) hB1
      obtain ⟨e1, s1, rfl, hq⟩ := hJ.open
      clear hB1
      obtain ⟨rfl, hq⟩ := hq
      simp only [Q_law07_DeclarationProves_1] at hq
      have q39_1 := hq
      obtain rfl := Option.some.inj hB
      simp -implicitDefEqProofs [-getElem?_pos, -Int.ofNat_lt, -Int.ofNat_le, -Int.natCast_eq_zero, -Int.natCast_pos, -List.length_eq_zero_iff, List.getElem?_cons_zero, List.getElem?_cons_succ, List.getElem?_nil, q39_1, k2, k4, k6, k8, k10, k12, h14a, h14b, h14c, h14d, k17, k20, k23, c27, k29, k31, k33, c34]
    · rcases cnd_inv hB with ⟨c40, hB⟩ | ⟨c40, hB⟩
      · have pc40 := eq_true (of_decide_eq_true c40)
        rcases cnd_inv hB with ⟨c41, hB⟩ | ⟨c41, hB⟩
        · have pc41 := eq_true (of_decide_eq_true c41)
          obtain rfl := Option.some.inj hB
          subst hr10
          subst hr13
          simp -implicitDefEqProofs [-getElem?_pos, -Int.ofNat_lt, -Int.ofNat_le, -Int.natCast_eq_zero, -Int.natCast_pos, -List.length_eq_zero_iff, List.getElem?_cons_zero, List.getElem?_cons_succ, List.getElem?_nil, q26_1, q26_2, q26_3, q26_4, q26_5, q26_6, q26_7, q26_8, q26_9, q26_10, q26_11, q26_12, k2, k4, k6, k8, k10, k12, h14a, h14b, h14c, h14d, k17, k20, k23, c27, k29, k31, k33, c34, c40, pc40, c41, pc41]
          rw [drawK_ok _ _ _ (by kernel_rfl)]
          simp -implicitDefEqProofs [-getElem?_pos, -Int.ofNat_lt, -Int.ofNat_le, -Int.natCast_eq_zero, -Int.natCast_pos, -List.length_eq_zero_iff, List.getElem?_cons_zero, List.getElem?_cons_succ, List.getElem?_nil, q26_1, q26_2, q26_3, q26_4, q26_5, q26_6, q26_7, q26_8, q26_9, q26_10, q26_11, q26_12, k2, k4, k6, k8, k10, k12, h14a, h14b, h14c, h14d, k17, k20, k23, c27, k29, k31, k33, c34, c40, pc40, c41, pc41]
        · have pc41 := eq_false (of_decide_eq_false c41)
          obtain ⟨y42, k43, hB⟩ := kb_inv hB
          replace k43 := run_declaration_Proves k43
          try simp only [Int.cast_ofNat_Int, Int.natCast_zero, List.length_cons, List.length_nil, List.nil_append, List.cons_append, Nat.zero_add, Nat.reduceAdd, Tru.thr_mk, Tru.nodes_mk, Tru.inner_mk, ints_cons, ints_nil, encTs_cons, encTs_nil, es_str_cons, es_str_nil, es_u64_cons, es_u64_nil, es_u8_cons, es_u8_nil, c27, c34] at k43
          try dsimp only at hB
          rcases cnd_inv hB with ⟨c44, hB⟩ | ⟨c44, hB⟩
          · have pc44 := eq_true (of_decide_eq_true c44)
            obtain ⟨y45, k46, hB⟩ := kb_inv hB
            replace k46 := run_law07_awake k46
            try simp only [Int.cast_ofNat_Int, Int.natCast_zero, List.length_cons, List.length_nil, List.nil_append, List.cons_append, Nat.zero_add, Nat.reduceAdd, Tru.thr_mk, Tru.nodes_mk, Tru.inner_mk, ints_cons, ints_nil, encTs_cons, encTs_nil, es_str_cons, es_str_nil, es_u64_cons, es_u64_nil, es_u8_cons, es_u8_nil, c27, c34] at k46
            try dsimp only at hB
            obtain rfl := Option.some.inj hB
            subst hr10
            subst hr13
            simp -implicitDefEqProofs [-getElem?_pos, -Int.ofNat_lt, -Int.ofNat_le, -Int.natCast_eq_zero, -Int.natCast_pos, -List.length_eq_zero_iff, List.getElem?_cons_zero, List.getElem?_cons_succ, List.getElem?_nil, q26_1, q26_2, q26_3, q26_4, q26_5, q26_6, q26_7, q26_8, q26_9, q26_10, q26_11, q26_12, k2, k4, k6, k8, k10, k12, h14a, h14b, h14c, h14d, k17, k20, k23, c27, k29, k31, k33, c34, c40, pc40, c41, pc41, k43, c44, pc44, k46]
            rw [drawK_ok _ _ _ (by kernel_rfl)]
            simp -implicitDefEqProofs [-getElem?_pos, -Int.ofNat_lt, -Int.ofNat_le, -Int.natCast_eq_zero, -Int.natCast_pos, -List.length_eq_zero_iff, List.getElem?_cons_zero, List.getElem?_cons_succ, List.getElem?_nil, q26_1, q26_2, q26_3, q26_4, q26_5, q26_6, q26_7, q26_8, q26_9, q26_10, q26_11, q26_12, k2, k4, k6, k8, k10, k12, h14a, h14b, h14c, h14d, k17, k20, k23, c27, k29, k31, k33, c34, c40, pc40, c41, pc41, k43, c44, pc44, k46]
          · have pc44 := eq_false (of_decide_eq_false c44)
            obtain rfl := Option.some.inj hB
            subst hr10
            subst hr13
            simp -implicitDefEqProofs [-getElem?_pos, -Int.ofNat_lt, -Int.ofNat_le, -Int.natCast_eq_zero, -Int.natCast_pos, -List.length_eq_zero_iff, List.getElem?_cons_zero, List.getElem?_cons_succ, List.getElem?_nil, q26_1, q26_2, q26_3, q26_4, q26_5, q26_6, q26_7, q26_8, q26_9, q26_10, q26_11, q26_12, k2, k4, k6, k8, k10, k12, h14a, h14b, h14c, h14d, k17, k20, k23, c27, k29, k31, k33, c34, c40, pc40, c41, pc41, k43, c44, pc44]
            rw [drawK_ok _ _ _ (by kernel_rfl)]
            simp -implicitDefEqProofs [-getElem?_pos, -Int.ofNat_lt, -Int.ofNat_le, -Int.natCast_eq_zero, -Int.natCast_pos, -List.length_eq_zero_iff, List.getElem?_cons_zero, List.getElem?_cons_succ, List.getElem?_nil, q26_1, q26_2, q26_3, q26_4, q26_5, q26_6, q26_7, q26_8, q26_9, q26_10, q26_11, q26_12, k2, k4, k6, k8, k10, k12, h14a, h14b, h14c, h14d, k17, k20, k23, c27, k29, k31, k33, c34, c40, pc40, c41, pc41, k43, c44, pc44]
      · have pc40 := eq_false (of_decide_eq_false c40)
        rcases cnd_inv hB with ⟨c47, hB⟩ | ⟨c47, hB⟩
        · have pc47 := eq_true (of_decide_eq_true c47)
          obtain ⟨y48, k49, hB⟩ := kb_inv hB
          replace k49 := run_declaration_Proves k49
          try simp only [Int.cast_ofNat_Int, Int.natCast_zero, List.length_cons, List.length_nil, List.nil_append, List.cons_append, Nat.zero_add, Nat.reduceAdd, Tru.thr_mk, Tru.nodes_mk, Tru.inner_mk, ints_cons, ints_nil, encTs_cons, encTs_nil, es_str_cons, es_str_nil, es_u64_cons, es_u64_nil, es_u8_cons, es_u8_nil, c27, c34] at k49
          try dsimp only at hB
          rcases cnd_inv hB with ⟨c50, hB⟩ | ⟨c50, hB⟩
          · have pc50 := eq_true (of_decide_eq_true c50)
            obtain ⟨y51, k52, hB⟩ := kb_inv hB
            replace k52 := run_law07_awake k52
            try simp only [Int.cast_ofNat_Int, Int.natCast_zero, List.length_cons, List.length_nil, List.nil_append, List.cons_append, Nat.zero_add, Nat.reduceAdd, Tru.thr_mk, Tru.nodes_mk, Tru.inner_mk, ints_cons, ints_nil, encTs_cons, encTs_nil, es_str_cons, es_str_nil, es_u64_cons, es_u64_nil, es_u8_cons, es_u8_nil, c27, c34] at k52
            try dsimp only at hB
            obtain rfl := Option.some.inj hB
            subst hr10
            subst hr13
            simp -implicitDefEqProofs [-getElem?_pos, -Int.ofNat_lt, -Int.ofNat_le, -Int.natCast_eq_zero, -Int.natCast_pos, -List.length_eq_zero_iff, List.getElem?_cons_zero, List.getElem?_cons_succ, List.getElem?_nil, q26_1, q26_2, q26_3, q26_4, q26_5, q26_6, q26_7, q26_8, q26_9, q26_10, q26_11, q26_12, k2, k4, k6, k8, k10, k12, h14a, h14b, h14c, h14d, k17, k20, k23, c27, k29, k31, k33, c34, c40, pc40, c47, pc47, k49, c50, pc50, k52]
            rw [drawK_ok _ _ _ (by kernel_rfl)]
            simp -implicitDefEqProofs [-getElem?_pos, -Int.ofNat_lt, -Int.ofNat_le, -Int.natCast_eq_zero, -Int.natCast_pos, -List.length_eq_zero_iff, List.getElem?_cons_zero, List.getElem?_cons_succ, List.getElem?_nil, q26_1, q26_2, q26_3, q26_4, q26_5, q26_6, q26_7, q26_8, q26_9, q26_10, q26_11, q26_12, k2, k4, k6, k8, k10, k12, h14a, h14b, h14c, h14d, k17, k20, k23, c27, k29, k31, k33, c34, c40, pc40, c47, pc47, k49, c50, pc50, k52]
          · have pc50 := eq_false (of_decide_eq_false c50)
            obtain rfl := Option.some.inj hB
            subst hr10
            subst hr13
            simp -implicitDefEqProofs [-getElem?_pos, -Int.ofNat_lt, -Int.ofNat_le, -Int.natCast_eq_zero, -Int.natCast_pos, -List.length_eq_zero_iff, List.getElem?_cons_zero, List.getElem?_cons_succ, List.getElem?_nil, q26_1, q26_2, q26_3, q26_4, q26_5, q26_6, q26_7, q26_8, q26_9, q26_10, q26_11, q26_12, k2, k4, k6, k8, k10, k12, h14a, h14b, h14c, h14d, k17, k20, k23, c27, k29, k31, k33, c34, c40, pc40, c47, pc47, k49, c50, pc50]
            rw [drawK_ok _ _ _ (by kernel_rfl)]
            simp -implicitDefEqProofs [-getElem?_pos, -Int.ofNat_lt, -Int.ofNat_le, -Int.natCast_eq_zero, -Int.natCast_pos, -List.length_eq_zero_iff, List.getElem?_cons_zero, List.getElem?_cons_succ, List.getElem?_nil, q26_1, q26_2, q26_3, q26_4, q26_5, q26_6, q26_7, q26_8, q26_9, q26_10, q26_11, q26_12, k2, k4, k6, k8, k10, k12, h14a, h14b, h14c, h14d, k17, k20, k23, c27, k29, k31, k33, c34, c40, pc40, c47, pc47, k49, c50, pc50]
        · have pc47 := eq_false (of_decide_eq_false c47)
          obtain rfl := Option.some.inj hB
          subst hr10
          subst hr13
          simp -implicitDefEqProofs [-getElem?_pos, -Int.ofNat_lt, -Int.ofNat_le, -Int.natCast_eq_zero, -Int.natCast_pos, -List.length_eq_zero_iff, List.getElem?_cons_zero, List.getElem?_cons_succ, List.getElem?_nil, q26_1, q26_2, q26_3, q26_4, q26_5, q26_6, q26_7, q26_8, q26_9, q26_10, q26_11, q26_12, k2, k4, k6, k8, k10, k12, h14a, h14b, h14c, h14d, k17, k20, k23, c27, k29, k31, k33, c34, c40, pc40, c47, pc47]
          rw [drawK_ok _ _ _ (by kernel_rfl)]
          simp -implicitDefEqProofs [-getElem?_pos, -Int.ofNat_lt, -Int.ofNat_le, -Int.natCast_eq_zero, -Int.natCast_pos, -List.length_eq_zero_iff, List.getElem?_cons_zero, List.getElem?_cons_succ, List.getElem?_nil, q26_1, q26_2, q26_3, q26_4, q26_5, q26_6, q26_7, q26_8, q26_9, q26_10, q26_11, q26_12, k2, k4, k6, k8, k10, k12, h14a, h14b, h14c, h14d, k17, k20, k23, c27, k29, k31, k33, c34, c40, pc40, c47, pc47]
theorem g_law07_DeclarationProves {p0 : (List Int)} {r : Bool} (hB : B_law07_DeclarationProves p0 = some r) : G_law07_DeclarationProves p0 = some r := dec_of (fun a b h => by rcases a with a0_; rcases b with b0_; simp at h; simp [*]) (sim_law07_DeclarationProves hB)
end Go.Am

/-
The plain law of DeclarationProves.
-/
namespace Go.Am
open Go
set_option linter.unusedVariables false
set_option linter.unusedSimpArgs false

theorem law_DeclarationProves (l : List Int) (hl : ∀ k ∈ l, in64 k) : B_law07_DeclarationProves l = some true := by
  obtain ⟨t0, e0, ht0⟩ := s_New hl
  obtain ⟨n, t1, e1, hn, ht1⟩ := s_Range ht0 (a := 1) (b := 10) (by omega) (by omega) (by omega)
  obtain ⟨keys, t2, e2, hk, ht2⟩ := s_Keys ht1 n hn.1 hn.2
  obtain ⟨v, t3, e3, hv, ht3⟩ := s_N ht2 (n := (keys.length : Int)) (by omega) (by omega)
  obtain ⟨x, t4, e4, hx, ht4⟩ := s_Declared ht3 (keys.length : Int) (by omega) (by omega)
  obtain ⟨y, t5, e5, hy, ht5⟩ := s_Declared ht4 (keys.length : Int) (by omega) (by omega)
  have hlt : v.toNat < keys.length := by omega
  have hd : ∀ (q : Int) (z : Tru), 1 ≤ q → q ≤ 3 → TOk z → DOk ⟨v, q, z, 0⟩ := fun q z h1 h2 hz => ⟨⟨by show 0 ≤ v ∧ v < 10; omega, by show 1 ≤ q ∧ q ≤ 30; omega⟩, hz⟩
  have hb : ∀ (q : Int) (z : Tru) (T : Int), bytesV ⟨v, q, z, 0⟩ = bytesV ⟨v, q, z, T⟩ := fun _ _ _ => rfl
  have hs : ∀ (q : Int) (z : Tru) (T : Int), 1 ≤ q → q ≤ 3 → TOk z → tagV keys[v.toNat] (bytesV ⟨v, q, z, 0⟩) = T → Signed keys ⟨v, q, z, T⟩ := fun q z T h1 h2 hz hT =>
    ⟨⟨(hd q z h1 h2 hz).1, hz⟩, keys[v.toNat], by simp [hlt], by rw [← hb]; exact hT.symm⟩
  have g1 := s_declaration_Sign (key := keys[v.toNat]) (hd 2 x (by omega) (by omega) hx)
  have g2 := s_declaration_Sign (key := keys[v.toNat]) (hd 2 y (by omega) (by omega) hy)
  have g3 := s_declaration_Sign (key := keys[v.toNat]) (hd 3 y (by omega) (by omega) hy)
  generalize hT1 : tagV keys[v.toNat] (bytesV ⟨v, 2, x, 0⟩) = T1 at g1
  generalize hT2 : tagV keys[v.toNat] (bytesV ⟨v, 2, y, 0⟩) = T2 at g2
  generalize hT3 : tagV keys[v.toNat] (bytesV ⟨v, 3, y, 0⟩) = T3 at g3
  have sa := hs 2 x T1 (by omega) (by omega) hx hT1
  have sb := hs 2 y T2 (by omega) (by omega) hy hT2
  have sc := hs 3 y T3 (by omega) (by omega) hy hT3
  have pab := s_Proves sa sb
  have pba := s_Proves sb sa
  have pac := s_Proves sa sc
  dsimp only at pab pba pac
  rw [if_pos ⟨rfl, rfl⟩] at pab pba
  rw [if_neg (by omega)] at pac
  obtain ⟨w, m1, m2⟩ := s_ref02_Same x hx.1.2 y
  have h0 : B_law07_DeclarationProves_0 (x, t4) (y, t5) (⟨v, 2, x, T1⟩, 0) (⟨v, 2, y, T2⟩, 0) (⟨v, 3, y, T3⟩, 0) (keys, t2) = some false := by
    unfold B_law07_DeclarationProves_0
    simp [cnd_true]
  unfold B_law07_DeclarationProves
  rw [e0, kb_some, e1, kb_some]
  dsimp only
  rw [e2, kb_some]
  dsimp only
  rw [e3, kb_some]
  dsimp only
  rw [e4, kb_some]
  dsimp only
  rw [e5, kb_some, getI_some hv.1 hlt, kb_some]
  dsimp only
  rw [g1, kb_some, g2, kb_some, g3, kb_some, h0, kb_some, cnd_false]
  dsimp only
  rw [pab, kb_some, pba, kb_some, m1, kb_some]
  cases w
  · have hxy : x ≠ y := fun e => by have := m2.2 e; cases this
    have hne : bytesV ⟨v, 2, x, T1⟩ ≠ bytesV ⟨v, 2, y, T2⟩ := fun e => hxy (bytes_trust sa.1 sb.1 rfl rfl e)
    rw [cnd_false]
    rcases bl_total _ _ hne with h1 | h1
    · have h2 := bl_asymm _ _ h1
      simp only [h1, h2, if_true, Bool.false_eq_true, if_false, decide_true, cnd_true]
      rw [show decide ((7 : Int) = 0) = false from rfl, cnd_false, pac, kb_some]
      simp only [decide_true, cnd_true]
      rw [s_awake07, kb_some]
    · have h2 := bl_asymm _ _ h1
      simp only [h1, h2, if_true, Bool.false_eq_true, if_false, decide_true, cnd_true]
      rw [show decide ((7 : Int) = 0) = false from rfl, cnd_false, pac, kb_some]
      simp only [decide_true, cnd_true]
      rw [s_awake07, kb_some]
  · have hxy := m2.1 rfl
    subst hxy
    have he : bytesV ⟨v, 2, x, T1⟩ = bytesV ⟨v, 2, x, T2⟩ := rfl
    rw [cnd_true, he]
    simp only [bl_irrefl, Bool.false_eq_true, if_false]
    unfold B_law07_DeclarationProves_1
    rw [show decide ((7 : Int) = 0) = false from rfl]
    simp only [cnd_false]
    rw [s_awake07, kb_some, kb_some]
end Go.Am

/-
Arguments of a call, opened: trusts and configurations that lie in memory, as pure values.
-/
namespace Go.Am
open Go Go.Proofs
set_option linter.unusedVariables false

section
variable {H : Type} {enc : TypeId × Value → H} {P : Program} {w : World} {spare : Nat → Bool} {held : Bool}

/-- cells in memory that stand for pure ones -/
def Reps (w : World) (ps : List PV) (cs : List Value) : Prop := ps.length = cs.length ∧ ∀ (j : Nat) p v, ps[j]? = some p → cs[j]? = some v → RepP w.heap (I0 w) p v

theorem RepRow_append {h : Heap} {I : Nat → Prop} {b : Nat} : ∀ {off : Nat} {p q : List PV}, RepRow h I b off p → RepRow h I b (off + p.length) q → RepRow h I b off (p ++ q)
  | off, [], q, _, h2 => by simpa using h2
  | off, x :: p, q, h1, h2 => ⟨h1.1, RepRow_append h1.2 (by rw [show off + 1 + p.length = off + (x :: p).length by simp; omega]; exact h2)⟩

theorem addr_zero (a : Addr) : a.add 0 = a := by simp [Addr.add]
theorem addr_none (b o j : Nat) : Addr.add ⟨b, o, none⟩ j = ⟨b, o + j, none⟩ := by
  unfold Addr.add
  split
  · rename_i h; subst h; rfl
  · rfl

/-- no list in it is longer than memory -/
def Lite (P : Program) (t : TypeId) (d : DataW H) : Prop := ∀ n ∈ d.weights P t, n ≤ reachBytes
theorem lite_all {e : TypeId} : ∀ {l : List (DataW H)}, (∀ n ∈ DataW.weightsAll P e l, n ≤ reachBytes) → ∀ d ∈ l, Lite P e d
  | [], _, d, hd => by cases hd
  | x :: r, h, d, hd => by
    unfold DataW.weightsAll at h
    cases hd with
    | head => exact fun n hn => h n (List.mem_append.2 (.inl hn))
    | tail _ hd => exact lite_all (fun n hn => h n (List.mem_append.2 (.inr hn))) d hd
theorem lite_each : ∀ {ts : List TypeId} {ds : List (DataW H)}, (∀ n ∈ DataW.weightsEach P ts ds, n ≤ reachBytes) → ∀ (i : Nat) t d, ts[i]? = some t → ds[i]? = some d → Lite P t d
  | [], ds, h, i, t, d, ht, hd => by simp at ht
  | _ :: _, [], h, i, t, d, ht, hd => by simp at hd
  | t' :: ts, d' :: ds, h, i, t, d, ht, hd => by
    unfold DataW.weightsEach at h
    cases i with
    | zero =>
      simp at ht hd; subst ht; subst hd
      exact fun n hn => h n (List.mem_append.2 (.inl hn))
    | succ i => exact lite_each (fun n hn => h n (List.mem_append.2 (.inr hn))) i t d (by simpa using ht) (by simpa using hd)
theorem lite_slice {t e : TypeId} (ht : P.underlying t = some (.slice e)) {a b : List (DataW H)} (h : Lite P t (.slice a b)) : a.length * P.bytesOf e ≤ reachBytes ∧ ∀ d ∈ a, Lite P e d := by
  unfold Lite at h
  unfold DataW.weights at h
  rw [ht] at h
  simp only [List.mem_cons, List.mem_append] at h
  refine ⟨Nat.le_trans (Nat.mul_le_mul_right _ (Nat.le_add_right _ _)) (h _ (.inl rfl)), lite_all fun n hn => h n (.inr (.inl hn))⟩
theorem lite_struct {t : TypeId} {fs : Array Field} (ht : P.underlying t = some (.struct fs)) {a : List (DataW H)} (h : Lite P t (.agg a)) : ∀ (i : Nat) u d, (fs.toList.map (·.type))[i]? = some u → a[i]? = some d → Lite P u d := by
  unfold Lite at h
  unfold DataW.weights at h
  rw [ht] at h
  exact lite_each h
theorem open_slice {X : Type} (E : List X → List PV) (cell : X → List PV) {z : Nat} (hz : 0 < z) (h0 : E [] = []) (h1 : ∀ x l, E (x :: l) = cell x ++ E l) (hc : ∀ x, (cell x).length = z) (Ok : X → Prop) {t e : TypeId} {fuel : Nat} {v : Value} {x : DataW H × List MemPlace}
    (ht : P.underlying t = some (.slice e)) (hsz : P.cellsOf e = z)
    (he : ∀ n cs y, n < fuel → DataW.trod enc P w 0 spare held n e cs = some y → Lite P e y.1 → ∃ q : X, Ok q ∧ Reps w (cell q) cs)
    (h : DataW.trod enc P w 0 spare held fuel t [v] = some x) (hL : Lite P t x.1) : ∃ l : List X, ((∀ q ∈ l, Ok q) ∧ l.length * P.bytesOf e ≤ reachBytes) ∧ RepP w.heap (I0 w) (.sl l.length (E l)) v := by
  rcases DataW.trod_slice ht h with ⟨hcs, _⟩ | ⟨a, len, cap, elems, rest, n, hf, hcs, hxe, hb, hl, hm, hlen, hel, _⟩
  · obtain rfl : v = .slice none 0 0 := by simpa using hcs
    exact ⟨[], ⟨by simp, by simp⟩, none, 0, rfl, Nat.le_refl _, .inl h0⟩
  · obtain rfl : v = .slice (some a) len cap := by simpa using hcs
    rw [hsz] at hel
    rw [hxe] at hL
    obtain ⟨hL1, hL2⟩ := lite_slice ht hL
    rw [List.length_map, hlen] at hL1
    have each : ∀ i, i < len → ∃ q : X, Ok q ∧ ∀ j p, (cell q)[j]? = some p → ∃ u, w.cell? ((a.add (i * z)).add j) = some u ∧ RepP w.heap (I0 w) p u := by
      intro i hi
      have h2 := hel i hi
      rw [List.getElem?_eq_getElem (by omega), Option.bind_eq_some_iff] at h2
      obtain ⟨cs, hc1, hc2⟩ := h2
      obtain ⟨_, hcl, hcc⟩ := World.cells?_some hc1
      obtain ⟨q, hq, hr⟩ := he n cs _ (by omega) hc2 (hL2 _ (List.mem_map_of_mem (List.getElem_mem _)))
      refine ⟨q, hq, fun j p hp => ?_⟩
      have hj : j < z := by rw [← hc q]; exact (List.getElem?_eq_some_iff.1 hp).1
      have hj2 : j < cs.length := by omega
      refine ⟨cs[j], ?_, hr.2 j p _ hp (by simp [hj2])⟩
      rw [hcc j hj]
      simp [hj2]
    by_cases hlen0 : len = 0
    · subst hlen0
      exact ⟨[], ⟨by simp, by simp⟩, some a, cap, rfl, hl, .inl h0⟩
    · obtain ⟨q0, _, hq0⟩ := each 0 (by omega)
      have hcell : 0 < (cell q0).length := by rw [hc]; exact hz
      obtain ⟨u0, hu0, _⟩ := hq0 0 (cell q0)[0] (by simp [hcell])
      rw [Nat.zero_mul, addr_zero, addr_zero] at hu0
      obtain ⟨hblk, hspot⟩ := cell_block hu0
      obtain ⟨b, o, s⟩ := a
      simp only at hspot hblk
      subst hspot
      have hd : ∀ d k, k + d = len → ∃ l : List X, l.length = d ∧ (∀ q ∈ l, Ok q) ∧ RepRow w.heap (I0 w) b (o + k * z) (E l) := by
        intro d
        induction d with
        | zero => intro k _; exact ⟨[], rfl, by simp, by rw [h0]; trivial⟩
        | succ d ih =>
          intro k hk
          obtain ⟨l, hll, hlo, hlr⟩ := ih (k + 1) (by omega)
          obtain ⟨q, hq, hqr⟩ := each k (by omega)
          refine ⟨q :: l, by simp [hll], fun y hy => ?_, ?_⟩
          · cases hy with
            | head => exact hq
            | tail _ hy => exact hlo y hy
          · rw [h1]
            refine RepRow_append (.of_get fun j p hp => ?_) ?_
            · obtain ⟨u, hu, hr⟩ := hqr j p hp
              rw [addr_none, addr_none, cell?_eq] at hu
              exact ⟨u, hu, hr⟩
            · rw [hc, show o + k * z + z = o + (k + 1) * z by rw [Nat.add_mul]; omega]
              exact hlr
      obtain ⟨l, hll, hlo, hlr⟩ := hd len 0 (by omega)
      rw [Nat.zero_mul, Nat.add_zero] at hlr
      refine ⟨l, ⟨hlo, by rw [hll]; exact hL1⟩, ?_⟩
      rw [hll]
      exact ⟨some ⟨b, o, none⟩, cap, rfl, hl, .inr ⟨b, o, rfl, hblk, hlr⟩⟩
end

section
variable {H : Type} {enc : TypeId × Value → H} {w : World} {spare : Nat → Bool} {held : Bool}
theorem wf_in64 {k : Int} (h : (Lit.int .i64 k).wf = true) : in64 k := by
  simp [Lit.wf, IntKind.min, IntKind.max, IntKind.signed, IntKind.bits] at h
  unfold in64
  omega
theorem reps_one {p : PV} {v : Value} (h : RepP w.heap (I0 w) p v) : Reps w [p] [v] := by
  refine ⟨rfl, fun j q u hq hu => ?_⟩
  cases j with
  | zero => simp at hq hu; subst hq; subst hu; exact h
  | succ j => simp at hq
theorem open_intl {fuel : Nat} {v : Value} {x : DataW H × List MemPlace} (h : DataW.trod enc Tryd.prog w 0 spare held fuel 22 [v] = some x) (hL : Lite Tryd.prog 22 x.1) : ∃ l : List Int, ((∀ k ∈ l, in64 k) ∧ l.length * Tryd.prog.bytesOf 3 ≤ reachBytes) ∧ RepP w.heap (I0 w) (.sl l.length (ints l)) v :=
  open_slice ints (fun k => [.int .i64 k]) (z := 1) (by omega) rfl (fun _ _ => rfl) (fun _ => rfl) in64 Tryd.underlying22 (by kernel_rfl)
    (fun n cs y _ hy _ => by
      obtain ⟨m, rfl, _, hw⟩ := DataW.trod_int Tryd.underlying3 hy
      exact ⟨m, wf_in64 hw, reps_one rfl⟩) h hL
theorem take_one {α : Type} {l : List α} {a b c : α} (h : l.length = 3) : ∃ a b c, l = [a, b, c] := by
  match l, h with
  | [a, b, c], _ => exact ⟨a, b, c, rfl⟩
/-- a struct as an argument -/
theorem repV_agg {ps : List PV} {u : Array Value} (h : Reps w ps u.toList) : RepV w.heap (I0 w) G0 M0 (.agg (ps.map .pv)) (.agg u) :=
  ⟨u, rfl, RepL.of_get (by simpa using h.1) fun j a v ha hv => by
    simp only [List.getElem?_map, Option.map_eq_some_iff] at ha
    obtain ⟨p, hp, rfl⟩ := ha
    exact h.2 j p v hp hv⟩
/-! ### arguments -/
theorem trod_in {P : Program} {t : TypeId} {v : Value} {d : DataW H} {ps : List MemPlace} (h : DataW.Trod enc P w 0 spare held t v d ps) : ∀ x ∈ ps, x.block < w.heap.size := by
  obtain ⟨m, hm⟩ := h
  exact DataW.trod_lt m _ _ _ hm
theorem arg_intl {r : Reach} {b0 : Nat} {v : Value} {d : DataW H} {ps : List MemPlace} (hv : Value.okWide Tryd.prog w r b0 22 v) (hd : DataW.Trod enc Tryd.prog w 0 spare held 22 v d ps) (hL : Lite Tryd.prog 22 d) :
    ∃ l : List Int, (∀ k ∈ l, in64 k) ∧ RepV w.heap (I0 w) G0 M0 (.pv (.sl l.length (ints l))) v := by
  obtain ⟨a, n, c, rfl⟩ := WideShapes.okWide_slice Tryd.underlying22 hv
  obtain ⟨fuel, hf⟩ := hd
  obtain ⟨l, ⟨h1, _⟩, h2⟩ := open_intl hf hL
  exact ⟨l, h1, h2⟩
theorem arg_int {r : Reach} {b0 : Nat} {v : Value} {d : DataW H} {ps : List MemPlace} (hv : Value.okWide Tryd.prog w r b0 3 v) (hd : DataW.Trod enc Tryd.prog w 0 spare held 3 v d ps) :
    ∃ k : Int, in64 k ∧ RepV w.heap (I0 w) G0 M0 (i64 k) v := by
  obtain ⟨k, rfl⟩ := WideShapes.okWide_int Tryd.underlying3 hv
  obtain ⟨fuel, hf⟩ := hd
  obtain ⟨n, h1, _, h2⟩ := DataW.trod_int Tryd.underlying3 hf
  simp [Value.cells] at h1
  subst h1
  exact ⟨_, wf_in64 h2, rfl⟩
theorem arg_u64 {r : Reach} {b0 : Nat} {v : Value} {d : DataW H} {ps : List MemPlace} (hv : Value.okWide Tryd.prog w r b0 23 v) (hd : DataW.Trod enc Tryd.prog w 0 spare held 23 v d ps) :
    ∃ k : Int, (0 ≤ k ∧ k ≤ 18446744073709551615) ∧ RepV w.heap (I0 w) G0 M0 (.pv (.int .u64 k)) v := by
  obtain ⟨k, rfl⟩ := WideShapes.okWide_int Tryd.underlying23 hv
  obtain ⟨fuel, hf⟩ := hd
  obtain ⟨n, h1, _, h2⟩ := DataW.trod_int Tryd.underlying23 hf
  simp [Value.cells] at h1
  subst h1
  simp [Lit.wf, IntKind.min, IntKind.max, IntKind.signed, IntKind.bits] at h2
  exact ⟨_, by omega, rfl⟩
end
end Go.Am
