/-
Part 5 of the road to the statement: Gf_declaration_Text, Gf_declaration_number, Gf_declaration_Parse, Gf_strings_Cut, Gf_internal_stringslite_Cut, Gf_internal_stringslite_Index, Gf_strings_TrimPrefix, Gf_strings_LastIndexByte, Gf_strings_Repeat, Gf_strconv_ParseUint, V7p, Aw07, Gf_ref07_Same, Gf_ref07_Check, Gf_law07_DeclarationSigns, PSigns, OpnA, AmErr.
-/
import Derived.Test.YthkahljlmncdiaaGreatDoorSg4
import Derived.ChangeSlices
import Derived.Handed
import Derived.LaidLaws
set_option linter.unusedVariables false
set_option linter.unusedSimpArgs false
namespace Go.Am
open Go Go.Proofs
set_option maxRecDepth 4000
set_option maxHeartbeats 4000000
open Int renaming ofNat_lt → Iqa, ofNat_le → Iqb, natCast_eq_zero → Iqc, natCast_pos → Iqd, cast_ofNat_Int → Iqe, natCast_zero → Iqf
open List renaming length_eq_zero_iff → Lqa, getElem?_cons_zero → Lqb, getElem?_cons_succ → Lqc, getElem?_nil → Lqd, length_cons → Lqe, length_nil → Lqf, nil_append → Lqg, cons_append → Lqh
open Nat renaming zero_add → Nqa
open Tru renaming thr_mk → Tqa, nodes_mk → Tqb, inner_mk → Tqc
open Go.Am renaming es_api_Declaration_cons → Eqa, es_api_Declaration_nil → Eqb, es_api_Evidence_cons → Eqc, es_api_Evidence_nil → Eqd, ints_cons → Eqe, ints_nil → Eqf, encTs_cons → Eqg, encTs_nil → Eqh, es_str_cons → Eqi, es_str_nil → Eqj, es_u64_cons → Eqk, es_u64_nil → Eql, es_u8_cons → Eqm, es_u8_nil → Eqn
noncomputable def B_declaration_Text (p0 : S_api_Declaration) : Option (List UInt8) :=
  kb (G_declaration_Plain p0) fun y1 =>
  cnd (decide (y1 = 0)) (
    kb (G_strconv_FormatUint p0.f3 16) fun y4 =>
    kb (G_declaration_Bytes p0) fun y6 =>
    kb (catK y6 ([32] : List UInt8)) fun S9 =>
    kb (G_strings_Repeat ([48] : List UInt8) (sub64 16 (y4.length : Int))) fun y10 =>
    kb (catK S9 y10) fun S13 =>
    kb (catK S13 y4) fun S15 =>
    some S15) (
    some ([] : List UInt8))
theorem sim_declaration_Text {p0 : S_api_Declaration} {r : (List UInt8)} (hB : B_declaration_Text p0 = some r) : R 12 [(.agg [(i64 p0.f0), (i64 p0.f1), (i64 p0.f2.thr), (.pv (.sl p0.f2.nodes.length (ints p0.f2.nodes))), (.pv (.sl p0.f2.inner.length (encTs p0.f2.inner))), (.pv (.int .u64 p0.f3))])] [] = some ((.pv (.str r)), [], []) := by
  rw [R_eq _ _ _ fn_declaration_Text]
  simp only [Code.fst, Code.snd, Tryz.f12, Option.getD_some]
  generalize hr3 : Code.region 3 _ _ = rr3
  generalize hr4 : Code.region 4 _ _ = rr4
  unfold B_declaration_Text at hB
  obtain ⟨y1, k2, hB⟩ := kb_inv hB
  replace k2 := run_declaration_Plain k2
  try simp only [Iqe, Iqf, Lqe, Lqf, Lqg, Lqh, Nqa, Nat.reduceAdd, Tqa, Tqb, Tqc, Eqe, Eqf, Eqg, Eqh, Eqa, Eqb, Eqc, Eqd, Eqi, Eqj, Eqk, Eql, Eqm, Eqn] at k2
  try dsimp only at hB
  rcases cnd_inv hB with ⟨c3, hB⟩ | ⟨c3, hB⟩
  · have pc3 := eq_true (of_decide_eq_true c3)
    obtain ⟨y4, k5, hB⟩ := kb_inv hB
    replace k5 := run_strconv_FormatUint k5
    try simp only [Iqe, Iqf, Lqe, Lqf, Lqg, Lqh, Nqa, Nat.reduceAdd, Tqa, Tqb, Tqc, Eqe, Eqf, Eqg, Eqh, Eqa, Eqb, Eqc, Eqd, Eqi, Eqj, Eqk, Eql, Eqm, Eqn] at k5
    try dsimp only at hB
    obtain ⟨y6, k7, hB⟩ := kb_inv hB
    replace k7 := run_declaration_Bytes k7
    try simp only [Iqe, Iqf, Lqe, Lqf, Lqg, Lqh, Nqa, Nat.reduceAdd, Tqa, Tqb, Tqc, Eqe, Eqf, Eqg, Eqh, Eqa, Eqb, Eqc, Eqd, Eqi, Eqj, Eqk, Eql, Eqm, Eqn] at k7
    try dsimp only at hB
    obtain ⟨S9, n8, hB⟩ := kb_inv hB
    obtain ⟨n8a, n8b⟩ := catK_inv n8
    try simp only [Lqe, Lqf, Nqa, Nat.reduceAdd] at n8a
    try simp only [Lqh, Lqg] at n8b
    try dsimp only at hB
    obtain ⟨y10, k11, hB⟩ := kb_inv hB
    replace k11 := run_strings_Repeat k11
    try simp only [Iqe, Iqf, Lqe, Lqf, Lqg, Lqh, Nqa, Nat.reduceAdd, Tqa, Tqb, Tqc, Eqe, Eqf, Eqg, Eqh, Eqa, Eqb, Eqc, Eqd, Eqi, Eqj, Eqk, Eql, Eqm, Eqn] at k11
    try dsimp only at hB
    obtain ⟨S13, n12, hB⟩ := kb_inv hB
    obtain ⟨n12a, n12b⟩ := catK_inv n12
    try dsimp only at hB
    obtain ⟨S15, n14, hB⟩ := kb_inv hB
    obtain ⟨n14a, n14b⟩ := catK_inv n14
    try dsimp only at hB
    obtain rfl := Option.some.inj hB
    subst hr3
    subst hr4
    simp -implicitDefEqProofs [-getElem?_pos, -Iqa, -Iqb, -Iqc, -Iqd, -Lqa, Lqb, Lqc, Lqd, k2, c3, pc3, k5, k7, n8a, n8b, k11, n12a, n12b, n14a, n14b]
  · have pc3 := eq_false (of_decide_eq_false c3)
    obtain rfl := Option.some.inj hB
    simp -implicitDefEqProofs [-getElem?_pos, -Iqa, -Iqb, -Iqc, -Iqd, -Lqa, Lqb, Lqc, Lqd, k2, c3, pc3]
theorem g_declaration_Text {p0 : S_api_Declaration} {r : (List UInt8)} (hB : B_declaration_Text p0 = some r) : G_declaration_Text p0 = some r := dec_of (fun a b h => by rcases a with a0_; rcases b with b0_; simp at h; simp [*]) (sim_declaration_Text hB)
end Go.Am
namespace Go.Am
open Go Go.Proofs
set_option maxRecDepth 4000
set_option maxHeartbeats 4000000
open Int renaming ofNat_lt → Iqa, ofNat_le → Iqb, natCast_eq_zero → Iqc, natCast_pos → Iqd, cast_ofNat_Int → Iqe, natCast_zero → Iqf
open List renaming length_eq_zero_iff → Lqa, getElem?_cons_zero → Lqb, getElem?_cons_succ → Lqc, getElem?_nil → Lqd, length_cons → Lqe, length_nil → Lqf, nil_append → Lqg, cons_append → Lqh
open Nat renaming zero_add → Nqa
open Tru renaming thr_mk → Tqa, nodes_mk → Tqb, inner_mk → Tqc
open Go.Am renaming es_api_Declaration_cons → Eqa, es_api_Declaration_nil → Eqb, es_api_Evidence_cons → Eqc, es_api_Evidence_nil → Eqd, ints_cons → Eqe, ints_nil → Eqf, encTs_cons → Eqg, encTs_nil → Eqh, es_str_cons → Eqi, es_str_nil → Eqj, es_u64_cons → Eqk, es_u64_nil → Eql, es_u8_cons → Eqm, es_u8_nil → Eqn
noncomputable def B_declaration_number (p0 : (List UInt8)) : Option (Int × (List UInt8)) :=
  kb (G_strings_Cut p0 ([32] : List UInt8)) fun y1 =>
  kb (G_strconv_Atoi y1.1) fun y3 =>
  cnd y3.2 (
    some (y3.1, y1.2.1)) (
    some ((-1), ([] : List UInt8)))
theorem sim_declaration_number {p0 : (List UInt8)} {r : (Int × (List UInt8))} (hB : B_declaration_number p0 = some r) : R 42 [(.pv (.str p0))] [] = some (.tup [(i64 r.1), (.pv (.str r.2))], [], []) := by
  rw [R_eq _ _ _ fn_declaration_number]
  simp only [Code.fst, Code.snd, Tryz.f42, Option.getD_some]
  generalize hr1 : Code.region 1 _ _ = rr1
  generalize hr2 : Code.region 2 _ _ = rr2
  generalize hr5 : Code.region 5 _ _ = rr5
  unfold B_declaration_number at hB
  obtain ⟨y1, k2, hB⟩ := kb_inv hB
  replace k2 := run_strings_Cut k2
  try simp only [Iqe, Iqf, Lqe, Lqf, Lqg, Lqh, Nqa, Nat.reduceAdd, Tqa, Tqb, Tqc, Eqe, Eqf, Eqg, Eqh, Eqa, Eqb, Eqc, Eqd, Eqi, Eqj, Eqk, Eql, Eqm, Eqn] at k2
  try dsimp only at hB
  obtain ⟨y3, k4, hB⟩ := kb_inv hB
  replace k4 := run_strconv_Atoi k4
  try simp only [Iqe, Iqf, Lqe, Lqf, Lqg, Lqh, Nqa, Nat.reduceAdd, Tqa, Tqb, Tqc, Eqe, Eqf, Eqg, Eqh, Eqa, Eqb, Eqc, Eqd, Eqi, Eqj, Eqk, Eql, Eqm, Eqn] at k4
  try dsimp only at hB
  rcases cnd_inv hB with ⟨c5, hB⟩ | ⟨c5, hB⟩
  · obtain rfl := Option.some.inj hB
    subst hr1
    subst hr2
    subst hr5
    simp -implicitDefEqProofs [-getElem?_pos, -Iqa, -Iqb, -Iqc, -Iqd, -Lqa, Lqb, Lqc, Lqd, k2, k4, c5]
  · obtain rfl := Option.some.inj hB
    subst hr1
    subst hr2
    simp -implicitDefEqProofs [-getElem?_pos, -Iqa, -Iqb, -Iqc, -Iqd, -Lqa, Lqb, Lqc, Lqd, k2, k4, c5]
theorem g_declaration_number {p0 : (List UInt8)} {r : (Int × (List UInt8))} (hB : B_declaration_number p0 = some r) : G_declaration_number p0 = some r := dec_of (fun a b h => by rcases a with ⟨a0_, a1_⟩; rcases b with ⟨b0_, b1_⟩; simp at h; simp [*]) (sim_declaration_number hB)
end Go.Am
namespace Go.Am
open Go Go.Proofs
set_option maxRecDepth 4000
set_option maxHeartbeats 4000000
open Int renaming ofNat_lt → Iqa, ofNat_le → Iqb, natCast_eq_zero → Iqc, natCast_pos → Iqd, cast_ofNat_Int → Iqe, natCast_zero → Iqf
open List renaming length_eq_zero_iff → Lqa, getElem?_cons_zero → Lqb, getElem?_cons_succ → Lqc, getElem?_nil → Lqd, length_cons → Lqe, length_nil → Lqf, nil_append → Lqg, cons_append → Lqh
open Nat renaming zero_add → Nqa
open Tru renaming thr_mk → Tqa, nodes_mk → Tqb, inner_mk → Tqc
open Go.Am renaming es_api_Declaration_cons → Eqa, es_api_Declaration_nil → Eqb, es_api_Evidence_cons → Eqc, es_api_Evidence_nil → Eqd, ints_cons → Eqe, ints_nil → Eqf, encTs_cons → Eqg, encTs_nil → Eqh, es_str_cons → Eqi, es_str_nil → Eqj, es_u64_cons → Eqk, es_u64_nil → Eql, es_u8_cons → Eqm, es_u8_nil → Eqn
noncomputable def B_declaration_Parse_0 (y4 : (Int × (List UInt8))) (y6 : (Int × (List UInt8))) (y19 : (Tru × Int × Int)) (y14 : (Int × Bool)) (p0 : (List UInt8)) : Option Bool :=
  cnd (p0 == ([] : List UInt8)) (
    some true) (
    kb (G_declaration_Text (S_api_Declaration.mk y4.1 y6.1 y19.1 y14.1)) fun y22 =>
    some (!(y22 == p0)))
def J_declaration_Parse_0 (y4 : (Int × (List UInt8))) (y6 : (Int × (List UInt8))) (y19 : (Tru × Int × Int)) (y14 : (Int × Bool)) (p0 : (List UInt8)) (q : St) : Prop := q (.t 0) = (.pv (.str p0)) ∧ (∃ (g : Nat), q (.t 2) = .ptr (.site 0 0 0) g 0 ∧ q (.i (.site 0 0 0)) = .box g [(i64 0), (i64 0), (i64 0), .nilsl, .nilsl, (.pv (.int .u64 0))]) ∧ (∃ (g : Nat), q (.t 4) = .ptr (.site 3 0 0) g 0 ∧ q (.i (.site 3 0 0)) = .box g [(i64 y4.1), (i64 y6.1), (i64 y19.1.thr), (.pv (.sl y19.1.nodes.length (ints y19.1.nodes))), (.pv (.sl y19.1.inner.length (encTs y19.1.inner))), (.pv (.int .u64 y14.1))])
def Q_declaration_Parse_0 (y4 : (Int × (List UInt8))) (y6 : (Int × (List UInt8))) (y19 : (Tru × Int × Int)) (y14 : (Int × Bool)) (p0 : (List UInt8)) (o59_0 : Bool) (q : St) : Prop := q (.t 59) = (bl o59_0) ∧ (∃ (g : Nat), q (.t 2) = .ptr (.site 0 0 0) g 0 ∧ q (.i (.site 0 0 0)) = .box g [(i64 0), (i64 0), (i64 0), .nilsl, .nilsl, (.pv (.int .u64 0))]) ∧ (∃ (g : Nat), q (.t 4) = .ptr (.site 3 0 0) g 0 ∧ q (.i (.site 3 0 0)) = .box g [(i64 y4.1), (i64 y6.1), (i64 y19.1.thr), (.pv (.sl y19.1.nodes.length (ints y19.1.nodes))), (.pv (.sl y19.1.inner.length (encTs y19.1.inner))), (.pv (.int .u64 y14.1))])
theorem P_declaration_Parse_0 {y4 : (Int × (List UInt8))} {y6 : (Int × (List UInt8))} {y19 : (Tru × Int × Int)} {y14 : (Int × Bool)} {p0 : (List UInt8)} {cc : Code} (hcc : cc = (Code.fst (Code.fst (Code.snd (Code.snd (Code.snd (Code.snd (Code.snd (Code.snd (Code.snd (Code.snd (Code.snd (Code.snd (Code.snd ((Tryz.f11.body).getD .skip))))))))))))))) {s : St} {z : Option (Ex × St)} (hz : C Tryz.prog cf cc s = z) {r : Bool} (hI : J_declaration_Parse_0 y4 y6 y19 y14 p0 s) (hB : B_declaration_Parse_0 y4 y6 y19 y14 p0 = some r) : Res z (postG (fun a q => Q_declaration_Parse_0 y4 y6 y19 y14 p0 a q) r) := by
  subst hcc
  subst hz
  simp only [J_declaration_Parse_0] at hI
  obtain ⟨q1, ⟨g3, q2, q3⟩, ⟨g5, q4, q5⟩⟩ := hI
  simp only [Code.fst, Code.snd, Tryz.f11, Option.getD_some]
  unfold B_declaration_Parse_0 at hB
  rcases cnd_inv hB with ⟨c21, hB⟩ | ⟨c21, hB⟩
  · obtain rfl := Option.some.inj hB
    try simp -implicitDefEqProofs [-getElem?_pos, -Iqa, -Iqb, -Iqc, -Iqd, -Lqa, Lqb, Lqc, Lqd, q1, q2, q3, q4, q5, c21]
    refine Res.g ?_
    simp -implicitDefEqProofs [-getElem?_pos, -Iqa, -Iqb, -Iqc, -Iqd, -Lqa, Lqb, Lqc, Lqd, and_assoc, Q_declaration_Parse_0, ownAt, q1, q2, q3, q4, q5, c21]
  · obtain ⟨y22, k23, hB⟩ := kb_inv hB
    replace k23 := run_declaration_Text k23
    try simp only [Iqe, Iqf, Lqe, Lqf, Lqg, Lqh, Nqa, Nat.reduceAdd, Tqa, Tqb, Tqc, Eqe, Eqf, Eqg, Eqh, Eqa, Eqb, Eqc, Eqd, Eqi, Eqj, Eqk, Eql, Eqm, Eqn] at k23
    try dsimp only at hB
    obtain rfl := Option.some.inj hB
    try simp -implicitDefEqProofs [-getElem?_pos, -Iqa, -Iqb, -Iqc, -Iqd, -Lqa, Lqb, Lqc, Lqd, q1, q2, q3, q4, q5, c21, k23]
    refine Res.g ?_
    simp -implicitDefEqProofs [-getElem?_pos, -Iqa, -Iqb, -Iqc, -Iqd, -Lqa, Lqb, Lqc, Lqd, and_assoc, Q_declaration_Parse_0, ownAt, q1, q2, q3, q4, q5, c21, k23]
noncomputable def B_declaration_Parse (p0 : (List UInt8)) : Option (S_api_Declaration × Int) :=
  cnd (decide (6000 < (p0.length : Int))) (
    some ((S_api_Declaration.mk 0 0 (Tru.mk 0 ([] : (List Int)) ([] : (List Tru))) 0), 3)) (
    kb (G_strings_TrimPrefix p0 ([100, 32] : List UInt8)) fun y2 =>
    kb (G_declaration_number y2) fun y4 =>
    kb (G_declaration_number y4.2) fun y6 =>
    kb (G_strings_LastIndexByte y6.2 32) fun y8 =>
    kb (partK y6.2 (if y8 < 0 then 0 else y8) (y6.2.length : Int)) fun L10 =>
    kb (G_strings_TrimPrefix L10 ([32] : List UInt8)) fun y12 =>
    kb (G_strconv_ParseUint y12 16 64) fun y14 =>
    cnd y14.2 (
      kb (partK y6.2 0 (if y8 < 0 then 0 else y8)) fun L17 =>
      kb (G_notation_Parse L17) fun y19 =>
      kb (B_declaration_Parse_0 y4 y6 y19 y14 p0) fun z24 =>
      cnd z24 (
        some ((S_api_Declaration.mk 0 0 (Tru.mk 0 ([] : (List Int)) ([] : (List Tru))) 0), 2)) (
        some ((S_api_Declaration.mk y4.1 y6.1 y19.1 y14.1), 0))) (
      some ((S_api_Declaration.mk 0 0 (Tru.mk 0 ([] : (List Int)) ([] : (List Tru))) 0), 2)))
theorem sim_declaration_Parse {p0 : (List UInt8)} {r : (S_api_Declaration × Int)} (hB : B_declaration_Parse p0 = some r) : R 11 [(.pv (.str p0))] [] = some (.tup [(.agg [(i64 r.1.f0), (i64 r.1.f1), (i64 r.1.f2.thr), (.pv (.sl r.1.f2.nodes.length (ints r.1.f2.nodes))), (.pv (.sl r.1.f2.inner.length (encTs r.1.f2.inner))), (.pv (.int .u64 r.1.f3))]), (i64 r.2)], [], []) := by
  rw [R_eq _ _ _ fn_declaration_Parse]
  simp only [Code.fst, Code.snd, Tryz.f11, Option.getD_some]
  generalize hc0 : Code.region 13 _ _ = cc0
  generalize hr5 : Code.region 5 _ _ = rr5
  generalize hr6 : Code.region 6 _ _ = rr6
  generalize hr7 : Code.region 7 _ _ = rr7
  generalize hr8 : Code.region 8 _ _ = rr8
  generalize hr11 : Code.region 11 _ _ = rr11
  unfold B_declaration_Parse at hB
  rcases cnd_inv hB with ⟨c1, hB⟩ | ⟨c1, hB⟩
  · have pc1 := eq_true (of_decide_eq_true c1)
    have nc1 := c1
    try simp only [Lqf, Lqe, Iqe, Iqf, Nqa, Nat.reduceAdd, Int.reduceLT, Int.reduceLE, Int.reduceEq, eq_self, decide_true, decide_false, Bool.true_eq_false, Bool.false_eq_true] at nc1
    all_goals
      obtain rfl := Option.some.inj hB
      simp -implicitDefEqProofs [-getElem?_pos, -Iqa, -Iqb, -Iqc, -Iqd, -Lqa, Lqb, Lqc, Lqd, c1, pc1, nc1]
  · have pc1 := eq_false (of_decide_eq_false c1)
    have nc1 := c1
    try simp only [Lqf, Lqe, Iqe, Iqf, Nqa, Nat.reduceAdd, Int.reduceLT, Int.reduceLE, Int.reduceEq, eq_self, decide_true, decide_false, Bool.true_eq_false, Bool.false_eq_true] at nc1
    all_goals
      obtain ⟨y2, k3, hB⟩ := kb_inv hB
      replace k3 := run_strings_TrimPrefix k3
      try simp only [Iqe, Iqf, Lqe, Lqf, Lqg, Lqh, Nqa, Nat.reduceAdd, Tqa, Tqb, Tqc, Eqe, Eqf, Eqg, Eqh, Eqa, Eqb, Eqc, Eqd, Eqi, Eqj, Eqk, Eql, Eqm, Eqn] at k3
      try dsimp only at hB
      obtain ⟨y4, k5, hB⟩ := kb_inv hB
      replace k5 := run_declaration_number k5
      try simp only [Iqe, Iqf, Lqe, Lqf, Lqg, Lqh, Nqa, Nat.reduceAdd, Tqa, Tqb, Tqc, Eqe, Eqf, Eqg, Eqh, Eqa, Eqb, Eqc, Eqd, Eqi, Eqj, Eqk, Eql, Eqm, Eqn] at k5
      try dsimp only at hB
      obtain ⟨y6, k7, hB⟩ := kb_inv hB
      replace k7 := run_declaration_number k7
      try simp only [Iqe, Iqf, Lqe, Lqf, Lqg, Lqh, Nqa, Nat.reduceAdd, Tqa, Tqb, Tqc, Eqe, Eqf, Eqg, Eqh, Eqa, Eqb, Eqc, Eqd, Eqi, Eqj, Eqk, Eql, Eqm, Eqn] at k7
      try dsimp only at hB
      obtain ⟨y8, k9, hB⟩ := kb_inv hB
      replace k9 := run_strings_LastIndexByte k9
      try simp only [Iqe, Iqf, Lqe, Lqf, Lqg, Lqh, Nqa, Nat.reduceAdd, Tqa, Tqb, Tqc, Eqe, Eqf, Eqg, Eqh, Eqa, Eqb, Eqc, Eqd, Eqi, Eqj, Eqk, Eql, Eqm, Eqn] at k9
      try dsimp only at hB
      obtain ⟨L10, sq11, hB⟩ := kb_inv hB
      obtain ⟨⟨sq11a, sq11b, sq11c⟩, sq11z, sq11d⟩ := partK_inv sq11
      obtain ⟨sq11e, sq11f⟩ := partK_l_str sq11
      try simp only [Int.toNat_natCast, Int.reduceToNat] at sq11e
      try simp only [Int.toNat_natCast, Int.reduceToNat] at sq11f
      try dsimp only at hB
      obtain ⟨y12, k13, hB⟩ := kb_inv hB
      replace k13 := run_strings_TrimPrefix k13
      try simp only [Iqe, Iqf, Lqe, Lqf, Lqg, Lqh, Nqa, Nat.reduceAdd, Tqa, Tqb, Tqc, Eqe, Eqf, Eqg, Eqh, Eqa, Eqb, Eqc, Eqd, Eqi, Eqj, Eqk, Eql, Eqm, Eqn] at k13
      try dsimp only at hB
      obtain ⟨y14, k15, hB⟩ := kb_inv hB
      replace k15 := run_strconv_ParseUint k15
      try simp only [Iqe, Iqf, Lqe, Lqf, Lqg, Lqh, Nqa, Nat.reduceAdd, Tqa, Tqb, Tqc, Eqe, Eqf, Eqg, Eqh, Eqa, Eqb, Eqc, Eqd, Eqi, Eqj, Eqk, Eql, Eqm, Eqn] at k15
      try dsimp only at hB
      rcases cnd_inv hB with ⟨c16, hB⟩ | ⟨c16, hB⟩
      · obtain ⟨L17, sq18, hB⟩ := kb_inv hB
        obtain ⟨⟨sq18a, sq18b, sq18c⟩, sq18z, sq18d⟩ := partK_inv sq18
        obtain ⟨sq18e, sq18f⟩ := partK_h_str sq18
        try simp only [Int.toNat_natCast, Int.reduceToNat] at sq18e
        try simp only [Int.toNat_natCast, Int.reduceToNat] at sq18f
        try dsimp only at hB
        obtain ⟨y19, k20, hB⟩ := kb_inv hB
        replace k20 := run_notation_Parse k20
        try simp only [Iqe, Iqf, Lqe, Lqf, Lqg, Lqh, Nqa, Nat.reduceAdd, Tqa, Tqb, Tqc, Eqe, Eqf, Eqg, Eqh, Eqa, Eqb, Eqc, Eqd, Eqi, Eqj, Eqk, Eql, Eqm, Eqn, c16] at k20
        try dsimp only at hB
        subst hr5
        subst hr6
        subst hr7
        subst hr8
        subst hr11
        try simp -implicitDefEqProofs [-getElem?_pos, -Iqa, -Iqb, -Iqc, -Iqd, -Lqa, Lqb, Lqc, Lqd, c1, pc1, nc1, k3, k5, k7, k9, sq11a, sq11e, sq11f, k13, k15, c16, sq18a, sq18e, sq18f, k20]
        generalize hz0 : C Tryz.prog cf cc0 _ = z0
        obtain ⟨z24, hB1, hB⟩ := kb_inv hB
        have hJ := P_declaration_Parse_0 (hc0.symm.trans (by kernel_rfl)) hz0 (by simp -implicitDefEqProofs [-getElem?_pos, -Iqa, -Iqb, -Iqc, -Iqd, -Lqa, Lqb, Lqc, Lqd, and_assoc, J_declaration_Parse_0, ownAt, c1, pc1, nc1, k3, k5, k7, k9, sq11a, sq11e, sq11f, k13, k15, c16, sq18a, sq18e, sq18f, k20]) hB1
        obtain ⟨e0, s0, rfl, hq⟩ := hJ.open
        clear hB1
        obtain ⟨rfl, hq⟩ := hq
        simp only [Q_declaration_Parse_0] at hq
        obtain ⟨q24_1, ⟨g24_3, q24_2, q24_3⟩, ⟨g24_5, q24_4, q24_5⟩⟩ := hq
        rcases cnd_inv hB with ⟨c25, hB⟩ | ⟨c25, hB⟩
        · obtain rfl := Option.some.inj hB
          simp -implicitDefEqProofs [-getElem?_pos, -Iqa, -Iqb, -Iqc, -Iqd, -Lqa, Lqb, Lqc, Lqd, q24_1, q24_2, q24_3, q24_4, q24_5, c1, pc1, nc1, k3, k5, k7, k9, sq11a, sq11e, sq11f, k13, k15, c16, sq18a, sq18e, sq18f, k20, c25]
        · obtain rfl := Option.some.inj hB
          simp -implicitDefEqProofs [-getElem?_pos, -Iqa, -Iqb, -Iqc, -Iqd, -Lqa, Lqb, Lqc, Lqd, q24_1, q24_2, q24_3, q24_4, q24_5, c1, pc1, nc1, k3, k5, k7, k9, sq11a, sq11e, sq11f, k13, k15, c16, sq18a, sq18e, sq18f, k20, c25]
      · obtain rfl := Option.some.inj hB
        subst hr5
        subst hr6
        subst hr7
        subst hr8
        simp -implicitDefEqProofs [-getElem?_pos, -Iqa, -Iqb, -Iqc, -Iqd, -Lqa, Lqb, Lqc, Lqd, c1, pc1, nc1, k3, k5, k7, k9, sq11a, sq11e, sq11f, k13, k15, c16]
theorem g_declaration_Parse {p0 : (List UInt8)} {r : (S_api_Declaration × Int)} (hB : B_declaration_Parse p0 = some r) : G_declaration_Parse p0 = some r := dec_of (fun a b h => by rcases a with ⟨⟨a0_0, a0_1, ⟨a0_20, a0_21, a0_22⟩, a0_3⟩, a1_⟩; rcases b with ⟨⟨b0_0, b0_1, ⟨b0_20, b0_21, b0_22⟩, b0_3⟩, b1_⟩; simp at h; simp [*]) (sim_declaration_Parse hB)
end Go.Am
namespace Go.Am
open Go Go.Proofs
set_option maxRecDepth 4000
set_option maxHeartbeats 4000000
open Int renaming ofNat_lt → Iqa, ofNat_le → Iqb, natCast_eq_zero → Iqc, natCast_pos → Iqd, cast_ofNat_Int → Iqe, natCast_zero → Iqf
open List renaming length_eq_zero_iff → Lqa, getElem?_cons_zero → Lqb, getElem?_cons_succ → Lqc, getElem?_nil → Lqd, length_cons → Lqe, length_nil → Lqf, nil_append → Lqg, cons_append → Lqh
open Nat renaming zero_add → Nqa
open Tru renaming thr_mk → Tqa, nodes_mk → Tqb, inner_mk → Tqc
open Go.Am renaming es_api_Declaration_cons → Eqa, es_api_Declaration_nil → Eqb, es_api_Evidence_cons → Eqc, es_api_Evidence_nil → Eqd, ints_cons → Eqe, ints_nil → Eqf, encTs_cons → Eqg, encTs_nil → Eqh, es_str_cons → Eqi, es_str_nil → Eqj, es_u64_cons → Eqk, es_u64_nil → Eql, es_u8_cons → Eqm, es_u8_nil → Eqn
noncomputable def B_strings_Cut (p0 : (List UInt8)) (p1 : (List UInt8)) : Option ((List UInt8) × (List UInt8) × Bool) :=
  kb (G_internal_stringslite_Cut p0 p1) fun y1 =>
  some (y1.1, y1.2.1, y1.2.2)
theorem sim_strings_Cut {p0 : (List UInt8)} {p1 : (List UInt8)} {r : ((List UInt8) × (List UInt8) × Bool)} (hB : B_strings_Cut p0 p1 = some r) : R 68 [(.pv (.str p0)), (.pv (.str p1))] [] = some (.tup [(.pv (.str r.1)), (.pv (.str r.2.1)), (bl r.2.2)], [], []) := by
  rw [R_eq _ _ _ fn_strings_Cut]
  simp only [Code.fst, Code.snd, Tryz.f68, Option.getD_some]
  generalize hr1 : Code.region 1 _ _ = rr1
  unfold B_strings_Cut at hB
  obtain ⟨y1, k2, hB⟩ := kb_inv hB
  replace k2 := run_internal_stringslite_Cut k2
  try simp only [Iqe, Iqf, Lqe, Lqf, Lqg, Lqh, Nqa, Nat.reduceAdd, Tqa, Tqb, Tqc, Eqe, Eqf, Eqg, Eqh, Eqa, Eqb, Eqc, Eqd, Eqi, Eqj, Eqk, Eql, Eqm, Eqn] at k2
  try dsimp only at hB
  obtain rfl := Option.some.inj hB
  subst hr1
  simp -implicitDefEqProofs [-getElem?_pos, -Iqa, -Iqb, -Iqc, -Iqd, -Lqa, Lqb, Lqc, Lqd, k2]
theorem g_strings_Cut {p0 : (List UInt8)} {p1 : (List UInt8)} {r : ((List UInt8) × (List UInt8) × Bool)} (hB : B_strings_Cut p0 p1 = some r) : G_strings_Cut p0 p1 = some r := dec_of (fun a b h => by rcases a with ⟨a0_, a1_, a2_⟩; rcases b with ⟨b0_, b1_, b2_⟩; simp at h; simp [*]) (sim_strings_Cut hB)
end Go.Am
namespace Go.Am
open Go Go.Proofs
set_option maxRecDepth 4000
set_option maxHeartbeats 4000000
open Int renaming ofNat_lt → Iqa, ofNat_le → Iqb, natCast_eq_zero → Iqc, natCast_pos → Iqd, cast_ofNat_Int → Iqe, natCast_zero → Iqf
open List renaming length_eq_zero_iff → Lqa, getElem?_cons_zero → Lqb, getElem?_cons_succ → Lqc, getElem?_nil → Lqd, length_cons → Lqe, length_nil → Lqf, nil_append → Lqg, cons_append → Lqh
open Nat renaming zero_add → Nqa
open Tru renaming thr_mk → Tqa, nodes_mk → Tqb, inner_mk → Tqc
open Go.Am renaming es_api_Declaration_cons → Eqa, es_api_Declaration_nil → Eqb, es_api_Evidence_cons → Eqc, es_api_Evidence_nil → Eqd, ints_cons → Eqe, ints_nil → Eqf, encTs_cons → Eqg, encTs_nil → Eqh, es_str_cons → Eqi, es_str_nil → Eqj, es_u64_cons → Eqk, es_u64_nil → Eql, es_u8_cons → Eqm, es_u8_nil → Eqn
noncomputable def B_internal_stringslite_Cut (p0 : (List UInt8)) (p1 : (List UInt8)) : Option ((List UInt8) × (List UInt8) × Bool) :=
  kb (G_internal_stringslite_Index p0 p1) fun y1 =>
  cnd (decide (0 ≤ y1)) (
    kb (partK p0 0 y1) fun L4 =>
    kb (partK p0 (add64 y1 (p1.length : Int)) (p0.length : Int)) fun L6 =>
    some (L4, L6, true)) (
    some (p0, ([] : List UInt8), false))
theorem sim_internal_stringslite_Cut {p0 : (List UInt8)} {p1 : (List UInt8)} {r : ((List UInt8) × (List UInt8) × Bool)} (hB : B_internal_stringslite_Cut p0 p1 = some r) : R 96 [(.pv (.str p0)), (.pv (.str p1))] [] = some (.tup [(.pv (.str r.1)), (.pv (.str r.2.1)), (bl r.2.2)], [], []) := by
  rw [R_eq _ _ _ fn_internal_stringslite_Cut]
  simp only [Code.fst, Code.snd, Tryz.f96, Option.getD_some]
  generalize hr1 : Code.region 1 _ _ = rr1
  generalize hr3 : Code.region 3 _ _ = rr3
  generalize hr4 : Code.region 4 _ _ = rr4
  unfold B_internal_stringslite_Cut at hB
  obtain ⟨y1, k2, hB⟩ := kb_inv hB
  replace k2 := run_internal_stringslite_Index k2
  try simp only [Iqe, Iqf, Lqe, Lqf, Lqg, Lqh, Nqa, Nat.reduceAdd, Tqa, Tqb, Tqc, Eqe, Eqf, Eqg, Eqh, Eqa, Eqb, Eqc, Eqd, Eqi, Eqj, Eqk, Eql, Eqm, Eqn] at k2
  try dsimp only at hB
  rcases cnd_inv hB with ⟨c3, hB⟩ | ⟨c3, hB⟩
  · have pc3 := eq_true (of_decide_eq_true c3)
    obtain ⟨L4, sq5, hB⟩ := kb_inv hB
    obtain ⟨⟨sq5a, sq5b, sq5c⟩, sq5z, sq5d⟩ := partK_inv sq5
    obtain ⟨sq5e, sq5f⟩ := partK_h_str sq5
    try simp only [Int.toNat_natCast, Int.reduceToNat] at sq5e
    try simp only [Int.toNat_natCast, Int.reduceToNat] at sq5f
    try dsimp only at hB
    obtain ⟨L6, sq7, hB⟩ := kb_inv hB
    obtain ⟨⟨sq7a, sq7b, sq7c⟩, sq7z, sq7d⟩ := partK_inv sq7
    obtain ⟨sq7e, sq7f⟩ := partK_l_str sq7
    try simp only [Int.toNat_natCast, Int.reduceToNat] at sq7e
    try simp only [Int.toNat_natCast, Int.reduceToNat] at sq7f
    try dsimp only at hB
    obtain rfl := Option.some.inj hB
    subst hr1
    subst hr3
    simp -implicitDefEqProofs [-getElem?_pos, -Iqa, -Iqb, -Iqc, -Iqd, -Lqa, Lqb, Lqc, Lqd, k2, c3, pc3, sq5a, sq5e, sq5f, sq7a, sq7e, sq7f]
    rw [drawK_ok _ _ _ (by kernel_rfl)]
    simp -implicitDefEqProofs [-getElem?_pos, -Iqa, -Iqb, -Iqc, -Iqd, -Lqa, Lqb, Lqc, Lqd, k2, c3, pc3, sq5a, sq5e, sq5f, sq7a, sq7e, sq7f]
  · have pc3 := eq_false (of_decide_eq_false c3)
    obtain rfl := Option.some.inj hB
    subst hr1
    subst hr4
    simp -implicitDefEqProofs [-getElem?_pos, -Iqa, -Iqb, -Iqc, -Iqd, -Lqa, Lqb, Lqc, Lqd, k2, c3, pc3]
theorem g_internal_stringslite_Cut {p0 : (List UInt8)} {p1 : (List UInt8)} {r : ((List UInt8) × (List UInt8) × Bool)} (hB : B_internal_stringslite_Cut p0 p1 = some r) : G_internal_stringslite_Cut p0 p1 = some r := dec_of (fun a b h => by rcases a with ⟨a0_, a1_, a2_⟩; rcases b with ⟨b0_, b1_, b2_⟩; simp at h; simp [*]) (sim_internal_stringslite_Cut hB)
end Go.Am
namespace Go.Am
open Go Go.Proofs
set_option maxRecDepth 4000
set_option maxHeartbeats 4000000
noncomputable def B_internal_stringslite_Index (p0 : (List UInt8)) (p1 : (List UInt8)) : Option Int := indexOneK p0 p1
theorem sim_internal_stringslite_Index {p0 : (List UInt8)} {p1 : (List UInt8)} {r : Int} (hB : B_internal_stringslite_Index p0 p1 = some r) : R 123 [(.pv (.str p0)), (.pv (.str p1))] [] = some ((i64 r), [], []) := by
  show W Tryz.prog cf _ _ _ = _
  rw [W_ext (sm := indexOneSm) rfl]
  unfold B_internal_stringslite_Index at hB
  simp [indexOneSm, es_strs, unStrs_strsP, strsP_len, hB]
theorem g_internal_stringslite_Index {p0 : (List UInt8)} {p1 : (List UInt8)} {r : Int} (hB : B_internal_stringslite_Index p0 p1 = some r) : G_internal_stringslite_Index p0 p1 = some r := dec_of (fun a b h => by rcases a with a0_; rcases b with b0_; simp at h; simp [*]) (sim_internal_stringslite_Index hB)
end Go.Am
namespace Go.Am
open Go Go.Proofs
set_option maxRecDepth 4000
set_option maxHeartbeats 4000000
noncomputable def B_strings_TrimPrefix (p0 : (List UInt8)) (p1 : (List UInt8)) : Option (List UInt8) := trimPrefixK p0 p1
theorem sim_strings_TrimPrefix {p0 : (List UInt8)} {p1 : (List UInt8)} {r : (List UInt8)} (hB : B_strings_TrimPrefix p0 p1 = some r) : R 41 [(.pv (.str p0)), (.pv (.str p1))] [] = some ((.pv (.str r)), [], []) := by
  show W Tryz.prog cf _ _ _ = _
  rw [W_ext (sm := trimPrefixSm) rfl]
  unfold B_strings_TrimPrefix at hB
  simp [trimPrefixSm, es_strs, unStrs_strsP, strsP_len, hB]
theorem g_strings_TrimPrefix {p0 : (List UInt8)} {p1 : (List UInt8)} {r : (List UInt8)} (hB : B_strings_TrimPrefix p0 p1 = some r) : G_strings_TrimPrefix p0 p1 = some r := dec_of (fun a b h => by rcases a with a0_; rcases b with b0_; simp at h; simp [*]) (sim_strings_TrimPrefix hB)
end Go.Am
namespace Go.Am
open Go Go.Proofs
set_option maxRecDepth 4000
set_option maxHeartbeats 4000000
noncomputable def B_strings_LastIndexByte (p0 : (List UInt8)) (p1 : Int) : Option Int := lastIndexByteK p0 p1
theorem sim_strings_LastIndexByte {p0 : (List UInt8)} {p1 : Int} {r : Int} (hB : B_strings_LastIndexByte p0 p1 = some r) : R 43 [(.pv (.str p0)), (.pv (.int .u8 p1))] [] = some ((i64 r), [], []) := by
  show W Tryz.prog cf _ _ _ = _
  rw [W_ext (sm := lastIndexByteSm) rfl]
  unfold B_strings_LastIndexByte at hB
  simp [lastIndexByteSm, es_strs, unStrs_strsP, strsP_len, hB]
theorem g_strings_LastIndexByte {p0 : (List UInt8)} {p1 : Int} {r : Int} (hB : B_strings_LastIndexByte p0 p1 = some r) : G_strings_LastIndexByte p0 p1 = some r := dec_of (fun a b h => by rcases a with a0_; rcases b with b0_; simp at h; simp [*]) (sim_strings_LastIndexByte hB)
end Go.Am
namespace Go.Am
open Go Go.Proofs
set_option maxRecDepth 4000
set_option maxHeartbeats 4000000
noncomputable def B_strings_Repeat (p0 : (List UInt8)) (p1 : Int) : Option (List UInt8) := repeatK p0 p1
theorem sim_strings_Repeat {p0 : (List UInt8)} {p1 : Int} {r : (List UInt8)} (hB : B_strings_Repeat p0 p1 = some r) : R 47 [(.pv (.str p0)), (i64 p1)] [] = some ((.pv (.str r)), [], []) := by
  show W Tryz.prog cf _ _ _ = _
  rw [W_ext (sm := repeatSm) rfl]
  unfold B_strings_Repeat at hB
  simp [repeatSm, es_strs, unStrs_strsP, strsP_len, hB]
theorem g_strings_Repeat {p0 : (List UInt8)} {p1 : Int} {r : (List UInt8)} (hB : B_strings_Repeat p0 p1 = some r) : G_strings_Repeat p0 p1 = some r := dec_of (fun a b h => by rcases a with a0_; rcases b with b0_; simp at h; simp [*]) (sim_strings_Repeat hB)
end Go.Am
namespace Go.Am
open Go Go.Proofs
set_option maxRecDepth 4000
set_option maxHeartbeats 4000000
noncomputable def B_strconv_ParseUint (p0 : (List UInt8)) (p1 : Int) (p2 : Int) : Option (Int × Bool) := parseUintK p0 p1 p2
theorem sim_strconv_ParseUint {p0 : (List UInt8)} {p1 : Int} {p2 : Int} {r : (Int × Bool)} (hB : B_strconv_ParseUint p0 p1 p2 = some r) : R 44 [(.pv (.str p0)), (i64 p1), (i64 p2)] [] = some (.tup [(.pv (.int .u64 r.1)), (.pv (ifP r.2))], [], []) := by
  show W Tryz.prog cf _ _ _ = _
  rw [W_ext (sm := parseUintSm) rfl]
  unfold B_strconv_ParseUint at hB
  simp [parseUintSm, es_strs, unStrs_strsP, strsP_len, hB]
theorem g_strconv_ParseUint {p0 : (List UInt8)} {p1 : Int} {p2 : Int} {r : (Int × Bool)} (hB : B_strconv_ParseUint p0 p1 p2 = some r) : G_strconv_ParseUint p0 p1 p2 = some r := dec_of (fun a b h => by rcases a with ⟨a0_, a1_⟩; rcases b with ⟨b0_, b1_⟩; simp at h; simp [*]) (sim_strconv_ParseUint hB)
end Go.Am
/-
Chapter 07: a declaration comes back from its text.
-/
namespace Go.Am
open Go
/-! ### digits to the base 16 -/
theorem dig16_hexc {n : Nat} (h : n < 16) : dig16 (hexc n) = some n := by
  have key : ∀ n : Fin 16, dig16 (hexc n.1) = some n.1 := by decide +kernel
  exact key ⟨n, h⟩
theorem hexc_ne {n : Nat} (h : n < 16) : hexc n ≠ 32 := by
  have key : ∀ n : Fin 16, hexc n.1 ≠ 32 := by decide +kernel
  exact key ⟨n, h⟩
theorem hexA_app : ∀ (f n : Nat) (acc : List UInt8), hexA f n acc = hexA f n [] ++ acc
  | 0, n, acc => rfl
  | f + 1, n, acc => by
    unfold hexA
    split
    · rfl
    · rw [hexA_app f _ (hexc (n % 16) :: acc), hexA_app f _ [hexc (n % 16)], List.append_assoc]
      rfl
theorem hexA_mem : ∀ (f n : Nat) (acc : List UInt8), n < 16 ^ (f + 1) → ∀ c ∈ hexA f n acc, c ∈ acc ∨ ∃ m, m < 16 ∧ c = hexc m
  | 0, n, acc, h, c, hc => by
    simp only [hexA, List.mem_cons] at hc
    rcases hc with rfl | hc
    · exact .inr ⟨n, by omega, rfl⟩
    · exact .inl hc
  | f + 1, n, acc, h, c, hc => by
    unfold hexA at hc
    split at hc
    · rename_i hn
      simp only [List.mem_cons] at hc
      rcases hc with rfl | hc
      · exact .inr ⟨n, hn, rfl⟩
      · exact .inl hc
    · have hs : 16 ^ (f + 1 + 1) = 16 ^ (f + 1) * 16 := Nat.pow_succ 16 (f + 1)
      rcases hexA_mem f _ _ (by omega) c hc with h1 | h1
      · simp only [List.mem_cons] at h1
        rcases h1 with rfl | h1
        · exact .inr ⟨n % 16, by omega, rfl⟩
        · exact .inl h1
      · exact .inr h1
theorem hexA_len : ∀ (f k n : Nat) (acc : List UInt8), n < 16 ^ (k + 1) → k ≤ f → (hexA f n acc).length ≤ acc.length + (k + 1)
  | 0, k, n, acc, h, hk => by
    have : (hexA 0 n acc).length = acc.length + 1 := rfl
    omega
  | f + 1, k, n, acc, h, hk => by
    unfold hexA
    split
    · rw [List.length_cons]; omega
    · rename_i hn
      cases k with
      | zero => omega
      | succ k =>
        have hs : 16 ^ (k + 1 + 1) = 16 ^ (k + 1) * 16 := Nat.pow_succ 16 (k + 1)
        have := hexA_len f k (n / 16) (hexc (n % 16) :: acc) (by omega) (by omega)
        rw [List.length_cons] at this
        omega
theorem hexL_len {n : Nat} (h : n < 18446744073709551616) : (hexL n).length ≤ 16 := by
  have := hexA_len 16 15 n [] (by omega) (by omega)
  simpa [hexL] using this
theorem pu16_app : ∀ (l r : List UInt8) (a v : Nat), pu16 a l = .ok v → pu16 a (l ++ r) = pu16 v r
  | [], r, a, v, h => by
    unfold pu16 at h
    cases h
    rfl
  | c :: l, r, a, v, h => by
    rw [List.cons_append]
    have hc : ∀ (q : List UInt8), pu16 a (c :: q) = match dig16 c with
      | none => Lib.NumEnd.syntax
      | some d => if 1152921504606846976 ≤ a then .range else pu16 (a * 16 + d) q := fun q => by
      rw [pu16]
      cases dig16 c <;> rfl
    rw [hc] at h ⊢
    clear hc
    cases hd : dig16 c with
    | none => rw [hd] at h; cases h
    | some d =>
      rw [hd] at h
      dsimp only at h ⊢
      split at h
      · cases h
      · rename_i hc
        rw [if_neg hc]
        exact pu16_app l r _ _ h
theorem pu16_hex : ∀ (f n : Nat), n < 16 ^ (f + 1) → n < 18446744073709551616 → pu16 0 (hexA f n []) = .ok n
  | 0, n, h, hn => by
    simp only [hexA, pu16]
    rw [dig16_hexc (by omega)]
    simp
  | f + 1, n, h, hn => by
    unfold hexA
    have hs : 16 ^ (f + 1 + 1) = 16 ^ (f + 1) * 16 := Nat.pow_succ 16 (f + 1)
    split
    · rename_i h16
      simp only [pu16]
      rw [dig16_hexc h16]
      simp
    · rw [hexA_app, pu16_app _ _ _ _ (pu16_hex f (n / 16) (by omega) (by omega))]
      simp only [pu16]
      rw [dig16_hexc (by omega)]
      dsimp only
      rw [if_neg (by omega)]
      congr 1
      omega
theorem repeat_zero : ∀ (k : Nat) (l : List UInt8), pu16 0 (Lib.repeatL [48] k ++ l) = pu16 0 l
  | 0, l => rfl
  | k + 1, l => by
    show pu16 0 (48 :: (Lib.repeatL [48] k ++ l)) = _
    have : dig16 48 = some 0 := by decide +kernel
    rw [pu16, this]
    dsimp only
    rw [if_neg (by omega)]
    exact repeat_zero k l
theorem repeat_mem : ∀ (k : Nat) (c : UInt8), c ∈ Lib.repeatL [48] k → c = 48
  | 0, c, h => by cases h
  | k + 1, c, h => by
    unfold Lib.repeatL at h
    rcases List.mem_append.1 h with h | h
    · simpa using h
    · exact repeat_mem k c h
/-! ### cuts -/
theorem partK_app0 {X : Type} (l r : List X) {hi : Int} (h : hi = (l.length : Int)) : partK (l ++ r) 0 hi = some l := by
  unfold partK
  rw [if_pos ⟨by omega, by omega, by rw [List.length_append]; omega⟩]
  subst h
  simp
theorem partK_app1 {X : Type} (l r : List X) {lo hi : Int} (h : lo = (l.length : Int)) (h2 : hi = ((l ++ r).length : Int)) : partK (l ++ r) lo hi = some r := by
  unfold partK
  rw [List.length_append] at h2
  rw [if_pos ⟨by omega, by omega, by rw [List.length_append]; omega⟩]
  subst h
  rw [Int.toNat_natCast, List.drop_left, List.take_of_length_le (by omega)]
theorem index_app : ∀ (l r : List UInt8), 32 ∉ l → Lib.indexByte (l ++ 32 :: r) 32 = (l.length : Int)
  | [], r, h => by simp [Lib.indexByte]
  | c :: l, r, h => by
    have h1 : (c == 32) = false := by rw [beq_eq_false_iff_ne]; rintro rfl; exact h (by simp)
    have ih := index_app l r fun h' => h (by simp [h'])
    show (if (c == 32) = true then 0 else if (Lib.indexByte (l ++ 32 :: r) 32 == -1) = true then -1 else Lib.indexByte (l ++ 32 :: r) 32 + 1) = _
    have h2 : ((l.length : Int) == -1) = false := by rw [beq_eq_false_iff_ne]; omega
    rw [ih, h1, h2]
    simp
theorem s_Cut (l r : List UInt8) (h : 32 ∉ l) (hl : l.length < 1000000000) : G_strings_Cut (l ++ 32 :: r) [32] = some (l, r, true) := by
  have h1 : G_internal_stringslite_Cut (l ++ 32 :: r) [32] = some (l, r, true) := by
    refine g_internal_stringslite_Cut ?_
    unfold B_internal_stringslite_Cut
    have hi : G_internal_stringslite_Index (l ++ 32 :: r) [32] = some (l.length : Int) := by
      refine g_internal_stringslite_Index ?_
      unfold B_internal_stringslite_Index indexOneK
      show some (Lib.indexByte (l ++ 32 :: r) 32) = _
      rw [index_app l r h]
    rw [hi, kb_some]
    have : (0 : Int) ≤ (l.length : Int) := by omega
    simp only [this, decide_true, cnd_true]
    rw [partK_app0 l (32 :: r) rfl, kb_some, add64_of (by simp; omega) (by simp; omega)]
    have e : l ++ 32 :: r = (l ++ [32]) ++ r := by simp
    rw [e, partK_app1 (l ++ [32]) r (by simp) rfl, kb_some]
  refine g_strings_Cut ?_
  unfold B_strings_Cut
  rw [h1, kb_some]
theorem itoaN_digs {k : Nat} (h : k < 1000) : ∀ b ∈ itoaN k, dg b = true := by
  have key : ∀ k, k < 1000 → (itoaN k).all dg = true := by decide +kernel
  exact fun b hb => List.all_eq_true.1 (key k h) b hb
theorem itoaN_ne32 {k : Nat} (h : k < 1000) : 32 ∉ itoaN k := fun h' => by
  have := itoaN_digs h 32 h'
  exact absurd this (by decide)
theorem s_decl_number {k : Nat} (h : k < 1000) (r : List UInt8) : G_declaration_number (itoaN k ++ 32 :: r) = some ((k : Int), r) := by
  have hl := itoaN_len k
  refine g_declaration_number ?_
  unfold B_declaration_number
  rw [s_Cut _ r (itoaN_ne32 h) (by omega), kb_some]
  dsimp only
  rw [s_Atoi_digs (itoaN_ne k) (itoaN_digs h) (by omega), kb_some]
  dsimp only
  have e : valD (itoaN k) = k := itoaN_read k h
  rw [cnd_true, e]
theorem s_TrimPrefix (p l : List UInt8) : G_strings_TrimPrefix (p ++ l) p = some l := by
  refine g_strings_TrimPrefix ?_
  unfold B_strings_TrimPrefix trimPrefixK Lib.trimPrefix Lib.hasPrefix
  rw [if_pos (by rw [List.isPrefixOf_iff_prefix]; exact List.prefix_append p l), List.drop_left]
theorem s_LastIndexByte (l r : List UInt8) (h : 32 ∉ r) (hl : (l ++ 32 :: r).length < 4611686018427387904) : G_strings_LastIndexByte (l ++ 32 :: r) 32 = some (l.length : Int) := by
  refine g_strings_LastIndexByte ?_
  unfold B_strings_LastIndexByte lastIndexByteK
  rw [if_pos hl]
  congr 1
  unfold Lib.lastIndexByte
  have hsz : (⟨(l ++ 32 :: r).toArray⟩ : ByteArray).size = (l ++ 32 :: r).length := by simp [ByteArray.size]
  have hget : ∀ j, j < (l ++ 32 :: r).length → ((⟨(l ++ 32 :: r).toArray⟩ : ByteArray).data[j]!) = (l ++ 32 :: r)[j]! := fun j hj => by
    show (l ++ 32 :: r).toArray[j]! = _
    rw [List.getElem!_toArray]
  rw [hsz]
  have hll : (l ++ 32 :: r).length = l.length + 1 + r.length := by simp; omega
  have at0 : (l ++ 32 :: r)[l.length]! = 32 := by
    rw [getElem!_pos (l ++ 32 :: r) l.length (by omega)]
    simp
  have ats : ∀ j, l.length < j → j < (l ++ 32 :: r).length → (l ++ 32 :: r)[j]! ≠ 32 := fun j h1 h2 e => by
    rw [getElem!_pos (l ++ 32 :: r) j h2, List.getElem_append_right (by omega)] at e
    have : (32 :: r)[j - l.length]'(by rw [List.length_cons]; omega) = r[j - l.length - 1]'(by omega) := by
      rw [List.getElem_cons]
      rw [dif_neg (by omega)]
    rw [this] at e
    exact h (e ▸ List.getElem_mem _)
  rcases Lib.lastIdx_spec ⟨(l ++ 32 :: r).toArray⟩ 32 (l ++ 32 :: r).length with ⟨_, hn⟩ | ⟨i, hi, e, hc, hn⟩
  · exact absurd (by rw [hget _ (by omega), at0]; rfl) (hn l.length (by omega))
  · rw [e]
    rw [hget i hi] at hc
    have hc' : (l ++ 32 :: r)[i]! = 32 := UInt8.toNat_inj.1 (by show _ = 32; omega)
    by_cases c1 : l.length < i
    · exact absurd hc' (ats i c1 hi)
    · by_cases c2 : i < l.length
      · exact absurd (by rw [hget _ (by omega), at0]; rfl) (hn l.length c2 (by omega))
      · have : i = l.length := by omega
        rw [this]
/-! ### the text of a declaration -/
theorem hash_rng (l : List UInt8) : 0 ≤ hashV l ∧ hashV l < 18446744073709551616 := by
  have key : ∀ (l : List UInt8) (h : Int), 0 ≤ h ∧ h < 18446744073709551616 → 0 ≤ l.foldl hashG h ∧ l.foldl hashG h < 18446744073709551616 := by
    intro l
    induction l with
    | nil => intro h hh; exact hh
    | cons b r ih =>
      intro h hh
      rw [List.foldl_cons]
      refine ih _ ?_
      unfold hashG
      show 0 ≤ IntKind.wrap .u64 _ ∧ IntKind.wrap .u64 _ < _
      generalize xorK .u64 h (IntKind.wrap .u64 (b.toNat : Int)) * 1099511628211 = z
      have e : IntKind.wrap .u64 z = z % 18446744073709551616 := by
        unfold IntKind.wrap
        simp [IntKind.bits, IntKind.signed]
      rw [e]
      omega
  exact key l _ (by omega)
/-- what stands behind the bytes -/
def tagT (n : Nat) : List UInt8 := Lib.repeatL [48] (16 - (hexL n).length) ++ hexL n
def textD (d : Decl) : List UInt8 := bytesV d ++ 32 :: tagT d.f3.toNat
theorem tagT_len {n : Nat} (h : n < 18446744073709551616) : (tagT n).length = 16 := by
  have := hexL_len h
  have h2 := Lib.repeatL_length [48] (16 - (hexL n).length)
  unfold tagT
  rw [List.length_append, h2]
  simp only [List.length_cons, List.length_nil]
  omega
theorem tagT_ne32 {n : Nat} (h : n < 18446744073709551616) : 32 ∉ tagT n := fun h' => by
  unfold tagT at h'
  rcases List.mem_append.1 h' with h1 | h1
  · exact absurd (repeat_mem _ _ h1) (by decide)
  · rcases hexA_mem 16 n [] (by omega) 32 h1 with h2 | ⟨m, hm, h2⟩
    · cases h2
    · exact hexc_ne hm h2.symm
theorem s_ParseUint {n : Nat} (h : n < 18446744073709551616) : G_strconv_ParseUint (tagT n) 16 64 = some ((n : Int), true) := by
  refine g_strconv_ParseUint ?_
  unfold B_strconv_ParseUint parseUintK
  rw [if_pos ⟨rfl, rfl, by rw [tagT_len h]; omega⟩]
  have hne : tagT n ≠ [] := fun e => by have := tagT_len h; rw [e] at this; cases this
  unfold pu16All
  rw [if_neg hne]
  have : pu16 0 (tagT n) = .ok n := by
    unfold tagT
    rw [repeat_zero]
    exact pu16_hex 16 n (by omega) h
  rw [this]
/-- a declaration without an error, with a tag that a machine can hold -/
def DFull (d : Decl) : Prop := DOk d ∧ (0 ≤ d.f3 ∧ d.f3 < 18446744073709551616)
theorem textD_len {d : Decl} (h : DFull d) : (textD d).length < 1017 := by
  have h1 := bytesV_len h.1
  have h2 := tagT_len (n := d.f3.toNat) (by have := h.2; omega)
  unfold textD
  rw [List.length_append, List.length_cons, h2]
  omega
theorem s_declaration_Text {d : Decl} (h : DFull d) : G_declaration_Text d = some (textD d) := by
  have hb := bytesV_len h.1
  have hn : d.f3.toNat < 18446744073709551616 := by have := h.2; omega
  have hx := hexL_len hn
  have ht := tagT_len hn
  refine g_declaration_Text ?_
  unfold B_declaration_Text
  rw [s_declaration_Plain d h.1.2.1.2, plainE_ok h.1, kb_some]
  simp only [decide_true, cnd_true]
  have hf : G_strconv_FormatUint d.f3 16 = some (hexL d.f3.toNat) := by
    have := s_FormatUint hn
    rwa [Int.toNat_of_nonneg h.2.1] at this
  rw [hf, kb_some, s_declaration_Bytes h.1, kb_some, catK_some (by simp; omega), kb_some]
  have hs : sub64 16 ((hexL d.f3.toNat).length : Int) = ((16 - (hexL d.f3.toNat).length : Nat) : Int) := by
    rw [sub64_of (by omega) (by omega)]
    omega
  have hr : G_strings_Repeat [48] (sub64 16 ((hexL d.f3.toNat).length : Int)) = some (Lib.repeatL [48] (16 - (hexL d.f3.toNat).length)) := by
    refine g_strings_Repeat ?_
    unfold B_strings_Repeat repeatK
    rw [hs, if_pos ⟨by omega, by omega, by simp⟩, Int.toNat_natCast]
  have hrl := Lib.repeatL_length [48] (16 - (hexL d.f3.toNat).length)
  simp only [List.length_cons, List.length_nil] at hrl
  rw [hr, kb_some, catK_some (by simp only [List.length_append, List.length_cons, List.length_nil]; omega), kb_some, catK_some (by simp only [List.length_append, List.length_cons, List.length_nil]; omega), kb_some]
  unfold textD tagT
  simp
theorem s_decl_Parse {d : Decl} (h : DFull d) : G_declaration_Parse (textD d) = some (d, 0) := by
  have hl := textD_len h
  have hn : d.f3.toNat < 18446744073709551616 := by have := h.2; omega
  obtain ⟨⟨⟨h1, h2⟩, h3, h4⟩, ⟨h5, h6⟩, h7, h8⟩ := h.1
  have ht := tagT_len hn
  have htx := s_declaration_Text h
  have e1 : textD d = [100, 32] ++ (itoaN d.f0.toNat ++ 32 :: (itoaN d.f1.toNat ++ 32 :: (txtT d.f2 ++ 32 :: tagT d.f3.toNat))) := by
    unfold textD bytesV
    simp
  have hlt : (txtT d.f2 ++ 32 :: tagT d.f3.toNat).length < 1017 := by
    rw [e1] at hl
    simp only [List.length_append, List.length_cons, List.length_nil] at hl ⊢
    omega
  have n0 := s_decl_number (k := d.f0.toNat) (by omega) (itoaN d.f1.toNat ++ 32 :: (txtT d.f2 ++ 32 :: tagT d.f3.toNat))
  have n1 := s_decl_number (k := d.f1.toNat) (by omega) (txtT d.f2 ++ 32 :: tagT d.f3.toNat)
  rw [Int.toNat_of_nonneg h1] at n0
  rw [Int.toNat_of_nonneg (show 0 ≤ d.f1 by omega)] at n1
  have t0 : G_strings_TrimPrefix (textD d) [100, 32] = some (itoaN d.f0.toNat ++ 32 :: (itoaN d.f1.toNat ++ 32 :: (txtT d.f2 ++ 32 :: tagT d.f3.toNat))) := by
    rw [e1]
    exact s_TrimPrefix _ _
  have l0 := s_LastIndexByte (txtT d.f2) (tagT d.f3.toNat) (tagT_ne32 hn) (by omega)
  have hneg : ¬ ((txtT d.f2).length : Int) < 0 := by omega
  have t1 : G_strings_TrimPrefix (32 :: tagT d.f3.toNat) [32] = some (tagT d.f3.toNat) := s_TrimPrefix [32] _
  have u0 := s_ParseUint hn
  rw [Int.toNat_of_nonneg h.2.1] at u0
  have hp : G_notation_Parse (txtT d.f2) = some (d.f2, 0, 0) := by
    rw [s_Parse, parse_text h5 h6]
  have hz : B_declaration_Parse_0 (d.f0, itoaN d.f1.toNat ++ 32 :: (txtT d.f2 ++ 32 :: tagT d.f3.toNat)) (d.f1, txtT d.f2 ++ 32 :: tagT d.f3.toNat) (d.f2, 0, 0) (d.f3, true) (textD d) = some false := by
    unfold B_declaration_Parse_0
    have e2 : (textD d == ([] : List UInt8)) = false := by
      rw [beq_eq_false_iff_ne, e1]
      simp
    rw [e2, cnd_false]
    show kb (G_declaration_Text ⟨d.f0, d.f1, d.f2, d.f3⟩) _ = _
    rw [show (⟨d.f0, d.f1, d.f2, d.f3⟩ : Decl) = d from rfl, htx, kb_some]
    simp
  refine g_declaration_Parse ?_
  unfold B_declaration_Parse
  have hbig : ¬ (6000 : Int) < ((textD d).length : Int) := by omega
  simp only [hbig, decide_false, cnd_false]
  rw [t0, kb_some, n0, kb_some]
  dsimp only
  rw [n1, kb_some]
  dsimp only
  rw [l0, kb_some, if_neg hneg, partK_app1 _ _ rfl rfl, kb_some, t1, kb_some, u0, kb_some]
  dsimp only
  rw [cnd_true, partK_app0 _ _ rfl, kb_some, hp, kb_some, hz, kb_some, cnd_false]
end Go.Am
/-
The example of the chapter: the kernel runs it.
-/
namespace Go.Am
open Go Go.Proofs
theorem awake_run : R 17 [] [] = some (bl true, [], []) := (W_iff _ _ _ _).2 ⟨200, by kernel_rfl⟩
theorem s_awake07 : G_law07_awake = some true := of_law07_awake awake_run
end Go.Am
namespace Go.Am
open Go Go.Proofs
set_option maxRecDepth 4000
set_option maxHeartbeats 4000000
open Int renaming ofNat_lt → Iqa, ofNat_le → Iqb, natCast_eq_zero → Iqc, natCast_pos → Iqd, cast_ofNat_Int → Iqe, natCast_zero → Iqf
open List renaming length_eq_zero_iff → Lqa, getElem?_cons_zero → Lqb, getElem?_cons_succ → Lqc, getElem?_nil → Lqd, length_cons → Lqe, length_nil → Lqf, nil_append → Lqg, cons_append → Lqh
open Nat renaming zero_add → Nqa
open Tru renaming thr_mk → Tqa, nodes_mk → Tqb, inner_mk → Tqc
open Go.Am renaming es_api_Declaration_cons → Eqa, es_api_Declaration_nil → Eqb, es_api_Evidence_cons → Eqc, es_api_Evidence_nil → Eqd, ints_cons → Eqe, ints_nil → Eqf, encTs_cons → Eqg, encTs_nil → Eqh, es_str_cons → Eqi, es_str_nil → Eqj, es_u64_cons → Eqk, es_u64_nil → Eql, es_u8_cons → Eqm, es_u8_nil → Eqn
noncomputable def B_ref07_Same (p0 : S_api_Declaration) (p1 : S_api_Declaration) : Option Bool :=
  cnd (decide (p0.f0 = p1.f0)) (
    cnd (decide (p0.f1 = p1.f1)) (
      cnd (decide (p0.f3 = p1.f3)) (
        kb (G_ref02_Same p0.f2 p1.f2) fun y4 =>
        some y4) (
        some false)) (
      some false)) (
    some false)
theorem sim_ref07_Same {p0 : S_api_Declaration} {p1 : S_api_Declaration} {r : Bool} (hB : B_ref07_Same p0 p1 = some r) : R 16 [(.agg [(i64 p0.f0), (i64 p0.f1), (i64 p0.f2.thr), (.pv (.sl p0.f2.nodes.length (ints p0.f2.nodes))), (.pv (.sl p0.f2.inner.length (encTs p0.f2.inner))), (.pv (.int .u64 p0.f3))]), (.agg [(i64 p1.f0), (i64 p1.f1), (i64 p1.f2.thr), (.pv (.sl p1.f2.nodes.length (ints p1.f2.nodes))), (.pv (.sl p1.f2.inner.length (encTs p1.f2.inner))), (.pv (.int .u64 p1.f3))])] [] = some ((bl r), [], []) := by
  rw [R_eq _ _ _ fn_ref07_Same]
  simp only [Code.fst, Code.snd, Tryz.f16, Option.getD_some]
  generalize hr1 : Code.region 1 _ _ = rr1
  unfold B_ref07_Same at hB
  rcases cnd_inv hB with ⟨c1, hB⟩ | ⟨c1, hB⟩
  · have pc1 := eq_true (of_decide_eq_true c1)
    rcases cnd_inv hB with ⟨c2, hB⟩ | ⟨c2, hB⟩
    · have pc2 := eq_true (of_decide_eq_true c2)
      rcases cnd_inv hB with ⟨c3, hB⟩ | ⟨c3, hB⟩
      · have pc3 := eq_true (of_decide_eq_true c3)
        obtain ⟨y4, k5, hB⟩ := kb_inv hB
        replace k5 := run_ref02_Same k5
        try simp only [Iqe, Iqf, Lqe, Lqf, Lqg, Lqh, Nqa, Nat.reduceAdd, Tqa, Tqb, Tqc, Eqe, Eqf, Eqg, Eqh, Eqa, Eqb, Eqc, Eqd, Eqi, Eqj, Eqk, Eql, Eqm, Eqn] at k5
        try dsimp only at hB
        obtain rfl := Option.some.inj hB
        subst hr1
        simp -implicitDefEqProofs [-getElem?_pos, -Iqa, -Iqb, -Iqc, -Iqd, -Lqa, Lqb, Lqc, Lqd, c1, pc1, c2, pc2, c3, pc3, k5]
      · have pc3 := eq_false (of_decide_eq_false c3)
        obtain rfl := Option.some.inj hB
        subst hr1
        simp -implicitDefEqProofs [-getElem?_pos, -Iqa, -Iqb, -Iqc, -Iqd, -Lqa, Lqb, Lqc, Lqd, c1, pc1, c2, pc2, c3, pc3]
    · have pc2 := eq_false (of_decide_eq_false c2)
      obtain rfl := Option.some.inj hB
      subst hr1
      simp -implicitDefEqProofs [-getElem?_pos, -Iqa, -Iqb, -Iqc, -Iqd, -Lqa, Lqb, Lqc, Lqd, c1, pc1, c2, pc2]
  · have pc1 := eq_false (of_decide_eq_false c1)
    obtain rfl := Option.some.inj hB
    subst hr1
    simp -implicitDefEqProofs [-getElem?_pos, -Iqa, -Iqb, -Iqc, -Iqd, -Lqa, Lqb, Lqc, Lqd, c1, pc1]
theorem g_ref07_Same {p0 : S_api_Declaration} {p1 : S_api_Declaration} {r : Bool} (hB : B_ref07_Same p0 p1 = some r) : G_ref07_Same p0 p1 = some r := dec_of (fun a b h => by rcases a with a0_; rcases b with b0_; simp at h; simp [*]) (sim_ref07_Same hB)
end Go.Am
namespace Go.Am
open Go Go.Proofs
set_option maxRecDepth 4000
set_option maxHeartbeats 4000000
open Int renaming ofNat_lt → Iqa, ofNat_le → Iqb, natCast_eq_zero → Iqc, natCast_pos → Iqd, cast_ofNat_Int → Iqe, natCast_zero → Iqf
open List renaming length_eq_zero_iff → Lqa, getElem?_cons_zero → Lqb, getElem?_cons_succ → Lqc, getElem?_nil → Lqd, length_cons → Lqe, length_nil → Lqf, nil_append → Lqg, cons_append → Lqh
open Nat renaming zero_add → Nqa
open Tru renaming thr_mk → Tqa, nodes_mk → Tqb, inner_mk → Tqc
open Go.Am renaming es_api_Declaration_cons → Eqa, es_api_Declaration_nil → Eqb, es_api_Evidence_cons → Eqc, es_api_Evidence_nil → Eqd, ints_cons → Eqe, ints_nil → Eqf, encTs_cons → Eqg, encTs_nil → Eqh, es_str_cons → Eqi, es_str_nil → Eqj, es_u64_cons → Eqk, es_u64_nil → Eql, es_u8_cons → Eqm, es_u8_nil → Eqn
noncomputable def B_ref07_Check (p0 : (List Int)) (p1 : S_api_Declaration) : Option Int :=
  kb (G_ref07_Plain p1) fun y1 =>
  cnd (decide (y1 = 0)) (
    cnd (decide ((p0.length : Int) ≤ p1.f0)) (
      some 10) (
      kb (getI p0 p1.f0) fun x5 =>
      kb (G_ref07_Bytes p1) fun y8 =>
      kb (G_ref07_Tag x5 y8) fun y10 =>
      cnd (decide (y10 = p1.f3)) (
        some 0) (
        some 8))) (
    some y1)
theorem sim_ref07_Check {p0 : (List Int)} {p1 : S_api_Declaration} {r : Int} (hB : B_ref07_Check p0 p1 = some r) : R 15 [(.pv (.sl p0.length (es_u64 p0))), (.agg [(i64 p1.f0), (i64 p1.f1), (i64 p1.f2.thr), (.pv (.sl p1.f2.nodes.length (ints p1.f2.nodes))), (.pv (.sl p1.f2.inner.length (encTs p1.f2.inner))), (.pv (.int .u64 p1.f3))])] [] = some ((i64 r), [], []) := by
  rw [R_eq _ _ _ fn_ref07_Check]
  simp only [Code.fst, Code.snd, Tryz.f15, Option.getD_some]
  generalize hr4 : Code.region 4 _ _ = rr4
  generalize hr6 : Code.region 6 _ _ = rr6
  unfold B_ref07_Check at hB
  obtain ⟨y1, k2, hB⟩ := kb_inv hB
  replace k2 := run_ref07_Plain k2
  try simp only [Iqe, Iqf, Lqe, Lqf, Lqg, Lqh, Nqa, Nat.reduceAdd, Tqa, Tqb, Tqc, Eqe, Eqf, Eqg, Eqh, Eqa, Eqb, Eqc, Eqd, Eqi, Eqj, Eqk, Eql, Eqm, Eqn] at k2
  try dsimp only at hB
  rcases cnd_inv hB with ⟨c3, hB⟩ | ⟨c3, hB⟩
  · have pc3 := eq_true (of_decide_eq_true c3)
    rcases cnd_inv hB with ⟨c4, hB⟩ | ⟨c4, hB⟩
    · have pc4 := eq_true (of_decide_eq_true c4)
      have nc4 := c4
      try simp only [Lqf, Lqe, Iqe, Iqf, Nqa, Nat.reduceAdd, Int.reduceLT, Int.reduceLE, Int.reduceEq, eq_self, decide_true, decide_false, Bool.true_eq_false, Bool.false_eq_true] at nc4
      all_goals
        obtain rfl := Option.some.inj hB
        subst hr4
        simp -implicitDefEqProofs [-getElem?_pos, -Iqa, -Iqb, -Iqc, -Iqd, -Lqa, Lqb, Lqc, Lqd, k2, c3, pc3, c4, pc4, nc4]
    · have pc4 := eq_false (of_decide_eq_false c4)
      have nc4 := c4
      try simp only [Lqf, Lqe, Iqe, Iqf, Nqa, Nat.reduceAdd, Int.reduceLT, Int.reduceLE, Int.reduceEq, eq_self, decide_true, decide_false, Bool.true_eq_false, Bool.false_eq_true] at nc4
      all_goals
        obtain ⟨x5, h6, hB⟩ := kb_inv hB
        obtain ⟨h6a, h6b, h6c, h6d⟩ := getI_inv h6
        try simp only [Int.toNat_natCast, Int.reduceToNat] at h6c
        try dsimp only at hB
        obtain ⟨y8, k9, hB⟩ := kb_inv hB
        replace k9 := run_ref07_Bytes k9
        try simp only [Iqe, Iqf, Lqe, Lqf, Lqg, Lqh, Nqa, Nat.reduceAdd, Tqa, Tqb, Tqc, Eqe, Eqf, Eqg, Eqh, Eqa, Eqb, Eqc, Eqd, Eqi, Eqj, Eqk, Eql, Eqm, Eqn] at k9
        try dsimp only at hB
        obtain ⟨y10, k11, hB⟩ := kb_inv hB
        replace k11 := run_ref07_Tag k11
        try simp only [Iqe, Iqf, Lqe, Lqf, Lqg, Lqh, Nqa, Nat.reduceAdd, Tqa, Tqb, Tqc, Eqe, Eqf, Eqg, Eqh, Eqa, Eqb, Eqc, Eqd, Eqi, Eqj, Eqk, Eql, Eqm, Eqn] at k11
        try dsimp only at hB
        rcases cnd_inv hB with ⟨c12, hB⟩ | ⟨c12, hB⟩
        · have pc12 := eq_true (of_decide_eq_true c12)
          obtain rfl := Option.some.inj hB
          subst hr4
          subst hr6
          simp -implicitDefEqProofs [-getElem?_pos, -Iqa, -Iqb, -Iqc, -Iqd, -Lqa, Lqb, Lqc, Lqd, k2, c3, pc3, c4, pc4, nc4, h6a, h6b, h6c, h6d, k9, k11, c12, pc12]
          rw [drawK_ok _ _ _ (by kernel_rfl)]
          simp -implicitDefEqProofs [-getElem?_pos, -Iqa, -Iqb, -Iqc, -Iqd, -Lqa, Lqb, Lqc, Lqd, k2, c3, pc3, c4, pc4, nc4, h6a, h6b, h6c, h6d, k9, k11, c12, pc12]
        · have pc12 := eq_false (of_decide_eq_false c12)
          obtain rfl := Option.some.inj hB
          subst hr4
          subst hr6
          simp -implicitDefEqProofs [-getElem?_pos, -Iqa, -Iqb, -Iqc, -Iqd, -Lqa, Lqb, Lqc, Lqd, k2, c3, pc3, c4, pc4, nc4, h6a, h6b, h6c, h6d, k9, k11, c12, pc12]
          rw [drawK_ok _ _ _ (by kernel_rfl)]
          simp -implicitDefEqProofs [-getElem?_pos, -Iqa, -Iqb, -Iqc, -Iqd, -Lqa, Lqb, Lqc, Lqd, k2, c3, pc3, c4, pc4, nc4, h6a, h6b, h6c, h6d, k9, k11, c12, pc12]
  · have pc3 := eq_false (of_decide_eq_false c3)
    obtain rfl := Option.some.inj hB
    simp -implicitDefEqProofs [-getElem?_pos, -Iqa, -Iqb, -Iqc, -Iqd, -Lqa, Lqb, Lqc, Lqd, k2, c3, pc3]
theorem g_ref07_Check {p0 : (List Int)} {p1 : S_api_Declaration} {r : Int} (hB : B_ref07_Check p0 p1 = some r) : G_ref07_Check p0 p1 = some r := dec_of (fun a b h => by rcases a with a0_; rcases b with b0_; simp at h; simp [*]) (sim_ref07_Check hB)
end Go.Am
namespace Go.Am
open Go Go.Proofs
set_option maxRecDepth 4000
set_option maxHeartbeats 4000000
open Int renaming ofNat_lt → Iqa, ofNat_le → Iqb, natCast_eq_zero → Iqc, natCast_pos → Iqd, cast_ofNat_Int → Iqe, natCast_zero → Iqf
open List renaming length_eq_zero_iff → Lqa, getElem?_cons_zero → Lqb, getElem?_cons_succ → Lqc, getElem?_nil → Lqd, length_cons → Lqe, length_nil → Lqf, nil_append → Lqg, cons_append → Lqh
open Nat renaming zero_add → Nqa
open Tru renaming thr_mk → Tqa, nodes_mk → Tqb, inner_mk → Tqc
open Go.Am renaming es_api_Declaration_cons → Eqa, es_api_Declaration_nil → Eqb, es_api_Evidence_cons → Eqc, es_api_Evidence_nil → Eqd, ints_cons → Eqe, ints_nil → Eqf, encTs_cons → Eqg, encTs_nil → Eqh, es_str_cons → Eqi, es_str_nil → Eqj, es_u64_cons → Eqk, es_u64_nil → Eql, es_u8_cons → Eqm, es_u8_nil → Eqn
noncomputable def B_law07_DeclarationSigns (p0 : (List Int)) : Option Bool :=
  kb (G_make_New p0) fun y1 =>
  kb (G_make_Tape_Range y1 1 10) fun y3 =>
  kb (G_make_Keys y3.2 y3.1) fun y5 =>
  kb (G_make_Tape_N y5.2 (y5.1.length : Int)) fun y7 =>
  kb (G_make_Tape_Range y7.2 1 30) fun y9 =>
  kb (G_make_Declared y9.2 (y5.1.length : Int)) fun y11 =>
  kb (getI y5.1 y7.1) fun x13 =>
  kb (G_declaration_Sign x13 y7.1 y9.1 y11.1) fun y16 =>
  kb (G_declaration_Text y16.1) fun y18 =>
  kb (G_declaration_Parse y18) fun y20 =>
  cnd (decide (y16.2 = 0)) (
    cnd (decide (y20.2 = 0)) (
      cnd (decide (y16.1.f0 = y7.1)) (
        cnd (decide (y16.1.f1 = y9.1)) (
          kb (G_ref02_Same y16.1.f2 y11.1) fun y26 =>
          cnd y26 (
            kb (G_declaration_Check y5.1 y16.1) fun y29 =>
            cnd (decide (y29 = 0)) (
              kb (G_ref07_Check y5.1 y16.1) fun y32 =>
              cnd (decide (y32 = 0)) (
                kb (G_ref07_Same y20.1 y16.1) fun y35 =>
                cnd y35 (
                  kb (G_law07_awake ) fun y38 =>
                  some y38) (
                  some false)) (
                some false)) (
              some false)) (
            some false)) (
          some false)) (
        some false)) (
      some false)) (
    some false)
theorem sim_law07_DeclarationSigns {p0 : (List Int)} {r : Bool} (hB : B_law07_DeclarationSigns p0 = some r) : R 3 [(.pv (.sl p0.length (ints p0)))] [] = some ((bl r), [], []) := by
  rw [R_eq _ _ _ fn_law07_DeclarationSigns]
  simp only [Code.fst, Code.snd, Tryz.f3, Option.getD_some]
  generalize hr2 : Code.region 2 _ _ = rr2
  generalize hr3 : Code.region 3 _ _ = rr3
  generalize hr4 : Code.region 4 _ _ = rr4
  generalize hr5 : Code.region 5 _ _ = rr5
  generalize hr6 : Code.region 6 _ _ = rr6
  unfold B_law07_DeclarationSigns at hB
  obtain ⟨y1, k2, hB⟩ := kb_inv hB
  replace k2 := run_make_New k2
  try simp only [Iqe, Iqf, Lqe, Lqf, Lqg, Lqh, Nqa, Nat.reduceAdd, Tqa, Tqb, Tqc, Eqe, Eqf, Eqg, Eqh, Eqa, Eqb, Eqc, Eqd, Eqi, Eqj, Eqk, Eql, Eqm, Eqn] at k2
  try dsimp only at hB
  obtain ⟨y3, k4, hB⟩ := kb_inv hB
  replace k4 := run_make_Tape_Range k4
  try simp only [Iqe, Iqf, Lqe, Lqf, Lqg, Lqh, Nqa, Nat.reduceAdd, Tqa, Tqb, Tqc, Eqe, Eqf, Eqg, Eqh, Eqa, Eqb, Eqc, Eqd, Eqi, Eqj, Eqk, Eql, Eqm, Eqn] at k4
  try dsimp only at hB
  obtain ⟨y5, k6, hB⟩ := kb_inv hB
  replace k6 := run_make_Keys k6
  try simp only [Iqe, Iqf, Lqe, Lqf, Lqg, Lqh, Nqa, Nat.reduceAdd, Tqa, Tqb, Tqc, Eqe, Eqf, Eqg, Eqh, Eqa, Eqb, Eqc, Eqd, Eqi, Eqj, Eqk, Eql, Eqm, Eqn] at k6
  try dsimp only at hB
  obtain ⟨y7, k8, hB⟩ := kb_inv hB
  replace k8 := run_make_Tape_N k8
  try simp only [Iqe, Iqf, Lqe, Lqf, Lqg, Lqh, Nqa, Nat.reduceAdd, Tqa, Tqb, Tqc, Eqe, Eqf, Eqg, Eqh, Eqa, Eqb, Eqc, Eqd, Eqi, Eqj, Eqk, Eql, Eqm, Eqn] at k8
  try dsimp only at hB
  obtain ⟨y9, k10, hB⟩ := kb_inv hB
  replace k10 := run_make_Tape_Range k10
  try simp only [Iqe, Iqf, Lqe, Lqf, Lqg, Lqh, Nqa, Nat.reduceAdd, Tqa, Tqb, Tqc, Eqe, Eqf, Eqg, Eqh, Eqa, Eqb, Eqc, Eqd, Eqi, Eqj, Eqk, Eql, Eqm, Eqn] at k10
  try dsimp only at hB
  obtain ⟨y11, k12, hB⟩ := kb_inv hB
  replace k12 := run_make_Declared k12
  try simp only [Iqe, Iqf, Lqe, Lqf, Lqg, Lqh, Nqa, Nat.reduceAdd, Tqa, Tqb, Tqc, Eqe, Eqf, Eqg, Eqh, Eqa, Eqb, Eqc, Eqd, Eqi, Eqj, Eqk, Eql, Eqm, Eqn] at k12
  try dsimp only at hB
  obtain ⟨x13, h14, hB⟩ := kb_inv hB
  obtain ⟨h14a, h14b, h14c, h14d⟩ := getI_inv h14
  try simp only [Int.toNat_natCast, Int.reduceToNat] at h14c
  try dsimp only at hB
  obtain ⟨y16, k17, hB⟩ := kb_inv hB
  replace k17 := run_declaration_Sign k17
  try simp only [Iqe, Iqf, Lqe, Lqf, Lqg, Lqh, Nqa, Nat.reduceAdd, Tqa, Tqb, Tqc, Eqe, Eqf, Eqg, Eqh, Eqa, Eqb, Eqc, Eqd, Eqi, Eqj, Eqk, Eql, Eqm, Eqn] at k17
  try dsimp only at hB
  obtain ⟨y18, k19, hB⟩ := kb_inv hB
  replace k19 := run_declaration_Text k19
  try simp only [Iqe, Iqf, Lqe, Lqf, Lqg, Lqh, Nqa, Nat.reduceAdd, Tqa, Tqb, Tqc, Eqe, Eqf, Eqg, Eqh, Eqa, Eqb, Eqc, Eqd, Eqi, Eqj, Eqk, Eql, Eqm, Eqn] at k19
  try dsimp only at hB
  obtain ⟨y20, k21, hB⟩ := kb_inv hB
  replace k21 := run_declaration_Parse k21
  try simp only [Iqe, Iqf, Lqe, Lqf, Lqg, Lqh, Nqa, Nat.reduceAdd, Tqa, Tqb, Tqc, Eqe, Eqf, Eqg, Eqh, Eqa, Eqb, Eqc, Eqd, Eqi, Eqj, Eqk, Eql, Eqm, Eqn] at k21
  try dsimp only at hB
  rcases cnd_inv hB with ⟨c22, hB⟩ | ⟨c22, hB⟩
  · have pc22 := eq_true (of_decide_eq_true c22)
    rcases cnd_inv hB with ⟨c23, hB⟩ | ⟨c23, hB⟩
    · have pc23 := eq_true (of_decide_eq_true c23)
      rcases cnd_inv hB with ⟨c24, hB⟩ | ⟨c24, hB⟩
      · have pc24 := eq_true (of_decide_eq_true c24)
        rcases cnd_inv hB with ⟨c25, hB⟩ | ⟨c25, hB⟩
        · have pc25 := eq_true (of_decide_eq_true c25)
          obtain ⟨y26, k27, hB⟩ := kb_inv hB
          replace k27 := run_ref02_Same k27
          try simp only [Iqe, Iqf, Lqe, Lqf, Lqg, Lqh, Nqa, Nat.reduceAdd, Tqa, Tqb, Tqc, Eqe, Eqf, Eqg, Eqh, Eqa, Eqb, Eqc, Eqd, Eqi, Eqj, Eqk, Eql, Eqm, Eqn] at k27
          try dsimp only at hB
          rcases cnd_inv hB with ⟨c28, hB⟩ | ⟨c28, hB⟩
          · obtain ⟨y29, k30, hB⟩ := kb_inv hB
            replace k30 := run_declaration_Check k30
            try simp only [Iqe, Iqf, Lqe, Lqf, Lqg, Lqh, Nqa, Nat.reduceAdd, Tqa, Tqb, Tqc, Eqe, Eqf, Eqg, Eqh, Eqa, Eqb, Eqc, Eqd, Eqi, Eqj, Eqk, Eql, Eqm, Eqn, c28] at k30
            try dsimp only at hB
            rcases cnd_inv hB with ⟨c31, hB⟩ | ⟨c31, hB⟩
            · have pc31 := eq_true (of_decide_eq_true c31)
              obtain ⟨y32, k33, hB⟩ := kb_inv hB
              replace k33 := run_ref07_Check k33
              try simp only [Iqe, Iqf, Lqe, Lqf, Lqg, Lqh, Nqa, Nat.reduceAdd, Tqa, Tqb, Tqc, Eqe, Eqf, Eqg, Eqh, Eqa, Eqb, Eqc, Eqd, Eqi, Eqj, Eqk, Eql, Eqm, Eqn, c28] at k33
              try dsimp only at hB
              rcases cnd_inv hB with ⟨c34, hB⟩ | ⟨c34, hB⟩
              · have pc34 := eq_true (of_decide_eq_true c34)
                obtain ⟨y35, k36, hB⟩ := kb_inv hB
                replace k36 := run_ref07_Same k36
                try simp only [Iqe, Iqf, Lqe, Lqf, Lqg, Lqh, Nqa, Nat.reduceAdd, Tqa, Tqb, Tqc, Eqe, Eqf, Eqg, Eqh, Eqa, Eqb, Eqc, Eqd, Eqi, Eqj, Eqk, Eql, Eqm, Eqn, c28] at k36
                try dsimp only at hB
                rcases cnd_inv hB with ⟨c37, hB⟩ | ⟨c37, hB⟩
                · obtain ⟨y38, k39, hB⟩ := kb_inv hB
                  replace k39 := run_law07_awake k39
                  try simp only [Iqe, Iqf, Lqe, Lqf, Lqg, Lqh, Nqa, Nat.reduceAdd, Tqa, Tqb, Tqc, Eqe, Eqf, Eqg, Eqh, Eqa, Eqb, Eqc, Eqd, Eqi, Eqj, Eqk, Eql, Eqm, Eqn, c28, c37] at k39
                  try dsimp only at hB
                  obtain rfl := Option.some.inj hB
                  subst hr2
                  subst hr3
                  subst hr4
                  simp -implicitDefEqProofs [-getElem?_pos, -Iqa, -Iqb, -Iqc, -Iqd, -Lqa, Lqb, Lqc, Lqd, k2, k4, k6, k8, k10, k12, h14a, h14b, h14c, h14d, k17, k19, k21, c22, pc22, c23, pc23, c24, pc24, c25, pc25, k27, c28, k30, c31, pc31, k33, c34, pc34, k36, c37, k39]
                  rw [drawK_ok _ _ _ (by kernel_rfl)]
                  subst hr5
                  subst hr6
                  simp -implicitDefEqProofs [-getElem?_pos, -Iqa, -Iqb, -Iqc, -Iqd, -Lqa, Lqb, Lqc, Lqd, k2, k4, k6, k8, k10, k12, h14a, h14b, h14c, h14d, k17, k19, k21, c22, pc22, c23, pc23, c24, pc24, c25, pc25, k27, c28, k30, c31, pc31, k33, c34, pc34, k36, c37, k39]
                · obtain rfl := Option.some.inj hB
                  subst hr2
                  subst hr3
                  subst hr4
                  simp -implicitDefEqProofs [-getElem?_pos, -Iqa, -Iqb, -Iqc, -Iqd, -Lqa, Lqb, Lqc, Lqd, k2, k4, k6, k8, k10, k12, h14a, h14b, h14c, h14d, k17, k19, k21, c22, pc22, c23, pc23, c24, pc24, c25, pc25, k27, c28, k30, c31, pc31, k33, c34, pc34, k36, c37]
                  rw [drawK_ok _ _ _ (by kernel_rfl)]
                  subst hr5
                  subst hr6
                  simp -implicitDefEqProofs [-getElem?_pos, -Iqa, -Iqb, -Iqc, -Iqd, -Lqa, Lqb, Lqc, Lqd, k2, k4, k6, k8, k10, k12, h14a, h14b, h14c, h14d, k17, k19, k21, c22, pc22, c23, pc23, c24, pc24, c25, pc25, k27, c28, k30, c31, pc31, k33, c34, pc34, k36, c37]
              · have pc34 := eq_false (of_decide_eq_false c34)
                obtain rfl := Option.some.inj hB
                subst hr2
                subst hr3
                subst hr4
                simp -implicitDefEqProofs [-getElem?_pos, -Iqa, -Iqb, -Iqc, -Iqd, -Lqa, Lqb, Lqc, Lqd, k2, k4, k6, k8, k10, k12, h14a, h14b, h14c, h14d, k17, k19, k21, c22, pc22, c23, pc23, c24, pc24, c25, pc25, k27, c28, k30, c31, pc31, k33, c34, pc34]
                rw [drawK_ok _ _ _ (by kernel_rfl)]
                subst hr5
                subst hr6
                simp -implicitDefEqProofs [-getElem?_pos, -Iqa, -Iqb, -Iqc, -Iqd, -Lqa, Lqb, Lqc, Lqd, k2, k4, k6, k8, k10, k12, h14a, h14b, h14c, h14d, k17, k19, k21, c22, pc22, c23, pc23, c24, pc24, c25, pc25, k27, c28, k30, c31, pc31, k33, c34, pc34]
            · have pc31 := eq_false (of_decide_eq_false c31)
              obtain rfl := Option.some.inj hB
              subst hr2
              subst hr3
              subst hr4
              simp -implicitDefEqProofs [-getElem?_pos, -Iqa, -Iqb, -Iqc, -Iqd, -Lqa, Lqb, Lqc, Lqd, k2, k4, k6, k8, k10, k12, h14a, h14b, h14c, h14d, k17, k19, k21, c22, pc22, c23, pc23, c24, pc24, c25, pc25, k27, c28, k30, c31, pc31]
              rw [drawK_ok _ _ _ (by kernel_rfl)]
              subst hr5
              subst hr6
              simp -implicitDefEqProofs [-getElem?_pos, -Iqa, -Iqb, -Iqc, -Iqd, -Lqa, Lqb, Lqc, Lqd, k2, k4, k6, k8, k10, k12, h14a, h14b, h14c, h14d, k17, k19, k21, c22, pc22, c23, pc23, c24, pc24, c25, pc25, k27, c28, k30, c31, pc31]
          · obtain rfl := Option.some.inj hB
            subst hr2
            subst hr3
            subst hr4
            simp -implicitDefEqProofs [-getElem?_pos, -Iqa, -Iqb, -Iqc, -Iqd, -Lqa, Lqb, Lqc, Lqd, k2, k4, k6, k8, k10, k12, h14a, h14b, h14c, h14d, k17, k19, k21, c22, pc22, c23, pc23, c24, pc24, c25, pc25, k27, c28]
            rw [drawK_ok _ _ _ (by kernel_rfl)]
            subst hr5
            subst hr6
            simp -implicitDefEqProofs [-getElem?_pos, -Iqa, -Iqb, -Iqc, -Iqd, -Lqa, Lqb, Lqc, Lqd, k2, k4, k6, k8, k10, k12, h14a, h14b, h14c, h14d, k17, k19, k21, c22, pc22, c23, pc23, c24, pc24, c25, pc25, k27, c28]
        · have pc25 := eq_false (of_decide_eq_false c25)
          obtain rfl := Option.some.inj hB
          subst hr2
          subst hr3
          subst hr4
          simp -implicitDefEqProofs [-getElem?_pos, -Iqa, -Iqb, -Iqc, -Iqd, -Lqa, Lqb, Lqc, Lqd, k2, k4, k6, k8, k10, k12, h14a, h14b, h14c, h14d, k17, k19, k21, c22, pc22, c23, pc23, c24, pc24, c25, pc25]
          rw [drawK_ok _ _ _ (by kernel_rfl)]
          subst hr5
          subst hr6
          simp -implicitDefEqProofs [-getElem?_pos, -Iqa, -Iqb, -Iqc, -Iqd, -Lqa, Lqb, Lqc, Lqd, k2, k4, k6, k8, k10, k12, h14a, h14b, h14c, h14d, k17, k19, k21, c22, pc22, c23, pc23, c24, pc24, c25, pc25]
      · have pc24 := eq_false (of_decide_eq_false c24)
        obtain rfl := Option.some.inj hB
        subst hr2
        subst hr3
        subst hr4
        simp -implicitDefEqProofs [-getElem?_pos, -Iqa, -Iqb, -Iqc, -Iqd, -Lqa, Lqb, Lqc, Lqd, k2, k4, k6, k8, k10, k12, h14a, h14b, h14c, h14d, k17, k19, k21, c22, pc22, c23, pc23, c24, pc24]
        rw [drawK_ok _ _ _ (by kernel_rfl)]
        subst hr5
        subst hr6
        simp -implicitDefEqProofs [-getElem?_pos, -Iqa, -Iqb, -Iqc, -Iqd, -Lqa, Lqb, Lqc, Lqd, k2, k4, k6, k8, k10, k12, h14a, h14b, h14c, h14d, k17, k19, k21, c22, pc22, c23, pc23, c24, pc24]
    · have pc23 := eq_false (of_decide_eq_false c23)
      obtain rfl := Option.some.inj hB
      subst hr2
      subst hr3
      subst hr4
      simp -implicitDefEqProofs [-getElem?_pos, -Iqa, -Iqb, -Iqc, -Iqd, -Lqa, Lqb, Lqc, Lqd, k2, k4, k6, k8, k10, k12, h14a, h14b, h14c, h14d, k17, k19, k21, c22, pc22, c23, pc23]
      rw [drawK_ok _ _ _ (by kernel_rfl)]
      subst hr5
      subst hr6
      simp -implicitDefEqProofs [-getElem?_pos, -Iqa, -Iqb, -Iqc, -Iqd, -Lqa, Lqb, Lqc, Lqd, k2, k4, k6, k8, k10, k12, h14a, h14b, h14c, h14d, k17, k19, k21, c22, pc22, c23, pc23]
  · have pc22 := eq_false (of_decide_eq_false c22)
    obtain rfl := Option.some.inj hB
    subst hr2
    subst hr3
    subst hr4
    simp -implicitDefEqProofs [-getElem?_pos, -Iqa, -Iqb, -Iqc, -Iqd, -Lqa, Lqb, Lqc, Lqd, k2, k4, k6, k8, k10, k12, h14a, h14b, h14c, h14d, k17, k19, k21, c22, pc22]
    rw [drawK_ok _ _ _ (by kernel_rfl)]
    subst hr5
    subst hr6
    simp -implicitDefEqProofs [-getElem?_pos, -Iqa, -Iqb, -Iqc, -Iqd, -Lqa, Lqb, Lqc, Lqd, k2, k4, k6, k8, k10, k12, h14a, h14b, h14c, h14d, k17, k19, k21, c22, pc22]
end Go.Am
/-
The plain law of DeclarationSigns.
-/
namespace Go.Am
open Go
theorem s_ref07_Check {keys : List Int} {d : Decl} (h : DOk d) {k : Int} (hk : keys[d.f0.toNat]? = some k) : G_ref07_Check keys d = some (if tagV k (bytesV d) = d.f3 then 0 else 8) := by
  have hlt := (List.getElem?_eq_some_iff.1 hk).1
  have h0 := h.1.1
  have hl := bytesV_len h
  refine g_ref07_Check ?_
  unfold B_ref07_Check
  rw [s_ref07_Plain d h.2.1.2, plainE_ok h, kb_some]
  have : ¬ (keys.length : Int) ≤ d.f0 := by omega
  simp only [decide_true, cnd_true, this, decide_false, cnd_false]
  rw [getI_of h0.1 hk, kb_some, s_ref07_Bytes h, kb_some, s_ref07_Tag k (by omega), kb_some]
  by_cases c : tagV k (bytesV d) = d.f3 <;> simp [c, cnd_true, cnd_false]
theorem s_ref07_Same (d e : Decl) (hd : d.f2.Fine) : ∃ v, G_ref07_Same d e = some v ∧ (v = true ↔ d = e) := by
  obtain ⟨v, h1, h2⟩ := s_ref02_Same d.f2 hd e.f2
  obtain ⟨a, b, c, t⟩ := d
  obtain ⟨a', b', c', t'⟩ := e
  dsimp only at h1 h2
  by_cases e1 : a = a'
  case neg => exact ⟨false, g_ref07_Same (by unfold B_ref07_Same; simp [e1, cnd_false]), by simp [e1]⟩
  by_cases e2 : b = b'
  case neg => exact ⟨false, g_ref07_Same (by unfold B_ref07_Same; simp [e1, e2, cnd_true, cnd_false]), by simp [e2]⟩
  by_cases e3 : t = t'
  case neg => exact ⟨false, g_ref07_Same (by unfold B_ref07_Same; simp [e1, e2, e3, cnd_true, cnd_false]), by simp [e3]⟩
  exact ⟨v, g_ref07_Same (by unfold B_ref07_Same; simp [e1, e2, e3, cnd_true, h1, kb_some]), by rw [h2]; simp [e1, e2, e3]⟩
theorem law_DeclarationSigns (l : List Int) (hl : ∀ k ∈ l, in64 k) : B_law07_DeclarationSigns l = some true := by
  obtain ⟨t0, e0, ht0⟩ := s_New hl
  obtain ⟨n, t1, e1, hn, ht1⟩ := s_Range ht0 (a := 1) (b := 10) (by omega) (by omega) (by omega)
  obtain ⟨keys, t2, e2, hk, ht2⟩ := s_Keys ht1 n hn.1 hn.2
  obtain ⟨v, t3, e3, hv, ht3⟩ := s_N ht2 (n := (keys.length : Int)) (by omega) (by omega)
  have hlt : v.toNat < keys.length := by omega
  obtain ⟨q, t4, e4, hq, ht4⟩ := s_Range ht3 (a := 1) (b := 30) (by omega) (by omega) (by omega)
  obtain ⟨x, t5, e5, hx, ht5⟩ := s_Declared ht4 (keys.length : Int) (by omega) (by omega)
  have hd : ∀ T, DOk ⟨v, q, x, T⟩ := fun T => ⟨⟨by show 0 ≤ v ∧ v < 10; omega, by show 1 ≤ q ∧ q ≤ 30; omega⟩, hx⟩
  have hb : ∀ T : Int, bytesV ⟨v, q, x, T⟩ = bytesV ⟨v, q, x, 0⟩ := fun _ => rfl
  have hkey : keys[v.toNat]? = some keys[v.toNat] := by simp [hlt]
  generalize hT : tagV keys[v.toNat] (bytesV ⟨v, q, x, 0⟩) = T
  have hTr := hash_rng (tagHead keys[v.toNat] ++ bytesV ⟨v, q, x, 0⟩)
  have hTr' : 0 ≤ T ∧ T < 18446744073709551616 := by rw [← hT]; exact hTr
  have hf : DFull ⟨v, q, x, T⟩ := ⟨hd T, hTr'⟩
  have c1 := s_Check (keys := keys) (hd T) hkey
  have c2 := s_ref07_Check (keys := keys) (hd T) hkey
  rw [hb, hT] at c1 c2
  dsimp only at c1 c2
  rw [if_pos rfl] at c1 c2
  unfold B_law07_DeclarationSigns
  rw [e0, kb_some, e1, kb_some]
  dsimp only
  rw [e2, kb_some]
  dsimp only
  rw [e3, kb_some]
  dsimp only
  rw [e4, kb_some]
  dsimp only
  rw [e5, kb_some]
  dsimp only
  rw [getI_some hv.1 hlt, kb_some, s_declaration_Sign (hd 0), kb_some, hT]
  dsimp only
  rw [s_declaration_Text hf, kb_some, s_decl_Parse hf, kb_some]
  simp only [decide_true, cnd_true]
  obtain ⟨v1, g1, g1'⟩ := s_ref02_Same x hx.1.2 x
  obtain ⟨v2, g2, g2'⟩ := s_ref07_Same ⟨v, q, x, T⟩ ⟨v, q, x, T⟩ hx.1.2
  have w1 : v1 = true := g1'.2 rfl
  have w2 : v2 = true := g2'.2 rfl
  subst w1
  subst w2
  rw [g1, kb_some, cnd_true, c1, kb_some]
  simp only [decide_true, cnd_true]
  rw [c2, kb_some]
  simp only [decide_true, cnd_true]
  rw [g2, kb_some, cnd_true, s_awake07, kb_some]
end Go.Am
/-
Arguments of a call, opened: trusts and configurations that lie in memory, as pure values.
-/
namespace Go.Am
open Go Go.Proofs
set_option maxRecDepth 100000
section
variable {H : Type} {enc : TypeId × Value → H} {P : Program} {w : World} {spare : Nat → Bool} {held : Bool}
/-- cells in memory that stand for pure ones -/
def Reps (w : World) (ps : List PV) (cs : List Value) : Prop := ps.length = cs.length ∧ ∀ (j : Nat) p v, ps[j]? = some p → cs[j]? = some v → RepP w.heap (I0 w) p v
theorem RepRow_append {h : Heap} {I : Nat → Prop} {b : Nat} : ∀ {off : Nat} {p q : List PV}, RepRow h I b off p → RepRow h I b (off + p.length) q → RepRow h I b off (p ++ q)
  | off, [], q, _, h2 => by simpa using h2
  | off, x :: p, q, h1, h2 => ⟨h1.1, RepRow_append h1.2 (by rw [show off + 1 + p.length = off + (x :: p).length by simp; omega]; exact h2)⟩
theorem addr_zero (a : Addr) : a.add 0 = a := by simp [Addr.add]
theorem addr_none (b o j : Nat) : Addr.add ⟨b, o, none⟩ j = ⟨b, o + j, none⟩ := by
  unfold Addr.add
  split
  · rename_i h; subst h; rfl
  · rfl
/-- no list in it is longer than memory -/
def Lite (P : Program) (t : TypeId) (d : DataW H) : Prop := ∀ n ∈ d.weights P t, n ≤ reachBytes
theorem lite_all {e : TypeId} : ∀ {l : List (DataW H)}, (∀ n ∈ DataW.weightsAll P e l, n ≤ reachBytes) → ∀ d ∈ l, Lite P e d
  | [], _, d, hd => by cases hd
  | x :: r, h, d, hd => by
    unfold DataW.weightsAll at h
    cases hd with
    | head => exact fun n hn => h n (List.mem_append.2 (.inl hn))
    | tail _ hd => exact lite_all (fun n hn => h n (List.mem_append.2 (.inr hn))) d hd
theorem lite_each : ∀ {ts : List TypeId} {ds : List (DataW H)}, (∀ n ∈ DataW.weightsEach P ts ds, n ≤ reachBytes) → ∀ (i : Nat) t d, ts[i]? = some t → ds[i]? = some d → Lite P t d
  | [], ds, h, i, t, d, ht, hd => by simp at ht
  | _ :: _, [], h, i, t, d, ht, hd => by simp at hd
  | t' :: ts, d' :: ds, h, i, t, d, ht, hd => by
    unfold DataW.weightsEach at h
    cases i with
    | zero =>
      simp at ht hd; subst ht; subst hd
      exact fun n hn => h n (List.mem_append.2 (.inl hn))
    | succ i => exact lite_each (fun n hn => h n (List.mem_append.2 (.inr hn))) i t d (by simpa using ht) (by simpa using hd)
theorem lite_slice {t e : TypeId} (ht : P.underlying t = some (.slice e)) {a b : List (DataW H)} (h : Lite P t (.slice a b)) : a.length * P.bytesOf e ≤ reachBytes ∧ ∀ d ∈ a, Lite P e d := by
  unfold Lite at h
  unfold DataW.weights at h
  rw [ht] at h
  simp only [List.mem_cons, List.mem_append] at h
  refine ⟨Nat.le_trans (Nat.mul_le_mul_right _ (Nat.le_add_right _ _)) (h _ (.inl rfl)), lite_all fun n hn => h n (.inr (.inl hn))⟩
theorem open_slice {X : Type} (E : List X → List PV) (cell : X → List PV) {z : Nat} (hz : 0 < z) (h0 : E [] = []) (h1 : ∀ x l, E (x :: l) = cell x ++ E l) (hc : ∀ x, (cell x).length = z) (Ok : X → Prop) {t e : TypeId} {fuel : Nat} {v : Value} {x : DataW H × List MemPlace}
    (ht : P.underlying t = some (.slice e)) (hsz : P.cellsOf e = z)
    (he : ∀ n cs y, n < fuel → DataW.trod enc P w 0 spare held n e cs = some y → Lite P e y.1 → ∃ q : X, Ok q ∧ Reps w (cell q) cs)
    (h : DataW.trod enc P w 0 spare held fuel t [v] = some x) (hL : Lite P t x.1) : ∃ l : List X, ((∀ q ∈ l, Ok q) ∧ l.length * P.bytesOf e ≤ reachBytes) ∧ RepP w.heap (I0 w) (.sl l.length (E l)) v := by
  rcases DataW.trod_slice ht h with ⟨hcs, _⟩ | ⟨a, len, cap, elems, rest, n, hf, hcs, hxe, hb, hl, hm, hlen, hel, _⟩
  · obtain rfl : v = .slice none 0 0 := by simpa using hcs
    exact ⟨[], ⟨by simp, by simp⟩, none, 0, rfl, Nat.le_refl _, .inl h0⟩
  · obtain rfl : v = .slice (some a) len cap := by simpa using hcs
    rw [hsz] at hel
    rw [hxe] at hL
    obtain ⟨hL1, hL2⟩ := lite_slice ht hL
    rw [List.length_map, hlen] at hL1
    have each : ∀ i, i < len → ∃ q : X, Ok q ∧ ∀ j p, (cell q)[j]? = some p → ∃ u, w.cell? ((a.add (i * z)).add j) = some u ∧ RepP w.heap (I0 w) p u := by
      intro i hi
      have h2 := hel i hi
      rw [List.getElem?_eq_getElem (by omega), Option.bind_eq_some_iff] at h2
      obtain ⟨cs, hc1, hc2⟩ := h2
      obtain ⟨_, hcl, hcc⟩ := World.cells?_some hc1
      obtain ⟨q, hq, hr⟩ := he n cs _ (by omega) hc2 (hL2 _ (List.mem_map_of_mem (List.getElem_mem _)))
      refine ⟨q, hq, fun j p hp => ?_⟩
      have hj : j < z := by rw [← hc q]; exact (List.getElem?_eq_some_iff.1 hp).1
      have hj2 : j < cs.length := by omega
      refine ⟨cs[j], ?_, hr.2 j p _ hp (by simp [hj2])⟩
      rw [hcc j hj]
      simp [hj2]
    by_cases hlen0 : len = 0
    · subst hlen0
      exact ⟨[], ⟨by simp, by simp⟩, some a, cap, rfl, hl, .inl h0⟩
    · obtain ⟨q0, _, hq0⟩ := each 0 (by omega)
      have hcell : 0 < (cell q0).length := by rw [hc]; exact hz
      obtain ⟨u0, hu0, _⟩ := hq0 0 (cell q0)[0] (by simp [hcell])
      rw [Nat.zero_mul, addr_zero, addr_zero] at hu0
      obtain ⟨hblk, hspot⟩ := cell_block hu0
      obtain ⟨b, o, s⟩ := a
      simp only at hspot hblk
      subst hspot
      have hd : ∀ d k, k + d = len → ∃ l : List X, l.length = d ∧ (∀ q ∈ l, Ok q) ∧ RepRow w.heap (I0 w) b (o + k * z) (E l) := by
        intro d
        induction d with
        | zero => intro k _; exact ⟨[], rfl, by simp, by rw [h0]; trivial⟩
        | succ d ih =>
          intro k hk
          obtain ⟨l, hll, hlo, hlr⟩ := ih (k + 1) (by omega)
          obtain ⟨q, hq, hqr⟩ := each k (by omega)
          refine ⟨q :: l, by simp [hll], fun y hy => ?_, ?_⟩
          · cases hy with
            | head => exact hq
            | tail _ hy => exact hlo y hy
          · rw [h1]
            refine RepRow_append (.of_get fun j p hp => ?_) ?_
            · obtain ⟨u, hu, hr⟩ := hqr j p hp
              rw [addr_none, addr_none, cell?_eq] at hu
              exact ⟨u, hu, hr⟩
            · rw [hc, show o + k * z + z = o + (k + 1) * z by rw [Nat.add_mul]; omega]
              exact hlr
      obtain ⟨l, hll, hlo, hlr⟩ := hd len 0 (by omega)
      rw [Nat.zero_mul, Nat.add_zero] at hlr
      refine ⟨l, ⟨hlo, by rw [hll]; exact hL1⟩, ?_⟩
      rw [hll]
      exact ⟨some ⟨b, o, none⟩, cap, rfl, hl, .inr ⟨b, o, rfl, hblk, hlr⟩⟩
end
section
variable {H : Type} {enc : TypeId × Value → H} {w : World} {spare : Nat → Bool} {held : Bool}
theorem wf_in64 {k : Int} (h : (Lit.int .i64 k).wf = true) : in64 k := by
  simp [Lit.wf, IntKind.min, IntKind.max, IntKind.signed, IntKind.bits] at h
  unfold in64
  omega
theorem reps_one {p : PV} {v : Value} (h : RepP w.heap (I0 w) p v) : Reps w [p] [v] := by
  refine ⟨rfl, fun j q u hq hu => ?_⟩
  cases j with
  | zero => simp at hq hu; subst hq; subst hu; exact h
  | succ j => simp at hq
theorem open_intl {fuel : Nat} {v : Value} {x : DataW H × List MemPlace} (h : DataW.trod enc Tryz.prog w 0 spare held fuel 22 [v] = some x) (hL : Lite Tryz.prog 22 x.1) : ∃ l : List Int, ((∀ k ∈ l, in64 k) ∧ l.length * Tryz.prog.bytesOf 3 ≤ reachBytes) ∧ RepP w.heap (I0 w) (.sl l.length (ints l)) v :=
  open_slice ints (fun k => [.int .i64 k]) (z := 1) (by omega) rfl (fun _ _ => rfl) (fun _ => rfl) in64 Tryz.underlying22 (by kernel_rfl)
    (fun n cs y _ hy _ => by
      obtain ⟨m, rfl, _, hw⟩ := DataW.trod_int Tryz.underlying3 hy
      exact ⟨m, wf_in64 hw, reps_one rfl⟩) h hL
/-! ### arguments -/
theorem trod_in {P : Program} {t : TypeId} {v : Value} {d : DataW H} {ps : List MemPlace} (h : DataW.Trod enc P w 0 spare held t v d ps) : ∀ x ∈ ps, x.block < w.heap.size := by
  obtain ⟨m, hm⟩ := h
  exact DataW.trod_lt m _ _ _ hm
theorem arg_intl {r : Reach} {b0 : Nat} {v : Value} {d : DataW H} {ps : List MemPlace} (hv : Value.okWide Tryz.prog w r b0 22 v) (hd : DataW.Trod enc Tryz.prog w 0 spare held 22 v d ps) (hL : Lite Tryz.prog 22 d) :
    ∃ l : List Int, (∀ k ∈ l, in64 k) ∧ RepV w.heap (I0 w) G0 M0 (.pv (.sl l.length (ints l))) v := by
  obtain ⟨a, n, c, rfl⟩ := WideShapes.okWide_slice Tryz.underlying22 hv
  obtain ⟨fuel, hf⟩ := hd
  obtain ⟨l, ⟨h1, _⟩, h2⟩ := open_intl hf hL
  exact ⟨l, h1, h2⟩
end
end Go.Am
/-
A sentinel error that a row lists: its variable holds an interface value.
-/
namespace Go.Am
open Go Go.RowKit
theorem iface_laid {P : Program} {W : World} {name nm : String} {x : DataW Unit} {rest : List (String × DataW Unit)} {g : Nat} {t : TypeId} {ms : Array (String × TypeId)}
    (hg : P.globalNamed name = some g) (hty : (P.globals[g]?).map (·.type) = some t) (ht : P.underlying t = some (.interface ms))
    (h : laidMet P ((name, .iface nm x) :: rest) W) : ∃ u p, W.var? P name = some #[.iface u p] := by
  obtain ⟨ps, ⟨g', t', cs, fuel, p, q, hg', ht', hvar, hd, _, _⟩, _⟩ := h
  obtain rfl := Option.some.inj (hg.symm.trans hg')
  obtain rfl := Option.some.inj (hty.symm.trans ht')
  obtain ⟨f1, u, v, e, _, _⟩ := iface_of_trod ht hd
  refine ⟨u, v, ?_⟩
  rw [hvar]
  have : cs = #[.iface u v] := by
    cases cs
    simpa using e
  rw [this]
end Go.Am
