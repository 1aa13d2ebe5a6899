/-
Part 4 of the road to the statement: Gf_notation_reader_rest, Gf_notation_Parse, N3c, N3d, V3e, Gf_declaration_Plain, Gf_declaration_Bytes, Gf_declaration_Check, Gf_ref07_Plain, Gf_ref07_Bytes, Gf_ref07_Sign, Gf_make_Keys, Gf_make_Declared, Gf_make_Declaration, V7c, Gf_declaration_copied, Gf_declaration_Sign, Gf_declaration_Proves, V7e, Gf_internal_strconv_isPowerOfTwo, Gf_bits_TrailingZeros64, Gf_bits_TrailingZeros, Gf_strconv_FormatUint, HFmt.
-/
import Derived.Test.YthkahljlmncdiaaGreatDoorSg3
set_option linter.unusedVariables false
set_option linter.unusedSimpArgs false
namespace Go.Am
open Go Go.Proofs
set_option maxRecDepth 4000
set_option maxHeartbeats 4000000
open Int renaming ofNat_lt → Iqa, ofNat_le → Iqb, natCast_eq_zero → Iqc, natCast_pos → Iqd, cast_ofNat_Int → Iqe, natCast_zero → Iqf
open List renaming length_eq_zero_iff → Lqa, getElem?_cons_zero → Lqb, getElem?_cons_succ → Lqc, getElem?_nil → Lqd, length_cons → Lqe, length_nil → Lqf, nil_append → Lqg, cons_append → Lqh
open Nat renaming zero_add → Nqa
open Tru renaming thr_mk → Tqa, nodes_mk → Tqb, inner_mk → Tqc
open Go.Am renaming es_api_Declaration_cons → Eqa, es_api_Declaration_nil → Eqb, es_api_Evidence_cons → Eqc, es_api_Evidence_nil → Eqd, ints_cons → Eqe, ints_nil → Eqf, encTs_cons → Eqg, encTs_nil → Eqh, es_str_cons → Eqi, es_str_nil → Eqj, es_u64_cons → Eqk, es_u64_nil → Eql, es_u8_cons → Eqm, es_u8_nil → Eqn
noncomputable def B_notation_reader_rest_0 (p0 : S_notation_reader) (p1 : Int) : Option ((List UInt8) × (List UInt8) × Int × Bool) :=
  kb (G_notation_reader_take p0 ([111, 102] : List UInt8)) fun y1 =>
  cnd y1.1 (
    kb (G_notation_reader_take y1.2 ([40] : List UInt8)) fun y4 =>
    some (y4.2.f0, y4.2.f1, y4.2.f2, (!y4.1))) (
    some (y1.2.f0, y1.2.f1, y1.2.f2, true))
def J_notation_reader_rest_0 (p0 : S_notation_reader) (p1 : Int) (q : St) : Prop := (q (.t 0) = .ptr (.arg 0) 0 0 ∧ q (.i (.arg 0)) = .box 0 [(.pv (.str p0.f0)), (.pv (.str p0.f1)), (i64 p0.f2)]) ∧ (∃ (g : Nat), q (.t 4) = .ptr (.site 0 0 0) g 0 ∧ q (.i (.site 0 0 0)) = .box g [(i64 0), .nilsl, .nilsl]) ∧ (∃ (g : Nat), q (.t 6) = .ptr (.site 1 2 0) g 0 ∧ q (.i (.site 1 2 0)) = .box g [(i64 p1), .nilsl, .nilsl])
def Q_notation_reader_rest_0 (p0 : S_notation_reader) (p1 : Int) (oba0_0_0 : (List UInt8)) (oba0_1_0 : (List UInt8)) (oba0_2_0 : Int) (o20_0 : Bool) (q : St) : Prop := q (.t 20) = (bl o20_0) ∧ (q (.t 0) = .ptr (.arg 0) 0 0 ∧ q (.i (.arg 0)) = .box 0 [(.pv (.str oba0_0_0)), (.pv (.str oba0_1_0)), (i64 oba0_2_0)]) ∧ (∃ (g : Nat), q (.t 4) = .ptr (.site 0 0 0) g 0 ∧ q (.i (.site 0 0 0)) = .box g [(i64 0), .nilsl, .nilsl]) ∧ (∃ (g : Nat), q (.t 6) = .ptr (.site 1 2 0) g 0 ∧ q (.i (.site 1 2 0)) = .box g [(i64 p1), .nilsl, .nilsl])
theorem P_notation_reader_rest_0 {p0 : S_notation_reader} {p1 : Int} {cc : Code} (hcc : cc = (Code.fst (Code.fst (Code.snd (Code.snd ((Tryz.f75.body).getD .skip)))))) {s : St} {z : Option (Ex × St)} (hz : C Tryz.prog cf cc s = z) {r : ((List UInt8) × (List UInt8) × Int × Bool)} (hI : J_notation_reader_rest_0 p0 p1 s) (hB : B_notation_reader_rest_0 p0 p1 = some r) : Res z (postG (fun a q => Q_notation_reader_rest_0 p0 p1 a.1 a.2.1 a.2.2.1 a.2.2.2 q) r) := by
  subst hcc
  subst hz
  simp only [J_notation_reader_rest_0] at hI
  obtain ⟨⟨q1, q2⟩, ⟨g4, q3, q4⟩, ⟨g6, q5, q6⟩⟩ := hI
  simp only [Code.fst, Code.snd, Tryz.f75, Option.getD_some]
  unfold B_notation_reader_rest_0 at hB
  obtain ⟨y1, k2, hB⟩ := kb_inv hB
  replace k2 := run_notation_reader_take k2
  try simp only [Iqe, Iqf, Lqe, Lqf, Lqg, Lqh, Nqa, Nat.reduceAdd, Tqa, Tqb, Tqc, Eqe, Eqf, Eqg, Eqh, Eqa, Eqb, Eqc, Eqd, Eqi, Eqj, Eqk, Eql, Eqm, Eqn] at k2
  try dsimp only at hB
  rcases cnd_inv hB with ⟨c3, hB⟩ | ⟨c3, hB⟩
  · obtain ⟨y4, k5, hB⟩ := kb_inv hB
    replace k5 := run_notation_reader_take k5
    try simp only [Iqe, Iqf, Lqe, Lqf, Lqg, Lqh, Nqa, Nat.reduceAdd, Tqa, Tqb, Tqc, Eqe, Eqf, Eqg, Eqh, Eqa, Eqb, Eqc, Eqd, Eqi, Eqj, Eqk, Eql, Eqm, Eqn, c3] at k5
    try dsimp only at hB
    obtain rfl := Option.some.inj hB
    try simp -implicitDefEqProofs [-getElem?_pos, -Iqa, -Iqb, -Iqc, -Iqd, -Lqa, Lqb, Lqc, Lqd, q1, q2, q3, q4, q5, q6, k2, c3, k5]
    refine Res.g ?_
    simp -implicitDefEqProofs [-getElem?_pos, -Iqa, -Iqb, -Iqc, -Iqd, -Lqa, Lqb, Lqc, Lqd, and_assoc, Q_notation_reader_rest_0, ownAt, q1, q2, q3, q4, q5, q6, k2, c3, k5]
  · obtain rfl := Option.some.inj hB
    try simp -implicitDefEqProofs [-getElem?_pos, -Iqa, -Iqb, -Iqc, -Iqd, -Lqa, Lqb, Lqc, Lqd, q1, q2, q3, q4, q5, q6, k2, c3]
    refine Res.g ?_
    simp -implicitDefEqProofs [-getElem?_pos, -Iqa, -Iqb, -Iqc, -Iqd, -Lqa, Lqb, Lqc, Lqd, and_assoc, Q_notation_reader_rest_0, ownAt, q1, q2, q3, q4, q5, q6, k2, c3]
noncomputable def B_notation_reader_rest_1 (pba0_0_1 : (List UInt8)) (pba0_1_1 : (List UInt8)) (pba0_2_1 : Int) (p1 : Int) (pb1_2_1_1 : (List Int)) (pb1_2_2_1 : (List Tru)) (p34_1 : Bool) (p7_1 : Int) : Option (Stp ((List UInt8) × (List UInt8) × Int × (List Int) × (List Tru)) ((List UInt8) × (List UInt8) × Int)) :=
  cnd p34_1 (
    kb (G_notation_reader_rest (S_notation_reader.mk pba0_0_1 pba0_1_1 pba0_2_1) p7_1) fun y12 =>
    cnd y12.2.1 (
      kb (appK pb1_2_2_1 ([y12.1] : List Tru) 56) fun L15 =>
      some (.go (y12.2.2.f0, y12.2.2.f1, y12.2.2.f2, pb1_2_1_1, L15))) (
      some (.ret (y12.2.2.f0, y12.2.2.f1, y12.2.2.f2)))) (
    kb (appK pb1_2_1_1 ([p7_1] : List Int) 8) fun L17 =>
    some (.go (pba0_0_1, pba0_1_1, pba0_2_1, L17, pb1_2_2_1)))
def J_notation_reader_rest_1 (pba0_0_1 : (List UInt8)) (pba0_1_1 : (List UInt8)) (pba0_2_1 : Int) (p1 : Int) (pb1_2_1_1 : (List Int)) (pb1_2_2_1 : (List Tru)) (p34_1 : Bool) (p7_1 : Int) (q : St) : Prop := q (.t 34) = (bl p34_1) ∧ q (.t 7) = (i64 p7_1) ∧ (q (.t 0) = .ptr (.arg 0) 0 0 ∧ q (.i (.arg 0)) = .box 0 [(.pv (.str pba0_0_1)), (.pv (.str pba0_1_1)), (i64 pba0_2_1)]) ∧ (∃ (g : Nat), q (.t 4) = .ptr (.site 0 0 0) g 0 ∧ q (.i (.site 0 0 0)) = .box g [(i64 0), .nilsl, .nilsl]) ∧ (∃ (g : Nat) (w0 : AV) (w1 : AV), q (.t 6) = .ptr (.site 1 2 0) g 0 ∧ q (.i (.site 1 2 0)) = .box g [(i64 p1), w0, w1] ∧ (ownAt q w0 (.site 12 4 0) false 1 pb1_2_1_1.length (ints pb1_2_1_1) ∨ (w0 = .nilsl ∧ pb1_2_1_1 = [])) ∧ (ownAt q w1 (.site 11 4 0) false 3 pb1_2_2_1.length (encTs pb1_2_2_1) ∨ (w1 = .nilsl ∧ pb1_2_2_1 = [])))
def Q_notation_reader_rest_1 (pba0_0_1 : (List UInt8)) (pba0_1_1 : (List UInt8)) (pba0_2_1 : Int) (p1 : Int) (pb1_2_1_1 : (List Int)) (pb1_2_2_1 : (List Tru)) (p34_1 : Bool) (p7_1 : Int) (oba0_0_1 : (List UInt8)) (oba0_1_1 : (List UInt8)) (oba0_2_1 : Int) (ob1_2_1_1 : (List Int)) (ob1_2_2_1 : (List Tru)) (q : St) : Prop := (q (.t 0) = .ptr (.arg 0) 0 0 ∧ q (.i (.arg 0)) = .box 0 [(.pv (.str oba0_0_1)), (.pv (.str oba0_1_1)), (i64 oba0_2_1)]) ∧ (∃ (g : Nat), q (.t 4) = .ptr (.site 0 0 0) g 0 ∧ q (.i (.site 0 0 0)) = .box g [(i64 0), .nilsl, .nilsl]) ∧ (∃ (g : Nat) (w0 : AV) (w1 : AV), q (.t 6) = .ptr (.site 1 2 0) g 0 ∧ q (.i (.site 1 2 0)) = .box g [(i64 p1), w0, w1] ∧ (ownAt q w0 (.site 12 4 0) false 1 ob1_2_1_1.length (ints ob1_2_1_1) ∨ (w0 = .nilsl ∧ ob1_2_1_1 = [])) ∧ (ownAt q w1 (.site 11 4 0) false 3 ob1_2_2_1.length (encTs ob1_2_2_1) ∨ (w1 = .nilsl ∧ ob1_2_2_1 = [])))
def QR_notation_reader_rest_1 (pba0_0_1 : (List UInt8)) (pba0_1_1 : (List UInt8)) (pba0_2_1 : Int) (p1 : Int) (pb1_2_1_1 : (List Int)) (pb1_2_2_1 : (List Tru)) (p34_1 : Bool) (p7_1 : Int) (rba0_0_1 : (List UInt8)) (rba0_1_1 : (List UInt8)) (rba0_2_1 : Int) (q : St) : Prop := q (.t 5) = (bl false) ∧ (q (.i (.arg 0)) = .box 0 [(.pv (.str rba0_0_1)), (.pv (.str rba0_1_1)), (i64 rba0_2_1)]) ∧ (∃ (g : Nat) (w0 : AV) (w1 : AV), q (.t 4) = .ptr (.site 0 0 0) g 0 ∧ q (.i (.site 0 0 0)) = .box g [(i64 p1), w0, w1] ∧ (ownAt q w0 (.site 12 4 0) false 1 pb1_2_1_1.length (ints pb1_2_1_1) ∨ (w0 = .nilsl ∧ pb1_2_1_1 = [])) ∧ (ownAt q w1 (.site 11 4 0) false 3 pb1_2_2_1.length (encTs pb1_2_2_1) ∨ (w1 = .nilsl ∧ pb1_2_2_1 = [])))
theorem P_notation_reader_rest_1 {pba0_0_1 : (List UInt8)} {pba0_1_1 : (List UInt8)} {pba0_2_1 : Int} {p1 : Int} {pb1_2_1_1 : (List Int)} {pb1_2_2_1 : (List Tru)} {p34_1 : Bool} {p7_1 : Int} {cc : Code} (hcc : cc = (Code.snd (Code.fst (Code.snd (Code.snd (Code.fst (Code.fst (Code.fst (Code.snd (Code.snd (Code.snd ((Tryz.f75.body).getD .skip)))))))))))) {s : St} {z : Option (Ex × St)} (hz : C Tryz.prog cf cc s = z) {r : (Stp ((List UInt8) × (List UInt8) × Int × (List Int) × (List Tru)) ((List UInt8) × (List UInt8) × Int))} (hI : J_notation_reader_rest_1 pba0_0_1 pba0_1_1 pba0_2_1 p1 pb1_2_1_1 pb1_2_2_1 p34_1 p7_1 s) (hB : B_notation_reader_rest_1 pba0_0_1 pba0_1_1 pba0_2_1 p1 pb1_2_1_1 pb1_2_2_1 p34_1 p7_1 = some r) : Res z (postS (fun a q => Q_notation_reader_rest_1 pba0_0_1 pba0_1_1 pba0_2_1 p1 pb1_2_1_1 pb1_2_2_1 p34_1 p7_1 a.1 a.2.1 a.2.2.1 a.2.2.2.1 a.2.2.2.2 q) (fun a q => QR_notation_reader_rest_1 pba0_0_1 pba0_1_1 pba0_2_1 p1 pb1_2_1_1 pb1_2_2_1 p34_1 p7_1 a.1 a.2.1 a.2.2 q) r) := by
  subst hcc
  subst hz
  simp only [J_notation_reader_rest_1] at hI
  obtain ⟨q1, q2, ⟨q3, q4⟩, ⟨g6, q5, q6⟩, ⟨g8, v8_w0, v8_w1, q7, q8, a8_w0, a8_w1⟩⟩ := hI
  simp only [Code.fst, Code.snd, Tryz.f75, Option.getD_some]
  generalize hr8 : Code.region 8 _ _ = rr8
  generalize hr11 : Code.region 11 _ _ = rr11
  generalize hr12 : Code.region 12 _ _ = rr12
  unfold B_notation_reader_rest_1 at hB
  rcases a8_w0 with ⟨ga8_w0, rfl, oa8_w0⟩ | ⟨rfl, ea8_w0⟩
  · rcases a8_w1 with ⟨ga8_w1, rfl, oa8_w1⟩ | ⟨rfl, ea8_w1⟩
    · rcases cnd_inv hB with ⟨c11, hB⟩ | ⟨c11, hB⟩
      · obtain ⟨y12, k13, hB⟩ := kb_inv hB
        replace k13 := run_notation_reader_rest k13
        try simp only [Iqe, Iqf, Lqe, Lqf, Lqg, Lqh, Nqa, Nat.reduceAdd, Tqa, Tqb, Tqc, Eqe, Eqf, Eqg, Eqh, Eqa, Eqb, Eqc, Eqd, Eqi, Eqj, Eqk, Eql, Eqm, Eqn, c11] at k13
        try dsimp only at hB
        rcases cnd_inv hB with ⟨c14, hB⟩ | ⟨c14, hB⟩
        · obtain ⟨L15, a16, hB⟩ := kb_inv hB
          obtain ⟨a16z, a16a, a16y⟩ := appK_inv a16
          try (simp only [Lqg] at a16z; subst a16z)
          have a16b := appK_len a16
          have a16c := encTs_appK a16
          have a16d := appK_le a16
          try simp only [Iqe, Iqf, Lqe, Lqf, Lqg, Lqh, Nqa, Nat.reduceAdd, Tqa, Tqb, Tqc, Eqe, Eqf, Eqg, Eqh, Eqa, Eqb, Eqc, Eqd, Eqi, Eqj, Eqk, Eql, Eqm, Eqn, c11, c14] at a16a a16b a16c
          try replace a16b : _ = (1 : Nat) := a16b.symm
          try dsimp only at hB
          obtain rfl := Option.some.inj hB
          subst hr8
          subst hr11
          try simp -implicitDefEqProofs [-getElem?_pos, -Iqa, -Iqb, -Iqc, -Iqd, -Lqa, Lqb, Lqc, Lqd, q1, q2, q3, q4, q5, q6, q7, q8, oa8_w0, oa8_w1, c11, k13, c14, a16a, a16b, a16c, a16d]
          refine Res.sgo ?_
          simp -implicitDefEqProofs [-getElem?_pos, -Iqa, -Iqb, -Iqc, -Iqd, -Lqa, Lqb, Lqc, Lqd, and_assoc, Q_notation_reader_rest_1, ownAt, q1, q2, q3, q4, q5, q6, q7, q8, oa8_w0, oa8_w1, c11, k13, c14, a16a, a16b, a16c, a16d]
        · obtain rfl := Option.some.inj hB
          subst hr8
          try simp -implicitDefEqProofs [-getElem?_pos, -Iqa, -Iqb, -Iqc, -Iqd, -Lqa, Lqb, Lqc, Lqd, q1, q2, q3, q4, q5, q6, q7, q8, oa8_w0, oa8_w1, c11, k13, c14]
          refine Res.sret ?_
          simp -implicitDefEqProofs [-getElem?_pos, -Iqa, -Iqb, -Iqc, -Iqd, -Lqa, Lqb, Lqc, Lqd, and_assoc, QR_notation_reader_rest_1, ownAt, q1, q2, q3, q4, q5, q6, q7, q8, oa8_w0, oa8_w1, c11, k13, c14]
      · obtain ⟨L17, a18, hB⟩ := kb_inv hB
        obtain ⟨a18z, a18a, a18y⟩ := appK_inv a18
        try (simp only [Lqg] at a18z; subst a18z)
        have a18b := appK_len a18
        have a18c := ints_appK a18
        have a18d := appK_le a18
        try simp only [Iqe, Iqf, Lqe, Lqf, Lqg, Lqh, Nqa, Nat.reduceAdd, Tqa, Tqb, Tqc, Eqe, Eqf, Eqg, Eqh, Eqa, Eqb, Eqc, Eqd, Eqi, Eqj, Eqk, Eql, Eqm, Eqn, c11] at a18a a18b a18c
        try replace a18b : _ = (1 : Nat) := a18b.symm
        try dsimp only at hB
        obtain rfl := Option.some.inj hB
        subst hr12
        try simp -implicitDefEqProofs [-getElem?_pos, -Iqa, -Iqb, -Iqc, -Iqd, -Lqa, Lqb, Lqc, Lqd, q1, q2, q3, q4, q5, q6, q7, q8, oa8_w0, oa8_w1, c11, a18a, a18b, a18c, a18d]
        refine Res.sgo ?_
        simp -implicitDefEqProofs [-getElem?_pos, -Iqa, -Iqb, -Iqc, -Iqd, -Lqa, Lqb, Lqc, Lqd, and_assoc, Q_notation_reader_rest_1, ownAt, q1, q2, q3, q4, q5, q6, q7, q8, oa8_w0, oa8_w1, c11, a18a, a18b, a18c, a18d]
    · try subst ea8_w1
      rcases cnd_inv hB with ⟨c11, hB⟩ | ⟨c11, hB⟩
      · obtain ⟨y12, k13, hB⟩ := kb_inv hB
        replace k13 := run_notation_reader_rest k13
        try simp only [Iqe, Iqf, Lqe, Lqf, Lqg, Lqh, Nqa, Nat.reduceAdd, Tqa, Tqb, Tqc, Eqe, Eqf, Eqg, Eqh, Eqa, Eqb, Eqc, Eqd, Eqi, Eqj, Eqk, Eql, Eqm, Eqn, c11] at k13
        try dsimp only at hB
        rcases cnd_inv hB with ⟨c14, hB⟩ | ⟨c14, hB⟩
        · obtain ⟨L15, a16, hB⟩ := kb_inv hB
          obtain ⟨a16z, a16a, a16y⟩ := appK_inv a16
          simp only [Lqg] at a16z
          subst a16z
          try dsimp only at hB
          obtain rfl := Option.some.inj hB
          subst hr8
          subst hr11
          try simp -implicitDefEqProofs [-getElem?_pos, -Iqa, -Iqb, -Iqc, -Iqd, -Lqa, Lqb, Lqc, Lqd, q1, q2, q3, q4, q5, q6, q7, q8, oa8_w0, c11, k13, c14]
          refine Res.sgo ?_
          simp -implicitDefEqProofs [-getElem?_pos, -Iqa, -Iqb, -Iqc, -Iqd, -Lqa, Lqb, Lqc, Lqd, and_assoc, Q_notation_reader_rest_1, ownAt, q1, q2, q3, q4, q5, q6, q7, q8, oa8_w0, c11, k13, c14]; all_goals ((repeat' apply And.intro) <;> assumption)
        · obtain rfl := Option.some.inj hB
          subst hr8
          try simp -implicitDefEqProofs [-getElem?_pos, -Iqa, -Iqb, -Iqc, -Iqd, -Lqa, Lqb, Lqc, Lqd, q1, q2, q3, q4, q5, q6, q7, q8, oa8_w0, c11, k13, c14]
          refine Res.sret ?_
          simp -implicitDefEqProofs [-getElem?_pos, -Iqa, -Iqb, -Iqc, -Iqd, -Lqa, Lqb, Lqc, Lqd, and_assoc, QR_notation_reader_rest_1, ownAt, q1, q2, q3, q4, q5, q6, q7, q8, oa8_w0, c11, k13, c14]; all_goals ((repeat' apply And.intro) <;> assumption)
      · obtain ⟨L17, a18, hB⟩ := kb_inv hB
        obtain ⟨a18z, a18a, a18y⟩ := appK_inv a18
        try (simp only [Lqg] at a18z; subst a18z)
        have a18b := appK_len a18
        have a18c := ints_appK a18
        have a18d := appK_le a18
        try simp only [Iqe, Iqf, Lqe, Lqf, Lqg, Lqh, Nqa, Nat.reduceAdd, Tqa, Tqb, Tqc, Eqe, Eqf, Eqg, Eqh, Eqa, Eqb, Eqc, Eqd, Eqi, Eqj, Eqk, Eql, Eqm, Eqn, c11] at a18a a18b a18c
        try replace a18b : _ = (1 : Nat) := a18b.symm
        try dsimp only at hB
        obtain rfl := Option.some.inj hB
        subst hr12
        try simp -implicitDefEqProofs [-getElem?_pos, -Iqa, -Iqb, -Iqc, -Iqd, -Lqa, Lqb, Lqc, Lqd, q1, q2, q3, q4, q5, q6, q7, q8, oa8_w0, c11, a18a, a18b, a18c, a18d]
        refine Res.sgo ?_
        simp -implicitDefEqProofs [-getElem?_pos, -Iqa, -Iqb, -Iqc, -Iqd, -Lqa, Lqb, Lqc, Lqd, and_assoc, Q_notation_reader_rest_1, ownAt, q1, q2, q3, q4, q5, q6, q7, q8, oa8_w0, c11, a18a, a18b, a18c, a18d]; all_goals ((repeat' apply And.intro) <;> assumption)
  · try subst ea8_w0
    rcases a8_w1 with ⟨ga8_w1, rfl, oa8_w1⟩ | ⟨rfl, ea8_w1⟩
    · rcases cnd_inv hB with ⟨c11, hB⟩ | ⟨c11, hB⟩
      · obtain ⟨y12, k13, hB⟩ := kb_inv hB
        replace k13 := run_notation_reader_rest k13
        try simp only [Iqe, Iqf, Lqe, Lqf, Lqg, Lqh, Nqa, Nat.reduceAdd, Tqa, Tqb, Tqc, Eqe, Eqf, Eqg, Eqh, Eqa, Eqb, Eqc, Eqd, Eqi, Eqj, Eqk, Eql, Eqm, Eqn, c11] at k13
        try dsimp only at hB
        rcases cnd_inv hB with ⟨c14, hB⟩ | ⟨c14, hB⟩
        · obtain ⟨L15, a16, hB⟩ := kb_inv hB
          obtain ⟨a16z, a16a, a16y⟩ := appK_inv a16
          try (simp only [Lqg] at a16z; subst a16z)
          have a16b := appK_len a16
          have a16c := encTs_appK a16
          have a16d := appK_le a16
          try simp only [Iqe, Iqf, Lqe, Lqf, Lqg, Lqh, Nqa, Nat.reduceAdd, Tqa, Tqb, Tqc, Eqe, Eqf, Eqg, Eqh, Eqa, Eqb, Eqc, Eqd, Eqi, Eqj, Eqk, Eql, Eqm, Eqn, c11, c14] at a16a a16b a16c
          try replace a16b : _ = (1 : Nat) := a16b.symm
          try dsimp only at hB
          obtain rfl := Option.some.inj hB
          subst hr8
          subst hr11
          try simp -implicitDefEqProofs [-getElem?_pos, -Iqa, -Iqb, -Iqc, -Iqd, -Lqa, Lqb, Lqc, Lqd, q1, q2, q3, q4, q5, q6, q7, q8, oa8_w1, c11, k13, c14, a16a, a16b, a16c, a16d]
          refine Res.sgo ?_
          simp -implicitDefEqProofs [-getElem?_pos, -Iqa, -Iqb, -Iqc, -Iqd, -Lqa, Lqb, Lqc, Lqd, and_assoc, Q_notation_reader_rest_1, ownAt, q1, q2, q3, q4, q5, q6, q7, q8, oa8_w1, c11, k13, c14, a16a, a16b, a16c, a16d]; all_goals ((repeat' apply And.intro) <;> assumption)
        · obtain rfl := Option.some.inj hB
          subst hr8
          try simp -implicitDefEqProofs [-getElem?_pos, -Iqa, -Iqb, -Iqc, -Iqd, -Lqa, Lqb, Lqc, Lqd, q1, q2, q3, q4, q5, q6, q7, q8, oa8_w1, c11, k13, c14]
          refine Res.sret ?_
          simp -implicitDefEqProofs [-getElem?_pos, -Iqa, -Iqb, -Iqc, -Iqd, -Lqa, Lqb, Lqc, Lqd, and_assoc, QR_notation_reader_rest_1, ownAt, q1, q2, q3, q4, q5, q6, q7, q8, oa8_w1, c11, k13, c14]; all_goals ((repeat' apply And.intro) <;> assumption)
      · obtain ⟨L17, a18, hB⟩ := kb_inv hB
        obtain ⟨a18z, a18a, a18y⟩ := appK_inv a18
        simp only [Lqg] at a18z
        subst a18z
        try dsimp only at hB
        obtain rfl := Option.some.inj hB
        subst hr12
        try simp -implicitDefEqProofs [-getElem?_pos, -Iqa, -Iqb, -Iqc, -Iqd, -Lqa, Lqb, Lqc, Lqd, q1, q2, q3, q4, q5, q6, q7, q8, oa8_w1, c11]
        refine Res.sgo ?_
        simp -implicitDefEqProofs [-getElem?_pos, -Iqa, -Iqb, -Iqc, -Iqd, -Lqa, Lqb, Lqc, Lqd, and_assoc, Q_notation_reader_rest_1, ownAt, q1, q2, q3, q4, q5, q6, q7, q8, oa8_w1, c11]; all_goals ((repeat' apply And.intro) <;> assumption)
    · try subst ea8_w1
      rcases cnd_inv hB with ⟨c11, hB⟩ | ⟨c11, hB⟩
      · obtain ⟨y12, k13, hB⟩ := kb_inv hB
        replace k13 := run_notation_reader_rest k13
        try simp only [Iqe, Iqf, Lqe, Lqf, Lqg, Lqh, Nqa, Nat.reduceAdd, Tqa, Tqb, Tqc, Eqe, Eqf, Eqg, Eqh, Eqa, Eqb, Eqc, Eqd, Eqi, Eqj, Eqk, Eql, Eqm, Eqn, c11] at k13
        try dsimp only at hB
        rcases cnd_inv hB with ⟨c14, hB⟩ | ⟨c14, hB⟩
        · obtain ⟨L15, a16, hB⟩ := kb_inv hB
          obtain ⟨a16z, a16a, a16y⟩ := appK_inv a16
          simp only [Lqg] at a16z
          subst a16z
          try dsimp only at hB
          obtain rfl := Option.some.inj hB
          subst hr8
          subst hr11
          try simp -implicitDefEqProofs [-getElem?_pos, -Iqa, -Iqb, -Iqc, -Iqd, -Lqa, Lqb, Lqc, Lqd, q1, q2, q3, q4, q5, q6, q7, q8, c11, k13, c14]
          refine Res.sgo ?_
          simp -implicitDefEqProofs [-getElem?_pos, -Iqa, -Iqb, -Iqc, -Iqd, -Lqa, Lqb, Lqc, Lqd, and_assoc, Q_notation_reader_rest_1, ownAt, q1, q2, q3, q4, q5, q6, q7, q8, c11, k13, c14]; all_goals ((repeat' apply And.intro) <;> assumption)
        · obtain rfl := Option.some.inj hB
          subst hr8
          try simp -implicitDefEqProofs [-getElem?_pos, -Iqa, -Iqb, -Iqc, -Iqd, -Lqa, Lqb, Lqc, Lqd, q1, q2, q3, q4, q5, q6, q7, q8, c11, k13, c14]
          refine Res.sret ?_
          simp -implicitDefEqProofs [-getElem?_pos, -Iqa, -Iqb, -Iqc, -Iqd, -Lqa, Lqb, Lqc, Lqd, and_assoc, QR_notation_reader_rest_1, ownAt, q1, q2, q3, q4, q5, q6, q7, q8, c11, k13, c14]; all_goals ((repeat' apply And.intro) <;> assumption)
      · obtain ⟨L17, a18, hB⟩ := kb_inv hB
        obtain ⟨a18z, a18a, a18y⟩ := appK_inv a18
        simp only [Lqg] at a18z
        subst a18z
        try dsimp only at hB
        obtain rfl := Option.some.inj hB
        subst hr12
        try simp -implicitDefEqProofs [-getElem?_pos, -Iqa, -Iqb, -Iqc, -Iqd, -Lqa, Lqb, Lqc, Lqd, q1, q2, q3, q4, q5, q6, q7, q8, c11]
        refine Res.sgo ?_
        simp -implicitDefEqProofs [-getElem?_pos, -Iqa, -Iqb, -Iqc, -Iqd, -Lqa, Lqb, Lqc, Lqd, and_assoc, Q_notation_reader_rest_1, ownAt, q1, q2, q3, q4, q5, q6, q7, q8, c11]; all_goals ((repeat' apply And.intro) <;> assumption)
noncomputable def B_notation_reader_rest_2 (p1 : Int) (xba0_0_2 : (List UInt8)) (xba0_1_2 : (List UInt8)) (xba0_2_2 : Int) (xb1_2_1_2 : (List Int)) (xb1_2_2_2 : (List Tru)) : Option (Stp ((List UInt8) × (List UInt8) × Int × (List Int) × (List Tru)) ((List UInt8) × (List UInt8) × Int × (List Int) × (List Tru) × Bool)) :=
  kb (G_notation_reader_number (S_notation_reader.mk xba0_0_2 xba0_1_2 xba0_2_2)) fun y8 =>
  cnd y8.2.1 (
    kb (B_notation_reader_rest_1 y8.2.2.f0 y8.2.2.f1 y8.2.2.f2 p1 xb1_2_1_2 xb1_2_2_2 (y8.2.2.f1 == ([111, 102] : List UInt8)) y8.1) fun o => stpK o (fun z19 =>
      kb (G_notation_reader_take (S_notation_reader.mk z19.1 z19.2.1 z19.2.2.1) ([41] : List UInt8)) fun y20 =>
      cnd y20.1 (
        some (.ret (y20.2.f0, y20.2.f1, y20.2.f2, z19.2.2.2.1, z19.2.2.2.2, true))) (
        kb (G_notation_reader_take y20.2 ([44] : List UInt8)) fun y23 =>
        cnd y23.1 (
          some (.go (y23.2.f0, y23.2.f1, y23.2.f2, z19.2.2.2.1, z19.2.2.2.2))) (
          some (.ret (y23.2.f0, y23.2.f1, y23.2.f2, z19.2.2.2.1, z19.2.2.2.2, false))))) (fun z19r =>
      some (.ret (z19r.1, z19r.2.1, z19r.2.2, xb1_2_1_2, xb1_2_2_2, false)))) (
    some (.ret (y8.2.2.f0, y8.2.2.f1, y8.2.2.f2, xb1_2_1_2, xb1_2_2_2, false)))
def I_notation_reader_rest_2 (p1 : Int) (xba0_0_2 : (List UInt8)) (xba0_1_2 : (List UInt8)) (xba0_2_2 : Int) (xb1_2_1_2 : (List Int)) (xb1_2_2_2 : (List Tru)) (q : St) : Prop := (q (.t 0) = .ptr (.arg 0) 0 0 ∧ q (.i (.arg 0)) = .box 0 [(.pv (.str xba0_0_2)), (.pv (.str xba0_1_2)), (i64 xba0_2_2)]) ∧ (∃ (g : Nat), q (.t 4) = .ptr (.site 0 0 0) g 0 ∧ q (.i (.site 0 0 0)) = .box g [(i64 0), .nilsl, .nilsl]) ∧ (∃ (g : Nat) (w0 : AV) (w1 : AV), q (.t 6) = .ptr (.site 1 2 0) g 0 ∧ q (.i (.site 1 2 0)) = .box g [(i64 p1), w0, w1] ∧ (ownAt q w0 (.site 12 4 0) false 1 xb1_2_1_2.length (ints xb1_2_1_2) ∨ (w0 = .nilsl ∧ xb1_2_1_2 = [])) ∧ (ownAt q w1 (.site 11 4 0) false 3 xb1_2_2_2.length (encTs xb1_2_2_2) ∨ (w1 = .nilsl ∧ xb1_2_2_2 = [])))
def QR_notation_reader_rest_2 (p1 : Int) (rba0_0_2 : (List UInt8)) (rba0_1_2 : (List UInt8)) (rba0_2_2 : Int) (rb0_0_1_2 : (List Int)) (rb0_0_2_2 : (List Tru)) (r5_2 : Bool) (q : St) : Prop := q (.t 5) = (bl r5_2) ∧ (q (.i (.arg 0)) = .box 0 [(.pv (.str rba0_0_2)), (.pv (.str rba0_1_2)), (i64 rba0_2_2)]) ∧ (∃ (g : Nat) (w0 : AV) (w1 : AV), q (.t 4) = .ptr (.site 0 0 0) g 0 ∧ q (.i (.site 0 0 0)) = .box g [(i64 p1), w0, w1] ∧ (ownAt q w0 (.site 12 4 0) false 1 rb0_0_1_2.length (ints rb0_0_1_2) ∨ (w0 = .nilsl ∧ rb0_0_1_2 = [])) ∧ (ownAt q w1 (.site 11 4 0) false 3 rb0_0_2_2.length (encTs rb0_0_2_2) ∨ (w1 = .nilsl ∧ rb0_0_2_2 = [])))
theorem Pb_notation_reader_rest_2 {p1 : Int} {xba0_0_2 : (List UInt8)} {xba0_1_2 : (List UInt8)} {xba0_2_2 : Int} {xb1_2_1_2 : (List Int)} {xb1_2_2_2 : (List Tru)} {q : St} {r : (Stp ((List UInt8) × (List UInt8) × Int × (List Int) × (List Tru)) ((List UInt8) × (List UInt8) × Int × (List Int) × (List Tru) × Bool))} (hI : I_notation_reader_rest_2 p1 xba0_0_2 xba0_1_2 xba0_2_2 xb1_2_1_2 xb1_2_2_2 q) (hB : B_notation_reader_rest_2 p1 xba0_0_2 xba0_1_2 xba0_2_2 xb1_2_1_2 xb1_2_2_2 = some r) : Res (C Tryz.prog cf (Code.fst (Code.fst (Code.snd (Code.snd (Code.snd ((Tryz.f75.body).getD .skip)))))) q) (postB 0 (fun a q => I_notation_reader_rest_2 p1 a.1 a.2.1 a.2.2.1 a.2.2.2.1 a.2.2.2.2 q) (fun _ _ => False) (fun a q => QR_notation_reader_rest_2 p1 a.1 a.2.1 a.2.2.1 a.2.2.2.1 a.2.2.2.2.1 a.2.2.2.2.2 q) r) := by
  simp only [I_notation_reader_rest_2] at hI
  obtain ⟨⟨q1, q2⟩, ⟨g4, q3, q4⟩, ⟨g6, v6_w0, v6_w1, q5, q6, a6_w0, a6_w1⟩⟩ := hI
  simp only [Code.fst, Code.snd, Tryz.f75, Option.getD_some]
  generalize hc1 : Code.cond (Operand.tmp 34) _ _ = cc1
  generalize hr4 : Code.region 4 _ _ = rr4
  generalize hr7 : Code.region 7 _ _ = rr7
  unfold B_notation_reader_rest_2 at hB
  rcases a6_w0 with ⟨ga6_w0, rfl, oa6_w0⟩ | ⟨rfl, ea6_w0⟩
  · rcases a6_w1 with ⟨ga6_w1, rfl, oa6_w1⟩ | ⟨rfl, ea6_w1⟩
    · obtain ⟨y8, k9, hB⟩ := kb_inv hB
      replace k9 := run_notation_reader_number k9
      try simp only [Iqe, Iqf, Lqe, Lqf, Lqg, Lqh, Nqa, Nat.reduceAdd, Tqa, Tqb, Tqc, Eqe, Eqf, Eqg, Eqh, Eqa, Eqb, Eqc, Eqd, Eqi, Eqj, Eqk, Eql, Eqm, Eqn] at k9
      try dsimp only at hB
      rcases cnd_inv hB with ⟨c10, hB⟩ | ⟨c10, hB⟩
      · subst hr4
        subst hr7
        try simp -implicitDefEqProofs [-getElem?_pos, -Iqa, -Iqb, -Iqc, -Iqd, -Lqa, Lqb, Lqc, Lqd, q1, q2, q3, q4, q5, q6, oa6_w0, oa6_w1, k9, c10]
        generalize hz1 : C Tryz.prog cf cc1 _ = z1
        obtain ⟨o, hB1, hB⟩ := kb_inv hB
        have hJ := P_notation_reader_rest_1 (hc1.symm.trans (by kernel_rfl)) hz1 (by simp -implicitDefEqProofs [-getElem?_pos, -Iqa, -Iqb, -Iqc, -Iqd, -Lqa, Lqb, Lqc, Lqd, and_assoc, J_notation_reader_rest_1, ownAt, q1, q2, q3, q4, q5, q6, oa6_w0, oa6_w1, k9, c10]) hB1
        obtain ⟨e1, s1, rfl, hq⟩ := hJ.open
        clear hB1
        rcases o with z19 | ⟨_, _⟩ | z19r
        · simp only [stpK_go] at hB
          obtain ⟨rfl, hq⟩ := hq
          obtain ⟨u1_0, u1_1, u1_2, u1_3, u1_4⟩ := z19
          dsimp only at hB hq
          simp only [Q_notation_reader_rest_1] at hq
          obtain ⟨⟨q19_1, q19_2⟩, ⟨g19_4, q19_3, q19_4⟩, ⟨g19_6, v19_6_w0, v19_6_w1, q19_5, q19_6, a19_6_w0, a19_6_w1⟩⟩ := hq
          rcases a19_6_w0 with ⟨ga19_6_w0, rfl, oa19_6_w0⟩ | ⟨rfl, ea19_6_w0⟩
          · rcases a19_6_w1 with ⟨ga19_6_w1, rfl, oa19_6_w1⟩ | ⟨rfl, ea19_6_w1⟩
            · obtain ⟨y20, k21, hB⟩ := kb_inv hB
              replace k21 := run_notation_reader_take k21
              try simp only [Iqe, Iqf, Lqe, Lqf, Lqg, Lqh, Nqa, Nat.reduceAdd, Tqa, Tqb, Tqc, Eqe, Eqf, Eqg, Eqh, Eqa, Eqb, Eqc, Eqd, Eqi, Eqj, Eqk, Eql, Eqm, Eqn, c10] at k21
              try dsimp only at hB
              rcases cnd_inv hB with ⟨c22, hB⟩ | ⟨c22, hB⟩
              · obtain rfl := Option.some.inj hB
                try simp -implicitDefEqProofs [-getElem?_pos, -Iqa, -Iqb, -Iqc, -Iqd, -Lqa, Lqb, Lqc, Lqd, q19_1, q19_2, q19_3, q19_4, q19_5, q19_6, oa19_6_w0, oa19_6_w1, k9, c10, k21, c22]
                refine Res.bret ?_
                simp -implicitDefEqProofs [-getElem?_pos, -Iqa, -Iqb, -Iqc, -Iqd, -Lqa, Lqb, Lqc, Lqd, and_assoc, QR_notation_reader_rest_2, ownAt, q19_1, q19_2, q19_3, q19_4, q19_5, q19_6, oa19_6_w0, oa19_6_w1, k9, c10, k21, c22]
              · obtain ⟨y23, k24, hB⟩ := kb_inv hB
                replace k24 := run_notation_reader_take k24
                try simp only [Iqe, Iqf, Lqe, Lqf, Lqg, Lqh, Nqa, Nat.reduceAdd, Tqa, Tqb, Tqc, Eqe, Eqf, Eqg, Eqh, Eqa, Eqb, Eqc, Eqd, Eqi, Eqj, Eqk, Eql, Eqm, Eqn, c10, c22] at k24
                try dsimp only at hB
                rcases cnd_inv hB with ⟨c25, hB⟩ | ⟨c25, hB⟩
                · obtain rfl := Option.some.inj hB
                  try simp -implicitDefEqProofs [-getElem?_pos, -Iqa, -Iqb, -Iqc, -Iqd, -Lqa, Lqb, Lqc, Lqd, q19_1, q19_2, q19_3, q19_4, q19_5, q19_6, oa19_6_w0, oa19_6_w1, k9, c10, k21, c22, k24, c25]
                  refine Res.bgo ?_
                  simp -implicitDefEqProofs [-getElem?_pos, -Iqa, -Iqb, -Iqc, -Iqd, -Lqa, Lqb, Lqc, Lqd, and_assoc, I_notation_reader_rest_2, ownAt, q19_1, q19_2, q19_3, q19_4, q19_5, q19_6, oa19_6_w0, oa19_6_w1, k9, c10, k21, c22, k24, c25]
                · obtain rfl := Option.some.inj hB
                  try simp -implicitDefEqProofs [-getElem?_pos, -Iqa, -Iqb, -Iqc, -Iqd, -Lqa, Lqb, Lqc, Lqd, q19_1, q19_2, q19_3, q19_4, q19_5, q19_6, oa19_6_w0, oa19_6_w1, k9, c10, k21, c22, k24, c25]
                  refine Res.bret ?_
                  simp -implicitDefEqProofs [-getElem?_pos, -Iqa, -Iqb, -Iqc, -Iqd, -Lqa, Lqb, Lqc, Lqd, and_assoc, QR_notation_reader_rest_2, ownAt, q19_1, q19_2, q19_3, q19_4, q19_5, q19_6, oa19_6_w0, oa19_6_w1, k9, c10, k21, c22, k24, c25]
            · try subst ea19_6_w1
              obtain ⟨y20, k21, hB⟩ := kb_inv hB
              replace k21 := run_notation_reader_take k21
              try simp only [Iqe, Iqf, Lqe, Lqf, Lqg, Lqh, Nqa, Nat.reduceAdd, Tqa, Tqb, Tqc, Eqe, Eqf, Eqg, Eqh, Eqa, Eqb, Eqc, Eqd, Eqi, Eqj, Eqk, Eql, Eqm, Eqn, c10] at k21
              try dsimp only at hB
              rcases cnd_inv hB with ⟨c22, hB⟩ | ⟨c22, hB⟩
              · obtain rfl := Option.some.inj hB
                try simp -implicitDefEqProofs [-getElem?_pos, -Iqa, -Iqb, -Iqc, -Iqd, -Lqa, Lqb, Lqc, Lqd, q19_1, q19_2, q19_3, q19_4, q19_5, q19_6, oa19_6_w0, k9, c10, k21, c22]
                refine Res.bret ?_
                simp -implicitDefEqProofs [-getElem?_pos, -Iqa, -Iqb, -Iqc, -Iqd, -Lqa, Lqb, Lqc, Lqd, and_assoc, QR_notation_reader_rest_2, ownAt, q19_1, q19_2, q19_3, q19_4, q19_5, q19_6, oa19_6_w0, k9, c10, k21, c22]; all_goals ((repeat' apply And.intro) <;> assumption)
              · obtain ⟨y23, k24, hB⟩ := kb_inv hB
                replace k24 := run_notation_reader_take k24
                try simp only [Iqe, Iqf, Lqe, Lqf, Lqg, Lqh, Nqa, Nat.reduceAdd, Tqa, Tqb, Tqc, Eqe, Eqf, Eqg, Eqh, Eqa, Eqb, Eqc, Eqd, Eqi, Eqj, Eqk, Eql, Eqm, Eqn, c10, c22] at k24
                try dsimp only at hB
                rcases cnd_inv hB with ⟨c25, hB⟩ | ⟨c25, hB⟩
                · obtain rfl := Option.some.inj hB
                  try simp -implicitDefEqProofs [-getElem?_pos, -Iqa, -Iqb, -Iqc, -Iqd, -Lqa, Lqb, Lqc, Lqd, q19_1, q19_2, q19_3, q19_4, q19_5, q19_6, oa19_6_w0, k9, c10, k21, c22, k24, c25]
                  refine Res.bgo ?_
                  simp -implicitDefEqProofs [-getElem?_pos, -Iqa, -Iqb, -Iqc, -Iqd, -Lqa, Lqb, Lqc, Lqd, and_assoc, I_notation_reader_rest_2, ownAt, q19_1, q19_2, q19_3, q19_4, q19_5, q19_6, oa19_6_w0, k9, c10, k21, c22, k24, c25]; all_goals ((repeat' apply And.intro) <;> assumption)
                · obtain rfl := Option.some.inj hB
                  try simp -implicitDefEqProofs [-getElem?_pos, -Iqa, -Iqb, -Iqc, -Iqd, -Lqa, Lqb, Lqc, Lqd, q19_1, q19_2, q19_3, q19_4, q19_5, q19_6, oa19_6_w0, k9, c10, k21, c22, k24, c25]
                  refine Res.bret ?_
                  simp -implicitDefEqProofs [-getElem?_pos, -Iqa, -Iqb, -Iqc, -Iqd, -Lqa, Lqb, Lqc, Lqd, and_assoc, QR_notation_reader_rest_2, ownAt, q19_1, q19_2, q19_3, q19_4, q19_5, q19_6, oa19_6_w0, k9, c10, k21, c22, k24, c25]; all_goals ((repeat' apply And.intro) <;> assumption)
          · try subst ea19_6_w0
            rcases a19_6_w1 with ⟨ga19_6_w1, rfl, oa19_6_w1⟩ | ⟨rfl, ea19_6_w1⟩
            · obtain ⟨y20, k21, hB⟩ := kb_inv hB
              replace k21 := run_notation_reader_take k21
              try simp only [Iqe, Iqf, Lqe, Lqf, Lqg, Lqh, Nqa, Nat.reduceAdd, Tqa, Tqb, Tqc, Eqe, Eqf, Eqg, Eqh, Eqa, Eqb, Eqc, Eqd, Eqi, Eqj, Eqk, Eql, Eqm, Eqn, c10] at k21
              try dsimp only at hB
              rcases cnd_inv hB with ⟨c22, hB⟩ | ⟨c22, hB⟩
              · obtain rfl := Option.some.inj hB
                try simp -implicitDefEqProofs [-getElem?_pos, -Iqa, -Iqb, -Iqc, -Iqd, -Lqa, Lqb, Lqc, Lqd, q19_1, q19_2, q19_3, q19_4, q19_5, q19_6, oa19_6_w1, k9, c10, k21, c22]
                refine Res.bret ?_
                simp -implicitDefEqProofs [-getElem?_pos, -Iqa, -Iqb, -Iqc, -Iqd, -Lqa, Lqb, Lqc, Lqd, and_assoc, QR_notation_reader_rest_2, ownAt, q19_1, q19_2, q19_3, q19_4, q19_5, q19_6, oa19_6_w1, k9, c10, k21, c22]; all_goals ((repeat' apply And.intro) <;> assumption)
              · obtain ⟨y23, k24, hB⟩ := kb_inv hB
                replace k24 := run_notation_reader_take k24
                try simp only [Iqe, Iqf, Lqe, Lqf, Lqg, Lqh, Nqa, Nat.reduceAdd, Tqa, Tqb, Tqc, Eqe, Eqf, Eqg, Eqh, Eqa, Eqb, Eqc, Eqd, Eqi, Eqj, Eqk, Eql, Eqm, Eqn, c10, c22] at k24
                try dsimp only at hB
                rcases cnd_inv hB with ⟨c25, hB⟩ | ⟨c25, hB⟩
                · obtain rfl := Option.some.inj hB
                  try simp -implicitDefEqProofs [-getElem?_pos, -Iqa, -Iqb, -Iqc, -Iqd, -Lqa, Lqb, Lqc, Lqd, q19_1, q19_2, q19_3, q19_4, q19_5, q19_6, oa19_6_w1, k9, c10, k21, c22, k24, c25]
                  refine Res.bgo ?_
                  simp -implicitDefEqProofs [-getElem?_pos, -Iqa, -Iqb, -Iqc, -Iqd, -Lqa, Lqb, Lqc, Lqd, and_assoc, I_notation_reader_rest_2, ownAt, q19_1, q19_2, q19_3, q19_4, q19_5, q19_6, oa19_6_w1, k9, c10, k21, c22, k24, c25]; all_goals ((repeat' apply And.intro) <;> assumption)
                · obtain rfl := Option.some.inj hB
                  try simp -implicitDefEqProofs [-getElem?_pos, -Iqa, -Iqb, -Iqc, -Iqd, -Lqa, Lqb, Lqc, Lqd, q19_1, q19_2, q19_3, q19_4, q19_5, q19_6, oa19_6_w1, k9, c10, k21, c22, k24, c25]
                  refine Res.bret ?_
                  simp -implicitDefEqProofs [-getElem?_pos, -Iqa, -Iqb, -Iqc, -Iqd, -Lqa, Lqb, Lqc, Lqd, and_assoc, QR_notation_reader_rest_2, ownAt, q19_1, q19_2, q19_3, q19_4, q19_5, q19_6, oa19_6_w1, k9, c10, k21, c22, k24, c25]; all_goals ((repeat' apply And.intro) <;> assumption)
            · try subst ea19_6_w1
              obtain ⟨y20, k21, hB⟩ := kb_inv hB
              replace k21 := run_notation_reader_take k21
              try simp only [Iqe, Iqf, Lqe, Lqf, Lqg, Lqh, Nqa, Nat.reduceAdd, Tqa, Tqb, Tqc, Eqe, Eqf, Eqg, Eqh, Eqa, Eqb, Eqc, Eqd, Eqi, Eqj, Eqk, Eql, Eqm, Eqn, c10] at k21
              try dsimp only at hB
              rcases cnd_inv hB with ⟨c22, hB⟩ | ⟨c22, hB⟩
              · obtain rfl := Option.some.inj hB
                try simp -implicitDefEqProofs [-getElem?_pos, -Iqa, -Iqb, -Iqc, -Iqd, -Lqa, Lqb, Lqc, Lqd, q19_1, q19_2, q19_3, q19_4, q19_5, q19_6, k9, c10, k21, c22]
                refine Res.bret ?_
                simp -implicitDefEqProofs [-getElem?_pos, -Iqa, -Iqb, -Iqc, -Iqd, -Lqa, Lqb, Lqc, Lqd, and_assoc, QR_notation_reader_rest_2, ownAt, q19_1, q19_2, q19_3, q19_4, q19_5, q19_6, k9, c10, k21, c22]; all_goals ((repeat' apply And.intro) <;> assumption)
              · obtain ⟨y23, k24, hB⟩ := kb_inv hB
                replace k24 := run_notation_reader_take k24
                try simp only [Iqe, Iqf, Lqe, Lqf, Lqg, Lqh, Nqa, Nat.reduceAdd, Tqa, Tqb, Tqc, Eqe, Eqf, Eqg, Eqh, Eqa, Eqb, Eqc, Eqd, Eqi, Eqj, Eqk, Eql, Eqm, Eqn, c10, c22] at k24
                try dsimp only at hB
                rcases cnd_inv hB with ⟨c25, hB⟩ | ⟨c25, hB⟩
                · obtain rfl := Option.some.inj hB
                  try simp -implicitDefEqProofs [-getElem?_pos, -Iqa, -Iqb, -Iqc, -Iqd, -Lqa, Lqb, Lqc, Lqd, q19_1, q19_2, q19_3, q19_4, q19_5, q19_6, k9, c10, k21, c22, k24, c25]
                  refine Res.bgo ?_
                  simp -implicitDefEqProofs [-getElem?_pos, -Iqa, -Iqb, -Iqc, -Iqd, -Lqa, Lqb, Lqc, Lqd, and_assoc, I_notation_reader_rest_2, ownAt, q19_1, q19_2, q19_3, q19_4, q19_5, q19_6, k9, c10, k21, c22, k24, c25]; all_goals ((repeat' apply And.intro) <;> assumption)
                · obtain rfl := Option.some.inj hB
                  try simp -implicitDefEqProofs [-getElem?_pos, -Iqa, -Iqb, -Iqc, -Iqd, -Lqa, Lqb, Lqc, Lqd, q19_1, q19_2, q19_3, q19_4, q19_5, q19_6, k9, c10, k21, c22, k24, c25]
                  refine Res.bret ?_
                  simp -implicitDefEqProofs [-getElem?_pos, -Iqa, -Iqb, -Iqc, -Iqd, -Lqa, Lqb, Lqc, Lqd, and_assoc, QR_notation_reader_rest_2, ownAt, q19_1, q19_2, q19_3, q19_4, q19_5, q19_6, k9, c10, k21, c22, k24, c25]; all_goals ((repeat' apply And.intro) <;> assumption)
        · exact hq.elim
        · simp only [stpK_ret] at hB
          obtain ⟨rfl, hq⟩ := hq
          obtain ⟨u1_0, u1_1, u1_2⟩ := z19r
          dsimp only at hB hq
          simp only [QR_notation_reader_rest_1] at hq
          obtain ⟨q19_r1, q19_r2, ⟨g19_r4, v19_r4_w0, v19_r4_w1, q19_r3, q19_r4, a19_r4_w0, a19_r4_w1⟩⟩ := hq
          rcases a19_r4_w0 with ⟨ga19_r4_w0, rfl, oa19_r4_w0⟩ | ⟨rfl, ea19_r4_w0⟩
          · rcases a19_r4_w1 with ⟨ga19_r4_w1, rfl, oa19_r4_w1⟩ | ⟨rfl, ea19_r4_w1⟩
            · obtain rfl := Option.some.inj hB
              try simp -implicitDefEqProofs [-getElem?_pos, -Iqa, -Iqb, -Iqc, -Iqd, -Lqa, Lqb, Lqc, Lqd, q19_r1, q19_r2, q19_r3, q19_r4, oa19_r4_w0, oa19_r4_w1, k9, c10]
              refine Res.bret ?_
              simp -implicitDefEqProofs [-getElem?_pos, -Iqa, -Iqb, -Iqc, -Iqd, -Lqa, Lqb, Lqc, Lqd, and_assoc, QR_notation_reader_rest_2, ownAt, q19_r1, q19_r2, q19_r3, q19_r4, oa19_r4_w0, oa19_r4_w1, k9, c10]
            · try subst ea19_r4_w1
              obtain rfl := Option.some.inj hB
              try simp -implicitDefEqProofs [-getElem?_pos, -Iqa, -Iqb, -Iqc, -Iqd, -Lqa, Lqb, Lqc, Lqd, q19_r1, q19_r2, q19_r3, q19_r4, oa19_r4_w0, k9, c10]
              refine Res.bret ?_
              simp -implicitDefEqProofs [-getElem?_pos, -Iqa, -Iqb, -Iqc, -Iqd, -Lqa, Lqb, Lqc, Lqd, and_assoc, QR_notation_reader_rest_2, ownAt, q19_r1, q19_r2, q19_r3, q19_r4, oa19_r4_w0, k9, c10]; all_goals ((repeat' apply And.intro) <;> assumption)
          · try subst ea19_r4_w0
            rcases a19_r4_w1 with ⟨ga19_r4_w1, rfl, oa19_r4_w1⟩ | ⟨rfl, ea19_r4_w1⟩
            · obtain rfl := Option.some.inj hB
              try simp -implicitDefEqProofs [-getElem?_pos, -Iqa, -Iqb, -Iqc, -Iqd, -Lqa, Lqb, Lqc, Lqd, q19_r1, q19_r2, q19_r3, q19_r4, oa19_r4_w1, k9, c10]
              refine Res.bret ?_
              simp -implicitDefEqProofs [-getElem?_pos, -Iqa, -Iqb, -Iqc, -Iqd, -Lqa, Lqb, Lqc, Lqd, and_assoc, QR_notation_reader_rest_2, ownAt, q19_r1, q19_r2, q19_r3, q19_r4, oa19_r4_w1, k9, c10]; all_goals ((repeat' apply And.intro) <;> assumption)
            · try subst ea19_r4_w1
              obtain rfl := Option.some.inj hB
              try simp -implicitDefEqProofs [-getElem?_pos, -Iqa, -Iqb, -Iqc, -Iqd, -Lqa, Lqb, Lqc, Lqd, q19_r1, q19_r2, q19_r3, q19_r4, k9, c10]
              refine Res.bret ?_
              simp -implicitDefEqProofs [-getElem?_pos, -Iqa, -Iqb, -Iqc, -Iqd, -Lqa, Lqb, Lqc, Lqd, and_assoc, QR_notation_reader_rest_2, ownAt, q19_r1, q19_r2, q19_r3, q19_r4, k9, c10]; all_goals ((repeat' apply And.intro) <;> assumption)
      · obtain rfl := Option.some.inj hB
        subst hr4
        try simp -implicitDefEqProofs [-getElem?_pos, -Iqa, -Iqb, -Iqc, -Iqd, -Lqa, Lqb, Lqc, Lqd, q1, q2, q3, q4, q5, q6, oa6_w0, oa6_w1, k9, c10]
        refine Res.bret ?_
        simp -implicitDefEqProofs [-getElem?_pos, -Iqa, -Iqb, -Iqc, -Iqd, -Lqa, Lqb, Lqc, Lqd, and_assoc, QR_notation_reader_rest_2, ownAt, q1, q2, q3, q4, q5, q6, oa6_w0, oa6_w1, k9, c10]
    · try subst ea6_w1
      obtain ⟨y8, k9, hB⟩ := kb_inv hB
      replace k9 := run_notation_reader_number k9
      try simp only [Iqe, Iqf, Lqe, Lqf, Lqg, Lqh, Nqa, Nat.reduceAdd, Tqa, Tqb, Tqc, Eqe, Eqf, Eqg, Eqh, Eqa, Eqb, Eqc, Eqd, Eqi, Eqj, Eqk, Eql, Eqm, Eqn] at k9
      try dsimp only at hB
      rcases cnd_inv hB with ⟨c10, hB⟩ | ⟨c10, hB⟩
      · subst hr4
        subst hr7
        try simp -implicitDefEqProofs [-getElem?_pos, -Iqa, -Iqb, -Iqc, -Iqd, -Lqa, Lqb, Lqc, Lqd, q1, q2, q3, q4, q5, q6, oa6_w0, k9, c10]
        generalize hz1 : C Tryz.prog cf cc1 _ = z1
        obtain ⟨o, hB1, hB⟩ := kb_inv hB
        have hJ := P_notation_reader_rest_1 (hc1.symm.trans (by kernel_rfl)) hz1 (by simp -implicitDefEqProofs [-getElem?_pos, -Iqa, -Iqb, -Iqc, -Iqd, -Lqa, Lqb, Lqc, Lqd, and_assoc, J_notation_reader_rest_1, ownAt, q1, q2, q3, q4, q5, q6, oa6_w0, k9, c10]; all_goals ((repeat' apply And.intro) <;> assumption)) hB1
        obtain ⟨e1, s1, rfl, hq⟩ := hJ.open
        clear hB1
        rcases o with z19 | ⟨_, _⟩ | z19r
        · simp only [stpK_go] at hB
          obtain ⟨rfl, hq⟩ := hq
          obtain ⟨u1_0, u1_1, u1_2, u1_3, u1_4⟩ := z19
          dsimp only at hB hq
          simp only [Q_notation_reader_rest_1] at hq
          obtain ⟨⟨q19_1, q19_2⟩, ⟨g19_4, q19_3, q19_4⟩, ⟨g19_6, v19_6_w0, v19_6_w1, q19_5, q19_6, a19_6_w0, a19_6_w1⟩⟩ := hq
          rcases a19_6_w0 with ⟨ga19_6_w0, rfl, oa19_6_w0⟩ | ⟨rfl, ea19_6_w0⟩
          · rcases a19_6_w1 with ⟨ga19_6_w1, rfl, oa19_6_w1⟩ | ⟨rfl, ea19_6_w1⟩
            · obtain ⟨y20, k21, hB⟩ := kb_inv hB
              replace k21 := run_notation_reader_take k21
              try simp only [Iqe, Iqf, Lqe, Lqf, Lqg, Lqh, Nqa, Nat.reduceAdd, Tqa, Tqb, Tqc, Eqe, Eqf, Eqg, Eqh, Eqa, Eqb, Eqc, Eqd, Eqi, Eqj, Eqk, Eql, Eqm, Eqn, c10] at k21
              try dsimp only at hB
              rcases cnd_inv hB with ⟨c22, hB⟩ | ⟨c22, hB⟩
              · obtain rfl := Option.some.inj hB
                try simp -implicitDefEqProofs [-getElem?_pos, -Iqa, -Iqb, -Iqc, -Iqd, -Lqa, Lqb, Lqc, Lqd, q19_1, q19_2, q19_3, q19_4, q19_5, q19_6, oa19_6_w0, oa19_6_w1, k9, c10, k21, c22]
                refine Res.bret ?_
                simp -implicitDefEqProofs [-getElem?_pos, -Iqa, -Iqb, -Iqc, -Iqd, -Lqa, Lqb, Lqc, Lqd, and_assoc, QR_notation_reader_rest_2, ownAt, q19_1, q19_2, q19_3, q19_4, q19_5, q19_6, oa19_6_w0, oa19_6_w1, k9, c10, k21, c22]; all_goals ((repeat' apply And.intro) <;> assumption)
              · obtain ⟨y23, k24, hB⟩ := kb_inv hB
                replace k24 := run_notation_reader_take k24
                try simp only [Iqe, Iqf, Lqe, Lqf, Lqg, Lqh, Nqa, Nat.reduceAdd, Tqa, Tqb, Tqc, Eqe, Eqf, Eqg, Eqh, Eqa, Eqb, Eqc, Eqd, Eqi, Eqj, Eqk, Eql, Eqm, Eqn, c10, c22] at k24
                try dsimp only at hB
                rcases cnd_inv hB with ⟨c25, hB⟩ | ⟨c25, hB⟩
                · obtain rfl := Option.some.inj hB
                  try simp -implicitDefEqProofs [-getElem?_pos, -Iqa, -Iqb, -Iqc, -Iqd, -Lqa, Lqb, Lqc, Lqd, q19_1, q19_2, q19_3, q19_4, q19_5, q19_6, oa19_6_w0, oa19_6_w1, k9, c10, k21, c22, k24, c25]
                  refine Res.bgo ?_
                  simp -implicitDefEqProofs [-getElem?_pos, -Iqa, -Iqb, -Iqc, -Iqd, -Lqa, Lqb, Lqc, Lqd, and_assoc, I_notation_reader_rest_2, ownAt, q19_1, q19_2, q19_3, q19_4, q19_5, q19_6, oa19_6_w0, oa19_6_w1, k9, c10, k21, c22, k24, c25]; all_goals ((repeat' apply And.intro) <;> assumption)
                · obtain rfl := Option.some.inj hB
                  try simp -implicitDefEqProofs [-getElem?_pos, -Iqa, -Iqb, -Iqc, -Iqd, -Lqa, Lqb, Lqc, Lqd, q19_1, q19_2, q19_3, q19_4, q19_5, q19_6, oa19_6_w0, oa19_6_w1, k9, c10, k21, c22, k24, c25]
                  refine Res.bret ?_
                  simp -implicitDefEqProofs [-getElem?_pos, -Iqa, -Iqb, -Iqc, -Iqd, -Lqa, Lqb, Lqc, Lqd, and_assoc, QR_notation_reader_rest_2, ownAt, q19_1, q19_2, q19_3, q19_4, q19_5, q19_6, oa19_6_w0, oa19_6_w1, k9, c10, k21, c22, k24, c25]; all_goals ((repeat' apply And.intro) <;> assumption)
            · try subst ea19_6_w1
              obtain ⟨y20, k21, hB⟩ := kb_inv hB
              replace k21 := run_notation_reader_take k21
              try simp only [Iqe, Iqf, Lqe, Lqf, Lqg, Lqh, Nqa, Nat.reduceAdd, Tqa, Tqb, Tqc, Eqe, Eqf, Eqg, Eqh, Eqa, Eqb, Eqc, Eqd, Eqi, Eqj, Eqk, Eql, Eqm, Eqn, c10] at k21
              try dsimp only at hB
              rcases cnd_inv hB with ⟨c22, hB⟩ | ⟨c22, hB⟩
              · obtain rfl := Option.some.inj hB
                try simp -implicitDefEqProofs [-getElem?_pos, -Iqa, -Iqb, -Iqc, -Iqd, -Lqa, Lqb, Lqc, Lqd, q19_1, q19_2, q19_3, q19_4, q19_5, q19_6, oa19_6_w0, k9, c10, k21, c22]
                refine Res.bret ?_
                simp -implicitDefEqProofs [-getElem?_pos, -Iqa, -Iqb, -Iqc, -Iqd, -Lqa, Lqb, Lqc, Lqd, and_assoc, QR_notation_reader_rest_2, ownAt, q19_1, q19_2, q19_3, q19_4, q19_5, q19_6, oa19_6_w0, k9, c10, k21, c22]; all_goals ((repeat' apply And.intro) <;> assumption)
              · obtain ⟨y23, k24, hB⟩ := kb_inv hB
                replace k24 := run_notation_reader_take k24
                try simp only [Iqe, Iqf, Lqe, Lqf, Lqg, Lqh, Nqa, Nat.reduceAdd, Tqa, Tqb, Tqc, Eqe, Eqf, Eqg, Eqh, Eqa, Eqb, Eqc, Eqd, Eqi, Eqj, Eqk, Eql, Eqm, Eqn, c10, c22] at k24
                try dsimp only at hB
                rcases cnd_inv hB with ⟨c25, hB⟩ | ⟨c25, hB⟩
                · obtain rfl := Option.some.inj hB
                  try simp -implicitDefEqProofs [-getElem?_pos, -Iqa, -Iqb, -Iqc, -Iqd, -Lqa, Lqb, Lqc, Lqd, q19_1, q19_2, q19_3, q19_4, q19_5, q19_6, oa19_6_w0, k9, c10, k21, c22, k24, c25]
                  refine Res.bgo ?_
                  simp -implicitDefEqProofs [-getElem?_pos, -Iqa, -Iqb, -Iqc, -Iqd, -Lqa, Lqb, Lqc, Lqd, and_assoc, I_notation_reader_rest_2, ownAt, q19_1, q19_2, q19_3, q19_4, q19_5, q19_6, oa19_6_w0, k9, c10, k21, c22, k24, c25]; all_goals ((repeat' apply And.intro) <;> assumption)
                · obtain rfl := Option.some.inj hB
                  try simp -implicitDefEqProofs [-getElem?_pos, -Iqa, -Iqb, -Iqc, -Iqd, -Lqa, Lqb, Lqc, Lqd, q19_1, q19_2, q19_3, q19_4, q19_5, q19_6, oa19_6_w0, k9, c10, k21, c22, k24, c25]
                  refine Res.bret ?_
                  simp -implicitDefEqProofs [-getElem?_pos, -Iqa, -Iqb, -Iqc, -Iqd, -Lqa, Lqb, Lqc, Lqd, and_assoc, QR_notation_reader_rest_2, ownAt, q19_1, q19_2, q19_3, q19_4, q19_5, q19_6, oa19_6_w0, k9, c10, k21, c22, k24, c25]; all_goals ((repeat' apply And.intro) <;> assumption)
          · try subst ea19_6_w0
            rcases a19_6_w1 with ⟨ga19_6_w1, rfl, oa19_6_w1⟩ | ⟨rfl, ea19_6_w1⟩
            · obtain ⟨y20, k21, hB⟩ := kb_inv hB
              replace k21 := run_notation_reader_take k21
              try simp only [Iqe, Iqf, Lqe, Lqf, Lqg, Lqh, Nqa, Nat.reduceAdd, Tqa, Tqb, Tqc, Eqe, Eqf, Eqg, Eqh, Eqa, Eqb, Eqc, Eqd, Eqi, Eqj, Eqk, Eql, Eqm, Eqn, c10] at k21
              try dsimp only at hB
              rcases cnd_inv hB with ⟨c22, hB⟩ | ⟨c22, hB⟩
              · obtain rfl := Option.some.inj hB
                try simp -implicitDefEqProofs [-getElem?_pos, -Iqa, -Iqb, -Iqc, -Iqd, -Lqa, Lqb, Lqc, Lqd, q19_1, q19_2, q19_3, q19_4, q19_5, q19_6, oa19_6_w1, k9, c10, k21, c22]
                refine Res.bret ?_
                simp -implicitDefEqProofs [-getElem?_pos, -Iqa, -Iqb, -Iqc, -Iqd, -Lqa, Lqb, Lqc, Lqd, and_assoc, QR_notation_reader_rest_2, ownAt, q19_1, q19_2, q19_3, q19_4, q19_5, q19_6, oa19_6_w1, k9, c10, k21, c22]; all_goals ((repeat' apply And.intro) <;> assumption)
              · obtain ⟨y23, k24, hB⟩ := kb_inv hB
                replace k24 := run_notation_reader_take k24
                try simp only [Iqe, Iqf, Lqe, Lqf, Lqg, Lqh, Nqa, Nat.reduceAdd, Tqa, Tqb, Tqc, Eqe, Eqf, Eqg, Eqh, Eqa, Eqb, Eqc, Eqd, Eqi, Eqj, Eqk, Eql, Eqm, Eqn, c10, c22] at k24
                try dsimp only at hB
                rcases cnd_inv hB with ⟨c25, hB⟩ | ⟨c25, hB⟩
                · obtain rfl := Option.some.inj hB
                  try simp -implicitDefEqProofs [-getElem?_pos, -Iqa, -Iqb, -Iqc, -Iqd, -Lqa, Lqb, Lqc, Lqd, q19_1, q19_2, q19_3, q19_4, q19_5, q19_6, oa19_6_w1, k9, c10, k21, c22, k24, c25]
                  refine Res.bgo ?_
                  simp -implicitDefEqProofs [-getElem?_pos, -Iqa, -Iqb, -Iqc, -Iqd, -Lqa, Lqb, Lqc, Lqd, and_assoc, I_notation_reader_rest_2, ownAt, q19_1, q19_2, q19_3, q19_4, q19_5, q19_6, oa19_6_w1, k9, c10, k21, c22, k24, c25]; all_goals ((repeat' apply And.intro) <;> assumption)
                · obtain rfl := Option.some.inj hB
                  try simp -implicitDefEqProofs [-getElem?_pos, -Iqa, -Iqb, -Iqc, -Iqd, -Lqa, Lqb, Lqc, Lqd, q19_1, q19_2, q19_3, q19_4, q19_5, q19_6, oa19_6_w1, k9, c10, k21, c22, k24, c25]
                  refine Res.bret ?_
                  simp -implicitDefEqProofs [-getElem?_pos, -Iqa, -Iqb, -Iqc, -Iqd, -Lqa, Lqb, Lqc, Lqd, and_assoc, QR_notation_reader_rest_2, ownAt, q19_1, q19_2, q19_3, q19_4, q19_5, q19_6, oa19_6_w1, k9, c10, k21, c22, k24, c25]; all_goals ((repeat' apply And.intro) <;> assumption)
            · try subst ea19_6_w1
              obtain ⟨y20, k21, hB⟩ := kb_inv hB
              replace k21 := run_notation_reader_take k21
              try simp only [Iqe, Iqf, Lqe, Lqf, Lqg, Lqh, Nqa, Nat.reduceAdd, Tqa, Tqb, Tqc, Eqe, Eqf, Eqg, Eqh, Eqa, Eqb, Eqc, Eqd, Eqi, Eqj, Eqk, Eql, Eqm, Eqn, c10] at k21
              try dsimp only at hB
              rcases cnd_inv hB with ⟨c22, hB⟩ | ⟨c22, hB⟩
              · obtain rfl := Option.some.inj hB
                try simp -implicitDefEqProofs [-getElem?_pos, -Iqa, -Iqb, -Iqc, -Iqd, -Lqa, Lqb, Lqc, Lqd, q19_1, q19_2, q19_3, q19_4, q19_5, q19_6, k9, c10, k21, c22]
                refine Res.bret ?_
                simp -implicitDefEqProofs [-getElem?_pos, -Iqa, -Iqb, -Iqc, -Iqd, -Lqa, Lqb, Lqc, Lqd, and_assoc, QR_notation_reader_rest_2, ownAt, q19_1, q19_2, q19_3, q19_4, q19_5, q19_6, k9, c10, k21, c22]; all_goals ((repeat' apply And.intro) <;> assumption)
              · obtain ⟨y23, k24, hB⟩ := kb_inv hB
                replace k24 := run_notation_reader_take k24
                try simp only [Iqe, Iqf, Lqe, Lqf, Lqg, Lqh, Nqa, Nat.reduceAdd, Tqa, Tqb, Tqc, Eqe, Eqf, Eqg, Eqh, Eqa, Eqb, Eqc, Eqd, Eqi, Eqj, Eqk, Eql, Eqm, Eqn, c10, c22] at k24
                try dsimp only at hB
                rcases cnd_inv hB with ⟨c25, hB⟩ | ⟨c25, hB⟩
                · obtain rfl := Option.some.inj hB
                  try simp -implicitDefEqProofs [-getElem?_pos, -Iqa, -Iqb, -Iqc, -Iqd, -Lqa, Lqb, Lqc, Lqd, q19_1, q19_2, q19_3, q19_4, q19_5, q19_6, k9, c10, k21, c22, k24, c25]
                  refine Res.bgo ?_
                  simp -implicitDefEqProofs [-getElem?_pos, -Iqa, -Iqb, -Iqc, -Iqd, -Lqa, Lqb, Lqc, Lqd, and_assoc, I_notation_reader_rest_2, ownAt, q19_1, q19_2, q19_3, q19_4, q19_5, q19_6, k9, c10, k21, c22, k24, c25]; all_goals ((repeat' apply And.intro) <;> assumption)
                · obtain rfl := Option.some.inj hB
                  try simp -implicitDefEqProofs [-getElem?_pos, -Iqa, -Iqb, -Iqc, -Iqd, -Lqa, Lqb, Lqc, Lqd, q19_1, q19_2, q19_3, q19_4, q19_5, q19_6, k9, c10, k21, c22, k24, c25]
                  refine Res.bret ?_
                  simp -implicitDefEqProofs [-getElem?_pos, -Iqa, -Iqb, -Iqc, -Iqd, -Lqa, Lqb, Lqc, Lqd, and_assoc, QR_notation_reader_rest_2, ownAt, q19_1, q19_2, q19_3, q19_4, q19_5, q19_6, k9, c10, k21, c22, k24, c25]; all_goals ((repeat' apply And.intro) <;> assumption)
        · exact hq.elim
        · simp only [stpK_ret] at hB
          obtain ⟨rfl, hq⟩ := hq
          obtain ⟨u1_0, u1_1, u1_2⟩ := z19r
          dsimp only at hB hq
          simp only [QR_notation_reader_rest_1] at hq
          obtain ⟨q19_r1, q19_r2, ⟨g19_r4, v19_r4_w0, v19_r4_w1, q19_r3, q19_r4, a19_r4_w0, a19_r4_w1⟩⟩ := hq
          rcases a19_r4_w0 with ⟨ga19_r4_w0, rfl, oa19_r4_w0⟩ | ⟨rfl, ea19_r4_w0⟩
          · rcases a19_r4_w1 with ⟨ga19_r4_w1, rfl, oa19_r4_w1⟩ | ⟨rfl, ea19_r4_w1⟩
            · obtain rfl := Option.some.inj hB
              try simp -implicitDefEqProofs [-getElem?_pos, -Iqa, -Iqb, -Iqc, -Iqd, -Lqa, Lqb, Lqc, Lqd, q19_r1, q19_r2, q19_r3, q19_r4, oa19_r4_w0, oa19_r4_w1, k9, c10]
              refine Res.bret ?_
              simp -implicitDefEqProofs [-getElem?_pos, -Iqa, -Iqb, -Iqc, -Iqd, -Lqa, Lqb, Lqc, Lqd, and_assoc, QR_notation_reader_rest_2, ownAt, q19_r1, q19_r2, q19_r3, q19_r4, oa19_r4_w0, oa19_r4_w1, k9, c10]; all_goals ((repeat' apply And.intro) <;> assumption)
            · try subst ea19_r4_w1
              obtain rfl := Option.some.inj hB
              try simp -implicitDefEqProofs [-getElem?_pos, -Iqa, -Iqb, -Iqc, -Iqd, -Lqa, Lqb, Lqc, Lqd, q19_r1, q19_r2, q19_r3, q19_r4, oa19_r4_w0, k9, c10]
              refine Res.bret ?_
              simp -implicitDefEqProofs [-getElem?_pos, -Iqa, -Iqb, -Iqc, -Iqd, -Lqa, Lqb, Lqc, Lqd, and_assoc, QR_notation_reader_rest_2, ownAt, q19_r1, q19_r2, q19_r3, q19_r4, oa19_r4_w0, k9, c10]; all_goals ((repeat' apply And.intro) <;> assumption)
          · try subst ea19_r4_w0
            rcases a19_r4_w1 with ⟨ga19_r4_w1, rfl, oa19_r4_w1⟩ | ⟨rfl, ea19_r4_w1⟩
            · obtain rfl := Option.some.inj hB
              try simp -implicitDefEqProofs [-getElem?_pos, -Iqa, -Iqb, -Iqc, -Iqd, -Lqa, Lqb, Lqc, Lqd, q19_r1, q19_r2, q19_r3, q19_r4, oa19_r4_w1, k9, c10]
              refine Res.bret ?_
              simp -implicitDefEqProofs [-getElem?_pos, -Iqa, -Iqb, -Iqc, -Iqd, -Lqa, Lqb, Lqc, Lqd, and_assoc, QR_notation_reader_rest_2, ownAt, q19_r1, q19_r2, q19_r3, q19_r4, oa19_r4_w1, k9, c10]; all_goals ((repeat' apply And.intro) <;> assumption)
            · try subst ea19_r4_w1
              obtain rfl := Option.some.inj hB
              try simp -implicitDefEqProofs [-getElem?_pos, -Iqa, -Iqb, -Iqc, -Iqd, -Lqa, Lqb, Lqc, Lqd, q19_r1, q19_r2, q19_r3, q19_r4, k9, c10]
              refine Res.bret ?_
              simp -implicitDefEqProofs [-getElem?_pos, -Iqa, -Iqb, -Iqc, -Iqd, -Lqa, Lqb, Lqc, Lqd, and_assoc, QR_notation_reader_rest_2, ownAt, q19_r1, q19_r2, q19_r3, q19_r4, k9, c10]; all_goals ((repeat' apply And.intro) <;> assumption)
      · obtain rfl := Option.some.inj hB
        subst hr4
        try simp -implicitDefEqProofs [-getElem?_pos, -Iqa, -Iqb, -Iqc, -Iqd, -Lqa, Lqb, Lqc, Lqd, q1, q2, q3, q4, q5, q6, oa6_w0, k9, c10]
        refine Res.bret ?_
        simp -implicitDefEqProofs [-getElem?_pos, -Iqa, -Iqb, -Iqc, -Iqd, -Lqa, Lqb, Lqc, Lqd, and_assoc, QR_notation_reader_rest_2, ownAt, q1, q2, q3, q4, q5, q6, oa6_w0, k9, c10]; all_goals ((repeat' apply And.intro) <;> assumption)
  · try subst ea6_w0
    rcases a6_w1 with ⟨ga6_w1, rfl, oa6_w1⟩ | ⟨rfl, ea6_w1⟩
    · obtain ⟨y8, k9, hB⟩ := kb_inv hB
      replace k9 := run_notation_reader_number k9
      try simp only [Iqe, Iqf, Lqe, Lqf, Lqg, Lqh, Nqa, Nat.reduceAdd, Tqa, Tqb, Tqc, Eqe, Eqf, Eqg, Eqh, Eqa, Eqb, Eqc, Eqd, Eqi, Eqj, Eqk, Eql, Eqm, Eqn] at k9
      try dsimp only at hB
      rcases cnd_inv hB with ⟨c10, hB⟩ | ⟨c10, hB⟩
      · subst hr4
        subst hr7
        try simp -implicitDefEqProofs [-getElem?_pos, -Iqa, -Iqb, -Iqc, -Iqd, -Lqa, Lqb, Lqc, Lqd, q1, q2, q3, q4, q5, q6, oa6_w1, k9, c10]
        generalize hz1 : C Tryz.prog cf cc1 _ = z1
        obtain ⟨o, hB1, hB⟩ := kb_inv hB
        have hJ := P_notation_reader_rest_1 (hc1.symm.trans (by kernel_rfl)) hz1 (by simp -implicitDefEqProofs [-getElem?_pos, -Iqa, -Iqb, -Iqc, -Iqd, -Lqa, Lqb, Lqc, Lqd, and_assoc, J_notation_reader_rest_1, ownAt, q1, q2, q3, q4, q5, q6, oa6_w1, k9, c10]; all_goals ((repeat' apply And.intro) <;> assumption)) hB1
        obtain ⟨e1, s1, rfl, hq⟩ := hJ.open
        clear hB1
        rcases o with z19 | ⟨_, _⟩ | z19r
        · simp only [stpK_go] at hB
          obtain ⟨rfl, hq⟩ := hq
          obtain ⟨u1_0, u1_1, u1_2, u1_3, u1_4⟩ := z19
          dsimp only at hB hq
          simp only [Q_notation_reader_rest_1] at hq
          obtain ⟨⟨q19_1, q19_2⟩, ⟨g19_4, q19_3, q19_4⟩, ⟨g19_6, v19_6_w0, v19_6_w1, q19_5, q19_6, a19_6_w0, a19_6_w1⟩⟩ := hq
          rcases a19_6_w0 with ⟨ga19_6_w0, rfl, oa19_6_w0⟩ | ⟨rfl, ea19_6_w0⟩
          · rcases a19_6_w1 with ⟨ga19_6_w1, rfl, oa19_6_w1⟩ | ⟨rfl, ea19_6_w1⟩
            · obtain ⟨y20, k21, hB⟩ := kb_inv hB
              replace k21 := run_notation_reader_take k21
              try simp only [Iqe, Iqf, Lqe, Lqf, Lqg, Lqh, Nqa, Nat.reduceAdd, Tqa, Tqb, Tqc, Eqe, Eqf, Eqg, Eqh, Eqa, Eqb, Eqc, Eqd, Eqi, Eqj, Eqk, Eql, Eqm, Eqn, c10] at k21
              try dsimp only at hB
              rcases cnd_inv hB with ⟨c22, hB⟩ | ⟨c22, hB⟩
              · obtain rfl := Option.some.inj hB
                try simp -implicitDefEqProofs [-getElem?_pos, -Iqa, -Iqb, -Iqc, -Iqd, -Lqa, Lqb, Lqc, Lqd, q19_1, q19_2, q19_3, q19_4, q19_5, q19_6, oa19_6_w0, oa19_6_w1, k9, c10, k21, c22]
                refine Res.bret ?_
                simp -implicitDefEqProofs [-getElem?_pos, -Iqa, -Iqb, -Iqc, -Iqd, -Lqa, Lqb, Lqc, Lqd, and_assoc, QR_notation_reader_rest_2, ownAt, q19_1, q19_2, q19_3, q19_4, q19_5, q19_6, oa19_6_w0, oa19_6_w1, k9, c10, k21, c22]; all_goals ((repeat' apply And.intro) <;> assumption)
              · obtain ⟨y23, k24, hB⟩ := kb_inv hB
                replace k24 := run_notation_reader_take k24
                try simp only [Iqe, Iqf, Lqe, Lqf, Lqg, Lqh, Nqa, Nat.reduceAdd, Tqa, Tqb, Tqc, Eqe, Eqf, Eqg, Eqh, Eqa, Eqb, Eqc, Eqd, Eqi, Eqj, Eqk, Eql, Eqm, Eqn, c10, c22] at k24
                try dsimp only at hB
                rcases cnd_inv hB with ⟨c25, hB⟩ | ⟨c25, hB⟩
                · obtain rfl := Option.some.inj hB
                  try simp -implicitDefEqProofs [-getElem?_pos, -Iqa, -Iqb, -Iqc, -Iqd, -Lqa, Lqb, Lqc, Lqd, q19_1, q19_2, q19_3, q19_4, q19_5, q19_6, oa19_6_w0, oa19_6_w1, k9, c10, k21, c22, k24, c25]
                  refine Res.bgo ?_
                  simp -implicitDefEqProofs [-getElem?_pos, -Iqa, -Iqb, -Iqc, -Iqd, -Lqa, Lqb, Lqc, Lqd, and_assoc, I_notation_reader_rest_2, ownAt, q19_1, q19_2, q19_3, q19_4, q19_5, q19_6, oa19_6_w0, oa19_6_w1, k9, c10, k21, c22, k24, c25]; all_goals ((repeat' apply And.intro) <;> assumption)
                · obtain rfl := Option.some.inj hB
                  try simp -implicitDefEqProofs [-getElem?_pos, -Iqa, -Iqb, -Iqc, -Iqd, -Lqa, Lqb, Lqc, Lqd, q19_1, q19_2, q19_3, q19_4, q19_5, q19_6, oa19_6_w0, oa19_6_w1, k9, c10, k21, c22, k24, c25]
                  refine Res.bret ?_
                  simp -implicitDefEqProofs [-getElem?_pos, -Iqa, -Iqb, -Iqc, -Iqd, -Lqa, Lqb, Lqc, Lqd, and_assoc, QR_notation_reader_rest_2, ownAt, q19_1, q19_2, q19_3, q19_4, q19_5, q19_6, oa19_6_w0, oa19_6_w1, k9, c10, k21, c22, k24, c25]; all_goals ((repeat' apply And.intro) <;> assumption)
            · try subst ea19_6_w1
              obtain ⟨y20, k21, hB⟩ := kb_inv hB
              replace k21 := run_notation_reader_take k21
              try simp only [Iqe, Iqf, Lqe, Lqf, Lqg, Lqh, Nqa, Nat.reduceAdd, Tqa, Tqb, Tqc, Eqe, Eqf, Eqg, Eqh, Eqa, Eqb, Eqc, Eqd, Eqi, Eqj, Eqk, Eql, Eqm, Eqn, c10] at k21
              try dsimp only at hB
              rcases cnd_inv hB with ⟨c22, hB⟩ | ⟨c22, hB⟩
              · obtain rfl := Option.some.inj hB
                try simp -implicitDefEqProofs [-getElem?_pos, -Iqa, -Iqb, -Iqc, -Iqd, -Lqa, Lqb, Lqc, Lqd, q19_1, q19_2, q19_3, q19_4, q19_5, q19_6, oa19_6_w0, k9, c10, k21, c22]
                refine Res.bret ?_
                simp -implicitDefEqProofs [-getElem?_pos, -Iqa, -Iqb, -Iqc, -Iqd, -Lqa, Lqb, Lqc, Lqd, and_assoc, QR_notation_reader_rest_2, ownAt, q19_1, q19_2, q19_3, q19_4, q19_5, q19_6, oa19_6_w0, k9, c10, k21, c22]; all_goals ((repeat' apply And.intro) <;> assumption)
              · obtain ⟨y23, k24, hB⟩ := kb_inv hB
                replace k24 := run_notation_reader_take k24
                try simp only [Iqe, Iqf, Lqe, Lqf, Lqg, Lqh, Nqa, Nat.reduceAdd, Tqa, Tqb, Tqc, Eqe, Eqf, Eqg, Eqh, Eqa, Eqb, Eqc, Eqd, Eqi, Eqj, Eqk, Eql, Eqm, Eqn, c10, c22] at k24
                try dsimp only at hB
                rcases cnd_inv hB with ⟨c25, hB⟩ | ⟨c25, hB⟩
                · obtain rfl := Option.some.inj hB
                  try simp -implicitDefEqProofs [-getElem?_pos, -Iqa, -Iqb, -Iqc, -Iqd, -Lqa, Lqb, Lqc, Lqd, q19_1, q19_2, q19_3, q19_4, q19_5, q19_6, oa19_6_w0, k9, c10, k21, c22, k24, c25]
                  refine Res.bgo ?_
                  simp -implicitDefEqProofs [-getElem?_pos, -Iqa, -Iqb, -Iqc, -Iqd, -Lqa, Lqb, Lqc, Lqd, and_assoc, I_notation_reader_rest_2, ownAt, q19_1, q19_2, q19_3, q19_4, q19_5, q19_6, oa19_6_w0, k9, c10, k21, c22, k24, c25]; all_goals ((repeat' apply And.intro) <;> assumption)
                · obtain rfl := Option.some.inj hB
                  try simp -implicitDefEqProofs [-getElem?_pos, -Iqa, -Iqb, -Iqc, -Iqd, -Lqa, Lqb, Lqc, Lqd, q19_1, q19_2, q19_3, q19_4, q19_5, q19_6, oa19_6_w0, k9, c10, k21, c22, k24, c25]
                  refine Res.bret ?_
                  simp -implicitDefEqProofs [-getElem?_pos, -Iqa, -Iqb, -Iqc, -Iqd, -Lqa, Lqb, Lqc, Lqd, and_assoc, QR_notation_reader_rest_2, ownAt, q19_1, q19_2, q19_3, q19_4, q19_5, q19_6, oa19_6_w0, k9, c10, k21, c22, k24, c25]; all_goals ((repeat' apply And.intro) <;> assumption)
          · try subst ea19_6_w0
            rcases a19_6_w1 with ⟨ga19_6_w1, rfl, oa19_6_w1⟩ | ⟨rfl, ea19_6_w1⟩
            · obtain ⟨y20, k21, hB⟩ := kb_inv hB
              replace k21 := run_notation_reader_take k21
              try simp only [Iqe, Iqf, Lqe, Lqf, Lqg, Lqh, Nqa, Nat.reduceAdd, Tqa, Tqb, Tqc, Eqe, Eqf, Eqg, Eqh, Eqa, Eqb, Eqc, Eqd, Eqi, Eqj, Eqk, Eql, Eqm, Eqn, c10] at k21
              try dsimp only at hB
              rcases cnd_inv hB with ⟨c22, hB⟩ | ⟨c22, hB⟩
              · obtain rfl := Option.some.inj hB
                try simp -implicitDefEqProofs [-getElem?_pos, -Iqa, -Iqb, -Iqc, -Iqd, -Lqa, Lqb, Lqc, Lqd, q19_1, q19_2, q19_3, q19_4, q19_5, q19_6, oa19_6_w1, k9, c10, k21, c22]
                refine Res.bret ?_
                simp -implicitDefEqProofs [-getElem?_pos, -Iqa, -Iqb, -Iqc, -Iqd, -Lqa, Lqb, Lqc, Lqd, and_assoc, QR_notation_reader_rest_2, ownAt, q19_1, q19_2, q19_3, q19_4, q19_5, q19_6, oa19_6_w1, k9, c10, k21, c22]; all_goals ((repeat' apply And.intro) <;> assumption)
              · obtain ⟨y23, k24, hB⟩ := kb_inv hB
                replace k24 := run_notation_reader_take k24
                try simp only [Iqe, Iqf, Lqe, Lqf, Lqg, Lqh, Nqa, Nat.reduceAdd, Tqa, Tqb, Tqc, Eqe, Eqf, Eqg, Eqh, Eqa, Eqb, Eqc, Eqd, Eqi, Eqj, Eqk, Eql, Eqm, Eqn, c10, c22] at k24
                try dsimp only at hB
                rcases cnd_inv hB with ⟨c25, hB⟩ | ⟨c25, hB⟩
                · obtain rfl := Option.some.inj hB
                  try simp -implicitDefEqProofs [-getElem?_pos, -Iqa, -Iqb, -Iqc, -Iqd, -Lqa, Lqb, Lqc, Lqd, q19_1, q19_2, q19_3, q19_4, q19_5, q19_6, oa19_6_w1, k9, c10, k21, c22, k24, c25]
                  refine Res.bgo ?_
                  simp -implicitDefEqProofs [-getElem?_pos, -Iqa, -Iqb, -Iqc, -Iqd, -Lqa, Lqb, Lqc, Lqd, and_assoc, I_notation_reader_rest_2, ownAt, q19_1, q19_2, q19_3, q19_4, q19_5, q19_6, oa19_6_w1, k9, c10, k21, c22, k24, c25]; all_goals ((repeat' apply And.intro) <;> assumption)
                · obtain rfl := Option.some.inj hB
                  try simp -implicitDefEqProofs [-getElem?_pos, -Iqa, -Iqb, -Iqc, -Iqd, -Lqa, Lqb, Lqc, Lqd, q19_1, q19_2, q19_3, q19_4, q19_5, q19_6, oa19_6_w1, k9, c10, k21, c22, k24, c25]
                  refine Res.bret ?_
                  simp -implicitDefEqProofs [-getElem?_pos, -Iqa, -Iqb, -Iqc, -Iqd, -Lqa, Lqb, Lqc, Lqd, and_assoc, QR_notation_reader_rest_2, ownAt, q19_1, q19_2, q19_3, q19_4, q19_5, q19_6, oa19_6_w1, k9, c10, k21, c22, k24, c25]; all_goals ((repeat' apply And.intro) <;> assumption)
            · try subst ea19_6_w1
              obtain ⟨y20, k21, hB⟩ := kb_inv hB
              replace k21 := run_notation_reader_take k21
              try simp only [Iqe, Iqf, Lqe, Lqf, Lqg, Lqh, Nqa, Nat.reduceAdd, Tqa, Tqb, Tqc, Eqe, Eqf, Eqg, Eqh, Eqa, Eqb, Eqc, Eqd, Eqi, Eqj, Eqk, Eql, Eqm, Eqn, c10] at k21
              try dsimp only at hB
              rcases cnd_inv hB with ⟨c22, hB⟩ | ⟨c22, hB⟩
              · obtain rfl := Option.some.inj hB
                try simp -implicitDefEqProofs [-getElem?_pos, -Iqa, -Iqb, -Iqc, -Iqd, -Lqa, Lqb, Lqc, Lqd, q19_1, q19_2, q19_3, q19_4, q19_5, q19_6, k9, c10, k21, c22]
                refine Res.bret ?_
                simp -implicitDefEqProofs [-getElem?_pos, -Iqa, -Iqb, -Iqc, -Iqd, -Lqa, Lqb, Lqc, Lqd, and_assoc, QR_notation_reader_rest_2, ownAt, q19_1, q19_2, q19_3, q19_4, q19_5, q19_6, k9, c10, k21, c22]; all_goals ((repeat' apply And.intro) <;> assumption)
              · obtain ⟨y23, k24, hB⟩ := kb_inv hB
                replace k24 := run_notation_reader_take k24
                try simp only [Iqe, Iqf, Lqe, Lqf, Lqg, Lqh, Nqa, Nat.reduceAdd, Tqa, Tqb, Tqc, Eqe, Eqf, Eqg, Eqh, Eqa, Eqb, Eqc, Eqd, Eqi, Eqj, Eqk, Eql, Eqm, Eqn, c10, c22] at k24
                try dsimp only at hB
                rcases cnd_inv hB with ⟨c25, hB⟩ | ⟨c25, hB⟩
                · obtain rfl := Option.some.inj hB
                  try simp -implicitDefEqProofs [-getElem?_pos, -Iqa, -Iqb, -Iqc, -Iqd, -Lqa, Lqb, Lqc, Lqd, q19_1, q19_2, q19_3, q19_4, q19_5, q19_6, k9, c10, k21, c22, k24, c25]
                  refine Res.bgo ?_
                  simp -implicitDefEqProofs [-getElem?_pos, -Iqa, -Iqb, -Iqc, -Iqd, -Lqa, Lqb, Lqc, Lqd, and_assoc, I_notation_reader_rest_2, ownAt, q19_1, q19_2, q19_3, q19_4, q19_5, q19_6, k9, c10, k21, c22, k24, c25]; all_goals ((repeat' apply And.intro) <;> assumption)
                · obtain rfl := Option.some.inj hB
                  try simp -implicitDefEqProofs [-getElem?_pos, -Iqa, -Iqb, -Iqc, -Iqd, -Lqa, Lqb, Lqc, Lqd, q19_1, q19_2, q19_3, q19_4, q19_5, q19_6, k9, c10, k21, c22, k24, c25]
                  refine Res.bret ?_
                  simp -implicitDefEqProofs [-getElem?_pos, -Iqa, -Iqb, -Iqc, -Iqd, -Lqa, Lqb, Lqc, Lqd, and_assoc, QR_notation_reader_rest_2, ownAt, q19_1, q19_2, q19_3, q19_4, q19_5, q19_6, k9, c10, k21, c22, k24, c25]; all_goals ((repeat' apply And.intro) <;> assumption)
        · exact hq.elim
        · simp only [stpK_ret] at hB
          obtain ⟨rfl, hq⟩ := hq
          obtain ⟨u1_0, u1_1, u1_2⟩ := z19r
          dsimp only at hB hq
          simp only [QR_notation_reader_rest_1] at hq
          obtain ⟨q19_r1, q19_r2, ⟨g19_r4, v19_r4_w0, v19_r4_w1, q19_r3, q19_r4, a19_r4_w0, a19_r4_w1⟩⟩ := hq
          rcases a19_r4_w0 with ⟨ga19_r4_w0, rfl, oa19_r4_w0⟩ | ⟨rfl, ea19_r4_w0⟩
          · rcases a19_r4_w1 with ⟨ga19_r4_w1, rfl, oa19_r4_w1⟩ | ⟨rfl, ea19_r4_w1⟩
            · obtain rfl := Option.some.inj hB
              try simp -implicitDefEqProofs [-getElem?_pos, -Iqa, -Iqb, -Iqc, -Iqd, -Lqa, Lqb, Lqc, Lqd, q19_r1, q19_r2, q19_r3, q19_r4, oa19_r4_w0, oa19_r4_w1, k9, c10]
              refine Res.bret ?_
              simp -implicitDefEqProofs [-getElem?_pos, -Iqa, -Iqb, -Iqc, -Iqd, -Lqa, Lqb, Lqc, Lqd, and_assoc, QR_notation_reader_rest_2, ownAt, q19_r1, q19_r2, q19_r3, q19_r4, oa19_r4_w0, oa19_r4_w1, k9, c10]; all_goals ((repeat' apply And.intro) <;> assumption)
            · try subst ea19_r4_w1
              obtain rfl := Option.some.inj hB
              try simp -implicitDefEqProofs [-getElem?_pos, -Iqa, -Iqb, -Iqc, -Iqd, -Lqa, Lqb, Lqc, Lqd, q19_r1, q19_r2, q19_r3, q19_r4, oa19_r4_w0, k9, c10]
              refine Res.bret ?_
              simp -implicitDefEqProofs [-getElem?_pos, -Iqa, -Iqb, -Iqc, -Iqd, -Lqa, Lqb, Lqc, Lqd, and_assoc, QR_notation_reader_rest_2, ownAt, q19_r1, q19_r2, q19_r3, q19_r4, oa19_r4_w0, k9, c10]; all_goals ((repeat' apply And.intro) <;> assumption)
          · try subst ea19_r4_w0
            rcases a19_r4_w1 with ⟨ga19_r4_w1, rfl, oa19_r4_w1⟩ | ⟨rfl, ea19_r4_w1⟩
            · obtain rfl := Option.some.inj hB
              try simp -implicitDefEqProofs [-getElem?_pos, -Iqa, -Iqb, -Iqc, -Iqd, -Lqa, Lqb, Lqc, Lqd, q19_r1, q19_r2, q19_r3, q19_r4, oa19_r4_w1, k9, c10]
              refine Res.bret ?_
              simp -implicitDefEqProofs [-getElem?_pos, -Iqa, -Iqb, -Iqc, -Iqd, -Lqa, Lqb, Lqc, Lqd, and_assoc, QR_notation_reader_rest_2, ownAt, q19_r1, q19_r2, q19_r3, q19_r4, oa19_r4_w1, k9, c10]; all_goals ((repeat' apply And.intro) <;> assumption)
            · try subst ea19_r4_w1
              obtain rfl := Option.some.inj hB
              try simp -implicitDefEqProofs [-getElem?_pos, -Iqa, -Iqb, -Iqc, -Iqd, -Lqa, Lqb, Lqc, Lqd, q19_r1, q19_r2, q19_r3, q19_r4, k9, c10]
              refine Res.bret ?_
              simp -implicitDefEqProofs [-getElem?_pos, -Iqa, -Iqb, -Iqc, -Iqd, -Lqa, Lqb, Lqc, Lqd, and_assoc, QR_notation_reader_rest_2, ownAt, q19_r1, q19_r2, q19_r3, q19_r4, k9, c10]; all_goals ((repeat' apply And.intro) <;> assumption)
      · obtain rfl := Option.some.inj hB
        subst hr4
        try simp -implicitDefEqProofs [-getElem?_pos, -Iqa, -Iqb, -Iqc, -Iqd, -Lqa, Lqb, Lqc, Lqd, q1, q2, q3, q4, q5, q6, oa6_w1, k9, c10]
        refine Res.bret ?_
        simp -implicitDefEqProofs [-getElem?_pos, -Iqa, -Iqb, -Iqc, -Iqd, -Lqa, Lqb, Lqc, Lqd, and_assoc, QR_notation_reader_rest_2, ownAt, q1, q2, q3, q4, q5, q6, oa6_w1, k9, c10]; all_goals ((repeat' apply And.intro) <;> assumption)
    · try subst ea6_w1
      obtain ⟨y8, k9, hB⟩ := kb_inv hB
      replace k9 := run_notation_reader_number k9
      try simp only [Iqe, Iqf, Lqe, Lqf, Lqg, Lqh, Nqa, Nat.reduceAdd, Tqa, Tqb, Tqc, Eqe, Eqf, Eqg, Eqh, Eqa, Eqb, Eqc, Eqd, Eqi, Eqj, Eqk, Eql, Eqm, Eqn] at k9
      try dsimp only at hB
      rcases cnd_inv hB with ⟨c10, hB⟩ | ⟨c10, hB⟩
      · subst hr4
        subst hr7
        try simp -implicitDefEqProofs [-getElem?_pos, -Iqa, -Iqb, -Iqc, -Iqd, -Lqa, Lqb, Lqc, Lqd, q1, q2, q3, q4, q5, q6, k9, c10]
        generalize hz1 : C Tryz.prog cf cc1 _ = z1
        obtain ⟨o, hB1, hB⟩ := kb_inv hB
        have hJ := P_notation_reader_rest_1 (hc1.symm.trans (by kernel_rfl)) hz1 (by simp -implicitDefEqProofs [-getElem?_pos, -Iqa, -Iqb, -Iqc, -Iqd, -Lqa, Lqb, Lqc, Lqd, and_assoc, J_notation_reader_rest_1, ownAt, q1, q2, q3, q4, q5, q6, k9, c10]; all_goals ((repeat' apply And.intro) <;> assumption)) hB1
        obtain ⟨e1, s1, rfl, hq⟩ := hJ.open
        clear hB1
        rcases o with z19 | ⟨_, _⟩ | z19r
        · simp only [stpK_go] at hB
          obtain ⟨rfl, hq⟩ := hq
          obtain ⟨u1_0, u1_1, u1_2, u1_3, u1_4⟩ := z19
          dsimp only at hB hq
          simp only [Q_notation_reader_rest_1] at hq
          obtain ⟨⟨q19_1, q19_2⟩, ⟨g19_4, q19_3, q19_4⟩, ⟨g19_6, v19_6_w0, v19_6_w1, q19_5, q19_6, a19_6_w0, a19_6_w1⟩⟩ := hq
          rcases a19_6_w0 with ⟨ga19_6_w0, rfl, oa19_6_w0⟩ | ⟨rfl, ea19_6_w0⟩
          · rcases a19_6_w1 with ⟨ga19_6_w1, rfl, oa19_6_w1⟩ | ⟨rfl, ea19_6_w1⟩
            · obtain ⟨y20, k21, hB⟩ := kb_inv hB
              replace k21 := run_notation_reader_take k21
              try simp only [Iqe, Iqf, Lqe, Lqf, Lqg, Lqh, Nqa, Nat.reduceAdd, Tqa, Tqb, Tqc, Eqe, Eqf, Eqg, Eqh, Eqa, Eqb, Eqc, Eqd, Eqi, Eqj, Eqk, Eql, Eqm, Eqn, c10] at k21
              try dsimp only at hB
              rcases cnd_inv hB with ⟨c22, hB⟩ | ⟨c22, hB⟩
              · obtain rfl := Option.some.inj hB
                try simp -implicitDefEqProofs [-getElem?_pos, -Iqa, -Iqb, -Iqc, -Iqd, -Lqa, Lqb, Lqc, Lqd, q19_1, q19_2, q19_3, q19_4, q19_5, q19_6, oa19_6_w0, oa19_6_w1, k9, c10, k21, c22]
                refine Res.bret ?_
                simp -implicitDefEqProofs [-getElem?_pos, -Iqa, -Iqb, -Iqc, -Iqd, -Lqa, Lqb, Lqc, Lqd, and_assoc, QR_notation_reader_rest_2, ownAt, q19_1, q19_2, q19_3, q19_4, q19_5, q19_6, oa19_6_w0, oa19_6_w1, k9, c10, k21, c22]; all_goals ((repeat' apply And.intro) <;> assumption)
              · obtain ⟨y23, k24, hB⟩ := kb_inv hB
                replace k24 := run_notation_reader_take k24
                try simp only [Iqe, Iqf, Lqe, Lqf, Lqg, Lqh, Nqa, Nat.reduceAdd, Tqa, Tqb, Tqc, Eqe, Eqf, Eqg, Eqh, Eqa, Eqb, Eqc, Eqd, Eqi, Eqj, Eqk, Eql, Eqm, Eqn, c10, c22] at k24
                try dsimp only at hB
                rcases cnd_inv hB with ⟨c25, hB⟩ | ⟨c25, hB⟩
                · obtain rfl := Option.some.inj hB
                  try simp -implicitDefEqProofs [-getElem?_pos, -Iqa, -Iqb, -Iqc, -Iqd, -Lqa, Lqb, Lqc, Lqd, q19_1, q19_2, q19_3, q19_4, q19_5, q19_6, oa19_6_w0, oa19_6_w1, k9, c10, k21, c22, k24, c25]
                  refine Res.bgo ?_
                  simp -implicitDefEqProofs [-getElem?_pos, -Iqa, -Iqb, -Iqc, -Iqd, -Lqa, Lqb, Lqc, Lqd, and_assoc, I_notation_reader_rest_2, ownAt, q19_1, q19_2, q19_3, q19_4, q19_5, q19_6, oa19_6_w0, oa19_6_w1, k9, c10, k21, c22, k24, c25]; all_goals ((repeat' apply And.intro) <;> assumption)
                · obtain rfl := Option.some.inj hB
                  try simp -implicitDefEqProofs [-getElem?_pos, -Iqa, -Iqb, -Iqc, -Iqd, -Lqa, Lqb, Lqc, Lqd, q19_1, q19_2, q19_3, q19_4, q19_5, q19_6, oa19_6_w0, oa19_6_w1, k9, c10, k21, c22, k24, c25]
                  refine Res.bret ?_
                  simp -implicitDefEqProofs [-getElem?_pos, -Iqa, -Iqb, -Iqc, -Iqd, -Lqa, Lqb, Lqc, Lqd, and_assoc, QR_notation_reader_rest_2, ownAt, q19_1, q19_2, q19_3, q19_4, q19_5, q19_6, oa19_6_w0, oa19_6_w1, k9, c10, k21, c22, k24, c25]; all_goals ((repeat' apply And.intro) <;> assumption)
            · try subst ea19_6_w1
              obtain ⟨y20, k21, hB⟩ := kb_inv hB
              replace k21 := run_notation_reader_take k21
              try simp only [Iqe, Iqf, Lqe, Lqf, Lqg, Lqh, Nqa, Nat.reduceAdd, Tqa, Tqb, Tqc, Eqe, Eqf, Eqg, Eqh, Eqa, Eqb, Eqc, Eqd, Eqi, Eqj, Eqk, Eql, Eqm, Eqn, c10] at k21
              try dsimp only at hB
              rcases cnd_inv hB with ⟨c22, hB⟩ | ⟨c22, hB⟩
              · obtain rfl := Option.some.inj hB
                try simp -implicitDefEqProofs [-getElem?_pos, -Iqa, -Iqb, -Iqc, -Iqd, -Lqa, Lqb, Lqc, Lqd, q19_1, q19_2, q19_3, q19_4, q19_5, q19_6, oa19_6_w0, k9, c10, k21, c22]
                refine Res.bret ?_
                simp -implicitDefEqProofs [-getElem?_pos, -Iqa, -Iqb, -Iqc, -Iqd, -Lqa, Lqb, Lqc, Lqd, and_assoc, QR_notation_reader_rest_2, ownAt, q19_1, q19_2, q19_3, q19_4, q19_5, q19_6, oa19_6_w0, k9, c10, k21, c22]; all_goals ((repeat' apply And.intro) <;> assumption)
              · obtain ⟨y23, k24, hB⟩ := kb_inv hB
                replace k24 := run_notation_reader_take k24
                try simp only [Iqe, Iqf, Lqe, Lqf, Lqg, Lqh, Nqa, Nat.reduceAdd, Tqa, Tqb, Tqc, Eqe, Eqf, Eqg, Eqh, Eqa, Eqb, Eqc, Eqd, Eqi, Eqj, Eqk, Eql, Eqm, Eqn, c10, c22] at k24
                try dsimp only at hB
                rcases cnd_inv hB with ⟨c25, hB⟩ | ⟨c25, hB⟩
                · obtain rfl := Option.some.inj hB
                  try simp -implicitDefEqProofs [-getElem?_pos, -Iqa, -Iqb, -Iqc, -Iqd, -Lqa, Lqb, Lqc, Lqd, q19_1, q19_2, q19_3, q19_4, q19_5, q19_6, oa19_6_w0, k9, c10, k21, c22, k24, c25]
                  refine Res.bgo ?_
                  simp -implicitDefEqProofs [-getElem?_pos, -Iqa, -Iqb, -Iqc, -Iqd, -Lqa, Lqb, Lqc, Lqd, and_assoc, I_notation_reader_rest_2, ownAt, q19_1, q19_2, q19_3, q19_4, q19_5, q19_6, oa19_6_w0, k9, c10, k21, c22, k24, c25]; all_goals ((repeat' apply And.intro) <;> assumption)
                · obtain rfl := Option.some.inj hB
                  try simp -implicitDefEqProofs [-getElem?_pos, -Iqa, -Iqb, -Iqc, -Iqd, -Lqa, Lqb, Lqc, Lqd, q19_1, q19_2, q19_3, q19_4, q19_5, q19_6, oa19_6_w0, k9, c10, k21, c22, k24, c25]
                  refine Res.bret ?_
                  simp -implicitDefEqProofs [-getElem?_pos, -Iqa, -Iqb, -Iqc, -Iqd, -Lqa, Lqb, Lqc, Lqd, and_assoc, QR_notation_reader_rest_2, ownAt, q19_1, q19_2, q19_3, q19_4, q19_5, q19_6, oa19_6_w0, k9, c10, k21, c22, k24, c25]; all_goals ((repeat' apply And.intro) <;> assumption)
          · try subst ea19_6_w0
            rcases a19_6_w1 with ⟨ga19_6_w1, rfl, oa19_6_w1⟩ | ⟨rfl, ea19_6_w1⟩
            · obtain ⟨y20, k21, hB⟩ := kb_inv hB
              replace k21 := run_notation_reader_take k21
              try simp only [Iqe, Iqf, Lqe, Lqf, Lqg, Lqh, Nqa, Nat.reduceAdd, Tqa, Tqb, Tqc, Eqe, Eqf, Eqg, Eqh, Eqa, Eqb, Eqc, Eqd, Eqi, Eqj, Eqk, Eql, Eqm, Eqn, c10] at k21
              try dsimp only at hB
              rcases cnd_inv hB with ⟨c22, hB⟩ | ⟨c22, hB⟩
              · obtain rfl := Option.some.inj hB
                try simp -implicitDefEqProofs [-getElem?_pos, -Iqa, -Iqb, -Iqc, -Iqd, -Lqa, Lqb, Lqc, Lqd, q19_1, q19_2, q19_3, q19_4, q19_5, q19_6, oa19_6_w1, k9, c10, k21, c22]
                refine Res.bret ?_
                simp -implicitDefEqProofs [-getElem?_pos, -Iqa, -Iqb, -Iqc, -Iqd, -Lqa, Lqb, Lqc, Lqd, and_assoc, QR_notation_reader_rest_2, ownAt, q19_1, q19_2, q19_3, q19_4, q19_5, q19_6, oa19_6_w1, k9, c10, k21, c22]; all_goals ((repeat' apply And.intro) <;> assumption)
              · obtain ⟨y23, k24, hB⟩ := kb_inv hB
                replace k24 := run_notation_reader_take k24
                try simp only [Iqe, Iqf, Lqe, Lqf, Lqg, Lqh, Nqa, Nat.reduceAdd, Tqa, Tqb, Tqc, Eqe, Eqf, Eqg, Eqh, Eqa, Eqb, Eqc, Eqd, Eqi, Eqj, Eqk, Eql, Eqm, Eqn, c10, c22] at k24
                try dsimp only at hB
                rcases cnd_inv hB with ⟨c25, hB⟩ | ⟨c25, hB⟩
                · obtain rfl := Option.some.inj hB
                  try simp -implicitDefEqProofs [-getElem?_pos, -Iqa, -Iqb, -Iqc, -Iqd, -Lqa, Lqb, Lqc, Lqd, q19_1, q19_2, q19_3, q19_4, q19_5, q19_6, oa19_6_w1, k9, c10, k21, c22, k24, c25]
                  refine Res.bgo ?_
                  simp -implicitDefEqProofs [-getElem?_pos, -Iqa, -Iqb, -Iqc, -Iqd, -Lqa, Lqb, Lqc, Lqd, and_assoc, I_notation_reader_rest_2, ownAt, q19_1, q19_2, q19_3, q19_4, q19_5, q19_6, oa19_6_w1, k9, c10, k21, c22, k24, c25]; all_goals ((repeat' apply And.intro) <;> assumption)
                · obtain rfl := Option.some.inj hB
                  try simp -implicitDefEqProofs [-getElem?_pos, -Iqa, -Iqb, -Iqc, -Iqd, -Lqa, Lqb, Lqc, Lqd, q19_1, q19_2, q19_3, q19_4, q19_5, q19_6, oa19_6_w1, k9, c10, k21, c22, k24, c25]
                  refine Res.bret ?_
                  simp -implicitDefEqProofs [-getElem?_pos, -Iqa, -Iqb, -Iqc, -Iqd, -Lqa, Lqb, Lqc, Lqd, and_assoc, QR_notation_reader_rest_2, ownAt, q19_1, q19_2, q19_3, q19_4, q19_5, q19_6, oa19_6_w1, k9, c10, k21, c22, k24, c25]; all_goals ((repeat' apply And.intro) <;> assumption)
            · try subst ea19_6_w1
              obtain ⟨y20, k21, hB⟩ := kb_inv hB
              replace k21 := run_notation_reader_take k21
              try simp only [Iqe, Iqf, Lqe, Lqf, Lqg, Lqh, Nqa, Nat.reduceAdd, Tqa, Tqb, Tqc, Eqe, Eqf, Eqg, Eqh, Eqa, Eqb, Eqc, Eqd, Eqi, Eqj, Eqk, Eql, Eqm, Eqn, c10] at k21
              try dsimp only at hB
              rcases cnd_inv hB with ⟨c22, hB⟩ | ⟨c22, hB⟩
              · obtain rfl := Option.some.inj hB
                try simp -implicitDefEqProofs [-getElem?_pos, -Iqa, -Iqb, -Iqc, -Iqd, -Lqa, Lqb, Lqc, Lqd, q19_1, q19_2, q19_3, q19_4, q19_5, q19_6, k9, c10, k21, c22]
                refine Res.bret ?_
                simp -implicitDefEqProofs [-getElem?_pos, -Iqa, -Iqb, -Iqc, -Iqd, -Lqa, Lqb, Lqc, Lqd, and_assoc, QR_notation_reader_rest_2, ownAt, q19_1, q19_2, q19_3, q19_4, q19_5, q19_6, k9, c10, k21, c22]; all_goals ((repeat' apply And.intro) <;> assumption)
              · obtain ⟨y23, k24, hB⟩ := kb_inv hB
                replace k24 := run_notation_reader_take k24
                try simp only [Iqe, Iqf, Lqe, Lqf, Lqg, Lqh, Nqa, Nat.reduceAdd, Tqa, Tqb, Tqc, Eqe, Eqf, Eqg, Eqh, Eqa, Eqb, Eqc, Eqd, Eqi, Eqj, Eqk, Eql, Eqm, Eqn, c10, c22] at k24
                try dsimp only at hB
                rcases cnd_inv hB with ⟨c25, hB⟩ | ⟨c25, hB⟩
                · obtain rfl := Option.some.inj hB
                  try simp -implicitDefEqProofs [-getElem?_pos, -Iqa, -Iqb, -Iqc, -Iqd, -Lqa, Lqb, Lqc, Lqd, q19_1, q19_2, q19_3, q19_4, q19_5, q19_6, k9, c10, k21, c22, k24, c25]
                  refine Res.bgo ?_
                  simp -implicitDefEqProofs [-getElem?_pos, -Iqa, -Iqb, -Iqc, -Iqd, -Lqa, Lqb, Lqc, Lqd, and_assoc, I_notation_reader_rest_2, ownAt, q19_1, q19_2, q19_3, q19_4, q19_5, q19_6, k9, c10, k21, c22, k24, c25]; all_goals ((repeat' apply And.intro) <;> assumption)
                · obtain rfl := Option.some.inj hB
                  try simp -implicitDefEqProofs [-getElem?_pos, -Iqa, -Iqb, -Iqc, -Iqd, -Lqa, Lqb, Lqc, Lqd, q19_1, q19_2, q19_3, q19_4, q19_5, q19_6, k9, c10, k21, c22, k24, c25]
                  refine Res.bret ?_
                  simp -implicitDefEqProofs [-getElem?_pos, -Iqa, -Iqb, -Iqc, -Iqd, -Lqa, Lqb, Lqc, Lqd, and_assoc, QR_notation_reader_rest_2, ownAt, q19_1, q19_2, q19_3, q19_4, q19_5, q19_6, k9, c10, k21, c22, k24, c25]; all_goals ((repeat' apply And.intro) <;> assumption)
        · exact hq.elim
        · simp only [stpK_ret] at hB
          obtain ⟨rfl, hq⟩ := hq
          obtain ⟨u1_0, u1_1, u1_2⟩ := z19r
          dsimp only at hB hq
          simp only [QR_notation_reader_rest_1] at hq
          obtain ⟨q19_r1, q19_r2, ⟨g19_r4, v19_r4_w0, v19_r4_w1, q19_r3, q19_r4, a19_r4_w0, a19_r4_w1⟩⟩ := hq
          rcases a19_r4_w0 with ⟨ga19_r4_w0, rfl, oa19_r4_w0⟩ | ⟨rfl, ea19_r4_w0⟩
          · rcases a19_r4_w1 with ⟨ga19_r4_w1, rfl, oa19_r4_w1⟩ | ⟨rfl, ea19_r4_w1⟩
            · obtain rfl := Option.some.inj hB
              try simp -implicitDefEqProofs [-getElem?_pos, -Iqa, -Iqb, -Iqc, -Iqd, -Lqa, Lqb, Lqc, Lqd, q19_r1, q19_r2, q19_r3, q19_r4, oa19_r4_w0, oa19_r4_w1, k9, c10]
              refine Res.bret ?_
              simp -implicitDefEqProofs [-getElem?_pos, -Iqa, -Iqb, -Iqc, -Iqd, -Lqa, Lqb, Lqc, Lqd, and_assoc, QR_notation_reader_rest_2, ownAt, q19_r1, q19_r2, q19_r3, q19_r4, oa19_r4_w0, oa19_r4_w1, k9, c10]; all_goals ((repeat' apply And.intro) <;> assumption)
            · try subst ea19_r4_w1
              obtain rfl := Option.some.inj hB
              try simp -implicitDefEqProofs [-getElem?_pos, -Iqa, -Iqb, -Iqc, -Iqd, -Lqa, Lqb, Lqc, Lqd, q19_r1, q19_r2, q19_r3, q19_r4, oa19_r4_w0, k9, c10]
              refine Res.bret ?_
              simp -implicitDefEqProofs [-getElem?_pos, -Iqa, -Iqb, -Iqc, -Iqd, -Lqa, Lqb, Lqc, Lqd, and_assoc, QR_notation_reader_rest_2, ownAt, q19_r1, q19_r2, q19_r3, q19_r4, oa19_r4_w0, k9, c10]; all_goals ((repeat' apply And.intro) <;> assumption)
          · try subst ea19_r4_w0
            rcases a19_r4_w1 with ⟨ga19_r4_w1, rfl, oa19_r4_w1⟩ | ⟨rfl, ea19_r4_w1⟩
            · obtain rfl := Option.some.inj hB
              try simp -implicitDefEqProofs [-getElem?_pos, -Iqa, -Iqb, -Iqc, -Iqd, -Lqa, Lqb, Lqc, Lqd, q19_r1, q19_r2, q19_r3, q19_r4, oa19_r4_w1, k9, c10]
              refine Res.bret ?_
              simp -implicitDefEqProofs [-getElem?_pos, -Iqa, -Iqb, -Iqc, -Iqd, -Lqa, Lqb, Lqc, Lqd, and_assoc, QR_notation_reader_rest_2, ownAt, q19_r1, q19_r2, q19_r3, q19_r4, oa19_r4_w1, k9, c10]; all_goals ((repeat' apply And.intro) <;> assumption)
            · try subst ea19_r4_w1
              obtain rfl := Option.some.inj hB
              try simp -implicitDefEqProofs [-getElem?_pos, -Iqa, -Iqb, -Iqc, -Iqd, -Lqa, Lqb, Lqc, Lqd, q19_r1, q19_r2, q19_r3, q19_r4, k9, c10]
              refine Res.bret ?_
              simp -implicitDefEqProofs [-getElem?_pos, -Iqa, -Iqb, -Iqc, -Iqd, -Lqa, Lqb, Lqc, Lqd, and_assoc, QR_notation_reader_rest_2, ownAt, q19_r1, q19_r2, q19_r3, q19_r4, k9, c10]; all_goals ((repeat' apply And.intro) <;> assumption)
      · obtain rfl := Option.some.inj hB
        subst hr4
        try simp -implicitDefEqProofs [-getElem?_pos, -Iqa, -Iqb, -Iqc, -Iqd, -Lqa, Lqb, Lqc, Lqd, q1, q2, q3, q4, q5, q6, k9, c10]
        refine Res.bret ?_
        simp -implicitDefEqProofs [-getElem?_pos, -Iqa, -Iqb, -Iqc, -Iqd, -Lqa, Lqb, Lqc, Lqd, and_assoc, QR_notation_reader_rest_2, ownAt, q1, q2, q3, q4, q5, q6, k9, c10]; all_goals ((repeat' apply And.intro) <;> assumption)
theorem P_notation_reader_rest_2 {p1 : Int} {xba0_0_2 : (List UInt8)} {xba0_1_2 : (List UInt8)} {xba0_2_2 : Int} {xb1_2_1_2 : (List Int)} {xb1_2_2_2 : (List Tru)} {cc : Code} (hcc : cc = .block 0 (.loop (Code.fst (Code.fst (Code.snd (Code.snd (Code.snd ((Tryz.f75.body).getD .skip)))))))) {s : St} {z : Option (Ex × St)} (hz : C Tryz.prog cf cc s = z) {r : (Stp ((List UInt8) × (List UInt8) × Int × (List Int) × (List Tru)) ((List UInt8) × (List UInt8) × Int × (List Int) × (List Tru) × Bool))} (hI : I_notation_reader_rest_2 p1 xba0_0_2 xba0_1_2 xba0_2_2 xb1_2_1_2 xb1_2_2_2 s) (hB : iterW (fun a => B_notation_reader_rest_2 p1 a.1 a.2.1 a.2.2.1 a.2.2.2.1 a.2.2.2.2) (xba0_0_2, xba0_1_2, xba0_2_2, xb1_2_1_2, xb1_2_2_2) = some r) : Res z (postS (fun _ _ => False) (fun a q => QR_notation_reader_rest_2 p1 a.1 a.2.1 a.2.2.1 a.2.2.2.1 a.2.2.2.2.1 a.2.2.2.2.2 q) r) := by
  subst hcc
  exact while_sim (I := fun a q => I_notation_reader_rest_2 p1 a.1 a.2.1 a.2.2.1 a.2.2.2.1 a.2.2.2.2 q) (Q := (fun _ _ => False)) (QR := (fun a q => QR_notation_reader_rest_2 p1 a.1 a.2.1 a.2.2.1 a.2.2.2.1 a.2.2.2.2.1 a.2.2.2.2.2 q)) (fun a q r h hB => Pb_notation_reader_rest_2 h hB) hI hz hB
noncomputable def B_notation_reader_rest (p0 : S_notation_reader) (p1 : Int) : Option (Tru × Bool × S_notation_reader) :=
  kb (B_notation_reader_rest_0 p0 p1) fun z6 =>
  cnd z6.2.2.2 (
    some ((Tru.mk p1 ([] : (List Int)) ([] : (List Tru))), false, (S_notation_reader.mk z6.1 z6.2.1 z6.2.2.1))) (
    kb (iterW (fun a => B_notation_reader_rest_2 p1 a.1 a.2.1 a.2.2.1 a.2.2.2.1 a.2.2.2.2) (z6.1, z6.2.1, z6.2.2.1, ([] : (List Int)), ([] : (List Tru)))) fun o => stpK o (fun z26 =>
      none) (fun z26r =>
      some ((Tru.mk p1 z26r.2.2.2.1 z26r.2.2.2.2.1), z26r.2.2.2.2.2, (S_notation_reader.mk z26r.1 z26r.2.1 z26r.2.2.1))))
theorem sim_notation_reader_rest {p0 : S_notation_reader} {p1 : Int} {r : (Tru × Bool × S_notation_reader)} (hB : B_notation_reader_rest p0 p1 = some r) : R 75 [.ptr (.arg 0) 0 0, (i64 p1)] [.box 0 [(.pv (.str p0.f0)), (.pv (.str p0.f1)), (i64 p0.f2)]] = some (.tup [(.agg [(i64 r.1.thr), (.pv (.sl r.1.nodes.length (ints r.1.nodes))), (.pv (.sl r.1.inner.length (encTs r.1.inner)))]), (bl r.2.1)], [.box 0 [(.pv (.str r.2.2.f0)), (.pv (.str r.2.2.f1)), (i64 r.2.2.f2)]], []) := by
  rw [R_eq _ _ _ fn_notation_reader_rest]
  simp only [Code.fst, Code.snd, Tryz.f75, Option.getD_some]
  generalize hc0 : Code.region 2 _ _ = cc0
  generalize hc2 : Code.block 0 _ = cc2
  generalize hr1 : Code.region 1 _ _ = rr1
  unfold B_notation_reader_rest at hB
  subst hr1
  try simp -implicitDefEqProofs [-getElem?_pos, -Iqa, -Iqb, -Iqc, -Iqd, -Lqa, Lqb, Lqc, Lqd]
  generalize hz0 : C Tryz.prog cf cc0 _ = z0
  obtain ⟨z6, hB1, hB⟩ := kb_inv hB
  have hJ := P_notation_reader_rest_0 (hc0.symm.trans (by kernel_rfl)) hz0 (by simp -implicitDefEqProofs [-getElem?_pos, -Iqa, -Iqb, -Iqc, -Iqd, -Lqa, Lqb, Lqc, Lqd, and_assoc, J_notation_reader_rest_0, ownAt]) hB1
  obtain ⟨e0, s0, rfl, hq⟩ := hJ.open
  clear hB1
  obtain ⟨rfl, hq⟩ := hq
  simp only [Q_notation_reader_rest_0] at hq
  obtain ⟨q6_1, ⟨q6_2, q6_3⟩, ⟨g6_5, q6_4, q6_5⟩, ⟨g6_7, q6_6, q6_7⟩⟩ := hq
  rcases cnd_inv hB with ⟨c7, hB⟩ | ⟨c7, hB⟩
  · obtain rfl := Option.some.inj hB
    simp -implicitDefEqProofs [-getElem?_pos, -Iqa, -Iqb, -Iqc, -Iqd, -Lqa, Lqb, Lqc, Lqd, q6_1, q6_2, q6_3, q6_4, q6_5, q6_6, q6_7, c7]
  · try simp -implicitDefEqProofs [-getElem?_pos, -Iqa, -Iqb, -Iqc, -Iqd, -Lqa, Lqb, Lqc, Lqd, q6_1, q6_2, q6_3, q6_4, q6_5, q6_6, q6_7, c7]
    generalize hz2 : C Tryz.prog cf cc2 _ = z2
    obtain ⟨o, hB1, hB⟩ := kb_inv hB
    have hJ := P_notation_reader_rest_2 (hc2.symm.trans (by kernel_rfl)) hz2 (by simp -implicitDefEqProofs [-getElem?_pos, -Iqa, -Iqb, -Iqc, -Iqd, -Lqa, Lqb, Lqc, Lqd, and_assoc, I_notation_reader_rest_2, ownAt, q6_1, q6_2, q6_3, q6_4, q6_5, q6_6, q6_7, c7]) hB1
    obtain ⟨e2, s2, rfl, hq⟩ := hJ.open
    clear hB1
    rcases o with z26 | ⟨_, _⟩ | z26r
    · cases hB
    · exact hq.elim
    · simp only [stpK_ret] at hB
      obtain ⟨rfl, hq⟩ := hq
      obtain ⟨u2_0, u2_1, u2_2, u2_3, u2_4, u2_5⟩ := z26r
      dsimp only at hB hq
      simp only [QR_notation_reader_rest_2] at hq
      obtain ⟨q26_r1, q26_r2, ⟨g26_r4, v26_r4_w0, v26_r4_w1, q26_r3, q26_r4, a26_r4_w0, a26_r4_w1⟩⟩ := hq
      rcases a26_r4_w0 with ⟨ga26_r4_w0, rfl, oa26_r4_w0⟩ | ⟨rfl, ea26_r4_w0⟩
      · rcases a26_r4_w1 with ⟨ga26_r4_w1, rfl, oa26_r4_w1⟩ | ⟨rfl, ea26_r4_w1⟩
        · obtain rfl := Option.some.inj hB
          simp -implicitDefEqProofs [-getElem?_pos, -Iqa, -Iqb, -Iqc, -Iqd, -Lqa, Lqb, Lqc, Lqd, q26_r1, q26_r2, q26_r3, q26_r4, oa26_r4_w0, oa26_r4_w1, c7]
        · try subst ea26_r4_w1
          obtain rfl := Option.some.inj hB
          simp -implicitDefEqProofs [-getElem?_pos, -Iqa, -Iqb, -Iqc, -Iqd, -Lqa, Lqb, Lqc, Lqd, q26_r1, q26_r2, q26_r3, q26_r4, oa26_r4_w0, c7]
      · try subst ea26_r4_w0
        rcases a26_r4_w1 with ⟨ga26_r4_w1, rfl, oa26_r4_w1⟩ | ⟨rfl, ea26_r4_w1⟩
        · obtain rfl := Option.some.inj hB
          simp -implicitDefEqProofs [-getElem?_pos, -Iqa, -Iqb, -Iqc, -Iqd, -Lqa, Lqb, Lqc, Lqd, q26_r1, q26_r2, q26_r3, q26_r4, oa26_r4_w1, c7]
        · try subst ea26_r4_w1
          obtain rfl := Option.some.inj hB
          simp -implicitDefEqProofs [-getElem?_pos, -Iqa, -Iqb, -Iqc, -Iqd, -Lqa, Lqb, Lqc, Lqd, q26_r1, q26_r2, q26_r3, q26_r4, c7]
theorem g_notation_reader_rest {p0 : S_notation_reader} {p1 : Int} {r : (Tru × Bool × S_notation_reader)} (hB : B_notation_reader_rest p0 p1 = some r) : G_notation_reader_rest p0 p1 = some r := dec_of (fun a b h => by rcases a with ⟨⟨a0_0, a0_1, a0_2⟩, a1_, ⟨a2_0, a2_1, a2_2⟩⟩; rcases b with ⟨⟨b0_0, b0_1, b0_2⟩, b1_, ⟨b2_0, b2_1, b2_2⟩⟩; simp at h; simp [*]) (sim_notation_reader_rest hB)
end Go.Am
namespace Go.Am
open Go Go.Proofs
set_option maxRecDepth 4000
set_option maxHeartbeats 4000000
open Int renaming ofNat_lt → Iqa, ofNat_le → Iqb, natCast_eq_zero → Iqc, natCast_pos → Iqd, cast_ofNat_Int → Iqe, natCast_zero → Iqf
open List renaming length_eq_zero_iff → Lqa, getElem?_cons_zero → Lqb, getElem?_cons_succ → Lqc, getElem?_nil → Lqd, length_cons → Lqe, length_nil → Lqf, nil_append → Lqg, cons_append → Lqh
open Nat renaming zero_add → Nqa
open Tru renaming thr_mk → Tqa, nodes_mk → Tqb, inner_mk → Tqc
open Go.Am renaming es_api_Declaration_cons → Eqa, es_api_Declaration_nil → Eqb, es_api_Evidence_cons → Eqc, es_api_Evidence_nil → Eqd, ints_cons → Eqe, ints_nil → Eqf, encTs_cons → Eqg, encTs_nil → Eqh, es_str_cons → Eqi, es_str_nil → Eqj, es_u64_cons → Eqk, es_u64_nil → Eql, es_u8_cons → Eqm, es_u8_nil → Eqn
noncomputable def B_notation_Parse_0 (y4 : (Int × Bool × S_notation_reader)) (p0 : (List UInt8)) : Option ((List UInt8) × (List UInt8) × Int × Int × (List Int) × (List Tru) × Bool) :=
  cnd y4.2.1 (
    kb (G_notation_reader_rest y4.2.2 y4.1) fun y7 =>
    some (y7.2.2.f0, y7.2.2.f1, y7.2.2.f2, y7.1.thr, y7.1.nodes, y7.1.inner, y7.2.1)) (
    some (y4.2.2.f0, y4.2.2.f1, y4.2.2.f2, 0, ([] : (List Int)), ([] : (List Tru)), y4.2.1))
def J_notation_Parse_0 (y4 : (Int × Bool × S_notation_reader)) (p0 : (List UInt8)) (q : St) : Prop := q (.t 0) = (.pv (.str p0)) ∧ q (.t 24) = (bl y4.2.1) ∧ q (.t 7) = (i64 y4.1) ∧ q (.t 8) = (bl y4.2.1) ∧ (∃ (g : Nat), q (.t 2) = .ptr (.site 0 0 0) g 0 ∧ q (.i (.site 0 0 0)) = .box g [(i64 0), .nilsl, .nilsl]) ∧ (∃ (g : Nat), q (.t 5) = .ptr (.site 3 2 0) g 0 ∧ q (.i (.site 3 2 0)) = .box g [(.pv (.str y4.2.2.f0)), (.pv (.str y4.2.2.f1)), (i64 y4.2.2.f2)]) ∧ (∃ (g : Nat), q (.t 6) = .ptr (.site 5 0 0) g 0 ∧ q (.i (.site 5 0 0)) = .box g [(i64 0), .nilsl, .nilsl])
def Q_notation_Parse_0 (y4 : (Int × Bool × S_notation_reader)) (p0 : (List UInt8)) (ob3_2_0_0 : (List UInt8)) (ob3_2_1_0 : (List UInt8)) (ob3_2_2_0 : Int) (ob5_0_0_0 : Int) (ob5_0_1_0 : (List Int)) (ob5_0_2_0 : (List Tru)) (o8_0 : Bool) (q : St) : Prop := q (.t 0) = (.pv (.str p0)) ∧ q (.t 8) = (bl o8_0) ∧ (∃ (g : Nat), q (.t 2) = .ptr (.site 0 0 0) g 0 ∧ q (.i (.site 0 0 0)) = .box g [(i64 0), .nilsl, .nilsl]) ∧ (∃ (g : Nat), q (.t 5) = .ptr (.site 3 2 0) g 0 ∧ q (.i (.site 3 2 0)) = .box g [(.pv (.str ob3_2_0_0)), (.pv (.str ob3_2_1_0)), (i64 ob3_2_2_0)]) ∧ (∃ (g : Nat) (w0 : AV) (w1 : AV), q (.t 6) = .ptr (.site 5 0 0) g 0 ∧ q (.i (.site 5 0 0)) = .box g [(i64 ob5_0_0_0), w0, w1] ∧ (w0 = .pv (.sl ob5_0_1_0.length (ints ob5_0_1_0)) ∨ (w0 = .nilsl ∧ ob5_0_1_0 = [])) ∧ (w1 = .pv (.sl ob5_0_2_0.length (encTs ob5_0_2_0)) ∨ (w1 = .nilsl ∧ ob5_0_2_0 = [])))
theorem P_notation_Parse_0 {y4 : (Int × Bool × S_notation_reader)} {p0 : (List UInt8)} {cc : Code} (hcc : cc = (Code.snd (Code.fst (Code.snd (Code.snd (Code.snd (Code.snd (Code.snd (Code.snd ((Tryz.f45.body).getD .skip)))))))))) {s : St} {z : Option (Ex × St)} (hz : C Tryz.prog cf cc s = z) {r : ((List UInt8) × (List UInt8) × Int × Int × (List Int) × (List Tru) × Bool)} (hI : J_notation_Parse_0 y4 p0 s) (hB : B_notation_Parse_0 y4 p0 = some r) : Res z (postG (fun a q => Q_notation_Parse_0 y4 p0 a.1 a.2.1 a.2.2.1 a.2.2.2.1 a.2.2.2.2.1 a.2.2.2.2.2.1 a.2.2.2.2.2.2 q) r) := by
  subst hcc
  subst hz
  simp only [J_notation_Parse_0] at hI
  obtain ⟨q1, q2, q3, q4, ⟨g6, q5, q6⟩, ⟨g8, q7, q8⟩, ⟨g10, q9, q10⟩⟩ := hI
  simp only [Code.fst, Code.snd, Tryz.f45, Option.getD_some]
  generalize hr8 : Code.region 8 _ _ = rr8
  unfold B_notation_Parse_0 at hB
  rcases cnd_inv hB with ⟨c6, hB⟩ | ⟨c6, hB⟩
  · obtain ⟨y7, k8, hB⟩ := kb_inv hB
    replace k8 := run_notation_reader_rest k8
    try simp only [Iqe, Iqf, Lqe, Lqf, Lqg, Lqh, Nqa, Nat.reduceAdd, Tqa, Tqb, Tqc, Eqe, Eqf, Eqg, Eqh, Eqa, Eqb, Eqc, Eqd, Eqi, Eqj, Eqk, Eql, Eqm, Eqn, c6] at k8
    try dsimp only at hB
    obtain rfl := Option.some.inj hB
    subst hr8
    try simp -implicitDefEqProofs [-getElem?_pos, -Iqa, -Iqb, -Iqc, -Iqd, -Lqa, Lqb, Lqc, Lqd, q1, q2, q3, q4, q5, q6, q7, q8, q9, q10, c6, k8]
    refine Res.g ?_
    simp -implicitDefEqProofs [-getElem?_pos, -Iqa, -Iqb, -Iqc, -Iqd, -Lqa, Lqb, Lqc, Lqd, and_assoc, Q_notation_Parse_0, ownAt, q1, q2, q3, q4, q5, q6, q7, q8, q9, q10, c6, k8]
  · obtain rfl := Option.some.inj hB
    try simp -implicitDefEqProofs [-getElem?_pos, -Iqa, -Iqb, -Iqc, -Iqd, -Lqa, Lqb, Lqc, Lqd, q1, q2, q3, q4, q5, q6, q7, q8, q9, q10, c6]
    refine Res.g ?_
    simp -implicitDefEqProofs [-getElem?_pos, -Iqa, -Iqb, -Iqc, -Iqd, -Lqa, Lqb, Lqc, Lqd, and_assoc, Q_notation_Parse_0, ownAt, q1, q2, q3, q4, q5, q6, q7, q8, q9, q10, c6]
noncomputable def B_notation_Parse_1 (z9 : ((List UInt8) × (List UInt8) × Int × Int × (List Int) × (List Tru) × Bool)) (p0 : (List UInt8)) : Option Bool :=
  cnd z9.2.2.2.2.2.2 (
    some (decide (z9.2.2.1 < (p0.length : Int)))) (
    some true)
def J_notation_Parse_1 (z9 : ((List UInt8) × (List UInt8) × Int × Int × (List Int) × (List Tru) × Bool)) (p0 : (List UInt8)) (q : St) : Prop := q (.t 0) = (.pv (.str p0)) ∧ q (.t 8) = (bl z9.2.2.2.2.2.2) ∧ (∃ (g : Nat), q (.t 2) = .ptr (.site 0 0 0) g 0 ∧ q (.i (.site 0 0 0)) = .box g [(i64 0), .nilsl, .nilsl]) ∧ (∃ (g : Nat), q (.t 5) = .ptr (.site 3 2 0) g 0 ∧ q (.i (.site 3 2 0)) = .box g [(.pv (.str z9.1)), (.pv (.str z9.2.1)), (i64 z9.2.2.1)]) ∧ (∃ (g : Nat) (w0 : AV) (w1 : AV), q (.t 6) = .ptr (.site 5 0 0) g 0 ∧ q (.i (.site 5 0 0)) = .box g [(i64 z9.2.2.2.1), w0, w1] ∧ (w0 = .pv (.sl z9.2.2.2.2.1.length (ints z9.2.2.2.2.1)) ∨ (w0 = .nilsl ∧ z9.2.2.2.2.1 = [])) ∧ (w1 = .pv (.sl z9.2.2.2.2.2.1.length (encTs z9.2.2.2.2.2.1)) ∨ (w1 = .nilsl ∧ z9.2.2.2.2.2.1 = [])))
def Q_notation_Parse_1 (z9 : ((List UInt8) × (List UInt8) × Int × Int × (List Int) × (List Tru) × Bool)) (p0 : (List UInt8)) (o41_1 : Bool) (q : St) : Prop := q (.t 41) = (bl o41_1) ∧ (∃ (g : Nat), q (.t 2) = .ptr (.site 0 0 0) g 0 ∧ q (.i (.site 0 0 0)) = .box g [(i64 0), .nilsl, .nilsl]) ∧ (∃ (g : Nat), q (.t 5) = .ptr (.site 3 2 0) g 0 ∧ q (.i (.site 3 2 0)) = .box g [(.pv (.str z9.1)), (.pv (.str z9.2.1)), (i64 z9.2.2.1)]) ∧ (∃ (g : Nat) (w0 : AV) (w1 : AV), q (.t 6) = .ptr (.site 5 0 0) g 0 ∧ q (.i (.site 5 0 0)) = .box g [(i64 z9.2.2.2.1), w0, w1] ∧ (w0 = .pv (.sl z9.2.2.2.2.1.length (ints z9.2.2.2.2.1)) ∨ (w0 = .nilsl ∧ z9.2.2.2.2.1 = [])) ∧ (w1 = .pv (.sl z9.2.2.2.2.2.1.length (encTs z9.2.2.2.2.2.1)) ∨ (w1 = .nilsl ∧ z9.2.2.2.2.2.1 = [])))
theorem P_notation_Parse_1 {z9 : ((List UInt8) × (List UInt8) × Int × Int × (List Int) × (List Tru) × Bool)} {p0 : (List UInt8)} {cc : Code} (hcc : cc = (Code.fst (Code.fst (Code.snd (Code.snd (Code.snd (Code.snd (Code.snd (Code.snd (Code.snd ((Tryz.f45.body).getD .skip))))))))))) {s : St} {z : Option (Ex × St)} (hz : C Tryz.prog cf cc s = z) {r : Bool} (hI : J_notation_Parse_1 z9 p0 s) (hB : B_notation_Parse_1 z9 p0 = some r) : Res z (postG (fun a q => Q_notation_Parse_1 z9 p0 a q) r) := by
  subst hcc
  subst hz
  simp only [J_notation_Parse_1] at hI
  obtain ⟨q1, q2, ⟨g4, q3, q4⟩, ⟨g6, q5, q6⟩, ⟨g8, v8_w0, v8_w1, q7, q8, a8_w0, a8_w1⟩⟩ := hI
  simp only [Code.fst, Code.snd, Tryz.f45, Option.getD_some]
  unfold B_notation_Parse_1 at hB
  rcases a8_w0 with rfl | ⟨rfl, ea8_w0⟩
  · rcases a8_w1 with rfl | ⟨rfl, ea8_w1⟩
    · rcases cnd_inv hB with ⟨c10, hB⟩ | ⟨c10, hB⟩
      · obtain rfl := Option.some.inj hB
        try simp -implicitDefEqProofs [-getElem?_pos, -Iqa, -Iqb, -Iqc, -Iqd, -Lqa, Lqb, Lqc, Lqd, q1, q2, q3, q4, q5, q6, q7, q8, c10]
        refine Res.g ?_
        simp -implicitDefEqProofs [-getElem?_pos, -Iqa, -Iqb, -Iqc, -Iqd, -Lqa, Lqb, Lqc, Lqd, and_assoc, Q_notation_Parse_1, ownAt, q1, q2, q3, q4, q5, q6, q7, q8, c10]
      · obtain rfl := Option.some.inj hB
        try simp -implicitDefEqProofs [-getElem?_pos, -Iqa, -Iqb, -Iqc, -Iqd, -Lqa, Lqb, Lqc, Lqd, q1, q2, q3, q4, q5, q6, q7, q8, c10]
        refine Res.g ?_
        simp -implicitDefEqProofs [-getElem?_pos, -Iqa, -Iqb, -Iqc, -Iqd, -Lqa, Lqb, Lqc, Lqd, and_assoc, Q_notation_Parse_1, ownAt, q1, q2, q3, q4, q5, q6, q7, q8, c10]
    · try subst ea8_w1
      rcases cnd_inv hB with ⟨c10, hB⟩ | ⟨c10, hB⟩
      · obtain rfl := Option.some.inj hB
        try simp -implicitDefEqProofs [-getElem?_pos, -Iqa, -Iqb, -Iqc, -Iqd, -Lqa, Lqb, Lqc, Lqd, q1, q2, q3, q4, q5, q6, q7, q8, c10]
        refine Res.g ?_
        simp -implicitDefEqProofs [-getElem?_pos, -Iqa, -Iqb, -Iqc, -Iqd, -Lqa, Lqb, Lqc, Lqd, and_assoc, Q_notation_Parse_1, ownAt, q1, q2, q3, q4, q5, q6, q7, q8, c10]; all_goals ((repeat' apply And.intro) <;> assumption)
      · obtain rfl := Option.some.inj hB
        try simp -implicitDefEqProofs [-getElem?_pos, -Iqa, -Iqb, -Iqc, -Iqd, -Lqa, Lqb, Lqc, Lqd, q1, q2, q3, q4, q5, q6, q7, q8, c10]
        refine Res.g ?_
        simp -implicitDefEqProofs [-getElem?_pos, -Iqa, -Iqb, -Iqc, -Iqd, -Lqa, Lqb, Lqc, Lqd, and_assoc, Q_notation_Parse_1, ownAt, q1, q2, q3, q4, q5, q6, q7, q8, c10]; all_goals ((repeat' apply And.intro) <;> assumption)
  · try subst ea8_w0
    rcases a8_w1 with rfl | ⟨rfl, ea8_w1⟩
    · rcases cnd_inv hB with ⟨c10, hB⟩ | ⟨c10, hB⟩
      · obtain rfl := Option.some.inj hB
        try simp -implicitDefEqProofs [-getElem?_pos, -Iqa, -Iqb, -Iqc, -Iqd, -Lqa, Lqb, Lqc, Lqd, q1, q2, q3, q4, q5, q6, q7, q8, c10]
        refine Res.g ?_
        simp -implicitDefEqProofs [-getElem?_pos, -Iqa, -Iqb, -Iqc, -Iqd, -Lqa, Lqb, Lqc, Lqd, and_assoc, Q_notation_Parse_1, ownAt, q1, q2, q3, q4, q5, q6, q7, q8, c10]; all_goals ((repeat' apply And.intro) <;> assumption)
      · obtain rfl := Option.some.inj hB
        try simp -implicitDefEqProofs [-getElem?_pos, -Iqa, -Iqb, -Iqc, -Iqd, -Lqa, Lqb, Lqc, Lqd, q1, q2, q3, q4, q5, q6, q7, q8, c10]
        refine Res.g ?_
        simp -implicitDefEqProofs [-getElem?_pos, -Iqa, -Iqb, -Iqc, -Iqd, -Lqa, Lqb, Lqc, Lqd, and_assoc, Q_notation_Parse_1, ownAt, q1, q2, q3, q4, q5, q6, q7, q8, c10]; all_goals ((repeat' apply And.intro) <;> assumption)
    · try subst ea8_w1
      rcases cnd_inv hB with ⟨c10, hB⟩ | ⟨c10, hB⟩
      · obtain rfl := Option.some.inj hB
        try simp -implicitDefEqProofs [-getElem?_pos, -Iqa, -Iqb, -Iqc, -Iqd, -Lqa, Lqb, Lqc, Lqd, q1, q2, q3, q4, q5, q6, q7, q8, c10]
        refine Res.g ?_
        simp -implicitDefEqProofs [-getElem?_pos, -Iqa, -Iqb, -Iqc, -Iqd, -Lqa, Lqb, Lqc, Lqd, and_assoc, Q_notation_Parse_1, ownAt, q1, q2, q3, q4, q5, q6, q7, q8, c10]; all_goals ((repeat' apply And.intro) <;> assumption)
      · obtain rfl := Option.some.inj hB
        try simp -implicitDefEqProofs [-getElem?_pos, -Iqa, -Iqb, -Iqc, -Iqd, -Lqa, Lqb, Lqc, Lqd, q1, q2, q3, q4, q5, q6, q7, q8, c10]
        refine Res.g ?_
        simp -implicitDefEqProofs [-getElem?_pos, -Iqa, -Iqb, -Iqc, -Iqd, -Lqa, Lqb, Lqc, Lqd, and_assoc, Q_notation_Parse_1, ownAt, q1, q2, q3, q4, q5, q6, q7, q8, c10]; all_goals ((repeat' apply And.intro) <;> assumption)
noncomputable def B_notation_Parse (p0 : (List UInt8)) : Option (Tru × Int × Int) :=
  cnd (decide (6000 < (p0.length : Int))) (
    some ((Tru.mk 0 ([] : (List Int)) ([] : (List Tru))), 0, 3)) (
    kb (G_notation_reader_next (S_notation_reader.mk p0 ([] : List UInt8) 0)) fun y2 =>
    kb (G_notation_reader_number y2) fun y4 =>
    kb (B_notation_Parse_0 y4 p0) fun z9 =>
    kb (B_notation_Parse_1 z9 p0) fun z11 =>
    cnd z11 (
      some ((Tru.mk 0 ([] : (List Int)) ([] : (List Tru))), z9.2.2.1, 2)) (
      kb (G_threshold_Valid (Tru.mk z9.2.2.2.1 z9.2.2.2.2.1 z9.2.2.2.2.2.1)) fun y13 =>
      cnd (decide (y13 = 0)) (
        some ((Tru.mk z9.2.2.2.1 z9.2.2.2.2.1 z9.2.2.2.2.2.1), 0, 0)) (
        some ((Tru.mk 0 ([] : (List Int)) ([] : (List Tru))), 0, y13))))
theorem sim_notation_Parse {p0 : (List UInt8)} {r : (Tru × Int × Int)} (hB : B_notation_Parse p0 = some r) : R 45 [(.pv (.str p0))] [] = some (.tup [(.agg [(i64 r.1.thr), (.pv (.sl r.1.nodes.length (ints r.1.nodes))), (.pv (.sl r.1.inner.length (encTs r.1.inner)))]), (i64 r.2.1), (i64 r.2.2)], [], []) := by
  rw [R_eq _ _ _ fn_notation_Parse]
  simp only [Code.fst, Code.snd, Tryz.f45, Option.getD_some]
  generalize hc0 : Code.cond (Operand.tmp 24) _ _ = cc0
  generalize hc1 : Code.region 9 _ _ = cc1
  generalize hr2 : Code.region 2 _ _ = rr2
  generalize hr3 : Code.region 3 _ _ = rr3
  generalize hr6 : Code.region 6 _ _ = rr6
  generalize hr10 : Code.region 10 _ _ = rr10
  generalize hr13 : Code.region 13 _ _ = rr13
  generalize hr14 : Code.region 14 _ _ = rr14
  unfold B_notation_Parse at hB
  rcases cnd_inv hB with ⟨c1, hB⟩ | ⟨c1, hB⟩
  · have pc1 := eq_true (of_decide_eq_true c1)
    have nc1 := c1
    try simp only [Lqf, Lqe, Iqe, Iqf, Nqa, Nat.reduceAdd, Int.reduceLT, Int.reduceLE, Int.reduceEq, eq_self, decide_true, decide_false, Bool.true_eq_false, Bool.false_eq_true] at nc1
    all_goals
      obtain rfl := Option.some.inj hB
      subst hr2
      simp -implicitDefEqProofs [-getElem?_pos, -Iqa, -Iqb, -Iqc, -Iqd, -Lqa, Lqb, Lqc, Lqd, c1, pc1, nc1]
  · have pc1 := eq_false (of_decide_eq_false c1)
    have nc1 := c1
    try simp only [Lqf, Lqe, Iqe, Iqf, Nqa, Nat.reduceAdd, Int.reduceLT, Int.reduceLE, Int.reduceEq, eq_self, decide_true, decide_false, Bool.true_eq_false, Bool.false_eq_true] at nc1
    all_goals
      obtain ⟨y2, k3, hB⟩ := kb_inv hB
      replace k3 := run_notation_reader_next k3
      try simp only [Iqe, Iqf, Lqe, Lqf, Lqg, Lqh, Nqa, Nat.reduceAdd, Tqa, Tqb, Tqc, Eqe, Eqf, Eqg, Eqh, Eqa, Eqb, Eqc, Eqd, Eqi, Eqj, Eqk, Eql, Eqm, Eqn] at k3
      try dsimp only at hB
      obtain ⟨y4, k5, hB⟩ := kb_inv hB
      replace k5 := run_notation_reader_number k5
      try simp only [Iqe, Iqf, Lqe, Lqf, Lqg, Lqh, Nqa, Nat.reduceAdd, Tqa, Tqb, Tqc, Eqe, Eqf, Eqg, Eqh, Eqa, Eqb, Eqc, Eqd, Eqi, Eqj, Eqk, Eql, Eqm, Eqn] at k5
      try dsimp only at hB
      subst hr3
      subst hr6
      try simp -implicitDefEqProofs [-getElem?_pos, -Iqa, -Iqb, -Iqc, -Iqd, -Lqa, Lqb, Lqc, Lqd, c1, pc1, nc1, k3, k5]
      generalize hz0 : C Tryz.prog cf cc0 _ = z0
      obtain ⟨z9, hB1, hB⟩ := kb_inv hB
      have hJ := P_notation_Parse_0 (hc0.symm.trans (by kernel_rfl)) hz0 (by simp -implicitDefEqProofs [-getElem?_pos, -Iqa, -Iqb, -Iqc, -Iqd, -Lqa, Lqb, Lqc, Lqd, and_assoc, J_notation_Parse_0, ownAt, c1, pc1, nc1, k3, k5]) hB1
      obtain ⟨e0, s0, rfl, hq⟩ := hJ.open
      clear hB1
      obtain ⟨rfl, hq⟩ := hq
      obtain ⟨u0_0, u0_1, u0_2, u0_3, u0_4, u0_5, u0_6⟩ := z9
      dsimp only at hB hq
      simp only [Q_notation_Parse_0] at hq
      obtain ⟨q9_1, q9_2, ⟨g9_4, q9_3, q9_4⟩, ⟨g9_6, q9_5, q9_6⟩, ⟨g9_8, v9_8_w0, v9_8_w1, q9_7, q9_8, a9_8_w0, a9_8_w1⟩⟩ := hq
      rcases a9_8_w0 with rfl | ⟨rfl, ea9_8_w0⟩
      · rcases a9_8_w1 with rfl | ⟨rfl, ea9_8_w1⟩
        · try simp -implicitDefEqProofs [-getElem?_pos, -Iqa, -Iqb, -Iqc, -Iqd, -Lqa, Lqb, Lqc, Lqd, q9_1, q9_2, q9_3, q9_4, q9_5, q9_6, q9_7, q9_8, c1, pc1, nc1, k3, k5]
          generalize hz1 : C Tryz.prog cf cc1 _ = z1
          obtain ⟨z11, hB1, hB⟩ := kb_inv hB
          have hJ := P_notation_Parse_1 (hc1.symm.trans (by kernel_rfl)) hz1 (by simp -implicitDefEqProofs [-getElem?_pos, -Iqa, -Iqb, -Iqc, -Iqd, -Lqa, Lqb, Lqc, Lqd, and_assoc, J_notation_Parse_1, ownAt, q9_1, q9_2, q9_3, q9_4, q9_5, q9_6, q9_7, q9_8, c1, pc1, nc1, k3, k5]) hB1
          obtain ⟨e1, s1, rfl, hq⟩ := hJ.open
          clear hB1
          obtain ⟨rfl, hq⟩ := hq
          simp only [Q_notation_Parse_1] at hq
          obtain ⟨q11_1, ⟨g11_3, q11_2, q11_3⟩, ⟨g11_5, q11_4, q11_5⟩, ⟨g11_7, v11_7_w0, v11_7_w1, q11_6, q11_7, a11_7_w0, a11_7_w1⟩⟩ := hq
          rcases a11_7_w0 with rfl | ⟨rfl, ea11_7_w0⟩
          · rcases a11_7_w1 with rfl | ⟨rfl, ea11_7_w1⟩
            · rcases cnd_inv hB with ⟨c12, hB⟩ | ⟨c12, hB⟩
              · obtain rfl := Option.some.inj hB
                subst hr10
                simp -implicitDefEqProofs [-getElem?_pos, -Iqa, -Iqb, -Iqc, -Iqd, -Lqa, Lqb, Lqc, Lqd, q11_1, q11_2, q11_3, q11_4, q11_5, q11_6, q11_7, c1, pc1, nc1, k3, k5, c12]
                rw [drawK_ok _ _ _ (by kernel_rfl)]
                simp -implicitDefEqProofs [-getElem?_pos, -Iqa, -Iqb, -Iqc, -Iqd, -Lqa, Lqb, Lqc, Lqd, q11_1, q11_2, q11_3, q11_4, q11_5, q11_6, q11_7, c1, pc1, nc1, k3, k5, c12]
              · obtain ⟨y13, k14, hB⟩ := kb_inv hB
                replace k14 := run_threshold_Valid k14
                try simp only [Iqe, Iqf, Lqe, Lqf, Lqg, Lqh, Nqa, Nat.reduceAdd, Tqa, Tqb, Tqc, Eqe, Eqf, Eqg, Eqh, Eqa, Eqb, Eqc, Eqd, Eqi, Eqj, Eqk, Eql, Eqm, Eqn, c12] at k14
                try dsimp only at hB
                rcases cnd_inv hB with ⟨c15, hB⟩ | ⟨c15, hB⟩
                · have pc15 := eq_true (of_decide_eq_true c15)
                  obtain rfl := Option.some.inj hB
                  subst hr14
                  simp -implicitDefEqProofs [-getElem?_pos, -Iqa, -Iqb, -Iqc, -Iqd, -Lqa, Lqb, Lqc, Lqd, q11_1, q11_2, q11_3, q11_4, q11_5, q11_6, q11_7, c1, pc1, nc1, k3, k5, c12, k14, c15, pc15]
                · have pc15 := eq_false (of_decide_eq_false c15)
                  obtain rfl := Option.some.inj hB
                  subst hr13
                  simp -implicitDefEqProofs [-getElem?_pos, -Iqa, -Iqb, -Iqc, -Iqd, -Lqa, Lqb, Lqc, Lqd, q11_1, q11_2, q11_3, q11_4, q11_5, q11_6, q11_7, c1, pc1, nc1, k3, k5, c12, k14, c15, pc15]
            · try subst ea11_7_w1
              rcases cnd_inv hB with ⟨c12, hB⟩ | ⟨c12, hB⟩
              · obtain rfl := Option.some.inj hB
                subst hr10
                simp -implicitDefEqProofs [-getElem?_pos, -Iqa, -Iqb, -Iqc, -Iqd, -Lqa, Lqb, Lqc, Lqd, q11_1, q11_2, q11_3, q11_4, q11_5, q11_6, q11_7, c1, pc1, nc1, k3, k5, c12]
                rw [drawK_ok _ _ _ (by kernel_rfl)]
                simp -implicitDefEqProofs [-getElem?_pos, -Iqa, -Iqb, -Iqc, -Iqd, -Lqa, Lqb, Lqc, Lqd, q11_1, q11_2, q11_3, q11_4, q11_5, q11_6, q11_7, c1, pc1, nc1, k3, k5, c12]
              · obtain ⟨y13, k14, hB⟩ := kb_inv hB
                replace k14 := run_threshold_Valid k14
                try simp only [Iqe, Iqf, Lqe, Lqf, Lqg, Lqh, Nqa, Nat.reduceAdd, Tqa, Tqb, Tqc, Eqe, Eqf, Eqg, Eqh, Eqa, Eqb, Eqc, Eqd, Eqi, Eqj, Eqk, Eql, Eqm, Eqn, c12] at k14
                try dsimp only at hB
                rcases cnd_inv hB with ⟨c15, hB⟩ | ⟨c15, hB⟩
                · have pc15 := eq_true (of_decide_eq_true c15)
                  obtain rfl := Option.some.inj hB
                  subst hr14
                  simp -implicitDefEqProofs [-getElem?_pos, -Iqa, -Iqb, -Iqc, -Iqd, -Lqa, Lqb, Lqc, Lqd, q11_1, q11_2, q11_3, q11_4, q11_5, q11_6, q11_7, c1, pc1, nc1, k3, k5, c12, k14, c15, pc15]
                · have pc15 := eq_false (of_decide_eq_false c15)
                  obtain rfl := Option.some.inj hB
                  subst hr13
                  simp -implicitDefEqProofs [-getElem?_pos, -Iqa, -Iqb, -Iqc, -Iqd, -Lqa, Lqb, Lqc, Lqd, q11_1, q11_2, q11_3, q11_4, q11_5, q11_6, q11_7, c1, pc1, nc1, k3, k5, c12, k14, c15, pc15]
          · try subst ea11_7_w0
            rcases a11_7_w1 with rfl | ⟨rfl, ea11_7_w1⟩
            · rcases cnd_inv hB with ⟨c12, hB⟩ | ⟨c12, hB⟩
              · obtain rfl := Option.some.inj hB
                subst hr10
                simp -implicitDefEqProofs [-getElem?_pos, -Iqa, -Iqb, -Iqc, -Iqd, -Lqa, Lqb, Lqc, Lqd, q11_1, q11_2, q11_3, q11_4, q11_5, q11_6, q11_7, c1, pc1, nc1, k3, k5, c12]
                rw [drawK_ok _ _ _ (by kernel_rfl)]
                simp -implicitDefEqProofs [-getElem?_pos, -Iqa, -Iqb, -Iqc, -Iqd, -Lqa, Lqb, Lqc, Lqd, q11_1, q11_2, q11_3, q11_4, q11_5, q11_6, q11_7, c1, pc1, nc1, k3, k5, c12]
              · obtain ⟨y13, k14, hB⟩ := kb_inv hB
                replace k14 := run_threshold_Valid k14
                try simp only [Iqe, Iqf, Lqe, Lqf, Lqg, Lqh, Nqa, Nat.reduceAdd, Tqa, Tqb, Tqc, Eqe, Eqf, Eqg, Eqh, Eqa, Eqb, Eqc, Eqd, Eqi, Eqj, Eqk, Eql, Eqm, Eqn, c12] at k14
                try dsimp only at hB
                rcases cnd_inv hB with ⟨c15, hB⟩ | ⟨c15, hB⟩
                · have pc15 := eq_true (of_decide_eq_true c15)
                  obtain rfl := Option.some.inj hB
                  subst hr14
                  simp -implicitDefEqProofs [-getElem?_pos, -Iqa, -Iqb, -Iqc, -Iqd, -Lqa, Lqb, Lqc, Lqd, q11_1, q11_2, q11_3, q11_4, q11_5, q11_6, q11_7, c1, pc1, nc1, k3, k5, c12, k14, c15, pc15]
                · have pc15 := eq_false (of_decide_eq_false c15)
                  obtain rfl := Option.some.inj hB
                  subst hr13
                  simp -implicitDefEqProofs [-getElem?_pos, -Iqa, -Iqb, -Iqc, -Iqd, -Lqa, Lqb, Lqc, Lqd, q11_1, q11_2, q11_3, q11_4, q11_5, q11_6, q11_7, c1, pc1, nc1, k3, k5, c12, k14, c15, pc15]
            · try subst ea11_7_w1
              rcases cnd_inv hB with ⟨c12, hB⟩ | ⟨c12, hB⟩
              · obtain rfl := Option.some.inj hB
                subst hr10
                simp -implicitDefEqProofs [-getElem?_pos, -Iqa, -Iqb, -Iqc, -Iqd, -Lqa, Lqb, Lqc, Lqd, q11_1, q11_2, q11_3, q11_4, q11_5, q11_6, q11_7, c1, pc1, nc1, k3, k5, c12]
                rw [drawK_ok _ _ _ (by kernel_rfl)]
                simp -implicitDefEqProofs [-getElem?_pos, -Iqa, -Iqb, -Iqc, -Iqd, -Lqa, Lqb, Lqc, Lqd, q11_1, q11_2, q11_3, q11_4, q11_5, q11_6, q11_7, c1, pc1, nc1, k3, k5, c12]
              · obtain ⟨y13, k14, hB⟩ := kb_inv hB
                replace k14 := run_threshold_Valid k14
                try simp only [Iqe, Iqf, Lqe, Lqf, Lqg, Lqh, Nqa, Nat.reduceAdd, Tqa, Tqb, Tqc, Eqe, Eqf, Eqg, Eqh, Eqa, Eqb, Eqc, Eqd, Eqi, Eqj, Eqk, Eql, Eqm, Eqn, c12] at k14
                try dsimp only at hB
                rcases cnd_inv hB with ⟨c15, hB⟩ | ⟨c15, hB⟩
                · have pc15 := eq_true (of_decide_eq_true c15)
                  obtain rfl := Option.some.inj hB
                  subst hr14
                  simp -implicitDefEqProofs [-getElem?_pos, -Iqa, -Iqb, -Iqc, -Iqd, -Lqa, Lqb, Lqc, Lqd, q11_1, q11_2, q11_3, q11_4, q11_5, q11_6, q11_7, c1, pc1, nc1, k3, k5, c12, k14, c15, pc15]
                · have pc15 := eq_false (of_decide_eq_false c15)
                  obtain rfl := Option.some.inj hB
                  subst hr13
                  simp -implicitDefEqProofs [-getElem?_pos, -Iqa, -Iqb, -Iqc, -Iqd, -Lqa, Lqb, Lqc, Lqd, q11_1, q11_2, q11_3, q11_4, q11_5, q11_6, q11_7, c1, pc1, nc1, k3, k5, c12, k14, c15, pc15]
        · try subst ea9_8_w1
          try simp -implicitDefEqProofs [-getElem?_pos, -Iqa, -Iqb, -Iqc, -Iqd, -Lqa, Lqb, Lqc, Lqd, q9_1, q9_2, q9_3, q9_4, q9_5, q9_6, q9_7, q9_8, c1, pc1, nc1, k3, k5]
          generalize hz1 : C Tryz.prog cf cc1 _ = z1
          obtain ⟨z11, hB1, hB⟩ := kb_inv hB
          have hJ := P_notation_Parse_1 (hc1.symm.trans (by kernel_rfl)) hz1 (by simp -implicitDefEqProofs [-getElem?_pos, -Iqa, -Iqb, -Iqc, -Iqd, -Lqa, Lqb, Lqc, Lqd, and_assoc, J_notation_Parse_1, ownAt, q9_1, q9_2, q9_3, q9_4, q9_5, q9_6, q9_7, q9_8, c1, pc1, nc1, k3, k5]; all_goals ((repeat' apply And.intro) <;> assumption)) hB1
          obtain ⟨e1, s1, rfl, hq⟩ := hJ.open
          clear hB1
          obtain ⟨rfl, hq⟩ := hq
          simp only [Q_notation_Parse_1] at hq
          obtain ⟨q11_1, ⟨g11_3, q11_2, q11_3⟩, ⟨g11_5, q11_4, q11_5⟩, ⟨g11_7, v11_7_w0, v11_7_w1, q11_6, q11_7, a11_7_w0, a11_7_w1⟩⟩ := hq
          rcases a11_7_w0 with rfl | ⟨rfl, ea11_7_w0⟩
          · rcases a11_7_w1 with rfl | ⟨rfl, ea11_7_w1⟩
            · rcases cnd_inv hB with ⟨c12, hB⟩ | ⟨c12, hB⟩
              · obtain rfl := Option.some.inj hB
                subst hr10
                simp -implicitDefEqProofs [-getElem?_pos, -Iqa, -Iqb, -Iqc, -Iqd, -Lqa, Lqb, Lqc, Lqd, q11_1, q11_2, q11_3, q11_4, q11_5, q11_6, q11_7, c1, pc1, nc1, k3, k5, c12]
                rw [drawK_ok _ _ _ (by kernel_rfl)]
                simp -implicitDefEqProofs [-getElem?_pos, -Iqa, -Iqb, -Iqc, -Iqd, -Lqa, Lqb, Lqc, Lqd, q11_1, q11_2, q11_3, q11_4, q11_5, q11_6, q11_7, c1, pc1, nc1, k3, k5, c12]
              · obtain ⟨y13, k14, hB⟩ := kb_inv hB
                replace k14 := run_threshold_Valid k14
                try simp only [Iqe, Iqf, Lqe, Lqf, Lqg, Lqh, Nqa, Nat.reduceAdd, Tqa, Tqb, Tqc, Eqe, Eqf, Eqg, Eqh, Eqa, Eqb, Eqc, Eqd, Eqi, Eqj, Eqk, Eql, Eqm, Eqn, c12] at k14
                try dsimp only at hB
                rcases cnd_inv hB with ⟨c15, hB⟩ | ⟨c15, hB⟩
                · have pc15 := eq_true (of_decide_eq_true c15)
                  obtain rfl := Option.some.inj hB
                  subst hr14
                  simp -implicitDefEqProofs [-getElem?_pos, -Iqa, -Iqb, -Iqc, -Iqd, -Lqa, Lqb, Lqc, Lqd, q11_1, q11_2, q11_3, q11_4, q11_5, q11_6, q11_7, c1, pc1, nc1, k3, k5, c12, k14, c15, pc15]
                · have pc15 := eq_false (of_decide_eq_false c15)
                  obtain rfl := Option.some.inj hB
                  subst hr13
                  simp -implicitDefEqProofs [-getElem?_pos, -Iqa, -Iqb, -Iqc, -Iqd, -Lqa, Lqb, Lqc, Lqd, q11_1, q11_2, q11_3, q11_4, q11_5, q11_6, q11_7, c1, pc1, nc1, k3, k5, c12, k14, c15, pc15]
            · try subst ea11_7_w1
              rcases cnd_inv hB with ⟨c12, hB⟩ | ⟨c12, hB⟩
              · obtain rfl := Option.some.inj hB
                subst hr10
                simp -implicitDefEqProofs [-getElem?_pos, -Iqa, -Iqb, -Iqc, -Iqd, -Lqa, Lqb, Lqc, Lqd, q11_1, q11_2, q11_3, q11_4, q11_5, q11_6, q11_7, c1, pc1, nc1, k3, k5, c12]
                rw [drawK_ok _ _ _ (by kernel_rfl)]
                simp -implicitDefEqProofs [-getElem?_pos, -Iqa, -Iqb, -Iqc, -Iqd, -Lqa, Lqb, Lqc, Lqd, q11_1, q11_2, q11_3, q11_4, q11_5, q11_6, q11_7, c1, pc1, nc1, k3, k5, c12]
              · obtain ⟨y13, k14, hB⟩ := kb_inv hB
                replace k14 := run_threshold_Valid k14
                try simp only [Iqe, Iqf, Lqe, Lqf, Lqg, Lqh, Nqa, Nat.reduceAdd, Tqa, Tqb, Tqc, Eqe, Eqf, Eqg, Eqh, Eqa, Eqb, Eqc, Eqd, Eqi, Eqj, Eqk, Eql, Eqm, Eqn, c12] at k14
                try dsimp only at hB
                rcases cnd_inv hB with ⟨c15, hB⟩ | ⟨c15, hB⟩
                · have pc15 := eq_true (of_decide_eq_true c15)
                  obtain rfl := Option.some.inj hB
                  subst hr14
                  simp -implicitDefEqProofs [-getElem?_pos, -Iqa, -Iqb, -Iqc, -Iqd, -Lqa, Lqb, Lqc, Lqd, q11_1, q11_2, q11_3, q11_4, q11_5, q11_6, q11_7, c1, pc1, nc1, k3, k5, c12, k14, c15, pc15]
                · have pc15 := eq_false (of_decide_eq_false c15)
                  obtain rfl := Option.some.inj hB
                  subst hr13
                  simp -implicitDefEqProofs [-getElem?_pos, -Iqa, -Iqb, -Iqc, -Iqd, -Lqa, Lqb, Lqc, Lqd, q11_1, q11_2, q11_3, q11_4, q11_5, q11_6, q11_7, c1, pc1, nc1, k3, k5, c12, k14, c15, pc15]
          · try subst ea11_7_w0
            rcases a11_7_w1 with rfl | ⟨rfl, ea11_7_w1⟩
            · rcases cnd_inv hB with ⟨c12, hB⟩ | ⟨c12, hB⟩
              · obtain rfl := Option.some.inj hB
                subst hr10
                simp -implicitDefEqProofs [-getElem?_pos, -Iqa, -Iqb, -Iqc, -Iqd, -Lqa, Lqb, Lqc, Lqd, q11_1, q11_2, q11_3, q11_4, q11_5, q11_6, q11_7, c1, pc1, nc1, k3, k5, c12]
                rw [drawK_ok _ _ _ (by kernel_rfl)]
                simp -implicitDefEqProofs [-getElem?_pos, -Iqa, -Iqb, -Iqc, -Iqd, -Lqa, Lqb, Lqc, Lqd, q11_1, q11_2, q11_3, q11_4, q11_5, q11_6, q11_7, c1, pc1, nc1, k3, k5, c12]
              · obtain ⟨y13, k14, hB⟩ := kb_inv hB
                replace k14 := run_threshold_Valid k14
                try simp only [Iqe, Iqf, Lqe, Lqf, Lqg, Lqh, Nqa, Nat.reduceAdd, Tqa, Tqb, Tqc, Eqe, Eqf, Eqg, Eqh, Eqa, Eqb, Eqc, Eqd, Eqi, Eqj, Eqk, Eql, Eqm, Eqn, c12] at k14
                try dsimp only at hB
                rcases cnd_inv hB with ⟨c15, hB⟩ | ⟨c15, hB⟩
                · have pc15 := eq_true (of_decide_eq_true c15)
                  obtain rfl := Option.some.inj hB
                  subst hr14
                  simp -implicitDefEqProofs [-getElem?_pos, -Iqa, -Iqb, -Iqc, -Iqd, -Lqa, Lqb, Lqc, Lqd, q11_1, q11_2, q11_3, q11_4, q11_5, q11_6, q11_7, c1, pc1, nc1, k3, k5, c12, k14, c15, pc15]
                · have pc15 := eq_false (of_decide_eq_false c15)
                  obtain rfl := Option.some.inj hB
                  subst hr13
                  simp -implicitDefEqProofs [-getElem?_pos, -Iqa, -Iqb, -Iqc, -Iqd, -Lqa, Lqb, Lqc, Lqd, q11_1, q11_2, q11_3, q11_4, q11_5, q11_6, q11_7, c1, pc1, nc1, k3, k5, c12, k14, c15, pc15]
            · try subst ea11_7_w1
              rcases cnd_inv hB with ⟨c12, hB⟩ | ⟨c12, hB⟩
              · obtain rfl := Option.some.inj hB
                subst hr10
                simp -implicitDefEqProofs [-getElem?_pos, -Iqa, -Iqb, -Iqc, -Iqd, -Lqa, Lqb, Lqc, Lqd, q11_1, q11_2, q11_3, q11_4, q11_5, q11_6, q11_7, c1, pc1, nc1, k3, k5, c12]
                rw [drawK_ok _ _ _ (by kernel_rfl)]
                simp -implicitDefEqProofs [-getElem?_pos, -Iqa, -Iqb, -Iqc, -Iqd, -Lqa, Lqb, Lqc, Lqd, q11_1, q11_2, q11_3, q11_4, q11_5, q11_6, q11_7, c1, pc1, nc1, k3, k5, c12]
              · obtain ⟨y13, k14, hB⟩ := kb_inv hB
                replace k14 := run_threshold_Valid k14
                try simp only [Iqe, Iqf, Lqe, Lqf, Lqg, Lqh, Nqa, Nat.reduceAdd, Tqa, Tqb, Tqc, Eqe, Eqf, Eqg, Eqh, Eqa, Eqb, Eqc, Eqd, Eqi, Eqj, Eqk, Eql, Eqm, Eqn, c12] at k14
                try dsimp only at hB
                rcases cnd_inv hB with ⟨c15, hB⟩ | ⟨c15, hB⟩
                · have pc15 := eq_true (of_decide_eq_true c15)
                  obtain rfl := Option.some.inj hB
                  subst hr14
                  simp -implicitDefEqProofs [-getElem?_pos, -Iqa, -Iqb, -Iqc, -Iqd, -Lqa, Lqb, Lqc, Lqd, q11_1, q11_2, q11_3, q11_4, q11_5, q11_6, q11_7, c1, pc1, nc1, k3, k5, c12, k14, c15, pc15]
                · have pc15 := eq_false (of_decide_eq_false c15)
                  obtain rfl := Option.some.inj hB
                  subst hr13
                  simp -implicitDefEqProofs [-getElem?_pos, -Iqa, -Iqb, -Iqc, -Iqd, -Lqa, Lqb, Lqc, Lqd, q11_1, q11_2, q11_3, q11_4, q11_5, q11_6, q11_7, c1, pc1, nc1, k3, k5, c12, k14, c15, pc15]
      · try subst ea9_8_w0
        rcases a9_8_w1 with rfl | ⟨rfl, ea9_8_w1⟩
        · try simp -implicitDefEqProofs [-getElem?_pos, -Iqa, -Iqb, -Iqc, -Iqd, -Lqa, Lqb, Lqc, Lqd, q9_1, q9_2, q9_3, q9_4, q9_5, q9_6, q9_7, q9_8, c1, pc1, nc1, k3, k5]
          generalize hz1 : C Tryz.prog cf cc1 _ = z1
          obtain ⟨z11, hB1, hB⟩ := kb_inv hB
          have hJ := P_notation_Parse_1 (hc1.symm.trans (by kernel_rfl)) hz1 (by simp -implicitDefEqProofs [-getElem?_pos, -Iqa, -Iqb, -Iqc, -Iqd, -Lqa, Lqb, Lqc, Lqd, and_assoc, J_notation_Parse_1, ownAt, q9_1, q9_2, q9_3, q9_4, q9_5, q9_6, q9_7, q9_8, c1, pc1, nc1, k3, k5]; all_goals ((repeat' apply And.intro) <;> assumption)) hB1
          obtain ⟨e1, s1, rfl, hq⟩ := hJ.open
          clear hB1
          obtain ⟨rfl, hq⟩ := hq
          simp only [Q_notation_Parse_1] at hq
          obtain ⟨q11_1, ⟨g11_3, q11_2, q11_3⟩, ⟨g11_5, q11_4, q11_5⟩, ⟨g11_7, v11_7_w0, v11_7_w1, q11_6, q11_7, a11_7_w0, a11_7_w1⟩⟩ := hq
          rcases a11_7_w0 with rfl | ⟨rfl, ea11_7_w0⟩
          · rcases a11_7_w1 with rfl | ⟨rfl, ea11_7_w1⟩
            · rcases cnd_inv hB with ⟨c12, hB⟩ | ⟨c12, hB⟩
              · obtain rfl := Option.some.inj hB
                subst hr10
                simp -implicitDefEqProofs [-getElem?_pos, -Iqa, -Iqb, -Iqc, -Iqd, -Lqa, Lqb, Lqc, Lqd, q11_1, q11_2, q11_3, q11_4, q11_5, q11_6, q11_7, c1, pc1, nc1, k3, k5, c12]
                rw [drawK_ok _ _ _ (by kernel_rfl)]
                simp -implicitDefEqProofs [-getElem?_pos, -Iqa, -Iqb, -Iqc, -Iqd, -Lqa, Lqb, Lqc, Lqd, q11_1, q11_2, q11_3, q11_4, q11_5, q11_6, q11_7, c1, pc1, nc1, k3, k5, c12]
              · obtain ⟨y13, k14, hB⟩ := kb_inv hB
                replace k14 := run_threshold_Valid k14
                try simp only [Iqe, Iqf, Lqe, Lqf, Lqg, Lqh, Nqa, Nat.reduceAdd, Tqa, Tqb, Tqc, Eqe, Eqf, Eqg, Eqh, Eqa, Eqb, Eqc, Eqd, Eqi, Eqj, Eqk, Eql, Eqm, Eqn, c12] at k14
                try dsimp only at hB
                rcases cnd_inv hB with ⟨c15, hB⟩ | ⟨c15, hB⟩
                · have pc15 := eq_true (of_decide_eq_true c15)
                  obtain rfl := Option.some.inj hB
                  subst hr14
                  simp -implicitDefEqProofs [-getElem?_pos, -Iqa, -Iqb, -Iqc, -Iqd, -Lqa, Lqb, Lqc, Lqd, q11_1, q11_2, q11_3, q11_4, q11_5, q11_6, q11_7, c1, pc1, nc1, k3, k5, c12, k14, c15, pc15]
                · have pc15 := eq_false (of_decide_eq_false c15)
                  obtain rfl := Option.some.inj hB
                  subst hr13
                  simp -implicitDefEqProofs [-getElem?_pos, -Iqa, -Iqb, -Iqc, -Iqd, -Lqa, Lqb, Lqc, Lqd, q11_1, q11_2, q11_3, q11_4, q11_5, q11_6, q11_7, c1, pc1, nc1, k3, k5, c12, k14, c15, pc15]
            · try subst ea11_7_w1
              rcases cnd_inv hB with ⟨c12, hB⟩ | ⟨c12, hB⟩
              · obtain rfl := Option.some.inj hB
                subst hr10
                simp -implicitDefEqProofs [-getElem?_pos, -Iqa, -Iqb, -Iqc, -Iqd, -Lqa, Lqb, Lqc, Lqd, q11_1, q11_2, q11_3, q11_4, q11_5, q11_6, q11_7, c1, pc1, nc1, k3, k5, c12]
                rw [drawK_ok _ _ _ (by kernel_rfl)]
                simp -implicitDefEqProofs [-getElem?_pos, -Iqa, -Iqb, -Iqc, -Iqd, -Lqa, Lqb, Lqc, Lqd, q11_1, q11_2, q11_3, q11_4, q11_5, q11_6, q11_7, c1, pc1, nc1, k3, k5, c12]
              · obtain ⟨y13, k14, hB⟩ := kb_inv hB
                replace k14 := run_threshold_Valid k14
                try simp only [Iqe, Iqf, Lqe, Lqf, Lqg, Lqh, Nqa, Nat.reduceAdd, Tqa, Tqb, Tqc, Eqe, Eqf, Eqg, Eqh, Eqa, Eqb, Eqc, Eqd, Eqi, Eqj, Eqk, Eql, Eqm, Eqn, c12] at k14
                try dsimp only at hB
                rcases cnd_inv hB with ⟨c15, hB⟩ | ⟨c15, hB⟩
                · have pc15 := eq_true (of_decide_eq_true c15)
                  obtain rfl := Option.some.inj hB
                  subst hr14
                  simp -implicitDefEqProofs [-getElem?_pos, -Iqa, -Iqb, -Iqc, -Iqd, -Lqa, Lqb, Lqc, Lqd, q11_1, q11_2, q11_3, q11_4, q11_5, q11_6, q11_7, c1, pc1, nc1, k3, k5, c12, k14, c15, pc15]
                · have pc15 := eq_false (of_decide_eq_false c15)
                  obtain rfl := Option.some.inj hB
                  subst hr13
                  simp -implicitDefEqProofs [-getElem?_pos, -Iqa, -Iqb, -Iqc, -Iqd, -Lqa, Lqb, Lqc, Lqd, q11_1, q11_2, q11_3, q11_4, q11_5, q11_6, q11_7, c1, pc1, nc1, k3, k5, c12, k14, c15, pc15]
          · try subst ea11_7_w0
            rcases a11_7_w1 with rfl | ⟨rfl, ea11_7_w1⟩
            · rcases cnd_inv hB with ⟨c12, hB⟩ | ⟨c12, hB⟩
              · obtain rfl := Option.some.inj hB
                subst hr10
                simp -implicitDefEqProofs [-getElem?_pos, -Iqa, -Iqb, -Iqc, -Iqd, -Lqa, Lqb, Lqc, Lqd, q11_1, q11_2, q11_3, q11_4, q11_5, q11_6, q11_7, c1, pc1, nc1, k3, k5, c12]
                rw [drawK_ok _ _ _ (by kernel_rfl)]
                simp -implicitDefEqProofs [-getElem?_pos, -Iqa, -Iqb, -Iqc, -Iqd, -Lqa, Lqb, Lqc, Lqd, q11_1, q11_2, q11_3, q11_4, q11_5, q11_6, q11_7, c1, pc1, nc1, k3, k5, c12]
              · obtain ⟨y13, k14, hB⟩ := kb_inv hB
                replace k14 := run_threshold_Valid k14
                try simp only [Iqe, Iqf, Lqe, Lqf, Lqg, Lqh, Nqa, Nat.reduceAdd, Tqa, Tqb, Tqc, Eqe, Eqf, Eqg, Eqh, Eqa, Eqb, Eqc, Eqd, Eqi, Eqj, Eqk, Eql, Eqm, Eqn, c12] at k14
                try dsimp only at hB
                rcases cnd_inv hB with ⟨c15, hB⟩ | ⟨c15, hB⟩
                · have pc15 := eq_true (of_decide_eq_true c15)
                  obtain rfl := Option.some.inj hB
                  subst hr14
                  simp -implicitDefEqProofs [-getElem?_pos, -Iqa, -Iqb, -Iqc, -Iqd, -Lqa, Lqb, Lqc, Lqd, q11_1, q11_2, q11_3, q11_4, q11_5, q11_6, q11_7, c1, pc1, nc1, k3, k5, c12, k14, c15, pc15]
                · have pc15 := eq_false (of_decide_eq_false c15)
                  obtain rfl := Option.some.inj hB
                  subst hr13
                  simp -implicitDefEqProofs [-getElem?_pos, -Iqa, -Iqb, -Iqc, -Iqd, -Lqa, Lqb, Lqc, Lqd, q11_1, q11_2, q11_3, q11_4, q11_5, q11_6, q11_7, c1, pc1, nc1, k3, k5, c12, k14, c15, pc15]
            · try subst ea11_7_w1
              rcases cnd_inv hB with ⟨c12, hB⟩ | ⟨c12, hB⟩
              · obtain rfl := Option.some.inj hB
                subst hr10
                simp -implicitDefEqProofs [-getElem?_pos, -Iqa, -Iqb, -Iqc, -Iqd, -Lqa, Lqb, Lqc, Lqd, q11_1, q11_2, q11_3, q11_4, q11_5, q11_6, q11_7, c1, pc1, nc1, k3, k5, c12]
                rw [drawK_ok _ _ _ (by kernel_rfl)]
                simp -implicitDefEqProofs [-getElem?_pos, -Iqa, -Iqb, -Iqc, -Iqd, -Lqa, Lqb, Lqc, Lqd, q11_1, q11_2, q11_3, q11_4, q11_5, q11_6, q11_7, c1, pc1, nc1, k3, k5, c12]
              · obtain ⟨y13, k14, hB⟩ := kb_inv hB
                replace k14 := run_threshold_Valid k14
                try simp only [Iqe, Iqf, Lqe, Lqf, Lqg, Lqh, Nqa, Nat.reduceAdd, Tqa, Tqb, Tqc, Eqe, Eqf, Eqg, Eqh, Eqa, Eqb, Eqc, Eqd, Eqi, Eqj, Eqk, Eql, Eqm, Eqn, c12] at k14
                try dsimp only at hB
                rcases cnd_inv hB with ⟨c15, hB⟩ | ⟨c15, hB⟩
                · have pc15 := eq_true (of_decide_eq_true c15)
                  obtain rfl := Option.some.inj hB
                  subst hr14
                  simp -implicitDefEqProofs [-getElem?_pos, -Iqa, -Iqb, -Iqc, -Iqd, -Lqa, Lqb, Lqc, Lqd, q11_1, q11_2, q11_3, q11_4, q11_5, q11_6, q11_7, c1, pc1, nc1, k3, k5, c12, k14, c15, pc15]
                · have pc15 := eq_false (of_decide_eq_false c15)
                  obtain rfl := Option.some.inj hB
                  subst hr13
                  simp -implicitDefEqProofs [-getElem?_pos, -Iqa, -Iqb, -Iqc, -Iqd, -Lqa, Lqb, Lqc, Lqd, q11_1, q11_2, q11_3, q11_4, q11_5, q11_6, q11_7, c1, pc1, nc1, k3, k5, c12, k14, c15, pc15]
        · try subst ea9_8_w1
          try simp -implicitDefEqProofs [-getElem?_pos, -Iqa, -Iqb, -Iqc, -Iqd, -Lqa, Lqb, Lqc, Lqd, q9_1, q9_2, q9_3, q9_4, q9_5, q9_6, q9_7, q9_8, c1, pc1, nc1, k3, k5]
          generalize hz1 : C Tryz.prog cf cc1 _ = z1
          obtain ⟨z11, hB1, hB⟩ := kb_inv hB
          have hJ := P_notation_Parse_1 (hc1.symm.trans (by kernel_rfl)) hz1 (by simp -implicitDefEqProofs [-getElem?_pos, -Iqa, -Iqb, -Iqc, -Iqd, -Lqa, Lqb, Lqc, Lqd, and_assoc, J_notation_Parse_1, ownAt, q9_1, q9_2, q9_3, q9_4, q9_5, q9_6, q9_7, q9_8, c1, pc1, nc1, k3, k5]; all_goals ((repeat' apply And.intro) <;> assumption)) hB1
          obtain ⟨e1, s1, rfl, hq⟩ := hJ.open
          clear hB1
          obtain ⟨rfl, hq⟩ := hq
          simp only [Q_notation_Parse_1] at hq
          obtain ⟨q11_1, ⟨g11_3, q11_2, q11_3⟩, ⟨g11_5, q11_4, q11_5⟩, ⟨g11_7, v11_7_w0, v11_7_w1, q11_6, q11_7, a11_7_w0, a11_7_w1⟩⟩ := hq
          rcases a11_7_w0 with rfl | ⟨rfl, ea11_7_w0⟩
          · rcases a11_7_w1 with rfl | ⟨rfl, ea11_7_w1⟩
            · rcases cnd_inv hB with ⟨c12, hB⟩ | ⟨c12, hB⟩
              · obtain rfl := Option.some.inj hB
                subst hr10
                simp -implicitDefEqProofs [-getElem?_pos, -Iqa, -Iqb, -Iqc, -Iqd, -Lqa, Lqb, Lqc, Lqd, q11_1, q11_2, q11_3, q11_4, q11_5, q11_6, q11_7, c1, pc1, nc1, k3, k5, c12]
                rw [drawK_ok _ _ _ (by kernel_rfl)]
                simp -implicitDefEqProofs [-getElem?_pos, -Iqa, -Iqb, -Iqc, -Iqd, -Lqa, Lqb, Lqc, Lqd, q11_1, q11_2, q11_3, q11_4, q11_5, q11_6, q11_7, c1, pc1, nc1, k3, k5, c12]
              · obtain ⟨y13, k14, hB⟩ := kb_inv hB
                replace k14 := run_threshold_Valid k14
                try simp only [Iqe, Iqf, Lqe, Lqf, Lqg, Lqh, Nqa, Nat.reduceAdd, Tqa, Tqb, Tqc, Eqe, Eqf, Eqg, Eqh, Eqa, Eqb, Eqc, Eqd, Eqi, Eqj, Eqk, Eql, Eqm, Eqn, c12] at k14
                try dsimp only at hB
                rcases cnd_inv hB with ⟨c15, hB⟩ | ⟨c15, hB⟩
                · have pc15 := eq_true (of_decide_eq_true c15)
                  obtain rfl := Option.some.inj hB
                  subst hr14
                  simp -implicitDefEqProofs [-getElem?_pos, -Iqa, -Iqb, -Iqc, -Iqd, -Lqa, Lqb, Lqc, Lqd, q11_1, q11_2, q11_3, q11_4, q11_5, q11_6, q11_7, c1, pc1, nc1, k3, k5, c12, k14, c15, pc15]
                · have pc15 := eq_false (of_decide_eq_false c15)
                  obtain rfl := Option.some.inj hB
                  subst hr13
                  simp -implicitDefEqProofs [-getElem?_pos, -Iqa, -Iqb, -Iqc, -Iqd, -Lqa, Lqb, Lqc, Lqd, q11_1, q11_2, q11_3, q11_4, q11_5, q11_6, q11_7, c1, pc1, nc1, k3, k5, c12, k14, c15, pc15]
            · try subst ea11_7_w1
              rcases cnd_inv hB with ⟨c12, hB⟩ | ⟨c12, hB⟩
              · obtain rfl := Option.some.inj hB
                subst hr10
                simp -implicitDefEqProofs [-getElem?_pos, -Iqa, -Iqb, -Iqc, -Iqd, -Lqa, Lqb, Lqc, Lqd, q11_1, q11_2, q11_3, q11_4, q11_5, q11_6, q11_7, c1, pc1, nc1, k3, k5, c12]
                rw [drawK_ok _ _ _ (by kernel_rfl)]
                simp -implicitDefEqProofs [-getElem?_pos, -Iqa, -Iqb, -Iqc, -Iqd, -Lqa, Lqb, Lqc, Lqd, q11_1, q11_2, q11_3, q11_4, q11_5, q11_6, q11_7, c1, pc1, nc1, k3, k5, c12]
              · obtain ⟨y13, k14, hB⟩ := kb_inv hB
                replace k14 := run_threshold_Valid k14
                try simp only [Iqe, Iqf, Lqe, Lqf, Lqg, Lqh, Nqa, Nat.reduceAdd, Tqa, Tqb, Tqc, Eqe, Eqf, Eqg, Eqh, Eqa, Eqb, Eqc, Eqd, Eqi, Eqj, Eqk, Eql, Eqm, Eqn, c12] at k14
                try dsimp only at hB
                rcases cnd_inv hB with ⟨c15, hB⟩ | ⟨c15, hB⟩
                · have pc15 := eq_true (of_decide_eq_true c15)
                  obtain rfl := Option.some.inj hB
                  subst hr14
                  simp -implicitDefEqProofs [-getElem?_pos, -Iqa, -Iqb, -Iqc, -Iqd, -Lqa, Lqb, Lqc, Lqd, q11_1, q11_2, q11_3, q11_4, q11_5, q11_6, q11_7, c1, pc1, nc1, k3, k5, c12, k14, c15, pc15]
                · have pc15 := eq_false (of_decide_eq_false c15)
                  obtain rfl := Option.some.inj hB
                  subst hr13
                  simp -implicitDefEqProofs [-getElem?_pos, -Iqa, -Iqb, -Iqc, -Iqd, -Lqa, Lqb, Lqc, Lqd, q11_1, q11_2, q11_3, q11_4, q11_5, q11_6, q11_7, c1, pc1, nc1, k3, k5, c12, k14, c15, pc15]
          · try subst ea11_7_w0
            rcases a11_7_w1 with rfl | ⟨rfl, ea11_7_w1⟩
            · rcases cnd_inv hB with ⟨c12, hB⟩ | ⟨c12, hB⟩
              · obtain rfl := Option.some.inj hB
                subst hr10
                simp -implicitDefEqProofs [-getElem?_pos, -Iqa, -Iqb, -Iqc, -Iqd, -Lqa, Lqb, Lqc, Lqd, q11_1, q11_2, q11_3, q11_4, q11_5, q11_6, q11_7, c1, pc1, nc1, k3, k5, c12]
                rw [drawK_ok _ _ _ (by kernel_rfl)]
                simp -implicitDefEqProofs [-getElem?_pos, -Iqa, -Iqb, -Iqc, -Iqd, -Lqa, Lqb, Lqc, Lqd, q11_1, q11_2, q11_3, q11_4, q11_5, q11_6, q11_7, c1, pc1, nc1, k3, k5, c12]
              · obtain ⟨y13, k14, hB⟩ := kb_inv hB
                replace k14 := run_threshold_Valid k14
                try simp only [Iqe, Iqf, Lqe, Lqf, Lqg, Lqh, Nqa, Nat.reduceAdd, Tqa, Tqb, Tqc, Eqe, Eqf, Eqg, Eqh, Eqa, Eqb, Eqc, Eqd, Eqi, Eqj, Eqk, Eql, Eqm, Eqn, c12] at k14
                try dsimp only at hB
                rcases cnd_inv hB with ⟨c15, hB⟩ | ⟨c15, hB⟩
                · have pc15 := eq_true (of_decide_eq_true c15)
                  obtain rfl := Option.some.inj hB
                  subst hr14
                  simp -implicitDefEqProofs [-getElem?_pos, -Iqa, -Iqb, -Iqc, -Iqd, -Lqa, Lqb, Lqc, Lqd, q11_1, q11_2, q11_3, q11_4, q11_5, q11_6, q11_7, c1, pc1, nc1, k3, k5, c12, k14, c15, pc15]
                · have pc15 := eq_false (of_decide_eq_false c15)
                  obtain rfl := Option.some.inj hB
                  subst hr13
                  simp -implicitDefEqProofs [-getElem?_pos, -Iqa, -Iqb, -Iqc, -Iqd, -Lqa, Lqb, Lqc, Lqd, q11_1, q11_2, q11_3, q11_4, q11_5, q11_6, q11_7, c1, pc1, nc1, k3, k5, c12, k14, c15, pc15]
            · try subst ea11_7_w1
              rcases cnd_inv hB with ⟨c12, hB⟩ | ⟨c12, hB⟩
              · obtain rfl := Option.some.inj hB
                subst hr10
                simp -implicitDefEqProofs [-getElem?_pos, -Iqa, -Iqb, -Iqc, -Iqd, -Lqa, Lqb, Lqc, Lqd, q11_1, q11_2, q11_3, q11_4, q11_5, q11_6, q11_7, c1, pc1, nc1, k3, k5, c12]
                rw [drawK_ok _ _ _ (by kernel_rfl)]
                simp -implicitDefEqProofs [-getElem?_pos, -Iqa, -Iqb, -Iqc, -Iqd, -Lqa, Lqb, Lqc, Lqd, q11_1, q11_2, q11_3, q11_4, q11_5, q11_6, q11_7, c1, pc1, nc1, k3, k5, c12]
              · obtain ⟨y13, k14, hB⟩ := kb_inv hB
                replace k14 := run_threshold_Valid k14
                try simp only [Iqe, Iqf, Lqe, Lqf, Lqg, Lqh, Nqa, Nat.reduceAdd, Tqa, Tqb, Tqc, Eqe, Eqf, Eqg, Eqh, Eqa, Eqb, Eqc, Eqd, Eqi, Eqj, Eqk, Eql, Eqm, Eqn, c12] at k14
                try dsimp only at hB
                rcases cnd_inv hB with ⟨c15, hB⟩ | ⟨c15, hB⟩
                · have pc15 := eq_true (of_decide_eq_true c15)
                  obtain rfl := Option.some.inj hB
                  subst hr14
                  simp -implicitDefEqProofs [-getElem?_pos, -Iqa, -Iqb, -Iqc, -Iqd, -Lqa, Lqb, Lqc, Lqd, q11_1, q11_2, q11_3, q11_4, q11_5, q11_6, q11_7, c1, pc1, nc1, k3, k5, c12, k14, c15, pc15]
                · have pc15 := eq_false (of_decide_eq_false c15)
                  obtain rfl := Option.some.inj hB
                  subst hr13
                  simp -implicitDefEqProofs [-getElem?_pos, -Iqa, -Iqb, -Iqc, -Iqd, -Lqa, Lqb, Lqc, Lqd, q11_1, q11_2, q11_3, q11_4, q11_5, q11_6, q11_7, c1, pc1, nc1, k3, k5, c12, k14, c15, pc15]
theorem g_notation_Parse {p0 : (List UInt8)} {r : (Tru × Int × Int)} (hB : B_notation_Parse p0 = some r) : G_notation_Parse p0 = some r := dec_of (fun a b h => by rcases a with ⟨⟨a0_0, a0_1, a0_2⟩, a1_, a2_⟩; rcases b with ⟨⟨b0_0, b0_1, b0_2⟩, b1_, b2_⟩; simp at h; simp [*]) (sim_notation_Parse hB)
end Go.Am
/-
Reading a trust: what the program's reader answers.
-/
namespace Go.Am
open Go
theorem s_digit (b : UInt8) : G_notation_digit (b.toNat : Int) = some (dg b) := by
  refine g_notation_digit ?_
  unfold B_notation_digit dg
  by_cases h1 : 48 ≤ b.toNat
  · have : (48 : Int) ≤ (b.toNat : Int) := by omega
    simp only [this, decide_true, cnd_true, h1, true_and]
    congr 1
    by_cases h2 : b.toNat ≤ 57
    · have : (b.toNat : Int) ≤ 57 := by omega
      simp [h2, this]
    · have : ¬ (b.toNat : Int) ≤ 57 := by omega
      simp [h2, this]
  · have : ¬ (48 : Int) ≤ (b.toNat : Int) := by omega
    simp [this, cnd_false, h1]
theorem s_HasPrefix (l p : List UInt8) : G_strings_HasPrefix l p = some (decide (p.length ≤ l.length) && l.take p.length == p) := by
  refine g_strings_HasPrefix ?_
  unfold B_strings_HasPrefix
  have h : G_internal_stringslite_HasPrefix l p = some (decide (p.length ≤ l.length) && l.take p.length == p) := by
    refine g_internal_stringslite_HasPrefix ?_
    unfold B_internal_stringslite_HasPrefix
    by_cases c : p.length ≤ l.length
    · have c' : (p.length : Int) ≤ (l.length : Int) := by omega
      have e : partK l 0 (p.length : Int) = some (l.take p.length) := by
        unfold partK
        rw [if_pos ⟨by omega, by omega, c'⟩]
        simp
      simp only [c', c, decide_true, cnd_true, e, kb_some, Bool.true_and]
    · have c' : ¬ (p.length : Int) ≤ (l.length : Int) := by omega
      simp [c', c, cnd_false]
  rw [h, kb_some]
theorem idx_punct (x : UInt8) : decide (0 ≤ Lib.indexByte [40, 41, 44] x) = punct x := by
  unfold punct
  by_cases h1 : x = 40
  · subst h1; decide
  by_cases h2 : x = 41
  · subst h2; decide
  by_cases h3 : x = 44
  · subst h3; decide
  have e1 : (40 == x) = false := by rw [beq_eq_false_iff_ne]; exact fun e => h1 e.symm
  have e2 : (41 == x) = false := by rw [beq_eq_false_iff_ne]; exact fun e => h2 e.symm
  have e3 : (44 == x) = false := by rw [beq_eq_false_iff_ne]; exact fun e => h3 e.symm
  simp [Lib.indexByte, e1, e2, e3, h1, h2, h3]
theorem s_IndexByte (l : List UInt8) (x : UInt8) : G_strings_IndexByte l (x.toNat : Int) = some (Lib.indexByte l x) := by
  refine g_strings_IndexByte ?_
  unfold B_strings_IndexByte indexByteK
  rw [Int.toNat_natCast]
  simp
/-! ### the reader -/
abbrev Rdr := S_notation_reader
def rdAt (text l : List UInt8) : Rdr := ⟨text, tok l, ((text.length - l.length : Nat) : Int)⟩
theorem drop_suf {text l : List UInt8} (h : l <:+ text) : text.drop (text.length - l.length) = l := by
  obtain ⟨p, rfl⟩ := h
  simp
theorem next_blanks (text : List UInt8) (ht : text.length < 1000000000) (w : List UInt8) (at_ : Int) : ∀ (l : List UInt8) (j : Nat), j ≤ text.length → text.drop j = l →
    iterW (fun a => B_notation_reader_next_1 ⟨text, w, at_⟩ a) (j : Int) = some (.go ((text.length - (skipB l).length : Nat) : Int)) := by
  intro l
  induction l with
  | nil =>
    intro j hj hl
    have : text.length ≤ j := List.drop_eq_nil_iff.1 hl
    have hx : ¬ (j : Int) < (text.length : Int) := by omega
    refine (iterW_ex (k := 0) (a' := (j : Int)) ?_).trans ?_
    · unfold B_notation_reader_next_1 B_notation_reader_next_0
      simp only [hx, decide_false, cnd_false, kb_some]
    · have : j = text.length := by omega
      subst this
      rfl
  | cons c r ih =>
    intro j hj hl
    have hlt : j < text.length := by
      rcases Nat.lt_or_ge j text.length with h | h
      · exact h
      · rw [List.drop_of_length_le h] at hl; cases hl
    have hg : text[j]? = some c := by
      have := congrArg (·[0]?) hl
      simpa [List.getElem?_drop] using this
    have hr : text.drop (j + 1) = r := by
      rw [← List.drop_drop, hl]; rfl
    have h0 : B_notation_reader_next_0 ⟨text, w, at_⟩ (j : Int) = some (decide (c = 32)) := by
      unfold B_notation_reader_next_0
      have : (j : Int) < (text.length : Int) := by omega
      simp only [this, decide_true, cnd_true]
      rw [getI_nat, hg, kb_some]
      congr 1
      rw [decide_eq_decide]
      constructor
      · intro h
        apply UInt8.toNat_inj.1
        show c.toNat = 32
        omega
      · rintro rfl; rfl
    rw [skipB_cons]
    by_cases hc : c = 32
    · rw [if_pos hc]
      refine (iterW_go (a' := ((j + 1 : Nat) : Int)) ?_).trans (ih (j + 1) (by omega) hr)
      unfold B_notation_reader_next_1
      rw [h0, kb_some]
      simp only [hc, decide_true, cnd_true]
      rw [add64_of (by omega) (by omega)]
      rfl
    · rw [if_neg hc]
      refine (iterW_ex (k := 0) (a' := (j : Int)) ?_).trans ?_
      · unfold B_notation_reader_next_1
        rw [h0, kb_some]
        simp only [hc, decide_false, cnd_false]
      · have := congrArg List.length hl
        rw [List.length_drop] at this
        congr 2
        omega
theorem next_digits (p : Rdr) (z : Int) (L : List UInt8) (hL : L.length < 1000000000) : ∀ (l : List UInt8) (j : Nat), L.drop j = l → j ≤ L.length →
    iterW (fun a => B_notation_reader_next_4 p z L a) (j : Int) = some (.go ((j + (l.takeWhile dg).length : Nat) : Int)) := by
  intro l
  induction l with
  | nil =>
    intro j hl hj
    have : L.length ≤ j := List.drop_eq_nil_iff.1 hl
    have hx : ¬ (j : Int) < (L.length : Int) := by omega
    refine (iterW_ex (k := 3) (a' := (j : Int)) ?_).trans rfl
    unfold B_notation_reader_next_4 B_notation_reader_next_3
    simp only [hx, decide_false, cnd_false, kb_some]
  | cons c r ih =>
    intro j hl hj
    have hlt : j < L.length := by
      rcases Nat.lt_or_ge j L.length with h | h
      · exact h
      · rw [List.drop_of_length_le h] at hl; cases hl
    have hg : L[j]? = some c := by
      have := congrArg (·[0]?) hl
      simpa [List.getElem?_drop] using this
    have hr : L.drop (j + 1) = r := by
      rw [← List.drop_drop, hl]; rfl
    have h0 : B_notation_reader_next_3 p z L (j : Int) = some (dg c) := by
      unfold B_notation_reader_next_3
      have : (j : Int) < (L.length : Int) := by omega
      simp only [this, decide_true, cnd_true]
      rw [getI_nat, hg, kb_some, s_digit, kb_some]
    rw [List.takeWhile_cons]
    cases hc : dg c
    · refine (iterW_ex (k := 3) (a' := (j : Int)) ?_).trans rfl
      unfold B_notation_reader_next_4
      rw [h0, kb_some, hc, cnd_false]
    · rw [if_pos rfl]
      refine (iterW_go (a' := ((j + 1 : Nat) : Int)) ?_).trans ((ih (j + 1) hr (by omega)).trans ?_)
      · unfold B_notation_reader_next_4
        rw [h0, kb_some, hc, cnd_true, add64_of (by omega) (by omega)]
        rfl
      · congr 2
        rw [List.length_cons]
        omega
theorem s_next {text w : List UInt8} {a : Nat} (ht : text.length < 1000000000) (ha : a + w.length ≤ text.length) :
    G_notation_reader_next ⟨text, w, (a : Int)⟩ = some (rdAt text (skipB (text.drop (a + w.length)))) := by
  refine g_notation_reader_next ?_
  unfold B_notation_reader_next
  dsimp only
  have e0 : add64 (a : Int) (w.length : Int) = ((a + w.length : Nat) : Int) := by rw [add64_of (by omega) (by omega)]; omega
  rw [e0, next_blanks text ht w _ _ (a + w.length) ha rfl, kb_some, stpK_go]
  have hs : skipB (text.drop (a + w.length)) <:+ text := (skipB_suf _).trans (List.drop_suffix _ _)
  generalize skipB (text.drop (a + w.length)) = l at hs
  have hl := hs.length_le
  have e1 : partK text ((text.length - l.length : Nat) : Int) (text.length : Int) = some l := by
    unfold partK
    rw [if_pos ⟨by omega, by omega, by omega⟩]
    rw [Int.toNat_natCast, Int.toNat_natCast, drop_suf hs, List.take_of_length_le (by omega)]
  rw [e1, kb_some, s_HasPrefix, kb_some]
  unfold rdAt
  cases l with
  | nil =>
    simp only [List.length_nil, List.length_cons, Nat.zero_add, Nat.reduceAdd, Nat.reduceLeDiff, decide_false, Bool.false_and, cnd_false]
    have e2 : B_notation_reader_next_2 ⟨text, w, (a : Int)⟩ ((text.length - 0 : Nat) : Int) [] = some false := by
      unfold B_notation_reader_next_2
      rfl
    rw [e2, kb_some, cnd_false]
    have e3 := next_digits ⟨text, w, (a : Int)⟩ ((text.length - 0 : Nat) : Int) [] (by simp) [] 0 rfl (by simp)
    rw [show ((0 : Nat) : Int) = 0 from rfl] at e3
    rw [e3, kb_some, stpK_go]
    rfl
  | cons c r =>
    rw [tok_cons]
    by_cases hof : c = 111 ∧ r.head? = some 102
    · obtain ⟨rfl, h2⟩ := hof
      cases r with
      | nil => cases h2
      | cons d q =>
        simp only [List.head?_cons, Option.some.injEq] at h2
        subst h2
        have e2 : partK (111 :: 102 :: q) 0 2 = some [111, 102] := by
          unfold partK
          rw [if_pos ⟨by omega, by omega, by simp <;> omega⟩]
          rfl
        have e3 : (decide (([111, 102] : List UInt8).length ≤ (111 :: 102 :: q).length) && ((111 :: 102 :: q).take ([111, 102] : List UInt8).length == [111, 102])) = true := by
          simp
        rw [e3, cnd_true, e2, kb_some]
        rfl
    · have e3 : (decide (([111, 102] : List UInt8).length ≤ (c :: r).length) && ((c :: r).take ([111, 102] : List UInt8).length == [111, 102])) = false := by
        cases r with
        | nil => rfl
        | cons d q =>
          simp only [List.length_cons, List.length_nil, List.take_succ_cons, List.take_zero, Bool.and_eq_false_iff]
          right
          rw [beq_eq_false_iff_ne]
          intro e
          simp only [List.cons.injEq] at e
          apply hof
          simp [e.1, e.2.1]
      rw [e3, cnd_false]
      have e2 : B_notation_reader_next_2 ⟨text, w, (a : Int)⟩ ((text.length - (c :: r).length : Nat) : Int) (c :: r) = some (punct c) := by
        unfold B_notation_reader_next_2
        have : ((c :: r) == ([] : List UInt8)) = false := rfl
        rw [this, cnd_false]
        have hg : getI (c :: r) 0 = some c := rfl
        rw [hg, kb_some, s_IndexByte, kb_some, idx_punct]
      rw [e2, kb_some]
      cases hp : punct c
      · rw [cnd_false]
        have e4 := next_digits ⟨text, w, (a : Int)⟩ ((text.length - (c :: r).length : Nat) : Int) (c :: r) (by omega) (c :: r) 0 rfl (by simp)
        rw [show ((0 : Nat) : Int) = 0 from rfl] at e4
        rw [e4, kb_some, stpK_go]
        have e5 : partK (c :: r) 0 ((0 + ((c :: r).takeWhile dg).length : Nat) : Int) = some ((c :: r).takeWhile dg) := by
          have hle : ((c :: r).takeWhile dg).length ≤ (c :: r).length := (List.takeWhile_prefix dg).length_le
          unfold partK
          rw [if_pos ⟨by omega, by omega, by omega⟩]
          simp only [Int.toNat_zero, List.drop_zero, Nat.sub_zero, Nat.zero_add, Int.toNat_natCast]
          congr 1
          exact (List.prefix_iff_eq_take.1 (List.takeWhile_prefix dg)).symm
        rw [e5, kb_some]
        by_cases h1 : c = 111
        · rw [if_pos h1, if_neg fun h => hof ⟨h1, h⟩]
          subst h1
          rfl
        · rw [if_neg h1, if_neg (by simp)]
      · have h1 : c ≠ 111 := by rintro rfl; exact absurd hp (by decide)
        rw [cnd_true, if_neg h1, if_pos rfl]
        have e5 : partK (c :: r) 0 1 = some [c] := by
          unfold partK
          rw [if_pos ⟨by omega, by omega, by simp <;> omega⟩]
          rfl
        rw [e5, kb_some]
theorem s_next_at {text l : List UInt8} (ht : text.length < 1000000000) (h : l <:+ text) : G_notation_reader_next (rdAt text l) = some (rdAt text (nx l)) := by
  have hl := h.length_le
  have h1 := tok_le l
  unfold rdAt
  rw [s_next ht (by omega)]
  unfold rdAt
  rw [← List.drop_drop, drop_suf h]
  rfl
theorem s_take {text l : List UInt8} (ht : text.length < 1000000000) (h : l <:+ text) (w : List UInt8) : G_notation_reader_take (rdAt text l) w = some (if tok l = w then (true, rdAt text (nx l)) else (false, rdAt text l)) := by
  refine g_notation_reader_take ?_
  unfold B_notation_reader_take
  rw [s_next_at ht h]
  by_cases c : tok l = w
  · have : ((rdAt text l).f1 == w) = true := beq_iff_eq.2 c
    rw [this, cnd_true, kb_some, if_pos c]
  · have : ((rdAt text l).f1 == w) = false := beq_eq_false_iff_ne.2 c
    rw [this, cnd_false, if_neg c]
/-! ### numbers -/
theorem tok_digs {l : List UInt8} {b : UInt8} {r : List UInt8} (h : tok l = b :: r) (hb : dg b = true) : ∀ c ∈ tok l, dg c = true := by
  cases l with
  | nil => cases h
  | cons c q =>
    rw [tok_cons] at h ⊢
    split at h
    · split at h
      · cases h; exact absurd hb (by decide)
      · cases h
    · rename_i h1
      rw [if_neg h1]
      split at h
      · rename_i h2
        cases h
        exfalso
        unfold punct at h2
        simp only [Bool.or_eq_true, beq_iff_eq] at h2
        rcases h2 with rfl | rfl | rfl <;> exact absurd hb (by decide)
      · rename_i h2
        rw [if_neg h2]
        intro d hd
        exact List.all_eq_true.1 (List.all_takeWhile (p := dg) (l := c :: q)) d hd
theorem s_number {text l : List UInt8} (ht : text.length < 1000000000) (h : l <:+ text) : G_notation_reader_number (rdAt text l) = some (match num l with
    | none => (0, false, rdAt text l)
    | some k => ((k : Int), true, rdAt text (nx l))) := by
  refine g_notation_reader_number ?_
  unfold B_notation_reader_number
  have e0 : B_notation_reader_number_0 (rdAt text l) = some (!numOk (tok l)) := by
    unfold B_notation_reader_number_0
    show cnd (tok l == []) _ _ = _
    cases hw : tok l with
    | nil => rfl
    | cons b r =>
      have hf : (rdAt text l).f1 = b :: r := hw
      rw [hf]
      have : ((b :: r) == ([] : List UInt8)) = false := rfl
      rw [this, cnd_false]
      have hg : getI (b :: r) 0 = some b := rfl
      rw [hg, kb_some, s_digit, kb_some]
      show _ = some (!(dg b && (decide (r.length ≤ 3) && (r.isEmpty || b != 48))))
      cases hd : dg b
      · rfl
      · rw [cnd_true, Bool.true_and]
        by_cases c1 : 4 < (b :: r).length
        · have c2 : ¬ r.length ≤ 3 := by rw [List.length_cons] at c1; omega
          have c3 : (4 : Int) < ((b :: r).length : Int) := by omega
          simp only [c3, decide_true, cnd_true, c2, decide_false, Bool.false_and, Bool.not_false]
        · have c2 : r.length ≤ 3 := by rw [List.length_cons] at c1; omega
          have c3 : ¬ (4 : Int) < ((b :: r).length : Int) := by omega
          simp only [c3, decide_false, cnd_false, c2, decide_true, Bool.true_and]
          cases r with
          | nil => rfl
          | cons d q =>
            have c4 : (1 : Int) < ((b :: d :: q).length : Int) := by simp only [List.length_cons]; omega
            simp only [c4, decide_true, cnd_true, List.isEmpty_cons, Bool.false_or, bne, Bool.not_not]
            congr 1
            rw [show (b == 48) = decide (b = 48) from rfl, decide_eq_decide]
            constructor
            · intro h
              apply UInt8.toNat_inj.1
              show b.toNat = 48
              omega
            · rintro rfl; rfl
  rw [e0, kb_some]
  unfold num
  cases hn : numOk (tok l)
  · rw [Bool.not_false, cnd_true, if_neg (by simp)]
  · rw [Bool.not_true, cnd_false, if_pos rfl]
    have hlen : (tok l).length ≤ 4 ∧ (tok l ≠ [] ∧ ∀ c ∈ tok l, dg c = true) := by
      cases hw : tok l with
      | nil => rw [hw] at hn; cases hn
      | cons b r =>
        have hn' := hn
        rw [hw] at hn'
        simp only [numOk, Bool.and_eq_true, decide_eq_true_eq] at hn'
        refine ⟨by rw [List.length_cons]; omega, by simp, ?_⟩
        rw [← hw]
        exact tok_digs hw hn'.1
    have ea : G_strconv_Atoi (rdAt text l).f1 = some ((valD (tok l) : Int), true) := by
      exact s_Atoi_digs hlen.2.1 hlen.2.2 hlen.1
    rw [ea, kb_some, s_next_at ht h, kb_some]
/-! ### a trust -/
theorem thr_loop : ∀ (f : Nat) (l : List UInt8) (n : Int) (ns : List Int) (is : List Tru), (pLoop f l n ns is).1.thr = n := by
  intro f
  induction f with
  | zero => intro l n ns is; rfl
  | succ f ih =>
    intro l n ns is
    have ht : ∀ r ns' is', (pTail (pLoop f) r n ns' is').1.thr = n := by
      intro r ns' is'
      unfold pTail
      split
      · rfl
      · split
        · exact ih _ _ _ _
        · rfl
    unfold pLoop
    split
    · rfl
    · split
      · split
        · exact ht _ _ _
        · rfl
      · exact ht _ _ _
def LoopAt (text : List UInt8) (f : Nat) : Prop := ∀ (l : List UInt8) (n : Int) (ns : List Int) (is : List Tru), l <:+ text → l.length ≤ f → ns.length + (is.length + l.length) ≤ 1000000 →
  iterW (fun a : List UInt8 × List UInt8 × Int × List Int × List Tru => B_notation_reader_rest_2 n a.1 a.2.1 a.2.2.1 a.2.2.2.1 a.2.2.2.2) ((rdAt text l).f0, (rdAt text l).f1, (rdAt text l).f2, ns, is) =
    some (.ret ((rdAt text (pLoop f l n ns is).2.2).f0, (rdAt text (pLoop f l n ns is).2.2).f1, (rdAt text (pLoop f l n ns is).2.2).f2, (pLoop f l n ns is).1.nodes, (pLoop f l n ns is).1.inner, (pLoop f l n ns is).2.1))
def RestAt (text : List UInt8) (f : Nat) : Prop := ∀ (l : List UInt8) (n : Int), l <:+ text → l.length ≤ f →
  G_notation_reader_rest (rdAt text l) n = some ((pRest (pLoop f) l n).1, (pRest (pLoop f) l n).2.1, rdAt text (pRest (pLoop f) l n).2.2)
theorem rest_of_loop {text : List UInt8} (ht : text.length ≤ 100000) {f : Nat} (hL : LoopAt text f) : RestAt text f := by
  intro l n hs hf
  have ht' : text.length < 1000000000 := by omega
  refine g_notation_reader_rest ?_
  unfold B_notation_reader_rest
  have e0 : B_notation_reader_rest_0 (rdAt text l) n = some (if tok l = [111, 102] then (if tok (nx l) = [40] then ((rdAt text (nx (nx l))).f0, (rdAt text (nx (nx l))).f1, (rdAt text (nx (nx l))).f2, false) else ((rdAt text (nx l)).f0, (rdAt text (nx l)).f1, (rdAt text (nx l)).f2, true)) else ((rdAt text l).f0, (rdAt text l).f1, (rdAt text l).f2, true)) := by
    unfold B_notation_reader_rest_0
    rw [s_take ht' hs, kb_some]
    by_cases c : tok l = [111, 102]
    · rw [if_pos c, if_pos c]
      dsimp only
      rw [cnd_true, s_take ht' ((nx_suf l).trans hs), kb_some]
      by_cases c2 : tok (nx l) = [40]
      · rw [if_pos c2, if_pos c2]; rfl
      · rw [if_neg c2, if_neg c2]; rfl
    · rw [if_neg c, if_neg c]
      rfl
  rw [e0, kb_some]
  unfold pRest
  by_cases c : tok l = [111, 102]
  · rw [if_pos c, if_pos c]
    by_cases c2 : tok (nx l) = [40]
    · rw [if_pos c2, if_pos c2]
      dsimp only
      have hs2 : nx (nx l) <:+ text := (nx_suf _).trans ((nx_suf l).trans hs)
      have hl2 : (nx (nx l)).length ≤ l.length := ((nx_suf _).trans (nx_suf l)).length_le
      have := hs2.length_le
      rw [cnd_false, hL (nx (nx l)) n [] [] hs2 (by omega) (by simp; omega), kb_some, stpK_ret]
      dsimp only
      have e := thr_loop f (nx (nx l)) n [] []
      congr 2
      refine Tru.ext' ?_ rfl rfl
      rw [e]
      rfl
    · rw [if_neg c2, if_neg c2]
      rfl
  · rw [if_neg c, if_neg c]
    rfl
theorem tail_step {text : List UInt8} (ht : text.length < 1000000000) {f : Nat} (hL : LoopAt text f) {l : List UInt8} (hs : l <:+ text) {n : Int} {ns : List Int} {is : List Tru} (hf : tok l ≠ [] → (nx l).length ≤ f) (hb : ns.length + (is.length + l.length) ≤ 1000000)
    {s : List UInt8 × List UInt8 × Int × List Int × List Tru} (hB : B_notation_reader_rest_2 n s.1 s.2.1 s.2.2.1 s.2.2.2.1 s.2.2.2.2 = (kb (G_notation_reader_take (rdAt text l) ([41] : List UInt8)) fun y20 =>
      cnd y20.1 (
        some (.ret (y20.2.f0, y20.2.f1, y20.2.f2, ns, is, true))) (
        kb (G_notation_reader_take y20.2 ([44] : List UInt8)) fun y23 =>
        cnd y23.1 (
          some (.go (y23.2.f0, y23.2.f1, y23.2.f2, ns, is))) (
          some (.ret (y23.2.f0, y23.2.f1, y23.2.f2, ns, is, false)))))) :
    iterW (fun a : List UInt8 × List UInt8 × Int × List Int × List Tru => B_notation_reader_rest_2 n a.1 a.2.1 a.2.2.1 a.2.2.2.1 a.2.2.2.2) s =
      some (.ret ((rdAt text (pTail (pLoop f) l n ns is).2.2).f0, (rdAt text (pTail (pLoop f) l n ns is).2.2).f1, (rdAt text (pTail (pLoop f) l n ns is).2.2).f2, (pTail (pLoop f) l n ns is).1.nodes, (pTail (pLoop f) l n ns is).1.inner, (pTail (pLoop f) l n ns is).2.1)) := by
  rw [s_take ht hs, kb_some] at hB
  unfold pTail
  by_cases c1 : tok l = [41]
  · rw [if_pos c1] at hB
    dsimp only at hB
    rw [cnd_true] at hB
    rw [if_pos c1]
    exact iterW_ret hB
  · rw [if_neg c1] at hB
    dsimp only at hB
    rw [cnd_false, s_take ht hs, kb_some] at hB
    rw [if_neg c1]
    by_cases c2 : tok l = [44]
    · rw [if_pos c2] at hB
      dsimp only at hB
      rw [cnd_true] at hB
      rw [if_pos c2]
      have := (nx_suf l).length_le
      exact (iterW_go hB).trans (hL (nx l) n ns is ((nx_suf l).trans hs) (hf (by rw [c2]; simp)) (by omega))
    · rw [if_neg c2] at hB
      dsimp only at hB
      rw [cnd_false] at hB
      rw [if_neg c2]
      exact iterW_ret hB
theorem loop_at (text : List UInt8) (ht : text.length ≤ 100000) : ∀ f, LoopAt text f := by
  have ht' : text.length < 1000000000 := by omega
  intro f
  induction f with
  | zero =>
    intro l n ns is hs hf hb
    have : l = [] := List.eq_nil_of_length_eq_zero (by omega)
    subst this
    refine iterW_ret ?_
    unfold B_notation_reader_rest_2
    dsimp only
    rw [show (S_notation_reader.mk (rdAt text []).f0 (rdAt text []).f1 (rdAt text []).f2) = rdAt text [] from rfl, s_number ht' hs, kb_some]
    rfl
  | succ f ih =>
    intro l n ns is hs hf hb
    have hR := rest_of_loop ht ih
    have hnum : ∀ k, num l = some k → (nx l).length + 1 ≤ l.length := fun k hk => nx_lt (num_tok hk)
    unfold pLoop
    cases hk : num l with
    | none =>
      refine iterW_ret ?_
      unfold B_notation_reader_rest_2
      dsimp only
      rw [show (S_notation_reader.mk (rdAt text l).f0 (rdAt text l).f1 (rdAt text l).f2) = rdAt text l from rfl, s_number ht' hs, hk, kb_some]
      rfl
    | some k =>
      have h1 := hnum k hk
      have hs1 : nx l <:+ text := (nx_suf l).trans hs
      dsimp only
      by_cases hof : tok (nx l) = [111, 102]
      · rw [if_pos hof]
        have h2 : (nx (nx l)).length + 1 ≤ (nx l).length := nx_lt (by rw [hof]; simp)
        have hfit := fit_rest (fit_loop f) (nx l) (k : Int) (by have := num_lt hk; unfold in64; omega)
        have hB : B_notation_reader_rest_1 (rdAt text (nx l)).f0 (rdAt text (nx l)).f1 (rdAt text (nx l)).f2 n ns is true (k : Int) = some (if (pRest (pLoop f) (nx l) (k : Int)).2.1 = true then .go ((rdAt text (pRest (pLoop f) (nx l) (k : Int)).2.2).f0, (rdAt text (pRest (pLoop f) (nx l) (k : Int)).2.2).f1, (rdAt text (pRest (pLoop f) (nx l) (k : Int)).2.2).f2, ns, is ++ [(pRest (pLoop f) (nx l) (k : Int)).1]) else .ret ((rdAt text (pRest (pLoop f) (nx l) (k : Int)).2.2).f0, (rdAt text (pRest (pLoop f) (nx l) (k : Int)).2.2).f1, (rdAt text (pRest (pLoop f) (nx l) (k : Int)).2.2).f2)) := by
          unfold B_notation_reader_rest_1
          rw [cnd_true, show (S_notation_reader.mk (rdAt text (nx l)).f0 (rdAt text (nx l)).f1 (rdAt text (nx l)).f2) = rdAt text (nx l) from rfl, hR (nx l) (k : Int) hs1 (by omega), kb_some]
          dsimp only
          cases (pRest (pLoop f) (nx l) (k : Int)).2.1
          · rw [cnd_false]; rfl
          · rw [cnd_true, appK_some (by simp; omega), kb_some]; rfl
        obtain ⟨v, hv⟩ : ∃ v, B_notation_reader_rest_2 n (rdAt text l).f0 (rdAt text l).f1 (rdAt text l).f2 ns is = v := ⟨_, rfl⟩
        have hB2 := hv
        unfold B_notation_reader_rest_2 at hB2
        rw [show (S_notation_reader.mk (rdAt text l).f0 (rdAt text l).f1 (rdAt text l).f2) = rdAt text l from rfl, s_number ht' hs, hk, kb_some] at hB2
        dsimp only at hB2
        rw [cnd_true, show ((rdAt text (nx l)).f1 == [111, 102]) = true from beq_iff_eq.2 hof, hB, kb_some] at hB2
        generalize pRest (pLoop f) (nx l) (k : Int) = R at hfit hB2
        obtain ⟨x, o, r⟩ := R
        have hrl := hfit.suf.length_le
        have hrt : r <:+ text := hfit.suf.trans hs1
        dsimp only at hB2 hrl hrt ⊢
        cases o
        · rw [if_neg (by simp), stpK_ret] at hB2
          exact iterW_ret (hv.trans hB2.symm)
        · rw [if_pos rfl, stpK_go] at hB2
          exact tail_step ht' ih hrt (fun h => by have := nx_lt h; omega) (by simp; omega) (s := ((rdAt text l).f0, (rdAt text l).f1, (rdAt text l).f2, ns, is)) (hv.trans hB2.symm)
      · rw [if_neg hof]
        obtain ⟨v, hv⟩ : ∃ v, B_notation_reader_rest_2 n (rdAt text l).f0 (rdAt text l).f1 (rdAt text l).f2 ns is = v := ⟨_, rfl⟩
        have hB2 := hv
        unfold B_notation_reader_rest_2 at hB2
        rw [show (S_notation_reader.mk (rdAt text l).f0 (rdAt text l).f1 (rdAt text l).f2) = rdAt text l from rfl, s_number ht' hs, hk, kb_some] at hB2
        dsimp only at hB2
        have hB : B_notation_reader_rest_1 (rdAt text (nx l)).f0 (rdAt text (nx l)).f1 (rdAt text (nx l)).f2 n ns is false (k : Int) = some (.go ((rdAt text (nx l)).f0, (rdAt text (nx l)).f1, (rdAt text (nx l)).f2, ns ++ [(k : Int)], is)) := by
          unfold B_notation_reader_rest_1
          rw [cnd_false, appK_some (by simp; omega), kb_some]
        rw [cnd_true, show ((rdAt text (nx l)).f1 == [111, 102]) = false from beq_eq_false_iff_ne.2 hof, hB, kb_some, stpK_go] at hB2
        exact tail_step ht' ih hs1 (fun h => by have := nx_lt h; omega) (by simp; omega) (s := ((rdAt text l).f0, (rdAt text l).f1, (rdAt text l).f2, ns, is)) (hv.trans hB2.symm)
/-! ### a text -/
/-- what Parse answers -/
def parseV (text : List UInt8) : Tru × Int × Int :=
  if 6000 < text.length then (.mk 0 [] [], 0, 3) else
  if (pTop text.length (skipB text)).2.1 = true ∧ (pTop text.length (skipB text)).2.2 = [] then
    (if valE (pTop text.length (skipB text)).1 = 0 then ((pTop text.length (skipB text)).1, 0, 0) else (.mk 0 [] [], 0, valE (pTop text.length (skipB text)).1))
  else (.mk 0 [] [], ((text.length - (pTop text.length (skipB text)).2.2.length : Nat) : Int), 2)
theorem s_Parse (text : List UInt8) : G_notation_Parse text = some (parseV text) := by
  refine g_notation_Parse ?_
  unfold B_notation_Parse parseV
  by_cases hl : 6000 < text.length
  · have : (6000 : Int) < (text.length : Int) := by omega
    simp only [this, decide_true, cnd_true, hl, if_true]
  have hl' : ¬ (6000 : Int) < (text.length : Int) := by omega
  rw [if_neg hl]
  simp only [hl', decide_false, cnd_false]
  have e0 := s_next (text := text) (w := []) (a := 0) (by omega) (by simp)
  rw [show ((0 : Nat) : Int) = 0 from rfl, show text.drop (0 + ([] : List UInt8).length) = text from rfl] at e0
  have hs := skipB_suf text
  have hlen := hs.length_le
  rw [e0, kb_some, s_number (by omega) hs, kb_some]
  have hfit := fit_top text.length (skipB text)
  have hsz := hfit.size
  have hok := hfit.ok
  have hsuf := hfit.suf.trans hs
  have key : ∃ R : PR, R.2.2 <:+ text ∧ (pTop text.length (skipB text) = R ∧ B_notation_Parse_0 (match num (skipB text) with
      | none => (0, false, rdAt text (skipB text))
      | some k => ((k : Int), true, rdAt text (nx (skipB text)))) text = some ((rdAt text R.2.2).f0, (rdAt text R.2.2).f1, (rdAt text R.2.2).f2, R.1.thr, R.1.nodes, R.1.inner, R.2.1)) := by
    refine ⟨pTop text.length (skipB text), hsuf, rfl, ?_⟩
    unfold pTop
    cases hk : num (skipB text) with
    | none => rfl
    | some k =>
      have hs1 : nx (skipB text) <:+ text := (nx_suf _).trans hs
      unfold B_notation_Parse_0
      dsimp only
      rw [cnd_true, rest_of_loop (by omega) (loop_at text (by omega) text.length) _ _ hs1 hs1.length_le, kb_some]
  obtain ⟨R, h1, h2, h3⟩ := key
  rw [h3, kb_some, h2]
  rw [h2] at hsz hok
  obtain ⟨x, o, r⟩ := R
  have hrl := h1.length_le
  dsimp only at hsz hok hrl ⊢
  unfold B_notation_Parse_1
  dsimp only
  cases o
  · rw [cnd_false, kb_some, cnd_true, if_neg (by simp)]
    rfl
  · rw [cnd_true, kb_some]
    by_cases hr : r = []
    · subst hr
      have e : decide ((rdAt text []).f2 < (text.length : Int)) = false := by simp [rdAt]
      rw [e, cnd_false, if_pos ⟨rfl, rfl⟩, show (Tru.mk x.thr x.nodes x.inner) = x from x.eta]
      have hf : x.Fine := ⟨by simp at hsz; omega, hok⟩
      rw [s_threshold_Valid hf, kb_some]
      by_cases hv : valE x = 0
      · simp only [hv, decide_true, cnd_true, if_true]
      · simp only [hv, decide_false, cnd_false, if_false]
    · have hp := List.length_pos_iff.2 hr
      have e : decide ((rdAt text r).f2 < (text.length : Int)) = true := by
        show decide (((text.length - r.length : Nat) : Int) < (text.length : Int)) = true
        exact decide_eq_true (by omega)
      rw [e, cnd_true, if_neg (fun h => hr h.2)]
      rfl
end Go.Am
/-
Reading a trust: a proper beginning of a text.
-/
namespace Go.Am
open Go
/-- begins with no blank -/
def Sk (u : List UInt8) : Prop := skipB u = u
/-- what comes of the beginning, if the whole is read well -/
def Cut (s : List UInt8) (A B : PR) : Prop := B.2.1 = true →
  (A = (B.1, true, A.2.2) ∧ (A.2.2 ≠ [] ∧ (Sk A.2.2 ∧ B.2.2 = A.2.2 ++ s))) ∨ ((A = (B.1, true, []) ∧ B.2.2 = skipB s) ∨ (A.2.1 = false ∧ A.2.2.length ≤ 1))
def CutP (s : List UInt8) (P : PF) : Prop := ∀ u n ns is, u ≠ [] → Sk u → Cut s (P u n ns is) (P (u ++ s) n ns is)
def NilP (P : PF) : Prop := ∀ n ns is, (P [] n ns is).2.1 = false ∧ (P [] n ns is).2.2 = []
/-! ### fuel -/
end Go.Am
/-
Reading and writing trusts: what Text and Parse answer.
-/
namespace Go.Am
open Go
theorem val_good {x : Tru} (h : valB x = true) : good x = true ∧ x.size ≤ 200 := by
  unfold valB at h
  rw [Bool.and_eq_true, Bool.and_eq_true, decide_eq_true_eq] at h
  exact ⟨h.2.2, by simpa using h.2.1⟩
theorem val_dec3 {x : Tru} (h : valB x = true) : dec3 x := good_dec3 x (val_good h).1 (by have := (val_good h).2; omega)
theorem val_full {x : Tru} (h : valB x = true) : full x := good_full x (val_good h).1
theorem val_len {x : Tru} (h : valB x = true) : (txtT x).length ≤ 2300 := by
  have := txt_len x
  have := (val_good h).2
  omega
/-- the text of a trust, a question mark for what is no trust -/
def textV (x : Tru) : List UInt8 := if valE x = 0 then txtT x else [63]
theorem parse_of_top {text : List UInt8} {x : Tru} (hl : text.length ≤ 6000) (hv : valB x = true) (hf : x.Fine) (h : pTop text.length (skipB text) = (x, true, [])) : parseV text = (x, 0, 0) := by
  unfold parseV
  rw [if_neg (by omega), h, if_pos ⟨rfl, rfl⟩]
  dsimp only
  rw [if_pos ((valE_ok hf).2 hv)]
theorem top_text {x : Tru} (hv : valB x = true) {f : Nat} (hf : (txtT x).length ≤ f) : pTop f (skipB (txtT x)) = (x, true, []) := by
  have h := skip_txt (val_dec3 hv) ([] : List UInt8)
  rw [List.append_nil] at h
  rw [h]
  have := rt_top (val_dec3 hv) (val_full hv) (f := f) [] (by simpa using hf)
  rwa [List.append_nil] at this
theorem parse_text {x : Tru} (hv : valB x = true) (hf : x.Fine) : parseV (txtT x) = (x, 0, 0) :=
  parse_of_top (by have := val_len hv; omega) hv hf (top_text hv (Nat.le_refl _))
end Go.Am
namespace Go.Am
open Go Go.Proofs
set_option maxRecDepth 4000
set_option maxHeartbeats 4000000
open Int renaming ofNat_lt → Iqa, ofNat_le → Iqb, natCast_eq_zero → Iqc, natCast_pos → Iqd, cast_ofNat_Int → Iqe, natCast_zero → Iqf
open List renaming length_eq_zero_iff → Lqa, getElem?_cons_zero → Lqb, getElem?_cons_succ → Lqc, getElem?_nil → Lqd, length_cons → Lqe, length_nil → Lqf, nil_append → Lqg, cons_append → Lqh
open Nat renaming zero_add → Nqa
open Tru renaming thr_mk → Tqa, nodes_mk → Tqb, inner_mk → Tqc
open Go.Am renaming es_api_Declaration_cons → Eqa, es_api_Declaration_nil → Eqb, es_api_Evidence_cons → Eqc, es_api_Evidence_nil → Eqd, ints_cons → Eqe, ints_nil → Eqf, encTs_cons → Eqg, encTs_nil → Eqh, es_str_cons → Eqi, es_str_nil → Eqj, es_u64_cons → Eqk, es_u64_nil → Eql, es_u8_cons → Eqm, es_u8_nil → Eqn
noncomputable def B_declaration_Plain_0 (p0 : S_api_Declaration) : Option Bool :=
  cnd (decide (p0.f0 < 0)) (
    some true) (
    some (decide (10 ≤ p0.f0)))
def J_declaration_Plain_0 (p0 : S_api_Declaration) (q : St) : Prop := (∃ (g : Nat), q (.t 1) = .ptr (.site 0 0 0) g 0 ∧ q (.i (.site 0 0 0)) = .box g [(i64 p0.f0), (i64 p0.f1), (i64 p0.f2.thr), (.pv (.sl p0.f2.nodes.length (ints p0.f2.nodes))), (.pv (.sl p0.f2.inner.length (encTs p0.f2.inner))), (.pv (.int .u64 p0.f3))])
def Q_declaration_Plain_0 (p0 : S_api_Declaration) (o11_0 : Bool) (q : St) : Prop := q (.t 11) = (bl o11_0) ∧ (∃ (g : Nat), q (.t 1) = .ptr (.site 0 0 0) g 0 ∧ q (.i (.site 0 0 0)) = .box g [(i64 p0.f0), (i64 p0.f1), (i64 p0.f2.thr), (.pv (.sl p0.f2.nodes.length (ints p0.f2.nodes))), (.pv (.sl p0.f2.inner.length (encTs p0.f2.inner))), (.pv (.int .u64 p0.f3))])
theorem P_declaration_Plain_0 {p0 : S_api_Declaration} {cc : Code} (hcc : cc = (Code.fst (Code.fst (Code.snd ((Tryz.f21.body).getD .skip))))) {s : St} {z : Option (Ex × St)} (hz : C Tryz.prog cf cc s = z) {r : Bool} (hI : J_declaration_Plain_0 p0 s) (hB : B_declaration_Plain_0 p0 = some r) : Res z (postG (fun a q => Q_declaration_Plain_0 p0 a q) r) := by
  subst hcc
  subst hz
  simp only [J_declaration_Plain_0] at hI
  obtain ⟨g2, q1, q2⟩ := hI
  simp only [Code.fst, Code.snd, Tryz.f21, Option.getD_some]
  unfold B_declaration_Plain_0 at hB
  rcases cnd_inv hB with ⟨c1, hB⟩ | ⟨c1, hB⟩
  · have pc1 := eq_true (of_decide_eq_true c1)
    obtain rfl := Option.some.inj hB
    try simp -implicitDefEqProofs [-getElem?_pos, -Iqa, -Iqb, -Iqc, -Iqd, -Lqa, Lqb, Lqc, Lqd, q1, q2, c1, pc1]
    refine Res.g ?_
    simp -implicitDefEqProofs [-getElem?_pos, -Iqa, -Iqb, -Iqc, -Iqd, -Lqa, Lqb, Lqc, Lqd, and_assoc, Q_declaration_Plain_0, ownAt, q1, q2, c1, pc1]
  · have pc1 := eq_false (of_decide_eq_false c1)
    obtain rfl := Option.some.inj hB
    try simp -implicitDefEqProofs [-getElem?_pos, -Iqa, -Iqb, -Iqc, -Iqd, -Lqa, Lqb, Lqc, Lqd, q1, q2, c1, pc1]
    refine Res.g ?_
    simp -implicitDefEqProofs [-getElem?_pos, -Iqa, -Iqb, -Iqc, -Iqd, -Lqa, Lqb, Lqc, Lqd, and_assoc, Q_declaration_Plain_0, ownAt, q1, q2, c1, pc1]
noncomputable def B_declaration_Plain_1 (p0 : S_api_Declaration) : Option Bool :=
  cnd (decide (p0.f1 < 1)) (
    some true) (
    some (decide (30 < p0.f1)))
def J_declaration_Plain_1 (p0 : S_api_Declaration) (q : St) : Prop := (∃ (g : Nat), q (.t 1) = .ptr (.site 0 0 0) g 0 ∧ q (.i (.site 0 0 0)) = .box g [(i64 p0.f0), (i64 p0.f1), (i64 p0.f2.thr), (.pv (.sl p0.f2.nodes.length (ints p0.f2.nodes))), (.pv (.sl p0.f2.inner.length (encTs p0.f2.inner))), (.pv (.int .u64 p0.f3))])
def Q_declaration_Plain_1 (p0 : S_api_Declaration) (o19_1 : Bool) (q : St) : Prop := q (.t 19) = (bl o19_1) ∧ (∃ (g : Nat), q (.t 1) = .ptr (.site 0 0 0) g 0 ∧ q (.i (.site 0 0 0)) = .box g [(i64 p0.f0), (i64 p0.f1), (i64 p0.f2.thr), (.pv (.sl p0.f2.nodes.length (ints p0.f2.nodes))), (.pv (.sl p0.f2.inner.length (encTs p0.f2.inner))), (.pv (.int .u64 p0.f3))])
theorem P_declaration_Plain_1 {p0 : S_api_Declaration} {cc : Code} (hcc : cc = (Code.fst (Code.fst (Code.snd (Code.snd ((Tryz.f21.body).getD .skip)))))) {s : St} {z : Option (Ex × St)} (hz : C Tryz.prog cf cc s = z) {r : Bool} (hI : J_declaration_Plain_1 p0 s) (hB : B_declaration_Plain_1 p0 = some r) : Res z (postG (fun a q => Q_declaration_Plain_1 p0 a q) r) := by
  subst hcc
  subst hz
  simp only [J_declaration_Plain_1] at hI
  obtain ⟨g2, q1, q2⟩ := hI
  simp only [Code.fst, Code.snd, Tryz.f21, Option.getD_some]
  unfold B_declaration_Plain_1 at hB
  rcases cnd_inv hB with ⟨c4, hB⟩ | ⟨c4, hB⟩
  · have pc4 := eq_true (of_decide_eq_true c4)
    obtain rfl := Option.some.inj hB
    try simp -implicitDefEqProofs [-getElem?_pos, -Iqa, -Iqb, -Iqc, -Iqd, -Lqa, Lqb, Lqc, Lqd, q1, q2, c4, pc4]
    refine Res.g ?_
    simp -implicitDefEqProofs [-getElem?_pos, -Iqa, -Iqb, -Iqc, -Iqd, -Lqa, Lqb, Lqc, Lqd, and_assoc, Q_declaration_Plain_1, ownAt, q1, q2, c4, pc4]
  · have pc4 := eq_false (of_decide_eq_false c4)
    obtain rfl := Option.some.inj hB
    try simp -implicitDefEqProofs [-getElem?_pos, -Iqa, -Iqb, -Iqc, -Iqd, -Lqa, Lqb, Lqc, Lqd, q1, q2, c4, pc4]
    refine Res.g ?_
    simp -implicitDefEqProofs [-getElem?_pos, -Iqa, -Iqb, -Iqc, -Iqd, -Lqa, Lqb, Lqc, Lqd, and_assoc, Q_declaration_Plain_1, ownAt, q1, q2, c4, pc4]
noncomputable def B_declaration_Plain_2 (p0 : S_api_Declaration) : Option Bool :=
  kb (G_threshold_Depth p0.f2) fun y10 =>
  cnd (decide (3 < y10)) (
    some true) (
    kb (G_threshold_Size p0.f2) fun y13 =>
    some (decide (40 < y13)))
def J_declaration_Plain_2 (p0 : S_api_Declaration) (q : St) : Prop := (∃ (g : Nat), q (.t 1) = .ptr (.site 0 0 0) g 0 ∧ q (.i (.site 0 0 0)) = .box g [(i64 p0.f0), (i64 p0.f1), (i64 p0.f2.thr), (.pv (.sl p0.f2.nodes.length (ints p0.f2.nodes))), (.pv (.sl p0.f2.inner.length (encTs p0.f2.inner))), (.pv (.int .u64 p0.f3))])
def Q_declaration_Plain_2 (p0 : S_api_Declaration) (o35_2 : Bool) (q : St) : Prop := q (.t 35) = (bl o35_2)
theorem P_declaration_Plain_2 {p0 : S_api_Declaration} {cc : Code} (hcc : cc = (Code.fst (Code.fst (Code.snd (Code.snd (Code.snd (Code.snd ((Tryz.f21.body).getD .skip)))))))) {s : St} {z : Option (Ex × St)} (hz : C Tryz.prog cf cc s = z) {r : Bool} (hI : J_declaration_Plain_2 p0 s) (hB : B_declaration_Plain_2 p0 = some r) : Res z (postG (fun a q => Q_declaration_Plain_2 p0 a q) r) := by
  subst hcc
  subst hz
  simp only [J_declaration_Plain_2] at hI
  obtain ⟨g2, q1, q2⟩ := hI
  simp only [Code.fst, Code.snd, Tryz.f21, Option.getD_some]
  unfold B_declaration_Plain_2 at hB
  obtain ⟨y10, k11, hB⟩ := kb_inv hB
  replace k11 := run_threshold_Depth k11
  try simp only [Iqe, Iqf, Lqe, Lqf, Lqg, Lqh, Nqa, Nat.reduceAdd, Tqa, Tqb, Tqc, Eqe, Eqf, Eqg, Eqh, Eqa, Eqb, Eqc, Eqd, Eqi, Eqj, Eqk, Eql, Eqm, Eqn] at k11
  try dsimp only at hB
  rcases cnd_inv hB with ⟨c12, hB⟩ | ⟨c12, hB⟩
  · have pc12 := eq_true (of_decide_eq_true c12)
    obtain rfl := Option.some.inj hB
    try simp -implicitDefEqProofs [-getElem?_pos, -Iqa, -Iqb, -Iqc, -Iqd, -Lqa, Lqb, Lqc, Lqd, q1, q2, k11, c12, pc12]
    refine Res.g ?_
    simp -implicitDefEqProofs [-getElem?_pos, -Iqa, -Iqb, -Iqc, -Iqd, -Lqa, Lqb, Lqc, Lqd, and_assoc, Q_declaration_Plain_2, ownAt, q1, q2, k11, c12, pc12]
  · have pc12 := eq_false (of_decide_eq_false c12)
    obtain ⟨y13, k14, hB⟩ := kb_inv hB
    replace k14 := run_threshold_Size k14
    try simp only [Iqe, Iqf, Lqe, Lqf, Lqg, Lqh, Nqa, Nat.reduceAdd, Tqa, Tqb, Tqc, Eqe, Eqf, Eqg, Eqh, Eqa, Eqb, Eqc, Eqd, Eqi, Eqj, Eqk, Eql, Eqm, Eqn] at k14
    try dsimp only at hB
    obtain rfl := Option.some.inj hB
    try simp -implicitDefEqProofs [-getElem?_pos, -Iqa, -Iqb, -Iqc, -Iqd, -Lqa, Lqb, Lqc, Lqd, q1, q2, k11, c12, pc12, k14]
    refine Res.g ?_
    simp -implicitDefEqProofs [-getElem?_pos, -Iqa, -Iqb, -Iqc, -Iqd, -Lqa, Lqb, Lqc, Lqd, and_assoc, Q_declaration_Plain_2, ownAt, q1, q2, k11, c12, pc12, k14]
noncomputable def B_declaration_Plain (p0 : S_api_Declaration) : Option Int :=
  kb (B_declaration_Plain_0 p0) fun z2 =>
  cnd z2 (
    some 5) (
    kb (B_declaration_Plain_1 p0) fun z5 =>
    cnd z5 (
      some 1) (
      kb (G_threshold_Valid p0.f2) fun y7 =>
      cnd (decide (y7 = 0)) (
        kb (B_declaration_Plain_2 p0) fun z15 =>
        cnd z15 (
          some 3) (
          some 0)) (
        some y7)))
theorem sim_declaration_Plain {p0 : S_api_Declaration} {r : Int} (hB : B_declaration_Plain p0 = some r) : R 21 [(.agg [(i64 p0.f0), (i64 p0.f1), (i64 p0.f2.thr), (.pv (.sl p0.f2.nodes.length (ints p0.f2.nodes))), (.pv (.sl p0.f2.inner.length (encTs p0.f2.inner))), (.pv (.int .u64 p0.f3))])] [] = some ((i64 r), [], []) := by
  rw [R_eq _ _ _ fn_declaration_Plain]
  simp only [Code.fst, Code.snd, Tryz.f21, Option.getD_some]
  generalize hc0 : Code.region 1 _ _ = cc0
  generalize hc1 : Code.region 3 _ _ = cc1
  generalize hc2 : Code.region 8 _ _ = cc2
  generalize hr5 : Code.region 5 _ _ = rr5
  unfold B_declaration_Plain at hB
  try simp -implicitDefEqProofs [-getElem?_pos, -Iqa, -Iqb, -Iqc, -Iqd, -Lqa, Lqb, Lqc, Lqd]
  generalize hz0 : C Tryz.prog cf cc0 _ = z0
  obtain ⟨z2, hB1, hB⟩ := kb_inv hB
  have hJ := P_declaration_Plain_0 (hc0.symm.trans (by kernel_rfl)) hz0 (by simp -implicitDefEqProofs [-getElem?_pos, -Iqa, -Iqb, -Iqc, -Iqd, -Lqa, Lqb, Lqc, Lqd, and_assoc, J_declaration_Plain_0, ownAt]) hB1
  obtain ⟨e0, s0, rfl, hq⟩ := hJ.open
  clear hB1
  obtain ⟨rfl, hq⟩ := hq
  simp only [Q_declaration_Plain_0] at hq
  obtain ⟨q2_1, ⟨g2_3, q2_2, q2_3⟩⟩ := hq
  rcases cnd_inv hB with ⟨c3, hB⟩ | ⟨c3, hB⟩
  · obtain rfl := Option.some.inj hB
    simp -implicitDefEqProofs [-getElem?_pos, -Iqa, -Iqb, -Iqc, -Iqd, -Lqa, Lqb, Lqc, Lqd, q2_1, q2_2, q2_3, c3]
  · try simp -implicitDefEqProofs [-getElem?_pos, -Iqa, -Iqb, -Iqc, -Iqd, -Lqa, Lqb, Lqc, Lqd, q2_1, q2_2, q2_3, c3]
    generalize hz1 : C Tryz.prog cf cc1 _ = z1
    obtain ⟨z5, hB1, hB⟩ := kb_inv hB
    have hJ := P_declaration_Plain_1 (hc1.symm.trans (by kernel_rfl)) hz1 (by simp -implicitDefEqProofs [-getElem?_pos, -Iqa, -Iqb, -Iqc, -Iqd, -Lqa, Lqb, Lqc, Lqd, and_assoc, J_declaration_Plain_1, ownAt, q2_1, q2_2, q2_3, c3]) hB1
    obtain ⟨e1, s1, rfl, hq⟩ := hJ.open
    clear hB1
    obtain ⟨rfl, hq⟩ := hq
    simp only [Q_declaration_Plain_1] at hq
    obtain ⟨q5_1, ⟨g5_3, q5_2, q5_3⟩⟩ := hq
    rcases cnd_inv hB with ⟨c6, hB⟩ | ⟨c6, hB⟩
    · obtain rfl := Option.some.inj hB
      simp -implicitDefEqProofs [-getElem?_pos, -Iqa, -Iqb, -Iqc, -Iqd, -Lqa, Lqb, Lqc, Lqd, q5_1, q5_2, q5_3, c3, c6]
    · obtain ⟨y7, k8, hB⟩ := kb_inv hB
      replace k8 := run_threshold_Valid k8
      try simp only [Iqe, Iqf, Lqe, Lqf, Lqg, Lqh, Nqa, Nat.reduceAdd, Tqa, Tqb, Tqc, Eqe, Eqf, Eqg, Eqh, Eqa, Eqb, Eqc, Eqd, Eqi, Eqj, Eqk, Eql, Eqm, Eqn, c3, c6] at k8
      try dsimp only at hB
      rcases cnd_inv hB with ⟨c9, hB⟩ | ⟨c9, hB⟩
      · have pc9 := eq_true (of_decide_eq_true c9)
        subst hr5
        try simp -implicitDefEqProofs [-getElem?_pos, -Iqa, -Iqb, -Iqc, -Iqd, -Lqa, Lqb, Lqc, Lqd, q5_1, q5_2, q5_3, c3, c6, k8, c9, pc9]
        generalize hz2 : C Tryz.prog cf cc2 _ = z2
        obtain ⟨z15, hB1, hB⟩ := kb_inv hB
        have hJ := P_declaration_Plain_2 (hc2.symm.trans (by kernel_rfl)) hz2 (by simp -implicitDefEqProofs [-getElem?_pos, -Iqa, -Iqb, -Iqc, -Iqd, -Lqa, Lqb, Lqc, Lqd, and_assoc, J_declaration_Plain_2, ownAt, q5_1, q5_2, q5_3, c3, c6, k8, c9, pc9]) hB1
        obtain ⟨e2, s2, rfl, hq⟩ := hJ.open
        clear hB1
        obtain ⟨rfl, hq⟩ := hq
        simp only [Q_declaration_Plain_2] at hq
        have q15_1 := hq
        rcases cnd_inv hB with ⟨c16, hB⟩ | ⟨c16, hB⟩
        · obtain rfl := Option.some.inj hB
          simp -implicitDefEqProofs [-getElem?_pos, -Iqa, -Iqb, -Iqc, -Iqd, -Lqa, Lqb, Lqc, Lqd, q15_1, c3, c6, k8, c9, pc9, c16]
        · obtain rfl := Option.some.inj hB
          simp -implicitDefEqProofs [-getElem?_pos, -Iqa, -Iqb, -Iqc, -Iqd, -Lqa, Lqb, Lqc, Lqd, q15_1, c3, c6, k8, c9, pc9, c16]
      · have pc9 := eq_false (of_decide_eq_false c9)
        obtain rfl := Option.some.inj hB
        subst hr5
        simp -implicitDefEqProofs [-getElem?_pos, -Iqa, -Iqb, -Iqc, -Iqd, -Lqa, Lqb, Lqc, Lqd, q5_1, q5_2, q5_3, c3, c6, k8, c9, pc9]
theorem g_declaration_Plain {p0 : S_api_Declaration} {r : Int} (hB : B_declaration_Plain p0 = some r) : G_declaration_Plain p0 = some r := dec_of (fun a b h => by rcases a with a0_; rcases b with b0_; simp at h; simp [*]) (sim_declaration_Plain hB)
end Go.Am
namespace Go.Am
open Go Go.Proofs
set_option maxRecDepth 4000
set_option maxHeartbeats 4000000
open Int renaming ofNat_lt → Iqa, ofNat_le → Iqb, natCast_eq_zero → Iqc, natCast_pos → Iqd, cast_ofNat_Int → Iqe, natCast_zero → Iqf
open List renaming length_eq_zero_iff → Lqa, getElem?_cons_zero → Lqb, getElem?_cons_succ → Lqc, getElem?_nil → Lqd, length_cons → Lqe, length_nil → Lqf, nil_append → Lqg, cons_append → Lqh
open Nat renaming zero_add → Nqa
open Tru renaming thr_mk → Tqa, nodes_mk → Tqb, inner_mk → Tqc
open Go.Am renaming es_api_Declaration_cons → Eqa, es_api_Declaration_nil → Eqb, es_api_Evidence_cons → Eqc, es_api_Evidence_nil → Eqd, ints_cons → Eqe, ints_nil → Eqf, encTs_cons → Eqg, encTs_nil → Eqh, es_str_cons → Eqi, es_str_nil → Eqj, es_u64_cons → Eqk, es_u64_nil → Eql, es_u8_cons → Eqm, es_u8_nil → Eqn
noncomputable def B_declaration_Bytes (p0 : S_api_Declaration) : Option (List UInt8) :=
  kb (G_declaration_Plain p0) fun y1 =>
  cnd (decide (y1 = 0)) (
    kb (G_strconv_Itoa p0.f0) fun y4 =>
    kb (catK ([100, 32] : List UInt8) y4) fun S7 =>
    kb (catK S7 ([32] : List UInt8)) fun S9 =>
    kb (G_strconv_Itoa p0.f1) fun y10 =>
    kb (catK S9 y10) fun S13 =>
    kb (catK S13 ([32] : List UInt8)) fun S15 =>
    kb (G_notation_Text p0.f2) fun y16 =>
    kb (catK S15 y16) fun S19 =>
    some S19) (
    some ([] : List UInt8))
theorem sim_declaration_Bytes {p0 : S_api_Declaration} {r : (List UInt8)} (hB : B_declaration_Bytes p0 = some r) : R 23 [(.agg [(i64 p0.f0), (i64 p0.f1), (i64 p0.f2.thr), (.pv (.sl p0.f2.nodes.length (ints p0.f2.nodes))), (.pv (.sl p0.f2.inner.length (encTs p0.f2.inner))), (.pv (.int .u64 p0.f3))])] [] = some ((.pv (.str r)), [], []) := by
  rw [R_eq _ _ _ fn_declaration_Bytes]
  simp only [Code.fst, Code.snd, Tryz.f23, Option.getD_some]
  generalize hr3 : Code.region 3 _ _ = rr3
  unfold B_declaration_Bytes at hB
  obtain ⟨y1, k2, hB⟩ := kb_inv hB
  replace k2 := run_declaration_Plain k2
  try simp only [Iqe, Iqf, Lqe, Lqf, Lqg, Lqh, Nqa, Nat.reduceAdd, Tqa, Tqb, Tqc, Eqe, Eqf, Eqg, Eqh, Eqa, Eqb, Eqc, Eqd, Eqi, Eqj, Eqk, Eql, Eqm, Eqn] at k2
  try dsimp only at hB
  rcases cnd_inv hB with ⟨c3, hB⟩ | ⟨c3, hB⟩
  · have pc3 := eq_true (of_decide_eq_true c3)
    obtain ⟨y4, k5, hB⟩ := kb_inv hB
    replace k5 := run_strconv_Itoa k5
    try simp only [Iqe, Iqf, Lqe, Lqf, Lqg, Lqh, Nqa, Nat.reduceAdd, Tqa, Tqb, Tqc, Eqe, Eqf, Eqg, Eqh, Eqa, Eqb, Eqc, Eqd, Eqi, Eqj, Eqk, Eql, Eqm, Eqn] at k5
    try dsimp only at hB
    obtain ⟨S7, n6, hB⟩ := kb_inv hB
    obtain ⟨n6a, n6b⟩ := catK_inv n6
    try simp only [Lqe, Lqf, Nqa, Nat.reduceAdd] at n6a
    try simp only [Lqh, Lqg] at n6b
    try dsimp only at hB
    obtain ⟨S9, n8, hB⟩ := kb_inv hB
    obtain ⟨n8a, n8b⟩ := catK_inv n8
    try simp only [Lqe, Lqf, Nqa, Nat.reduceAdd] at n8a
    try simp only [Lqh, Lqg] at n8b
    try dsimp only at hB
    obtain ⟨y10, k11, hB⟩ := kb_inv hB
    replace k11 := run_strconv_Itoa k11
    try simp only [Iqe, Iqf, Lqe, Lqf, Lqg, Lqh, Nqa, Nat.reduceAdd, Tqa, Tqb, Tqc, Eqe, Eqf, Eqg, Eqh, Eqa, Eqb, Eqc, Eqd, Eqi, Eqj, Eqk, Eql, Eqm, Eqn] at k11
    try dsimp only at hB
    obtain ⟨S13, n12, hB⟩ := kb_inv hB
    obtain ⟨n12a, n12b⟩ := catK_inv n12
    try dsimp only at hB
    obtain ⟨S15, n14, hB⟩ := kb_inv hB
    obtain ⟨n14a, n14b⟩ := catK_inv n14
    try simp only [Lqe, Lqf, Nqa, Nat.reduceAdd] at n14a
    try simp only [Lqh, Lqg] at n14b
    try dsimp only at hB
    obtain ⟨y16, k17, hB⟩ := kb_inv hB
    replace k17 := run_notation_Text k17
    try simp only [Iqe, Iqf, Lqe, Lqf, Lqg, Lqh, Nqa, Nat.reduceAdd, Tqa, Tqb, Tqc, Eqe, Eqf, Eqg, Eqh, Eqa, Eqb, Eqc, Eqd, Eqi, Eqj, Eqk, Eql, Eqm, Eqn] at k17
    try dsimp only at hB
    obtain ⟨S19, n18, hB⟩ := kb_inv hB
    obtain ⟨n18a, n18b⟩ := catK_inv n18
    try dsimp only at hB
    obtain rfl := Option.some.inj hB
    subst hr3
    simp -implicitDefEqProofs [-getElem?_pos, -Iqa, -Iqb, -Iqc, -Iqd, -Lqa, Lqb, Lqc, Lqd, k2, c3, pc3, k5, n6a, n6b, n8a, n8b, k11, n12a, n12b, n14a, n14b, k17, n18a, n18b]
    rw [drawK_ok _ _ _ (by kernel_rfl)]
    simp -implicitDefEqProofs [-getElem?_pos, -Iqa, -Iqb, -Iqc, -Iqd, -Lqa, Lqb, Lqc, Lqd, k2, c3, pc3, k5, n6a, n6b, n8a, n8b, k11, n12a, n12b, n14a, n14b, k17, n18a, n18b]
  · have pc3 := eq_false (of_decide_eq_false c3)
    obtain rfl := Option.some.inj hB
    simp -implicitDefEqProofs [-getElem?_pos, -Iqa, -Iqb, -Iqc, -Iqd, -Lqa, Lqb, Lqc, Lqd, k2, c3, pc3]
theorem g_declaration_Bytes {p0 : S_api_Declaration} {r : (List UInt8)} (hB : B_declaration_Bytes p0 = some r) : G_declaration_Bytes p0 = some r := dec_of (fun a b h => by rcases a with a0_; rcases b with b0_; simp at h; simp [*]) (sim_declaration_Bytes hB)
end Go.Am
namespace Go.Am
open Go Go.Proofs
set_option maxRecDepth 4000
set_option maxHeartbeats 4000000
open Int renaming ofNat_lt → Iqa, ofNat_le → Iqb, natCast_eq_zero → Iqc, natCast_pos → Iqd, cast_ofNat_Int → Iqe, natCast_zero → Iqf
open List renaming length_eq_zero_iff → Lqa, getElem?_cons_zero → Lqb, getElem?_cons_succ → Lqc, getElem?_nil → Lqd, length_cons → Lqe, length_nil → Lqf, nil_append → Lqg, cons_append → Lqh
open Nat renaming zero_add → Nqa
open Tru renaming thr_mk → Tqa, nodes_mk → Tqb, inner_mk → Tqc
open Go.Am renaming es_api_Declaration_cons → Eqa, es_api_Declaration_nil → Eqb, es_api_Evidence_cons → Eqc, es_api_Evidence_nil → Eqd, ints_cons → Eqe, ints_nil → Eqf, encTs_cons → Eqg, encTs_nil → Eqh, es_str_cons → Eqi, es_str_nil → Eqj, es_u64_cons → Eqk, es_u64_nil → Eql, es_u8_cons → Eqm, es_u8_nil → Eqn
noncomputable def B_declaration_Check (p0 : (List Int)) (p1 : S_api_Declaration) : Option Int :=
  kb (G_declaration_Plain p1) fun y1 =>
  cnd (decide (y1 = 0)) (
    cnd (decide ((p0.length : Int) ≤ p1.f0)) (
      some 10) (
      kb (getI p0 p1.f0) fun x5 =>
      kb (G_declaration_Bytes p1) fun y8 =>
      kb (G_declaration_Tag x5 y8) fun y10 =>
      cnd (decide (p1.f3 = y10)) (
        some 0) (
        some 8))) (
    some y1)
theorem sim_declaration_Check {p0 : (List Int)} {p1 : S_api_Declaration} {r : Int} (hB : B_declaration_Check p0 p1 = some r) : R 14 [(.pv (.sl p0.length (es_u64 p0))), (.agg [(i64 p1.f0), (i64 p1.f1), (i64 p1.f2.thr), (.pv (.sl p1.f2.nodes.length (ints p1.f2.nodes))), (.pv (.sl p1.f2.inner.length (encTs p1.f2.inner))), (.pv (.int .u64 p1.f3))])] [] = some ((i64 r), [], []) := by
  rw [R_eq _ _ _ fn_declaration_Check]
  simp only [Code.fst, Code.snd, Tryz.f14, Option.getD_some]
  generalize hr4 : Code.region 4 _ _ = rr4
  generalize hr6 : Code.region 6 _ _ = rr6
  unfold B_declaration_Check at hB
  obtain ⟨y1, k2, hB⟩ := kb_inv hB
  replace k2 := run_declaration_Plain k2
  try simp only [Iqe, Iqf, Lqe, Lqf, Lqg, Lqh, Nqa, Nat.reduceAdd, Tqa, Tqb, Tqc, Eqe, Eqf, Eqg, Eqh, Eqa, Eqb, Eqc, Eqd, Eqi, Eqj, Eqk, Eql, Eqm, Eqn] at k2
  try dsimp only at hB
  rcases cnd_inv hB with ⟨c3, hB⟩ | ⟨c3, hB⟩
  · have pc3 := eq_true (of_decide_eq_true c3)
    rcases cnd_inv hB with ⟨c4, hB⟩ | ⟨c4, hB⟩
    · have pc4 := eq_true (of_decide_eq_true c4)
      have nc4 := c4
      try simp only [Lqf, Lqe, Iqe, Iqf, Nqa, Nat.reduceAdd, Int.reduceLT, Int.reduceLE, Int.reduceEq, eq_self, decide_true, decide_false, Bool.true_eq_false, Bool.false_eq_true] at nc4
      all_goals
        obtain rfl := Option.some.inj hB
        subst hr4
        simp -implicitDefEqProofs [-getElem?_pos, -Iqa, -Iqb, -Iqc, -Iqd, -Lqa, Lqb, Lqc, Lqd, k2, c3, pc3, c4, pc4, nc4]
    · have pc4 := eq_false (of_decide_eq_false c4)
      have nc4 := c4
      try simp only [Lqf, Lqe, Iqe, Iqf, Nqa, Nat.reduceAdd, Int.reduceLT, Int.reduceLE, Int.reduceEq, eq_self, decide_true, decide_false, Bool.true_eq_false, Bool.false_eq_true] at nc4
      all_goals
        obtain ⟨x5, h6, hB⟩ := kb_inv hB
        obtain ⟨h6a, h6b, h6c, h6d⟩ := getI_inv h6
        try simp only [Int.toNat_natCast, Int.reduceToNat] at h6c
        try dsimp only at hB
        obtain ⟨y8, k9, hB⟩ := kb_inv hB
        replace k9 := run_declaration_Bytes k9
        try simp only [Iqe, Iqf, Lqe, Lqf, Lqg, Lqh, Nqa, Nat.reduceAdd, Tqa, Tqb, Tqc, Eqe, Eqf, Eqg, Eqh, Eqa, Eqb, Eqc, Eqd, Eqi, Eqj, Eqk, Eql, Eqm, Eqn] at k9
        try dsimp only at hB
        obtain ⟨y10, k11, hB⟩ := kb_inv hB
        replace k11 := run_declaration_Tag k11
        try simp only [Iqe, Iqf, Lqe, Lqf, Lqg, Lqh, Nqa, Nat.reduceAdd, Tqa, Tqb, Tqc, Eqe, Eqf, Eqg, Eqh, Eqa, Eqb, Eqc, Eqd, Eqi, Eqj, Eqk, Eql, Eqm, Eqn] at k11
        try dsimp only at hB
        rcases cnd_inv hB with ⟨c12, hB⟩ | ⟨c12, hB⟩
        · have pc12 := eq_true (of_decide_eq_true c12)
          obtain rfl := Option.some.inj hB
          subst hr4
          subst hr6
          simp -implicitDefEqProofs [-getElem?_pos, -Iqa, -Iqb, -Iqc, -Iqd, -Lqa, Lqb, Lqc, Lqd, k2, c3, pc3, c4, pc4, nc4, h6a, h6b, h6c, h6d, k9, k11, c12, pc12]
          rw [drawK_ok _ _ _ (by kernel_rfl)]
          simp -implicitDefEqProofs [-getElem?_pos, -Iqa, -Iqb, -Iqc, -Iqd, -Lqa, Lqb, Lqc, Lqd, k2, c3, pc3, c4, pc4, nc4, h6a, h6b, h6c, h6d, k9, k11, c12, pc12]
        · have pc12 := eq_false (of_decide_eq_false c12)
          obtain rfl := Option.some.inj hB
          subst hr4
          subst hr6
          simp -implicitDefEqProofs [-getElem?_pos, -Iqa, -Iqb, -Iqc, -Iqd, -Lqa, Lqb, Lqc, Lqd, k2, c3, pc3, c4, pc4, nc4, h6a, h6b, h6c, h6d, k9, k11, c12, pc12]
          rw [drawK_ok _ _ _ (by kernel_rfl)]
          simp -implicitDefEqProofs [-getElem?_pos, -Iqa, -Iqb, -Iqc, -Iqd, -Lqa, Lqb, Lqc, Lqd, k2, c3, pc3, c4, pc4, nc4, h6a, h6b, h6c, h6d, k9, k11, c12, pc12]
  · have pc3 := eq_false (of_decide_eq_false c3)
    obtain rfl := Option.some.inj hB
    simp -implicitDefEqProofs [-getElem?_pos, -Iqa, -Iqb, -Iqc, -Iqd, -Lqa, Lqb, Lqc, Lqd, k2, c3, pc3]
theorem g_declaration_Check {p0 : (List Int)} {p1 : S_api_Declaration} {r : Int} (hB : B_declaration_Check p0 p1 = some r) : G_declaration_Check p0 p1 = some r := dec_of (fun a b h => by rcases a with a0_; rcases b with b0_; simp at h; simp [*]) (sim_declaration_Check hB)
end Go.Am
namespace Go.Am
open Go Go.Proofs
set_option maxRecDepth 4000
set_option maxHeartbeats 4000000
open Int renaming ofNat_lt → Iqa, ofNat_le → Iqb, natCast_eq_zero → Iqc, natCast_pos → Iqd, cast_ofNat_Int → Iqe, natCast_zero → Iqf
open List renaming length_eq_zero_iff → Lqa, getElem?_cons_zero → Lqb, getElem?_cons_succ → Lqc, getElem?_nil → Lqd, length_cons → Lqe, length_nil → Lqf, nil_append → Lqg, cons_append → Lqh
open Nat renaming zero_add → Nqa
open Tru renaming thr_mk → Tqa, nodes_mk → Tqb, inner_mk → Tqc
open Go.Am renaming es_api_Declaration_cons → Eqa, es_api_Declaration_nil → Eqb, es_api_Evidence_cons → Eqc, es_api_Evidence_nil → Eqd, ints_cons → Eqe, ints_nil → Eqf, encTs_cons → Eqg, encTs_nil → Eqh, es_str_cons → Eqi, es_str_nil → Eqj, es_u64_cons → Eqk, es_u64_nil → Eql, es_u8_cons → Eqm, es_u8_nil → Eqn
noncomputable def B_ref07_Plain_0 (p0 : S_api_Declaration) : Option Bool :=
  cnd (decide (p0.f0 < 0)) (
    some true) (
    some (decide (10 ≤ p0.f0)))
def J_ref07_Plain_0 (p0 : S_api_Declaration) (q : St) : Prop := (∃ (g : Nat), q (.t 1) = .ptr (.site 0 0 0) g 0 ∧ q (.i (.site 0 0 0)) = .box g [(i64 p0.f0), (i64 p0.f1), (i64 p0.f2.thr), (.pv (.sl p0.f2.nodes.length (ints p0.f2.nodes))), (.pv (.sl p0.f2.inner.length (encTs p0.f2.inner))), (.pv (.int .u64 p0.f3))])
def Q_ref07_Plain_0 (p0 : S_api_Declaration) (o11_0 : Bool) (q : St) : Prop := q (.t 11) = (bl o11_0) ∧ (∃ (g : Nat), q (.t 1) = .ptr (.site 0 0 0) g 0 ∧ q (.i (.site 0 0 0)) = .box g [(i64 p0.f0), (i64 p0.f1), (i64 p0.f2.thr), (.pv (.sl p0.f2.nodes.length (ints p0.f2.nodes))), (.pv (.sl p0.f2.inner.length (encTs p0.f2.inner))), (.pv (.int .u64 p0.f3))])
theorem P_ref07_Plain_0 {p0 : S_api_Declaration} {cc : Code} (hcc : cc = (Code.fst (Code.fst (Code.snd ((Tryz.f22.body).getD .skip))))) {s : St} {z : Option (Ex × St)} (hz : C Tryz.prog cf cc s = z) {r : Bool} (hI : J_ref07_Plain_0 p0 s) (hB : B_ref07_Plain_0 p0 = some r) : Res z (postG (fun a q => Q_ref07_Plain_0 p0 a q) r) := by
  subst hcc
  subst hz
  simp only [J_ref07_Plain_0] at hI
  obtain ⟨g2, q1, q2⟩ := hI
  simp only [Code.fst, Code.snd, Tryz.f22, Option.getD_some]
  unfold B_ref07_Plain_0 at hB
  rcases cnd_inv hB with ⟨c1, hB⟩ | ⟨c1, hB⟩
  · have pc1 := eq_true (of_decide_eq_true c1)
    obtain rfl := Option.some.inj hB
    try simp -implicitDefEqProofs [-getElem?_pos, -Iqa, -Iqb, -Iqc, -Iqd, -Lqa, Lqb, Lqc, Lqd, q1, q2, c1, pc1]
    refine Res.g ?_
    simp -implicitDefEqProofs [-getElem?_pos, -Iqa, -Iqb, -Iqc, -Iqd, -Lqa, Lqb, Lqc, Lqd, and_assoc, Q_ref07_Plain_0, ownAt, q1, q2, c1, pc1]
  · have pc1 := eq_false (of_decide_eq_false c1)
    obtain rfl := Option.some.inj hB
    try simp -implicitDefEqProofs [-getElem?_pos, -Iqa, -Iqb, -Iqc, -Iqd, -Lqa, Lqb, Lqc, Lqd, q1, q2, c1, pc1]
    refine Res.g ?_
    simp -implicitDefEqProofs [-getElem?_pos, -Iqa, -Iqb, -Iqc, -Iqd, -Lqa, Lqb, Lqc, Lqd, and_assoc, Q_ref07_Plain_0, ownAt, q1, q2, c1, pc1]
noncomputable def B_ref07_Plain_1 (p0 : S_api_Declaration) : Option Bool :=
  cnd (decide (p0.f1 < 1)) (
    some true) (
    some (decide (30 < p0.f1)))
def J_ref07_Plain_1 (p0 : S_api_Declaration) (q : St) : Prop := (∃ (g : Nat), q (.t 1) = .ptr (.site 0 0 0) g 0 ∧ q (.i (.site 0 0 0)) = .box g [(i64 p0.f0), (i64 p0.f1), (i64 p0.f2.thr), (.pv (.sl p0.f2.nodes.length (ints p0.f2.nodes))), (.pv (.sl p0.f2.inner.length (encTs p0.f2.inner))), (.pv (.int .u64 p0.f3))])
def Q_ref07_Plain_1 (p0 : S_api_Declaration) (o19_1 : Bool) (q : St) : Prop := q (.t 19) = (bl o19_1) ∧ (∃ (g : Nat), q (.t 1) = .ptr (.site 0 0 0) g 0 ∧ q (.i (.site 0 0 0)) = .box g [(i64 p0.f0), (i64 p0.f1), (i64 p0.f2.thr), (.pv (.sl p0.f2.nodes.length (ints p0.f2.nodes))), (.pv (.sl p0.f2.inner.length (encTs p0.f2.inner))), (.pv (.int .u64 p0.f3))])
theorem P_ref07_Plain_1 {p0 : S_api_Declaration} {cc : Code} (hcc : cc = (Code.fst (Code.fst (Code.snd (Code.snd ((Tryz.f22.body).getD .skip)))))) {s : St} {z : Option (Ex × St)} (hz : C Tryz.prog cf cc s = z) {r : Bool} (hI : J_ref07_Plain_1 p0 s) (hB : B_ref07_Plain_1 p0 = some r) : Res z (postG (fun a q => Q_ref07_Plain_1 p0 a q) r) := by
  subst hcc
  subst hz
  simp only [J_ref07_Plain_1] at hI
  obtain ⟨g2, q1, q2⟩ := hI
  simp only [Code.fst, Code.snd, Tryz.f22, Option.getD_some]
  unfold B_ref07_Plain_1 at hB
  rcases cnd_inv hB with ⟨c4, hB⟩ | ⟨c4, hB⟩
  · have pc4 := eq_true (of_decide_eq_true c4)
    obtain rfl := Option.some.inj hB
    try simp -implicitDefEqProofs [-getElem?_pos, -Iqa, -Iqb, -Iqc, -Iqd, -Lqa, Lqb, Lqc, Lqd, q1, q2, c4, pc4]
    refine Res.g ?_
    simp -implicitDefEqProofs [-getElem?_pos, -Iqa, -Iqb, -Iqc, -Iqd, -Lqa, Lqb, Lqc, Lqd, and_assoc, Q_ref07_Plain_1, ownAt, q1, q2, c4, pc4]
  · have pc4 := eq_false (of_decide_eq_false c4)
    obtain rfl := Option.some.inj hB
    try simp -implicitDefEqProofs [-getElem?_pos, -Iqa, -Iqb, -Iqc, -Iqd, -Lqa, Lqb, Lqc, Lqd, q1, q2, c4, pc4]
    refine Res.g ?_
    simp -implicitDefEqProofs [-getElem?_pos, -Iqa, -Iqb, -Iqc, -Iqd, -Lqa, Lqb, Lqc, Lqd, and_assoc, Q_ref07_Plain_1, ownAt, q1, q2, c4, pc4]
noncomputable def B_ref07_Plain_2 (p0 : S_api_Declaration) : Option Bool :=
  kb (G_ref02_Depth p0.f2) fun y10 =>
  cnd (decide (3 < y10)) (
    some true) (
    kb (G_ref02_Size p0.f2) fun y13 =>
    some (decide (40 < y13)))
def J_ref07_Plain_2 (p0 : S_api_Declaration) (q : St) : Prop := (∃ (g : Nat), q (.t 1) = .ptr (.site 0 0 0) g 0 ∧ q (.i (.site 0 0 0)) = .box g [(i64 p0.f0), (i64 p0.f1), (i64 p0.f2.thr), (.pv (.sl p0.f2.nodes.length (ints p0.f2.nodes))), (.pv (.sl p0.f2.inner.length (encTs p0.f2.inner))), (.pv (.int .u64 p0.f3))])
def Q_ref07_Plain_2 (p0 : S_api_Declaration) (o35_2 : Bool) (q : St) : Prop := q (.t 35) = (bl o35_2)
theorem P_ref07_Plain_2 {p0 : S_api_Declaration} {cc : Code} (hcc : cc = (Code.fst (Code.fst (Code.snd (Code.snd (Code.snd (Code.snd ((Tryz.f22.body).getD .skip)))))))) {s : St} {z : Option (Ex × St)} (hz : C Tryz.prog cf cc s = z) {r : Bool} (hI : J_ref07_Plain_2 p0 s) (hB : B_ref07_Plain_2 p0 = some r) : Res z (postG (fun a q => Q_ref07_Plain_2 p0 a q) r) := by
  subst hcc
  subst hz
  simp only [J_ref07_Plain_2] at hI
  obtain ⟨g2, q1, q2⟩ := hI
  simp only [Code.fst, Code.snd, Tryz.f22, Option.getD_some]
  unfold B_ref07_Plain_2 at hB
  obtain ⟨y10, k11, hB⟩ := kb_inv hB
  replace k11 := run_ref02_Depth k11
  try simp only [Iqe, Iqf, Lqe, Lqf, Lqg, Lqh, Nqa, Nat.reduceAdd, Tqa, Tqb, Tqc, Eqe, Eqf, Eqg, Eqh, Eqa, Eqb, Eqc, Eqd, Eqi, Eqj, Eqk, Eql, Eqm, Eqn] at k11
  try dsimp only at hB
  rcases cnd_inv hB with ⟨c12, hB⟩ | ⟨c12, hB⟩
  · have pc12 := eq_true (of_decide_eq_true c12)
    obtain rfl := Option.some.inj hB
    try simp -implicitDefEqProofs [-getElem?_pos, -Iqa, -Iqb, -Iqc, -Iqd, -Lqa, Lqb, Lqc, Lqd, q1, q2, k11, c12, pc12]
    refine Res.g ?_
    simp -implicitDefEqProofs [-getElem?_pos, -Iqa, -Iqb, -Iqc, -Iqd, -Lqa, Lqb, Lqc, Lqd, and_assoc, Q_ref07_Plain_2, ownAt, q1, q2, k11, c12, pc12]
  · have pc12 := eq_false (of_decide_eq_false c12)
    obtain ⟨y13, k14, hB⟩ := kb_inv hB
    replace k14 := run_ref02_Size k14
    try simp only [Iqe, Iqf, Lqe, Lqf, Lqg, Lqh, Nqa, Nat.reduceAdd, Tqa, Tqb, Tqc, Eqe, Eqf, Eqg, Eqh, Eqa, Eqb, Eqc, Eqd, Eqi, Eqj, Eqk, Eql, Eqm, Eqn] at k14
    try dsimp only at hB
    obtain rfl := Option.some.inj hB
    try simp -implicitDefEqProofs [-getElem?_pos, -Iqa, -Iqb, -Iqc, -Iqd, -Lqa, Lqb, Lqc, Lqd, q1, q2, k11, c12, pc12, k14]
    refine Res.g ?_
    simp -implicitDefEqProofs [-getElem?_pos, -Iqa, -Iqb, -Iqc, -Iqd, -Lqa, Lqb, Lqc, Lqd, and_assoc, Q_ref07_Plain_2, ownAt, q1, q2, k11, c12, pc12, k14]
noncomputable def B_ref07_Plain (p0 : S_api_Declaration) : Option Int :=
  kb (B_ref07_Plain_0 p0) fun z2 =>
  cnd z2 (
    some 5) (
    kb (B_ref07_Plain_1 p0) fun z5 =>
    cnd z5 (
      some 1) (
      kb (G_ref02_Valid p0.f2) fun y7 =>
      cnd (decide (y7 = 0)) (
        kb (B_ref07_Plain_2 p0) fun z15 =>
        cnd z15 (
          some 3) (
          some 0)) (
        some y7)))
theorem sim_ref07_Plain {p0 : S_api_Declaration} {r : Int} (hB : B_ref07_Plain p0 = some r) : R 22 [(.agg [(i64 p0.f0), (i64 p0.f1), (i64 p0.f2.thr), (.pv (.sl p0.f2.nodes.length (ints p0.f2.nodes))), (.pv (.sl p0.f2.inner.length (encTs p0.f2.inner))), (.pv (.int .u64 p0.f3))])] [] = some ((i64 r), [], []) := by
  rw [R_eq _ _ _ fn_ref07_Plain]
  simp only [Code.fst, Code.snd, Tryz.f22, Option.getD_some]
  generalize hc0 : Code.region 1 _ _ = cc0
  generalize hc1 : Code.region 3 _ _ = cc1
  generalize hc2 : Code.region 8 _ _ = cc2
  generalize hr5 : Code.region 5 _ _ = rr5
  unfold B_ref07_Plain at hB
  try simp -implicitDefEqProofs [-getElem?_pos, -Iqa, -Iqb, -Iqc, -Iqd, -Lqa, Lqb, Lqc, Lqd]
  generalize hz0 : C Tryz.prog cf cc0 _ = z0
  obtain ⟨z2, hB1, hB⟩ := kb_inv hB
  have hJ := P_ref07_Plain_0 (hc0.symm.trans (by kernel_rfl)) hz0 (by simp -implicitDefEqProofs [-getElem?_pos, -Iqa, -Iqb, -Iqc, -Iqd, -Lqa, Lqb, Lqc, Lqd, and_assoc, J_ref07_Plain_0, ownAt]) hB1
  obtain ⟨e0, s0, rfl, hq⟩ := hJ.open
  clear hB1
  obtain ⟨rfl, hq⟩ := hq
  simp only [Q_ref07_Plain_0] at hq
  obtain ⟨q2_1, ⟨g2_3, q2_2, q2_3⟩⟩ := hq
  rcases cnd_inv hB with ⟨c3, hB⟩ | ⟨c3, hB⟩
  · obtain rfl := Option.some.inj hB
    simp -implicitDefEqProofs [-getElem?_pos, -Iqa, -Iqb, -Iqc, -Iqd, -Lqa, Lqb, Lqc, Lqd, q2_1, q2_2, q2_3, c3]
  · try simp -implicitDefEqProofs [-getElem?_pos, -Iqa, -Iqb, -Iqc, -Iqd, -Lqa, Lqb, Lqc, Lqd, q2_1, q2_2, q2_3, c3]
    generalize hz1 : C Tryz.prog cf cc1 _ = z1
    obtain ⟨z5, hB1, hB⟩ := kb_inv hB
    have hJ := P_ref07_Plain_1 (hc1.symm.trans (by kernel_rfl)) hz1 (by simp -implicitDefEqProofs [-getElem?_pos, -Iqa, -Iqb, -Iqc, -Iqd, -Lqa, Lqb, Lqc, Lqd, and_assoc, J_ref07_Plain_1, ownAt, q2_1, q2_2, q2_3, c3]) hB1
    obtain ⟨e1, s1, rfl, hq⟩ := hJ.open
    clear hB1
    obtain ⟨rfl, hq⟩ := hq
    simp only [Q_ref07_Plain_1] at hq
    obtain ⟨q5_1, ⟨g5_3, q5_2, q5_3⟩⟩ := hq
    rcases cnd_inv hB with ⟨c6, hB⟩ | ⟨c6, hB⟩
    · obtain rfl := Option.some.inj hB
      simp -implicitDefEqProofs [-getElem?_pos, -Iqa, -Iqb, -Iqc, -Iqd, -Lqa, Lqb, Lqc, Lqd, q5_1, q5_2, q5_3, c3, c6]
    · obtain ⟨y7, k8, hB⟩ := kb_inv hB
      replace k8 := run_ref02_Valid k8
      try simp only [Iqe, Iqf, Lqe, Lqf, Lqg, Lqh, Nqa, Nat.reduceAdd, Tqa, Tqb, Tqc, Eqe, Eqf, Eqg, Eqh, Eqa, Eqb, Eqc, Eqd, Eqi, Eqj, Eqk, Eql, Eqm, Eqn, c3, c6] at k8
      try dsimp only at hB
      rcases cnd_inv hB with ⟨c9, hB⟩ | ⟨c9, hB⟩
      · have pc9 := eq_true (of_decide_eq_true c9)
        subst hr5
        try simp -implicitDefEqProofs [-getElem?_pos, -Iqa, -Iqb, -Iqc, -Iqd, -Lqa, Lqb, Lqc, Lqd, q5_1, q5_2, q5_3, c3, c6, k8, c9, pc9]
        generalize hz2 : C Tryz.prog cf cc2 _ = z2
        obtain ⟨z15, hB1, hB⟩ := kb_inv hB
        have hJ := P_ref07_Plain_2 (hc2.symm.trans (by kernel_rfl)) hz2 (by simp -implicitDefEqProofs [-getElem?_pos, -Iqa, -Iqb, -Iqc, -Iqd, -Lqa, Lqb, Lqc, Lqd, and_assoc, J_ref07_Plain_2, ownAt, q5_1, q5_2, q5_3, c3, c6, k8, c9, pc9]) hB1
        obtain ⟨e2, s2, rfl, hq⟩ := hJ.open
        clear hB1
        obtain ⟨rfl, hq⟩ := hq
        simp only [Q_ref07_Plain_2] at hq
        have q15_1 := hq
        rcases cnd_inv hB with ⟨c16, hB⟩ | ⟨c16, hB⟩
        · obtain rfl := Option.some.inj hB
          simp -implicitDefEqProofs [-getElem?_pos, -Iqa, -Iqb, -Iqc, -Iqd, -Lqa, Lqb, Lqc, Lqd, q15_1, c3, c6, k8, c9, pc9, c16]
        · obtain rfl := Option.some.inj hB
          simp -implicitDefEqProofs [-getElem?_pos, -Iqa, -Iqb, -Iqc, -Iqd, -Lqa, Lqb, Lqc, Lqd, q15_1, c3, c6, k8, c9, pc9, c16]
      · have pc9 := eq_false (of_decide_eq_false c9)
        obtain rfl := Option.some.inj hB
        subst hr5
        simp -implicitDefEqProofs [-getElem?_pos, -Iqa, -Iqb, -Iqc, -Iqd, -Lqa, Lqb, Lqc, Lqd, q5_1, q5_2, q5_3, c3, c6, k8, c9, pc9]
theorem g_ref07_Plain {p0 : S_api_Declaration} {r : Int} (hB : B_ref07_Plain p0 = some r) : G_ref07_Plain p0 = some r := dec_of (fun a b h => by rcases a with a0_; rcases b with b0_; simp at h; simp [*]) (sim_ref07_Plain hB)
end Go.Am
namespace Go.Am
open Go Go.Proofs
set_option maxRecDepth 4000
set_option maxHeartbeats 4000000
open Int renaming ofNat_lt → Iqa, ofNat_le → Iqb, natCast_eq_zero → Iqc, natCast_pos → Iqd, cast_ofNat_Int → Iqe, natCast_zero → Iqf
open List renaming length_eq_zero_iff → Lqa, getElem?_cons_zero → Lqb, getElem?_cons_succ → Lqc, getElem?_nil → Lqd, length_cons → Lqe, length_nil → Lqf, nil_append → Lqg, cons_append → Lqh
open Nat renaming zero_add → Nqa
open Tru renaming thr_mk → Tqa, nodes_mk → Tqb, inner_mk → Tqc
open Go.Am renaming es_api_Declaration_cons → Eqa, es_api_Declaration_nil → Eqb, es_api_Evidence_cons → Eqc, es_api_Evidence_nil → Eqd, ints_cons → Eqe, ints_nil → Eqf, encTs_cons → Eqg, encTs_nil → Eqh, es_str_cons → Eqi, es_str_nil → Eqj, es_u64_cons → Eqk, es_u64_nil → Eql, es_u8_cons → Eqm, es_u8_nil → Eqn
noncomputable def B_ref07_Bytes (p0 : S_api_Declaration) : Option (List UInt8) :=
  kb (G_ref07_Plain p0) fun y1 =>
  cnd (decide (y1 = 0)) (
    kb (G_strconv_Itoa p0.f0) fun y4 =>
    kb (catK ([100, 32] : List UInt8) y4) fun S7 =>
    kb (catK S7 ([32] : List UInt8)) fun S9 =>
    kb (G_strconv_Itoa p0.f1) fun y10 =>
    kb (catK S9 y10) fun S13 =>
    kb (catK S13 ([32] : List UInt8)) fun S15 =>
    kb (G_ref03_Text p0.f2) fun y16 =>
    kb (catK S15 y16) fun S19 =>
    some S19) (
    some ([] : List UInt8))
theorem sim_ref07_Bytes {p0 : S_api_Declaration} {r : (List UInt8)} (hB : B_ref07_Bytes p0 = some r) : R 24 [(.agg [(i64 p0.f0), (i64 p0.f1), (i64 p0.f2.thr), (.pv (.sl p0.f2.nodes.length (ints p0.f2.nodes))), (.pv (.sl p0.f2.inner.length (encTs p0.f2.inner))), (.pv (.int .u64 p0.f3))])] [] = some ((.pv (.str r)), [], []) := by
  rw [R_eq _ _ _ fn_ref07_Bytes]
  simp only [Code.fst, Code.snd, Tryz.f24, Option.getD_some]
  generalize hr3 : Code.region 3 _ _ = rr3
  unfold B_ref07_Bytes at hB
  obtain ⟨y1, k2, hB⟩ := kb_inv hB
  replace k2 := run_ref07_Plain k2
  try simp only [Iqe, Iqf, Lqe, Lqf, Lqg, Lqh, Nqa, Nat.reduceAdd, Tqa, Tqb, Tqc, Eqe, Eqf, Eqg, Eqh, Eqa, Eqb, Eqc, Eqd, Eqi, Eqj, Eqk, Eql, Eqm, Eqn] at k2
  try dsimp only at hB
  rcases cnd_inv hB with ⟨c3, hB⟩ | ⟨c3, hB⟩
  · have pc3 := eq_true (of_decide_eq_true c3)
    obtain ⟨y4, k5, hB⟩ := kb_inv hB
    replace k5 := run_strconv_Itoa k5
    try simp only [Iqe, Iqf, Lqe, Lqf, Lqg, Lqh, Nqa, Nat.reduceAdd, Tqa, Tqb, Tqc, Eqe, Eqf, Eqg, Eqh, Eqa, Eqb, Eqc, Eqd, Eqi, Eqj, Eqk, Eql, Eqm, Eqn] at k5
    try dsimp only at hB
    obtain ⟨S7, n6, hB⟩ := kb_inv hB
    obtain ⟨n6a, n6b⟩ := catK_inv n6
    try simp only [Lqe, Lqf, Nqa, Nat.reduceAdd] at n6a
    try simp only [Lqh, Lqg] at n6b
    try dsimp only at hB
    obtain ⟨S9, n8, hB⟩ := kb_inv hB
    obtain ⟨n8a, n8b⟩ := catK_inv n8
    try simp only [Lqe, Lqf, Nqa, Nat.reduceAdd] at n8a
    try simp only [Lqh, Lqg] at n8b
    try dsimp only at hB
    obtain ⟨y10, k11, hB⟩ := kb_inv hB
    replace k11 := run_strconv_Itoa k11
    try simp only [Iqe, Iqf, Lqe, Lqf, Lqg, Lqh, Nqa, Nat.reduceAdd, Tqa, Tqb, Tqc, Eqe, Eqf, Eqg, Eqh, Eqa, Eqb, Eqc, Eqd, Eqi, Eqj, Eqk, Eql, Eqm, Eqn] at k11
    try dsimp only at hB
    obtain ⟨S13, n12, hB⟩ := kb_inv hB
    obtain ⟨n12a, n12b⟩ := catK_inv n12
    try dsimp only at hB
    obtain ⟨S15, n14, hB⟩ := kb_inv hB
    obtain ⟨n14a, n14b⟩ := catK_inv n14
    try simp only [Lqe, Lqf, Nqa, Nat.reduceAdd] at n14a
    try simp only [Lqh, Lqg] at n14b
    try dsimp only at hB
    obtain ⟨y16, k17, hB⟩ := kb_inv hB
    replace k17 := run_ref03_Text k17
    try simp only [Iqe, Iqf, Lqe, Lqf, Lqg, Lqh, Nqa, Nat.reduceAdd, Tqa, Tqb, Tqc, Eqe, Eqf, Eqg, Eqh, Eqa, Eqb, Eqc, Eqd, Eqi, Eqj, Eqk, Eql, Eqm, Eqn] at k17
    try dsimp only at hB
    obtain ⟨S19, n18, hB⟩ := kb_inv hB
    obtain ⟨n18a, n18b⟩ := catK_inv n18
    try dsimp only at hB
    obtain rfl := Option.some.inj hB
    subst hr3
    simp -implicitDefEqProofs [-getElem?_pos, -Iqa, -Iqb, -Iqc, -Iqd, -Lqa, Lqb, Lqc, Lqd, k2, c3, pc3, k5, n6a, n6b, n8a, n8b, k11, n12a, n12b, n14a, n14b, k17, n18a, n18b]
    rw [drawK_ok _ _ _ (by kernel_rfl)]
    simp -implicitDefEqProofs [-getElem?_pos, -Iqa, -Iqb, -Iqc, -Iqd, -Lqa, Lqb, Lqc, Lqd, k2, c3, pc3, k5, n6a, n6b, n8a, n8b, k11, n12a, n12b, n14a, n14b, k17, n18a, n18b]
  · have pc3 := eq_false (of_decide_eq_false c3)
    obtain rfl := Option.some.inj hB
    simp -implicitDefEqProofs [-getElem?_pos, -Iqa, -Iqb, -Iqc, -Iqd, -Lqa, Lqb, Lqc, Lqd, k2, c3, pc3]
theorem g_ref07_Bytes {p0 : S_api_Declaration} {r : (List UInt8)} (hB : B_ref07_Bytes p0 = some r) : G_ref07_Bytes p0 = some r := dec_of (fun a b h => by rcases a with a0_; rcases b with b0_; simp at h; simp [*]) (sim_ref07_Bytes hB)
end Go.Am
namespace Go.Am
open Go Go.Proofs
set_option maxRecDepth 4000
set_option maxHeartbeats 4000000
open Int renaming ofNat_lt → Iqa, ofNat_le → Iqb, natCast_eq_zero → Iqc, natCast_pos → Iqd, cast_ofNat_Int → Iqe, natCast_zero → Iqf
open List renaming length_eq_zero_iff → Lqa, getElem?_cons_zero → Lqb, getElem?_cons_succ → Lqc, getElem?_nil → Lqd, length_cons → Lqe, length_nil → Lqf, nil_append → Lqg, cons_append → Lqh
open Nat renaming zero_add → Nqa
open Tru renaming thr_mk → Tqa, nodes_mk → Tqb, inner_mk → Tqc
open Go.Am renaming es_api_Declaration_cons → Eqa, es_api_Declaration_nil → Eqb, es_api_Evidence_cons → Eqc, es_api_Evidence_nil → Eqd, ints_cons → Eqe, ints_nil → Eqf, encTs_cons → Eqg, encTs_nil → Eqh, es_str_cons → Eqi, es_str_nil → Eqj, es_u64_cons → Eqk, es_u64_nil → Eql, es_u8_cons → Eqm, es_u8_nil → Eqn
noncomputable def B_ref07_Sign (p0 : Int) (p1 : Int) (p2 : Int) (p3 : Tru) : Option (S_api_Declaration × Int) :=
  kb (G_ref07_Plain (S_api_Declaration.mk p1 p2 p3 0)) fun y1 =>
  cnd (decide (y1 = 0)) (
    kb (G_ref07_Bytes (S_api_Declaration.mk p1 p2 p3 0)) fun y4 =>
    kb (G_ref07_Tag p0 y4) fun y6 =>
    some ((S_api_Declaration.mk p1 p2 p3 y6), 0)) (
    some ((S_api_Declaration.mk 0 0 (Tru.mk 0 ([] : (List Int)) ([] : (List Tru))) 0), y1))
end Go.Am
namespace Go.Am
open Go Go.Proofs
set_option maxRecDepth 4000
set_option maxHeartbeats 4000000
open Int renaming ofNat_lt → Iqa, ofNat_le → Iqb, natCast_eq_zero → Iqc, natCast_pos → Iqd, cast_ofNat_Int → Iqe, natCast_zero → Iqf
open List renaming length_eq_zero_iff → Lqa, getElem?_cons_zero → Lqb, getElem?_cons_succ → Lqc, getElem?_nil → Lqd, length_cons → Lqe, length_nil → Lqf, nil_append → Lqg, cons_append → Lqh
open Nat renaming zero_add → Nqa
open Tru renaming thr_mk → Tqa, nodes_mk → Tqb, inner_mk → Tqc
open Go.Am renaming es_api_Declaration_cons → Eqa, es_api_Declaration_nil → Eqb, es_api_Evidence_cons → Eqc, es_api_Evidence_nil → Eqd, ints_cons → Eqe, ints_nil → Eqf, encTs_cons → Eqg, encTs_nil → Eqh, es_str_cons → Eqi, es_str_nil → Eqj, es_u64_cons → Eqk, es_u64_nil → Eql, es_u8_cons → Eqm, es_u8_nil → Eqn
noncomputable def B_make_Keys_0 (p1 : Int) (xba0_0_0 : (List Int)) (xba0_1_0 : Int) (x5_0 : (List Int)) (x6_0 : Int) : Option (Stp ((List Int) × Int × (List Int) × Int) Unit) :=
  cnd (decide (x6_0 < p1)) (
    kb (G_make_Tape_N (S_trustquorummake_Tape.mk xba0_0_0 xba0_1_0) 1000) fun y2 =>
    kb (appK x5_0 ([(addK .u64 (mulK .u64 (IntKind.wrap .u64 y2.1) 2654435761) (mulK .u64 (IntKind.wrap .u64 x6_0) 97))] : List Int) 8) fun L4 =>
    some (.go (y2.2.f0, y2.2.f1, L4, (add64 x6_0 1)))) (
    some (.ex 0 (xba0_0_0, xba0_1_0, x5_0, x6_0)))
def I_make_Keys_0 (p1 : Int) (xba0_0_0 : (List Int)) (xba0_1_0 : Int) (x5_0 : (List Int)) (x6_0 : Int) (q : St) : Prop := q (.t 1) = (i64 p1) ∧ (∃ v : AV, q (.t 5) = v ∧ (ownAt q v (.site 5 10 0) false 1 x5_0.length (es_u64 x5_0) ∨ (v = .nilsl ∧ x5_0 = []))) ∧ q (.t 6) = (i64 x6_0) ∧ (q (.t 0) = .ptr (.arg 0) 0 0 ∧ q (.i (.arg 0)) = .box 0 [(.pv (.sl xba0_0_0.length (ints xba0_0_0))), (i64 xba0_1_0)])
def Q_make_Keys_0 (p1 : Int) (xba0_0_0 : (List Int)) (xba0_1_0 : Int) (x5_0 : (List Int)) (x6_0 : Int) (q : St) : Prop := (∃ v : AV, q (.t 5) = v ∧ (ownAt q v (.site 5 10 0) false 1 x5_0.length (es_u64 x5_0) ∨ (v = .nilsl ∧ x5_0 = []))) ∧ (q (.i (.arg 0)) = .box 0 [(.pv (.sl xba0_0_0.length (ints xba0_0_0))), (i64 xba0_1_0)])
theorem Pb_make_Keys_0 {p1 : Int} {xba0_0_0 : (List Int)} {xba0_1_0 : Int} {x5_0 : (List Int)} {x6_0 : Int} {q : St} {r : (Stp ((List Int) × Int × (List Int) × Int) Unit)} (hI : I_make_Keys_0 p1 xba0_0_0 xba0_1_0 x5_0 x6_0 q) (hB : B_make_Keys_0 p1 xba0_0_0 xba0_1_0 x5_0 x6_0 = some r) : Res (C Tryz.prog cf (Code.fst (Code.fst (Code.snd (Code.fst (Code.snd (Code.snd ((Tryz.f6.body).getD .skip))))))) q) (postB 0 (fun a q => I_make_Keys_0 p1 a.1 a.2.1 a.2.2.1 a.2.2.2 q) (fun a q => Q_make_Keys_0 p1 a.1 a.2.1 a.2.2.1 a.2.2.2 q) (fun _ _ => False) r) := by
  simp only [I_make_Keys_0] at hI
  obtain ⟨q1, ⟨v2, q2, a2⟩, q3, ⟨q4, q5⟩⟩ := hI
  simp only [Code.fst, Code.snd, Tryz.f6, Option.getD_some]
  generalize hr5 : Code.region 5 _ _ = rr5
  unfold B_make_Keys_0 at hB
  rcases a2 with ⟨ga2, rfl, oa2⟩ | ⟨rfl, ea2⟩
  · rcases cnd_inv hB with ⟨c1, hB⟩ | ⟨c1, hB⟩
    · have pc1 := eq_true (of_decide_eq_true c1)
      obtain ⟨y2, k3, hB⟩ := kb_inv hB
      replace k3 := run_make_Tape_N k3
      try simp only [Iqe, Iqf, Lqe, Lqf, Lqg, Lqh, Nqa, Nat.reduceAdd, Tqa, Tqb, Tqc, Eqe, Eqf, Eqg, Eqh, Eqa, Eqb, Eqc, Eqd, Eqi, Eqj, Eqk, Eql, Eqm, Eqn] at k3
      try dsimp only at hB
      obtain ⟨L4, a5, hB⟩ := kb_inv hB
      obtain ⟨a5z, a5a, a5y⟩ := appK_inv a5
      try (simp only [Lqg] at a5z; subst a5z)
      have a5b := appK_len a5
      have a5c := es_u64_appK a5
      have a5d := appK_le a5
      try simp only [Iqe, Iqf, Lqe, Lqf, Lqg, Lqh, Nqa, Nat.reduceAdd, Tqa, Tqb, Tqc, Eqe, Eqf, Eqg, Eqh, Eqa, Eqb, Eqc, Eqd, Eqi, Eqj, Eqk, Eql, Eqm, Eqn] at a5a a5b a5c
      try replace a5b : _ = (1 : Nat) := a5b.symm
      try dsimp only at hB
      obtain rfl := Option.some.inj hB
      subst hr5
      try simp -implicitDefEqProofs [-getElem?_pos, -Iqa, -Iqb, -Iqc, -Iqd, -Lqa, Lqb, Lqc, Lqd, q1, q2, q3, q4, q5, oa2, c1, pc1, k3, a5a, a5b, a5c, a5d]
      refine Res.bgo ?_
      simp -implicitDefEqProofs [-getElem?_pos, -Iqa, -Iqb, -Iqc, -Iqd, -Lqa, Lqb, Lqc, Lqd, and_assoc, I_make_Keys_0, ownAt, q1, q2, q3, q4, q5, oa2, c1, pc1, k3, a5a, a5b, a5c, a5d]
    · have pc1 := eq_false (of_decide_eq_false c1)
      obtain rfl := Option.some.inj hB
      try simp -implicitDefEqProofs [-getElem?_pos, -Iqa, -Iqb, -Iqc, -Iqd, -Lqa, Lqb, Lqc, Lqd, q1, q2, q3, q4, q5, oa2, c1, pc1]
      refine Res.bex ?_
      simp -implicitDefEqProofs [-getElem?_pos, -Iqa, -Iqb, -Iqc, -Iqd, -Lqa, Lqb, Lqc, Lqd, and_assoc, Q_make_Keys_0, ownAt, q1, q2, q3, q4, q5, oa2, c1, pc1]
  · try subst ea2
    rcases cnd_inv hB with ⟨c1, hB⟩ | ⟨c1, hB⟩
    · have pc1 := eq_true (of_decide_eq_true c1)
      obtain ⟨y2, k3, hB⟩ := kb_inv hB
      replace k3 := run_make_Tape_N k3
      try simp only [Iqe, Iqf, Lqe, Lqf, Lqg, Lqh, Nqa, Nat.reduceAdd, Tqa, Tqb, Tqc, Eqe, Eqf, Eqg, Eqh, Eqa, Eqb, Eqc, Eqd, Eqi, Eqj, Eqk, Eql, Eqm, Eqn] at k3
      try dsimp only at hB
      obtain ⟨L4, a5, hB⟩ := kb_inv hB
      obtain ⟨a5z, a5a, a5y⟩ := appK_inv a5
      simp only [Lqg] at a5z
      subst a5z
      try dsimp only at hB
      obtain rfl := Option.some.inj hB
      subst hr5
      try simp -implicitDefEqProofs [-getElem?_pos, -Iqa, -Iqb, -Iqc, -Iqd, -Lqa, Lqb, Lqc, Lqd, q1, q2, q3, q4, q5, c1, pc1, k3]
      refine Res.bgo ?_
      simp -implicitDefEqProofs [-getElem?_pos, -Iqa, -Iqb, -Iqc, -Iqd, -Lqa, Lqb, Lqc, Lqd, and_assoc, I_make_Keys_0, ownAt, q1, q2, q3, q4, q5, c1, pc1, k3]; all_goals ((repeat' apply And.intro) <;> assumption)
    · have pc1 := eq_false (of_decide_eq_false c1)
      obtain rfl := Option.some.inj hB
      try simp -implicitDefEqProofs [-getElem?_pos, -Iqa, -Iqb, -Iqc, -Iqd, -Lqa, Lqb, Lqc, Lqd, q1, q2, q3, q4, q5, c1, pc1]
      refine Res.bex ?_
      simp -implicitDefEqProofs [-getElem?_pos, -Iqa, -Iqb, -Iqc, -Iqd, -Lqa, Lqb, Lqc, Lqd, and_assoc, Q_make_Keys_0, ownAt, q1, q2, q3, q4, q5, c1, pc1]; all_goals ((repeat' apply And.intro) <;> assumption)
theorem P_make_Keys_0 {p1 : Int} {xba0_0_0 : (List Int)} {xba0_1_0 : Int} {x5_0 : (List Int)} {x6_0 : Int} {cc : Code} (hcc : cc = .block 0 (.loop (Code.fst (Code.fst (Code.snd (Code.fst (Code.snd (Code.snd ((Tryz.f6.body).getD .skip))))))))) {s : St} {z : Option (Ex × St)} (hz : C Tryz.prog cf cc s = z) {r : (Stp ((List Int) × Int × (List Int) × Int) Unit)} (hI : I_make_Keys_0 p1 xba0_0_0 xba0_1_0 x5_0 x6_0 s) (hB : iterW (fun a => B_make_Keys_0 p1 a.1 a.2.1 a.2.2.1 a.2.2.2) (xba0_0_0, xba0_1_0, x5_0, x6_0) = some r) : Res z (postS (fun a q => Q_make_Keys_0 p1 a.1 a.2.1 a.2.2.1 a.2.2.2 q) (fun _ _ => False) r) := by
  subst hcc
  exact while_sim (I := fun a q => I_make_Keys_0 p1 a.1 a.2.1 a.2.2.1 a.2.2.2 q) (Q := (fun a q => Q_make_Keys_0 p1 a.1 a.2.1 a.2.2.1 a.2.2.2 q)) (QR := (fun _ _ => False)) (fun a q r h hB => Pb_make_Keys_0 h hB) hI hz hB
noncomputable def B_make_Keys (p0 : S_trustquorummake_Tape) (p1 : Int) : Option ((List Int) × S_trustquorummake_Tape) :=
  kb (iterW (fun a => B_make_Keys_0 p1 a.1 a.2.1 a.2.2.1 a.2.2.2) (p0.f0, p0.f1, ([] : (List Int)), 0)) fun o => stpK o (fun z6 =>
    some (z6.2.2.1, (S_trustquorummake_Tape.mk z6.1 z6.2.1))) (fun z6r =>
    none)
theorem sim_make_Keys {p0 : S_trustquorummake_Tape} {p1 : Int} {r : ((List Int) × S_trustquorummake_Tape)} (hB : B_make_Keys p0 p1 = some r) : R 6 [.ptr (.arg 0) 0 0, (i64 p1)] [.box 0 [(.pv (.sl p0.f0.length (ints p0.f0))), (i64 p0.f1)]] = some ((.pv (.sl r.1.length (es_u64 r.1))), [.box 0 [(.pv (.sl r.2.f0.length (ints r.2.f0))), (i64 r.2.f1)]], []) := by
  rw [R_eq _ _ _ fn_make_Keys]
  simp only [Code.fst, Code.snd, Tryz.f6, Option.getD_some]
  generalize hc0 : Code.block 0 _ = cc0
  unfold B_make_Keys at hB
  try simp -implicitDefEqProofs [-getElem?_pos, -Iqa, -Iqb, -Iqc, -Iqd, -Lqa, Lqb, Lqc, Lqd]
  generalize hz0 : C Tryz.prog cf cc0 _ = z0
  obtain ⟨o, hB1, hB⟩ := kb_inv hB
  have hJ := P_make_Keys_0 (hc0.symm.trans (by kernel_rfl)) hz0 (by simp -implicitDefEqProofs [-getElem?_pos, -Iqa, -Iqb, -Iqc, -Iqd, -Lqa, Lqb, Lqc, Lqd, and_assoc, I_make_Keys_0, ownAt]) hB1
  obtain ⟨e0, s0, rfl, hq⟩ := hJ.open
  clear hB1
  rcases o with z6 | ⟨_, _⟩ | z6r
  · simp only [stpK_go] at hB
    obtain ⟨rfl, hq⟩ := hq
    obtain ⟨u0_0, u0_1, u0_2, u0_3⟩ := z6
    dsimp only at hB hq
    simp only [Q_make_Keys_0] at hq
    obtain ⟨⟨v6_1, q6_1, a6_1⟩, q6_2⟩ := hq
    rcases a6_1 with ⟨ga6_1, rfl, oa6_1⟩ | ⟨rfl, ea6_1⟩
    · obtain rfl := Option.some.inj hB
      simp -implicitDefEqProofs [-getElem?_pos, -Iqa, -Iqb, -Iqc, -Iqd, -Lqa, Lqb, Lqc, Lqd, q6_1, q6_2, oa6_1]
    · try subst ea6_1
      obtain rfl := Option.some.inj hB
      simp -implicitDefEqProofs [-getElem?_pos, -Iqa, -Iqb, -Iqc, -Iqd, -Lqa, Lqb, Lqc, Lqd, q6_1, q6_2]
  · exact hq.elim
  · cases hB
theorem g_make_Keys {p0 : S_trustquorummake_Tape} {p1 : Int} {r : ((List Int) × S_trustquorummake_Tape)} (hB : B_make_Keys p0 p1 = some r) : G_make_Keys p0 p1 = some r := dec_of (fun a b h => by rcases a with ⟨a0_, ⟨a1_0, a1_1⟩⟩; rcases b with ⟨b0_, ⟨b1_0, b1_1⟩⟩; simp at h; simp [*]) (sim_make_Keys hB)
end Go.Am
namespace Go.Am
open Go Go.Proofs
set_option maxRecDepth 4000
set_option maxHeartbeats 4000000
open Int renaming ofNat_lt → Iqa, ofNat_le → Iqb, natCast_eq_zero → Iqc, natCast_pos → Iqd, cast_ofNat_Int → Iqe, natCast_zero → Iqf
open List renaming length_eq_zero_iff → Lqa, getElem?_cons_zero → Lqb, getElem?_cons_succ → Lqc, getElem?_nil → Lqd, length_cons → Lqe, length_nil → Lqf, nil_append → Lqg, cons_append → Lqh
open Nat renaming zero_add → Nqa
open Tru renaming thr_mk → Tqa, nodes_mk → Tqb, inner_mk → Tqc
open Go.Am renaming es_api_Declaration_cons → Eqa, es_api_Declaration_nil → Eqb, es_api_Evidence_cons → Eqc, es_api_Evidence_nil → Eqd, ints_cons → Eqe, ints_nil → Eqf, encTs_cons → Eqg, encTs_nil → Eqh, es_str_cons → Eqi, es_str_nil → Eqj, es_u64_cons → Eqk, es_u64_nil → Eql, es_u8_cons → Eqm, es_u8_nil → Eqn
noncomputable def B_make_Declared_0 (y1 : (Tru × S_trustquorummake_Tape)) : Option Bool :=
  kb (G_ref02_Size y1.1) fun y3 =>
  cnd (decide (40 < y3)) (
    some true) (
    kb (G_ref02_Depth y1.1) fun y6 =>
    some (decide (3 < y6)))
def J_make_Declared_0 (y1 : (Tru × S_trustquorummake_Tape)) (q : St) : Prop := (q (.i (.arg 0)) = .box 0 [(.pv (.sl y1.2.f0.length (ints y1.2.f0))), (i64 y1.2.f1)]) ∧ (∃ (g : Nat), q (.t 4) = .ptr (.site 0 0 0) g 0 ∧ q (.i (.site 0 0 0)) = .box g [(i64 0), .nilsl, .nilsl]) ∧ (∃ (g : Nat), q (.t 5) = .ptr (.site 1 3 0) g 0 ∧ q (.i (.site 1 3 0)) = .box g [(i64 y1.1.thr), (.pv (.sl y1.1.nodes.length (ints y1.1.nodes))), (.pv (.sl y1.1.inner.length (encTs y1.1.inner)))])
def Q_make_Declared_0 (y1 : (Tru × S_trustquorummake_Tape)) (o16_0 : Bool) (q : St) : Prop := q (.t 16) = (bl o16_0) ∧ (q (.i (.arg 0)) = .box 0 [(.pv (.sl y1.2.f0.length (ints y1.2.f0))), (i64 y1.2.f1)]) ∧ (∃ (g : Nat), q (.t 4) = .ptr (.site 0 0 0) g 0 ∧ q (.i (.site 0 0 0)) = .box g [(i64 0), .nilsl, .nilsl]) ∧ (∃ (g : Nat), q (.t 5) = .ptr (.site 1 3 0) g 0 ∧ q (.i (.site 1 3 0)) = .box g [(i64 y1.1.thr), (.pv (.sl y1.1.nodes.length (ints y1.1.nodes))), (.pv (.sl y1.1.inner.length (encTs y1.1.inner)))])
theorem P_make_Declared_0 {y1 : (Tru × S_trustquorummake_Tape)} {cc : Code} (hcc : cc = (Code.fst (Code.fst (Code.snd (Code.snd ((Tryz.f9.body).getD .skip)))))) {s : St} {z : Option (Ex × St)} (hz : C Tryz.prog cf cc s = z) {r : Bool} (hI : J_make_Declared_0 y1 s) (hB : B_make_Declared_0 y1 = some r) : Res z (postG (fun a q => Q_make_Declared_0 y1 a q) r) := by
  subst hcc
  subst hz
  simp only [J_make_Declared_0] at hI
  obtain ⟨q1, ⟨g3, q2, q3⟩, ⟨g5, q4, q5⟩⟩ := hI
  simp only [Code.fst, Code.snd, Tryz.f9, Option.getD_some]
  unfold B_make_Declared_0 at hB
  obtain ⟨y3, k4, hB⟩ := kb_inv hB
  replace k4 := run_ref02_Size k4
  try simp only [Iqe, Iqf, Lqe, Lqf, Lqg, Lqh, Nqa, Nat.reduceAdd, Tqa, Tqb, Tqc, Eqe, Eqf, Eqg, Eqh, Eqa, Eqb, Eqc, Eqd, Eqi, Eqj, Eqk, Eql, Eqm, Eqn] at k4
  try dsimp only at hB
  rcases cnd_inv hB with ⟨c5, hB⟩ | ⟨c5, hB⟩
  · have pc5 := eq_true (of_decide_eq_true c5)
    obtain rfl := Option.some.inj hB
    try simp -implicitDefEqProofs [-getElem?_pos, -Iqa, -Iqb, -Iqc, -Iqd, -Lqa, Lqb, Lqc, Lqd, q1, q2, q3, q4, q5, k4, c5, pc5]
    refine Res.g ?_
    simp -implicitDefEqProofs [-getElem?_pos, -Iqa, -Iqb, -Iqc, -Iqd, -Lqa, Lqb, Lqc, Lqd, and_assoc, Q_make_Declared_0, ownAt, q1, q2, q3, q4, q5, k4, c5, pc5]
  · have pc5 := eq_false (of_decide_eq_false c5)
    obtain ⟨y6, k7, hB⟩ := kb_inv hB
    replace k7 := run_ref02_Depth k7
    try simp only [Iqe, Iqf, Lqe, Lqf, Lqg, Lqh, Nqa, Nat.reduceAdd, Tqa, Tqb, Tqc, Eqe, Eqf, Eqg, Eqh, Eqa, Eqb, Eqc, Eqd, Eqi, Eqj, Eqk, Eql, Eqm, Eqn] at k7
    try dsimp only at hB
    obtain rfl := Option.some.inj hB
    try simp -implicitDefEqProofs [-getElem?_pos, -Iqa, -Iqb, -Iqc, -Iqd, -Lqa, Lqb, Lqc, Lqd, q1, q2, q3, q4, q5, k4, c5, pc5, k7]
    refine Res.g ?_
    simp -implicitDefEqProofs [-getElem?_pos, -Iqa, -Iqb, -Iqc, -Iqd, -Lqa, Lqb, Lqc, Lqd, and_assoc, Q_make_Declared_0, ownAt, q1, q2, q3, q4, q5, k4, c5, pc5, k7]
noncomputable def B_make_Declared (p0 : S_trustquorummake_Tape) (p1 : Int) : Option (Tru × S_trustquorummake_Tape) :=
  kb (G_make_Trust p0 p1 2) fun y1 =>
  kb (B_make_Declared_0 y1) fun z8 =>
  cnd z8 (
    some ((Tru.mk 1 ([0] : List Int) ([] : (List Tru))), y1.2)) (
    some (y1.1, y1.2))
theorem sim_make_Declared {p0 : S_trustquorummake_Tape} {p1 : Int} {r : (Tru × S_trustquorummake_Tape)} (hB : B_make_Declared p0 p1 = some r) : R 9 [.ptr (.arg 0) 0 0, (i64 p1)] [.box 0 [(.pv (.sl p0.f0.length (ints p0.f0))), (i64 p0.f1)]] = some ((.agg [(i64 r.1.thr), (.pv (.sl r.1.nodes.length (ints r.1.nodes))), (.pv (.sl r.1.inner.length (encTs r.1.inner)))]), [.box 0 [(.pv (.sl r.2.f0.length (ints r.2.f0))), (i64 r.2.f1)]], []) := by
  rw [R_eq _ _ _ fn_make_Declared]
  simp only [Code.fst, Code.snd, Tryz.f9, Option.getD_some]
  generalize hc0 : Code.region 2 _ _ = cc0
  generalize hr1 : Code.region 1 _ _ = rr1
  unfold B_make_Declared at hB
  obtain ⟨y1, k2, hB⟩ := kb_inv hB
  replace k2 := run_make_Trust k2
  try simp only [Iqe, Iqf, Lqe, Lqf, Lqg, Lqh, Nqa, Nat.reduceAdd, Tqa, Tqb, Tqc, Eqe, Eqf, Eqg, Eqh, Eqa, Eqb, Eqc, Eqd, Eqi, Eqj, Eqk, Eql, Eqm, Eqn] at k2
  try dsimp only at hB
  subst hr1
  try simp -implicitDefEqProofs [-getElem?_pos, -Iqa, -Iqb, -Iqc, -Iqd, -Lqa, Lqb, Lqc, Lqd, k2]
  generalize hz0 : C Tryz.prog cf cc0 _ = z0
  obtain ⟨z8, hB1, hB⟩ := kb_inv hB
  have hJ := P_make_Declared_0 (hc0.symm.trans (by kernel_rfl)) hz0 (by simp -implicitDefEqProofs [-getElem?_pos, -Iqa, -Iqb, -Iqc, -Iqd, -Lqa, Lqb, Lqc, Lqd, and_assoc, J_make_Declared_0, ownAt, k2]) hB1
  obtain ⟨e0, s0, rfl, hq⟩ := hJ.open
  clear hB1
  obtain ⟨rfl, hq⟩ := hq
  simp only [Q_make_Declared_0] at hq
  obtain ⟨q8_1, q8_2, ⟨g8_4, q8_3, q8_4⟩, ⟨g8_6, q8_5, q8_6⟩⟩ := hq
  rcases cnd_inv hB with ⟨c9, hB⟩ | ⟨c9, hB⟩
  · obtain rfl := Option.some.inj hB
    simp -implicitDefEqProofs [-getElem?_pos, -Iqa, -Iqb, -Iqc, -Iqd, -Lqa, Lqb, Lqc, Lqd, q8_1, q8_2, q8_3, q8_4, q8_5, q8_6, k2, c9]
  · obtain rfl := Option.some.inj hB
    simp -implicitDefEqProofs [-getElem?_pos, -Iqa, -Iqb, -Iqc, -Iqd, -Lqa, Lqb, Lqc, Lqd, q8_1, q8_2, q8_3, q8_4, q8_5, q8_6, k2, c9]
theorem g_make_Declared {p0 : S_trustquorummake_Tape} {p1 : Int} {r : (Tru × S_trustquorummake_Tape)} (hB : B_make_Declared p0 p1 = some r) : G_make_Declared p0 p1 = some r := dec_of (fun a b h => by rcases a with ⟨⟨a0_0, a0_1, a0_2⟩, ⟨a1_0, a1_1⟩⟩; rcases b with ⟨⟨b0_0, b0_1, b0_2⟩, ⟨b1_0, b1_1⟩⟩; simp at h; simp [*]) (sim_make_Declared hB)
end Go.Am
namespace Go.Am
open Go Go.Proofs
set_option maxRecDepth 4000
set_option maxHeartbeats 4000000
open Int renaming ofNat_lt → Iqa, ofNat_le → Iqb, natCast_eq_zero → Iqc, natCast_pos → Iqd, cast_ofNat_Int → Iqe, natCast_zero → Iqf
open List renaming length_eq_zero_iff → Lqa, getElem?_cons_zero → Lqb, getElem?_cons_succ → Lqc, getElem?_nil → Lqd, length_cons → Lqe, length_nil → Lqf, nil_append → Lqg, cons_append → Lqh
open Nat renaming zero_add → Nqa
open Tru renaming thr_mk → Tqa, nodes_mk → Tqb, inner_mk → Tqc
open Go.Am renaming es_api_Declaration_cons → Eqa, es_api_Declaration_nil → Eqb, es_api_Evidence_cons → Eqc, es_api_Evidence_nil → Eqd, ints_cons → Eqe, ints_nil → Eqf, encTs_cons → Eqg, encTs_nil → Eqh, es_str_cons → Eqi, es_str_nil → Eqj, es_u64_cons → Eqk, es_u64_nil → Eql, es_u8_cons → Eqm, es_u8_nil → Eqn
noncomputable def B_make_Declaration (p0 : S_trustquorummake_Tape) (p1 : (List Int)) : Option (S_api_Declaration × S_trustquorummake_Tape) :=
  kb (G_make_Tape_N p0 (p1.length : Int)) fun y1 =>
  kb (getI p1 y1.1) fun x3 =>
  kb (G_make_Tape_Range y1.2 1 4) fun y6 =>
  kb (G_make_Declared y6.2 (p1.length : Int)) fun y8 =>
  kb (G_ref07_Sign x3 y1.1 y6.1 y8.1) fun y10 =>
  some (y10.1, y8.2)
end Go.Am
/-
Plain laws of chapter 07: declarations.
-/
namespace Go.Am
open Go
abbrev Decl := S_api_Declaration
def plainE (d : Decl) : Int :=
  if d.f0 < 0 then 5 else if 10 ≤ d.f0 then 5 else if d.f1 < 1 then 1 else if 30 < d.f1 then 1 else
  if valE d.f2 = 0 then (if 3 < dep d.f2 then 3 else if 40 < d.f2.size then 3 else 0) else valE d.f2
/-- a declaration without an error, but for its tag -/
def DOk (d : Decl) : Prop := ((0 ≤ d.f0 ∧ d.f0 < 10) ∧ (1 ≤ d.f1 ∧ d.f1 ≤ 30)) ∧ ((valB d.f2 = true ∧ d.f2.Fine) ∧ (dep d.f2 ≤ 3 ∧ d.f2.size ≤ 40))
theorem plainE_ok {d : Decl} (h : DOk d) : plainE d = 0 := by
  obtain ⟨⟨⟨h1, h2⟩, h3, h4⟩, ⟨h5, h6⟩, h7, h8⟩ := h
  have := (valE_ok h6).2 h5
  unfold plainE
  rw [if_neg (by omega), if_neg (by omega), if_neg (by omega), if_neg (by omega), if_pos this, if_neg (by omega), if_neg (by omega)]
theorem s_declaration_Plain (d : Decl) (h : d.f2.Fine) : G_declaration_Plain d = some (plainE d) := by
  refine g_declaration_Plain ?_
  unfold B_declaration_Plain B_declaration_Plain_0 B_declaration_Plain_1 B_declaration_Plain_2 plainE
  by_cases c1 : d.f0 < 0
  · simp [c1, cnd_true, kb_some]
  by_cases c2 : 10 ≤ d.f0
  · simp [c1, c2, cnd_true, cnd_false, kb_some]
  simp only [c1, c2, decide_false, cnd_false, kb_some, if_false]
  by_cases c3 : d.f1 < 1
  · simp [c3, cnd_true, kb_some]
  by_cases c4 : 30 < d.f1
  · simp [c3, c4, cnd_true, cnd_false, kb_some]
  simp only [c3, c4, decide_false, cnd_false, kb_some, if_false]
  rw [s_threshold_Valid h, kb_some]
  by_cases c5 : valE d.f2 = 0
  case neg => simp [c5, cnd_false]
  simp only [c5, decide_true, cnd_true, if_true]
  rw [s_threshold_Depth _ h, kb_some]
  by_cases c6 : 3 < dep d.f2
  · have : (3 : Int) < (dep d.f2 : Int) := by omega
    simp [c6, this, cnd_true, kb_some]
  · have : ¬ (3 : Int) < (dep d.f2 : Int) := by omega
    simp only [c6, this, decide_false, cnd_false, if_false]
    rw [s_threshold_Size _ h, kb_some, kb_some]
    by_cases c7 : 40 < d.f2.size
    · have : (40 : Int) < (d.f2.size : Int) := by omega
      simp [c7, this, cnd_true]
    · have : ¬ (40 : Int) < (d.f2.size : Int) := by omega
      simp [c7, this, cnd_false]
theorem s_ref07_Plain (d : Decl) (h : d.f2.Fine) : G_ref07_Plain d = some (plainE d) := by
  refine g_ref07_Plain ?_
  unfold B_ref07_Plain B_ref07_Plain_0 B_ref07_Plain_1 B_ref07_Plain_2 plainE
  by_cases c1 : d.f0 < 0
  · simp [c1, cnd_true, kb_some]
  by_cases c2 : 10 ≤ d.f0
  · simp [c1, c2, cnd_true, cnd_false, kb_some]
  simp only [c1, c2, decide_false, cnd_false, kb_some, if_false]
  by_cases c3 : d.f1 < 1
  · simp [c3, cnd_true, kb_some]
  by_cases c4 : 30 < d.f1
  · simp [c3, c4, cnd_true, cnd_false, kb_some]
  simp only [c3, c4, decide_false, cnd_false, kb_some, if_false]
  rw [s_ref02_ValidE h, kb_some]
  by_cases c5 : valE d.f2 = 0
  case neg => simp [c5, cnd_false]
  simp only [c5, decide_true, cnd_true, if_true]
  rw [s_ref02_Depth _ h, kb_some]
  by_cases c6 : 3 < dep d.f2
  · have : (3 : Int) < (dep d.f2 : Int) := by omega
    simp [c6, this, cnd_true, kb_some]
  · have : ¬ (3 : Int) < (dep d.f2 : Int) := by omega
    simp only [c6, this, decide_false, cnd_false, if_false]
    rw [s_ref02_Size _ h, kb_some, kb_some]
    by_cases c7 : 40 < d.f2.size
    · have : (40 : Int) < (d.f2.size : Int) := by omega
      simp [c7, this, cnd_true]
    · have : ¬ (40 : Int) < (d.f2.size : Int) := by omega
      simp [c7, this, cnd_false]
def bytesV (d : Decl) : List UInt8 := ((((([100, 32] ++ itoaN d.f0.toNat) ++ [32]) ++ itoaN d.f1.toNat) ++ [32]) ++ txtT d.f2)
theorem bytesV_len {d : Decl} (h : DOk d) : (bytesV d).length < 1000 := by
  have h1 := itoaN_len d.f0.toNat
  have h2 := itoaN_len d.f1.toNat
  have h3 := txt_len d.f2
  have h4 := h.2.2.2
  simp only [bytesV, List.length_append, List.length_cons, List.length_nil]
  omega
theorem s_declaration_Bytes {d : Decl} (h : DOk d) : G_declaration_Bytes d = some (bytesV d) := by
  have hp := plainE_ok h
  have hl := bytesV_len h
  obtain ⟨⟨⟨h1, h2⟩, h3, h4⟩, ⟨h5, h6⟩, h7, h8⟩ := h
  have ht : G_notation_Text d.f2 = some (txtT d.f2) := by
    refine g_notation_Text ?_
    unfold B_notation_Text
    rw [s_threshold_Valid h6, (valE_ok h6).2 h5, kb_some]
    simp only [decide_true, cnd_true]
    rw [s_write _ (val_dec3 h5) h6, kb_some]
  have b1 := itoaN_len d.f0.toNat
  have b2 := itoaN_len d.f1.toNat
  have b3 := txt_len d.f2
  refine g_declaration_Bytes ?_
  unfold B_declaration_Bytes
  rw [s_declaration_Plain d h6, hp, kb_some]
  simp only [decide_true, cnd_true]
  rw [s_Itoa h1 (by omega), kb_some, catK_some (by simp; omega), kb_some, catK_some (by simp; omega), kb_some, s_Itoa (by omega) (by omega), kb_some, catK_some (by simp; omega), kb_some, catK_some (by simp; omega), kb_some, ht, kb_some, catK_some (by simp; omega), kb_some]
  rfl
theorem s_ref07_Bytes {d : Decl} (h : DOk d) : G_ref07_Bytes d = some (bytesV d) := by
  have hp := plainE_ok h
  have hl := bytesV_len h
  obtain ⟨⟨⟨h1, h2⟩, h3, h4⟩, ⟨h5, h6⟩, h7, h8⟩ := h
  have ht : G_ref03_Text d.f2 = some (txtT d.f2) := by
    refine g_ref03_Text ?_
    unfold B_ref03_Text
    rw [s_ref02_ValidE h6, (valE_ok h6).2 h5, kb_some]
    simp only [decide_true, cnd_true]
    rw [s_ref03_text _ (val_dec3 h5) h6, kb_some]
  have b1 := itoaN_len d.f0.toNat
  have b2 := itoaN_len d.f1.toNat
  have b3 := txt_len d.f2
  refine g_ref07_Bytes ?_
  unfold B_ref07_Bytes
  rw [s_ref07_Plain d h6, hp, kb_some]
  simp only [decide_true, cnd_true]
  rw [s_Itoa h1 (by omega), kb_some, catK_some (by simp; omega), kb_some, catK_some (by simp; omega), kb_some, s_Itoa (by omega) (by omega), kb_some, catK_some (by simp; omega), kb_some, catK_some (by simp; omega), kb_some, ht, kb_some, catK_some (by simp; omega), kb_some]
  rfl
theorem s_Check {keys : List Int} {d : Decl} (h : DOk d) {k : Int} (hk : keys[d.f0.toNat]? = some k) : G_declaration_Check keys d = some (if d.f3 = tagV k (bytesV d) then 0 else 8) := by
  have hlt := (List.getElem?_eq_some_iff.1 hk).1
  have h0 := h.1.1
  have hl := bytesV_len h
  refine g_declaration_Check ?_
  unfold B_declaration_Check
  rw [s_declaration_Plain d h.2.1.2, plainE_ok h, kb_some]
  have : ¬ (keys.length : Int) ≤ d.f0 := by omega
  simp only [decide_true, cnd_true, this, decide_false, cnd_false]
  rw [getI_of h0.1 hk, kb_some, s_declaration_Bytes h, kb_some, s_declaration_Tag k (by omega), kb_some]
  by_cases c : d.f3 = tagV k (bytesV d) <;> simp [c, cnd_true, cnd_false]
theorem s_Keys {t : Tape} (ht : Tp t) (n : Int) (h1 : 1 ≤ n) (h2 : n ≤ 10) : ∃ l t', G_make_Keys t n = some (l, t') ∧ (l.length : Int) = n ∧ Tp t' := by
  have hloop := iterW_spec (A := List Int × Int × List Int × Int) (R := Unit) (f := fun a => B_make_Keys_0 n a.1 a.2.1 a.2.2.1 a.2.2.2)
    (fun k a => (0 ≤ a.2.2.2 ∧ a.2.2.2 ≤ n ∧ k = (n - a.2.2.2).toNat) ∧ (a.2.2.1.length : Int) = a.2.2.2 ∧ Tp ⟨a.1, a.2.1⟩)
    (fun x => ∃ a : List Int × Int × List Int × Int, x = .go a ∧ (a.2.2.1.length : Int) = n ∧ Tp ⟨a.1, a.2.1⟩) (by
      rintro k ⟨tl, ta, l, i⟩ ⟨⟨hi, hin, hk⟩, hl, htp⟩
      dsimp only at hi hin hk hl htp
      by_cases c : i < n
      · left
        obtain ⟨v, t', e, hv, ht'⟩ := s_N htp (n := 1000) (by omega) (by omega)
        refine ⟨(t'.f0, t'.f1, l ++ [addK .u64 (mulK .u64 (IntKind.wrap .u64 v) 2654435761) (mulK .u64 (IntKind.wrap .u64 i) 97)], i + 1), (n - (i + 1)).toNat, ?_, by omega, ⟨by show 0 ≤ i + 1; omega, by show i + 1 ≤ n; omega, rfl⟩, by simp; omega, ht'⟩
        unfold B_make_Keys_0
        simp only [c, decide_true, cnd_true]
        rw [e, kb_some, appK_some (by simp; omega), kb_some, add64_of (by omega) (by omega)]
      · right; left
        refine ⟨0, (tl, ta, l, i), ?_, (tl, ta, l, i), rfl, by dsimp only; omega, htp⟩
        unfold B_make_Keys_0
        simp only [c, decide_false, cnd_false]) (n - 0).toNat (t.f0, t.f1, [], 0) ⟨⟨by simp, by dsimp only; omega, rfl⟩, by simp, ht⟩
  obtain ⟨_, e, ⟨tl, ta, l, i⟩, rfl, h3, h4⟩ := hloop
  refine ⟨l, ⟨tl, ta⟩, g_make_Keys ?_, h3, h4⟩
  unfold B_make_Keys
  rw [e, kb_some, stpK_go]
/-- a trust that can be declared -/
def TOk (x : Tru) : Prop := (valB x = true ∧ x.Fine) ∧ (dep x ≤ 3 ∧ x.size ≤ 40)
theorem s_Declared {t : Tape} (ht : Tp t) (n : Int) (h1 : 1 ≤ n) (h2 : n ≤ 10) : ∃ x t', G_make_Declared t n = some (x, t') ∧ TOk x ∧ Tp t' := by
  obtain ⟨x, t1, e1, ⟨hv, hf, _⟩, ht1⟩ := s_mkTrust n h1 h2 2 (by omega) t ht
  have h0 : B_make_Declared_0 (x, t1) = some (decide (40 < x.size) || decide (3 < dep x)) := by
    unfold B_make_Declared_0
    dsimp only
    rw [s_ref02_Size x hf, kb_some]
    by_cases c : 40 < x.size
    · have : (40 : Int) < (x.size : Int) := by omega
      simp [c, this, cnd_true]
    · have : ¬ (40 : Int) < (x.size : Int) := by omega
      simp only [c, this, decide_false, cnd_false, Bool.false_or]
      rw [s_ref02_Depth x hf, kb_some]
      congr 1
      by_cases c : 3 < dep x
      · have : (3 : Int) < (dep x : Int) := by omega
        simp [c, this]
      · have : ¬ (3 : Int) < (dep x : Int) := by omega
        simp [c, this]
  cases hb : decide (40 < x.size) || decide (3 < dep x)
  · refine ⟨x, t1, g_make_Declared ?_, ⟨⟨hv, hf⟩, ?_⟩, ht1⟩
    · unfold B_make_Declared
      rw [e1, kb_some, h0, hb, kb_some, cnd_false]
    · rw [Bool.or_eq_false_iff, decide_eq_false_iff_not, decide_eq_false_iff_not] at hb
      omega
  · refine ⟨.mk 1 [0] [], t1, g_make_Declared ?_, ⟨⟨by decide, by rw [size_mk]; simp [sizes], by unfold in64; omega, fun k hk => by simp at hk; unfold in64; omega, trivial⟩, by decide, by decide⟩, ht1⟩
    unfold B_make_Declared
    rw [e1, kb_some, h0, hb, kb_some, cnd_true]
end Go.Am
namespace Go.Am
open Go Go.Proofs
set_option maxRecDepth 4000
set_option maxHeartbeats 4000000
open Int renaming ofNat_lt → Iqa, ofNat_le → Iqb, natCast_eq_zero → Iqc, natCast_pos → Iqd, cast_ofNat_Int → Iqe, natCast_zero → Iqf
open List renaming length_eq_zero_iff → Lqa, getElem?_cons_zero → Lqb, getElem?_cons_succ → Lqc, getElem?_nil → Lqd, length_cons → Lqe, length_nil → Lqf, nil_append → Lqg, cons_append → Lqh
open Nat renaming zero_add → Nqa
open Tru renaming thr_mk → Tqa, nodes_mk → Tqb, inner_mk → Tqc
open Go.Am renaming es_api_Declaration_cons → Eqa, es_api_Declaration_nil → Eqb, es_api_Evidence_cons → Eqc, es_api_Evidence_nil → Eqd, ints_cons → Eqe, ints_nil → Eqf, encTs_cons → Eqg, encTs_nil → Eqh, es_str_cons → Eqi, es_str_nil → Eqj, es_u64_cons → Eqk, es_u64_nil → Eql, es_u8_cons → Eqm, es_u8_nil → Eqn
noncomputable def B_declaration_copied_0 (p0 : Tru) (i3 : Nat) (xb1_6_2_0 : (List Tru)) (e4 : Tru) : Option (List Tru) :=
  kb (G_declaration_copied e4) fun y4 =>
  kb (appK xb1_6_2_0 ([y4] : List Tru) 56) fun L6 =>
  some L6
def I_declaration_copied_0 (p0 : Tru) (i3 : Nat) (xb1_6_2_0 : (List Tru)) (q : St) : Prop := q (.t 13) = (.pv (.sl p0.inner.length (encTs p0.inner))) ∧ q (.t 14) = (i64 (p0.inner.length : Int)) ∧ q (.t 15) = (i64 (i3 : Int)) ∧ (∃ (g : Nat), q (.t 2) = .ptr (.site 0 1 0) g 0 ∧ q (.i (.site 0 1 0)) = .box g [(i64 0), .nilsl, .nilsl]) ∧ (∃ (g : Nat) (w0 : AV) (w1 : AV), q (.t 3) = .ptr (.site 1 6 0) g 0 ∧ q (.i (.site 1 6 0)) = .box g [(i64 p0.thr), w0, w1] ∧ (ownAt q w0 (.site 1 4 0) false 1 p0.nodes.length (ints p0.nodes) ∨ (w0 = .nilsl ∧ p0.nodes = [])) ∧ (ownAt q w1 (.site 5 5 0) false 3 xb1_6_2_0.length (encTs xb1_6_2_0) ∨ (w1 = .nilsl ∧ xb1_6_2_0 = [])))
def Q_declaration_copied_0 (p0 : Tru) (xb1_6_2_0 : (List Tru)) (q : St) : Prop := (∃ (g : Nat), q (.t 2) = .ptr (.site 0 1 0) g 0 ∧ q (.i (.site 0 1 0)) = .box g [(i64 0), .nilsl, .nilsl]) ∧ (∃ (g : Nat) (w0 : AV) (w1 : AV), q (.t 3) = .ptr (.site 1 6 0) g 0 ∧ q (.i (.site 1 6 0)) = .box g [(i64 p0.thr), w0, w1] ∧ (ownAt q w0 (.site 1 4 0) false 1 p0.nodes.length (ints p0.nodes) ∨ (w0 = .nilsl ∧ p0.nodes = [])) ∧ (ownAt q w1 (.site 5 5 0) false 3 xb1_6_2_0.length (encTs xb1_6_2_0) ∨ (w1 = .nilsl ∧ xb1_6_2_0 = [])))
theorem Pb_declaration_copied_0 {p0 : Tru} {i3 : Nat} {xb1_6_2_0 : (List Tru)} {e4 : Tru} {q : St} {r : (List Tru)} (hx : p0.inner[i3]? = some e4) (hi : i3 < p0.inner.length) (hn : p0.inner.length < 4611686018427387904) (hI : I_declaration_copied_0 p0 i3 xb1_6_2_0 q) (hB : B_declaration_copied_0 p0 i3 xb1_6_2_0 e4 = some r) : Res (C Tryz.prog cf (Code.fst (Code.fst (Code.snd (Code.fst (Code.snd (Code.snd ((Tryz.f40.body).getD .skip))))))) q) (postG (fun a q => I_declaration_copied_0 p0 (i3 + 1) a q) r) := by
  have hi3 : (i3 : Int) < (p0.inner.length : Int) := by omega
  have hi2 := decide_eq_true hi3
  have hi4 := idx_step hi hn
  have hi5 := ne_of_get hx
  simp only [I_declaration_copied_0] at hI
  obtain ⟨q1, q2, q3, ⟨g5, q4, q5⟩, ⟨g7, v7_w0, v7_w1, q6, q7, a7_w0, a7_w1⟩⟩ := hI
  simp only [Code.fst, Code.snd, Tryz.f40, Option.getD_some]
  generalize hr4 : Code.region 4 _ _ = rr4
  generalize hr5 : Code.region 5 _ _ = rr5
  unfold B_declaration_copied_0 at hB
  rcases a7_w0 with ⟨ga7_w0, rfl, oa7_w0⟩ | ⟨rfl, ea7_w0⟩
  · rcases a7_w1 with ⟨ga7_w1, rfl, oa7_w1⟩ | ⟨rfl, ea7_w1⟩
    · have l3 := encTs_ld hx
      obtain ⟨y4, k5, hB⟩ := kb_inv hB
      replace k5 := run_declaration_copied k5
      try simp only [Iqe, Iqf, Lqe, Lqf, Lqg, Lqh, Nqa, Nat.reduceAdd, Tqa, Tqb, Tqc, Eqe, Eqf, Eqg, Eqh, Eqa, Eqb, Eqc, Eqd, Eqi, Eqj, Eqk, Eql, Eqm, Eqn] at k5
      try dsimp only at hB
      obtain ⟨L6, a7, hB⟩ := kb_inv hB
      obtain ⟨a7z, a7a, a7y⟩ := appK_inv a7
      try (simp only [Lqg] at a7z; subst a7z)
      have a7b := appK_len a7
      have a7c := encTs_appK a7
      have a7d := appK_le a7
      try simp only [Iqe, Iqf, Lqe, Lqf, Lqg, Lqh, Nqa, Nat.reduceAdd, Tqa, Tqb, Tqc, Eqe, Eqf, Eqg, Eqh, Eqa, Eqb, Eqc, Eqd, Eqi, Eqj, Eqk, Eql, Eqm, Eqn] at a7a a7b a7c
      try replace a7b : _ = (1 : Nat) := a7b.symm
      try dsimp only at hB
      obtain rfl := Option.some.inj hB
      subst hr4
      subst hr5
      try simp -implicitDefEqProofs [-getElem?_pos, -Iqa, -Iqb, -Iqc, -Iqd, -Lqa, Lqb, Lqc, Lqd, q1, q2, q3, q4, q5, q6, q7, oa7_w0, oa7_w1, hx, hi2, hi3, hi4, hi5, l3, k5, a7a, a7b, a7c, a7d]
      rw [drawK_ok _ _ _ (by kernel_rfl)]
      simp -implicitDefEqProofs [-getElem?_pos, -Iqa, -Iqb, -Iqc, -Iqd, -Lqa, Lqb, Lqc, Lqd, q1, q2, q3, q4, q5, q6, q7, oa7_w0, oa7_w1, hx, hi2, hi3, hi4, hi5, l3, k5, a7a, a7b, a7c, a7d]
      refine Res.g ?_
      simp -implicitDefEqProofs [-getElem?_pos, -Iqa, -Iqb, -Iqc, -Iqd, -Lqa, Lqb, Lqc, Lqd, and_assoc, I_declaration_copied_0, ownAt, q1, q2, q3, q4, q5, q6, q7, oa7_w0, oa7_w1, hx, hi2, hi3, hi4, hi5, l3, k5, a7a, a7b, a7c, a7d]
    · try subst ea7_w1
      have l3 := encTs_ld hx
      obtain ⟨y4, k5, hB⟩ := kb_inv hB
      replace k5 := run_declaration_copied k5
      try simp only [Iqe, Iqf, Lqe, Lqf, Lqg, Lqh, Nqa, Nat.reduceAdd, Tqa, Tqb, Tqc, Eqe, Eqf, Eqg, Eqh, Eqa, Eqb, Eqc, Eqd, Eqi, Eqj, Eqk, Eql, Eqm, Eqn] at k5
      try dsimp only at hB
      obtain ⟨L6, a7, hB⟩ := kb_inv hB
      obtain ⟨a7z, a7a, a7y⟩ := appK_inv a7
      simp only [Lqg] at a7z
      subst a7z
      try dsimp only at hB
      obtain rfl := Option.some.inj hB
      subst hr4
      subst hr5
      try simp -implicitDefEqProofs [-getElem?_pos, -Iqa, -Iqb, -Iqc, -Iqd, -Lqa, Lqb, Lqc, Lqd, q1, q2, q3, q4, q5, q6, q7, oa7_w0, hx, hi2, hi3, hi4, hi5, l3, k5]
      rw [drawK_ok _ _ _ (by kernel_rfl)]
      simp -implicitDefEqProofs [-getElem?_pos, -Iqa, -Iqb, -Iqc, -Iqd, -Lqa, Lqb, Lqc, Lqd, q1, q2, q3, q4, q5, q6, q7, oa7_w0, hx, hi2, hi3, hi4, hi5, l3, k5]
      refine Res.g ?_
      simp -implicitDefEqProofs [-getElem?_pos, -Iqa, -Iqb, -Iqc, -Iqd, -Lqa, Lqb, Lqc, Lqd, and_assoc, I_declaration_copied_0, ownAt, q1, q2, q3, q4, q5, q6, q7, oa7_w0, hx, hi2, hi3, hi4, hi5, l3, k5]; all_goals ((repeat' apply And.intro) <;> assumption)
  · rcases a7_w1 with ⟨ga7_w1, rfl, oa7_w1⟩ | ⟨rfl, ea7_w1⟩
    · have l3 := encTs_ld hx
      obtain ⟨y4, k5, hB⟩ := kb_inv hB
      replace k5 := run_declaration_copied k5
      try simp only [Iqe, Iqf, Lqe, Lqf, Lqg, Lqh, Nqa, Nat.reduceAdd, Tqa, Tqb, Tqc, Eqe, Eqf, Eqg, Eqh, Eqa, Eqb, Eqc, Eqd, Eqi, Eqj, Eqk, Eql, Eqm, Eqn] at k5
      try dsimp only at hB
      obtain ⟨L6, a7, hB⟩ := kb_inv hB
      obtain ⟨a7z, a7a, a7y⟩ := appK_inv a7
      try (simp only [Lqg] at a7z; subst a7z)
      have a7b := appK_len a7
      have a7c := encTs_appK a7
      have a7d := appK_le a7
      try simp only [Iqe, Iqf, Lqe, Lqf, Lqg, Lqh, Nqa, Nat.reduceAdd, Tqa, Tqb, Tqc, Eqe, Eqf, Eqg, Eqh, Eqa, Eqb, Eqc, Eqd, Eqi, Eqj, Eqk, Eql, Eqm, Eqn] at a7a a7b a7c
      try replace a7b : _ = (1 : Nat) := a7b.symm
      try dsimp only at hB
      obtain rfl := Option.some.inj hB
      subst hr4
      subst hr5
      try simp -implicitDefEqProofs [-getElem?_pos, -Iqa, -Iqb, -Iqc, -Iqd, -Lqa, Lqb, Lqc, Lqd, q1, q2, q3, q4, q5, q6, q7, ea7_w0, oa7_w1, hx, hi2, hi3, hi4, hi5, l3, k5, a7a, a7b, a7c, a7d]
      rw [drawK_ok _ _ _ (by kernel_rfl)]
      simp -implicitDefEqProofs [-getElem?_pos, -Iqa, -Iqb, -Iqc, -Iqd, -Lqa, Lqb, Lqc, Lqd, q1, q2, q3, q4, q5, q6, q7, ea7_w0, oa7_w1, hx, hi2, hi3, hi4, hi5, l3, k5, a7a, a7b, a7c, a7d]
      refine Res.g ?_
      simp -implicitDefEqProofs [-getElem?_pos, -Iqa, -Iqb, -Iqc, -Iqd, -Lqa, Lqb, Lqc, Lqd, and_assoc, I_declaration_copied_0, ownAt, q1, q2, q3, q4, q5, q6, q7, ea7_w0, oa7_w1, hx, hi2, hi3, hi4, hi5, l3, k5, a7a, a7b, a7c, a7d]; all_goals ((repeat' apply And.intro) <;> assumption)
    · try subst ea7_w1
      have l3 := encTs_ld hx
      obtain ⟨y4, k5, hB⟩ := kb_inv hB
      replace k5 := run_declaration_copied k5
      try simp only [Iqe, Iqf, Lqe, Lqf, Lqg, Lqh, Nqa, Nat.reduceAdd, Tqa, Tqb, Tqc, Eqe, Eqf, Eqg, Eqh, Eqa, Eqb, Eqc, Eqd, Eqi, Eqj, Eqk, Eql, Eqm, Eqn] at k5
      try dsimp only at hB
      obtain ⟨L6, a7, hB⟩ := kb_inv hB
      obtain ⟨a7z, a7a, a7y⟩ := appK_inv a7
      simp only [Lqg] at a7z
      subst a7z
      try dsimp only at hB
      obtain rfl := Option.some.inj hB
      subst hr4
      subst hr5
      try simp -implicitDefEqProofs [-getElem?_pos, -Iqa, -Iqb, -Iqc, -Iqd, -Lqa, Lqb, Lqc, Lqd, q1, q2, q3, q4, q5, q6, q7, ea7_w0, hx, hi2, hi3, hi4, hi5, l3, k5]
      rw [drawK_ok _ _ _ (by kernel_rfl)]
      simp -implicitDefEqProofs [-getElem?_pos, -Iqa, -Iqb, -Iqc, -Iqd, -Lqa, Lqb, Lqc, Lqd, q1, q2, q3, q4, q5, q6, q7, ea7_w0, hx, hi2, hi3, hi4, hi5, l3, k5]
      refine Res.g ?_
      simp -implicitDefEqProofs [-getElem?_pos, -Iqa, -Iqb, -Iqc, -Iqd, -Lqa, Lqb, Lqc, Lqd, and_assoc, I_declaration_copied_0, ownAt, q1, q2, q3, q4, q5, q6, q7, ea7_w0, hx, hi2, hi3, hi4, hi5, l3, k5]; all_goals ((repeat' apply And.intro) <;> assumption)
theorem Pe_declaration_copied_0 {p0 : Tru} {xb1_6_2_0 : (List Tru)} {q : St} (hI : I_declaration_copied_0 p0 p0.inner.length xb1_6_2_0 q) : Res (C Tryz.prog cf (Code.fst (Code.fst (Code.snd (Code.fst (Code.snd (Code.snd ((Tryz.f40.body).getD .skip))))))) q) fun e q' => e = .exit 0 ∧ Q_declaration_copied_0 p0 xb1_6_2_0 q' := by
  simp only [I_declaration_copied_0] at hI
  obtain ⟨q1, q2, q3, ⟨g5, q4, q5⟩, ⟨g7, v7_w0, v7_w1, q6, q7, a7_w0, a7_w1⟩⟩ := hI
  simp only [Code.fst, Code.snd, Tryz.f40, Option.getD_some]
  rcases a7_w0 with ⟨ga7_w0, rfl, oa7_w0⟩ | ⟨rfl, ea7_w0⟩
  · rcases a7_w1 with ⟨ga7_w1, rfl, oa7_w1⟩ | ⟨rfl, ea7_w1⟩
    · simp -implicitDefEqProofs [-getElem?_pos, -Iqa, -Iqb, -Iqc, -Iqd, -Lqa, Lqb, Lqc, Lqd, q1, q2, q3, q4, q5, q6, q7, oa7_w0, oa7_w1]
      refine Res.x ?_
      simp -implicitDefEqProofs [-getElem?_pos, -Iqa, -Iqb, -Iqc, -Iqd, -Lqa, Lqb, Lqc, Lqd, and_assoc, Q_declaration_copied_0, ownAt, q1, q2, q3, q4, q5, q6, q7, oa7_w0, oa7_w1]
    · try subst ea7_w1
      simp -implicitDefEqProofs [-getElem?_pos, -Iqa, -Iqb, -Iqc, -Iqd, -Lqa, Lqb, Lqc, Lqd, q1, q2, q3, q4, q5, q6, q7, oa7_w0]
      refine Res.x ?_
      simp -implicitDefEqProofs [-getElem?_pos, -Iqa, -Iqb, -Iqc, -Iqd, -Lqa, Lqb, Lqc, Lqd, and_assoc, Q_declaration_copied_0, ownAt, q1, q2, q3, q4, q5, q6, q7, oa7_w0]
  · rcases a7_w1 with ⟨ga7_w1, rfl, oa7_w1⟩ | ⟨rfl, ea7_w1⟩
    · simp -implicitDefEqProofs [-getElem?_pos, -Iqa, -Iqb, -Iqc, -Iqd, -Lqa, Lqb, Lqc, Lqd, q1, q2, q3, q4, q5, q6, q7, ea7_w0, oa7_w1]
      refine Res.x ?_
      simp -implicitDefEqProofs [-getElem?_pos, -Iqa, -Iqb, -Iqc, -Iqd, -Lqa, Lqb, Lqc, Lqd, and_assoc, Q_declaration_copied_0, ownAt, q1, q2, q3, q4, q5, q6, q7, ea7_w0, oa7_w1]
    · try subst ea7_w1
      simp -implicitDefEqProofs [-getElem?_pos, -Iqa, -Iqb, -Iqc, -Iqd, -Lqa, Lqb, Lqc, Lqd, q1, q2, q3, q4, q5, q6, q7, ea7_w0]
      refine Res.x ?_
      simp -implicitDefEqProofs [-getElem?_pos, -Iqa, -Iqb, -Iqc, -Iqd, -Lqa, Lqb, Lqc, Lqd, and_assoc, Q_declaration_copied_0, ownAt, q1, q2, q3, q4, q5, q6, q7, ea7_w0]
theorem P_declaration_copied_0 {p0 : Tru} {xb1_6_2_0 : (List Tru)} {cc : Code} (hcc : cc = .block 0 (.loop (Code.fst (Code.fst (Code.snd (Code.fst (Code.snd (Code.snd ((Tryz.f40.body).getD .skip))))))))) {s : St} {z : Option (Ex × St)} (hz : C Tryz.prog cf cc s = z) {r : (List Tru)} (hn : p0.inner.length < 4611686018427387904) (hI : I_declaration_copied_0 p0 0 xb1_6_2_0 s) (hB : foldO (fun i a x => B_declaration_copied_0 p0 i a x) 0 xb1_6_2_0 p0.inner = some r) : Res z (postG (fun a q => Q_declaration_copied_0 p0 a q) r) := by
  subst hcc
  exact fold_sim (I := fun i a q => I_declaration_copied_0 p0 i a q) (Q := (fun a q => Q_declaration_copied_0 p0 a q)) (fun i x a q r hx hi h hB => Pb_declaration_copied_0 hx hi hn h hB) (fun a q h => Pe_declaration_copied_0 h) hI hz hB
noncomputable def B_declaration_copied (p0 : Tru) : Option Tru :=
  kb (appK ([] : (List Int)) p0.nodes 8) fun _ =>
  kb (smallK p0.inner) fun _ =>
  kb (foldO (fun i a x => B_declaration_copied_0 p0 i a x) 0 ([] : (List Tru)) p0.inner) fun z8 =>
  some (Tru.mk p0.thr p0.nodes z8)
theorem sim_declaration_copied {p0 : Tru} {r : Tru} (hB : B_declaration_copied p0 = some r) : R 40 [(.agg [(i64 p0.thr), (.pv (.sl p0.nodes.length (ints p0.nodes))), (.pv (.sl p0.inner.length (encTs p0.inner)))])] [] = some ((.agg [(i64 r.thr), (.pv (.sl r.nodes.length (ints r.nodes))), (.pv (.sl r.inner.length (encTs r.inner)))]), [], []) := by
  rw [R_eq _ _ _ fn_declaration_copied]
  simp only [Code.fst, Code.snd, Tryz.f40, Option.getD_some]
  generalize hc0 : Code.block 0 _ = cc0
  generalize hr1 : Code.region 1 _ _ = rr1
  generalize hr2 : Code.region 2 _ _ = rr2
  unfold B_declaration_copied at hB
  obtain ⟨_, a2, hB⟩ := kb_inv hB
  obtain ⟨a2z, a2a, a2y⟩ := appK_inv a2
  try dsimp only at hB
  rcases appK_cases a2 with a2e | a2e
  · have a2e2 := List.eq_nil_of_length_eq_zero a2e
    subst hr1
    subst hr2
    try simp -implicitDefEqProofs [-getElem?_pos, -Iqa, -Iqb, -Iqc, -Iqd, -Lqa, Lqb, Lqc, Lqd, a2e, a2e2]
    rw [drawK_ok _ _ _ (by kernel_rfl)]
    simp -implicitDefEqProofs [-getElem?_pos, -Iqa, -Iqb, -Iqc, -Iqd, -Lqa, Lqb, Lqc, Lqd, a2e, a2e2]
    generalize hz0 : C Tryz.prog cf cc0 _ = z0
    obtain ⟨_, hsm, hB⟩ := kb_inv hB
    obtain ⟨z8, hB1, hB⟩ := kb_inv hB
    have hJ := P_declaration_copied_0 (hc0.symm.trans (by kernel_rfl)) hz0 (smallK_inv hsm) (by simp -implicitDefEqProofs [-getElem?_pos, -Iqa, -Iqb, -Iqc, -Iqd, -Lqa, Lqb, Lqc, Lqd, and_assoc, I_declaration_copied_0, ownAt, a2e, a2e2]) hB1
    obtain ⟨e0, s0, rfl, hq⟩ := hJ.open
    clear hB1
    obtain ⟨rfl, hq⟩ := hq
    simp only [Q_declaration_copied_0] at hq
    obtain ⟨⟨g8_2, q8_1, q8_2⟩, ⟨g8_4, v8_4_w0, v8_4_w1, q8_3, q8_4, a8_4_w0, a8_4_w1⟩⟩ := hq
    rcases a8_4_w0 with ⟨ga8_4_w0, rfl, oa8_4_w0⟩ | ⟨rfl, ea8_4_w0⟩
    · rcases a8_4_w1 with ⟨ga8_4_w1, rfl, oa8_4_w1⟩ | ⟨rfl, ea8_4_w1⟩
      · obtain rfl := Option.some.inj hB
        simp -implicitDefEqProofs [-getElem?_pos, -Iqa, -Iqb, -Iqc, -Iqd, -Lqa, Lqb, Lqc, Lqd, q8_1, q8_2, q8_3, q8_4, oa8_4_w0, oa8_4_w1, a2e, a2e2]
      · try subst ea8_4_w1
        obtain rfl := Option.some.inj hB
        simp -implicitDefEqProofs [-getElem?_pos, -Iqa, -Iqb, -Iqc, -Iqd, -Lqa, Lqb, Lqc, Lqd, q8_1, q8_2, q8_3, q8_4, oa8_4_w0, a2e, a2e2]
    · rcases a8_4_w1 with ⟨ga8_4_w1, rfl, oa8_4_w1⟩ | ⟨rfl, ea8_4_w1⟩
      · obtain rfl := Option.some.inj hB
        simp -implicitDefEqProofs [-getElem?_pos, -Iqa, -Iqb, -Iqc, -Iqd, -Lqa, Lqb, Lqc, Lqd, q8_1, q8_2, q8_3, q8_4, ea8_4_w0, oa8_4_w1, a2e, a2e2]
      · try subst ea8_4_w1
        obtain rfl := Option.some.inj hB
        simp -implicitDefEqProofs [-getElem?_pos, -Iqa, -Iqb, -Iqc, -Iqd, -Lqa, Lqb, Lqc, Lqd, q8_1, q8_2, q8_3, q8_4, ea8_4_w0, a2e, a2e2]
  · subst hr1
    subst hr2
    try simp -implicitDefEqProofs [-getElem?_pos, -Iqa, -Iqb, -Iqc, -Iqd, -Lqa, Lqb, Lqc, Lqd, a2e, a2y]
    rw [drawK_ok _ _ _ (by kernel_rfl)]
    simp -implicitDefEqProofs [-getElem?_pos, -Iqa, -Iqb, -Iqc, -Iqd, -Lqa, Lqb, Lqc, Lqd, a2e, a2y]
    generalize hz0 : C Tryz.prog cf cc0 _ = z0
    obtain ⟨_, hsm, hB⟩ := kb_inv hB
    obtain ⟨z8, hB1, hB⟩ := kb_inv hB
    have hJ := P_declaration_copied_0 (hc0.symm.trans (by kernel_rfl)) hz0 (smallK_inv hsm) (by simp -implicitDefEqProofs [-getElem?_pos, -Iqa, -Iqb, -Iqc, -Iqd, -Lqa, Lqb, Lqc, Lqd, and_assoc, I_declaration_copied_0, ownAt, a2e, a2y]) hB1
    obtain ⟨e0, s0, rfl, hq⟩ := hJ.open
    clear hB1
    obtain ⟨rfl, hq⟩ := hq
    simp only [Q_declaration_copied_0] at hq
    obtain ⟨⟨g8_2, q8_1, q8_2⟩, ⟨g8_4, v8_4_w0, v8_4_w1, q8_3, q8_4, a8_4_w0, a8_4_w1⟩⟩ := hq
    rcases a8_4_w0 with ⟨ga8_4_w0, rfl, oa8_4_w0⟩ | ⟨rfl, ea8_4_w0⟩
    · rcases a8_4_w1 with ⟨ga8_4_w1, rfl, oa8_4_w1⟩ | ⟨rfl, ea8_4_w1⟩
      · obtain rfl := Option.some.inj hB
        simp -implicitDefEqProofs [-getElem?_pos, -Iqa, -Iqb, -Iqc, -Iqd, -Lqa, Lqb, Lqc, Lqd, q8_1, q8_2, q8_3, q8_4, oa8_4_w0, oa8_4_w1, a2e, a2y]
      · try subst ea8_4_w1
        obtain rfl := Option.some.inj hB
        simp -implicitDefEqProofs [-getElem?_pos, -Iqa, -Iqb, -Iqc, -Iqd, -Lqa, Lqb, Lqc, Lqd, q8_1, q8_2, q8_3, q8_4, oa8_4_w0, a2e, a2y]
    · rcases a8_4_w1 with ⟨ga8_4_w1, rfl, oa8_4_w1⟩ | ⟨rfl, ea8_4_w1⟩
      · obtain rfl := Option.some.inj hB
        simp -implicitDefEqProofs [-getElem?_pos, -Iqa, -Iqb, -Iqc, -Iqd, -Lqa, Lqb, Lqc, Lqd, q8_1, q8_2, q8_3, q8_4, ea8_4_w0, oa8_4_w1, a2e, a2y]
      · try subst ea8_4_w1
        obtain rfl := Option.some.inj hB
        simp -implicitDefEqProofs [-getElem?_pos, -Iqa, -Iqb, -Iqc, -Iqd, -Lqa, Lqb, Lqc, Lqd, q8_1, q8_2, q8_3, q8_4, ea8_4_w0, a2e, a2y]
theorem g_declaration_copied {p0 : Tru} {r : Tru} (hB : B_declaration_copied p0 = some r) : G_declaration_copied p0 = some r := dec_of (fun a b h => by rcases a with ⟨a0_0, a0_1, a0_2⟩; rcases b with ⟨b0_0, b0_1, b0_2⟩; simp at h; simp [*]) (sim_declaration_copied hB)
end Go.Am
namespace Go.Am
open Go Go.Proofs
set_option maxRecDepth 4000
set_option maxHeartbeats 4000000
open Int renaming ofNat_lt → Iqa, ofNat_le → Iqb, natCast_eq_zero → Iqc, natCast_pos → Iqd, cast_ofNat_Int → Iqe, natCast_zero → Iqf
open List renaming length_eq_zero_iff → Lqa, getElem?_cons_zero → Lqb, getElem?_cons_succ → Lqc, getElem?_nil → Lqd, length_cons → Lqe, length_nil → Lqf, nil_append → Lqg, cons_append → Lqh
open Nat renaming zero_add → Nqa
open Tru renaming thr_mk → Tqa, nodes_mk → Tqb, inner_mk → Tqc
open Go.Am renaming es_api_Declaration_cons → Eqa, es_api_Declaration_nil → Eqb, es_api_Evidence_cons → Eqc, es_api_Evidence_nil → Eqd, ints_cons → Eqe, ints_nil → Eqf, encTs_cons → Eqg, encTs_nil → Eqh, es_str_cons → Eqi, es_str_nil → Eqj, es_u64_cons → Eqk, es_u64_nil → Eql, es_u8_cons → Eqm, es_u8_nil → Eqn
noncomputable def B_declaration_Sign (p0 : Int) (p1 : Int) (p2 : Int) (p3 : Tru) : Option (S_api_Declaration × Int) :=
  kb (G_declaration_copied p3) fun y1 =>
  kb (G_declaration_Plain (S_api_Declaration.mk p1 p2 y1 0)) fun y3 =>
  cnd (decide (y3 = 0)) (
    kb (G_declaration_Bytes (S_api_Declaration.mk p1 p2 y1 0)) fun y6 =>
    kb (G_declaration_Tag p0 y6) fun y8 =>
    some ((S_api_Declaration.mk p1 p2 y1 y8), 0)) (
    some ((S_api_Declaration.mk 0 0 (Tru.mk 0 ([] : (List Int)) ([] : (List Tru))) 0), y3))
theorem sim_declaration_Sign {p0 : Int} {p1 : Int} {p2 : Int} {p3 : Tru} {r : (S_api_Declaration × Int)} (hB : B_declaration_Sign p0 p1 p2 p3 = some r) : R 10 [(.pv (.int .u64 p0)), (i64 p1), (i64 p2), (.agg [(i64 p3.thr), (.pv (.sl p3.nodes.length (ints p3.nodes))), (.pv (.sl p3.inner.length (encTs p3.inner)))])] [] = some (.tup [(.agg [(i64 r.1.f0), (i64 r.1.f1), (i64 r.1.f2.thr), (.pv (.sl r.1.f2.nodes.length (ints r.1.f2.nodes))), (.pv (.sl r.1.f2.inner.length (encTs r.1.f2.inner))), (.pv (.int .u64 r.1.f3))]), (i64 r.2)], [], []) := by
  rw [R_eq _ _ _ fn_declaration_Sign]
  simp only [Code.fst, Code.snd, Tryz.f10, Option.getD_some]
  generalize hr1 : Code.region 1 _ _ = rr1
  generalize hr4 : Code.region 4 _ _ = rr4
  generalize hr5 : Code.region 5 _ _ = rr5
  unfold B_declaration_Sign at hB
  obtain ⟨y1, k2, hB⟩ := kb_inv hB
  replace k2 := run_declaration_copied k2
  try simp only [Iqe, Iqf, Lqe, Lqf, Lqg, Lqh, Nqa, Nat.reduceAdd, Tqa, Tqb, Tqc, Eqe, Eqf, Eqg, Eqh, Eqa, Eqb, Eqc, Eqd, Eqi, Eqj, Eqk, Eql, Eqm, Eqn] at k2
  try dsimp only at hB
  obtain ⟨y3, k4, hB⟩ := kb_inv hB
  replace k4 := run_declaration_Plain k4
  try simp only [Iqe, Iqf, Lqe, Lqf, Lqg, Lqh, Nqa, Nat.reduceAdd, Tqa, Tqb, Tqc, Eqe, Eqf, Eqg, Eqh, Eqa, Eqb, Eqc, Eqd, Eqi, Eqj, Eqk, Eql, Eqm, Eqn] at k4
  try dsimp only at hB
  rcases cnd_inv hB with ⟨c5, hB⟩ | ⟨c5, hB⟩
  · have pc5 := eq_true (of_decide_eq_true c5)
    obtain ⟨y6, k7, hB⟩ := kb_inv hB
    replace k7 := run_declaration_Bytes k7
    try simp only [Iqe, Iqf, Lqe, Lqf, Lqg, Lqh, Nqa, Nat.reduceAdd, Tqa, Tqb, Tqc, Eqe, Eqf, Eqg, Eqh, Eqa, Eqb, Eqc, Eqd, Eqi, Eqj, Eqk, Eql, Eqm, Eqn] at k7
    try dsimp only at hB
    obtain ⟨y8, k9, hB⟩ := kb_inv hB
    replace k9 := run_declaration_Tag k9
    try simp only [Iqe, Iqf, Lqe, Lqf, Lqg, Lqh, Nqa, Nat.reduceAdd, Tqa, Tqb, Tqc, Eqe, Eqf, Eqg, Eqh, Eqa, Eqb, Eqc, Eqd, Eqi, Eqj, Eqk, Eql, Eqm, Eqn] at k9
    try dsimp only at hB
    obtain rfl := Option.some.inj hB
    subst hr1
    subst hr5
    simp -implicitDefEqProofs [-getElem?_pos, -Iqa, -Iqb, -Iqc, -Iqd, -Lqa, Lqb, Lqc, Lqd, k2, k4, c5, pc5, k7, k9]
  · have pc5 := eq_false (of_decide_eq_false c5)
    obtain rfl := Option.some.inj hB
    subst hr1
    subst hr4
    simp -implicitDefEqProofs [-getElem?_pos, -Iqa, -Iqb, -Iqc, -Iqd, -Lqa, Lqb, Lqc, Lqd, k2, k4, c5, pc5]
theorem g_declaration_Sign {p0 : Int} {p1 : Int} {p2 : Int} {p3 : Tru} {r : (S_api_Declaration × Int)} (hB : B_declaration_Sign p0 p1 p2 p3 = some r) : G_declaration_Sign p0 p1 p2 p3 = some r := dec_of (fun a b h => by rcases a with ⟨⟨a0_0, a0_1, ⟨a0_20, a0_21, a0_22⟩, a0_3⟩, a1_⟩; rcases b with ⟨⟨b0_0, b0_1, ⟨b0_20, b0_21, b0_22⟩, b0_3⟩, b1_⟩; simp at h; simp [*]) (sim_declaration_Sign hB)
end Go.Am
namespace Go.Am
open Go Go.Proofs
set_option maxRecDepth 4000
set_option maxHeartbeats 4000000
open Int renaming ofNat_lt → Iqa, ofNat_le → Iqb, natCast_eq_zero → Iqc, natCast_pos → Iqd, cast_ofNat_Int → Iqe, natCast_zero → Iqf
open List renaming length_eq_zero_iff → Lqa, getElem?_cons_zero → Lqb, getElem?_cons_succ → Lqc, getElem?_nil → Lqd, length_cons → Lqe, length_nil → Lqf, nil_append → Lqg, cons_append → Lqh
open Nat renaming zero_add → Nqa
open Tru renaming thr_mk → Tqa, nodes_mk → Tqb, inner_mk → Tqc
open Go.Am renaming es_api_Declaration_cons → Eqa, es_api_Declaration_nil → Eqb, es_api_Evidence_cons → Eqc, es_api_Evidence_nil → Eqd, ints_cons → Eqe, ints_nil → Eqf, encTs_cons → Eqg, encTs_nil → Eqh, es_str_cons → Eqi, es_str_nil → Eqj, es_u64_cons → Eqk, es_u64_nil → Eql, es_u8_cons → Eqm, es_u8_nil → Eqn
noncomputable def B_declaration_Proves_0 (p1 : S_api_Evidence) : Option Bool :=
  cnd (decide (p1.f0.f0 = p1.f1.f0)) (
    some (!(decide (p1.f0.f1 = p1.f1.f1)))) (
    some true)
def J_declaration_Proves_0 (p1 : S_api_Evidence) (q : St) : Prop := (∃ (g : Nat), q (.t 3) = .ptr (.site 0 0 0) g 0 ∧ q (.i (.site 0 0 0)) = .box g [(i64 p1.f0.f0), (i64 p1.f0.f1), (i64 p1.f0.f2.thr), (.pv (.sl p1.f0.f2.nodes.length (ints p1.f0.f2.nodes))), (.pv (.sl p1.f0.f2.inner.length (encTs p1.f0.f2.inner))), (.pv (.int .u64 p1.f0.f3)), (i64 p1.f1.f0), (i64 p1.f1.f1), (i64 p1.f1.f2.thr), (.pv (.sl p1.f1.f2.nodes.length (ints p1.f1.f2.nodes))), (.pv (.sl p1.f1.f2.inner.length (encTs p1.f1.f2.inner))), (.pv (.int .u64 p1.f1.f3))])
def Q_declaration_Proves_0 (p1 : S_api_Evidence) (o36_0 : Bool) (q : St) : Prop := q (.t 36) = (bl o36_0) ∧ (∃ (g : Nat), q (.t 3) = .ptr (.site 0 0 0) g 0 ∧ q (.i (.site 0 0 0)) = .box g [(i64 p1.f0.f0), (i64 p1.f0.f1), (i64 p1.f0.f2.thr), (.pv (.sl p1.f0.f2.nodes.length (ints p1.f0.f2.nodes))), (.pv (.sl p1.f0.f2.inner.length (encTs p1.f0.f2.inner))), (.pv (.int .u64 p1.f0.f3)), (i64 p1.f1.f0), (i64 p1.f1.f1), (i64 p1.f1.f2.thr), (.pv (.sl p1.f1.f2.nodes.length (ints p1.f1.f2.nodes))), (.pv (.sl p1.f1.f2.inner.length (encTs p1.f1.f2.inner))), (.pv (.int .u64 p1.f1.f3))])
noncomputable def B_declaration_Proves (p0 : (List Int)) (p1 : S_api_Evidence) : Option Int :=
  kb (G_declaration_Check p0 p1.f0) fun y1 =>
  cnd (decide (y1 = 0)) (
    kb (G_declaration_Check p0 p1.f1) fun y4 =>
    cnd (decide (y4 = 0)) (
      kb (B_declaration_Proves_0 p1) fun z8 =>
      cnd z8 (
        some 1) (
        kb (G_declaration_Bytes p1.f0) fun y10 =>
        kb (G_declaration_Bytes p1.f1) fun y12 =>
        cnd (Op.bytesLess y10 y12) (
          some 0) (
          some 7))) (
      some y4)) (
    some y1)
end Go.Am
/-
Plain laws of chapter 07: the order of bytes, signatures, evidence.
-/
namespace Go.Am
open Go
/-! ### the order of bytes -/
theorem bl_irrefl : ∀ l : List UInt8, Op.bytesLess l l = false
  | [] => rfl
  | a :: l => by simp [Op.bytesLess, bl_irrefl l]
theorem bl_asymm : ∀ l m : List UInt8, Op.bytesLess l m = true → Op.bytesLess m l = false
  | _, [], h => by cases ‹List UInt8› <;> simp [Op.bytesLess] at h
  | [], _ :: _, _ => rfl
  | a :: l, b :: m, h => by
    simp only [Op.bytesLess, Bool.or_eq_true, Bool.and_eq_true, decide_eq_true_eq, beq_iff_eq, Bool.or_eq_false_iff, Bool.and_eq_false_iff, decide_eq_false_iff_not] at h ⊢
    rcases h with h | ⟨rfl, h⟩
    · have h' := UInt8.lt_iff_toNat_lt.1 h
      refine ⟨fun h2 => ?_, .inl ?_⟩
      · have := UInt8.lt_iff_toNat_lt.1 h2; omega
      · rw [beq_eq_false_iff_ne]; rintro rfl; omega
    · refine ⟨fun h2 => ?_, .inr (bl_asymm l m h)⟩
      have := UInt8.lt_iff_toNat_lt.1 h2; omega
theorem bl_total : ∀ l m : List UInt8, l ≠ m → Op.bytesLess l m = true ∨ Op.bytesLess m l = true
  | [], [], h => absurd rfl h
  | [], _ :: _, _ => .inl rfl
  | _ :: _, [], _ => .inr rfl
  | a :: l, b :: m, h => by
    simp only [Op.bytesLess, Bool.or_eq_true, Bool.and_eq_true, decide_eq_true_eq, beq_iff_eq]
    by_cases e : a = b
    · subst e
      have : l ≠ m := fun e => h (by rw [e])
      rcases bl_total l m this with h1 | h1
      · exact .inl (.inr ⟨rfl, h1⟩)
      · exact .inr (.inr ⟨rfl, h1⟩)
    · have : a.toNat ≠ b.toNat := fun h2 => e (UInt8.toNat_inj.1 h2)
      by_cases c : a.toNat < b.toNat
      · exact .inl (.inl (UInt8.lt_iff_toNat_lt.2 c))
      · exact .inr (.inl (UInt8.lt_iff_toNat_lt.2 (by omega)))
theorem bl_trans : ∀ l m n : List UInt8, Op.bytesLess l m = true → Op.bytesLess m n = true → Op.bytesLess l n = true
  | _, [], _, h, _ => by cases ‹List UInt8› <;> simp [Op.bytesLess] at h
  | _, _ :: _, [], _, h => by simp [Op.bytesLess] at h
  | [], _ :: _, _ :: _, _, _ => rfl
  | a :: l, b :: m, c :: n, h1, h2 => by
    simp only [Op.bytesLess, Bool.or_eq_true, Bool.and_eq_true, decide_eq_true_eq, beq_iff_eq] at h1 h2 ⊢
    rcases h1 with h1 | ⟨rfl, h1⟩
    · rcases h2 with h2 | ⟨rfl, h2⟩
      · left
        have := UInt8.lt_iff_toNat_lt.1 h1
        have := UInt8.lt_iff_toNat_lt.1 h2
        exact UInt8.lt_iff_toNat_lt.2 (by omega)
      · exact .inl h1
    · rcases h2 with h2 | ⟨rfl, h2⟩
      · exact .inl h2
      · exact .inr ⟨rfl, bl_trans l m n h1 h2⟩
theorem s_declaration_copied : ∀ x : Tru, x.Fine → G_declaration_copied x = some x := by
  refine tru_ind fun t n i ih h => g_declaration_copied ?_
  have hl := Fine_len h
  simp only [Tru.nodes_mk, Tru.inner_mk] at hl
  unfold B_declaration_copied
  simp only [Tru.nodes_mk, Tru.inner_mk, Tru.thr_mk]
  rw [appK_some (by simp; omega), kb_some, smallK_some (by omega), kb_some]
  have h1 := foldO_spec (f := fun j a x => B_declaration_copied_0 (.mk t n i) j a x) (g := fun a x => a ++ [x]) (fun j a => a.length ≤ j) i 0 [] (by
    intro j a x hj hp
    have hjl := (List.getElem?_eq_some_iff.1 hj).1
    have hx : x ∈ i := List.mem_of_getElem? hj
    simp only [Nat.zero_add] at hp ⊢
    unfold B_declaration_copied_0
    rw [ih x hx (Fine_inner h hx), kb_some, appK_some (by simp; omega), kb_some]
    exact ⟨rfl, by simp; omega⟩) (by simp)
  rw [h1.1, kb_some]
  have e : ∀ (l a : List Tru), l.foldl (fun a x => a ++ [x]) a = a ++ l := by
    intro l
    induction l with
    | nil => intro a; simp
    | cons x r ihr => intro a; rw [List.foldl_cons, ihr]; simp
  rw [e]
  rfl
theorem s_declaration_Sign {key node seq : Int} {x : Tru} (h : DOk ⟨node, seq, x, 0⟩) : G_declaration_Sign key node seq x = some (⟨node, seq, x, tagV key (bytesV ⟨node, seq, x, 0⟩)⟩, 0) := by
  have hl := bytesV_len h
  refine g_declaration_Sign ?_
  unfold B_declaration_Sign
  rw [s_declaration_copied x h.2.1.2, kb_some, s_declaration_Plain _ h.2.1.2, plainE_ok h, kb_some]
  simp only [decide_true, cnd_true]
  rw [s_declaration_Bytes h, kb_some, s_declaration_Tag key (by omega), kb_some]
/-- signed with the key of its node -/
def Signed (keys : List Int) (d : Decl) : Prop := DOk d ∧ ∃ k, keys[d.f0.toNat]? = some k ∧ d.f3 = tagV k (bytesV d)
end Go.Am
namespace Go.Am
open Go Go.Proofs
set_option maxRecDepth 4000
set_option maxHeartbeats 4000000
open Int renaming ofNat_lt → Iqa, ofNat_le → Iqb, natCast_eq_zero → Iqc, natCast_pos → Iqd
open List renaming length_eq_zero_iff → Lqa, getElem?_cons_zero → Lqb, getElem?_cons_succ → Lqc, getElem?_nil → Lqd
noncomputable def B_internal_strconv_isPowerOfTwo (p0 : Int) : Option Bool :=
  some (decide ((and64 p0 (sub64 p0 1)) = 0))
theorem sim_internal_strconv_isPowerOfTwo {p0 : Int} {r : Bool} (hB : B_internal_strconv_isPowerOfTwo p0 = some r) : R 131 [(i64 p0)] [] = some ((bl r), [], []) := by
  rw [R_eq _ _ _ fn_internal_strconv_isPowerOfTwo]
  simp only [Code.fst, Code.snd, Tryz.f131, Option.getD_some]
  generalize hr1 : Code.region 1 _ _ = rr1
  unfold B_internal_strconv_isPowerOfTwo at hB
  obtain rfl := Option.some.inj hB
  subst hr1
  simp -implicitDefEqProofs [-getElem?_pos, -Iqa, -Iqb, -Iqc, -Iqd, -Lqa, Lqb, Lqc, Lqd]
theorem g_internal_strconv_isPowerOfTwo {p0 : Int} {r : Bool} (hB : B_internal_strconv_isPowerOfTwo p0 = some r) : G_internal_strconv_isPowerOfTwo p0 = some r := dec_of (fun a b h => by rcases a with a0_; rcases b with b0_; simp at h; simp [*]) (sim_internal_strconv_isPowerOfTwo hB)
end Go.Am
namespace Go.Am
open Go Go.Proofs
set_option maxRecDepth 4000
set_option maxHeartbeats 4000000
noncomputable def B_bits_TrailingZeros64 (p0 : Int) : Option Int := tz16K p0
theorem sim_bits_TrailingZeros64 {p0 : Int} {r : Int} (hB : B_bits_TrailingZeros64 p0 = some r) : R 143 [(.pv (.int .u64 p0))] [] = some ((i64 r), [], []) := by
  show W Tryz.prog cf _ _ _ = _
  rw [W_ext (sm := tz16Sm) rfl]
  unfold B_bits_TrailingZeros64 at hB
  simp [tz16Sm, es_strs, unStrs_strsP, strsP_len, hB]
theorem g_bits_TrailingZeros64 {p0 : Int} {r : Int} (hB : B_bits_TrailingZeros64 p0 = some r) : G_bits_TrailingZeros64 p0 = some r := dec_of (fun a b h => by rcases a with a0_; rcases b with b0_; simp at h; simp [*]) (sim_bits_TrailingZeros64 hB)
end Go.Am
namespace Go.Am
open Go Go.Proofs
set_option maxRecDepth 4000
set_option maxHeartbeats 4000000
open Int renaming ofNat_lt → Iqa, ofNat_le → Iqb, natCast_eq_zero → Iqc, natCast_pos → Iqd, cast_ofNat_Int → Iqe, natCast_zero → Iqf
open List renaming length_eq_zero_iff → Lqa, getElem?_cons_zero → Lqb, getElem?_cons_succ → Lqc, getElem?_nil → Lqd, length_cons → Lqe, length_nil → Lqf, nil_append → Lqg, cons_append → Lqh
open Nat renaming zero_add → Nqa
open Tru renaming thr_mk → Tqa, nodes_mk → Tqb, inner_mk → Tqc
open Go.Am renaming es_api_Declaration_cons → Eqa, es_api_Declaration_nil → Eqb, es_api_Evidence_cons → Eqc, es_api_Evidence_nil → Eqd, ints_cons → Eqe, ints_nil → Eqf, encTs_cons → Eqg, encTs_nil → Eqh, es_str_cons → Eqi, es_str_nil → Eqj, es_u64_cons → Eqk, es_u64_nil → Eql, es_u8_cons → Eqm, es_u8_nil → Eqn
noncomputable def B_bits_TrailingZeros (p0 : Int) : Option Int :=
  kb (G_bits_TrailingZeros64 p0) fun y1 =>
  some y1
theorem sim_bits_TrailingZeros {p0 : Int} {r : Int} (hB : B_bits_TrailingZeros p0 = some r) : R 132 [(.pv (.int .u64 p0))] [] = some ((i64 r), [], []) := by
  rw [R_eq _ _ _ fn_bits_TrailingZeros]
  simp only [Code.fst, Code.snd, Tryz.f132, Option.getD_some]
  generalize hr1 : Code.region 1 _ _ = rr1
  unfold B_bits_TrailingZeros at hB
  obtain ⟨y1, k2, hB⟩ := kb_inv hB
  replace k2 := run_bits_TrailingZeros64 k2
  try simp only [Iqe, Iqf, Lqe, Lqf, Lqg, Lqh, Nqa, Nat.reduceAdd, Tqa, Tqb, Tqc, Eqe, Eqf, Eqg, Eqh, Eqa, Eqb, Eqc, Eqd, Eqi, Eqj, Eqk, Eql, Eqm, Eqn] at k2
  try dsimp only at hB
  obtain rfl := Option.some.inj hB
  simp -implicitDefEqProofs [-getElem?_pos, -Iqa, -Iqb, -Iqc, -Iqd, -Lqa, Lqb, Lqc, Lqd, k2]
theorem g_bits_TrailingZeros {p0 : Int} {r : Int} (hB : B_bits_TrailingZeros p0 = some r) : G_bits_TrailingZeros p0 = some r := dec_of (fun a b h => by rcases a with a0_; rcases b with b0_; simp at h; simp [*]) (sim_bits_TrailingZeros hB)
end Go.Am
namespace Go.Am
open Go Go.Proofs
set_option maxRecDepth 4000
set_option maxHeartbeats 4000000
open Int renaming ofNat_lt → Iqa, ofNat_le → Iqb, natCast_eq_zero → Iqc, natCast_pos → Iqd, cast_ofNat_Int → Iqe, natCast_zero → Iqf
open List renaming length_eq_zero_iff → Lqa, getElem?_cons_zero → Lqb, getElem?_cons_succ → Lqc, getElem?_nil → Lqd, length_cons → Lqe, length_nil → Lqf, nil_append → Lqg, cons_append → Lqh
open Nat renaming zero_add → Nqa
open Tru renaming thr_mk → Tqa, nodes_mk → Tqb, inner_mk → Tqc
open Go.Am renaming es_api_Declaration_cons → Eqa, es_api_Declaration_nil → Eqb, es_api_Evidence_cons → Eqc, es_api_Evidence_nil → Eqd, ints_cons → Eqe, ints_nil → Eqf, encTs_cons → Eqg, encTs_nil → Eqh, es_str_cons → Eqi, es_str_nil → Eqj, es_u64_cons → Eqk, es_u64_nil → Eql, es_u8_cons → Eqm, es_u8_nil → Eqn
noncomputable def B_strconv_FormatUint (p0 : Int) (p1 : Int) : Option (List UInt8) :=
  kb (G_internal_strconv_FormatUint p0 p1) fun y1 =>
  some y1
theorem sim_strconv_FormatUint {p0 : Int} {p1 : Int} {r : (List UInt8)} (hB : B_strconv_FormatUint p0 p1 = some r) : R 46 [(.pv (.int .u64 p0)), (i64 p1)] [] = some ((.pv (.str r)), [], []) := by
  rw [R_eq _ _ _ fn_strconv_FormatUint]
  simp only [Code.fst, Code.snd, Tryz.f46, Option.getD_some]
  generalize hr1 : Code.region 1 _ _ = rr1
  unfold B_strconv_FormatUint at hB
  obtain ⟨y1, k2, hB⟩ := kb_inv hB
  replace k2 := run_internal_strconv_FormatUint k2
  try simp only [Iqe, Iqf, Lqe, Lqf, Lqg, Lqh, Nqa, Nat.reduceAdd, Tqa, Tqb, Tqc, Eqe, Eqf, Eqg, Eqh, Eqa, Eqb, Eqc, Eqd, Eqi, Eqj, Eqk, Eql, Eqm, Eqn] at k2
  try dsimp only at hB
  obtain rfl := Option.some.inj hB
  subst hr1
  simp -implicitDefEqProofs [-getElem?_pos, -Iqa, -Iqb, -Iqc, -Iqd, -Lqa, Lqb, Lqc, Lqd, k2]
theorem g_strconv_FormatUint {p0 : Int} {p1 : Int} {r : (List UInt8)} (hB : B_strconv_FormatUint p0 p1 = some r) : G_strconv_FormatUint p0 p1 = some r := dec_of (fun a b h => by rcases a with a0_; rcases b with b0_; simp at h; simp [*]) (sim_strconv_FormatUint hB)
end Go.Am
/-
How strconv.FormatUint runs with base 16: an array that is filled from its end.
-/
namespace Go.Am
open Go Go.Proofs
set_option maxRecDepth 4000
set_option maxHeartbeats 4000000
def hexDig : List UInt8 := [48, 49, 50, 51, 52, 53, 54, 55, 56, 57, 97, 98, 99, 100, 101, 102, 103, 104, 105, 106, 107, 108, 109, 110, 111, 112, 113, 114, 115, 116, 117, 118, 119, 120, 121, 122]
def hexc (n : Nat) : UInt8 := hexDig.getD n 0
theorem hexc_get {n : Nat} (h : n < 16) : ([48, 49, 50, 51, 52, 53, 54, 55, 56, 57, 97, 98, 99, 100, 101, 102, 103, 104, 105, 106, 107, 108, 109, 110, 111, 112, 113, 114, 115, 116, 117, 118, 119, 120, 121, 122] : List UInt8)[n]? = some (hexc n) := by
  have key : ∀ n : Fin 16, hexDig[n.1]? = some (hexc n.1) := by decide
  exact key ⟨n, h⟩
/-- digits to the base 16, ahead of some -/
def hexA : Nat → Nat → List UInt8 → List UInt8
  | 0, n, acc => hexc n :: acc
  | f + 1, n, acc => if n < 16 then hexc n :: acc else hexA f (n / 16) (hexc (n % 16) :: acc)
/-- a number to the base 16 -/
def hexL (n : Nat) : List UInt8 := hexA 16 n []
theorem and15 (n : Nat) : andK .u64 (n : Int) 15 = ((n % 16 : Nat) : Int) := by
  show IntKind.wrap .u64 ((BitVec.ofInt 64 (n : Int) &&& BitVec.ofInt 64 15).toNat : Int) = _
  have e : (BitVec.ofInt 64 (n : Int) &&& BitVec.ofInt 64 15).toNat = n % 16 := by
    rw [ofInt_nat, show BitVec.ofInt 64 (15 : Int) = BitVec.ofNat 64 15 by decide, BitVec.toNat_and, BitVec.toNat_ofNat, BitVec.toNat_ofNat, show 15 % 2 ^ 64 = 2 ^ 4 - 1 by decide, Nat.and_two_pow_sub_one_eq_mod]
    omega
  rw [e, IntKind.wrap_u64]
  omega
theorem shr4 {n : Nat} (hn : n < 18446744073709551616) : shrK .u64 (n : Int) 4 = ((n / 16 : Nat) : Int) := by
  show (n : Int).fdiv (2 ^ 4) = _
  rw [Int.fdiv_eq_ediv_of_nonneg _ (by decide)]
  rfl
theorem put_map {cells : List PV} {q : Nat} (h : q < cells.length) (p : PV) : List.take q (cells.map AV.pv) ++ (AV.pv p :: List.drop (q + 1) (cells.map AV.pv)) = (cells.set q p).map AV.pv := by
  rw [List.set_eq_take_append_cons_drop, if_pos h]
  simp
def hexB (a : Nat × Nat × List PV) : Option (Stp (Nat × Nat × List PV) Unit) :=
  if 16 ≤ a.1 then (if a.2.1 = 0 then none else some (.go (a.1 / 16, a.2.1 - 1, a.2.2.set (a.2.1 - 1) (.int .u8 ((hexc (a.1 % 16)).toNat : Int))))) else some (.ex 0 a)
def hexI (a : Nat × Nat × List PV) (q : St) : Prop := (q (.t 1) = .pv (.int .u64 (a.1 : Int)) ∧ q (.t 13) = i64 (a.2.1 : Int)) ∧ ((q (.t 14) = .pv (.int .u64 4) ∧ (q (.t 15) = .pv (.int .u64 16) ∧ q (.t 16) = .pv (.int .u64 15))) ∧
  ((q (.t 3) = bl false ∧ (q (.t 4) = bl false ∧ q (.t 10) = .nilsl)) ∧ ((∃ g, q (.t 12) = .ptr (.site 3 0 0) g 0 ∧ q (.i (.site 3 0 0)) = .box g (a.2.2.map .pv)) ∧ (a.2.2.length = 65 ∧ (a.2.1 ≤ 65 ∧ a.1 < 18446744073709551616)))))
theorem hexPb (a : Nat × Nat × List PV) (q : St) (r : Stp (Nat × Nat × List PV) Unit) (hI : hexI a q) (hB : hexB a = some r) : Res (C Tryz.prog cf (Code.fst (Code.fst (Code.fst (Code.snd (Code.snd (Code.snd (Code.fst (Code.snd (Code.fst (Code.snd (Code.snd (Code.snd (Code.snd (Code.snd ((Tryz.f110.body).getD .skip))))))))))))))) q) (postB 0 hexI hexI (fun _ _ => False) r) := by
  obtain ⟨n, m, cells⟩ := a
  simp only [hexI] at hI
  obtain ⟨⟨q1, q2⟩, ⟨q3, q4, q5⟩, ⟨q6, q7, q8⟩, ⟨g, q9, q10⟩, q11, q12, q13⟩ := hI
  simp only [Code.fst, Code.snd, Tryz.f110, Option.getD_some]
  generalize hr12 : Code.region 12 _ _ = rr12
  generalize hr13 : Code.region 13 _ _ = rr13
  generalize hr14 : Code.region 14 _ _ = rr14
  unfold hexB at hB
  dsimp only at hB
  split at hB
  · rename_i hn
    split at hB
    · cases hB
    · rename_i hm
      obtain rfl := Option.some.inj hB
      obtain ⟨p, rfl⟩ : ∃ p, m = p + 1 := ⟨m - 1, by omega⟩
      have f1 : (16 : Int) ≤ (n : Int) := by omega
      have f2 : sub64 ((p + 1 : Nat) : Int) 1 = (p : Int) := by rw [sub64_of (by omega) (by omega)]; omega
      have f2' : sub64 ((p : Int) + 1) 1 = (p : Int) := by rw [sub64_of (by omega) (by omega)]; omega
      have f3 := and15 n
      have f4 := shr4 (n := n) q13
      have f5 := hexc_get (n := n % 16) (by omega)
      have f6 : (p : Int) < 65 := by omega
      have f10 : p + 1 ≤ cells.length := by omega
      have f8 : n / 16 < 18446744073709551616 := by omega
      have f7 := put_map (cells := cells) (q := p) (by omega) (.int .u8 ((hexc (n % 16)).toNat : Int))
      have f9 : p ≤ 65 := by omega
      generalize n % 16 = d at *
      generalize n / 16 = e at *
      subst hr12
      simp -implicitDefEqProofs [q1, q2, q3, q4, q5, q6, q7, q8, q9, q10, f1, f2, f2']
      subst hr13
      simp -implicitDefEqProofs [q1, q2, q3, q4, q5, q6, q7, q8, q9, q10, f3, f5, f6, f7, f10]
      subst hr14
      simp -implicitDefEqProofs [q1, q2, q3, q4, q5, q6, q7, q8, q9, q10, f4]
      refine Res.bgo ?_
      simp -implicitDefEqProofs [hexI, q1, q2, q3, q4, q5, q6, q7, q8, q9, q10, q11, f8, f9]
  · obtain rfl := Option.some.inj hB
    have f1 : ¬ (16 : Int) ≤ (n : Int) := by omega
    simp -implicitDefEqProofs [q1, q2, q3, q4, q5, q6, q7, q8, q9, q10, f1]
    refine Res.bex ?_
    simp -implicitDefEqProofs [hexI, q1, q2, q3, q4, q5, q6, q7, q8, q9, q10, q11, q12, q13]
theorem P_hex {cc : Code} (hcc : cc = .block 0 (.loop (Code.fst (Code.fst (Code.fst (Code.snd (Code.snd (Code.snd (Code.fst (Code.snd (Code.fst (Code.snd (Code.snd (Code.snd (Code.snd (Code.snd ((Tryz.f110.body).getD .skip))))))))))))))))) {s : St} {z : Option (Ex × St)} (hz : C Tryz.prog cf cc s = z) {a : Nat × Nat × List PV} {r : Stp (Nat × Nat × List PV) Unit} (hI : hexI a s) (hB : iterW hexB a = some r) : Res z (postS hexI (fun _ _ => False) r) := by
  subst hcc
  exact while_sim (own := 0) (fun a q r h hB => hexPb a q r h hB) hI hz hB
/-! ### the digits in the array -/
def pb (l : List UInt8) : List PV := l.map fun b => .int .u8 (b.toNat : Int)
theorem unbytes_pb : ∀ l : List UInt8, unbytes (pb l) = some l
  | [] => rfl
  | b :: r => by
    show unbytes (.int .u8 (b.toNat : Int) :: pb r) = _
    unfold unbytes
    rw [unbytes_pb r]
    simp
theorem set_drop {cells : List PV} {m : Nat} {x : PV} (h : m < cells.length) : (cells.set m x).drop m = x :: cells.drop (m + 1) := by
  rw [List.drop_set]
  simp only [Nat.lt_irrefl, if_false, Nat.sub_self]
  rw [List.drop_eq_getElem_cons h]
  rfl
theorem hex_run : ∀ (f n m : Nat) (acc : List UInt8) (cells : List PV), n < 16 ^ (f + 1) → f < m → m ≤ 65 → cells.length = 65 → cells.drop m = pb acc →
    ∃ n' m' cells' acc', iterW hexB (n, m, cells) = some (.go (n', m', cells')) ∧ ((n' < 16 ∧ (1 ≤ m' ∧ m' ≤ 65)) ∧ (cells'.length = 65 ∧ (cells'.drop m' = pb acc' ∧ hexA f n acc = hexc n' :: acc'))) := by
  intro f
  induction f with
  | zero =>
    intro n m acc cells hn hm hm2 hl hd
    have h16 : ¬ 16 ≤ n := by simp at hn; omega
    refine ⟨n, m, cells, acc, iterW_ex (k := 0) ?_, ⟨by omega, by omega, hm2⟩, hl, hd, rfl⟩
    unfold hexB
    rw [if_neg h16]
  | succ f ih =>
    intro n m acc cells hn hm hm2 hl hd
    by_cases h16 : 16 ≤ n
    · have hn2 : n / 16 < 16 ^ (f + 1) := by
        rw [Nat.pow_succ] at hn
        exact Nat.div_lt_of_lt_mul (by rw [Nat.mul_comm]; exact hn)
      obtain ⟨n', m', cells', acc', e, h1, h2, h3, h4⟩ := ih (n / 16) (m - 1) (hexc (n % 16) :: acc) (cells.set (m - 1) (.int .u8 ((hexc (n % 16)).toNat : Int))) hn2 (by omega) (by omega) (by simpa using hl) (by
        rw [set_drop (by omega), show m - 1 + 1 = m by omega, hd]
        rfl)
      refine ⟨n', m', cells', acc', (iterW_go ?_).trans e, h1, h2, h3, ?_⟩
      · unfold hexB
        dsimp only
        rw [if_pos h16, if_neg (by omega)]
      · rw [hexA, if_neg (by omega)]
        exact h4
    · refine ⟨n, m, cells, acc, iterW_ex (k := 0) ?_, ⟨by omega, by omega, hm2⟩, hl, hd, ?_⟩
      · unfold hexB
        rw [if_neg h16]
      · rw [hexA, if_pos (by omega)]
theorem tz_16 : G_bits_TrailingZeros 16 = some 4 := by
  refine g_bits_TrailingZeros ?_
  have h : G_bits_TrailingZeros64 16 = some 4 := g_bits_TrailingZeros64 rfl
  unfold B_bits_TrailingZeros
  first | rw [h, kb_some] | (simp only [cnd_false]; rw [h, kb_some])
theorem pow_16 : G_internal_strconv_isPowerOfTwo 16 = some true := by
  refine g_internal_strconv_isPowerOfTwo ?_
  unfold B_internal_strconv_isPowerOfTwo
  decide
def zer65 : List PV := List.replicate 65 (.int .u8 0)
theorem zer_map : zer65.map AV.pv = [AV.pv (.int .u8 0), AV.pv (.int .u8 0), AV.pv (.int .u8 0), AV.pv (.int .u8 0), AV.pv (.int .u8 0), AV.pv (.int .u8 0), AV.pv (.int .u8 0), AV.pv (.int .u8 0), AV.pv (.int .u8 0), AV.pv (.int .u8 0), AV.pv (.int .u8 0), AV.pv (.int .u8 0), AV.pv (.int .u8 0), AV.pv (.int .u8 0), AV.pv (.int .u8 0), AV.pv (.int .u8 0), AV.pv (.int .u8 0), AV.pv (.int .u8 0), AV.pv (.int .u8 0), AV.pv (.int .u8 0), AV.pv (.int .u8 0), AV.pv (.int .u8 0), AV.pv (.int .u8 0), AV.pv (.int .u8 0), AV.pv (.int .u8 0), AV.pv (.int .u8 0), AV.pv (.int .u8 0), AV.pv (.int .u8 0), AV.pv (.int .u8 0), AV.pv (.int .u8 0), AV.pv (.int .u8 0), AV.pv (.int .u8 0), AV.pv (.int .u8 0), AV.pv (.int .u8 0), AV.pv (.int .u8 0), AV.pv (.int .u8 0), AV.pv (.int .u8 0), AV.pv (.int .u8 0), AV.pv (.int .u8 0), AV.pv (.int .u8 0), AV.pv (.int .u8 0), AV.pv (.int .u8 0), AV.pv (.int .u8 0), AV.pv (.int .u8 0), AV.pv (.int .u8 0), AV.pv (.int .u8 0), AV.pv (.int .u8 0), AV.pv (.int .u8 0), AV.pv (.int .u8 0), AV.pv (.int .u8 0), AV.pv (.int .u8 0), AV.pv (.int .u8 0), AV.pv (.int .u8 0), AV.pv (.int .u8 0), AV.pv (.int .u8 0), AV.pv (.int .u8 0), AV.pv (.int .u8 0), AV.pv (.int .u8 0), AV.pv (.int .u8 0), AV.pv (.int .u8 0), AV.pv (.int .u8 0), AV.pv (.int .u8 0), AV.pv (.int .u8 0), AV.pv (.int .u8 0), AV.pv (.int .u8 0)] := rfl
theorem unPvs_map : ∀ l : List PV, unPvs (l.map AV.pv) = some l
  | [] => rfl
  | x :: r => by
    show (match unPvs (r.map AV.pv) with | some q => some (x :: q) | none => none) = _
    rw [unPvs_map r]
theorem sim_formatBits (n : Nat) (hn : n < 18446744073709551616) : R 110 [.pv (.sl 0 []), .pv (.int .u64 (n : Int)), i64 16, bl false, bl false] [] = some (.tup [.pv (.sl 0 []), .pv (.str (hexL n))], [], []) := by
  have k1 := run_bits_TrailingZeros tz_16
  have k2 := run_internal_strconv_isPowerOfTwo pow_16
  rw [R_eq _ _ _ fn_internal_strconv_formatBits]
  simp only [Code.fst, Code.snd, Tryz.f110, Option.getD_some]
  generalize hc0 : Code.block 0 _ = cc0
  generalize hc2 : Code.block 2 _ = cc2
  generalize hr15 : Code.region 15 _ _ = rr15
  generalize hr16 : Code.region 16 _ _ = rr16
  generalize hr25 : Code.region 25 _ _ = rr25
  generalize hr17 : Code.region 17 _ _ = rr17
  generalize hr6 : Code.region 6 _ _ = rr6
  generalize hr2 : Code.region 2 _ _ = rr2
  generalize hr26 : Code.region 26 _ _ = rr26
  generalize hr27 : Code.region 27 _ _ = rr27
  generalize hr29 : Code.region 29 _ _ = rr29
  generalize hr23 : Code.region 23 _ _ = rr23
  generalize hr24 : Code.region 24 _ _ = rr24
  generalize hr28 : Code.region 28 _ _ = rr28
  generalize hr30 : Code.region 30 _ _ = rr30
  have w1 : IntKind.wrap .u64 16 = 16 := by decide
  have w2 : IntKind.wrap .u64 4 = 4 := by decide
  have w3 : subK .u64 16 1 = 15 := by decide
  obtain ⟨n', m', cells', acc', e, ⟨h1, h2, h3⟩, h4, h5, h6⟩ := hex_run 16 n 65 [] zer65 (by omega) (by omega) (by omega) rfl rfl
  simp -implicitDefEqProofs [k1, k2, w1, w2, w3]
  generalize hz0 : C Tryz.prog cf cc0 _ = z0
  have hJ := P_hex (a := (n, 65, zer65)) (hc0.symm.trans (by kernel_rfl)) hz0 (by simp -implicitDefEqProofs [hexI, zer_map, hn]; rfl) e
  obtain ⟨e0, s0, rfl, hq⟩ := hJ.open
  obtain ⟨rfl, hq⟩ := hq
  simp only [hexI] at hq
  obtain ⟨⟨q1, q2⟩, ⟨q3, q4, q5⟩, ⟨q6, q7, q8⟩, ⟨g, q9, q10⟩, q11, q12, q13⟩ := hq
  obtain ⟨p, rfl⟩ : ∃ p, m' = p + 1 := ⟨m' - 1, by omega⟩
  have f2' : sub64 ((p : Int) + 1) 1 = (p : Int) := by rw [sub64_of (by omega) (by omega)]; omega
  have f5 := hexc_get h1
  have f6 : (p : Int) < 65 := by omega
  have f10 : p + 1 ≤ cells'.length := by omega
  obtain ⟨X, hX⟩ : ∃ X, X = cells'.set p (.int .u8 ((hexc n').toNat : Int)) := ⟨_, rfl⟩
  have f7 := put_map (cells := cells') (q := p) (by omega) (.int .u8 ((hexc n').toNat : Int))
  have hd : X.drop p = pb (hexL n) := by
    rw [hX, set_drop (by omega), h5, hexL, h6]
    rfl
  have f13 : X.length = 65 := by rw [hX]; simpa using h4
  rw [← hX] at f7
  clear hX
  have f11 := unPvs_map X
  have f12 : p ≤ 65 := by omega
  have f17 : p + (65 - p) ≤ 65 := by omega
  have f15 : (pb (hexL n)).length = 65 - p := by rw [← hd, List.length_drop, f13]
  have f14 : List.take (65 - p) (pb (hexL n)) = pb (hexL n) := by rw [← f15, List.take_length]
  have f16 := unbytes_pb (hexL n)
  subst hr15
  simp -implicitDefEqProofs [q1, q2, q3, q4, q5, q6, q7, q8, q9, q10, f2']
  subst hr16
  simp -implicitDefEqProofs [q1, q2, q3, q4, q5, q6, q7, q8, q9, q10, f5, f6, f7, f10]
  subst hr25
  simp -implicitDefEqProofs [q1, q2, q3, q4, q5, q6, q7, q8, q9, q10]
  subst hr28
  simp -implicitDefEqProofs [q1, q2, q3, q4, q5, q6, q7, q8, q9, q10, f11, f12, f13, f17, f14, f15, f16, hd]
  subst hr30
  simp -implicitDefEqProofs [q1, q2, q3, q4, q5, q6, q7, q8, q9, q10, f11, f12, f13, f17, f14, f15, f16, hd]
theorem sim_inner_FormatUint (n : Nat) (hn : n < 18446744073709551616) : R 76 [.pv (.int .u64 (n : Int)), i64 16] [] = some (.pv (.str (hexL n)), [], []) := by
  have k := sim_formatBits n hn
  rw [R_eq _ _ _ fn_internal_strconv_FormatUint]
  simp only [Code.fst, Code.snd, Tryz.f76, Option.getD_some]
  simp -implicitDefEqProofs [k]
theorem s_FormatUint {n : Nat} (hn : n < 18446744073709551616) : G_strconv_FormatUint (n : Int) 16 = some (hexL n) := by
  refine g_strconv_FormatUint ?_
  unfold B_strconv_FormatUint
  rw [of_internal_strconv_FormatUint (sim_inner_FormatUint n hn), kb_some]
end Go.Am
