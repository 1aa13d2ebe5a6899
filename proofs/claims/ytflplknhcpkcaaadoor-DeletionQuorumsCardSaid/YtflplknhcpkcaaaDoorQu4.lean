/-
Part 4 of the road to the statement: Gf_make_group, Gf_make_Config, Pu5, Pu6, Gf_ref01_Nodes, Gf_ref06_Valid, Gf_ref06_Declared, Gf_ref09_Elimination, Gf_ref09_Greatest, Gf_ref09_Quorum, Pu7, Aw, Gf_law13_DeletionTwice, PTwice.
-/
import Derived.Test.YtflplknhcpkcaaaDoorQu3
/-
How trustquorummake.group runs, as a pure function.
-/
namespace Go.Am
open Go Go.Proofs
set_option linter.unusedVariables false
set_option linter.unusedSimpArgs false
set_option maxRecDepth 4000
set_option maxHeartbeats 4000000
noncomputable def B_make_group_0 (pba0_0_0 : (List Int)) (pba0_1_0 : Int) (p1 : Int) (p2 : Int) (p7_0 : (List Tru)) (p8_0 : Int) (xb5_1_1_0 : (List Int)) (x10_0 : Int) : Option (Stp ((List Int) × Int) Unit) :=
  cnd (decide (x10_0 < p1)) (
    kb (appK xb5_1_1_0 ([x10_0] : List Int) 8) fun L3 =>
    some (.go (L3, (add64 x10_0 3)))) (
    some (.ex 2 (xb5_1_1_0, x10_0)))
def I_make_group_0 (pba0_0_0 : (List Int)) (pba0_1_0 : Int) (p1 : Int) (p2 : Int) (p7_0 : (List Tru)) (p8_0 : Int) (xb5_1_1_0 : (List Int)) (x10_0 : Int) (q : St) : Prop := q (.t 1) = (i64 p1) ∧ q (.t 10) = (i64 x10_0) ∧ q (.t 2) = (i64 p2) ∧ (∃ v : AV, q (.t 7) = v ∧ (ownAt q v (.site 12 3 0) false 3 p7_0.length (encTs p7_0) ∨ (v = .nilsl ∧ p7_0 = []))) ∧ q (.t 8) = (i64 p8_0) ∧ (q (.t 0) = .ptr (.arg 0) 0 0 ∧ q (.i (.arg 0)) = .box 0 [(.pv (.sl pba0_0_0.length (ints pba0_0_0))), (i64 pba0_1_0)]) ∧ (∃ (g : Nat), q (.t 6) = .ptr (.site 0 0 0) g 0 ∧ q (.i (.site 0 0 0)) = .box g [(i64 0), .nilsl, .nilsl]) ∧ (∃ (g : Nat) (w0 : AV), q (.t 9) = .ptr (.site 5 1 0) g 0 ∧ q (.i (.site 5 1 0)) = .box g [(i64 1), w0, .nilsl] ∧ (ownAt q w0 (.site 9 4 0) false 1 xb5_1_1_0.length (ints xb5_1_1_0) ∨ (w0 = .nilsl ∧ xb5_1_1_0 = [])))
def Q_make_group_0 (pba0_0_0 : (List Int)) (pba0_1_0 : Int) (p1 : Int) (p2 : Int) (p7_0 : (List Tru)) (p8_0 : Int) (xb5_1_1_0 : (List Int)) (x10_0 : Int) (q : St) : Prop := q (.t 1) = (i64 p1) ∧ q (.t 2) = (i64 p2) ∧ (∃ v : AV, q (.t 7) = v ∧ (ownAt q v (.site 12 3 0) false 3 p7_0.length (encTs p7_0) ∨ (v = .nilsl ∧ p7_0 = []))) ∧ q (.t 8) = (i64 p8_0) ∧ (q (.t 0) = .ptr (.arg 0) 0 0 ∧ q (.i (.arg 0)) = .box 0 [(.pv (.sl pba0_0_0.length (ints pba0_0_0))), (i64 pba0_1_0)]) ∧ (∃ (g : Nat), q (.t 6) = .ptr (.site 0 0 0) g 0 ∧ q (.i (.site 0 0 0)) = .box g [(i64 0), .nilsl, .nilsl]) ∧ (∃ (g : Nat) (w0 : AV), q (.t 9) = .ptr (.site 5 1 0) g 0 ∧ q (.i (.site 5 1 0)) = .box g [(i64 1), w0, .nilsl] ∧ (ownAt q w0 (.site 9 4 0) false 1 xb5_1_1_0.length (ints xb5_1_1_0) ∨ (w0 = .nilsl ∧ xb5_1_1_0 = [])))
theorem Pb_make_group_0 {pba0_0_0 : (List Int)} {pba0_1_0 : Int} {p1 : Int} {p2 : Int} {p7_0 : (List Tru)} {p8_0 : Int} {xb5_1_1_0 : (List Int)} {x10_0 : Int} {q : St} {r : (Stp ((List Int) × Int) Unit)} (hI : I_make_group_0 pba0_0_0 pba0_1_0 p1 p2 p7_0 p8_0 xb5_1_1_0 x10_0 q) (hB : B_make_group_0 pba0_0_0 pba0_1_0 p1 p2 p7_0 p8_0 xb5_1_1_0 x10_0 = some r) : Res (C Tryd.prog cf (Code.fst (Code.fst (Code.snd (Code.fst (Code.snd (Code.fst (Code.fst (Code.snd (Code.fst (Code.fst (Code.snd (Code.fst (Code.snd (Code.snd ((Tryd.f44.body).getD .skip))))))))))))))) q) (postB 2 (fun a q => I_make_group_0 pba0_0_0 pba0_1_0 p1 p2 p7_0 p8_0 a.1 a.2 q) (fun a q => Q_make_group_0 pba0_0_0 pba0_1_0 p1 p2 p7_0 p8_0 a.1 a.2 q) (fun _ _ => False) r) := by
  simp only [I_make_group_0] at hI
  obtain ⟨q1, q2, q3, ⟨v4, q4, a4⟩, q5, ⟨q6, q7⟩, ⟨g9, q8, q9⟩, ⟨g11, v11_w0, q10, q11, a11_w0⟩⟩ := hI
  simp only [Code.fst, Code.snd, Tryd.f44, Option.getD_some]
  unfold B_make_group_0 at hB
  rcases a4 with ⟨ga4, rfl, oa4⟩ | ⟨rfl, ea4⟩
  · rcases a11_w0 with ⟨ga11_w0, rfl, oa11_w0⟩ | ⟨rfl, ea11_w0⟩
    · rcases cnd_inv hB with ⟨c2, hB⟩ | ⟨c2, hB⟩
      · have pc2 := eq_true (of_decide_eq_true c2)
        obtain ⟨L3, a4, hB⟩ := kb_inv hB
        obtain ⟨a4z, a4a, a4y⟩ := appK_inv a4
        try (simp only [List.nil_append] at a4z; subst a4z)
        have a4b := appK_len a4
        have a4c := ints_appK a4
        have a4d := appK_le a4
        try simp only [Int.cast_ofNat_Int, Int.natCast_zero, List.length_cons, List.length_nil, List.nil_append, List.cons_append, Nat.zero_add, Nat.reduceAdd, Tru.thr_mk, Tru.nodes_mk, Tru.inner_mk, ints_cons, ints_nil, encTs_cons, encTs_nil, es_api_Config_cons, es_api_Config_nil, es_api_Member_cons, es_api_Member_nil] at a4a a4b a4c
        try replace a4b : _ = (1 : Nat) := a4b.symm
        try dsimp only at hB
        obtain rfl := Option.some.inj hB
        try simp -implicitDefEqProofs [-getElem?_pos, -Int.ofNat_lt, -Int.ofNat_le, -Int.natCast_eq_zero, -Int.natCast_pos, -List.length_eq_zero_iff, List.getElem?_cons_zero, List.getElem?_cons_succ, List.getElem?_nil, q1, q2, q3, q4, q5, q6, q7, q8, q9, q10, q11, oa4, oa11_w0, c2, pc2, a4a, a4b, a4c, a4d]
        refine Res.bgo ?_
        simp -implicitDefEqProofs [-getElem?_pos, -Int.ofNat_lt, -Int.ofNat_le, -Int.natCast_eq_zero, -Int.natCast_pos, -List.length_eq_zero_iff, List.getElem?_cons_zero, List.getElem?_cons_succ, List.getElem?_nil, and_assoc, I_make_group_0, ownAt, q1, q2, q3, q4, q5, q6, q7, q8, q9, q10, q11, oa4, oa11_w0, c2, pc2, a4a, a4b, a4c, a4d]
      · have pc2 := eq_false (of_decide_eq_false c2)
        obtain rfl := Option.some.inj hB
        try simp -implicitDefEqProofs [-getElem?_pos, -Int.ofNat_lt, -Int.ofNat_le, -Int.natCast_eq_zero, -Int.natCast_pos, -List.length_eq_zero_iff, List.getElem?_cons_zero, List.getElem?_cons_succ, List.getElem?_nil, q1, q2, q3, q4, q5, q6, q7, q8, q9, q10, q11, oa4, oa11_w0, c2, pc2]
        refine Res.bex ?_
        simp -implicitDefEqProofs [-getElem?_pos, -Int.ofNat_lt, -Int.ofNat_le, -Int.natCast_eq_zero, -Int.natCast_pos, -List.length_eq_zero_iff, List.getElem?_cons_zero, List.getElem?_cons_succ, List.getElem?_nil, and_assoc, Q_make_group_0, ownAt, q1, q2, q3, q4, q5, q6, q7, q8, q9, q10, q11, oa4, oa11_w0, c2, pc2]
    · try subst ea11_w0
      rcases cnd_inv hB with ⟨c2, hB⟩ | ⟨c2, hB⟩
      · have pc2 := eq_true (of_decide_eq_true c2)
        obtain ⟨L3, a4, hB⟩ := kb_inv hB
        obtain ⟨a4z, a4a, a4y⟩ := appK_inv a4
        simp only [List.nil_append] at a4z
        subst a4z
        try dsimp only at hB
        obtain rfl := Option.some.inj hB
        try simp -implicitDefEqProofs [-getElem?_pos, -Int.ofNat_lt, -Int.ofNat_le, -Int.natCast_eq_zero, -Int.natCast_pos, -List.length_eq_zero_iff, List.getElem?_cons_zero, List.getElem?_cons_succ, List.getElem?_nil, q1, q2, q3, q4, q5, q6, q7, q8, q9, q10, q11, oa4, c2, pc2]
        refine Res.bgo ?_
        simp -implicitDefEqProofs [-getElem?_pos, -Int.ofNat_lt, -Int.ofNat_le, -Int.natCast_eq_zero, -Int.natCast_pos, -List.length_eq_zero_iff, List.getElem?_cons_zero, List.getElem?_cons_succ, List.getElem?_nil, and_assoc, I_make_group_0, ownAt, q1, q2, q3, q4, q5, q6, q7, q8, q9, q10, q11, oa4, c2, pc2]
      · have pc2 := eq_false (of_decide_eq_false c2)
        obtain rfl := Option.some.inj hB
        try simp -implicitDefEqProofs [-getElem?_pos, -Int.ofNat_lt, -Int.ofNat_le, -Int.natCast_eq_zero, -Int.natCast_pos, -List.length_eq_zero_iff, List.getElem?_cons_zero, List.getElem?_cons_succ, List.getElem?_nil, q1, q2, q3, q4, q5, q6, q7, q8, q9, q10, q11, oa4, c2, pc2]
        refine Res.bex ?_
        simp -implicitDefEqProofs [-getElem?_pos, -Int.ofNat_lt, -Int.ofNat_le, -Int.natCast_eq_zero, -Int.natCast_pos, -List.length_eq_zero_iff, List.getElem?_cons_zero, List.getElem?_cons_succ, List.getElem?_nil, and_assoc, Q_make_group_0, ownAt, q1, q2, q3, q4, q5, q6, q7, q8, q9, q10, q11, oa4, c2, pc2]
  · try subst ea4
    rcases a11_w0 with ⟨ga11_w0, rfl, oa11_w0⟩ | ⟨rfl, ea11_w0⟩
    · rcases cnd_inv hB with ⟨c2, hB⟩ | ⟨c2, hB⟩
      · have pc2 := eq_true (of_decide_eq_true c2)
        obtain ⟨L3, a4, hB⟩ := kb_inv hB
        obtain ⟨a4z, a4a, a4y⟩ := appK_inv a4
        try (simp only [List.nil_append] at a4z; subst a4z)
        have a4b := appK_len a4
        have a4c := ints_appK a4
        have a4d := appK_le a4
        try simp only [Int.cast_ofNat_Int, Int.natCast_zero, List.length_cons, List.length_nil, List.nil_append, List.cons_append, Nat.zero_add, Nat.reduceAdd, Tru.thr_mk, Tru.nodes_mk, Tru.inner_mk, ints_cons, ints_nil, encTs_cons, encTs_nil, es_api_Config_cons, es_api_Config_nil, es_api_Member_cons, es_api_Member_nil] at a4a a4b a4c
        try replace a4b : _ = (1 : Nat) := a4b.symm
        try dsimp only at hB
        obtain rfl := Option.some.inj hB
        try simp -implicitDefEqProofs [-getElem?_pos, -Int.ofNat_lt, -Int.ofNat_le, -Int.natCast_eq_zero, -Int.natCast_pos, -List.length_eq_zero_iff, List.getElem?_cons_zero, List.getElem?_cons_succ, List.getElem?_nil, q1, q2, q3, q4, q5, q6, q7, q8, q9, q10, q11, oa11_w0, c2, pc2, a4a, a4b, a4c, a4d]
        refine Res.bgo ?_
        simp -implicitDefEqProofs [-getElem?_pos, -Int.ofNat_lt, -Int.ofNat_le, -Int.natCast_eq_zero, -Int.natCast_pos, -List.length_eq_zero_iff, List.getElem?_cons_zero, List.getElem?_cons_succ, List.getElem?_nil, and_assoc, I_make_group_0, ownAt, q1, q2, q3, q4, q5, q6, q7, q8, q9, q10, q11, oa11_w0, c2, pc2, a4a, a4b, a4c, a4d]
      · have pc2 := eq_false (of_decide_eq_false c2)
        obtain rfl := Option.some.inj hB
        try simp -implicitDefEqProofs [-getElem?_pos, -Int.ofNat_lt, -Int.ofNat_le, -Int.natCast_eq_zero, -Int.natCast_pos, -List.length_eq_zero_iff, List.getElem?_cons_zero, List.getElem?_cons_succ, List.getElem?_nil, q1, q2, q3, q4, q5, q6, q7, q8, q9, q10, q11, oa11_w0, c2, pc2]
        refine Res.bex ?_
        simp -implicitDefEqProofs [-getElem?_pos, -Int.ofNat_lt, -Int.ofNat_le, -Int.natCast_eq_zero, -Int.natCast_pos, -List.length_eq_zero_iff, List.getElem?_cons_zero, List.getElem?_cons_succ, List.getElem?_nil, and_assoc, Q_make_group_0, ownAt, q1, q2, q3, q4, q5, q6, q7, q8, q9, q10, q11, oa11_w0, c2, pc2]
    · try subst ea11_w0
      rcases cnd_inv hB with ⟨c2, hB⟩ | ⟨c2, hB⟩
      · have pc2 := eq_true (of_decide_eq_true c2)
        obtain ⟨L3, a4, hB⟩ := kb_inv hB
        obtain ⟨a4z, a4a, a4y⟩ := appK_inv a4
        simp only [List.nil_append] at a4z
        subst a4z
        try dsimp only at hB
        obtain rfl := Option.some.inj hB
        try simp -implicitDefEqProofs [-getElem?_pos, -Int.ofNat_lt, -Int.ofNat_le, -Int.natCast_eq_zero, -Int.natCast_pos, -List.length_eq_zero_iff, List.getElem?_cons_zero, List.getElem?_cons_succ, List.getElem?_nil, q1, q2, q3, q4, q5, q6, q7, q8, q9, q10, q11, c2, pc2]
        refine Res.bgo ?_
        simp -implicitDefEqProofs [-getElem?_pos, -Int.ofNat_lt, -Int.ofNat_le, -Int.natCast_eq_zero, -Int.natCast_pos, -List.length_eq_zero_iff, List.getElem?_cons_zero, List.getElem?_cons_succ, List.getElem?_nil, and_assoc, I_make_group_0, ownAt, q1, q2, q3, q4, q5, q6, q7, q8, q9, q10, q11, c2, pc2]
      · have pc2 := eq_false (of_decide_eq_false c2)
        obtain rfl := Option.some.inj hB
        try simp -implicitDefEqProofs [-getElem?_pos, -Int.ofNat_lt, -Int.ofNat_le, -Int.natCast_eq_zero, -Int.natCast_pos, -List.length_eq_zero_iff, List.getElem?_cons_zero, List.getElem?_cons_succ, List.getElem?_nil, q1, q2, q3, q4, q5, q6, q7, q8, q9, q10, q11, c2, pc2]
        refine Res.bex ?_
        simp -implicitDefEqProofs [-getElem?_pos, -Int.ofNat_lt, -Int.ofNat_le, -Int.natCast_eq_zero, -Int.natCast_pos, -List.length_eq_zero_iff, List.getElem?_cons_zero, List.getElem?_cons_succ, List.getElem?_nil, and_assoc, Q_make_group_0, ownAt, q1, q2, q3, q4, q5, q6, q7, q8, q9, q10, q11, c2, pc2]
theorem P_make_group_0 {pba0_0_0 : (List Int)} {pba0_1_0 : Int} {p1 : Int} {p2 : Int} {p7_0 : (List Tru)} {p8_0 : Int} {xb5_1_1_0 : (List Int)} {x10_0 : Int} {cc : Code} (hcc : cc = .block 2 (.loop (Code.fst (Code.fst (Code.snd (Code.fst (Code.snd (Code.fst (Code.fst (Code.snd (Code.fst (Code.fst (Code.snd (Code.fst (Code.snd (Code.snd ((Tryd.f44.body).getD .skip))))))))))))))))) {s : St} {z : Option (Ex × St)} (hz : C Tryd.prog cf cc s = z) {r : (Stp ((List Int) × Int) Unit)} (hI : I_make_group_0 pba0_0_0 pba0_1_0 p1 p2 p7_0 p8_0 xb5_1_1_0 x10_0 s) (hB : iterW (fun a => B_make_group_0 pba0_0_0 pba0_1_0 p1 p2 p7_0 p8_0 a.1 a.2) (xb5_1_1_0, x10_0) = some r) : Res z (postS (fun a q => Q_make_group_0 pba0_0_0 pba0_1_0 p1 p2 p7_0 p8_0 a.1 a.2 q) (fun _ _ => False) r) := by
  subst hcc
  exact while_sim (I := fun a q => I_make_group_0 pba0_0_0 pba0_1_0 p1 p2 p7_0 p8_0 a.1 a.2 q) (Q := (fun a q => Q_make_group_0 pba0_0_0 pba0_1_0 p1 p2 p7_0 p8_0 a.1 a.2 q)) (QR := (fun _ _ => False)) (fun a q r h hB => Pb_make_group_0 h hB) hI hz hB
noncomputable def B_make_group_1 (p1 : Int) (p2 : Int) (xba0_0_1 : (List Int)) (xba0_1_1 : Int) (x7_1 : (List Tru)) (x8_1 : Int) : Option (Stp ((List Int) × Int × (List Tru) × Int) Unit) :=
  cnd (decide (x8_1 < 3)) (
    kb (iterW (fun a => B_make_group_0 xba0_0_1 xba0_1_1 p1 p2 x7_1 x8_1 a.1 a.2) (([] : (List Int)), x8_1)) fun o => stpK o (fun z5 =>
      cnd (decide (0 < (z5.1.length : Int))) (
        kb (G_make_Tape_Range (S_trustquorummake_Tape.mk xba0_0_1 xba0_1_1) 1 (z5.1.length : Int)) fun y7 =>
        kb (appK x7_1 ([(Tru.mk y7.1 z5.1 ([] : (List Tru)))] : List Tru) 56) fun L9 =>
        some (.go (y7.2.f0, y7.2.f1, L9, (add64 x8_1 1)))) (
        some (.go (xba0_0_1, xba0_1_1, x7_1, (add64 x8_1 1))))) (fun z5r =>
      none)) (
    some (.ex 0 (xba0_0_1, xba0_1_1, x7_1, x8_1)))
def I_make_group_1 (p1 : Int) (p2 : Int) (xba0_0_1 : (List Int)) (xba0_1_1 : Int) (x7_1 : (List Tru)) (x8_1 : Int) (q : St) : Prop := q (.t 1) = (i64 p1) ∧ q (.t 2) = (i64 p2) ∧ (∃ v : AV, q (.t 7) = v ∧ (ownAt q v (.site 12 3 0) false 3 x7_1.length (encTs x7_1) ∨ (v = .nilsl ∧ x7_1 = []))) ∧ q (.t 8) = (i64 x8_1) ∧ (q (.t 0) = .ptr (.arg 0) 0 0 ∧ q (.i (.arg 0)) = .box 0 [(.pv (.sl xba0_0_1.length (ints xba0_0_1))), (i64 xba0_1_1)]) ∧ (∃ (g : Nat), q (.t 6) = .ptr (.site 0 0 0) g 0 ∧ q (.i (.site 0 0 0)) = .box g [(i64 0), .nilsl, .nilsl])
def Q_make_group_1 (p1 : Int) (p2 : Int) (xba0_0_1 : (List Int)) (xba0_1_1 : Int) (x7_1 : (List Tru)) (x8_1 : Int) (q : St) : Prop := q (.t 2) = (i64 p2) ∧ (∃ v : AV, q (.t 7) = v ∧ (ownAt q v (.site 12 3 0) false 3 x7_1.length (encTs x7_1) ∨ (v = .nilsl ∧ x7_1 = []))) ∧ (q (.t 0) = .ptr (.arg 0) 0 0 ∧ q (.i (.arg 0)) = .box 0 [(.pv (.sl xba0_0_1.length (ints xba0_0_1))), (i64 xba0_1_1)]) ∧ (∃ (g : Nat), q (.t 6) = .ptr (.site 0 0 0) g 0 ∧ q (.i (.site 0 0 0)) = .box g [(i64 0), .nilsl, .nilsl])
theorem Pb_make_group_1 {p1 : Int} {p2 : Int} {xba0_0_1 : (List Int)} {xba0_1_1 : Int} {x7_1 : (List Tru)} {x8_1 : Int} {q : St} {r : (Stp ((List Int) × Int × (List Tru) × Int) Unit)} (hI : I_make_group_1 p1 p2 xba0_0_1 xba0_1_1 x7_1 x8_1 q) (hB : B_make_group_1 p1 p2 xba0_0_1 xba0_1_1 x7_1 x8_1 = some r) : Res (C Tryd.prog cf (Code.fst (Code.fst (Code.snd (Code.fst (Code.snd (Code.snd ((Tryd.f44.body).getD .skip))))))) q) (postB 0 (fun a q => I_make_group_1 p1 p2 a.1 a.2.1 a.2.2.1 a.2.2.2 q) (fun a q => Q_make_group_1 p1 p2 a.1 a.2.1 a.2.2.1 a.2.2.2 q) (fun _ _ => False) r) := by
  simp only [I_make_group_1] at hI
  obtain ⟨q1, q2, ⟨v3, q3, a3⟩, q4, ⟨q5, q6⟩, ⟨g8, q7, q8⟩⟩ := hI
  simp only [Code.fst, Code.snd, Tryd.f44, Option.getD_some]
  generalize hc0 : Code.block 2 _ = cc0
  unfold B_make_group_1 at hB
  rcases a3 with ⟨ga3, rfl, oa3⟩ | ⟨rfl, ea3⟩
  · rcases cnd_inv hB with ⟨c1, hB⟩ | ⟨c1, hB⟩
    · have pc1 := eq_true (of_decide_eq_true c1)
      try simp -implicitDefEqProofs [-getElem?_pos, -Int.ofNat_lt, -Int.ofNat_le, -Int.natCast_eq_zero, -Int.natCast_pos, -List.length_eq_zero_iff, List.getElem?_cons_zero, List.getElem?_cons_succ, List.getElem?_nil, q1, q2, q3, q4, q5, q6, q7, q8, oa3, c1, pc1]
      generalize hz0 : C Tryd.prog cf cc0 _ = z0
      obtain ⟨o, hB1, hB⟩ := kb_inv hB
      have hJ := P_make_group_0 (hc0.symm.trans (by kernel_rfl)) hz0 (by simp -implicitDefEqProofs [-getElem?_pos, -Int.ofNat_lt, -Int.ofNat_le, -Int.natCast_eq_zero, -Int.natCast_pos, -List.length_eq_zero_iff, List.getElem?_cons_zero, List.getElem?_cons_succ, List.getElem?_nil, and_assoc, I_make_group_0, ownAt, q1, q2, q3, q4, q5, q6, q7, q8, oa3, c1, pc1]) hB1
      obtain ⟨e0, s0, rfl, hq⟩ := hJ.open
      clear hB1
      rcases o with z5 | ⟨_, _⟩ | z5r
      · simp only [stpK_go] at hB
        obtain ⟨rfl, hq⟩ := hq
        obtain ⟨u0_0, u0_1⟩ := z5
        dsimp only at hB hq
        simp only [Q_make_group_0] at hq
        obtain ⟨q5_1, q5_2, ⟨v5_3, q5_3, a5_3⟩, q5_4, ⟨q5_5, q5_6⟩, ⟨g5_8, q5_7, q5_8⟩, ⟨g5_10, v5_10_w0, q5_9, q5_10, a5_10_w0⟩⟩ := hq
        rcases a5_3 with ⟨ga5_3, rfl, oa5_3⟩ | ⟨rfl, ea5_3⟩
        · rcases a5_10_w0 with ⟨ga5_10_w0, rfl, oa5_10_w0⟩ | ⟨rfl, ea5_10_w0⟩
          · rcases cnd_inv hB with ⟨c6, hB⟩ | ⟨c6, hB⟩
            · have pc6 := eq_true (of_decide_eq_true c6)
              have nc6 := c6
              try simp only [List.length_nil, List.length_cons, Int.cast_ofNat_Int, Int.natCast_zero, Nat.zero_add, Nat.reduceAdd, Int.reduceLT, Int.reduceLE, Int.reduceEq, eq_self, decide_true, decide_false, Bool.true_eq_false, Bool.false_eq_true] at nc6
              all_goals
                obtain ⟨y7, k8, hB⟩ := kb_inv hB
                replace k8 := run_make_Tape_Range k8
                try simp only [Int.cast_ofNat_Int, Int.natCast_zero, List.length_cons, List.length_nil, List.nil_append, List.cons_append, Nat.zero_add, Nat.reduceAdd, Tru.thr_mk, Tru.nodes_mk, Tru.inner_mk, ints_cons, ints_nil, encTs_cons, encTs_nil, es_api_Config_cons, es_api_Config_nil, es_api_Member_cons, es_api_Member_nil] at k8
                try dsimp only at hB
                obtain ⟨L9, a10, hB⟩ := kb_inv hB
                obtain ⟨a10z, a10a, a10y⟩ := appK_inv a10
                try (simp only [List.nil_append] at a10z; subst a10z)
                have a10b := appK_len a10
                have a10c := encTs_appK a10
                have a10d := appK_le a10
                try simp only [Int.cast_ofNat_Int, Int.natCast_zero, List.length_cons, List.length_nil, List.nil_append, List.cons_append, Nat.zero_add, Nat.reduceAdd, Tru.thr_mk, Tru.nodes_mk, Tru.inner_mk, ints_cons, ints_nil, encTs_cons, encTs_nil, es_api_Config_cons, es_api_Config_nil, es_api_Member_cons, es_api_Member_nil] at a10a a10b a10c
                try replace a10b : _ = (1 : Nat) := a10b.symm
                try dsimp only at hB
                obtain rfl := Option.some.inj hB
                try simp -implicitDefEqProofs [-getElem?_pos, -Int.ofNat_lt, -Int.ofNat_le, -Int.natCast_eq_zero, -Int.natCast_pos, -List.length_eq_zero_iff, List.getElem?_cons_zero, List.getElem?_cons_succ, List.getElem?_nil, q5_1, q5_2, q5_3, q5_4, q5_5, q5_6, q5_7, q5_8, q5_9, q5_10, oa5_3, oa5_10_w0, c1, pc1, c6, pc6, nc6, k8, a10a, a10b, a10c, a10d]
                refine Res.bgo ?_
                simp -implicitDefEqProofs [-getElem?_pos, -Int.ofNat_lt, -Int.ofNat_le, -Int.natCast_eq_zero, -Int.natCast_pos, -List.length_eq_zero_iff, List.getElem?_cons_zero, List.getElem?_cons_succ, List.getElem?_nil, and_assoc, I_make_group_1, ownAt, q5_1, q5_2, q5_3, q5_4, q5_5, q5_6, q5_7, q5_8, q5_9, q5_10, oa5_3, oa5_10_w0, c1, pc1, c6, pc6, nc6, k8, a10a, a10b, a10c, a10d]
            · have pc6 := eq_false (of_decide_eq_false c6)
              have nc6 := c6
              try simp only [List.length_nil, List.length_cons, Int.cast_ofNat_Int, Int.natCast_zero, Nat.zero_add, Nat.reduceAdd, Int.reduceLT, Int.reduceLE, Int.reduceEq, eq_self, decide_true, decide_false, Bool.true_eq_false, Bool.false_eq_true] at nc6
              all_goals
                obtain rfl := Option.some.inj hB
                try simp -implicitDefEqProofs [-getElem?_pos, -Int.ofNat_lt, -Int.ofNat_le, -Int.natCast_eq_zero, -Int.natCast_pos, -List.length_eq_zero_iff, List.getElem?_cons_zero, List.getElem?_cons_succ, List.getElem?_nil, q5_1, q5_2, q5_3, q5_4, q5_5, q5_6, q5_7, q5_8, q5_9, q5_10, oa5_3, oa5_10_w0, c1, pc1, c6, pc6, nc6]
                refine Res.bgo ?_
                simp -implicitDefEqProofs [-getElem?_pos, -Int.ofNat_lt, -Int.ofNat_le, -Int.natCast_eq_zero, -Int.natCast_pos, -List.length_eq_zero_iff, List.getElem?_cons_zero, List.getElem?_cons_succ, List.getElem?_nil, and_assoc, I_make_group_1, ownAt, q5_1, q5_2, q5_3, q5_4, q5_5, q5_6, q5_7, q5_8, q5_9, q5_10, oa5_3, oa5_10_w0, c1, pc1, c6, pc6, nc6]
          · try subst ea5_10_w0
            rcases cnd_inv hB with ⟨c6, hB⟩ | ⟨c6, hB⟩
            · have pc6 := eq_true (of_decide_eq_true c6)
              have nc6 := c6
              try simp only [List.length_nil, List.length_cons, Int.cast_ofNat_Int, Int.natCast_zero, Nat.zero_add, Nat.reduceAdd, Int.reduceLT, Int.reduceLE, Int.reduceEq, eq_self, decide_true, decide_false, Bool.true_eq_false, Bool.false_eq_true] at nc6
              all_goals
                obtain ⟨y7, k8, hB⟩ := kb_inv hB
                replace k8 := run_make_Tape_Range k8
                try simp only [Int.cast_ofNat_Int, Int.natCast_zero, List.length_cons, List.length_nil, List.nil_append, List.cons_append, Nat.zero_add, Nat.reduceAdd, Tru.thr_mk, Tru.nodes_mk, Tru.inner_mk, ints_cons, ints_nil, encTs_cons, encTs_nil, es_api_Config_cons, es_api_Config_nil, es_api_Member_cons, es_api_Member_nil] at k8
                try dsimp only at hB
                obtain ⟨L9, a10, hB⟩ := kb_inv hB
                obtain ⟨a10z, a10a, a10y⟩ := appK_inv a10
                try (simp only [List.nil_append] at a10z; subst a10z)
                have a10b := appK_len a10
                have a10c := encTs_appK a10
                have a10d := appK_le a10
                try simp only [Int.cast_ofNat_Int, Int.natCast_zero, List.length_cons, List.length_nil, List.nil_append, List.cons_append, Nat.zero_add, Nat.reduceAdd, Tru.thr_mk, Tru.nodes_mk, Tru.inner_mk, ints_cons, ints_nil, encTs_cons, encTs_nil, es_api_Config_cons, es_api_Config_nil, es_api_Member_cons, es_api_Member_nil] at a10a a10b a10c
                try replace a10b : _ = (1 : Nat) := a10b.symm
                try dsimp only at hB
                obtain rfl := Option.some.inj hB
                try simp -implicitDefEqProofs [-getElem?_pos, -Int.ofNat_lt, -Int.ofNat_le, -Int.natCast_eq_zero, -Int.natCast_pos, -List.length_eq_zero_iff, List.getElem?_cons_zero, List.getElem?_cons_succ, List.getElem?_nil, q5_1, q5_2, q5_3, q5_4, q5_5, q5_6, q5_7, q5_8, q5_9, q5_10, oa5_3, c1, pc1, c6, pc6, nc6, k8, a10a, a10b, a10c, a10d]
                refine Res.bgo ?_
                simp -implicitDefEqProofs [-getElem?_pos, -Int.ofNat_lt, -Int.ofNat_le, -Int.natCast_eq_zero, -Int.natCast_pos, -List.length_eq_zero_iff, List.getElem?_cons_zero, List.getElem?_cons_succ, List.getElem?_nil, and_assoc, I_make_group_1, ownAt, q5_1, q5_2, q5_3, q5_4, q5_5, q5_6, q5_7, q5_8, q5_9, q5_10, oa5_3, c1, pc1, c6, pc6, nc6, k8, a10a, a10b, a10c, a10d]
            · have pc6 := eq_false (of_decide_eq_false c6)
              have nc6 := c6
              try simp only [List.length_nil, List.length_cons, Int.cast_ofNat_Int, Int.natCast_zero, Nat.zero_add, Nat.reduceAdd, Int.reduceLT, Int.reduceLE, Int.reduceEq, eq_self, decide_true, decide_false, Bool.true_eq_false, Bool.false_eq_true] at nc6
              all_goals
                obtain rfl := Option.some.inj hB
                try simp -implicitDefEqProofs [-getElem?_pos, -Int.ofNat_lt, -Int.ofNat_le, -Int.natCast_eq_zero, -Int.natCast_pos, -List.length_eq_zero_iff, List.getElem?_cons_zero, List.getElem?_cons_succ, List.getElem?_nil, q5_1, q5_2, q5_3, q5_4, q5_5, q5_6, q5_7, q5_8, q5_9, q5_10, oa5_3, c1, pc1, c6, pc6, nc6]
                refine Res.bgo ?_
                simp -implicitDefEqProofs [-getElem?_pos, -Int.ofNat_lt, -Int.ofNat_le, -Int.natCast_eq_zero, -Int.natCast_pos, -List.length_eq_zero_iff, List.getElem?_cons_zero, List.getElem?_cons_succ, List.getElem?_nil, and_assoc, I_make_group_1, ownAt, q5_1, q5_2, q5_3, q5_4, q5_5, q5_6, q5_7, q5_8, q5_9, q5_10, oa5_3, c1, pc1, c6, pc6, nc6]
        · try subst ea5_3
          rcases a5_10_w0 with ⟨ga5_10_w0, rfl, oa5_10_w0⟩ | ⟨rfl, ea5_10_w0⟩
          · rcases cnd_inv hB with ⟨c6, hB⟩ | ⟨c6, hB⟩
            · have pc6 := eq_true (of_decide_eq_true c6)
              have nc6 := c6
              try simp only [List.length_nil, List.length_cons, Int.cast_ofNat_Int, Int.natCast_zero, Nat.zero_add, Nat.reduceAdd, Int.reduceLT, Int.reduceLE, Int.reduceEq, eq_self, decide_true, decide_false, Bool.true_eq_false, Bool.false_eq_true] at nc6
              all_goals
                obtain ⟨y7, k8, hB⟩ := kb_inv hB
                replace k8 := run_make_Tape_Range k8
                try simp only [Int.cast_ofNat_Int, Int.natCast_zero, List.length_cons, List.length_nil, List.nil_append, List.cons_append, Nat.zero_add, Nat.reduceAdd, Tru.thr_mk, Tru.nodes_mk, Tru.inner_mk, ints_cons, ints_nil, encTs_cons, encTs_nil, es_api_Config_cons, es_api_Config_nil, es_api_Member_cons, es_api_Member_nil] at k8
                try dsimp only at hB
                obtain ⟨L9, a10, hB⟩ := kb_inv hB
                obtain ⟨a10z, a10a, a10y⟩ := appK_inv a10
                simp only [List.nil_append] at a10z
                subst a10z
                try dsimp only at hB
                obtain rfl := Option.some.inj hB
                try simp -implicitDefEqProofs [-getElem?_pos, -Int.ofNat_lt, -Int.ofNat_le, -Int.natCast_eq_zero, -Int.natCast_pos, -List.length_eq_zero_iff, List.getElem?_cons_zero, List.getElem?_cons_succ, List.getElem?_nil, q5_1, q5_2, q5_3, q5_4, q5_5, q5_6, q5_7, q5_8, q5_9, q5_10, oa5_10_w0, c1, pc1, c6, pc6, nc6, k8]
                refine Res.bgo ?_
                simp -implicitDefEqProofs [-getElem?_pos, -Int.ofNat_lt, -Int.ofNat_le, -Int.natCast_eq_zero, -Int.natCast_pos, -List.length_eq_zero_iff, List.getElem?_cons_zero, List.getElem?_cons_succ, List.getElem?_nil, and_assoc, I_make_group_1, ownAt, q5_1, q5_2, q5_3, q5_4, q5_5, q5_6, q5_7, q5_8, q5_9, q5_10, oa5_10_w0, c1, pc1, c6, pc6, nc6, k8]
            · have pc6 := eq_false (of_decide_eq_false c6)
              have nc6 := c6
              try simp only [List.length_nil, List.length_cons, Int.cast_ofNat_Int, Int.natCast_zero, Nat.zero_add, Nat.reduceAdd, Int.reduceLT, Int.reduceLE, Int.reduceEq, eq_self, decide_true, decide_false, Bool.true_eq_false, Bool.false_eq_true] at nc6
              all_goals
                obtain rfl := Option.some.inj hB
                try simp -implicitDefEqProofs [-getElem?_pos, -Int.ofNat_lt, -Int.ofNat_le, -Int.natCast_eq_zero, -Int.natCast_pos, -List.length_eq_zero_iff, List.getElem?_cons_zero, List.getElem?_cons_succ, List.getElem?_nil, q5_1, q5_2, q5_3, q5_4, q5_5, q5_6, q5_7, q5_8, q5_9, q5_10, oa5_10_w0, c1, pc1, c6, pc6, nc6]
                refine Res.bgo ?_
                simp -implicitDefEqProofs [-getElem?_pos, -Int.ofNat_lt, -Int.ofNat_le, -Int.natCast_eq_zero, -Int.natCast_pos, -List.length_eq_zero_iff, List.getElem?_cons_zero, List.getElem?_cons_succ, List.getElem?_nil, and_assoc, I_make_group_1, ownAt, q5_1, q5_2, q5_3, q5_4, q5_5, q5_6, q5_7, q5_8, q5_9, q5_10, oa5_10_w0, c1, pc1, c6, pc6, nc6]
          · try subst ea5_10_w0
            rcases cnd_inv hB with ⟨c6, hB⟩ | ⟨c6, hB⟩
            · have pc6 := eq_true (of_decide_eq_true c6)
              have nc6 := c6
              try simp only [List.length_nil, List.length_cons, Int.cast_ofNat_Int, Int.natCast_zero, Nat.zero_add, Nat.reduceAdd, Int.reduceLT, Int.reduceLE, Int.reduceEq, eq_self, decide_true, decide_false, Bool.true_eq_false, Bool.false_eq_true] at nc6
              all_goals
                obtain ⟨y7, k8, hB⟩ := kb_inv hB
                replace k8 := run_make_Tape_Range k8
                try simp only [Int.cast_ofNat_Int, Int.natCast_zero, List.length_cons, List.length_nil, List.nil_append, List.cons_append, Nat.zero_add, Nat.reduceAdd, Tru.thr_mk, Tru.nodes_mk, Tru.inner_mk, ints_cons, ints_nil, encTs_cons, encTs_nil, es_api_Config_cons, es_api_Config_nil, es_api_Member_cons, es_api_Member_nil] at k8
                try dsimp only at hB
                obtain ⟨L9, a10, hB⟩ := kb_inv hB
                obtain ⟨a10z, a10a, a10y⟩ := appK_inv a10
                simp only [List.nil_append] at a10z
                subst a10z
                try dsimp only at hB
                obtain rfl := Option.some.inj hB
                try simp -implicitDefEqProofs [-getElem?_pos, -Int.ofNat_lt, -Int.ofNat_le, -Int.natCast_eq_zero, -Int.natCast_pos, -List.length_eq_zero_iff, List.getElem?_cons_zero, List.getElem?_cons_succ, List.getElem?_nil, q5_1, q5_2, q5_3, q5_4, q5_5, q5_6, q5_7, q5_8, q5_9, q5_10, c1, pc1, c6, pc6, nc6, k8]
                refine Res.bgo ?_
                simp -implicitDefEqProofs [-getElem?_pos, -Int.ofNat_lt, -Int.ofNat_le, -Int.natCast_eq_zero, -Int.natCast_pos, -List.length_eq_zero_iff, List.getElem?_cons_zero, List.getElem?_cons_succ, List.getElem?_nil, and_assoc, I_make_group_1, ownAt, q5_1, q5_2, q5_3, q5_4, q5_5, q5_6, q5_7, q5_8, q5_9, q5_10, c1, pc1, c6, pc6, nc6, k8]
            · have pc6 := eq_false (of_decide_eq_false c6)
              have nc6 := c6
              try simp only [List.length_nil, List.length_cons, Int.cast_ofNat_Int, Int.natCast_zero, Nat.zero_add, Nat.reduceAdd, Int.reduceLT, Int.reduceLE, Int.reduceEq, eq_self, decide_true, decide_false, Bool.true_eq_false, Bool.false_eq_true] at nc6
              all_goals
                obtain rfl := Option.some.inj hB
                try simp -implicitDefEqProofs [-getElem?_pos, -Int.ofNat_lt, -Int.ofNat_le, -Int.natCast_eq_zero, -Int.natCast_pos, -List.length_eq_zero_iff, List.getElem?_cons_zero, List.getElem?_cons_succ, List.getElem?_nil, q5_1, q5_2, q5_3, q5_4, q5_5, q5_6, q5_7, q5_8, q5_9, q5_10, c1, pc1, c6, pc6, nc6]
                refine Res.bgo ?_
                simp -implicitDefEqProofs [-getElem?_pos, -Int.ofNat_lt, -Int.ofNat_le, -Int.natCast_eq_zero, -Int.natCast_pos, -List.length_eq_zero_iff, List.getElem?_cons_zero, List.getElem?_cons_succ, List.getElem?_nil, and_assoc, I_make_group_1, ownAt, q5_1, q5_2, q5_3, q5_4, q5_5, q5_6, q5_7, q5_8, q5_9, q5_10, c1, pc1, c6, pc6, nc6]
      · exact hq.elim
      · cases hB
    · have pc1 := eq_false (of_decide_eq_false c1)
      obtain rfl := Option.some.inj hB
      try simp -implicitDefEqProofs [-getElem?_pos, -Int.ofNat_lt, -Int.ofNat_le, -Int.natCast_eq_zero, -Int.natCast_pos, -List.length_eq_zero_iff, List.getElem?_cons_zero, List.getElem?_cons_succ, List.getElem?_nil, q1, q2, q3, q4, q5, q6, q7, q8, oa3, c1, pc1]
      refine Res.bex ?_
      simp -implicitDefEqProofs [-getElem?_pos, -Int.ofNat_lt, -Int.ofNat_le, -Int.natCast_eq_zero, -Int.natCast_pos, -List.length_eq_zero_iff, List.getElem?_cons_zero, List.getElem?_cons_succ, List.getElem?_nil, and_assoc, Q_make_group_1, ownAt, q1, q2, q3, q4, q5, q6, q7, q8, oa3, c1, pc1]
  · try subst ea3
    rcases cnd_inv hB with ⟨c1, hB⟩ | ⟨c1, hB⟩
    · have pc1 := eq_true (of_decide_eq_true c1)
      try simp -implicitDefEqProofs [-getElem?_pos, -Int.ofNat_lt, -Int.ofNat_le, -Int.natCast_eq_zero, -Int.natCast_pos, -List.length_eq_zero_iff, List.getElem?_cons_zero, List.getElem?_cons_succ, List.getElem?_nil, q1, q2, q3, q4, q5, q6, q7, q8, c1, pc1]
      generalize hz0 : C Tryd.prog cf cc0 _ = z0
      obtain ⟨o, hB1, hB⟩ := kb_inv hB
      have hJ := P_make_group_0 (hc0.symm.trans (by kernel_rfl)) hz0 (by simp -implicitDefEqProofs [-getElem?_pos, -Int.ofNat_lt, -Int.ofNat_le, -Int.natCast_eq_zero, -Int.natCast_pos, -List.length_eq_zero_iff, List.getElem?_cons_zero, List.getElem?_cons_succ, List.getElem?_nil, and_assoc, I_make_group_0, ownAt, q1, q2, q3, q4, q5, q6, q7, q8, c1, pc1]) hB1
      obtain ⟨e0, s0, rfl, hq⟩ := hJ.open
      clear hB1
      rcases o with z5 | ⟨_, _⟩ | z5r
      · simp only [stpK_go] at hB
        obtain ⟨rfl, hq⟩ := hq
        obtain ⟨u0_0, u0_1⟩ := z5
        dsimp only at hB hq
        simp only [Q_make_group_0] at hq
        obtain ⟨q5_1, q5_2, ⟨v5_3, q5_3, a5_3⟩, q5_4, ⟨q5_5, q5_6⟩, ⟨g5_8, q5_7, q5_8⟩, ⟨g5_10, v5_10_w0, q5_9, q5_10, a5_10_w0⟩⟩ := hq
        rcases a5_3 with ⟨ga5_3, rfl, oa5_3⟩ | ⟨rfl, ea5_3⟩
        · rcases a5_10_w0 with ⟨ga5_10_w0, rfl, oa5_10_w0⟩ | ⟨rfl, ea5_10_w0⟩
          · rcases cnd_inv hB with ⟨c6, hB⟩ | ⟨c6, hB⟩
            · have pc6 := eq_true (of_decide_eq_true c6)
              have nc6 := c6
              try simp only [List.length_nil, List.length_cons, Int.cast_ofNat_Int, Int.natCast_zero, Nat.zero_add, Nat.reduceAdd, Int.reduceLT, Int.reduceLE, Int.reduceEq, eq_self, decide_true, decide_false, Bool.true_eq_false, Bool.false_eq_true] at nc6
              all_goals
                obtain ⟨y7, k8, hB⟩ := kb_inv hB
                replace k8 := run_make_Tape_Range k8
                try simp only [Int.cast_ofNat_Int, Int.natCast_zero, List.length_cons, List.length_nil, List.nil_append, List.cons_append, Nat.zero_add, Nat.reduceAdd, Tru.thr_mk, Tru.nodes_mk, Tru.inner_mk, ints_cons, ints_nil, encTs_cons, encTs_nil, es_api_Config_cons, es_api_Config_nil, es_api_Member_cons, es_api_Member_nil] at k8
                try dsimp only at hB
                obtain ⟨L9, a10, hB⟩ := kb_inv hB
                obtain ⟨a10z, a10a, a10y⟩ := appK_inv a10
                try (simp only [List.nil_append] at a10z; subst a10z)
                have a10b := appK_len a10
                have a10c := encTs_appK a10
                have a10d := appK_le a10
                try simp only [Int.cast_ofNat_Int, Int.natCast_zero, List.length_cons, List.length_nil, List.nil_append, List.cons_append, Nat.zero_add, Nat.reduceAdd, Tru.thr_mk, Tru.nodes_mk, Tru.inner_mk, ints_cons, ints_nil, encTs_cons, encTs_nil, es_api_Config_cons, es_api_Config_nil, es_api_Member_cons, es_api_Member_nil] at a10a a10b a10c
                try replace a10b : _ = (1 : Nat) := a10b.symm
                try dsimp only at hB
                obtain rfl := Option.some.inj hB
                try simp -implicitDefEqProofs [-getElem?_pos, -Int.ofNat_lt, -Int.ofNat_le, -Int.natCast_eq_zero, -Int.natCast_pos, -List.length_eq_zero_iff, List.getElem?_cons_zero, List.getElem?_cons_succ, List.getElem?_nil, q5_1, q5_2, q5_3, q5_4, q5_5, q5_6, q5_7, q5_8, q5_9, q5_10, oa5_3, oa5_10_w0, c1, pc1, c6, pc6, nc6, k8, a10a, a10b, a10c, a10d]
                refine Res.bgo ?_
                simp -implicitDefEqProofs [-getElem?_pos, -Int.ofNat_lt, -Int.ofNat_le, -Int.natCast_eq_zero, -Int.natCast_pos, -List.length_eq_zero_iff, List.getElem?_cons_zero, List.getElem?_cons_succ, List.getElem?_nil, and_assoc, I_make_group_1, ownAt, q5_1, q5_2, q5_3, q5_4, q5_5, q5_6, q5_7, q5_8, q5_9, q5_10, oa5_3, oa5_10_w0, c1, pc1, c6, pc6, nc6, k8, a10a, a10b, a10c, a10d]
            · have pc6 := eq_false (of_decide_eq_false c6)
              have nc6 := c6
              try simp only [List.length_nil, List.length_cons, Int.cast_ofNat_Int, Int.natCast_zero, Nat.zero_add, Nat.reduceAdd, Int.reduceLT, Int.reduceLE, Int.reduceEq, eq_self, decide_true, decide_false, Bool.true_eq_false, Bool.false_eq_true] at nc6
              all_goals
                obtain rfl := Option.some.inj hB
                try simp -implicitDefEqProofs [-getElem?_pos, -Int.ofNat_lt, -Int.ofNat_le, -Int.natCast_eq_zero, -Int.natCast_pos, -List.length_eq_zero_iff, List.getElem?_cons_zero, List.getElem?_cons_succ, List.getElem?_nil, q5_1, q5_2, q5_3, q5_4, q5_5, q5_6, q5_7, q5_8, q5_9, q5_10, oa5_3, oa5_10_w0, c1, pc1, c6, pc6, nc6]
                refine Res.bgo ?_
                simp -implicitDefEqProofs [-getElem?_pos, -Int.ofNat_lt, -Int.ofNat_le, -Int.natCast_eq_zero, -Int.natCast_pos, -List.length_eq_zero_iff, List.getElem?_cons_zero, List.getElem?_cons_succ, List.getElem?_nil, and_assoc, I_make_group_1, ownAt, q5_1, q5_2, q5_3, q5_4, q5_5, q5_6, q5_7, q5_8, q5_9, q5_10, oa5_3, oa5_10_w0, c1, pc1, c6, pc6, nc6]
          · try subst ea5_10_w0
            rcases cnd_inv hB with ⟨c6, hB⟩ | ⟨c6, hB⟩
            · have pc6 := eq_true (of_decide_eq_true c6)
              have nc6 := c6
              try simp only [List.length_nil, List.length_cons, Int.cast_ofNat_Int, Int.natCast_zero, Nat.zero_add, Nat.reduceAdd, Int.reduceLT, Int.reduceLE, Int.reduceEq, eq_self, decide_true, decide_false, Bool.true_eq_false, Bool.false_eq_true] at nc6
              all_goals
                obtain ⟨y7, k8, hB⟩ := kb_inv hB
                replace k8 := run_make_Tape_Range k8
                try simp only [Int.cast_ofNat_Int, Int.natCast_zero, List.length_cons, List.length_nil, List.nil_append, List.cons_append, Nat.zero_add, Nat.reduceAdd, Tru.thr_mk, Tru.nodes_mk, Tru.inner_mk, ints_cons, ints_nil, encTs_cons, encTs_nil, es_api_Config_cons, es_api_Config_nil, es_api_Member_cons, es_api_Member_nil] at k8
                try dsimp only at hB
                obtain ⟨L9, a10, hB⟩ := kb_inv hB
                obtain ⟨a10z, a10a, a10y⟩ := appK_inv a10
                try (simp only [List.nil_append] at a10z; subst a10z)
                have a10b := appK_len a10
                have a10c := encTs_appK a10
                have a10d := appK_le a10
                try simp only [Int.cast_ofNat_Int, Int.natCast_zero, List.length_cons, List.length_nil, List.nil_append, List.cons_append, Nat.zero_add, Nat.reduceAdd, Tru.thr_mk, Tru.nodes_mk, Tru.inner_mk, ints_cons, ints_nil, encTs_cons, encTs_nil, es_api_Config_cons, es_api_Config_nil, es_api_Member_cons, es_api_Member_nil] at a10a a10b a10c
                try replace a10b : _ = (1 : Nat) := a10b.symm
                try dsimp only at hB
                obtain rfl := Option.some.inj hB
                try simp -implicitDefEqProofs [-getElem?_pos, -Int.ofNat_lt, -Int.ofNat_le, -Int.natCast_eq_zero, -Int.natCast_pos, -List.length_eq_zero_iff, List.getElem?_cons_zero, List.getElem?_cons_succ, List.getElem?_nil, q5_1, q5_2, q5_3, q5_4, q5_5, q5_6, q5_7, q5_8, q5_9, q5_10, oa5_3, c1, pc1, c6, pc6, nc6, k8, a10a, a10b, a10c, a10d]
                refine Res.bgo ?_
                simp -implicitDefEqProofs [-getElem?_pos, -Int.ofNat_lt, -Int.ofNat_le, -Int.natCast_eq_zero, -Int.natCast_pos, -List.length_eq_zero_iff, List.getElem?_cons_zero, List.getElem?_cons_succ, List.getElem?_nil, and_assoc, I_make_group_1, ownAt, q5_1, q5_2, q5_3, q5_4, q5_5, q5_6, q5_7, q5_8, q5_9, q5_10, oa5_3, c1, pc1, c6, pc6, nc6, k8, a10a, a10b, a10c, a10d]
            · have pc6 := eq_false (of_decide_eq_false c6)
              have nc6 := c6
              try simp only [List.length_nil, List.length_cons, Int.cast_ofNat_Int, Int.natCast_zero, Nat.zero_add, Nat.reduceAdd, Int.reduceLT, Int.reduceLE, Int.reduceEq, eq_self, decide_true, decide_false, Bool.true_eq_false, Bool.false_eq_true] at nc6
              all_goals
                obtain rfl := Option.some.inj hB
                try simp -implicitDefEqProofs [-getElem?_pos, -Int.ofNat_lt, -Int.ofNat_le, -Int.natCast_eq_zero, -Int.natCast_pos, -List.length_eq_zero_iff, List.getElem?_cons_zero, List.getElem?_cons_succ, List.getElem?_nil, q5_1, q5_2, q5_3, q5_4, q5_5, q5_6, q5_7, q5_8, q5_9, q5_10, oa5_3, c1, pc1, c6, pc6, nc6]
                refine Res.bgo ?_
                simp -implicitDefEqProofs [-getElem?_pos, -Int.ofNat_lt, -Int.ofNat_le, -Int.natCast_eq_zero, -Int.natCast_pos, -List.length_eq_zero_iff, List.getElem?_cons_zero, List.getElem?_cons_succ, List.getElem?_nil, and_assoc, I_make_group_1, ownAt, q5_1, q5_2, q5_3, q5_4, q5_5, q5_6, q5_7, q5_8, q5_9, q5_10, oa5_3, c1, pc1, c6, pc6, nc6]
        · try subst ea5_3
          rcases a5_10_w0 with ⟨ga5_10_w0, rfl, oa5_10_w0⟩ | ⟨rfl, ea5_10_w0⟩
          · rcases cnd_inv hB with ⟨c6, hB⟩ | ⟨c6, hB⟩
            · have pc6 := eq_true (of_decide_eq_true c6)
              have nc6 := c6
              try simp only [List.length_nil, List.length_cons, Int.cast_ofNat_Int, Int.natCast_zero, Nat.zero_add, Nat.reduceAdd, Int.reduceLT, Int.reduceLE, Int.reduceEq, eq_self, decide_true, decide_false, Bool.true_eq_false, Bool.false_eq_true] at nc6
              all_goals
                obtain ⟨y7, k8, hB⟩ := kb_inv hB
                replace k8 := run_make_Tape_Range k8
                try simp only [Int.cast_ofNat_Int, Int.natCast_zero, List.length_cons, List.length_nil, List.nil_append, List.cons_append, Nat.zero_add, Nat.reduceAdd, Tru.thr_mk, Tru.nodes_mk, Tru.inner_mk, ints_cons, ints_nil, encTs_cons, encTs_nil, es_api_Config_cons, es_api_Config_nil, es_api_Member_cons, es_api_Member_nil] at k8
                try dsimp only at hB
                obtain ⟨L9, a10, hB⟩ := kb_inv hB
                obtain ⟨a10z, a10a, a10y⟩ := appK_inv a10
                simp only [List.nil_append] at a10z
                subst a10z
                try dsimp only at hB
                obtain rfl := Option.some.inj hB
                try simp -implicitDefEqProofs [-getElem?_pos, -Int.ofNat_lt, -Int.ofNat_le, -Int.natCast_eq_zero, -Int.natCast_pos, -List.length_eq_zero_iff, List.getElem?_cons_zero, List.getElem?_cons_succ, List.getElem?_nil, q5_1, q5_2, q5_3, q5_4, q5_5, q5_6, q5_7, q5_8, q5_9, q5_10, oa5_10_w0, c1, pc1, c6, pc6, nc6, k8]
                refine Res.bgo ?_
                simp -implicitDefEqProofs [-getElem?_pos, -Int.ofNat_lt, -Int.ofNat_le, -Int.natCast_eq_zero, -Int.natCast_pos, -List.length_eq_zero_iff, List.getElem?_cons_zero, List.getElem?_cons_succ, List.getElem?_nil, and_assoc, I_make_group_1, ownAt, q5_1, q5_2, q5_3, q5_4, q5_5, q5_6, q5_7, q5_8, q5_9, q5_10, oa5_10_w0, c1, pc1, c6, pc6, nc6, k8]
            · have pc6 := eq_false (of_decide_eq_false c6)
              have nc6 := c6
              try simp only [List.length_nil, List.length_cons, Int.cast_ofNat_Int, Int.natCast_zero, Nat.zero_add, Nat.reduceAdd, Int.reduceLT, Int.reduceLE, Int.reduceEq, eq_self, decide_true, decide_false, Bool.true_eq_false, Bool.false_eq_true] at nc6
              all_goals
                obtain rfl := Option.some.inj hB
                try simp -implicitDefEqProofs [-getElem?_pos, -Int.ofNat_lt, -Int.ofNat_le, -Int.natCast_eq_zero, -Int.natCast_pos, -List.length_eq_zero_iff, List.getElem?_cons_zero, List.getElem?_cons_succ, List.getElem?_nil, q5_1, q5_2, q5_3, q5_4, q5_5, q5_6, q5_7, q5_8, q5_9, q5_10, oa5_10_w0, c1, pc1, c6, pc6, nc6]
                refine Res.bgo ?_
                simp -implicitDefEqProofs [-getElem?_pos, -Int.ofNat_lt, -Int.ofNat_le, -Int.natCast_eq_zero, -Int.natCast_pos, -List.length_eq_zero_iff, List.getElem?_cons_zero, List.getElem?_cons_succ, List.getElem?_nil, and_assoc, I_make_group_1, ownAt, q5_1, q5_2, q5_3, q5_4, q5_5, q5_6, q5_7, q5_8, q5_9, q5_10, oa5_10_w0, c1, pc1, c6, pc6, nc6]
          · try subst ea5_10_w0
            rcases cnd_inv hB with ⟨c6, hB⟩ | ⟨c6, hB⟩
            · have pc6 := eq_true (of_decide_eq_true c6)
              have nc6 := c6
              try simp only [List.length_nil, List.length_cons, Int.cast_ofNat_Int, Int.natCast_zero, Nat.zero_add, Nat.reduceAdd, Int.reduceLT, Int.reduceLE, Int.reduceEq, eq_self, decide_true, decide_false, Bool.true_eq_false, Bool.false_eq_true] at nc6
              all_goals
                obtain ⟨y7, k8, hB⟩ := kb_inv hB
                replace k8 := run_make_Tape_Range k8
                try simp only [Int.cast_ofNat_Int, Int.natCast_zero, List.length_cons, List.length_nil, List.nil_append, List.cons_append, Nat.zero_add, Nat.reduceAdd, Tru.thr_mk, Tru.nodes_mk, Tru.inner_mk, ints_cons, ints_nil, encTs_cons, encTs_nil, es_api_Config_cons, es_api_Config_nil, es_api_Member_cons, es_api_Member_nil] at k8
                try dsimp only at hB
                obtain ⟨L9, a10, hB⟩ := kb_inv hB
                obtain ⟨a10z, a10a, a10y⟩ := appK_inv a10
                simp only [List.nil_append] at a10z
                subst a10z
                try dsimp only at hB
                obtain rfl := Option.some.inj hB
                try simp -implicitDefEqProofs [-getElem?_pos, -Int.ofNat_lt, -Int.ofNat_le, -Int.natCast_eq_zero, -Int.natCast_pos, -List.length_eq_zero_iff, List.getElem?_cons_zero, List.getElem?_cons_succ, List.getElem?_nil, q5_1, q5_2, q5_3, q5_4, q5_5, q5_6, q5_7, q5_8, q5_9, q5_10, c1, pc1, c6, pc6, nc6, k8]
                refine Res.bgo ?_
                simp -implicitDefEqProofs [-getElem?_pos, -Int.ofNat_lt, -Int.ofNat_le, -Int.natCast_eq_zero, -Int.natCast_pos, -List.length_eq_zero_iff, List.getElem?_cons_zero, List.getElem?_cons_succ, List.getElem?_nil, and_assoc, I_make_group_1, ownAt, q5_1, q5_2, q5_3, q5_4, q5_5, q5_6, q5_7, q5_8, q5_9, q5_10, c1, pc1, c6, pc6, nc6, k8]
            · have pc6 := eq_false (of_decide_eq_false c6)
              have nc6 := c6
              try simp only [List.length_nil, List.length_cons, Int.cast_ofNat_Int, Int.natCast_zero, Nat.zero_add, Nat.reduceAdd, Int.reduceLT, Int.reduceLE, Int.reduceEq, eq_self, decide_true, decide_false, Bool.true_eq_false, Bool.false_eq_true] at nc6
              all_goals
                obtain rfl := Option.some.inj hB
                try simp -implicitDefEqProofs [-getElem?_pos, -Int.ofNat_lt, -Int.ofNat_le, -Int.natCast_eq_zero, -Int.natCast_pos, -List.length_eq_zero_iff, List.getElem?_cons_zero, List.getElem?_cons_succ, List.getElem?_nil, q5_1, q5_2, q5_3, q5_4, q5_5, q5_6, q5_7, q5_8, q5_9, q5_10, c1, pc1, c6, pc6, nc6]
                refine Res.bgo ?_
                simp -implicitDefEqProofs [-getElem?_pos, -Int.ofNat_lt, -Int.ofNat_le, -Int.natCast_eq_zero, -Int.natCast_pos, -List.length_eq_zero_iff, List.getElem?_cons_zero, List.getElem?_cons_succ, List.getElem?_nil, and_assoc, I_make_group_1, ownAt, q5_1, q5_2, q5_3, q5_4, q5_5, q5_6, q5_7, q5_8, q5_9, q5_10, c1, pc1, c6, pc6, nc6]
      · exact hq.elim
      · cases hB
    · have pc1 := eq_false (of_decide_eq_false c1)
      obtain rfl := Option.some.inj hB
      try simp -implicitDefEqProofs [-getElem?_pos, -Int.ofNat_lt, -Int.ofNat_le, -Int.natCast_eq_zero, -Int.natCast_pos, -List.length_eq_zero_iff, List.getElem?_cons_zero, List.getElem?_cons_succ, List.getElem?_nil, q1, q2, q3, q4, q5, q6, q7, q8, c1, pc1]
      refine Res.bex ?_
      simp -implicitDefEqProofs [-getElem?_pos, -Int.ofNat_lt, -Int.ofNat_le, -Int.natCast_eq_zero, -Int.natCast_pos, -List.length_eq_zero_iff, List.getElem?_cons_zero, List.getElem?_cons_succ, List.getElem?_nil, and_assoc, Q_make_group_1, ownAt, q1, q2, q3, q4, q5, q6, q7, q8, c1, pc1]
theorem P_make_group_1 {p1 : Int} {p2 : Int} {xba0_0_1 : (List Int)} {xba0_1_1 : Int} {x7_1 : (List Tru)} {x8_1 : Int} {cc : Code} (hcc : cc = .block 0 (.loop (Code.fst (Code.fst (Code.snd (Code.fst (Code.snd (Code.snd ((Tryd.f44.body).getD .skip))))))))) {s : St} {z : Option (Ex × St)} (hz : C Tryd.prog cf cc s = z) {r : (Stp ((List Int) × Int × (List Tru) × Int) Unit)} (hI : I_make_group_1 p1 p2 xba0_0_1 xba0_1_1 x7_1 x8_1 s) (hB : iterW (fun a => B_make_group_1 p1 p2 a.1 a.2.1 a.2.2.1 a.2.2.2) (xba0_0_1, xba0_1_1, x7_1, x8_1) = some r) : Res z (postS (fun a q => Q_make_group_1 p1 p2 a.1 a.2.1 a.2.2.1 a.2.2.2 q) (fun _ _ => False) r) := by
  subst hcc
  exact while_sim (I := fun a q => I_make_group_1 p1 p2 a.1 a.2.1 a.2.2.1 a.2.2.2 q) (Q := (fun a q => Q_make_group_1 p1 p2 a.1 a.2.1 a.2.2.1 a.2.2.2 q)) (QR := (fun _ _ => False)) (fun a q r h hB => Pb_make_group_1 h hB) hI hz hB
noncomputable def B_make_group (p0 : S_trustquorummake_Tape) (p1 : Int) (p2 : Int) : Option (Tru × S_trustquorummake_Tape) :=
  kb (iterW (fun a => B_make_group_1 p1 p2 a.1 a.2.1 a.2.2.1 a.2.2.2) (p0.f0, p0.f1, ([] : (List Tru)), 0)) fun o => stpK o (fun z11 =>
    kb (G_make_Tape_N (S_trustquorummake_Tape.mk z11.1 z11.2.1) 4) fun y12 =>
    cnd (decide (y12.1 = 0)) (
      kb (mustK ((z11.2.2.1.length : Int) ≠ 0)) fun _ =>
      kb (getI z11.2.2.1 (p2.tmod (z11.2.2.1.length : Int))) fun x16 =>
      some (x16, y12.2)) (
      kb (G_make_Tape_Range y12.2 (if 1 < (sub64 (z11.2.2.1.length : Int) 1) then (sub64 (z11.2.2.1.length : Int) 1) else 1) (z11.2.2.1.length : Int)) fun y19 =>
      some ((Tru.mk y19.1 ([] : (List Int)) z11.2.2.1), y19.2))) (fun z11r =>
    none)
theorem sim_make_group {p0 : S_trustquorummake_Tape} {p1 : Int} {p2 : Int} {r : (Tru × S_trustquorummake_Tape)} (hB : B_make_group p0 p1 p2 = some r) : R 44 [.ptr (.arg 0) 0 0, (i64 p1), (i64 p2)] [.box 0 [(.pv (.sl p0.f0.length (ints p0.f0))), (i64 p0.f1)]] = some ((.agg [(i64 r.1.thr), (.pv (.sl r.1.nodes.length (ints r.1.nodes))), (.pv (.sl r.1.inner.length (encTs r.1.inner)))]), [.box 0 [(.pv (.sl r.2.f0.length (ints r.2.f0))), (i64 r.2.f1)]], []) := by
  rw [R_eq _ _ _ fn_make_group]
  simp only [Code.fst, Code.snd, Tryd.f44, Option.getD_some]
  generalize hc1 : Code.block 0 _ = cc1
  unfold B_make_group at hB
  try simp -implicitDefEqProofs [-getElem?_pos, -Int.ofNat_lt, -Int.ofNat_le, -Int.natCast_eq_zero, -Int.natCast_pos, -List.length_eq_zero_iff, List.getElem?_cons_zero, List.getElem?_cons_succ, List.getElem?_nil]
  generalize hz1 : C Tryd.prog cf cc1 _ = z1
  obtain ⟨o, hB1, hB⟩ := kb_inv hB
  have hJ := P_make_group_1 (hc1.symm.trans (by kernel_rfl)) hz1 (by simp -implicitDefEqProofs [-getElem?_pos, -Int.ofNat_lt, -Int.ofNat_le, -Int.natCast_eq_zero, -Int.natCast_pos, -List.length_eq_zero_iff, List.getElem?_cons_zero, List.getElem?_cons_succ, List.getElem?_nil, and_assoc, I_make_group_1, ownAt]) hB1
  obtain ⟨e1, s1, rfl, hq⟩ := hJ.open
  clear hB1
  rcases o with z11 | ⟨_, _⟩ | z11r
  · simp only [stpK_go] at hB
    obtain ⟨rfl, hq⟩ := hq
    obtain ⟨u1_0, u1_1, u1_2, u1_3⟩ := z11
    dsimp only at hB hq
    simp only [Q_make_group_1] at hq
    obtain ⟨q11_1, ⟨v11_2, q11_2, a11_2⟩, ⟨q11_3, q11_4⟩, ⟨g11_6, q11_5, q11_6⟩⟩ := hq
    rcases a11_2 with ⟨ga11_2, rfl, oa11_2⟩ | ⟨rfl, ea11_2⟩
    · obtain ⟨y12, k13, hB⟩ := kb_inv hB
      replace k13 := run_make_Tape_N k13
      try simp only [Int.cast_ofNat_Int, Int.natCast_zero, List.length_cons, List.length_nil, List.nil_append, List.cons_append, Nat.zero_add, Nat.reduceAdd, Tru.thr_mk, Tru.nodes_mk, Tru.inner_mk, ints_cons, ints_nil, encTs_cons, encTs_nil, es_api_Config_cons, es_api_Config_nil, es_api_Member_cons, es_api_Member_nil] at k13
      try dsimp only at hB
      rcases cnd_inv hB with ⟨c14, hB⟩ | ⟨c14, hB⟩
      · have pc14 := eq_true (of_decide_eq_true c14)
        obtain ⟨_, n15, hB⟩ := kb_inv hB
        have n15a : ¬ _ := mustK_inv n15
        try dsimp only at hB
        obtain ⟨x16, h17, hB⟩ := kb_inv hB
        obtain ⟨h17a, h17b, h17c, h17d⟩ := getI_inv h17
        try simp only [Int.toNat_natCast, Int.reduceToNat] at h17c
        try dsimp only at hB
        have l18 := encTs_ld h17c
        obtain rfl := Option.some.inj hB
        simp -implicitDefEqProofs [-getElem?_pos, -Int.ofNat_lt, -Int.ofNat_le, -Int.natCast_eq_zero, -Int.natCast_pos, -List.length_eq_zero_iff, List.getElem?_cons_zero, List.getElem?_cons_succ, List.getElem?_nil, q11_1, q11_2, q11_3, q11_4, q11_5, q11_6, oa11_2, k13, c14, pc14, n15a, h17a, h17b, h17c, h17d, l18]
      · have pc14 := eq_false (of_decide_eq_false c14)
        obtain ⟨y19, k20, hB⟩ := kb_inv hB
        replace k20 := run_make_Tape_Range k20
        try simp only [Int.cast_ofNat_Int, Int.natCast_zero, List.length_cons, List.length_nil, List.nil_append, List.cons_append, Nat.zero_add, Nat.reduceAdd, Tru.thr_mk, Tru.nodes_mk, Tru.inner_mk, ints_cons, ints_nil, encTs_cons, encTs_nil, es_api_Config_cons, es_api_Config_nil, es_api_Member_cons, es_api_Member_nil] at k20
        try dsimp only at hB
        obtain rfl := Option.some.inj hB
        simp -implicitDefEqProofs [-getElem?_pos, -Int.ofNat_lt, -Int.ofNat_le, -Int.natCast_eq_zero, -Int.natCast_pos, -List.length_eq_zero_iff, List.getElem?_cons_zero, List.getElem?_cons_succ, List.getElem?_nil, q11_1, q11_2, q11_3, q11_4, q11_5, q11_6, oa11_2, k13, c14, pc14, k20]
    · try subst ea11_2
      obtain ⟨y12, k13, hB⟩ := kb_inv hB
      replace k13 := run_make_Tape_N k13
      try simp only [Int.cast_ofNat_Int, Int.natCast_zero, List.length_cons, List.length_nil, List.nil_append, List.cons_append, Nat.zero_add, Nat.reduceAdd, Tru.thr_mk, Tru.nodes_mk, Tru.inner_mk, ints_cons, ints_nil, encTs_cons, encTs_nil, es_api_Config_cons, es_api_Config_nil, es_api_Member_cons, es_api_Member_nil] at k13
      try dsimp only at hB
      rcases cnd_inv hB with ⟨c14, hB⟩ | ⟨c14, hB⟩
      · have pc14 := eq_true (of_decide_eq_true c14)
        obtain ⟨_, n15, hB⟩ := kb_inv hB
        have n15a : ¬ _ := mustK_inv n15
        try dsimp only at hB
        obtain ⟨x16, h17, hB⟩ := kb_inv hB
        exact absurd h17 (by simp [getI])
      · have pc14 := eq_false (of_decide_eq_false c14)
        obtain ⟨y18, k19, hB⟩ := kb_inv hB
        replace k19 := run_make_Tape_Range k19
        try simp only [Int.cast_ofNat_Int, Int.natCast_zero, List.length_cons, List.length_nil, List.nil_append, List.cons_append, Nat.zero_add, Nat.reduceAdd, Tru.thr_mk, Tru.nodes_mk, Tru.inner_mk, ints_cons, ints_nil, encTs_cons, encTs_nil, es_api_Config_cons, es_api_Config_nil, es_api_Member_cons, es_api_Member_nil] at k19
        try dsimp only at hB
        obtain rfl := Option.some.inj hB
        simp -implicitDefEqProofs [-getElem?_pos, -Int.ofNat_lt, -Int.ofNat_le, -Int.natCast_eq_zero, -Int.natCast_pos, -List.length_eq_zero_iff, List.getElem?_cons_zero, List.getElem?_cons_succ, List.getElem?_nil, q11_1, q11_2, q11_3, q11_4, q11_5, q11_6, k13, c14, pc14, k19]
  · exact hq.elim
  · cases hB
theorem g_make_group {p0 : S_trustquorummake_Tape} {p1 : Int} {p2 : Int} {r : (Tru × S_trustquorummake_Tape)} (hB : B_make_group p0 p1 p2 = some r) : G_make_group p0 p1 p2 = some r := dec_of (fun a b h => by rcases a with ⟨⟨a0_0, a0_1, a0_2⟩, ⟨a1_0, a1_1⟩⟩; rcases b with ⟨⟨b0_0, b0_1, b0_2⟩, ⟨b1_0, b1_1⟩⟩; simp at h; simp [*]) (sim_make_group hB)
end Go.Am

/-
How trustquorummake.Config runs, as a pure function.
-/
namespace Go.Am
open Go Go.Proofs
set_option linter.unusedVariables false
set_option linter.unusedSimpArgs false
set_option maxRecDepth 4000
set_option maxHeartbeats 4000000
noncomputable def B_make_Config_0 (pba0_0_0 : (List Int)) (pba0_1_0 : Int) (pb3_0_0_0 : (List S_api_Member)) (y3 : (Int × S_trustquorummake_Tape)) (y1 : (Int × S_trustquorummake_Tape)) (p8_0 : Int) : Option ((List Int) × Int × Int × (List Int) × (List Tru)) :=
  cnd (decide (y3.1 = 0)) (
    kb (G_make_Trust (S_trustquorummake_Tape.mk pba0_0_0 pba0_1_0) y1.1 2) fun y7 =>
    some (y7.2.f0, y7.2.f1, y7.1.thr, y7.1.nodes, y7.1.inner)) (
    cnd (decide (y3.1 = 1)) (
      kb (G_make_most (S_trustquorummake_Tape.mk pba0_0_0 pba0_1_0) y1.1) fun y10 =>
      some (y10.2.f0, y10.2.f1, y10.1.thr, y10.1.nodes, y10.1.inner)) (
      kb (G_make_group (S_trustquorummake_Tape.mk pba0_0_0 pba0_1_0) y1.1 p8_0) fun y12 =>
      some (y12.2.f0, y12.2.f1, y12.1.thr, y12.1.nodes, y12.1.inner)))
def J_make_Config_0 (pba0_0_0 : (List Int)) (pba0_1_0 : Int) (pb3_0_0_0 : (List S_api_Member)) (y3 : (Int × S_trustquorummake_Tape)) (y1 : (Int × S_trustquorummake_Tape)) (p8_0 : Int) (q : St) : Prop := q (.t 20) = (i64 y3.1) ∧ q (.t 5) = (i64 y1.1) ∧ q (.t 6) = (i64 y3.1) ∧ q (.t 8) = (i64 p8_0) ∧ (q (.t 0) = .ptr (.arg 0) 0 0 ∧ q (.i (.arg 0)) = .box 0 [(.pv (.sl pba0_0_0.length (ints pba0_0_0))), (i64 pba0_1_0)]) ∧ (∃ (g : Nat), q (.t 4) = .ptr (.site 0 0 0) g 0 ∧ q (.i (.site 0 0 0)) = .box g [.nilsl]) ∧ (∃ (g : Nat) (w0 : AV), q (.t 7) = .ptr (.site 3 0 0) g 0 ∧ q (.i (.site 3 0 0)) = .box g [w0] ∧ (ownAt q w0 (.site 15 4 0) false 4 pb3_0_0_0.length (es_api_Member pb3_0_0_0) ∨ ownAt q w0 (.site 16 5 0) false 4 pb3_0_0_0.length (es_api_Member pb3_0_0_0) ∨ (w0 = .nilsl ∧ pb3_0_0_0 = []))) ∧ (∃ (g : Nat), q (.t 9) = .ptr (.site 7 0 0) g 0 ∧ q (.i (.site 7 0 0)) = .box g [(i64 0), .nilsl, .nilsl])
def Q_make_Config_0 (pba0_0_0 : (List Int)) (pba0_1_0 : Int) (pb3_0_0_0 : (List S_api_Member)) (y3 : (Int × S_trustquorummake_Tape)) (y1 : (Int × S_trustquorummake_Tape)) (p8_0 : Int) (oba0_0_0 : (List Int)) (oba0_1_0 : Int) (ob7_0_0_0 : Int) (ob7_0_1_0 : (List Int)) (ob7_0_2_0 : (List Tru)) (q : St) : Prop := q (.t 5) = (i64 y1.1) ∧ q (.t 6) = (i64 y3.1) ∧ q (.t 8) = (i64 p8_0) ∧ (q (.t 0) = .ptr (.arg 0) 0 0 ∧ q (.i (.arg 0)) = .box 0 [(.pv (.sl oba0_0_0.length (ints oba0_0_0))), (i64 oba0_1_0)]) ∧ (∃ (g : Nat), q (.t 4) = .ptr (.site 0 0 0) g 0 ∧ q (.i (.site 0 0 0)) = .box g [.nilsl]) ∧ (∃ (g : Nat) (w0 : AV), q (.t 7) = .ptr (.site 3 0 0) g 0 ∧ q (.i (.site 3 0 0)) = .box g [w0] ∧ (ownAt q w0 (.site 15 4 0) false 4 pb3_0_0_0.length (es_api_Member pb3_0_0_0) ∨ ownAt q w0 (.site 16 5 0) false 4 pb3_0_0_0.length (es_api_Member pb3_0_0_0) ∨ (w0 = .nilsl ∧ pb3_0_0_0 = []))) ∧ (∃ (g : Nat), q (.t 9) = .ptr (.site 7 0 0) g 0 ∧ q (.i (.site 7 0 0)) = .box g [(i64 ob7_0_0_0), (.pv (.sl ob7_0_1_0.length (ints ob7_0_1_0))), (.pv (.sl ob7_0_2_0.length (encTs ob7_0_2_0)))])
theorem P_make_Config_0 {pba0_0_0 : (List Int)} {pba0_1_0 : Int} {pb3_0_0_0 : (List S_api_Member)} {y3 : (Int × S_trustquorummake_Tape)} {y1 : (Int × S_trustquorummake_Tape)} {p8_0 : Int} {cc : Code} (hcc : cc = (Code.snd (Code.fst (Code.snd (Code.fst (Code.fst (Code.snd (Code.fst (Code.fst (Code.snd (Code.fst (Code.snd (Code.snd (Code.snd (Code.snd ((Tryd.f19.body).getD .skip)))))))))))))))) {s : St} {z : Option (Ex × St)} (hz : C Tryd.prog cf cc s = z) {r : ((List Int) × Int × Int × (List Int) × (List Tru))} (hI : J_make_Config_0 pba0_0_0 pba0_1_0 pb3_0_0_0 y3 y1 p8_0 s) (hB : B_make_Config_0 pba0_0_0 pba0_1_0 pb3_0_0_0 y3 y1 p8_0 = some r) : Res z (postG (fun a q => Q_make_Config_0 pba0_0_0 pba0_1_0 pb3_0_0_0 y3 y1 p8_0 a.1 a.2.1 a.2.2.1 a.2.2.2.1 a.2.2.2.2 q) r) := by
  subst hcc
  subst hz
  simp only [J_make_Config_0] at hI
  obtain ⟨q1, q2, q3, q4, ⟨q5, q6⟩, ⟨g8, q7, q8⟩, ⟨g10, v10_w0, q9, q10, a10_w0⟩, ⟨g12, q11, q12⟩⟩ := hI
  simp only [Code.fst, Code.snd, Tryd.f19, Option.getD_some]
  unfold B_make_Config_0 at hB
  rcases a10_w0 with ⟨ga10_w0, rfl, oa10_w0⟩ | ⟨ga10_w0, rfl, oa10_w0⟩ | ⟨rfl, ea10_w0⟩
  · rcases cnd_inv hB with ⟨c6, hB⟩ | ⟨c6, hB⟩
    · have pc6 := eq_true (of_decide_eq_true c6)
      obtain ⟨y7, k8, hB⟩ := kb_inv hB
      replace k8 := run_make_Trust k8
      try simp only [Int.cast_ofNat_Int, Int.natCast_zero, List.length_cons, List.length_nil, List.nil_append, List.cons_append, Nat.zero_add, Nat.reduceAdd, Tru.thr_mk, Tru.nodes_mk, Tru.inner_mk, ints_cons, ints_nil, encTs_cons, encTs_nil, es_api_Config_cons, es_api_Config_nil, es_api_Member_cons, es_api_Member_nil] at k8
      try dsimp only at hB
      obtain rfl := Option.some.inj hB
      try simp -implicitDefEqProofs [-getElem?_pos, -Int.ofNat_lt, -Int.ofNat_le, -Int.natCast_eq_zero, -Int.natCast_pos, -List.length_eq_zero_iff, List.getElem?_cons_zero, List.getElem?_cons_succ, List.getElem?_nil, q1, q2, q3, q4, q5, q6, q7, q8, q9, q10, q11, q12, oa10_w0, c6, pc6, k8]
      refine Res.g ?_
      simp -implicitDefEqProofs [-getElem?_pos, -Int.ofNat_lt, -Int.ofNat_le, -Int.natCast_eq_zero, -Int.natCast_pos, -List.length_eq_zero_iff, List.getElem?_cons_zero, List.getElem?_cons_succ, List.getElem?_nil, and_assoc, Q_make_Config_0, ownAt, q1, q2, q3, q4, q5, q6, q7, q8, q9, q10, q11, q12, oa10_w0, c6, pc6, k8]
    · have pc6 := eq_false (of_decide_eq_false c6)
      rcases cnd_inv hB with ⟨c9, hB⟩ | ⟨c9, hB⟩
      · have pc9 := eq_true (of_decide_eq_true c9)
        obtain ⟨y10, k11, hB⟩ := kb_inv hB
        replace k11 := run_make_most k11
        try simp only [Int.cast_ofNat_Int, Int.natCast_zero, List.length_cons, List.length_nil, List.nil_append, List.cons_append, Nat.zero_add, Nat.reduceAdd, Tru.thr_mk, Tru.nodes_mk, Tru.inner_mk, ints_cons, ints_nil, encTs_cons, encTs_nil, es_api_Config_cons, es_api_Config_nil, es_api_Member_cons, es_api_Member_nil] at k11
        try dsimp only at hB
        obtain rfl := Option.some.inj hB
        try simp -implicitDefEqProofs [-getElem?_pos, -Int.ofNat_lt, -Int.ofNat_le, -Int.natCast_eq_zero, -Int.natCast_pos, -List.length_eq_zero_iff, List.getElem?_cons_zero, List.getElem?_cons_succ, List.getElem?_nil, q1, q2, q3, q4, q5, q6, q7, q8, q9, q10, q11, q12, oa10_w0, c6, pc6, c9, pc9, k11]
        refine Res.g ?_
        simp -implicitDefEqProofs [-getElem?_pos, -Int.ofNat_lt, -Int.ofNat_le, -Int.natCast_eq_zero, -Int.natCast_pos, -List.length_eq_zero_iff, List.getElem?_cons_zero, List.getElem?_cons_succ, List.getElem?_nil, and_assoc, Q_make_Config_0, ownAt, q1, q2, q3, q4, q5, q6, q7, q8, q9, q10, q11, q12, oa10_w0, c6, pc6, c9, pc9, k11]
      · have pc9 := eq_false (of_decide_eq_false c9)
        obtain ⟨y12, k13, hB⟩ := kb_inv hB
        replace k13 := run_make_group k13
        try simp only [Int.cast_ofNat_Int, Int.natCast_zero, List.length_cons, List.length_nil, List.nil_append, List.cons_append, Nat.zero_add, Nat.reduceAdd, Tru.thr_mk, Tru.nodes_mk, Tru.inner_mk, ints_cons, ints_nil, encTs_cons, encTs_nil, es_api_Config_cons, es_api_Config_nil, es_api_Member_cons, es_api_Member_nil] at k13
        try dsimp only at hB
        obtain rfl := Option.some.inj hB
        try simp -implicitDefEqProofs [-getElem?_pos, -Int.ofNat_lt, -Int.ofNat_le, -Int.natCast_eq_zero, -Int.natCast_pos, -List.length_eq_zero_iff, List.getElem?_cons_zero, List.getElem?_cons_succ, List.getElem?_nil, q1, q2, q3, q4, q5, q6, q7, q8, q9, q10, q11, q12, oa10_w0, c6, pc6, c9, pc9, k13]
        refine Res.g ?_
        simp -implicitDefEqProofs [-getElem?_pos, -Int.ofNat_lt, -Int.ofNat_le, -Int.natCast_eq_zero, -Int.natCast_pos, -List.length_eq_zero_iff, List.getElem?_cons_zero, List.getElem?_cons_succ, List.getElem?_nil, and_assoc, Q_make_Config_0, ownAt, q1, q2, q3, q4, q5, q6, q7, q8, q9, q10, q11, q12, oa10_w0, c6, pc6, c9, pc9, k13]
  · rcases cnd_inv hB with ⟨c6, hB⟩ | ⟨c6, hB⟩
    · have pc6 := eq_true (of_decide_eq_true c6)
      obtain ⟨y7, k8, hB⟩ := kb_inv hB
      replace k8 := run_make_Trust k8
      try simp only [Int.cast_ofNat_Int, Int.natCast_zero, List.length_cons, List.length_nil, List.nil_append, List.cons_append, Nat.zero_add, Nat.reduceAdd, Tru.thr_mk, Tru.nodes_mk, Tru.inner_mk, ints_cons, ints_nil, encTs_cons, encTs_nil, es_api_Config_cons, es_api_Config_nil, es_api_Member_cons, es_api_Member_nil] at k8
      try dsimp only at hB
      obtain rfl := Option.some.inj hB
      try simp -implicitDefEqProofs [-getElem?_pos, -Int.ofNat_lt, -Int.ofNat_le, -Int.natCast_eq_zero, -Int.natCast_pos, -List.length_eq_zero_iff, List.getElem?_cons_zero, List.getElem?_cons_succ, List.getElem?_nil, q1, q2, q3, q4, q5, q6, q7, q8, q9, q10, q11, q12, oa10_w0, c6, pc6, k8]
      refine Res.g ?_
      simp -implicitDefEqProofs [-getElem?_pos, -Int.ofNat_lt, -Int.ofNat_le, -Int.natCast_eq_zero, -Int.natCast_pos, -List.length_eq_zero_iff, List.getElem?_cons_zero, List.getElem?_cons_succ, List.getElem?_nil, and_assoc, Q_make_Config_0, ownAt, q1, q2, q3, q4, q5, q6, q7, q8, q9, q10, q11, q12, oa10_w0, c6, pc6, k8]
    · have pc6 := eq_false (of_decide_eq_false c6)
      rcases cnd_inv hB with ⟨c9, hB⟩ | ⟨c9, hB⟩
      · have pc9 := eq_true (of_decide_eq_true c9)
        obtain ⟨y10, k11, hB⟩ := kb_inv hB
        replace k11 := run_make_most k11
        try simp only [Int.cast_ofNat_Int, Int.natCast_zero, List.length_cons, List.length_nil, List.nil_append, List.cons_append, Nat.zero_add, Nat.reduceAdd, Tru.thr_mk, Tru.nodes_mk, Tru.inner_mk, ints_cons, ints_nil, encTs_cons, encTs_nil, es_api_Config_cons, es_api_Config_nil, es_api_Member_cons, es_api_Member_nil] at k11
        try dsimp only at hB
        obtain rfl := Option.some.inj hB
        try simp -implicitDefEqProofs [-getElem?_pos, -Int.ofNat_lt, -Int.ofNat_le, -Int.natCast_eq_zero, -Int.natCast_pos, -List.length_eq_zero_iff, List.getElem?_cons_zero, List.getElem?_cons_succ, List.getElem?_nil, q1, q2, q3, q4, q5, q6, q7, q8, q9, q10, q11, q12, oa10_w0, c6, pc6, c9, pc9, k11]
        refine Res.g ?_
        simp -implicitDefEqProofs [-getElem?_pos, -Int.ofNat_lt, -Int.ofNat_le, -Int.natCast_eq_zero, -Int.natCast_pos, -List.length_eq_zero_iff, List.getElem?_cons_zero, List.getElem?_cons_succ, List.getElem?_nil, and_assoc, Q_make_Config_0, ownAt, q1, q2, q3, q4, q5, q6, q7, q8, q9, q10, q11, q12, oa10_w0, c6, pc6, c9, pc9, k11]
      · have pc9 := eq_false (of_decide_eq_false c9)
        obtain ⟨y12, k13, hB⟩ := kb_inv hB
        replace k13 := run_make_group k13
        try simp only [Int.cast_ofNat_Int, Int.natCast_zero, List.length_cons, List.length_nil, List.nil_append, List.cons_append, Nat.zero_add, Nat.reduceAdd, Tru.thr_mk, Tru.nodes_mk, Tru.inner_mk, ints_cons, ints_nil, encTs_cons, encTs_nil, es_api_Config_cons, es_api_Config_nil, es_api_Member_cons, es_api_Member_nil] at k13
        try dsimp only at hB
        obtain rfl := Option.some.inj hB
        try simp -implicitDefEqProofs [-getElem?_pos, -Int.ofNat_lt, -Int.ofNat_le, -Int.natCast_eq_zero, -Int.natCast_pos, -List.length_eq_zero_iff, List.getElem?_cons_zero, List.getElem?_cons_succ, List.getElem?_nil, q1, q2, q3, q4, q5, q6, q7, q8, q9, q10, q11, q12, oa10_w0, c6, pc6, c9, pc9, k13]
        refine Res.g ?_
        simp -implicitDefEqProofs [-getElem?_pos, -Int.ofNat_lt, -Int.ofNat_le, -Int.natCast_eq_zero, -Int.natCast_pos, -List.length_eq_zero_iff, List.getElem?_cons_zero, List.getElem?_cons_succ, List.getElem?_nil, and_assoc, Q_make_Config_0, ownAt, q1, q2, q3, q4, q5, q6, q7, q8, q9, q10, q11, q12, oa10_w0, c6, pc6, c9, pc9, k13]
  · try subst ea10_w0
    rcases cnd_inv hB with ⟨c6, hB⟩ | ⟨c6, hB⟩
    · have pc6 := eq_true (of_decide_eq_true c6)
      obtain ⟨y7, k8, hB⟩ := kb_inv hB
      replace k8 := run_make_Trust k8
      try simp only [Int.cast_ofNat_Int, Int.natCast_zero, List.length_cons, List.length_nil, List.nil_append, List.cons_append, Nat.zero_add, Nat.reduceAdd, Tru.thr_mk, Tru.nodes_mk, Tru.inner_mk, ints_cons, ints_nil, encTs_cons, encTs_nil, es_api_Config_cons, es_api_Config_nil, es_api_Member_cons, es_api_Member_nil] at k8
      try dsimp only at hB
      obtain rfl := Option.some.inj hB
      try simp -implicitDefEqProofs [-getElem?_pos, -Int.ofNat_lt, -Int.ofNat_le, -Int.natCast_eq_zero, -Int.natCast_pos, -List.length_eq_zero_iff, List.getElem?_cons_zero, List.getElem?_cons_succ, List.getElem?_nil, q1, q2, q3, q4, q5, q6, q7, q8, q9, q10, q11, q12, c6, pc6, k8]
      refine Res.g ?_
      simp -implicitDefEqProofs [-getElem?_pos, -Int.ofNat_lt, -Int.ofNat_le, -Int.natCast_eq_zero, -Int.natCast_pos, -List.length_eq_zero_iff, List.getElem?_cons_zero, List.getElem?_cons_succ, List.getElem?_nil, and_assoc, Q_make_Config_0, ownAt, q1, q2, q3, q4, q5, q6, q7, q8, q9, q10, q11, q12, c6, pc6, k8]
    · have pc6 := eq_false (of_decide_eq_false c6)
      rcases cnd_inv hB with ⟨c9, hB⟩ | ⟨c9, hB⟩
      · have pc9 := eq_true (of_decide_eq_true c9)
        obtain ⟨y10, k11, hB⟩ := kb_inv hB
        replace k11 := run_make_most k11
        try simp only [Int.cast_ofNat_Int, Int.natCast_zero, List.length_cons, List.length_nil, List.nil_append, List.cons_append, Nat.zero_add, Nat.reduceAdd, Tru.thr_mk, Tru.nodes_mk, Tru.inner_mk, ints_cons, ints_nil, encTs_cons, encTs_nil, es_api_Config_cons, es_api_Config_nil, es_api_Member_cons, es_api_Member_nil] at k11
        try dsimp only at hB
        obtain rfl := Option.some.inj hB
        try simp -implicitDefEqProofs [-getElem?_pos, -Int.ofNat_lt, -Int.ofNat_le, -Int.natCast_eq_zero, -Int.natCast_pos, -List.length_eq_zero_iff, List.getElem?_cons_zero, List.getElem?_cons_succ, List.getElem?_nil, q1, q2, q3, q4, q5, q6, q7, q8, q9, q10, q11, q12, c6, pc6, c9, pc9, k11]
        refine Res.g ?_
        simp -implicitDefEqProofs [-getElem?_pos, -Int.ofNat_lt, -Int.ofNat_le, -Int.natCast_eq_zero, -Int.natCast_pos, -List.length_eq_zero_iff, List.getElem?_cons_zero, List.getElem?_cons_succ, List.getElem?_nil, and_assoc, Q_make_Config_0, ownAt, q1, q2, q3, q4, q5, q6, q7, q8, q9, q10, q11, q12, c6, pc6, c9, pc9, k11]
      · have pc9 := eq_false (of_decide_eq_false c9)
        obtain ⟨y12, k13, hB⟩ := kb_inv hB
        replace k13 := run_make_group k13
        try simp only [Int.cast_ofNat_Int, Int.natCast_zero, List.length_cons, List.length_nil, List.nil_append, List.cons_append, Nat.zero_add, Nat.reduceAdd, Tru.thr_mk, Tru.nodes_mk, Tru.inner_mk, ints_cons, ints_nil, encTs_cons, encTs_nil, es_api_Config_cons, es_api_Config_nil, es_api_Member_cons, es_api_Member_nil] at k13
        try dsimp only at hB
        obtain rfl := Option.some.inj hB
        try simp -implicitDefEqProofs [-getElem?_pos, -Int.ofNat_lt, -Int.ofNat_le, -Int.natCast_eq_zero, -Int.natCast_pos, -List.length_eq_zero_iff, List.getElem?_cons_zero, List.getElem?_cons_succ, List.getElem?_nil, q1, q2, q3, q4, q5, q6, q7, q8, q9, q10, q11, q12, c6, pc6, c9, pc9, k13]
        refine Res.g ?_
        simp -implicitDefEqProofs [-getElem?_pos, -Int.ofNat_lt, -Int.ofNat_le, -Int.natCast_eq_zero, -Int.natCast_pos, -List.length_eq_zero_iff, List.getElem?_cons_zero, List.getElem?_cons_succ, List.getElem?_nil, and_assoc, Q_make_Config_0, ownAt, q1, q2, q3, q4, q5, q6, q7, q8, q9, q10, q11, q12, c6, pc6, c9, pc9, k13]
noncomputable def B_make_Config_1 (y1 : (Int × S_trustquorummake_Tape)) (y3 : (Int × S_trustquorummake_Tape)) (xba0_0_1 : (List Int)) (xba0_1_1 : Int) (xb3_0_0_1 : (List S_api_Member)) (x8_1 : Int) : Option (Stp ((List Int) × Int × (List S_api_Member) × Int) Unit) :=
  cnd (decide (x8_1 < y1.1)) (
    kb (B_make_Config_0 xba0_0_1 xba0_1_1 xb3_0_0_1 y3 y1 x8_1) fun z14 =>
    kb (G_make_Tape_N (S_trustquorummake_Tape.mk z14.1 z14.2.1) 12) fun y15 =>
    cnd (decide (y15.1 = 11)) (
      kb (appK xb3_0_0_1 ([(S_api_Member.mk false (Tru.mk 0 ([] : (List Int)) ([] : (List Tru))))] : List S_api_Member) 64) fun L18 =>
      some (.go (y15.2.f0, y15.2.f1, L18, (add64 x8_1 1)))) (
      kb (appK xb3_0_0_1 ([(S_api_Member.mk true (Tru.mk z14.2.2.1 z14.2.2.2.1 z14.2.2.2.2))] : List S_api_Member) 64) fun L20 =>
      some (.go (y15.2.f0, y15.2.f1, L20, (add64 x8_1 1))))) (
    some (.ex 0 (xba0_0_1, xba0_1_1, xb3_0_0_1, x8_1)))
def I_make_Config_1 (y1 : (Int × S_trustquorummake_Tape)) (y3 : (Int × S_trustquorummake_Tape)) (xba0_0_1 : (List Int)) (xba0_1_1 : Int) (xb3_0_0_1 : (List S_api_Member)) (x8_1 : Int) (q : St) : Prop := q (.t 5) = (i64 y1.1) ∧ q (.t 6) = (i64 y3.1) ∧ q (.t 8) = (i64 x8_1) ∧ (q (.t 0) = .ptr (.arg 0) 0 0 ∧ q (.i (.arg 0)) = .box 0 [(.pv (.sl xba0_0_1.length (ints xba0_0_1))), (i64 xba0_1_1)]) ∧ (∃ (g : Nat), q (.t 4) = .ptr (.site 0 0 0) g 0 ∧ q (.i (.site 0 0 0)) = .box g [.nilsl]) ∧ (∃ (g : Nat) (w0 : AV), q (.t 7) = .ptr (.site 3 0 0) g 0 ∧ q (.i (.site 3 0 0)) = .box g [w0] ∧ (ownAt q w0 (.site 15 4 0) false 4 xb3_0_0_1.length (es_api_Member xb3_0_0_1) ∨ ownAt q w0 (.site 16 5 0) false 4 xb3_0_0_1.length (es_api_Member xb3_0_0_1) ∨ (w0 = .nilsl ∧ xb3_0_0_1 = [])))
def Q_make_Config_1 (y1 : (Int × S_trustquorummake_Tape)) (y3 : (Int × S_trustquorummake_Tape)) (xba0_0_1 : (List Int)) (xba0_1_1 : Int) (xb3_0_0_1 : (List S_api_Member)) (x8_1 : Int) (q : St) : Prop := (q (.i (.arg 0)) = .box 0 [(.pv (.sl xba0_0_1.length (ints xba0_0_1))), (i64 xba0_1_1)]) ∧ (∃ (g : Nat), q (.t 4) = .ptr (.site 0 0 0) g 0 ∧ q (.i (.site 0 0 0)) = .box g [.nilsl]) ∧ (∃ (g : Nat) (w0 : AV), q (.t 7) = .ptr (.site 3 0 0) g 0 ∧ q (.i (.site 3 0 0)) = .box g [w0] ∧ (ownAt q w0 (.site 15 4 0) false 4 xb3_0_0_1.length (es_api_Member xb3_0_0_1) ∨ ownAt q w0 (.site 16 5 0) false 4 xb3_0_0_1.length (es_api_Member xb3_0_0_1) ∨ (w0 = .nilsl ∧ xb3_0_0_1 = [])))
theorem Pb_make_Config_1 {y1 : (Int × S_trustquorummake_Tape)} {y3 : (Int × S_trustquorummake_Tape)} {xba0_0_1 : (List Int)} {xba0_1_1 : Int} {xb3_0_0_1 : (List S_api_Member)} {x8_1 : Int} {q : St} {r : (Stp ((List Int) × Int × (List S_api_Member) × Int) Unit)} (hI : I_make_Config_1 y1 y3 xba0_0_1 xba0_1_1 xb3_0_0_1 x8_1 q) (hB : B_make_Config_1 y1 y3 xba0_0_1 xba0_1_1 xb3_0_0_1 x8_1 = some r) : Res (C Tryd.prog cf (Code.fst (Code.fst (Code.snd (Code.fst (Code.snd (Code.snd (Code.snd (Code.snd ((Tryd.f19.body).getD .skip))))))))) q) (postB 0 (fun a q => I_make_Config_1 y1 y3 a.1 a.2.1 a.2.2.1 a.2.2.2 q) (fun a q => Q_make_Config_1 y1 y3 a.1 a.2.1 a.2.2.1 a.2.2.2 q) (fun _ _ => False) r) := by
  simp only [I_make_Config_1] at hI
  obtain ⟨q1, q2, q3, ⟨q4, q5⟩, ⟨g7, q6, q7⟩, ⟨g9, v9_w0, q8, q9, a9_w0⟩⟩ := hI
  simp only [Code.fst, Code.snd, Tryd.f19, Option.getD_some]
  generalize hc0 : Code.block 2 _ = cc0
  unfold B_make_Config_1 at hB
  rcases a9_w0 with ⟨ga9_w0, rfl, oa9_w0⟩ | ⟨ga9_w0, rfl, oa9_w0⟩ | ⟨rfl, ea9_w0⟩
  · rcases cnd_inv hB with ⟨c5, hB⟩ | ⟨c5, hB⟩
    · have pc5 := eq_true (of_decide_eq_true c5)
      try simp -implicitDefEqProofs [-getElem?_pos, -Int.ofNat_lt, -Int.ofNat_le, -Int.natCast_eq_zero, -Int.natCast_pos, -List.length_eq_zero_iff, List.getElem?_cons_zero, List.getElem?_cons_succ, List.getElem?_nil, q1, q2, q3, q4, q5, q6, q7, q8, q9, oa9_w0, c5, pc5]
      generalize hz0 : C Tryd.prog cf cc0 _ = z0
      obtain ⟨z14, hB1, hB⟩ := kb_inv hB
      have hJ := P_make_Config_0 (hc0.symm.trans (by kernel_rfl)) hz0 (by simp -implicitDefEqProofs [-getElem?_pos, -Int.ofNat_lt, -Int.ofNat_le, -Int.natCast_eq_zero, -Int.natCast_pos, -List.length_eq_zero_iff, List.getElem?_cons_zero, List.getElem?_cons_succ, List.getElem?_nil, and_assoc, J_make_Config_0, ownAt, q1, q2, q3, q4, q5, q6, q7, q8, q9, oa9_w0, c5, pc5]) hB1
      obtain ⟨e0, s0, rfl, hq⟩ := hJ.open
      clear hB1
      obtain ⟨rfl, hq⟩ := hq
      obtain ⟨u0_0, u0_1, u0_2, u0_3, u0_4⟩ := z14
      dsimp only at hB hq
      simp only [Q_make_Config_0] at hq
      obtain ⟨q14_1, q14_2, q14_3, ⟨q14_4, q14_5⟩, ⟨g14_7, q14_6, q14_7⟩, ⟨g14_9, v14_9_w0, q14_8, q14_9, a14_9_w0⟩, ⟨g14_11, q14_10, q14_11⟩⟩ := hq
      rcases a14_9_w0 with ⟨ga14_9_w0, rfl, oa14_9_w0⟩ | ⟨ga14_9_w0, rfl, oa14_9_w0⟩ | ⟨rfl, ea14_9_w0⟩
      · obtain ⟨y15, k16, hB⟩ := kb_inv hB
        replace k16 := run_make_Tape_N k16
        try simp only [Int.cast_ofNat_Int, Int.natCast_zero, List.length_cons, List.length_nil, List.nil_append, List.cons_append, Nat.zero_add, Nat.reduceAdd, Tru.thr_mk, Tru.nodes_mk, Tru.inner_mk, ints_cons, ints_nil, encTs_cons, encTs_nil, es_api_Config_cons, es_api_Config_nil, es_api_Member_cons, es_api_Member_nil] at k16
        try dsimp only at hB
        rcases cnd_inv hB with ⟨c17, hB⟩ | ⟨c17, hB⟩
        · have pc17 := eq_true (of_decide_eq_true c17)
          obtain ⟨L18, a19, hB⟩ := kb_inv hB
          obtain ⟨a19z, a19a, a19y⟩ := appK_inv a19
          try (simp only [List.nil_append] at a19z; subst a19z)
          have a19b := appK_len a19
          have a19c := es_api_Member_appK a19
          have a19d := appK_le a19
          try simp only [Int.cast_ofNat_Int, Int.natCast_zero, List.length_cons, List.length_nil, List.nil_append, List.cons_append, Nat.zero_add, Nat.reduceAdd, Tru.thr_mk, Tru.nodes_mk, Tru.inner_mk, ints_cons, ints_nil, encTs_cons, encTs_nil, es_api_Config_cons, es_api_Config_nil, es_api_Member_cons, es_api_Member_nil] at a19a a19b a19c
          try replace a19b : _ = (1 : Nat) := a19b.symm
          try dsimp only at hB
          obtain rfl := Option.some.inj hB
          try simp -implicitDefEqProofs [-getElem?_pos, -Int.ofNat_lt, -Int.ofNat_le, -Int.natCast_eq_zero, -Int.natCast_pos, -List.length_eq_zero_iff, List.getElem?_cons_zero, List.getElem?_cons_succ, List.getElem?_nil, q14_1, q14_2, q14_3, q14_4, q14_5, q14_6, q14_7, q14_8, q14_9, q14_10, q14_11, oa14_9_w0, c5, pc5, k16, c17, pc17, a19a, a19b, a19c, a19d]
          refine Res.bgo ?_
          simp -implicitDefEqProofs [-getElem?_pos, -Int.ofNat_lt, -Int.ofNat_le, -Int.natCast_eq_zero, -Int.natCast_pos, -List.length_eq_zero_iff, List.getElem?_cons_zero, List.getElem?_cons_succ, List.getElem?_nil, and_assoc, I_make_Config_1, ownAt, q14_1, q14_2, q14_3, q14_4, q14_5, q14_6, q14_7, q14_8, q14_9, q14_10, q14_11, oa14_9_w0, c5, pc5, k16, c17, pc17, a19a, a19b, a19c, a19d]
        · have pc17 := eq_false (of_decide_eq_false c17)
          obtain ⟨L20, a21, hB⟩ := kb_inv hB
          obtain ⟨a21z, a21a, a21y⟩ := appK_inv a21
          try (simp only [List.nil_append] at a21z; subst a21z)
          have a21b := appK_len a21
          have a21c := es_api_Member_appK a21
          have a21d := appK_le a21
          try simp only [Int.cast_ofNat_Int, Int.natCast_zero, List.length_cons, List.length_nil, List.nil_append, List.cons_append, Nat.zero_add, Nat.reduceAdd, Tru.thr_mk, Tru.nodes_mk, Tru.inner_mk, ints_cons, ints_nil, encTs_cons, encTs_nil, es_api_Config_cons, es_api_Config_nil, es_api_Member_cons, es_api_Member_nil] at a21a a21b a21c
          try replace a21b : _ = (1 : Nat) := a21b.symm
          try dsimp only at hB
          obtain rfl := Option.some.inj hB
          try simp -implicitDefEqProofs [-getElem?_pos, -Int.ofNat_lt, -Int.ofNat_le, -Int.natCast_eq_zero, -Int.natCast_pos, -List.length_eq_zero_iff, List.getElem?_cons_zero, List.getElem?_cons_succ, List.getElem?_nil, q14_1, q14_2, q14_3, q14_4, q14_5, q14_6, q14_7, q14_8, q14_9, q14_10, q14_11, oa14_9_w0, c5, pc5, k16, c17, pc17, a21a, a21b, a21c, a21d]
          refine Res.bgo ?_
          simp -implicitDefEqProofs [-getElem?_pos, -Int.ofNat_lt, -Int.ofNat_le, -Int.natCast_eq_zero, -Int.natCast_pos, -List.length_eq_zero_iff, List.getElem?_cons_zero, List.getElem?_cons_succ, List.getElem?_nil, and_assoc, I_make_Config_1, ownAt, q14_1, q14_2, q14_3, q14_4, q14_5, q14_6, q14_7, q14_8, q14_9, q14_10, q14_11, oa14_9_w0, c5, pc5, k16, c17, pc17, a21a, a21b, a21c, a21d]
      · obtain ⟨y15, k16, hB⟩ := kb_inv hB
        replace k16 := run_make_Tape_N k16
        try simp only [Int.cast_ofNat_Int, Int.natCast_zero, List.length_cons, List.length_nil, List.nil_append, List.cons_append, Nat.zero_add, Nat.reduceAdd, Tru.thr_mk, Tru.nodes_mk, Tru.inner_mk, ints_cons, ints_nil, encTs_cons, encTs_nil, es_api_Config_cons, es_api_Config_nil, es_api_Member_cons, es_api_Member_nil] at k16
        try dsimp only at hB
        rcases cnd_inv hB with ⟨c17, hB⟩ | ⟨c17, hB⟩
        · have pc17 := eq_true (of_decide_eq_true c17)
          obtain ⟨L18, a19, hB⟩ := kb_inv hB
          obtain ⟨a19z, a19a, a19y⟩ := appK_inv a19
          try (simp only [List.nil_append] at a19z; subst a19z)
          have a19b := appK_len a19
          have a19c := es_api_Member_appK a19
          have a19d := appK_le a19
          try simp only [Int.cast_ofNat_Int, Int.natCast_zero, List.length_cons, List.length_nil, List.nil_append, List.cons_append, Nat.zero_add, Nat.reduceAdd, Tru.thr_mk, Tru.nodes_mk, Tru.inner_mk, ints_cons, ints_nil, encTs_cons, encTs_nil, es_api_Config_cons, es_api_Config_nil, es_api_Member_cons, es_api_Member_nil] at a19a a19b a19c
          try replace a19b : _ = (1 : Nat) := a19b.symm
          try dsimp only at hB
          obtain rfl := Option.some.inj hB
          try simp -implicitDefEqProofs [-getElem?_pos, -Int.ofNat_lt, -Int.ofNat_le, -Int.natCast_eq_zero, -Int.natCast_pos, -List.length_eq_zero_iff, List.getElem?_cons_zero, List.getElem?_cons_succ, List.getElem?_nil, q14_1, q14_2, q14_3, q14_4, q14_5, q14_6, q14_7, q14_8, q14_9, q14_10, q14_11, oa14_9_w0, c5, pc5, k16, c17, pc17, a19a, a19b, a19c, a19d]
          refine Res.bgo ?_
          simp -implicitDefEqProofs [-getElem?_pos, -Int.ofNat_lt, -Int.ofNat_le, -Int.natCast_eq_zero, -Int.natCast_pos, -List.length_eq_zero_iff, List.getElem?_cons_zero, List.getElem?_cons_succ, List.getElem?_nil, and_assoc, I_make_Config_1, ownAt, q14_1, q14_2, q14_3, q14_4, q14_5, q14_6, q14_7, q14_8, q14_9, q14_10, q14_11, oa14_9_w0, c5, pc5, k16, c17, pc17, a19a, a19b, a19c, a19d]
        · have pc17 := eq_false (of_decide_eq_false c17)
          obtain ⟨L20, a21, hB⟩ := kb_inv hB
          obtain ⟨a21z, a21a, a21y⟩ := appK_inv a21
          try (simp only [List.nil_append] at a21z; subst a21z)
          have a21b := appK_len a21
          have a21c := es_api_Member_appK a21
          have a21d := appK_le a21
          try simp only [Int.cast_ofNat_Int, Int.natCast_zero, List.length_cons, List.length_nil, List.nil_append, List.cons_append, Nat.zero_add, Nat.reduceAdd, Tru.thr_mk, Tru.nodes_mk, Tru.inner_mk, ints_cons, ints_nil, encTs_cons, encTs_nil, es_api_Config_cons, es_api_Config_nil, es_api_Member_cons, es_api_Member_nil] at a21a a21b a21c
          try replace a21b : _ = (1 : Nat) := a21b.symm
          try dsimp only at hB
          obtain rfl := Option.some.inj hB
          try simp -implicitDefEqProofs [-getElem?_pos, -Int.ofNat_lt, -Int.ofNat_le, -Int.natCast_eq_zero, -Int.natCast_pos, -List.length_eq_zero_iff, List.getElem?_cons_zero, List.getElem?_cons_succ, List.getElem?_nil, q14_1, q14_2, q14_3, q14_4, q14_5, q14_6, q14_7, q14_8, q14_9, q14_10, q14_11, oa14_9_w0, c5, pc5, k16, c17, pc17, a21a, a21b, a21c, a21d]
          refine Res.bgo ?_
          simp -implicitDefEqProofs [-getElem?_pos, -Int.ofNat_lt, -Int.ofNat_le, -Int.natCast_eq_zero, -Int.natCast_pos, -List.length_eq_zero_iff, List.getElem?_cons_zero, List.getElem?_cons_succ, List.getElem?_nil, and_assoc, I_make_Config_1, ownAt, q14_1, q14_2, q14_3, q14_4, q14_5, q14_6, q14_7, q14_8, q14_9, q14_10, q14_11, oa14_9_w0, c5, pc5, k16, c17, pc17, a21a, a21b, a21c, a21d]
      · try subst ea14_9_w0
        obtain ⟨y15, k16, hB⟩ := kb_inv hB
        replace k16 := run_make_Tape_N k16
        try simp only [Int.cast_ofNat_Int, Int.natCast_zero, List.length_cons, List.length_nil, List.nil_append, List.cons_append, Nat.zero_add, Nat.reduceAdd, Tru.thr_mk, Tru.nodes_mk, Tru.inner_mk, ints_cons, ints_nil, encTs_cons, encTs_nil, es_api_Config_cons, es_api_Config_nil, es_api_Member_cons, es_api_Member_nil] at k16
        try dsimp only at hB
        rcases cnd_inv hB with ⟨c17, hB⟩ | ⟨c17, hB⟩
        · have pc17 := eq_true (of_decide_eq_true c17)
          obtain ⟨L18, a19, hB⟩ := kb_inv hB
          obtain ⟨a19z, a19a, a19y⟩ := appK_inv a19
          simp only [List.nil_append] at a19z
          subst a19z
          try dsimp only at hB
          obtain rfl := Option.some.inj hB
          try simp -implicitDefEqProofs [-getElem?_pos, -Int.ofNat_lt, -Int.ofNat_le, -Int.natCast_eq_zero, -Int.natCast_pos, -List.length_eq_zero_iff, List.getElem?_cons_zero, List.getElem?_cons_succ, List.getElem?_nil, q14_1, q14_2, q14_3, q14_4, q14_5, q14_6, q14_7, q14_8, q14_9, q14_10, q14_11, c5, pc5, k16, c17, pc17]
          refine Res.bgo ?_
          simp -implicitDefEqProofs [-getElem?_pos, -Int.ofNat_lt, -Int.ofNat_le, -Int.natCast_eq_zero, -Int.natCast_pos, -List.length_eq_zero_iff, List.getElem?_cons_zero, List.getElem?_cons_succ, List.getElem?_nil, and_assoc, I_make_Config_1, ownAt, q14_1, q14_2, q14_3, q14_4, q14_5, q14_6, q14_7, q14_8, q14_9, q14_10, q14_11, c5, pc5, k16, c17, pc17]
        · have pc17 := eq_false (of_decide_eq_false c17)
          obtain ⟨L20, a21, hB⟩ := kb_inv hB
          obtain ⟨a21z, a21a, a21y⟩ := appK_inv a21
          simp only [List.nil_append] at a21z
          subst a21z
          try dsimp only at hB
          obtain rfl := Option.some.inj hB
          try simp -implicitDefEqProofs [-getElem?_pos, -Int.ofNat_lt, -Int.ofNat_le, -Int.natCast_eq_zero, -Int.natCast_pos, -List.length_eq_zero_iff, List.getElem?_cons_zero, List.getElem?_cons_succ, List.getElem?_nil, q14_1, q14_2, q14_3, q14_4, q14_5, q14_6, q14_7, q14_8, q14_9, q14_10, q14_11, c5, pc5, k16, c17, pc17]
          refine Res.bgo ?_
          simp -implicitDefEqProofs [-getElem?_pos, -Int.ofNat_lt, -Int.ofNat_le, -Int.natCast_eq_zero, -Int.natCast_pos, -List.length_eq_zero_iff, List.getElem?_cons_zero, List.getElem?_cons_succ, List.getElem?_nil, and_assoc, I_make_Config_1, ownAt, q14_1, q14_2, q14_3, q14_4, q14_5, q14_6, q14_7, q14_8, q14_9, q14_10, q14_11, c5, pc5, k16, c17, pc17]
    · have pc5 := eq_false (of_decide_eq_false c5)
      obtain rfl := Option.some.inj hB
      try simp -implicitDefEqProofs [-getElem?_pos, -Int.ofNat_lt, -Int.ofNat_le, -Int.natCast_eq_zero, -Int.natCast_pos, -List.length_eq_zero_iff, List.getElem?_cons_zero, List.getElem?_cons_succ, List.getElem?_nil, q1, q2, q3, q4, q5, q6, q7, q8, q9, oa9_w0, c5, pc5]
      refine Res.bex ?_
      simp -implicitDefEqProofs [-getElem?_pos, -Int.ofNat_lt, -Int.ofNat_le, -Int.natCast_eq_zero, -Int.natCast_pos, -List.length_eq_zero_iff, List.getElem?_cons_zero, List.getElem?_cons_succ, List.getElem?_nil, and_assoc, Q_make_Config_1, ownAt, q1, q2, q3, q4, q5, q6, q7, q8, q9, oa9_w0, c5, pc5]
  · rcases cnd_inv hB with ⟨c5, hB⟩ | ⟨c5, hB⟩
    · have pc5 := eq_true (of_decide_eq_true c5)
      try simp -implicitDefEqProofs [-getElem?_pos, -Int.ofNat_lt, -Int.ofNat_le, -Int.natCast_eq_zero, -Int.natCast_pos, -List.length_eq_zero_iff, List.getElem?_cons_zero, List.getElem?_cons_succ, List.getElem?_nil, q1, q2, q3, q4, q5, q6, q7, q8, q9, oa9_w0, c5, pc5]
      generalize hz0 : C Tryd.prog cf cc0 _ = z0
      obtain ⟨z14, hB1, hB⟩ := kb_inv hB
      have hJ := P_make_Config_0 (hc0.symm.trans (by kernel_rfl)) hz0 (by simp -implicitDefEqProofs [-getElem?_pos, -Int.ofNat_lt, -Int.ofNat_le, -Int.natCast_eq_zero, -Int.natCast_pos, -List.length_eq_zero_iff, List.getElem?_cons_zero, List.getElem?_cons_succ, List.getElem?_nil, and_assoc, J_make_Config_0, ownAt, q1, q2, q3, q4, q5, q6, q7, q8, q9, oa9_w0, c5, pc5]) hB1
      obtain ⟨e0, s0, rfl, hq⟩ := hJ.open
      clear hB1
      obtain ⟨rfl, hq⟩ := hq
      obtain ⟨u0_0, u0_1, u0_2, u0_3, u0_4⟩ := z14
      dsimp only at hB hq
      simp only [Q_make_Config_0] at hq
      obtain ⟨q14_1, q14_2, q14_3, ⟨q14_4, q14_5⟩, ⟨g14_7, q14_6, q14_7⟩, ⟨g14_9, v14_9_w0, q14_8, q14_9, a14_9_w0⟩, ⟨g14_11, q14_10, q14_11⟩⟩ := hq
      rcases a14_9_w0 with ⟨ga14_9_w0, rfl, oa14_9_w0⟩ | ⟨ga14_9_w0, rfl, oa14_9_w0⟩ | ⟨rfl, ea14_9_w0⟩
      · obtain ⟨y15, k16, hB⟩ := kb_inv hB
        replace k16 := run_make_Tape_N k16
        try simp only [Int.cast_ofNat_Int, Int.natCast_zero, List.length_cons, List.length_nil, List.nil_append, List.cons_append, Nat.zero_add, Nat.reduceAdd, Tru.thr_mk, Tru.nodes_mk, Tru.inner_mk, ints_cons, ints_nil, encTs_cons, encTs_nil, es_api_Config_cons, es_api_Config_nil, es_api_Member_cons, es_api_Member_nil] at k16
        try dsimp only at hB
        rcases cnd_inv hB with ⟨c17, hB⟩ | ⟨c17, hB⟩
        · have pc17 := eq_true (of_decide_eq_true c17)
          obtain ⟨L18, a19, hB⟩ := kb_inv hB
          obtain ⟨a19z, a19a, a19y⟩ := appK_inv a19
          try (simp only [List.nil_append] at a19z; subst a19z)
          have a19b := appK_len a19
          have a19c := es_api_Member_appK a19
          have a19d := appK_le a19
          try simp only [Int.cast_ofNat_Int, Int.natCast_zero, List.length_cons, List.length_nil, List.nil_append, List.cons_append, Nat.zero_add, Nat.reduceAdd, Tru.thr_mk, Tru.nodes_mk, Tru.inner_mk, ints_cons, ints_nil, encTs_cons, encTs_nil, es_api_Config_cons, es_api_Config_nil, es_api_Member_cons, es_api_Member_nil] at a19a a19b a19c
          try replace a19b : _ = (1 : Nat) := a19b.symm
          try dsimp only at hB
          obtain rfl := Option.some.inj hB
          try simp -implicitDefEqProofs [-getElem?_pos, -Int.ofNat_lt, -Int.ofNat_le, -Int.natCast_eq_zero, -Int.natCast_pos, -List.length_eq_zero_iff, List.getElem?_cons_zero, List.getElem?_cons_succ, List.getElem?_nil, q14_1, q14_2, q14_3, q14_4, q14_5, q14_6, q14_7, q14_8, q14_9, q14_10, q14_11, oa14_9_w0, c5, pc5, k16, c17, pc17, a19a, a19b, a19c, a19d]
          refine Res.bgo ?_
          simp -implicitDefEqProofs [-getElem?_pos, -Int.ofNat_lt, -Int.ofNat_le, -Int.natCast_eq_zero, -Int.natCast_pos, -List.length_eq_zero_iff, List.getElem?_cons_zero, List.getElem?_cons_succ, List.getElem?_nil, and_assoc, I_make_Config_1, ownAt, q14_1, q14_2, q14_3, q14_4, q14_5, q14_6, q14_7, q14_8, q14_9, q14_10, q14_11, oa14_9_w0, c5, pc5, k16, c17, pc17, a19a, a19b, a19c, a19d]
        · have pc17 := eq_false (of_decide_eq_false c17)
          obtain ⟨L20, a21, hB⟩ := kb_inv hB
          obtain ⟨a21z, a21a, a21y⟩ := appK_inv a21
          try (simp only [List.nil_append] at a21z; subst a21z)
          have a21b := appK_len a21
          have a21c := es_api_Member_appK a21
          have a21d := appK_le a21
          try simp only [Int.cast_ofNat_Int, Int.natCast_zero, List.length_cons, List.length_nil, List.nil_append, List.cons_append, Nat.zero_add, Nat.reduceAdd, Tru.thr_mk, Tru.nodes_mk, Tru.inner_mk, ints_cons, ints_nil, encTs_cons, encTs_nil, es_api_Config_cons, es_api_Config_nil, es_api_Member_cons, es_api_Member_nil] at a21a a21b a21c
          try replace a21b : _ = (1 : Nat) := a21b.symm
          try dsimp only at hB
          obtain rfl := Option.some.inj hB
          try simp -implicitDefEqProofs [-getElem?_pos, -Int.ofNat_lt, -Int.ofNat_le, -Int.natCast_eq_zero, -Int.natCast_pos, -List.length_eq_zero_iff, List.getElem?_cons_zero, List.getElem?_cons_succ, List.getElem?_nil, q14_1, q14_2, q14_3, q14_4, q14_5, q14_6, q14_7, q14_8, q14_9, q14_10, q14_11, oa14_9_w0, c5, pc5, k16, c17, pc17, a21a, a21b, a21c, a21d]
          refine Res.bgo ?_
          simp -implicitDefEqProofs [-getElem?_pos, -Int.ofNat_lt, -Int.ofNat_le, -Int.natCast_eq_zero, -Int.natCast_pos, -List.length_eq_zero_iff, List.getElem?_cons_zero, List.getElem?_cons_succ, List.getElem?_nil, and_assoc, I_make_Config_1, ownAt, q14_1, q14_2, q14_3, q14_4, q14_5, q14_6, q14_7, q14_8, q14_9, q14_10, q14_11, oa14_9_w0, c5, pc5, k16, c17, pc17, a21a, a21b, a21c, a21d]
      · obtain ⟨y15, k16, hB⟩ := kb_inv hB
        replace k16 := run_make_Tape_N k16
        try simp only [Int.cast_ofNat_Int, Int.natCast_zero, List.length_cons, List.length_nil, List.nil_append, List.cons_append, Nat.zero_add, Nat.reduceAdd, Tru.thr_mk, Tru.nodes_mk, Tru.inner_mk, ints_cons, ints_nil, encTs_cons, encTs_nil, es_api_Config_cons, es_api_Config_nil, es_api_Member_cons, es_api_Member_nil] at k16
        try dsimp only at hB
        rcases cnd_inv hB with ⟨c17, hB⟩ | ⟨c17, hB⟩
        · have pc17 := eq_true (of_decide_eq_true c17)
          obtain ⟨L18, a19, hB⟩ := kb_inv hB
          obtain ⟨a19z, a19a, a19y⟩ := appK_inv a19
          try (simp only [List.nil_append] at a19z; subst a19z)
          have a19b := appK_len a19
          have a19c := es_api_Member_appK a19
          have a19d := appK_le a19
          try simp only [Int.cast_ofNat_Int, Int.natCast_zero, List.length_cons, List.length_nil, List.nil_append, List.cons_append, Nat.zero_add, Nat.reduceAdd, Tru.thr_mk, Tru.nodes_mk, Tru.inner_mk, ints_cons, ints_nil, encTs_cons, encTs_nil, es_api_Config_cons, es_api_Config_nil, es_api_Member_cons, es_api_Member_nil] at a19a a19b a19c
          try replace a19b : _ = (1 : Nat) := a19b.symm
          try dsimp only at hB
          obtain rfl := Option.some.inj hB
          try simp -implicitDefEqProofs [-getElem?_pos, -Int.ofNat_lt, -Int.ofNat_le, -Int.natCast_eq_zero, -Int.natCast_pos, -List.length_eq_zero_iff, List.getElem?_cons_zero, List.getElem?_cons_succ, List.getElem?_nil, q14_1, q14_2, q14_3, q14_4, q14_5, q14_6, q14_7, q14_8, q14_9, q14_10, q14_11, oa14_9_w0, c5, pc5, k16, c17, pc17, a19a, a19b, a19c, a19d]
          refine Res.bgo ?_
          simp -implicitDefEqProofs [-getElem?_pos, -Int.ofNat_lt, -Int.ofNat_le, -Int.natCast_eq_zero, -Int.natCast_pos, -List.length_eq_zero_iff, List.getElem?_cons_zero, List.getElem?_cons_succ, List.getElem?_nil, and_assoc, I_make_Config_1, ownAt, q14_1, q14_2, q14_3, q14_4, q14_5, q14_6, q14_7, q14_8, q14_9, q14_10, q14_11, oa14_9_w0, c5, pc5, k16, c17, pc17, a19a, a19b, a19c, a19d]
        · have pc17 := eq_false (of_decide_eq_false c17)
          obtain ⟨L20, a21, hB⟩ := kb_inv hB
          obtain ⟨a21z, a21a, a21y⟩ := appK_inv a21
          try (simp only [List.nil_append] at a21z; subst a21z)
          have a21b := appK_len a21
          have a21c := es_api_Member_appK a21
          have a21d := appK_le a21
          try simp only [Int.cast_ofNat_Int, Int.natCast_zero, List.length_cons, List.length_nil, List.nil_append, List.cons_append, Nat.zero_add, Nat.reduceAdd, Tru.thr_mk, Tru.nodes_mk, Tru.inner_mk, ints_cons, ints_nil, encTs_cons, encTs_nil, es_api_Config_cons, es_api_Config_nil, es_api_Member_cons, es_api_Member_nil] at a21a a21b a21c
          try replace a21b : _ = (1 : Nat) := a21b.symm
          try dsimp only at hB
          obtain rfl := Option.some.inj hB
          try simp -implicitDefEqProofs [-getElem?_pos, -Int.ofNat_lt, -Int.ofNat_le, -Int.natCast_eq_zero, -Int.natCast_pos, -List.length_eq_zero_iff, List.getElem?_cons_zero, List.getElem?_cons_succ, List.getElem?_nil, q14_1, q14_2, q14_3, q14_4, q14_5, q14_6, q14_7, q14_8, q14_9, q14_10, q14_11, oa14_9_w0, c5, pc5, k16, c17, pc17, a21a, a21b, a21c, a21d]
          refine Res.bgo ?_
          simp -implicitDefEqProofs [-getElem?_pos, -Int.ofNat_lt, -Int.ofNat_le, -Int.natCast_eq_zero, -Int.natCast_pos, -List.length_eq_zero_iff, List.getElem?_cons_zero, List.getElem?_cons_succ, List.getElem?_nil, and_assoc, I_make_Config_1, ownAt, q14_1, q14_2, q14_3, q14_4, q14_5, q14_6, q14_7, q14_8, q14_9, q14_10, q14_11, oa14_9_w0, c5, pc5, k16, c17, pc17, a21a, a21b, a21c, a21d]
      · try subst ea14_9_w0
        obtain ⟨y15, k16, hB⟩ := kb_inv hB
        replace k16 := run_make_Tape_N k16
        try simp only [Int.cast_ofNat_Int, Int.natCast_zero, List.length_cons, List.length_nil, List.nil_append, List.cons_append, Nat.zero_add, Nat.reduceAdd, Tru.thr_mk, Tru.nodes_mk, Tru.inner_mk, ints_cons, ints_nil, encTs_cons, encTs_nil, es_api_Config_cons, es_api_Config_nil, es_api_Member_cons, es_api_Member_nil] at k16
        try dsimp only at hB
        rcases cnd_inv hB with ⟨c17, hB⟩ | ⟨c17, hB⟩
        · have pc17 := eq_true (of_decide_eq_true c17)
          obtain ⟨L18, a19, hB⟩ := kb_inv hB
          obtain ⟨a19z, a19a, a19y⟩ := appK_inv a19
          simp only [List.nil_append] at a19z
          subst a19z
          try dsimp only at hB
          obtain rfl := Option.some.inj hB
          try simp -implicitDefEqProofs [-getElem?_pos, -Int.ofNat_lt, -Int.ofNat_le, -Int.natCast_eq_zero, -Int.natCast_pos, -List.length_eq_zero_iff, List.getElem?_cons_zero, List.getElem?_cons_succ, List.getElem?_nil, q14_1, q14_2, q14_3, q14_4, q14_5, q14_6, q14_7, q14_8, q14_9, q14_10, q14_11, c5, pc5, k16, c17, pc17]
          refine Res.bgo ?_
          simp -implicitDefEqProofs [-getElem?_pos, -Int.ofNat_lt, -Int.ofNat_le, -Int.natCast_eq_zero, -Int.natCast_pos, -List.length_eq_zero_iff, List.getElem?_cons_zero, List.getElem?_cons_succ, List.getElem?_nil, and_assoc, I_make_Config_1, ownAt, q14_1, q14_2, q14_3, q14_4, q14_5, q14_6, q14_7, q14_8, q14_9, q14_10, q14_11, c5, pc5, k16, c17, pc17]
        · have pc17 := eq_false (of_decide_eq_false c17)
          obtain ⟨L20, a21, hB⟩ := kb_inv hB
          obtain ⟨a21z, a21a, a21y⟩ := appK_inv a21
          simp only [List.nil_append] at a21z
          subst a21z
          try dsimp only at hB
          obtain rfl := Option.some.inj hB
          try simp -implicitDefEqProofs [-getElem?_pos, -Int.ofNat_lt, -Int.ofNat_le, -Int.natCast_eq_zero, -Int.natCast_pos, -List.length_eq_zero_iff, List.getElem?_cons_zero, List.getElem?_cons_succ, List.getElem?_nil, q14_1, q14_2, q14_3, q14_4, q14_5, q14_6, q14_7, q14_8, q14_9, q14_10, q14_11, c5, pc5, k16, c17, pc17]
          refine Res.bgo ?_
          simp -implicitDefEqProofs [-getElem?_pos, -Int.ofNat_lt, -Int.ofNat_le, -Int.natCast_eq_zero, -Int.natCast_pos, -List.length_eq_zero_iff, List.getElem?_cons_zero, List.getElem?_cons_succ, List.getElem?_nil, and_assoc, I_make_Config_1, ownAt, q14_1, q14_2, q14_3, q14_4, q14_5, q14_6, q14_7, q14_8, q14_9, q14_10, q14_11, c5, pc5, k16, c17, pc17]
    · have pc5 := eq_false (of_decide_eq_false c5)
      obtain rfl := Option.some.inj hB
      try simp -implicitDefEqProofs [-getElem?_pos, -Int.ofNat_lt, -Int.ofNat_le, -Int.natCast_eq_zero, -Int.natCast_pos, -List.length_eq_zero_iff, List.getElem?_cons_zero, List.getElem?_cons_succ, List.getElem?_nil, q1, q2, q3, q4, q5, q6, q7, q8, q9, oa9_w0, c5, pc5]
      refine Res.bex ?_
      simp -implicitDefEqProofs [-getElem?_pos, -Int.ofNat_lt, -Int.ofNat_le, -Int.natCast_eq_zero, -Int.natCast_pos, -List.length_eq_zero_iff, List.getElem?_cons_zero, List.getElem?_cons_succ, List.getElem?_nil, and_assoc, Q_make_Config_1, ownAt, q1, q2, q3, q4, q5, q6, q7, q8, q9, oa9_w0, c5, pc5]
  · try subst ea9_w0
    rcases cnd_inv hB with ⟨c5, hB⟩ | ⟨c5, hB⟩
    · have pc5 := eq_true (of_decide_eq_true c5)
      try simp -implicitDefEqProofs [-getElem?_pos, -Int.ofNat_lt, -Int.ofNat_le, -Int.natCast_eq_zero, -Int.natCast_pos, -List.length_eq_zero_iff, List.getElem?_cons_zero, List.getElem?_cons_succ, List.getElem?_nil, q1, q2, q3, q4, q5, q6, q7, q8, q9, c5, pc5]
      generalize hz0 : C Tryd.prog cf cc0 _ = z0
      obtain ⟨z14, hB1, hB⟩ := kb_inv hB
      have hJ := P_make_Config_0 (hc0.symm.trans (by kernel_rfl)) hz0 (by simp -implicitDefEqProofs [-getElem?_pos, -Int.ofNat_lt, -Int.ofNat_le, -Int.natCast_eq_zero, -Int.natCast_pos, -List.length_eq_zero_iff, List.getElem?_cons_zero, List.getElem?_cons_succ, List.getElem?_nil, and_assoc, J_make_Config_0, ownAt, q1, q2, q3, q4, q5, q6, q7, q8, q9, c5, pc5]) hB1
      obtain ⟨e0, s0, rfl, hq⟩ := hJ.open
      clear hB1
      obtain ⟨rfl, hq⟩ := hq
      obtain ⟨u0_0, u0_1, u0_2, u0_3, u0_4⟩ := z14
      dsimp only at hB hq
      simp only [Q_make_Config_0] at hq
      obtain ⟨q14_1, q14_2, q14_3, ⟨q14_4, q14_5⟩, ⟨g14_7, q14_6, q14_7⟩, ⟨g14_9, v14_9_w0, q14_8, q14_9, a14_9_w0⟩, ⟨g14_11, q14_10, q14_11⟩⟩ := hq
      rcases a14_9_w0 with ⟨ga14_9_w0, rfl, oa14_9_w0⟩ | ⟨ga14_9_w0, rfl, oa14_9_w0⟩ | ⟨rfl, ea14_9_w0⟩
      · obtain ⟨y15, k16, hB⟩ := kb_inv hB
        replace k16 := run_make_Tape_N k16
        try simp only [Int.cast_ofNat_Int, Int.natCast_zero, List.length_cons, List.length_nil, List.nil_append, List.cons_append, Nat.zero_add, Nat.reduceAdd, Tru.thr_mk, Tru.nodes_mk, Tru.inner_mk, ints_cons, ints_nil, encTs_cons, encTs_nil, es_api_Config_cons, es_api_Config_nil, es_api_Member_cons, es_api_Member_nil] at k16
        try dsimp only at hB
        rcases cnd_inv hB with ⟨c17, hB⟩ | ⟨c17, hB⟩
        · have pc17 := eq_true (of_decide_eq_true c17)
          obtain ⟨L18, a19, hB⟩ := kb_inv hB
          obtain ⟨a19z, a19a, a19y⟩ := appK_inv a19
          try (simp only [List.nil_append] at a19z; subst a19z)
          have a19b := appK_len a19
          have a19c := es_api_Member_appK a19
          have a19d := appK_le a19
          try simp only [Int.cast_ofNat_Int, Int.natCast_zero, List.length_cons, List.length_nil, List.nil_append, List.cons_append, Nat.zero_add, Nat.reduceAdd, Tru.thr_mk, Tru.nodes_mk, Tru.inner_mk, ints_cons, ints_nil, encTs_cons, encTs_nil, es_api_Config_cons, es_api_Config_nil, es_api_Member_cons, es_api_Member_nil] at a19a a19b a19c
          try replace a19b : _ = (1 : Nat) := a19b.symm
          try dsimp only at hB
          obtain rfl := Option.some.inj hB
          try simp -implicitDefEqProofs [-getElem?_pos, -Int.ofNat_lt, -Int.ofNat_le, -Int.natCast_eq_zero, -Int.natCast_pos, -List.length_eq_zero_iff, List.getElem?_cons_zero, List.getElem?_cons_succ, List.getElem?_nil, q14_1, q14_2, q14_3, q14_4, q14_5, q14_6, q14_7, q14_8, q14_9, q14_10, q14_11, oa14_9_w0, c5, pc5, k16, c17, pc17, a19a, a19b, a19c, a19d]
          refine Res.bgo ?_
          simp -implicitDefEqProofs [-getElem?_pos, -Int.ofNat_lt, -Int.ofNat_le, -Int.natCast_eq_zero, -Int.natCast_pos, -List.length_eq_zero_iff, List.getElem?_cons_zero, List.getElem?_cons_succ, List.getElem?_nil, and_assoc, I_make_Config_1, ownAt, q14_1, q14_2, q14_3, q14_4, q14_5, q14_6, q14_7, q14_8, q14_9, q14_10, q14_11, oa14_9_w0, c5, pc5, k16, c17, pc17, a19a, a19b, a19c, a19d]
        · have pc17 := eq_false (of_decide_eq_false c17)
          obtain ⟨L20, a21, hB⟩ := kb_inv hB
          obtain ⟨a21z, a21a, a21y⟩ := appK_inv a21
          try (simp only [List.nil_append] at a21z; subst a21z)
          have a21b := appK_len a21
          have a21c := es_api_Member_appK a21
          have a21d := appK_le a21
          try simp only [Int.cast_ofNat_Int, Int.natCast_zero, List.length_cons, List.length_nil, List.nil_append, List.cons_append, Nat.zero_add, Nat.reduceAdd, Tru.thr_mk, Tru.nodes_mk, Tru.inner_mk, ints_cons, ints_nil, encTs_cons, encTs_nil, es_api_Config_cons, es_api_Config_nil, es_api_Member_cons, es_api_Member_nil] at a21a a21b a21c
          try replace a21b : _ = (1 : Nat) := a21b.symm
          try dsimp only at hB
          obtain rfl := Option.some.inj hB
          try simp -implicitDefEqProofs [-getElem?_pos, -Int.ofNat_lt, -Int.ofNat_le, -Int.natCast_eq_zero, -Int.natCast_pos, -List.length_eq_zero_iff, List.getElem?_cons_zero, List.getElem?_cons_succ, List.getElem?_nil, q14_1, q14_2, q14_3, q14_4, q14_5, q14_6, q14_7, q14_8, q14_9, q14_10, q14_11, oa14_9_w0, c5, pc5, k16, c17, pc17, a21a, a21b, a21c, a21d]
          refine Res.bgo ?_
          simp -implicitDefEqProofs [-getElem?_pos, -Int.ofNat_lt, -Int.ofNat_le, -Int.natCast_eq_zero, -Int.natCast_pos, -List.length_eq_zero_iff, List.getElem?_cons_zero, List.getElem?_cons_succ, List.getElem?_nil, and_assoc, I_make_Config_1, ownAt, q14_1, q14_2, q14_3, q14_4, q14_5, q14_6, q14_7, q14_8, q14_9, q14_10, q14_11, oa14_9_w0, c5, pc5, k16, c17, pc17, a21a, a21b, a21c, a21d]
      · obtain ⟨y15, k16, hB⟩ := kb_inv hB
        replace k16 := run_make_Tape_N k16
        try simp only [Int.cast_ofNat_Int, Int.natCast_zero, List.length_cons, List.length_nil, List.nil_append, List.cons_append, Nat.zero_add, Nat.reduceAdd, Tru.thr_mk, Tru.nodes_mk, Tru.inner_mk, ints_cons, ints_nil, encTs_cons, encTs_nil, es_api_Config_cons, es_api_Config_nil, es_api_Member_cons, es_api_Member_nil] at k16
        try dsimp only at hB
        rcases cnd_inv hB with ⟨c17, hB⟩ | ⟨c17, hB⟩
        · have pc17 := eq_true (of_decide_eq_true c17)
          obtain ⟨L18, a19, hB⟩ := kb_inv hB
          obtain ⟨a19z, a19a, a19y⟩ := appK_inv a19
          try (simp only [List.nil_append] at a19z; subst a19z)
          have a19b := appK_len a19
          have a19c := es_api_Member_appK a19
          have a19d := appK_le a19
          try simp only [Int.cast_ofNat_Int, Int.natCast_zero, List.length_cons, List.length_nil, List.nil_append, List.cons_append, Nat.zero_add, Nat.reduceAdd, Tru.thr_mk, Tru.nodes_mk, Tru.inner_mk, ints_cons, ints_nil, encTs_cons, encTs_nil, es_api_Config_cons, es_api_Config_nil, es_api_Member_cons, es_api_Member_nil] at a19a a19b a19c
          try replace a19b : _ = (1 : Nat) := a19b.symm
          try dsimp only at hB
          obtain rfl := Option.some.inj hB
          try simp -implicitDefEqProofs [-getElem?_pos, -Int.ofNat_lt, -Int.ofNat_le, -Int.natCast_eq_zero, -Int.natCast_pos, -List.length_eq_zero_iff, List.getElem?_cons_zero, List.getElem?_cons_succ, List.getElem?_nil, q14_1, q14_2, q14_3, q14_4, q14_5, q14_6, q14_7, q14_8, q14_9, q14_10, q14_11, oa14_9_w0, c5, pc5, k16, c17, pc17, a19a, a19b, a19c, a19d]
          refine Res.bgo ?_
          simp -implicitDefEqProofs [-getElem?_pos, -Int.ofNat_lt, -Int.ofNat_le, -Int.natCast_eq_zero, -Int.natCast_pos, -List.length_eq_zero_iff, List.getElem?_cons_zero, List.getElem?_cons_succ, List.getElem?_nil, and_assoc, I_make_Config_1, ownAt, q14_1, q14_2, q14_3, q14_4, q14_5, q14_6, q14_7, q14_8, q14_9, q14_10, q14_11, oa14_9_w0, c5, pc5, k16, c17, pc17, a19a, a19b, a19c, a19d]
        · have pc17 := eq_false (of_decide_eq_false c17)
          obtain ⟨L20, a21, hB⟩ := kb_inv hB
          obtain ⟨a21z, a21a, a21y⟩ := appK_inv a21
          try (simp only [List.nil_append] at a21z; subst a21z)
          have a21b := appK_len a21
          have a21c := es_api_Member_appK a21
          have a21d := appK_le a21
          try simp only [Int.cast_ofNat_Int, Int.natCast_zero, List.length_cons, List.length_nil, List.nil_append, List.cons_append, Nat.zero_add, Nat.reduceAdd, Tru.thr_mk, Tru.nodes_mk, Tru.inner_mk, ints_cons, ints_nil, encTs_cons, encTs_nil, es_api_Config_cons, es_api_Config_nil, es_api_Member_cons, es_api_Member_nil] at a21a a21b a21c
          try replace a21b : _ = (1 : Nat) := a21b.symm
          try dsimp only at hB
          obtain rfl := Option.some.inj hB
          try simp -implicitDefEqProofs [-getElem?_pos, -Int.ofNat_lt, -Int.ofNat_le, -Int.natCast_eq_zero, -Int.natCast_pos, -List.length_eq_zero_iff, List.getElem?_cons_zero, List.getElem?_cons_succ, List.getElem?_nil, q14_1, q14_2, q14_3, q14_4, q14_5, q14_6, q14_7, q14_8, q14_9, q14_10, q14_11, oa14_9_w0, c5, pc5, k16, c17, pc17, a21a, a21b, a21c, a21d]
          refine Res.bgo ?_
          simp -implicitDefEqProofs [-getElem?_pos, -Int.ofNat_lt, -Int.ofNat_le, -Int.natCast_eq_zero, -Int.natCast_pos, -List.length_eq_zero_iff, List.getElem?_cons_zero, List.getElem?_cons_succ, List.getElem?_nil, and_assoc, I_make_Config_1, ownAt, q14_1, q14_2, q14_3, q14_4, q14_5, q14_6, q14_7, q14_8, q14_9, q14_10, q14_11, oa14_9_w0, c5, pc5, k16, c17, pc17, a21a, a21b, a21c, a21d]
      · try subst ea14_9_w0
        obtain ⟨y15, k16, hB⟩ := kb_inv hB
        replace k16 := run_make_Tape_N k16
        try simp only [Int.cast_ofNat_Int, Int.natCast_zero, List.length_cons, List.length_nil, List.nil_append, List.cons_append, Nat.zero_add, Nat.reduceAdd, Tru.thr_mk, Tru.nodes_mk, Tru.inner_mk, ints_cons, ints_nil, encTs_cons, encTs_nil, es_api_Config_cons, es_api_Config_nil, es_api_Member_cons, es_api_Member_nil] at k16
        try dsimp only at hB
        rcases cnd_inv hB with ⟨c17, hB⟩ | ⟨c17, hB⟩
        · have pc17 := eq_true (of_decide_eq_true c17)
          obtain ⟨L18, a19, hB⟩ := kb_inv hB
          obtain ⟨a19z, a19a, a19y⟩ := appK_inv a19
          simp only [List.nil_append] at a19z
          subst a19z
          try dsimp only at hB
          obtain rfl := Option.some.inj hB
          try simp -implicitDefEqProofs [-getElem?_pos, -Int.ofNat_lt, -Int.ofNat_le, -Int.natCast_eq_zero, -Int.natCast_pos, -List.length_eq_zero_iff, List.getElem?_cons_zero, List.getElem?_cons_succ, List.getElem?_nil, q14_1, q14_2, q14_3, q14_4, q14_5, q14_6, q14_7, q14_8, q14_9, q14_10, q14_11, c5, pc5, k16, c17, pc17]
          refine Res.bgo ?_
          simp -implicitDefEqProofs [-getElem?_pos, -Int.ofNat_lt, -Int.ofNat_le, -Int.natCast_eq_zero, -Int.natCast_pos, -List.length_eq_zero_iff, List.getElem?_cons_zero, List.getElem?_cons_succ, List.getElem?_nil, and_assoc, I_make_Config_1, ownAt, q14_1, q14_2, q14_3, q14_4, q14_5, q14_6, q14_7, q14_8, q14_9, q14_10, q14_11, c5, pc5, k16, c17, pc17]
        · have pc17 := eq_false (of_decide_eq_false c17)
          obtain ⟨L20, a21, hB⟩ := kb_inv hB
          obtain ⟨a21z, a21a, a21y⟩ := appK_inv a21
          simp only [List.nil_append] at a21z
          subst a21z
          try dsimp only at hB
          obtain rfl := Option.some.inj hB
          try simp -implicitDefEqProofs [-getElem?_pos, -Int.ofNat_lt, -Int.ofNat_le, -Int.natCast_eq_zero, -Int.natCast_pos, -List.length_eq_zero_iff, List.getElem?_cons_zero, List.getElem?_cons_succ, List.getElem?_nil, q14_1, q14_2, q14_3, q14_4, q14_5, q14_6, q14_7, q14_8, q14_9, q14_10, q14_11, c5, pc5, k16, c17, pc17]
          refine Res.bgo ?_
          simp -implicitDefEqProofs [-getElem?_pos, -Int.ofNat_lt, -Int.ofNat_le, -Int.natCast_eq_zero, -Int.natCast_pos, -List.length_eq_zero_iff, List.getElem?_cons_zero, List.getElem?_cons_succ, List.getElem?_nil, and_assoc, I_make_Config_1, ownAt, q14_1, q14_2, q14_3, q14_4, q14_5, q14_6, q14_7, q14_8, q14_9, q14_10, q14_11, c5, pc5, k16, c17, pc17]
    · have pc5 := eq_false (of_decide_eq_false c5)
      obtain rfl := Option.some.inj hB
      try simp -implicitDefEqProofs [-getElem?_pos, -Int.ofNat_lt, -Int.ofNat_le, -Int.natCast_eq_zero, -Int.natCast_pos, -List.length_eq_zero_iff, List.getElem?_cons_zero, List.getElem?_cons_succ, List.getElem?_nil, q1, q2, q3, q4, q5, q6, q7, q8, q9, c5, pc5]
      refine Res.bex ?_
      simp -implicitDefEqProofs [-getElem?_pos, -Int.ofNat_lt, -Int.ofNat_le, -Int.natCast_eq_zero, -Int.natCast_pos, -List.length_eq_zero_iff, List.getElem?_cons_zero, List.getElem?_cons_succ, List.getElem?_nil, and_assoc, Q_make_Config_1, ownAt, q1, q2, q3, q4, q5, q6, q7, q8, q9, c5, pc5]
theorem P_make_Config_1 {y1 : (Int × S_trustquorummake_Tape)} {y3 : (Int × S_trustquorummake_Tape)} {xba0_0_1 : (List Int)} {xba0_1_1 : Int} {xb3_0_0_1 : (List S_api_Member)} {x8_1 : Int} {cc : Code} (hcc : cc = .block 0 (.loop (Code.fst (Code.fst (Code.snd (Code.fst (Code.snd (Code.snd (Code.snd (Code.snd ((Tryd.f19.body).getD .skip))))))))))) {s : St} {z : Option (Ex × St)} (hz : C Tryd.prog cf cc s = z) {r : (Stp ((List Int) × Int × (List S_api_Member) × Int) Unit)} (hI : I_make_Config_1 y1 y3 xba0_0_1 xba0_1_1 xb3_0_0_1 x8_1 s) (hB : iterW (fun a => B_make_Config_1 y1 y3 a.1 a.2.1 a.2.2.1 a.2.2.2) (xba0_0_1, xba0_1_1, xb3_0_0_1, x8_1) = some r) : Res z (postS (fun a q => Q_make_Config_1 y1 y3 a.1 a.2.1 a.2.2.1 a.2.2.2 q) (fun _ _ => False) r) := by
  subst hcc
  exact while_sim (I := fun a q => I_make_Config_1 y1 y3 a.1 a.2.1 a.2.2.1 a.2.2.2 q) (Q := (fun a q => Q_make_Config_1 y1 y3 a.1 a.2.1 a.2.2.1 a.2.2.2 q)) (QR := (fun _ _ => False)) (fun a q r h hB => Pb_make_Config_1 h hB) hI hz hB
noncomputable def B_make_Config (p0 : S_trustquorummake_Tape) (p1 : Int) : Option (S_api_Config × S_trustquorummake_Tape) :=
  kb (G_make_Tape_Range p0 1 p1) fun y1 =>
  kb (G_make_Tape_N y1.2 3) fun y3 =>
  kb (iterW (fun a => B_make_Config_1 y1 y3 a.1 a.2.1 a.2.2.1 a.2.2.2) (y3.2.f0, y3.2.f1, ([] : (List S_api_Member)), 0)) fun o => stpK o (fun z22 =>
    some ((S_api_Config.mk z22.2.2.1), (S_trustquorummake_Tape.mk z22.1 z22.2.1))) (fun z22r =>
    none)
theorem sim_make_Config {p0 : S_trustquorummake_Tape} {p1 : Int} {r : (S_api_Config × S_trustquorummake_Tape)} (hB : B_make_Config p0 p1 = some r) : R 19 [.ptr (.arg 0) 0 0, (i64 p1)] [.box 0 [(.pv (.sl p0.f0.length (ints p0.f0))), (i64 p0.f1)]] = some ((.agg [(.pv (.sl r.1.f0.length (es_api_Member r.1.f0)))]), [.box 0 [(.pv (.sl r.2.f0.length (ints r.2.f0))), (i64 r.2.f1)]], []) := by
  rw [R_eq _ _ _ fn_make_Config]
  simp only [Code.fst, Code.snd, Tryd.f19, Option.getD_some]
  generalize hc1 : Code.block 0 _ = cc1
  unfold B_make_Config at hB
  obtain ⟨y1, k2, hB⟩ := kb_inv hB
  replace k2 := run_make_Tape_Range k2
  try simp only [Int.cast_ofNat_Int, Int.natCast_zero, List.length_cons, List.length_nil, List.nil_append, List.cons_append, Nat.zero_add, Nat.reduceAdd, Tru.thr_mk, Tru.nodes_mk, Tru.inner_mk, ints_cons, ints_nil, encTs_cons, encTs_nil, es_api_Config_cons, es_api_Config_nil, es_api_Member_cons, es_api_Member_nil] at k2
  try dsimp only at hB
  obtain ⟨y3, k4, hB⟩ := kb_inv hB
  replace k4 := run_make_Tape_N k4
  try simp only [Int.cast_ofNat_Int, Int.natCast_zero, List.length_cons, List.length_nil, List.nil_append, List.cons_append, Nat.zero_add, Nat.reduceAdd, Tru.thr_mk, Tru.nodes_mk, Tru.inner_mk, ints_cons, ints_nil, encTs_cons, encTs_nil, es_api_Config_cons, es_api_Config_nil, es_api_Member_cons, es_api_Member_nil] at k4
  try dsimp only at hB
  try simp -implicitDefEqProofs [-getElem?_pos, -Int.ofNat_lt, -Int.ofNat_le, -Int.natCast_eq_zero, -Int.natCast_pos, -List.length_eq_zero_iff, List.getElem?_cons_zero, List.getElem?_cons_succ, List.getElem?_nil, k2, k4]
  generalize hz1 : C Tryd.prog cf cc1 _ = z1
  obtain ⟨o, hB1, hB⟩ := kb_inv hB
  have hJ := P_make_Config_1 (hc1.symm.trans (by kernel_rfl)) hz1 (by simp -implicitDefEqProofs [-getElem?_pos, -Int.ofNat_lt, -Int.ofNat_le, -Int.natCast_eq_zero, -Int.natCast_pos, -List.length_eq_zero_iff, List.getElem?_cons_zero, List.getElem?_cons_succ, List.getElem?_nil, and_assoc, I_make_Config_1, ownAt, k2, k4]) hB1
  obtain ⟨e1, s1, rfl, hq⟩ := hJ.open
  clear hB1
  rcases o with z22 | ⟨_, _⟩ | z22r
  · simp only [stpK_go] at hB
    obtain ⟨rfl, hq⟩ := hq
    obtain ⟨u1_0, u1_1, u1_2, u1_3⟩ := z22
    dsimp only at hB hq
    simp only [Q_make_Config_1] at hq
    obtain ⟨q22_1, ⟨g22_3, q22_2, q22_3⟩, ⟨g22_5, v22_5_w0, q22_4, q22_5, a22_5_w0⟩⟩ := hq
    rcases a22_5_w0 with ⟨ga22_5_w0, rfl, oa22_5_w0⟩ | ⟨ga22_5_w0, rfl, oa22_5_w0⟩ | ⟨rfl, ea22_5_w0⟩
    · obtain rfl := Option.some.inj hB
      simp -implicitDefEqProofs [-getElem?_pos, -Int.ofNat_lt, -Int.ofNat_le, -Int.natCast_eq_zero, -Int.natCast_pos, -List.length_eq_zero_iff, List.getElem?_cons_zero, List.getElem?_cons_succ, List.getElem?_nil, q22_1, q22_2, q22_3, q22_4, q22_5, oa22_5_w0, k2, k4]
    · obtain rfl := Option.some.inj hB
      simp -implicitDefEqProofs [-getElem?_pos, -Int.ofNat_lt, -Int.ofNat_le, -Int.natCast_eq_zero, -Int.natCast_pos, -List.length_eq_zero_iff, List.getElem?_cons_zero, List.getElem?_cons_succ, List.getElem?_nil, q22_1, q22_2, q22_3, q22_4, q22_5, oa22_5_w0, k2, k4]
    · try subst ea22_5_w0
      obtain rfl := Option.some.inj hB
      simp -implicitDefEqProofs [-getElem?_pos, -Int.ofNat_lt, -Int.ofNat_le, -Int.natCast_eq_zero, -Int.natCast_pos, -List.length_eq_zero_iff, List.getElem?_cons_zero, List.getElem?_cons_succ, List.getElem?_nil, q22_1, q22_2, q22_3, q22_4, q22_5, k2, k4]
  · exact hq.elim
  · cases hB
theorem g_make_Config {p0 : S_trustquorummake_Tape} {p1 : Int} {r : (S_api_Config × S_trustquorummake_Tape)} (hB : B_make_Config p0 p1 = some r) : G_make_Config p0 p1 = some r := dec_of (fun a b h => by rcases a with ⟨⟨a0_0⟩, ⟨a1_0, a1_1⟩⟩; rcases b with ⟨⟨b0_0⟩, ⟨b1_0, b1_1⟩⟩; simp at h; simp [*]) (sim_make_Config hB)
end Go.Am

/-
Plain laws: configurations, their deletion, and when two of them are the same.
-/
namespace Go.Am
open Go
set_option linter.unusedVariables false
set_option linter.unusedSimpArgs false

abbrev Mem := S_api_Member
abbrev Conf := S_api_Config
def Mem.Fine (m : Mem) : Prop := m.f1.Fine
def Conf.Fine (c : Conf) : Prop := c.f0.length < 1048576 ∧ ∀ m ∈ c.f0, m.f1.Fine

/-! ### the same -/
/-- a loop that goes over two lists -/
theorem same_loop {X : Type} (l m : List X) (h : l.length = m.length) (f : Nat → Unit → X → Option (Stp Unit Unit)) (p : X → X → Prop)
    (hf : ∀ (i : Nat) (x y : X), l[i]? = some x → m[i]? = some y → ∃ o, f i () x = some o ∧ ((p x y ∧ o = .go ()) ∨ (¬ p x y ∧ o = .ret ()))) :
    ∃ o, loopL f 0 () l = some o ∧ (((∀ (i : Nat) (x y : X), l[i]? = some x → m[i]? = some y → p x y) ∧ o = .go ()) ∨ ((¬ ∀ (i : Nat) (x y : X), l[i]? = some x → m[i]? = some y → p x y) ∧ o = .ret ())) := by
  have hx : ∀ (d j : Nat), j + d = l.length → ∃ o, loopL f j () (l.drop j) = some o ∧ (((∀ (i : Nat) (x y : X), j ≤ i → l[i]? = some x → m[i]? = some y → p x y) ∧ o = .go ()) ∨ ((¬ ∀ (i : Nat) (x y : X), j ≤ i → l[i]? = some x → m[i]? = some y → p x y) ∧ o = .ret ())) := by
    intro d
    induction d with
    | zero =>
      intro j hj
      rw [List.drop_of_length_le (by omega)]
      refine ⟨_, rfl, .inl ⟨fun i x y hi hx => ?_, rfl⟩⟩
      have := (List.getElem?_eq_some_iff.1 hx).1
      omega
    | succ d ih =>
      intro j hj
      have h1 : j < l.length := by omega
      have h2 : j < m.length := by omega
      rw [List.drop_eq_getElem_cons h1]
      obtain ⟨o, ho, hp⟩ := hf j l[j] m[j] (by simp [h1]) (by simp [h2])
      obtain ⟨o', ho', hp'⟩ := ih (j + 1) (by omega)
      rcases hp with ⟨hp, rfl⟩ | ⟨hp, rfl⟩
      · refine ⟨o', ?_, ?_⟩
        · show kb (f j () l[j]) _ = _
          rw [ho, kb_some]; exact ho'
        · have e : (∀ (i : Nat) (x y : X), j + 1 ≤ i → l[i]? = some x → m[i]? = some y → p x y) ↔ ∀ (i : Nat) (x y : X), j ≤ i → l[i]? = some x → m[i]? = some y → p x y := by
            constructor
            · intro hh i x y hi hx hy
              rcases Nat.eq_or_lt_of_le hi with rfl | hi
              · rw [List.getElem?_eq_getElem h1] at hx
                rw [List.getElem?_eq_getElem h2] at hy
                cases hx; cases hy; exact hp
              · exact hh i x y hi hx hy
            · intro hh i x y hi; exact hh i x y (by omega)
          rw [← e]; exact hp'
      · refine ⟨.ret (), ?_, .inr ⟨fun hh => hp (hh j _ _ (Nat.le_refl _) (by simp [h1]) (by simp [h2])), rfl⟩⟩
        show kb (f j () l[j]) _ = _
        rw [ho, kb_some]
  obtain ⟨o, h1, h2⟩ := hx l.length 0 (by omega)
  exact ⟨o, h1, by simpa using h2⟩
theorem ext_get {X : Type} {l m : List X} (h : l.length = m.length) : (∀ (i : Nat) (x y : X), l[i]? = some x → m[i]? = some y → x = y) ↔ l = m := by
  constructor
  · intro hh
    apply List.ext_getElem h
    intro i h1 h2
    exact hh i _ _ (by simp [h1]) (by simp [h2])
  · rintro rfl i x y hx hy
    rw [hx] at hy; exact Option.some.inj hy
theorem s_ref01_Same (a b : List Int) (ha : a.length < 4611686018427387904) : ∃ v, G_ref01_Same a b = some v ∧ (v = true ↔ a = b) := by
  have hB : ∃ v, B_ref01_Same a b = some v ∧ (v = true ↔ a = b) := by
    unfold B_ref01_Same
    by_cases c : (a.length : Int) = (b.length : Int)
    · have hl : a.length = b.length := by omega
      simp only [c, decide_true, cnd_true]
      rw [smallK_some ha, kb_some]
      obtain ⟨o, ho, hp⟩ := same_loop a b hl (fun i u x => B_ref01_Same_0 a b i x) (fun x y => x = y) (fun i x y hx hy => by
        refine ⟨if x = y then .go () else .ret (), ?_, ?_⟩
        · unfold B_ref01_Same_0
          rw [getI_nat, hy, kb_some]
          by_cases e : x = y <;> simp [e, cnd_true, cnd_false]
        · by_cases e : x = y <;> simp [e])
      rw [ho, kb_some]
      rw [ext_get hl] at hp
      rcases hp with ⟨hp, rfl⟩ | ⟨hp, rfl⟩
      · exact ⟨true, rfl, by simp [hp]⟩
      · exact ⟨false, rfl, by simp [hp]⟩
    · refine ⟨false, by simp only [c, decide_false, cnd_false], ?_⟩
      have : a ≠ b := fun e => c (by rw [e])
      simp [this]
  obtain ⟨v, h1, h2⟩ := hB
  exact ⟨v, g_ref01_Same h1, h2⟩
theorem s_ref02_Same : ∀ x : Tru, x.Fine → ∀ y : Tru, ∃ v, G_ref02_Same x y = some v ∧ (v = true ↔ x = y) := by
  refine tru_ind fun t n i ih h y => ?_
  obtain ⟨u, m, j⟩ := y
  have hl := Fine_len h
  simp only [Tru.nodes_mk, Tru.inner_mk] at hl
  obtain ⟨v1, e1, h1⟩ := s_ref01_Same n m (by omega)
  have hB : ∃ v, B_ref02_Same (.mk t n i) (.mk u m j) = some v ∧ (v = true ↔ (Tru.mk t n i) = .mk u m j) := by
    have h0 : B_ref02_Same_0 (.mk t n i) (.mk u m j) = some (!(decide (t = u) && (v1 && decide ((i.length : Int) = (j.length : Int))))) := by
      unfold B_ref02_Same_0
      simp only [Tru.thr_mk, Tru.nodes_mk, Tru.inner_mk, e1, kb_some]
      by_cases c : t = u
      · simp only [c, decide_true, cnd_true, Bool.true_and]
        cases v1
        · simp [cnd_false]
        · simp only [cnd_true, Bool.true_and]; rfl
      · simp [c, cnd_false]
    unfold B_ref02_Same
    rw [h0, kb_some]
    simp only [Tru.inner_mk]
    by_cases c1 : t = u
    case neg => exact ⟨false, by simp [c1, cnd_true], by simp [c1]⟩
    by_cases c2 : v1 = true
    case neg =>
      have : n ≠ m := fun e => c2 (h1.2 e)
      have c2' : v1 = false := by simpa using c2
      exact ⟨false, by simp [c2', cnd_true], by simp [this]⟩
    by_cases c3 : (i.length : Int) = (j.length : Int)
    case neg =>
      have : i ≠ j := fun e => c3 (by rw [e])
      exact ⟨false, by simp [c3, cnd_true], by simp [this]⟩
    have hij : i.length = j.length := by omega
    simp only [c1, c2, c3, decide_true, Bool.and_self, Bool.not_true, cnd_false]
    rw [smallK_some (by omega), kb_some]
    obtain ⟨o, ho, hp⟩ := same_loop i j hij (fun k a x => B_ref02_Same_1 (.mk u n i) (.mk u m j) k x) (fun x y => x = y) (fun k x y hx hy => by
      obtain ⟨v, ev, hv⟩ := ih x (List.mem_of_getElem? hx) (Fine_inner h (List.mem_of_getElem? hx)) y
      refine ⟨if v = true then .go () else .ret (), ?_, ?_⟩
      · unfold B_ref02_Same_1
        simp only [Tru.inner_mk]
        rw [getI_nat, hy, kb_some, ev, kb_some]
        cases v <;> rfl
      · rw [← hv]
        cases v <;> simp)
    rw [ho, kb_some]
    rw [ext_get hij] at hp
    have hnm := h1.1 c2
    rcases hp with ⟨hp, rfl⟩ | ⟨hp, rfl⟩
    · exact ⟨true, rfl, by simp [hp, hnm]⟩
    · exact ⟨false, rfl, by simp [hp]⟩
  obtain ⟨v, h2, h3⟩ := hB
  exact ⟨v, g_ref02_Same h2, h3⟩
theorem s_ref06_Same (c d : Conf) (hc : c.Fine) : ∃ v, G_ref06_Same c d = some v ∧ (v = true ↔ c = d) := by
  obtain ⟨l⟩ := c
  obtain ⟨m⟩ := d
  obtain ⟨hl, hm⟩ := hc
  dsimp only at hl hm
  have hB : ∃ v, B_ref06_Same ⟨l⟩ ⟨m⟩ = some v ∧ (v = true ↔ (⟨l⟩ : Conf) = ⟨m⟩) := by
    unfold B_ref06_Same
    dsimp only
    by_cases c : (l.length : Int) = (m.length : Int)
    · have hlm : l.length = m.length := by omega
      simp only [c, decide_true, cnd_true]
      rw [smallK_some (by omega), kb_some]
      obtain ⟨o, ho, hp⟩ := same_loop l m hlm (fun i u x => B_ref06_Same_1 ⟨l⟩ ⟨m⟩ i x) (fun x y => x = y) (fun i x y hx hy => by
        obtain ⟨v, ev, hv⟩ := s_ref02_Same x.f1 (hm x (List.mem_of_getElem? hx)) y.f1
        have e0 : B_ref06_Same_0 ⟨l⟩ ⟨m⟩ i = some (!((x.f0 == y.f0) && v)) := by
          unfold B_ref06_Same_0
          dsimp only
          rw [getI_nat, hx, kb_some, getI_nat, hy, kb_some, ev, kb_some]
          cases (x.f0 == y.f0) <;> rfl
        refine ⟨if ((x.f0 == y.f0) && v) = true then .go () else .ret (), ?_, ?_⟩
        · unfold B_ref06_Same_1
          rw [e0, kb_some]
          cases ((x.f0 == y.f0) && v) <;> rfl
        · have e : ((x.f0 == y.f0) && v) = true ↔ x = y := by
            rw [Bool.and_eq_true, hv, beq_iff_eq]
            constructor
            · rintro ⟨h1, h2⟩; cases x; cases y; simp_all
            · rintro rfl; exact ⟨rfl, rfl⟩
          rw [← e]
          cases ((x.f0 == y.f0) && v) <;> simp)
      rw [ho, kb_some]
      rw [ext_get hlm] at hp
      rcases hp with ⟨hp, rfl⟩ | ⟨hp, rfl⟩
      · exact ⟨true, rfl, by simp [hp]⟩
      · exact ⟨false, rfl, by simp [hp]⟩
    · refine ⟨false, by simp only [c, decide_false, cnd_false], ?_⟩
      have : l ≠ m := fun e => c (by rw [e])
      simp [this]
  obtain ⟨v, h1, h2⟩ := hB
  exact ⟨v, g_ref06_Same h1, h2⟩
theorem s_ref06_Same' {c d : Conf} (hc : c.Fine) (h : c = d) : G_ref06_Same c d = some true := by
  obtain ⟨v, h1, h2⟩ := s_ref06_Same c d hc
  rw [h1, h2.2 h]

/-! ### deletion of a configuration -/
def mem0 : Mem := ⟨false, .mk 0 [] []⟩
def delM (s : Int) (i : Nat) (m : Mem) : Mem := if hasS s (i : Int) = true then mem0 else if m.f0 = true then ⟨true, delT s (i : Int) m.f1⟩ else m
def delC (s : Int) (c : Conf) : Conf := ⟨c.f0.mapIdx (delM s)⟩
theorem s_Delete (s : Int) (c : Conf) (hc : c.Fine) : G_deletion_Delete c s = some (delC s c) := by
  refine g_deletion_Delete ?_
  obtain ⟨hl, hm⟩ := hc
  unfold B_deletion_Delete delC
  rw [smallK_some (by omega), kb_some]
  obtain ⟨z, hz, hp⟩ := foldO_inv (f := fun i a x => B_deletion_Delete_0 s c i a x) (fun j a => a = (c.f0.take j).mapIdx (delM s)) c.f0 0 [] (by
    intro j a x hj hp
    simp only [Nat.zero_add] at hp ⊢
    have hjl := (List.getElem?_eq_some_iff.1 hj).1
    have hal : a.length = j := by rw [hp]; simp; omega
    have htk : c.f0.take (j + 1) = c.f0.take j ++ [x] := by rw [List.take_add_one, hj]; rfl
    have hlen : (c.f0.take j).length = j := by simp; omega
    refine ⟨a ++ [delM s j x], ?_, ?_⟩
    · unfold B_deletion_Delete_0 delM
      rw [s_nodeset_Has, kb_some]
      cases c1 : hasS s (j : Int)
      · simp only [cnd_false, Bool.false_eq_true, if_false]
        cases c2 : x.f0
        · simp only [cnd_false, Bool.false_eq_true, if_false]
          rw [s_copied _ (hm x (List.mem_of_getElem? hj)), kb_some, appK_some (by simp; omega), kb_some]
          have : S_api_Member.mk false x.f1 = x := by cases x; simp_all
          rw [this]
        · simp only [cnd_true, if_true]
          rw [s_Trust _ _ (hm x (List.mem_of_getElem? hj)), kb_some, appK_some (by simp; omega), kb_some]
      · simp only [cnd_true, if_true]
        rw [appK_some (by simp; omega), kb_some]
        rfl
    · rw [htk, List.mapIdx_append, hlen, ← hp]
      simp) (by simp)
  rw [hz, kb_some, hp]
  simp
theorem delM_Fine {s : Int} {i : Nat} (hi : i < 1048576) {m : Mem} (h : m.f1.Fine) : (delM s i m).f1.Fine := by
  unfold delM
  split
  · exact ⟨by rw [mem0, size_mk]; simp [sizes], by unfold in64; omega, ⟨fun k hk => (by cases hk), trivial⟩⟩
  · split
    · exact del_Fine (by unfold in64; omega) h
    · exact h
theorem delC_Fine (s : Int) {c : Conf} (h : c.Fine) : (delC s c).Fine := by
  refine ⟨by simp [delC]; exact h.1, fun m hm => ?_⟩
  obtain ⟨i, hi, rfl⟩ := List.mem_mapIdx.1 hm
  exact delM_Fine (by have := h.1; omega) (h.2 _ (List.getElem_mem _))

/-! ### deletion twice -/
theorem countP_filter_map {p q : Tru → Bool} : True := trivial
theorem lv_lv {a b u : Int} (hu : ∀ j, hasS u j = (hasS a j || hasS b j)) : ∀ x : Tru, lvT b (lvT a x) = lvT u x := by
  refine tru_ind fun t n i ih => ?_
  simp only [lvT, lvTs_eq]
  have hn : n.countP (hasS u) = n.countP (hasS a) + (n.filter fun k => !hasS a k).countP (hasS b) := countP_split _ _ _ n (fun k _ => hu k)
  have h0 : ∀ y : Tru, y.thr = 0 → (lvT b y).thr = 0 := by
    intro y hy
    obtain ⟨t, n, i⟩ := y
    simp only [Tru.thr_mk] at hy
    simp only [lvT, Tru.thr_mk, hy]
    omega
  have hmap : i.map (lvT u) = (i.map (lvT a)).map (lvT b) := by
    rw [List.map_map]
    exact List.map_congr_left fun x hx => (ih x hx).symm
  have hI : ((i.map (lvT a)).map (lvT b)).countP (fun y => decide (y.thr = 0)) = (i.map (lvT a)).countP (fun y => decide (y.thr = 0)) + (((i.map (lvT a)).filter fun y => !decide (y.thr = 0)).map (lvT b)).countP (fun y => decide (y.thr = 0)) := by
    rw [List.countP_map (l := i.map (lvT a)), List.countP_map (l := (i.map (lvT a)).filter _)]
    refine countP_split _ _ _ _ fun y _ => ?_
    by_cases c : y.thr = 0
    · simp [c, h0 y c]
    · simp [c]
  have hF : ((i.map (lvT a)).map (lvT b)).filter (fun y => !decide (y.thr = 0)) = (((i.map (lvT a)).filter fun y => !decide (y.thr = 0)).map (lvT b)).filter (fun y => !decide (y.thr = 0)) := by
    generalize i.map (lvT a) = l
    induction l with
    | nil => rfl
    | cons y r ihr =>
      by_cases c : y.thr = 0
      · simp only [List.map_cons, List.filter_cons, c, h0 y c, decide_true, Bool.not_true, Bool.false_eq_true, if_false]
        exact ihr
      · simp only [List.map_cons, List.filter_cons, c, decide_false, Bool.not_false, if_true]
        rw [ihr]
  rw [hmap, hn, hI, ← hF]
  congr 1
  · omega
  · rw [List.filter_filter]
    exact List.filter_congr fun k _ => by rw [hu]; cases hasS a k <;> cases hasS b k <;> rfl
theorem del_del {a b u k : Int} (ha : setB a = true) (hb : setB b = true) (hu1 : setB u = true) (hu : ∀ j, hasS u j = (hasS a j || hasS b j)) (hk : hasS b k = false) (x : Tru) : delT b k (delT a k x) = delT u k x := by
  have h := lv_lv hu x
  unfold delT
  simp only [ha, hb, hu1, if_true]
  by_cases c : (lvT a x).thr = 0
  · have h0 : (lvT u x).thr = 0 := by
      rw [← h]
      generalize lvT a x = y at c
      obtain ⟨t, n, i⟩ := y
      simp only [Tru.thr_mk] at c
      simp only [lvT, Tru.thr_mk, c]
      omega
    have e : lvT b (.mk 1 [k] []) = .mk 1 [k] [] := by simp [lvT, lvTs, hk]; omega
    simp only [c, h0, if_true, e, Tru.thr_mk]
    simp
  · simp only [c, if_false, h]
theorem lv_zero : ∀ x : Tru, good x = true → lvT 0 x = x := by
  refine tru_ind fun t n i ih h => ?_
  simp only [good, Bool.and_eq_true, decide_eq_true_eq, goods_eq, List.all_eq_true] at h
  obtain ⟨⟨h1, h2⟩, h3, h4, h5⟩ := h
  have e1 : n.filter (fun k => !hasS 0 k) = n := List.filter_eq_self.2 fun k _ => by simp [has_zero]
  have e2 : n.countP (hasS 0) = 0 := List.countP_eq_zero.2 fun k _ => by simp [has_zero]
  have e3 : i.map (lvT 0) = i := by
    conv => rhs; rw [← List.map_id i]
    exact List.map_congr_left fun x hx => by rw [ih x hx (h5 x hx)]; rfl
  have e4 : ∀ x ∈ i, x.thr ≠ 0 := by
    intro x hx
    have := h5 x hx
    obtain ⟨t, n, i⟩ := x
    simp only [good, Bool.and_eq_true, decide_eq_true_eq] at this
    simp only [Tru.thr_mk]; omega
  have e5 : i.filter (fun y => !decide (y.thr = 0)) = i := List.filter_eq_self.2 fun x hx => by simp [e4 x hx]
  have e6 : i.countP (fun y => decide (y.thr = 0)) = 0 := List.countP_eq_zero.2 fun x hx => by simp [e4 x hx]
  simp only [lvT, lvTs_eq, e1, e2, e3, e5, e6]
  congr 1
  omega
theorem good_thr {x : Tru} (h : good x = true) : x.thr ≠ 0 := by
  obtain ⟨t, n, i⟩ := x
  simp only [good, Bool.and_eq_true, decide_eq_true_eq] at h
  simp only [Tru.thr_mk]; omega
theorem del_zero {x : Tru} (h : good x = true) (k : Int) : delT 0 k x = x := by
  unfold delT
  rw [if_pos set_zero, lv_zero x h, if_neg (good_thr h)]
theorem delM_delM {a b u : Int} (ha : setB a = true) (hb : setB b = true) (hu1 : setB u = true) (hu : ∀ j, hasS u j = (hasS a j || hasS b j)) (i : Nat) (m : Mem) : delM b i (delM a i m) = delM u i m := by
  unfold delM
  rw [hu]
  cases h1 : hasS a (i : Int)
  · cases h2 : hasS b (i : Int)
    · simp only [Bool.false_eq_true, if_false, Bool.or_self]
      cases h3 : m.f0
      · simp [h3]
      · simp only [if_true]
        rw [del_del ha hb hu1 hu h2]
    · simp
  · simp only [if_true, Bool.true_or]
    simp [mem0]
theorem delC_delC {a b u : Int} (ha : setB a = true) (hb : setB b = true) (hu1 : setB u = true) (hu : ∀ j, hasS u j = (hasS a j || hasS b j)) (c : Conf) : delC b (delC a c) = delC u c := by
  unfold delC
  congr 1
  rw [List.mapIdx_mapIdx]
  congr 1
  funext i m
  exact delM_delM ha hb hu1 hu i m
end Go.Am

/-
Plain laws: configurations that are made.
-/
namespace Go.Am
open Go
set_option linter.unusedVariables false
set_option linter.unusedSimpArgs false

theorem bel_fine_one {v n : Int} (t : Int) (ht : in64 t) (hv : 0 ≤ v ∧ v < n) (hn : n ≤ 10) : (Tru.mk t [v] []).Fine ∧ belT n (.mk t [v] []) := by
  refine ⟨⟨by rw [size_mk]; simp [sizes], ht, fun k hk => by obtain rfl := List.mem_singleton.1 hk; unfold in64; omega, trivial⟩, fun k hk => by obtain rfl := List.mem_singleton.1 hk; exact hv, trivial⟩
/-- a flat trust with nodes that ascend -/
theorem flat_ok {t : Int} {l : List Int} {n : Int} (hn : n ≤ 10) (h1 : 1 ≤ t) (h2 : t ≤ (l.length : Int)) (hl : l.length ≤ 10) (hm : ∀ k ∈ l, 0 ≤ k ∧ k < n) (hd : l.Nodup) : good (.mk t l []) = true ∧ (Tru.mk t l []).Fine ∧ belT n (.mk t l []) := by
  refine ⟨?_, ⟨by rw [size_mk]; simp [sizes]; omega, by unfold in64; omega, fun k hk => by have := hm k hk; unfold in64; omega, trivial⟩, hm, trivial⟩
  have hb : badA l = false := by
    unfold badA
    rw [List.any_eq_false]
    intro k hk
    have := hm k hk
    simp [badN]; omega
  simp [good, goods, hb, hd]
  omega
theorem valB_flat {t : Int} {l : List Int} (h : good (.mk t l []) = true) (hl : l.length ≤ 10) : valB (.mk t l []) = true := by
  have hd : dep (.mk t l []) = 1 := rfl
  have hs : (Tru.mk t l []).size = l.length + (0 + 0) := rfl
  unfold valB
  rw [h, hd, hs]
  simp; omega
/-- ascending lists -/
def Asc (l : List Int) (b : Int) : Prop := l.Nodup ∧ ∀ k ∈ l, 0 ≤ k ∧ k < b
theorem Asc_app {l : List Int} {b c : Int} (h : Asc l b) (h0 : 0 ≤ b) (hc : b < c) : Asc (l ++ [b]) c := by
  refine ⟨?_, ?_⟩
  · rw [List.nodup_append]
    refine ⟨h.1, by simp, ?_⟩
    intro a ha c hc
    obtain rfl := List.mem_singleton.1 hc
    have := h.2 a ha
    omega
  · intro k hk
    rcases List.mem_append.1 hk with hk | hk
    · have := h.2 k hk; omega
    · obtain rfl := List.mem_singleton.1 hk; omega
theorem s_most (m : Int) (h1 : 1 ≤ m) (h2 : m ≤ 10) (t : Tape) (ht : Tp t) : ∃ x t', G_make_most t m = some (x, t') ∧ (valB x = true ∧ x.Fine ∧ belT m x) ∧ Tp t' := by
  have hloop := iterW_spec (A := List Int × Int × List Int × Int) (R := Unit) (f := fun a => B_make_most_0 m a.1 a.2.1 a.2.2.1 a.2.2.2)
    (fun k a => (0 ≤ a.2.2.2 ∧ a.2.2.2 ≤ m ∧ k = (m - a.2.2.2).toNat) ∧ ((a.2.2.1.length : Int) ≤ a.2.2.2 ∧ Asc a.2.2.1 a.2.2.2) ∧ Tp ⟨a.1, a.2.1⟩)
    (fun x => ∃ a : List Int × Int × List Int × Int, x = .go a ∧ ((a.2.2.1.length : Int) ≤ m ∧ Asc a.2.2.1 m) ∧ Tp ⟨a.1, a.2.1⟩)
    (by
      rintro k ⟨tl, ta, l, i⟩ ⟨⟨hi, hin, hk⟩, ⟨hl, hm⟩, htp⟩
      dsimp only at hi hin hk hl hm htp
      by_cases c : i < m
      · left
        obtain ⟨v, t', g1, gv, gt⟩ := s_N htp (n := 10) (by omega) (by omega)
        have ei : add64 i 1 = i + 1 := add64_of (by omega) (by omega)
        by_cases c2 : v < 9
        · refine ⟨(t'.f0, t'.f1, l ++ [i], i + 1), (m - (i + 1)).toNat, ?_, by omega, ⟨by show 0 ≤ i + 1; omega, by show i + 1 ≤ m; omega, rfl⟩, ⟨by simp; omega, Asc_app hm hi (by show i < i + 1; omega)⟩, gt⟩
          simp only [B_make_most_0, c, decide_true, cnd_true, g1, kb_some, c2]
          rw [appK_some (by simp; omega), kb_some, ei]
        · refine ⟨(t'.f0, t'.f1, l, i + 1), (m - (i + 1)).toNat, ?_, by omega, ⟨by show 0 ≤ i + 1; omega, by show i + 1 ≤ m; omega, rfl⟩, ⟨by dsimp only; omega, hm.1, fun k hk => by have := hm.2 k hk; dsimp only; omega⟩, gt⟩
          simp only [B_make_most_0, c, decide_true, cnd_true, g1, kb_some, c2, decide_false, cnd_false, ei]
      · right; left
        have e : i = m := by omega
        refine ⟨0, (tl, ta, l, i), ?_, (tl, ta, l, i), rfl, ⟨by dsimp only; omega, by rw [← e]; exact hm⟩, htp⟩
        simp only [B_make_most_0, c, decide_false, cnd_false]) (m - 0).toNat (t.f0, t.f1, [], 0) ⟨⟨by simp, by simpa using (by omega : 0 ≤ m), by simp⟩, ⟨by simp, by simp [Asc]⟩, ht⟩
  obtain ⟨_, e1, ⟨tl, ta, l, i⟩, rfl, ⟨hl, hm⟩, htp⟩ := hloop
  dsimp only at hl hm htp
  obtain ⟨v, t3, e3, hv, ht3⟩ := s_Pick htp (l := [0, 0, 0, 1, -1]) (by simp) (by simp)
  have hv2 : -1 ≤ v ∧ v ≤ 1 := by simp at hv; omega
  have key : ∀ (L : Nat), 1 ≤ L → L ≤ 10 → let q := add64 (IntKind.wrap .i64 ((add64 (mul64 2 (L : Int)) 2).tdiv 3)) v; 1 ≤ (if (if 1 < q then q else 1) < (L : Int) then (if 1 < q then q else 1) else (L : Int)) ∧ (if (if 1 < q then q else 1) < (L : Int) then (if 1 < q then q else 1) else (L : Int)) ≤ (L : Int) := by
    intro L hL1 hL2
    dsimp only
    generalize add64 (IntKind.wrap .i64 ((add64 (mul64 2 (L : Int)) 2).tdiv 3)) v = q
    constructor
    · split
      · split <;> omega
      · omega
    · split
      · omega
      · omega
  by_cases c : (l.length : Int) = 0
  · have k := key 1 (by omega) (by omega)
    have hg := flat_ok (t := _) (l := [0]) (n := m) h2 k.1 k.2 (by simp) (fun k hk => by obtain rfl := List.mem_singleton.1 hk; omega) (by simp)
    refine ⟨_, t3, g_make_most ?_, ⟨valB_flat hg.1 (by simp), hg.2.1, hg.2.2⟩, ht3⟩
    unfold B_make_most
    rw [e1, kb_some]
    simp only [stpK_go, c, decide_true, cnd_true, e3, kb_some]
    rfl
  · have k := key l.length (by omega) (by omega)
    have hg := flat_ok (t := _) (l := l) (n := m) h2 k.1 k.2 (by omega) hm.2 hm.1
    refine ⟨_, t3, g_make_most ?_, ⟨valB_flat hg.1 (by omega), hg.2.1, hg.2.2⟩, ht3⟩
    unfold B_make_most
    rw [e1, kb_some]
    simp only [stpK_go, c, decide_false, cnd_false, e3, kb_some]
/-- a part of a group -/
structure Grp (m : Int) (l : List Tru) : Prop where
  all : ∀ x ∈ l, good x = true ∧ x.Fine ∧ belT m x ∧ dep x = 1 ∧ x.size ≤ 10
theorem s_group0 (p : List Int) (q p1 p2 : Int) (l7 : List Tru) (p8 : Int) (h2 : p1 ≤ 10) (h8 : 0 ≤ p8 ∧ p8 ≤ 3) : ∃ a : List Int × Int, iterW (fun a => B_make_group_0 p q p1 p2 l7 p8 a.1 a.2) ([], p8) = some (.go a) ∧ a.1.length ≤ 4 ∧ Asc a.1 (max p1 0) := by
  have hloop := iterW_spec (A := List Int × Int) (R := Unit) (f := fun a => B_make_group_0 p q p1 p2 l7 p8 a.1 a.2)
    (fun k a => (0 ≤ a.2 ∧ a.2 ≤ 12 ∧ k = (20 - a.2).toNat) ∧ ((a.1.length : Int) * 3 ≤ a.2 - p8 ∧ Asc a.1 (max p1 0) ∧ ∀ x ∈ a.1, x < a.2))
    (fun x => ∃ a : List Int × Int, x = .go a ∧ a.1.length ≤ 4 ∧ Asc a.1 (max p1 0))
    (by
      rintro k ⟨l, i⟩ ⟨⟨hi, hin, hk⟩, hl, hm, hb⟩
      dsimp only at hi hin hk hl hm hb
      by_cases c : i < p1
      · left
        refine ⟨(l ++ [i], i + 3), (20 - (i + 3)).toNat, ?_, by omega, ⟨by show 0 ≤ i + 3; omega, by show i + 3 ≤ 12; omega, rfl⟩, by simp; omega, ⟨?_, ?_⟩, ?_⟩
        · simp only [B_make_group_0, c, decide_true, cnd_true]
          rw [appK_some (by simp; omega), kb_some, add64_of (by omega) (by omega)]
        · rw [List.nodup_append]
          refine ⟨hm.1, by simp, ?_⟩
          intro a ha c hc
          obtain rfl := List.mem_singleton.1 hc
          have := hb a ha
          omega
        · intro k hk
          rcases List.mem_append.1 hk with hk | hk
          · exact hm.2 k hk
          · obtain rfl := List.mem_singleton.1 hk; omega
        · intro k hk
          dsimp only
          rcases List.mem_append.1 hk with hk | hk
          · have := hb k hk; omega
          · obtain rfl := List.mem_singleton.1 hk; omega
      · right; left
        refine ⟨2, (l, i), ?_, (l, i), rfl, by dsimp only; omega, hm⟩
        simp only [B_make_group_0, c, decide_false, cnd_false]) (20 - p8).toNat ([], p8) ⟨⟨h8.1, by dsimp only; omega, rfl⟩, by simp, by simp [Asc], by simp⟩
  obtain ⟨_, e1, ⟨l, i⟩, rfl, hl, hm⟩ := hloop
  exact ⟨(l, i), e1, hl, hm⟩
theorem s_group (p1 p2 : Int) (h1 : 1 ≤ p1) (h2 : p1 ≤ 10) (h3 : 0 ≤ p2) (t : Tape) (ht : Tp t) : ∃ x t', G_make_group t p1 p2 = some (x, t') ∧ (valB x = true ∧ x.Fine ∧ belT p1 x) ∧ Tp t' := by
  have hloop := iterW_spec (A := List Int × Int × List Tru × Int) (R := Unit) (f := fun a => B_make_group_1 p1 p2 a.1 a.2.1 a.2.2.1 a.2.2.2)
    (fun k a => (0 ≤ a.2.2.2 ∧ a.2.2.2 ≤ 3 ∧ k = (3 - a.2.2.2).toNat) ∧ ((a.2.2.1.length : Int) ≤ a.2.2.2 ∧ (1 ≤ a.2.2.2 → 1 ≤ a.2.2.1.length) ∧ ∀ x ∈ a.2.2.1, good x = true ∧ x.Fine ∧ belT p1 x ∧ dep x = 1 ∧ x.size ≤ 4) ∧ Tp ⟨a.1, a.2.1⟩)
    (fun x => ∃ a : List Int × Int × List Tru × Int, x = .go a ∧ (a.2.2.1.length ≤ 3 ∧ 1 ≤ a.2.2.1.length ∧ ∀ x ∈ a.2.2.1, good x = true ∧ x.Fine ∧ belT p1 x ∧ dep x = 1 ∧ x.size ≤ 4) ∧ Tp ⟨a.1, a.2.1⟩)
    (by
      rintro k ⟨tl, ta, l, i⟩ ⟨⟨hi, hin, hk⟩, ⟨hl, hl1, hm⟩, htp⟩
      dsimp only at hi hin hk hl hl1 hm htp
      by_cases c : i < 3
      · left
        have ei : add64 i 1 = i + 1 := add64_of (by omega) (by omega)
        obtain ⟨⟨z, j⟩, ez, hz, ha⟩ := s_group0 tl ta p1 p2 l i h2 ⟨hi, by omega⟩
        dsimp only at hz ha
        have hz1 : i = 0 → 1 ≤ z.length := by
          rintro rfl
          have e0 : B_make_group_0 tl ta p1 p2 l 0 [] 0 = some (.go ([0], 3)) := by
            unfold B_make_group_0
            rw [show decide ((0 : Int) < p1) = true by simp; omega, cnd_true, appK_some (by simp), kb_some]
            rfl
          have := iterW_go (f := fun a : List Int × Int => B_make_group_0 tl ta p1 p2 l 0 a.1 a.2) (a := ([], 0)) (a' := ([0], 3)) (R := Unit) e0
          rw [this] at ez
          have hmono := iterW_spec (A := List Int × Int) (R := Unit) (f := fun a => B_make_group_0 tl ta p1 p2 l 0 a.1 a.2)
            (fun k a => (3 ≤ a.2 ∧ a.2 ≤ 12 ∧ k = (20 - a.2).toNat) ∧ (a.1.length : Int) * 3 ≤ a.2 ∧ 1 ≤ a.1.length)
            (fun x => ∃ a : List Int × Int, x = .go a ∧ 1 ≤ a.1.length)
            (by
              rintro k ⟨l', i'⟩ ⟨⟨hi, hin, hk⟩, hl, hb⟩
              dsimp only at hi hin hk hl hb
              by_cases c : i' < p1
              · left
                refine ⟨(l' ++ [i'], i' + 3), (20 - (i' + 3)).toNat, ?_, by omega, ⟨by dsimp only; omega, by dsimp only; omega, rfl⟩, by simp; omega, by simp⟩
                simp only [B_make_group_0, c, decide_true, cnd_true]
                rw [appK_some (by simp; omega), kb_some, add64_of (by omega) (by omega)]
              · right; left
                refine ⟨2, (l', i'), ?_, (l', i'), rfl, hb⟩
                simp only [B_make_group_0, c, decide_false, cnd_false]) (20 - 3 : Int).toNat ([0], 3) ⟨⟨by simp, by simp, rfl⟩, by simp, by simp⟩
          obtain ⟨_, e9, a, rfl, h9⟩ := hmono
          rw [e9] at ez
          cases ez
          exact h9
        by_cases c2 : 0 < (z.length : Int)
        · obtain ⟨v, t', g1, gv, gt⟩ := s_Range htp (a := 1) (b := (z.length : Int)) (by omega) (by omega) (by omega)
          have hg := flat_ok (t := v) (l := z) (n := p1) h2 gv.1 gv.2 (by omega) (fun k hk => by have := ha.2 k hk; omega) ha.1
          refine ⟨(t'.f0, t'.f1, l ++ [.mk v z []], i + 1), (3 - (i + 1)).toNat, ?_, by omega, ⟨by dsimp only; omega, by dsimp only; omega, rfl⟩, ⟨by simp; omega, fun _ => by simp, ?_⟩, gt⟩
          · unfold B_make_group_1
            simp only [c, decide_true, cnd_true]
            rw [ez, kb_some]
            simp only [stpK_go, c2, decide_true, cnd_true]
            rw [g1, kb_some, appK_some (by simp; omega), kb_some, ei]
          · intro y hy
            rcases List.mem_append.1 hy with hy | hy
            · exact hm y hy
            · obtain rfl := List.mem_singleton.1 hy
              exact ⟨hg.1, hg.2.1, hg.2.2, rfl, by rw [size_mk]; simp [sizes]; omega⟩
        · refine ⟨(tl, ta, l, i + 1), (3 - (i + 1)).toNat, ?_, by omega, ⟨by dsimp only; omega, by dsimp only; omega, rfl⟩, ⟨by dsimp only; omega, fun _ => ?_, hm⟩, htp⟩
          · unfold B_make_group_1
            simp only [c, decide_true, cnd_true]
            rw [ez, kb_some]
            simp only [stpK_go, c2, decide_false, cnd_false, ei]
          · dsimp only
            by_cases i0 : i = 0
            · have := hz1 i0; omega
            · exact hl1 (by omega)
      · right; left
        refine ⟨0, (tl, ta, l, i), ?_, (tl, ta, l, i), rfl, ⟨by dsimp only; omega, hl1 (by omega), hm⟩, htp⟩
        unfold B_make_group_1
        simp only [c, decide_false, cnd_false]) (3 - 0 : Int).toNat (t.f0, t.f1, [], 0) ⟨⟨by simp, by simp, rfl⟩, ⟨by simp, by simp, by simp⟩, ht⟩
  obtain ⟨_, e1, ⟨tl, ta, l, i⟩, rfl, ⟨hl, hl1, hm⟩, htp⟩ := hloop
  dsimp only at hl hl1 hm htp
  obtain ⟨v, t3, e3, hv, ht3⟩ := s_N (t := ⟨tl, ta⟩) htp (n := 4) (by omega) (by omega)
  by_cases c : v = 0
  · have hmod1 : 0 ≤ p2.tmod (l.length : Int) := Int.tmod_nonneg _ h3
    have hmod2 : p2.tmod (l.length : Int) < (l.length : Int) := Int.tmod_lt_of_pos _ (by omega)
    have hlt : (p2.tmod (l.length : Int)).toNat < l.length := by omega
    have hx := hm _ (List.getElem_mem hlt)
    refine ⟨l[(p2.tmod (l.length : Int)).toNat], t3, g_make_group ?_, ⟨?_, hx.2.1, hx.2.2.1⟩, ht3⟩
    · unfold B_make_group
      rw [e1, kb_some]
      simp only [stpK_go, e3, kb_some, c, decide_true, cnd_true]
      rw [mustK_some (by omega), kb_some, getI_some hmod1 hlt, kb_some]
    · simp only [valB, hx.1, hx.2.2.2.1, Bool.and_true, Bool.and_eq_true, decide_eq_true_eq]
      omega
  · have es : sub64 (l.length : Int) 1 = (l.length : Int) - 1 := sub64_of (by omega) (by omega)
    obtain ⟨w, t4, e4, hw, ht4⟩ := s_Range ht3 (a := if 1 < (l.length : Int) - 1 then (l.length : Int) - 1 else 1) (b := (l.length : Int)) (by split <;> omega) (by split <;> omega) (by omega)
    have hw1 : 1 ≤ w := by have := hw.1; split at this <;> omega
    have hsz : sizes l ≤ l.length * 4 := by
      clear hl1 e1 e3 e4 es hw
      induction l with
      | nil => simp [sizes]
      | cons x r ih =>
        have h1 := (hm x List.mem_cons_self).2.2.2.2
        have h2 := ih (by simp at hl; omega) (fun y hy => hm y (List.mem_cons_of_mem _ hy))
        simp only [sizes, List.length_cons]
        omega
    refine ⟨.mk w [] l, t4, g_make_group ?_, ⟨?_, ⟨by rw [size_mk]; simp; omega, by unfold in64; omega, ⟨fun k hk => (by cases hk), ?_⟩⟩, fun k hk => (by cases hk), ?_⟩, ht4⟩
    · unfold B_make_group
      rw [e1, kb_some]
      simp only [stpK_go, e3, kb_some, c, decide_false, cnd_false, es]
      rw [e4, kb_some]
    · have hd : dep (.mk w [] l) ≤ 2 := by
        have : deps l ≤ 1 := (deps_le_iff 1 l).2 fun x hx => by rw [(hm x hx).2.2.2.1]; omega
        simp only [dep]; omega
      have hgl : goods l = true := by
        rw [goods_eq, List.all_eq_true]
        exact fun x hx => (hm x hx).1
      have hgd : good (.mk w [] l) = true := by
        simp only [good, hgl, badA, List.any_nil, List.nodup_nil, decide_true, Bool.not_false, Bool.and_true, Bool.and_eq_true, decide_eq_true_eq, List.length_nil]
        omega
      have hs : (Tru.mk w [] l).size ≤ 200 := by rw [size_mk]; simp; omega
      unfold valB
      rw [hgd]
      simp only [Bool.and_true, Bool.and_eq_true, decide_eq_true_eq]
      omega
    · rw [Oks_iff]; exact fun x hx => (hm x hx).2.1.2
    · rw [belTs_iff]; exact fun x hx => (hm x hx).2.2.1

/-- what is made of members -/
def MemOk (n : Int) (m : Mem) : Prop := (m.f0 = true ∧ valB m.f1 = true ∧ m.f1.Fine ∧ belT n m.f1) ∨ m = mem0
theorem s_Config (n : Int) (h1 : 1 ≤ n) (h2 : n ≤ 10) (t : Tape) (ht : Tp t) : ∃ c t', G_make_Config t n = some (c, t') ∧ (1 ≤ c.f0.length ∧ (c.f0.length : Int) ≤ n ∧ ∀ m ∈ c.f0, MemOk (c.f0.length : Int) m) ∧ Tp t' := by
  obtain ⟨m, t1, e1, hm, ht1⟩ := s_Range ht (a := 1) (b := n) (by omega) h1 (by omega)
  obtain ⟨kd, t2, e2, hkd, ht2⟩ := s_N ht1 (n := 3) (by omega) (by omega)
  have hx : ∀ (tl : List Int) (ta : Int) (l : List Mem) (i : Int), 0 ≤ i → Tp ⟨tl, ta⟩ → ∃ (x : Tru) (t' : Tape), B_make_Config_0 tl ta l (kd, t2) (m, t1) i = some (t'.f0, t'.f1, x.thr, x.nodes, x.inner) ∧ (valB x = true ∧ x.Fine ∧ belT m x) ∧ Tp t' := by
    intro tl ta l i hi htp
    unfold B_make_Config_0
    dsimp only
    by_cases c1 : kd = 0
    · obtain ⟨x, t', e, hp, ht'⟩ := s_mkTrust m hm.1 (by omega) 2 (by omega) ⟨tl, ta⟩ htp
      exact ⟨x, t', by simp only [c1, decide_true, cnd_true, e, kb_some], hp, ht'⟩
    · by_cases c2 : kd = 1
      · obtain ⟨x, t', e, hp, ht'⟩ := s_most m hm.1 (by omega) ⟨tl, ta⟩ htp
        exact ⟨x, t', by simp only [c1, c2, decide_true, decide_false, cnd_true, cnd_false, e, kb_some]; rfl, hp, ht'⟩
      · obtain ⟨x, t', e, hp, ht'⟩ := s_group m i hm.1 (by omega) hi ⟨tl, ta⟩ htp
        exact ⟨x, t', by simp only [c1, c2, decide_false, cnd_false, e, kb_some], hp, ht'⟩
  have hloop := iterW_spec (A := List Int × Int × List Mem × Int) (R := Unit) (f := fun a => B_make_Config_1 (m, t1) (kd, t2) a.1 a.2.1 a.2.2.1 a.2.2.2)
    (fun k a => (0 ≤ a.2.2.2 ∧ a.2.2.2 ≤ m ∧ k = (m - a.2.2.2).toNat) ∧ ((a.2.2.1.length : Int) = a.2.2.2 ∧ ∀ x ∈ a.2.2.1, MemOk m x) ∧ Tp ⟨a.1, a.2.1⟩)
    (fun x => ∃ a : List Int × Int × List Mem × Int, x = .go a ∧ ((a.2.2.1.length : Int) = m ∧ ∀ x ∈ a.2.2.1, MemOk m x) ∧ Tp ⟨a.1, a.2.1⟩)
    (by
      rintro k ⟨tl, ta, l, i⟩ ⟨⟨hi, hin, hk⟩, ⟨hl, hb⟩, htp⟩
      dsimp only at hi hin hk hl hb htp
      by_cases c : i < m
      · left
        have ei : add64 i 1 = i + 1 := add64_of (by omega) (by omega)
        obtain ⟨x, t', ex, hp, ht'⟩ := hx tl ta l i hi htp
        obtain ⟨v, t'', g1, gv, gt⟩ := s_N (t := ⟨t'.f0, t'.f1⟩) ht' (n := 12) (by omega) (by omega)
        have happ : ∀ (q : Mem), MemOk m q → ∀ y ∈ l ++ [q], MemOk m y := by
          intro q hq y hy
          rcases List.mem_append.1 hy with hy | hy
          · exact hb y hy
          · obtain rfl := List.mem_singleton.1 hy; exact hq
        by_cases c2 : v = 11
        · refine ⟨(t''.f0, t''.f1, l ++ [mem0], i + 1), (m - (i + 1)).toNat, ?_, by omega, ⟨by dsimp only; omega, by dsimp only; omega, rfl⟩, ⟨by simp; omega, happ _ (.inr rfl)⟩, gt⟩
          unfold B_make_Config_1
          simp only [c, decide_true, cnd_true]
          rw [ex, kb_some]
          simp only [g1, kb_some, c2, decide_true, cnd_true]
          rw [appK_some (by simp; omega), kb_some, ei]
          rfl
        · refine ⟨(t''.f0, t''.f1, l ++ [⟨true, x⟩], i + 1), (m - (i + 1)).toNat, ?_, by omega, ⟨by dsimp only; omega, by dsimp only; omega, rfl⟩, ⟨by simp; omega, happ _ (.inl ⟨rfl, hp⟩)⟩, gt⟩
          unfold B_make_Config_1
          simp only [c, decide_true, cnd_true]
          rw [ex, kb_some]
          simp only [g1, kb_some, c2, decide_false, cnd_false]
          rw [Tru.eta, appK_some (by simp; omega), kb_some, ei]
      · right; left
        refine ⟨0, (tl, ta, l, i), ?_, (tl, ta, l, i), rfl, ⟨by dsimp only; omega, hb⟩, htp⟩
        unfold B_make_Config_1
        simp only [c, decide_false, cnd_false]) (m - 0).toNat (t2.f0, t2.f1, [], 0) ⟨⟨by simp, by dsimp only; omega, rfl⟩, ⟨by simp, by simp⟩, ht2⟩
  obtain ⟨_, e3, ⟨tl, ta, l, i⟩, rfl, ⟨hl, hb⟩, htp⟩ := hloop
  dsimp only at hl hb htp
  refine ⟨⟨l⟩, ⟨tl, ta⟩, g_make_Config ?_, ⟨by dsimp only; omega, by dsimp only; omega, by dsimp only; rw [hl]; exact hb⟩, htp⟩
  unfold B_make_Config
  rw [e1, kb_some]
  dsimp only
  rw [e2, kb_some, e3, kb_some]
  rfl
theorem MemOk_Fine {n : Int} {m : Mem} (h : MemOk n m) : m.f1.Fine := by
  rcases h with h | rfl
  · exact h.2.2.1
  · exact ⟨by rw [mem0, size_mk]; simp [sizes], by unfold in64; omega, ⟨fun k hk => (by cases hk), trivial⟩⟩
end Go.Am

/-
How trustquorumref01.Nodes runs, as a pure function.
-/
namespace Go.Am
open Go Go.Proofs
set_option linter.unusedVariables false
set_option linter.unusedSimpArgs false
set_option maxRecDepth 4000
set_option maxHeartbeats 4000000
noncomputable def B_ref01_Nodes_0 (p0 : Int) (x3_0 : (List Int)) (x4_0 : Int) : Option (Stp ((List Int) × Int) Unit) :=
  cnd (decide (x4_0 < 10)) (
    kb (G_ref01_Has p0 x4_0) fun y2 =>
    cnd y2 (
      kb (appK x3_0 ([x4_0] : List Int) 8) fun L5 =>
      some (.go (L5, (add64 x4_0 1)))) (
      some (.go (x3_0, (add64 x4_0 1))))) (
    some (.ex 0 (x3_0, x4_0)))
def I_ref01_Nodes_0 (p0 : Int) (x3_0 : (List Int)) (x4_0 : Int) (q : St) : Prop := q (.t 0) = (i64 p0) ∧ (∃ v : AV, q (.t 3) = v ∧ (ownAt q v (.site 6 3 0) false 1 x3_0.length (ints x3_0) ∨ (v = .nilsl ∧ x3_0 = []))) ∧ q (.t 4) = (i64 x4_0)
def Q_ref01_Nodes_0 (p0 : Int) (x3_0 : (List Int)) (x4_0 : Int) (q : St) : Prop := (∃ v : AV, q (.t 3) = v ∧ (ownAt q v (.site 6 3 0) false 1 x3_0.length (ints x3_0) ∨ (v = .nilsl ∧ x3_0 = [])))
theorem Pb_ref01_Nodes_0 {p0 : Int} {x3_0 : (List Int)} {x4_0 : Int} {q : St} {r : (Stp ((List Int) × Int) Unit)} (hI : I_ref01_Nodes_0 p0 x3_0 x4_0 q) (hB : B_ref01_Nodes_0 p0 x3_0 x4_0 = some r) : Res (C Tryd.prog cf (Code.fst (Code.fst (Code.snd (Code.fst (Code.snd (Code.snd ((Tryd.f50.body).getD .skip))))))) q) (postB 0 (fun a q => I_ref01_Nodes_0 p0 a.1 a.2 q) (fun a q => Q_ref01_Nodes_0 p0 a.1 a.2 q) (fun _ _ => False) r) := by
  simp only [I_ref01_Nodes_0] at hI
  obtain ⟨q1, ⟨v2, q2, a2⟩, q3⟩ := hI
  simp only [Code.fst, Code.snd, Tryd.f50, Option.getD_some]
  unfold B_ref01_Nodes_0 at hB
  rcases a2 with ⟨ga2, rfl, oa2⟩ | ⟨rfl, ea2⟩
  · rcases cnd_inv hB with ⟨c1, hB⟩ | ⟨c1, hB⟩
    · have pc1 := eq_true (of_decide_eq_true c1)
      obtain ⟨y2, k3, hB⟩ := kb_inv hB
      replace k3 := run_ref01_Has k3
      try simp only [Int.cast_ofNat_Int, Int.natCast_zero, List.length_cons, List.length_nil, List.nil_append, List.cons_append, Nat.zero_add, Nat.reduceAdd, Tru.thr_mk, Tru.nodes_mk, Tru.inner_mk, ints_cons, ints_nil, encTs_cons, encTs_nil, es_api_Config_cons, es_api_Config_nil, es_api_Member_cons, es_api_Member_nil] at k3
      try dsimp only at hB
      rcases cnd_inv hB with ⟨c4, hB⟩ | ⟨c4, hB⟩
      · obtain ⟨L5, a6, hB⟩ := kb_inv hB
        obtain ⟨a6z, a6a, a6y⟩ := appK_inv a6
        try (simp only [List.nil_append] at a6z; subst a6z)
        have a6b := appK_len a6
        have a6c := ints_appK a6
        have a6d := appK_le a6
        try simp only [Int.cast_ofNat_Int, Int.natCast_zero, List.length_cons, List.length_nil, List.nil_append, List.cons_append, Nat.zero_add, Nat.reduceAdd, Tru.thr_mk, Tru.nodes_mk, Tru.inner_mk, ints_cons, ints_nil, encTs_cons, encTs_nil, es_api_Config_cons, es_api_Config_nil, es_api_Member_cons, es_api_Member_nil, c4] at a6a a6b a6c
        try replace a6b : _ = (1 : Nat) := a6b.symm
        try dsimp only at hB
        obtain rfl := Option.some.inj hB
        try simp -implicitDefEqProofs [-getElem?_pos, -Int.ofNat_lt, -Int.ofNat_le, -Int.natCast_eq_zero, -Int.natCast_pos, -List.length_eq_zero_iff, List.getElem?_cons_zero, List.getElem?_cons_succ, List.getElem?_nil, q1, q2, q3, oa2, c1, pc1, k3, c4, a6a, a6b, a6c, a6d]
        refine Res.bgo ?_
        simp -implicitDefEqProofs [-getElem?_pos, -Int.ofNat_lt, -Int.ofNat_le, -Int.natCast_eq_zero, -Int.natCast_pos, -List.length_eq_zero_iff, List.getElem?_cons_zero, List.getElem?_cons_succ, List.getElem?_nil, and_assoc, I_ref01_Nodes_0, ownAt, q1, q2, q3, oa2, c1, pc1, k3, c4, a6a, a6b, a6c, a6d]
      · obtain rfl := Option.some.inj hB
        try simp -implicitDefEqProofs [-getElem?_pos, -Int.ofNat_lt, -Int.ofNat_le, -Int.natCast_eq_zero, -Int.natCast_pos, -List.length_eq_zero_iff, List.getElem?_cons_zero, List.getElem?_cons_succ, List.getElem?_nil, q1, q2, q3, oa2, c1, pc1, k3, c4]
        refine Res.bgo ?_
        simp -implicitDefEqProofs [-getElem?_pos, -Int.ofNat_lt, -Int.ofNat_le, -Int.natCast_eq_zero, -Int.natCast_pos, -List.length_eq_zero_iff, List.getElem?_cons_zero, List.getElem?_cons_succ, List.getElem?_nil, and_assoc, I_ref01_Nodes_0, ownAt, q1, q2, q3, oa2, c1, pc1, k3, c4]
    · have pc1 := eq_false (of_decide_eq_false c1)
      obtain rfl := Option.some.inj hB
      try simp -implicitDefEqProofs [-getElem?_pos, -Int.ofNat_lt, -Int.ofNat_le, -Int.natCast_eq_zero, -Int.natCast_pos, -List.length_eq_zero_iff, List.getElem?_cons_zero, List.getElem?_cons_succ, List.getElem?_nil, q1, q2, q3, oa2, c1, pc1]
      refine Res.bex ?_
      simp -implicitDefEqProofs [-getElem?_pos, -Int.ofNat_lt, -Int.ofNat_le, -Int.natCast_eq_zero, -Int.natCast_pos, -List.length_eq_zero_iff, List.getElem?_cons_zero, List.getElem?_cons_succ, List.getElem?_nil, and_assoc, Q_ref01_Nodes_0, ownAt, q1, q2, q3, oa2, c1, pc1]
  · try subst ea2
    rcases cnd_inv hB with ⟨c1, hB⟩ | ⟨c1, hB⟩
    · have pc1 := eq_true (of_decide_eq_true c1)
      obtain ⟨y2, k3, hB⟩ := kb_inv hB
      replace k3 := run_ref01_Has k3
      try simp only [Int.cast_ofNat_Int, Int.natCast_zero, List.length_cons, List.length_nil, List.nil_append, List.cons_append, Nat.zero_add, Nat.reduceAdd, Tru.thr_mk, Tru.nodes_mk, Tru.inner_mk, ints_cons, ints_nil, encTs_cons, encTs_nil, es_api_Config_cons, es_api_Config_nil, es_api_Member_cons, es_api_Member_nil] at k3
      try dsimp only at hB
      rcases cnd_inv hB with ⟨c4, hB⟩ | ⟨c4, hB⟩
      · obtain ⟨L5, a6, hB⟩ := kb_inv hB
        obtain ⟨a6z, a6a, a6y⟩ := appK_inv a6
        simp only [List.nil_append] at a6z
        subst a6z
        try dsimp only at hB
        obtain rfl := Option.some.inj hB
        try simp -implicitDefEqProofs [-getElem?_pos, -Int.ofNat_lt, -Int.ofNat_le, -Int.natCast_eq_zero, -Int.natCast_pos, -List.length_eq_zero_iff, List.getElem?_cons_zero, List.getElem?_cons_succ, List.getElem?_nil, q1, q2, q3, c1, pc1, k3, c4]
        refine Res.bgo ?_
        simp -implicitDefEqProofs [-getElem?_pos, -Int.ofNat_lt, -Int.ofNat_le, -Int.natCast_eq_zero, -Int.natCast_pos, -List.length_eq_zero_iff, List.getElem?_cons_zero, List.getElem?_cons_succ, List.getElem?_nil, and_assoc, I_ref01_Nodes_0, ownAt, q1, q2, q3, c1, pc1, k3, c4]
      · obtain rfl := Option.some.inj hB
        try simp -implicitDefEqProofs [-getElem?_pos, -Int.ofNat_lt, -Int.ofNat_le, -Int.natCast_eq_zero, -Int.natCast_pos, -List.length_eq_zero_iff, List.getElem?_cons_zero, List.getElem?_cons_succ, List.getElem?_nil, q1, q2, q3, c1, pc1, k3, c4]
        refine Res.bgo ?_
        simp -implicitDefEqProofs [-getElem?_pos, -Int.ofNat_lt, -Int.ofNat_le, -Int.natCast_eq_zero, -Int.natCast_pos, -List.length_eq_zero_iff, List.getElem?_cons_zero, List.getElem?_cons_succ, List.getElem?_nil, and_assoc, I_ref01_Nodes_0, ownAt, q1, q2, q3, c1, pc1, k3, c4]
    · have pc1 := eq_false (of_decide_eq_false c1)
      obtain rfl := Option.some.inj hB
      try simp -implicitDefEqProofs [-getElem?_pos, -Int.ofNat_lt, -Int.ofNat_le, -Int.natCast_eq_zero, -Int.natCast_pos, -List.length_eq_zero_iff, List.getElem?_cons_zero, List.getElem?_cons_succ, List.getElem?_nil, q1, q2, q3, c1, pc1]
      refine Res.bex ?_
      simp -implicitDefEqProofs [-getElem?_pos, -Int.ofNat_lt, -Int.ofNat_le, -Int.natCast_eq_zero, -Int.natCast_pos, -List.length_eq_zero_iff, List.getElem?_cons_zero, List.getElem?_cons_succ, List.getElem?_nil, and_assoc, Q_ref01_Nodes_0, ownAt, q1, q2, q3, c1, pc1]
theorem P_ref01_Nodes_0 {p0 : Int} {x3_0 : (List Int)} {x4_0 : Int} {cc : Code} (hcc : cc = .block 0 (.loop (Code.fst (Code.fst (Code.snd (Code.fst (Code.snd (Code.snd ((Tryd.f50.body).getD .skip))))))))) {s : St} {z : Option (Ex × St)} (hz : C Tryd.prog cf cc s = z) {r : (Stp ((List Int) × Int) Unit)} (hI : I_ref01_Nodes_0 p0 x3_0 x4_0 s) (hB : iterW (fun a => B_ref01_Nodes_0 p0 a.1 a.2) (x3_0, x4_0) = some r) : Res z (postS (fun a q => Q_ref01_Nodes_0 p0 a.1 a.2 q) (fun _ _ => False) r) := by
  subst hcc
  exact while_sim (I := fun a q => I_ref01_Nodes_0 p0 a.1 a.2 q) (Q := (fun a q => Q_ref01_Nodes_0 p0 a.1 a.2 q)) (QR := (fun _ _ => False)) (fun a q r h hB => Pb_ref01_Nodes_0 h hB) hI hz hB
noncomputable def B_ref01_Nodes (p0 : Int) : Option (List Int) :=
  kb (iterW (fun a => B_ref01_Nodes_0 p0 a.1 a.2) (([] : (List Int)), 0)) fun o => stpK o (fun z7 =>
    some z7.1) (fun z7r =>
    none)
theorem sim_ref01_Nodes {p0 : Int} {r : (List Int)} (hB : B_ref01_Nodes p0 = some r) : R 50 [(i64 p0)] [] = some ((.pv (.sl r.length (ints r))), [], []) := by
  rw [R_eq _ _ _ fn_ref01_Nodes]
  simp only [Code.fst, Code.snd, Tryd.f50, Option.getD_some]
  generalize hc0 : Code.block 0 _ = cc0
  unfold B_ref01_Nodes at hB
  try simp -implicitDefEqProofs [-getElem?_pos, -Int.ofNat_lt, -Int.ofNat_le, -Int.natCast_eq_zero, -Int.natCast_pos, -List.length_eq_zero_iff, List.getElem?_cons_zero, List.getElem?_cons_succ, List.getElem?_nil]
  generalize hz0 : C Tryd.prog cf cc0 _ = z0
  obtain ⟨o, hB1, hB⟩ := kb_inv hB
  have hJ := P_ref01_Nodes_0 (hc0.symm.trans (by kernel_rfl)) hz0 (by simp -implicitDefEqProofs [-getElem?_pos, -Int.ofNat_lt, -Int.ofNat_le, -Int.natCast_eq_zero, -Int.natCast_pos, -List.length_eq_zero_iff, List.getElem?_cons_zero, List.getElem?_cons_succ, List.getElem?_nil, and_assoc, I_ref01_Nodes_0, ownAt]) hB1
  obtain ⟨e0, s0, rfl, hq⟩ := hJ.open
  clear hB1
  rcases o with z7 | ⟨_, _⟩ | z7r
  · simp only [stpK_go] at hB
    obtain ⟨rfl, hq⟩ := hq
    obtain ⟨u0_0, u0_1⟩ := z7
    dsimp only at hB hq
    simp only [Q_ref01_Nodes_0] at hq
    obtain ⟨v7_1, q7_1, a7_1⟩ := hq
    rcases a7_1 with ⟨ga7_1, rfl, oa7_1⟩ | ⟨rfl, ea7_1⟩
    · obtain rfl := Option.some.inj hB
      simp -implicitDefEqProofs [-getElem?_pos, -Int.ofNat_lt, -Int.ofNat_le, -Int.natCast_eq_zero, -Int.natCast_pos, -List.length_eq_zero_iff, List.getElem?_cons_zero, List.getElem?_cons_succ, List.getElem?_nil, q7_1, oa7_1]
    · try subst ea7_1
      obtain rfl := Option.some.inj hB
      simp -implicitDefEqProofs [-getElem?_pos, -Int.ofNat_lt, -Int.ofNat_le, -Int.natCast_eq_zero, -Int.natCast_pos, -List.length_eq_zero_iff, List.getElem?_cons_zero, List.getElem?_cons_succ, List.getElem?_nil, q7_1]
  · exact hq.elim
  · cases hB
theorem g_ref01_Nodes {p0 : Int} {r : (List Int)} (hB : B_ref01_Nodes p0 = some r) : G_ref01_Nodes p0 = some r := dec_of (fun a b h => by rcases a with a0_; rcases b with b0_; simp at h; simp [*]) (sim_ref01_Nodes hB)
end Go.Am

/-
How trustquorumref06.Valid runs, as a pure function.
-/
namespace Go.Am
open Go Go.Proofs
set_option linter.unusedVariables false
set_option linter.unusedSimpArgs false
set_option maxRecDepth 4000
set_option maxHeartbeats 4000000
noncomputable def B_ref06_Valid_0 (p0 : S_api_Config) (i2 : Nat) (e3 : S_api_Member) : Option (Stp Unit Int) :=
  cnd e3.f0 (
    kb (G_ref02_Valid e3.f1) fun y4 =>
    cnd (decide (y4 = 0)) (
      kb (G_ref02_Uses e3.f1) fun y7 =>
      kb (mustK (¬ (p0.f0.length : Int) < 0)) fun _ =>
      cnd (decide ((shl64 1 (p0.f0.length : Int)) ≤ y7)) (
        some (.ret 5)) (
        some (.go ()))) (
      some (.ret y4))) (
    kb (G_ref02_Same e3.f1 (Tru.mk 0 ([] : (List Int)) ([] : (List Tru)))) fun y11 =>
    cnd y11 (
      some (.go ())) (
      some (.ret 1)))
def I_ref06_Valid_0 (p0 : S_api_Config) (i2 : Nat) (q : St) : Prop := q (.t 11) = (.pv (.sl p0.f0.length (es_api_Member p0.f0))) ∧ q (.t 12) = (i64 (p0.f0.length : Int)) ∧ q (.t 13) = (i64 (i2 : Int)) ∧ (∃ (g : Nat), q (.t 1) = .ptr (.site 0 0 0) g 0 ∧ q (.i (.site 0 0 0)) = .box g [(.pv (.sl p0.f0.length (es_api_Member p0.f0)))])
def Q_ref06_Valid_0 (p0 : S_api_Config) (q : St) : Prop := True
def QR_ref06_Valid_0 (p0 : S_api_Config) (r2_0 : Int) (q : St) : Prop := q (.t 2) = (i64 r2_0)
theorem Pb_ref06_Valid_0 {p0 : S_api_Config} {i2 : Nat} {e3 : S_api_Member} {q : St} {r : (Stp Unit Int)} (hx : p0.f0[i2]? = some e3) (hi : i2 < p0.f0.length) (hn : p0.f0.length < 4611686018427387904) (hI : I_ref06_Valid_0 p0 i2 q) (hB : B_ref06_Valid_0 p0 i2 e3 = some r) : Res (C Tryd.prog cf (Code.fst (Code.fst (Code.snd (Code.fst (Code.snd (Code.snd ((Tryd.f27.body).getD .skip))))))) q) (postB 0 (fun a q => I_ref06_Valid_0 p0 (i2 + 1) q) (fun a q => Q_ref06_Valid_0 p0 q) (fun a q => QR_ref06_Valid_0 p0 a q) r) := by
  have hi3 : (i2 : Int) < (p0.f0.length : Int) := by omega
  have hi2 := decide_eq_true hi3
  have hi4 := idx_step hi hn
  have hi5 := ne_of_get hx
  simp only [I_ref06_Valid_0] at hI
  obtain ⟨q1, q2, q3, ⟨g5, q4, q5⟩⟩ := hI
  simp only [Code.fst, Code.snd, Tryd.f27, Option.getD_some]
  unfold B_ref06_Valid_0 at hB
  have l2 := es_api_Member_ld hx
  rcases cnd_inv hB with ⟨c3, hB⟩ | ⟨c3, hB⟩
  · obtain ⟨y4, k5, hB⟩ := kb_inv hB
    replace k5 := run_ref02_Valid k5
    try simp only [Int.cast_ofNat_Int, Int.natCast_zero, List.length_cons, List.length_nil, List.nil_append, List.cons_append, Nat.zero_add, Nat.reduceAdd, Tru.thr_mk, Tru.nodes_mk, Tru.inner_mk, ints_cons, ints_nil, encTs_cons, encTs_nil, es_api_Config_cons, es_api_Config_nil, es_api_Member_cons, es_api_Member_nil, c3] at k5
    try dsimp only at hB
    rcases cnd_inv hB with ⟨c6, hB⟩ | ⟨c6, hB⟩
    · have pc6 := eq_true (of_decide_eq_true c6)
      obtain ⟨y7, k8, hB⟩ := kb_inv hB
      replace k8 := run_ref02_Uses k8
      try simp only [Int.cast_ofNat_Int, Int.natCast_zero, List.length_cons, List.length_nil, List.nil_append, List.cons_append, Nat.zero_add, Nat.reduceAdd, Tru.thr_mk, Tru.nodes_mk, Tru.inner_mk, ints_cons, ints_nil, encTs_cons, encTs_nil, es_api_Config_cons, es_api_Config_nil, es_api_Member_cons, es_api_Member_nil, c3] at k8
      try dsimp only at hB
      obtain ⟨_, n9, hB⟩ := kb_inv hB
      have n9a := mustK_inv n9
      try dsimp only at hB
      rcases cnd_inv hB with ⟨c10, hB⟩ | ⟨c10, hB⟩
      · have pc10 := eq_true (of_decide_eq_true c10)
        have nc10 := c10
        try simp only [List.length_nil, List.length_cons, Int.cast_ofNat_Int, Int.natCast_zero, Nat.zero_add, Nat.reduceAdd, Int.reduceLT, Int.reduceLE, Int.reduceEq, eq_self, decide_true, decide_false, Bool.true_eq_false, Bool.false_eq_true] at nc10
        all_goals
          obtain rfl := Option.some.inj hB
          try simp -implicitDefEqProofs [-getElem?_pos, -Int.ofNat_lt, -Int.ofNat_le, -Int.natCast_eq_zero, -Int.natCast_pos, -List.length_eq_zero_iff, List.getElem?_cons_zero, List.getElem?_cons_succ, List.getElem?_nil, q1, q2, q3, q4, q5, hx, hi2, hi3, hi4, hi5, l2, c3, k5, c6, pc6, k8, n9a, c10, pc10, nc10]
          rw [drawK_ok _ _ _ (by kernel_rfl)]
          simp -implicitDefEqProofs [-getElem?_pos, -Int.ofNat_lt, -Int.ofNat_le, -Int.natCast_eq_zero, -Int.natCast_pos, -List.length_eq_zero_iff, List.getElem?_cons_zero, List.getElem?_cons_succ, List.getElem?_nil, q1, q2, q3, q4, q5, hx, hi2, hi3, hi4, hi5, l2, c3, k5, c6, pc6, k8, n9a, c10, pc10, nc10]
          refine Res.bret ?_
          simp -implicitDefEqProofs [-getElem?_pos, -Int.ofNat_lt, -Int.ofNat_le, -Int.natCast_eq_zero, -Int.natCast_pos, -List.length_eq_zero_iff, List.getElem?_cons_zero, List.getElem?_cons_succ, List.getElem?_nil, and_assoc, QR_ref06_Valid_0, ownAt, q1, q2, q3, q4, q5, hx, hi2, hi3, hi4, hi5, l2, c3, k5, c6, pc6, k8, n9a, c10, pc10, nc10]
      · have pc10 := eq_false (of_decide_eq_false c10)
        have nc10 := c10
        try simp only [List.length_nil, List.length_cons, Int.cast_ofNat_Int, Int.natCast_zero, Nat.zero_add, Nat.reduceAdd, Int.reduceLT, Int.reduceLE, Int.reduceEq, eq_self, decide_true, decide_false, Bool.true_eq_false, Bool.false_eq_true] at nc10
        all_goals
          obtain rfl := Option.some.inj hB
          try simp -implicitDefEqProofs [-getElem?_pos, -Int.ofNat_lt, -Int.ofNat_le, -Int.natCast_eq_zero, -Int.natCast_pos, -List.length_eq_zero_iff, List.getElem?_cons_zero, List.getElem?_cons_succ, List.getElem?_nil, q1, q2, q3, q4, q5, hx, hi2, hi3, hi4, hi5, l2, c3, k5, c6, pc6, k8, n9a, c10, pc10, nc10]
          rw [drawK_ok _ _ _ (by kernel_rfl)]
          simp -implicitDefEqProofs [-getElem?_pos, -Int.ofNat_lt, -Int.ofNat_le, -Int.natCast_eq_zero, -Int.natCast_pos, -List.length_eq_zero_iff, List.getElem?_cons_zero, List.getElem?_cons_succ, List.getElem?_nil, q1, q2, q3, q4, q5, hx, hi2, hi3, hi4, hi5, l2, c3, k5, c6, pc6, k8, n9a, c10, pc10, nc10]
          refine Res.bgo ?_
          simp -implicitDefEqProofs [-getElem?_pos, -Int.ofNat_lt, -Int.ofNat_le, -Int.natCast_eq_zero, -Int.natCast_pos, -List.length_eq_zero_iff, List.getElem?_cons_zero, List.getElem?_cons_succ, List.getElem?_nil, and_assoc, I_ref06_Valid_0, ownAt, q1, q2, q3, q4, q5, hx, hi2, hi3, hi4, hi5, l2, c3, k5, c6, pc6, k8, n9a, c10, pc10, nc10]
    · have pc6 := eq_false (of_decide_eq_false c6)
      obtain rfl := Option.some.inj hB
      try simp -implicitDefEqProofs [-getElem?_pos, -Int.ofNat_lt, -Int.ofNat_le, -Int.natCast_eq_zero, -Int.natCast_pos, -List.length_eq_zero_iff, List.getElem?_cons_zero, List.getElem?_cons_succ, List.getElem?_nil, q1, q2, q3, q4, q5, hx, hi2, hi3, hi4, hi5, l2, c3, k5, c6, pc6]
      refine Res.bret ?_
      simp -implicitDefEqProofs [-getElem?_pos, -Int.ofNat_lt, -Int.ofNat_le, -Int.natCast_eq_zero, -Int.natCast_pos, -List.length_eq_zero_iff, List.getElem?_cons_zero, List.getElem?_cons_succ, List.getElem?_nil, and_assoc, QR_ref06_Valid_0, ownAt, q1, q2, q3, q4, q5, hx, hi2, hi3, hi4, hi5, l2, c3, k5, c6, pc6]
  · obtain ⟨y11, k12, hB⟩ := kb_inv hB
    replace k12 := run_ref02_Same k12
    try simp only [Int.cast_ofNat_Int, Int.natCast_zero, List.length_cons, List.length_nil, List.nil_append, List.cons_append, Nat.zero_add, Nat.reduceAdd, Tru.thr_mk, Tru.nodes_mk, Tru.inner_mk, ints_cons, ints_nil, encTs_cons, encTs_nil, es_api_Config_cons, es_api_Config_nil, es_api_Member_cons, es_api_Member_nil, c3] at k12
    try dsimp only at hB
    rcases cnd_inv hB with ⟨c13, hB⟩ | ⟨c13, hB⟩
    · obtain rfl := Option.some.inj hB
      try simp -implicitDefEqProofs [-getElem?_pos, -Int.ofNat_lt, -Int.ofNat_le, -Int.natCast_eq_zero, -Int.natCast_pos, -List.length_eq_zero_iff, List.getElem?_cons_zero, List.getElem?_cons_succ, List.getElem?_nil, q1, q2, q3, q4, q5, hx, hi2, hi3, hi4, hi5, l2, c3, k12, c13]
      refine Res.bgo ?_
      simp -implicitDefEqProofs [-getElem?_pos, -Int.ofNat_lt, -Int.ofNat_le, -Int.natCast_eq_zero, -Int.natCast_pos, -List.length_eq_zero_iff, List.getElem?_cons_zero, List.getElem?_cons_succ, List.getElem?_nil, and_assoc, I_ref06_Valid_0, ownAt, q1, q2, q3, q4, q5, hx, hi2, hi3, hi4, hi5, l2, c3, k12, c13]
    · obtain rfl := Option.some.inj hB
      try simp -implicitDefEqProofs [-getElem?_pos, -Int.ofNat_lt, -Int.ofNat_le, -Int.natCast_eq_zero, -Int.natCast_pos, -List.length_eq_zero_iff, List.getElem?_cons_zero, List.getElem?_cons_succ, List.getElem?_nil, q1, q2, q3, q4, q5, hx, hi2, hi3, hi4, hi5, l2, c3, k12, c13]
      refine Res.bret ?_
      simp -implicitDefEqProofs [-getElem?_pos, -Int.ofNat_lt, -Int.ofNat_le, -Int.natCast_eq_zero, -Int.natCast_pos, -List.length_eq_zero_iff, List.getElem?_cons_zero, List.getElem?_cons_succ, List.getElem?_nil, and_assoc, QR_ref06_Valid_0, ownAt, q1, q2, q3, q4, q5, hx, hi2, hi3, hi4, hi5, l2, c3, k12, c13]
theorem Pe_ref06_Valid_0 {p0 : S_api_Config} {q : St} (hI : I_ref06_Valid_0 p0 p0.f0.length q) : Res (C Tryd.prog cf (Code.fst (Code.fst (Code.snd (Code.fst (Code.snd (Code.snd ((Tryd.f27.body).getD .skip))))))) q) fun e q' => e = .exit 0 ∧ Q_ref06_Valid_0 p0 q' := by
  simp only [I_ref06_Valid_0] at hI
  obtain ⟨q1, q2, q3, ⟨g5, q4, q5⟩⟩ := hI
  simp only [Code.fst, Code.snd, Tryd.f27, Option.getD_some]
  simp -implicitDefEqProofs [-getElem?_pos, -Int.ofNat_lt, -Int.ofNat_le, -Int.natCast_eq_zero, -Int.natCast_pos, -List.length_eq_zero_iff, List.getElem?_cons_zero, List.getElem?_cons_succ, List.getElem?_nil, q1, q2, q3, q4, q5]
  refine Res.x ?_
  simp -implicitDefEqProofs [-getElem?_pos, -Int.ofNat_lt, -Int.ofNat_le, -Int.natCast_eq_zero, -Int.natCast_pos, -List.length_eq_zero_iff, List.getElem?_cons_zero, List.getElem?_cons_succ, List.getElem?_nil, and_assoc, Q_ref06_Valid_0, ownAt, q1, q2, q3, q4, q5]
theorem P_ref06_Valid_0 {p0 : S_api_Config} {cc : Code} (hcc : cc = .block 0 (.loop (Code.fst (Code.fst (Code.snd (Code.fst (Code.snd (Code.snd ((Tryd.f27.body).getD .skip))))))))) {s : St} {z : Option (Ex × St)} (hz : C Tryd.prog cf cc s = z) {r : (Stp Unit Int)} (hn : p0.f0.length < 4611686018427387904) (hI : I_ref06_Valid_0 p0 0 s) (hB : loopL (fun i a x => B_ref06_Valid_0 p0 i x) 0 () p0.f0 = some r) : Res z (postS (fun a q => Q_ref06_Valid_0 p0 q) (fun a q => QR_ref06_Valid_0 p0 a q) r) := by
  subst hcc
  exact loopL_sim (I := fun i a q => I_ref06_Valid_0 p0 i q) (Q := (fun a q => Q_ref06_Valid_0 p0 q)) (QR := (fun a q => QR_ref06_Valid_0 p0 a q)) (fun i x a q r hx hi h hB => Pb_ref06_Valid_0 hx hi hn h hB) (fun a q h => Pe_ref06_Valid_0 h) hI hz hB
noncomputable def B_ref06_Valid (p0 : S_api_Config) : Option Int :=
  cnd (decide (10 < (p0.f0.length : Int))) (
    some 3) (
    kb (smallK p0.f0) fun _ =>
    kb (loopL (fun i a x => B_ref06_Valid_0 p0 i x) 0 () p0.f0) fun o => stpK o (fun z14 =>
      some 0) (fun z14r =>
      some z14r))
theorem sim_ref06_Valid {p0 : S_api_Config} {r : Int} (hB : B_ref06_Valid p0 = some r) : R 27 [(.agg [(.pv (.sl p0.f0.length (es_api_Member p0.f0)))])] [] = some ((i64 r), [], []) := by
  rw [R_eq _ _ _ fn_ref06_Valid]
  simp only [Code.fst, Code.snd, Tryd.f27, Option.getD_some]
  generalize hc0 : Code.block 0 _ = cc0
  unfold B_ref06_Valid at hB
  rcases cnd_inv hB with ⟨c1, hB⟩ | ⟨c1, hB⟩
  · have pc1 := eq_true (of_decide_eq_true c1)
    have nc1 := c1
    try simp only [List.length_nil, List.length_cons, Int.cast_ofNat_Int, Int.natCast_zero, Nat.zero_add, Nat.reduceAdd, Int.reduceLT, Int.reduceLE, Int.reduceEq, eq_self, decide_true, decide_false, Bool.true_eq_false, Bool.false_eq_true] at nc1
    all_goals
      obtain rfl := Option.some.inj hB
      simp -implicitDefEqProofs [-getElem?_pos, -Int.ofNat_lt, -Int.ofNat_le, -Int.natCast_eq_zero, -Int.natCast_pos, -List.length_eq_zero_iff, List.getElem?_cons_zero, List.getElem?_cons_succ, List.getElem?_nil, c1, pc1, nc1]
  · have pc1 := eq_false (of_decide_eq_false c1)
    have nc1 := c1
    try simp only [List.length_nil, List.length_cons, Int.cast_ofNat_Int, Int.natCast_zero, Nat.zero_add, Nat.reduceAdd, Int.reduceLT, Int.reduceLE, Int.reduceEq, eq_self, decide_true, decide_false, Bool.true_eq_false, Bool.false_eq_true] at nc1
    all_goals
      try simp -implicitDefEqProofs [-getElem?_pos, -Int.ofNat_lt, -Int.ofNat_le, -Int.natCast_eq_zero, -Int.natCast_pos, -List.length_eq_zero_iff, List.getElem?_cons_zero, List.getElem?_cons_succ, List.getElem?_nil, c1, pc1, nc1]
      generalize hz0 : C Tryd.prog cf cc0 _ = z0
      obtain ⟨_, hsm, hB⟩ := kb_inv hB
      obtain ⟨o, hB1, hB⟩ := kb_inv hB
      have hJ := P_ref06_Valid_0 (hc0.symm.trans (by kernel_rfl)) hz0 (smallK_inv hsm) (by simp -implicitDefEqProofs [-getElem?_pos, -Int.ofNat_lt, -Int.ofNat_le, -Int.natCast_eq_zero, -Int.natCast_pos, -List.length_eq_zero_iff, List.getElem?_cons_zero, List.getElem?_cons_succ, List.getElem?_nil, and_assoc, I_ref06_Valid_0, ownAt, c1, pc1, nc1]) hB1
      obtain ⟨e0, s0, rfl, hq⟩ := hJ.open
      clear hB1
      rcases o with z14 | ⟨_, _⟩ | z14r
      · simp only [stpK_go] at hB
        obtain ⟨rfl, hq⟩ := hq
        simp only [Q_ref06_Valid_0] at hq
        obtain rfl := Option.some.inj hB
        simp -implicitDefEqProofs [-getElem?_pos, -Int.ofNat_lt, -Int.ofNat_le, -Int.natCast_eq_zero, -Int.natCast_pos, -List.length_eq_zero_iff, List.getElem?_cons_zero, List.getElem?_cons_succ, List.getElem?_nil, c1, pc1, nc1]
      · exact hq.elim
      · simp only [stpK_ret] at hB
        obtain ⟨rfl, hq⟩ := hq
        simp only [QR_ref06_Valid_0] at hq
        have q14_r1 := hq
        obtain rfl := Option.some.inj hB
        simp -implicitDefEqProofs [-getElem?_pos, -Int.ofNat_lt, -Int.ofNat_le, -Int.natCast_eq_zero, -Int.natCast_pos, -List.length_eq_zero_iff, List.getElem?_cons_zero, List.getElem?_cons_succ, List.getElem?_nil, q14_r1, c1, pc1, nc1]
theorem g_ref06_Valid {p0 : S_api_Config} {r : Int} (hB : B_ref06_Valid p0 = some r) : G_ref06_Valid p0 = some r := dec_of (fun a b h => by rcases a with a0_; rcases b with b0_; simp at h; simp [*]) (sim_ref06_Valid hB)
end Go.Am

/-
How trustquorumref06.Declared runs, as a pure function.
-/
namespace Go.Am
open Go Go.Proofs
set_option linter.unusedVariables false
set_option linter.unusedSimpArgs false
set_option maxRecDepth 4000
set_option maxHeartbeats 4000000
noncomputable def B_ref06_Declared_0 (e2 : S_api_Member) (p3_0 : Int) (i1 : Nat) (p0 : S_api_Config) : Option Bool :=
  cnd (decide ((i1 : Int) < 10)) (
    some e2.f0) (
    some false)
def J_ref06_Declared_0 (e2 : S_api_Member) (p3_0 : Int) (i1 : Nat) (p0 : S_api_Config) (q : St) : Prop := q (.t 3) = (i64 p3_0) ∧ q (.t 4) = (i64 (i1 : Int)) ∧ q (.t 7) = (.pv (.sl p0.f0.length (es_api_Member p0.f0))) ∧ q (.t 8) = (i64 (p0.f0.length : Int)) ∧ q (.t 9) = (i64 (i1 : Int)) ∧ (∃ (g : Nat), q (.t 5) = .ptr (.site 4 3 0) g 0 ∧ q (.i (.site 4 3 0)) = .box g [(bl e2.f0), (i64 e2.f1.thr), (.pv (.sl e2.f1.nodes.length (ints e2.f1.nodes))), (.pv (.sl e2.f1.inner.length (encTs e2.f1.inner)))])
def Q_ref06_Declared_0 (e2 : S_api_Member) (p3_0 : Int) (i1 : Nat) (p0 : S_api_Config) (o19_0 : Bool) (q : St) : Prop := q (.t 19) = (bl o19_0) ∧ q (.t 3) = (i64 p3_0) ∧ q (.t 4) = (i64 (i1 : Int)) ∧ q (.t 7) = (.pv (.sl p0.f0.length (es_api_Member p0.f0))) ∧ q (.t 8) = (i64 (p0.f0.length : Int)) ∧ q (.t 9) = (i64 (i1 : Int))
theorem P_ref06_Declared_0 {e2 : S_api_Member} {p3_0 : Int} {i1 : Nat} {p0 : S_api_Config} {cc : Code} (hcc : cc = (Code.fst (Code.snd (Code.fst (Code.fst (Code.snd (Code.snd (Code.fst (Code.fst (Code.snd (Code.fst (Code.snd (Code.snd ((Tryd.f28.body).getD .skip)))))))))))))) {s : St} {z : Option (Ex × St)} (hz : C Tryd.prog cf cc s = z) {r : Bool} (hI : J_ref06_Declared_0 e2 p3_0 i1 p0 s) (hB : B_ref06_Declared_0 e2 p3_0 i1 p0 = some r) : Res z (postG (fun a q => Q_ref06_Declared_0 e2 p3_0 i1 p0 a q) r) := by
  subst hcc
  subst hz
  simp only [J_ref06_Declared_0] at hI
  obtain ⟨q1, q2, q3, q4, q5, ⟨g7, q6, q7⟩⟩ := hI
  simp only [Code.fst, Code.snd, Tryd.f28, Option.getD_some]
  unfold B_ref06_Declared_0 at hB
  rcases cnd_inv hB with ⟨c2, hB⟩ | ⟨c2, hB⟩
  · have pc2 := eq_true (of_decide_eq_true c2)
    obtain rfl := Option.some.inj hB
    try simp -implicitDefEqProofs [-getElem?_pos, -Int.ofNat_lt, -Int.ofNat_le, -Int.natCast_eq_zero, -Int.natCast_pos, -List.length_eq_zero_iff, List.getElem?_cons_zero, List.getElem?_cons_succ, List.getElem?_nil, q1, q2, q3, q4, q5, q6, q7, c2, pc2]
    refine Res.g ?_
    simp -implicitDefEqProofs [-getElem?_pos, -Int.ofNat_lt, -Int.ofNat_le, -Int.natCast_eq_zero, -Int.natCast_pos, -List.length_eq_zero_iff, List.getElem?_cons_zero, List.getElem?_cons_succ, List.getElem?_nil, and_assoc, Q_ref06_Declared_0, ownAt, q1, q2, q3, q4, q5, q6, q7, c2, pc2]
  · have pc2 := eq_false (of_decide_eq_false c2)
    obtain rfl := Option.some.inj hB
    try simp -implicitDefEqProofs [-getElem?_pos, -Int.ofNat_lt, -Int.ofNat_le, -Int.natCast_eq_zero, -Int.natCast_pos, -List.length_eq_zero_iff, List.getElem?_cons_zero, List.getElem?_cons_succ, List.getElem?_nil, q1, q2, q3, q4, q5, q6, q7, c2, pc2]
    refine Res.g ?_
    simp -implicitDefEqProofs [-getElem?_pos, -Int.ofNat_lt, -Int.ofNat_le, -Int.natCast_eq_zero, -Int.natCast_pos, -List.length_eq_zero_iff, List.getElem?_cons_zero, List.getElem?_cons_succ, List.getElem?_nil, and_assoc, Q_ref06_Declared_0, ownAt, q1, q2, q3, q4, q5, q6, q7, c2, pc2]
noncomputable def B_ref06_Declared_1 (p0 : S_api_Config) (i1 : Nat) (x3_1 : Int) (e2 : S_api_Member) : Option Int :=
  kb (B_ref06_Declared_0 e2 x3_1 i1 p0) fun z3 =>
  cnd z3 (
    kb (mustK (¬ (i1 : Int) < 0)) fun _ =>
    some (or64 x3_1 (shl64 1 (i1 : Int)))) (
    some x3_1)
def I_ref06_Declared_1 (p0 : S_api_Config) (i1 : Nat) (x3_1 : Int) (q : St) : Prop := q (.t 3) = (i64 x3_1) ∧ q (.t 7) = (.pv (.sl p0.f0.length (es_api_Member p0.f0))) ∧ q (.t 8) = (i64 (p0.f0.length : Int)) ∧ q (.t 9) = (i64 (i1 : Int))
def Q_ref06_Declared_1 (p0 : S_api_Config) (x3_1 : Int) (q : St) : Prop := q (.t 3) = (i64 x3_1)
theorem Pb_ref06_Declared_1 {p0 : S_api_Config} {i1 : Nat} {x3_1 : Int} {e2 : S_api_Member} {q : St} {r : Int} (hx : p0.f0[i1]? = some e2) (hi : i1 < p0.f0.length) (hn : p0.f0.length < 4611686018427387904) (hI : I_ref06_Declared_1 p0 i1 x3_1 q) (hB : B_ref06_Declared_1 p0 i1 x3_1 e2 = some r) : Res (C Tryd.prog cf (Code.fst (Code.fst (Code.snd (Code.fst (Code.snd (Code.snd ((Tryd.f28.body).getD .skip))))))) q) (postG (fun a q => I_ref06_Declared_1 p0 (i1 + 1) a q) r) := by
  have hi3 : (i1 : Int) < (p0.f0.length : Int) := by omega
  have hi2 := decide_eq_true hi3
  have hi4 := idx_step hi hn
  have hi5 := ne_of_get hx
  simp only [I_ref06_Declared_1] at hI
  obtain ⟨q1, q2, q3, q4⟩ := hI
  simp only [Code.fst, Code.snd, Tryd.f28, Option.getD_some]
  generalize hc0 : Code.region 5 _ _ = cc0
  unfold B_ref06_Declared_1 at hB
  have l1 := es_api_Member_ld hx
  try simp -implicitDefEqProofs [-getElem?_pos, -Int.ofNat_lt, -Int.ofNat_le, -Int.natCast_eq_zero, -Int.natCast_pos, -List.length_eq_zero_iff, List.getElem?_cons_zero, List.getElem?_cons_succ, List.getElem?_nil, q1, q2, q3, q4, hx, hi2, hi3, hi4, hi5, l1]
  generalize hz0 : C Tryd.prog cf cc0 _ = z0
  obtain ⟨z3, hB1, hB⟩ := kb_inv hB
  have hJ := P_ref06_Declared_0 (hc0.symm.trans (by kernel_rfl)) hz0 (by simp -implicitDefEqProofs [-getElem?_pos, -Int.ofNat_lt, -Int.ofNat_le, -Int.natCast_eq_zero, -Int.natCast_pos, -List.length_eq_zero_iff, List.getElem?_cons_zero, List.getElem?_cons_succ, List.getElem?_nil, and_assoc, J_ref06_Declared_0, ownAt, q1, q2, q3, q4, hx, hi2, hi3, hi4, hi5, l1]) hB1
  obtain ⟨e0, s0, rfl, hq⟩ := hJ.open
  clear hB1
  obtain ⟨rfl, hq⟩ := hq
  simp only [Q_ref06_Declared_0] at hq
  obtain ⟨q3_1, q3_2, q3_3, q3_4, q3_5, q3_6⟩ := hq
  rcases cnd_inv hB with ⟨c4, hB⟩ | ⟨c4, hB⟩
  · obtain ⟨_, n5, hB⟩ := kb_inv hB
    have n5a := mustK_inv n5
    try dsimp only at hB
    obtain rfl := Option.some.inj hB
    try simp -implicitDefEqProofs [-getElem?_pos, -Int.ofNat_lt, -Int.ofNat_le, -Int.natCast_eq_zero, -Int.natCast_pos, -List.length_eq_zero_iff, List.getElem?_cons_zero, List.getElem?_cons_succ, List.getElem?_nil, q3_1, q3_2, q3_3, q3_4, q3_5, q3_6, hx, hi2, hi3, hi4, hi5, l1, c4, n5a]
    refine Res.g ?_
    simp -implicitDefEqProofs [-getElem?_pos, -Int.ofNat_lt, -Int.ofNat_le, -Int.natCast_eq_zero, -Int.natCast_pos, -List.length_eq_zero_iff, List.getElem?_cons_zero, List.getElem?_cons_succ, List.getElem?_nil, and_assoc, I_ref06_Declared_1, ownAt, q3_1, q3_2, q3_3, q3_4, q3_5, q3_6, hx, hi2, hi3, hi4, hi5, l1, c4, n5a]
  · obtain rfl := Option.some.inj hB
    try simp -implicitDefEqProofs [-getElem?_pos, -Int.ofNat_lt, -Int.ofNat_le, -Int.natCast_eq_zero, -Int.natCast_pos, -List.length_eq_zero_iff, List.getElem?_cons_zero, List.getElem?_cons_succ, List.getElem?_nil, q3_1, q3_2, q3_3, q3_4, q3_5, q3_6, hx, hi2, hi3, hi4, hi5, l1, c4]
    refine Res.g ?_
    simp -implicitDefEqProofs [-getElem?_pos, -Int.ofNat_lt, -Int.ofNat_le, -Int.natCast_eq_zero, -Int.natCast_pos, -List.length_eq_zero_iff, List.getElem?_cons_zero, List.getElem?_cons_succ, List.getElem?_nil, and_assoc, I_ref06_Declared_1, ownAt, q3_1, q3_2, q3_3, q3_4, q3_5, q3_6, hx, hi2, hi3, hi4, hi5, l1, c4]
theorem Pe_ref06_Declared_1 {p0 : S_api_Config} {x3_1 : Int} {q : St} (hI : I_ref06_Declared_1 p0 p0.f0.length x3_1 q) : Res (C Tryd.prog cf (Code.fst (Code.fst (Code.snd (Code.fst (Code.snd (Code.snd ((Tryd.f28.body).getD .skip))))))) q) fun e q' => e = .exit 0 ∧ Q_ref06_Declared_1 p0 x3_1 q' := by
  simp only [I_ref06_Declared_1] at hI
  obtain ⟨q1, q2, q3, q4⟩ := hI
  simp only [Code.fst, Code.snd, Tryd.f28, Option.getD_some]
  simp -implicitDefEqProofs [-getElem?_pos, -Int.ofNat_lt, -Int.ofNat_le, -Int.natCast_eq_zero, -Int.natCast_pos, -List.length_eq_zero_iff, List.getElem?_cons_zero, List.getElem?_cons_succ, List.getElem?_nil, q1, q2, q3, q4]
  refine Res.x ?_
  simp -implicitDefEqProofs [-getElem?_pos, -Int.ofNat_lt, -Int.ofNat_le, -Int.natCast_eq_zero, -Int.natCast_pos, -List.length_eq_zero_iff, List.getElem?_cons_zero, List.getElem?_cons_succ, List.getElem?_nil, and_assoc, Q_ref06_Declared_1, ownAt, q1, q2, q3, q4]
theorem P_ref06_Declared_1 {p0 : S_api_Config} {x3_1 : Int} {cc : Code} (hcc : cc = .block 0 (.loop (Code.fst (Code.fst (Code.snd (Code.fst (Code.snd (Code.snd ((Tryd.f28.body).getD .skip))))))))) {s : St} {z : Option (Ex × St)} (hz : C Tryd.prog cf cc s = z) {r : Int} (hn : p0.f0.length < 4611686018427387904) (hI : I_ref06_Declared_1 p0 0 x3_1 s) (hB : foldO (fun i a x => B_ref06_Declared_1 p0 i a x) 0 x3_1 p0.f0 = some r) : Res z (postG (fun a q => Q_ref06_Declared_1 p0 a q) r) := by
  subst hcc
  exact fold_sim (I := fun i a q => I_ref06_Declared_1 p0 i a q) (Q := (fun a q => Q_ref06_Declared_1 p0 a q)) (fun i x a q r hx hi h hB => Pb_ref06_Declared_1 hx hi hn h hB) (fun a q h => Pe_ref06_Declared_1 h) hI hz hB
noncomputable def B_ref06_Declared (p0 : S_api_Config) : Option Int :=
  kb (smallK p0.f0) fun _ =>
  kb (foldO (fun i a x => B_ref06_Declared_1 p0 i a x) 0 0 p0.f0) fun z6 =>
  some z6
theorem sim_ref06_Declared {p0 : S_api_Config} {r : Int} (hB : B_ref06_Declared p0 = some r) : R 28 [(.agg [(.pv (.sl p0.f0.length (es_api_Member p0.f0)))])] [] = some ((i64 r), [], []) := by
  rw [R_eq _ _ _ fn_ref06_Declared]
  simp only [Code.fst, Code.snd, Tryd.f28, Option.getD_some]
  generalize hc1 : Code.block 0 _ = cc1
  unfold B_ref06_Declared at hB
  try simp -implicitDefEqProofs [-getElem?_pos, -Int.ofNat_lt, -Int.ofNat_le, -Int.natCast_eq_zero, -Int.natCast_pos, -List.length_eq_zero_iff, List.getElem?_cons_zero, List.getElem?_cons_succ, List.getElem?_nil]
  generalize hz1 : C Tryd.prog cf cc1 _ = z1
  obtain ⟨_, hsm, hB⟩ := kb_inv hB
  obtain ⟨z6, hB1, hB⟩ := kb_inv hB
  have hJ := P_ref06_Declared_1 (hc1.symm.trans (by kernel_rfl)) hz1 (smallK_inv hsm) (by simp -implicitDefEqProofs [-getElem?_pos, -Int.ofNat_lt, -Int.ofNat_le, -Int.natCast_eq_zero, -Int.natCast_pos, -List.length_eq_zero_iff, List.getElem?_cons_zero, List.getElem?_cons_succ, List.getElem?_nil, and_assoc, I_ref06_Declared_1, ownAt]) hB1
  obtain ⟨e1, s1, rfl, hq⟩ := hJ.open
  clear hB1
  obtain ⟨rfl, hq⟩ := hq
  simp only [Q_ref06_Declared_1] at hq
  have q6_1 := hq
  obtain rfl := Option.some.inj hB
  simp -implicitDefEqProofs [-getElem?_pos, -Int.ofNat_lt, -Int.ofNat_le, -Int.natCast_eq_zero, -Int.natCast_pos, -List.length_eq_zero_iff, List.getElem?_cons_zero, List.getElem?_cons_succ, List.getElem?_nil, q6_1]
theorem g_ref06_Declared {p0 : S_api_Config} {r : Int} (hB : B_ref06_Declared p0 = some r) : G_ref06_Declared p0 = some r := dec_of (fun a b h => by rcases a with a0_; rcases b with b0_; simp at h; simp [*]) (sim_ref06_Declared hB)
end Go.Am

/-
How trustquorumref09.Elimination runs, as a pure function.
-/
namespace Go.Am
open Go Go.Proofs
set_option linter.unusedVariables false
set_option linter.unusedSimpArgs false
set_option maxRecDepth 4000
set_option maxHeartbeats 4000000
noncomputable def B_ref09_Elimination_0 (p0 : S_api_Config) (p19_0 : (List Int)) (i8 : Nat) (x5_0 : Int) (x6_0 : (List Int)) (x7_0 : Bool) (e9 : Int) : Option (Stp (Int × (List Int) × Bool) Unit) :=
  kb (getI p0.f0 e9) fun x10 =>
  kb (G_ref02_Satisfied x10.f1 x5_0) fun y13 =>
  cnd y13 (
    some (.go (x5_0, x6_0, x7_0))) (
    kb (mustK (¬ e9 < 0)) fun _ =>
    kb (appK x6_0 ([e9] : List Int) 8) fun L17 =>
    some (.ex 2 ((sub64 x5_0 (shl64 1 e9)), L17, true)))
def I_ref09_Elimination_0 (p0 : S_api_Config) (p19_0 : (List Int)) (i8 : Nat) (x5_0 : Int) (x6_0 : (List Int)) (x7_0 : Bool) (q : St) : Prop := q (.t 19) = (.pv (.sl p19_0.length (ints p19_0))) ∧ q (.t 20) = (i64 (p19_0.length : Int)) ∧ q (.t 21) = (i64 (i8 : Int)) ∧ q (.t 5) = (i64 x5_0) ∧ (∃ v : AV, q (.t 6) = v ∧ (ownAt q v (.site 13 3 0) false 1 x6_0.length (ints x6_0) ∨ (v = .nilsl ∧ x6_0 = []))) ∧ q (.t 7) = (bl x7_0) ∧ (∃ (g : Nat), q (.t 2) = .ptr (.site 0 0 0) g 0 ∧ q (.i (.site 0 0 0)) = .box g [(.pv (.sl p0.f0.length (es_api_Member p0.f0)))])
def Q_ref09_Elimination_0 (p0 : S_api_Config) (p19_0 : (List Int)) (x5_0 : Int) (x6_0 : (List Int)) (x7_0 : Bool) (q : St) : Prop := q (.t 5) = (i64 x5_0) ∧ (∃ v : AV, q (.t 6) = v ∧ (ownAt q v (.site 13 3 0) false 1 x6_0.length (ints x6_0) ∨ (v = .nilsl ∧ x6_0 = []))) ∧ q (.t 7) = (bl x7_0) ∧ (∃ (g : Nat), q (.t 2) = .ptr (.site 0 0 0) g 0 ∧ q (.i (.site 0 0 0)) = .box g [(.pv (.sl p0.f0.length (es_api_Member p0.f0)))])
theorem Pb_ref09_Elimination_0 {p0 : S_api_Config} {p19_0 : (List Int)} {i8 : Nat} {x5_0 : Int} {x6_0 : (List Int)} {x7_0 : Bool} {e9 : Int} {q : St} {r : (Stp (Int × (List Int) × Bool) Unit)} (hx : p19_0[i8]? = some e9) (hi : i8 < p19_0.length) (hn : p19_0.length < 4611686018427387904) (hI : I_ref09_Elimination_0 p0 p19_0 i8 x5_0 x6_0 x7_0 q) (hB : B_ref09_Elimination_0 p0 p19_0 i8 x5_0 x6_0 x7_0 e9 = some r) : Res (C Tryd.prog cf (Code.fst (Code.fst (Code.snd (Code.snd (Code.fst (Code.snd (Code.fst (Code.fst (Code.snd (Code.fst (Code.snd (Code.snd (Code.snd (Code.snd ((Tryd.f49.body).getD .skip))))))))))))))) q) (postB 2 (fun a q => I_ref09_Elimination_0 p0 p19_0 (i8 + 1) a.1 a.2.1 a.2.2 q) (fun a q => Q_ref09_Elimination_0 p0 p19_0 a.1 a.2.1 a.2.2 q) (fun _ _ => False) r) := by
  have hi3 : (i8 : Int) < (p19_0.length : Int) := by omega
  have hi2 := decide_eq_true hi3
  have hi4 := idx_step hi hn
  have hi5 := ne_of_get hx
  simp only [I_ref09_Elimination_0] at hI
  obtain ⟨q1, q2, q3, q4, ⟨v5, q5, a5⟩, q6, ⟨g8, q7, q8⟩⟩ := hI
  simp only [Code.fst, Code.snd, Tryd.f49, Option.getD_some]
  unfold B_ref09_Elimination_0 at hB
  rcases a5 with ⟨ga5, rfl, oa5⟩ | ⟨rfl, ea5⟩
  · obtain ⟨x10, h11, hB⟩ := kb_inv hB
    obtain ⟨h11a, h11b, h11c, h11d⟩ := getI_inv h11
    try simp only [Int.toNat_natCast, Int.reduceToNat] at h11c
    try dsimp only at hB
    have l12 := es_api_Member_sub1 h11c
    obtain ⟨y13, k14, hB⟩ := kb_inv hB
    replace k14 := run_ref02_Satisfied k14
    try simp only [Int.cast_ofNat_Int, Int.natCast_zero, List.length_cons, List.length_nil, List.nil_append, List.cons_append, Nat.zero_add, Nat.reduceAdd, Tru.thr_mk, Tru.nodes_mk, Tru.inner_mk, ints_cons, ints_nil, encTs_cons, encTs_nil, es_api_Config_cons, es_api_Config_nil, es_api_Member_cons, es_api_Member_nil] at k14
    try dsimp only at hB
    rcases cnd_inv hB with ⟨c15, hB⟩ | ⟨c15, hB⟩
    · obtain rfl := Option.some.inj hB
      try simp -implicitDefEqProofs [-getElem?_pos, -Int.ofNat_lt, -Int.ofNat_le, -Int.natCast_eq_zero, -Int.natCast_pos, -List.length_eq_zero_iff, List.getElem?_cons_zero, List.getElem?_cons_succ, List.getElem?_nil, q1, q2, q3, q4, q5, q6, q7, q8, oa5, hx, hi2, hi3, hi4, hi5, h11a, h11b, h11c, h11d, l12, k14, c15]
      refine Res.bgo ?_
      simp -implicitDefEqProofs [-getElem?_pos, -Int.ofNat_lt, -Int.ofNat_le, -Int.natCast_eq_zero, -Int.natCast_pos, -List.length_eq_zero_iff, List.getElem?_cons_zero, List.getElem?_cons_succ, List.getElem?_nil, and_assoc, I_ref09_Elimination_0, ownAt, q1, q2, q3, q4, q5, q6, q7, q8, oa5, hx, hi2, hi3, hi4, hi5, h11a, h11b, h11c, h11d, l12, k14, c15]
    · obtain ⟨_, n16, hB⟩ := kb_inv hB
      have n16a := mustK_inv n16
      try dsimp only at hB
      obtain ⟨L17, a18, hB⟩ := kb_inv hB
      obtain ⟨a18z, a18a, a18y⟩ := appK_inv a18
      try (simp only [List.nil_append] at a18z; subst a18z)
      have a18b := appK_len a18
      have a18c := ints_appK a18
      have a18d := appK_le a18
      try simp only [Int.cast_ofNat_Int, Int.natCast_zero, List.length_cons, List.length_nil, List.nil_append, List.cons_append, Nat.zero_add, Nat.reduceAdd, Tru.thr_mk, Tru.nodes_mk, Tru.inner_mk, ints_cons, ints_nil, encTs_cons, encTs_nil, es_api_Config_cons, es_api_Config_nil, es_api_Member_cons, es_api_Member_nil, c15] at a18a a18b a18c
      try replace a18b : _ = (1 : Nat) := a18b.symm
      try dsimp only at hB
      obtain rfl := Option.some.inj hB
      try simp -implicitDefEqProofs [-getElem?_pos, -Int.ofNat_lt, -Int.ofNat_le, -Int.natCast_eq_zero, -Int.natCast_pos, -List.length_eq_zero_iff, List.getElem?_cons_zero, List.getElem?_cons_succ, List.getElem?_nil, q1, q2, q3, q4, q5, q6, q7, q8, oa5, hx, hi2, hi3, hi4, hi5, h11a, h11b, h11c, h11d, l12, k14, c15, n16a, a18a, a18b, a18c, a18d]
      refine Res.bex ?_
      simp -implicitDefEqProofs [-getElem?_pos, -Int.ofNat_lt, -Int.ofNat_le, -Int.natCast_eq_zero, -Int.natCast_pos, -List.length_eq_zero_iff, List.getElem?_cons_zero, List.getElem?_cons_succ, List.getElem?_nil, and_assoc, Q_ref09_Elimination_0, ownAt, q1, q2, q3, q4, q5, q6, q7, q8, oa5, hx, hi2, hi3, hi4, hi5, h11a, h11b, h11c, h11d, l12, k14, c15, n16a, a18a, a18b, a18c, a18d]
  · try subst ea5
    obtain ⟨x10, h11, hB⟩ := kb_inv hB
    obtain ⟨h11a, h11b, h11c, h11d⟩ := getI_inv h11
    try simp only [Int.toNat_natCast, Int.reduceToNat] at h11c
    try dsimp only at hB
    have l12 := es_api_Member_sub1 h11c
    obtain ⟨y13, k14, hB⟩ := kb_inv hB
    replace k14 := run_ref02_Satisfied k14
    try simp only [Int.cast_ofNat_Int, Int.natCast_zero, List.length_cons, List.length_nil, List.nil_append, List.cons_append, Nat.zero_add, Nat.reduceAdd, Tru.thr_mk, Tru.nodes_mk, Tru.inner_mk, ints_cons, ints_nil, encTs_cons, encTs_nil, es_api_Config_cons, es_api_Config_nil, es_api_Member_cons, es_api_Member_nil] at k14
    try dsimp only at hB
    rcases cnd_inv hB with ⟨c15, hB⟩ | ⟨c15, hB⟩
    · obtain rfl := Option.some.inj hB
      try simp -implicitDefEqProofs [-getElem?_pos, -Int.ofNat_lt, -Int.ofNat_le, -Int.natCast_eq_zero, -Int.natCast_pos, -List.length_eq_zero_iff, List.getElem?_cons_zero, List.getElem?_cons_succ, List.getElem?_nil, q1, q2, q3, q4, q5, q6, q7, q8, hx, hi2, hi3, hi4, hi5, h11a, h11b, h11c, h11d, l12, k14, c15]
      refine Res.bgo ?_
      simp -implicitDefEqProofs [-getElem?_pos, -Int.ofNat_lt, -Int.ofNat_le, -Int.natCast_eq_zero, -Int.natCast_pos, -List.length_eq_zero_iff, List.getElem?_cons_zero, List.getElem?_cons_succ, List.getElem?_nil, and_assoc, I_ref09_Elimination_0, ownAt, q1, q2, q3, q4, q5, q6, q7, q8, hx, hi2, hi3, hi4, hi5, h11a, h11b, h11c, h11d, l12, k14, c15]
    · obtain ⟨_, n16, hB⟩ := kb_inv hB
      have n16a := mustK_inv n16
      try dsimp only at hB
      obtain ⟨L17, a18, hB⟩ := kb_inv hB
      obtain ⟨a18z, a18a, a18y⟩ := appK_inv a18
      simp only [List.nil_append] at a18z
      subst a18z
      try dsimp only at hB
      obtain rfl := Option.some.inj hB
      try simp -implicitDefEqProofs [-getElem?_pos, -Int.ofNat_lt, -Int.ofNat_le, -Int.natCast_eq_zero, -Int.natCast_pos, -List.length_eq_zero_iff, List.getElem?_cons_zero, List.getElem?_cons_succ, List.getElem?_nil, q1, q2, q3, q4, q5, q6, q7, q8, hx, hi2, hi3, hi4, hi5, h11a, h11b, h11c, h11d, l12, k14, c15, n16a]
      refine Res.bex ?_
      simp -implicitDefEqProofs [-getElem?_pos, -Int.ofNat_lt, -Int.ofNat_le, -Int.natCast_eq_zero, -Int.natCast_pos, -List.length_eq_zero_iff, List.getElem?_cons_zero, List.getElem?_cons_succ, List.getElem?_nil, and_assoc, Q_ref09_Elimination_0, ownAt, q1, q2, q3, q4, q5, q6, q7, q8, hx, hi2, hi3, hi4, hi5, h11a, h11b, h11c, h11d, l12, k14, c15, n16a]
theorem Pe_ref09_Elimination_0 {p0 : S_api_Config} {p19_0 : (List Int)} {x5_0 : Int} {x6_0 : (List Int)} {x7_0 : Bool} {q : St} (hI : I_ref09_Elimination_0 p0 p19_0 p19_0.length x5_0 x6_0 x7_0 q) : Res (C Tryd.prog cf (Code.fst (Code.fst (Code.snd (Code.snd (Code.fst (Code.snd (Code.fst (Code.fst (Code.snd (Code.fst (Code.snd (Code.snd (Code.snd (Code.snd ((Tryd.f49.body).getD .skip))))))))))))))) q) fun e q' => e = .exit 2 ∧ Q_ref09_Elimination_0 p0 p19_0 x5_0 x6_0 x7_0 q' := by
  simp only [I_ref09_Elimination_0] at hI
  obtain ⟨q1, q2, q3, q4, ⟨v5, q5, a5⟩, q6, ⟨g8, q7, q8⟩⟩ := hI
  simp only [Code.fst, Code.snd, Tryd.f49, Option.getD_some]
  rcases a5 with ⟨ga5, rfl, oa5⟩ | ⟨rfl, ea5⟩
  · simp -implicitDefEqProofs [-getElem?_pos, -Int.ofNat_lt, -Int.ofNat_le, -Int.natCast_eq_zero, -Int.natCast_pos, -List.length_eq_zero_iff, List.getElem?_cons_zero, List.getElem?_cons_succ, List.getElem?_nil, q1, q2, q3, q4, q5, q6, q7, q8, oa5]
    refine Res.x ?_
    simp -implicitDefEqProofs [-getElem?_pos, -Int.ofNat_lt, -Int.ofNat_le, -Int.natCast_eq_zero, -Int.natCast_pos, -List.length_eq_zero_iff, List.getElem?_cons_zero, List.getElem?_cons_succ, List.getElem?_nil, and_assoc, Q_ref09_Elimination_0, ownAt, q1, q2, q3, q4, q5, q6, q7, q8, oa5]
  · try subst ea5
    simp -implicitDefEqProofs [-getElem?_pos, -Int.ofNat_lt, -Int.ofNat_le, -Int.natCast_eq_zero, -Int.natCast_pos, -List.length_eq_zero_iff, List.getElem?_cons_zero, List.getElem?_cons_succ, List.getElem?_nil, q1, q2, q3, q4, q5, q6, q7, q8]
    refine Res.x ?_
    simp -implicitDefEqProofs [-getElem?_pos, -Int.ofNat_lt, -Int.ofNat_le, -Int.natCast_eq_zero, -Int.natCast_pos, -List.length_eq_zero_iff, List.getElem?_cons_zero, List.getElem?_cons_succ, List.getElem?_nil, and_assoc, Q_ref09_Elimination_0, ownAt, q1, q2, q3, q4, q5, q6, q7, q8]
theorem P_ref09_Elimination_0 {p0 : S_api_Config} {p19_0 : (List Int)} {x5_0 : Int} {x6_0 : (List Int)} {x7_0 : Bool} {cc : Code} (hcc : cc = .block 2 (.loop (Code.fst (Code.fst (Code.snd (Code.snd (Code.fst (Code.snd (Code.fst (Code.fst (Code.snd (Code.fst (Code.snd (Code.snd (Code.snd (Code.snd ((Tryd.f49.body).getD .skip))))))))))))))))) {s : St} {z : Option (Ex × St)} (hz : C Tryd.prog cf cc s = z) {r : (Stp (Int × (List Int) × Bool) Unit)} (hn : p19_0.length < 4611686018427387904) (hI : I_ref09_Elimination_0 p0 p19_0 0 x5_0 x6_0 x7_0 s) (hB : loopL (fun i a x => B_ref09_Elimination_0 p0 p19_0 i a.1 a.2.1 a.2.2 x) 0 (x5_0, x6_0, x7_0) p19_0 = some r) : Res z (postS (fun a q => Q_ref09_Elimination_0 p0 p19_0 a.1 a.2.1 a.2.2 q) (fun _ _ => False) r) := by
  subst hcc
  exact loopL_sim (I := fun i a q => I_ref09_Elimination_0 p0 p19_0 i a.1 a.2.1 a.2.2 q) (Q := (fun a q => Q_ref09_Elimination_0 p0 p19_0 a.1 a.2.1 a.2.2 q)) (QR := (fun _ _ => False)) (fun i x a q r hx hi h hB => Pb_ref09_Elimination_0 hx hi hn h hB) (fun a q h => Pe_ref09_Elimination_0 h) hI hz hB
noncomputable def B_ref09_Elimination_1 (p0 : S_api_Config) (x5_1 : Int) (x6_1 : (List Int)) (x7_1 : Bool) : Option (Stp (Int × (List Int) × Bool) Unit) :=
  cnd x7_1 (
    kb (G_ref01_Nodes x5_1) fun y7 =>
    kb (smallK y7) fun _ =>
    kb (loopL (fun i a x => B_ref09_Elimination_0 p0 y7 i a.1 a.2.1 a.2.2 x) 0 (x5_1, x6_1, false) y7) fun o => stpK o (fun z19 =>
      some (.go (z19.1, z19.2.1, z19.2.2))) (fun z19r =>
      none)) (
    some (.ex 0 (x5_1, x6_1, x7_1)))
def I_ref09_Elimination_1 (p0 : S_api_Config) (x5_1 : Int) (x6_1 : (List Int)) (x7_1 : Bool) (q : St) : Prop := q (.t 5) = (i64 x5_1) ∧ (∃ v : AV, q (.t 6) = v ∧ (ownAt q v (.site 13 3 0) false 1 x6_1.length (ints x6_1) ∨ (v = .nilsl ∧ x6_1 = []))) ∧ q (.t 7) = (bl x7_1) ∧ (∃ (g : Nat), q (.t 2) = .ptr (.site 0 0 0) g 0 ∧ q (.i (.site 0 0 0)) = .box g [(.pv (.sl p0.f0.length (es_api_Member p0.f0)))])
def Q_ref09_Elimination_1 (p0 : S_api_Config) (x5_1 : Int) (x6_1 : (List Int)) (x7_1 : Bool) (q : St) : Prop := (∃ v : AV, q (.t 6) = v ∧ (ownAt q v (.site 13 3 0) false 1 x6_1.length (ints x6_1) ∨ (v = .nilsl ∧ x6_1 = [])))
theorem Pb_ref09_Elimination_1 {p0 : S_api_Config} {x5_1 : Int} {x6_1 : (List Int)} {x7_1 : Bool} {q : St} {r : (Stp (Int × (List Int) × Bool) Unit)} (hI : I_ref09_Elimination_1 p0 x5_1 x6_1 x7_1 q) (hB : B_ref09_Elimination_1 p0 x5_1 x6_1 x7_1 = some r) : Res (C Tryd.prog cf (Code.fst (Code.fst (Code.snd (Code.fst (Code.snd (Code.snd (Code.snd (Code.snd ((Tryd.f49.body).getD .skip))))))))) q) (postB 0 (fun a q => I_ref09_Elimination_1 p0 a.1 a.2.1 a.2.2 q) (fun a q => Q_ref09_Elimination_1 p0 a.1 a.2.1 a.2.2 q) (fun _ _ => False) r) := by
  simp only [I_ref09_Elimination_1] at hI
  obtain ⟨q1, ⟨v2, q2, a2⟩, q3, ⟨g5, q4, q5⟩⟩ := hI
  simp only [Code.fst, Code.snd, Tryd.f49, Option.getD_some]
  generalize hc0 : Code.block 2 _ = cc0
  unfold B_ref09_Elimination_1 at hB
  rcases a2 with ⟨ga2, rfl, oa2⟩ | ⟨rfl, ea2⟩
  · rcases cnd_inv hB with ⟨c6, hB⟩ | ⟨c6, hB⟩
    · obtain ⟨y7, k8, hB⟩ := kb_inv hB
      replace k8 := run_ref01_Nodes k8
      try simp only [Int.cast_ofNat_Int, Int.natCast_zero, List.length_cons, List.length_nil, List.nil_append, List.cons_append, Nat.zero_add, Nat.reduceAdd, Tru.thr_mk, Tru.nodes_mk, Tru.inner_mk, ints_cons, ints_nil, encTs_cons, encTs_nil, es_api_Config_cons, es_api_Config_nil, es_api_Member_cons, es_api_Member_nil, c6] at k8
      try dsimp only at hB
      try simp -implicitDefEqProofs [-getElem?_pos, -Int.ofNat_lt, -Int.ofNat_le, -Int.natCast_eq_zero, -Int.natCast_pos, -List.length_eq_zero_iff, List.getElem?_cons_zero, List.getElem?_cons_succ, List.getElem?_nil, q1, q2, q3, q4, q5, oa2, c6, k8]
      generalize hz0 : C Tryd.prog cf cc0 _ = z0
      obtain ⟨_, hsm, hB⟩ := kb_inv hB
      obtain ⟨o, hB1, hB⟩ := kb_inv hB
      have hJ := P_ref09_Elimination_0 (hc0.symm.trans (by kernel_rfl)) hz0 (smallK_inv hsm) (by simp -implicitDefEqProofs [-getElem?_pos, -Int.ofNat_lt, -Int.ofNat_le, -Int.natCast_eq_zero, -Int.natCast_pos, -List.length_eq_zero_iff, List.getElem?_cons_zero, List.getElem?_cons_succ, List.getElem?_nil, and_assoc, I_ref09_Elimination_0, ownAt, q1, q2, q3, q4, q5, oa2, c6, k8]) hB1
      obtain ⟨e0, s0, rfl, hq⟩ := hJ.open
      clear hB1
      rcases o with z19 | ⟨_, _⟩ | z19r
      · simp only [stpK_go] at hB
        obtain ⟨rfl, hq⟩ := hq
        obtain ⟨u0_0, u0_1, u0_2⟩ := z19
        dsimp only at hB hq
        simp only [Q_ref09_Elimination_0] at hq
        obtain ⟨q19_1, ⟨v19_2, q19_2, a19_2⟩, q19_3, ⟨g19_5, q19_4, q19_5⟩⟩ := hq
        rcases a19_2 with ⟨ga19_2, rfl, oa19_2⟩ | ⟨rfl, ea19_2⟩
        · obtain rfl := Option.some.inj hB
          try simp -implicitDefEqProofs [-getElem?_pos, -Int.ofNat_lt, -Int.ofNat_le, -Int.natCast_eq_zero, -Int.natCast_pos, -List.length_eq_zero_iff, List.getElem?_cons_zero, List.getElem?_cons_succ, List.getElem?_nil, q19_1, q19_2, q19_3, q19_4, q19_5, oa19_2, c6, k8]
          refine Res.bgo ?_
          simp -implicitDefEqProofs [-getElem?_pos, -Int.ofNat_lt, -Int.ofNat_le, -Int.natCast_eq_zero, -Int.natCast_pos, -List.length_eq_zero_iff, List.getElem?_cons_zero, List.getElem?_cons_succ, List.getElem?_nil, and_assoc, I_ref09_Elimination_1, ownAt, q19_1, q19_2, q19_3, q19_4, q19_5, oa19_2, c6, k8]
        · try subst ea19_2
          obtain rfl := Option.some.inj hB
          try simp -implicitDefEqProofs [-getElem?_pos, -Int.ofNat_lt, -Int.ofNat_le, -Int.natCast_eq_zero, -Int.natCast_pos, -List.length_eq_zero_iff, List.getElem?_cons_zero, List.getElem?_cons_succ, List.getElem?_nil, q19_1, q19_2, q19_3, q19_4, q19_5, c6, k8]
          refine Res.bgo ?_
          simp -implicitDefEqProofs [-getElem?_pos, -Int.ofNat_lt, -Int.ofNat_le, -Int.natCast_eq_zero, -Int.natCast_pos, -List.length_eq_zero_iff, List.getElem?_cons_zero, List.getElem?_cons_succ, List.getElem?_nil, and_assoc, I_ref09_Elimination_1, ownAt, q19_1, q19_2, q19_3, q19_4, q19_5, c6, k8]
      · exact hq.elim
      · cases hB
    · obtain rfl := Option.some.inj hB
      try simp -implicitDefEqProofs [-getElem?_pos, -Int.ofNat_lt, -Int.ofNat_le, -Int.natCast_eq_zero, -Int.natCast_pos, -List.length_eq_zero_iff, List.getElem?_cons_zero, List.getElem?_cons_succ, List.getElem?_nil, q1, q2, q3, q4, q5, oa2, c6]
      refine Res.bex ?_
      simp -implicitDefEqProofs [-getElem?_pos, -Int.ofNat_lt, -Int.ofNat_le, -Int.natCast_eq_zero, -Int.natCast_pos, -List.length_eq_zero_iff, List.getElem?_cons_zero, List.getElem?_cons_succ, List.getElem?_nil, and_assoc, Q_ref09_Elimination_1, ownAt, q1, q2, q3, q4, q5, oa2, c6]
  · try subst ea2
    rcases cnd_inv hB with ⟨c6, hB⟩ | ⟨c6, hB⟩
    · obtain ⟨y7, k8, hB⟩ := kb_inv hB
      replace k8 := run_ref01_Nodes k8
      try simp only [Int.cast_ofNat_Int, Int.natCast_zero, List.length_cons, List.length_nil, List.nil_append, List.cons_append, Nat.zero_add, Nat.reduceAdd, Tru.thr_mk, Tru.nodes_mk, Tru.inner_mk, ints_cons, ints_nil, encTs_cons, encTs_nil, es_api_Config_cons, es_api_Config_nil, es_api_Member_cons, es_api_Member_nil, c6] at k8
      try dsimp only at hB
      try simp -implicitDefEqProofs [-getElem?_pos, -Int.ofNat_lt, -Int.ofNat_le, -Int.natCast_eq_zero, -Int.natCast_pos, -List.length_eq_zero_iff, List.getElem?_cons_zero, List.getElem?_cons_succ, List.getElem?_nil, q1, q2, q3, q4, q5, c6, k8]
      generalize hz0 : C Tryd.prog cf cc0 _ = z0
      obtain ⟨_, hsm, hB⟩ := kb_inv hB
      obtain ⟨o, hB1, hB⟩ := kb_inv hB
      have hJ := P_ref09_Elimination_0 (hc0.symm.trans (by kernel_rfl)) hz0 (smallK_inv hsm) (by simp -implicitDefEqProofs [-getElem?_pos, -Int.ofNat_lt, -Int.ofNat_le, -Int.natCast_eq_zero, -Int.natCast_pos, -List.length_eq_zero_iff, List.getElem?_cons_zero, List.getElem?_cons_succ, List.getElem?_nil, and_assoc, I_ref09_Elimination_0, ownAt, q1, q2, q3, q4, q5, c6, k8]) hB1
      obtain ⟨e0, s0, rfl, hq⟩ := hJ.open
      clear hB1
      rcases o with z19 | ⟨_, _⟩ | z19r
      · simp only [stpK_go] at hB
        obtain ⟨rfl, hq⟩ := hq
        obtain ⟨u0_0, u0_1, u0_2⟩ := z19
        dsimp only at hB hq
        simp only [Q_ref09_Elimination_0] at hq
        obtain ⟨q19_1, ⟨v19_2, q19_2, a19_2⟩, q19_3, ⟨g19_5, q19_4, q19_5⟩⟩ := hq
        rcases a19_2 with ⟨ga19_2, rfl, oa19_2⟩ | ⟨rfl, ea19_2⟩
        · obtain rfl := Option.some.inj hB
          try simp -implicitDefEqProofs [-getElem?_pos, -Int.ofNat_lt, -Int.ofNat_le, -Int.natCast_eq_zero, -Int.natCast_pos, -List.length_eq_zero_iff, List.getElem?_cons_zero, List.getElem?_cons_succ, List.getElem?_nil, q19_1, q19_2, q19_3, q19_4, q19_5, oa19_2, c6, k8]
          refine Res.bgo ?_
          simp -implicitDefEqProofs [-getElem?_pos, -Int.ofNat_lt, -Int.ofNat_le, -Int.natCast_eq_zero, -Int.natCast_pos, -List.length_eq_zero_iff, List.getElem?_cons_zero, List.getElem?_cons_succ, List.getElem?_nil, and_assoc, I_ref09_Elimination_1, ownAt, q19_1, q19_2, q19_3, q19_4, q19_5, oa19_2, c6, k8]
        · try subst ea19_2
          obtain rfl := Option.some.inj hB
          try simp -implicitDefEqProofs [-getElem?_pos, -Int.ofNat_lt, -Int.ofNat_le, -Int.natCast_eq_zero, -Int.natCast_pos, -List.length_eq_zero_iff, List.getElem?_cons_zero, List.getElem?_cons_succ, List.getElem?_nil, q19_1, q19_2, q19_3, q19_4, q19_5, c6, k8]
          refine Res.bgo ?_
          simp -implicitDefEqProofs [-getElem?_pos, -Int.ofNat_lt, -Int.ofNat_le, -Int.natCast_eq_zero, -Int.natCast_pos, -List.length_eq_zero_iff, List.getElem?_cons_zero, List.getElem?_cons_succ, List.getElem?_nil, and_assoc, I_ref09_Elimination_1, ownAt, q19_1, q19_2, q19_3, q19_4, q19_5, c6, k8]
      · exact hq.elim
      · cases hB
    · obtain rfl := Option.some.inj hB
      try simp -implicitDefEqProofs [-getElem?_pos, -Int.ofNat_lt, -Int.ofNat_le, -Int.natCast_eq_zero, -Int.natCast_pos, -List.length_eq_zero_iff, List.getElem?_cons_zero, List.getElem?_cons_succ, List.getElem?_nil, q1, q2, q3, q4, q5, c6]
      refine Res.bex ?_
      simp -implicitDefEqProofs [-getElem?_pos, -Int.ofNat_lt, -Int.ofNat_le, -Int.natCast_eq_zero, -Int.natCast_pos, -List.length_eq_zero_iff, List.getElem?_cons_zero, List.getElem?_cons_succ, List.getElem?_nil, and_assoc, Q_ref09_Elimination_1, ownAt, q1, q2, q3, q4, q5, c6]
theorem P_ref09_Elimination_1 {p0 : S_api_Config} {x5_1 : Int} {x6_1 : (List Int)} {x7_1 : Bool} {cc : Code} (hcc : cc = .block 0 (.loop (Code.fst (Code.fst (Code.snd (Code.fst (Code.snd (Code.snd (Code.snd (Code.snd ((Tryd.f49.body).getD .skip))))))))))) {s : St} {z : Option (Ex × St)} (hz : C Tryd.prog cf cc s = z) {r : (Stp (Int × (List Int) × Bool) Unit)} (hI : I_ref09_Elimination_1 p0 x5_1 x6_1 x7_1 s) (hB : iterW (fun a => B_ref09_Elimination_1 p0 a.1 a.2.1 a.2.2) (x5_1, x6_1, x7_1) = some r) : Res z (postS (fun a q => Q_ref09_Elimination_1 p0 a.1 a.2.1 a.2.2 q) (fun _ _ => False) r) := by
  subst hcc
  exact while_sim (I := fun a q => I_ref09_Elimination_1 p0 a.1 a.2.1 a.2.2 q) (Q := (fun a q => Q_ref09_Elimination_1 p0 a.1 a.2.1 a.2.2 q)) (QR := (fun _ _ => False)) (fun a q r h hB => Pb_ref09_Elimination_1 h hB) hI hz hB
noncomputable def B_ref09_Elimination (p0 : S_api_Config) (p1 : Int) : Option (List Int) :=
  kb (G_ref01_Valid p1) fun y1 =>
  cnd y1 (
    kb (G_ref06_Declared p0) fun y4 =>
    kb (iterW (fun a => B_ref09_Elimination_1 p0 a.1 a.2.1 a.2.2) ((and64 p1 y4), ([] : (List Int)), true)) fun o => stpK o (fun z20 =>
      some z20.2.1) (fun z20r =>
      none)) (
    some ([] : (List Int)))
theorem sim_ref09_Elimination {p0 : S_api_Config} {p1 : Int} {r : (List Int)} (hB : B_ref09_Elimination p0 p1 = some r) : R 49 [(.agg [(.pv (.sl p0.f0.length (es_api_Member p0.f0)))]), (i64 p1)] [] = some ((.pv (.sl r.length (ints r))), [], []) := by
  rw [R_eq _ _ _ fn_ref09_Elimination]
  simp only [Code.fst, Code.snd, Tryd.f49, Option.getD_some]
  generalize hc1 : Code.block 0 _ = cc1
  unfold B_ref09_Elimination at hB
  obtain ⟨y1, k2, hB⟩ := kb_inv hB
  replace k2 := run_ref01_Valid k2
  try simp only [Int.cast_ofNat_Int, Int.natCast_zero, List.length_cons, List.length_nil, List.nil_append, List.cons_append, Nat.zero_add, Nat.reduceAdd, Tru.thr_mk, Tru.nodes_mk, Tru.inner_mk, ints_cons, ints_nil, encTs_cons, encTs_nil, es_api_Config_cons, es_api_Config_nil, es_api_Member_cons, es_api_Member_nil] at k2
  try dsimp only at hB
  rcases cnd_inv hB with ⟨c3, hB⟩ | ⟨c3, hB⟩
  · obtain ⟨y4, k5, hB⟩ := kb_inv hB
    replace k5 := run_ref06_Declared k5
    try simp only [Int.cast_ofNat_Int, Int.natCast_zero, List.length_cons, List.length_nil, List.nil_append, List.cons_append, Nat.zero_add, Nat.reduceAdd, Tru.thr_mk, Tru.nodes_mk, Tru.inner_mk, ints_cons, ints_nil, encTs_cons, encTs_nil, es_api_Config_cons, es_api_Config_nil, es_api_Member_cons, es_api_Member_nil, c3] at k5
    try dsimp only at hB
    try simp -implicitDefEqProofs [-getElem?_pos, -Int.ofNat_lt, -Int.ofNat_le, -Int.natCast_eq_zero, -Int.natCast_pos, -List.length_eq_zero_iff, List.getElem?_cons_zero, List.getElem?_cons_succ, List.getElem?_nil, k2, c3, k5]
    generalize hz1 : C Tryd.prog cf cc1 _ = z1
    obtain ⟨o, hB1, hB⟩ := kb_inv hB
    have hJ := P_ref09_Elimination_1 (hc1.symm.trans (by kernel_rfl)) hz1 (by simp -implicitDefEqProofs [-getElem?_pos, -Int.ofNat_lt, -Int.ofNat_le, -Int.natCast_eq_zero, -Int.natCast_pos, -List.length_eq_zero_iff, List.getElem?_cons_zero, List.getElem?_cons_succ, List.getElem?_nil, and_assoc, I_ref09_Elimination_1, ownAt, k2, c3, k5]) hB1
    obtain ⟨e1, s1, rfl, hq⟩ := hJ.open
    clear hB1
    rcases o with z20 | ⟨_, _⟩ | z20r
    · simp only [stpK_go] at hB
      obtain ⟨rfl, hq⟩ := hq
      obtain ⟨u1_0, u1_1, u1_2⟩ := z20
      dsimp only at hB hq
      simp only [Q_ref09_Elimination_1] at hq
      obtain ⟨v20_1, q20_1, a20_1⟩ := hq
      rcases a20_1 with ⟨ga20_1, rfl, oa20_1⟩ | ⟨rfl, ea20_1⟩
      · obtain rfl := Option.some.inj hB
        simp -implicitDefEqProofs [-getElem?_pos, -Int.ofNat_lt, -Int.ofNat_le, -Int.natCast_eq_zero, -Int.natCast_pos, -List.length_eq_zero_iff, List.getElem?_cons_zero, List.getElem?_cons_succ, List.getElem?_nil, q20_1, oa20_1, k2, c3, k5]
      · try subst ea20_1
        obtain rfl := Option.some.inj hB
        simp -implicitDefEqProofs [-getElem?_pos, -Int.ofNat_lt, -Int.ofNat_le, -Int.natCast_eq_zero, -Int.natCast_pos, -List.length_eq_zero_iff, List.getElem?_cons_zero, List.getElem?_cons_succ, List.getElem?_nil, q20_1, k2, c3, k5]
    · exact hq.elim
    · cases hB
  · obtain rfl := Option.some.inj hB
    simp -implicitDefEqProofs [-getElem?_pos, -Int.ofNat_lt, -Int.ofNat_le, -Int.natCast_eq_zero, -Int.natCast_pos, -List.length_eq_zero_iff, List.getElem?_cons_zero, List.getElem?_cons_succ, List.getElem?_nil, k2, c3]
theorem g_ref09_Elimination {p0 : S_api_Config} {p1 : Int} {r : (List Int)} (hB : B_ref09_Elimination p0 p1 = some r) : G_ref09_Elimination p0 p1 = some r := dec_of (fun a b h => by rcases a with a0_; rcases b with b0_; simp at h; simp [*]) (sim_ref09_Elimination hB)
end Go.Am

/-
How trustquorumref09.Greatest runs, as a pure function.
-/
namespace Go.Am
open Go Go.Proofs
set_option linter.unusedVariables false
set_option linter.unusedSimpArgs false
set_option maxRecDepth 4000
set_option maxHeartbeats 4000000
noncomputable def B_ref09_Greatest_0 (y6 : (List Int)) (i8 : Nat) (x5_0 : Int) (e9 : Int) : Option Int :=
  kb (mustK (¬ e9 < 0)) fun _ =>
  some (sub64 x5_0 (shl64 1 e9))
def I_ref09_Greatest_0 (y6 : (List Int)) (i8 : Nat) (x5_0 : Int) (q : St) : Prop := q (.t 17) = (.pv (.sl y6.length (ints y6))) ∧ q (.t 18) = (i64 (y6.length : Int)) ∧ q (.t 19) = (i64 (i8 : Int)) ∧ q (.t 5) = (i64 x5_0)
def Q_ref09_Greatest_0 (y6 : (List Int)) (x5_0 : Int) (q : St) : Prop := q (.t 5) = (i64 x5_0)
theorem Pb_ref09_Greatest_0 {y6 : (List Int)} {i8 : Nat} {x5_0 : Int} {e9 : Int} {q : St} {r : Int} (hx : y6[i8]? = some e9) (hi : i8 < y6.length) (hn : y6.length < 4611686018427387904) (hI : I_ref09_Greatest_0 y6 i8 x5_0 q) (hB : B_ref09_Greatest_0 y6 i8 x5_0 e9 = some r) : Res (C Tryd.prog cf (Code.fst (Code.fst (Code.snd (Code.fst (Code.snd (Code.snd (Code.snd ((Tryd.f29.body).getD .skip)))))))) q) (postG (fun a q => I_ref09_Greatest_0 y6 (i8 + 1) a q) r) := by
  have hi3 : (i8 : Int) < (y6.length : Int) := by omega
  have hi2 := decide_eq_true hi3
  have hi4 := idx_step hi hn
  have hi5 := ne_of_get hx
  simp only [I_ref09_Greatest_0] at hI
  obtain ⟨q1, q2, q3, q4⟩ := hI
  simp only [Code.fst, Code.snd, Tryd.f29, Option.getD_some]
  unfold B_ref09_Greatest_0 at hB
  obtain ⟨_, n9, hB⟩ := kb_inv hB
  have n9a := mustK_inv n9
  try dsimp only at hB
  obtain rfl := Option.some.inj hB
  try simp -implicitDefEqProofs [-getElem?_pos, -Int.ofNat_lt, -Int.ofNat_le, -Int.natCast_eq_zero, -Int.natCast_pos, -List.length_eq_zero_iff, List.getElem?_cons_zero, List.getElem?_cons_succ, List.getElem?_nil, q1, q2, q3, q4, hx, hi2, hi3, hi4, hi5, n9a]
  refine Res.g ?_
  simp -implicitDefEqProofs [-getElem?_pos, -Int.ofNat_lt, -Int.ofNat_le, -Int.natCast_eq_zero, -Int.natCast_pos, -List.length_eq_zero_iff, List.getElem?_cons_zero, List.getElem?_cons_succ, List.getElem?_nil, and_assoc, I_ref09_Greatest_0, ownAt, q1, q2, q3, q4, hx, hi2, hi3, hi4, hi5, n9a]
theorem Pe_ref09_Greatest_0 {y6 : (List Int)} {x5_0 : Int} {q : St} (hI : I_ref09_Greatest_0 y6 y6.length x5_0 q) : Res (C Tryd.prog cf (Code.fst (Code.fst (Code.snd (Code.fst (Code.snd (Code.snd (Code.snd ((Tryd.f29.body).getD .skip)))))))) q) fun e q' => e = .exit 0 ∧ Q_ref09_Greatest_0 y6 x5_0 q' := by
  simp only [I_ref09_Greatest_0] at hI
  obtain ⟨q1, q2, q3, q4⟩ := hI
  simp only [Code.fst, Code.snd, Tryd.f29, Option.getD_some]
  simp -implicitDefEqProofs [-getElem?_pos, -Int.ofNat_lt, -Int.ofNat_le, -Int.natCast_eq_zero, -Int.natCast_pos, -List.length_eq_zero_iff, List.getElem?_cons_zero, List.getElem?_cons_succ, List.getElem?_nil, q1, q2, q3, q4]
  refine Res.x ?_
  simp -implicitDefEqProofs [-getElem?_pos, -Int.ofNat_lt, -Int.ofNat_le, -Int.natCast_eq_zero, -Int.natCast_pos, -List.length_eq_zero_iff, List.getElem?_cons_zero, List.getElem?_cons_succ, List.getElem?_nil, and_assoc, Q_ref09_Greatest_0, ownAt, q1, q2, q3, q4]
theorem P_ref09_Greatest_0 {y6 : (List Int)} {x5_0 : Int} {cc : Code} (hcc : cc = .block 0 (.loop (Code.fst (Code.fst (Code.snd (Code.fst (Code.snd (Code.snd (Code.snd ((Tryd.f29.body).getD .skip)))))))))) {s : St} {z : Option (Ex × St)} (hz : C Tryd.prog cf cc s = z) {r : Int} (hn : y6.length < 4611686018427387904) (hI : I_ref09_Greatest_0 y6 0 x5_0 s) (hB : foldO (fun i a x => B_ref09_Greatest_0 y6 i a x) 0 x5_0 y6 = some r) : Res z (postG (fun a q => Q_ref09_Greatest_0 y6 a q) r) := by
  subst hcc
  exact fold_sim (I := fun i a q => I_ref09_Greatest_0 y6 i a q) (Q := (fun a q => Q_ref09_Greatest_0 y6 a q)) (fun i x a q r hx hi h hB => Pb_ref09_Greatest_0 hx hi hn h hB) (fun a q h => Pe_ref09_Greatest_0 h) hI hz hB
noncomputable def B_ref09_Greatest (p0 : S_api_Config) (p1 : Int) : Option Int :=
  kb (G_ref01_Valid p1) fun y1 =>
  cnd y1 (
    kb (G_ref06_Declared p0) fun y4 =>
    kb (G_ref09_Elimination p0 p1) fun y6 =>
    kb (smallK y6) fun _ =>
    kb (foldO (fun i a x => B_ref09_Greatest_0 y6 i a x) 0 (and64 p1 y4) y6) fun z10 =>
    some z10) (
    some 0)
theorem sim_ref09_Greatest {p0 : S_api_Config} {p1 : Int} {r : Int} (hB : B_ref09_Greatest p0 p1 = some r) : R 29 [(.agg [(.pv (.sl p0.f0.length (es_api_Member p0.f0)))]), (i64 p1)] [] = some ((i64 r), [], []) := by
  rw [R_eq _ _ _ fn_ref09_Greatest]
  simp only [Code.fst, Code.snd, Tryd.f29, Option.getD_some]
  generalize hc0 : Code.block 0 _ = cc0
  unfold B_ref09_Greatest at hB
  obtain ⟨y1, k2, hB⟩ := kb_inv hB
  replace k2 := run_ref01_Valid k2
  try simp only [Int.cast_ofNat_Int, Int.natCast_zero, List.length_cons, List.length_nil, List.nil_append, List.cons_append, Nat.zero_add, Nat.reduceAdd, Tru.thr_mk, Tru.nodes_mk, Tru.inner_mk, ints_cons, ints_nil, encTs_cons, encTs_nil, es_api_Config_cons, es_api_Config_nil, es_api_Member_cons, es_api_Member_nil] at k2
  try dsimp only at hB
  rcases cnd_inv hB with ⟨c3, hB⟩ | ⟨c3, hB⟩
  · obtain ⟨y4, k5, hB⟩ := kb_inv hB
    replace k5 := run_ref06_Declared k5
    try simp only [Int.cast_ofNat_Int, Int.natCast_zero, List.length_cons, List.length_nil, List.nil_append, List.cons_append, Nat.zero_add, Nat.reduceAdd, Tru.thr_mk, Tru.nodes_mk, Tru.inner_mk, ints_cons, ints_nil, encTs_cons, encTs_nil, es_api_Config_cons, es_api_Config_nil, es_api_Member_cons, es_api_Member_nil, c3] at k5
    try dsimp only at hB
    obtain ⟨y6, k7, hB⟩ := kb_inv hB
    replace k7 := run_ref09_Elimination k7
    try simp only [Int.cast_ofNat_Int, Int.natCast_zero, List.length_cons, List.length_nil, List.nil_append, List.cons_append, Nat.zero_add, Nat.reduceAdd, Tru.thr_mk, Tru.nodes_mk, Tru.inner_mk, ints_cons, ints_nil, encTs_cons, encTs_nil, es_api_Config_cons, es_api_Config_nil, es_api_Member_cons, es_api_Member_nil, c3] at k7
    try dsimp only at hB
    try simp -implicitDefEqProofs [-getElem?_pos, -Int.ofNat_lt, -Int.ofNat_le, -Int.natCast_eq_zero, -Int.natCast_pos, -List.length_eq_zero_iff, List.getElem?_cons_zero, List.getElem?_cons_succ, List.getElem?_nil, k2, c3, k5, k7]
    generalize hz0 : C Tryd.prog cf cc0 _ = z0
    obtain ⟨_, hsm, hB⟩ := kb_inv hB
    obtain ⟨z10, hB1, hB⟩ := kb_inv hB
    have hJ := P_ref09_Greatest_0 (hc0.symm.trans (by kernel_rfl)) hz0 (smallK_inv hsm) (by simp -implicitDefEqProofs [-getElem?_pos, -Int.ofNat_lt, -Int.ofNat_le, -Int.natCast_eq_zero, -Int.natCast_pos, -List.length_eq_zero_iff, List.getElem?_cons_zero, List.getElem?_cons_succ, List.getElem?_nil, and_assoc, I_ref09_Greatest_0, ownAt, k2, c3, k5, k7]) hB1
    obtain ⟨e0, s0, rfl, hq⟩ := hJ.open
    clear hB1
    obtain ⟨rfl, hq⟩ := hq
    simp only [Q_ref09_Greatest_0] at hq
    have q10_1 := hq
    obtain rfl := Option.some.inj hB
    simp -implicitDefEqProofs [-getElem?_pos, -Int.ofNat_lt, -Int.ofNat_le, -Int.natCast_eq_zero, -Int.natCast_pos, -List.length_eq_zero_iff, List.getElem?_cons_zero, List.getElem?_cons_succ, List.getElem?_nil, q10_1, k2, c3, k5, k7]
  · obtain rfl := Option.some.inj hB
    simp -implicitDefEqProofs [-getElem?_pos, -Int.ofNat_lt, -Int.ofNat_le, -Int.natCast_eq_zero, -Int.natCast_pos, -List.length_eq_zero_iff, List.getElem?_cons_zero, List.getElem?_cons_succ, List.getElem?_nil, k2, c3]
theorem g_ref09_Greatest {p0 : S_api_Config} {p1 : Int} {r : Int} (hB : B_ref09_Greatest p0 p1 = some r) : G_ref09_Greatest p0 p1 = some r := dec_of (fun a b h => by rcases a with a0_; rcases b with b0_; simp at h; simp [*]) (sim_ref09_Greatest hB)
end Go.Am

/-
How trustquorumref09.Quorum runs, as a pure function.
-/
namespace Go.Am
open Go Go.Proofs
set_option linter.unusedVariables false
set_option linter.unusedSimpArgs false
set_option maxRecDepth 4000
set_option maxHeartbeats 4000000
noncomputable def B_ref09_Quorum_0 (p0 : S_api_Config) (p1 : Int) : Option Bool :=
  kb (G_ref01_Valid p1) fun y1 =>
  cnd y1 (
    cnd (decide (p1 = 0)) (
      some true) (
      kb (G_ref06_Declared p0) fun y5 =>
      some (!(decide ((and64 p1 y5) = p1))))) (
    some true)
def J_ref09_Quorum_0 (p0 : S_api_Config) (p1 : Int) (q : St) : Prop := q (.t 1) = (i64 p1) ∧ (∃ (g : Nat), q (.t 2) = .ptr (.site 0 0 0) g 0 ∧ q (.i (.site 0 0 0)) = .box g [(.pv (.sl p0.f0.length (es_api_Member p0.f0)))])
def Q_ref09_Quorum_0 (p0 : S_api_Config) (p1 : Int) (o21_0 : Bool) (q : St) : Prop := q (.t 1) = (i64 p1) ∧ q (.t 21) = (bl o21_0) ∧ (∃ (g : Nat), q (.t 2) = .ptr (.site 0 0 0) g 0 ∧ q (.i (.site 0 0 0)) = .box g [(.pv (.sl p0.f0.length (es_api_Member p0.f0)))])
theorem P_ref09_Quorum_0 {p0 : S_api_Config} {p1 : Int} {cc : Code} (hcc : cc = (Code.fst (Code.fst (Code.snd ((Tryd.f30.body).getD .skip))))) {s : St} {z : Option (Ex × St)} (hz : C Tryd.prog cf cc s = z) {r : Bool} (hI : J_ref09_Quorum_0 p0 p1 s) (hB : B_ref09_Quorum_0 p0 p1 = some r) : Res z (postG (fun a q => Q_ref09_Quorum_0 p0 p1 a q) r) := by
  subst hcc
  subst hz
  simp only [J_ref09_Quorum_0] at hI
  obtain ⟨q1, ⟨g3, q2, q3⟩⟩ := hI
  simp only [Code.fst, Code.snd, Tryd.f30, Option.getD_some]
  unfold B_ref09_Quorum_0 at hB
  obtain ⟨y1, k2, hB⟩ := kb_inv hB
  replace k2 := run_ref01_Valid k2
  try simp only [Int.cast_ofNat_Int, Int.natCast_zero, List.length_cons, List.length_nil, List.nil_append, List.cons_append, Nat.zero_add, Nat.reduceAdd, Tru.thr_mk, Tru.nodes_mk, Tru.inner_mk, ints_cons, ints_nil, encTs_cons, encTs_nil, es_api_Config_cons, es_api_Config_nil, es_api_Member_cons, es_api_Member_nil] at k2
  try dsimp only at hB
  rcases cnd_inv hB with ⟨c3, hB⟩ | ⟨c3, hB⟩
  · rcases cnd_inv hB with ⟨c4, hB⟩ | ⟨c4, hB⟩
    · have pc4 := eq_true (of_decide_eq_true c4)
      obtain rfl := Option.some.inj hB
      try simp -implicitDefEqProofs [-getElem?_pos, -Int.ofNat_lt, -Int.ofNat_le, -Int.natCast_eq_zero, -Int.natCast_pos, -List.length_eq_zero_iff, List.getElem?_cons_zero, List.getElem?_cons_succ, List.getElem?_nil, q1, q2, q3, k2, c3, c4, pc4]
      refine Res.g ?_
      simp -implicitDefEqProofs [-getElem?_pos, -Int.ofNat_lt, -Int.ofNat_le, -Int.natCast_eq_zero, -Int.natCast_pos, -List.length_eq_zero_iff, List.getElem?_cons_zero, List.getElem?_cons_succ, List.getElem?_nil, and_assoc, Q_ref09_Quorum_0, ownAt, q1, q2, q3, k2, c3, c4, pc4]
    · have pc4 := eq_false (of_decide_eq_false c4)
      obtain ⟨y5, k6, hB⟩ := kb_inv hB
      replace k6 := run_ref06_Declared k6
      try simp only [Int.cast_ofNat_Int, Int.natCast_zero, List.length_cons, List.length_nil, List.nil_append, List.cons_append, Nat.zero_add, Nat.reduceAdd, Tru.thr_mk, Tru.nodes_mk, Tru.inner_mk, ints_cons, ints_nil, encTs_cons, encTs_nil, es_api_Config_cons, es_api_Config_nil, es_api_Member_cons, es_api_Member_nil, c3] at k6
      try dsimp only at hB
      obtain rfl := Option.some.inj hB
      try simp -implicitDefEqProofs [-getElem?_pos, -Int.ofNat_lt, -Int.ofNat_le, -Int.natCast_eq_zero, -Int.natCast_pos, -List.length_eq_zero_iff, List.getElem?_cons_zero, List.getElem?_cons_succ, List.getElem?_nil, q1, q2, q3, k2, c3, c4, pc4, k6]
      refine Res.g ?_
      simp -implicitDefEqProofs [-getElem?_pos, -Int.ofNat_lt, -Int.ofNat_le, -Int.natCast_eq_zero, -Int.natCast_pos, -List.length_eq_zero_iff, List.getElem?_cons_zero, List.getElem?_cons_succ, List.getElem?_nil, and_assoc, Q_ref09_Quorum_0, ownAt, q1, q2, q3, k2, c3, c4, pc4, k6]
  · obtain rfl := Option.some.inj hB
    try simp -implicitDefEqProofs [-getElem?_pos, -Int.ofNat_lt, -Int.ofNat_le, -Int.natCast_eq_zero, -Int.natCast_pos, -List.length_eq_zero_iff, List.getElem?_cons_zero, List.getElem?_cons_succ, List.getElem?_nil, q1, q2, q3, k2, c3]
    refine Res.g ?_
    simp -implicitDefEqProofs [-getElem?_pos, -Int.ofNat_lt, -Int.ofNat_le, -Int.natCast_eq_zero, -Int.natCast_pos, -List.length_eq_zero_iff, List.getElem?_cons_zero, List.getElem?_cons_succ, List.getElem?_nil, and_assoc, Q_ref09_Quorum_0, ownAt, q1, q2, q3, k2, c3]
noncomputable def B_ref09_Quorum_1 (p0 : S_api_Config) (p1 : Int) (y9 : (List Int)) (i11 : Nat) (e12 : Int) : Option (Stp Unit Unit) :=
  kb (getI p0.f0 e12) fun x12 =>
  kb (G_ref02_Satisfied x12.f1 p1) fun y15 =>
  cnd y15 (
    some (.go ())) (
    some (.ret ()))
def I_ref09_Quorum_1 (p0 : S_api_Config) (p1 : Int) (y9 : (List Int)) (i11 : Nat) (q : St) : Prop := q (.t 1) = (i64 p1) ∧ q (.t 23) = (.pv (.sl y9.length (ints y9))) ∧ q (.t 24) = (i64 (y9.length : Int)) ∧ q (.t 25) = (i64 (i11 : Int)) ∧ (∃ (g : Nat), q (.t 2) = .ptr (.site 0 0 0) g 0 ∧ q (.i (.site 0 0 0)) = .box g [(.pv (.sl p0.f0.length (es_api_Member p0.f0)))])
def Q_ref09_Quorum_1 (p0 : S_api_Config) (p1 : Int) (y9 : (List Int)) (q : St) : Prop := True
def QR_ref09_Quorum_1 (p0 : S_api_Config) (p1 : Int) (y9 : (List Int)) (q : St) : Prop := q (.t 4) = (bl false)
theorem Pb_ref09_Quorum_1 {p0 : S_api_Config} {p1 : Int} {y9 : (List Int)} {i11 : Nat} {e12 : Int} {q : St} {r : (Stp Unit Unit)} (hx : y9[i11]? = some e12) (hi : i11 < y9.length) (hn : y9.length < 4611686018427387904) (hI : I_ref09_Quorum_1 p0 p1 y9 i11 q) (hB : B_ref09_Quorum_1 p0 p1 y9 i11 e12 = some r) : Res (C Tryd.prog cf (Code.fst (Code.fst (Code.snd (Code.fst (Code.snd (Code.snd ((Tryd.f30.body).getD .skip))))))) q) (postB 0 (fun a q => I_ref09_Quorum_1 p0 p1 y9 (i11 + 1) q) (fun a q => Q_ref09_Quorum_1 p0 p1 y9 q) (fun a q => QR_ref09_Quorum_1 p0 p1 y9 q) r) := by
  have hi3 : (i11 : Int) < (y9.length : Int) := by omega
  have hi2 := decide_eq_true hi3
  have hi4 := idx_step hi hn
  have hi5 := ne_of_get hx
  simp only [I_ref09_Quorum_1] at hI
  obtain ⟨q1, q2, q3, q4, ⟨g6, q5, q6⟩⟩ := hI
  simp only [Code.fst, Code.snd, Tryd.f30, Option.getD_some]
  unfold B_ref09_Quorum_1 at hB
  obtain ⟨x12, h13, hB⟩ := kb_inv hB
  obtain ⟨h13a, h13b, h13c, h13d⟩ := getI_inv h13
  try simp only [Int.toNat_natCast, Int.reduceToNat] at h13c
  try dsimp only at hB
  have l14 := es_api_Member_sub1 h13c
  obtain ⟨y15, k16, hB⟩ := kb_inv hB
  replace k16 := run_ref02_Satisfied k16
  try simp only [Int.cast_ofNat_Int, Int.natCast_zero, List.length_cons, List.length_nil, List.nil_append, List.cons_append, Nat.zero_add, Nat.reduceAdd, Tru.thr_mk, Tru.nodes_mk, Tru.inner_mk, ints_cons, ints_nil, encTs_cons, encTs_nil, es_api_Config_cons, es_api_Config_nil, es_api_Member_cons, es_api_Member_nil] at k16
  try dsimp only at hB
  rcases cnd_inv hB with ⟨c17, hB⟩ | ⟨c17, hB⟩
  · obtain rfl := Option.some.inj hB
    try simp -implicitDefEqProofs [-getElem?_pos, -Int.ofNat_lt, -Int.ofNat_le, -Int.natCast_eq_zero, -Int.natCast_pos, -List.length_eq_zero_iff, List.getElem?_cons_zero, List.getElem?_cons_succ, List.getElem?_nil, q1, q2, q3, q4, q5, q6, hx, hi2, hi3, hi4, hi5, h13a, h13b, h13c, h13d, l14, k16, c17]
    refine Res.bgo ?_
    simp -implicitDefEqProofs [-getElem?_pos, -Int.ofNat_lt, -Int.ofNat_le, -Int.natCast_eq_zero, -Int.natCast_pos, -List.length_eq_zero_iff, List.getElem?_cons_zero, List.getElem?_cons_succ, List.getElem?_nil, and_assoc, I_ref09_Quorum_1, ownAt, q1, q2, q3, q4, q5, q6, hx, hi2, hi3, hi4, hi5, h13a, h13b, h13c, h13d, l14, k16, c17]
  · obtain rfl := Option.some.inj hB
    try simp -implicitDefEqProofs [-getElem?_pos, -Int.ofNat_lt, -Int.ofNat_le, -Int.natCast_eq_zero, -Int.natCast_pos, -List.length_eq_zero_iff, List.getElem?_cons_zero, List.getElem?_cons_succ, List.getElem?_nil, q1, q2, q3, q4, q5, q6, hx, hi2, hi3, hi4, hi5, h13a, h13b, h13c, h13d, l14, k16, c17]
    refine Res.bret ?_
    simp -implicitDefEqProofs [-getElem?_pos, -Int.ofNat_lt, -Int.ofNat_le, -Int.natCast_eq_zero, -Int.natCast_pos, -List.length_eq_zero_iff, List.getElem?_cons_zero, List.getElem?_cons_succ, List.getElem?_nil, and_assoc, QR_ref09_Quorum_1, ownAt, q1, q2, q3, q4, q5, q6, hx, hi2, hi3, hi4, hi5, h13a, h13b, h13c, h13d, l14, k16, c17]
theorem Pe_ref09_Quorum_1 {p0 : S_api_Config} {p1 : Int} {y9 : (List Int)} {q : St} (hI : I_ref09_Quorum_1 p0 p1 y9 y9.length q) : Res (C Tryd.prog cf (Code.fst (Code.fst (Code.snd (Code.fst (Code.snd (Code.snd ((Tryd.f30.body).getD .skip))))))) q) fun e q' => e = .exit 0 ∧ Q_ref09_Quorum_1 p0 p1 y9 q' := by
  simp only [I_ref09_Quorum_1] at hI
  obtain ⟨q1, q2, q3, q4, ⟨g6, q5, q6⟩⟩ := hI
  simp only [Code.fst, Code.snd, Tryd.f30, Option.getD_some]
  simp -implicitDefEqProofs [-getElem?_pos, -Int.ofNat_lt, -Int.ofNat_le, -Int.natCast_eq_zero, -Int.natCast_pos, -List.length_eq_zero_iff, List.getElem?_cons_zero, List.getElem?_cons_succ, List.getElem?_nil, q1, q2, q3, q4, q5, q6]
  refine Res.x ?_
  simp -implicitDefEqProofs [-getElem?_pos, -Int.ofNat_lt, -Int.ofNat_le, -Int.natCast_eq_zero, -Int.natCast_pos, -List.length_eq_zero_iff, List.getElem?_cons_zero, List.getElem?_cons_succ, List.getElem?_nil, and_assoc, Q_ref09_Quorum_1, ownAt, q1, q2, q3, q4, q5, q6]
theorem P_ref09_Quorum_1 {p0 : S_api_Config} {p1 : Int} {y9 : (List Int)} {cc : Code} (hcc : cc = .block 0 (.loop (Code.fst (Code.fst (Code.snd (Code.fst (Code.snd (Code.snd ((Tryd.f30.body).getD .skip))))))))) {s : St} {z : Option (Ex × St)} (hz : C Tryd.prog cf cc s = z) {r : (Stp Unit Unit)} (hn : y9.length < 4611686018427387904) (hI : I_ref09_Quorum_1 p0 p1 y9 0 s) (hB : loopL (fun i a x => B_ref09_Quorum_1 p0 p1 y9 i x) 0 () y9 = some r) : Res z (postS (fun a q => Q_ref09_Quorum_1 p0 p1 y9 q) (fun a q => QR_ref09_Quorum_1 p0 p1 y9 q) r) := by
  subst hcc
  exact loopL_sim (I := fun i a q => I_ref09_Quorum_1 p0 p1 y9 i q) (Q := (fun a q => Q_ref09_Quorum_1 p0 p1 y9 q)) (QR := (fun a q => QR_ref09_Quorum_1 p0 p1 y9 q)) (fun i x a q r hx hi h hB => Pb_ref09_Quorum_1 hx hi hn h hB) (fun a q h => Pe_ref09_Quorum_1 h) hI hz hB
noncomputable def B_ref09_Quorum (p0 : S_api_Config) (p1 : Int) : Option Bool :=
  kb (B_ref09_Quorum_0 p0 p1) fun z7 =>
  cnd z7 (
    some false) (
    kb (G_ref01_Nodes p1) fun y9 =>
    kb (smallK y9) fun _ =>
    kb (loopL (fun i a x => B_ref09_Quorum_1 p0 p1 y9 i x) 0 () y9) fun o => stpK o (fun z18 =>
      some true) (fun z18r =>
      some false))
theorem sim_ref09_Quorum {p0 : S_api_Config} {p1 : Int} {r : Bool} (hB : B_ref09_Quorum p0 p1 = some r) : R 30 [(.agg [(.pv (.sl p0.f0.length (es_api_Member p0.f0)))]), (i64 p1)] [] = some ((bl r), [], []) := by
  rw [R_eq _ _ _ fn_ref09_Quorum]
  simp only [Code.fst, Code.snd, Tryd.f30, Option.getD_some]
  generalize hc0 : Code.region 1 _ _ = cc0
  generalize hc1 : Code.block 0 _ = cc1
  unfold B_ref09_Quorum at hB
  try simp -implicitDefEqProofs [-getElem?_pos, -Int.ofNat_lt, -Int.ofNat_le, -Int.natCast_eq_zero, -Int.natCast_pos, -List.length_eq_zero_iff, List.getElem?_cons_zero, List.getElem?_cons_succ, List.getElem?_nil]
  generalize hz0 : C Tryd.prog cf cc0 _ = z0
  obtain ⟨z7, hB1, hB⟩ := kb_inv hB
  have hJ := P_ref09_Quorum_0 (hc0.symm.trans (by kernel_rfl)) hz0 (by simp -implicitDefEqProofs [-getElem?_pos, -Int.ofNat_lt, -Int.ofNat_le, -Int.natCast_eq_zero, -Int.natCast_pos, -List.length_eq_zero_iff, List.getElem?_cons_zero, List.getElem?_cons_succ, List.getElem?_nil, and_assoc, J_ref09_Quorum_0, ownAt]) hB1
  obtain ⟨e0, s0, rfl, hq⟩ := hJ.open
  clear hB1
  obtain ⟨rfl, hq⟩ := hq
  simp only [Q_ref09_Quorum_0] at hq
  obtain ⟨q7_1, q7_2, ⟨g7_4, q7_3, q7_4⟩⟩ := hq
  rcases cnd_inv hB with ⟨c8, hB⟩ | ⟨c8, hB⟩
  · obtain rfl := Option.some.inj hB
    simp -implicitDefEqProofs [-getElem?_pos, -Int.ofNat_lt, -Int.ofNat_le, -Int.natCast_eq_zero, -Int.natCast_pos, -List.length_eq_zero_iff, List.getElem?_cons_zero, List.getElem?_cons_succ, List.getElem?_nil, q7_1, q7_2, q7_3, q7_4, c8]
  · obtain ⟨y9, k10, hB⟩ := kb_inv hB
    replace k10 := run_ref01_Nodes k10
    try simp only [Int.cast_ofNat_Int, Int.natCast_zero, List.length_cons, List.length_nil, List.nil_append, List.cons_append, Nat.zero_add, Nat.reduceAdd, Tru.thr_mk, Tru.nodes_mk, Tru.inner_mk, ints_cons, ints_nil, encTs_cons, encTs_nil, es_api_Config_cons, es_api_Config_nil, es_api_Member_cons, es_api_Member_nil, c8] at k10
    try dsimp only at hB
    try simp -implicitDefEqProofs [-getElem?_pos, -Int.ofNat_lt, -Int.ofNat_le, -Int.natCast_eq_zero, -Int.natCast_pos, -List.length_eq_zero_iff, List.getElem?_cons_zero, List.getElem?_cons_succ, List.getElem?_nil, q7_1, q7_2, q7_3, q7_4, c8, k10]
    generalize hz1 : C Tryd.prog cf cc1 _ = z1
    obtain ⟨_, hsm, hB⟩ := kb_inv hB
    obtain ⟨o, hB1, hB⟩ := kb_inv hB
    have hJ := P_ref09_Quorum_1 (hc1.symm.trans (by kernel_rfl)) hz1 (smallK_inv hsm) (by simp -implicitDefEqProofs [-getElem?_pos, -Int.ofNat_lt, -Int.ofNat_le, -Int.natCast_eq_zero, -Int.natCast_pos, -List.length_eq_zero_iff, List.getElem?_cons_zero, List.getElem?_cons_succ, List.getElem?_nil, and_assoc, I_ref09_Quorum_1, ownAt, q7_1, q7_2, q7_3, q7_4, c8, k10]) hB1
    obtain ⟨e1, s1, rfl, hq⟩ := hJ.open
    clear hB1
    rcases o with z18 | ⟨_, _⟩ | z18r
    · simp only [stpK_go] at hB
      obtain ⟨rfl, hq⟩ := hq
      simp only [Q_ref09_Quorum_1] at hq
      obtain rfl := Option.some.inj hB
      simp -implicitDefEqProofs [-getElem?_pos, -Int.ofNat_lt, -Int.ofNat_le, -Int.natCast_eq_zero, -Int.natCast_pos, -List.length_eq_zero_iff, List.getElem?_cons_zero, List.getElem?_cons_succ, List.getElem?_nil, c8, k10]
    · exact hq.elim
    · simp only [stpK_ret] at hB
      obtain ⟨rfl, hq⟩ := hq
      simp only [QR_ref09_Quorum_1] at hq
      have q18_r1 := hq
      obtain rfl := Option.some.inj hB
      simp -implicitDefEqProofs [-getElem?_pos, -Int.ofNat_lt, -Int.ofNat_le, -Int.natCast_eq_zero, -Int.natCast_pos, -List.length_eq_zero_iff, List.getElem?_cons_zero, List.getElem?_cons_succ, List.getElem?_nil, q18_r1, c8, k10]
theorem g_ref09_Quorum {p0 : S_api_Config} {p1 : Int} {r : Bool} (hB : B_ref09_Quorum p0 p1 = some r) : G_ref09_Quorum p0 p1 = some r := dec_of (fun a b h => by rcases a with a0_; rcases b with b0_; simp at h; simp [*]) (sim_ref09_Quorum hB)
end Go.Am

/-
Plain laws: quorums and the greatest quorum in a set.
-/
namespace Go.Am
open Go
set_option linter.unusedVariables false
set_option linter.unusedSimpArgs false

theorem s_Nodes (s : Int) : ∃ l, G_ref01_Nodes s = some l ∧ (∀ k, k ∈ l ↔ hasS s k = true) ∧ l.length ≤ 10 := by
  have hloop := iterW_spec (A := List Int × Int) (R := Unit) (f := fun a => B_ref01_Nodes_0 s a.1 a.2)
    (fun k a => (0 ≤ a.2 ∧ a.2 ≤ 10 ∧ k = (10 - a.2).toNat) ∧ (a.1.length : Int) ≤ a.2 ∧ ∀ k, k ∈ a.1 ↔ (hasS s k = true ∧ k < a.2))
    (fun x => ∃ a : List Int × Int, x = .go a ∧ a.1.length ≤ 10 ∧ ∀ k, k ∈ a.1 ↔ hasS s k = true)
    (by
      rintro k ⟨l, i⟩ ⟨⟨hi, hin, hk⟩, hl, hm⟩
      dsimp only at hi hin hk hl hm
      have ei : i < 10 → add64 i 1 = i + 1 := fun _ => add64_of (by omega) (by omega)
      by_cases c : i < 10
      · left
        cases c2 : hasS s i
        · refine ⟨(l, i + 1), (10 - (i + 1)).toNat, ?_, by omega, ⟨by dsimp only; omega, by dsimp only; omega, rfl⟩, by dsimp only; omega, fun k => ?_⟩
          · simp only [B_ref01_Nodes_0, c, decide_true, cnd_true, s_ref01_Has, kb_some, c2, cnd_false, ei c]
          · dsimp only
            rw [hm]
            constructor
            · rintro ⟨h1, h2⟩; exact ⟨h1, by omega⟩
            · rintro ⟨h1, h2⟩
              refine ⟨h1, ?_⟩
              by_cases e : k = i
              · subst e; rw [c2] at h1; cases h1
              · omega
        · refine ⟨(l ++ [i], i + 1), (10 - (i + 1)).toNat, ?_, by omega, ⟨by dsimp only; omega, by dsimp only; omega, rfl⟩, by simp; omega, fun k => ?_⟩
          · simp only [B_ref01_Nodes_0, c, decide_true, cnd_true, s_ref01_Has, kb_some, c2, ei c]
            rw [appK_some (by simp; omega), kb_some]
          · dsimp only
            rw [List.mem_append, hm, List.mem_singleton]
            constructor
            · rintro (⟨h1, h2⟩ | rfl)
              · exact ⟨h1, by omega⟩
              · exact ⟨c2, by omega⟩
            · rintro ⟨h1, h2⟩
              by_cases e : k = i
              · exact .inr e
              · exact .inl ⟨h1, by omega⟩
      · right; left
        refine ⟨0, (l, i), ?_, (l, i), rfl, by dsimp only; omega, fun k => ?_⟩
        · simp only [B_ref01_Nodes_0, c, decide_false, cnd_false]
        · dsimp only
          rw [hm]
          constructor
          · exact fun h => h.1
          · intro h
            refine ⟨h, ?_⟩
            have h' := h
            simp [hasS] at h'
            omega) (10 - 0 : Int).toNat ([], 0) ⟨⟨by simp, by simp, rfl⟩, by simp, fun k => ⟨fun h => (by cases h), fun ⟨h1, h2⟩ => (by exfalso; simp [hasS] at h1; dsimp only at h2; omega)⟩⟩
  obtain ⟨_, e1, ⟨l, i⟩, rfl, hl, hm⟩ := hloop
  refine ⟨l, g_ref01_Nodes ?_, hm, hl⟩
  unfold B_ref01_Nodes
  rw [e1, kb_some]
  rfl
/-- a member is declared -/
def decl (c : Conf) (k : Int) : Bool := decide (0 ≤ k ∧ k < 10) && (match c.f0[k.toNat]? with
  | some m => m.f0
  | none => false)
theorem s_Declared (c : Conf) (hc : c.f0.length < 1048576) : ∃ s, G_ref06_Declared c = some s ∧ setB s = true ∧ ∀ k, hasS s k = decl c k := by
  obtain ⟨s, e, h⟩ := foldO_inv (f := fun i a x => B_ref06_Declared_1 c i a x) (fun j s => setB s = true ∧ ∀ k, hasS s k = (decl c k && decide (k < (j : Int)))) c.f0 0 0 (by
    rintro j s m hj ⟨h1, h2⟩
    simp only [Nat.zero_add] at h2 ⊢
    have e0 : B_ref06_Declared_0 m s j c = some (decide ((j : Int) < 10) && m.f0) := by
      unfold B_ref06_Declared_0
      by_cases c1 : (j : Int) < 10 <;> simp [c1, cnd_true, cnd_false]
    have hd : ∀ k : Int, k = (j : Int) → decl c k = (decide ((j : Int) < 10) && m.f0) := by
      rintro k rfl
      unfold decl
      rw [Int.toNat_natCast, hj]
      simp
    unfold B_ref06_Declared_1
    rw [e0, kb_some]
    cases c1 : (decide ((j : Int) < 10) && m.f0)
    · refine ⟨s, rfl, h1, fun k => ?_⟩
      rw [h2]
      by_cases e : k = (j : Int)
      · rw [hd k e, c1]; rfl
      · congr 1; rw [decide_eq_decide]; omega
    · rw [Bool.and_eq_true, decide_eq_true_eq] at c1
      obtain ⟨o1, o2⟩ := set_one (k := (j : Int)) (by omega) c1.1
      obtain ⟨r1, r2⟩ := set_or h1 o1
      refine ⟨_, by rw [cnd_true, mustK_some (by omega), kb_some], r1, fun k => ?_⟩
      rw [r2, o2, h2]
      by_cases e : k = (j : Int)
      · rw [hd k e, c1.2]
        simp [e, c1.1]
        omega
      · have : decide (k < ((j + 1 : Nat) : Int)) = decide (k < (j : Int)) := by rw [decide_eq_decide]; omega
        rw [this]
        simp [e]) ⟨set_zero, fun k => by
    rw [has_zero]
    by_cases h : 0 ≤ k
    · have : decide (k < ((0 : Nat) : Int)) = false := by simpa using h
      rw [this]; simp
    · simp [decl, h]⟩
  refine ⟨s, g_ref06_Declared ?_, h.1, fun k => ?_⟩
  · unfold B_ref06_Declared
    rw [smallK_some (by omega), kb_some, e, kb_some]
  · rw [h.2 k]
    cases hd : decl c k
    · rfl
    · unfold decl at hd
      rw [Bool.and_eq_true, decide_eq_true_eq] at hd
      have : k.toNat < c.f0.length := by
        cases hg : c.f0[k.toNat]? with
        | none => rw [hg] at hd; cases hd.2
        | some m => exact (List.getElem?_eq_some_iff.1 hg).1
      simp; omega
theorem decl_get {c : Conf} {k : Int} (h : decl c k = true) : (0 ≤ k ∧ k < 10) ∧ ∃ m, c.f0[k.toNat]? = some m ∧ m.f0 = true := by
  unfold decl at h
  rw [Bool.and_eq_true, decide_eq_true_eq] at h
  refine ⟨h.1, ?_⟩
  cases hg : c.f0[k.toNat]? with
  | none => rw [hg] at h; cases h.2
  | some m => rw [hg] at h; exact ⟨m, rfl, h.2⟩
/-- each node of a set is satisfied by a set -/
def satAll (c : Conf) (s : Int) : Prop := ∀ k m, hasS s k = true → c.f0[k.toNat]? = some m → sat s m.f1 = true
def quo (c : Conf) (s : Int) : Prop := (s ≠ 0 ∧ ∀ k, hasS s k = true → decl c k = true) ∧ satAll c s
theorem sub_and {a b : Int} (ha : setB a = true) (hb : setB b = true) : decide (and64 a b = a) = true ↔ ∀ k, hasS a k = true → hasS b k = true := by
  obtain ⟨h1, h2⟩ := set_and ha hb
  rw [decide_eq_true_eq]
  constructor
  · intro e k hk
    have := h2 k
    rw [e, hk] at this
    simpa using this.symm
  · intro h
    refine set_ext h1 ha fun k => ?_
    rw [h2]
    cases hk : hasS a k
    · rfl
    · rw [h k hk]; rfl
theorem s_Quorum (c : Conf) (hc : c.Fine) (s : Int) (hs : setB s = true) : ∃ b, G_ref09_Quorum c s = some b ∧ (b = true ↔ quo c s) := by
  obtain ⟨d, ed, hd1, hd2⟩ := s_Declared c hc.1
  obtain ⟨l, el, hl1, hl2⟩ := s_Nodes s
  have e0 : B_ref09_Quorum_0 c s = some (!(!(decide (s = 0)) && decide (and64 s d = s))) := by
    unfold B_ref09_Quorum_0
    rw [s_ref01_Valid, kb_some, hs, cnd_true]
    by_cases c1 : s = 0
    · simp [c1, cnd_true]
    · simp only [c1, decide_false, cnd_false, ed, kb_some]
      simp
  have hB : ∃ b, B_ref09_Quorum c s = some b ∧ (b = true ↔ quo c s) := by
    unfold B_ref09_Quorum
    rw [e0, kb_some]
    by_cases c1 : s = 0
    · exact ⟨false, by simp [c1, cnd_true], by simp [quo, c1]⟩
    by_cases c2 : and64 s d = s
    case neg =>
      refine ⟨false, by simp [c2, cnd_true], ?_⟩
      have := sub_and hs hd1
      simp only [c2, decide_false, Bool.false_eq_true, false_iff] at this
      simp only [Bool.false_eq_true, false_iff]
      rintro ⟨⟨_, h⟩, _⟩
      exact this fun k hk => by rw [hd2]; exact h k hk
    have hsub := (sub_and hs hd1).1 (by simpa using c2)
    simp only [c1, c2, decide_true, decide_false, Bool.not_false, Bool.and_self, Bool.not_true, cnd_false]
    rw [el, kb_some, smallK_some (by omega), kb_some]
    have key : ∀ (r : List Int) (j : Nat), (∀ k ∈ r, hasS s k = true) → ∃ o, loopL (fun i a x => B_ref09_Quorum_1 c s l i x) j () r = some o ∧ (((∀ k ∈ r, ∀ m, c.f0[k.toNat]? = some m → sat s m.f1 = true) ∧ o = .go ()) ∨ ((¬ ∀ k ∈ r, ∀ m, c.f0[k.toNat]? = some m → sat s m.f1 = true) ∧ o = .ret ())) := by
      intro r
      induction r with
      | nil => intro j _; exact ⟨_, rfl, .inl ⟨by simp, rfl⟩⟩
      | cons k r ih =>
        intro j hr
        have hk := hsub k (hr k List.mem_cons_self)
        rw [hd2] at hk
        obtain ⟨hk0, m, hm, hm1⟩ := decl_get hk
        have hmf := hc.2 m (List.mem_of_getElem? hm)
        have e1 : B_ref09_Quorum_1 c s l j k = some (if sat s m.f1 = true then .go () else .ret ()) := by
          unfold B_ref09_Quorum_1
          rw [getI_of hk0.1 hm, kb_some, s_ref02_Satisfied _ hmf, kb_some, hs, Bool.true_and]
          cases sat s m.f1 <;> rfl
        cases hsat : sat s m.f1
        · refine ⟨.ret (), ?_, .inr ⟨fun h => ?_, rfl⟩⟩
          · show kb (B_ref09_Quorum_1 c s l j k) _ = _
            rw [e1, kb_some, hsat]; rfl
          · have := h k List.mem_cons_self m hm
            rw [hsat] at this; cases this
        · obtain ⟨o, ho, hp⟩ := ih (j + 1) (fun k hk => hr k (List.mem_cons_of_mem _ hk))
          refine ⟨o, ?_, ?_⟩
          · show kb (B_ref09_Quorum_1 c s l j k) _ = _
            rw [e1, kb_some, hsat]; exact ho
          · have e : (∀ k' ∈ k :: r, ∀ m, c.f0[k'.toNat]? = some m → sat s m.f1 = true) ↔ ∀ k' ∈ r, ∀ m, c.f0[k'.toNat]? = some m → sat s m.f1 = true := by
              constructor
              · exact fun h k' hk' => h k' (List.mem_cons_of_mem _ hk')
              · intro h k' hk' m' hm'
                cases hk' with
                | head => rw [hm] at hm'; cases hm'; exact hsat
                | tail _ hk' => exact h k' hk' m' hm'
            rw [e]; exact hp
    obtain ⟨o, ho, hp⟩ := key l 0 (fun k hk => (hl1 k).1 hk)
    rw [ho, kb_some]
    have e : (∀ k ∈ l, ∀ m, c.f0[k.toNat]? = some m → sat s m.f1 = true) ↔ quo c s := by
      constructor
      · intro h
        exact ⟨⟨c1, fun k hk => by have := hsub k hk; rwa [hd2] at this⟩, fun k m hk hm => h k ((hl1 k).2 hk) m hm⟩
      · intro h k hk m hm
        exact h.2 k m ((hl1 k).1 hk) hm
    rw [e] at hp
    rcases hp with ⟨hp, rfl⟩ | ⟨hp, rfl⟩
    · exact ⟨true, rfl, by simp [hp]⟩
    · exact ⟨false, rfl, by simp [hp]⟩
  obtain ⟨b, h1, h2⟩ := hB
  exact ⟨b, g_ref09_Quorum h1, h2⟩
/-- a set without one of its nodes -/
theorem sub_bit : ∀ m, m < 1024 → ∀ k, k < 10 → Nat.testBit m k = true → 2 ^ k ≤ m ∧ m - 2 ^ k = m ^^^ 2 ^ k := by decide +kernel
theorem set_sub {s k : Int} (hs : setB s = true) (hk : hasS s k = true) : setB (sub64 s (shl64 1 k)) = true ∧ (∀ j, hasS (sub64 s (shl64 1 k)) j = (hasS s j && !decide (j = k))) ∧ sub64 s (shl64 1 k) < s := by
  obtain ⟨m, rfl, hm⟩ := set_nat hs
  have hk' := hk
  rw [has_nat hm, Bool.and_eq_true, decide_eq_true_eq] at hk'
  obtain ⟨n, rfl⟩ := Int.eq_ofNat_of_zero_le hk'.1.1
  have hn : n < 10 := by omega
  rw [Int.toNat_natCast] at hk'
  obtain ⟨h1, h2⟩ := sub_bit m hm n hn hk'.2
  have hp : 0 < 2 ^ n := Nat.pow_pos (by omega)
  have e : sub64 (m : Int) (shl64 1 (n : Int)) = ((m ^^^ 2 ^ n : Nat) : Int) := by
    rw [shl64_one (by omega), sub64_of (by omega) (by omega), ← h2]
    omega
  show setB (sub64 (m : Int) (shl64 1 (n : Int))) = true ∧ (∀ j, hasS (sub64 (m : Int) (shl64 1 (n : Int))) j = (hasS (m : Int) j && !decide (j = (n : Int)))) ∧ sub64 (m : Int) (shl64 1 (n : Int)) < (m : Int)
  rw [e]
  have hlt : m ^^^ 2 ^ n < 1024 := by omega
  refine ⟨nat_set hlt, fun j => ?_, by omega⟩
  rw [has_nat hlt, has_nat hm, Nat.testBit_xor, Nat.testBit_two_pow]
  by_cases hj : 0 ≤ j ∧ j < 10
  · obtain ⟨i, rfl⟩ := Int.eq_ofNat_of_zero_le hj.1
    have e2 : decide ((i : Int) = (n : Int)) = decide (n = i) := by rw [decide_eq_decide]; omega
    simp only [hj, and_self, decide_true, Bool.true_and, Int.toNat_natCast, Int.ofNat_eq_natCast, e2]
    by_cases c : n = i
    · subst c; rw [hk'.2]; simp
    · simp [c]
  · simp [hj]
theorem s_Greatest (c : Conf) (hc : c.Fine) (s : Int) (hs : setB s = true) : ∃ q, G_ref09_Greatest c s = some q ∧ (setB q = true ∧ (∀ k, hasS q k = true → hasS s k = true ∧ decl c k = true)) ∧ satAll c q := by
  obtain ⟨d, ed, hd1, hd2⟩ := s_Declared c hc.1
  obtain ⟨a1, a2⟩ := set_and hs hd1
  have hfold : ∀ (l : List Int) (x : Int) (i : Nat) (y : List Int) (q k : Int), foldO (fun i a x => B_ref09_Greatest_0 y i a x) i x l = some q → 0 ≤ k → foldO (fun i a x => B_ref09_Greatest_0 (y ++ [k]) i a x) i x (l ++ [k]) = some (sub64 q (shl64 1 k)) := by
    intro l
    induction l with
    | nil =>
      intro x i y q k h hk
      obtain rfl : x = q := Option.some.inj h
      show kb (B_ref09_Greatest_0 _ _ _ _) _ = _
      unfold B_ref09_Greatest_0
      rw [mustK_some (by omega), kb_some, kb_some]; rfl
    | cons z r ih =>
      intro x i y q k h hk
      obtain ⟨x', h1, h2⟩ := kb_inv h
      show kb (B_ref09_Greatest_0 (y ++ [k]) i x z) _ = _
      rw [show B_ref09_Greatest_0 (y ++ [k]) i x z = some x' from h1, kb_some]
      exact ih _ _ _ _ _ h2 hk
  have hany : ∀ (l : List Int) (y y' : List Int) (i : Nat) (x : Int), foldO (fun i a x => B_ref09_Greatest_0 y i a x) i x l = foldO (fun i a x => B_ref09_Greatest_0 y' i a x) i x l := by
    intro l y y' i x
    rfl
  have hloop := iterW_spec (A := Int × List Int × Bool) (R := Unit) (f := fun a => B_ref09_Elimination_1 c a.1 a.2.1 a.2.2)
    (fun n a => (setB a.1 = true ∧ n = 2 * a.1.toNat + (if a.2.2 = true then 1 else 0)) ∧ (∀ k, hasS a.1 k = true → hasS s k = true ∧ decl c k = true) ∧ (foldO (fun i a x => B_ref09_Greatest_0 [] i a x) 0 (and64 s d) a.2.1 = some a.1 ∧ a.2.1.length + a.1.toNat ≤ 1023) ∧ (a.2.2 = false → satAll c a.1))
    (fun x => ∃ a : Int × List Int × Bool, x = .go a ∧ setB a.1 = true ∧ (∀ k, hasS a.1 k = true → hasS s k = true ∧ decl c k = true) ∧ foldO (fun i a x => B_ref09_Greatest_0 [] i a x) 0 (and64 s d) a.2.1 = some a.1 ∧ a.2.1.length ≤ 1023 ∧ satAll c a.1)
    (by
      rintro n ⟨x, out, again⟩ ⟨⟨h1, hn⟩, h2, ⟨h3, h3'⟩, h4⟩
      dsimp only at h1 hn h2 h3 h3' h4
      cases again
      · right; left
        exact ⟨0, (x, out, false), rfl, (x, out, false), rfl, h1, h2, h3, by dsimp only; omega, h4 rfl⟩
      · left
        obtain ⟨l, el, hl1, hl2⟩ := s_Nodes x
        have key : ∀ (r : List Int) (j : Nat), (∀ k ∈ r, hasS x k = true) → ∃ o, loopL (fun i a z => B_ref09_Elimination_0 c l i a.1 a.2.1 a.2.2 z) j (x, out, false) r = some o ∧ (((∀ k ∈ r, ∀ m, c.f0[k.toNat]? = some m → sat x m.f1 = true) ∧ o = .go (x, out, false)) ∨ (∃ k, hasS x k = true ∧ o = .go (sub64 x (shl64 1 k), out ++ [k], true))) := by
          intro r
          induction r with
          | nil => intro j _; exact ⟨_, rfl, .inl ⟨by simp, rfl⟩⟩
          | cons k r ih =>
            intro j hr
            have hk := hr k List.mem_cons_self
            obtain ⟨hk0, m, hm, hm1⟩ := decl_get (h2 k hk).2
            have hmf := hc.2 m (List.mem_of_getElem? hm)
            cases hsat : sat x m.f1
            · refine ⟨_, ?_, .inr ⟨k, hk, rfl⟩⟩
              show kb (B_ref09_Elimination_0 c l j x out false k) _ = _
              unfold B_ref09_Elimination_0
              rw [getI_of hk0.1 hm, kb_some, s_ref02_Satisfied _ hmf, kb_some, h1, hsat]
              simp only [Bool.and_false, cnd_false]
              rw [mustK_some (by omega), kb_some, appK_some (by simp; omega), kb_some]
              rfl
            · obtain ⟨o, ho, hp⟩ := ih (j + 1) (fun k hk => hr k (List.mem_cons_of_mem _ hk))
              refine ⟨o, ?_, ?_⟩
              · show kb (B_ref09_Elimination_0 c l j x out false k) _ = _
                unfold B_ref09_Elimination_0
                rw [getI_of hk0.1 hm, kb_some, s_ref02_Satisfied _ hmf, kb_some, h1, hsat]
                exact ho
              · rcases hp with ⟨hp, ho'⟩ | hp
                · refine .inl ⟨fun k' hk' m' hm' => ?_, ho'⟩
                  cases hk' with
                  | head => rw [hm] at hm'; cases hm'; exact hsat
                  | tail _ hk' => exact hp k' hk' m' hm'
                · exact .inr hp
        obtain ⟨o, ho, hp⟩ := key l 0 (fun k hk => (hl1 k).1 hk)
        rcases hp with ⟨hp, rfl⟩ | ⟨k, hk, rfl⟩
        · refine ⟨(x, out, false), 2 * x.toNat, ?_, by simp at hn; omega, ⟨h1, by simp⟩, h2, ⟨h3, h3'⟩, fun _ => fun k m hk hm => hp k ((hl1 k).2 hk) m hm⟩
          simp only [B_ref09_Elimination_1, cnd_true]
          rw [el, kb_some, smallK_some (by omega), kb_some, ho, kb_some]
          rfl
        · obtain ⟨s1, s2, s3⟩ := set_sub h1 hk
          have hk0 := (decl_get (h2 k hk).2).1
          have hx0 : 0 ≤ sub64 x (shl64 1 k) := (setB_iff.1 s1).1
          refine ⟨(sub64 x (shl64 1 k), out ++ [k], true), 2 * (sub64 x (shl64 1 k)).toNat + 1, ?_, by simp at hn; omega, ⟨s1, by simp⟩, fun j hj => ?_, ⟨?_, ?_⟩, fun h => by cases h⟩
          · simp only [B_ref09_Elimination_1, cnd_true]
            rw [el, kb_some, smallK_some (by omega), kb_some, ho, kb_some]
            rfl
          · dsimp only at hj
            rw [s2, Bool.and_eq_true] at hj
            exact h2 j hj.1
          · exact hfold out _ 0 [] x k h3 hk0.1
          · simp; omega) (2 * (and64 s d).toNat + 1) (and64 s d, [], true) ⟨⟨a1, by simp⟩, fun k hk => by
        dsimp only at hk
        rw [a2, Bool.and_eq_true, hd2] at hk
        exact hk, ⟨rfl, by simp; have := setB_iff.1 a1; omega⟩, fun h => by cases h⟩
  obtain ⟨_, e1, ⟨x, out, b⟩, rfl, h1, h2, h3, h4, h5⟩ := hloop
  dsimp only at h1 h2 h3 h4 h5
  have hel : G_ref09_Elimination c s = some out := by
    refine g_ref09_Elimination ?_
    unfold B_ref09_Elimination
    rw [s_ref01_Valid, kb_some, hs, cnd_true, ed, kb_some, e1, kb_some]
    rfl
  refine ⟨x, g_ref09_Greatest ?_, ⟨h1, h2⟩, h5⟩
  unfold B_ref09_Greatest
  rw [s_ref01_Valid, kb_some, hs, cnd_true, ed, kb_some, hel, kb_some, smallK_some (by omega), kb_some]
  rw [show foldO (fun i a x => B_ref09_Greatest_0 out i a x) 0 (and64 s d) out = some x from h3, kb_some]
end Go.Am

/-
The example of the chapter: the kernel runs it.
-/
namespace Go.Am
open Go Go.Proofs
theorem awake_run : R 16 [] [] = some (bl true, [], []) := (W_iff _ _ _ _).2 ⟨200, by kernel_rfl⟩
theorem s_awake : G_law13_awake = some true := of_law13_awake awake_run
end Go.Am

/-
How trustquorumlaw13.DeletionTwice runs, as a pure function.
-/
namespace Go.Am
open Go Go.Proofs
set_option linter.unusedVariables false
set_option linter.unusedSimpArgs false
set_option maxRecDepth 4000
set_option maxHeartbeats 4000000
noncomputable def B_law13_DeletionTwice (p0 : (List Int)) : Option Bool :=
  kb (G_make_New p0) fun y1 =>
  kb (G_make_Config y1 10) fun y3 =>
  kb (G_make_Tape_N y3.2 1024) fun y5 =>
  kb (G_make_Tape_N y5.2 1024) fun y7 =>
  kb (G_deletion_Delete y3.1 y5.1) fun y9 =>
  kb (G_deletion_Delete y9 y7.1) fun y11 =>
  kb (G_deletion_Delete y3.1 (or64 y5.1 y7.1)) fun y13 =>
  kb (G_ref06_Same y11 y13) fun y15 =>
  cnd y15 (
    kb (G_deletion_Delete y3.1 y7.1) fun y18 =>
    kb (G_deletion_Delete y18 y5.1) fun y20 =>
    kb (G_ref06_Same y11 y20) fun y22 =>
    cnd y22 (
      kb (G_deletion_Delete y3.1 0) fun y25 =>
      kb (G_ref06_Same y25 y3.1) fun y27 =>
      cnd y27 (
        kb (G_law13_awake ) fun y30 =>
        some y30) (
        some false)) (
      some false)) (
    some false)
theorem sim_law13_DeletionTwice {p0 : (List Int)} {r : Bool} (hB : B_law13_DeletionTwice p0 = some r) : R 6 [(.pv (.sl p0.length (ints p0)))] [] = some ((bl r), [], []) := by
  rw [R_eq _ _ _ fn_law13_DeletionTwice]
  simp only [Code.fst, Code.snd, Tryd.f6, Option.getD_some]
  unfold B_law13_DeletionTwice at hB
  obtain ⟨y1, k2, hB⟩ := kb_inv hB
  replace k2 := run_make_New k2
  try simp only [Int.cast_ofNat_Int, Int.natCast_zero, List.length_cons, List.length_nil, List.nil_append, List.cons_append, Nat.zero_add, Nat.reduceAdd, Tru.thr_mk, Tru.nodes_mk, Tru.inner_mk, ints_cons, ints_nil, encTs_cons, encTs_nil, es_api_Config_cons, es_api_Config_nil, es_api_Member_cons, es_api_Member_nil] at k2
  try dsimp only at hB
  obtain ⟨y3, k4, hB⟩ := kb_inv hB
  replace k4 := run_make_Config k4
  try simp only [Int.cast_ofNat_Int, Int.natCast_zero, List.length_cons, List.length_nil, List.nil_append, List.cons_append, Nat.zero_add, Nat.reduceAdd, Tru.thr_mk, Tru.nodes_mk, Tru.inner_mk, ints_cons, ints_nil, encTs_cons, encTs_nil, es_api_Config_cons, es_api_Config_nil, es_api_Member_cons, es_api_Member_nil] at k4
  try dsimp only at hB
  obtain ⟨y5, k6, hB⟩ := kb_inv hB
  replace k6 := run_make_Tape_N k6
  try simp only [Int.cast_ofNat_Int, Int.natCast_zero, List.length_cons, List.length_nil, List.nil_append, List.cons_append, Nat.zero_add, Nat.reduceAdd, Tru.thr_mk, Tru.nodes_mk, Tru.inner_mk, ints_cons, ints_nil, encTs_cons, encTs_nil, es_api_Config_cons, es_api_Config_nil, es_api_Member_cons, es_api_Member_nil] at k6
  try dsimp only at hB
  obtain ⟨y7, k8, hB⟩ := kb_inv hB
  replace k8 := run_make_Tape_N k8
  try simp only [Int.cast_ofNat_Int, Int.natCast_zero, List.length_cons, List.length_nil, List.nil_append, List.cons_append, Nat.zero_add, Nat.reduceAdd, Tru.thr_mk, Tru.nodes_mk, Tru.inner_mk, ints_cons, ints_nil, encTs_cons, encTs_nil, es_api_Config_cons, es_api_Config_nil, es_api_Member_cons, es_api_Member_nil] at k8
  try dsimp only at hB
  obtain ⟨y9, k10, hB⟩ := kb_inv hB
  replace k10 := run_deletion_Delete k10
  try simp only [Int.cast_ofNat_Int, Int.natCast_zero, List.length_cons, List.length_nil, List.nil_append, List.cons_append, Nat.zero_add, Nat.reduceAdd, Tru.thr_mk, Tru.nodes_mk, Tru.inner_mk, ints_cons, ints_nil, encTs_cons, encTs_nil, es_api_Config_cons, es_api_Config_nil, es_api_Member_cons, es_api_Member_nil] at k10
  try dsimp only at hB
  obtain ⟨y11, k12, hB⟩ := kb_inv hB
  replace k12 := run_deletion_Delete k12
  try simp only [Int.cast_ofNat_Int, Int.natCast_zero, List.length_cons, List.length_nil, List.nil_append, List.cons_append, Nat.zero_add, Nat.reduceAdd, Tru.thr_mk, Tru.nodes_mk, Tru.inner_mk, ints_cons, ints_nil, encTs_cons, encTs_nil, es_api_Config_cons, es_api_Config_nil, es_api_Member_cons, es_api_Member_nil] at k12
  try dsimp only at hB
  obtain ⟨y13, k14, hB⟩ := kb_inv hB
  replace k14 := run_deletion_Delete k14
  try simp only [Int.cast_ofNat_Int, Int.natCast_zero, List.length_cons, List.length_nil, List.nil_append, List.cons_append, Nat.zero_add, Nat.reduceAdd, Tru.thr_mk, Tru.nodes_mk, Tru.inner_mk, ints_cons, ints_nil, encTs_cons, encTs_nil, es_api_Config_cons, es_api_Config_nil, es_api_Member_cons, es_api_Member_nil] at k14
  try dsimp only at hB
  obtain ⟨y15, k16, hB⟩ := kb_inv hB
  replace k16 := run_ref06_Same k16
  try simp only [Int.cast_ofNat_Int, Int.natCast_zero, List.length_cons, List.length_nil, List.nil_append, List.cons_append, Nat.zero_add, Nat.reduceAdd, Tru.thr_mk, Tru.nodes_mk, Tru.inner_mk, ints_cons, ints_nil, encTs_cons, encTs_nil, es_api_Config_cons, es_api_Config_nil, es_api_Member_cons, es_api_Member_nil] at k16
  try dsimp only at hB
  rcases cnd_inv hB with ⟨c17, hB⟩ | ⟨c17, hB⟩
  · obtain ⟨y18, k19, hB⟩ := kb_inv hB
    replace k19 := run_deletion_Delete k19
    try simp only [Int.cast_ofNat_Int, Int.natCast_zero, List.length_cons, List.length_nil, List.nil_append, List.cons_append, Nat.zero_add, Nat.reduceAdd, Tru.thr_mk, Tru.nodes_mk, Tru.inner_mk, ints_cons, ints_nil, encTs_cons, encTs_nil, es_api_Config_cons, es_api_Config_nil, es_api_Member_cons, es_api_Member_nil, c17] at k19
    try dsimp only at hB
    obtain ⟨y20, k21, hB⟩ := kb_inv hB
    replace k21 := run_deletion_Delete k21
    try simp only [Int.cast_ofNat_Int, Int.natCast_zero, List.length_cons, List.length_nil, List.nil_append, List.cons_append, Nat.zero_add, Nat.reduceAdd, Tru.thr_mk, Tru.nodes_mk, Tru.inner_mk, ints_cons, ints_nil, encTs_cons, encTs_nil, es_api_Config_cons, es_api_Config_nil, es_api_Member_cons, es_api_Member_nil, c17] at k21
    try dsimp only at hB
    obtain ⟨y22, k23, hB⟩ := kb_inv hB
    replace k23 := run_ref06_Same k23
    try simp only [Int.cast_ofNat_Int, Int.natCast_zero, List.length_cons, List.length_nil, List.nil_append, List.cons_append, Nat.zero_add, Nat.reduceAdd, Tru.thr_mk, Tru.nodes_mk, Tru.inner_mk, ints_cons, ints_nil, encTs_cons, encTs_nil, es_api_Config_cons, es_api_Config_nil, es_api_Member_cons, es_api_Member_nil, c17] at k23
    try dsimp only at hB
    rcases cnd_inv hB with ⟨c24, hB⟩ | ⟨c24, hB⟩
    · obtain ⟨y25, k26, hB⟩ := kb_inv hB
      replace k26 := run_deletion_Delete k26
      try simp only [Int.cast_ofNat_Int, Int.natCast_zero, List.length_cons, List.length_nil, List.nil_append, List.cons_append, Nat.zero_add, Nat.reduceAdd, Tru.thr_mk, Tru.nodes_mk, Tru.inner_mk, ints_cons, ints_nil, encTs_cons, encTs_nil, es_api_Config_cons, es_api_Config_nil, es_api_Member_cons, es_api_Member_nil, c17, c24] at k26
      try dsimp only at hB
      obtain ⟨y27, k28, hB⟩ := kb_inv hB
      replace k28 := run_ref06_Same k28
      try simp only [Int.cast_ofNat_Int, Int.natCast_zero, List.length_cons, List.length_nil, List.nil_append, List.cons_append, Nat.zero_add, Nat.reduceAdd, Tru.thr_mk, Tru.nodes_mk, Tru.inner_mk, ints_cons, ints_nil, encTs_cons, encTs_nil, es_api_Config_cons, es_api_Config_nil, es_api_Member_cons, es_api_Member_nil, c17, c24] at k28
      try dsimp only at hB
      rcases cnd_inv hB with ⟨c29, hB⟩ | ⟨c29, hB⟩
      · obtain ⟨y30, k31, hB⟩ := kb_inv hB
        replace k31 := run_law13_awake k31
        try simp only [Int.cast_ofNat_Int, Int.natCast_zero, List.length_cons, List.length_nil, List.nil_append, List.cons_append, Nat.zero_add, Nat.reduceAdd, Tru.thr_mk, Tru.nodes_mk, Tru.inner_mk, ints_cons, ints_nil, encTs_cons, encTs_nil, es_api_Config_cons, es_api_Config_nil, es_api_Member_cons, es_api_Member_nil, c17, c24, c29] at k31
        try dsimp only at hB
        obtain rfl := Option.some.inj hB
        simp -implicitDefEqProofs [-getElem?_pos, -Int.ofNat_lt, -Int.ofNat_le, -Int.natCast_eq_zero, -Int.natCast_pos, -List.length_eq_zero_iff, List.getElem?_cons_zero, List.getElem?_cons_succ, List.getElem?_nil, k2, k4, k6, k8, k10, k12, k14, k16, c17, k19, k21, k23, c24, k26, k28, c29, k31]
        rw [drawK_ok _ _ _ (by kernel_rfl)]
        simp -implicitDefEqProofs [-getElem?_pos, -Int.ofNat_lt, -Int.ofNat_le, -Int.natCast_eq_zero, -Int.natCast_pos, -List.length_eq_zero_iff, List.getElem?_cons_zero, List.getElem?_cons_succ, List.getElem?_nil, k2, k4, k6, k8, k10, k12, k14, k16, c17, k19, k21, k23, c24, k26, k28, c29, k31]
      · obtain rfl := Option.some.inj hB
        simp -implicitDefEqProofs [-getElem?_pos, -Int.ofNat_lt, -Int.ofNat_le, -Int.natCast_eq_zero, -Int.natCast_pos, -List.length_eq_zero_iff, List.getElem?_cons_zero, List.getElem?_cons_succ, List.getElem?_nil, k2, k4, k6, k8, k10, k12, k14, k16, c17, k19, k21, k23, c24, k26, k28, c29]
        rw [drawK_ok _ _ _ (by kernel_rfl)]
        simp -implicitDefEqProofs [-getElem?_pos, -Int.ofNat_lt, -Int.ofNat_le, -Int.natCast_eq_zero, -Int.natCast_pos, -List.length_eq_zero_iff, List.getElem?_cons_zero, List.getElem?_cons_succ, List.getElem?_nil, k2, k4, k6, k8, k10, k12, k14, k16, c17, k19, k21, k23, c24, k26, k28, c29]
    · obtain rfl := Option.some.inj hB
      simp -implicitDefEqProofs [-getElem?_pos, -Int.ofNat_lt, -Int.ofNat_le, -Int.natCast_eq_zero, -Int.natCast_pos, -List.length_eq_zero_iff, List.getElem?_cons_zero, List.getElem?_cons_succ, List.getElem?_nil, k2, k4, k6, k8, k10, k12, k14, k16, c17, k19, k21, k23, c24]
      rw [drawK_ok _ _ _ (by kernel_rfl)]
      simp -implicitDefEqProofs [-getElem?_pos, -Int.ofNat_lt, -Int.ofNat_le, -Int.natCast_eq_zero, -Int.natCast_pos, -List.length_eq_zero_iff, List.getElem?_cons_zero, List.getElem?_cons_succ, List.getElem?_nil, k2, k4, k6, k8, k10, k12, k14, k16, c17, k19, k21, k23, c24]
  · obtain rfl := Option.some.inj hB
    simp -implicitDefEqProofs [-getElem?_pos, -Int.ofNat_lt, -Int.ofNat_le, -Int.natCast_eq_zero, -Int.natCast_pos, -List.length_eq_zero_iff, List.getElem?_cons_zero, List.getElem?_cons_succ, List.getElem?_nil, k2, k4, k6, k8, k10, k12, k14, k16, c17]
    rw [drawK_ok _ _ _ (by kernel_rfl)]
    simp -implicitDefEqProofs [-getElem?_pos, -Int.ofNat_lt, -Int.ofNat_le, -Int.natCast_eq_zero, -Int.natCast_pos, -List.length_eq_zero_iff, List.getElem?_cons_zero, List.getElem?_cons_succ, List.getElem?_nil, k2, k4, k6, k8, k10, k12, k14, k16, c17]
theorem g_law13_DeletionTwice {p0 : (List Int)} {r : Bool} (hB : B_law13_DeletionTwice p0 = some r) : G_law13_DeletionTwice p0 = some r := dec_of (fun a b h => by rcases a with a0_; rcases b with b0_; simp at h; simp [*]) (sim_law13_DeletionTwice hB)
end Go.Am

/-
The plain law of DeletionTwice.
-/
namespace Go.Am
open Go
set_option linter.unusedVariables false
set_option linter.unusedSimpArgs false

theorem delC_zero {c : Conf} (h : ∀ m ∈ c.f0, MemOk (c.f0.length : Int) m) : delC 0 c = c := by
  obtain ⟨l⟩ := c
  unfold delC
  congr 1
  dsimp only at h ⊢
  apply List.ext_getElem (by simp)
  intro i h1 h2
  rw [List.getElem_mapIdx]
  unfold delM
  rw [has_zero]
  simp only [Bool.false_eq_true, if_false]
  rcases h _ (List.getElem_mem h2) with ⟨a, b, c⟩ | e
  · simp only [valB, Bool.and_eq_true] at b
    rw [a, if_pos rfl, del_zero b.2.2]
    generalize l[i] = m at a
    cases m; simp_all
  · rw [e]; rfl
theorem law_DeletionTwice (l : List Int) (hl : ∀ k ∈ l, in64 k) : B_law13_DeletionTwice l = some true := by
  obtain ⟨t0, e0, ht0⟩ := s_New hl
  obtain ⟨c, t1, e1, ⟨hc1, hc2, hc3⟩, ht1⟩ := s_Config 10 (by omega) (by omega) t0 ht0
  obtain ⟨a, t2, e2, ha, ht2⟩ := s_N ht1 (n := 1024) (by omega) (by omega)
  obtain ⟨b, t3, e3, hb, ht3⟩ := s_N ht2 (n := 1024) (by omega) (by omega)
  have hf : Conf.Fine c := ⟨by omega, fun m hm => MemOk_Fine (hc3 m hm)⟩
  have sa : setB a = true := by rw [setB_iff]; omega
  have sb : setB b = true := by rw [setB_iff]; omega
  obtain ⟨o1, o2⟩ := set_or sa sb
  have f1 := delC_Fine a hf
  have f2 := delC_Fine b hf
  have d1 : delC b (delC a c) = delC (or64 a b) c := delC_delC sa sb o1 o2 c
  have d2 : delC a (delC b c) = delC (or64 a b) c := delC_delC sb sa o1 (fun j => by rw [o2, Bool.or_comm]) c
  have f3 := delC_Fine (or64 a b) hf
  unfold B_law13_DeletionTwice
  rw [e0, kb_some, e1, kb_some]
  dsimp only
  rw [e2, kb_some]
  dsimp only
  rw [e3, kb_some]
  dsimp only
  rw [s_Delete _ _ hf, kb_some, s_Delete _ _ f1, kb_some, s_Delete _ _ hf, kb_some, d1, s_ref06_Same' f3 rfl, kb_some, cnd_true]
  rw [s_Delete _ _ hf, kb_some, s_Delete _ _ f2, kb_some, d2, s_ref06_Same' f3 rfl, kb_some, cnd_true]
  rw [s_Delete _ _ hf, kb_some, s_ref06_Same' (delC_Fine 0 hf) (delC_zero hc3), kb_some, cnd_true, s_awake, kb_some]
end Go.Am
