/-
Part 4 of the road to the statement: Gf_make_group, Gf_make_Config, Pu5, Slim, Gf_make_entries, Gf_make_SmallTrust, Gf_make_SmallConfig, Gf_ref13_lower, Gf_ref13_less, Gf_ref13_Trust, Gf_ref13_Delete, Pu8, Pu6.
-/
import Derived.Test.YtflplknhcpkcaaaDoorAn3
/-
How trustquorummake.group runs, as a pure function.
-/
namespace Go.Am
open Go Go.Proofs
set_option linter.unusedVariables false
set_option linter.unusedSimpArgs false
set_option maxRecDepth 4000
set_option maxHeartbeats 4000000
noncomputable def B_make_group_0 (pba0_0_0 : (List Int)) (pba0_1_0 : Int) (p1 : Int) (p2 : Int) (p7_0 : (List Tru)) (p8_0 : Int) (xb5_1_1_0 : (List Int)) (x10_0 : Int) : Option (Stp ((List Int) × Int) Unit) :=
  cnd (decide (x10_0 < p1)) (
    kb (appK xb5_1_1_0 ([x10_0] : List Int) 8) fun L3 =>
    some (.go (L3, (add64 x10_0 3)))) (
    some (.ex 2 (xb5_1_1_0, x10_0)))
def I_make_group_0 (pba0_0_0 : (List Int)) (pba0_1_0 : Int) (p1 : Int) (p2 : Int) (p7_0 : (List Tru)) (p8_0 : Int) (xb5_1_1_0 : (List Int)) (x10_0 : Int) (q : St) : Prop := q (.t 1) = (i64 p1) ∧ q (.t 10) = (i64 x10_0) ∧ q (.t 2) = (i64 p2) ∧ (∃ v : AV, q (.t 7) = v ∧ (ownAt q v (.site 12 3 0) false 3 p7_0.length (encTs p7_0) ∨ (v = .nilsl ∧ p7_0 = []))) ∧ q (.t 8) = (i64 p8_0) ∧ (q (.t 0) = .ptr (.arg 0) 0 0 ∧ q (.i (.arg 0)) = .box 0 [(.pv (.sl pba0_0_0.length (ints pba0_0_0))), (i64 pba0_1_0)]) ∧ (∃ (g : Nat), q (.t 6) = .ptr (.site 0 0 0) g 0 ∧ q (.i (.site 0 0 0)) = .box g [(i64 0), .nilsl, .nilsl]) ∧ (∃ (g : Nat) (w0 : AV), q (.t 9) = .ptr (.site 5 1 0) g 0 ∧ q (.i (.site 5 1 0)) = .box g [(i64 1), w0, .nilsl] ∧ (ownAt q w0 (.site 9 4 0) false 1 xb5_1_1_0.length (ints xb5_1_1_0) ∨ (w0 = .nilsl ∧ xb5_1_1_0 = [])))
def Q_make_group_0 (pba0_0_0 : (List Int)) (pba0_1_0 : Int) (p1 : Int) (p2 : Int) (p7_0 : (List Tru)) (p8_0 : Int) (xb5_1_1_0 : (List Int)) (x10_0 : Int) (q : St) : Prop := q (.t 1) = (i64 p1) ∧ q (.t 2) = (i64 p2) ∧ (∃ v : AV, q (.t 7) = v ∧ (ownAt q v (.site 12 3 0) false 3 p7_0.length (encTs p7_0) ∨ (v = .nilsl ∧ p7_0 = []))) ∧ q (.t 8) = (i64 p8_0) ∧ (q (.t 0) = .ptr (.arg 0) 0 0 ∧ q (.i (.arg 0)) = .box 0 [(.pv (.sl pba0_0_0.length (ints pba0_0_0))), (i64 pba0_1_0)]) ∧ (∃ (g : Nat), q (.t 6) = .ptr (.site 0 0 0) g 0 ∧ q (.i (.site 0 0 0)) = .box g [(i64 0), .nilsl, .nilsl]) ∧ (∃ (g : Nat) (w0 : AV), q (.t 9) = .ptr (.site 5 1 0) g 0 ∧ q (.i (.site 5 1 0)) = .box g [(i64 1), w0, .nilsl] ∧ (ownAt q w0 (.site 9 4 0) false 1 xb5_1_1_0.length (ints xb5_1_1_0) ∨ (w0 = .nilsl ∧ xb5_1_1_0 = [])))
theorem Pb_make_group_0 {pba0_0_0 : (List Int)} {pba0_1_0 : Int} {p1 : Int} {p2 : Int} {p7_0 : (List Tru)} {p8_0 : Int} {xb5_1_1_0 : (List Int)} {x10_0 : Int} {q : St} {r : (Stp ((List Int) × Int) Unit)} (hI : I_make_group_0 pba0_0_0 pba0_1_0 p1 p2 p7_0 p8_0 xb5_1_1_0 x10_0 q) (hB : B_make_group_0 pba0_0_0 pba0_1_0 p1 p2 p7_0 p8_0 xb5_1_1_0 x10_0 = some r) : Res (C Tryd.prog cf (Code.fst (Code.fst (Code.snd (Code.fst (Code.snd (Code.fst (Code.fst (Code.snd (Code.fst (Code.fst (Code.snd (Code.fst (Code.snd (Code.snd ((Tryd.f44.body).getD .skip))))))))))))))) q) (postB 2 (fun a q => I_make_group_0 pba0_0_0 pba0_1_0 p1 p2 p7_0 p8_0 a.1 a.2 q) (fun a q => Q_make_group_0 pba0_0_0 pba0_1_0 p1 p2 p7_0 p8_0 a.1 a.2 q) (fun _ _ => False) r) := by
  simp only [I_make_group_0] at hI
  obtain ⟨q1, q2, q3, ⟨v4, q4, a4⟩, q5, ⟨q6, q7⟩, ⟨g9, q8, q9⟩, ⟨g11, v11_w0, q10, q11, a11_w0⟩⟩ := hI
  simp only [Code.fst, Code.snd, Tryd.f44, Option.getD_some]
  unfold B_make_group_0 at hB
  rcases a4 with ⟨ga4, rfl, oa4⟩ | ⟨rfl, ea4⟩
  · rcases a11_w0 with ⟨ga11_w0, rfl, oa11_w0⟩ | ⟨rfl, ea11_w0⟩
    · rcases cnd_inv hB with ⟨c2, hB⟩ | ⟨c2, hB⟩
      · have pc2 := eq_true (of_decide_eq_true c2)
        obtain ⟨L3, a4, hB⟩ := kb_inv hB
        obtain ⟨a4z, a4a, a4y⟩ := appK_inv a4
        try (simp only [List.nil_append] at a4z; subst a4z)
        have a4b := appK_len a4
        have a4c := ints_appK a4
        have a4d := appK_le a4
        try simp only [Int.cast_ofNat_Int, Int.natCast_zero, List.length_cons, List.length_nil, List.nil_append, List.cons_append, Nat.zero_add, Nat.reduceAdd, Tru.thr_mk, Tru.nodes_mk, Tru.inner_mk, ints_cons, ints_nil, encTs_cons, encTs_nil, es_api_Config_cons, es_api_Config_nil, es_api_Member_cons, es_api_Member_nil] at a4a a4b a4c
        try replace a4b : _ = (1 : Nat) := a4b.symm
        try dsimp only at hB
        obtain rfl := Option.some.inj hB
        try simp -implicitDefEqProofs [-getElem?_pos, -Int.ofNat_lt, -Int.ofNat_le, -Int.natCast_eq_zero, -Int.natCast_pos, -List.length_eq_zero_iff, List.getElem?_cons_zero, List.getElem?_cons_succ, List.getElem?_nil, q1, q2, q3, q4, q5, q6, q7, q8, q9, q10, q11, oa4, oa11_w0, c2, pc2, a4a, a4b, a4c, a4d]
        refine Res.bgo ?_
        simp -implicitDefEqProofs [-getElem?_pos, -Int.ofNat_lt, -Int.ofNat_le, -Int.natCast_eq_zero, -Int.natCast_pos, -List.length_eq_zero_iff, List.getElem?_cons_zero, List.getElem?_cons_succ, List.getElem?_nil, and_assoc, I_make_group_0, ownAt, q1, q2, q3, q4, q5, q6, q7, q8, q9, q10, q11, oa4, oa11_w0, c2, pc2, a4a, a4b, a4c, a4d]
      · have pc2 := eq_false (of_decide_eq_false c2)
        obtain rfl := Option.some.inj hB
        try simp -implicitDefEqProofs [-getElem?_pos, -Int.ofNat_lt, -Int.ofNat_le, -Int.natCast_eq_zero, -Int.natCast_pos, -List.length_eq_zero_iff, List.getElem?_cons_zero, List.getElem?_cons_succ, List.getElem?_nil, q1, q2, q3, q4, q5, q6, q7, q8, q9, q10, q11, oa4, oa11_w0, c2, pc2]
        refine Res.bex ?_
        simp -implicitDefEqProofs [-getElem?_pos, -Int.ofNat_lt, -Int.ofNat_le, -Int.natCast_eq_zero, -Int.natCast_pos, -List.length_eq_zero_iff, List.getElem?_cons_zero, List.getElem?_cons_succ, List.getElem?_nil, and_assoc, Q_make_group_0, ownAt, q1, q2, q3, q4, q5, q6, q7, q8, q9, q10, q11, oa4, oa11_w0, c2, pc2]
    · try subst ea11_w0
      rcases cnd_inv hB with ⟨c2, hB⟩ | ⟨c2, hB⟩
      · have pc2 := eq_true (of_decide_eq_true c2)
        obtain ⟨L3, a4, hB⟩ := kb_inv hB
        obtain ⟨a4z, a4a, a4y⟩ := appK_inv a4
        simp only [List.nil_append] at a4z
        subst a4z
        try dsimp only at hB
        obtain rfl := Option.some.inj hB
        try simp -implicitDefEqProofs [-getElem?_pos, -Int.ofNat_lt, -Int.ofNat_le, -Int.natCast_eq_zero, -Int.natCast_pos, -List.length_eq_zero_iff, List.getElem?_cons_zero, List.getElem?_cons_succ, List.getElem?_nil, q1, q2, q3, q4, q5, q6, q7, q8, q9, q10, q11, oa4, c2, pc2]
        refine Res.bgo ?_
        simp -implicitDefEqProofs [-getElem?_pos, -Int.ofNat_lt, -Int.ofNat_le, -Int.natCast_eq_zero, -Int.natCast_pos, -List.length_eq_zero_iff, List.getElem?_cons_zero, List.getElem?_cons_succ, List.getElem?_nil, and_assoc, I_make_group_0, ownAt, q1, q2, q3, q4, q5, q6, q7, q8, q9, q10, q11, oa4, c2, pc2]
      · have pc2 := eq_false (of_decide_eq_false c2)
        obtain rfl := Option.some.inj hB
        try simp -implicitDefEqProofs [-getElem?_pos, -Int.ofNat_lt, -Int.ofNat_le, -Int.natCast_eq_zero, -Int.natCast_pos, -List.length_eq_zero_iff, List.getElem?_cons_zero, List.getElem?_cons_succ, List.getElem?_nil, q1, q2, q3, q4, q5, q6, q7, q8, q9, q10, q11, oa4, c2, pc2]
        refine Res.bex ?_
        simp -implicitDefEqProofs [-getElem?_pos, -Int.ofNat_lt, -Int.ofNat_le, -Int.natCast_eq_zero, -Int.natCast_pos, -List.length_eq_zero_iff, List.getElem?_cons_zero, List.getElem?_cons_succ, List.getElem?_nil, and_assoc, Q_make_group_0, ownAt, q1, q2, q3, q4, q5, q6, q7, q8, q9, q10, q11, oa4, c2, pc2]
  · try subst ea4
    rcases a11_w0 with ⟨ga11_w0, rfl, oa11_w0⟩ | ⟨rfl, ea11_w0⟩
    · rcases cnd_inv hB with ⟨c2, hB⟩ | ⟨c2, hB⟩
      · have pc2 := eq_true (of_decide_eq_true c2)
        obtain ⟨L3, a4, hB⟩ := kb_inv hB
        obtain ⟨a4z, a4a, a4y⟩ := appK_inv a4
        try (simp only [List.nil_append] at a4z; subst a4z)
        have a4b := appK_len a4
        have a4c := ints_appK a4
        have a4d := appK_le a4
        try simp only [Int.cast_ofNat_Int, Int.natCast_zero, List.length_cons, List.length_nil, List.nil_append, List.cons_append, Nat.zero_add, Nat.reduceAdd, Tru.thr_mk, Tru.nodes_mk, Tru.inner_mk, ints_cons, ints_nil, encTs_cons, encTs_nil, es_api_Config_cons, es_api_Config_nil, es_api_Member_cons, es_api_Member_nil] at a4a a4b a4c
        try replace a4b : _ = (1 : Nat) := a4b.symm
        try dsimp only at hB
        obtain rfl := Option.some.inj hB
        try simp -implicitDefEqProofs [-getElem?_pos, -Int.ofNat_lt, -Int.ofNat_le, -Int.natCast_eq_zero, -Int.natCast_pos, -List.length_eq_zero_iff, List.getElem?_cons_zero, List.getElem?_cons_succ, List.getElem?_nil, q1, q2, q3, q4, q5, q6, q7, q8, q9, q10, q11, oa11_w0, c2, pc2, a4a, a4b, a4c, a4d]
        refine Res.bgo ?_
        simp -implicitDefEqProofs [-getElem?_pos, -Int.ofNat_lt, -Int.ofNat_le, -Int.natCast_eq_zero, -Int.natCast_pos, -List.length_eq_zero_iff, List.getElem?_cons_zero, List.getElem?_cons_succ, List.getElem?_nil, and_assoc, I_make_group_0, ownAt, q1, q2, q3, q4, q5, q6, q7, q8, q9, q10, q11, oa11_w0, c2, pc2, a4a, a4b, a4c, a4d]
      · have pc2 := eq_false (of_decide_eq_false c2)
        obtain rfl := Option.some.inj hB
        try simp -implicitDefEqProofs [-getElem?_pos, -Int.ofNat_lt, -Int.ofNat_le, -Int.natCast_eq_zero, -Int.natCast_pos, -List.length_eq_zero_iff, List.getElem?_cons_zero, List.getElem?_cons_succ, List.getElem?_nil, q1, q2, q3, q4, q5, q6, q7, q8, q9, q10, q11, oa11_w0, c2, pc2]
        refine Res.bex ?_
        simp -implicitDefEqProofs [-getElem?_pos, -Int.ofNat_lt, -Int.ofNat_le, -Int.natCast_eq_zero, -Int.natCast_pos, -List.length_eq_zero_iff, List.getElem?_cons_zero, List.getElem?_cons_succ, List.getElem?_nil, and_assoc, Q_make_group_0, ownAt, q1, q2, q3, q4, q5, q6, q7, q8, q9, q10, q11, oa11_w0, c2, pc2]
    · try subst ea11_w0
      rcases cnd_inv hB with ⟨c2, hB⟩ | ⟨c2, hB⟩
      · have pc2 := eq_true (of_decide_eq_true c2)
        obtain ⟨L3, a4, hB⟩ := kb_inv hB
        obtain ⟨a4z, a4a, a4y⟩ := appK_inv a4
        simp only [List.nil_append] at a4z
        subst a4z
        try dsimp only at hB
        obtain rfl := Option.some.inj hB
        try simp -implicitDefEqProofs [-getElem?_pos, -Int.ofNat_lt, -Int.ofNat_le, -Int.natCast_eq_zero, -Int.natCast_pos, -List.length_eq_zero_iff, List.getElem?_cons_zero, List.getElem?_cons_succ, List.getElem?_nil, q1, q2, q3, q4, q5, q6, q7, q8, q9, q10, q11, c2, pc2]
        refine Res.bgo ?_
        simp -implicitDefEqProofs [-getElem?_pos, -Int.ofNat_lt, -Int.ofNat_le, -Int.natCast_eq_zero, -Int.natCast_pos, -List.length_eq_zero_iff, List.getElem?_cons_zero, List.getElem?_cons_succ, List.getElem?_nil, and_assoc, I_make_group_0, ownAt, q1, q2, q3, q4, q5, q6, q7, q8, q9, q10, q11, c2, pc2]
      · have pc2 := eq_false (of_decide_eq_false c2)
        obtain rfl := Option.some.inj hB
        try simp -implicitDefEqProofs [-getElem?_pos, -Int.ofNat_lt, -Int.ofNat_le, -Int.natCast_eq_zero, -Int.natCast_pos, -List.length_eq_zero_iff, List.getElem?_cons_zero, List.getElem?_cons_succ, List.getElem?_nil, q1, q2, q3, q4, q5, q6, q7, q8, q9, q10, q11, c2, pc2]
        refine Res.bex ?_
        simp -implicitDefEqProofs [-getElem?_pos, -Int.ofNat_lt, -Int.ofNat_le, -Int.natCast_eq_zero, -Int.natCast_pos, -List.length_eq_zero_iff, List.getElem?_cons_zero, List.getElem?_cons_succ, List.getElem?_nil, and_assoc, Q_make_group_0, ownAt, q1, q2, q3, q4, q5, q6, q7, q8, q9, q10, q11, c2, pc2]
theorem P_make_group_0 {pba0_0_0 : (List Int)} {pba0_1_0 : Int} {p1 : Int} {p2 : Int} {p7_0 : (List Tru)} {p8_0 : Int} {xb5_1_1_0 : (List Int)} {x10_0 : Int} {cc : Code} (hcc : cc = .block 2 (.loop (Code.fst (Code.fst (Code.snd (Code.fst (Code.snd (Code.fst (Code.fst (Code.snd (Code.fst (Code.fst (Code.snd (Code.fst (Code.snd (Code.snd ((Tryd.f44.body).getD .skip))))))))))))))))) {s : St} {z : Option (Ex × St)} (hz : C Tryd.prog cf cc s = z) {r : (Stp ((List Int) × Int) Unit)} (hI : I_make_group_0 pba0_0_0 pba0_1_0 p1 p2 p7_0 p8_0 xb5_1_1_0 x10_0 s) (hB : iterW (fun a => B_make_group_0 pba0_0_0 pba0_1_0 p1 p2 p7_0 p8_0 a.1 a.2) (xb5_1_1_0, x10_0) = some r) : Res z (postS (fun a q => Q_make_group_0 pba0_0_0 pba0_1_0 p1 p2 p7_0 p8_0 a.1 a.2 q) (fun _ _ => False) r) := by
  subst hcc
  exact while_sim (I := fun a q => I_make_group_0 pba0_0_0 pba0_1_0 p1 p2 p7_0 p8_0 a.1 a.2 q) (Q := (fun a q => Q_make_group_0 pba0_0_0 pba0_1_0 p1 p2 p7_0 p8_0 a.1 a.2 q)) (QR := (fun _ _ => False)) (fun a q r h hB => Pb_make_group_0 h hB) hI hz hB
noncomputable def B_make_group_1 (p1 : Int) (p2 : Int) (xba0_0_1 : (List Int)) (xba0_1_1 : Int) (x7_1 : (List Tru)) (x8_1 : Int) : Option (Stp ((List Int) × Int × (List Tru) × Int) Unit) :=
  cnd (decide (x8_1 < 3)) (
    kb (iterW (fun a => B_make_group_0 xba0_0_1 xba0_1_1 p1 p2 x7_1 x8_1 a.1 a.2) (([] : (List Int)), x8_1)) fun o => stpK o (fun z5 =>
      cnd (decide (0 < (z5.1.length : Int))) (
        kb (G_make_Tape_Range (S_trustquorummake_Tape.mk xba0_0_1 xba0_1_1) 1 (z5.1.length : Int)) fun y7 =>
        kb (appK x7_1 ([(Tru.mk y7.1 z5.1 ([] : (List Tru)))] : List Tru) 56) fun L9 =>
        some (.go (y7.2.f0, y7.2.f1, L9, (add64 x8_1 1)))) (
        some (.go (xba0_0_1, xba0_1_1, x7_1, (add64 x8_1 1))))) (fun z5r =>
      none)) (
    some (.ex 0 (xba0_0_1, xba0_1_1, x7_1, x8_1)))
def I_make_group_1 (p1 : Int) (p2 : Int) (xba0_0_1 : (List Int)) (xba0_1_1 : Int) (x7_1 : (List Tru)) (x8_1 : Int) (q : St) : Prop := q (.t 1) = (i64 p1) ∧ q (.t 2) = (i64 p2) ∧ (∃ v : AV, q (.t 7) = v ∧ (ownAt q v (.site 12 3 0) false 3 x7_1.length (encTs x7_1) ∨ (v = .nilsl ∧ x7_1 = []))) ∧ q (.t 8) = (i64 x8_1) ∧ (q (.t 0) = .ptr (.arg 0) 0 0 ∧ q (.i (.arg 0)) = .box 0 [(.pv (.sl xba0_0_1.length (ints xba0_0_1))), (i64 xba0_1_1)]) ∧ (∃ (g : Nat), q (.t 6) = .ptr (.site 0 0 0) g 0 ∧ q (.i (.site 0 0 0)) = .box g [(i64 0), .nilsl, .nilsl])
def Q_make_group_1 (p1 : Int) (p2 : Int) (xba0_0_1 : (List Int)) (xba0_1_1 : Int) (x7_1 : (List Tru)) (x8_1 : Int) (q : St) : Prop := q (.t 2) = (i64 p2) ∧ (∃ v : AV, q (.t 7) = v ∧ (ownAt q v (.site 12 3 0) false 3 x7_1.length (encTs x7_1) ∨ (v = .nilsl ∧ x7_1 = []))) ∧ (q (.t 0) = .ptr (.arg 0) 0 0 ∧ q (.i (.arg 0)) = .box 0 [(.pv (.sl xba0_0_1.length (ints xba0_0_1))), (i64 xba0_1_1)]) ∧ (∃ (g : Nat), q (.t 6) = .ptr (.site 0 0 0) g 0 ∧ q (.i (.site 0 0 0)) = .box g [(i64 0), .nilsl, .nilsl])
theorem Pb_make_group_1 {p1 : Int} {p2 : Int} {xba0_0_1 : (List Int)} {xba0_1_1 : Int} {x7_1 : (List Tru)} {x8_1 : Int} {q : St} {r : (Stp ((List Int) × Int × (List Tru) × Int) Unit)} (hI : I_make_group_1 p1 p2 xba0_0_1 xba0_1_1 x7_1 x8_1 q) (hB : B_make_group_1 p1 p2 xba0_0_1 xba0_1_1 x7_1 x8_1 = some r) : Res (C Tryd.prog cf (Code.fst (Code.fst (Code.snd (Code.fst (Code.snd (Code.snd ((Tryd.f44.body).getD .skip))))))) q) (postB 0 (fun a q => I_make_group_1 p1 p2 a.1 a.2.1 a.2.2.1 a.2.2.2 q) (fun a q => Q_make_group_1 p1 p2 a.1 a.2.1 a.2.2.1 a.2.2.2 q) (fun _ _ => False) r) := by
  simp only [I_make_group_1] at hI
  obtain ⟨q1, q2, ⟨v3, q3, a3⟩, q4, ⟨q5, q6⟩, ⟨g8, q7, q8⟩⟩ := hI
  simp only [Code.fst, Code.snd, Tryd.f44, Option.getD_some]
  generalize hc0 : Code.block 2 _ = cc0
  unfold B_make_group_1 at hB
  rcases a3 with ⟨ga3, rfl, oa3⟩ | ⟨rfl, ea3⟩
  · rcases cnd_inv hB with ⟨c1, hB⟩ | ⟨c1, hB⟩
    · have pc1 := eq_true (of_decide_eq_true c1)
      try simp -implicitDefEqProofs [-getElem?_pos, -Int.ofNat_lt, -Int.ofNat_le, -Int.natCast_eq_zero, -Int.natCast_pos, -List.length_eq_zero_iff, List.getElem?_cons_zero, List.getElem?_cons_succ, List.getElem?_nil, q1, q2, q3, q4, q5, q6, q7, q8, oa3, c1, pc1]
      generalize hz0 : C Tryd.prog cf cc0 _ = z0
      obtain ⟨o, hB1, hB⟩ := kb_inv hB
      have hJ := P_make_group_0 (hc0.symm.trans (by kernel_rfl)) hz0 (by simp -implicitDefEqProofs [-getElem?_pos, -Int.ofNat_lt, -Int.ofNat_le, -Int.natCast_eq_zero, -Int.natCast_pos, -List.length_eq_zero_iff, List.getElem?_cons_zero, List.getElem?_cons_succ, List.getElem?_nil, and_assoc, I_make_group_0, ownAt, q1, q2, q3, q4, q5, q6, q7, q8, oa3, c1, pc1]) hB1
      obtain ⟨e0, s0, rfl, hq⟩ := hJ.open
      clear hB1
      rcases o with z5 | ⟨_, _⟩ | z5r
      · simp only [stpK_go] at hB
        obtain ⟨rfl, hq⟩ := hq
        obtain ⟨u0_0, u0_1⟩ := z5
        dsimp only at hB hq
        simp only [Q_make_group_0] at hq
        obtain ⟨q5_1, q5_2, ⟨v5_3, q5_3, a5_3⟩, q5_4, ⟨q5_5, q5_6⟩, ⟨g5_8, q5_7, q5_8⟩, ⟨g5_10, v5_10_w0, q5_9, q5_10, a5_10_w0⟩⟩ := hq
        rcases a5_3 with ⟨ga5_3, rfl, oa5_3⟩ | ⟨rfl, ea5_3⟩
        · rcases a5_10_w0 with ⟨ga5_10_w0, rfl, oa5_10_w0⟩ | ⟨rfl, ea5_10_w0⟩
          · rcases cnd_inv hB with ⟨c6, hB⟩ | ⟨c6, hB⟩
            · have pc6 := eq_true (of_decide_eq_true c6)
              have nc6 := c6
              try simp only [List.length_nil, List.length_cons, Int.cast_ofNat_Int, Int.natCast_zero, Nat.zero_add, Nat.reduceAdd, Int.reduceLT, Int.reduceLE, Int.reduceEq, eq_self, decide_true, decide_false, Bool.true_eq_false, Bool.false_eq_true] at nc6
              all_goals
                obtain ⟨y7, k8, hB⟩ := kb_inv hB
                replace k8 := run_make_Tape_Range k8
                try simp only [Int.cast_ofNat_Int, Int.natCast_zero, List.length_cons, List.length_nil, List.nil_append, List.cons_append, Nat.zero_add, Nat.reduceAdd, Tru.thr_mk, Tru.nodes_mk, Tru.inner_mk, ints_cons, ints_nil, encTs_cons, encTs_nil, es_api_Config_cons, es_api_Config_nil, es_api_Member_cons, es_api_Member_nil] at k8
                try dsimp only at hB
                obtain ⟨L9, a10, hB⟩ := kb_inv hB
                obtain ⟨a10z, a10a, a10y⟩ := appK_inv a10
                try (simp only [List.nil_append] at a10z; subst a10z)
                have a10b := appK_len a10
                have a10c := encTs_appK a10
                have a10d := appK_le a10
                try simp only [Int.cast_ofNat_Int, Int.natCast_zero, List.length_cons, List.length_nil, List.nil_append, List.cons_append, Nat.zero_add, Nat.reduceAdd, Tru.thr_mk, Tru.nodes_mk, Tru.inner_mk, ints_cons, ints_nil, encTs_cons, encTs_nil, es_api_Config_cons, es_api_Config_nil, es_api_Member_cons, es_api_Member_nil] at a10a a10b a10c
                try replace a10b : _ = (1 : Nat) := a10b.symm
                try dsimp only at hB
                obtain rfl := Option.some.inj hB
                try simp -implicitDefEqProofs [-getElem?_pos, -Int.ofNat_lt, -Int.ofNat_le, -Int.natCast_eq_zero, -Int.natCast_pos, -List.length_eq_zero_iff, List.getElem?_cons_zero, List.getElem?_cons_succ, List.getElem?_nil, q5_1, q5_2, q5_3, q5_4, q5_5, q5_6, q5_7, q5_8, q5_9, q5_10, oa5_3, oa5_10_w0, c1, pc1, c6, pc6, nc6, k8, a10a, a10b, a10c, a10d]
                refine Res.bgo ?_
                simp -implicitDefEqProofs [-getElem?_pos, -Int.ofNat_lt, -Int.ofNat_le, -Int.natCast_eq_zero, -Int.natCast_pos, -List.length_eq_zero_iff, List.getElem?_cons_zero, List.getElem?_cons_succ, List.getElem?_nil, and_assoc, I_make_group_1, ownAt, q5_1, q5_2, q5_3, q5_4, q5_5, q5_6, q5_7, q5_8, q5_9, q5_10, oa5_3, oa5_10_w0, c1, pc1, c6, pc6, nc6, k8, a10a, a10b, a10c, a10d]
            · have pc6 := eq_false (of_decide_eq_false c6)
              have nc6 := c6
              try simp only [List.length_nil, List.length_cons, Int.cast_ofNat_Int, Int.natCast_zero, Nat.zero_add, Nat.reduceAdd, Int.reduceLT, Int.reduceLE, Int.reduceEq, eq_self, decide_true, decide_false, Bool.true_eq_false, Bool.false_eq_true] at nc6
              all_goals
                obtain rfl := Option.some.inj hB
                try simp -implicitDefEqProofs [-getElem?_pos, -Int.ofNat_lt, -Int.ofNat_le, -Int.natCast_eq_zero, -Int.natCast_pos, -List.length_eq_zero_iff, List.getElem?_cons_zero, List.getElem?_cons_succ, List.getElem?_nil, q5_1, q5_2, q5_3, q5_4, q5_5, q5_6, q5_7, q5_8, q5_9, q5_10, oa5_3, oa5_10_w0, c1, pc1, c6, pc6, nc6]
                refine Res.bgo ?_
                simp -implicitDefEqProofs [-getElem?_pos, -Int.ofNat_lt, -Int.ofNat_le, -Int.natCast_eq_zero, -Int.natCast_pos, -List.length_eq_zero_iff, List.getElem?_cons_zero, List.getElem?_cons_succ, List.getElem?_nil, and_assoc, I_make_group_1, ownAt, q5_1, q5_2, q5_3, q5_4, q5_5, q5_6, q5_7, q5_8, q5_9, q5_10, oa5_3, oa5_10_w0, c1, pc1, c6, pc6, nc6]
          · try subst ea5_10_w0
            rcases cnd_inv hB with ⟨c6, hB⟩ | ⟨c6, hB⟩
            · have pc6 := eq_true (of_decide_eq_true c6)
              have nc6 := c6
              try simp only [List.length_nil, List.length_cons, Int.cast_ofNat_Int, Int.natCast_zero, Nat.zero_add, Nat.reduceAdd, Int.reduceLT, Int.reduceLE, Int.reduceEq, eq_self, decide_true, decide_false, Bool.true_eq_false, Bool.false_eq_true] at nc6
              all_goals
                obtain ⟨y7, k8, hB⟩ := kb_inv hB
                replace k8 := run_make_Tape_Range k8
                try simp only [Int.cast_ofNat_Int, Int.natCast_zero, List.length_cons, List.length_nil, List.nil_append, List.cons_append, Nat.zero_add, Nat.reduceAdd, Tru.thr_mk, Tru.nodes_mk, Tru.inner_mk, ints_cons, ints_nil, encTs_cons, encTs_nil, es_api_Config_cons, es_api_Config_nil, es_api_Member_cons, es_api_Member_nil] at k8
                try dsimp only at hB
                obtain ⟨L9, a10, hB⟩ := kb_inv hB
                obtain ⟨a10z, a10a, a10y⟩ := appK_inv a10
                try (simp only [List.nil_append] at a10z; subst a10z)
                have a10b := appK_len a10
                have a10c := encTs_appK a10
                have a10d := appK_le a10
                try simp only [Int.cast_ofNat_Int, Int.natCast_zero, List.length_cons, List.length_nil, List.nil_append, List.cons_append, Nat.zero_add, Nat.reduceAdd, Tru.thr_mk, Tru.nodes_mk, Tru.inner_mk, ints_cons, ints_nil, encTs_cons, encTs_nil, es_api_Config_cons, es_api_Config_nil, es_api_Member_cons, es_api_Member_nil] at a10a a10b a10c
                try replace a10b : _ = (1 : Nat) := a10b.symm
                try dsimp only at hB
                obtain rfl := Option.some.inj hB
                try simp -implicitDefEqProofs [-getElem?_pos, -Int.ofNat_lt, -Int.ofNat_le, -Int.natCast_eq_zero, -Int.natCast_pos, -List.length_eq_zero_iff, List.getElem?_cons_zero, List.getElem?_cons_succ, List.getElem?_nil, q5_1, q5_2, q5_3, q5_4, q5_5, q5_6, q5_7, q5_8, q5_9, q5_10, oa5_3, c1, pc1, c6, pc6, nc6, k8, a10a, a10b, a10c, a10d]
                refine Res.bgo ?_
                simp -implicitDefEqProofs [-getElem?_pos, -Int.ofNat_lt, -Int.ofNat_le, -Int.natCast_eq_zero, -Int.natCast_pos, -List.length_eq_zero_iff, List.getElem?_cons_zero, List.getElem?_cons_succ, List.getElem?_nil, and_assoc, I_make_group_1, ownAt, q5_1, q5_2, q5_3, q5_4, q5_5, q5_6, q5_7, q5_8, q5_9, q5_10, oa5_3, c1, pc1, c6, pc6, nc6, k8, a10a, a10b, a10c, a10d]
            · have pc6 := eq_false (of_decide_eq_false c6)
              have nc6 := c6
              try simp only [List.length_nil, List.length_cons, Int.cast_ofNat_Int, Int.natCast_zero, Nat.zero_add, Nat.reduceAdd, Int.reduceLT, Int.reduceLE, Int.reduceEq, eq_self, decide_true, decide_false, Bool.true_eq_false, Bool.false_eq_true] at nc6
              all_goals
                obtain rfl := Option.some.inj hB
                try simp -implicitDefEqProofs [-getElem?_pos, -Int.ofNat_lt, -Int.ofNat_le, -Int.natCast_eq_zero, -Int.natCast_pos, -List.length_eq_zero_iff, List.getElem?_cons_zero, List.getElem?_cons_succ, List.getElem?_nil, q5_1, q5_2, q5_3, q5_4, q5_5, q5_6, q5_7, q5_8, q5_9, q5_10, oa5_3, c1, pc1, c6, pc6, nc6]
                refine Res.bgo ?_
                simp -implicitDefEqProofs [-getElem?_pos, -Int.ofNat_lt, -Int.ofNat_le, -Int.natCast_eq_zero, -Int.natCast_pos, -List.length_eq_zero_iff, List.getElem?_cons_zero, List.getElem?_cons_succ, List.getElem?_nil, and_assoc, I_make_group_1, ownAt, q5_1, q5_2, q5_3, q5_4, q5_5, q5_6, q5_7, q5_8, q5_9, q5_10, oa5_3, c1, pc1, c6, pc6, nc6]
        · try subst ea5_3
          rcases a5_10_w0 with ⟨ga5_10_w0, rfl, oa5_10_w0⟩ | ⟨rfl, ea5_10_w0⟩
          · rcases cnd_inv hB with ⟨c6, hB⟩ | ⟨c6, hB⟩
            · have pc6 := eq_true (of_decide_eq_true c6)
              have nc6 := c6
              try simp only [List.length_nil, List.length_cons, Int.cast_ofNat_Int, Int.natCast_zero, Nat.zero_add, Nat.reduceAdd, Int.reduceLT, Int.reduceLE, Int.reduceEq, eq_self, decide_true, decide_false, Bool.true_eq_false, Bool.false_eq_true] at nc6
              all_goals
                obtain ⟨y7, k8, hB⟩ := kb_inv hB
                replace k8 := run_make_Tape_Range k8
                try simp only [Int.cast_ofNat_Int, Int.natCast_zero, List.length_cons, List.length_nil, List.nil_append, List.cons_append, Nat.zero_add, Nat.reduceAdd, Tru.thr_mk, Tru.nodes_mk, Tru.inner_mk, ints_cons, ints_nil, encTs_cons, encTs_nil, es_api_Config_cons, es_api_Config_nil, es_api_Member_cons, es_api_Member_nil] at k8
                try dsimp only at hB
                obtain ⟨L9, a10, hB⟩ := kb_inv hB
                obtain ⟨a10z, a10a, a10y⟩ := appK_inv a10
                simp only [List.nil_append] at a10z
                subst a10z
                try dsimp only at hB
                obtain rfl := Option.some.inj hB
                try simp -implicitDefEqProofs [-getElem?_pos, -Int.ofNat_lt, -Int.ofNat_le, -Int.natCast_eq_zero, -Int.natCast_pos, -List.length_eq_zero_iff, List.getElem?_cons_zero, List.getElem?_cons_succ, List.getElem?_nil, q5_1, q5_2, q5_3, q5_4, q5_5, q5_6, q5_7, q5_8, q5_9, q5_10, oa5_10_w0, c1, pc1, c6, pc6, nc6, k8]
                refine Res.bgo ?_
                simp -implicitDefEqProofs [-getElem?_pos, -Int.ofNat_lt, -Int.ofNat_le, -Int.natCast_eq_zero, -Int.natCast_pos, -List.length_eq_zero_iff, List.getElem?_cons_zero, List.getElem?_cons_succ, List.getElem?_nil, and_assoc, I_make_group_1, ownAt, q5_1, q5_2, q5_3, q5_4, q5_5, q5_6, q5_7, q5_8, q5_9, q5_10, oa5_10_w0, c1, pc1, c6, pc6, nc6, k8]
            · have pc6 := eq_false (of_decide_eq_false c6)
              have nc6 := c6
              try simp only [List.length_nil, List.length_cons, Int.cast_ofNat_Int, Int.natCast_zero, Nat.zero_add, Nat.reduceAdd, Int.reduceLT, Int.reduceLE, Int.reduceEq, eq_self, decide_true, decide_false, Bool.true_eq_false, Bool.false_eq_true] at nc6
              all_goals
                obtain rfl := Option.some.inj hB
                try simp -implicitDefEqProofs [-getElem?_pos, -Int.ofNat_lt, -Int.ofNat_le, -Int.natCast_eq_zero, -Int.natCast_pos, -List.length_eq_zero_iff, List.getElem?_cons_zero, List.getElem?_cons_succ, List.getElem?_nil, q5_1, q5_2, q5_3, q5_4, q5_5, q5_6, q5_7, q5_8, q5_9, q5_10, oa5_10_w0, c1, pc1, c6, pc6, nc6]
                refine Res.bgo ?_
                simp -implicitDefEqProofs [-getElem?_pos, -Int.ofNat_lt, -Int.ofNat_le, -Int.natCast_eq_zero, -Int.natCast_pos, -List.length_eq_zero_iff, List.getElem?_cons_zero, List.getElem?_cons_succ, List.getElem?_nil, and_assoc, I_make_group_1, ownAt, q5_1, q5_2, q5_3, q5_4, q5_5, q5_6, q5_7, q5_8, q5_9, q5_10, oa5_10_w0, c1, pc1, c6, pc6, nc6]
          · try subst ea5_10_w0
            rcases cnd_inv hB with ⟨c6, hB⟩ | ⟨c6, hB⟩
            · have pc6 := eq_true (of_decide_eq_true c6)
              have nc6 := c6
              try simp only [List.length_nil, List.length_cons, Int.cast_ofNat_Int, Int.natCast_zero, Nat.zero_add, Nat.reduceAdd, Int.reduceLT, Int.reduceLE, Int.reduceEq, eq_self, decide_true, decide_false, Bool.true_eq_false, Bool.false_eq_true] at nc6
              all_goals
                obtain ⟨y7, k8, hB⟩ := kb_inv hB
                replace k8 := run_make_Tape_Range k8
                try simp only [Int.cast_ofNat_Int, Int.natCast_zero, List.length_cons, List.length_nil, List.nil_append, List.cons_append, Nat.zero_add, Nat.reduceAdd, Tru.thr_mk, Tru.nodes_mk, Tru.inner_mk, ints_cons, ints_nil, encTs_cons, encTs_nil, es_api_Config_cons, es_api_Config_nil, es_api_Member_cons, es_api_Member_nil] at k8
                try dsimp only at hB
                obtain ⟨L9, a10, hB⟩ := kb_inv hB
                obtain ⟨a10z, a10a, a10y⟩ := appK_inv a10
                simp only [List.nil_append] at a10z
                subst a10z
                try dsimp only at hB
                obtain rfl := Option.some.inj hB
                try simp -implicitDefEqProofs [-getElem?_pos, -Int.ofNat_lt, -Int.ofNat_le, -Int.natCast_eq_zero, -Int.natCast_pos, -List.length_eq_zero_iff, List.getElem?_cons_zero, List.getElem?_cons_succ, List.getElem?_nil, q5_1, q5_2, q5_3, q5_4, q5_5, q5_6, q5_7, q5_8, q5_9, q5_10, c1, pc1, c6, pc6, nc6, k8]
                refine Res.bgo ?_
                simp -implicitDefEqProofs [-getElem?_pos, -Int.ofNat_lt, -Int.ofNat_le, -Int.natCast_eq_zero, -Int.natCast_pos, -List.length_eq_zero_iff, List.getElem?_cons_zero, List.getElem?_cons_succ, List.getElem?_nil, and_assoc, I_make_group_1, ownAt, q5_1, q5_2, q5_3, q5_4, q5_5, q5_6, q5_7, q5_8, q5_9, q5_10, c1, pc1, c6, pc6, nc6, k8]
            · have pc6 := eq_false (of_decide_eq_false c6)
              have nc6 := c6
              try simp only [List.length_nil, List.length_cons, Int.cast_ofNat_Int, Int.natCast_zero, Nat.zero_add, Nat.reduceAdd, Int.reduceLT, Int.reduceLE, Int.reduceEq, eq_self, decide_true, decide_false, Bool.true_eq_false, Bool.false_eq_true] at nc6
              all_goals
                obtain rfl := Option.some.inj hB
                try simp -implicitDefEqProofs [-getElem?_pos, -Int.ofNat_lt, -Int.ofNat_le, -Int.natCast_eq_zero, -Int.natCast_pos, -List.length_eq_zero_iff, List.getElem?_cons_zero, List.getElem?_cons_succ, List.getElem?_nil, q5_1, q5_2, q5_3, q5_4, q5_5, q5_6, q5_7, q5_8, q5_9, q5_10, c1, pc1, c6, pc6, nc6]
                refine Res.bgo ?_
                simp -implicitDefEqProofs [-getElem?_pos, -Int.ofNat_lt, -Int.ofNat_le, -Int.natCast_eq_zero, -Int.natCast_pos, -List.length_eq_zero_iff, List.getElem?_cons_zero, List.getElem?_cons_succ, List.getElem?_nil, and_assoc, I_make_group_1, ownAt, q5_1, q5_2, q5_3, q5_4, q5_5, q5_6, q5_7, q5_8, q5_9, q5_10, c1, pc1, c6, pc6, nc6]
      · exact hq.elim
      · cases hB
    · have pc1 := eq_false (of_decide_eq_false c1)
      obtain rfl := Option.some.inj hB
      try simp -implicitDefEqProofs [-getElem?_pos, -Int.ofNat_lt, -Int.ofNat_le, -Int.natCast_eq_zero, -Int.natCast_pos, -List.length_eq_zero_iff, List.getElem?_cons_zero, List.getElem?_cons_succ, List.getElem?_nil, q1, q2, q3, q4, q5, q6, q7, q8, oa3, c1, pc1]
      refine Res.bex ?_
      simp -implicitDefEqProofs [-getElem?_pos, -Int.ofNat_lt, -Int.ofNat_le, -Int.natCast_eq_zero, -Int.natCast_pos, -List.length_eq_zero_iff, List.getElem?_cons_zero, List.getElem?_cons_succ, List.getElem?_nil, and_assoc, Q_make_group_1, ownAt, q1, q2, q3, q4, q5, q6, q7, q8, oa3, c1, pc1]
  · try subst ea3
    rcases cnd_inv hB with ⟨c1, hB⟩ | ⟨c1, hB⟩
    · have pc1 := eq_true (of_decide_eq_true c1)
      try simp -implicitDefEqProofs [-getElem?_pos, -Int.ofNat_lt, -Int.ofNat_le, -Int.natCast_eq_zero, -Int.natCast_pos, -List.length_eq_zero_iff, List.getElem?_cons_zero, List.getElem?_cons_succ, List.getElem?_nil, q1, q2, q3, q4, q5, q6, q7, q8, c1, pc1]
      generalize hz0 : C Tryd.prog cf cc0 _ = z0
      obtain ⟨o, hB1, hB⟩ := kb_inv hB
      have hJ := P_make_group_0 (hc0.symm.trans (by kernel_rfl)) hz0 (by simp -implicitDefEqProofs [-getElem?_pos, -Int.ofNat_lt, -Int.ofNat_le, -Int.natCast_eq_zero, -Int.natCast_pos, -List.length_eq_zero_iff, List.getElem?_cons_zero, List.getElem?_cons_succ, List.getElem?_nil, and_assoc, I_make_group_0, ownAt, q1, q2, q3, q4, q5, q6, q7, q8, c1, pc1]) hB1
      obtain ⟨e0, s0, rfl, hq⟩ := hJ.open
      clear hB1
      rcases o with z5 | ⟨_, _⟩ | z5r
      · simp only [stpK_go] at hB
        obtain ⟨rfl, hq⟩ := hq
        obtain ⟨u0_0, u0_1⟩ := z5
        dsimp only at hB hq
        simp only [Q_make_group_0] at hq
        obtain ⟨q5_1, q5_2, ⟨v5_3, q5_3, a5_3⟩, q5_4, ⟨q5_5, q5_6⟩, ⟨g5_8, q5_7, q5_8⟩, ⟨g5_10, v5_10_w0, q5_9, q5_10, a5_10_w0⟩⟩ := hq
        rcases a5_3 with ⟨ga5_3, rfl, oa5_3⟩ | ⟨rfl, ea5_3⟩
        · rcases a5_10_w0 with ⟨ga5_10_w0, rfl, oa5_10_w0⟩ | ⟨rfl, ea5_10_w0⟩
          · rcases cnd_inv hB with ⟨c6, hB⟩ | ⟨c6, hB⟩
            · have pc6 := eq_true (of_decide_eq_true c6)
              have nc6 := c6
              try simp only [List.length_nil, List.length_cons, Int.cast_ofNat_Int, Int.natCast_zero, Nat.zero_add, Nat.reduceAdd, Int.reduceLT, Int.reduceLE, Int.reduceEq, eq_self, decide_true, decide_false, Bool.true_eq_false, Bool.false_eq_true] at nc6
              all_goals
                obtain ⟨y7, k8, hB⟩ := kb_inv hB
                replace k8 := run_make_Tape_Range k8
                try simp only [Int.cast_ofNat_Int, Int.natCast_zero, List.length_cons, List.length_nil, List.nil_append, List.cons_append, Nat.zero_add, Nat.reduceAdd, Tru.thr_mk, Tru.nodes_mk, Tru.inner_mk, ints_cons, ints_nil, encTs_cons, encTs_nil, es_api_Config_cons, es_api_Config_nil, es_api_Member_cons, es_api_Member_nil] at k8
                try dsimp only at hB
                obtain ⟨L9, a10, hB⟩ := kb_inv hB
                obtain ⟨a10z, a10a, a10y⟩ := appK_inv a10
                try (simp only [List.nil_append] at a10z; subst a10z)
                have a10b := appK_len a10
                have a10c := encTs_appK a10
                have a10d := appK_le a10
                try simp only [Int.cast_ofNat_Int, Int.natCast_zero, List.length_cons, List.length_nil, List.nil_append, List.cons_append, Nat.zero_add, Nat.reduceAdd, Tru.thr_mk, Tru.nodes_mk, Tru.inner_mk, ints_cons, ints_nil, encTs_cons, encTs_nil, es_api_Config_cons, es_api_Config_nil, es_api_Member_cons, es_api_Member_nil] at a10a a10b a10c
                try replace a10b : _ = (1 : Nat) := a10b.symm
                try dsimp only at hB
                obtain rfl := Option.some.inj hB
                try simp -implicitDefEqProofs [-getElem?_pos, -Int.ofNat_lt, -Int.ofNat_le, -Int.natCast_eq_zero, -Int.natCast_pos, -List.length_eq_zero_iff, List.getElem?_cons_zero, List.getElem?_cons_succ, List.getElem?_nil, q5_1, q5_2, q5_3, q5_4, q5_5, q5_6, q5_7, q5_8, q5_9, q5_10, oa5_3, oa5_10_w0, c1, pc1, c6, pc6, nc6, k8, a10a, a10b, a10c, a10d]
                refine Res.bgo ?_
                simp -implicitDefEqProofs [-getElem?_pos, -Int.ofNat_lt, -Int.ofNat_le, -Int.natCast_eq_zero, -Int.natCast_pos, -List.length_eq_zero_iff, List.getElem?_cons_zero, List.getElem?_cons_succ, List.getElem?_nil, and_assoc, I_make_group_1, ownAt, q5_1, q5_2, q5_3, q5_4, q5_5, q5_6, q5_7, q5_8, q5_9, q5_10, oa5_3, oa5_10_w0, c1, pc1, c6, pc6, nc6, k8, a10a, a10b, a10c, a10d]
            · have pc6 := eq_false (of_decide_eq_false c6)
              have nc6 := c6
              try simp only [List.length_nil, List.length_cons, Int.cast_ofNat_Int, Int.natCast_zero, Nat.zero_add, Nat.reduceAdd, Int.reduceLT, Int.reduceLE, Int.reduceEq, eq_self, decide_true, decide_false, Bool.true_eq_false, Bool.false_eq_true] at nc6
              all_goals
                obtain rfl := Option.some.inj hB
                try simp -implicitDefEqProofs [-getElem?_pos, -Int.ofNat_lt, -Int.ofNat_le, -Int.natCast_eq_zero, -Int.natCast_pos, -List.length_eq_zero_iff, List.getElem?_cons_zero, List.getElem?_cons_succ, List.getElem?_nil, q5_1, q5_2, q5_3, q5_4, q5_5, q5_6, q5_7, q5_8, q5_9, q5_10, oa5_3, oa5_10_w0, c1, pc1, c6, pc6, nc6]
                refine Res.bgo ?_
                simp -implicitDefEqProofs [-getElem?_pos, -Int.ofNat_lt, -Int.ofNat_le, -Int.natCast_eq_zero, -Int.natCast_pos, -List.length_eq_zero_iff, List.getElem?_cons_zero, List.getElem?_cons_succ, List.getElem?_nil, and_assoc, I_make_group_1, ownAt, q5_1, q5_2, q5_3, q5_4, q5_5, q5_6, q5_7, q5_8, q5_9, q5_10, oa5_3, oa5_10_w0, c1, pc1, c6, pc6, nc6]
          · try subst ea5_10_w0
            rcases cnd_inv hB with ⟨c6, hB⟩ | ⟨c6, hB⟩
            · have pc6 := eq_true (of_decide_eq_true c6)
              have nc6 := c6
              try simp only [List.length_nil, List.length_cons, Int.cast_ofNat_Int, Int.natCast_zero, Nat.zero_add, Nat.reduceAdd, Int.reduceLT, Int.reduceLE, Int.reduceEq, eq_self, decide_true, decide_false, Bool.true_eq_false, Bool.false_eq_true] at nc6
              all_goals
                obtain ⟨y7, k8, hB⟩ := kb_inv hB
                replace k8 := run_make_Tape_Range k8
                try simp only [Int.cast_ofNat_Int, Int.natCast_zero, List.length_cons, List.length_nil, List.nil_append, List.cons_append, Nat.zero_add, Nat.reduceAdd, Tru.thr_mk, Tru.nodes_mk, Tru.inner_mk, ints_cons, ints_nil, encTs_cons, encTs_nil, es_api_Config_cons, es_api_Config_nil, es_api_Member_cons, es_api_Member_nil] at k8
                try dsimp only at hB
                obtain ⟨L9, a10, hB⟩ := kb_inv hB
                obtain ⟨a10z, a10a, a10y⟩ := appK_inv a10
                try (simp only [List.nil_append] at a10z; subst a10z)
                have a10b := appK_len a10
                have a10c := encTs_appK a10
                have a10d := appK_le a10
                try simp only [Int.cast_ofNat_Int, Int.natCast_zero, List.length_cons, List.length_nil, List.nil_append, List.cons_append, Nat.zero_add, Nat.reduceAdd, Tru.thr_mk, Tru.nodes_mk, Tru.inner_mk, ints_cons, ints_nil, encTs_cons, encTs_nil, es_api_Config_cons, es_api_Config_nil, es_api_Member_cons, es_api_Member_nil] at a10a a10b a10c
                try replace a10b : _ = (1 : Nat) := a10b.symm
                try dsimp only at hB
                obtain rfl := Option.some.inj hB
                try simp -implicitDefEqProofs [-getElem?_pos, -Int.ofNat_lt, -Int.ofNat_le, -Int.natCast_eq_zero, -Int.natCast_pos, -List.length_eq_zero_iff, List.getElem?_cons_zero, List.getElem?_cons_succ, List.getElem?_nil, q5_1, q5_2, q5_3, q5_4, q5_5, q5_6, q5_7, q5_8, q5_9, q5_10, oa5_3, c1, pc1, c6, pc6, nc6, k8, a10a, a10b, a10c, a10d]
                refine Res.bgo ?_
                simp -implicitDefEqProofs [-getElem?_pos, -Int.ofNat_lt, -Int.ofNat_le, -Int.natCast_eq_zero, -Int.natCast_pos, -List.length_eq_zero_iff, List.getElem?_cons_zero, List.getElem?_cons_succ, List.getElem?_nil, and_assoc, I_make_group_1, ownAt, q5_1, q5_2, q5_3, q5_4, q5_5, q5_6, q5_7, q5_8, q5_9, q5_10, oa5_3, c1, pc1, c6, pc6, nc6, k8, a10a, a10b, a10c, a10d]
            · have pc6 := eq_false (of_decide_eq_false c6)
              have nc6 := c6
              try simp only [List.length_nil, List.length_cons, Int.cast_ofNat_Int, Int.natCast_zero, Nat.zero_add, Nat.reduceAdd, Int.reduceLT, Int.reduceLE, Int.reduceEq, eq_self, decide_true, decide_false, Bool.true_eq_false, Bool.false_eq_true] at nc6
              all_goals
                obtain rfl := Option.some.inj hB
                try simp -implicitDefEqProofs [-getElem?_pos, -Int.ofNat_lt, -Int.ofNat_le, -Int.natCast_eq_zero, -Int.natCast_pos, -List.length_eq_zero_iff, List.getElem?_cons_zero, List.getElem?_cons_succ, List.getElem?_nil, q5_1, q5_2, q5_3, q5_4, q5_5, q5_6, q5_7, q5_8, q5_9, q5_10, oa5_3, c1, pc1, c6, pc6, nc6]
                refine Res.bgo ?_
                simp -implicitDefEqProofs [-getElem?_pos, -Int.ofNat_lt, -Int.ofNat_le, -Int.natCast_eq_zero, -Int.natCast_pos, -List.length_eq_zero_iff, List.getElem?_cons_zero, List.getElem?_cons_succ, List.getElem?_nil, and_assoc, I_make_group_1, ownAt, q5_1, q5_2, q5_3, q5_4, q5_5, q5_6, q5_7, q5_8, q5_9, q5_10, oa5_3, c1, pc1, c6, pc6, nc6]
        · try subst ea5_3
          rcases a5_10_w0 with ⟨ga5_10_w0, rfl, oa5_10_w0⟩ | ⟨rfl, ea5_10_w0⟩
          · rcases cnd_inv hB with ⟨c6, hB⟩ | ⟨c6, hB⟩
            · have pc6 := eq_true (of_decide_eq_true c6)
              have nc6 := c6
              try simp only [List.length_nil, List.length_cons, Int.cast_ofNat_Int, Int.natCast_zero, Nat.zero_add, Nat.reduceAdd, Int.reduceLT, Int.reduceLE, Int.reduceEq, eq_self, decide_true, decide_false, Bool.true_eq_false, Bool.false_eq_true] at nc6
              all_goals
                obtain ⟨y7, k8, hB⟩ := kb_inv hB
                replace k8 := run_make_Tape_Range k8
                try simp only [Int.cast_ofNat_Int, Int.natCast_zero, List.length_cons, List.length_nil, List.nil_append, List.cons_append, Nat.zero_add, Nat.reduceAdd, Tru.thr_mk, Tru.nodes_mk, Tru.inner_mk, ints_cons, ints_nil, encTs_cons, encTs_nil, es_api_Config_cons, es_api_Config_nil, es_api_Member_cons, es_api_Member_nil] at k8
                try dsimp only at hB
                obtain ⟨L9, a10, hB⟩ := kb_inv hB
                obtain ⟨a10z, a10a, a10y⟩ := appK_inv a10
                simp only [List.nil_append] at a10z
                subst a10z
                try dsimp only at hB
                obtain rfl := Option.some.inj hB
                try simp -implicitDefEqProofs [-getElem?_pos, -Int.ofNat_lt, -Int.ofNat_le, -Int.natCast_eq_zero, -Int.natCast_pos, -List.length_eq_zero_iff, List.getElem?_cons_zero, List.getElem?_cons_succ, List.getElem?_nil, q5_1, q5_2, q5_3, q5_4, q5_5, q5_6, q5_7, q5_8, q5_9, q5_10, oa5_10_w0, c1, pc1, c6, pc6, nc6, k8]
                refine Res.bgo ?_
                simp -implicitDefEqProofs [-getElem?_pos, -Int.ofNat_lt, -Int.ofNat_le, -Int.natCast_eq_zero, -Int.natCast_pos, -List.length_eq_zero_iff, List.getElem?_cons_zero, List.getElem?_cons_succ, List.getElem?_nil, and_assoc, I_make_group_1, ownAt, q5_1, q5_2, q5_3, q5_4, q5_5, q5_6, q5_7, q5_8, q5_9, q5_10, oa5_10_w0, c1, pc1, c6, pc6, nc6, k8]
            · have pc6 := eq_false (of_decide_eq_false c6)
              have nc6 := c6
              try simp only [List.length_nil, List.length_cons, Int.cast_ofNat_Int, Int.natCast_zero, Nat.zero_add, Nat.reduceAdd, Int.reduceLT, Int.reduceLE, Int.reduceEq, eq_self, decide_true, decide_false, Bool.true_eq_false, Bool.false_eq_true] at nc6
              all_goals
                obtain rfl := Option.some.inj hB
                try simp -implicitDefEqProofs [-getElem?_pos, -Int.ofNat_lt, -Int.ofNat_le, -Int.natCast_eq_zero, -Int.natCast_pos, -List.length_eq_zero_iff, List.getElem?_cons_zero, List.getElem?_cons_succ, List.getElem?_nil, q5_1, q5_2, q5_3, q5_4, q5_5, q5_6, q5_7, q5_8, q5_9, q5_10, oa5_10_w0, c1, pc1, c6, pc6, nc6]
                refine Res.bgo ?_
                simp -implicitDefEqProofs [-getElem?_pos, -Int.ofNat_lt, -Int.ofNat_le, -Int.natCast_eq_zero, -Int.natCast_pos, -List.length_eq_zero_iff, List.getElem?_cons_zero, List.getElem?_cons_succ, List.getElem?_nil, and_assoc, I_make_group_1, ownAt, q5_1, q5_2, q5_3, q5_4, q5_5, q5_6, q5_7, q5_8, q5_9, q5_10, oa5_10_w0, c1, pc1, c6, pc6, nc6]
          · try subst ea5_10_w0
            rcases cnd_inv hB with ⟨c6, hB⟩ | ⟨c6, hB⟩
            · have pc6 := eq_true (of_decide_eq_true c6)
              have nc6 := c6
              try simp only [List.length_nil, List.length_cons, Int.cast_ofNat_Int, Int.natCast_zero, Nat.zero_add, Nat.reduceAdd, Int.reduceLT, Int.reduceLE, Int.reduceEq, eq_self, decide_true, decide_false, Bool.true_eq_false, Bool.false_eq_true] at nc6
              all_goals
                obtain ⟨y7, k8, hB⟩ := kb_inv hB
                replace k8 := run_make_Tape_Range k8
                try simp only [Int.cast_ofNat_Int, Int.natCast_zero, List.length_cons, List.length_nil, List.nil_append, List.cons_append, Nat.zero_add, Nat.reduceAdd, Tru.thr_mk, Tru.nodes_mk, Tru.inner_mk, ints_cons, ints_nil, encTs_cons, encTs_nil, es_api_Config_cons, es_api_Config_nil, es_api_Member_cons, es_api_Member_nil] at k8
                try dsimp only at hB
                obtain ⟨L9, a10, hB⟩ := kb_inv hB
                obtain ⟨a10z, a10a, a10y⟩ := appK_inv a10
                simp only [List.nil_append] at a10z
                subst a10z
                try dsimp only at hB
                obtain rfl := Option.some.inj hB
                try simp -implicitDefEqProofs [-getElem?_pos, -Int.ofNat_lt, -Int.ofNat_le, -Int.natCast_eq_zero, -Int.natCast_pos, -List.length_eq_zero_iff, List.getElem?_cons_zero, List.getElem?_cons_succ, List.getElem?_nil, q5_1, q5_2, q5_3, q5_4, q5_5, q5_6, q5_7, q5_8, q5_9, q5_10, c1, pc1, c6, pc6, nc6, k8]
                refine Res.bgo ?_
                simp -implicitDefEqProofs [-getElem?_pos, -Int.ofNat_lt, -Int.ofNat_le, -Int.natCast_eq_zero, -Int.natCast_pos, -List.length_eq_zero_iff, List.getElem?_cons_zero, List.getElem?_cons_succ, List.getElem?_nil, and_assoc, I_make_group_1, ownAt, q5_1, q5_2, q5_3, q5_4, q5_5, q5_6, q5_7, q5_8, q5_9, q5_10, c1, pc1, c6, pc6, nc6, k8]
            · have pc6 := eq_false (of_decide_eq_false c6)
              have nc6 := c6
              try simp only [List.length_nil, List.length_cons, Int.cast_ofNat_Int, Int.natCast_zero, Nat.zero_add, Nat.reduceAdd, Int.reduceLT, Int.reduceLE, Int.reduceEq, eq_self, decide_true, decide_false, Bool.true_eq_false, Bool.false_eq_true] at nc6
              all_goals
                obtain rfl := Option.some.inj hB
                try simp -implicitDefEqProofs [-getElem?_pos, -Int.ofNat_lt, -Int.ofNat_le, -Int.natCast_eq_zero, -Int.natCast_pos, -List.length_eq_zero_iff, List.getElem?_cons_zero, List.getElem?_cons_succ, List.getElem?_nil, q5_1, q5_2, q5_3, q5_4, q5_5, q5_6, q5_7, q5_8, q5_9, q5_10, c1, pc1, c6, pc6, nc6]
                refine Res.bgo ?_
                simp -implicitDefEqProofs [-getElem?_pos, -Int.ofNat_lt, -Int.ofNat_le, -Int.natCast_eq_zero, -Int.natCast_pos, -List.length_eq_zero_iff, List.getElem?_cons_zero, List.getElem?_cons_succ, List.getElem?_nil, and_assoc, I_make_group_1, ownAt, q5_1, q5_2, q5_3, q5_4, q5_5, q5_6, q5_7, q5_8, q5_9, q5_10, c1, pc1, c6, pc6, nc6]
      · exact hq.elim
      · cases hB
    · have pc1 := eq_false (of_decide_eq_false c1)
      obtain rfl := Option.some.inj hB
      try simp -implicitDefEqProofs [-getElem?_pos, -Int.ofNat_lt, -Int.ofNat_le, -Int.natCast_eq_zero, -Int.natCast_pos, -List.length_eq_zero_iff, List.getElem?_cons_zero, List.getElem?_cons_succ, List.getElem?_nil, q1, q2, q3, q4, q5, q6, q7, q8, c1, pc1]
      refine Res.bex ?_
      simp -implicitDefEqProofs [-getElem?_pos, -Int.ofNat_lt, -Int.ofNat_le, -Int.natCast_eq_zero, -Int.natCast_pos, -List.length_eq_zero_iff, List.getElem?_cons_zero, List.getElem?_cons_succ, List.getElem?_nil, and_assoc, Q_make_group_1, ownAt, q1, q2, q3, q4, q5, q6, q7, q8, c1, pc1]
theorem P_make_group_1 {p1 : Int} {p2 : Int} {xba0_0_1 : (List Int)} {xba0_1_1 : Int} {x7_1 : (List Tru)} {x8_1 : Int} {cc : Code} (hcc : cc = .block 0 (.loop (Code.fst (Code.fst (Code.snd (Code.fst (Code.snd (Code.snd ((Tryd.f44.body).getD .skip))))))))) {s : St} {z : Option (Ex × St)} (hz : C Tryd.prog cf cc s = z) {r : (Stp ((List Int) × Int × (List Tru) × Int) Unit)} (hI : I_make_group_1 p1 p2 xba0_0_1 xba0_1_1 x7_1 x8_1 s) (hB : iterW (fun a => B_make_group_1 p1 p2 a.1 a.2.1 a.2.2.1 a.2.2.2) (xba0_0_1, xba0_1_1, x7_1, x8_1) = some r) : Res z (postS (fun a q => Q_make_group_1 p1 p2 a.1 a.2.1 a.2.2.1 a.2.2.2 q) (fun _ _ => False) r) := by
  subst hcc
  exact while_sim (I := fun a q => I_make_group_1 p1 p2 a.1 a.2.1 a.2.2.1 a.2.2.2 q) (Q := (fun a q => Q_make_group_1 p1 p2 a.1 a.2.1 a.2.2.1 a.2.2.2 q)) (QR := (fun _ _ => False)) (fun a q r h hB => Pb_make_group_1 h hB) hI hz hB
noncomputable def B_make_group (p0 : S_trustquorummake_Tape) (p1 : Int) (p2 : Int) : Option (Tru × S_trustquorummake_Tape) :=
  kb (iterW (fun a => B_make_group_1 p1 p2 a.1 a.2.1 a.2.2.1 a.2.2.2) (p0.f0, p0.f1, ([] : (List Tru)), 0)) fun o => stpK o (fun z11 =>
    kb (G_make_Tape_N (S_trustquorummake_Tape.mk z11.1 z11.2.1) 4) fun y12 =>
    cnd (decide (y12.1 = 0)) (
      kb (mustK ((z11.2.2.1.length : Int) ≠ 0)) fun _ =>
      kb (getI z11.2.2.1 (p2.tmod (z11.2.2.1.length : Int))) fun x16 =>
      some (x16, y12.2)) (
      kb (G_make_Tape_Range y12.2 (if 1 < (sub64 (z11.2.2.1.length : Int) 1) then (sub64 (z11.2.2.1.length : Int) 1) else 1) (z11.2.2.1.length : Int)) fun y19 =>
      some ((Tru.mk y19.1 ([] : (List Int)) z11.2.2.1), y19.2))) (fun z11r =>
    none)
theorem sim_make_group {p0 : S_trustquorummake_Tape} {p1 : Int} {p2 : Int} {r : (Tru × S_trustquorummake_Tape)} (hB : B_make_group p0 p1 p2 = some r) : R 44 [.ptr (.arg 0) 0 0, (i64 p1), (i64 p2)] [.box 0 [(.pv (.sl p0.f0.length (ints p0.f0))), (i64 p0.f1)]] = some ((.agg [(i64 r.1.thr), (.pv (.sl r.1.nodes.length (ints r.1.nodes))), (.pv (.sl r.1.inner.length (encTs r.1.inner)))]), [.box 0 [(.pv (.sl r.2.f0.length (ints r.2.f0))), (i64 r.2.f1)]], []) := by
  rw [R_eq _ _ _ fn_make_group]
  simp only [Code.fst, Code.snd, Tryd.f44, Option.getD_some]
  generalize hc1 : Code.block 0 _ = cc1
  unfold B_make_group at hB
  try simp -implicitDefEqProofs [-getElem?_pos, -Int.ofNat_lt, -Int.ofNat_le, -Int.natCast_eq_zero, -Int.natCast_pos, -List.length_eq_zero_iff, List.getElem?_cons_zero, List.getElem?_cons_succ, List.getElem?_nil]
  generalize hz1 : C Tryd.prog cf cc1 _ = z1
  obtain ⟨o, hB1, hB⟩ := kb_inv hB
  have hJ := P_make_group_1 (hc1.symm.trans (by kernel_rfl)) hz1 (by simp -implicitDefEqProofs [-getElem?_pos, -Int.ofNat_lt, -Int.ofNat_le, -Int.natCast_eq_zero, -Int.natCast_pos, -List.length_eq_zero_iff, List.getElem?_cons_zero, List.getElem?_cons_succ, List.getElem?_nil, and_assoc, I_make_group_1, ownAt]) hB1
  obtain ⟨e1, s1, rfl, hq⟩ := hJ.open
  clear hB1
  rcases o with z11 | ⟨_, _⟩ | z11r
  · simp only [stpK_go] at hB
    obtain ⟨rfl, hq⟩ := hq
    obtain ⟨u1_0, u1_1, u1_2, u1_3⟩ := z11
    dsimp only at hB hq
    simp only [Q_make_group_1] at hq
    obtain ⟨q11_1, ⟨v11_2, q11_2, a11_2⟩, ⟨q11_3, q11_4⟩, ⟨g11_6, q11_5, q11_6⟩⟩ := hq
    rcases a11_2 with ⟨ga11_2, rfl, oa11_2⟩ | ⟨rfl, ea11_2⟩
    · obtain ⟨y12, k13, hB⟩ := kb_inv hB
      replace k13 := run_make_Tape_N k13
      try simp only [Int.cast_ofNat_Int, Int.natCast_zero, List.length_cons, List.length_nil, List.nil_append, List.cons_append, Nat.zero_add, Nat.reduceAdd, Tru.thr_mk, Tru.nodes_mk, Tru.inner_mk, ints_cons, ints_nil, encTs_cons, encTs_nil, es_api_Config_cons, es_api_Config_nil, es_api_Member_cons, es_api_Member_nil] at k13
      try dsimp only at hB
      rcases cnd_inv hB with ⟨c14, hB⟩ | ⟨c14, hB⟩
      · have pc14 := eq_true (of_decide_eq_true c14)
        obtain ⟨_, n15, hB⟩ := kb_inv hB
        have n15a : ¬ _ := mustK_inv n15
        try dsimp only at hB
        obtain ⟨x16, h17, hB⟩ := kb_inv hB
        obtain ⟨h17a, h17b, h17c, h17d⟩ := getI_inv h17
        try simp only [Int.toNat_natCast, Int.reduceToNat] at h17c
        try dsimp only at hB
        have l18 := encTs_ld h17c
        obtain rfl := Option.some.inj hB
        simp -implicitDefEqProofs [-getElem?_pos, -Int.ofNat_lt, -Int.ofNat_le, -Int.natCast_eq_zero, -Int.natCast_pos, -List.length_eq_zero_iff, List.getElem?_cons_zero, List.getElem?_cons_succ, List.getElem?_nil, q11_1, q11_2, q11_3, q11_4, q11_5, q11_6, oa11_2, k13, c14, pc14, n15a, h17a, h17b, h17c, h17d, l18]
      · have pc14 := eq_false (of_decide_eq_false c14)
        obtain ⟨y19, k20, hB⟩ := kb_inv hB
        replace k20 := run_make_Tape_Range k20
        try simp only [Int.cast_ofNat_Int, Int.natCast_zero, List.length_cons, List.length_nil, List.nil_append, List.cons_append, Nat.zero_add, Nat.reduceAdd, Tru.thr_mk, Tru.nodes_mk, Tru.inner_mk, ints_cons, ints_nil, encTs_cons, encTs_nil, es_api_Config_cons, es_api_Config_nil, es_api_Member_cons, es_api_Member_nil] at k20
        try dsimp only at hB
        obtain rfl := Option.some.inj hB
        simp -implicitDefEqProofs [-getElem?_pos, -Int.ofNat_lt, -Int.ofNat_le, -Int.natCast_eq_zero, -Int.natCast_pos, -List.length_eq_zero_iff, List.getElem?_cons_zero, List.getElem?_cons_succ, List.getElem?_nil, q11_1, q11_2, q11_3, q11_4, q11_5, q11_6, oa11_2, k13, c14, pc14, k20]
    · try subst ea11_2
      obtain ⟨y12, k13, hB⟩ := kb_inv hB
      replace k13 := run_make_Tape_N k13
      try simp only [Int.cast_ofNat_Int, Int.natCast_zero, List.length_cons, List.length_nil, List.nil_append, List.cons_append, Nat.zero_add, Nat.reduceAdd, Tru.thr_mk, Tru.nodes_mk, Tru.inner_mk, ints_cons, ints_nil, encTs_cons, encTs_nil, es_api_Config_cons, es_api_Config_nil, es_api_Member_cons, es_api_Member_nil] at k13
      try dsimp only at hB
      rcases cnd_inv hB with ⟨c14, hB⟩ | ⟨c14, hB⟩
      · have pc14 := eq_true (of_decide_eq_true c14)
        obtain ⟨_, n15, hB⟩ := kb_inv hB
        have n15a : ¬ _ := mustK_inv n15
        try dsimp only at hB
        obtain ⟨x16, h17, hB⟩ := kb_inv hB
        exact absurd h17 (by simp [getI])
      · have pc14 := eq_false (of_decide_eq_false c14)
        obtain ⟨y18, k19, hB⟩ := kb_inv hB
        replace k19 := run_make_Tape_Range k19
        try simp only [Int.cast_ofNat_Int, Int.natCast_zero, List.length_cons, List.length_nil, List.nil_append, List.cons_append, Nat.zero_add, Nat.reduceAdd, Tru.thr_mk, Tru.nodes_mk, Tru.inner_mk, ints_cons, ints_nil, encTs_cons, encTs_nil, es_api_Config_cons, es_api_Config_nil, es_api_Member_cons, es_api_Member_nil] at k19
        try dsimp only at hB
        obtain rfl := Option.some.inj hB
        simp -implicitDefEqProofs [-getElem?_pos, -Int.ofNat_lt, -Int.ofNat_le, -Int.natCast_eq_zero, -Int.natCast_pos, -List.length_eq_zero_iff, List.getElem?_cons_zero, List.getElem?_cons_succ, List.getElem?_nil, q11_1, q11_2, q11_3, q11_4, q11_5, q11_6, k13, c14, pc14, k19]
  · exact hq.elim
  · cases hB
theorem g_make_group {p0 : S_trustquorummake_Tape} {p1 : Int} {p2 : Int} {r : (Tru × S_trustquorummake_Tape)} (hB : B_make_group p0 p1 p2 = some r) : G_make_group p0 p1 p2 = some r := dec_of (fun a b h => by rcases a with ⟨⟨a0_0, a0_1, a0_2⟩, ⟨a1_0, a1_1⟩⟩; rcases b with ⟨⟨b0_0, b0_1, b0_2⟩, ⟨b1_0, b1_1⟩⟩; simp at h; simp [*]) (sim_make_group hB)
end Go.Am

/-
How trustquorummake.Config runs, as a pure function.
-/
namespace Go.Am
open Go Go.Proofs
set_option linter.unusedVariables false
set_option linter.unusedSimpArgs false
set_option maxRecDepth 4000
set_option maxHeartbeats 4000000
noncomputable def B_make_Config_0 (pba0_0_0 : (List Int)) (pba0_1_0 : Int) (pb3_0_0_0 : (List S_api_Member)) (y3 : (Int × S_trustquorummake_Tape)) (y1 : (Int × S_trustquorummake_Tape)) (p8_0 : Int) : Option ((List Int) × Int × Int × (List Int) × (List Tru)) :=
  cnd (decide (y3.1 = 0)) (
    kb (G_make_Trust (S_trustquorummake_Tape.mk pba0_0_0 pba0_1_0) y1.1 2) fun y7 =>
    some (y7.2.f0, y7.2.f1, y7.1.thr, y7.1.nodes, y7.1.inner)) (
    cnd (decide (y3.1 = 1)) (
      kb (G_make_most (S_trustquorummake_Tape.mk pba0_0_0 pba0_1_0) y1.1) fun y10 =>
      some (y10.2.f0, y10.2.f1, y10.1.thr, y10.1.nodes, y10.1.inner)) (
      kb (G_make_group (S_trustquorummake_Tape.mk pba0_0_0 pba0_1_0) y1.1 p8_0) fun y12 =>
      some (y12.2.f0, y12.2.f1, y12.1.thr, y12.1.nodes, y12.1.inner)))
def J_make_Config_0 (pba0_0_0 : (List Int)) (pba0_1_0 : Int) (pb3_0_0_0 : (List S_api_Member)) (y3 : (Int × S_trustquorummake_Tape)) (y1 : (Int × S_trustquorummake_Tape)) (p8_0 : Int) (q : St) : Prop := q (.t 20) = (i64 y3.1) ∧ q (.t 5) = (i64 y1.1) ∧ q (.t 6) = (i64 y3.1) ∧ q (.t 8) = (i64 p8_0) ∧ (q (.t 0) = .ptr (.arg 0) 0 0 ∧ q (.i (.arg 0)) = .box 0 [(.pv (.sl pba0_0_0.length (ints pba0_0_0))), (i64 pba0_1_0)]) ∧ (∃ (g : Nat), q (.t 4) = .ptr (.site 0 0 0) g 0 ∧ q (.i (.site 0 0 0)) = .box g [.nilsl]) ∧ (∃ (g : Nat) (w0 : AV), q (.t 7) = .ptr (.site 3 0 0) g 0 ∧ q (.i (.site 3 0 0)) = .box g [w0] ∧ (ownAt q w0 (.site 15 4 0) false 4 pb3_0_0_0.length (es_api_Member pb3_0_0_0) ∨ ownAt q w0 (.site 16 5 0) false 4 pb3_0_0_0.length (es_api_Member pb3_0_0_0) ∨ (w0 = .nilsl ∧ pb3_0_0_0 = []))) ∧ (∃ (g : Nat), q (.t 9) = .ptr (.site 7 0 0) g 0 ∧ q (.i (.site 7 0 0)) = .box g [(i64 0), .nilsl, .nilsl])
def Q_make_Config_0 (pba0_0_0 : (List Int)) (pba0_1_0 : Int) (pb3_0_0_0 : (List S_api_Member)) (y3 : (Int × S_trustquorummake_Tape)) (y1 : (Int × S_trustquorummake_Tape)) (p8_0 : Int) (oba0_0_0 : (List Int)) (oba0_1_0 : Int) (ob7_0_0_0 : Int) (ob7_0_1_0 : (List Int)) (ob7_0_2_0 : (List Tru)) (q : St) : Prop := q (.t 5) = (i64 y1.1) ∧ q (.t 6) = (i64 y3.1) ∧ q (.t 8) = (i64 p8_0) ∧ (q (.t 0) = .ptr (.arg 0) 0 0 ∧ q (.i (.arg 0)) = .box 0 [(.pv (.sl oba0_0_0.length (ints oba0_0_0))), (i64 oba0_1_0)]) ∧ (∃ (g : Nat), q (.t 4) = .ptr (.site 0 0 0) g 0 ∧ q (.i (.site 0 0 0)) = .box g [.nilsl]) ∧ (∃ (g : Nat) (w0 : AV), q (.t 7) = .ptr (.site 3 0 0) g 0 ∧ q (.i (.site 3 0 0)) = .box g [w0] ∧ (ownAt q w0 (.site 15 4 0) false 4 pb3_0_0_0.length (es_api_Member pb3_0_0_0) ∨ ownAt q w0 (.site 16 5 0) false 4 pb3_0_0_0.length (es_api_Member pb3_0_0_0) ∨ (w0 = .nilsl ∧ pb3_0_0_0 = []))) ∧ (∃ (g : Nat), q (.t 9) = .ptr (.site 7 0 0) g 0 ∧ q (.i (.site 7 0 0)) = .box g [(i64 ob7_0_0_0), (.pv (.sl ob7_0_1_0.length (ints ob7_0_1_0))), (.pv (.sl ob7_0_2_0.length (encTs ob7_0_2_0)))])
theorem P_make_Config_0 {pba0_0_0 : (List Int)} {pba0_1_0 : Int} {pb3_0_0_0 : (List S_api_Member)} {y3 : (Int × S_trustquorummake_Tape)} {y1 : (Int × S_trustquorummake_Tape)} {p8_0 : Int} {cc : Code} (hcc : cc = (Code.snd (Code.fst (Code.snd (Code.fst (Code.fst (Code.snd (Code.fst (Code.fst (Code.snd (Code.fst (Code.snd (Code.snd (Code.snd (Code.snd ((Tryd.f19.body).getD .skip)))))))))))))))) {s : St} {z : Option (Ex × St)} (hz : C Tryd.prog cf cc s = z) {r : ((List Int) × Int × Int × (List Int) × (List Tru))} (hI : J_make_Config_0 pba0_0_0 pba0_1_0 pb3_0_0_0 y3 y1 p8_0 s) (hB : B_make_Config_0 pba0_0_0 pba0_1_0 pb3_0_0_0 y3 y1 p8_0 = some r) : Res z (postG (fun a q => Q_make_Config_0 pba0_0_0 pba0_1_0 pb3_0_0_0 y3 y1 p8_0 a.1 a.2.1 a.2.2.1 a.2.2.2.1 a.2.2.2.2 q) r) := by
  subst hcc
  subst hz
  simp only [J_make_Config_0] at hI
  obtain ⟨q1, q2, q3, q4, ⟨q5, q6⟩, ⟨g8, q7, q8⟩, ⟨g10, v10_w0, q9, q10, a10_w0⟩, ⟨g12, q11, q12⟩⟩ := hI
  simp only [Code.fst, Code.snd, Tryd.f19, Option.getD_some]
  unfold B_make_Config_0 at hB
  rcases a10_w0 with ⟨ga10_w0, rfl, oa10_w0⟩ | ⟨ga10_w0, rfl, oa10_w0⟩ | ⟨rfl, ea10_w0⟩
  · rcases cnd_inv hB with ⟨c6, hB⟩ | ⟨c6, hB⟩
    · have pc6 := eq_true (of_decide_eq_true c6)
      obtain ⟨y7, k8, hB⟩ := kb_inv hB
      replace k8 := run_make_Trust k8
      try simp only [Int.cast_ofNat_Int, Int.natCast_zero, List.length_cons, List.length_nil, List.nil_append, List.cons_append, Nat.zero_add, Nat.reduceAdd, Tru.thr_mk, Tru.nodes_mk, Tru.inner_mk, ints_cons, ints_nil, encTs_cons, encTs_nil, es_api_Config_cons, es_api_Config_nil, es_api_Member_cons, es_api_Member_nil] at k8
      try dsimp only at hB
      obtain rfl := Option.some.inj hB
      try simp -implicitDefEqProofs [-getElem?_pos, -Int.ofNat_lt, -Int.ofNat_le, -Int.natCast_eq_zero, -Int.natCast_pos, -List.length_eq_zero_iff, List.getElem?_cons_zero, List.getElem?_cons_succ, List.getElem?_nil, q1, q2, q3, q4, q5, q6, q7, q8, q9, q10, q11, q12, oa10_w0, c6, pc6, k8]
      refine Res.g ?_
      simp -implicitDefEqProofs [-getElem?_pos, -Int.ofNat_lt, -Int.ofNat_le, -Int.natCast_eq_zero, -Int.natCast_pos, -List.length_eq_zero_iff, List.getElem?_cons_zero, List.getElem?_cons_succ, List.getElem?_nil, and_assoc, Q_make_Config_0, ownAt, q1, q2, q3, q4, q5, q6, q7, q8, q9, q10, q11, q12, oa10_w0, c6, pc6, k8]
    · have pc6 := eq_false (of_decide_eq_false c6)
      rcases cnd_inv hB with ⟨c9, hB⟩ | ⟨c9, hB⟩
      · have pc9 := eq_true (of_decide_eq_true c9)
        obtain ⟨y10, k11, hB⟩ := kb_inv hB
        replace k11 := run_make_most k11
        try simp only [Int.cast_ofNat_Int, Int.natCast_zero, List.length_cons, List.length_nil, List.nil_append, List.cons_append, Nat.zero_add, Nat.reduceAdd, Tru.thr_mk, Tru.nodes_mk, Tru.inner_mk, ints_cons, ints_nil, encTs_cons, encTs_nil, es_api_Config_cons, es_api_Config_nil, es_api_Member_cons, es_api_Member_nil] at k11
        try dsimp only at hB
        obtain rfl := Option.some.inj hB
        try simp -implicitDefEqProofs [-getElem?_pos, -Int.ofNat_lt, -Int.ofNat_le, -Int.natCast_eq_zero, -Int.natCast_pos, -List.length_eq_zero_iff, List.getElem?_cons_zero, List.getElem?_cons_succ, List.getElem?_nil, q1, q2, q3, q4, q5, q6, q7, q8, q9, q10, q11, q12, oa10_w0, c6, pc6, c9, pc9, k11]
        refine Res.g ?_
        simp -implicitDefEqProofs [-getElem?_pos, -Int.ofNat_lt, -Int.ofNat_le, -Int.natCast_eq_zero, -Int.natCast_pos, -List.length_eq_zero_iff, List.getElem?_cons_zero, List.getElem?_cons_succ, List.getElem?_nil, and_assoc, Q_make_Config_0, ownAt, q1, q2, q3, q4, q5, q6, q7, q8, q9, q10, q11, q12, oa10_w0, c6, pc6, c9, pc9, k11]
      · have pc9 := eq_false (of_decide_eq_false c9)
        obtain ⟨y12, k13, hB⟩ := kb_inv hB
        replace k13 := run_make_group k13
        try simp only [Int.cast_ofNat_Int, Int.natCast_zero, List.length_cons, List.length_nil, List.nil_append, List.cons_append, Nat.zero_add, Nat.reduceAdd, Tru.thr_mk, Tru.nodes_mk, Tru.inner_mk, ints_cons, ints_nil, encTs_cons, encTs_nil, es_api_Config_cons, es_api_Config_nil, es_api_Member_cons, es_api_Member_nil] at k13
        try dsimp only at hB
        obtain rfl := Option.some.inj hB
        try simp -implicitDefEqProofs [-getElem?_pos, -Int.ofNat_lt, -Int.ofNat_le, -Int.natCast_eq_zero, -Int.natCast_pos, -List.length_eq_zero_iff, List.getElem?_cons_zero, List.getElem?_cons_succ, List.getElem?_nil, q1, q2, q3, q4, q5, q6, q7, q8, q9, q10, q11, q12, oa10_w0, c6, pc6, c9, pc9, k13]
        refine Res.g ?_
        simp -implicitDefEqProofs [-getElem?_pos, -Int.ofNat_lt, -Int.ofNat_le, -Int.natCast_eq_zero, -Int.natCast_pos, -List.length_eq_zero_iff, List.getElem?_cons_zero, List.getElem?_cons_succ, List.getElem?_nil, and_assoc, Q_make_Config_0, ownAt, q1, q2, q3, q4, q5, q6, q7, q8, q9, q10, q11, q12, oa10_w0, c6, pc6, c9, pc9, k13]
  · rcases cnd_inv hB with ⟨c6, hB⟩ | ⟨c6, hB⟩
    · have pc6 := eq_true (of_decide_eq_true c6)
      obtain ⟨y7, k8, hB⟩ := kb_inv hB
      replace k8 := run_make_Trust k8
      try simp only [Int.cast_ofNat_Int, Int.natCast_zero, List.length_cons, List.length_nil, List.nil_append, List.cons_append, Nat.zero_add, Nat.reduceAdd, Tru.thr_mk, Tru.nodes_mk, Tru.inner_mk, ints_cons, ints_nil, encTs_cons, encTs_nil, es_api_Config_cons, es_api_Config_nil, es_api_Member_cons, es_api_Member_nil] at k8
      try dsimp only at hB
      obtain rfl := Option.some.inj hB
      try simp -implicitDefEqProofs [-getElem?_pos, -Int.ofNat_lt, -Int.ofNat_le, -Int.natCast_eq_zero, -Int.natCast_pos, -List.length_eq_zero_iff, List.getElem?_cons_zero, List.getElem?_cons_succ, List.getElem?_nil, q1, q2, q3, q4, q5, q6, q7, q8, q9, q10, q11, q12, oa10_w0, c6, pc6, k8]
      refine Res.g ?_
      simp -implicitDefEqProofs [-getElem?_pos, -Int.ofNat_lt, -Int.ofNat_le, -Int.natCast_eq_zero, -Int.natCast_pos, -List.length_eq_zero_iff, List.getElem?_cons_zero, List.getElem?_cons_succ, List.getElem?_nil, and_assoc, Q_make_Config_0, ownAt, q1, q2, q3, q4, q5, q6, q7, q8, q9, q10, q11, q12, oa10_w0, c6, pc6, k8]
    · have pc6 := eq_false (of_decide_eq_false c6)
      rcases cnd_inv hB with ⟨c9, hB⟩ | ⟨c9, hB⟩
      · have pc9 := eq_true (of_decide_eq_true c9)
        obtain ⟨y10, k11, hB⟩ := kb_inv hB
        replace k11 := run_make_most k11
        try simp only [Int.cast_ofNat_Int, Int.natCast_zero, List.length_cons, List.length_nil, List.nil_append, List.cons_append, Nat.zero_add, Nat.reduceAdd, Tru.thr_mk, Tru.nodes_mk, Tru.inner_mk, ints_cons, ints_nil, encTs_cons, encTs_nil, es_api_Config_cons, es_api_Config_nil, es_api_Member_cons, es_api_Member_nil] at k11
        try dsimp only at hB
        obtain rfl := Option.some.inj hB
        try simp -implicitDefEqProofs [-getElem?_pos, -Int.ofNat_lt, -Int.ofNat_le, -Int.natCast_eq_zero, -Int.natCast_pos, -List.length_eq_zero_iff, List.getElem?_cons_zero, List.getElem?_cons_succ, List.getElem?_nil, q1, q2, q3, q4, q5, q6, q7, q8, q9, q10, q11, q12, oa10_w0, c6, pc6, c9, pc9, k11]
        refine Res.g ?_
        simp -implicitDefEqProofs [-getElem?_pos, -Int.ofNat_lt, -Int.ofNat_le, -Int.natCast_eq_zero, -Int.natCast_pos, -List.length_eq_zero_iff, List.getElem?_cons_zero, List.getElem?_cons_succ, List.getElem?_nil, and_assoc, Q_make_Config_0, ownAt, q1, q2, q3, q4, q5, q6, q7, q8, q9, q10, q11, q12, oa10_w0, c6, pc6, c9, pc9, k11]
      · have pc9 := eq_false (of_decide_eq_false c9)
        obtain ⟨y12, k13, hB⟩ := kb_inv hB
        replace k13 := run_make_group k13
        try simp only [Int.cast_ofNat_Int, Int.natCast_zero, List.length_cons, List.length_nil, List.nil_append, List.cons_append, Nat.zero_add, Nat.reduceAdd, Tru.thr_mk, Tru.nodes_mk, Tru.inner_mk, ints_cons, ints_nil, encTs_cons, encTs_nil, es_api_Config_cons, es_api_Config_nil, es_api_Member_cons, es_api_Member_nil] at k13
        try dsimp only at hB
        obtain rfl := Option.some.inj hB
        try simp -implicitDefEqProofs [-getElem?_pos, -Int.ofNat_lt, -Int.ofNat_le, -Int.natCast_eq_zero, -Int.natCast_pos, -List.length_eq_zero_iff, List.getElem?_cons_zero, List.getElem?_cons_succ, List.getElem?_nil, q1, q2, q3, q4, q5, q6, q7, q8, q9, q10, q11, q12, oa10_w0, c6, pc6, c9, pc9, k13]
        refine Res.g ?_
        simp -implicitDefEqProofs [-getElem?_pos, -Int.ofNat_lt, -Int.ofNat_le, -Int.natCast_eq_zero, -Int.natCast_pos, -List.length_eq_zero_iff, List.getElem?_cons_zero, List.getElem?_cons_succ, List.getElem?_nil, and_assoc, Q_make_Config_0, ownAt, q1, q2, q3, q4, q5, q6, q7, q8, q9, q10, q11, q12, oa10_w0, c6, pc6, c9, pc9, k13]
  · try subst ea10_w0
    rcases cnd_inv hB with ⟨c6, hB⟩ | ⟨c6, hB⟩
    · have pc6 := eq_true (of_decide_eq_true c6)
      obtain ⟨y7, k8, hB⟩ := kb_inv hB
      replace k8 := run_make_Trust k8
      try simp only [Int.cast_ofNat_Int, Int.natCast_zero, List.length_cons, List.length_nil, List.nil_append, List.cons_append, Nat.zero_add, Nat.reduceAdd, Tru.thr_mk, Tru.nodes_mk, Tru.inner_mk, ints_cons, ints_nil, encTs_cons, encTs_nil, es_api_Config_cons, es_api_Config_nil, es_api_Member_cons, es_api_Member_nil] at k8
      try dsimp only at hB
      obtain rfl := Option.some.inj hB
      try simp -implicitDefEqProofs [-getElem?_pos, -Int.ofNat_lt, -Int.ofNat_le, -Int.natCast_eq_zero, -Int.natCast_pos, -List.length_eq_zero_iff, List.getElem?_cons_zero, List.getElem?_cons_succ, List.getElem?_nil, q1, q2, q3, q4, q5, q6, q7, q8, q9, q10, q11, q12, c6, pc6, k8]
      refine Res.g ?_
      simp -implicitDefEqProofs [-getElem?_pos, -Int.ofNat_lt, -Int.ofNat_le, -Int.natCast_eq_zero, -Int.natCast_pos, -List.length_eq_zero_iff, List.getElem?_cons_zero, List.getElem?_cons_succ, List.getElem?_nil, and_assoc, Q_make_Config_0, ownAt, q1, q2, q3, q4, q5, q6, q7, q8, q9, q10, q11, q12, c6, pc6, k8]
    · have pc6 := eq_false (of_decide_eq_false c6)
      rcases cnd_inv hB with ⟨c9, hB⟩ | ⟨c9, hB⟩
      · have pc9 := eq_true (of_decide_eq_true c9)
        obtain ⟨y10, k11, hB⟩ := kb_inv hB
        replace k11 := run_make_most k11
        try simp only [Int.cast_ofNat_Int, Int.natCast_zero, List.length_cons, List.length_nil, List.nil_append, List.cons_append, Nat.zero_add, Nat.reduceAdd, Tru.thr_mk, Tru.nodes_mk, Tru.inner_mk, ints_cons, ints_nil, encTs_cons, encTs_nil, es_api_Config_cons, es_api_Config_nil, es_api_Member_cons, es_api_Member_nil] at k11
        try dsimp only at hB
        obtain rfl := Option.some.inj hB
        try simp -implicitDefEqProofs [-getElem?_pos, -Int.ofNat_lt, -Int.ofNat_le, -Int.natCast_eq_zero, -Int.natCast_pos, -List.length_eq_zero_iff, List.getElem?_cons_zero, List.getElem?_cons_succ, List.getElem?_nil, q1, q2, q3, q4, q5, q6, q7, q8, q9, q10, q11, q12, c6, pc6, c9, pc9, k11]
        refine Res.g ?_
        simp -implicitDefEqProofs [-getElem?_pos, -Int.ofNat_lt, -Int.ofNat_le, -Int.natCast_eq_zero, -Int.natCast_pos, -List.length_eq_zero_iff, List.getElem?_cons_zero, List.getElem?_cons_succ, List.getElem?_nil, and_assoc, Q_make_Config_0, ownAt, q1, q2, q3, q4, q5, q6, q7, q8, q9, q10, q11, q12, c6, pc6, c9, pc9, k11]
      · have pc9 := eq_false (of_decide_eq_false c9)
        obtain ⟨y12, k13, hB⟩ := kb_inv hB
        replace k13 := run_make_group k13
        try simp only [Int.cast_ofNat_Int, Int.natCast_zero, List.length_cons, List.length_nil, List.nil_append, List.cons_append, Nat.zero_add, Nat.reduceAdd, Tru.thr_mk, Tru.nodes_mk, Tru.inner_mk, ints_cons, ints_nil, encTs_cons, encTs_nil, es_api_Config_cons, es_api_Config_nil, es_api_Member_cons, es_api_Member_nil] at k13
        try dsimp only at hB
        obtain rfl := Option.some.inj hB
        try simp -implicitDefEqProofs [-getElem?_pos, -Int.ofNat_lt, -Int.ofNat_le, -Int.natCast_eq_zero, -Int.natCast_pos, -List.length_eq_zero_iff, List.getElem?_cons_zero, List.getElem?_cons_succ, List.getElem?_nil, q1, q2, q3, q4, q5, q6, q7, q8, q9, q10, q11, q12, c6, pc6, c9, pc9, k13]
        refine Res.g ?_
        simp -implicitDefEqProofs [-getElem?_pos, -Int.ofNat_lt, -Int.ofNat_le, -Int.natCast_eq_zero, -Int.natCast_pos, -List.length_eq_zero_iff, List.getElem?_cons_zero, List.getElem?_cons_succ, List.getElem?_nil, and_assoc, Q_make_Config_0, ownAt, q1, q2, q3, q4, q5, q6, q7, q8, q9, q10, q11, q12, c6, pc6, c9, pc9, k13]
noncomputable def B_make_Config_1 (y1 : (Int × S_trustquorummake_Tape)) (y3 : (Int × S_trustquorummake_Tape)) (xba0_0_1 : (List Int)) (xba0_1_1 : Int) (xb3_0_0_1 : (List S_api_Member)) (x8_1 : Int) : Option (Stp ((List Int) × Int × (List S_api_Member) × Int) Unit) :=
  cnd (decide (x8_1 < y1.1)) (
    kb (B_make_Config_0 xba0_0_1 xba0_1_1 xb3_0_0_1 y3 y1 x8_1) fun z14 =>
    kb (G_make_Tape_N (S_trustquorummake_Tape.mk z14.1 z14.2.1) 12) fun y15 =>
    cnd (decide (y15.1 = 11)) (
      kb (appK xb3_0_0_1 ([(S_api_Member.mk false (Tru.mk 0 ([] : (List Int)) ([] : (List Tru))))] : List S_api_Member) 64) fun L18 =>
      some (.go (y15.2.f0, y15.2.f1, L18, (add64 x8_1 1)))) (
      kb (appK xb3_0_0_1 ([(S_api_Member.mk true (Tru.mk z14.2.2.1 z14.2.2.2.1 z14.2.2.2.2))] : List S_api_Member) 64) fun L20 =>
      some (.go (y15.2.f0, y15.2.f1, L20, (add64 x8_1 1))))) (
    some (.ex 0 (xba0_0_1, xba0_1_1, xb3_0_0_1, x8_1)))
def I_make_Config_1 (y1 : (Int × S_trustquorummake_Tape)) (y3 : (Int × S_trustquorummake_Tape)) (xba0_0_1 : (List Int)) (xba0_1_1 : Int) (xb3_0_0_1 : (List S_api_Member)) (x8_1 : Int) (q : St) : Prop := q (.t 5) = (i64 y1.1) ∧ q (.t 6) = (i64 y3.1) ∧ q (.t 8) = (i64 x8_1) ∧ (q (.t 0) = .ptr (.arg 0) 0 0 ∧ q (.i (.arg 0)) = .box 0 [(.pv (.sl xba0_0_1.length (ints xba0_0_1))), (i64 xba0_1_1)]) ∧ (∃ (g : Nat), q (.t 4) = .ptr (.site 0 0 0) g 0 ∧ q (.i (.site 0 0 0)) = .box g [.nilsl]) ∧ (∃ (g : Nat) (w0 : AV), q (.t 7) = .ptr (.site 3 0 0) g 0 ∧ q (.i (.site 3 0 0)) = .box g [w0] ∧ (ownAt q w0 (.site 15 4 0) false 4 xb3_0_0_1.length (es_api_Member xb3_0_0_1) ∨ ownAt q w0 (.site 16 5 0) false 4 xb3_0_0_1.length (es_api_Member xb3_0_0_1) ∨ (w0 = .nilsl ∧ xb3_0_0_1 = [])))
def Q_make_Config_1 (y1 : (Int × S_trustquorummake_Tape)) (y3 : (Int × S_trustquorummake_Tape)) (xba0_0_1 : (List Int)) (xba0_1_1 : Int) (xb3_0_0_1 : (List S_api_Member)) (x8_1 : Int) (q : St) : Prop := (q (.i (.arg 0)) = .box 0 [(.pv (.sl xba0_0_1.length (ints xba0_0_1))), (i64 xba0_1_1)]) ∧ (∃ (g : Nat), q (.t 4) = .ptr (.site 0 0 0) g 0 ∧ q (.i (.site 0 0 0)) = .box g [.nilsl]) ∧ (∃ (g : Nat) (w0 : AV), q (.t 7) = .ptr (.site 3 0 0) g 0 ∧ q (.i (.site 3 0 0)) = .box g [w0] ∧ (ownAt q w0 (.site 15 4 0) false 4 xb3_0_0_1.length (es_api_Member xb3_0_0_1) ∨ ownAt q w0 (.site 16 5 0) false 4 xb3_0_0_1.length (es_api_Member xb3_0_0_1) ∨ (w0 = .nilsl ∧ xb3_0_0_1 = [])))
theorem Pb_make_Config_1 {y1 : (Int × S_trustquorummake_Tape)} {y3 : (Int × S_trustquorummake_Tape)} {xba0_0_1 : (List Int)} {xba0_1_1 : Int} {xb3_0_0_1 : (List S_api_Member)} {x8_1 : Int} {q : St} {r : (Stp ((List Int) × Int × (List S_api_Member) × Int) Unit)} (hI : I_make_Config_1 y1 y3 xba0_0_1 xba0_1_1 xb3_0_0_1 x8_1 q) (hB : B_make_Config_1 y1 y3 xba0_0_1 xba0_1_1 xb3_0_0_1 x8_1 = some r) : Res (C Tryd.prog cf (Code.fst (Code.fst (Code.snd (Code.fst (Code.snd (Code.snd (Code.snd (Code.snd ((Tryd.f19.body).getD .skip))))))))) q) (postB 0 (fun a q => I_make_Config_1 y1 y3 a.1 a.2.1 a.2.2.1 a.2.2.2 q) (fun a q => Q_make_Config_1 y1 y3 a.1 a.2.1 a.2.2.1 a.2.2.2 q) (fun _ _ => False) r) := by
  simp only [I_make_Config_1] at hI
  obtain ⟨q1, q2, q3, ⟨q4, q5⟩, ⟨g7, q6, q7⟩, ⟨g9, v9_w0, q8, q9, a9_w0⟩⟩ := hI
  simp only [Code.fst, Code.snd, Tryd.f19, Option.getD_some]
  generalize hc0 : Code.block 2 _ = cc0
  unfold B_make_Config_1 at hB
  rcases a9_w0 with ⟨ga9_w0, rfl, oa9_w0⟩ | ⟨ga9_w0, rfl, oa9_w0⟩ | ⟨rfl, ea9_w0⟩
  · rcases cnd_inv hB with ⟨c5, hB⟩ | ⟨c5, hB⟩
    · have pc5 := eq_true (of_decide_eq_true c5)
      try simp -implicitDefEqProofs [-getElem?_pos, -Int.ofNat_lt, -Int.ofNat_le, -Int.natCast_eq_zero, -Int.natCast_pos, -List.length_eq_zero_iff, List.getElem?_cons_zero, List.getElem?_cons_succ, List.getElem?_nil, q1, q2, q3, q4, q5, q6, q7, q8, q9, oa9_w0, c5, pc5]
      generalize hz0 : C Tryd.prog cf cc0 _ = z0
      obtain ⟨z14, hB1, hB⟩ := kb_inv hB
      have hJ := P_make_Config_0 (hc0.symm.trans (by kernel_rfl)) hz0 (by simp -implicitDefEqProofs [-getElem?_pos, -Int.ofNat_lt, -Int.ofNat_le, -Int.natCast_eq_zero, -Int.natCast_pos, -List.length_eq_zero_iff, List.getElem?_cons_zero, List.getElem?_cons_succ, List.getElem?_nil, and_assoc, J_make_Config_0, ownAt, q1, q2, q3, q4, q5, q6, q7, q8, q9, oa9_w0, c5, pc5]) hB1
      obtain ⟨e0, s0, rfl, hq⟩ := hJ.open
      clear hB1
      obtain ⟨rfl, hq⟩ := hq
      obtain ⟨u0_0, u0_1, u0_2, u0_3, u0_4⟩ := z14
      dsimp only at hB hq
      simp only [Q_make_Config_0] at hq
      obtain ⟨q14_1, q14_2, q14_3, ⟨q14_4, q14_5⟩, ⟨g14_7, q14_6, q14_7⟩, ⟨g14_9, v14_9_w0, q14_8, q14_9, a14_9_w0⟩, ⟨g14_11, q14_10, q14_11⟩⟩ := hq
      rcases a14_9_w0 with ⟨ga14_9_w0, rfl, oa14_9_w0⟩ | ⟨ga14_9_w0, rfl, oa14_9_w0⟩ | ⟨rfl, ea14_9_w0⟩
      · obtain ⟨y15, k16, hB⟩ := kb_inv hB
        replace k16 := run_make_Tape_N k16
        try simp only [Int.cast_ofNat_Int, Int.natCast_zero, List.length_cons, List.length_nil, List.nil_append, List.cons_append, Nat.zero_add, Nat.reduceAdd, Tru.thr_mk, Tru.nodes_mk, Tru.inner_mk, ints_cons, ints_nil, encTs_cons, encTs_nil, es_api_Config_cons, es_api_Config_nil, es_api_Member_cons, es_api_Member_nil] at k16
        try dsimp only at hB
        rcases cnd_inv hB with ⟨c17, hB⟩ | ⟨c17, hB⟩
        · have pc17 := eq_true (of_decide_eq_true c17)
          obtain ⟨L18, a19, hB⟩ := kb_inv hB
          obtain ⟨a19z, a19a, a19y⟩ := appK_inv a19
          try (simp only [List.nil_append] at a19z; subst a19z)
          have a19b := appK_len a19
          have a19c := es_api_Member_appK a19
          have a19d := appK_le a19
          try simp only [Int.cast_ofNat_Int, Int.natCast_zero, List.length_cons, List.length_nil, List.nil_append, List.cons_append, Nat.zero_add, Nat.reduceAdd, Tru.thr_mk, Tru.nodes_mk, Tru.inner_mk, ints_cons, ints_nil, encTs_cons, encTs_nil, es_api_Config_cons, es_api_Config_nil, es_api_Member_cons, es_api_Member_nil] at a19a a19b a19c
          try replace a19b : _ = (1 : Nat) := a19b.symm
          try dsimp only at hB
          obtain rfl := Option.some.inj hB
          try simp -implicitDefEqProofs [-getElem?_pos, -Int.ofNat_lt, -Int.ofNat_le, -Int.natCast_eq_zero, -Int.natCast_pos, -List.length_eq_zero_iff, List.getElem?_cons_zero, List.getElem?_cons_succ, List.getElem?_nil, q14_1, q14_2, q14_3, q14_4, q14_5, q14_6, q14_7, q14_8, q14_9, q14_10, q14_11, oa14_9_w0, c5, pc5, k16, c17, pc17, a19a, a19b, a19c, a19d]
          refine Res.bgo ?_
          simp -implicitDefEqProofs [-getElem?_pos, -Int.ofNat_lt, -Int.ofNat_le, -Int.natCast_eq_zero, -Int.natCast_pos, -List.length_eq_zero_iff, List.getElem?_cons_zero, List.getElem?_cons_succ, List.getElem?_nil, and_assoc, I_make_Config_1, ownAt, q14_1, q14_2, q14_3, q14_4, q14_5, q14_6, q14_7, q14_8, q14_9, q14_10, q14_11, oa14_9_w0, c5, pc5, k16, c17, pc17, a19a, a19b, a19c, a19d]
        · have pc17 := eq_false (of_decide_eq_false c17)
          obtain ⟨L20, a21, hB⟩ := kb_inv hB
          obtain ⟨a21z, a21a, a21y⟩ := appK_inv a21
          try (simp only [List.nil_append] at a21z; subst a21z)
          have a21b := appK_len a21
          have a21c := es_api_Member_appK a21
          have a21d := appK_le a21
          try simp only [Int.cast_ofNat_Int, Int.natCast_zero, List.length_cons, List.length_nil, List.nil_append, List.cons_append, Nat.zero_add, Nat.reduceAdd, Tru.thr_mk, Tru.nodes_mk, Tru.inner_mk, ints_cons, ints_nil, encTs_cons, encTs_nil, es_api_Config_cons, es_api_Config_nil, es_api_Member_cons, es_api_Member_nil] at a21a a21b a21c
          try replace a21b : _ = (1 : Nat) := a21b.symm
          try dsimp only at hB
          obtain rfl := Option.some.inj hB
          try simp -implicitDefEqProofs [-getElem?_pos, -Int.ofNat_lt, -Int.ofNat_le, -Int.natCast_eq_zero, -Int.natCast_pos, -List.length_eq_zero_iff, List.getElem?_cons_zero, List.getElem?_cons_succ, List.getElem?_nil, q14_1, q14_2, q14_3, q14_4, q14_5, q14_6, q14_7, q14_8, q14_9, q14_10, q14_11, oa14_9_w0, c5, pc5, k16, c17, pc17, a21a, a21b, a21c, a21d]
          refine Res.bgo ?_
          simp -implicitDefEqProofs [-getElem?_pos, -Int.ofNat_lt, -Int.ofNat_le, -Int.natCast_eq_zero, -Int.natCast_pos, -List.length_eq_zero_iff, List.getElem?_cons_zero, List.getElem?_cons_succ, List.getElem?_nil, and_assoc, I_make_Config_1, ownAt, q14_1, q14_2, q14_3, q14_4, q14_5, q14_6, q14_7, q14_8, q14_9, q14_10, q14_11, oa14_9_w0, c5, pc5, k16, c17, pc17, a21a, a21b, a21c, a21d]
      · obtain ⟨y15, k16, hB⟩ := kb_inv hB
        replace k16 := run_make_Tape_N k16
        try simp only [Int.cast_ofNat_Int, Int.natCast_zero, List.length_cons, List.length_nil, List.nil_append, List.cons_append, Nat.zero_add, Nat.reduceAdd, Tru.thr_mk, Tru.nodes_mk, Tru.inner_mk, ints_cons, ints_nil, encTs_cons, encTs_nil, es_api_Config_cons, es_api_Config_nil, es_api_Member_cons, es_api_Member_nil] at k16
        try dsimp only at hB
        rcases cnd_inv hB with ⟨c17, hB⟩ | ⟨c17, hB⟩
        · have pc17 := eq_true (of_decide_eq_true c17)
          obtain ⟨L18, a19, hB⟩ := kb_inv hB
          obtain ⟨a19z, a19a, a19y⟩ := appK_inv a19
          try (simp only [List.nil_append] at a19z; subst a19z)
          have a19b := appK_len a19
          have a19c := es_api_Member_appK a19
          have a19d := appK_le a19
          try simp only [Int.cast_ofNat_Int, Int.natCast_zero, List.length_cons, List.length_nil, List.nil_append, List.cons_append, Nat.zero_add, Nat.reduceAdd, Tru.thr_mk, Tru.nodes_mk, Tru.inner_mk, ints_cons, ints_nil, encTs_cons, encTs_nil, es_api_Config_cons, es_api_Config_nil, es_api_Member_cons, es_api_Member_nil] at a19a a19b a19c
          try replace a19b : _ = (1 : Nat) := a19b.symm
          try dsimp only at hB
          obtain rfl := Option.some.inj hB
          try simp -implicitDefEqProofs [-getElem?_pos, -Int.ofNat_lt, -Int.ofNat_le, -Int.natCast_eq_zero, -Int.natCast_pos, -List.length_eq_zero_iff, List.getElem?_cons_zero, List.getElem?_cons_succ, List.getElem?_nil, q14_1, q14_2, q14_3, q14_4, q14_5, q14_6, q14_7, q14_8, q14_9, q14_10, q14_11, oa14_9_w0, c5, pc5, k16, c17, pc17, a19a, a19b, a19c, a19d]
          refine Res.bgo ?_
          simp -implicitDefEqProofs [-getElem?_pos, -Int.ofNat_lt, -Int.ofNat_le, -Int.natCast_eq_zero, -Int.natCast_pos, -List.length_eq_zero_iff, List.getElem?_cons_zero, List.getElem?_cons_succ, List.getElem?_nil, and_assoc, I_make_Config_1, ownAt, q14_1, q14_2, q14_3, q14_4, q14_5, q14_6, q14_7, q14_8, q14_9, q14_10, q14_11, oa14_9_w0, c5, pc5, k16, c17, pc17, a19a, a19b, a19c, a19d]
        · have pc17 := eq_false (of_decide_eq_false c17)
          obtain ⟨L20, a21, hB⟩ := kb_inv hB
          obtain ⟨a21z, a21a, a21y⟩ := appK_inv a21
          try (simp only [List.nil_append] at a21z; subst a21z)
          have a21b := appK_len a21
          have a21c := es_api_Member_appK a21
          have a21d := appK_le a21
          try simp only [Int.cast_ofNat_Int, Int.natCast_zero, List.length_cons, List.length_nil, List.nil_append, List.cons_append, Nat.zero_add, Nat.reduceAdd, Tru.thr_mk, Tru.nodes_mk, Tru.inner_mk, ints_cons, ints_nil, encTs_cons, encTs_nil, es_api_Config_cons, es_api_Config_nil, es_api_Member_cons, es_api_Member_nil] at a21a a21b a21c
          try replace a21b : _ = (1 : Nat) := a21b.symm
          try dsimp only at hB
          obtain rfl := Option.some.inj hB
          try simp -implicitDefEqProofs [-getElem?_pos, -Int.ofNat_lt, -Int.ofNat_le, -Int.natCast_eq_zero, -Int.natCast_pos, -List.length_eq_zero_iff, List.getElem?_cons_zero, List.getElem?_cons_succ, List.getElem?_nil, q14_1, q14_2, q14_3, q14_4, q14_5, q14_6, q14_7, q14_8, q14_9, q14_10, q14_11, oa14_9_w0, c5, pc5, k16, c17, pc17, a21a, a21b, a21c, a21d]
          refine Res.bgo ?_
          simp -implicitDefEqProofs [-getElem?_pos, -Int.ofNat_lt, -Int.ofNat_le, -Int.natCast_eq_zero, -Int.natCast_pos, -List.length_eq_zero_iff, List.getElem?_cons_zero, List.getElem?_cons_succ, List.getElem?_nil, and_assoc, I_make_Config_1, ownAt, q14_1, q14_2, q14_3, q14_4, q14_5, q14_6, q14_7, q14_8, q14_9, q14_10, q14_11, oa14_9_w0, c5, pc5, k16, c17, pc17, a21a, a21b, a21c, a21d]
      · try subst ea14_9_w0
        obtain ⟨y15, k16, hB⟩ := kb_inv hB
        replace k16 := run_make_Tape_N k16
        try simp only [Int.cast_ofNat_Int, Int.natCast_zero, List.length_cons, List.length_nil, List.nil_append, List.cons_append, Nat.zero_add, Nat.reduceAdd, Tru.thr_mk, Tru.nodes_mk, Tru.inner_mk, ints_cons, ints_nil, encTs_cons, encTs_nil, es_api_Config_cons, es_api_Config_nil, es_api_Member_cons, es_api_Member_nil] at k16
        try dsimp only at hB
        rcases cnd_inv hB with ⟨c17, hB⟩ | ⟨c17, hB⟩
        · have pc17 := eq_true (of_decide_eq_true c17)
          obtain ⟨L18, a19, hB⟩ := kb_inv hB
          obtain ⟨a19z, a19a, a19y⟩ := appK_inv a19
          simp only [List.nil_append] at a19z
          subst a19z
          try dsimp only at hB
          obtain rfl := Option.some.inj hB
          try simp -implicitDefEqProofs [-getElem?_pos, -Int.ofNat_lt, -Int.ofNat_le, -Int.natCast_eq_zero, -Int.natCast_pos, -List.length_eq_zero_iff, List.getElem?_cons_zero, List.getElem?_cons_succ, List.getElem?_nil, q14_1, q14_2, q14_3, q14_4, q14_5, q14_6, q14_7, q14_8, q14_9, q14_10, q14_11, c5, pc5, k16, c17, pc17]
          refine Res.bgo ?_
          simp -implicitDefEqProofs [-getElem?_pos, -Int.ofNat_lt, -Int.ofNat_le, -Int.natCast_eq_zero, -Int.natCast_pos, -List.length_eq_zero_iff, List.getElem?_cons_zero, List.getElem?_cons_succ, List.getElem?_nil, and_assoc, I_make_Config_1, ownAt, q14_1, q14_2, q14_3, q14_4, q14_5, q14_6, q14_7, q14_8, q14_9, q14_10, q14_11, c5, pc5, k16, c17, pc17]
        · have pc17 := eq_false (of_decide_eq_false c17)
          obtain ⟨L20, a21, hB⟩ := kb_inv hB
          obtain ⟨a21z, a21a, a21y⟩ := appK_inv a21
          simp only [List.nil_append] at a21z
          subst a21z
          try dsimp only at hB
          obtain rfl := Option.some.inj hB
          try simp -implicitDefEqProofs [-getElem?_pos, -Int.ofNat_lt, -Int.ofNat_le, -Int.natCast_eq_zero, -Int.natCast_pos, -List.length_eq_zero_iff, List.getElem?_cons_zero, List.getElem?_cons_succ, List.getElem?_nil, q14_1, q14_2, q14_3, q14_4, q14_5, q14_6, q14_7, q14_8, q14_9, q14_10, q14_11, c5, pc5, k16, c17, pc17]
          refine Res.bgo ?_
          simp -implicitDefEqProofs [-getElem?_pos, -Int.ofNat_lt, -Int.ofNat_le, -Int.natCast_eq_zero, -Int.natCast_pos, -List.length_eq_zero_iff, List.getElem?_cons_zero, List.getElem?_cons_succ, List.getElem?_nil, and_assoc, I_make_Config_1, ownAt, q14_1, q14_2, q14_3, q14_4, q14_5, q14_6, q14_7, q14_8, q14_9, q14_10, q14_11, c5, pc5, k16, c17, pc17]
    · have pc5 := eq_false (of_decide_eq_false c5)
      obtain rfl := Option.some.inj hB
      try simp -implicitDefEqProofs [-getElem?_pos, -Int.ofNat_lt, -Int.ofNat_le, -Int.natCast_eq_zero, -Int.natCast_pos, -List.length_eq_zero_iff, List.getElem?_cons_zero, List.getElem?_cons_succ, List.getElem?_nil, q1, q2, q3, q4, q5, q6, q7, q8, q9, oa9_w0, c5, pc5]
      refine Res.bex ?_
      simp -implicitDefEqProofs [-getElem?_pos, -Int.ofNat_lt, -Int.ofNat_le, -Int.natCast_eq_zero, -Int.natCast_pos, -List.length_eq_zero_iff, List.getElem?_cons_zero, List.getElem?_cons_succ, List.getElem?_nil, and_assoc, Q_make_Config_1, ownAt, q1, q2, q3, q4, q5, q6, q7, q8, q9, oa9_w0, c5, pc5]
  · rcases cnd_inv hB with ⟨c5, hB⟩ | ⟨c5, hB⟩
    · have pc5 := eq_true (of_decide_eq_true c5)
      try simp -implicitDefEqProofs [-getElem?_pos, -Int.ofNat_lt, -Int.ofNat_le, -Int.natCast_eq_zero, -Int.natCast_pos, -List.length_eq_zero_iff, List.getElem?_cons_zero, List.getElem?_cons_succ, List.getElem?_nil, q1, q2, q3, q4, q5, q6, q7, q8, q9, oa9_w0, c5, pc5]
      generalize hz0 : C Tryd.prog cf cc0 _ = z0
      obtain ⟨z14, hB1, hB⟩ := kb_inv hB
      have hJ := P_make_Config_0 (hc0.symm.trans (by kernel_rfl)) hz0 (by simp -implicitDefEqProofs [-getElem?_pos, -Int.ofNat_lt, -Int.ofNat_le, -Int.natCast_eq_zero, -Int.natCast_pos, -List.length_eq_zero_iff, List.getElem?_cons_zero, List.getElem?_cons_succ, List.getElem?_nil, and_assoc, J_make_Config_0, ownAt, q1, q2, q3, q4, q5, q6, q7, q8, q9, oa9_w0, c5, pc5]) hB1
      obtain ⟨e0, s0, rfl, hq⟩ := hJ.open
      clear hB1
      obtain ⟨rfl, hq⟩ := hq
      obtain ⟨u0_0, u0_1, u0_2, u0_3, u0_4⟩ := z14
      dsimp only at hB hq
      simp only [Q_make_Config_0] at hq
      obtain ⟨q14_1, q14_2, q14_3, ⟨q14_4, q14_5⟩, ⟨g14_7, q14_6, q14_7⟩, ⟨g14_9, v14_9_w0, q14_8, q14_9, a14_9_w0⟩, ⟨g14_11, q14_10, q14_11⟩⟩ := hq
      rcases a14_9_w0 with ⟨ga14_9_w0, rfl, oa14_9_w0⟩ | ⟨ga14_9_w0, rfl, oa14_9_w0⟩ | ⟨rfl, ea14_9_w0⟩
      · obtain ⟨y15, k16, hB⟩ := kb_inv hB
        replace k16 := run_make_Tape_N k16
        try simp only [Int.cast_ofNat_Int, Int.natCast_zero, List.length_cons, List.length_nil, List.nil_append, List.cons_append, Nat.zero_add, Nat.reduceAdd, Tru.thr_mk, Tru.nodes_mk, Tru.inner_mk, ints_cons, ints_nil, encTs_cons, encTs_nil, es_api_Config_cons, es_api_Config_nil, es_api_Member_cons, es_api_Member_nil] at k16
        try dsimp only at hB
        rcases cnd_inv hB with ⟨c17, hB⟩ | ⟨c17, hB⟩
        · have pc17 := eq_true (of_decide_eq_true c17)
          obtain ⟨L18, a19, hB⟩ := kb_inv hB
          obtain ⟨a19z, a19a, a19y⟩ := appK_inv a19
          try (simp only [List.nil_append] at a19z; subst a19z)
          have a19b := appK_len a19
          have a19c := es_api_Member_appK a19
          have a19d := appK_le a19
          try simp only [Int.cast_ofNat_Int, Int.natCast_zero, List.length_cons, List.length_nil, List.nil_append, List.cons_append, Nat.zero_add, Nat.reduceAdd, Tru.thr_mk, Tru.nodes_mk, Tru.inner_mk, ints_cons, ints_nil, encTs_cons, encTs_nil, es_api_Config_cons, es_api_Config_nil, es_api_Member_cons, es_api_Member_nil] at a19a a19b a19c
          try replace a19b : _ = (1 : Nat) := a19b.symm
          try dsimp only at hB
          obtain rfl := Option.some.inj hB
          try simp -implicitDefEqProofs [-getElem?_pos, -Int.ofNat_lt, -Int.ofNat_le, -Int.natCast_eq_zero, -Int.natCast_pos, -List.length_eq_zero_iff, List.getElem?_cons_zero, List.getElem?_cons_succ, List.getElem?_nil, q14_1, q14_2, q14_3, q14_4, q14_5, q14_6, q14_7, q14_8, q14_9, q14_10, q14_11, oa14_9_w0, c5, pc5, k16, c17, pc17, a19a, a19b, a19c, a19d]
          refine Res.bgo ?_
          simp -implicitDefEqProofs [-getElem?_pos, -Int.ofNat_lt, -Int.ofNat_le, -Int.natCast_eq_zero, -Int.natCast_pos, -List.length_eq_zero_iff, List.getElem?_cons_zero, List.getElem?_cons_succ, List.getElem?_nil, and_assoc, I_make_Config_1, ownAt, q14_1, q14_2, q14_3, q14_4, q14_5, q14_6, q14_7, q14_8, q14_9, q14_10, q14_11, oa14_9_w0, c5, pc5, k16, c17, pc17, a19a, a19b, a19c, a19d]
        · have pc17 := eq_false (of_decide_eq_false c17)
          obtain ⟨L20, a21, hB⟩ := kb_inv hB
          obtain ⟨a21z, a21a, a21y⟩ := appK_inv a21
          try (simp only [List.nil_append] at a21z; subst a21z)
          have a21b := appK_len a21
          have a21c := es_api_Member_appK a21
          have a21d := appK_le a21
          try simp only [Int.cast_ofNat_Int, Int.natCast_zero, List.length_cons, List.length_nil, List.nil_append, List.cons_append, Nat.zero_add, Nat.reduceAdd, Tru.thr_mk, Tru.nodes_mk, Tru.inner_mk, ints_cons, ints_nil, encTs_cons, encTs_nil, es_api_Config_cons, es_api_Config_nil, es_api_Member_cons, es_api_Member_nil] at a21a a21b a21c
          try replace a21b : _ = (1 : Nat) := a21b.symm
          try dsimp only at hB
          obtain rfl := Option.some.inj hB
          try simp -implicitDefEqProofs [-getElem?_pos, -Int.ofNat_lt, -Int.ofNat_le, -Int.natCast_eq_zero, -Int.natCast_pos, -List.length_eq_zero_iff, List.getElem?_cons_zero, List.getElem?_cons_succ, List.getElem?_nil, q14_1, q14_2, q14_3, q14_4, q14_5, q14_6, q14_7, q14_8, q14_9, q14_10, q14_11, oa14_9_w0, c5, pc5, k16, c17, pc17, a21a, a21b, a21c, a21d]
          refine Res.bgo ?_
          simp -implicitDefEqProofs [-getElem?_pos, -Int.ofNat_lt, -Int.ofNat_le, -Int.natCast_eq_zero, -Int.natCast_pos, -List.length_eq_zero_iff, List.getElem?_cons_zero, List.getElem?_cons_succ, List.getElem?_nil, and_assoc, I_make_Config_1, ownAt, q14_1, q14_2, q14_3, q14_4, q14_5, q14_6, q14_7, q14_8, q14_9, q14_10, q14_11, oa14_9_w0, c5, pc5, k16, c17, pc17, a21a, a21b, a21c, a21d]
      · obtain ⟨y15, k16, hB⟩ := kb_inv hB
        replace k16 := run_make_Tape_N k16
        try simp only [Int.cast_ofNat_Int, Int.natCast_zero, List.length_cons, List.length_nil, List.nil_append, List.cons_append, Nat.zero_add, Nat.reduceAdd, Tru.thr_mk, Tru.nodes_mk, Tru.inner_mk, ints_cons, ints_nil, encTs_cons, encTs_nil, es_api_Config_cons, es_api_Config_nil, es_api_Member_cons, es_api_Member_nil] at k16
        try dsimp only at hB
        rcases cnd_inv hB with ⟨c17, hB⟩ | ⟨c17, hB⟩
        · have pc17 := eq_true (of_decide_eq_true c17)
          obtain ⟨L18, a19, hB⟩ := kb_inv hB
          obtain ⟨a19z, a19a, a19y⟩ := appK_inv a19
          try (simp only [List.nil_append] at a19z; subst a19z)
          have a19b := appK_len a19
          have a19c := es_api_Member_appK a19
          have a19d := appK_le a19
          try simp only [Int.cast_ofNat_Int, Int.natCast_zero, List.length_cons, List.length_nil, List.nil_append, List.cons_append, Nat.zero_add, Nat.reduceAdd, Tru.thr_mk, Tru.nodes_mk, Tru.inner_mk, ints_cons, ints_nil, encTs_cons, encTs_nil, es_api_Config_cons, es_api_Config_nil, es_api_Member_cons, es_api_Member_nil] at a19a a19b a19c
          try replace a19b : _ = (1 : Nat) := a19b.symm
          try dsimp only at hB
          obtain rfl := Option.some.inj hB
          try simp -implicitDefEqProofs [-getElem?_pos, -Int.ofNat_lt, -Int.ofNat_le, -Int.natCast_eq_zero, -Int.natCast_pos, -List.length_eq_zero_iff, List.getElem?_cons_zero, List.getElem?_cons_succ, List.getElem?_nil, q14_1, q14_2, q14_3, q14_4, q14_5, q14_6, q14_7, q14_8, q14_9, q14_10, q14_11, oa14_9_w0, c5, pc5, k16, c17, pc17, a19a, a19b, a19c, a19d]
          refine Res.bgo ?_
          simp -implicitDefEqProofs [-getElem?_pos, -Int.ofNat_lt, -Int.ofNat_le, -Int.natCast_eq_zero, -Int.natCast_pos, -List.length_eq_zero_iff, List.getElem?_cons_zero, List.getElem?_cons_succ, List.getElem?_nil, and_assoc, I_make_Config_1, ownAt, q14_1, q14_2, q14_3, q14_4, q14_5, q14_6, q14_7, q14_8, q14_9, q14_10, q14_11, oa14_9_w0, c5, pc5, k16, c17, pc17, a19a, a19b, a19c, a19d]
        · have pc17 := eq_false (of_decide_eq_false c17)
          obtain ⟨L20, a21, hB⟩ := kb_inv hB
          obtain ⟨a21z, a21a, a21y⟩ := appK_inv a21
          try (simp only [List.nil_append] at a21z; subst a21z)
          have a21b := appK_len a21
          have a21c := es_api_Member_appK a21
          have a21d := appK_le a21
          try simp only [Int.cast_ofNat_Int, Int.natCast_zero, List.length_cons, List.length_nil, List.nil_append, List.cons_append, Nat.zero_add, Nat.reduceAdd, Tru.thr_mk, Tru.nodes_mk, Tru.inner_mk, ints_cons, ints_nil, encTs_cons, encTs_nil, es_api_Config_cons, es_api_Config_nil, es_api_Member_cons, es_api_Member_nil] at a21a a21b a21c
          try replace a21b : _ = (1 : Nat) := a21b.symm
          try dsimp only at hB
          obtain rfl := Option.some.inj hB
          try simp -implicitDefEqProofs [-getElem?_pos, -Int.ofNat_lt, -Int.ofNat_le, -Int.natCast_eq_zero, -Int.natCast_pos, -List.length_eq_zero_iff, List.getElem?_cons_zero, List.getElem?_cons_succ, List.getElem?_nil, q14_1, q14_2, q14_3, q14_4, q14_5, q14_6, q14_7, q14_8, q14_9, q14_10, q14_11, oa14_9_w0, c5, pc5, k16, c17, pc17, a21a, a21b, a21c, a21d]
          refine Res.bgo ?_
          simp -implicitDefEqProofs [-getElem?_pos, -Int.ofNat_lt, -Int.ofNat_le, -Int.natCast_eq_zero, -Int.natCast_pos, -List.length_eq_zero_iff, List.getElem?_cons_zero, List.getElem?_cons_succ, List.getElem?_nil, and_assoc, I_make_Config_1, ownAt, q14_1, q14_2, q14_3, q14_4, q14_5, q14_6, q14_7, q14_8, q14_9, q14_10, q14_11, oa14_9_w0, c5, pc5, k16, c17, pc17, a21a, a21b, a21c, a21d]
      · try subst ea14_9_w0
        obtain ⟨y15, k16, hB⟩ := kb_inv hB
        replace k16 := run_make_Tape_N k16
        try simp only [Int.cast_ofNat_Int, Int.natCast_zero, List.length_cons, List.length_nil, List.nil_append, List.cons_append, Nat.zero_add, Nat.reduceAdd, Tru.thr_mk, Tru.nodes_mk, Tru.inner_mk, ints_cons, ints_nil, encTs_cons, encTs_nil, es_api_Config_cons, es_api_Config_nil, es_api_Member_cons, es_api_Member_nil] at k16
        try dsimp only at hB
        rcases cnd_inv hB with ⟨c17, hB⟩ | ⟨c17, hB⟩
        · have pc17 := eq_true (of_decide_eq_true c17)
          obtain ⟨L18, a19, hB⟩ := kb_inv hB
          obtain ⟨a19z, a19a, a19y⟩ := appK_inv a19
          simp only [List.nil_append] at a19z
          subst a19z
          try dsimp only at hB
          obtain rfl := Option.some.inj hB
          try simp -implicitDefEqProofs [-getElem?_pos, -Int.ofNat_lt, -Int.ofNat_le, -Int.natCast_eq_zero, -Int.natCast_pos, -List.length_eq_zero_iff, List.getElem?_cons_zero, List.getElem?_cons_succ, List.getElem?_nil, q14_1, q14_2, q14_3, q14_4, q14_5, q14_6, q14_7, q14_8, q14_9, q14_10, q14_11, c5, pc5, k16, c17, pc17]
          refine Res.bgo ?_
          simp -implicitDefEqProofs [-getElem?_pos, -Int.ofNat_lt, -Int.ofNat_le, -Int.natCast_eq_zero, -Int.natCast_pos, -List.length_eq_zero_iff, List.getElem?_cons_zero, List.getElem?_cons_succ, List.getElem?_nil, and_assoc, I_make_Config_1, ownAt, q14_1, q14_2, q14_3, q14_4, q14_5, q14_6, q14_7, q14_8, q14_9, q14_10, q14_11, c5, pc5, k16, c17, pc17]
        · have pc17 := eq_false (of_decide_eq_false c17)
          obtain ⟨L20, a21, hB⟩ := kb_inv hB
          obtain ⟨a21z, a21a, a21y⟩ := appK_inv a21
          simp only [List.nil_append] at a21z
          subst a21z
          try dsimp only at hB
          obtain rfl := Option.some.inj hB
          try simp -implicitDefEqProofs [-getElem?_pos, -Int.ofNat_lt, -Int.ofNat_le, -Int.natCast_eq_zero, -Int.natCast_pos, -List.length_eq_zero_iff, List.getElem?_cons_zero, List.getElem?_cons_succ, List.getElem?_nil, q14_1, q14_2, q14_3, q14_4, q14_5, q14_6, q14_7, q14_8, q14_9, q14_10, q14_11, c5, pc5, k16, c17, pc17]
          refine Res.bgo ?_
          simp -implicitDefEqProofs [-getElem?_pos, -Int.ofNat_lt, -Int.ofNat_le, -Int.natCast_eq_zero, -Int.natCast_pos, -List.length_eq_zero_iff, List.getElem?_cons_zero, List.getElem?_cons_succ, List.getElem?_nil, and_assoc, I_make_Config_1, ownAt, q14_1, q14_2, q14_3, q14_4, q14_5, q14_6, q14_7, q14_8, q14_9, q14_10, q14_11, c5, pc5, k16, c17, pc17]
    · have pc5 := eq_false (of_decide_eq_false c5)
      obtain rfl := Option.some.inj hB
      try simp -implicitDefEqProofs [-getElem?_pos, -Int.ofNat_lt, -Int.ofNat_le, -Int.natCast_eq_zero, -Int.natCast_pos, -List.length_eq_zero_iff, List.getElem?_cons_zero, List.getElem?_cons_succ, List.getElem?_nil, q1, q2, q3, q4, q5, q6, q7, q8, q9, oa9_w0, c5, pc5]
      refine Res.bex ?_
      simp -implicitDefEqProofs [-getElem?_pos, -Int.ofNat_lt, -Int.ofNat_le, -Int.natCast_eq_zero, -Int.natCast_pos, -List.length_eq_zero_iff, List.getElem?_cons_zero, List.getElem?_cons_succ, List.getElem?_nil, and_assoc, Q_make_Config_1, ownAt, q1, q2, q3, q4, q5, q6, q7, q8, q9, oa9_w0, c5, pc5]
  · try subst ea9_w0
    rcases cnd_inv hB with ⟨c5, hB⟩ | ⟨c5, hB⟩
    · have pc5 := eq_true (of_decide_eq_true c5)
      try simp -implicitDefEqProofs [-getElem?_pos, -Int.ofNat_lt, -Int.ofNat_le, -Int.natCast_eq_zero, -Int.natCast_pos, -List.length_eq_zero_iff, List.getElem?_cons_zero, List.getElem?_cons_succ, List.getElem?_nil, q1, q2, q3, q4, q5, q6, q7, q8, q9, c5, pc5]
      generalize hz0 : C Tryd.prog cf cc0 _ = z0
      obtain ⟨z14, hB1, hB⟩ := kb_inv hB
      have hJ := P_make_Config_0 (hc0.symm.trans (by kernel_rfl)) hz0 (by simp -implicitDefEqProofs [-getElem?_pos, -Int.ofNat_lt, -Int.ofNat_le, -Int.natCast_eq_zero, -Int.natCast_pos, -List.length_eq_zero_iff, List.getElem?_cons_zero, List.getElem?_cons_succ, List.getElem?_nil, and_assoc, J_make_Config_0, ownAt, q1, q2, q3, q4, q5, q6, q7, q8, q9, c5, pc5]) hB1
      obtain ⟨e0, s0, rfl, hq⟩ := hJ.open
      clear hB1
      obtain ⟨rfl, hq⟩ := hq
      obtain ⟨u0_0, u0_1, u0_2, u0_3, u0_4⟩ := z14
      dsimp only at hB hq
      simp only [Q_make_Config_0] at hq
      obtain ⟨q14_1, q14_2, q14_3, ⟨q14_4, q14_5⟩, ⟨g14_7, q14_6, q14_7⟩, ⟨g14_9, v14_9_w0, q14_8, q14_9, a14_9_w0⟩, ⟨g14_11, q14_10, q14_11⟩⟩ := hq
      rcases a14_9_w0 with ⟨ga14_9_w0, rfl, oa14_9_w0⟩ | ⟨ga14_9_w0, rfl, oa14_9_w0⟩ | ⟨rfl, ea14_9_w0⟩
      · obtain ⟨y15, k16, hB⟩ := kb_inv hB
        replace k16 := run_make_Tape_N k16
        try simp only [Int.cast_ofNat_Int, Int.natCast_zero, List.length_cons, List.length_nil, List.nil_append, List.cons_append, Nat.zero_add, Nat.reduceAdd, Tru.thr_mk, Tru.nodes_mk, Tru.inner_mk, ints_cons, ints_nil, encTs_cons, encTs_nil, es_api_Config_cons, es_api_Config_nil, es_api_Member_cons, es_api_Member_nil] at k16
        try dsimp only at hB
        rcases cnd_inv hB with ⟨c17, hB⟩ | ⟨c17, hB⟩
        · have pc17 := eq_true (of_decide_eq_true c17)
          obtain ⟨L18, a19, hB⟩ := kb_inv hB
          obtain ⟨a19z, a19a, a19y⟩ := appK_inv a19
          try (simp only [List.nil_append] at a19z; subst a19z)
          have a19b := appK_len a19
          have a19c := es_api_Member_appK a19
          have a19d := appK_le a19
          try simp only [Int.cast_ofNat_Int, Int.natCast_zero, List.length_cons, List.length_nil, List.nil_append, List.cons_append, Nat.zero_add, Nat.reduceAdd, Tru.thr_mk, Tru.nodes_mk, Tru.inner_mk, ints_cons, ints_nil, encTs_cons, encTs_nil, es_api_Config_cons, es_api_Config_nil, es_api_Member_cons, es_api_Member_nil] at a19a a19b a19c
          try replace a19b : _ = (1 : Nat) := a19b.symm
          try dsimp only at hB
          obtain rfl := Option.some.inj hB
          try simp -implicitDefEqProofs [-getElem?_pos, -Int.ofNat_lt, -Int.ofNat_le, -Int.natCast_eq_zero, -Int.natCast_pos, -List.length_eq_zero_iff, List.getElem?_cons_zero, List.getElem?_cons_succ, List.getElem?_nil, q14_1, q14_2, q14_3, q14_4, q14_5, q14_6, q14_7, q14_8, q14_9, q14_10, q14_11, oa14_9_w0, c5, pc5, k16, c17, pc17, a19a, a19b, a19c, a19d]
          refine Res.bgo ?_
          simp -implicitDefEqProofs [-getElem?_pos, -Int.ofNat_lt, -Int.ofNat_le, -Int.natCast_eq_zero, -Int.natCast_pos, -List.length_eq_zero_iff, List.getElem?_cons_zero, List.getElem?_cons_succ, List.getElem?_nil, and_assoc, I_make_Config_1, ownAt, q14_1, q14_2, q14_3, q14_4, q14_5, q14_6, q14_7, q14_8, q14_9, q14_10, q14_11, oa14_9_w0, c5, pc5, k16, c17, pc17, a19a, a19b, a19c, a19d]
        · have pc17 := eq_false (of_decide_eq_false c17)
          obtain ⟨L20, a21, hB⟩ := kb_inv hB
          obtain ⟨a21z, a21a, a21y⟩ := appK_inv a21
          try (simp only [List.nil_append] at a21z; subst a21z)
          have a21b := appK_len a21
          have a21c := es_api_Member_appK a21
          have a21d := appK_le a21
          try simp only [Int.cast_ofNat_Int, Int.natCast_zero, List.length_cons, List.length_nil, List.nil_append, List.cons_append, Nat.zero_add, Nat.reduceAdd, Tru.thr_mk, Tru.nodes_mk, Tru.inner_mk, ints_cons, ints_nil, encTs_cons, encTs_nil, es_api_Config_cons, es_api_Config_nil, es_api_Member_cons, es_api_Member_nil] at a21a a21b a21c
          try replace a21b : _ = (1 : Nat) := a21b.symm
          try dsimp only at hB
          obtain rfl := Option.some.inj hB
          try simp -implicitDefEqProofs [-getElem?_pos, -Int.ofNat_lt, -Int.ofNat_le, -Int.natCast_eq_zero, -Int.natCast_pos, -List.length_eq_zero_iff, List.getElem?_cons_zero, List.getElem?_cons_succ, List.getElem?_nil, q14_1, q14_2, q14_3, q14_4, q14_5, q14_6, q14_7, q14_8, q14_9, q14_10, q14_11, oa14_9_w0, c5, pc5, k16, c17, pc17, a21a, a21b, a21c, a21d]
          refine Res.bgo ?_
          simp -implicitDefEqProofs [-getElem?_pos, -Int.ofNat_lt, -Int.ofNat_le, -Int.natCast_eq_zero, -Int.natCast_pos, -List.length_eq_zero_iff, List.getElem?_cons_zero, List.getElem?_cons_succ, List.getElem?_nil, and_assoc, I_make_Config_1, ownAt, q14_1, q14_2, q14_3, q14_4, q14_5, q14_6, q14_7, q14_8, q14_9, q14_10, q14_11, oa14_9_w0, c5, pc5, k16, c17, pc17, a21a, a21b, a21c, a21d]
      · obtain ⟨y15, k16, hB⟩ := kb_inv hB
        replace k16 := run_make_Tape_N k16
        try simp only [Int.cast_ofNat_Int, Int.natCast_zero, List.length_cons, List.length_nil, List.nil_append, List.cons_append, Nat.zero_add, Nat.reduceAdd, Tru.thr_mk, Tru.nodes_mk, Tru.inner_mk, ints_cons, ints_nil, encTs_cons, encTs_nil, es_api_Config_cons, es_api_Config_nil, es_api_Member_cons, es_api_Member_nil] at k16
        try dsimp only at hB
        rcases cnd_inv hB with ⟨c17, hB⟩ | ⟨c17, hB⟩
        · have pc17 := eq_true (of_decide_eq_true c17)
          obtain ⟨L18, a19, hB⟩ := kb_inv hB
          obtain ⟨a19z, a19a, a19y⟩ := appK_inv a19
          try (simp only [List.nil_append] at a19z; subst a19z)
          have a19b := appK_len a19
          have a19c := es_api_Member_appK a19
          have a19d := appK_le a19
          try simp only [Int.cast_ofNat_Int, Int.natCast_zero, List.length_cons, List.length_nil, List.nil_append, List.cons_append, Nat.zero_add, Nat.reduceAdd, Tru.thr_mk, Tru.nodes_mk, Tru.inner_mk, ints_cons, ints_nil, encTs_cons, encTs_nil, es_api_Config_cons, es_api_Config_nil, es_api_Member_cons, es_api_Member_nil] at a19a a19b a19c
          try replace a19b : _ = (1 : Nat) := a19b.symm
          try dsimp only at hB
          obtain rfl := Option.some.inj hB
          try simp -implicitDefEqProofs [-getElem?_pos, -Int.ofNat_lt, -Int.ofNat_le, -Int.natCast_eq_zero, -Int.natCast_pos, -List.length_eq_zero_iff, List.getElem?_cons_zero, List.getElem?_cons_succ, List.getElem?_nil, q14_1, q14_2, q14_3, q14_4, q14_5, q14_6, q14_7, q14_8, q14_9, q14_10, q14_11, oa14_9_w0, c5, pc5, k16, c17, pc17, a19a, a19b, a19c, a19d]
          refine Res.bgo ?_
          simp -implicitDefEqProofs [-getElem?_pos, -Int.ofNat_lt, -Int.ofNat_le, -Int.natCast_eq_zero, -Int.natCast_pos, -List.length_eq_zero_iff, List.getElem?_cons_zero, List.getElem?_cons_succ, List.getElem?_nil, and_assoc, I_make_Config_1, ownAt, q14_1, q14_2, q14_3, q14_4, q14_5, q14_6, q14_7, q14_8, q14_9, q14_10, q14_11, oa14_9_w0, c5, pc5, k16, c17, pc17, a19a, a19b, a19c, a19d]
        · have pc17 := eq_false (of_decide_eq_false c17)
          obtain ⟨L20, a21, hB⟩ := kb_inv hB
          obtain ⟨a21z, a21a, a21y⟩ := appK_inv a21
          try (simp only [List.nil_append] at a21z; subst a21z)
          have a21b := appK_len a21
          have a21c := es_api_Member_appK a21
          have a21d := appK_le a21
          try simp only [Int.cast_ofNat_Int, Int.natCast_zero, List.length_cons, List.length_nil, List.nil_append, List.cons_append, Nat.zero_add, Nat.reduceAdd, Tru.thr_mk, Tru.nodes_mk, Tru.inner_mk, ints_cons, ints_nil, encTs_cons, encTs_nil, es_api_Config_cons, es_api_Config_nil, es_api_Member_cons, es_api_Member_nil] at a21a a21b a21c
          try replace a21b : _ = (1 : Nat) := a21b.symm
          try dsimp only at hB
          obtain rfl := Option.some.inj hB
          try simp -implicitDefEqProofs [-getElem?_pos, -Int.ofNat_lt, -Int.ofNat_le, -Int.natCast_eq_zero, -Int.natCast_pos, -List.length_eq_zero_iff, List.getElem?_cons_zero, List.getElem?_cons_succ, List.getElem?_nil, q14_1, q14_2, q14_3, q14_4, q14_5, q14_6, q14_7, q14_8, q14_9, q14_10, q14_11, oa14_9_w0, c5, pc5, k16, c17, pc17, a21a, a21b, a21c, a21d]
          refine Res.bgo ?_
          simp -implicitDefEqProofs [-getElem?_pos, -Int.ofNat_lt, -Int.ofNat_le, -Int.natCast_eq_zero, -Int.natCast_pos, -List.length_eq_zero_iff, List.getElem?_cons_zero, List.getElem?_cons_succ, List.getElem?_nil, and_assoc, I_make_Config_1, ownAt, q14_1, q14_2, q14_3, q14_4, q14_5, q14_6, q14_7, q14_8, q14_9, q14_10, q14_11, oa14_9_w0, c5, pc5, k16, c17, pc17, a21a, a21b, a21c, a21d]
      · try subst ea14_9_w0
        obtain ⟨y15, k16, hB⟩ := kb_inv hB
        replace k16 := run_make_Tape_N k16
        try simp only [Int.cast_ofNat_Int, Int.natCast_zero, List.length_cons, List.length_nil, List.nil_append, List.cons_append, Nat.zero_add, Nat.reduceAdd, Tru.thr_mk, Tru.nodes_mk, Tru.inner_mk, ints_cons, ints_nil, encTs_cons, encTs_nil, es_api_Config_cons, es_api_Config_nil, es_api_Member_cons, es_api_Member_nil] at k16
        try dsimp only at hB
        rcases cnd_inv hB with ⟨c17, hB⟩ | ⟨c17, hB⟩
        · have pc17 := eq_true (of_decide_eq_true c17)
          obtain ⟨L18, a19, hB⟩ := kb_inv hB
          obtain ⟨a19z, a19a, a19y⟩ := appK_inv a19
          simp only [List.nil_append] at a19z
          subst a19z
          try dsimp only at hB
          obtain rfl := Option.some.inj hB
          try simp -implicitDefEqProofs [-getElem?_pos, -Int.ofNat_lt, -Int.ofNat_le, -Int.natCast_eq_zero, -Int.natCast_pos, -List.length_eq_zero_iff, List.getElem?_cons_zero, List.getElem?_cons_succ, List.getElem?_nil, q14_1, q14_2, q14_3, q14_4, q14_5, q14_6, q14_7, q14_8, q14_9, q14_10, q14_11, c5, pc5, k16, c17, pc17]
          refine Res.bgo ?_
          simp -implicitDefEqProofs [-getElem?_pos, -Int.ofNat_lt, -Int.ofNat_le, -Int.natCast_eq_zero, -Int.natCast_pos, -List.length_eq_zero_iff, List.getElem?_cons_zero, List.getElem?_cons_succ, List.getElem?_nil, and_assoc, I_make_Config_1, ownAt, q14_1, q14_2, q14_3, q14_4, q14_5, q14_6, q14_7, q14_8, q14_9, q14_10, q14_11, c5, pc5, k16, c17, pc17]
        · have pc17 := eq_false (of_decide_eq_false c17)
          obtain ⟨L20, a21, hB⟩ := kb_inv hB
          obtain ⟨a21z, a21a, a21y⟩ := appK_inv a21
          simp only [List.nil_append] at a21z
          subst a21z
          try dsimp only at hB
          obtain rfl := Option.some.inj hB
          try simp -implicitDefEqProofs [-getElem?_pos, -Int.ofNat_lt, -Int.ofNat_le, -Int.natCast_eq_zero, -Int.natCast_pos, -List.length_eq_zero_iff, List.getElem?_cons_zero, List.getElem?_cons_succ, List.getElem?_nil, q14_1, q14_2, q14_3, q14_4, q14_5, q14_6, q14_7, q14_8, q14_9, q14_10, q14_11, c5, pc5, k16, c17, pc17]
          refine Res.bgo ?_
          simp -implicitDefEqProofs [-getElem?_pos, -Int.ofNat_lt, -Int.ofNat_le, -Int.natCast_eq_zero, -Int.natCast_pos, -List.length_eq_zero_iff, List.getElem?_cons_zero, List.getElem?_cons_succ, List.getElem?_nil, and_assoc, I_make_Config_1, ownAt, q14_1, q14_2, q14_3, q14_4, q14_5, q14_6, q14_7, q14_8, q14_9, q14_10, q14_11, c5, pc5, k16, c17, pc17]
    · have pc5 := eq_false (of_decide_eq_false c5)
      obtain rfl := Option.some.inj hB
      try simp -implicitDefEqProofs [-getElem?_pos, -Int.ofNat_lt, -Int.ofNat_le, -Int.natCast_eq_zero, -Int.natCast_pos, -List.length_eq_zero_iff, List.getElem?_cons_zero, List.getElem?_cons_succ, List.getElem?_nil, q1, q2, q3, q4, q5, q6, q7, q8, q9, c5, pc5]
      refine Res.bex ?_
      simp -implicitDefEqProofs [-getElem?_pos, -Int.ofNat_lt, -Int.ofNat_le, -Int.natCast_eq_zero, -Int.natCast_pos, -List.length_eq_zero_iff, List.getElem?_cons_zero, List.getElem?_cons_succ, List.getElem?_nil, and_assoc, Q_make_Config_1, ownAt, q1, q2, q3, q4, q5, q6, q7, q8, q9, c5, pc5]
theorem P_make_Config_1 {y1 : (Int × S_trustquorummake_Tape)} {y3 : (Int × S_trustquorummake_Tape)} {xba0_0_1 : (List Int)} {xba0_1_1 : Int} {xb3_0_0_1 : (List S_api_Member)} {x8_1 : Int} {cc : Code} (hcc : cc = .block 0 (.loop (Code.fst (Code.fst (Code.snd (Code.fst (Code.snd (Code.snd (Code.snd (Code.snd ((Tryd.f19.body).getD .skip))))))))))) {s : St} {z : Option (Ex × St)} (hz : C Tryd.prog cf cc s = z) {r : (Stp ((List Int) × Int × (List S_api_Member) × Int) Unit)} (hI : I_make_Config_1 y1 y3 xba0_0_1 xba0_1_1 xb3_0_0_1 x8_1 s) (hB : iterW (fun a => B_make_Config_1 y1 y3 a.1 a.2.1 a.2.2.1 a.2.2.2) (xba0_0_1, xba0_1_1, xb3_0_0_1, x8_1) = some r) : Res z (postS (fun a q => Q_make_Config_1 y1 y3 a.1 a.2.1 a.2.2.1 a.2.2.2 q) (fun _ _ => False) r) := by
  subst hcc
  exact while_sim (I := fun a q => I_make_Config_1 y1 y3 a.1 a.2.1 a.2.2.1 a.2.2.2 q) (Q := (fun a q => Q_make_Config_1 y1 y3 a.1 a.2.1 a.2.2.1 a.2.2.2 q)) (QR := (fun _ _ => False)) (fun a q r h hB => Pb_make_Config_1 h hB) hI hz hB
noncomputable def B_make_Config (p0 : S_trustquorummake_Tape) (p1 : Int) : Option (S_api_Config × S_trustquorummake_Tape) :=
  kb (G_make_Tape_Range p0 1 p1) fun y1 =>
  kb (G_make_Tape_N y1.2 3) fun y3 =>
  kb (iterW (fun a => B_make_Config_1 y1 y3 a.1 a.2.1 a.2.2.1 a.2.2.2) (y3.2.f0, y3.2.f1, ([] : (List S_api_Member)), 0)) fun o => stpK o (fun z22 =>
    some ((S_api_Config.mk z22.2.2.1), (S_trustquorummake_Tape.mk z22.1 z22.2.1))) (fun z22r =>
    none)
theorem sim_make_Config {p0 : S_trustquorummake_Tape} {p1 : Int} {r : (S_api_Config × S_trustquorummake_Tape)} (hB : B_make_Config p0 p1 = some r) : R 19 [.ptr (.arg 0) 0 0, (i64 p1)] [.box 0 [(.pv (.sl p0.f0.length (ints p0.f0))), (i64 p0.f1)]] = some ((.agg [(.pv (.sl r.1.f0.length (es_api_Member r.1.f0)))]), [.box 0 [(.pv (.sl r.2.f0.length (ints r.2.f0))), (i64 r.2.f1)]], []) := by
  rw [R_eq _ _ _ fn_make_Config]
  simp only [Code.fst, Code.snd, Tryd.f19, Option.getD_some]
  generalize hc1 : Code.block 0 _ = cc1
  unfold B_make_Config at hB
  obtain ⟨y1, k2, hB⟩ := kb_inv hB
  replace k2 := run_make_Tape_Range k2
  try simp only [Int.cast_ofNat_Int, Int.natCast_zero, List.length_cons, List.length_nil, List.nil_append, List.cons_append, Nat.zero_add, Nat.reduceAdd, Tru.thr_mk, Tru.nodes_mk, Tru.inner_mk, ints_cons, ints_nil, encTs_cons, encTs_nil, es_api_Config_cons, es_api_Config_nil, es_api_Member_cons, es_api_Member_nil] at k2
  try dsimp only at hB
  obtain ⟨y3, k4, hB⟩ := kb_inv hB
  replace k4 := run_make_Tape_N k4
  try simp only [Int.cast_ofNat_Int, Int.natCast_zero, List.length_cons, List.length_nil, List.nil_append, List.cons_append, Nat.zero_add, Nat.reduceAdd, Tru.thr_mk, Tru.nodes_mk, Tru.inner_mk, ints_cons, ints_nil, encTs_cons, encTs_nil, es_api_Config_cons, es_api_Config_nil, es_api_Member_cons, es_api_Member_nil] at k4
  try dsimp only at hB
  try simp -implicitDefEqProofs [-getElem?_pos, -Int.ofNat_lt, -Int.ofNat_le, -Int.natCast_eq_zero, -Int.natCast_pos, -List.length_eq_zero_iff, List.getElem?_cons_zero, List.getElem?_cons_succ, List.getElem?_nil, k2, k4]
  generalize hz1 : C Tryd.prog cf cc1 _ = z1
  obtain ⟨o, hB1, hB⟩ := kb_inv hB
  have hJ := P_make_Config_1 (hc1.symm.trans (by kernel_rfl)) hz1 (by simp -implicitDefEqProofs [-getElem?_pos, -Int.ofNat_lt, -Int.ofNat_le, -Int.natCast_eq_zero, -Int.natCast_pos, -List.length_eq_zero_iff, List.getElem?_cons_zero, List.getElem?_cons_succ, List.getElem?_nil, and_assoc, I_make_Config_1, ownAt, k2, k4]) hB1
  obtain ⟨e1, s1, rfl, hq⟩ := hJ.open
  clear hB1
  rcases o with z22 | ⟨_, _⟩ | z22r
  · simp only [stpK_go] at hB
    obtain ⟨rfl, hq⟩ := hq
    obtain ⟨u1_0, u1_1, u1_2, u1_3⟩ := z22
    dsimp only at hB hq
    simp only [Q_make_Config_1] at hq
    obtain ⟨q22_1, ⟨g22_3, q22_2, q22_3⟩, ⟨g22_5, v22_5_w0, q22_4, q22_5, a22_5_w0⟩⟩ := hq
    rcases a22_5_w0 with ⟨ga22_5_w0, rfl, oa22_5_w0⟩ | ⟨ga22_5_w0, rfl, oa22_5_w0⟩ | ⟨rfl, ea22_5_w0⟩
    · obtain rfl := Option.some.inj hB
      simp -implicitDefEqProofs [-getElem?_pos, -Int.ofNat_lt, -Int.ofNat_le, -Int.natCast_eq_zero, -Int.natCast_pos, -List.length_eq_zero_iff, List.getElem?_cons_zero, List.getElem?_cons_succ, List.getElem?_nil, q22_1, q22_2, q22_3, q22_4, q22_5, oa22_5_w0, k2, k4]
    · obtain rfl := Option.some.inj hB
      simp -implicitDefEqProofs [-getElem?_pos, -Int.ofNat_lt, -Int.ofNat_le, -Int.natCast_eq_zero, -Int.natCast_pos, -List.length_eq_zero_iff, List.getElem?_cons_zero, List.getElem?_cons_succ, List.getElem?_nil, q22_1, q22_2, q22_3, q22_4, q22_5, oa22_5_w0, k2, k4]
    · try subst ea22_5_w0
      obtain rfl := Option.some.inj hB
      simp -implicitDefEqProofs [-getElem?_pos, -Int.ofNat_lt, -Int.ofNat_le, -Int.natCast_eq_zero, -Int.natCast_pos, -List.length_eq_zero_iff, List.getElem?_cons_zero, List.getElem?_cons_succ, List.getElem?_nil, q22_1, q22_2, q22_3, q22_4, q22_5, k2, k4]
  · exact hq.elim
  · cases hB
theorem g_make_Config {p0 : S_trustquorummake_Tape} {p1 : Int} {r : (S_api_Config × S_trustquorummake_Tape)} (hB : B_make_Config p0 p1 = some r) : G_make_Config p0 p1 = some r := dec_of (fun a b h => by rcases a with ⟨⟨a0_0⟩, ⟨a1_0, a1_1⟩⟩; rcases b with ⟨⟨b0_0⟩, ⟨b1_0, b1_1⟩⟩; simp at h; simp [*]) (sim_make_Config hB)
end Go.Am

/-
Plain laws: configurations, their deletion, and when two of them are the same.
-/
namespace Go.Am
open Go
set_option linter.unusedVariables false
set_option linter.unusedSimpArgs false

abbrev Mem := S_api_Member
abbrev Conf := S_api_Config
def Mem.Fine (m : Mem) : Prop := m.f1.Fine
def Conf.Fine (c : Conf) : Prop := c.f0.length < 1048576 ∧ ∀ m ∈ c.f0, m.f1.Fine

/-! ### the same -/
/-- a loop that goes over two lists -/
theorem same_loop {X : Type} (l m : List X) (h : l.length = m.length) (f : Nat → Unit → X → Option (Stp Unit Unit)) (p : X → X → Prop)
    (hf : ∀ (i : Nat) (x y : X), l[i]? = some x → m[i]? = some y → ∃ o, f i () x = some o ∧ ((p x y ∧ o = .go ()) ∨ (¬ p x y ∧ o = .ret ()))) :
    ∃ o, loopL f 0 () l = some o ∧ (((∀ (i : Nat) (x y : X), l[i]? = some x → m[i]? = some y → p x y) ∧ o = .go ()) ∨ ((¬ ∀ (i : Nat) (x y : X), l[i]? = some x → m[i]? = some y → p x y) ∧ o = .ret ())) := by
  have hx : ∀ (d j : Nat), j + d = l.length → ∃ o, loopL f j () (l.drop j) = some o ∧ (((∀ (i : Nat) (x y : X), j ≤ i → l[i]? = some x → m[i]? = some y → p x y) ∧ o = .go ()) ∨ ((¬ ∀ (i : Nat) (x y : X), j ≤ i → l[i]? = some x → m[i]? = some y → p x y) ∧ o = .ret ())) := by
    intro d
    induction d with
    | zero =>
      intro j hj
      rw [List.drop_of_length_le (by omega)]
      refine ⟨_, rfl, .inl ⟨fun i x y hi hx => ?_, rfl⟩⟩
      have := (List.getElem?_eq_some_iff.1 hx).1
      omega
    | succ d ih =>
      intro j hj
      have h1 : j < l.length := by omega
      have h2 : j < m.length := by omega
      rw [List.drop_eq_getElem_cons h1]
      obtain ⟨o, ho, hp⟩ := hf j l[j] m[j] (by simp [h1]) (by simp [h2])
      obtain ⟨o', ho', hp'⟩ := ih (j + 1) (by omega)
      rcases hp with ⟨hp, rfl⟩ | ⟨hp, rfl⟩
      · refine ⟨o', ?_, ?_⟩
        · show kb (f j () l[j]) _ = _
          rw [ho, kb_some]; exact ho'
        · have e : (∀ (i : Nat) (x y : X), j + 1 ≤ i → l[i]? = some x → m[i]? = some y → p x y) ↔ ∀ (i : Nat) (x y : X), j ≤ i → l[i]? = some x → m[i]? = some y → p x y := by
            constructor
            · intro hh i x y hi hx hy
              rcases Nat.eq_or_lt_of_le hi with rfl | hi
              · rw [List.getElem?_eq_getElem h1] at hx
                rw [List.getElem?_eq_getElem h2] at hy
                cases hx; cases hy; exact hp
              · exact hh i x y hi hx hy
            · intro hh i x y hi; exact hh i x y (by omega)
          rw [← e]; exact hp'
      · refine ⟨.ret (), ?_, .inr ⟨fun hh => hp (hh j _ _ (Nat.le_refl _) (by simp [h1]) (by simp [h2])), rfl⟩⟩
        show kb (f j () l[j]) _ = _
        rw [ho, kb_some]
  obtain ⟨o, h1, h2⟩ := hx l.length 0 (by omega)
  exact ⟨o, h1, by simpa using h2⟩
theorem ext_get {X : Type} {l m : List X} (h : l.length = m.length) : (∀ (i : Nat) (x y : X), l[i]? = some x → m[i]? = some y → x = y) ↔ l = m := by
  constructor
  · intro hh
    apply List.ext_getElem h
    intro i h1 h2
    exact hh i _ _ (by simp [h1]) (by simp [h2])
  · rintro rfl i x y hx hy
    rw [hx] at hy; exact Option.some.inj hy
theorem s_ref01_Same (a b : List Int) (ha : a.length < 4611686018427387904) : ∃ v, G_ref01_Same a b = some v ∧ (v = true ↔ a = b) := by
  have hB : ∃ v, B_ref01_Same a b = some v ∧ (v = true ↔ a = b) := by
    unfold B_ref01_Same
    by_cases c : (a.length : Int) = (b.length : Int)
    · have hl : a.length = b.length := by omega
      simp only [c, decide_true, cnd_true]
      rw [smallK_some ha, kb_some]
      obtain ⟨o, ho, hp⟩ := same_loop a b hl (fun i u x => B_ref01_Same_0 a b i x) (fun x y => x = y) (fun i x y hx hy => by
        refine ⟨if x = y then .go () else .ret (), ?_, ?_⟩
        · unfold B_ref01_Same_0
          rw [getI_nat, hy, kb_some]
          by_cases e : x = y <;> simp [e, cnd_true, cnd_false]
        · by_cases e : x = y <;> simp [e])
      rw [ho, kb_some]
      rw [ext_get hl] at hp
      rcases hp with ⟨hp, rfl⟩ | ⟨hp, rfl⟩
      · exact ⟨true, rfl, by simp [hp]⟩
      · exact ⟨false, rfl, by simp [hp]⟩
    · refine ⟨false, by simp only [c, decide_false, cnd_false], ?_⟩
      have : a ≠ b := fun e => c (by rw [e])
      simp [this]
  obtain ⟨v, h1, h2⟩ := hB
  exact ⟨v, g_ref01_Same h1, h2⟩
theorem s_ref02_Same : ∀ x : Tru, x.Fine → ∀ y : Tru, ∃ v, G_ref02_Same x y = some v ∧ (v = true ↔ x = y) := by
  refine tru_ind fun t n i ih h y => ?_
  obtain ⟨u, m, j⟩ := y
  have hl := Fine_len h
  simp only [Tru.nodes_mk, Tru.inner_mk] at hl
  obtain ⟨v1, e1, h1⟩ := s_ref01_Same n m (by omega)
  have hB : ∃ v, B_ref02_Same (.mk t n i) (.mk u m j) = some v ∧ (v = true ↔ (Tru.mk t n i) = .mk u m j) := by
    have h0 : B_ref02_Same_0 (.mk t n i) (.mk u m j) = some (!(decide (t = u) && (v1 && decide ((i.length : Int) = (j.length : Int))))) := by
      unfold B_ref02_Same_0
      simp only [Tru.thr_mk, Tru.nodes_mk, Tru.inner_mk, e1, kb_some]
      by_cases c : t = u
      · simp only [c, decide_true, cnd_true, Bool.true_and]
        cases v1
        · simp [cnd_false]
        · simp only [cnd_true, Bool.true_and]; rfl
      · simp [c, cnd_false]
    unfold B_ref02_Same
    rw [h0, kb_some]
    simp only [Tru.inner_mk]
    by_cases c1 : t = u
    case neg => exact ⟨false, by simp [c1, cnd_true], by simp [c1]⟩
    by_cases c2 : v1 = true
    case neg =>
      have : n ≠ m := fun e => c2 (h1.2 e)
      have c2' : v1 = false := by simpa using c2
      exact ⟨false, by simp [c2', cnd_true], by simp [this]⟩
    by_cases c3 : (i.length : Int) = (j.length : Int)
    case neg =>
      have : i ≠ j := fun e => c3 (by rw [e])
      exact ⟨false, by simp [c3, cnd_true], by simp [this]⟩
    have hij : i.length = j.length := by omega
    simp only [c1, c2, c3, decide_true, Bool.and_self, Bool.not_true, cnd_false]
    rw [smallK_some (by omega), kb_some]
    obtain ⟨o, ho, hp⟩ := same_loop i j hij (fun k a x => B_ref02_Same_1 (.mk u n i) (.mk u m j) k x) (fun x y => x = y) (fun k x y hx hy => by
      obtain ⟨v, ev, hv⟩ := ih x (List.mem_of_getElem? hx) (Fine_inner h (List.mem_of_getElem? hx)) y
      refine ⟨if v = true then .go () else .ret (), ?_, ?_⟩
      · unfold B_ref02_Same_1
        simp only [Tru.inner_mk]
        rw [getI_nat, hy, kb_some, ev, kb_some]
        cases v <;> rfl
      · rw [← hv]
        cases v <;> simp)
    rw [ho, kb_some]
    rw [ext_get hij] at hp
    have hnm := h1.1 c2
    rcases hp with ⟨hp, rfl⟩ | ⟨hp, rfl⟩
    · exact ⟨true, rfl, by simp [hp, hnm]⟩
    · exact ⟨false, rfl, by simp [hp]⟩
  obtain ⟨v, h2, h3⟩ := hB
  exact ⟨v, g_ref02_Same h2, h3⟩
theorem s_ref06_Same (c d : Conf) (hc : c.Fine) : ∃ v, G_ref06_Same c d = some v ∧ (v = true ↔ c = d) := by
  obtain ⟨l⟩ := c
  obtain ⟨m⟩ := d
  obtain ⟨hl, hm⟩ := hc
  dsimp only at hl hm
  have hB : ∃ v, B_ref06_Same ⟨l⟩ ⟨m⟩ = some v ∧ (v = true ↔ (⟨l⟩ : Conf) = ⟨m⟩) := by
    unfold B_ref06_Same
    dsimp only
    by_cases c : (l.length : Int) = (m.length : Int)
    · have hlm : l.length = m.length := by omega
      simp only [c, decide_true, cnd_true]
      rw [smallK_some (by omega), kb_some]
      obtain ⟨o, ho, hp⟩ := same_loop l m hlm (fun i u x => B_ref06_Same_1 ⟨l⟩ ⟨m⟩ i x) (fun x y => x = y) (fun i x y hx hy => by
        obtain ⟨v, ev, hv⟩ := s_ref02_Same x.f1 (hm x (List.mem_of_getElem? hx)) y.f1
        have e0 : B_ref06_Same_0 ⟨l⟩ ⟨m⟩ i = some (!((x.f0 == y.f0) && v)) := by
          unfold B_ref06_Same_0
          dsimp only
          rw [getI_nat, hx, kb_some, getI_nat, hy, kb_some, ev, kb_some]
          cases (x.f0 == y.f0) <;> rfl
        refine ⟨if ((x.f0 == y.f0) && v) = true then .go () else .ret (), ?_, ?_⟩
        · unfold B_ref06_Same_1
          rw [e0, kb_some]
          cases ((x.f0 == y.f0) && v) <;> rfl
        · have e : ((x.f0 == y.f0) && v) = true ↔ x = y := by
            rw [Bool.and_eq_true, hv, beq_iff_eq]
            constructor
            · rintro ⟨h1, h2⟩; cases x; cases y; simp_all
            · rintro rfl; exact ⟨rfl, rfl⟩
          rw [← e]
          cases ((x.f0 == y.f0) && v) <;> simp)
      rw [ho, kb_some]
      rw [ext_get hlm] at hp
      rcases hp with ⟨hp, rfl⟩ | ⟨hp, rfl⟩
      · exact ⟨true, rfl, by simp [hp]⟩
      · exact ⟨false, rfl, by simp [hp]⟩
    · refine ⟨false, by simp only [c, decide_false, cnd_false], ?_⟩
      have : l ≠ m := fun e => c (by rw [e])
      simp [this]
  obtain ⟨v, h1, h2⟩ := hB
  exact ⟨v, g_ref06_Same h1, h2⟩
theorem s_ref06_Same' {c d : Conf} (hc : c.Fine) (h : c = d) : G_ref06_Same c d = some true := by
  obtain ⟨v, h1, h2⟩ := s_ref06_Same c d hc
  rw [h1, h2.2 h]

/-! ### deletion of a configuration -/
def mem0 : Mem := ⟨false, .mk 0 [] []⟩
def delM (s : Int) (i : Nat) (m : Mem) : Mem := if hasS s (i : Int) = true then mem0 else if m.f0 = true then ⟨true, delT s (i : Int) m.f1⟩ else m
def delC (s : Int) (c : Conf) : Conf := ⟨c.f0.mapIdx (delM s)⟩
theorem s_Delete (s : Int) (c : Conf) (hc : c.Fine) : G_deletion_Delete c s = some (delC s c) := by
  refine g_deletion_Delete ?_
  obtain ⟨hl, hm⟩ := hc
  unfold B_deletion_Delete delC
  rw [smallK_some (by omega), kb_some]
  obtain ⟨z, hz, hp⟩ := foldO_inv (f := fun i a x => B_deletion_Delete_0 s c i a x) (fun j a => a = (c.f0.take j).mapIdx (delM s)) c.f0 0 [] (by
    intro j a x hj hp
    simp only [Nat.zero_add] at hp ⊢
    have hjl := (List.getElem?_eq_some_iff.1 hj).1
    have hal : a.length = j := by rw [hp]; simp; omega
    have htk : c.f0.take (j + 1) = c.f0.take j ++ [x] := by rw [List.take_add_one, hj]; rfl
    have hlen : (c.f0.take j).length = j := by simp; omega
    refine ⟨a ++ [delM s j x], ?_, ?_⟩
    · unfold B_deletion_Delete_0 delM
      rw [s_nodeset_Has, kb_some]
      cases c1 : hasS s (j : Int)
      · simp only [cnd_false, Bool.false_eq_true, if_false]
        cases c2 : x.f0
        · simp only [cnd_false, Bool.false_eq_true, if_false]
          rw [s_copied _ (hm x (List.mem_of_getElem? hj)), kb_some, appK_some (by simp; omega), kb_some]
          have : S_api_Member.mk false x.f1 = x := by cases x; simp_all
          rw [this]
        · simp only [cnd_true, if_true]
          rw [s_Trust _ _ (hm x (List.mem_of_getElem? hj)), kb_some, appK_some (by simp; omega), kb_some]
      · simp only [cnd_true, if_true]
        rw [appK_some (by simp; omega), kb_some]
        rfl
    · rw [htk, List.mapIdx_append, hlen, ← hp]
      simp) (by simp)
  rw [hz, kb_some, hp]
  simp
theorem delM_Fine {s : Int} {i : Nat} (hi : i < 1048576) {m : Mem} (h : m.f1.Fine) : (delM s i m).f1.Fine := by
  unfold delM
  split
  · exact ⟨by rw [mem0, size_mk]; simp [sizes], by unfold in64; omega, ⟨fun k hk => (by cases hk), trivial⟩⟩
  · split
    · exact del_Fine (by unfold in64; omega) h
    · exact h
theorem delC_Fine (s : Int) {c : Conf} (h : c.Fine) : (delC s c).Fine := by
  refine ⟨by simp [delC]; exact h.1, fun m hm => ?_⟩
  obtain ⟨i, hi, rfl⟩ := List.mem_mapIdx.1 hm
  exact delM_Fine (by have := h.1; omega) (h.2 _ (List.getElem_mem _))

/-! ### deletion twice -/
theorem countP_filter_map {p q : Tru → Bool} : True := trivial
theorem lv_lv {a b u : Int} (hu : ∀ j, hasS u j = (hasS a j || hasS b j)) : ∀ x : Tru, lvT b (lvT a x) = lvT u x := by
  refine tru_ind fun t n i ih => ?_
  simp only [lvT, lvTs_eq]
  have hn : n.countP (hasS u) = n.countP (hasS a) + (n.filter fun k => !hasS a k).countP (hasS b) := countP_split _ _ _ n (fun k _ => hu k)
  have h0 : ∀ y : Tru, y.thr = 0 → (lvT b y).thr = 0 := by
    intro y hy
    obtain ⟨t, n, i⟩ := y
    simp only [Tru.thr_mk] at hy
    simp only [lvT, Tru.thr_mk, hy]
    omega
  have hmap : i.map (lvT u) = (i.map (lvT a)).map (lvT b) := by
    rw [List.map_map]
    exact List.map_congr_left fun x hx => (ih x hx).symm
  have hI : ((i.map (lvT a)).map (lvT b)).countP (fun y => decide (y.thr = 0)) = (i.map (lvT a)).countP (fun y => decide (y.thr = 0)) + (((i.map (lvT a)).filter fun y => !decide (y.thr = 0)).map (lvT b)).countP (fun y => decide (y.thr = 0)) := by
    rw [List.countP_map (l := i.map (lvT a)), List.countP_map (l := (i.map (lvT a)).filter _)]
    refine countP_split _ _ _ _ fun y _ => ?_
    by_cases c : y.thr = 0
    · simp [c, h0 y c]
    · simp [c]
  have hF : ((i.map (lvT a)).map (lvT b)).filter (fun y => !decide (y.thr = 0)) = (((i.map (lvT a)).filter fun y => !decide (y.thr = 0)).map (lvT b)).filter (fun y => !decide (y.thr = 0)) := by
    generalize i.map (lvT a) = l
    induction l with
    | nil => rfl
    | cons y r ihr =>
      by_cases c : y.thr = 0
      · simp only [List.map_cons, List.filter_cons, c, h0 y c, decide_true, Bool.not_true, Bool.false_eq_true, if_false]
        exact ihr
      · simp only [List.map_cons, List.filter_cons, c, decide_false, Bool.not_false, if_true]
        rw [ihr]
  rw [hmap, hn, hI, ← hF]
  congr 1
  · omega
  · rw [List.filter_filter]
    exact List.filter_congr fun k _ => by rw [hu]; cases hasS a k <;> cases hasS b k <;> rfl
theorem del_del {a b u k : Int} (ha : setB a = true) (hb : setB b = true) (hu1 : setB u = true) (hu : ∀ j, hasS u j = (hasS a j || hasS b j)) (hk : hasS b k = false) (x : Tru) : delT b k (delT a k x) = delT u k x := by
  have h := lv_lv hu x
  unfold delT
  simp only [ha, hb, hu1, if_true]
  by_cases c : (lvT a x).thr = 0
  · have h0 : (lvT u x).thr = 0 := by
      rw [← h]
      generalize lvT a x = y at c
      obtain ⟨t, n, i⟩ := y
      simp only [Tru.thr_mk] at c
      simp only [lvT, Tru.thr_mk, c]
      omega
    have e : lvT b (.mk 1 [k] []) = .mk 1 [k] [] := by simp [lvT, lvTs, hk]; omega
    simp only [c, h0, if_true, e, Tru.thr_mk]
    simp
  · simp only [c, if_false, h]
theorem lv_zero : ∀ x : Tru, good x = true → lvT 0 x = x := by
  refine tru_ind fun t n i ih h => ?_
  simp only [good, Bool.and_eq_true, decide_eq_true_eq, goods_eq, List.all_eq_true] at h
  obtain ⟨⟨h1, h2⟩, h3, h4, h5⟩ := h
  have e1 : n.filter (fun k => !hasS 0 k) = n := List.filter_eq_self.2 fun k _ => by simp [has_zero]
  have e2 : n.countP (hasS 0) = 0 := List.countP_eq_zero.2 fun k _ => by simp [has_zero]
  have e3 : i.map (lvT 0) = i := by
    conv => rhs; rw [← List.map_id i]
    exact List.map_congr_left fun x hx => by rw [ih x hx (h5 x hx)]; rfl
  have e4 : ∀ x ∈ i, x.thr ≠ 0 := by
    intro x hx
    have := h5 x hx
    obtain ⟨t, n, i⟩ := x
    simp only [good, Bool.and_eq_true, decide_eq_true_eq] at this
    simp only [Tru.thr_mk]; omega
  have e5 : i.filter (fun y => !decide (y.thr = 0)) = i := List.filter_eq_self.2 fun x hx => by simp [e4 x hx]
  have e6 : i.countP (fun y => decide (y.thr = 0)) = 0 := List.countP_eq_zero.2 fun x hx => by simp [e4 x hx]
  simp only [lvT, lvTs_eq, e1, e2, e3, e5, e6]
  congr 1
  omega
theorem good_thr {x : Tru} (h : good x = true) : x.thr ≠ 0 := by
  obtain ⟨t, n, i⟩ := x
  simp only [good, Bool.and_eq_true, decide_eq_true_eq] at h
  simp only [Tru.thr_mk]; omega
theorem del_zero {x : Tru} (h : good x = true) (k : Int) : delT 0 k x = x := by
  unfold delT
  rw [if_pos set_zero, lv_zero x h, if_neg (good_thr h)]
theorem delM_delM {a b u : Int} (ha : setB a = true) (hb : setB b = true) (hu1 : setB u = true) (hu : ∀ j, hasS u j = (hasS a j || hasS b j)) (i : Nat) (m : Mem) : delM b i (delM a i m) = delM u i m := by
  unfold delM
  rw [hu]
  cases h1 : hasS a (i : Int)
  · cases h2 : hasS b (i : Int)
    · simp only [Bool.false_eq_true, if_false, Bool.or_self]
      cases h3 : m.f0
      · simp [h3]
      · simp only [if_true]
        rw [del_del ha hb hu1 hu h2]
    · simp
  · simp only [if_true, Bool.true_or]
    simp [mem0]
theorem delC_delC {a b u : Int} (ha : setB a = true) (hb : setB b = true) (hu1 : setB u = true) (hu : ∀ j, hasS u j = (hasS a j || hasS b j)) (c : Conf) : delC b (delC a c) = delC u c := by
  unfold delC
  congr 1
  rw [List.mapIdx_mapIdx]
  congr 1
  funext i m
  exact delM_delM ha hb hu1 hu i m
end Go.Am

/-
Plain laws: trusts whose lists fit into memory.
-/
namespace Go.Am
open Go
mutual
/-- no list in a trust is longer than memory -/
def Tru.Slim : Tru → Prop
  | .mk _ n i => n.length ≤ 17592186044416 ∧ (i.length ≤ 17592186044416 ∧ Slims i)
def Slims : List Tru → Prop
  | [] => True
  | x :: r => x.Slim ∧ Slims r
end
theorem Slims_iff : ∀ {l : List Tru}, Slims l ↔ ∀ x ∈ l, x.Slim
  | [] => by simp [Slims]
  | y :: r => by simp [Slims, Slims_iff (l := r)]
end Go.Am

/-
How trustquorummake.entries runs, as a pure function.
-/
namespace Go.Am
open Go Go.Proofs
set_option linter.unusedVariables false
set_option linter.unusedSimpArgs false
set_option maxRecDepth 4000
set_option maxHeartbeats 4000000
noncomputable def B_make_entries_0 (p0 : Tru) (p1_0 : Int) (p5_0 : Int) : Option Bool :=
  cnd (decide (p5_0 < (p0.inner.length : Int))) (
    some (decide (p1_0 ≤ 400))) (
    some false)
def J_make_entries_0 (p0 : Tru) (p1_0 : Int) (p5_0 : Int) (q : St) : Prop := q (.t 1) = (i64 p1_0) ∧ q (.t 5) = (i64 p5_0) ∧ (∃ (g : Nat), q (.t 2) = .ptr (.site 0 0 0) g 0 ∧ q (.i (.site 0 0 0)) = .box g [(i64 p0.thr), (.pv (.sl p0.nodes.length (ints p0.nodes))), (.pv (.sl p0.inner.length (encTs p0.inner)))])
def Q_make_entries_0 (p0 : Tru) (p1_0 : Int) (p5_0 : Int) (o20_0 : Bool) (q : St) : Prop := q (.t 1) = (i64 p1_0) ∧ q (.t 20) = (bl o20_0) ∧ q (.t 5) = (i64 p5_0) ∧ (∃ (g : Nat), q (.t 2) = .ptr (.site 0 0 0) g 0 ∧ q (.i (.site 0 0 0)) = .box g [(i64 p0.thr), (.pv (.sl p0.nodes.length (ints p0.nodes))), (.pv (.sl p0.inner.length (encTs p0.inner)))])
theorem P_make_entries_0 {p0 : Tru} {p1_0 : Int} {p5_0 : Int} {cc : Code} (hcc : cc = (Code.fst (Code.fst (Code.fst (Code.fst (Code.snd (Code.fst (Code.snd (Code.snd ((Tryd.f42.body).getD .skip)))))))))) {s : St} {z : Option (Ex × St)} (hz : C Tryd.prog cf cc s = z) {r : Bool} (hI : J_make_entries_0 p0 p1_0 p5_0 s) (hB : B_make_entries_0 p0 p1_0 p5_0 = some r) : Res z (postG (fun a q => Q_make_entries_0 p0 p1_0 p5_0 a q) r) := by
  subst hcc
  subst hz
  simp only [J_make_entries_0] at hI
  obtain ⟨q1, q2, ⟨g4, q3, q4⟩⟩ := hI
  simp only [Code.fst, Code.snd, Tryd.f42, Option.getD_some]
  unfold B_make_entries_0 at hB
  rcases cnd_inv hB with ⟨c1, hB⟩ | ⟨c1, hB⟩
  · have pc1 := eq_true (of_decide_eq_true c1)
    have nc1 := c1
    try simp only [List.length_nil, List.length_cons, Int.cast_ofNat_Int, Int.natCast_zero, Nat.zero_add, Nat.reduceAdd, Int.reduceLT, Int.reduceLE, Int.reduceEq, eq_self, decide_true, decide_false, Bool.true_eq_false, Bool.false_eq_true] at nc1
    all_goals
      obtain rfl := Option.some.inj hB
      try simp -implicitDefEqProofs [-getElem?_pos, -Int.ofNat_lt, -Int.ofNat_le, -Int.natCast_eq_zero, -Int.natCast_pos, -List.length_eq_zero_iff, List.getElem?_cons_zero, List.getElem?_cons_succ, List.getElem?_nil, q1, q2, q3, q4, c1, pc1, nc1]
      refine Res.g ?_
      simp -implicitDefEqProofs [-getElem?_pos, -Int.ofNat_lt, -Int.ofNat_le, -Int.natCast_eq_zero, -Int.natCast_pos, -List.length_eq_zero_iff, List.getElem?_cons_zero, List.getElem?_cons_succ, List.getElem?_nil, and_assoc, Q_make_entries_0, ownAt, q1, q2, q3, q4, c1, pc1, nc1]
  · have pc1 := eq_false (of_decide_eq_false c1)
    have nc1 := c1
    try simp only [List.length_nil, List.length_cons, Int.cast_ofNat_Int, Int.natCast_zero, Nat.zero_add, Nat.reduceAdd, Int.reduceLT, Int.reduceLE, Int.reduceEq, eq_self, decide_true, decide_false, Bool.true_eq_false, Bool.false_eq_true] at nc1
    all_goals
      obtain rfl := Option.some.inj hB
      try simp -implicitDefEqProofs [-getElem?_pos, -Int.ofNat_lt, -Int.ofNat_le, -Int.natCast_eq_zero, -Int.natCast_pos, -List.length_eq_zero_iff, List.getElem?_cons_zero, List.getElem?_cons_succ, List.getElem?_nil, q1, q2, q3, q4, c1, pc1, nc1]
      refine Res.g ?_
      simp -implicitDefEqProofs [-getElem?_pos, -Int.ofNat_lt, -Int.ofNat_le, -Int.natCast_eq_zero, -Int.natCast_pos, -List.length_eq_zero_iff, List.getElem?_cons_zero, List.getElem?_cons_succ, List.getElem?_nil, and_assoc, Q_make_entries_0, ownAt, q1, q2, q3, q4, c1, pc1, nc1]
noncomputable def B_make_entries_1 (p0 : Tru) (x1_1 : Int) (x5_1 : Int) : Option (Stp (Int × Int) Unit) :=
  kb (B_make_entries_0 p0 x1_1 x5_1) fun z2 =>
  cnd z2 (
    kb (getI p0.inner x5_1) fun x4 =>
    kb (G_make_entries x4 x1_1) fun y7 =>
    some (.go (y7, (add64 x5_1 1)))) (
    some (.ex 0 (x1_1, x5_1)))
def I_make_entries_1 (p0 : Tru) (x1_1 : Int) (x5_1 : Int) (q : St) : Prop := q (.t 1) = (i64 x1_1) ∧ q (.t 5) = (i64 x5_1) ∧ (∃ (g : Nat), q (.t 2) = .ptr (.site 0 0 0) g 0 ∧ q (.i (.site 0 0 0)) = .box g [(i64 p0.thr), (.pv (.sl p0.nodes.length (ints p0.nodes))), (.pv (.sl p0.inner.length (encTs p0.inner)))])
def Q_make_entries_1 (p0 : Tru) (x1_1 : Int) (x5_1 : Int) (q : St) : Prop := q (.t 1) = (i64 x1_1)
theorem Pb_make_entries_1 {p0 : Tru} {x1_1 : Int} {x5_1 : Int} {q : St} {r : (Stp (Int × Int) Unit)} (hI : I_make_entries_1 p0 x1_1 x5_1 q) (hB : B_make_entries_1 p0 x1_1 x5_1 = some r) : Res (C Tryd.prog cf (Code.fst (Code.fst (Code.snd (Code.fst (Code.snd (Code.snd ((Tryd.f42.body).getD .skip))))))) q) (postB 0 (fun a q => I_make_entries_1 p0 a.1 a.2 q) (fun a q => Q_make_entries_1 p0 a.1 a.2 q) (fun _ _ => False) r) := by
  simp only [I_make_entries_1] at hI
  obtain ⟨q1, q2, ⟨g4, q3, q4⟩⟩ := hI
  simp only [Code.fst, Code.snd, Tryd.f42, Option.getD_some]
  generalize hc0 : Code.region 3 _ _ = cc0
  unfold B_make_entries_1 at hB
  try simp -implicitDefEqProofs [-getElem?_pos, -Int.ofNat_lt, -Int.ofNat_le, -Int.natCast_eq_zero, -Int.natCast_pos, -List.length_eq_zero_iff, List.getElem?_cons_zero, List.getElem?_cons_succ, List.getElem?_nil, q1, q2, q3, q4]
  generalize hz0 : C Tryd.prog cf cc0 _ = z0
  obtain ⟨z2, hB1, hB⟩ := kb_inv hB
  have hJ := P_make_entries_0 (hc0.symm.trans (by kernel_rfl)) hz0 (by simp -implicitDefEqProofs [-getElem?_pos, -Int.ofNat_lt, -Int.ofNat_le, -Int.natCast_eq_zero, -Int.natCast_pos, -List.length_eq_zero_iff, List.getElem?_cons_zero, List.getElem?_cons_succ, List.getElem?_nil, and_assoc, J_make_entries_0, ownAt, q1, q2, q3, q4]) hB1
  obtain ⟨e0, s0, rfl, hq⟩ := hJ.open
  clear hB1
  obtain ⟨rfl, hq⟩ := hq
  simp only [Q_make_entries_0] at hq
  obtain ⟨q2_1, q2_2, q2_3, ⟨g2_5, q2_4, q2_5⟩⟩ := hq
  rcases cnd_inv hB with ⟨c3, hB⟩ | ⟨c3, hB⟩
  · obtain ⟨x4, h5, hB⟩ := kb_inv hB
    obtain ⟨h5a, h5b, h5c, h5d⟩ := getI_inv h5
    try simp only [Int.toNat_natCast, Int.reduceToNat] at h5c
    try dsimp only at hB
    have l6 := encTs_ld h5c
    obtain ⟨y7, k8, hB⟩ := kb_inv hB
    replace k8 := run_make_entries k8
    try simp only [Int.cast_ofNat_Int, Int.natCast_zero, List.length_cons, List.length_nil, List.nil_append, List.cons_append, Nat.zero_add, Nat.reduceAdd, Tru.thr_mk, Tru.nodes_mk, Tru.inner_mk, ints_cons, ints_nil, encTs_cons, encTs_nil, es_api_Config_cons, es_api_Config_nil, es_api_Member_cons, es_api_Member_nil, c3] at k8
    try dsimp only at hB
    obtain rfl := Option.some.inj hB
    try simp -implicitDefEqProofs [-getElem?_pos, -Int.ofNat_lt, -Int.ofNat_le, -Int.natCast_eq_zero, -Int.natCast_pos, -List.length_eq_zero_iff, List.getElem?_cons_zero, List.getElem?_cons_succ, List.getElem?_nil, q2_1, q2_2, q2_3, q2_4, q2_5, c3, h5a, h5b, h5c, h5d, l6, k8]
    refine Res.bgo ?_
    simp -implicitDefEqProofs [-getElem?_pos, -Int.ofNat_lt, -Int.ofNat_le, -Int.natCast_eq_zero, -Int.natCast_pos, -List.length_eq_zero_iff, List.getElem?_cons_zero, List.getElem?_cons_succ, List.getElem?_nil, and_assoc, I_make_entries_1, ownAt, q2_1, q2_2, q2_3, q2_4, q2_5, c3, h5a, h5b, h5c, h5d, l6, k8]
  · obtain rfl := Option.some.inj hB
    try simp -implicitDefEqProofs [-getElem?_pos, -Int.ofNat_lt, -Int.ofNat_le, -Int.natCast_eq_zero, -Int.natCast_pos, -List.length_eq_zero_iff, List.getElem?_cons_zero, List.getElem?_cons_succ, List.getElem?_nil, q2_1, q2_2, q2_3, q2_4, q2_5, c3]
    refine Res.bex ?_
    simp -implicitDefEqProofs [-getElem?_pos, -Int.ofNat_lt, -Int.ofNat_le, -Int.natCast_eq_zero, -Int.natCast_pos, -List.length_eq_zero_iff, List.getElem?_cons_zero, List.getElem?_cons_succ, List.getElem?_nil, and_assoc, Q_make_entries_1, ownAt, q2_1, q2_2, q2_3, q2_4, q2_5, c3]
theorem P_make_entries_1 {p0 : Tru} {x1_1 : Int} {x5_1 : Int} {cc : Code} (hcc : cc = .block 0 (.loop (Code.fst (Code.fst (Code.snd (Code.fst (Code.snd (Code.snd ((Tryd.f42.body).getD .skip))))))))) {s : St} {z : Option (Ex × St)} (hz : C Tryd.prog cf cc s = z) {r : (Stp (Int × Int) Unit)} (hI : I_make_entries_1 p0 x1_1 x5_1 s) (hB : iterW (fun a => B_make_entries_1 p0 a.1 a.2) (x1_1, x5_1) = some r) : Res z (postS (fun a q => Q_make_entries_1 p0 a.1 a.2 q) (fun _ _ => False) r) := by
  subst hcc
  exact while_sim (I := fun a q => I_make_entries_1 p0 a.1 a.2 q) (Q := (fun a q => Q_make_entries_1 p0 a.1 a.2 q)) (QR := (fun _ _ => False)) (fun a q r h hB => Pb_make_entries_1 h hB) hI hz hB
noncomputable def B_make_entries (p0 : Tru) (p1 : Int) : Option Int :=
  kb (iterW (fun a => B_make_entries_1 p0 a.1 a.2) ((add64 p1 (add64 1 (p0.nodes.length : Int))), 0)) fun o => stpK o (fun z9 =>
    some z9.1) (fun z9r =>
    none)
theorem sim_make_entries {p0 : Tru} {p1 : Int} {r : Int} (hB : B_make_entries p0 p1 = some r) : R 42 [(.agg [(i64 p0.thr), (.pv (.sl p0.nodes.length (ints p0.nodes))), (.pv (.sl p0.inner.length (encTs p0.inner)))]), (i64 p1)] [] = some ((i64 r), [], []) := by
  rw [R_eq _ _ _ fn_make_entries]
  simp only [Code.fst, Code.snd, Tryd.f42, Option.getD_some]
  generalize hc1 : Code.block 0 _ = cc1
  unfold B_make_entries at hB
  try simp -implicitDefEqProofs [-getElem?_pos, -Int.ofNat_lt, -Int.ofNat_le, -Int.natCast_eq_zero, -Int.natCast_pos, -List.length_eq_zero_iff, List.getElem?_cons_zero, List.getElem?_cons_succ, List.getElem?_nil]
  generalize hz1 : C Tryd.prog cf cc1 _ = z1
  obtain ⟨o, hB1, hB⟩ := kb_inv hB
  have hJ := P_make_entries_1 (hc1.symm.trans (by kernel_rfl)) hz1 (by simp -implicitDefEqProofs [-getElem?_pos, -Int.ofNat_lt, -Int.ofNat_le, -Int.natCast_eq_zero, -Int.natCast_pos, -List.length_eq_zero_iff, List.getElem?_cons_zero, List.getElem?_cons_succ, List.getElem?_nil, and_assoc, I_make_entries_1, ownAt]) hB1
  obtain ⟨e1, s1, rfl, hq⟩ := hJ.open
  clear hB1
  rcases o with z9 | ⟨_, _⟩ | z9r
  · simp only [stpK_go] at hB
    obtain ⟨rfl, hq⟩ := hq
    simp only [Q_make_entries_1] at hq
    have q9_1 := hq
    obtain rfl := Option.some.inj hB
    simp -implicitDefEqProofs [-getElem?_pos, -Int.ofNat_lt, -Int.ofNat_le, -Int.natCast_eq_zero, -Int.natCast_pos, -List.length_eq_zero_iff, List.getElem?_cons_zero, List.getElem?_cons_succ, List.getElem?_nil, q9_1]
  · exact hq.elim
  · cases hB
theorem g_make_entries {p0 : Tru} {p1 : Int} {r : Int} (hB : B_make_entries p0 p1 = some r) : G_make_entries p0 p1 = some r := dec_of (fun a b h => by rcases a with a0_; rcases b with b0_; simp at h; simp [*]) (sim_make_entries hB)
end Go.Am

/-
How trustquorummake.SmallTrust runs, as a pure function.
-/
namespace Go.Am
open Go Go.Proofs
set_option linter.unusedVariables false
set_option linter.unusedSimpArgs false
set_option maxRecDepth 4000
set_option maxHeartbeats 4000000
noncomputable def B_make_SmallTrust (p0 : Tru) : Option Bool :=
  kb (G_make_entries p0 0) fun y1 =>
  some (decide (y1 ≤ 400))
theorem sim_make_SmallTrust {p0 : Tru} {r : Bool} (hB : B_make_SmallTrust p0 = some r) : R 17 [(.agg [(i64 p0.thr), (.pv (.sl p0.nodes.length (ints p0.nodes))), (.pv (.sl p0.inner.length (encTs p0.inner)))])] [] = some ((bl r), [], []) := by
  rw [R_eq _ _ _ fn_make_SmallTrust]
  simp only [Code.fst, Code.snd, Tryd.f17, Option.getD_some]
  unfold B_make_SmallTrust at hB
  obtain ⟨y1, k2, hB⟩ := kb_inv hB
  replace k2 := run_make_entries k2
  try simp only [Int.cast_ofNat_Int, Int.natCast_zero, List.length_cons, List.length_nil, List.nil_append, List.cons_append, Nat.zero_add, Nat.reduceAdd, Tru.thr_mk, Tru.nodes_mk, Tru.inner_mk, ints_cons, ints_nil, encTs_cons, encTs_nil, es_api_Config_cons, es_api_Config_nil, es_api_Member_cons, es_api_Member_nil] at k2
  try dsimp only at hB
  obtain rfl := Option.some.inj hB
  simp -implicitDefEqProofs [-getElem?_pos, -Int.ofNat_lt, -Int.ofNat_le, -Int.natCast_eq_zero, -Int.natCast_pos, -List.length_eq_zero_iff, List.getElem?_cons_zero, List.getElem?_cons_succ, List.getElem?_nil, k2]
theorem g_make_SmallTrust {p0 : Tru} {r : Bool} (hB : B_make_SmallTrust p0 = some r) : G_make_SmallTrust p0 = some r := dec_of (fun a b h => by rcases a with a0_; rcases b with b0_; simp at h; simp [*]) (sim_make_SmallTrust hB)
end Go.Am

/-
How trustquorummake.SmallConfig runs, as a pure function.
-/
namespace Go.Am
open Go Go.Proofs
set_option linter.unusedVariables false
set_option linter.unusedSimpArgs false
set_option maxRecDepth 4000
set_option maxHeartbeats 4000000
noncomputable def B_make_SmallConfig_0 (p0 : S_api_Config) (p3_0 : Int) (p4_0 : Int) : Option Bool :=
  cnd (decide (p4_0 < (p0.f0.length : Int))) (
    some (decide (p3_0 ≤ 400))) (
    some false)
def J_make_SmallConfig_0 (p0 : S_api_Config) (p3_0 : Int) (p4_0 : Int) (q : St) : Prop := q (.t 3) = (i64 p3_0) ∧ q (.t 4) = (i64 p4_0) ∧ (∃ (g : Nat), q (.t 1) = .ptr (.site 0 0 0) g 0 ∧ q (.i (.site 0 0 0)) = .box g [(.pv (.sl p0.f0.length (es_api_Member p0.f0)))])
def Q_make_SmallConfig_0 (p0 : S_api_Config) (p3_0 : Int) (p4_0 : Int) (o17_0 : Bool) (q : St) : Prop := q (.t 17) = (bl o17_0) ∧ q (.t 3) = (i64 p3_0) ∧ q (.t 4) = (i64 p4_0) ∧ (∃ (g : Nat), q (.t 1) = .ptr (.site 0 0 0) g 0 ∧ q (.i (.site 0 0 0)) = .box g [(.pv (.sl p0.f0.length (es_api_Member p0.f0)))])
theorem P_make_SmallConfig_0 {p0 : S_api_Config} {p3_0 : Int} {p4_0 : Int} {cc : Code} (hcc : cc = (Code.fst (Code.fst (Code.fst (Code.fst (Code.snd (Code.fst (Code.snd (Code.snd (Code.snd ((Tryd.f18.body).getD .skip))))))))))) {s : St} {z : Option (Ex × St)} (hz : C Tryd.prog cf cc s = z) {r : Bool} (hI : J_make_SmallConfig_0 p0 p3_0 p4_0 s) (hB : B_make_SmallConfig_0 p0 p3_0 p4_0 = some r) : Res z (postG (fun a q => Q_make_SmallConfig_0 p0 p3_0 p4_0 a q) r) := by
  subst hcc
  subst hz
  simp only [J_make_SmallConfig_0] at hI
  obtain ⟨q1, q2, ⟨g4, q3, q4⟩⟩ := hI
  simp only [Code.fst, Code.snd, Tryd.f18, Option.getD_some]
  unfold B_make_SmallConfig_0 at hB
  rcases cnd_inv hB with ⟨c2, hB⟩ | ⟨c2, hB⟩
  · have pc2 := eq_true (of_decide_eq_true c2)
    have nc2 := c2
    try simp only [List.length_nil, List.length_cons, Int.cast_ofNat_Int, Int.natCast_zero, Nat.zero_add, Nat.reduceAdd, Int.reduceLT, Int.reduceLE, Int.reduceEq, eq_self, decide_true, decide_false, Bool.true_eq_false, Bool.false_eq_true] at nc2
    all_goals
      obtain rfl := Option.some.inj hB
      try simp -implicitDefEqProofs [-getElem?_pos, -Int.ofNat_lt, -Int.ofNat_le, -Int.natCast_eq_zero, -Int.natCast_pos, -List.length_eq_zero_iff, List.getElem?_cons_zero, List.getElem?_cons_succ, List.getElem?_nil, q1, q2, q3, q4, c2, pc2, nc2]
      refine Res.g ?_
      simp -implicitDefEqProofs [-getElem?_pos, -Int.ofNat_lt, -Int.ofNat_le, -Int.natCast_eq_zero, -Int.natCast_pos, -List.length_eq_zero_iff, List.getElem?_cons_zero, List.getElem?_cons_succ, List.getElem?_nil, and_assoc, Q_make_SmallConfig_0, ownAt, q1, q2, q3, q4, c2, pc2, nc2]
  · have pc2 := eq_false (of_decide_eq_false c2)
    have nc2 := c2
    try simp only [List.length_nil, List.length_cons, Int.cast_ofNat_Int, Int.natCast_zero, Nat.zero_add, Nat.reduceAdd, Int.reduceLT, Int.reduceLE, Int.reduceEq, eq_self, decide_true, decide_false, Bool.true_eq_false, Bool.false_eq_true] at nc2
    all_goals
      obtain rfl := Option.some.inj hB
      try simp -implicitDefEqProofs [-getElem?_pos, -Int.ofNat_lt, -Int.ofNat_le, -Int.natCast_eq_zero, -Int.natCast_pos, -List.length_eq_zero_iff, List.getElem?_cons_zero, List.getElem?_cons_succ, List.getElem?_nil, q1, q2, q3, q4, c2, pc2, nc2]
      refine Res.g ?_
      simp -implicitDefEqProofs [-getElem?_pos, -Int.ofNat_lt, -Int.ofNat_le, -Int.natCast_eq_zero, -Int.natCast_pos, -List.length_eq_zero_iff, List.getElem?_cons_zero, List.getElem?_cons_succ, List.getElem?_nil, and_assoc, Q_make_SmallConfig_0, ownAt, q1, q2, q3, q4, c2, pc2, nc2]
noncomputable def B_make_SmallConfig_1 (p0 : S_api_Config) (x3_1 : Int) (x4_1 : Int) : Option (Stp (Int × Int) Unit) :=
  kb (B_make_SmallConfig_0 p0 x3_1 x4_1) fun z3 =>
  cnd z3 (
    kb (getI p0.f0 x4_1) fun x5 =>
    kb (G_make_entries x5.f1 x3_1) fun y8 =>
    some (.go (y8, (add64 x4_1 1)))) (
    some (.ex 0 (x3_1, x4_1)))
def I_make_SmallConfig_1 (p0 : S_api_Config) (x3_1 : Int) (x4_1 : Int) (q : St) : Prop := q (.t 3) = (i64 x3_1) ∧ q (.t 4) = (i64 x4_1) ∧ (∃ (g : Nat), q (.t 1) = .ptr (.site 0 0 0) g 0 ∧ q (.i (.site 0 0 0)) = .box g [(.pv (.sl p0.f0.length (es_api_Member p0.f0)))])
def Q_make_SmallConfig_1 (p0 : S_api_Config) (x3_1 : Int) (x4_1 : Int) (q : St) : Prop := q (.t 3) = (i64 x3_1)
theorem Pb_make_SmallConfig_1 {p0 : S_api_Config} {x3_1 : Int} {x4_1 : Int} {q : St} {r : (Stp (Int × Int) Unit)} (hI : I_make_SmallConfig_1 p0 x3_1 x4_1 q) (hB : B_make_SmallConfig_1 p0 x3_1 x4_1 = some r) : Res (C Tryd.prog cf (Code.fst (Code.fst (Code.snd (Code.fst (Code.snd (Code.snd (Code.snd ((Tryd.f18.body).getD .skip)))))))) q) (postB 0 (fun a q => I_make_SmallConfig_1 p0 a.1 a.2 q) (fun a q => Q_make_SmallConfig_1 p0 a.1 a.2 q) (fun _ _ => False) r) := by
  simp only [I_make_SmallConfig_1] at hI
  obtain ⟨q1, q2, ⟨g4, q3, q4⟩⟩ := hI
  simp only [Code.fst, Code.snd, Tryd.f18, Option.getD_some]
  generalize hc0 : Code.region 5 _ _ = cc0
  unfold B_make_SmallConfig_1 at hB
  try simp -implicitDefEqProofs [-getElem?_pos, -Int.ofNat_lt, -Int.ofNat_le, -Int.natCast_eq_zero, -Int.natCast_pos, -List.length_eq_zero_iff, List.getElem?_cons_zero, List.getElem?_cons_succ, List.getElem?_nil, q1, q2, q3, q4]
  generalize hz0 : C Tryd.prog cf cc0 _ = z0
  obtain ⟨z3, hB1, hB⟩ := kb_inv hB
  have hJ := P_make_SmallConfig_0 (hc0.symm.trans (by kernel_rfl)) hz0 (by simp -implicitDefEqProofs [-getElem?_pos, -Int.ofNat_lt, -Int.ofNat_le, -Int.natCast_eq_zero, -Int.natCast_pos, -List.length_eq_zero_iff, List.getElem?_cons_zero, List.getElem?_cons_succ, List.getElem?_nil, and_assoc, J_make_SmallConfig_0, ownAt, q1, q2, q3, q4]) hB1
  obtain ⟨e0, s0, rfl, hq⟩ := hJ.open
  clear hB1
  obtain ⟨rfl, hq⟩ := hq
  simp only [Q_make_SmallConfig_0] at hq
  obtain ⟨q3_1, q3_2, q3_3, ⟨g3_5, q3_4, q3_5⟩⟩ := hq
  rcases cnd_inv hB with ⟨c4, hB⟩ | ⟨c4, hB⟩
  · obtain ⟨x5, h6, hB⟩ := kb_inv hB
    obtain ⟨h6a, h6b, h6c, h6d⟩ := getI_inv h6
    try simp only [Int.toNat_natCast, Int.reduceToNat] at h6c
    try dsimp only at hB
    have l7 := es_api_Member_sub1 h6c
    obtain ⟨y8, k9, hB⟩ := kb_inv hB
    replace k9 := run_make_entries k9
    try simp only [Int.cast_ofNat_Int, Int.natCast_zero, List.length_cons, List.length_nil, List.nil_append, List.cons_append, Nat.zero_add, Nat.reduceAdd, Tru.thr_mk, Tru.nodes_mk, Tru.inner_mk, ints_cons, ints_nil, encTs_cons, encTs_nil, es_api_Config_cons, es_api_Config_nil, es_api_Member_cons, es_api_Member_nil, c4] at k9
    try dsimp only at hB
    obtain rfl := Option.some.inj hB
    try simp -implicitDefEqProofs [-getElem?_pos, -Int.ofNat_lt, -Int.ofNat_le, -Int.natCast_eq_zero, -Int.natCast_pos, -List.length_eq_zero_iff, List.getElem?_cons_zero, List.getElem?_cons_succ, List.getElem?_nil, q3_1, q3_2, q3_3, q3_4, q3_5, c4, h6a, h6b, h6c, h6d, l7, k9]
    refine Res.bgo ?_
    simp -implicitDefEqProofs [-getElem?_pos, -Int.ofNat_lt, -Int.ofNat_le, -Int.natCast_eq_zero, -Int.natCast_pos, -List.length_eq_zero_iff, List.getElem?_cons_zero, List.getElem?_cons_succ, List.getElem?_nil, and_assoc, I_make_SmallConfig_1, ownAt, q3_1, q3_2, q3_3, q3_4, q3_5, c4, h6a, h6b, h6c, h6d, l7, k9]
  · obtain rfl := Option.some.inj hB
    try simp -implicitDefEqProofs [-getElem?_pos, -Int.ofNat_lt, -Int.ofNat_le, -Int.natCast_eq_zero, -Int.natCast_pos, -List.length_eq_zero_iff, List.getElem?_cons_zero, List.getElem?_cons_succ, List.getElem?_nil, q3_1, q3_2, q3_3, q3_4, q3_5, c4]
    refine Res.bex ?_
    simp -implicitDefEqProofs [-getElem?_pos, -Int.ofNat_lt, -Int.ofNat_le, -Int.natCast_eq_zero, -Int.natCast_pos, -List.length_eq_zero_iff, List.getElem?_cons_zero, List.getElem?_cons_succ, List.getElem?_nil, and_assoc, Q_make_SmallConfig_1, ownAt, q3_1, q3_2, q3_3, q3_4, q3_5, c4]
theorem P_make_SmallConfig_1 {p0 : S_api_Config} {x3_1 : Int} {x4_1 : Int} {cc : Code} (hcc : cc = .block 0 (.loop (Code.fst (Code.fst (Code.snd (Code.fst (Code.snd (Code.snd (Code.snd ((Tryd.f18.body).getD .skip)))))))))) {s : St} {z : Option (Ex × St)} (hz : C Tryd.prog cf cc s = z) {r : (Stp (Int × Int) Unit)} (hI : I_make_SmallConfig_1 p0 x3_1 x4_1 s) (hB : iterW (fun a => B_make_SmallConfig_1 p0 a.1 a.2) (x3_1, x4_1) = some r) : Res z (postS (fun a q => Q_make_SmallConfig_1 p0 a.1 a.2 q) (fun _ _ => False) r) := by
  subst hcc
  exact while_sim (I := fun a q => I_make_SmallConfig_1 p0 a.1 a.2 q) (Q := (fun a q => Q_make_SmallConfig_1 p0 a.1 a.2 q)) (QR := (fun _ _ => False)) (fun a q r h hB => Pb_make_SmallConfig_1 h hB) hI hz hB
noncomputable def B_make_SmallConfig (p0 : S_api_Config) : Option Bool :=
  cnd (decide (30 < (p0.f0.length : Int))) (
    some false) (
    kb (iterW (fun a => B_make_SmallConfig_1 p0 a.1 a.2) (0, 0)) fun o => stpK o (fun z10 =>
      some (decide (z10.1 ≤ 400))) (fun z10r =>
      none))
theorem sim_make_SmallConfig {p0 : S_api_Config} {r : Bool} (hB : B_make_SmallConfig p0 = some r) : R 18 [(.agg [(.pv (.sl p0.f0.length (es_api_Member p0.f0)))])] [] = some ((bl r), [], []) := by
  rw [R_eq _ _ _ fn_make_SmallConfig]
  simp only [Code.fst, Code.snd, Tryd.f18, Option.getD_some]
  generalize hc1 : Code.block 0 _ = cc1
  unfold B_make_SmallConfig at hB
  rcases cnd_inv hB with ⟨c1, hB⟩ | ⟨c1, hB⟩
  · have pc1 := eq_true (of_decide_eq_true c1)
    have nc1 := c1
    try simp only [List.length_nil, List.length_cons, Int.cast_ofNat_Int, Int.natCast_zero, Nat.zero_add, Nat.reduceAdd, Int.reduceLT, Int.reduceLE, Int.reduceEq, eq_self, decide_true, decide_false, Bool.true_eq_false, Bool.false_eq_true] at nc1
    all_goals
      obtain rfl := Option.some.inj hB
      simp -implicitDefEqProofs [-getElem?_pos, -Int.ofNat_lt, -Int.ofNat_le, -Int.natCast_eq_zero, -Int.natCast_pos, -List.length_eq_zero_iff, List.getElem?_cons_zero, List.getElem?_cons_succ, List.getElem?_nil, c1, pc1, nc1]
  · have pc1 := eq_false (of_decide_eq_false c1)
    have nc1 := c1
    try simp only [List.length_nil, List.length_cons, Int.cast_ofNat_Int, Int.natCast_zero, Nat.zero_add, Nat.reduceAdd, Int.reduceLT, Int.reduceLE, Int.reduceEq, eq_self, decide_true, decide_false, Bool.true_eq_false, Bool.false_eq_true] at nc1
    all_goals
      try simp -implicitDefEqProofs [-getElem?_pos, -Int.ofNat_lt, -Int.ofNat_le, -Int.natCast_eq_zero, -Int.natCast_pos, -List.length_eq_zero_iff, List.getElem?_cons_zero, List.getElem?_cons_succ, List.getElem?_nil, c1, pc1, nc1]
      generalize hz1 : C Tryd.prog cf cc1 _ = z1
      obtain ⟨o, hB1, hB⟩ := kb_inv hB
      have hJ := P_make_SmallConfig_1 (hc1.symm.trans (by kernel_rfl)) hz1 (by simp -implicitDefEqProofs [-getElem?_pos, -Int.ofNat_lt, -Int.ofNat_le, -Int.natCast_eq_zero, -Int.natCast_pos, -List.length_eq_zero_iff, List.getElem?_cons_zero, List.getElem?_cons_succ, List.getElem?_nil, and_assoc, I_make_SmallConfig_1, ownAt, c1, pc1, nc1]) hB1
      obtain ⟨e1, s1, rfl, hq⟩ := hJ.open
      clear hB1
      rcases o with z10 | ⟨_, _⟩ | z10r
      · simp only [stpK_go] at hB
        obtain ⟨rfl, hq⟩ := hq
        simp only [Q_make_SmallConfig_1] at hq
        have q10_1 := hq
        obtain rfl := Option.some.inj hB
        simp -implicitDefEqProofs [-getElem?_pos, -Int.ofNat_lt, -Int.ofNat_le, -Int.natCast_eq_zero, -Int.natCast_pos, -List.length_eq_zero_iff, List.getElem?_cons_zero, List.getElem?_cons_succ, List.getElem?_nil, q10_1, c1, pc1, nc1]
      · exact hq.elim
      · cases hB
theorem g_make_SmallConfig {p0 : S_api_Config} {r : Bool} (hB : B_make_SmallConfig p0 = some r) : G_make_SmallConfig p0 = some r := dec_of (fun a b h => by rcases a with a0_; rcases b with b0_; simp at h; simp [*]) (sim_make_SmallConfig hB)
end Go.Am

/-
How trustquorumref13.lower runs, as a pure function.
-/
namespace Go.Am
open Go Go.Proofs
set_option linter.unusedVariables false
set_option linter.unusedSimpArgs false
set_option maxRecDepth 4000
set_option maxHeartbeats 4000000
noncomputable def B_ref13_lower (p0 : Int) : Option Int :=
  cnd (decide (p0 ≤ 0)) (
    some p0) (
    some (sub64 p0 1))
theorem sim_ref13_lower {p0 : Int} {r : Int} (hB : B_ref13_lower p0 = some r) : R 59 [(i64 p0)] [] = some ((i64 r), [], []) := by
  rw [R_eq _ _ _ fn_ref13_lower]
  simp only [Code.fst, Code.snd, Tryd.f59, Option.getD_some]
  unfold B_ref13_lower at hB
  rcases cnd_inv hB with ⟨c1, hB⟩ | ⟨c1, hB⟩
  · have pc1 := eq_true (of_decide_eq_true c1)
    obtain rfl := Option.some.inj hB
    simp -implicitDefEqProofs [-getElem?_pos, -Int.ofNat_lt, -Int.ofNat_le, -Int.natCast_eq_zero, -Int.natCast_pos, -List.length_eq_zero_iff, List.getElem?_cons_zero, List.getElem?_cons_succ, List.getElem?_nil, c1, pc1]
  · have pc1 := eq_false (of_decide_eq_false c1)
    obtain rfl := Option.some.inj hB
    simp -implicitDefEqProofs [-getElem?_pos, -Int.ofNat_lt, -Int.ofNat_le, -Int.natCast_eq_zero, -Int.natCast_pos, -List.length_eq_zero_iff, List.getElem?_cons_zero, List.getElem?_cons_succ, List.getElem?_nil, c1, pc1]
theorem g_ref13_lower {p0 : Int} {r : Int} (hB : B_ref13_lower p0 = some r) : G_ref13_lower p0 = some r := dec_of (fun a b h => by rcases a with a0_; rcases b with b0_; simp at h; simp [*]) (sim_ref13_lower hB)
end Go.Am

/-
How trustquorumref13.less runs, as a pure function.
-/
namespace Go.Am
open Go Go.Proofs
set_option linter.unusedVariables false
set_option linter.unusedSimpArgs false
set_option maxRecDepth 4000
set_option maxHeartbeats 4000000
noncomputable def B_ref13_less_0 (p0 : Tru) (p1 : Int) (i1 : Nat) (xb1_3_0_0 : Int) (xb1_3_1_0 : (List Int)) (e2 : Int) : Option (Int × (List Int)) :=
  kb (G_ref01_Has p1 e2) fun y2 =>
  cnd y2 (
    kb (G_ref13_lower xb1_3_0_0) fun y5 =>
    some (y5, xb1_3_1_0)) (
    kb (appK xb1_3_1_0 ([e2] : List Int) 8) fun L7 =>
    some (xb1_3_0_0, L7))
def I_ref13_less_0 (p0 : Tru) (p1 : Int) (i1 : Nat) (xb1_3_0_0 : Int) (xb1_3_1_0 : (List Int)) (q : St) : Prop := q (.t 1) = (i64 p1) ∧ q (.t 15) = (.pv (.sl p0.nodes.length (ints p0.nodes))) ∧ q (.t 16) = (i64 (p0.nodes.length : Int)) ∧ q (.t 17) = (i64 (i1 : Int)) ∧ (∃ (g : Nat), q (.t 2) = .ptr (.site 0 0 0) g 0 ∧ q (.i (.site 0 0 0)) = .box g [(i64 p0.thr), (.pv (.sl p0.nodes.length (ints p0.nodes))), (.pv (.sl p0.inner.length (encTs p0.inner)))]) ∧ (∃ (g : Nat), q (.t 4) = .ptr (.site 0 1 0) g 0 ∧ q (.i (.site 0 1 0)) = .box g [(i64 0), .nilsl, .nilsl]) ∧ (∃ (g : Nat) (w0 : AV), q (.t 5) = .ptr (.site 1 3 0) g 0 ∧ q (.i (.site 1 3 0)) = .box g [(i64 xb1_3_0_0), w0, .nilsl] ∧ (ownAt q w0 (.site 7 4 0) false 1 xb1_3_1_0.length (ints xb1_3_1_0) ∨ (w0 = .nilsl ∧ xb1_3_1_0 = [])))
def Q_ref13_less_0 (p0 : Tru) (p1 : Int) (xb1_3_0_0 : Int) (xb1_3_1_0 : (List Int)) (q : St) : Prop := q (.t 1) = (i64 p1) ∧ (∃ (g : Nat), q (.t 2) = .ptr (.site 0 0 0) g 0 ∧ q (.i (.site 0 0 0)) = .box g [(i64 p0.thr), (.pv (.sl p0.nodes.length (ints p0.nodes))), (.pv (.sl p0.inner.length (encTs p0.inner)))]) ∧ (∃ (g : Nat), q (.t 4) = .ptr (.site 0 1 0) g 0 ∧ q (.i (.site 0 1 0)) = .box g [(i64 0), .nilsl, .nilsl]) ∧ (∃ (g : Nat) (w0 : AV), q (.t 5) = .ptr (.site 1 3 0) g 0 ∧ q (.i (.site 1 3 0)) = .box g [(i64 xb1_3_0_0), w0, .nilsl] ∧ (ownAt q w0 (.site 7 4 0) false 1 xb1_3_1_0.length (ints xb1_3_1_0) ∨ (w0 = .nilsl ∧ xb1_3_1_0 = [])))
theorem Pb_ref13_less_0 {p0 : Tru} {p1 : Int} {i1 : Nat} {xb1_3_0_0 : Int} {xb1_3_1_0 : (List Int)} {e2 : Int} {q : St} {r : (Int × (List Int))} (hx : p0.nodes[i1]? = some e2) (hi : i1 < p0.nodes.length) (hn : p0.nodes.length < 4611686018427387904) (hI : I_ref13_less_0 p0 p1 i1 xb1_3_0_0 xb1_3_1_0 q) (hB : B_ref13_less_0 p0 p1 i1 xb1_3_0_0 xb1_3_1_0 e2 = some r) : Res (C Tryd.prog cf (Code.fst (Code.fst (Code.snd (Code.fst (Code.snd (Code.snd ((Tryd.f47.body).getD .skip))))))) q) (postG (fun a q => I_ref13_less_0 p0 p1 (i1 + 1) a.1 a.2 q) r) := by
  have hi3 : (i1 : Int) < (p0.nodes.length : Int) := by omega
  have hi2 := decide_eq_true hi3
  have hi4 := idx_step hi hn
  have hi5 := ne_of_get hx
  simp only [I_ref13_less_0] at hI
  obtain ⟨q1, q2, q3, q4, ⟨g6, q5, q6⟩, ⟨g8, q7, q8⟩, ⟨g10, v10_w0, q9, q10, a10_w0⟩⟩ := hI
  simp only [Code.fst, Code.snd, Tryd.f47, Option.getD_some]
  unfold B_ref13_less_0 at hB
  rcases a10_w0 with ⟨ga10_w0, rfl, oa10_w0⟩ | ⟨rfl, ea10_w0⟩
  · obtain ⟨y2, k3, hB⟩ := kb_inv hB
    replace k3 := run_ref01_Has k3
    try simp only [Int.cast_ofNat_Int, Int.natCast_zero, List.length_cons, List.length_nil, List.nil_append, List.cons_append, Nat.zero_add, Nat.reduceAdd, Tru.thr_mk, Tru.nodes_mk, Tru.inner_mk, ints_cons, ints_nil, encTs_cons, encTs_nil, es_api_Config_cons, es_api_Config_nil, es_api_Member_cons, es_api_Member_nil] at k3
    try dsimp only at hB
    rcases cnd_inv hB with ⟨c4, hB⟩ | ⟨c4, hB⟩
    · obtain ⟨y5, k6, hB⟩ := kb_inv hB
      replace k6 := run_ref13_lower k6
      try simp only [Int.cast_ofNat_Int, Int.natCast_zero, List.length_cons, List.length_nil, List.nil_append, List.cons_append, Nat.zero_add, Nat.reduceAdd, Tru.thr_mk, Tru.nodes_mk, Tru.inner_mk, ints_cons, ints_nil, encTs_cons, encTs_nil, es_api_Config_cons, es_api_Config_nil, es_api_Member_cons, es_api_Member_nil, c4] at k6
      try dsimp only at hB
      obtain rfl := Option.some.inj hB
      try simp -implicitDefEqProofs [-getElem?_pos, -Int.ofNat_lt, -Int.ofNat_le, -Int.natCast_eq_zero, -Int.natCast_pos, -List.length_eq_zero_iff, List.getElem?_cons_zero, List.getElem?_cons_succ, List.getElem?_nil, q1, q2, q3, q4, q5, q6, q7, q8, q9, q10, oa10_w0, hx, hi2, hi3, hi4, hi5, k3, c4, k6]
      refine Res.g ?_
      simp -implicitDefEqProofs [-getElem?_pos, -Int.ofNat_lt, -Int.ofNat_le, -Int.natCast_eq_zero, -Int.natCast_pos, -List.length_eq_zero_iff, List.getElem?_cons_zero, List.getElem?_cons_succ, List.getElem?_nil, and_assoc, I_ref13_less_0, ownAt, q1, q2, q3, q4, q5, q6, q7, q8, q9, q10, oa10_w0, hx, hi2, hi3, hi4, hi5, k3, c4, k6]
    · obtain ⟨L7, a8, hB⟩ := kb_inv hB
      obtain ⟨a8z, a8a, a8y⟩ := appK_inv a8
      try (simp only [List.nil_append] at a8z; subst a8z)
      have a8b := appK_len a8
      have a8c := ints_appK a8
      have a8d := appK_le a8
      try simp only [Int.cast_ofNat_Int, Int.natCast_zero, List.length_cons, List.length_nil, List.nil_append, List.cons_append, Nat.zero_add, Nat.reduceAdd, Tru.thr_mk, Tru.nodes_mk, Tru.inner_mk, ints_cons, ints_nil, encTs_cons, encTs_nil, es_api_Config_cons, es_api_Config_nil, es_api_Member_cons, es_api_Member_nil, c4] at a8a a8b a8c
      try replace a8b : _ = (1 : Nat) := a8b.symm
      try dsimp only at hB
      obtain rfl := Option.some.inj hB
      try simp -implicitDefEqProofs [-getElem?_pos, -Int.ofNat_lt, -Int.ofNat_le, -Int.natCast_eq_zero, -Int.natCast_pos, -List.length_eq_zero_iff, List.getElem?_cons_zero, List.getElem?_cons_succ, List.getElem?_nil, q1, q2, q3, q4, q5, q6, q7, q8, q9, q10, oa10_w0, hx, hi2, hi3, hi4, hi5, k3, c4, a8a, a8b, a8c, a8d]
      refine Res.g ?_
      simp -implicitDefEqProofs [-getElem?_pos, -Int.ofNat_lt, -Int.ofNat_le, -Int.natCast_eq_zero, -Int.natCast_pos, -List.length_eq_zero_iff, List.getElem?_cons_zero, List.getElem?_cons_succ, List.getElem?_nil, and_assoc, I_ref13_less_0, ownAt, q1, q2, q3, q4, q5, q6, q7, q8, q9, q10, oa10_w0, hx, hi2, hi3, hi4, hi5, k3, c4, a8a, a8b, a8c, a8d]
  · try subst ea10_w0
    obtain ⟨y2, k3, hB⟩ := kb_inv hB
    replace k3 := run_ref01_Has k3
    try simp only [Int.cast_ofNat_Int, Int.natCast_zero, List.length_cons, List.length_nil, List.nil_append, List.cons_append, Nat.zero_add, Nat.reduceAdd, Tru.thr_mk, Tru.nodes_mk, Tru.inner_mk, ints_cons, ints_nil, encTs_cons, encTs_nil, es_api_Config_cons, es_api_Config_nil, es_api_Member_cons, es_api_Member_nil] at k3
    try dsimp only at hB
    rcases cnd_inv hB with ⟨c4, hB⟩ | ⟨c4, hB⟩
    · obtain ⟨y5, k6, hB⟩ := kb_inv hB
      replace k6 := run_ref13_lower k6
      try simp only [Int.cast_ofNat_Int, Int.natCast_zero, List.length_cons, List.length_nil, List.nil_append, List.cons_append, Nat.zero_add, Nat.reduceAdd, Tru.thr_mk, Tru.nodes_mk, Tru.inner_mk, ints_cons, ints_nil, encTs_cons, encTs_nil, es_api_Config_cons, es_api_Config_nil, es_api_Member_cons, es_api_Member_nil, c4] at k6
      try dsimp only at hB
      obtain rfl := Option.some.inj hB
      try simp -implicitDefEqProofs [-getElem?_pos, -Int.ofNat_lt, -Int.ofNat_le, -Int.natCast_eq_zero, -Int.natCast_pos, -List.length_eq_zero_iff, List.getElem?_cons_zero, List.getElem?_cons_succ, List.getElem?_nil, q1, q2, q3, q4, q5, q6, q7, q8, q9, q10, hx, hi2, hi3, hi4, hi5, k3, c4, k6]
      refine Res.g ?_
      simp -implicitDefEqProofs [-getElem?_pos, -Int.ofNat_lt, -Int.ofNat_le, -Int.natCast_eq_zero, -Int.natCast_pos, -List.length_eq_zero_iff, List.getElem?_cons_zero, List.getElem?_cons_succ, List.getElem?_nil, and_assoc, I_ref13_less_0, ownAt, q1, q2, q3, q4, q5, q6, q7, q8, q9, q10, hx, hi2, hi3, hi4, hi5, k3, c4, k6]
    · obtain ⟨L7, a8, hB⟩ := kb_inv hB
      obtain ⟨a8z, a8a, a8y⟩ := appK_inv a8
      simp only [List.nil_append] at a8z
      subst a8z
      try dsimp only at hB
      obtain rfl := Option.some.inj hB
      try simp -implicitDefEqProofs [-getElem?_pos, -Int.ofNat_lt, -Int.ofNat_le, -Int.natCast_eq_zero, -Int.natCast_pos, -List.length_eq_zero_iff, List.getElem?_cons_zero, List.getElem?_cons_succ, List.getElem?_nil, q1, q2, q3, q4, q5, q6, q7, q8, q9, q10, hx, hi2, hi3, hi4, hi5, k3, c4]
      refine Res.g ?_
      simp -implicitDefEqProofs [-getElem?_pos, -Int.ofNat_lt, -Int.ofNat_le, -Int.natCast_eq_zero, -Int.natCast_pos, -List.length_eq_zero_iff, List.getElem?_cons_zero, List.getElem?_cons_succ, List.getElem?_nil, and_assoc, I_ref13_less_0, ownAt, q1, q2, q3, q4, q5, q6, q7, q8, q9, q10, hx, hi2, hi3, hi4, hi5, k3, c4]
theorem Pe_ref13_less_0 {p0 : Tru} {p1 : Int} {xb1_3_0_0 : Int} {xb1_3_1_0 : (List Int)} {q : St} (hI : I_ref13_less_0 p0 p1 p0.nodes.length xb1_3_0_0 xb1_3_1_0 q) : Res (C Tryd.prog cf (Code.fst (Code.fst (Code.snd (Code.fst (Code.snd (Code.snd ((Tryd.f47.body).getD .skip))))))) q) fun e q' => e = .exit 0 ∧ Q_ref13_less_0 p0 p1 xb1_3_0_0 xb1_3_1_0 q' := by
  simp only [I_ref13_less_0] at hI
  obtain ⟨q1, q2, q3, q4, ⟨g6, q5, q6⟩, ⟨g8, q7, q8⟩, ⟨g10, v10_w0, q9, q10, a10_w0⟩⟩ := hI
  simp only [Code.fst, Code.snd, Tryd.f47, Option.getD_some]
  rcases a10_w0 with ⟨ga10_w0, rfl, oa10_w0⟩ | ⟨rfl, ea10_w0⟩
  · simp -implicitDefEqProofs [-getElem?_pos, -Int.ofNat_lt, -Int.ofNat_le, -Int.natCast_eq_zero, -Int.natCast_pos, -List.length_eq_zero_iff, List.getElem?_cons_zero, List.getElem?_cons_succ, List.getElem?_nil, q1, q2, q3, q4, q5, q6, q7, q8, q9, q10, oa10_w0]
    refine Res.x ?_
    simp -implicitDefEqProofs [-getElem?_pos, -Int.ofNat_lt, -Int.ofNat_le, -Int.natCast_eq_zero, -Int.natCast_pos, -List.length_eq_zero_iff, List.getElem?_cons_zero, List.getElem?_cons_succ, List.getElem?_nil, and_assoc, Q_ref13_less_0, ownAt, q1, q2, q3, q4, q5, q6, q7, q8, q9, q10, oa10_w0]
  · try subst ea10_w0
    simp -implicitDefEqProofs [-getElem?_pos, -Int.ofNat_lt, -Int.ofNat_le, -Int.natCast_eq_zero, -Int.natCast_pos, -List.length_eq_zero_iff, List.getElem?_cons_zero, List.getElem?_cons_succ, List.getElem?_nil, q1, q2, q3, q4, q5, q6, q7, q8, q9, q10]
    refine Res.x ?_
    simp -implicitDefEqProofs [-getElem?_pos, -Int.ofNat_lt, -Int.ofNat_le, -Int.natCast_eq_zero, -Int.natCast_pos, -List.length_eq_zero_iff, List.getElem?_cons_zero, List.getElem?_cons_succ, List.getElem?_nil, and_assoc, Q_ref13_less_0, ownAt, q1, q2, q3, q4, q5, q6, q7, q8, q9, q10]
theorem P_ref13_less_0 {p0 : Tru} {p1 : Int} {xb1_3_0_0 : Int} {xb1_3_1_0 : (List Int)} {cc : Code} (hcc : cc = .block 0 (.loop (Code.fst (Code.fst (Code.snd (Code.fst (Code.snd (Code.snd ((Tryd.f47.body).getD .skip))))))))) {s : St} {z : Option (Ex × St)} (hz : C Tryd.prog cf cc s = z) {r : (Int × (List Int))} (hn : p0.nodes.length < 4611686018427387904) (hI : I_ref13_less_0 p0 p1 0 xb1_3_0_0 xb1_3_1_0 s) (hB : foldO (fun i a x => B_ref13_less_0 p0 p1 i a.1 a.2 x) 0 (xb1_3_0_0, xb1_3_1_0) p0.nodes = some r) : Res z (postG (fun a q => Q_ref13_less_0 p0 p1 a.1 a.2 q) r) := by
  subst hcc
  exact fold_sim (I := fun i a q => I_ref13_less_0 p0 p1 i a.1 a.2 q) (Q := (fun a q => Q_ref13_less_0 p0 p1 a.1 a.2 q)) (fun i x a q r hx hi h hB => Pb_ref13_less_0 hx hi hn h hB) (fun a q h => Pe_ref13_less_0 h) hI hz hB
noncomputable def B_ref13_less_1 (pb1_3_1_1 : (List Int)) (p1 : Int) (p0 : Tru) (i20 : Nat) (xb1_3_0_1 : Int) (xb1_3_2_1 : (List Tru)) (e21 : Tru) : Option (Int × (List Tru)) :=
  kb (G_ref13_less e21 p1) fun y11 =>
  cnd (decide (y11.thr ≤ 0)) (
    kb (G_ref13_lower xb1_3_0_1) fun y14 =>
    some (y14, xb1_3_2_1)) (
    kb (appK xb1_3_2_1 ([y11] : List Tru) 56) fun L16 =>
    some (xb1_3_0_1, L16))
def I_ref13_less_1 (pb1_3_1_1 : (List Int)) (p1 : Int) (p0 : Tru) (i20 : Nat) (xb1_3_0_1 : Int) (xb1_3_2_1 : (List Tru)) (q : St) : Prop := q (.t 1) = (i64 p1) ∧ q (.t 36) = (.pv (.sl p0.inner.length (encTs p0.inner))) ∧ q (.t 37) = (i64 (p0.inner.length : Int)) ∧ q (.t 38) = (i64 (i20 : Int)) ∧ (∃ (g : Nat), q (.t 4) = .ptr (.site 0 1 0) g 0 ∧ q (.i (.site 0 1 0)) = .box g [(i64 0), .nilsl, .nilsl]) ∧ (∃ (g : Nat) (w0 : AV) (w1 : AV), q (.t 5) = .ptr (.site 1 3 0) g 0 ∧ q (.i (.site 1 3 0)) = .box g [(i64 xb1_3_0_1), w0, w1] ∧ (ownAt q w0 (.site 7 4 0) false 1 pb1_3_1_1.length (ints pb1_3_1_1) ∨ (w0 = .nilsl ∧ pb1_3_1_1 = [])) ∧ (ownAt q w1 (.site 15 4 0) false 3 xb1_3_2_1.length (encTs xb1_3_2_1) ∨ (w1 = .nilsl ∧ xb1_3_2_1 = [])))
def Q_ref13_less_1 (pb1_3_1_1 : (List Int)) (p1 : Int) (p0 : Tru) (xb1_3_0_1 : Int) (xb1_3_2_1 : (List Tru)) (q : St) : Prop := (∃ (g : Nat), q (.t 4) = .ptr (.site 0 1 0) g 0 ∧ q (.i (.site 0 1 0)) = .box g [(i64 0), .nilsl, .nilsl]) ∧ (∃ (g : Nat) (w0 : AV) (w1 : AV), q (.t 5) = .ptr (.site 1 3 0) g 0 ∧ q (.i (.site 1 3 0)) = .box g [(i64 xb1_3_0_1), w0, w1] ∧ (ownAt q w0 (.site 7 4 0) false 1 pb1_3_1_1.length (ints pb1_3_1_1) ∨ (w0 = .nilsl ∧ pb1_3_1_1 = [])) ∧ (ownAt q w1 (.site 15 4 0) false 3 xb1_3_2_1.length (encTs xb1_3_2_1) ∨ (w1 = .nilsl ∧ xb1_3_2_1 = [])))
theorem Pb_ref13_less_1 {pb1_3_1_1 : (List Int)} {p1 : Int} {p0 : Tru} {i20 : Nat} {xb1_3_0_1 : Int} {xb1_3_2_1 : (List Tru)} {e21 : Tru} {q : St} {r : (Int × (List Tru))} (hx : p0.inner[i20]? = some e21) (hi : i20 < p0.inner.length) (hn : p0.inner.length < 4611686018427387904) (hI : I_ref13_less_1 pb1_3_1_1 p1 p0 i20 xb1_3_0_1 xb1_3_2_1 q) (hB : B_ref13_less_1 pb1_3_1_1 p1 p0 i20 xb1_3_0_1 xb1_3_2_1 e21 = some r) : Res (C Tryd.prog cf (Code.fst (Code.fst (Code.snd (Code.fst (Code.snd (Code.snd (Code.snd ((Tryd.f47.body).getD .skip)))))))) q) (postG (fun a q => I_ref13_less_1 pb1_3_1_1 p1 p0 (i20 + 1) a.1 a.2 q) r) := by
  have hi3 : (i20 : Int) < (p0.inner.length : Int) := by omega
  have hi2 := decide_eq_true hi3
  have hi4 := idx_step hi hn
  have hi5 := ne_of_get hx
  simp only [I_ref13_less_1] at hI
  obtain ⟨q1, q2, q3, q4, ⟨g6, q5, q6⟩, ⟨g8, v8_w0, v8_w1, q7, q8, a8_w0, a8_w1⟩⟩ := hI
  simp only [Code.fst, Code.snd, Tryd.f47, Option.getD_some]
  unfold B_ref13_less_1 at hB
  rcases a8_w0 with ⟨ga8_w0, rfl, oa8_w0⟩ | ⟨rfl, ea8_w0⟩
  · rcases a8_w1 with ⟨ga8_w1, rfl, oa8_w1⟩ | ⟨rfl, ea8_w1⟩
    · have l10 := encTs_ld hx
      obtain ⟨y11, k12, hB⟩ := kb_inv hB
      replace k12 := run_ref13_less k12
      try simp only [Int.cast_ofNat_Int, Int.natCast_zero, List.length_cons, List.length_nil, List.nil_append, List.cons_append, Nat.zero_add, Nat.reduceAdd, Tru.thr_mk, Tru.nodes_mk, Tru.inner_mk, ints_cons, ints_nil, encTs_cons, encTs_nil, es_api_Config_cons, es_api_Config_nil, es_api_Member_cons, es_api_Member_nil] at k12
      try dsimp only at hB
      rcases cnd_inv hB with ⟨c13, hB⟩ | ⟨c13, hB⟩
      · have pc13 := eq_true (of_decide_eq_true c13)
        obtain ⟨y14, k15, hB⟩ := kb_inv hB
        replace k15 := run_ref13_lower k15
        try simp only [Int.cast_ofNat_Int, Int.natCast_zero, List.length_cons, List.length_nil, List.nil_append, List.cons_append, Nat.zero_add, Nat.reduceAdd, Tru.thr_mk, Tru.nodes_mk, Tru.inner_mk, ints_cons, ints_nil, encTs_cons, encTs_nil, es_api_Config_cons, es_api_Config_nil, es_api_Member_cons, es_api_Member_nil] at k15
        try dsimp only at hB
        obtain rfl := Option.some.inj hB
        try simp -implicitDefEqProofs [-getElem?_pos, -Int.ofNat_lt, -Int.ofNat_le, -Int.natCast_eq_zero, -Int.natCast_pos, -List.length_eq_zero_iff, List.getElem?_cons_zero, List.getElem?_cons_succ, List.getElem?_nil, q1, q2, q3, q4, q5, q6, q7, q8, oa8_w0, oa8_w1, hx, hi2, hi3, hi4, hi5, l10, k12, c13, pc13, k15]
        refine Res.g ?_
        simp -implicitDefEqProofs [-getElem?_pos, -Int.ofNat_lt, -Int.ofNat_le, -Int.natCast_eq_zero, -Int.natCast_pos, -List.length_eq_zero_iff, List.getElem?_cons_zero, List.getElem?_cons_succ, List.getElem?_nil, and_assoc, I_ref13_less_1, ownAt, q1, q2, q3, q4, q5, q6, q7, q8, oa8_w0, oa8_w1, hx, hi2, hi3, hi4, hi5, l10, k12, c13, pc13, k15]
      · have pc13 := eq_false (of_decide_eq_false c13)
        obtain ⟨L16, a17, hB⟩ := kb_inv hB
        obtain ⟨a17z, a17a, a17y⟩ := appK_inv a17
        try (simp only [List.nil_append] at a17z; subst a17z)
        have a17b := appK_len a17
        have a17c := encTs_appK a17
        have a17d := appK_le a17
        try simp only [Int.cast_ofNat_Int, Int.natCast_zero, List.length_cons, List.length_nil, List.nil_append, List.cons_append, Nat.zero_add, Nat.reduceAdd, Tru.thr_mk, Tru.nodes_mk, Tru.inner_mk, ints_cons, ints_nil, encTs_cons, encTs_nil, es_api_Config_cons, es_api_Config_nil, es_api_Member_cons, es_api_Member_nil] at a17a a17b a17c
        try replace a17b : _ = (1 : Nat) := a17b.symm
        try dsimp only at hB
        obtain rfl := Option.some.inj hB
        try simp -implicitDefEqProofs [-getElem?_pos, -Int.ofNat_lt, -Int.ofNat_le, -Int.natCast_eq_zero, -Int.natCast_pos, -List.length_eq_zero_iff, List.getElem?_cons_zero, List.getElem?_cons_succ, List.getElem?_nil, q1, q2, q3, q4, q5, q6, q7, q8, oa8_w0, oa8_w1, hx, hi2, hi3, hi4, hi5, l10, k12, c13, pc13, a17a, a17b, a17c, a17d]
        refine Res.g ?_
        simp -implicitDefEqProofs [-getElem?_pos, -Int.ofNat_lt, -Int.ofNat_le, -Int.natCast_eq_zero, -Int.natCast_pos, -List.length_eq_zero_iff, List.getElem?_cons_zero, List.getElem?_cons_succ, List.getElem?_nil, and_assoc, I_ref13_less_1, ownAt, q1, q2, q3, q4, q5, q6, q7, q8, oa8_w0, oa8_w1, hx, hi2, hi3, hi4, hi5, l10, k12, c13, pc13, a17a, a17b, a17c, a17d]
    · try subst ea8_w1
      have l10 := encTs_ld hx
      obtain ⟨y11, k12, hB⟩ := kb_inv hB
      replace k12 := run_ref13_less k12
      try simp only [Int.cast_ofNat_Int, Int.natCast_zero, List.length_cons, List.length_nil, List.nil_append, List.cons_append, Nat.zero_add, Nat.reduceAdd, Tru.thr_mk, Tru.nodes_mk, Tru.inner_mk, ints_cons, ints_nil, encTs_cons, encTs_nil, es_api_Config_cons, es_api_Config_nil, es_api_Member_cons, es_api_Member_nil] at k12
      try dsimp only at hB
      rcases cnd_inv hB with ⟨c13, hB⟩ | ⟨c13, hB⟩
      · have pc13 := eq_true (of_decide_eq_true c13)
        obtain ⟨y14, k15, hB⟩ := kb_inv hB
        replace k15 := run_ref13_lower k15
        try simp only [Int.cast_ofNat_Int, Int.natCast_zero, List.length_cons, List.length_nil, List.nil_append, List.cons_append, Nat.zero_add, Nat.reduceAdd, Tru.thr_mk, Tru.nodes_mk, Tru.inner_mk, ints_cons, ints_nil, encTs_cons, encTs_nil, es_api_Config_cons, es_api_Config_nil, es_api_Member_cons, es_api_Member_nil] at k15
        try dsimp only at hB
        obtain rfl := Option.some.inj hB
        try simp -implicitDefEqProofs [-getElem?_pos, -Int.ofNat_lt, -Int.ofNat_le, -Int.natCast_eq_zero, -Int.natCast_pos, -List.length_eq_zero_iff, List.getElem?_cons_zero, List.getElem?_cons_succ, List.getElem?_nil, q1, q2, q3, q4, q5, q6, q7, q8, oa8_w0, hx, hi2, hi3, hi4, hi5, l10, k12, c13, pc13, k15]
        refine Res.g ?_
        simp -implicitDefEqProofs [-getElem?_pos, -Int.ofNat_lt, -Int.ofNat_le, -Int.natCast_eq_zero, -Int.natCast_pos, -List.length_eq_zero_iff, List.getElem?_cons_zero, List.getElem?_cons_succ, List.getElem?_nil, and_assoc, I_ref13_less_1, ownAt, q1, q2, q3, q4, q5, q6, q7, q8, oa8_w0, hx, hi2, hi3, hi4, hi5, l10, k12, c13, pc13, k15]
      · have pc13 := eq_false (of_decide_eq_false c13)
        obtain ⟨L16, a17, hB⟩ := kb_inv hB
        obtain ⟨a17z, a17a, a17y⟩ := appK_inv a17
        simp only [List.nil_append] at a17z
        subst a17z
        try dsimp only at hB
        obtain rfl := Option.some.inj hB
        try simp -implicitDefEqProofs [-getElem?_pos, -Int.ofNat_lt, -Int.ofNat_le, -Int.natCast_eq_zero, -Int.natCast_pos, -List.length_eq_zero_iff, List.getElem?_cons_zero, List.getElem?_cons_succ, List.getElem?_nil, q1, q2, q3, q4, q5, q6, q7, q8, oa8_w0, hx, hi2, hi3, hi4, hi5, l10, k12, c13, pc13]
        refine Res.g ?_
        simp -implicitDefEqProofs [-getElem?_pos, -Int.ofNat_lt, -Int.ofNat_le, -Int.natCast_eq_zero, -Int.natCast_pos, -List.length_eq_zero_iff, List.getElem?_cons_zero, List.getElem?_cons_succ, List.getElem?_nil, and_assoc, I_ref13_less_1, ownAt, q1, q2, q3, q4, q5, q6, q7, q8, oa8_w0, hx, hi2, hi3, hi4, hi5, l10, k12, c13, pc13]
  · try subst ea8_w0
    rcases a8_w1 with ⟨ga8_w1, rfl, oa8_w1⟩ | ⟨rfl, ea8_w1⟩
    · have l10 := encTs_ld hx
      obtain ⟨y11, k12, hB⟩ := kb_inv hB
      replace k12 := run_ref13_less k12
      try simp only [Int.cast_ofNat_Int, Int.natCast_zero, List.length_cons, List.length_nil, List.nil_append, List.cons_append, Nat.zero_add, Nat.reduceAdd, Tru.thr_mk, Tru.nodes_mk, Tru.inner_mk, ints_cons, ints_nil, encTs_cons, encTs_nil, es_api_Config_cons, es_api_Config_nil, es_api_Member_cons, es_api_Member_nil] at k12
      try dsimp only at hB
      rcases cnd_inv hB with ⟨c13, hB⟩ | ⟨c13, hB⟩
      · have pc13 := eq_true (of_decide_eq_true c13)
        obtain ⟨y14, k15, hB⟩ := kb_inv hB
        replace k15 := run_ref13_lower k15
        try simp only [Int.cast_ofNat_Int, Int.natCast_zero, List.length_cons, List.length_nil, List.nil_append, List.cons_append, Nat.zero_add, Nat.reduceAdd, Tru.thr_mk, Tru.nodes_mk, Tru.inner_mk, ints_cons, ints_nil, encTs_cons, encTs_nil, es_api_Config_cons, es_api_Config_nil, es_api_Member_cons, es_api_Member_nil] at k15
        try dsimp only at hB
        obtain rfl := Option.some.inj hB
        try simp -implicitDefEqProofs [-getElem?_pos, -Int.ofNat_lt, -Int.ofNat_le, -Int.natCast_eq_zero, -Int.natCast_pos, -List.length_eq_zero_iff, List.getElem?_cons_zero, List.getElem?_cons_succ, List.getElem?_nil, q1, q2, q3, q4, q5, q6, q7, q8, oa8_w1, hx, hi2, hi3, hi4, hi5, l10, k12, c13, pc13, k15]
        refine Res.g ?_
        simp -implicitDefEqProofs [-getElem?_pos, -Int.ofNat_lt, -Int.ofNat_le, -Int.natCast_eq_zero, -Int.natCast_pos, -List.length_eq_zero_iff, List.getElem?_cons_zero, List.getElem?_cons_succ, List.getElem?_nil, and_assoc, I_ref13_less_1, ownAt, q1, q2, q3, q4, q5, q6, q7, q8, oa8_w1, hx, hi2, hi3, hi4, hi5, l10, k12, c13, pc13, k15]
      · have pc13 := eq_false (of_decide_eq_false c13)
        obtain ⟨L16, a17, hB⟩ := kb_inv hB
        obtain ⟨a17z, a17a, a17y⟩ := appK_inv a17
        try (simp only [List.nil_append] at a17z; subst a17z)
        have a17b := appK_len a17
        have a17c := encTs_appK a17
        have a17d := appK_le a17
        try simp only [Int.cast_ofNat_Int, Int.natCast_zero, List.length_cons, List.length_nil, List.nil_append, List.cons_append, Nat.zero_add, Nat.reduceAdd, Tru.thr_mk, Tru.nodes_mk, Tru.inner_mk, ints_cons, ints_nil, encTs_cons, encTs_nil, es_api_Config_cons, es_api_Config_nil, es_api_Member_cons, es_api_Member_nil] at a17a a17b a17c
        try replace a17b : _ = (1 : Nat) := a17b.symm
        try dsimp only at hB
        obtain rfl := Option.some.inj hB
        try simp -implicitDefEqProofs [-getElem?_pos, -Int.ofNat_lt, -Int.ofNat_le, -Int.natCast_eq_zero, -Int.natCast_pos, -List.length_eq_zero_iff, List.getElem?_cons_zero, List.getElem?_cons_succ, List.getElem?_nil, q1, q2, q3, q4, q5, q6, q7, q8, oa8_w1, hx, hi2, hi3, hi4, hi5, l10, k12, c13, pc13, a17a, a17b, a17c, a17d]
        refine Res.g ?_
        simp -implicitDefEqProofs [-getElem?_pos, -Int.ofNat_lt, -Int.ofNat_le, -Int.natCast_eq_zero, -Int.natCast_pos, -List.length_eq_zero_iff, List.getElem?_cons_zero, List.getElem?_cons_succ, List.getElem?_nil, and_assoc, I_ref13_less_1, ownAt, q1, q2, q3, q4, q5, q6, q7, q8, oa8_w1, hx, hi2, hi3, hi4, hi5, l10, k12, c13, pc13, a17a, a17b, a17c, a17d]
    · try subst ea8_w1
      have l10 := encTs_ld hx
      obtain ⟨y11, k12, hB⟩ := kb_inv hB
      replace k12 := run_ref13_less k12
      try simp only [Int.cast_ofNat_Int, Int.natCast_zero, List.length_cons, List.length_nil, List.nil_append, List.cons_append, Nat.zero_add, Nat.reduceAdd, Tru.thr_mk, Tru.nodes_mk, Tru.inner_mk, ints_cons, ints_nil, encTs_cons, encTs_nil, es_api_Config_cons, es_api_Config_nil, es_api_Member_cons, es_api_Member_nil] at k12
      try dsimp only at hB
      rcases cnd_inv hB with ⟨c13, hB⟩ | ⟨c13, hB⟩
      · have pc13 := eq_true (of_decide_eq_true c13)
        obtain ⟨y14, k15, hB⟩ := kb_inv hB
        replace k15 := run_ref13_lower k15
        try simp only [Int.cast_ofNat_Int, Int.natCast_zero, List.length_cons, List.length_nil, List.nil_append, List.cons_append, Nat.zero_add, Nat.reduceAdd, Tru.thr_mk, Tru.nodes_mk, Tru.inner_mk, ints_cons, ints_nil, encTs_cons, encTs_nil, es_api_Config_cons, es_api_Config_nil, es_api_Member_cons, es_api_Member_nil] at k15
        try dsimp only at hB
        obtain rfl := Option.some.inj hB
        try simp -implicitDefEqProofs [-getElem?_pos, -Int.ofNat_lt, -Int.ofNat_le, -Int.natCast_eq_zero, -Int.natCast_pos, -List.length_eq_zero_iff, List.getElem?_cons_zero, List.getElem?_cons_succ, List.getElem?_nil, q1, q2, q3, q4, q5, q6, q7, q8, hx, hi2, hi3, hi4, hi5, l10, k12, c13, pc13, k15]
        refine Res.g ?_
        simp -implicitDefEqProofs [-getElem?_pos, -Int.ofNat_lt, -Int.ofNat_le, -Int.natCast_eq_zero, -Int.natCast_pos, -List.length_eq_zero_iff, List.getElem?_cons_zero, List.getElem?_cons_succ, List.getElem?_nil, and_assoc, I_ref13_less_1, ownAt, q1, q2, q3, q4, q5, q6, q7, q8, hx, hi2, hi3, hi4, hi5, l10, k12, c13, pc13, k15]
      · have pc13 := eq_false (of_decide_eq_false c13)
        obtain ⟨L16, a17, hB⟩ := kb_inv hB
        obtain ⟨a17z, a17a, a17y⟩ := appK_inv a17
        simp only [List.nil_append] at a17z
        subst a17z
        try dsimp only at hB
        obtain rfl := Option.some.inj hB
        try simp -implicitDefEqProofs [-getElem?_pos, -Int.ofNat_lt, -Int.ofNat_le, -Int.natCast_eq_zero, -Int.natCast_pos, -List.length_eq_zero_iff, List.getElem?_cons_zero, List.getElem?_cons_succ, List.getElem?_nil, q1, q2, q3, q4, q5, q6, q7, q8, hx, hi2, hi3, hi4, hi5, l10, k12, c13, pc13]
        refine Res.g ?_
        simp -implicitDefEqProofs [-getElem?_pos, -Int.ofNat_lt, -Int.ofNat_le, -Int.natCast_eq_zero, -Int.natCast_pos, -List.length_eq_zero_iff, List.getElem?_cons_zero, List.getElem?_cons_succ, List.getElem?_nil, and_assoc, I_ref13_less_1, ownAt, q1, q2, q3, q4, q5, q6, q7, q8, hx, hi2, hi3, hi4, hi5, l10, k12, c13, pc13]
theorem Pe_ref13_less_1 {pb1_3_1_1 : (List Int)} {p1 : Int} {p0 : Tru} {xb1_3_0_1 : Int} {xb1_3_2_1 : (List Tru)} {q : St} (hI : I_ref13_less_1 pb1_3_1_1 p1 p0 p0.inner.length xb1_3_0_1 xb1_3_2_1 q) : Res (C Tryd.prog cf (Code.fst (Code.fst (Code.snd (Code.fst (Code.snd (Code.snd (Code.snd ((Tryd.f47.body).getD .skip)))))))) q) fun e q' => e = .exit 2 ∧ Q_ref13_less_1 pb1_3_1_1 p1 p0 xb1_3_0_1 xb1_3_2_1 q' := by
  simp only [I_ref13_less_1] at hI
  obtain ⟨q1, q2, q3, q4, ⟨g6, q5, q6⟩, ⟨g8, v8_w0, v8_w1, q7, q8, a8_w0, a8_w1⟩⟩ := hI
  simp only [Code.fst, Code.snd, Tryd.f47, Option.getD_some]
  rcases a8_w0 with ⟨ga8_w0, rfl, oa8_w0⟩ | ⟨rfl, ea8_w0⟩
  · rcases a8_w1 with ⟨ga8_w1, rfl, oa8_w1⟩ | ⟨rfl, ea8_w1⟩
    · simp -implicitDefEqProofs [-getElem?_pos, -Int.ofNat_lt, -Int.ofNat_le, -Int.natCast_eq_zero, -Int.natCast_pos, -List.length_eq_zero_iff, List.getElem?_cons_zero, List.getElem?_cons_succ, List.getElem?_nil, q1, q2, q3, q4, q5, q6, q7, q8, oa8_w0, oa8_w1]
      refine Res.x ?_
      simp -implicitDefEqProofs [-getElem?_pos, -Int.ofNat_lt, -Int.ofNat_le, -Int.natCast_eq_zero, -Int.natCast_pos, -List.length_eq_zero_iff, List.getElem?_cons_zero, List.getElem?_cons_succ, List.getElem?_nil, and_assoc, Q_ref13_less_1, ownAt, q1, q2, q3, q4, q5, q6, q7, q8, oa8_w0, oa8_w1]
    · try subst ea8_w1
      simp -implicitDefEqProofs [-getElem?_pos, -Int.ofNat_lt, -Int.ofNat_le, -Int.natCast_eq_zero, -Int.natCast_pos, -List.length_eq_zero_iff, List.getElem?_cons_zero, List.getElem?_cons_succ, List.getElem?_nil, q1, q2, q3, q4, q5, q6, q7, q8, oa8_w0]
      refine Res.x ?_
      simp -implicitDefEqProofs [-getElem?_pos, -Int.ofNat_lt, -Int.ofNat_le, -Int.natCast_eq_zero, -Int.natCast_pos, -List.length_eq_zero_iff, List.getElem?_cons_zero, List.getElem?_cons_succ, List.getElem?_nil, and_assoc, Q_ref13_less_1, ownAt, q1, q2, q3, q4, q5, q6, q7, q8, oa8_w0]
  · try subst ea8_w0
    rcases a8_w1 with ⟨ga8_w1, rfl, oa8_w1⟩ | ⟨rfl, ea8_w1⟩
    · simp -implicitDefEqProofs [-getElem?_pos, -Int.ofNat_lt, -Int.ofNat_le, -Int.natCast_eq_zero, -Int.natCast_pos, -List.length_eq_zero_iff, List.getElem?_cons_zero, List.getElem?_cons_succ, List.getElem?_nil, q1, q2, q3, q4, q5, q6, q7, q8, oa8_w1]
      refine Res.x ?_
      simp -implicitDefEqProofs [-getElem?_pos, -Int.ofNat_lt, -Int.ofNat_le, -Int.natCast_eq_zero, -Int.natCast_pos, -List.length_eq_zero_iff, List.getElem?_cons_zero, List.getElem?_cons_succ, List.getElem?_nil, and_assoc, Q_ref13_less_1, ownAt, q1, q2, q3, q4, q5, q6, q7, q8, oa8_w1]
    · try subst ea8_w1
      simp -implicitDefEqProofs [-getElem?_pos, -Int.ofNat_lt, -Int.ofNat_le, -Int.natCast_eq_zero, -Int.natCast_pos, -List.length_eq_zero_iff, List.getElem?_cons_zero, List.getElem?_cons_succ, List.getElem?_nil, q1, q2, q3, q4, q5, q6, q7, q8]
      refine Res.x ?_
      simp -implicitDefEqProofs [-getElem?_pos, -Int.ofNat_lt, -Int.ofNat_le, -Int.natCast_eq_zero, -Int.natCast_pos, -List.length_eq_zero_iff, List.getElem?_cons_zero, List.getElem?_cons_succ, List.getElem?_nil, and_assoc, Q_ref13_less_1, ownAt, q1, q2, q3, q4, q5, q6, q7, q8]
theorem P_ref13_less_1 {pb1_3_1_1 : (List Int)} {p1 : Int} {p0 : Tru} {xb1_3_0_1 : Int} {xb1_3_2_1 : (List Tru)} {cc : Code} (hcc : cc = .block 2 (.loop (Code.fst (Code.fst (Code.snd (Code.fst (Code.snd (Code.snd (Code.snd ((Tryd.f47.body).getD .skip)))))))))) {s : St} {z : Option (Ex × St)} (hz : C Tryd.prog cf cc s = z) {r : (Int × (List Tru))} (hn : p0.inner.length < 4611686018427387904) (hI : I_ref13_less_1 pb1_3_1_1 p1 p0 0 xb1_3_0_1 xb1_3_2_1 s) (hB : foldO (fun i a x => B_ref13_less_1 pb1_3_1_1 p1 p0 i a.1 a.2 x) 0 (xb1_3_0_1, xb1_3_2_1) p0.inner = some r) : Res z (postG (fun a q => Q_ref13_less_1 pb1_3_1_1 p1 p0 a.1 a.2 q) r) := by
  subst hcc
  exact fold_sim (I := fun i a q => I_ref13_less_1 pb1_3_1_1 p1 p0 i a.1 a.2 q) (Q := (fun a q => Q_ref13_less_1 pb1_3_1_1 p1 p0 a.1 a.2 q)) (fun i x a q r hx hi h hB => Pb_ref13_less_1 hx hi hn h hB) (fun a q h => Pe_ref13_less_1 h) hI hz hB
noncomputable def B_ref13_less (p0 : Tru) (p1 : Int) : Option Tru :=
  kb (smallK p0.nodes) fun _ =>
  kb (foldO (fun i a x => B_ref13_less_0 p0 p1 i a.1 a.2 x) 0 (p0.thr, ([] : (List Int))) p0.nodes) fun z9 =>
  kb (smallK p0.inner) fun _ =>
  kb (foldO (fun i a x => B_ref13_less_1 z9.2 p1 p0 i a.1 a.2 x) 0 (z9.1, ([] : (List Tru))) p0.inner) fun z18 =>
  some (Tru.mk z18.1 z9.2 z18.2)
theorem sim_ref13_less {p0 : Tru} {p1 : Int} {r : Tru} (hB : B_ref13_less p0 p1 = some r) : R 47 [(.agg [(i64 p0.thr), (.pv (.sl p0.nodes.length (ints p0.nodes))), (.pv (.sl p0.inner.length (encTs p0.inner)))]), (i64 p1)] [] = some ((.agg [(i64 r.thr), (.pv (.sl r.nodes.length (ints r.nodes))), (.pv (.sl r.inner.length (encTs r.inner)))]), [], []) := by
  rw [R_eq _ _ _ fn_ref13_less]
  simp only [Code.fst, Code.snd, Tryd.f47, Option.getD_some]
  generalize hc0 : Code.block 0 _ = cc0
  generalize hc1 : Code.block 2 _ = cc1
  unfold B_ref13_less at hB
  try simp -implicitDefEqProofs [-getElem?_pos, -Int.ofNat_lt, -Int.ofNat_le, -Int.natCast_eq_zero, -Int.natCast_pos, -List.length_eq_zero_iff, List.getElem?_cons_zero, List.getElem?_cons_succ, List.getElem?_nil]
  generalize hz0 : C Tryd.prog cf cc0 _ = z0
  obtain ⟨_, hsm, hB⟩ := kb_inv hB
  obtain ⟨z9, hB1, hB⟩ := kb_inv hB
  have hJ := P_ref13_less_0 (hc0.symm.trans (by kernel_rfl)) hz0 (smallK_inv hsm) (by simp -implicitDefEqProofs [-getElem?_pos, -Int.ofNat_lt, -Int.ofNat_le, -Int.natCast_eq_zero, -Int.natCast_pos, -List.length_eq_zero_iff, List.getElem?_cons_zero, List.getElem?_cons_succ, List.getElem?_nil, and_assoc, I_ref13_less_0, ownAt]) hB1
  obtain ⟨e0, s0, rfl, hq⟩ := hJ.open
  clear hB1
  obtain ⟨rfl, hq⟩ := hq
  obtain ⟨u0_0, u0_1⟩ := z9
  dsimp only at hB hq
  simp only [Q_ref13_less_0] at hq
  obtain ⟨q9_1, ⟨g9_3, q9_2, q9_3⟩, ⟨g9_5, q9_4, q9_5⟩, ⟨g9_7, v9_7_w0, q9_6, q9_7, a9_7_w0⟩⟩ := hq
  rcases a9_7_w0 with ⟨ga9_7_w0, rfl, oa9_7_w0⟩ | ⟨rfl, ea9_7_w0⟩
  · try simp -implicitDefEqProofs [-getElem?_pos, -Int.ofNat_lt, -Int.ofNat_le, -Int.natCast_eq_zero, -Int.natCast_pos, -List.length_eq_zero_iff, List.getElem?_cons_zero, List.getElem?_cons_succ, List.getElem?_nil, q9_1, q9_2, q9_3, q9_4, q9_5, q9_6, q9_7, oa9_7_w0]
    generalize hz1 : C Tryd.prog cf cc1 _ = z1
    obtain ⟨_, hsm, hB⟩ := kb_inv hB
    obtain ⟨z18, hB1, hB⟩ := kb_inv hB
    have hJ := P_ref13_less_1 (hc1.symm.trans (by kernel_rfl)) hz1 (smallK_inv hsm) (by simp -implicitDefEqProofs [-getElem?_pos, -Int.ofNat_lt, -Int.ofNat_le, -Int.natCast_eq_zero, -Int.natCast_pos, -List.length_eq_zero_iff, List.getElem?_cons_zero, List.getElem?_cons_succ, List.getElem?_nil, and_assoc, I_ref13_less_1, ownAt, q9_1, q9_2, q9_3, q9_4, q9_5, q9_6, q9_7, oa9_7_w0]) hB1
    obtain ⟨e1, s1, rfl, hq⟩ := hJ.open
    clear hB1
    obtain ⟨rfl, hq⟩ := hq
    obtain ⟨u1_0, u1_1⟩ := z18
    dsimp only at hB hq
    simp only [Q_ref13_less_1] at hq
    obtain ⟨⟨g18_2, q18_1, q18_2⟩, ⟨g18_4, v18_4_w0, v18_4_w1, q18_3, q18_4, a18_4_w0, a18_4_w1⟩⟩ := hq
    rcases a18_4_w0 with ⟨ga18_4_w0, rfl, oa18_4_w0⟩ | ⟨rfl, ea18_4_w0⟩
    · rcases a18_4_w1 with ⟨ga18_4_w1, rfl, oa18_4_w1⟩ | ⟨rfl, ea18_4_w1⟩
      · obtain rfl := Option.some.inj hB
        simp -implicitDefEqProofs [-getElem?_pos, -Int.ofNat_lt, -Int.ofNat_le, -Int.natCast_eq_zero, -Int.natCast_pos, -List.length_eq_zero_iff, List.getElem?_cons_zero, List.getElem?_cons_succ, List.getElem?_nil, q18_1, q18_2, q18_3, q18_4, oa18_4_w0, oa18_4_w1]
      · try subst ea18_4_w1
        obtain rfl := Option.some.inj hB
        simp -implicitDefEqProofs [-getElem?_pos, -Int.ofNat_lt, -Int.ofNat_le, -Int.natCast_eq_zero, -Int.natCast_pos, -List.length_eq_zero_iff, List.getElem?_cons_zero, List.getElem?_cons_succ, List.getElem?_nil, q18_1, q18_2, q18_3, q18_4, oa18_4_w0]
    · try subst ea18_4_w0
      rcases a18_4_w1 with ⟨ga18_4_w1, rfl, oa18_4_w1⟩ | ⟨rfl, ea18_4_w1⟩
      · obtain rfl := Option.some.inj hB
        simp -implicitDefEqProofs [-getElem?_pos, -Int.ofNat_lt, -Int.ofNat_le, -Int.natCast_eq_zero, -Int.natCast_pos, -List.length_eq_zero_iff, List.getElem?_cons_zero, List.getElem?_cons_succ, List.getElem?_nil, q18_1, q18_2, q18_3, q18_4, oa18_4_w1]
      · try subst ea18_4_w1
        obtain rfl := Option.some.inj hB
        simp -implicitDefEqProofs [-getElem?_pos, -Int.ofNat_lt, -Int.ofNat_le, -Int.natCast_eq_zero, -Int.natCast_pos, -List.length_eq_zero_iff, List.getElem?_cons_zero, List.getElem?_cons_succ, List.getElem?_nil, q18_1, q18_2, q18_3, q18_4]
  · try subst ea9_7_w0
    try simp -implicitDefEqProofs [-getElem?_pos, -Int.ofNat_lt, -Int.ofNat_le, -Int.natCast_eq_zero, -Int.natCast_pos, -List.length_eq_zero_iff, List.getElem?_cons_zero, List.getElem?_cons_succ, List.getElem?_nil, q9_1, q9_2, q9_3, q9_4, q9_5, q9_6, q9_7]
    generalize hz1 : C Tryd.prog cf cc1 _ = z1
    obtain ⟨_, hsm, hB⟩ := kb_inv hB
    obtain ⟨z18, hB1, hB⟩ := kb_inv hB
    have hJ := P_ref13_less_1 (hc1.symm.trans (by kernel_rfl)) hz1 (smallK_inv hsm) (by simp -implicitDefEqProofs [-getElem?_pos, -Int.ofNat_lt, -Int.ofNat_le, -Int.natCast_eq_zero, -Int.natCast_pos, -List.length_eq_zero_iff, List.getElem?_cons_zero, List.getElem?_cons_succ, List.getElem?_nil, and_assoc, I_ref13_less_1, ownAt, q9_1, q9_2, q9_3, q9_4, q9_5, q9_6, q9_7]) hB1
    obtain ⟨e1, s1, rfl, hq⟩ := hJ.open
    clear hB1
    obtain ⟨rfl, hq⟩ := hq
    obtain ⟨u1_0, u1_1⟩ := z18
    dsimp only at hB hq
    simp only [Q_ref13_less_1] at hq
    obtain ⟨⟨g18_2, q18_1, q18_2⟩, ⟨g18_4, v18_4_w0, v18_4_w1, q18_3, q18_4, a18_4_w0, a18_4_w1⟩⟩ := hq
    rcases a18_4_w0 with ⟨ga18_4_w0, rfl, oa18_4_w0⟩ | ⟨rfl, ea18_4_w0⟩
    · rcases a18_4_w1 with ⟨ga18_4_w1, rfl, oa18_4_w1⟩ | ⟨rfl, ea18_4_w1⟩
      · obtain rfl := Option.some.inj hB
        simp -implicitDefEqProofs [-getElem?_pos, -Int.ofNat_lt, -Int.ofNat_le, -Int.natCast_eq_zero, -Int.natCast_pos, -List.length_eq_zero_iff, List.getElem?_cons_zero, List.getElem?_cons_succ, List.getElem?_nil, q18_1, q18_2, q18_3, q18_4, oa18_4_w0, oa18_4_w1]
      · try subst ea18_4_w1
        obtain rfl := Option.some.inj hB
        simp -implicitDefEqProofs [-getElem?_pos, -Int.ofNat_lt, -Int.ofNat_le, -Int.natCast_eq_zero, -Int.natCast_pos, -List.length_eq_zero_iff, List.getElem?_cons_zero, List.getElem?_cons_succ, List.getElem?_nil, q18_1, q18_2, q18_3, q18_4, oa18_4_w0]
    · try subst ea18_4_w0
      rcases a18_4_w1 with ⟨ga18_4_w1, rfl, oa18_4_w1⟩ | ⟨rfl, ea18_4_w1⟩
      · obtain rfl := Option.some.inj hB
        simp -implicitDefEqProofs [-getElem?_pos, -Int.ofNat_lt, -Int.ofNat_le, -Int.natCast_eq_zero, -Int.natCast_pos, -List.length_eq_zero_iff, List.getElem?_cons_zero, List.getElem?_cons_succ, List.getElem?_nil, q18_1, q18_2, q18_3, q18_4, oa18_4_w1]
      · try subst ea18_4_w1
        obtain rfl := Option.some.inj hB
        simp -implicitDefEqProofs [-getElem?_pos, -Int.ofNat_lt, -Int.ofNat_le, -Int.natCast_eq_zero, -Int.natCast_pos, -List.length_eq_zero_iff, List.getElem?_cons_zero, List.getElem?_cons_succ, List.getElem?_nil, q18_1, q18_2, q18_3, q18_4]
theorem g_ref13_less {p0 : Tru} {p1 : Int} {r : Tru} (hB : B_ref13_less p0 p1 = some r) : G_ref13_less p0 p1 = some r := dec_of (fun a b h => by rcases a with ⟨a0_0, a0_1, a0_2⟩; rcases b with ⟨b0_0, b0_1, b0_2⟩; simp at h; simp [*]) (sim_ref13_less hB)
end Go.Am

/-
How trustquorumref13.Trust runs, as a pure function.
-/
namespace Go.Am
open Go Go.Proofs
set_option linter.unusedVariables false
set_option linter.unusedSimpArgs false
set_option maxRecDepth 4000
set_option maxHeartbeats 4000000
noncomputable def B_ref13_Trust (p0 : Tru) (p1 : Int) (p2 : Int) : Option Tru :=
  kb (G_ref01_Valid p2) fun y1 =>
  cnd y1 (
    kb (G_ref13_less p0 p2) fun y4 =>
    cnd (decide (y4.thr ≤ 0)) (
      some (Tru.mk 1 ([p1] : List Int) ([] : (List Tru)))) (
      some y4)) (
    some p0)
theorem sim_ref13_Trust {p0 : Tru} {p1 : Int} {p2 : Int} {r : Tru} (hB : B_ref13_Trust p0 p1 p2 = some r) : R 22 [(.agg [(i64 p0.thr), (.pv (.sl p0.nodes.length (ints p0.nodes))), (.pv (.sl p0.inner.length (encTs p0.inner)))]), (i64 p1), (i64 p2)] [] = some ((.agg [(i64 r.thr), (.pv (.sl r.nodes.length (ints r.nodes))), (.pv (.sl r.inner.length (encTs r.inner)))]), [], []) := by
  rw [R_eq _ _ _ fn_ref13_Trust]
  simp only [Code.fst, Code.snd, Tryd.f22, Option.getD_some]
  unfold B_ref13_Trust at hB
  obtain ⟨y1, k2, hB⟩ := kb_inv hB
  replace k2 := run_ref01_Valid k2
  try simp only [Int.cast_ofNat_Int, Int.natCast_zero, List.length_cons, List.length_nil, List.nil_append, List.cons_append, Nat.zero_add, Nat.reduceAdd, Tru.thr_mk, Tru.nodes_mk, Tru.inner_mk, ints_cons, ints_nil, encTs_cons, encTs_nil, es_api_Config_cons, es_api_Config_nil, es_api_Member_cons, es_api_Member_nil] at k2
  try dsimp only at hB
  rcases cnd_inv hB with ⟨c3, hB⟩ | ⟨c3, hB⟩
  · obtain ⟨y4, k5, hB⟩ := kb_inv hB
    replace k5 := run_ref13_less k5
    try simp only [Int.cast_ofNat_Int, Int.natCast_zero, List.length_cons, List.length_nil, List.nil_append, List.cons_append, Nat.zero_add, Nat.reduceAdd, Tru.thr_mk, Tru.nodes_mk, Tru.inner_mk, ints_cons, ints_nil, encTs_cons, encTs_nil, es_api_Config_cons, es_api_Config_nil, es_api_Member_cons, es_api_Member_nil, c3] at k5
    try dsimp only at hB
    rcases cnd_inv hB with ⟨c6, hB⟩ | ⟨c6, hB⟩
    · have pc6 := eq_true (of_decide_eq_true c6)
      obtain rfl := Option.some.inj hB
      simp -implicitDefEqProofs [-getElem?_pos, -Int.ofNat_lt, -Int.ofNat_le, -Int.natCast_eq_zero, -Int.natCast_pos, -List.length_eq_zero_iff, List.getElem?_cons_zero, List.getElem?_cons_succ, List.getElem?_nil, k2, c3, k5, c6, pc6]
    · have pc6 := eq_false (of_decide_eq_false c6)
      obtain rfl := Option.some.inj hB
      simp -implicitDefEqProofs [-getElem?_pos, -Int.ofNat_lt, -Int.ofNat_le, -Int.natCast_eq_zero, -Int.natCast_pos, -List.length_eq_zero_iff, List.getElem?_cons_zero, List.getElem?_cons_succ, List.getElem?_nil, k2, c3, k5, c6, pc6]
  · obtain rfl := Option.some.inj hB
    simp -implicitDefEqProofs [-getElem?_pos, -Int.ofNat_lt, -Int.ofNat_le, -Int.natCast_eq_zero, -Int.natCast_pos, -List.length_eq_zero_iff, List.getElem?_cons_zero, List.getElem?_cons_succ, List.getElem?_nil, k2, c3]
theorem g_ref13_Trust {p0 : Tru} {p1 : Int} {p2 : Int} {r : Tru} (hB : B_ref13_Trust p0 p1 p2 = some r) : G_ref13_Trust p0 p1 p2 = some r := dec_of (fun a b h => by rcases a with ⟨a0_0, a0_1, a0_2⟩; rcases b with ⟨b0_0, b0_1, b0_2⟩; simp at h; simp [*]) (sim_ref13_Trust hB)
end Go.Am

/-
How trustquorumref13.Delete runs, as a pure function.
-/
namespace Go.Am
open Go Go.Proofs
set_option linter.unusedVariables false
set_option linter.unusedSimpArgs false
set_option maxRecDepth 4000
set_option maxHeartbeats 4000000
noncomputable def B_ref13_Delete_0 (p1 : Int) (p0 : S_api_Config) (i4 : Nat) (xb3_0_0_0 : (List S_api_Member)) (e5 : S_api_Member) : Option (List S_api_Member) :=
  kb (G_ref01_Has p1 (i4 : Int)) fun y5 =>
  cnd y5 (
    kb (appK xb3_0_0_0 ([(S_api_Member.mk false (Tru.mk 0 ([] : (List Int)) ([] : (List Tru))))] : List S_api_Member) 64) fun L8 =>
    some L8) (
    cnd e5.f0 (
      kb (G_ref13_Trust e5.f1 (i4 : Int) p1) fun y11 =>
      kb (appK xb3_0_0_0 ([(S_api_Member.mk e5.f0 y11)] : List S_api_Member) 64) fun L13 =>
      some L13) (
      kb (appK xb3_0_0_0 ([e5] : List S_api_Member) 64) fun L15 =>
      some L15))
def I_ref13_Delete_0 (p1 : Int) (p0 : S_api_Config) (i4 : Nat) (xb3_0_0_0 : (List S_api_Member)) (q : St) : Prop := q (.t 1) = (i64 p1) ∧ q (.t 13) = (.pv (.sl p0.f0.length (es_api_Member p0.f0))) ∧ q (.t 14) = (i64 (p0.f0.length : Int)) ∧ q (.t 15) = (i64 (i4 : Int)) ∧ (∃ (g : Nat), q (.t 4) = .ptr (.site 0 1 0) g 0 ∧ q (.i (.site 0 1 0)) = .box g [.nilsl]) ∧ (∃ (g : Nat) (w0 : AV), q (.t 5) = .ptr (.site 3 0 0) g 0 ∧ q (.i (.site 3 0 0)) = .box g [w0] ∧ (ownAt q w0 (.site 11 4 0) false 4 xb3_0_0_0.length (es_api_Member xb3_0_0_0) ∨ (w0 = .nilsl ∧ xb3_0_0_0 = [])))
def Q_ref13_Delete_0 (p1 : Int) (p0 : S_api_Config) (xb3_0_0_0 : (List S_api_Member)) (q : St) : Prop := (∃ (g : Nat), q (.t 4) = .ptr (.site 0 1 0) g 0 ∧ q (.i (.site 0 1 0)) = .box g [.nilsl]) ∧ (∃ (g : Nat) (w0 : AV), q (.t 5) = .ptr (.site 3 0 0) g 0 ∧ q (.i (.site 3 0 0)) = .box g [w0] ∧ (ownAt q w0 (.site 11 4 0) false 4 xb3_0_0_0.length (es_api_Member xb3_0_0_0) ∨ (w0 = .nilsl ∧ xb3_0_0_0 = [])))
theorem Pb_ref13_Delete_0 {p1 : Int} {p0 : S_api_Config} {i4 : Nat} {xb3_0_0_0 : (List S_api_Member)} {e5 : S_api_Member} {q : St} {r : (List S_api_Member)} (hx : p0.f0[i4]? = some e5) (hi : i4 < p0.f0.length) (hn : p0.f0.length < 4611686018427387904) (hI : I_ref13_Delete_0 p1 p0 i4 xb3_0_0_0 q) (hB : B_ref13_Delete_0 p1 p0 i4 xb3_0_0_0 e5 = some r) : Res (C Tryd.prog cf (Code.fst (Code.fst (Code.snd (Code.fst (Code.snd (Code.snd (Code.snd ((Tryd.f26.body).getD .skip)))))))) q) (postG (fun a q => I_ref13_Delete_0 p1 p0 (i4 + 1) a q) r) := by
  have hi3 : (i4 : Int) < (p0.f0.length : Int) := by omega
  have hi2 := decide_eq_true hi3
  have hi4 := idx_step hi hn
  have hi5 := ne_of_get hx
  simp only [I_ref13_Delete_0] at hI
  obtain ⟨q1, q2, q3, q4, ⟨g6, q5, q6⟩, ⟨g8, v8_w0, q7, q8, a8_w0⟩⟩ := hI
  simp only [Code.fst, Code.snd, Tryd.f26, Option.getD_some]
  unfold B_ref13_Delete_0 at hB
  rcases a8_w0 with ⟨ga8_w0, rfl, oa8_w0⟩ | ⟨rfl, ea8_w0⟩
  · have l4 := es_api_Member_ld hx
    obtain ⟨y5, k6, hB⟩ := kb_inv hB
    replace k6 := run_ref01_Has k6
    try simp only [Int.cast_ofNat_Int, Int.natCast_zero, List.length_cons, List.length_nil, List.nil_append, List.cons_append, Nat.zero_add, Nat.reduceAdd, Tru.thr_mk, Tru.nodes_mk, Tru.inner_mk, ints_cons, ints_nil, encTs_cons, encTs_nil, es_api_Config_cons, es_api_Config_nil, es_api_Member_cons, es_api_Member_nil] at k6
    try dsimp only at hB
    rcases cnd_inv hB with ⟨c7, hB⟩ | ⟨c7, hB⟩
    · obtain ⟨L8, a9, hB⟩ := kb_inv hB
      obtain ⟨a9z, a9a, a9y⟩ := appK_inv a9
      try (simp only [List.nil_append] at a9z; subst a9z)
      have a9b := appK_len a9
      have a9c := es_api_Member_appK a9
      have a9d := appK_le a9
      try simp only [Int.cast_ofNat_Int, Int.natCast_zero, List.length_cons, List.length_nil, List.nil_append, List.cons_append, Nat.zero_add, Nat.reduceAdd, Tru.thr_mk, Tru.nodes_mk, Tru.inner_mk, ints_cons, ints_nil, encTs_cons, encTs_nil, es_api_Config_cons, es_api_Config_nil, es_api_Member_cons, es_api_Member_nil, c7] at a9a a9b a9c
      try replace a9b : _ = (1 : Nat) := a9b.symm
      try dsimp only at hB
      obtain rfl := Option.some.inj hB
      try simp -implicitDefEqProofs [-getElem?_pos, -Int.ofNat_lt, -Int.ofNat_le, -Int.natCast_eq_zero, -Int.natCast_pos, -List.length_eq_zero_iff, List.getElem?_cons_zero, List.getElem?_cons_succ, List.getElem?_nil, q1, q2, q3, q4, q5, q6, q7, q8, oa8_w0, hx, hi2, hi3, hi4, hi5, l4, k6, c7, a9a, a9b, a9c, a9d]
      refine Res.g ?_
      simp -implicitDefEqProofs [-getElem?_pos, -Int.ofNat_lt, -Int.ofNat_le, -Int.natCast_eq_zero, -Int.natCast_pos, -List.length_eq_zero_iff, List.getElem?_cons_zero, List.getElem?_cons_succ, List.getElem?_nil, and_assoc, I_ref13_Delete_0, ownAt, q1, q2, q3, q4, q5, q6, q7, q8, oa8_w0, hx, hi2, hi3, hi4, hi5, l4, k6, c7, a9a, a9b, a9c, a9d]
    · rcases cnd_inv hB with ⟨c10, hB⟩ | ⟨c10, hB⟩
      · obtain ⟨y11, k12, hB⟩ := kb_inv hB
        replace k12 := run_ref13_Trust k12
        try simp only [Int.cast_ofNat_Int, Int.natCast_zero, List.length_cons, List.length_nil, List.nil_append, List.cons_append, Nat.zero_add, Nat.reduceAdd, Tru.thr_mk, Tru.nodes_mk, Tru.inner_mk, ints_cons, ints_nil, encTs_cons, encTs_nil, es_api_Config_cons, es_api_Config_nil, es_api_Member_cons, es_api_Member_nil, c7, c10] at k12
        try dsimp only at hB
        obtain ⟨L13, a14, hB⟩ := kb_inv hB
        obtain ⟨a14z, a14a, a14y⟩ := appK_inv a14
        try (simp only [List.nil_append] at a14z; subst a14z)
        have a14b := appK_len a14
        have a14c := es_api_Member_appK a14
        have a14d := appK_le a14
        try simp only [Int.cast_ofNat_Int, Int.natCast_zero, List.length_cons, List.length_nil, List.nil_append, List.cons_append, Nat.zero_add, Nat.reduceAdd, Tru.thr_mk, Tru.nodes_mk, Tru.inner_mk, ints_cons, ints_nil, encTs_cons, encTs_nil, es_api_Config_cons, es_api_Config_nil, es_api_Member_cons, es_api_Member_nil, c7, c10] at a14a a14b a14c
        try replace a14b : _ = (1 : Nat) := a14b.symm
        try dsimp only at hB
        obtain rfl := Option.some.inj hB
        try simp -implicitDefEqProofs [-getElem?_pos, -Int.ofNat_lt, -Int.ofNat_le, -Int.natCast_eq_zero, -Int.natCast_pos, -List.length_eq_zero_iff, List.getElem?_cons_zero, List.getElem?_cons_succ, List.getElem?_nil, q1, q2, q3, q4, q5, q6, q7, q8, oa8_w0, hx, hi2, hi3, hi4, hi5, l4, k6, c7, c10, k12, a14a, a14b, a14c, a14d]
        refine Res.g ?_
        simp -implicitDefEqProofs [-getElem?_pos, -Int.ofNat_lt, -Int.ofNat_le, -Int.natCast_eq_zero, -Int.natCast_pos, -List.length_eq_zero_iff, List.getElem?_cons_zero, List.getElem?_cons_succ, List.getElem?_nil, and_assoc, I_ref13_Delete_0, ownAt, q1, q2, q3, q4, q5, q6, q7, q8, oa8_w0, hx, hi2, hi3, hi4, hi5, l4, k6, c7, c10, k12, a14a, a14b, a14c, a14d]
      · obtain ⟨L15, a16, hB⟩ := kb_inv hB
        obtain ⟨a16z, a16a, a16y⟩ := appK_inv a16
        try (simp only [List.nil_append] at a16z; subst a16z)
        have a16b := appK_len a16
        have a16c := es_api_Member_appK a16
        have a16d := appK_le a16
        try simp only [Int.cast_ofNat_Int, Int.natCast_zero, List.length_cons, List.length_nil, List.nil_append, List.cons_append, Nat.zero_add, Nat.reduceAdd, Tru.thr_mk, Tru.nodes_mk, Tru.inner_mk, ints_cons, ints_nil, encTs_cons, encTs_nil, es_api_Config_cons, es_api_Config_nil, es_api_Member_cons, es_api_Member_nil, c7, c10] at a16a a16b a16c
        try replace a16b : _ = (1 : Nat) := a16b.symm
        try dsimp only at hB
        obtain rfl := Option.some.inj hB
        try simp -implicitDefEqProofs [-getElem?_pos, -Int.ofNat_lt, -Int.ofNat_le, -Int.natCast_eq_zero, -Int.natCast_pos, -List.length_eq_zero_iff, List.getElem?_cons_zero, List.getElem?_cons_succ, List.getElem?_nil, q1, q2, q3, q4, q5, q6, q7, q8, oa8_w0, hx, hi2, hi3, hi4, hi5, l4, k6, c7, c10, a16a, a16b, a16c, a16d]
        refine Res.g ?_
        simp -implicitDefEqProofs [-getElem?_pos, -Int.ofNat_lt, -Int.ofNat_le, -Int.natCast_eq_zero, -Int.natCast_pos, -List.length_eq_zero_iff, List.getElem?_cons_zero, List.getElem?_cons_succ, List.getElem?_nil, and_assoc, I_ref13_Delete_0, ownAt, q1, q2, q3, q4, q5, q6, q7, q8, oa8_w0, hx, hi2, hi3, hi4, hi5, l4, k6, c7, c10, a16a, a16b, a16c, a16d]
  · try subst ea8_w0
    have l4 := es_api_Member_ld hx
    obtain ⟨y5, k6, hB⟩ := kb_inv hB
    replace k6 := run_ref01_Has k6
    try simp only [Int.cast_ofNat_Int, Int.natCast_zero, List.length_cons, List.length_nil, List.nil_append, List.cons_append, Nat.zero_add, Nat.reduceAdd, Tru.thr_mk, Tru.nodes_mk, Tru.inner_mk, ints_cons, ints_nil, encTs_cons, encTs_nil, es_api_Config_cons, es_api_Config_nil, es_api_Member_cons, es_api_Member_nil] at k6
    try dsimp only at hB
    rcases cnd_inv hB with ⟨c7, hB⟩ | ⟨c7, hB⟩
    · obtain ⟨L8, a9, hB⟩ := kb_inv hB
      obtain ⟨a9z, a9a, a9y⟩ := appK_inv a9
      simp only [List.nil_append] at a9z
      subst a9z
      try dsimp only at hB
      obtain rfl := Option.some.inj hB
      try simp -implicitDefEqProofs [-getElem?_pos, -Int.ofNat_lt, -Int.ofNat_le, -Int.natCast_eq_zero, -Int.natCast_pos, -List.length_eq_zero_iff, List.getElem?_cons_zero, List.getElem?_cons_succ, List.getElem?_nil, q1, q2, q3, q4, q5, q6, q7, q8, hx, hi2, hi3, hi4, hi5, l4, k6, c7]
      refine Res.g ?_
      simp -implicitDefEqProofs [-getElem?_pos, -Int.ofNat_lt, -Int.ofNat_le, -Int.natCast_eq_zero, -Int.natCast_pos, -List.length_eq_zero_iff, List.getElem?_cons_zero, List.getElem?_cons_succ, List.getElem?_nil, and_assoc, I_ref13_Delete_0, ownAt, q1, q2, q3, q4, q5, q6, q7, q8, hx, hi2, hi3, hi4, hi5, l4, k6, c7]
    · rcases cnd_inv hB with ⟨c10, hB⟩ | ⟨c10, hB⟩
      · obtain ⟨y11, k12, hB⟩ := kb_inv hB
        replace k12 := run_ref13_Trust k12
        try simp only [Int.cast_ofNat_Int, Int.natCast_zero, List.length_cons, List.length_nil, List.nil_append, List.cons_append, Nat.zero_add, Nat.reduceAdd, Tru.thr_mk, Tru.nodes_mk, Tru.inner_mk, ints_cons, ints_nil, encTs_cons, encTs_nil, es_api_Config_cons, es_api_Config_nil, es_api_Member_cons, es_api_Member_nil, c7, c10] at k12
        try dsimp only at hB
        obtain ⟨L13, a14, hB⟩ := kb_inv hB
        obtain ⟨a14z, a14a, a14y⟩ := appK_inv a14
        simp only [List.nil_append] at a14z
        subst a14z
        try dsimp only at hB
        obtain rfl := Option.some.inj hB
        try simp -implicitDefEqProofs [-getElem?_pos, -Int.ofNat_lt, -Int.ofNat_le, -Int.natCast_eq_zero, -Int.natCast_pos, -List.length_eq_zero_iff, List.getElem?_cons_zero, List.getElem?_cons_succ, List.getElem?_nil, q1, q2, q3, q4, q5, q6, q7, q8, hx, hi2, hi3, hi4, hi5, l4, k6, c7, c10, k12]
        refine Res.g ?_
        simp -implicitDefEqProofs [-getElem?_pos, -Int.ofNat_lt, -Int.ofNat_le, -Int.natCast_eq_zero, -Int.natCast_pos, -List.length_eq_zero_iff, List.getElem?_cons_zero, List.getElem?_cons_succ, List.getElem?_nil, and_assoc, I_ref13_Delete_0, ownAt, q1, q2, q3, q4, q5, q6, q7, q8, hx, hi2, hi3, hi4, hi5, l4, k6, c7, c10, k12]
      · obtain ⟨L15, a16, hB⟩ := kb_inv hB
        obtain ⟨a16z, a16a, a16y⟩ := appK_inv a16
        simp only [List.nil_append] at a16z
        subst a16z
        try dsimp only at hB
        obtain rfl := Option.some.inj hB
        try simp -implicitDefEqProofs [-getElem?_pos, -Int.ofNat_lt, -Int.ofNat_le, -Int.natCast_eq_zero, -Int.natCast_pos, -List.length_eq_zero_iff, List.getElem?_cons_zero, List.getElem?_cons_succ, List.getElem?_nil, q1, q2, q3, q4, q5, q6, q7, q8, hx, hi2, hi3, hi4, hi5, l4, k6, c7, c10]
        refine Res.g ?_
        simp -implicitDefEqProofs [-getElem?_pos, -Int.ofNat_lt, -Int.ofNat_le, -Int.natCast_eq_zero, -Int.natCast_pos, -List.length_eq_zero_iff, List.getElem?_cons_zero, List.getElem?_cons_succ, List.getElem?_nil, and_assoc, I_ref13_Delete_0, ownAt, q1, q2, q3, q4, q5, q6, q7, q8, hx, hi2, hi3, hi4, hi5, l4, k6, c7, c10]
theorem Pe_ref13_Delete_0 {p1 : Int} {p0 : S_api_Config} {xb3_0_0_0 : (List S_api_Member)} {q : St} (hI : I_ref13_Delete_0 p1 p0 p0.f0.length xb3_0_0_0 q) : Res (C Tryd.prog cf (Code.fst (Code.fst (Code.snd (Code.fst (Code.snd (Code.snd (Code.snd ((Tryd.f26.body).getD .skip)))))))) q) fun e q' => e = .exit 0 ∧ Q_ref13_Delete_0 p1 p0 xb3_0_0_0 q' := by
  simp only [I_ref13_Delete_0] at hI
  obtain ⟨q1, q2, q3, q4, ⟨g6, q5, q6⟩, ⟨g8, v8_w0, q7, q8, a8_w0⟩⟩ := hI
  simp only [Code.fst, Code.snd, Tryd.f26, Option.getD_some]
  rcases a8_w0 with ⟨ga8_w0, rfl, oa8_w0⟩ | ⟨rfl, ea8_w0⟩
  · simp -implicitDefEqProofs [-getElem?_pos, -Int.ofNat_lt, -Int.ofNat_le, -Int.natCast_eq_zero, -Int.natCast_pos, -List.length_eq_zero_iff, List.getElem?_cons_zero, List.getElem?_cons_succ, List.getElem?_nil, q1, q2, q3, q4, q5, q6, q7, q8, oa8_w0]
    refine Res.x ?_
    simp -implicitDefEqProofs [-getElem?_pos, -Int.ofNat_lt, -Int.ofNat_le, -Int.natCast_eq_zero, -Int.natCast_pos, -List.length_eq_zero_iff, List.getElem?_cons_zero, List.getElem?_cons_succ, List.getElem?_nil, and_assoc, Q_ref13_Delete_0, ownAt, q1, q2, q3, q4, q5, q6, q7, q8, oa8_w0]
  · try subst ea8_w0
    simp -implicitDefEqProofs [-getElem?_pos, -Int.ofNat_lt, -Int.ofNat_le, -Int.natCast_eq_zero, -Int.natCast_pos, -List.length_eq_zero_iff, List.getElem?_cons_zero, List.getElem?_cons_succ, List.getElem?_nil, q1, q2, q3, q4, q5, q6, q7, q8]
    refine Res.x ?_
    simp -implicitDefEqProofs [-getElem?_pos, -Int.ofNat_lt, -Int.ofNat_le, -Int.natCast_eq_zero, -Int.natCast_pos, -List.length_eq_zero_iff, List.getElem?_cons_zero, List.getElem?_cons_succ, List.getElem?_nil, and_assoc, Q_ref13_Delete_0, ownAt, q1, q2, q3, q4, q5, q6, q7, q8]
theorem P_ref13_Delete_0 {p1 : Int} {p0 : S_api_Config} {xb3_0_0_0 : (List S_api_Member)} {cc : Code} (hcc : cc = .block 0 (.loop (Code.fst (Code.fst (Code.snd (Code.fst (Code.snd (Code.snd (Code.snd ((Tryd.f26.body).getD .skip)))))))))) {s : St} {z : Option (Ex × St)} (hz : C Tryd.prog cf cc s = z) {r : (List S_api_Member)} (hn : p0.f0.length < 4611686018427387904) (hI : I_ref13_Delete_0 p1 p0 0 xb3_0_0_0 s) (hB : foldO (fun i a x => B_ref13_Delete_0 p1 p0 i a x) 0 xb3_0_0_0 p0.f0 = some r) : Res z (postG (fun a q => Q_ref13_Delete_0 p1 p0 a q) r) := by
  subst hcc
  exact fold_sim (I := fun i a q => I_ref13_Delete_0 p1 p0 i a q) (Q := (fun a q => Q_ref13_Delete_0 p1 p0 a q)) (fun i x a q r hx hi h hB => Pb_ref13_Delete_0 hx hi hn h hB) (fun a q h => Pe_ref13_Delete_0 h) hI hz hB
noncomputable def B_ref13_Delete (p0 : S_api_Config) (p1 : Int) : Option S_api_Config :=
  kb (G_ref01_Valid p1) fun y1 =>
  cnd y1 (
    kb (smallK p0.f0) fun _ =>
    kb (foldO (fun i a x => B_ref13_Delete_0 p1 p0 i a x) 0 ([] : (List S_api_Member)) p0.f0) fun z17 =>
    some (S_api_Config.mk z17)) (
    some p0)
theorem sim_ref13_Delete {p0 : S_api_Config} {p1 : Int} {r : S_api_Config} (hB : B_ref13_Delete p0 p1 = some r) : R 26 [(.agg [(.pv (.sl p0.f0.length (es_api_Member p0.f0)))]), (i64 p1)] [] = some ((.agg [(.pv (.sl r.f0.length (es_api_Member r.f0)))]), [], []) := by
  rw [R_eq _ _ _ fn_ref13_Delete]
  simp only [Code.fst, Code.snd, Tryd.f26, Option.getD_some]
  generalize hc0 : Code.block 0 _ = cc0
  unfold B_ref13_Delete at hB
  obtain ⟨y1, k2, hB⟩ := kb_inv hB
  replace k2 := run_ref01_Valid k2
  try simp only [Int.cast_ofNat_Int, Int.natCast_zero, List.length_cons, List.length_nil, List.nil_append, List.cons_append, Nat.zero_add, Nat.reduceAdd, Tru.thr_mk, Tru.nodes_mk, Tru.inner_mk, ints_cons, ints_nil, encTs_cons, encTs_nil, es_api_Config_cons, es_api_Config_nil, es_api_Member_cons, es_api_Member_nil] at k2
  try dsimp only at hB
  rcases cnd_inv hB with ⟨c3, hB⟩ | ⟨c3, hB⟩
  · try simp -implicitDefEqProofs [-getElem?_pos, -Int.ofNat_lt, -Int.ofNat_le, -Int.natCast_eq_zero, -Int.natCast_pos, -List.length_eq_zero_iff, List.getElem?_cons_zero, List.getElem?_cons_succ, List.getElem?_nil, k2, c3]
    generalize hz0 : C Tryd.prog cf cc0 _ = z0
    obtain ⟨_, hsm, hB⟩ := kb_inv hB
    obtain ⟨z17, hB1, hB⟩ := kb_inv hB
    have hJ := P_ref13_Delete_0 (hc0.symm.trans (by kernel_rfl)) hz0 (smallK_inv hsm) (by simp -implicitDefEqProofs [-getElem?_pos, -Int.ofNat_lt, -Int.ofNat_le, -Int.natCast_eq_zero, -Int.natCast_pos, -List.length_eq_zero_iff, List.getElem?_cons_zero, List.getElem?_cons_succ, List.getElem?_nil, and_assoc, I_ref13_Delete_0, ownAt, k2, c3]) hB1
    obtain ⟨e0, s0, rfl, hq⟩ := hJ.open
    clear hB1
    obtain ⟨rfl, hq⟩ := hq
    simp only [Q_ref13_Delete_0] at hq
    obtain ⟨⟨g17_2, q17_1, q17_2⟩, ⟨g17_4, v17_4_w0, q17_3, q17_4, a17_4_w0⟩⟩ := hq
    rcases a17_4_w0 with ⟨ga17_4_w0, rfl, oa17_4_w0⟩ | ⟨rfl, ea17_4_w0⟩
    · obtain rfl := Option.some.inj hB
      simp -implicitDefEqProofs [-getElem?_pos, -Int.ofNat_lt, -Int.ofNat_le, -Int.natCast_eq_zero, -Int.natCast_pos, -List.length_eq_zero_iff, List.getElem?_cons_zero, List.getElem?_cons_succ, List.getElem?_nil, q17_1, q17_2, q17_3, q17_4, oa17_4_w0, k2, c3]
    · try subst ea17_4_w0
      obtain rfl := Option.some.inj hB
      simp -implicitDefEqProofs [-getElem?_pos, -Int.ofNat_lt, -Int.ofNat_le, -Int.natCast_eq_zero, -Int.natCast_pos, -List.length_eq_zero_iff, List.getElem?_cons_zero, List.getElem?_cons_succ, List.getElem?_nil, q17_1, q17_2, q17_3, q17_4, k2, c3]
  · obtain rfl := Option.some.inj hB
    simp -implicitDefEqProofs [-getElem?_pos, -Int.ofNat_lt, -Int.ofNat_le, -Int.natCast_eq_zero, -Int.natCast_pos, -List.length_eq_zero_iff, List.getElem?_cons_zero, List.getElem?_cons_succ, List.getElem?_nil, k2, c3]
theorem g_ref13_Delete {p0 : S_api_Config} {p1 : Int} {r : S_api_Config} (hB : B_ref13_Delete p0 p1 = some r) : G_ref13_Delete p0 p1 = some r := dec_of (fun a b h => by rcases a with ⟨a0_0⟩; rcases b with ⟨b0_0⟩; simp at h; simp [*]) (sim_ref13_Delete hB)
end Go.Am

/-
Plain laws: how large a trust or a configuration is; the reference of deletion.
-/
namespace Go.Am
open Go
set_option linter.unusedVariables false
set_option linter.unusedSimpArgs false

/-- a loop over a list that comes through -/
theorem loopL_go {A X R : Type} {f : Nat → A → X → Option (Stp A R)} (P : A → Prop) : ∀ (l : List X) (i : Nat) (a : A),
    (∀ (j : Nat) (a : A), ∀ x ∈ l, P a → ∃ a', f j a x = some (.go a') ∧ P a') → P a → ∃ a', loopL f i a l = some (.go a') ∧ P a'
  | [], i, a, _, h => ⟨a, rfl, h⟩
  | x :: r, i, a, hf, h => by
    obtain ⟨a', h1, h2⟩ := hf i a x (by simp) h
    obtain ⟨a'', h3, h4⟩ := loopL_go P r (i + 1) a' (fun j a y hy => hf j a y (by simp [hy])) h2
    refine ⟨a'', ?_, h4⟩
    show kb (f i a x) _ = _
    rw [h1, kb_some]
    exact h3

/-! ### small trusts -/
/-- entries of the first trusts of a list -/
def ent (l : List Tru) (j : Nat) : Nat := sizes (l.take j) + j
theorem ent_succ {l : List Tru} {j : Nat} {x : Tru} (h : l[j]? = some x) : ent l (j + 1) = ent l j + 1 + x.size := by
  unfold ent
  rw [List.take_add_one, h, sizes_app]
  simp [sizes]; omega
theorem s_entries : ∀ x : Tru, x.Slim → ∀ n : Int, 0 ≤ n → n ≤ 400 → ∃ r, G_make_entries x n = some r ∧ (0 ≤ r ∧ r ≤ 17592186044817) ∧ (r ≤ 400 → r = n + 1 + (x.size : Int)) := by
  refine tru_ind fun t l i ih h n h0 h4 => ?_
  obtain ⟨hn, hi, hs⟩ := h
  rw [Slims_iff] at hs
  have e1 : add64 n (add64 1 ((Tru.mk t l i).nodes.length : Int)) = n + 1 + l.length := by
    rw [Tru.nodes_mk, add64_of (a := 1) (by omega) (by omega), add64_of (by omega) (by omega)]; omega
  have hloop := iterW_spec (A := Int × Int) (R := Unit) (f := fun a => B_make_entries_1 (.mk t l i) a.1 a.2)
    (fun k a => (0 ≤ a.2 ∧ a.2 ≤ i.length ∧ k = i.length - a.2.toNat) ∧ (0 ≤ a.1 ∧ a.1 ≤ 17592186044817) ∧ (a.1 ≤ 400 → a.1 = n + 1 + l.length + (ent i a.2.toNat : Int)))
    (fun x => ∃ a : Int × Int, x = .go a ∧ (0 ≤ a.1 ∧ a.1 ≤ 17592186044817) ∧ (a.1 ≤ 400 → a.1 = n + 1 + l.length + (ent i i.length : Int))) (by
      rintro k ⟨a, j⟩ ⟨⟨hj0, hj1, hk⟩, ha, hr⟩
      dsimp only at hj0 hj1 hk ha hr
      have h0 : B_make_entries_0 (.mk t l i) a j = some (decide (j < (i.length : Int)) && decide (a ≤ 400)) := by
        unfold B_make_entries_0
        rw [Tru.inner_mk]
        by_cases c : j < (i.length : Int) <;> simp [c, cnd]
      by_cases c : j < (i.length : Int) ∧ a ≤ 400
      · left
        have hlt : j.toNat < i.length := by omega
        obtain ⟨r, g1, g2, g3⟩ := ih i[j.toNat] (List.getElem_mem _) (hs _ (List.getElem_mem _)) a ha.1 c.2
        refine ⟨(r, j + 1), i.length - (j + 1).toNat, ?_, by omega, ⟨by show 0 ≤ j + 1; omega, by show j + 1 ≤ _; omega, rfl⟩, g2, ?_⟩
        · unfold B_make_entries_1
          rw [h0, kb_some]
          simp only [c.1, c.2, decide_true, Bool.and_self, cnd_true, Tru.inner_mk]
          rw [getI_some hj0 hlt, kb_some, g1, kb_some, add64_of (by omega) (by omega)]
        · intro hle
          dsimp only at hle ⊢
          have e := g3 hle
          have e2 := hr c.2
          have e3 := ent_succ (l := i) (j := j.toNat) (x := i[j.toNat]) (by simp [hlt])
          rw [show (j + 1).toNat = j.toNat + 1 by omega, e3, e, e2]
          omega
      · right; left
        refine ⟨0, (a, j), ?_, (a, j), rfl, ha, ?_⟩
        · unfold B_make_entries_1
          have : (decide (j < (i.length : Int)) && decide (a ≤ 400)) = false := by
            rw [← Bool.not_eq_true, Bool.and_eq_true, decide_eq_true_eq, decide_eq_true_eq]; exact c
          rw [h0, kb_some, this, cnd_false]
        · intro hle
          dsimp only at hle ⊢
          have : j.toNat = i.length := by omega
          rw [← this]; exact hr hle) i.length (n + 1 + l.length, 0) ⟨⟨by simp, by simp, by simp⟩, ⟨by show 0 ≤ n + 1 + (l.length : Int); omega, by show n + 1 + (l.length : Int) ≤ _; omega⟩, fun _ => by simp [ent, sizes]⟩
  obtain ⟨_, e2, a, rfl, e3, e4⟩ := hloop
  refine ⟨a.1, g_make_entries ?_, e3, fun hle => ?_⟩
  · unfold B_make_entries
    rw [e1, e2, kb_some, stpK_go]
  · rw [e4 hle, size_mk, ent, List.take_length]
    omega
theorem s_SmallTrust {x : Tru} (h : x.Slim) : ∃ b, G_make_SmallTrust x = some b ∧ (b = true → x.size ≤ 399) := by
  obtain ⟨r, e, h1, h2⟩ := s_entries x h 0 (by omega) (by omega)
  refine ⟨decide (r ≤ 400), g_make_SmallTrust ?_, fun hb => ?_⟩
  · unfold B_make_SmallTrust
    rw [e, kb_some]
  · have := of_decide_eq_true hb
    have := h2 this
    omega
theorem s_SmallConfig {c : Conf} (h : ∀ m ∈ c.f0, m.f1.Slim) : ∃ b, G_make_SmallConfig c = some b ∧ (b = true → c.f0.length ≤ 30 ∧ ∀ m ∈ c.f0, m.f1.size ≤ 399) := by
  obtain ⟨l⟩ := c
  dsimp only at h ⊢
  by_cases hl : 30 < (l.length : Int)
  · refine ⟨false, g_make_SmallConfig ?_, fun hb => by cases hb⟩
    unfold B_make_SmallConfig
    simp only [hl, decide_true, cnd_true]
  have hloop := iterW_spec (A := Int × Int) (R := Unit) (f := fun a => B_make_SmallConfig_1 ⟨l⟩ a.1 a.2)
    (fun k a => (0 ≤ a.2 ∧ a.2 ≤ l.length ∧ k = l.length - a.2.toNat) ∧ (0 ≤ a.1 ∧ a.1 ≤ 17592186044817) ∧ (a.1 ≤ 400 → ∀ (q : Nat) m, (q : Int) < a.2 → l[q]? = some m → m.f1.size ≤ 399))
    (fun x => ∃ a : Int × Int, x = .go a ∧ (a.1 ≤ 400 → ∀ (q : Nat) m, l[q]? = some m → m.f1.size ≤ 399)) (by
      rintro k ⟨a, j⟩ ⟨⟨hj0, hj1, hk⟩, ha, hr⟩
      dsimp only at hj0 hj1 hk ha hr
      have h0 : B_make_SmallConfig_0 ⟨l⟩ a j = some (decide (j < (l.length : Int)) && decide (a ≤ 400)) := by
        unfold B_make_SmallConfig_0
        by_cases c : j < (l.length : Int) <;> simp [c, cnd]
      by_cases c : j < (l.length : Int) ∧ a ≤ 400
      · left
        have hlt : j.toNat < l.length := by omega
        obtain ⟨r, g1, g2, g3⟩ := s_entries (l[j.toNat]).f1 (h _ (List.getElem_mem _)) a ha.1 c.2
        refine ⟨(r, j + 1), l.length - (j + 1).toNat, ?_, by omega, ⟨by show 0 ≤ j + 1; omega, by show j + 1 ≤ _; omega, rfl⟩, g2, ?_⟩
        · unfold B_make_SmallConfig_1
          rw [h0, kb_some]
          simp only [c.1, c.2, decide_true, Bool.and_self, cnd_true]
          rw [getI_some hj0 hlt, kb_some, g1, kb_some, add64_of (by omega) (by omega)]
        · intro hle q m hq hm
          dsimp only at hle hq
          have e := g3 hle
          by_cases hqj : (q : Int) < j
          · exact hr c.2 q m hqj hm
          · obtain rfl : q = j.toNat := by omega
            rw [List.getElem?_eq_getElem hlt] at hm
            cases hm
            omega
      · right; left
        refine ⟨0, (a, j), ?_, (a, j), rfl, ?_⟩
        · unfold B_make_SmallConfig_1
          have : (decide (j < (l.length : Int)) && decide (a ≤ 400)) = false := by
            rw [← Bool.not_eq_true, Bool.and_eq_true, decide_eq_true_eq, decide_eq_true_eq]; exact c
          rw [h0, kb_some, this, cnd_false]
        · intro hle q m hm
          have := (List.getElem?_eq_some_iff.1 hm).1
          exact hr hle q m (by omega) hm) l.length (0, 0) ⟨⟨by simp, by simp, by simp⟩, by simp, fun _ q m hq => by simp at hq; omega⟩
  obtain ⟨_, e2, a, rfl, e3⟩ := hloop
  refine ⟨decide (a.1 ≤ 400), g_make_SmallConfig ?_, fun hb => ⟨by omega, fun m hm => ?_⟩⟩
  · unfold B_make_SmallConfig
    simp only [hl, decide_false, cnd_false]
    rw [e2, kb_some, stpK_go]
  · obtain ⟨q, hq, rfl⟩ := List.mem_iff_getElem.1 hm
    exact e3 (of_decide_eq_true hb) q _ (by simp [hq])

/-! ### the reference of deletion -/
theorem s_lower {a : Int} (h : a ≤ 9223372036854775807) : ∃ b, G_ref13_lower a = some b ∧ max b 0 = max (max a 0 - 1) 0 ∧ b ≤ a := by
  by_cases c : a ≤ 0
  · exact ⟨a, g_ref13_lower (by unfold B_ref13_lower; simp [c, cnd]), by omega, by omega⟩
  · refine ⟨a - 1, g_ref13_lower ?_, by omega, by omega⟩
    unfold B_ref13_lower
    simp only [c, decide_false, cnd_false]
    rw [sub64_of (by omega) (by omega)]
theorem s_less (s : Int) : ∀ x : Tru, x.Fine → ∃ y, G_ref13_less x s = some y ∧ max y.thr 0 = (lvT s x).thr ∧ y.nodes = (lvT s x).nodes ∧ y.inner = (lvT s x).inner := by
  refine tru_ind fun t n i ih h => ?_
  have hl := Fine_len h
  have ho := (Ok_eq _).1 h.2
  simp only [Tru.nodes_mk, Tru.inner_mk, Tru.thr_mk, in64] at hl ho
  obtain ⟨⟨b, on⟩, e1, p1⟩ := foldO_inv (f := fun j (a : Int × List Int) x => B_ref13_less_0 (.mk t n i) s j a.1 a.2 x)
    (fun j a => (max a.1 0 = max (max t 0 - ((n.take j).countP (hasS s) : Nat)) 0 ∧ a.1 ≤ t) ∧ a.2 = (n.take j).filter fun k => !hasS s k) n 0 (t, []) (by
    rintro j ⟨a, o⟩ x hj ⟨⟨hp1, hp2⟩, hp3⟩
    have hjl := (List.getElem?_eq_some_iff.1 hj).1
    have htk : n.take (j + 1) = n.take j ++ [x] := by rw [List.take_add_one, hj]; rfl
    simp only [Nat.zero_add] at hp1 hp2 hp3 ⊢
    rw [htk, List.countP_append, List.filter_append]
    unfold B_ref13_less_0
    rw [s_ref01_Has, kb_some]
    have hol : o.length ≤ j := by rw [hp3]; refine Nat.le_trans (List.length_filter_le _ _) ?_; simp; omega
    cases hc : hasS s x
    · refine ⟨(a, o ++ [x]), ?_, ?_⟩
      · simp only [cnd_false]
        rw [appK_some (by simp; omega), kb_some]
      · simp [hc, hp1, hp2, hp3]
    · obtain ⟨b, g1, g2, g3⟩ := s_lower (a := a) (by omega)
      refine ⟨(b, o), ?_, ?_⟩
      · simp only [cnd_true]
        rw [g1, kb_some]
      · simp only [hc, hp3]
        refine ⟨⟨?_, by omega⟩, by simp [hc]⟩
        rw [g2, hp1]; simp [hc]; omega) ⟨⟨by simp, by simp⟩, by simp⟩
  simp only [Nat.zero_add, List.take_length] at p1
  obtain ⟨⟨p2, p3⟩, p4⟩ := p1
  obtain ⟨⟨d, oi⟩, e2, q1⟩ := foldO_inv (f := fun j (a : Int × List Tru) x => B_ref13_less_1 on s (.mk t n i) j a.1 a.2 x)
    (fun j a => (max a.1 0 = max (max b 0 - (((i.take j).map (lvT s)).countP (fun y => decide (y.thr = 0)) : Nat)) 0 ∧ a.1 ≤ t) ∧ a.2 = ((i.take j).map (lvT s)).filter fun y => !decide (y.thr = 0)) i 0 (b, []) (by
    rintro j ⟨a, o⟩ x hj ⟨⟨hp1, hp2⟩, hp3⟩
    have hjl := (List.getElem?_eq_some_iff.1 hj).1
    have hx : x ∈ i := List.mem_of_getElem? hj
    have htk : i.take (j + 1) = i.take j ++ [x] := by rw [List.take_add_one, hj]; rfl
    simp only [Nat.zero_add] at hp1 hp2 hp3 ⊢
    rw [htk, List.map_append, List.countP_append, List.filter_append]
    have hol : o.length ≤ j := by rw [hp3]; refine Nat.le_trans (List.length_filter_le _ _) ?_; simp; omega
    obtain ⟨y, g1, g2, g3, g4⟩ := ih x hx (Fine_inner h hx)
    unfold B_ref13_less_1
    rw [g1, kb_some]
    by_cases hc : y.thr ≤ 0
    · have h0 : (lvT s x).thr = 0 := by omega
      obtain ⟨b', k1, k2, k3⟩ := s_lower (a := a) (by omega)
      refine ⟨(b', o), ?_, ?_⟩
      · simp only [hc, decide_true, cnd_true]
        rw [k1, kb_some]
      · refine ⟨⟨?_, by show b' ≤ t; omega⟩, by simp [h0, hp3]⟩
        show max b' 0 = _
        rw [k2, hp1]; simp [h0]; omega
    · have h0 : (lvT s x).thr ≠ 0 := by omega
      have hy : y = lvT s x := by
        rw [← Tru.eta y, ← Tru.eta (lvT s x), g3, g4]
        congr 1; omega
      refine ⟨(a, o ++ [y]), ?_, ?_⟩
      · simp only [hc, decide_false, cnd_false]
        rw [appK_some (by simp; omega), kb_some]
      · subst hy
        simp [h0, hp1, hp2, hp3]) ⟨⟨by simp, p3⟩, by simp⟩
  simp only [Nat.zero_add, List.take_length] at q1
  obtain ⟨⟨q2, q3⟩, q4⟩ := q1
  refine ⟨.mk d on oi, g_ref13_less ?_, ?_, ?_, ?_⟩
  · unfold B_ref13_less
    simp only [Tru.nodes_mk, Tru.inner_mk, Tru.thr_mk]
    rw [smallK_some (by omega), kb_some, e1, kb_some, smallK_some (by omega), kb_some]
    dsimp only
    rw [e2, kb_some]
  · simp only [lvT, lvTs_eq, Tru.thr_mk]
    rw [q2, p2]; omega
  · simp only [lvT, lvTs_eq, Tru.nodes_mk]; exact p4
  · simp only [lvT, lvTs_eq, Tru.inner_mk]; exact q4
theorem s_ref13_Trust (s k : Int) {x : Tru} (h : x.Fine) : G_ref13_Trust x k s = some (delT s k x) := by
  refine g_ref13_Trust ?_
  unfold B_ref13_Trust delT
  rw [s_ref01_Valid, kb_some]
  cases hs : setB s
  · simp only [cnd_false, Bool.false_eq_true, if_false]
  · obtain ⟨y, g1, g2, g3, g4⟩ := s_less s x h
    simp only [cnd_true, g1, kb_some, if_true]
    by_cases c : y.thr ≤ 0
    · have h0 : (lvT s x).thr = 0 := by omega
      simp [c, h0, cnd_true]
    · have h0 : (lvT s x).thr ≠ 0 := by omega
      have hy : y = lvT s x := by
        rw [← Tru.eta y, ← Tru.eta (lvT s x), g3, g4]
        congr 1; omega
      simp only [c, h0, decide_false, cnd_false, if_false]
      rw [hy]
theorem has_bad {s : Int} (h : setB s = false) (k : Int) : hasS s k = false := by simp [hasS, h]
theorem s_ref13_Delete (s : Int) (c : Conf) (hc : c.Fine) : G_ref13_Delete c s = some (delC s c) := by
  refine g_ref13_Delete ?_
  obtain ⟨hl, hm⟩ := hc
  unfold B_ref13_Delete
  rw [s_ref01_Valid, kb_some]
  cases hs : setB s
  · rw [cnd_false]
    have e : delM s = fun (_ : Nat) (m : Mem) => m := by
      funext i m
      unfold delM
      rw [has_bad hs]
      obtain ⟨f, t⟩ := m
      cases f <;> simp [delT, hs]
    unfold delC
    rw [e]
    have : c.f0.mapIdx (fun (_ : Nat) (m : Mem) => m) = c.f0 := by
      apply List.ext_getElem <;> simp
    rw [this]
  · rw [cnd_true, smallK_some (by omega), kb_some]
    obtain ⟨z, hz, hp⟩ := foldO_inv (f := fun i a x => B_ref13_Delete_0 s c i a x) (fun j a => a = (c.f0.take j).mapIdx (delM s)) c.f0 0 [] (by
      intro j a x hj hp
      simp only [Nat.zero_add] at hp ⊢
      have hjl := (List.getElem?_eq_some_iff.1 hj).1
      have hal : a.length = j := by rw [hp]; simp; omega
      have htk : c.f0.take (j + 1) = c.f0.take j ++ [x] := by rw [List.take_add_one, hj]; rfl
      have hlen : (c.f0.take j).length = j := by simp; omega
      refine ⟨a ++ [delM s j x], ?_, ?_⟩
      · unfold B_ref13_Delete_0 delM
        rw [s_ref01_Has, kb_some]
        cases c1 : hasS s (j : Int)
        · simp only [cnd_false, Bool.false_eq_true, if_false]
          cases c2 : x.f0
          · simp only [cnd_false, Bool.false_eq_true, if_false]
            rw [appK_some (by simp; omega), kb_some]
          · simp only [cnd_true, if_true]
            rw [s_ref13_Trust _ _ (hm x (List.mem_of_getElem? hj)), kb_some, appK_some (by simp; omega), kb_some]
        · simp only [cnd_true, if_true]
          rw [appK_some (by simp; omega), kb_some]
          rfl
      · rw [htk, List.mapIdx_append, hlen, ← hp]
        simp) (by simp)
    rw [hz, kb_some, hp, delC]
    simp
end Go.Am

/-
Plain laws: configurations that are made.
-/
namespace Go.Am
open Go
set_option linter.unusedVariables false
set_option linter.unusedSimpArgs false

theorem bel_fine_one {v n : Int} (t : Int) (ht : in64 t) (hv : 0 ≤ v ∧ v < n) (hn : n ≤ 10) : (Tru.mk t [v] []).Fine ∧ belT n (.mk t [v] []) := by
  refine ⟨⟨by rw [size_mk]; simp [sizes], ht, fun k hk => by obtain rfl := List.mem_singleton.1 hk; unfold in64; omega, trivial⟩, fun k hk => by obtain rfl := List.mem_singleton.1 hk; exact hv, trivial⟩
/-- a flat trust with nodes that ascend -/
theorem flat_ok {t : Int} {l : List Int} {n : Int} (hn : n ≤ 10) (h1 : 1 ≤ t) (h2 : t ≤ (l.length : Int)) (hl : l.length ≤ 10) (hm : ∀ k ∈ l, 0 ≤ k ∧ k < n) (hd : l.Nodup) : good (.mk t l []) = true ∧ (Tru.mk t l []).Fine ∧ belT n (.mk t l []) := by
  refine ⟨?_, ⟨by rw [size_mk]; simp [sizes]; omega, by unfold in64; omega, fun k hk => by have := hm k hk; unfold in64; omega, trivial⟩, hm, trivial⟩
  have hb : badA l = false := by
    unfold badA
    rw [List.any_eq_false]
    intro k hk
    have := hm k hk
    simp [badN]; omega
  simp [good, goods, hb, hd]
  omega
theorem valB_flat {t : Int} {l : List Int} (h : good (.mk t l []) = true) (hl : l.length ≤ 10) : valB (.mk t l []) = true := by
  have hd : dep (.mk t l []) = 1 := rfl
  have hs : (Tru.mk t l []).size = l.length + (0 + 0) := rfl
  unfold valB
  rw [h, hd, hs]
  simp; omega
/-- ascending lists -/
def Asc (l : List Int) (b : Int) : Prop := l.Nodup ∧ ∀ k ∈ l, 0 ≤ k ∧ k < b
theorem Asc_app {l : List Int} {b c : Int} (h : Asc l b) (h0 : 0 ≤ b) (hc : b < c) : Asc (l ++ [b]) c := by
  refine ⟨?_, ?_⟩
  · rw [List.nodup_append]
    refine ⟨h.1, by simp, ?_⟩
    intro a ha c hc
    obtain rfl := List.mem_singleton.1 hc
    have := h.2 a ha
    omega
  · intro k hk
    rcases List.mem_append.1 hk with hk | hk
    · have := h.2 k hk; omega
    · obtain rfl := List.mem_singleton.1 hk; omega
theorem s_most (m : Int) (h1 : 1 ≤ m) (h2 : m ≤ 10) (t : Tape) (ht : Tp t) : ∃ x t', G_make_most t m = some (x, t') ∧ (valB x = true ∧ x.Fine ∧ belT m x) ∧ Tp t' := by
  have hloop := iterW_spec (A := List Int × Int × List Int × Int) (R := Unit) (f := fun a => B_make_most_0 m a.1 a.2.1 a.2.2.1 a.2.2.2)
    (fun k a => (0 ≤ a.2.2.2 ∧ a.2.2.2 ≤ m ∧ k = (m - a.2.2.2).toNat) ∧ ((a.2.2.1.length : Int) ≤ a.2.2.2 ∧ Asc a.2.2.1 a.2.2.2) ∧ Tp ⟨a.1, a.2.1⟩)
    (fun x => ∃ a : List Int × Int × List Int × Int, x = .go a ∧ ((a.2.2.1.length : Int) ≤ m ∧ Asc a.2.2.1 m) ∧ Tp ⟨a.1, a.2.1⟩)
    (by
      rintro k ⟨tl, ta, l, i⟩ ⟨⟨hi, hin, hk⟩, ⟨hl, hm⟩, htp⟩
      dsimp only at hi hin hk hl hm htp
      by_cases c : i < m
      · left
        obtain ⟨v, t', g1, gv, gt⟩ := s_N htp (n := 10) (by omega) (by omega)
        have ei : add64 i 1 = i + 1 := add64_of (by omega) (by omega)
        by_cases c2 : v < 9
        · refine ⟨(t'.f0, t'.f1, l ++ [i], i + 1), (m - (i + 1)).toNat, ?_, by omega, ⟨by show 0 ≤ i + 1; omega, by show i + 1 ≤ m; omega, rfl⟩, ⟨by simp; omega, Asc_app hm hi (by show i < i + 1; omega)⟩, gt⟩
          simp only [B_make_most_0, c, decide_true, cnd_true, g1, kb_some, c2]
          rw [appK_some (by simp; omega), kb_some, ei]
        · refine ⟨(t'.f0, t'.f1, l, i + 1), (m - (i + 1)).toNat, ?_, by omega, ⟨by show 0 ≤ i + 1; omega, by show i + 1 ≤ m; omega, rfl⟩, ⟨by dsimp only; omega, hm.1, fun k hk => by have := hm.2 k hk; dsimp only; omega⟩, gt⟩
          simp only [B_make_most_0, c, decide_true, cnd_true, g1, kb_some, c2, decide_false, cnd_false, ei]
      · right; left
        have e : i = m := by omega
        refine ⟨0, (tl, ta, l, i), ?_, (tl, ta, l, i), rfl, ⟨by dsimp only; omega, by rw [← e]; exact hm⟩, htp⟩
        simp only [B_make_most_0, c, decide_false, cnd_false]) (m - 0).toNat (t.f0, t.f1, [], 0) ⟨⟨by simp, by simpa using (by omega : 0 ≤ m), by simp⟩, ⟨by simp, by simp [Asc]⟩, ht⟩
  obtain ⟨_, e1, ⟨tl, ta, l, i⟩, rfl, ⟨hl, hm⟩, htp⟩ := hloop
  dsimp only at hl hm htp
  obtain ⟨v, t3, e3, hv, ht3⟩ := s_Pick htp (l := [0, 0, 0, 1, -1]) (by simp) (by simp)
  have hv2 : -1 ≤ v ∧ v ≤ 1 := by simp at hv; omega
  have key : ∀ (L : Nat), 1 ≤ L → L ≤ 10 → let q := add64 (IntKind.wrap .i64 ((add64 (mul64 2 (L : Int)) 2).tdiv 3)) v; 1 ≤ (if (if 1 < q then q else 1) < (L : Int) then (if 1 < q then q else 1) else (L : Int)) ∧ (if (if 1 < q then q else 1) < (L : Int) then (if 1 < q then q else 1) else (L : Int)) ≤ (L : Int) := by
    intro L hL1 hL2
    dsimp only
    generalize add64 (IntKind.wrap .i64 ((add64 (mul64 2 (L : Int)) 2).tdiv 3)) v = q
    constructor
    · split
      · split <;> omega
      · omega
    · split
      · omega
      · omega
  by_cases c : (l.length : Int) = 0
  · have k := key 1 (by omega) (by omega)
    have hg := flat_ok (t := _) (l := [0]) (n := m) h2 k.1 k.2 (by simp) (fun k hk => by obtain rfl := List.mem_singleton.1 hk; omega) (by simp)
    refine ⟨_, t3, g_make_most ?_, ⟨valB_flat hg.1 (by simp), hg.2.1, hg.2.2⟩, ht3⟩
    unfold B_make_most
    rw [e1, kb_some]
    simp only [stpK_go, c, decide_true, cnd_true, e3, kb_some]
    rfl
  · have k := key l.length (by omega) (by omega)
    have hg := flat_ok (t := _) (l := l) (n := m) h2 k.1 k.2 (by omega) hm.2 hm.1
    refine ⟨_, t3, g_make_most ?_, ⟨valB_flat hg.1 (by omega), hg.2.1, hg.2.2⟩, ht3⟩
    unfold B_make_most
    rw [e1, kb_some]
    simp only [stpK_go, c, decide_false, cnd_false, e3, kb_some]
/-- a part of a group -/
structure Grp (m : Int) (l : List Tru) : Prop where
  all : ∀ x ∈ l, good x = true ∧ x.Fine ∧ belT m x ∧ dep x = 1 ∧ x.size ≤ 10
theorem s_group0 (p : List Int) (q p1 p2 : Int) (l7 : List Tru) (p8 : Int) (h2 : p1 ≤ 10) (h8 : 0 ≤ p8 ∧ p8 ≤ 3) : ∃ a : List Int × Int, iterW (fun a => B_make_group_0 p q p1 p2 l7 p8 a.1 a.2) ([], p8) = some (.go a) ∧ a.1.length ≤ 4 ∧ Asc a.1 (max p1 0) := by
  have hloop := iterW_spec (A := List Int × Int) (R := Unit) (f := fun a => B_make_group_0 p q p1 p2 l7 p8 a.1 a.2)
    (fun k a => (0 ≤ a.2 ∧ a.2 ≤ 12 ∧ k = (20 - a.2).toNat) ∧ ((a.1.length : Int) * 3 ≤ a.2 - p8 ∧ Asc a.1 (max p1 0) ∧ ∀ x ∈ a.1, x < a.2))
    (fun x => ∃ a : List Int × Int, x = .go a ∧ a.1.length ≤ 4 ∧ Asc a.1 (max p1 0))
    (by
      rintro k ⟨l, i⟩ ⟨⟨hi, hin, hk⟩, hl, hm, hb⟩
      dsimp only at hi hin hk hl hm hb
      by_cases c : i < p1
      · left
        refine ⟨(l ++ [i], i + 3), (20 - (i + 3)).toNat, ?_, by omega, ⟨by show 0 ≤ i + 3; omega, by show i + 3 ≤ 12; omega, rfl⟩, by simp; omega, ⟨?_, ?_⟩, ?_⟩
        · simp only [B_make_group_0, c, decide_true, cnd_true]
          rw [appK_some (by simp; omega), kb_some, add64_of (by omega) (by omega)]
        · rw [List.nodup_append]
          refine ⟨hm.1, by simp, ?_⟩
          intro a ha c hc
          obtain rfl := List.mem_singleton.1 hc
          have := hb a ha
          omega
        · intro k hk
          rcases List.mem_append.1 hk with hk | hk
          · exact hm.2 k hk
          · obtain rfl := List.mem_singleton.1 hk; omega
        · intro k hk
          dsimp only
          rcases List.mem_append.1 hk with hk | hk
          · have := hb k hk; omega
          · obtain rfl := List.mem_singleton.1 hk; omega
      · right; left
        refine ⟨2, (l, i), ?_, (l, i), rfl, by dsimp only; omega, hm⟩
        simp only [B_make_group_0, c, decide_false, cnd_false]) (20 - p8).toNat ([], p8) ⟨⟨h8.1, by dsimp only; omega, rfl⟩, by simp, by simp [Asc], by simp⟩
  obtain ⟨_, e1, ⟨l, i⟩, rfl, hl, hm⟩ := hloop
  exact ⟨(l, i), e1, hl, hm⟩
theorem s_group (p1 p2 : Int) (h1 : 1 ≤ p1) (h2 : p1 ≤ 10) (h3 : 0 ≤ p2) (t : Tape) (ht : Tp t) : ∃ x t', G_make_group t p1 p2 = some (x, t') ∧ (valB x = true ∧ x.Fine ∧ belT p1 x) ∧ Tp t' := by
  have hloop := iterW_spec (A := List Int × Int × List Tru × Int) (R := Unit) (f := fun a => B_make_group_1 p1 p2 a.1 a.2.1 a.2.2.1 a.2.2.2)
    (fun k a => (0 ≤ a.2.2.2 ∧ a.2.2.2 ≤ 3 ∧ k = (3 - a.2.2.2).toNat) ∧ ((a.2.2.1.length : Int) ≤ a.2.2.2 ∧ (1 ≤ a.2.2.2 → 1 ≤ a.2.2.1.length) ∧ ∀ x ∈ a.2.2.1, good x = true ∧ x.Fine ∧ belT p1 x ∧ dep x = 1 ∧ x.size ≤ 4) ∧ Tp ⟨a.1, a.2.1⟩)
    (fun x => ∃ a : List Int × Int × List Tru × Int, x = .go a ∧ (a.2.2.1.length ≤ 3 ∧ 1 ≤ a.2.2.1.length ∧ ∀ x ∈ a.2.2.1, good x = true ∧ x.Fine ∧ belT p1 x ∧ dep x = 1 ∧ x.size ≤ 4) ∧ Tp ⟨a.1, a.2.1⟩)
    (by
      rintro k ⟨tl, ta, l, i⟩ ⟨⟨hi, hin, hk⟩, ⟨hl, hl1, hm⟩, htp⟩
      dsimp only at hi hin hk hl hl1 hm htp
      by_cases c : i < 3
      · left
        have ei : add64 i 1 = i + 1 := add64_of (by omega) (by omega)
        obtain ⟨⟨z, j⟩, ez, hz, ha⟩ := s_group0 tl ta p1 p2 l i h2 ⟨hi, by omega⟩
        dsimp only at hz ha
        have hz1 : i = 0 → 1 ≤ z.length := by
          rintro rfl
          have e0 : B_make_group_0 tl ta p1 p2 l 0 [] 0 = some (.go ([0], 3)) := by
            unfold B_make_group_0
            rw [show decide ((0 : Int) < p1) = true by simp; omega, cnd_true, appK_some (by simp), kb_some]
            rfl
          have := iterW_go (f := fun a : List Int × Int => B_make_group_0 tl ta p1 p2 l 0 a.1 a.2) (a := ([], 0)) (a' := ([0], 3)) (R := Unit) e0
          rw [this] at ez
          have hmono := iterW_spec (A := List Int × Int) (R := Unit) (f := fun a => B_make_group_0 tl ta p1 p2 l 0 a.1 a.2)
            (fun k a => (3 ≤ a.2 ∧ a.2 ≤ 12 ∧ k = (20 - a.2).toNat) ∧ (a.1.length : Int) * 3 ≤ a.2 ∧ 1 ≤ a.1.length)
            (fun x => ∃ a : List Int × Int, x = .go a ∧ 1 ≤ a.1.length)
            (by
              rintro k ⟨l', i'⟩ ⟨⟨hi, hin, hk⟩, hl, hb⟩
              dsimp only at hi hin hk hl hb
              by_cases c : i' < p1
              · left
                refine ⟨(l' ++ [i'], i' + 3), (20 - (i' + 3)).toNat, ?_, by omega, ⟨by dsimp only; omega, by dsimp only; omega, rfl⟩, by simp; omega, by simp⟩
                simp only [B_make_group_0, c, decide_true, cnd_true]
                rw [appK_some (by simp; omega), kb_some, add64_of (by omega) (by omega)]
              · right; left
                refine ⟨2, (l', i'), ?_, (l', i'), rfl, hb⟩
                simp only [B_make_group_0, c, decide_false, cnd_false]) (20 - 3 : Int).toNat ([0], 3) ⟨⟨by simp, by simp, rfl⟩, by simp, by simp⟩
          obtain ⟨_, e9, a, rfl, h9⟩ := hmono
          rw [e9] at ez
          cases ez
          exact h9
        by_cases c2 : 0 < (z.length : Int)
        · obtain ⟨v, t', g1, gv, gt⟩ := s_Range htp (a := 1) (b := (z.length : Int)) (by omega) (by omega) (by omega)
          have hg := flat_ok (t := v) (l := z) (n := p1) h2 gv.1 gv.2 (by omega) (fun k hk => by have := ha.2 k hk; omega) ha.1
          refine ⟨(t'.f0, t'.f1, l ++ [.mk v z []], i + 1), (3 - (i + 1)).toNat, ?_, by omega, ⟨by dsimp only; omega, by dsimp only; omega, rfl⟩, ⟨by simp; omega, fun _ => by simp, ?_⟩, gt⟩
          · unfold B_make_group_1
            simp only [c, decide_true, cnd_true]
            rw [ez, kb_some]
            simp only [stpK_go, c2, decide_true, cnd_true]
            rw [g1, kb_some, appK_some (by simp; omega), kb_some, ei]
          · intro y hy
            rcases List.mem_append.1 hy with hy | hy
            · exact hm y hy
            · obtain rfl := List.mem_singleton.1 hy
              exact ⟨hg.1, hg.2.1, hg.2.2, rfl, by rw [size_mk]; simp [sizes]; omega⟩
        · refine ⟨(tl, ta, l, i + 1), (3 - (i + 1)).toNat, ?_, by omega, ⟨by dsimp only; omega, by dsimp only; omega, rfl⟩, ⟨by dsimp only; omega, fun _ => ?_, hm⟩, htp⟩
          · unfold B_make_group_1
            simp only [c, decide_true, cnd_true]
            rw [ez, kb_some]
            simp only [stpK_go, c2, decide_false, cnd_false, ei]
          · dsimp only
            by_cases i0 : i = 0
            · have := hz1 i0; omega
            · exact hl1 (by omega)
      · right; left
        refine ⟨0, (tl, ta, l, i), ?_, (tl, ta, l, i), rfl, ⟨by dsimp only; omega, hl1 (by omega), hm⟩, htp⟩
        unfold B_make_group_1
        simp only [c, decide_false, cnd_false]) (3 - 0 : Int).toNat (t.f0, t.f1, [], 0) ⟨⟨by simp, by simp, rfl⟩, ⟨by simp, by simp, by simp⟩, ht⟩
  obtain ⟨_, e1, ⟨tl, ta, l, i⟩, rfl, ⟨hl, hl1, hm⟩, htp⟩ := hloop
  dsimp only at hl hl1 hm htp
  obtain ⟨v, t3, e3, hv, ht3⟩ := s_N (t := ⟨tl, ta⟩) htp (n := 4) (by omega) (by omega)
  by_cases c : v = 0
  · have hmod1 : 0 ≤ p2.tmod (l.length : Int) := Int.tmod_nonneg _ h3
    have hmod2 : p2.tmod (l.length : Int) < (l.length : Int) := Int.tmod_lt_of_pos _ (by omega)
    have hlt : (p2.tmod (l.length : Int)).toNat < l.length := by omega
    have hx := hm _ (List.getElem_mem hlt)
    refine ⟨l[(p2.tmod (l.length : Int)).toNat], t3, g_make_group ?_, ⟨?_, hx.2.1, hx.2.2.1⟩, ht3⟩
    · unfold B_make_group
      rw [e1, kb_some]
      simp only [stpK_go, e3, kb_some, c, decide_true, cnd_true]
      rw [mustK_some (by omega), kb_some, getI_some hmod1 hlt, kb_some]
    · simp only [valB, hx.1, hx.2.2.2.1, Bool.and_true, Bool.and_eq_true, decide_eq_true_eq]
      omega
  · have es : sub64 (l.length : Int) 1 = (l.length : Int) - 1 := sub64_of (by omega) (by omega)
    obtain ⟨w, t4, e4, hw, ht4⟩ := s_Range ht3 (a := if 1 < (l.length : Int) - 1 then (l.length : Int) - 1 else 1) (b := (l.length : Int)) (by split <;> omega) (by split <;> omega) (by omega)
    have hw1 : 1 ≤ w := by have := hw.1; split at this <;> omega
    have hsz : sizes l ≤ l.length * 4 := by
      clear hl1 e1 e3 e4 es hw
      induction l with
      | nil => simp [sizes]
      | cons x r ih =>
        have h1 := (hm x List.mem_cons_self).2.2.2.2
        have h2 := ih (by simp at hl; omega) (fun y hy => hm y (List.mem_cons_of_mem _ hy))
        simp only [sizes, List.length_cons]
        omega
    refine ⟨.mk w [] l, t4, g_make_group ?_, ⟨?_, ⟨by rw [size_mk]; simp; omega, by unfold in64; omega, ⟨fun k hk => (by cases hk), ?_⟩⟩, fun k hk => (by cases hk), ?_⟩, ht4⟩
    · unfold B_make_group
      rw [e1, kb_some]
      simp only [stpK_go, e3, kb_some, c, decide_false, cnd_false, es]
      rw [e4, kb_some]
    · have hd : dep (.mk w [] l) ≤ 2 := by
        have : deps l ≤ 1 := (deps_le_iff 1 l).2 fun x hx => by rw [(hm x hx).2.2.2.1]; omega
        simp only [dep]; omega
      have hgl : goods l = true := by
        rw [goods_eq, List.all_eq_true]
        exact fun x hx => (hm x hx).1
      have hgd : good (.mk w [] l) = true := by
        simp only [good, hgl, badA, List.any_nil, List.nodup_nil, decide_true, Bool.not_false, Bool.and_true, Bool.and_eq_true, decide_eq_true_eq, List.length_nil]
        omega
      have hs : (Tru.mk w [] l).size ≤ 200 := by rw [size_mk]; simp; omega
      unfold valB
      rw [hgd]
      simp only [Bool.and_true, Bool.and_eq_true, decide_eq_true_eq]
      omega
    · rw [Oks_iff]; exact fun x hx => (hm x hx).2.1.2
    · rw [belTs_iff]; exact fun x hx => (hm x hx).2.2.1

/-- what is made of members -/
def MemOk (n : Int) (m : Mem) : Prop := (m.f0 = true ∧ valB m.f1 = true ∧ m.f1.Fine ∧ belT n m.f1) ∨ m = mem0
theorem s_Config (n : Int) (h1 : 1 ≤ n) (h2 : n ≤ 10) (t : Tape) (ht : Tp t) : ∃ c t', G_make_Config t n = some (c, t') ∧ (1 ≤ c.f0.length ∧ (c.f0.length : Int) ≤ n ∧ ∀ m ∈ c.f0, MemOk (c.f0.length : Int) m) ∧ Tp t' := by
  obtain ⟨m, t1, e1, hm, ht1⟩ := s_Range ht (a := 1) (b := n) (by omega) h1 (by omega)
  obtain ⟨kd, t2, e2, hkd, ht2⟩ := s_N ht1 (n := 3) (by omega) (by omega)
  have hx : ∀ (tl : List Int) (ta : Int) (l : List Mem) (i : Int), 0 ≤ i → Tp ⟨tl, ta⟩ → ∃ (x : Tru) (t' : Tape), B_make_Config_0 tl ta l (kd, t2) (m, t1) i = some (t'.f0, t'.f1, x.thr, x.nodes, x.inner) ∧ (valB x = true ∧ x.Fine ∧ belT m x) ∧ Tp t' := by
    intro tl ta l i hi htp
    unfold B_make_Config_0
    dsimp only
    by_cases c1 : kd = 0
    · obtain ⟨x, t', e, hp, ht'⟩ := s_mkTrust m hm.1 (by omega) 2 (by omega) ⟨tl, ta⟩ htp
      exact ⟨x, t', by simp only [c1, decide_true, cnd_true, e, kb_some], hp, ht'⟩
    · by_cases c2 : kd = 1
      · obtain ⟨x, t', e, hp, ht'⟩ := s_most m hm.1 (by omega) ⟨tl, ta⟩ htp
        exact ⟨x, t', by simp only [c1, c2, decide_true, decide_false, cnd_true, cnd_false, e, kb_some]; rfl, hp, ht'⟩
      · obtain ⟨x, t', e, hp, ht'⟩ := s_group m i hm.1 (by omega) hi ⟨tl, ta⟩ htp
        exact ⟨x, t', by simp only [c1, c2, decide_false, cnd_false, e, kb_some], hp, ht'⟩
  have hloop := iterW_spec (A := List Int × Int × List Mem × Int) (R := Unit) (f := fun a => B_make_Config_1 (m, t1) (kd, t2) a.1 a.2.1 a.2.2.1 a.2.2.2)
    (fun k a => (0 ≤ a.2.2.2 ∧ a.2.2.2 ≤ m ∧ k = (m - a.2.2.2).toNat) ∧ ((a.2.2.1.length : Int) = a.2.2.2 ∧ ∀ x ∈ a.2.2.1, MemOk m x) ∧ Tp ⟨a.1, a.2.1⟩)
    (fun x => ∃ a : List Int × Int × List Mem × Int, x = .go a ∧ ((a.2.2.1.length : Int) = m ∧ ∀ x ∈ a.2.2.1, MemOk m x) ∧ Tp ⟨a.1, a.2.1⟩)
    (by
      rintro k ⟨tl, ta, l, i⟩ ⟨⟨hi, hin, hk⟩, ⟨hl, hb⟩, htp⟩
      dsimp only at hi hin hk hl hb htp
      by_cases c : i < m
      · left
        have ei : add64 i 1 = i + 1 := add64_of (by omega) (by omega)
        obtain ⟨x, t', ex, hp, ht'⟩ := hx tl ta l i hi htp
        obtain ⟨v, t'', g1, gv, gt⟩ := s_N (t := ⟨t'.f0, t'.f1⟩) ht' (n := 12) (by omega) (by omega)
        have happ : ∀ (q : Mem), MemOk m q → ∀ y ∈ l ++ [q], MemOk m y := by
          intro q hq y hy
          rcases List.mem_append.1 hy with hy | hy
          · exact hb y hy
          · obtain rfl := List.mem_singleton.1 hy; exact hq
        by_cases c2 : v = 11
        · refine ⟨(t''.f0, t''.f1, l ++ [mem0], i + 1), (m - (i + 1)).toNat, ?_, by omega, ⟨by dsimp only; omega, by dsimp only; omega, rfl⟩, ⟨by simp; omega, happ _ (.inr rfl)⟩, gt⟩
          unfold B_make_Config_1
          simp only [c, decide_true, cnd_true]
          rw [ex, kb_some]
          simp only [g1, kb_some, c2, decide_true, cnd_true]
          rw [appK_some (by simp; omega), kb_some, ei]
          rfl
        · refine ⟨(t''.f0, t''.f1, l ++ [⟨true, x⟩], i + 1), (m - (i + 1)).toNat, ?_, by omega, ⟨by dsimp only; omega, by dsimp only; omega, rfl⟩, ⟨by simp; omega, happ _ (.inl ⟨rfl, hp⟩)⟩, gt⟩
          unfold B_make_Config_1
          simp only [c, decide_true, cnd_true]
          rw [ex, kb_some]
          simp only [g1, kb_some, c2, decide_false, cnd_false]
          rw [Tru.eta, appK_some (by simp; omega), kb_some, ei]
      · right; left
        refine ⟨0, (tl, ta, l, i), ?_, (tl, ta, l, i), rfl, ⟨by dsimp only; omega, hb⟩, htp⟩
        unfold B_make_Config_1
        simp only [c, decide_false, cnd_false]) (m - 0).toNat (t2.f0, t2.f1, [], 0) ⟨⟨by simp, by dsimp only; omega, rfl⟩, ⟨by simp, by simp⟩, ht2⟩
  obtain ⟨_, e3, ⟨tl, ta, l, i⟩, rfl, ⟨hl, hb⟩, htp⟩ := hloop
  dsimp only at hl hb htp
  refine ⟨⟨l⟩, ⟨tl, ta⟩, g_make_Config ?_, ⟨by dsimp only; omega, by dsimp only; omega, by dsimp only; rw [hl]; exact hb⟩, htp⟩
  unfold B_make_Config
  rw [e1, kb_some]
  dsimp only
  rw [e2, kb_some, e3, kb_some]
  rfl
theorem MemOk_Fine {n : Int} {m : Mem} (h : MemOk n m) : m.f1.Fine := by
  rcases h with h | rfl
  · exact h.2.2.1
  · exact ⟨by rw [mem0, size_mk]; simp [sizes], by unfold in64; omega, ⟨fun k hk => (by cases hk), trivial⟩⟩
end Go.Am
