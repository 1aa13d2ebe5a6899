/-
Part 5 of the road to the statement: Gf_make_BentTrust, Gf_make_BentConfig, Pu9, Aw, Gf_law13_DeletionAnswers, PAnswers, AmLink, Opn.
-/
import Derived.Test.YtflplknhcpkcaaaDoorAn4
import Derived.Below
import Derived.ChangeSlices
import Derived.Handed
/-
How trustquorummake.BentTrust runs, as a pure function.
-/
namespace Go.Am
open Go Go.Proofs
set_option linter.unusedVariables false
set_option linter.unusedSimpArgs false
set_option maxRecDepth 4000
set_option maxHeartbeats 4000000
noncomputable def B_make_BentTrust_0 (p0 : S_trustquorummake_Tape) (p1 : Tru) : Option ((List Int) × Int × Bool) :=
  cnd (decide (0 < (p1.inner.length : Int))) (
    kb (G_make_Tape_N p0 2) fun y2 =>
    some (y2.2.f0, y2.2.f1, (decide (y2.1 = 1)))) (
    some (p0.f0, p0.f1, false))
def J_make_BentTrust_0 (p0 : S_trustquorummake_Tape) (p1 : Tru) (q : St) : Prop := (q (.t 0) = .ptr (.arg 0) 0 0 ∧ q (.i (.arg 0)) = .box 0 [(.pv (.sl p0.f0.length (ints p0.f0))), (i64 p0.f1)]) ∧ (∃ (g : Nat), q (.t 3) = .ptr (.site 0 0 0) g 0 ∧ q (.i (.site 0 0 0)) = .box g [(i64 p1.thr), (.pv (.sl p1.nodes.length (ints p1.nodes))), (.pv (.sl p1.inner.length (encTs p1.inner)))]) ∧ (∃ (g : Nat), q (.t 4) = .ptr (.site 0 1 0) g 0 ∧ q (.i (.site 0 1 0)) = .box g [(i64 0), .nilsl, .nilsl])
def Q_make_BentTrust_0 (p0 : S_trustquorummake_Tape) (p1 : Tru) (oba0_0_0 : (List Int)) (oba0_1_0 : Int) (o18_0 : Bool) (q : St) : Prop := q (.t 18) = (bl o18_0) ∧ (q (.t 0) = .ptr (.arg 0) 0 0 ∧ q (.i (.arg 0)) = .box 0 [(.pv (.sl oba0_0_0.length (ints oba0_0_0))), (i64 oba0_1_0)]) ∧ (∃ (g : Nat), q (.t 3) = .ptr (.site 0 0 0) g 0 ∧ q (.i (.site 0 0 0)) = .box g [(i64 p1.thr), (.pv (.sl p1.nodes.length (ints p1.nodes))), (.pv (.sl p1.inner.length (encTs p1.inner)))]) ∧ (∃ (g : Nat), q (.t 4) = .ptr (.site 0 1 0) g 0 ∧ q (.i (.site 0 1 0)) = .box g [(i64 0), .nilsl, .nilsl])
theorem P_make_BentTrust_0 {p0 : S_trustquorummake_Tape} {p1 : Tru} {cc : Code} (hcc : cc = (Code.fst (Code.fst (Code.snd ((Tryd.f20.body).getD .skip))))) {s : St} {z : Option (Ex × St)} (hz : C Tryd.prog cf cc s = z) {r : ((List Int) × Int × Bool)} (hI : J_make_BentTrust_0 p0 p1 s) (hB : B_make_BentTrust_0 p0 p1 = some r) : Res z (postG (fun a q => Q_make_BentTrust_0 p0 p1 a.1 a.2.1 a.2.2 q) r) := by
  subst hcc
  subst hz
  simp only [J_make_BentTrust_0] at hI
  obtain ⟨⟨q1, q2⟩, ⟨g4, q3, q4⟩, ⟨g6, q5, q6⟩⟩ := hI
  simp only [Code.fst, Code.snd, Tryd.f20, Option.getD_some]
  unfold B_make_BentTrust_0 at hB
  rcases cnd_inv hB with ⟨c1, hB⟩ | ⟨c1, hB⟩
  · have pc1 := eq_true (of_decide_eq_true c1)
    have nc1 := c1
    try simp only [List.length_nil, List.length_cons, Int.cast_ofNat_Int, Int.natCast_zero, Nat.zero_add, Nat.reduceAdd, Int.reduceLT, Int.reduceLE, Int.reduceEq, eq_self, decide_true, decide_false, Bool.true_eq_false, Bool.false_eq_true] at nc1
    all_goals
      obtain ⟨y2, k3, hB⟩ := kb_inv hB
      replace k3 := run_make_Tape_N k3
      try simp only [Int.cast_ofNat_Int, Int.natCast_zero, List.length_cons, List.length_nil, List.nil_append, List.cons_append, Nat.zero_add, Nat.reduceAdd, Tru.thr_mk, Tru.nodes_mk, Tru.inner_mk, ints_cons, ints_nil, encTs_cons, encTs_nil, es_api_Config_cons, es_api_Config_nil, es_api_Member_cons, es_api_Member_nil] at k3
      try dsimp only at hB
      obtain rfl := Option.some.inj hB
      try simp -implicitDefEqProofs [-getElem?_pos, -Int.ofNat_lt, -Int.ofNat_le, -Int.natCast_eq_zero, -Int.natCast_pos, -List.length_eq_zero_iff, List.getElem?_cons_zero, List.getElem?_cons_succ, List.getElem?_nil, q1, q2, q3, q4, q5, q6, c1, pc1, nc1, k3]
      refine Res.g ?_
      simp -implicitDefEqProofs [-getElem?_pos, -Int.ofNat_lt, -Int.ofNat_le, -Int.natCast_eq_zero, -Int.natCast_pos, -List.length_eq_zero_iff, List.getElem?_cons_zero, List.getElem?_cons_succ, List.getElem?_nil, and_assoc, Q_make_BentTrust_0, ownAt, q1, q2, q3, q4, q5, q6, c1, pc1, nc1, k3]
  · have pc1 := eq_false (of_decide_eq_false c1)
    have nc1 := c1
    try simp only [List.length_nil, List.length_cons, Int.cast_ofNat_Int, Int.natCast_zero, Nat.zero_add, Nat.reduceAdd, Int.reduceLT, Int.reduceLE, Int.reduceEq, eq_self, decide_true, decide_false, Bool.true_eq_false, Bool.false_eq_true] at nc1
    all_goals
      obtain rfl := Option.some.inj hB
      try simp -implicitDefEqProofs [-getElem?_pos, -Int.ofNat_lt, -Int.ofNat_le, -Int.natCast_eq_zero, -Int.natCast_pos, -List.length_eq_zero_iff, List.getElem?_cons_zero, List.getElem?_cons_succ, List.getElem?_nil, q1, q2, q3, q4, q5, q6, c1, pc1, nc1]
      refine Res.g ?_
      simp -implicitDefEqProofs [-getElem?_pos, -Int.ofNat_lt, -Int.ofNat_le, -Int.natCast_eq_zero, -Int.natCast_pos, -List.length_eq_zero_iff, List.getElem?_cons_zero, List.getElem?_cons_succ, List.getElem?_nil, and_assoc, Q_make_BentTrust_0, ownAt, q1, q2, q3, q4, q5, q6, c1, pc1, nc1]
noncomputable def B_make_BentTrust_1 (y36 : (Int × S_trustquorummake_Tape)) (xb22_1_0_1 : Int) (xb22_1_1_1 : (List Int)) (xb22_1_2_1 : (List Tru)) (x7_1 : Int) : Option (Stp (Int × (List Int) × (List Tru) × Int) Unit) :=
  cnd (decide (0 < x7_1)) (
    some (.go (1, ([] : (List Int)), ([(Tru.mk xb22_1_0_1 xb22_1_1_1 xb22_1_2_1)] : List Tru), (sub64 x7_1 1)))) (
    some (.ex 3 (xb22_1_0_1, xb22_1_1_1, xb22_1_2_1, x7_1)))
def I_make_BentTrust_1 (y36 : (Int × S_trustquorummake_Tape)) (xb22_1_0_1 : Int) (xb22_1_1_1 : (List Int)) (xb22_1_2_1 : (List Tru)) (x7_1 : Int) (q : St) : Prop := q (.t 7) = (i64 x7_1) ∧ (q (.i (.arg 0)) = .box 0 [(.pv (.sl y36.2.f0.length (ints y36.2.f0))), (i64 y36.2.f1)]) ∧ (∃ (g : Nat), q (.t 4) = .ptr (.site 0 1 0) g 0 ∧ q (.i (.site 0 1 0)) = .box g [(i64 0), .nilsl, .nilsl]) ∧ (∃ (g : Nat) (w0 : AV) (w1 : AV), q (.t 6) = .ptr (.site 22 1 0) g 0 ∧ q (.i (.site 22 1 0)) = .box g [(i64 xb22_1_0_1), w0, w1] ∧ (w0 = .pv (.sl xb22_1_1_1.length (ints xb22_1_1_1)) ∨ (w0 = .nilsl ∧ xb22_1_1_1 = [])) ∧ (ownAt q w1 (.site 26 1 0) false 3 xb22_1_2_1.length (encTs xb22_1_2_1) ∨ w1 = .pv (.sl xb22_1_2_1.length (encTs xb22_1_2_1))))
def Q_make_BentTrust_1 (y36 : (Int × S_trustquorummake_Tape)) (xb22_1_0_1 : Int) (xb22_1_1_1 : (List Int)) (xb22_1_2_1 : (List Tru)) (x7_1 : Int) (q : St) : Prop := (q (.i (.arg 0)) = .box 0 [(.pv (.sl y36.2.f0.length (ints y36.2.f0))), (i64 y36.2.f1)]) ∧ (∃ (g : Nat), q (.t 4) = .ptr (.site 0 1 0) g 0 ∧ q (.i (.site 0 1 0)) = .box g [(i64 0), .nilsl, .nilsl]) ∧ (∃ (g : Nat) (w0 : AV) (w1 : AV), q (.t 6) = .ptr (.site 22 1 0) g 0 ∧ q (.i (.site 22 1 0)) = .box g [(i64 xb22_1_0_1), w0, w1] ∧ (w0 = .pv (.sl xb22_1_1_1.length (ints xb22_1_1_1)) ∨ (w0 = .nilsl ∧ xb22_1_1_1 = [])) ∧ (ownAt q w1 (.site 26 1 0) false 3 xb22_1_2_1.length (encTs xb22_1_2_1) ∨ w1 = .pv (.sl xb22_1_2_1.length (encTs xb22_1_2_1))))
theorem Pb_make_BentTrust_1 {y36 : (Int × S_trustquorummake_Tape)} {xb22_1_0_1 : Int} {xb22_1_1_1 : (List Int)} {xb22_1_2_1 : (List Tru)} {x7_1 : Int} {q : St} {r : (Stp (Int × (List Int) × (List Tru) × Int) Unit)} (hI : I_make_BentTrust_1 y36 xb22_1_0_1 xb22_1_1_1 xb22_1_2_1 x7_1 q) (hB : B_make_BentTrust_1 y36 xb22_1_0_1 xb22_1_1_1 xb22_1_2_1 x7_1 = some r) : Res (C Tryd.prog cf (Code.fst (Code.fst (Code.snd (Code.fst (Code.snd (Code.fst (Code.snd (Code.snd (Code.snd (Code.snd (Code.snd (Code.snd (Code.snd (Code.snd (Code.snd (Code.fst (Code.snd (Code.fst (Code.snd (Code.snd ((Tryd.f20.body).getD .skip))))))))))))))))))))) q) (postB 3 (fun a q => I_make_BentTrust_1 y36 a.1 a.2.1 a.2.2.1 a.2.2.2 q) (fun a q => Q_make_BentTrust_1 y36 a.1 a.2.1 a.2.2.1 a.2.2.2 q) (fun _ _ => False) r) := by
  simp only [I_make_BentTrust_1] at hI
  obtain ⟨q1, q2, ⟨g4, q3, q4⟩, ⟨g6, v6_w0, v6_w1, q5, q6, a6_w0, a6_w1⟩⟩ := hI
  simp only [Code.fst, Code.snd, Tryd.f20, Option.getD_some]
  unfold B_make_BentTrust_1 at hB
  rcases a6_w0 with rfl | ⟨rfl, ea6_w0⟩
  · rcases a6_w1 with ⟨ga6_w1, rfl, oa6_w1⟩ | rfl
    · rcases cnd_inv hB with ⟨c38, hB⟩ | ⟨c38, hB⟩
      · have pc38 := eq_true (of_decide_eq_true c38)
        obtain rfl := Option.some.inj hB
        try simp -implicitDefEqProofs [-getElem?_pos, -Int.ofNat_lt, -Int.ofNat_le, -Int.natCast_eq_zero, -Int.natCast_pos, -List.length_eq_zero_iff, List.getElem?_cons_zero, List.getElem?_cons_succ, List.getElem?_nil, q1, q2, q3, q4, q5, q6, oa6_w1, c38, pc38]
        refine Res.bgo ?_
        simp -implicitDefEqProofs [-getElem?_pos, -Int.ofNat_lt, -Int.ofNat_le, -Int.natCast_eq_zero, -Int.natCast_pos, -List.length_eq_zero_iff, List.getElem?_cons_zero, List.getElem?_cons_succ, List.getElem?_nil, and_assoc, I_make_BentTrust_1, ownAt, q1, q2, q3, q4, q5, q6, oa6_w1, c38, pc38]
      · have pc38 := eq_false (of_decide_eq_false c38)
        obtain rfl := Option.some.inj hB
        try simp -implicitDefEqProofs [-getElem?_pos, -Int.ofNat_lt, -Int.ofNat_le, -Int.natCast_eq_zero, -Int.natCast_pos, -List.length_eq_zero_iff, List.getElem?_cons_zero, List.getElem?_cons_succ, List.getElem?_nil, q1, q2, q3, q4, q5, q6, oa6_w1, c38, pc38]
        refine Res.bex ?_
        simp -implicitDefEqProofs [-getElem?_pos, -Int.ofNat_lt, -Int.ofNat_le, -Int.natCast_eq_zero, -Int.natCast_pos, -List.length_eq_zero_iff, List.getElem?_cons_zero, List.getElem?_cons_succ, List.getElem?_nil, and_assoc, Q_make_BentTrust_1, ownAt, q1, q2, q3, q4, q5, q6, oa6_w1, c38, pc38]
    · rcases cnd_inv hB with ⟨c38, hB⟩ | ⟨c38, hB⟩
      · have pc38 := eq_true (of_decide_eq_true c38)
        obtain rfl := Option.some.inj hB
        try simp -implicitDefEqProofs [-getElem?_pos, -Int.ofNat_lt, -Int.ofNat_le, -Int.natCast_eq_zero, -Int.natCast_pos, -List.length_eq_zero_iff, List.getElem?_cons_zero, List.getElem?_cons_succ, List.getElem?_nil, q1, q2, q3, q4, q5, q6, c38, pc38]
        refine Res.bgo ?_
        simp -implicitDefEqProofs [-getElem?_pos, -Int.ofNat_lt, -Int.ofNat_le, -Int.natCast_eq_zero, -Int.natCast_pos, -List.length_eq_zero_iff, List.getElem?_cons_zero, List.getElem?_cons_succ, List.getElem?_nil, and_assoc, I_make_BentTrust_1, ownAt, q1, q2, q3, q4, q5, q6, c38, pc38]
      · have pc38 := eq_false (of_decide_eq_false c38)
        obtain rfl := Option.some.inj hB
        try simp -implicitDefEqProofs [-getElem?_pos, -Int.ofNat_lt, -Int.ofNat_le, -Int.natCast_eq_zero, -Int.natCast_pos, -List.length_eq_zero_iff, List.getElem?_cons_zero, List.getElem?_cons_succ, List.getElem?_nil, q1, q2, q3, q4, q5, q6, c38, pc38]
        refine Res.bex ?_
        simp -implicitDefEqProofs [-getElem?_pos, -Int.ofNat_lt, -Int.ofNat_le, -Int.natCast_eq_zero, -Int.natCast_pos, -List.length_eq_zero_iff, List.getElem?_cons_zero, List.getElem?_cons_succ, List.getElem?_nil, and_assoc, Q_make_BentTrust_1, ownAt, q1, q2, q3, q4, q5, q6, c38, pc38]
  · try subst ea6_w0
    rcases a6_w1 with ⟨ga6_w1, rfl, oa6_w1⟩ | rfl
    · rcases cnd_inv hB with ⟨c38, hB⟩ | ⟨c38, hB⟩
      · have pc38 := eq_true (of_decide_eq_true c38)
        obtain rfl := Option.some.inj hB
        try simp -implicitDefEqProofs [-getElem?_pos, -Int.ofNat_lt, -Int.ofNat_le, -Int.natCast_eq_zero, -Int.natCast_pos, -List.length_eq_zero_iff, List.getElem?_cons_zero, List.getElem?_cons_succ, List.getElem?_nil, q1, q2, q3, q4, q5, q6, oa6_w1, c38, pc38]
        refine Res.bgo ?_
        simp -implicitDefEqProofs [-getElem?_pos, -Int.ofNat_lt, -Int.ofNat_le, -Int.natCast_eq_zero, -Int.natCast_pos, -List.length_eq_zero_iff, List.getElem?_cons_zero, List.getElem?_cons_succ, List.getElem?_nil, and_assoc, I_make_BentTrust_1, ownAt, q1, q2, q3, q4, q5, q6, oa6_w1, c38, pc38]
      · have pc38 := eq_false (of_decide_eq_false c38)
        obtain rfl := Option.some.inj hB
        try simp -implicitDefEqProofs [-getElem?_pos, -Int.ofNat_lt, -Int.ofNat_le, -Int.natCast_eq_zero, -Int.natCast_pos, -List.length_eq_zero_iff, List.getElem?_cons_zero, List.getElem?_cons_succ, List.getElem?_nil, q1, q2, q3, q4, q5, q6, oa6_w1, c38, pc38]
        refine Res.bex ?_
        simp -implicitDefEqProofs [-getElem?_pos, -Int.ofNat_lt, -Int.ofNat_le, -Int.natCast_eq_zero, -Int.natCast_pos, -List.length_eq_zero_iff, List.getElem?_cons_zero, List.getElem?_cons_succ, List.getElem?_nil, and_assoc, Q_make_BentTrust_1, ownAt, q1, q2, q3, q4, q5, q6, oa6_w1, c38, pc38]
    · rcases cnd_inv hB with ⟨c38, hB⟩ | ⟨c38, hB⟩
      · have pc38 := eq_true (of_decide_eq_true c38)
        obtain rfl := Option.some.inj hB
        try simp -implicitDefEqProofs [-getElem?_pos, -Int.ofNat_lt, -Int.ofNat_le, -Int.natCast_eq_zero, -Int.natCast_pos, -List.length_eq_zero_iff, List.getElem?_cons_zero, List.getElem?_cons_succ, List.getElem?_nil, q1, q2, q3, q4, q5, q6, c38, pc38]
        refine Res.bgo ?_
        simp -implicitDefEqProofs [-getElem?_pos, -Int.ofNat_lt, -Int.ofNat_le, -Int.natCast_eq_zero, -Int.natCast_pos, -List.length_eq_zero_iff, List.getElem?_cons_zero, List.getElem?_cons_succ, List.getElem?_nil, and_assoc, I_make_BentTrust_1, ownAt, q1, q2, q3, q4, q5, q6, c38, pc38]
      · have pc38 := eq_false (of_decide_eq_false c38)
        obtain rfl := Option.some.inj hB
        try simp -implicitDefEqProofs [-getElem?_pos, -Int.ofNat_lt, -Int.ofNat_le, -Int.natCast_eq_zero, -Int.natCast_pos, -List.length_eq_zero_iff, List.getElem?_cons_zero, List.getElem?_cons_succ, List.getElem?_nil, q1, q2, q3, q4, q5, q6, c38, pc38]
        refine Res.bex ?_
        simp -implicitDefEqProofs [-getElem?_pos, -Int.ofNat_lt, -Int.ofNat_le, -Int.natCast_eq_zero, -Int.natCast_pos, -List.length_eq_zero_iff, List.getElem?_cons_zero, List.getElem?_cons_succ, List.getElem?_nil, and_assoc, Q_make_BentTrust_1, ownAt, q1, q2, q3, q4, q5, q6, c38, pc38]
theorem P_make_BentTrust_1 {y36 : (Int × S_trustquorummake_Tape)} {xb22_1_0_1 : Int} {xb22_1_1_1 : (List Int)} {xb22_1_2_1 : (List Tru)} {x7_1 : Int} {cc : Code} (hcc : cc = .block 3 (.loop (Code.fst (Code.fst (Code.snd (Code.fst (Code.snd (Code.fst (Code.snd (Code.snd (Code.snd (Code.snd (Code.snd (Code.snd (Code.snd (Code.snd (Code.snd (Code.fst (Code.snd (Code.fst (Code.snd (Code.snd ((Tryd.f20.body).getD .skip))))))))))))))))))))))) {s : St} {z : Option (Ex × St)} (hz : C Tryd.prog cf cc s = z) {r : (Stp (Int × (List Int) × (List Tru) × Int) Unit)} (hI : I_make_BentTrust_1 y36 xb22_1_0_1 xb22_1_1_1 xb22_1_2_1 x7_1 s) (hB : iterW (fun a => B_make_BentTrust_1 y36 a.1 a.2.1 a.2.2.1 a.2.2.2) (xb22_1_0_1, xb22_1_1_1, xb22_1_2_1, x7_1) = some r) : Res z (postS (fun a q => Q_make_BentTrust_1 y36 a.1 a.2.1 a.2.2.1 a.2.2.2 q) (fun _ _ => False) r) := by
  subst hcc
  exact while_sim (I := fun a q => I_make_BentTrust_1 y36 a.1 a.2.1 a.2.2.1 a.2.2.2 q) (Q := (fun a q => Q_make_BentTrust_1 y36 a.1 a.2.1 a.2.2.1 a.2.2.2 q)) (QR := (fun _ _ => False)) (fun a q r h hB => Pb_make_BentTrust_1 h hB) hI hz hB
noncomputable def B_make_BentTrust_2 (pba0_0_2 : (List Int)) (pba0_1_2 : Int) (p1 : Tru) (x8_2 : (List Tru)) (x9_2 : Int) : Option (Stp ((List Tru) × Int) Unit) :=
  cnd (decide (0 < x9_2)) (
    kb (appK x8_2 ([(Tru.mk 1 ([(x9_2.tmod 10)] : List Int) ([] : (List Tru)))] : List Tru) 56) fun L43 =>
    some (.go (L43, (sub64 x9_2 1)))) (
    some (.ex 1 (x8_2, x9_2)))
def I_make_BentTrust_2 (pba0_0_2 : (List Int)) (pba0_1_2 : Int) (p1 : Tru) (x8_2 : (List Tru)) (x9_2 : Int) (q : St) : Prop := (∃ v : AV, q (.t 8) = v ∧ (ownAt q v (.site 11 6 0) false 3 x8_2.length (encTs x8_2) ∨ (v = .nilsl ∧ x8_2 = []))) ∧ q (.t 9) = (i64 x9_2) ∧ (q (.i (.arg 0)) = .box 0 [(.pv (.sl pba0_0_2.length (ints pba0_0_2))), (i64 pba0_1_2)]) ∧ (∃ (g : Nat), q (.t 3) = .ptr (.site 0 0 0) g 0 ∧ q (.i (.site 0 0 0)) = .box g [(i64 p1.thr), (.pv (.sl p1.nodes.length (ints p1.nodes))), (.pv (.sl p1.inner.length (encTs p1.inner)))]) ∧ (∃ (g : Nat), q (.t 4) = .ptr (.site 0 1 0) g 0 ∧ q (.i (.site 0 1 0)) = .box g [(i64 0), .nilsl, .nilsl])
def Q_make_BentTrust_2 (pba0_0_2 : (List Int)) (pba0_1_2 : Int) (p1 : Tru) (x8_2 : (List Tru)) (x9_2 : Int) (q : St) : Prop := (∃ v : AV, q (.t 8) = v ∧ (ownAt q v (.site 11 6 0) false 3 x8_2.length (encTs x8_2) ∨ (v = .nilsl ∧ x8_2 = []))) ∧ (q (.i (.arg 0)) = .box 0 [(.pv (.sl pba0_0_2.length (ints pba0_0_2))), (i64 pba0_1_2)]) ∧ (∃ (g : Nat), q (.t 3) = .ptr (.site 0 0 0) g 0 ∧ q (.i (.site 0 0 0)) = .box g [(i64 p1.thr), (.pv (.sl p1.nodes.length (ints p1.nodes))), (.pv (.sl p1.inner.length (encTs p1.inner)))]) ∧ (∃ (g : Nat), q (.t 4) = .ptr (.site 0 1 0) g 0 ∧ q (.i (.site 0 1 0)) = .box g [(i64 0), .nilsl, .nilsl])
theorem Pb_make_BentTrust_2 {pba0_0_2 : (List Int)} {pba0_1_2 : Int} {p1 : Tru} {x8_2 : (List Tru)} {x9_2 : Int} {q : St} {r : (Stp ((List Tru) × Int) Unit)} (hI : I_make_BentTrust_2 pba0_0_2 pba0_1_2 p1 x8_2 x9_2 q) (hB : B_make_BentTrust_2 pba0_0_2 pba0_1_2 p1 x8_2 x9_2 = some r) : Res (C Tryd.prog cf (Code.fst (Code.fst (Code.snd (Code.fst (Code.snd (Code.snd (Code.snd (Code.snd (Code.snd (Code.snd (Code.snd (Code.snd (Code.snd (Code.snd (Code.snd (Code.fst (Code.snd (Code.fst (Code.snd (Code.snd ((Tryd.f20.body).getD .skip))))))))))))))))))))) q) (postB 1 (fun a q => I_make_BentTrust_2 pba0_0_2 pba0_1_2 p1 a.1 a.2 q) (fun a q => Q_make_BentTrust_2 pba0_0_2 pba0_1_2 p1 a.1 a.2 q) (fun _ _ => False) r) := by
  simp only [I_make_BentTrust_2] at hI
  obtain ⟨⟨v1, q1, a1⟩, q2, q3, ⟨g5, q4, q5⟩, ⟨g7, q6, q7⟩⟩ := hI
  simp only [Code.fst, Code.snd, Tryd.f20, Option.getD_some]
  unfold B_make_BentTrust_2 at hB
  rcases a1 with ⟨ga1, rfl, oa1⟩ | ⟨rfl, ea1⟩
  · rcases cnd_inv hB with ⟨c42, hB⟩ | ⟨c42, hB⟩
    · have pc42 := eq_true (of_decide_eq_true c42)
      obtain ⟨L43, a44, hB⟩ := kb_inv hB
      obtain ⟨a44z, a44a, a44y⟩ := appK_inv a44
      try (simp only [List.nil_append] at a44z; subst a44z)
      have a44b := appK_len a44
      have a44c := encTs_appK a44
      have a44d := appK_le a44
      try simp only [Int.cast_ofNat_Int, Int.natCast_zero, List.length_cons, List.length_nil, List.nil_append, List.cons_append, Nat.zero_add, Nat.reduceAdd, Tru.thr_mk, Tru.nodes_mk, Tru.inner_mk, ints_cons, ints_nil, encTs_cons, encTs_nil, es_api_Config_cons, es_api_Config_nil, es_api_Member_cons, es_api_Member_nil] at a44a a44b a44c
      try replace a44b : _ = (1 : Nat) := a44b.symm
      try dsimp only at hB
      obtain rfl := Option.some.inj hB
      try simp -implicitDefEqProofs [-getElem?_pos, -Int.ofNat_lt, -Int.ofNat_le, -Int.natCast_eq_zero, -Int.natCast_pos, -List.length_eq_zero_iff, List.getElem?_cons_zero, List.getElem?_cons_succ, List.getElem?_nil, q1, q2, q3, q4, q5, q6, q7, oa1, c42, pc42, a44a, a44b, a44c, a44d]
      refine Res.bgo ?_
      simp -implicitDefEqProofs [-getElem?_pos, -Int.ofNat_lt, -Int.ofNat_le, -Int.natCast_eq_zero, -Int.natCast_pos, -List.length_eq_zero_iff, List.getElem?_cons_zero, List.getElem?_cons_succ, List.getElem?_nil, and_assoc, I_make_BentTrust_2, ownAt, q1, q2, q3, q4, q5, q6, q7, oa1, c42, pc42, a44a, a44b, a44c, a44d]
    · have pc42 := eq_false (of_decide_eq_false c42)
      obtain rfl := Option.some.inj hB
      try simp -implicitDefEqProofs [-getElem?_pos, -Int.ofNat_lt, -Int.ofNat_le, -Int.natCast_eq_zero, -Int.natCast_pos, -List.length_eq_zero_iff, List.getElem?_cons_zero, List.getElem?_cons_succ, List.getElem?_nil, q1, q2, q3, q4, q5, q6, q7, oa1, c42, pc42]
      refine Res.bex ?_
      simp -implicitDefEqProofs [-getElem?_pos, -Int.ofNat_lt, -Int.ofNat_le, -Int.natCast_eq_zero, -Int.natCast_pos, -List.length_eq_zero_iff, List.getElem?_cons_zero, List.getElem?_cons_succ, List.getElem?_nil, and_assoc, Q_make_BentTrust_2, ownAt, q1, q2, q3, q4, q5, q6, q7, oa1, c42, pc42]
  · try subst ea1
    rcases cnd_inv hB with ⟨c42, hB⟩ | ⟨c42, hB⟩
    · have pc42 := eq_true (of_decide_eq_true c42)
      obtain ⟨L43, a44, hB⟩ := kb_inv hB
      obtain ⟨a44z, a44a, a44y⟩ := appK_inv a44
      simp only [List.nil_append] at a44z
      subst a44z
      try dsimp only at hB
      obtain rfl := Option.some.inj hB
      try simp -implicitDefEqProofs [-getElem?_pos, -Int.ofNat_lt, -Int.ofNat_le, -Int.natCast_eq_zero, -Int.natCast_pos, -List.length_eq_zero_iff, List.getElem?_cons_zero, List.getElem?_cons_succ, List.getElem?_nil, q1, q2, q3, q4, q5, q6, q7, c42, pc42]
      refine Res.bgo ?_
      simp -implicitDefEqProofs [-getElem?_pos, -Int.ofNat_lt, -Int.ofNat_le, -Int.natCast_eq_zero, -Int.natCast_pos, -List.length_eq_zero_iff, List.getElem?_cons_zero, List.getElem?_cons_succ, List.getElem?_nil, and_assoc, I_make_BentTrust_2, ownAt, q1, q2, q3, q4, q5, q6, q7, c42, pc42]
    · have pc42 := eq_false (of_decide_eq_false c42)
      obtain rfl := Option.some.inj hB
      try simp -implicitDefEqProofs [-getElem?_pos, -Int.ofNat_lt, -Int.ofNat_le, -Int.natCast_eq_zero, -Int.natCast_pos, -List.length_eq_zero_iff, List.getElem?_cons_zero, List.getElem?_cons_succ, List.getElem?_nil, q1, q2, q3, q4, q5, q6, q7, c42, pc42]
      refine Res.bex ?_
      simp -implicitDefEqProofs [-getElem?_pos, -Int.ofNat_lt, -Int.ofNat_le, -Int.natCast_eq_zero, -Int.natCast_pos, -List.length_eq_zero_iff, List.getElem?_cons_zero, List.getElem?_cons_succ, List.getElem?_nil, and_assoc, Q_make_BentTrust_2, ownAt, q1, q2, q3, q4, q5, q6, q7, c42, pc42]
theorem P_make_BentTrust_2 {pba0_0_2 : (List Int)} {pba0_1_2 : Int} {p1 : Tru} {x8_2 : (List Tru)} {x9_2 : Int} {cc : Code} (hcc : cc = .block 1 (.loop (Code.fst (Code.fst (Code.snd (Code.fst (Code.snd (Code.snd (Code.snd (Code.snd (Code.snd (Code.snd (Code.snd (Code.snd (Code.snd (Code.snd (Code.snd (Code.fst (Code.snd (Code.fst (Code.snd (Code.snd ((Tryd.f20.body).getD .skip))))))))))))))))))))))) {s : St} {z : Option (Ex × St)} (hz : C Tryd.prog cf cc s = z) {r : (Stp ((List Tru) × Int) Unit)} (hI : I_make_BentTrust_2 pba0_0_2 pba0_1_2 p1 x8_2 x9_2 s) (hB : iterW (fun a => B_make_BentTrust_2 pba0_0_2 pba0_1_2 p1 a.1 a.2) (x8_2, x9_2) = some r) : Res z (postS (fun a q => Q_make_BentTrust_2 pba0_0_2 pba0_1_2 p1 a.1 a.2 q) (fun _ _ => False) r) := by
  subst hcc
  exact while_sim (I := fun a q => I_make_BentTrust_2 pba0_0_2 pba0_1_2 p1 a.1 a.2 q) (Q := (fun a q => Q_make_BentTrust_2 pba0_0_2 pba0_1_2 p1 a.1 a.2 q)) (QR := (fun _ _ => False)) (fun a q r h hB => Pb_make_BentTrust_2 h hB) hI hz hB
noncomputable def B_make_BentTrust (p0 : S_trustquorummake_Tape) (p1 : Tru) : Option (Tru × S_trustquorummake_Tape) :=
  kb (B_make_BentTrust_0 p0 p1) fun z4 =>
  cnd z4.2.2 (
    kb (appK ([] : List Tru) p1.inner 56) fun L6 =>
    kb (G_make_Tape_N (S_trustquorummake_Tape.mk z4.1 z4.2.1) (L6.length : Int)) fun y8 =>
    kb (getI L6 y8.1) fun x10 =>
    kb (G_make_BentTrust y8.2 x10) fun y13 =>
    kb (setK L6 y8.1 y13.1) fun L15 =>
    some ((Tru.mk p1.thr p1.nodes L15), y13.2)) (
    kb (G_make_Tape_N (S_trustquorummake_Tape.mk z4.1 z4.2.1) 6) fun y17 =>
    cnd (decide (y17.1 = 0)) (
      kb (G_make_Tape_Pick y17.2 ([0, (-1), (add64 (p1.nodes.length : Int) (p1.inner.length : Int)), (add64 (add64 (p1.nodes.length : Int) (p1.inner.length : Int)) 1)] : List Int)) fun y20 =>
      some ((Tru.mk y20.1 p1.nodes p1.inner), y20.2)) (
      cnd (decide (y17.1 = 1)) (
        kb (appK ([] : List Int) p1.nodes 8) fun L23 =>
        kb (G_make_Tape_Pick y17.2 ([(-1), 0, 9, 10] : List Int)) fun y25 =>
        kb (appK L23 ([y25.1] : List Int) 8) fun L27 =>
        some ((Tru.mk p1.thr L27 p1.inner), y25.2)) (
        cnd (decide (y17.1 = 2)) (
          some ((Tru.mk p1.thr ([] : (List Int)) p1.inner), y17.2)) (
          cnd (decide (y17.1 = 3)) (
            kb (appK ([] : List Tru) p1.inner 56) fun L31 =>
            kb (appK L31 ([(Tru.mk 0 ([] : (List Int)) ([] : (List Tru)))] : List Tru) 56) fun L33 =>
            some ((Tru.mk p1.thr p1.nodes L33), y17.2)) (
            cnd (decide (y17.1 = 4)) (
              kb (G_make_Tape_Range y17.2 1 4) fun y36 =>
              kb (iterW (fun a => B_make_BentTrust_1 y36 a.1 a.2.1 a.2.2.1 a.2.2.2) (p1.thr, p1.nodes, p1.inner, y36.1)) fun o => stpK o (fun z39 =>
                some ((Tru.mk z39.1 z39.2.1 z39.2.2.1), y36.2)) (fun z39r =>
                none)) (
              kb (G_make_Tape_Pick y17.2 ([20, 60, 101] : List Int)) fun y40 =>
              kb (iterW (fun a => B_make_BentTrust_2 y40.2.f0 y40.2.f1 p1 a.1 a.2) (([] : (List Tru)), y40.1)) fun o => stpK o (fun z45 =>
                kb (appK z45.1 p1.inner 56) fun L46 =>
                some ((Tru.mk p1.thr p1.nodes L46), y40.2)) (fun z45r =>
                none)))))))
theorem sim_make_BentTrust {p0 : S_trustquorummake_Tape} {p1 : Tru} {r : (Tru × S_trustquorummake_Tape)} (hB : B_make_BentTrust p0 p1 = some r) : R 20 [.ptr (.arg 0) 0 0, (.agg [(i64 p1.thr), (.pv (.sl p1.nodes.length (ints p1.nodes))), (.pv (.sl p1.inner.length (encTs p1.inner)))])] [.box 0 [(.pv (.sl p0.f0.length (ints p0.f0))), (i64 p0.f1)]] = some ((.agg [(i64 r.1.thr), (.pv (.sl r.1.nodes.length (ints r.1.nodes))), (.pv (.sl r.1.inner.length (encTs r.1.inner)))]), [.box 0 [(.pv (.sl r.2.f0.length (ints r.2.f0))), (i64 r.2.f1)]], []) := by
  rw [R_eq _ _ _ fn_make_BentTrust]
  simp only [Code.fst, Code.snd, Tryd.f20, Option.getD_some]
  generalize hc0 : Code.region 1 _ _ = cc0
  generalize hc1 : Code.block 3 _ = cc1
  generalize hc2 : Code.block 1 _ = cc2
  unfold B_make_BentTrust at hB
  try simp -implicitDefEqProofs [-getElem?_pos, -Int.ofNat_lt, -Int.ofNat_le, -Int.natCast_eq_zero, -Int.natCast_pos, -List.length_eq_zero_iff, List.getElem?_cons_zero, List.getElem?_cons_succ, List.getElem?_nil]
  generalize hz0 : C Tryd.prog cf cc0 _ = z0
  obtain ⟨z4, hB1, hB⟩ := kb_inv hB
  have hJ := P_make_BentTrust_0 (hc0.symm.trans (by kernel_rfl)) hz0 (by simp -implicitDefEqProofs [-getElem?_pos, -Int.ofNat_lt, -Int.ofNat_le, -Int.natCast_eq_zero, -Int.natCast_pos, -List.length_eq_zero_iff, List.getElem?_cons_zero, List.getElem?_cons_succ, List.getElem?_nil, and_assoc, J_make_BentTrust_0, ownAt]) hB1
  obtain ⟨e0, s0, rfl, hq⟩ := hJ.open
  clear hB1
  obtain ⟨rfl, hq⟩ := hq
  simp only [Q_make_BentTrust_0] at hq
  obtain ⟨q4_1, ⟨q4_2, q4_3⟩, ⟨g4_5, q4_4, q4_5⟩, ⟨g4_7, q4_6, q4_7⟩⟩ := hq
  rcases cnd_inv hB with ⟨c5, hB⟩ | ⟨c5, hB⟩
  · obtain ⟨L6, a7, hB⟩ := kb_inv hB
    obtain ⟨a7z, a7a, a7y⟩ := appK_inv a7
    try (simp only [List.nil_append] at a7z; subst a7z)
    have a7b := appK_len a7
    have a7c := encTs_appK a7
    have a7d := appK_le a7
    try dsimp only at hB
    obtain ⟨y8, k9, hB⟩ := kb_inv hB
    replace k9 := run_make_Tape_N k9
    try simp only [Int.cast_ofNat_Int, Int.natCast_zero, List.length_cons, List.length_nil, List.nil_append, List.cons_append, Nat.zero_add, Nat.reduceAdd, Tru.thr_mk, Tru.nodes_mk, Tru.inner_mk, ints_cons, ints_nil, encTs_cons, encTs_nil, es_api_Config_cons, es_api_Config_nil, es_api_Member_cons, es_api_Member_nil, c5] at k9
    try dsimp only at hB
    obtain ⟨x10, h11, hB⟩ := kb_inv hB
    obtain ⟨h11a, h11b, h11c, h11d⟩ := getI_inv h11
    try simp only [Int.toNat_natCast, Int.reduceToNat] at h11c
    try dsimp only at hB
    have l12 := encTs_ld h11c
    obtain ⟨y13, k14, hB⟩ := kb_inv hB
    replace k14 := run_make_BentTrust k14
    try simp only [Int.cast_ofNat_Int, Int.natCast_zero, List.length_cons, List.length_nil, List.nil_append, List.cons_append, Nat.zero_add, Nat.reduceAdd, Tru.thr_mk, Tru.nodes_mk, Tru.inner_mk, ints_cons, ints_nil, encTs_cons, encTs_nil, es_api_Config_cons, es_api_Config_nil, es_api_Member_cons, es_api_Member_nil, c5] at k14
    try dsimp only at hB
    obtain ⟨L15, s16, hB⟩ := kb_inv hB
    obtain ⟨s16a, s16b, s16c, s16d, s16e, s16g⟩ := encTs_put s16
    try simp only [Int.cast_ofNat_Int, Int.natCast_zero, List.length_cons, List.length_nil, List.nil_append, List.cons_append, Nat.zero_add, Nat.reduceAdd, Tru.thr_mk, Tru.nodes_mk, Tru.inner_mk, ints_cons, ints_nil, encTs_cons, encTs_nil, es_api_Config_cons, es_api_Config_nil, es_api_Member_cons, es_api_Member_nil, c5] at s16d
    try dsimp only at hB
    obtain rfl := Option.some.inj hB
    simp -implicitDefEqProofs [-getElem?_pos, -Int.ofNat_lt, -Int.ofNat_le, -Int.natCast_eq_zero, -Int.natCast_pos, -List.length_eq_zero_iff, List.getElem?_cons_zero, List.getElem?_cons_succ, List.getElem?_nil, q4_1, q4_2, q4_3, q4_4, q4_5, q4_6, q4_7, c5, a7a, a7b, a7c, a7d, k9, h11a, h11b, h11c, h11d, l12, k14, s16a, s16b, s16c, s16d, s16e, s16g]
    rw [drawK_ok _ _ _ (by kernel_rfl)]
    simp -implicitDefEqProofs [-getElem?_pos, -Int.ofNat_lt, -Int.ofNat_le, -Int.natCast_eq_zero, -Int.natCast_pos, -List.length_eq_zero_iff, List.getElem?_cons_zero, List.getElem?_cons_succ, List.getElem?_nil, q4_1, q4_2, q4_3, q4_4, q4_5, q4_6, q4_7, c5, a7a, a7b, a7c, a7d, k9, h11a, h11b, h11c, h11d, l12, k14, s16a, s16b, s16c, s16d, s16e, s16g]
  · obtain ⟨y17, k18, hB⟩ := kb_inv hB
    replace k18 := run_make_Tape_N k18
    try simp only [Int.cast_ofNat_Int, Int.natCast_zero, List.length_cons, List.length_nil, List.nil_append, List.cons_append, Nat.zero_add, Nat.reduceAdd, Tru.thr_mk, Tru.nodes_mk, Tru.inner_mk, ints_cons, ints_nil, encTs_cons, encTs_nil, es_api_Config_cons, es_api_Config_nil, es_api_Member_cons, es_api_Member_nil, c5] at k18
    try dsimp only at hB
    rcases cnd_inv hB with ⟨c19, hB⟩ | ⟨c19, hB⟩
    · have pc19 := eq_true (of_decide_eq_true c19)
      obtain ⟨y20, k21, hB⟩ := kb_inv hB
      replace k21 := run_make_Tape_Pick k21
      try simp only [Int.cast_ofNat_Int, Int.natCast_zero, List.length_cons, List.length_nil, List.nil_append, List.cons_append, Nat.zero_add, Nat.reduceAdd, Tru.thr_mk, Tru.nodes_mk, Tru.inner_mk, ints_cons, ints_nil, encTs_cons, encTs_nil, es_api_Config_cons, es_api_Config_nil, es_api_Member_cons, es_api_Member_nil, c5] at k21
      try dsimp only at hB
      obtain rfl := Option.some.inj hB
      simp -implicitDefEqProofs [-getElem?_pos, -Int.ofNat_lt, -Int.ofNat_le, -Int.natCast_eq_zero, -Int.natCast_pos, -List.length_eq_zero_iff, List.getElem?_cons_zero, List.getElem?_cons_succ, List.getElem?_nil, q4_1, q4_2, q4_3, q4_4, q4_5, q4_6, q4_7, c5, k18, c19, pc19, k21]
    · have pc19 := eq_false (of_decide_eq_false c19)
      rcases cnd_inv hB with ⟨c22, hB⟩ | ⟨c22, hB⟩
      · have pc22 := eq_true (of_decide_eq_true c22)
        obtain ⟨L23, a24, hB⟩ := kb_inv hB
        obtain ⟨a24z, a24a, a24y⟩ := appK_inv a24
        try (simp only [List.nil_append] at a24z; subst a24z)
        have a24b := appK_len a24
        have a24c := ints_appK a24
        have a24d := appK_le a24
        try dsimp only at hB
        obtain ⟨y25, k26, hB⟩ := kb_inv hB
        replace k26 := run_make_Tape_Pick k26
        try simp only [Int.cast_ofNat_Int, Int.natCast_zero, List.length_cons, List.length_nil, List.nil_append, List.cons_append, Nat.zero_add, Nat.reduceAdd, Tru.thr_mk, Tru.nodes_mk, Tru.inner_mk, ints_cons, ints_nil, encTs_cons, encTs_nil, es_api_Config_cons, es_api_Config_nil, es_api_Member_cons, es_api_Member_nil, c5] at k26
        try dsimp only at hB
        obtain ⟨L27, a28, hB⟩ := kb_inv hB
        obtain ⟨a28z, a28a, a28y⟩ := appK_inv a28
        try (simp only [List.nil_append] at a28z; subst a28z)
        have a28b := appK_len a28
        have a28c := ints_appK a28
        have a28d := appK_le a28
        try simp only [Int.cast_ofNat_Int, Int.natCast_zero, List.length_cons, List.length_nil, List.nil_append, List.cons_append, Nat.zero_add, Nat.reduceAdd, Tru.thr_mk, Tru.nodes_mk, Tru.inner_mk, ints_cons, ints_nil, encTs_cons, encTs_nil, es_api_Config_cons, es_api_Config_nil, es_api_Member_cons, es_api_Member_nil, c5] at a28a a28b a28c
        try replace a28b : _ = (1 : Nat) := a28b.symm
        try dsimp only at hB
        obtain rfl := Option.some.inj hB
        simp -implicitDefEqProofs [-getElem?_pos, -Int.ofNat_lt, -Int.ofNat_le, -Int.natCast_eq_zero, -Int.natCast_pos, -List.length_eq_zero_iff, List.getElem?_cons_zero, List.getElem?_cons_succ, List.getElem?_nil, q4_1, q4_2, q4_3, q4_4, q4_5, q4_6, q4_7, c5, k18, c19, pc19, c22, pc22, a24a, a24b, a24c, a24d, k26, a28a, a28b, a28c, a28d]
      · have pc22 := eq_false (of_decide_eq_false c22)
        rcases cnd_inv hB with ⟨c29, hB⟩ | ⟨c29, hB⟩
        · have pc29 := eq_true (of_decide_eq_true c29)
          obtain rfl := Option.some.inj hB
          simp -implicitDefEqProofs [-getElem?_pos, -Int.ofNat_lt, -Int.ofNat_le, -Int.natCast_eq_zero, -Int.natCast_pos, -List.length_eq_zero_iff, List.getElem?_cons_zero, List.getElem?_cons_succ, List.getElem?_nil, q4_1, q4_2, q4_3, q4_4, q4_5, q4_6, q4_7, c5, k18, c19, pc19, c22, pc22, c29, pc29]
        · have pc29 := eq_false (of_decide_eq_false c29)
          rcases cnd_inv hB with ⟨c30, hB⟩ | ⟨c30, hB⟩
          · have pc30 := eq_true (of_decide_eq_true c30)
            obtain ⟨L31, a32, hB⟩ := kb_inv hB
            obtain ⟨a32z, a32a, a32y⟩ := appK_inv a32
            try (simp only [List.nil_append] at a32z; subst a32z)
            have a32b := appK_len a32
            have a32c := encTs_appK a32
            have a32d := appK_le a32
            try dsimp only at hB
            obtain ⟨L33, a34, hB⟩ := kb_inv hB
            obtain ⟨a34z, a34a, a34y⟩ := appK_inv a34
            try (simp only [List.nil_append] at a34z; subst a34z)
            have a34b := appK_len a34
            have a34c := encTs_appK a34
            have a34d := appK_le a34
            try simp only [Int.cast_ofNat_Int, Int.natCast_zero, List.length_cons, List.length_nil, List.nil_append, List.cons_append, Nat.zero_add, Nat.reduceAdd, Tru.thr_mk, Tru.nodes_mk, Tru.inner_mk, ints_cons, ints_nil, encTs_cons, encTs_nil, es_api_Config_cons, es_api_Config_nil, es_api_Member_cons, es_api_Member_nil, c5] at a34a a34b a34c
            try replace a34b : _ = (1 : Nat) := a34b.symm
            try dsimp only at hB
            obtain rfl := Option.some.inj hB
            simp -implicitDefEqProofs [-getElem?_pos, -Int.ofNat_lt, -Int.ofNat_le, -Int.natCast_eq_zero, -Int.natCast_pos, -List.length_eq_zero_iff, List.getElem?_cons_zero, List.getElem?_cons_succ, List.getElem?_nil, q4_1, q4_2, q4_3, q4_4, q4_5, q4_6, q4_7, c5, k18, c19, pc19, c22, pc22, c29, pc29, c30, pc30, a32a, a32b, a32c, a32d, a34a, a34b, a34c, a34d]
          · have pc30 := eq_false (of_decide_eq_false c30)
            rcases cnd_inv hB with ⟨c35, hB⟩ | ⟨c35, hB⟩
            · have pc35 := eq_true (of_decide_eq_true c35)
              obtain ⟨y36, k37, hB⟩ := kb_inv hB
              replace k37 := run_make_Tape_Range k37
              try simp only [Int.cast_ofNat_Int, Int.natCast_zero, List.length_cons, List.length_nil, List.nil_append, List.cons_append, Nat.zero_add, Nat.reduceAdd, Tru.thr_mk, Tru.nodes_mk, Tru.inner_mk, ints_cons, ints_nil, encTs_cons, encTs_nil, es_api_Config_cons, es_api_Config_nil, es_api_Member_cons, es_api_Member_nil, c5] at k37
              try dsimp only at hB
              try simp -implicitDefEqProofs [-getElem?_pos, -Int.ofNat_lt, -Int.ofNat_le, -Int.natCast_eq_zero, -Int.natCast_pos, -List.length_eq_zero_iff, List.getElem?_cons_zero, List.getElem?_cons_succ, List.getElem?_nil, q4_1, q4_2, q4_3, q4_4, q4_5, q4_6, q4_7, c5, k18, c19, pc19, c22, pc22, c29, pc29, c30, pc30, c35, pc35, k37]
              generalize hz1 : C Tryd.prog cf cc1 _ = z1
              obtain ⟨o, hB1, hB⟩ := kb_inv hB
              have hJ := P_make_BentTrust_1 (hc1.symm.trans (by kernel_rfl)) hz1 (by simp -implicitDefEqProofs [-getElem?_pos, -Int.ofNat_lt, -Int.ofNat_le, -Int.natCast_eq_zero, -Int.natCast_pos, -List.length_eq_zero_iff, List.getElem?_cons_zero, List.getElem?_cons_succ, List.getElem?_nil, and_assoc, I_make_BentTrust_1, ownAt, q4_1, q4_2, q4_3, q4_4, q4_5, q4_6, q4_7, c5, k18, c19, pc19, c22, pc22, c29, pc29, c30, pc30, c35, pc35, k37]) hB1
              obtain ⟨e1, s1, rfl, hq⟩ := hJ.open
              clear hB1
              rcases o with z39 | ⟨_, _⟩ | z39r
              · simp only [stpK_go] at hB
                obtain ⟨rfl, hq⟩ := hq
                obtain ⟨u1_0, u1_1, u1_2, u1_3⟩ := z39
                dsimp only at hB hq
                simp only [Q_make_BentTrust_1] at hq
                obtain ⟨q39_1, ⟨g39_3, q39_2, q39_3⟩, ⟨g39_5, v39_5_w0, v39_5_w1, q39_4, q39_5, a39_5_w0, a39_5_w1⟩⟩ := hq
                rcases a39_5_w0 with rfl | ⟨rfl, ea39_5_w0⟩
                · rcases a39_5_w1 with ⟨ga39_5_w1, rfl, oa39_5_w1⟩ | rfl
                  · obtain rfl := Option.some.inj hB
                    simp -implicitDefEqProofs [-getElem?_pos, -Int.ofNat_lt, -Int.ofNat_le, -Int.natCast_eq_zero, -Int.natCast_pos, -List.length_eq_zero_iff, List.getElem?_cons_zero, List.getElem?_cons_succ, List.getElem?_nil, q39_1, q39_2, q39_3, q39_4, q39_5, oa39_5_w1, c5, k18, c19, pc19, c22, pc22, c29, pc29, c30, pc30, c35, pc35, k37]
                  · obtain rfl := Option.some.inj hB
                    simp -implicitDefEqProofs [-getElem?_pos, -Int.ofNat_lt, -Int.ofNat_le, -Int.natCast_eq_zero, -Int.natCast_pos, -List.length_eq_zero_iff, List.getElem?_cons_zero, List.getElem?_cons_succ, List.getElem?_nil, q39_1, q39_2, q39_3, q39_4, q39_5, c5, k18, c19, pc19, c22, pc22, c29, pc29, c30, pc30, c35, pc35, k37]
                · try subst ea39_5_w0
                  rcases a39_5_w1 with ⟨ga39_5_w1, rfl, oa39_5_w1⟩ | rfl
                  · obtain rfl := Option.some.inj hB
                    simp -implicitDefEqProofs [-getElem?_pos, -Int.ofNat_lt, -Int.ofNat_le, -Int.natCast_eq_zero, -Int.natCast_pos, -List.length_eq_zero_iff, List.getElem?_cons_zero, List.getElem?_cons_succ, List.getElem?_nil, q39_1, q39_2, q39_3, q39_4, q39_5, oa39_5_w1, c5, k18, c19, pc19, c22, pc22, c29, pc29, c30, pc30, c35, pc35, k37]
                  · obtain rfl := Option.some.inj hB
                    simp -implicitDefEqProofs [-getElem?_pos, -Int.ofNat_lt, -Int.ofNat_le, -Int.natCast_eq_zero, -Int.natCast_pos, -List.length_eq_zero_iff, List.getElem?_cons_zero, List.getElem?_cons_succ, List.getElem?_nil, q39_1, q39_2, q39_3, q39_4, q39_5, c5, k18, c19, pc19, c22, pc22, c29, pc29, c30, pc30, c35, pc35, k37]
              · exact hq.elim
              · cases hB
            · have pc35 := eq_false (of_decide_eq_false c35)
              obtain ⟨y40, k41, hB⟩ := kb_inv hB
              replace k41 := run_make_Tape_Pick k41
              try simp only [Int.cast_ofNat_Int, Int.natCast_zero, List.length_cons, List.length_nil, List.nil_append, List.cons_append, Nat.zero_add, Nat.reduceAdd, Tru.thr_mk, Tru.nodes_mk, Tru.inner_mk, ints_cons, ints_nil, encTs_cons, encTs_nil, es_api_Config_cons, es_api_Config_nil, es_api_Member_cons, es_api_Member_nil, c5] at k41
              try dsimp only at hB
              try simp -implicitDefEqProofs [-getElem?_pos, -Int.ofNat_lt, -Int.ofNat_le, -Int.natCast_eq_zero, -Int.natCast_pos, -List.length_eq_zero_iff, List.getElem?_cons_zero, List.getElem?_cons_succ, List.getElem?_nil, q4_1, q4_2, q4_3, q4_4, q4_5, q4_6, q4_7, c5, k18, c19, pc19, c22, pc22, c29, pc29, c30, pc30, c35, pc35, k41]
              generalize hz2 : C Tryd.prog cf cc2 _ = z2
              obtain ⟨o, hB1, hB⟩ := kb_inv hB
              have hJ := P_make_BentTrust_2 (hc2.symm.trans (by kernel_rfl)) hz2 (by simp -implicitDefEqProofs [-getElem?_pos, -Int.ofNat_lt, -Int.ofNat_le, -Int.natCast_eq_zero, -Int.natCast_pos, -List.length_eq_zero_iff, List.getElem?_cons_zero, List.getElem?_cons_succ, List.getElem?_nil, and_assoc, I_make_BentTrust_2, ownAt, q4_1, q4_2, q4_3, q4_4, q4_5, q4_6, q4_7, c5, k18, c19, pc19, c22, pc22, c29, pc29, c30, pc30, c35, pc35, k41]) hB1
              obtain ⟨e2, s2, rfl, hq⟩ := hJ.open
              clear hB1
              rcases o with z45 | ⟨_, _⟩ | z45r
              · simp only [stpK_go] at hB
                obtain ⟨rfl, hq⟩ := hq
                obtain ⟨u2_0, u2_1⟩ := z45
                dsimp only at hB hq
                simp only [Q_make_BentTrust_2] at hq
                obtain ⟨⟨v45_1, q45_1, a45_1⟩, q45_2, ⟨g45_4, q45_3, q45_4⟩, ⟨g45_6, q45_5, q45_6⟩⟩ := hq
                rcases a45_1 with ⟨ga45_1, rfl, oa45_1⟩ | ⟨rfl, ea45_1⟩
                · obtain ⟨L46, a47, hB⟩ := kb_inv hB
                  obtain ⟨a47z, a47a, a47y⟩ := appK_inv a47
                  try (simp only [List.nil_append] at a47z; subst a47z)
                  have a47b := appK_len a47
                  have a47c := encTs_appK a47
                  have a47d := appK_le a47
                  try dsimp only at hB
                  obtain rfl := Option.some.inj hB
                  simp -implicitDefEqProofs [-getElem?_pos, -Int.ofNat_lt, -Int.ofNat_le, -Int.natCast_eq_zero, -Int.natCast_pos, -List.length_eq_zero_iff, List.getElem?_cons_zero, List.getElem?_cons_succ, List.getElem?_nil, q45_1, q45_2, q45_3, q45_4, q45_5, q45_6, oa45_1, c5, k18, c19, pc19, c22, pc22, c29, pc29, c30, pc30, c35, pc35, k41, a47a, a47b, a47c, a47d]
                · try subst ea45_1
                  obtain ⟨L46, a47, hB⟩ := kb_inv hB
                  obtain ⟨a47z, a47a, a47y⟩ := appK_inv a47
                  try simp only [List.nil_append] at a47z
                  subst a47z
                  try dsimp only at hB
                  rcases appK_cases a47 with a47e | a47e
                  · have a47e2 := List.eq_nil_of_length_eq_zero a47e
                    obtain rfl := Option.some.inj hB
                    simp -implicitDefEqProofs [-getElem?_pos, -Int.ofNat_lt, -Int.ofNat_le, -Int.natCast_eq_zero, -Int.natCast_pos, -List.length_eq_zero_iff, List.getElem?_cons_zero, List.getElem?_cons_succ, List.getElem?_nil, q45_1, q45_2, q45_3, q45_4, q45_5, q45_6, c5, k18, c19, pc19, c22, pc22, c29, pc29, c30, pc30, c35, pc35, k41, a47e, a47e2]
                  · obtain rfl := Option.some.inj hB
                    simp -implicitDefEqProofs [-getElem?_pos, -Int.ofNat_lt, -Int.ofNat_le, -Int.natCast_eq_zero, -Int.natCast_pos, -List.length_eq_zero_iff, List.getElem?_cons_zero, List.getElem?_cons_succ, List.getElem?_nil, q45_1, q45_2, q45_3, q45_4, q45_5, q45_6, c5, k18, c19, pc19, c22, pc22, c29, pc29, c30, pc30, c35, pc35, k41, a47e, a47y]
              · exact hq.elim
              · cases hB
theorem g_make_BentTrust {p0 : S_trustquorummake_Tape} {p1 : Tru} {r : (Tru × S_trustquorummake_Tape)} (hB : B_make_BentTrust p0 p1 = some r) : G_make_BentTrust p0 p1 = some r := dec_of (fun a b h => by rcases a with ⟨⟨a0_0, a0_1, a0_2⟩, ⟨a1_0, a1_1⟩⟩; rcases b with ⟨⟨b0_0, b0_1, b0_2⟩, ⟨b1_0, b1_1⟩⟩; simp at h; simp [*]) (sim_make_BentTrust hB)
end Go.Am

/-
How trustquorummake.BentConfig runs, as a pure function.
-/
namespace Go.Am
open Go Go.Proofs
set_option linter.unusedVariables false
set_option linter.unusedSimpArgs false
set_option maxRecDepth 4000
set_option maxHeartbeats 4000000
noncomputable def B_make_BentConfig_0 (y12 : (Int × S_trustquorummake_Tape)) (xb1_5_0_0 : (List S_api_Member)) : Option (Stp (List S_api_Member) Unit) :=
  cnd (decide ((xb1_5_0_0.length : Int) ≤ 10)) (
    kb (appK xb1_5_0_0 ([(S_api_Member.mk false (Tru.mk 0 ([] : (List Int)) ([] : (List Tru))))] : List S_api_Member) 64) fun L31 =>
    some (.go L31)) (
    some (.ex 1 xb1_5_0_0))
def I_make_BentConfig_0 (y12 : (Int × S_trustquorummake_Tape)) (xb1_5_0_0 : (List S_api_Member)) (q : St) : Prop := (q (.i (.arg 0)) = .box 0 [(.pv (.sl y12.2.f0.length (ints y12.2.f0))), (i64 y12.2.f1)]) ∧ (∃ (g : Nat), q (.t 4) = .ptr (.site 0 1 0) g 0 ∧ q (.i (.site 0 1 0)) = .box g [.nilsl]) ∧ (∃ (g : Nat) (w0 : AV), q (.t 5) = .ptr (.site 1 5 0) g 0 ∧ q (.i (.site 1 5 0)) = .box g [w0] ∧ (ownAt q w0 (.site 1 0 0) false 4 xb1_5_0_0.length (es_api_Member xb1_5_0_0)))
def Q_make_BentConfig_0 (y12 : (Int × S_trustquorummake_Tape)) (xb1_5_0_0 : (List S_api_Member)) (q : St) : Prop := (q (.i (.arg 0)) = .box 0 [(.pv (.sl y12.2.f0.length (ints y12.2.f0))), (i64 y12.2.f1)]) ∧ (∃ (g : Nat), q (.t 4) = .ptr (.site 0 1 0) g 0 ∧ q (.i (.site 0 1 0)) = .box g [.nilsl]) ∧ (∃ (g : Nat) (w0 : AV), q (.t 5) = .ptr (.site 1 5 0) g 0 ∧ q (.i (.site 1 5 0)) = .box g [w0] ∧ (ownAt q w0 (.site 1 0 0) false 4 xb1_5_0_0.length (es_api_Member xb1_5_0_0)))
theorem Pb_make_BentConfig_0 {y12 : (Int × S_trustquorummake_Tape)} {xb1_5_0_0 : (List S_api_Member)} {q : St} {r : (Stp (List S_api_Member) Unit)} (hI : I_make_BentConfig_0 y12 xb1_5_0_0 q) (hB : B_make_BentConfig_0 y12 xb1_5_0_0 = some r) : Res (C Tryd.prog cf (Code.fst (Code.fst (Code.snd (Code.snd (Code.snd (Code.snd (Code.snd (Code.snd (Code.snd (Code.snd (Code.fst (Code.snd (Code.fst (Code.snd (Code.snd (Code.snd (Code.snd ((Tryd.f23.body).getD .skip)))))))))))))))))) q) (postB 1 (fun a q => I_make_BentConfig_0 y12 a q) (fun a q => Q_make_BentConfig_0 y12 a q) (fun _ _ => False) r) := by
  simp only [I_make_BentConfig_0] at hI
  obtain ⟨q1, ⟨g3, q2, q3⟩, ⟨g5, v5_w0, q4, q5, a5_w0⟩⟩ := hI
  simp only [Code.fst, Code.snd, Tryd.f23, Option.getD_some]
  unfold B_make_BentConfig_0 at hB
  rcases a5_w0 with ⟨ga5_w0, rfl, oa5_w0⟩
  rcases cnd_inv hB with ⟨c30, hB⟩ | ⟨c30, hB⟩
  · have pc30 := eq_true (of_decide_eq_true c30)
    have nc30 := c30
    try simp only [List.length_nil, List.length_cons, Int.cast_ofNat_Int, Int.natCast_zero, Nat.zero_add, Nat.reduceAdd, Int.reduceLT, Int.reduceLE, Int.reduceEq, eq_self, decide_true, decide_false, Bool.true_eq_false, Bool.false_eq_true] at nc30
    all_goals
      obtain ⟨L31, a32, hB⟩ := kb_inv hB
      obtain ⟨a32z, a32a, a32y⟩ := appK_inv a32
      try (simp only [List.nil_append] at a32z; subst a32z)
      have a32b := appK_len a32
      have a32c := es_api_Member_appK a32
      have a32d := appK_le a32
      try simp only [Int.cast_ofNat_Int, Int.natCast_zero, List.length_cons, List.length_nil, List.nil_append, List.cons_append, Nat.zero_add, Nat.reduceAdd, Tru.thr_mk, Tru.nodes_mk, Tru.inner_mk, ints_cons, ints_nil, encTs_cons, encTs_nil, es_api_Config_cons, es_api_Config_nil, es_api_Member_cons, es_api_Member_nil] at a32a a32b a32c
      try replace a32b : _ = (1 : Nat) := a32b.symm
      try dsimp only at hB
      obtain rfl := Option.some.inj hB
      try simp -implicitDefEqProofs [-getElem?_pos, -Int.ofNat_lt, -Int.ofNat_le, -Int.natCast_eq_zero, -Int.natCast_pos, -List.length_eq_zero_iff, List.getElem?_cons_zero, List.getElem?_cons_succ, List.getElem?_nil, q1, q2, q3, q4, q5, oa5_w0, c30, pc30, nc30, a32a, a32b, a32c, a32d]
      refine Res.bgo ?_
      simp -implicitDefEqProofs [-getElem?_pos, -Int.ofNat_lt, -Int.ofNat_le, -Int.natCast_eq_zero, -Int.natCast_pos, -List.length_eq_zero_iff, List.getElem?_cons_zero, List.getElem?_cons_succ, List.getElem?_nil, and_assoc, I_make_BentConfig_0, ownAt, q1, q2, q3, q4, q5, oa5_w0, c30, pc30, nc30, a32a, a32b, a32c, a32d]
  · have pc30 := eq_false (of_decide_eq_false c30)
    have nc30 := c30
    try simp only [List.length_nil, List.length_cons, Int.cast_ofNat_Int, Int.natCast_zero, Nat.zero_add, Nat.reduceAdd, Int.reduceLT, Int.reduceLE, Int.reduceEq, eq_self, decide_true, decide_false, Bool.true_eq_false, Bool.false_eq_true] at nc30
    all_goals
      obtain rfl := Option.some.inj hB
      try simp -implicitDefEqProofs [-getElem?_pos, -Int.ofNat_lt, -Int.ofNat_le, -Int.natCast_eq_zero, -Int.natCast_pos, -List.length_eq_zero_iff, List.getElem?_cons_zero, List.getElem?_cons_succ, List.getElem?_nil, q1, q2, q3, q4, q5, oa5_w0, c30, pc30, nc30]
      refine Res.bex ?_
      simp -implicitDefEqProofs [-getElem?_pos, -Int.ofNat_lt, -Int.ofNat_le, -Int.natCast_eq_zero, -Int.natCast_pos, -List.length_eq_zero_iff, List.getElem?_cons_zero, List.getElem?_cons_succ, List.getElem?_nil, and_assoc, Q_make_BentConfig_0, ownAt, q1, q2, q3, q4, q5, oa5_w0, c30, pc30, nc30]
theorem P_make_BentConfig_0 {y12 : (Int × S_trustquorummake_Tape)} {xb1_5_0_0 : (List S_api_Member)} {cc : Code} (hcc : cc = .block 1 (.loop (Code.fst (Code.fst (Code.snd (Code.snd (Code.snd (Code.snd (Code.snd (Code.snd (Code.snd (Code.snd (Code.fst (Code.snd (Code.fst (Code.snd (Code.snd (Code.snd (Code.snd ((Tryd.f23.body).getD .skip)))))))))))))))))))) {s : St} {z : Option (Ex × St)} (hz : C Tryd.prog cf cc s = z) {r : (Stp (List S_api_Member) Unit)} (hI : I_make_BentConfig_0 y12 xb1_5_0_0 s) (hB : iterW (fun a => B_make_BentConfig_0 y12 a) xb1_5_0_0 = some r) : Res z (postS (fun a q => Q_make_BentConfig_0 y12 a q) (fun _ _ => False) r) := by
  subst hcc
  exact while_sim (I := fun a q => I_make_BentConfig_0 y12 a q) (Q := (fun a q => Q_make_BentConfig_0 y12 a q)) (QR := (fun _ _ => False)) (fun a q r h hB => Pb_make_BentConfig_0 h hB) hI hz hB
noncomputable def B_make_BentConfig (p0 : S_trustquorummake_Tape) (p1 : S_api_Config) : Option (S_api_Config × S_trustquorummake_Tape) :=
  kb (appK ([] : List S_api_Member) p1.f0 64) fun L1 =>
  cnd (decide ((L1.length : Int) = 0)) (
    kb (G_make_Tape_Pick p0 ([1, 10, 11] : List Int)) fun y4 =>
    kb (makeK (S_api_Member.mk false (Tru.mk 0 ([] : (List Int)) ([] : (List Tru)))) y4.1 64) fun L6 =>
    some ((S_api_Config.mk L6), y4.2)) (
    kb (G_make_Tape_N p0 (L1.length : Int)) fun y8 =>
    kb (getI L1 y8.1) fun x10 =>
    kb (G_make_Tape_N y8.2 5) fun y12 =>
    cnd (decide (y12.1 = 0)) (
      kb (setK L1 y8.1 (S_api_Member.mk (!x10.f0) x10.f1)) fun L16 =>
      some ((S_api_Config.mk L16), y12.2)) (
      cnd (decide (y12.1 = 1)) (
        kb (G_make_BentTrust y12.2 x10.f1) fun y20 =>
        kb (setK L1 y8.1 (S_api_Member.mk x10.f0 y20.1)) fun L22 =>
        some ((S_api_Config.mk L22), y20.2)) (
        cnd (decide (y12.1 = 2)) (
          kb (setK L1 y8.1 (S_api_Member.mk x10.f0 (Tru.mk 1 ([(L1.length : Int)] : List Int) ([] : (List Tru))))) fun L25 =>
          some ((S_api_Config.mk L25), y12.2)) (
          cnd (decide (y12.1 = 3)) (
            kb (partK L1 0 (sub64 (L1.length : Int) 1)) fun L28 =>
            some ((S_api_Config.mk L28), y12.2)) (
            kb (iterW (fun a => B_make_BentConfig_0 y12 a) L1) fun o => stpK o (fun z33 =>
              some ((S_api_Config.mk z33), y12.2)) (fun z33r =>
              none))))))
theorem sim_make_BentConfig {p0 : S_trustquorummake_Tape} {p1 : S_api_Config} {r : (S_api_Config × S_trustquorummake_Tape)} (hB : B_make_BentConfig p0 p1 = some r) : R 23 [.ptr (.arg 0) 0 0, (.agg [(.pv (.sl p1.f0.length (es_api_Member p1.f0)))])] [.box 0 [(.pv (.sl p0.f0.length (ints p0.f0))), (i64 p0.f1)]] = some ((.agg [(.pv (.sl r.1.f0.length (es_api_Member r.1.f0)))]), [.box 0 [(.pv (.sl r.2.f0.length (ints r.2.f0))), (i64 r.2.f1)]], []) := by
  rw [R_eq _ _ _ fn_make_BentConfig]
  simp only [Code.fst, Code.snd, Tryd.f23, Option.getD_some]
  generalize hc0 : Code.block 1 _ = cc0
  unfold B_make_BentConfig at hB
  obtain ⟨L1, a2, hB⟩ := kb_inv hB
  obtain ⟨a2z, a2a, a2y⟩ := appK_inv a2
  try (simp only [List.nil_append] at a2z; subst a2z)
  have a2b := appK_len a2
  have a2c := es_api_Member_appK a2
  have a2d := appK_le a2
  try dsimp only at hB
  rcases cnd_inv hB with ⟨c3, hB⟩ | ⟨c3, hB⟩
  · have pc3 := eq_true (of_decide_eq_true c3)
    have nc3 := c3
    try simp only [List.length_nil, List.length_cons, Int.cast_ofNat_Int, Int.natCast_zero, Nat.zero_add, Nat.reduceAdd, Int.reduceLT, Int.reduceLE, Int.reduceEq, eq_self, decide_true, decide_false, Bool.true_eq_false, Bool.false_eq_true] at nc3
    all_goals
      obtain ⟨y4, k5, hB⟩ := kb_inv hB
      replace k5 := run_make_Tape_Pick k5
      try simp only [Int.cast_ofNat_Int, Int.natCast_zero, List.length_cons, List.length_nil, List.nil_append, List.cons_append, Nat.zero_add, Nat.reduceAdd, Tru.thr_mk, Tru.nodes_mk, Tru.inner_mk, ints_cons, ints_nil, encTs_cons, encTs_nil, es_api_Config_cons, es_api_Config_nil, es_api_Member_cons, es_api_Member_nil] at k5
      try dsimp only at hB
      obtain ⟨L6, m7, hB⟩ := kb_inv hB
      obtain ⟨m7a, m7b, m7c, m7g, m7e⟩ := makeK_inv m7
      try simp only [Int.cast_ofNat_Int] at m7b
      have m7d := es_api_Member_make m7e
      try simp only [Tru.thr_mk, Tru.nodes_mk, Tru.inner_mk, List.length_nil, ints_nil, encTs_nil, m7g] at m7d
      try dsimp only at hB
      obtain rfl := Option.some.inj hB
      simp -implicitDefEqProofs [-getElem?_pos, -Int.ofNat_lt, -Int.ofNat_le, -Int.natCast_eq_zero, -Int.natCast_pos, -List.length_eq_zero_iff, List.getElem?_cons_zero, List.getElem?_cons_succ, List.getElem?_nil, a2a, a2b, a2c, a2d, c3, pc3, nc3, k5, m7a, m7b, m7c, m7d, m7g]
  · have pc3 := eq_false (of_decide_eq_false c3)
    have nc3 := c3
    try simp only [List.length_nil, List.length_cons, Int.cast_ofNat_Int, Int.natCast_zero, Nat.zero_add, Nat.reduceAdd, Int.reduceLT, Int.reduceLE, Int.reduceEq, eq_self, decide_true, decide_false, Bool.true_eq_false, Bool.false_eq_true] at nc3
    all_goals
      obtain ⟨y8, k9, hB⟩ := kb_inv hB
      replace k9 := run_make_Tape_N k9
      try simp only [Int.cast_ofNat_Int, Int.natCast_zero, List.length_cons, List.length_nil, List.nil_append, List.cons_append, Nat.zero_add, Nat.reduceAdd, Tru.thr_mk, Tru.nodes_mk, Tru.inner_mk, ints_cons, ints_nil, encTs_cons, encTs_nil, es_api_Config_cons, es_api_Config_nil, es_api_Member_cons, es_api_Member_nil] at k9
      try dsimp only at hB
      obtain ⟨x10, h11, hB⟩ := kb_inv hB
      obtain ⟨h11a, h11b, h11c, h11d⟩ := getI_inv h11
      try simp only [Int.toNat_natCast, Int.reduceToNat] at h11c
      try dsimp only at hB
      obtain ⟨y12, k13, hB⟩ := kb_inv hB
      replace k13 := run_make_Tape_N k13
      try simp only [Int.cast_ofNat_Int, Int.natCast_zero, List.length_cons, List.length_nil, List.nil_append, List.cons_append, Nat.zero_add, Nat.reduceAdd, Tru.thr_mk, Tru.nodes_mk, Tru.inner_mk, ints_cons, ints_nil, encTs_cons, encTs_nil, es_api_Config_cons, es_api_Config_nil, es_api_Member_cons, es_api_Member_nil] at k13
      try dsimp only at hB
      rcases cnd_inv hB with ⟨c14, hB⟩ | ⟨c14, hB⟩
      · have pc14 := eq_true (of_decide_eq_true c14)
        have l15 := es_api_Member_at0 h11c
        obtain ⟨L16, s17, hB⟩ := kb_inv hB
        obtain ⟨s17a, s17b, s17c, s17d, s17e, s17g, s17f⟩ := es_api_Member_put_0_1 h11c s17
        try simp only [Int.cast_ofNat_Int, Int.natCast_zero, List.length_cons, List.length_nil, List.nil_append, List.cons_append, Nat.zero_add, Nat.reduceAdd, Tru.thr_mk, Tru.nodes_mk, Tru.inner_mk, ints_cons, ints_nil, encTs_cons, encTs_nil, es_api_Config_cons, es_api_Config_nil, es_api_Member_cons, es_api_Member_nil] at s17d
        try dsimp only at hB
        obtain rfl := Option.some.inj hB
        simp -implicitDefEqProofs [-getElem?_pos, -Int.ofNat_lt, -Int.ofNat_le, -Int.natCast_eq_zero, -Int.natCast_pos, -List.length_eq_zero_iff, List.getElem?_cons_zero, List.getElem?_cons_succ, List.getElem?_nil, a2a, a2b, a2c, a2d, c3, pc3, nc3, k9, h11a, h11b, h11c, h11d, k13, c14, pc14, l15, s17a, s17b, s17c, s17d, s17e, s17g, s17f]
        rw [drawK_ok _ _ _ (by kernel_rfl)]
        simp -implicitDefEqProofs [-getElem?_pos, -Int.ofNat_lt, -Int.ofNat_le, -Int.natCast_eq_zero, -Int.natCast_pos, -List.length_eq_zero_iff, List.getElem?_cons_zero, List.getElem?_cons_succ, List.getElem?_nil, a2a, a2b, a2c, a2d, c3, pc3, nc3, k9, h11a, h11b, h11c, h11d, k13, c14, pc14, l15, s17a, s17b, s17c, s17d, s17e, s17g, s17f]
      · have pc14 := eq_false (of_decide_eq_false c14)
        rcases cnd_inv hB with ⟨c18, hB⟩ | ⟨c18, hB⟩
        · have pc18 := eq_true (of_decide_eq_true c18)
          have l19 := es_api_Member_sub1 h11c
          obtain ⟨y20, k21, hB⟩ := kb_inv hB
          replace k21 := run_make_BentTrust k21
          try simp only [Int.cast_ofNat_Int, Int.natCast_zero, List.length_cons, List.length_nil, List.nil_append, List.cons_append, Nat.zero_add, Nat.reduceAdd, Tru.thr_mk, Tru.nodes_mk, Tru.inner_mk, ints_cons, ints_nil, encTs_cons, encTs_nil, es_api_Config_cons, es_api_Config_nil, es_api_Member_cons, es_api_Member_nil] at k21
          try dsimp only at hB
          obtain ⟨L22, s23, hB⟩ := kb_inv hB
          obtain ⟨s23a, s23b, s23c, s23d, s23e, s23g, s23f⟩ := es_api_Member_put_1_3 h11c s23
          try simp only [Int.cast_ofNat_Int, Int.natCast_zero, List.length_cons, List.length_nil, List.nil_append, List.cons_append, Nat.zero_add, Nat.reduceAdd, Tru.thr_mk, Tru.nodes_mk, Tru.inner_mk, ints_cons, ints_nil, encTs_cons, encTs_nil, es_api_Config_cons, es_api_Config_nil, es_api_Member_cons, es_api_Member_nil] at s23d
          try dsimp only at hB
          obtain rfl := Option.some.inj hB
          simp -implicitDefEqProofs [-getElem?_pos, -Int.ofNat_lt, -Int.ofNat_le, -Int.natCast_eq_zero, -Int.natCast_pos, -List.length_eq_zero_iff, List.getElem?_cons_zero, List.getElem?_cons_succ, List.getElem?_nil, a2a, a2b, a2c, a2d, c3, pc3, nc3, k9, h11a, h11b, h11c, h11d, k13, c14, pc14, c18, pc18, l19, k21, s23a, s23b, s23c, s23d, s23e, s23g, s23f]
          rw [drawK_ok _ _ _ (by kernel_rfl)]
          simp -implicitDefEqProofs [-getElem?_pos, -Int.ofNat_lt, -Int.ofNat_le, -Int.natCast_eq_zero, -Int.natCast_pos, -List.length_eq_zero_iff, List.getElem?_cons_zero, List.getElem?_cons_succ, List.getElem?_nil, a2a, a2b, a2c, a2d, c3, pc3, nc3, k9, h11a, h11b, h11c, h11d, k13, c14, pc14, c18, pc18, l19, k21, s23a, s23b, s23c, s23d, s23e, s23g, s23f]
        · have pc18 := eq_false (of_decide_eq_false c18)
          rcases cnd_inv hB with ⟨c24, hB⟩ | ⟨c24, hB⟩
          · have pc24 := eq_true (of_decide_eq_true c24)
            obtain ⟨L25, s26, hB⟩ := kb_inv hB
            obtain ⟨s26a, s26b, s26c, s26d, s26e, s26g, s26f⟩ := es_api_Member_put_1_3 h11c s26
            try simp only [Int.cast_ofNat_Int, Int.natCast_zero, List.length_cons, List.length_nil, List.nil_append, List.cons_append, Nat.zero_add, Nat.reduceAdd, Tru.thr_mk, Tru.nodes_mk, Tru.inner_mk, ints_cons, ints_nil, encTs_cons, encTs_nil, es_api_Config_cons, es_api_Config_nil, es_api_Member_cons, es_api_Member_nil] at s26d
            try dsimp only at hB
            obtain rfl := Option.some.inj hB
            simp -implicitDefEqProofs [-getElem?_pos, -Int.ofNat_lt, -Int.ofNat_le, -Int.natCast_eq_zero, -Int.natCast_pos, -List.length_eq_zero_iff, List.getElem?_cons_zero, List.getElem?_cons_succ, List.getElem?_nil, a2a, a2b, a2c, a2d, c3, pc3, nc3, k9, h11a, h11b, h11c, h11d, k13, c14, pc14, c18, pc18, c24, pc24, s26a, s26b, s26c, s26d, s26e, s26g, s26f]
            rw [drawK_ok _ _ _ (by kernel_rfl)]
            simp -implicitDefEqProofs [-getElem?_pos, -Int.ofNat_lt, -Int.ofNat_le, -Int.natCast_eq_zero, -Int.natCast_pos, -List.length_eq_zero_iff, List.getElem?_cons_zero, List.getElem?_cons_succ, List.getElem?_nil, a2a, a2b, a2c, a2d, c3, pc3, nc3, k9, h11a, h11b, h11c, h11d, k13, c14, pc14, c18, pc18, c24, pc24, s26a, s26b, s26c, s26d, s26e, s26g, s26f]
          · have pc24 := eq_false (of_decide_eq_false c24)
            rcases cnd_inv hB with ⟨c27, hB⟩ | ⟨c27, hB⟩
            · have pc27 := eq_true (of_decide_eq_true c27)
              obtain ⟨L28, q29, hB⟩ := kb_inv hB
              obtain ⟨q29a, q29b, q29c, q29d, q29e, q29f, q29g⟩ := es_api_Member_part_h q29
              try dsimp only at hB
              obtain rfl := Option.some.inj hB
              simp -implicitDefEqProofs [-getElem?_pos, -Int.ofNat_lt, -Int.ofNat_le, -Int.natCast_eq_zero, -Int.natCast_pos, -List.length_eq_zero_iff, List.getElem?_cons_zero, List.getElem?_cons_succ, List.getElem?_nil, a2a, a2b, a2c, a2d, c3, pc3, nc3, k9, h11a, h11b, h11c, h11d, k13, c14, pc14, c18, pc18, c24, pc24, c27, pc27, q29a, q29b, q29c, q29d, q29e, q29f, q29g]
              rw [drawK_ok _ _ _ (by kernel_rfl)]
              simp -implicitDefEqProofs [-getElem?_pos, -Int.ofNat_lt, -Int.ofNat_le, -Int.natCast_eq_zero, -Int.natCast_pos, -List.length_eq_zero_iff, List.getElem?_cons_zero, List.getElem?_cons_succ, List.getElem?_nil, a2a, a2b, a2c, a2d, c3, pc3, nc3, k9, h11a, h11b, h11c, h11d, k13, c14, pc14, c18, pc18, c24, pc24, c27, pc27, q29a, q29b, q29c, q29d, q29e, q29f, q29g]
            · have pc27 := eq_false (of_decide_eq_false c27)
              try simp -implicitDefEqProofs [-getElem?_pos, -Int.ofNat_lt, -Int.ofNat_le, -Int.natCast_eq_zero, -Int.natCast_pos, -List.length_eq_zero_iff, List.getElem?_cons_zero, List.getElem?_cons_succ, List.getElem?_nil, a2a, a2b, a2c, a2d, c3, pc3, nc3, k9, h11a, h11b, h11c, h11d, k13, c14, pc14, c18, pc18, c24, pc24, c27, pc27]
              rw [drawK_ok _ _ _ (by kernel_rfl)]
              simp -implicitDefEqProofs [-getElem?_pos, -Int.ofNat_lt, -Int.ofNat_le, -Int.natCast_eq_zero, -Int.natCast_pos, -List.length_eq_zero_iff, List.getElem?_cons_zero, List.getElem?_cons_succ, List.getElem?_nil, a2a, a2b, a2c, a2d, c3, pc3, nc3, k9, h11a, h11b, h11c, h11d, k13, c14, pc14, c18, pc18, c24, pc24, c27, pc27]
              generalize hz0 : C Tryd.prog cf cc0 _ = z0
              obtain ⟨o, hB1, hB⟩ := kb_inv hB
              have hJ := P_make_BentConfig_0 (hc0.symm.trans (by kernel_rfl)) hz0 (by simp -implicitDefEqProofs [-getElem?_pos, -Int.ofNat_lt, -Int.ofNat_le, -Int.natCast_eq_zero, -Int.natCast_pos, -List.length_eq_zero_iff, List.getElem?_cons_zero, List.getElem?_cons_succ, List.getElem?_nil, and_assoc, I_make_BentConfig_0, ownAt, a2a, a2b, a2c, a2d, c3, pc3, nc3, k9, h11a, h11b, h11c, h11d, k13, c14, pc14, c18, pc18, c24, pc24, c27, pc27]) hB1
              obtain ⟨e0, s0, rfl, hq⟩ := hJ.open
              clear hB1
              rcases o with z33 | ⟨_, _⟩ | z33r
              · simp only [stpK_go] at hB
                obtain ⟨rfl, hq⟩ := hq
                simp only [Q_make_BentConfig_0] at hq
                obtain ⟨q33_1, ⟨g33_3, q33_2, q33_3⟩, ⟨g33_5, v33_5_w0, q33_4, q33_5, a33_5_w0⟩⟩ := hq
                rcases a33_5_w0 with ⟨ga33_5_w0, rfl, oa33_5_w0⟩
                obtain rfl := Option.some.inj hB
                simp -implicitDefEqProofs [-getElem?_pos, -Int.ofNat_lt, -Int.ofNat_le, -Int.natCast_eq_zero, -Int.natCast_pos, -List.length_eq_zero_iff, List.getElem?_cons_zero, List.getElem?_cons_succ, List.getElem?_nil, q33_1, q33_2, q33_3, q33_4, q33_5, oa33_5_w0, a2a, a2b, a2c, a2d, c3, pc3, nc3, k9, h11a, h11b, h11c, h11d, k13, c14, pc14, c18, pc18, c24, pc24, c27, pc27]
              · exact hq.elim
              · cases hB
theorem g_make_BentConfig {p0 : S_trustquorummake_Tape} {p1 : S_api_Config} {r : (S_api_Config × S_trustquorummake_Tape)} (hB : B_make_BentConfig p0 p1 = some r) : G_make_BentConfig p0 p1 = some r := dec_of (fun a b h => by rcases a with ⟨⟨a0_0⟩, ⟨a1_0, a1_1⟩⟩; rcases b with ⟨⟨b0_0⟩, ⟨b1_0, b1_1⟩⟩; simp at h; simp [*]) (sim_make_BentConfig hB)
end Go.Am

/-
Plain laws: trusts and configurations that are bent.
-/
namespace Go.Am
open Go
set_option linter.unusedVariables false
set_option linter.unusedSimpArgs false

/-- small, and the numbers are ints -/
def Tru.Wee (m : Nat) (x : Tru) : Prop := x.size ≤ m ∧ x.Ok
theorem sizes_set : ∀ (l : List Tru) (j : Nat) (y z : Tru), l[j]? = some y → sizes (l.set j z) + y.size = sizes l + z.size
  | [], j, y, z, h => by simp at h
  | x :: r, 0, y, z, h => by
    simp at h; subst h
    simp only [List.set_cons_zero, sizes]; omega
  | x :: r, j + 1, y, z, h => by
    have := sizes_set r j y z (by simpa using h)
    simp only [List.set_cons_succ, sizes]; omega
theorem Oks_app {a b : List Tru} (ha : Oks a) (hb : Oks b) : Oks (a ++ b) := by
  rw [Oks_iff] at ha hb ⊢
  intro x hx
  rcases List.mem_append.1 hx with h | h
  · exact ha x h
  · exact hb x h
theorem Ok0 : Oks [Tru.mk 0 [] []] := ⟨⟨by unfold in64; omega, fun k hk => (by cases hk), trivial⟩, trivial⟩
theorem s_BentTrust : ∀ x : Tru, ∀ M : Nat, x.Wee M → M ≤ 1000000 → ∀ t : Tape, Tp t → ∃ y t', G_make_BentTrust t x = some (y, t') ∧ y.Wee (M + 250) ∧ Tp t' := by
  refine tru_ind fun u n i ih M h hM t ht => ?_
  obtain ⟨hs, ho⟩ := h
  rw [size_mk] at hs
  have ho' := (Ok_eq _).1 ho
  simp only [Tru.nodes_mk, Tru.inner_mk, Tru.thr_mk] at ho'
  obtain ⟨ou, on, oi⟩ := ho'
  have hfirst : ∃ (b : Bool) (tp : Tape), B_make_BentTrust_0 t (.mk u n i) = some (tp.f0, tp.f1, b) ∧ Tp tp ∧ (b = true → 1 ≤ i.length) := by
    unfold B_make_BentTrust_0
    rw [Tru.inner_mk]
    by_cases c : 0 < (i.length : Int)
    · obtain ⟨v, t', g1, gv, gt⟩ := s_N ht (n := 2) (by omega) (by omega)
      exact ⟨decide (v = 1), t', by simp only [c, decide_true, cnd_true, g1, kb_some], gt, fun _ => by omega⟩
    · exact ⟨false, t, by simp only [c, decide_false, cnd_false], ht, fun h => by cases h⟩
  obtain ⟨b, tp, e0, ht0, hb⟩ := hfirst
  have hB : ∃ y t', B_make_BentTrust t (.mk u n i) = some (y, t') ∧ y.Wee (M + 250) ∧ Tp t' := by
    unfold B_make_BentTrust
    rw [e0, kb_some]
    dsimp only
    simp only [Tru.nodes_mk, Tru.inner_mk, Tru.thr_mk]
    cases b
    case true =>
      have hi1 := hb rfl
      rw [cnd_true, appK_some (by simp; omega), kb_some, List.nil_append]
      obtain ⟨v, t1, e1, hv, ht1⟩ := s_N (t := ⟨tp.f0, tp.f1⟩) ht0 (n := (i.length : Int)) (by omega) (by omega)
      have hlt : v.toNat < i.length := by omega
      have hmem : i[v.toNat] ∈ i := List.getElem_mem _
      obtain ⟨y, t2, e2, hy, ht2⟩ := ih _ hmem (i[v.toNat]).size ⟨Nat.le_refl _, Oks_mem hmem oi⟩ (by have := sizes_mem hmem; omega) t1 ht1
      have hset := sizes_set i v.toNat _ y (List.getElem?_eq_getElem hlt)
      refine ⟨.mk u n (i.set v.toNat y), t2, ?_, ⟨?_, ?_⟩, ht2⟩
      · rw [e1, kb_some, getI_some hv.1 hlt, kb_some, e2, kb_some, setK_some hv.1 hv.2, kb_some]
      · rw [size_mk, List.length_set]; have := hy.1; omega
      · rw [Ok_eq]
        refine ⟨ou, on, Oks_iff.2 fun z hz => ?_⟩
        rw [Tru.inner_mk] at hz
        rcases List.mem_or_eq_of_mem_set hz with hz | rfl
        · exact Oks_mem hz oi
        · exact hy.2
    case false =>
      rw [cnd_false]
      obtain ⟨v, t1, e1, hv, ht1⟩ := s_N (t := ⟨tp.f0, tp.f1⟩) ht0 (n := 6) (by omega) (by omega)
      rw [e1, kb_some]
      dsimp only
      by_cases c0 : v = 0
      · simp only [c0, decide_true, cnd_true]
        have ea : add64 (n.length : Int) (i.length : Int) = n.length + i.length := add64_of (by omega) (by omega)
        rw [ea, add64_of (by omega) (by omega)]
        obtain ⟨w, t2, e2, hw, ht2⟩ := s_Pick ht1 (l := [0, -1, (n.length : Int) + i.length, (n.length : Int) + i.length + 1]) (by simp) (by simp)
        refine ⟨.mk w n i, t2, by rw [e2, kb_some], ⟨by rw [size_mk]; omega, ?_, on, oi⟩, ht2⟩
        simp at hw; unfold in64; omega
      simp only [c0, decide_false, cnd_false]
      by_cases c1 : v = 1
      · simp only [c1, decide_true, cnd_true]
        rw [appK_some (by simp; omega), kb_some, List.nil_append]
        obtain ⟨w, t2, e2, hw, ht2⟩ := s_Pick ht1 (l := [-1, 0, 9, 10]) (by simp) (by simp)
        refine ⟨.mk u (n ++ [w]) i, t2, by rw [e2, kb_some, appK_some (by simp; omega), kb_some], ⟨by rw [size_mk]; simp; omega, ou, fun k hk => ?_, oi⟩, ht2⟩
        rcases List.mem_append.1 hk with hk | hk
        · exact on k hk
        · simp at hw hk; unfold in64; omega
      simp only [c1, decide_false, cnd_false]
      by_cases c2 : v = 2
      · simp only [c2, decide_true, cnd_true]
        exact ⟨.mk u [] i, t1, rfl, ⟨by rw [size_mk]; simp; omega, ou, fun k hk => (by cases hk), oi⟩, ht1⟩
      simp only [c2, decide_false, cnd_false]
      by_cases c3 : v = 3
      · simp only [c3, decide_true, cnd_true]
        rw [appK_some (by simp; omega), kb_some, List.nil_append]
        refine ⟨.mk u n (i ++ [.mk 0 [] []]), t1, by rw [appK_some (by simp; omega), kb_some], ⟨?_, ou, on, Oks_app oi Ok0⟩, ht1⟩
        rw [size_mk, sizes_app]; simp [sizes, Tru.size]; omega
      simp only [c3, decide_false, cnd_false]
      by_cases c4 : v = 4
      · simp only [c4, decide_true, cnd_true]
        obtain ⟨w, t2, e2, hw, ht2⟩ := s_Range ht1 (a := 1) (b := 4) (by omega) (by omega) (by omega)
        rw [e2, kb_some]
        have hloop := iterW_spec (A := Int × List Int × List Tru × Int) (R := Unit) (f := fun a => B_make_BentTrust_1 (w, t2) a.1 a.2.1 a.2.2.1 a.2.2.2)
          (fun k a => (0 ≤ a.2.2.2 ∧ a.2.2.2 ≤ 4 ∧ k = a.2.2.2.toNat) ∧ (Tru.mk a.1 a.2.1 a.2.2.1).Wee (M + 4 * (4 - a.2.2.2.toNat)))
          (fun x => ∃ a : Int × List Int × List Tru × Int, x = .go a ∧ (Tru.mk a.1 a.2.1 a.2.2.1).Wee (M + 250)) (by
            rintro k ⟨a, l, r, j⟩ ⟨⟨hj0, hj4, hk⟩, hw⟩
            dsimp only at hj0 hj4 hk hw
            by_cases c : 0 < j
            · left
              refine ⟨(1, [], [.mk a l r], j - 1), (j - 1).toNat, ?_, by omega, ⟨by show 0 ≤ j - 1; omega, by show j - 1 ≤ 4; omega, rfl⟩, ⟨?_, ?_⟩⟩
              · unfold B_make_BentTrust_1
                simp only [c, decide_true, cnd_true]
                rw [sub64_of (by omega) (by omega)]
              · have := hw.1
                dsimp only
                rw [size_mk] at this ⊢
                simp only [sizes, size_mk, List.length_nil, List.length_cons]
                omega
              · exact ⟨by unfold in64; omega, fun k hk => (by cases hk), hw.2, trivial⟩
            · right; left
              refine ⟨3, (a, l, r, j), ?_, (a, l, r, j), rfl, by have := hw.1; dsimp only; omega, hw.2⟩
              unfold B_make_BentTrust_1
              simp only [c, decide_false, cnd_false]) w.toNat (u, n, i, w) ⟨⟨by show 0 ≤ w; omega, by show w ≤ 4; omega, rfl⟩, by dsimp only; rw [size_mk]; omega, ho⟩
        obtain ⟨_, e3, a, rfl, ha⟩ := hloop
        exact ⟨_, t2, by rw [e3, kb_some, stpK_go], ha, ht2⟩
      simp only [c4, decide_false, cnd_false]
      obtain ⟨w, t2, e2, hw, ht2⟩ := s_Pick ht1 (l := [20, 60, 101]) (by simp) (by simp)
      rw [e2, kb_some]
      have hw2 : 0 ≤ w ∧ w ≤ 101 := by simp at hw; omega
      have hloop := iterW_spec (A := List Tru × Int) (R := Unit) (f := fun a => B_make_BentTrust_2 t2.f0 t2.f1 (.mk u n i) a.1 a.2)
        (fun k a => (0 ≤ a.2 ∧ a.1.length + a.2 ≤ 101 ∧ k = a.2.toNat) ∧ (sizes a.1 ≤ a.1.length ∧ Oks a.1))
        (fun x => ∃ a : List Tru × Int, x = .go a ∧ a.1.length ≤ 101 ∧ (sizes a.1 ≤ a.1.length ∧ Oks a.1)) (by
          rintro k ⟨l, j⟩ ⟨⟨hj0, hj4, hk⟩, hl1, hl2⟩
          dsimp only at hj0 hj4 hk hl1 hl2
          by_cases c : 0 < j
          · left
            have hm1 : j.tmod 10 < 10 := Int.tmod_lt_of_pos _ (by omega)
            have hm2 : -10 < j.tmod 10 := Int.lt_tmod_of_pos j (b := 10) (by omega)
            refine ⟨(l ++ [.mk 1 [j.tmod 10] []], j - 1), (j - 1).toNat, ?_, by omega, ⟨by show 0 ≤ j - 1; omega, by simp; omega, rfl⟩, ?_, ?_⟩
            · unfold B_make_BentTrust_2
              simp only [c, decide_true, cnd_true]
              rw [appK_some (by simp; omega), kb_some, sub64_of (by omega) (by omega)]
            · dsimp only
              rw [sizes_app]; simp [sizes, Tru.size]; omega
            · exact Oks_app hl2 ⟨⟨by unfold in64; omega, fun k hk => by simp at hk; unfold in64; omega, trivial⟩, trivial⟩
          · right; left
            refine ⟨1, (l, j), ?_, (l, j), rfl, by show l.length ≤ 101; omega, hl1, hl2⟩
            unfold B_make_BentTrust_2
            simp only [c, decide_false, cnd_false]) w.toNat ([], w) ⟨⟨by show 0 ≤ w; omega, by simp; omega, rfl⟩, by simp [sizes], trivial⟩
      obtain ⟨_, e3, ⟨L, j⟩, rfl, hL1, hL2, hL3⟩ := hloop
      dsimp only at hL1 hL2 hL3
      refine ⟨.mk u n (L ++ i), t2, ?_, ⟨?_, ou, on, Oks_app hL3 oi⟩, ht2⟩
      · rw [e3, kb_some, stpK_go]
        dsimp only
        rw [appK_some (by omega), kb_some]
      · rw [size_mk, sizes_app, List.length_append]; omega
  obtain ⟨y, t', h1, h2, h3⟩ := hB
  exact ⟨y, t', g_make_BentTrust h1, h2, h3⟩
theorem wee_fine {m : Nat} {x : Tru} (h : x.Wee m) (hm : m < 1073741824) : x.Fine := ⟨by have := h.1; omega, h.2⟩
def CWee (m : Nat) (c : Conf) : Prop := c.f0.length ≤ 30 ∧ ∀ x ∈ c.f0, x.f1.Wee m
theorem cwee_fine {m : Nat} {c : Conf} (h : CWee m c) (hm : m < 1073741824) : c.Fine := ⟨by have := h.1; omega, fun x hx => Go.Am.wee_fine (h.2 x hx) hm⟩
theorem mem0_wee : (Tru.mk 0 [] []).Wee 0 := ⟨by simp [size_mk, sizes], by unfold in64; omega, fun k hk => (by cases hk), trivial⟩
theorem Tru.Wee.mono {a b : Nat} {x : Tru} (h : x.Wee a) (hb : a ≤ b) : x.Wee b := ⟨Nat.le_trans h.1 hb, h.2⟩
theorem s_BentConfig {c : Conf} {M : Nat} (h1 : 1 ≤ c.f0.length) (h2 : c.f0.length ≤ 11) (hm : ∀ x ∈ c.f0, x.f1.Wee M) (hM : M ≤ 1000000) {t : Tape} (ht : Tp t) : ∃ d t', G_make_BentConfig t c = some (d, t') ∧ CWee (M + 250) d ∧ Tp t' := by
  obtain ⟨l⟩ := c
  dsimp only at h1 h2 hm
  have hB : ∃ d t', B_make_BentConfig t ⟨l⟩ = some (d, t') ∧ CWee (M + 250) d ∧ Tp t' := by
    unfold B_make_BentConfig
    dsimp only
    rw [appK_some (by simp; omega), kb_some, List.nil_append]
    have hne : ¬ (l.length : Int) = 0 := by omega
    simp only [hne, decide_false, cnd_false]
    obtain ⟨v, t1, e1, hv, ht1⟩ := s_N ht (n := (l.length : Int)) (by omega) (by omega)
    have hlt : v.toNat < l.length := by omega
    rw [e1, kb_some, getI_some hv.1 hlt, kb_some]
    have hx := hm _ (List.getElem_mem hlt)
    generalize hxe : l[v.toNat] = x at hx
    obtain ⟨w, t2, e2, hw, ht2⟩ := s_N ht1 (n := 5) (by omega) (by omega)
    rw [e2, kb_some]
    dsimp only
    have put : ∀ (b : Bool) (z : Tru), z.Wee (M + 250) → CWee (M + 250) ⟨l.set v.toNat ⟨b, z⟩⟩ := by
      intro b z hz
      refine ⟨by simp; omega, fun y hy => ?_⟩
      rcases List.mem_or_eq_of_mem_set hy with hy | rfl
      · exact (hm y hy).mono (by omega)
      · exact hz
    by_cases c0 : w = 0
    · simp only [c0, decide_true, cnd_true]
      rw [setK_some hv.1 hv.2, kb_some]
      exact ⟨_, t2, rfl, put _ _ (hx.mono (by omega)), ht2⟩
    simp only [c0, decide_false, cnd_false]
    by_cases c1 : w = 1
    · simp only [c1, decide_true, cnd_true]
      obtain ⟨y, t3, e3, hy, ht3⟩ := s_BentTrust x.f1 M hx hM t2 ht2
      rw [e3, kb_some, setK_some hv.1 hv.2, kb_some]
      exact ⟨_, t3, rfl, put _ _ hy, ht3⟩
    simp only [c1, decide_false, cnd_false]
    by_cases c2 : w = 2
    · simp only [c2, decide_true, cnd_true]
      rw [setK_some hv.1 hv.2, kb_some]
      refine ⟨_, t2, rfl, put _ _ ⟨by rw [size_mk]; simp [sizes], by unfold in64; omega, fun k hk => by simp at hk; unfold in64; omega, trivial⟩, ht2⟩
    simp only [c2, decide_false, cnd_false]
    by_cases c3 : w = 3
    · simp only [c3, decide_true, cnd_true]
      rw [sub64_of (by omega) (by omega)]
      have : partK l 0 ((l.length : Int) - 1) = some (l.take (l.length - 1)) := by
        unfold partK
        rw [if_pos ⟨by omega, by omega, by omega⟩]
        simp
      rw [this, kb_some]
      exact ⟨_, t2, rfl, ⟨by simp; omega, fun y hy => (hm y (List.mem_of_mem_take hy)).mono (by omega)⟩, ht2⟩
    simp only [c3, decide_false, cnd_false]
    have hloop := iterW_spec (A := List Mem) (R := Unit) (f := fun a => B_make_BentConfig_0 (w, t2) a)
      (fun k a => (a.length ≤ 11 ∧ k = 11 - a.length) ∧ ∀ x ∈ a, x.f1.Wee M)
      (fun x => ∃ a : List Mem, x = .go a ∧ a.length ≤ 11 ∧ ∀ x ∈ a, x.f1.Wee M) (by
        rintro k a ⟨⟨ha, hk⟩, hm⟩
        by_cases c : (a.length : Int) ≤ 10
        · left
          refine ⟨a ++ [mem0], 11 - (a.length + 1), ?_, by omega, ⟨by simp; omega, by simp⟩, fun x hx => ?_⟩
          · unfold B_make_BentConfig_0
            simp only [c, decide_true, cnd_true]
            rw [appK_some (by simp; omega), kb_some]
            rfl
          · rcases List.mem_append.1 hx with hx | hx
            · exact hm x hx
            · obtain rfl := List.mem_singleton.1 hx
              exact mem0_wee.mono (by omega)
        · right; left
          refine ⟨1, a, ?_, a, rfl, ha, hm⟩
          unfold B_make_BentConfig_0
          simp only [c, decide_false, cnd_false]) (11 - l.length) l ⟨⟨h2, rfl⟩, hm⟩
    obtain ⟨_, e3, a, rfl, ha1, ha2⟩ := hloop
    rw [e3, kb_some, stpK_go]
    exact ⟨_, t2, rfl, ⟨by show a.length ≤ 30; omega, fun y hy => (ha2 y hy).mono (by omega)⟩, ht2⟩
  obtain ⟨y, t', h1, h2, h3⟩ := hB
  exact ⟨y, t', g_make_BentConfig h1, h2, h3⟩
end Go.Am

/-
The example of the chapter: the kernel runs it.
-/
namespace Go.Am
open Go Go.Proofs
theorem awake_run : R 16 [] [] = some (bl true, [], []) := (W_iff _ _ _ _).2 ⟨200, by kernel_rfl⟩
theorem s_awake : G_law13_awake = some true := of_law13_awake awake_run
end Go.Am

/-
How trustquorumlaw13.DeletionAnswers runs, as a pure function.
-/
namespace Go.Am
open Go Go.Proofs
set_option linter.unusedVariables false
set_option linter.unusedSimpArgs false
set_option maxRecDepth 4000
set_option maxHeartbeats 4000000
noncomputable def B_law13_DeletionAnswers_0 (p1 : Tru) (p2 : S_api_Config) (p0 : (List Int)) (p3 : Int) (p4 : Int) : Option Bool :=
  kb (G_make_SmallTrust p1) fun y1 =>
  cnd y1 (
    kb (G_make_SmallConfig p2) fun y4 =>
    some (!y4)) (
    some true)
def J_law13_DeletionAnswers_0 (p1 : Tru) (p2 : S_api_Config) (p0 : (List Int)) (p3 : Int) (p4 : Int) (q : St) : Prop := q (.t 0) = (.pv (.sl p0.length (ints p0))) ∧ q (.t 3) = (i64 p3) ∧ q (.t 4) = (i64 p4) ∧ (∃ (g : Nat), q (.t 6) = .ptr (.site 0 0 0) g 0 ∧ q (.i (.site 0 0 0)) = .box g [(i64 p1.thr), (.pv (.sl p1.nodes.length (ints p1.nodes))), (.pv (.sl p1.inner.length (encTs p1.inner)))]) ∧ (∃ (g : Nat), q (.t 7) = .ptr (.site 0 1 0) g 0 ∧ q (.i (.site 0 1 0)) = .box g [(.pv (.sl p2.f0.length (es_api_Member p2.f0)))])
def Q_law13_DeletionAnswers_0 (p1 : Tru) (p2 : S_api_Config) (p0 : (List Int)) (p3 : Int) (p4 : Int) (o29_0 : Bool) (q : St) : Prop := q (.t 0) = (.pv (.sl p0.length (ints p0))) ∧ q (.t 29) = (bl o29_0) ∧ q (.t 3) = (i64 p3) ∧ q (.t 4) = (i64 p4) ∧ (∃ (g : Nat), q (.t 6) = .ptr (.site 0 0 0) g 0 ∧ q (.i (.site 0 0 0)) = .box g [(i64 p1.thr), (.pv (.sl p1.nodes.length (ints p1.nodes))), (.pv (.sl p1.inner.length (encTs p1.inner)))]) ∧ (∃ (g : Nat), q (.t 7) = .ptr (.site 0 1 0) g 0 ∧ q (.i (.site 0 1 0)) = .box g [(.pv (.sl p2.f0.length (es_api_Member p2.f0)))])
theorem P_law13_DeletionAnswers_0 {p1 : Tru} {p2 : S_api_Config} {p0 : (List Int)} {p3 : Int} {p4 : Int} {cc : Code} (hcc : cc = (Code.fst (Code.fst (Code.snd ((Tryd.f5.body).getD .skip))))) {s : St} {z : Option (Ex × St)} (hz : C Tryd.prog cf cc s = z) {r : Bool} (hI : J_law13_DeletionAnswers_0 p1 p2 p0 p3 p4 s) (hB : B_law13_DeletionAnswers_0 p1 p2 p0 p3 p4 = some r) : Res z (postG (fun a q => Q_law13_DeletionAnswers_0 p1 p2 p0 p3 p4 a q) r) := by
  subst hcc
  subst hz
  simp only [J_law13_DeletionAnswers_0] at hI
  obtain ⟨q1, q2, q3, ⟨g5, q4, q5⟩, ⟨g7, q6, q7⟩⟩ := hI
  simp only [Code.fst, Code.snd, Tryd.f5, Option.getD_some]
  unfold B_law13_DeletionAnswers_0 at hB
  obtain ⟨y1, k2, hB⟩ := kb_inv hB
  replace k2 := run_make_SmallTrust k2
  try simp only [Int.cast_ofNat_Int, Int.natCast_zero, List.length_cons, List.length_nil, List.nil_append, List.cons_append, Nat.zero_add, Nat.reduceAdd, Tru.thr_mk, Tru.nodes_mk, Tru.inner_mk, ints_cons, ints_nil, encTs_cons, encTs_nil, es_api_Config_cons, es_api_Config_nil, es_api_Member_cons, es_api_Member_nil] at k2
  try dsimp only at hB
  rcases cnd_inv hB with ⟨c3, hB⟩ | ⟨c3, hB⟩
  · obtain ⟨y4, k5, hB⟩ := kb_inv hB
    replace k5 := run_make_SmallConfig k5
    try simp only [Int.cast_ofNat_Int, Int.natCast_zero, List.length_cons, List.length_nil, List.nil_append, List.cons_append, Nat.zero_add, Nat.reduceAdd, Tru.thr_mk, Tru.nodes_mk, Tru.inner_mk, ints_cons, ints_nil, encTs_cons, encTs_nil, es_api_Config_cons, es_api_Config_nil, es_api_Member_cons, es_api_Member_nil, c3] at k5
    try dsimp only at hB
    obtain rfl := Option.some.inj hB
    try simp -implicitDefEqProofs [-getElem?_pos, -Int.ofNat_lt, -Int.ofNat_le, -Int.natCast_eq_zero, -Int.natCast_pos, -List.length_eq_zero_iff, List.getElem?_cons_zero, List.getElem?_cons_succ, List.getElem?_nil, q1, q2, q3, q4, q5, q6, q7, k2, c3, k5]
    refine Res.g ?_
    simp -implicitDefEqProofs [-getElem?_pos, -Int.ofNat_lt, -Int.ofNat_le, -Int.natCast_eq_zero, -Int.natCast_pos, -List.length_eq_zero_iff, List.getElem?_cons_zero, List.getElem?_cons_succ, List.getElem?_nil, and_assoc, Q_law13_DeletionAnswers_0, ownAt, q1, q2, q3, q4, q5, q6, q7, k2, c3, k5]
  · obtain rfl := Option.some.inj hB
    try simp -implicitDefEqProofs [-getElem?_pos, -Int.ofNat_lt, -Int.ofNat_le, -Int.natCast_eq_zero, -Int.natCast_pos, -List.length_eq_zero_iff, List.getElem?_cons_zero, List.getElem?_cons_succ, List.getElem?_nil, q1, q2, q3, q4, q5, q6, q7, k2, c3]
    refine Res.g ?_
    simp -implicitDefEqProofs [-getElem?_pos, -Int.ofNat_lt, -Int.ofNat_le, -Int.natCast_eq_zero, -Int.natCast_pos, -List.length_eq_zero_iff, List.getElem?_cons_zero, List.getElem?_cons_succ, List.getElem?_nil, and_assoc, Q_law13_DeletionAnswers_0, ownAt, q1, q2, q3, q4, q5, q6, q7, k2, c3]
noncomputable def B_law13_DeletionAnswers_2 (p1 : Tru) (p2 : S_api_Config) (e26 : Tru) (pb3_1_0_2 : (List Int)) (pb3_1_1_2 : Int) (y12 : (S_api_Config × S_trustquorummake_Tape)) (y14 : (Tru × S_trustquorummake_Tape)) (e21 : Int) (p3 : Int) (p4 : Int) (y16 : (Int × S_trustquorummake_Tape)) (y18 : (Int × S_trustquorummake_Tape)) (i20 : Nat) (p53_2 : (List Tru)) (i25 : Nat) (p62_2 : (List Int)) (i30 : Nat) (e31 : Int) : Option (Stp Unit Unit) :=
  kb (G_deletion_Trust e26 e31 e21) fun y27 =>
  kb (G_ref13_Trust e26 e31 e21) fun y29 =>
  kb (G_ref02_Same y27 y29) fun y31 =>
  cnd y31 (
    some (.go ())) (
    some (.ret ()))
def I_law13_DeletionAnswers_2 (p1 : Tru) (p2 : S_api_Config) (e26 : Tru) (pb3_1_0_2 : (List Int)) (pb3_1_1_2 : Int) (y12 : (S_api_Config × S_trustquorummake_Tape)) (y14 : (Tru × S_trustquorummake_Tape)) (e21 : Int) (p3 : Int) (p4 : Int) (y16 : (Int × S_trustquorummake_Tape)) (y18 : (Int × S_trustquorummake_Tape)) (i20 : Nat) (p53_2 : (List Tru)) (i25 : Nat) (p62_2 : (List Int)) (i30 : Nat) (q : St) : Prop := q (.t 15) = (i64 e21) ∧ q (.t 3) = (i64 p3) ∧ (∃ v : AV, q (.t 42) = v ∧ (ownAt q v (.site 6 5 0) false 1 ([p4, y16.1, y18.1, 0, 1023] : List Int).length (ints ([p4, y16.1, y18.1, 0, 1023] : List Int)))) ∧ q (.t 43) = (i64 5) ∧ q (.t 44) = (i64 (i20 : Int)) ∧ (∃ v : AV, q (.t 53) = v ∧ (ownAt q v (.site 9 5 0) false 3 p53_2.length (encTs p53_2))) ∧ q (.t 54) = (i64 (p53_2.length : Int)) ∧ q (.t 55) = (i64 (i25 : Int)) ∧ (∃ v : AV, q (.t 62) = v ∧ (ownAt q v (.site 12 3 0) false 1 p62_2.length (ints p62_2))) ∧ q (.t 63) = (i64 (p62_2.length : Int)) ∧ q (.t 64) = (i64 (i30 : Int)) ∧ (∃ (g : Nat), q (.t 6) = .ptr (.site 0 0 0) g 0 ∧ q (.i (.site 0 0 0)) = .box g [(i64 p1.thr), (.pv (.sl p1.nodes.length (ints p1.nodes))), (.pv (.sl p1.inner.length (encTs p1.inner)))]) ∧ (∃ (g : Nat), q (.t 7) = .ptr (.site 0 1 0) g 0 ∧ q (.i (.site 0 1 0)) = .box g [(.pv (.sl p2.f0.length (es_api_Member p2.f0)))]) ∧ (∃ (g : Nat), q (.t 17) = .ptr (.site 11 2 0) g 0 ∧ q (.i (.site 11 2 0)) = .box g [(i64 e26.thr), (.pv (.sl e26.nodes.length (ints e26.nodes))), (.pv (.sl e26.inner.length (encTs e26.inner)))]) ∧ (∃ (g : Nat), q (.t 11) = .ptr (.site 3 1 0) g 0 ∧ q (.i (.site 3 1 0)) = .box g [(.pv (.sl pb3_1_0_2.length (ints pb3_1_0_2))), (i64 pb3_1_1_2)]) ∧ (∃ (g : Nat), q (.t 12) = .ptr (.site 4 2 0) g 0 ∧ q (.i (.site 4 2 0)) = .box g [(.pv (.sl y12.1.f0.length (es_api_Member y12.1.f0)))]) ∧ (∃ (g : Nat), q (.t 13) = .ptr (.site 5 2 0) g 0 ∧ q (.i (.site 5 2 0)) = .box g [(i64 y14.1.thr), (.pv (.sl y14.1.nodes.length (ints y14.1.nodes))), (.pv (.sl y14.1.inner.length (encTs y14.1.inner)))])
def Q_law13_DeletionAnswers_2 (p1 : Tru) (p2 : S_api_Config) (e26 : Tru) (pb3_1_0_2 : (List Int)) (pb3_1_1_2 : Int) (y12 : (S_api_Config × S_trustquorummake_Tape)) (y14 : (Tru × S_trustquorummake_Tape)) (e21 : Int) (p3 : Int) (p4 : Int) (y16 : (Int × S_trustquorummake_Tape)) (y18 : (Int × S_trustquorummake_Tape)) (i20 : Nat) (p53_2 : (List Tru)) (i25 : Nat) (p62_2 : (List Int)) (q : St) : Prop := q (.t 15) = (i64 e21) ∧ q (.t 3) = (i64 p3) ∧ (∃ v : AV, q (.t 42) = v ∧ (ownAt q v (.site 6 5 0) false 1 ([p4, y16.1, y18.1, 0, 1023] : List Int).length (ints ([p4, y16.1, y18.1, 0, 1023] : List Int)))) ∧ q (.t 43) = (i64 5) ∧ q (.t 44) = (i64 (i20 : Int)) ∧ (∃ v : AV, q (.t 53) = v ∧ (ownAt q v (.site 9 5 0) false 3 p53_2.length (encTs p53_2))) ∧ q (.t 54) = (i64 (p53_2.length : Int)) ∧ q (.t 55) = (i64 (i25 : Int)) ∧ (∃ (g : Nat), q (.t 6) = .ptr (.site 0 0 0) g 0 ∧ q (.i (.site 0 0 0)) = .box g [(i64 p1.thr), (.pv (.sl p1.nodes.length (ints p1.nodes))), (.pv (.sl p1.inner.length (encTs p1.inner)))]) ∧ (∃ (g : Nat), q (.t 7) = .ptr (.site 0 1 0) g 0 ∧ q (.i (.site 0 1 0)) = .box g [(.pv (.sl p2.f0.length (es_api_Member p2.f0)))]) ∧ (∃ (g : Nat), q (.t 11) = .ptr (.site 3 1 0) g 0 ∧ q (.i (.site 3 1 0)) = .box g [(.pv (.sl pb3_1_0_2.length (ints pb3_1_0_2))), (i64 pb3_1_1_2)]) ∧ (∃ (g : Nat), q (.t 12) = .ptr (.site 4 2 0) g 0 ∧ q (.i (.site 4 2 0)) = .box g [(.pv (.sl y12.1.f0.length (es_api_Member y12.1.f0)))]) ∧ (∃ (g : Nat), q (.t 13) = .ptr (.site 5 2 0) g 0 ∧ q (.i (.site 5 2 0)) = .box g [(i64 y14.1.thr), (.pv (.sl y14.1.nodes.length (ints y14.1.nodes))), (.pv (.sl y14.1.inner.length (encTs y14.1.inner)))])
def QR_law13_DeletionAnswers_2 (p1 : Tru) (p2 : S_api_Config) (e26 : Tru) (pb3_1_0_2 : (List Int)) (pb3_1_1_2 : Int) (y12 : (S_api_Config × S_trustquorummake_Tape)) (y14 : (Tru × S_trustquorummake_Tape)) (e21 : Int) (p3 : Int) (p4 : Int) (y16 : (Int × S_trustquorummake_Tape)) (y18 : (Int × S_trustquorummake_Tape)) (i20 : Nat) (p53_2 : (List Tru)) (i25 : Nat) (p62_2 : (List Int)) (q : St) : Prop := q (.t 10) = (bl false)
theorem Pb_law13_DeletionAnswers_2 {p1 : Tru} {p2 : S_api_Config} {e26 : Tru} {pb3_1_0_2 : (List Int)} {pb3_1_1_2 : Int} {y12 : (S_api_Config × S_trustquorummake_Tape)} {y14 : (Tru × S_trustquorummake_Tape)} {e21 : Int} {p3 : Int} {p4 : Int} {y16 : (Int × S_trustquorummake_Tape)} {y18 : (Int × S_trustquorummake_Tape)} {i20 : Nat} {p53_2 : (List Tru)} {i25 : Nat} {p62_2 : (List Int)} {i30 : Nat} {e31 : Int} {q : St} {r : (Stp Unit Unit)} (hx : p62_2[i30]? = some e31) (hi : i30 < p62_2.length) (hn : p62_2.length < 4611686018427387904) (hI : I_law13_DeletionAnswers_2 p1 p2 e26 pb3_1_0_2 pb3_1_1_2 y12 y14 e21 p3 p4 y16 y18 i20 p53_2 i25 p62_2 i30 q) (hB : B_law13_DeletionAnswers_2 p1 p2 e26 pb3_1_0_2 pb3_1_1_2 y12 y14 e21 p3 p4 y16 y18 i20 p53_2 i25 p62_2 i30 e31 = some r) : Res (C Tryd.prog cf (Code.fst (Code.fst (Code.snd (Code.snd (Code.fst (Code.fst (Code.snd (Code.snd (Code.fst (Code.fst (Code.snd (Code.fst (Code.snd (Code.fst (Code.fst (Code.snd (Code.snd (Code.fst (Code.fst (Code.snd (Code.fst (Code.snd (Code.snd (Code.snd (Code.snd (Code.snd ((Tryd.f5.body).getD .skip))))))))))))))))))))))))))) q) (postB 4 (fun a q => I_law13_DeletionAnswers_2 p1 p2 e26 pb3_1_0_2 pb3_1_1_2 y12 y14 e21 p3 p4 y16 y18 i20 p53_2 i25 p62_2 (i30 + 1) q) (fun a q => Q_law13_DeletionAnswers_2 p1 p2 e26 pb3_1_0_2 pb3_1_1_2 y12 y14 e21 p3 p4 y16 y18 i20 p53_2 i25 p62_2 q) (fun a q => QR_law13_DeletionAnswers_2 p1 p2 e26 pb3_1_0_2 pb3_1_1_2 y12 y14 e21 p3 p4 y16 y18 i20 p53_2 i25 p62_2 q) r) := by
  have hi3 : (i30 : Int) < (p62_2.length : Int) := by omega
  have hi2 := decide_eq_true hi3
  have hi4 := idx_step hi hn
  have hi5 := ne_of_get hx
  simp only [I_law13_DeletionAnswers_2] at hI
  obtain ⟨q1, q2, ⟨v3, q3, a3⟩, q4, q5, ⟨v6, q6, a6⟩, q7, q8, ⟨v9, q9, a9⟩, q10, q11, ⟨g13, q12, q13⟩, ⟨g15, q14, q15⟩, ⟨g17, q16, q17⟩, ⟨g19, q18, q19⟩, ⟨g21, q20, q21⟩, ⟨g23, q22, q23⟩⟩ := hI
  simp only [Code.fst, Code.snd, Tryd.f5, Option.getD_some]
  unfold B_law13_DeletionAnswers_2 at hB
  rcases a3 with ⟨ga3, rfl, oa3⟩
  rcases a6 with ⟨ga6, rfl, oa6⟩
  rcases a9 with ⟨ga9, rfl, oa9⟩
  obtain ⟨y27, k28, hB⟩ := kb_inv hB
  replace k28 := run_deletion_Trust k28
  try simp only [Int.cast_ofNat_Int, Int.natCast_zero, List.length_cons, List.length_nil, List.nil_append, List.cons_append, Nat.zero_add, Nat.reduceAdd, Tru.thr_mk, Tru.nodes_mk, Tru.inner_mk, ints_cons, ints_nil, encTs_cons, encTs_nil, es_api_Config_cons, es_api_Config_nil, es_api_Member_cons, es_api_Member_nil] at k28
  try dsimp only at hB
  obtain ⟨y29, k30, hB⟩ := kb_inv hB
  replace k30 := run_ref13_Trust k30
  try simp only [Int.cast_ofNat_Int, Int.natCast_zero, List.length_cons, List.length_nil, List.nil_append, List.cons_append, Nat.zero_add, Nat.reduceAdd, Tru.thr_mk, Tru.nodes_mk, Tru.inner_mk, ints_cons, ints_nil, encTs_cons, encTs_nil, es_api_Config_cons, es_api_Config_nil, es_api_Member_cons, es_api_Member_nil] at k30
  try dsimp only at hB
  obtain ⟨y31, k32, hB⟩ := kb_inv hB
  replace k32 := run_ref02_Same k32
  try simp only [Int.cast_ofNat_Int, Int.natCast_zero, List.length_cons, List.length_nil, List.nil_append, List.cons_append, Nat.zero_add, Nat.reduceAdd, Tru.thr_mk, Tru.nodes_mk, Tru.inner_mk, ints_cons, ints_nil, encTs_cons, encTs_nil, es_api_Config_cons, es_api_Config_nil, es_api_Member_cons, es_api_Member_nil] at k32
  try dsimp only at hB
  rcases cnd_inv hB with ⟨c33, hB⟩ | ⟨c33, hB⟩
  · obtain rfl := Option.some.inj hB
    try simp -implicitDefEqProofs [-getElem?_pos, -Int.ofNat_lt, -Int.ofNat_le, -Int.natCast_eq_zero, -Int.natCast_pos, -List.length_eq_zero_iff, List.getElem?_cons_zero, List.getElem?_cons_succ, List.getElem?_nil, q1, q2, q3, q4, q5, q6, q7, q8, q9, q10, q11, q12, q13, q14, q15, q16, q17, q18, q19, q20, q21, q22, q23, oa3, oa6, oa9, hx, hi2, hi3, hi4, hi5, k28, k30, k32, c33]
    rw [drawK_ok _ _ _ (by kernel_rfl)]
    simp -implicitDefEqProofs [-getElem?_pos, -Int.ofNat_lt, -Int.ofNat_le, -Int.natCast_eq_zero, -Int.natCast_pos, -List.length_eq_zero_iff, List.getElem?_cons_zero, List.getElem?_cons_succ, List.getElem?_nil, q1, q2, q3, q4, q5, q6, q7, q8, q9, q10, q11, q12, q13, q14, q15, q16, q17, q18, q19, q20, q21, q22, q23, oa3, oa6, oa9, hx, hi2, hi3, hi4, hi5, k28, k30, k32, c33]
    refine Res.bgo ?_
    simp -implicitDefEqProofs [-getElem?_pos, -Int.ofNat_lt, -Int.ofNat_le, -Int.natCast_eq_zero, -Int.natCast_pos, -List.length_eq_zero_iff, List.getElem?_cons_zero, List.getElem?_cons_succ, List.getElem?_nil, and_assoc, I_law13_DeletionAnswers_2, ownAt, q1, q2, q3, q4, q5, q6, q7, q8, q9, q10, q11, q12, q13, q14, q15, q16, q17, q18, q19, q20, q21, q22, q23, oa3, oa6, oa9, hx, hi2, hi3, hi4, hi5, k28, k30, k32, c33]
  · obtain rfl := Option.some.inj hB
    try simp -implicitDefEqProofs [-getElem?_pos, -Int.ofNat_lt, -Int.ofNat_le, -Int.natCast_eq_zero, -Int.natCast_pos, -List.length_eq_zero_iff, List.getElem?_cons_zero, List.getElem?_cons_succ, List.getElem?_nil, q1, q2, q3, q4, q5, q6, q7, q8, q9, q10, q11, q12, q13, q14, q15, q16, q17, q18, q19, q20, q21, q22, q23, oa3, oa6, oa9, hx, hi2, hi3, hi4, hi5, k28, k30, k32, c33]
    rw [drawK_ok _ _ _ (by kernel_rfl)]
    simp -implicitDefEqProofs [-getElem?_pos, -Int.ofNat_lt, -Int.ofNat_le, -Int.natCast_eq_zero, -Int.natCast_pos, -List.length_eq_zero_iff, List.getElem?_cons_zero, List.getElem?_cons_succ, List.getElem?_nil, q1, q2, q3, q4, q5, q6, q7, q8, q9, q10, q11, q12, q13, q14, q15, q16, q17, q18, q19, q20, q21, q22, q23, oa3, oa6, oa9, hx, hi2, hi3, hi4, hi5, k28, k30, k32, c33]
    refine Res.bret ?_
    simp -implicitDefEqProofs [-getElem?_pos, -Int.ofNat_lt, -Int.ofNat_le, -Int.natCast_eq_zero, -Int.natCast_pos, -List.length_eq_zero_iff, List.getElem?_cons_zero, List.getElem?_cons_succ, List.getElem?_nil, and_assoc, QR_law13_DeletionAnswers_2, ownAt, q1, q2, q3, q4, q5, q6, q7, q8, q9, q10, q11, q12, q13, q14, q15, q16, q17, q18, q19, q20, q21, q22, q23, oa3, oa6, oa9, hx, hi2, hi3, hi4, hi5, k28, k30, k32, c33]
theorem Pe_law13_DeletionAnswers_2 {p1 : Tru} {p2 : S_api_Config} {e26 : Tru} {pb3_1_0_2 : (List Int)} {pb3_1_1_2 : Int} {y12 : (S_api_Config × S_trustquorummake_Tape)} {y14 : (Tru × S_trustquorummake_Tape)} {e21 : Int} {p3 : Int} {p4 : Int} {y16 : (Int × S_trustquorummake_Tape)} {y18 : (Int × S_trustquorummake_Tape)} {i20 : Nat} {p53_2 : (List Tru)} {i25 : Nat} {p62_2 : (List Int)} {q : St} (hI : I_law13_DeletionAnswers_2 p1 p2 e26 pb3_1_0_2 pb3_1_1_2 y12 y14 e21 p3 p4 y16 y18 i20 p53_2 i25 p62_2 p62_2.length q) : Res (C Tryd.prog cf (Code.fst (Code.fst (Code.snd (Code.snd (Code.fst (Code.fst (Code.snd (Code.snd (Code.fst (Code.fst (Code.snd (Code.fst (Code.snd (Code.fst (Code.fst (Code.snd (Code.snd (Code.fst (Code.fst (Code.snd (Code.fst (Code.snd (Code.snd (Code.snd (Code.snd (Code.snd ((Tryd.f5.body).getD .skip))))))))))))))))))))))))))) q) fun e q' => e = .exit 4 ∧ Q_law13_DeletionAnswers_2 p1 p2 e26 pb3_1_0_2 pb3_1_1_2 y12 y14 e21 p3 p4 y16 y18 i20 p53_2 i25 p62_2 q' := by
  simp only [I_law13_DeletionAnswers_2] at hI
  obtain ⟨q1, q2, ⟨v3, q3, a3⟩, q4, q5, ⟨v6, q6, a6⟩, q7, q8, ⟨v9, q9, a9⟩, q10, q11, ⟨g13, q12, q13⟩, ⟨g15, q14, q15⟩, ⟨g17, q16, q17⟩, ⟨g19, q18, q19⟩, ⟨g21, q20, q21⟩, ⟨g23, q22, q23⟩⟩ := hI
  simp only [Code.fst, Code.snd, Tryd.f5, Option.getD_some]
  rcases a3 with ⟨ga3, rfl, oa3⟩
  rcases a6 with ⟨ga6, rfl, oa6⟩
  rcases a9 with ⟨ga9, rfl, oa9⟩
  simp -implicitDefEqProofs [-getElem?_pos, -Int.ofNat_lt, -Int.ofNat_le, -Int.natCast_eq_zero, -Int.natCast_pos, -List.length_eq_zero_iff, List.getElem?_cons_zero, List.getElem?_cons_succ, List.getElem?_nil, q1, q2, q3, q4, q5, q6, q7, q8, q9, q10, q11, q12, q13, q14, q15, q16, q17, q18, q19, q20, q21, q22, q23, oa3, oa6, oa9]
  refine Res.x ?_
  simp -implicitDefEqProofs [-getElem?_pos, -Int.ofNat_lt, -Int.ofNat_le, -Int.natCast_eq_zero, -Int.natCast_pos, -List.length_eq_zero_iff, List.getElem?_cons_zero, List.getElem?_cons_succ, List.getElem?_nil, and_assoc, Q_law13_DeletionAnswers_2, ownAt, q1, q2, q3, q4, q5, q6, q7, q8, q9, q10, q11, q12, q13, q14, q15, q16, q17, q18, q19, q20, q21, q22, q23, oa3, oa6, oa9]
theorem P_law13_DeletionAnswers_2 {p1 : Tru} {p2 : S_api_Config} {e26 : Tru} {pb3_1_0_2 : (List Int)} {pb3_1_1_2 : Int} {y12 : (S_api_Config × S_trustquorummake_Tape)} {y14 : (Tru × S_trustquorummake_Tape)} {e21 : Int} {p3 : Int} {p4 : Int} {y16 : (Int × S_trustquorummake_Tape)} {y18 : (Int × S_trustquorummake_Tape)} {i20 : Nat} {p53_2 : (List Tru)} {i25 : Nat} {p62_2 : (List Int)} {cc : Code} (hcc : cc = .block 4 (.loop (Code.fst (Code.fst (Code.snd (Code.snd (Code.fst (Code.fst (Code.snd (Code.snd (Code.fst (Code.fst (Code.snd (Code.fst (Code.snd (Code.fst (Code.fst (Code.snd (Code.snd (Code.fst (Code.fst (Code.snd (Code.fst (Code.snd (Code.snd (Code.snd (Code.snd (Code.snd ((Tryd.f5.body).getD .skip))))))))))))))))))))))))))))) {s : St} {z : Option (Ex × St)} (hz : C Tryd.prog cf cc s = z) {r : (Stp Unit Unit)} (hn : p62_2.length < 4611686018427387904) (hI : I_law13_DeletionAnswers_2 p1 p2 e26 pb3_1_0_2 pb3_1_1_2 y12 y14 e21 p3 p4 y16 y18 i20 p53_2 i25 p62_2 0 s) (hB : loopL (fun i a x => B_law13_DeletionAnswers_2 p1 p2 e26 pb3_1_0_2 pb3_1_1_2 y12 y14 e21 p3 p4 y16 y18 i20 p53_2 i25 p62_2 i x) 0 () p62_2 = some r) : Res z (postS (fun a q => Q_law13_DeletionAnswers_2 p1 p2 e26 pb3_1_0_2 pb3_1_1_2 y12 y14 e21 p3 p4 y16 y18 i20 p53_2 i25 p62_2 q) (fun a q => QR_law13_DeletionAnswers_2 p1 p2 e26 pb3_1_0_2 pb3_1_1_2 y12 y14 e21 p3 p4 y16 y18 i20 p53_2 i25 p62_2 q) r) := by
  subst hcc
  exact loopL_sim (I := fun i a q => I_law13_DeletionAnswers_2 p1 p2 e26 pb3_1_0_2 pb3_1_1_2 y12 y14 e21 p3 p4 y16 y18 i20 p53_2 i25 p62_2 i q) (Q := (fun a q => Q_law13_DeletionAnswers_2 p1 p2 e26 pb3_1_0_2 pb3_1_1_2 y12 y14 e21 p3 p4 y16 y18 i20 p53_2 i25 p62_2 q)) (QR := (fun a q => QR_law13_DeletionAnswers_2 p1 p2 e26 pb3_1_0_2 pb3_1_1_2 y12 y14 e21 p3 p4 y16 y18 i20 p53_2 i25 p62_2 q)) (fun i x a q r hx hi h hB => Pb_law13_DeletionAnswers_2 hx hi hn h hB) (fun a q h => Pe_law13_DeletionAnswers_2 h) hI hz hB
noncomputable def B_law13_DeletionAnswers_1 (p1 : Tru) (p2 : S_api_Config) (y12 : (S_api_Config × S_trustquorummake_Tape)) (y14 : (Tru × S_trustquorummake_Tape)) (e21 : Int) (p3 : Int) (p4 : Int) (y16 : (Int × S_trustquorummake_Tape)) (y18 : (Int × S_trustquorummake_Tape)) (i20 : Nat) (p53_1 : (List Tru)) (i25 : Nat) (xb3_1_0_1 : (List Int)) (xb3_1_1_1 : Int) (e26 : Tru) : Option (Stp ((List Int) × Int) Unit) :=
  kb (G_make_Tape_N (S_trustquorummake_Tape.mk xb3_1_0_1 xb3_1_1_1) 10) fun y24 =>
  kb (smallK ([p3, y24.1] : List Int)) fun _ =>
  kb (loopL (fun i a x => B_law13_DeletionAnswers_2 p1 p2 e26 y24.2.f0 y24.2.f1 y12 y14 e21 p3 p4 y16 y18 i20 p53_1 i25 ([p3, y24.1] : List Int) i x) 0 () ([p3, y24.1] : List Int)) fun o => stpK o (fun z34 =>
    some (.go (y24.2.f0, y24.2.f1))) (fun z34r =>
    some (.ret ()))
def I_law13_DeletionAnswers_1 (p1 : Tru) (p2 : S_api_Config) (y12 : (S_api_Config × S_trustquorummake_Tape)) (y14 : (Tru × S_trustquorummake_Tape)) (e21 : Int) (p3 : Int) (p4 : Int) (y16 : (Int × S_trustquorummake_Tape)) (y18 : (Int × S_trustquorummake_Tape)) (i20 : Nat) (p53_1 : (List Tru)) (i25 : Nat) (xb3_1_0_1 : (List Int)) (xb3_1_1_1 : Int) (q : St) : Prop := q (.t 15) = (i64 e21) ∧ q (.t 3) = (i64 p3) ∧ (∃ v : AV, q (.t 42) = v ∧ (ownAt q v (.site 6 5 0) false 1 ([p4, y16.1, y18.1, 0, 1023] : List Int).length (ints ([p4, y16.1, y18.1, 0, 1023] : List Int)))) ∧ q (.t 43) = (i64 5) ∧ q (.t 44) = (i64 (i20 : Int)) ∧ (∃ v : AV, q (.t 53) = v ∧ (ownAt q v (.site 9 5 0) false 3 p53_1.length (encTs p53_1))) ∧ q (.t 54) = (i64 (p53_1.length : Int)) ∧ q (.t 55) = (i64 (i25 : Int)) ∧ (∃ (g : Nat), q (.t 6) = .ptr (.site 0 0 0) g 0 ∧ q (.i (.site 0 0 0)) = .box g [(i64 p1.thr), (.pv (.sl p1.nodes.length (ints p1.nodes))), (.pv (.sl p1.inner.length (encTs p1.inner)))]) ∧ (∃ (g : Nat), q (.t 7) = .ptr (.site 0 1 0) g 0 ∧ q (.i (.site 0 1 0)) = .box g [(.pv (.sl p2.f0.length (es_api_Member p2.f0)))]) ∧ (∃ (g : Nat), q (.t 11) = .ptr (.site 3 1 0) g 0 ∧ q (.i (.site 3 1 0)) = .box g [(.pv (.sl xb3_1_0_1.length (ints xb3_1_0_1))), (i64 xb3_1_1_1)]) ∧ (∃ (g : Nat), q (.t 12) = .ptr (.site 4 2 0) g 0 ∧ q (.i (.site 4 2 0)) = .box g [(.pv (.sl y12.1.f0.length (es_api_Member y12.1.f0)))]) ∧ (∃ (g : Nat), q (.t 13) = .ptr (.site 5 2 0) g 0 ∧ q (.i (.site 5 2 0)) = .box g [(i64 y14.1.thr), (.pv (.sl y14.1.nodes.length (ints y14.1.nodes))), (.pv (.sl y14.1.inner.length (encTs y14.1.inner)))])
def Q_law13_DeletionAnswers_1 (p1 : Tru) (p2 : S_api_Config) (y12 : (S_api_Config × S_trustquorummake_Tape)) (y14 : (Tru × S_trustquorummake_Tape)) (e21 : Int) (p3 : Int) (p4 : Int) (y16 : (Int × S_trustquorummake_Tape)) (y18 : (Int × S_trustquorummake_Tape)) (i20 : Nat) (p53_1 : (List Tru)) (xb3_1_0_1 : (List Int)) (xb3_1_1_1 : Int) (q : St) : Prop := q (.t 15) = (i64 e21) ∧ q (.t 3) = (i64 p3) ∧ (∃ v : AV, q (.t 42) = v ∧ (ownAt q v (.site 6 5 0) false 1 ([p4, y16.1, y18.1, 0, 1023] : List Int).length (ints ([p4, y16.1, y18.1, 0, 1023] : List Int)))) ∧ q (.t 43) = (i64 5) ∧ q (.t 44) = (i64 (i20 : Int)) ∧ (∃ (g : Nat), q (.t 6) = .ptr (.site 0 0 0) g 0 ∧ q (.i (.site 0 0 0)) = .box g [(i64 p1.thr), (.pv (.sl p1.nodes.length (ints p1.nodes))), (.pv (.sl p1.inner.length (encTs p1.inner)))]) ∧ (∃ (g : Nat), q (.t 7) = .ptr (.site 0 1 0) g 0 ∧ q (.i (.site 0 1 0)) = .box g [(.pv (.sl p2.f0.length (es_api_Member p2.f0)))]) ∧ (∃ (g : Nat), q (.t 11) = .ptr (.site 3 1 0) g 0 ∧ q (.i (.site 3 1 0)) = .box g [(.pv (.sl xb3_1_0_1.length (ints xb3_1_0_1))), (i64 xb3_1_1_1)]) ∧ (∃ (g : Nat), q (.t 12) = .ptr (.site 4 2 0) g 0 ∧ q (.i (.site 4 2 0)) = .box g [(.pv (.sl y12.1.f0.length (es_api_Member y12.1.f0)))]) ∧ (∃ (g : Nat), q (.t 13) = .ptr (.site 5 2 0) g 0 ∧ q (.i (.site 5 2 0)) = .box g [(i64 y14.1.thr), (.pv (.sl y14.1.nodes.length (ints y14.1.nodes))), (.pv (.sl y14.1.inner.length (encTs y14.1.inner)))])
def QR_law13_DeletionAnswers_1 (p1 : Tru) (p2 : S_api_Config) (y12 : (S_api_Config × S_trustquorummake_Tape)) (y14 : (Tru × S_trustquorummake_Tape)) (e21 : Int) (p3 : Int) (p4 : Int) (y16 : (Int × S_trustquorummake_Tape)) (y18 : (Int × S_trustquorummake_Tape)) (i20 : Nat) (p53_1 : (List Tru)) (q : St) : Prop := q (.t 10) = (bl false)
theorem Pb_law13_DeletionAnswers_1 {p1 : Tru} {p2 : S_api_Config} {y12 : (S_api_Config × S_trustquorummake_Tape)} {y14 : (Tru × S_trustquorummake_Tape)} {e21 : Int} {p3 : Int} {p4 : Int} {y16 : (Int × S_trustquorummake_Tape)} {y18 : (Int × S_trustquorummake_Tape)} {i20 : Nat} {p53_1 : (List Tru)} {i25 : Nat} {xb3_1_0_1 : (List Int)} {xb3_1_1_1 : Int} {e26 : Tru} {q : St} {r : (Stp ((List Int) × Int) Unit)} (hx : p53_1[i25]? = some e26) (hi : i25 < p53_1.length) (hn : p53_1.length < 4611686018427387904) (hI : I_law13_DeletionAnswers_1 p1 p2 y12 y14 e21 p3 p4 y16 y18 i20 p53_1 i25 xb3_1_0_1 xb3_1_1_1 q) (hB : B_law13_DeletionAnswers_1 p1 p2 y12 y14 e21 p3 p4 y16 y18 i20 p53_1 i25 xb3_1_0_1 xb3_1_1_1 e26 = some r) : Res (C Tryd.prog cf (Code.fst (Code.fst (Code.snd (Code.fst (Code.snd (Code.fst (Code.fst (Code.snd (Code.snd (Code.fst (Code.fst (Code.snd (Code.fst (Code.snd (Code.snd (Code.snd (Code.snd (Code.snd ((Tryd.f5.body).getD .skip))))))))))))))))))) q) (postB 2 (fun a q => I_law13_DeletionAnswers_1 p1 p2 y12 y14 e21 p3 p4 y16 y18 i20 p53_1 (i25 + 1) a.1 a.2 q) (fun a q => Q_law13_DeletionAnswers_1 p1 p2 y12 y14 e21 p3 p4 y16 y18 i20 p53_1 a.1 a.2 q) (fun a q => QR_law13_DeletionAnswers_1 p1 p2 y12 y14 e21 p3 p4 y16 y18 i20 p53_1 q) r) := by
  have hi3 : (i25 : Int) < (p53_1.length : Int) := by omega
  have hi2 := decide_eq_true hi3
  have hi4 := idx_step hi hn
  have hi5 := ne_of_get hx
  simp only [I_law13_DeletionAnswers_1] at hI
  obtain ⟨q1, q2, ⟨v3, q3, a3⟩, q4, q5, ⟨v6, q6, a6⟩, q7, q8, ⟨g10, q9, q10⟩, ⟨g12, q11, q12⟩, ⟨g14, q13, q14⟩, ⟨g16, q15, q16⟩, ⟨g18, q17, q18⟩⟩ := hI
  simp only [Code.fst, Code.snd, Tryd.f5, Option.getD_some]
  generalize hc2 : Code.block 4 _ = cc2
  unfold B_law13_DeletionAnswers_1 at hB
  rcases a3 with ⟨ga3, rfl, oa3⟩
  rcases a6 with ⟨ga6, rfl, oa6⟩
  have l23 := encTs_ld hx
  obtain ⟨y24, k25, hB⟩ := kb_inv hB
  replace k25 := run_make_Tape_N k25
  try simp only [Int.cast_ofNat_Int, Int.natCast_zero, List.length_cons, List.length_nil, List.nil_append, List.cons_append, Nat.zero_add, Nat.reduceAdd, Tru.thr_mk, Tru.nodes_mk, Tru.inner_mk, ints_cons, ints_nil, encTs_cons, encTs_nil, es_api_Config_cons, es_api_Config_nil, es_api_Member_cons, es_api_Member_nil] at k25
  try dsimp only at hB
  try simp -implicitDefEqProofs [-getElem?_pos, -Int.ofNat_lt, -Int.ofNat_le, -Int.natCast_eq_zero, -Int.natCast_pos, -List.length_eq_zero_iff, List.getElem?_cons_zero, List.getElem?_cons_succ, List.getElem?_nil, q1, q2, q3, q4, q5, q6, q7, q8, q9, q10, q11, q12, q13, q14, q15, q16, q17, q18, oa3, oa6, hx, hi2, hi3, hi4, hi5, l23, k25]
  generalize hz2 : C Tryd.prog cf cc2 _ = z2
  obtain ⟨_, hsm, hB⟩ := kb_inv hB
  obtain ⟨o, hB1, hB⟩ := kb_inv hB
  have hJ := P_law13_DeletionAnswers_2 (hc2.symm.trans (by kernel_rfl)) hz2 (smallK_inv hsm) (by simp -implicitDefEqProofs [-getElem?_pos, -Int.ofNat_lt, -Int.ofNat_le, -Int.natCast_eq_zero, -Int.natCast_pos, -List.length_eq_zero_iff, List.getElem?_cons_zero, List.getElem?_cons_succ, List.getElem?_nil, and_assoc, I_law13_DeletionAnswers_2, ownAt, q1, q2, q3, q4, q5, q6, q7, q8, q9, q10, q11, q12, q13, q14, q15, q16, q17, q18, oa3, oa6, hx, hi2, hi3, hi4, hi5, l23, k25]) hB1
  obtain ⟨e2, s2, rfl, hq⟩ := hJ.open
  clear hB1
  rcases o with z34 | ⟨_, _⟩ | z34r
  · simp only [stpK_go] at hB
    obtain ⟨rfl, hq⟩ := hq
    simp only [Q_law13_DeletionAnswers_2] at hq
    obtain ⟨q34_1, q34_2, ⟨v34_3, q34_3, a34_3⟩, q34_4, q34_5, ⟨v34_6, q34_6, a34_6⟩, q34_7, q34_8, ⟨g34_10, q34_9, q34_10⟩, ⟨g34_12, q34_11, q34_12⟩, ⟨g34_14, q34_13, q34_14⟩, ⟨g34_16, q34_15, q34_16⟩, ⟨g34_18, q34_17, q34_18⟩⟩ := hq
    rcases a34_3 with ⟨ga34_3, rfl, oa34_3⟩
    rcases a34_6 with ⟨ga34_6, rfl, oa34_6⟩
    obtain rfl := Option.some.inj hB
    try simp -implicitDefEqProofs [-getElem?_pos, -Int.ofNat_lt, -Int.ofNat_le, -Int.natCast_eq_zero, -Int.natCast_pos, -List.length_eq_zero_iff, List.getElem?_cons_zero, List.getElem?_cons_succ, List.getElem?_nil, q34_1, q34_2, q34_3, q34_4, q34_5, q34_6, q34_7, q34_8, q34_9, q34_10, q34_11, q34_12, q34_13, q34_14, q34_15, q34_16, q34_17, q34_18, oa34_3, oa34_6, hx, hi2, hi3, hi4, hi5, l23, k25]
    refine Res.bgo ?_
    simp -implicitDefEqProofs [-getElem?_pos, -Int.ofNat_lt, -Int.ofNat_le, -Int.natCast_eq_zero, -Int.natCast_pos, -List.length_eq_zero_iff, List.getElem?_cons_zero, List.getElem?_cons_succ, List.getElem?_nil, and_assoc, I_law13_DeletionAnswers_1, ownAt, q34_1, q34_2, q34_3, q34_4, q34_5, q34_6, q34_7, q34_8, q34_9, q34_10, q34_11, q34_12, q34_13, q34_14, q34_15, q34_16, q34_17, q34_18, oa34_3, oa34_6, hx, hi2, hi3, hi4, hi5, l23, k25]
  · exact hq.elim
  · simp only [stpK_ret] at hB
    obtain ⟨rfl, hq⟩ := hq
    simp only [QR_law13_DeletionAnswers_2] at hq
    have q34_r1 := hq
    obtain rfl := Option.some.inj hB
    try simp -implicitDefEqProofs [-getElem?_pos, -Int.ofNat_lt, -Int.ofNat_le, -Int.natCast_eq_zero, -Int.natCast_pos, -List.length_eq_zero_iff, List.getElem?_cons_zero, List.getElem?_cons_succ, List.getElem?_nil, q34_r1, hx, hi2, hi3, hi4, hi5, l23, k25]
    refine Res.bret ?_
    simp -implicitDefEqProofs [-getElem?_pos, -Int.ofNat_lt, -Int.ofNat_le, -Int.natCast_eq_zero, -Int.natCast_pos, -List.length_eq_zero_iff, List.getElem?_cons_zero, List.getElem?_cons_succ, List.getElem?_nil, and_assoc, QR_law13_DeletionAnswers_1, ownAt, q34_r1, hx, hi2, hi3, hi4, hi5, l23, k25]
theorem Pe_law13_DeletionAnswers_1 {p1 : Tru} {p2 : S_api_Config} {y12 : (S_api_Config × S_trustquorummake_Tape)} {y14 : (Tru × S_trustquorummake_Tape)} {e21 : Int} {p3 : Int} {p4 : Int} {y16 : (Int × S_trustquorummake_Tape)} {y18 : (Int × S_trustquorummake_Tape)} {i20 : Nat} {p53_1 : (List Tru)} {xb3_1_0_1 : (List Int)} {xb3_1_1_1 : Int} {q : St} (hI : I_law13_DeletionAnswers_1 p1 p2 y12 y14 e21 p3 p4 y16 y18 i20 p53_1 p53_1.length xb3_1_0_1 xb3_1_1_1 q) : Res (C Tryd.prog cf (Code.fst (Code.fst (Code.snd (Code.fst (Code.snd (Code.fst (Code.fst (Code.snd (Code.snd (Code.fst (Code.fst (Code.snd (Code.fst (Code.snd (Code.snd (Code.snd (Code.snd (Code.snd ((Tryd.f5.body).getD .skip))))))))))))))))))) q) fun e q' => e = .exit 2 ∧ Q_law13_DeletionAnswers_1 p1 p2 y12 y14 e21 p3 p4 y16 y18 i20 p53_1 xb3_1_0_1 xb3_1_1_1 q' := by
  simp only [I_law13_DeletionAnswers_1] at hI
  obtain ⟨q1, q2, ⟨v3, q3, a3⟩, q4, q5, ⟨v6, q6, a6⟩, q7, q8, ⟨g10, q9, q10⟩, ⟨g12, q11, q12⟩, ⟨g14, q13, q14⟩, ⟨g16, q15, q16⟩, ⟨g18, q17, q18⟩⟩ := hI
  simp only [Code.fst, Code.snd, Tryd.f5, Option.getD_some]
  rcases a3 with ⟨ga3, rfl, oa3⟩
  rcases a6 with ⟨ga6, rfl, oa6⟩
  simp -implicitDefEqProofs [-getElem?_pos, -Int.ofNat_lt, -Int.ofNat_le, -Int.natCast_eq_zero, -Int.natCast_pos, -List.length_eq_zero_iff, List.getElem?_cons_zero, List.getElem?_cons_succ, List.getElem?_nil, q1, q2, q3, q4, q5, q6, q7, q8, q9, q10, q11, q12, q13, q14, q15, q16, q17, q18, oa3, oa6]
  refine Res.x ?_
  simp -implicitDefEqProofs [-getElem?_pos, -Int.ofNat_lt, -Int.ofNat_le, -Int.natCast_eq_zero, -Int.natCast_pos, -List.length_eq_zero_iff, List.getElem?_cons_zero, List.getElem?_cons_succ, List.getElem?_nil, and_assoc, Q_law13_DeletionAnswers_1, ownAt, q1, q2, q3, q4, q5, q6, q7, q8, q9, q10, q11, q12, q13, q14, q15, q16, q17, q18, oa3, oa6]
theorem P_law13_DeletionAnswers_1 {p1 : Tru} {p2 : S_api_Config} {y12 : (S_api_Config × S_trustquorummake_Tape)} {y14 : (Tru × S_trustquorummake_Tape)} {e21 : Int} {p3 : Int} {p4 : Int} {y16 : (Int × S_trustquorummake_Tape)} {y18 : (Int × S_trustquorummake_Tape)} {i20 : Nat} {p53_1 : (List Tru)} {xb3_1_0_1 : (List Int)} {xb3_1_1_1 : Int} {cc : Code} (hcc : cc = .block 2 (.loop (Code.fst (Code.fst (Code.snd (Code.fst (Code.snd (Code.fst (Code.fst (Code.snd (Code.snd (Code.fst (Code.fst (Code.snd (Code.fst (Code.snd (Code.snd (Code.snd (Code.snd (Code.snd ((Tryd.f5.body).getD .skip))))))))))))))))))))) {s : St} {z : Option (Ex × St)} (hz : C Tryd.prog cf cc s = z) {r : (Stp ((List Int) × Int) Unit)} (hn : p53_1.length < 4611686018427387904) (hI : I_law13_DeletionAnswers_1 p1 p2 y12 y14 e21 p3 p4 y16 y18 i20 p53_1 0 xb3_1_0_1 xb3_1_1_1 s) (hB : loopL (fun i a x => B_law13_DeletionAnswers_1 p1 p2 y12 y14 e21 p3 p4 y16 y18 i20 p53_1 i a.1 a.2 x) 0 (xb3_1_0_1, xb3_1_1_1) p53_1 = some r) : Res z (postS (fun a q => Q_law13_DeletionAnswers_1 p1 p2 y12 y14 e21 p3 p4 y16 y18 i20 p53_1 a.1 a.2 q) (fun a q => QR_law13_DeletionAnswers_1 p1 p2 y12 y14 e21 p3 p4 y16 y18 i20 p53_1 q) r) := by
  subst hcc
  exact loopL_sim (I := fun i a q => I_law13_DeletionAnswers_1 p1 p2 y12 y14 e21 p3 p4 y16 y18 i20 p53_1 i a.1 a.2 q) (Q := (fun a q => Q_law13_DeletionAnswers_1 p1 p2 y12 y14 e21 p3 p4 y16 y18 i20 p53_1 a.1 a.2 q)) (QR := (fun a q => QR_law13_DeletionAnswers_1 p1 p2 y12 y14 e21 p3 p4 y16 y18 i20 p53_1 q)) (fun i x a q r hx hi h hB => Pb_law13_DeletionAnswers_1 hx hi hn h hB) (fun a q h => Pe_law13_DeletionAnswers_1 h) hI hz hB
noncomputable def B_law13_DeletionAnswers_4 (p1 : Tru) (p2 : S_api_Config) (pb3_1_0_4 : (List Int)) (pb3_1_1_4 : Int) (y12 : (S_api_Config × S_trustquorummake_Tape)) (y14 : (Tru × S_trustquorummake_Tape)) (e21 : Int) (p3 : Int) (p4 : Int) (y16 : (Int × S_trustquorummake_Tape)) (y18 : (Int × S_trustquorummake_Tape)) (i20 : Nat) (p85_4 : (List S_api_Config)) (i56 : Nat) (e57 : S_api_Config) : Option (Stp Unit Unit) :=
  kb (G_deletion_Delete e57 e21) fun y39 =>
  kb (G_ref13_Delete e57 e21) fun y41 =>
  kb (G_ref06_Same y39 y41) fun y43 =>
  cnd y43 (
    some (.go ())) (
    some (.ret ()))
def I_law13_DeletionAnswers_4 (p1 : Tru) (p2 : S_api_Config) (pb3_1_0_4 : (List Int)) (pb3_1_1_4 : Int) (y12 : (S_api_Config × S_trustquorummake_Tape)) (y14 : (Tru × S_trustquorummake_Tape)) (e21 : Int) (p3 : Int) (p4 : Int) (y16 : (Int × S_trustquorummake_Tape)) (y18 : (Int × S_trustquorummake_Tape)) (i20 : Nat) (p85_4 : (List S_api_Config)) (i56 : Nat) (q : St) : Prop := q (.t 15) = (i64 e21) ∧ q (.t 3) = (i64 p3) ∧ (∃ v : AV, q (.t 42) = v ∧ (ownAt q v (.site 6 5 0) false 1 ([p4, y16.1, y18.1, 0, 1023] : List Int).length (ints ([p4, y16.1, y18.1, 0, 1023] : List Int)))) ∧ q (.t 43) = (i64 5) ∧ q (.t 44) = (i64 (i20 : Int)) ∧ (∃ v : AV, q (.t 85) = v ∧ (ownAt q v (.site 19 5 0) false 1 p85_4.length (es_api_Config p85_4))) ∧ q (.t 86) = (i64 (p85_4.length : Int)) ∧ q (.t 87) = (i64 (i56 : Int)) ∧ (∃ (g : Nat), q (.t 6) = .ptr (.site 0 0 0) g 0 ∧ q (.i (.site 0 0 0)) = .box g [(i64 p1.thr), (.pv (.sl p1.nodes.length (ints p1.nodes))), (.pv (.sl p1.inner.length (encTs p1.inner)))]) ∧ (∃ (g : Nat), q (.t 7) = .ptr (.site 0 1 0) g 0 ∧ q (.i (.site 0 1 0)) = .box g [(.pv (.sl p2.f0.length (es_api_Member p2.f0)))]) ∧ (∃ (g : Nat), q (.t 11) = .ptr (.site 3 1 0) g 0 ∧ q (.i (.site 3 1 0)) = .box g [(.pv (.sl pb3_1_0_4.length (ints pb3_1_0_4))), (i64 pb3_1_1_4)]) ∧ (∃ (g : Nat), q (.t 12) = .ptr (.site 4 2 0) g 0 ∧ q (.i (.site 4 2 0)) = .box g [(.pv (.sl y12.1.f0.length (es_api_Member y12.1.f0)))]) ∧ (∃ (g : Nat), q (.t 13) = .ptr (.site 5 2 0) g 0 ∧ q (.i (.site 5 2 0)) = .box g [(i64 y14.1.thr), (.pv (.sl y14.1.nodes.length (ints y14.1.nodes))), (.pv (.sl y14.1.inner.length (encTs y14.1.inner)))])
def Q_law13_DeletionAnswers_4 (p1 : Tru) (p2 : S_api_Config) (pb3_1_0_4 : (List Int)) (pb3_1_1_4 : Int) (y12 : (S_api_Config × S_trustquorummake_Tape)) (y14 : (Tru × S_trustquorummake_Tape)) (e21 : Int) (p3 : Int) (p4 : Int) (y16 : (Int × S_trustquorummake_Tape)) (y18 : (Int × S_trustquorummake_Tape)) (i20 : Nat) (p85_4 : (List S_api_Config)) (q : St) : Prop := q (.t 3) = (i64 p3) ∧ (∃ v : AV, q (.t 42) = v ∧ (ownAt q v (.site 6 5 0) false 1 ([p4, y16.1, y18.1, 0, 1023] : List Int).length (ints ([p4, y16.1, y18.1, 0, 1023] : List Int)))) ∧ q (.t 43) = (i64 5) ∧ q (.t 44) = (i64 (i20 : Int)) ∧ (∃ (g : Nat), q (.t 6) = .ptr (.site 0 0 0) g 0 ∧ q (.i (.site 0 0 0)) = .box g [(i64 p1.thr), (.pv (.sl p1.nodes.length (ints p1.nodes))), (.pv (.sl p1.inner.length (encTs p1.inner)))]) ∧ (∃ (g : Nat), q (.t 7) = .ptr (.site 0 1 0) g 0 ∧ q (.i (.site 0 1 0)) = .box g [(.pv (.sl p2.f0.length (es_api_Member p2.f0)))]) ∧ (∃ (g : Nat), q (.t 11) = .ptr (.site 3 1 0) g 0 ∧ q (.i (.site 3 1 0)) = .box g [(.pv (.sl pb3_1_0_4.length (ints pb3_1_0_4))), (i64 pb3_1_1_4)]) ∧ (∃ (g : Nat), q (.t 12) = .ptr (.site 4 2 0) g 0 ∧ q (.i (.site 4 2 0)) = .box g [(.pv (.sl y12.1.f0.length (es_api_Member y12.1.f0)))]) ∧ (∃ (g : Nat), q (.t 13) = .ptr (.site 5 2 0) g 0 ∧ q (.i (.site 5 2 0)) = .box g [(i64 y14.1.thr), (.pv (.sl y14.1.nodes.length (ints y14.1.nodes))), (.pv (.sl y14.1.inner.length (encTs y14.1.inner)))])
def QR_law13_DeletionAnswers_4 (p1 : Tru) (p2 : S_api_Config) (pb3_1_0_4 : (List Int)) (pb3_1_1_4 : Int) (y12 : (S_api_Config × S_trustquorummake_Tape)) (y14 : (Tru × S_trustquorummake_Tape)) (e21 : Int) (p3 : Int) (p4 : Int) (y16 : (Int × S_trustquorummake_Tape)) (y18 : (Int × S_trustquorummake_Tape)) (i20 : Nat) (p85_4 : (List S_api_Config)) (q : St) : Prop := q (.t 10) = (bl false)
theorem Pb_law13_DeletionAnswers_4 {p1 : Tru} {p2 : S_api_Config} {pb3_1_0_4 : (List Int)} {pb3_1_1_4 : Int} {y12 : (S_api_Config × S_trustquorummake_Tape)} {y14 : (Tru × S_trustquorummake_Tape)} {e21 : Int} {p3 : Int} {p4 : Int} {y16 : (Int × S_trustquorummake_Tape)} {y18 : (Int × S_trustquorummake_Tape)} {i20 : Nat} {p85_4 : (List S_api_Config)} {i56 : Nat} {e57 : S_api_Config} {q : St} {r : (Stp Unit Unit)} (hx : p85_4[i56]? = some e57) (hi : i56 < p85_4.length) (hn : p85_4.length < 4611686018427387904) (hI : I_law13_DeletionAnswers_4 p1 p2 pb3_1_0_4 pb3_1_1_4 y12 y14 e21 p3 p4 y16 y18 i20 p85_4 i56 q) (hB : B_law13_DeletionAnswers_4 p1 p2 pb3_1_0_4 pb3_1_1_4 y12 y14 e21 p3 p4 y16 y18 i20 p85_4 i56 e57 = some r) : Res (C Tryd.prog cf (Code.fst (Code.fst (Code.snd (Code.snd (Code.snd (Code.fst (Code.fst (Code.snd (Code.snd (Code.fst (Code.fst (Code.snd (Code.fst (Code.snd (Code.snd (Code.snd (Code.snd (Code.snd ((Tryd.f5.body).getD .skip))))))))))))))))))) q) (postB 6 (fun a q => I_law13_DeletionAnswers_4 p1 p2 pb3_1_0_4 pb3_1_1_4 y12 y14 e21 p3 p4 y16 y18 i20 p85_4 (i56 + 1) q) (fun a q => Q_law13_DeletionAnswers_4 p1 p2 pb3_1_0_4 pb3_1_1_4 y12 y14 e21 p3 p4 y16 y18 i20 p85_4 q) (fun a q => QR_law13_DeletionAnswers_4 p1 p2 pb3_1_0_4 pb3_1_1_4 y12 y14 e21 p3 p4 y16 y18 i20 p85_4 q) r) := by
  have hi3 : (i56 : Int) < (p85_4.length : Int) := by omega
  have hi2 := decide_eq_true hi3
  have hi4 := idx_step hi hn
  have hi5 := ne_of_get hx
  simp only [I_law13_DeletionAnswers_4] at hI
  obtain ⟨q1, q2, ⟨v3, q3, a3⟩, q4, q5, ⟨v6, q6, a6⟩, q7, q8, ⟨g10, q9, q10⟩, ⟨g12, q11, q12⟩, ⟨g14, q13, q14⟩, ⟨g16, q15, q16⟩, ⟨g18, q17, q18⟩⟩ := hI
  simp only [Code.fst, Code.snd, Tryd.f5, Option.getD_some]
  unfold B_law13_DeletionAnswers_4 at hB
  rcases a3 with ⟨ga3, rfl, oa3⟩
  rcases a6 with ⟨ga6, rfl, oa6⟩
  have l38 := es_api_Config_ld hx
  try simp only [Nat.mul_one] at l38
  obtain ⟨y39, k40, hB⟩ := kb_inv hB
  replace k40 := run_deletion_Delete k40
  try simp only [Int.cast_ofNat_Int, Int.natCast_zero, List.length_cons, List.length_nil, List.nil_append, List.cons_append, Nat.zero_add, Nat.reduceAdd, Tru.thr_mk, Tru.nodes_mk, Tru.inner_mk, ints_cons, ints_nil, encTs_cons, encTs_nil, es_api_Config_cons, es_api_Config_nil, es_api_Member_cons, es_api_Member_nil] at k40
  try dsimp only at hB
  obtain ⟨y41, k42, hB⟩ := kb_inv hB
  replace k42 := run_ref13_Delete k42
  try simp only [Int.cast_ofNat_Int, Int.natCast_zero, List.length_cons, List.length_nil, List.nil_append, List.cons_append, Nat.zero_add, Nat.reduceAdd, Tru.thr_mk, Tru.nodes_mk, Tru.inner_mk, ints_cons, ints_nil, encTs_cons, encTs_nil, es_api_Config_cons, es_api_Config_nil, es_api_Member_cons, es_api_Member_nil] at k42
  try dsimp only at hB
  obtain ⟨y43, k44, hB⟩ := kb_inv hB
  replace k44 := run_ref06_Same k44
  try simp only [Int.cast_ofNat_Int, Int.natCast_zero, List.length_cons, List.length_nil, List.nil_append, List.cons_append, Nat.zero_add, Nat.reduceAdd, Tru.thr_mk, Tru.nodes_mk, Tru.inner_mk, ints_cons, ints_nil, encTs_cons, encTs_nil, es_api_Config_cons, es_api_Config_nil, es_api_Member_cons, es_api_Member_nil] at k44
  try dsimp only at hB
  rcases cnd_inv hB with ⟨c45, hB⟩ | ⟨c45, hB⟩
  · obtain rfl := Option.some.inj hB
    try simp -implicitDefEqProofs [-getElem?_pos, -Int.ofNat_lt, -Int.ofNat_le, -Int.natCast_eq_zero, -Int.natCast_pos, -List.length_eq_zero_iff, List.getElem?_cons_zero, List.getElem?_cons_succ, List.getElem?_nil, q1, q2, q3, q4, q5, q6, q7, q8, q9, q10, q11, q12, q13, q14, q15, q16, q17, q18, oa3, oa6, hx, hi2, hi3, hi4, hi5, l38, k40, k42, k44, c45]
    rw [drawK_ok _ _ _ (by kernel_rfl)]
    simp -implicitDefEqProofs [-getElem?_pos, -Int.ofNat_lt, -Int.ofNat_le, -Int.natCast_eq_zero, -Int.natCast_pos, -List.length_eq_zero_iff, List.getElem?_cons_zero, List.getElem?_cons_succ, List.getElem?_nil, q1, q2, q3, q4, q5, q6, q7, q8, q9, q10, q11, q12, q13, q14, q15, q16, q17, q18, oa3, oa6, hx, hi2, hi3, hi4, hi5, l38, k40, k42, k44, c45]
    refine Res.bgo ?_
    simp -implicitDefEqProofs [-getElem?_pos, -Int.ofNat_lt, -Int.ofNat_le, -Int.natCast_eq_zero, -Int.natCast_pos, -List.length_eq_zero_iff, List.getElem?_cons_zero, List.getElem?_cons_succ, List.getElem?_nil, and_assoc, I_law13_DeletionAnswers_4, ownAt, q1, q2, q3, q4, q5, q6, q7, q8, q9, q10, q11, q12, q13, q14, q15, q16, q17, q18, oa3, oa6, hx, hi2, hi3, hi4, hi5, l38, k40, k42, k44, c45]
  · obtain rfl := Option.some.inj hB
    try simp -implicitDefEqProofs [-getElem?_pos, -Int.ofNat_lt, -Int.ofNat_le, -Int.natCast_eq_zero, -Int.natCast_pos, -List.length_eq_zero_iff, List.getElem?_cons_zero, List.getElem?_cons_succ, List.getElem?_nil, q1, q2, q3, q4, q5, q6, q7, q8, q9, q10, q11, q12, q13, q14, q15, q16, q17, q18, oa3, oa6, hx, hi2, hi3, hi4, hi5, l38, k40, k42, k44, c45]
    rw [drawK_ok _ _ _ (by kernel_rfl)]
    simp -implicitDefEqProofs [-getElem?_pos, -Int.ofNat_lt, -Int.ofNat_le, -Int.natCast_eq_zero, -Int.natCast_pos, -List.length_eq_zero_iff, List.getElem?_cons_zero, List.getElem?_cons_succ, List.getElem?_nil, q1, q2, q3, q4, q5, q6, q7, q8, q9, q10, q11, q12, q13, q14, q15, q16, q17, q18, oa3, oa6, hx, hi2, hi3, hi4, hi5, l38, k40, k42, k44, c45]
    refine Res.bret ?_
    simp -implicitDefEqProofs [-getElem?_pos, -Int.ofNat_lt, -Int.ofNat_le, -Int.natCast_eq_zero, -Int.natCast_pos, -List.length_eq_zero_iff, List.getElem?_cons_zero, List.getElem?_cons_succ, List.getElem?_nil, and_assoc, QR_law13_DeletionAnswers_4, ownAt, q1, q2, q3, q4, q5, q6, q7, q8, q9, q10, q11, q12, q13, q14, q15, q16, q17, q18, oa3, oa6, hx, hi2, hi3, hi4, hi5, l38, k40, k42, k44, c45]
theorem Pe_law13_DeletionAnswers_4 {p1 : Tru} {p2 : S_api_Config} {pb3_1_0_4 : (List Int)} {pb3_1_1_4 : Int} {y12 : (S_api_Config × S_trustquorummake_Tape)} {y14 : (Tru × S_trustquorummake_Tape)} {e21 : Int} {p3 : Int} {p4 : Int} {y16 : (Int × S_trustquorummake_Tape)} {y18 : (Int × S_trustquorummake_Tape)} {i20 : Nat} {p85_4 : (List S_api_Config)} {q : St} (hI : I_law13_DeletionAnswers_4 p1 p2 pb3_1_0_4 pb3_1_1_4 y12 y14 e21 p3 p4 y16 y18 i20 p85_4 p85_4.length q) : Res (C Tryd.prog cf (Code.fst (Code.fst (Code.snd (Code.snd (Code.snd (Code.fst (Code.fst (Code.snd (Code.snd (Code.fst (Code.fst (Code.snd (Code.fst (Code.snd (Code.snd (Code.snd (Code.snd (Code.snd ((Tryd.f5.body).getD .skip))))))))))))))))))) q) fun e q' => e = .exit 6 ∧ Q_law13_DeletionAnswers_4 p1 p2 pb3_1_0_4 pb3_1_1_4 y12 y14 e21 p3 p4 y16 y18 i20 p85_4 q' := by
  simp only [I_law13_DeletionAnswers_4] at hI
  obtain ⟨q1, q2, ⟨v3, q3, a3⟩, q4, q5, ⟨v6, q6, a6⟩, q7, q8, ⟨g10, q9, q10⟩, ⟨g12, q11, q12⟩, ⟨g14, q13, q14⟩, ⟨g16, q15, q16⟩, ⟨g18, q17, q18⟩⟩ := hI
  simp only [Code.fst, Code.snd, Tryd.f5, Option.getD_some]
  rcases a3 with ⟨ga3, rfl, oa3⟩
  rcases a6 with ⟨ga6, rfl, oa6⟩
  simp -implicitDefEqProofs [-getElem?_pos, -Int.ofNat_lt, -Int.ofNat_le, -Int.natCast_eq_zero, -Int.natCast_pos, -List.length_eq_zero_iff, List.getElem?_cons_zero, List.getElem?_cons_succ, List.getElem?_nil, q1, q2, q3, q4, q5, q6, q7, q8, q9, q10, q11, q12, q13, q14, q15, q16, q17, q18, oa3, oa6]
  refine Res.x ?_
  simp -implicitDefEqProofs [-getElem?_pos, -Int.ofNat_lt, -Int.ofNat_le, -Int.natCast_eq_zero, -Int.natCast_pos, -List.length_eq_zero_iff, List.getElem?_cons_zero, List.getElem?_cons_succ, List.getElem?_nil, and_assoc, Q_law13_DeletionAnswers_4, ownAt, q1, q2, q3, q4, q5, q6, q7, q8, q9, q10, q11, q12, q13, q14, q15, q16, q17, q18, oa3, oa6]
theorem P_law13_DeletionAnswers_4 {p1 : Tru} {p2 : S_api_Config} {pb3_1_0_4 : (List Int)} {pb3_1_1_4 : Int} {y12 : (S_api_Config × S_trustquorummake_Tape)} {y14 : (Tru × S_trustquorummake_Tape)} {e21 : Int} {p3 : Int} {p4 : Int} {y16 : (Int × S_trustquorummake_Tape)} {y18 : (Int × S_trustquorummake_Tape)} {i20 : Nat} {p85_4 : (List S_api_Config)} {cc : Code} (hcc : cc = .block 6 (.loop (Code.fst (Code.fst (Code.snd (Code.snd (Code.snd (Code.fst (Code.fst (Code.snd (Code.snd (Code.fst (Code.fst (Code.snd (Code.fst (Code.snd (Code.snd (Code.snd (Code.snd (Code.snd ((Tryd.f5.body).getD .skip))))))))))))))))))))) {s : St} {z : Option (Ex × St)} (hz : C Tryd.prog cf cc s = z) {r : (Stp Unit Unit)} (hn : p85_4.length < 4611686018427387904) (hI : I_law13_DeletionAnswers_4 p1 p2 pb3_1_0_4 pb3_1_1_4 y12 y14 e21 p3 p4 y16 y18 i20 p85_4 0 s) (hB : loopL (fun i a x => B_law13_DeletionAnswers_4 p1 p2 pb3_1_0_4 pb3_1_1_4 y12 y14 e21 p3 p4 y16 y18 i20 p85_4 i x) 0 () p85_4 = some r) : Res z (postS (fun a q => Q_law13_DeletionAnswers_4 p1 p2 pb3_1_0_4 pb3_1_1_4 y12 y14 e21 p3 p4 y16 y18 i20 p85_4 q) (fun a q => QR_law13_DeletionAnswers_4 p1 p2 pb3_1_0_4 pb3_1_1_4 y12 y14 e21 p3 p4 y16 y18 i20 p85_4 q) r) := by
  subst hcc
  exact loopL_sim (I := fun i a q => I_law13_DeletionAnswers_4 p1 p2 pb3_1_0_4 pb3_1_1_4 y12 y14 e21 p3 p4 y16 y18 i20 p85_4 i q) (Q := (fun a q => Q_law13_DeletionAnswers_4 p1 p2 pb3_1_0_4 pb3_1_1_4 y12 y14 e21 p3 p4 y16 y18 i20 p85_4 q)) (QR := (fun a q => QR_law13_DeletionAnswers_4 p1 p2 pb3_1_0_4 pb3_1_1_4 y12 y14 e21 p3 p4 y16 y18 i20 p85_4 q)) (fun i x a q r hx hi h hB => Pb_law13_DeletionAnswers_4 hx hi hn h hB) (fun a q h => Pe_law13_DeletionAnswers_4 h) hI hz hB
noncomputable def B_law13_DeletionAnswers_3 (p1 : Tru) (p2 : S_api_Config) (y12 : (S_api_Config × S_trustquorummake_Tape)) (y14 : (Tru × S_trustquorummake_Tape)) (p3 : Int) (p4 : Int) (y16 : (Int × S_trustquorummake_Tape)) (y18 : (Int × S_trustquorummake_Tape)) (i20 : Nat) (xb3_1_0_3 : (List Int)) (xb3_1_1_3 : Int) (e21 : Int) : Option (Stp ((List Int) × Int) Unit) :=
  kb (G_make_BentTrust (S_trustquorummake_Tape.mk xb3_1_0_3 xb3_1_1_3) y14.1) fun y21 =>
  kb (smallK ([y14.1, y21.1, p1] : List Tru)) fun _ =>
  kb (loopL (fun i a x => B_law13_DeletionAnswers_1 p1 p2 y12 y14 e21 p3 p4 y16 y18 i20 ([y14.1, y21.1, p1] : List Tru) i a.1 a.2 x) 0 (y21.2.f0, y21.2.f1) ([y14.1, y21.1, p1] : List Tru)) fun o => stpK o (fun z35 =>
    kb (G_make_BentConfig (S_trustquorummake_Tape.mk z35.1 z35.2) y12.1) fun y36 =>
    kb (smallK ([y12.1, y36.1, p2] : List S_api_Config)) fun _ =>
    kb (loopL (fun i a x => B_law13_DeletionAnswers_4 p1 p2 y36.2.f0 y36.2.f1 y12 y14 e21 p3 p4 y16 y18 i20 ([y12.1, y36.1, p2] : List S_api_Config) i x) 0 () ([y12.1, y36.1, p2] : List S_api_Config)) fun o => stpK o (fun z46 =>
      some (.go (y36.2.f0, y36.2.f1))) (fun z46r =>
      some (.ret ()))) (fun z35r =>
    some (.ret ()))
def I_law13_DeletionAnswers_3 (p1 : Tru) (p2 : S_api_Config) (y12 : (S_api_Config × S_trustquorummake_Tape)) (y14 : (Tru × S_trustquorummake_Tape)) (p3 : Int) (p4 : Int) (y16 : (Int × S_trustquorummake_Tape)) (y18 : (Int × S_trustquorummake_Tape)) (i20 : Nat) (xb3_1_0_3 : (List Int)) (xb3_1_1_3 : Int) (q : St) : Prop := q (.t 3) = (i64 p3) ∧ (∃ v : AV, q (.t 42) = v ∧ (ownAt q v (.site 6 5 0) false 1 ([p4, y16.1, y18.1, 0, 1023] : List Int).length (ints ([p4, y16.1, y18.1, 0, 1023] : List Int)))) ∧ q (.t 43) = (i64 5) ∧ q (.t 44) = (i64 (i20 : Int)) ∧ (∃ (g : Nat), q (.t 6) = .ptr (.site 0 0 0) g 0 ∧ q (.i (.site 0 0 0)) = .box g [(i64 p1.thr), (.pv (.sl p1.nodes.length (ints p1.nodes))), (.pv (.sl p1.inner.length (encTs p1.inner)))]) ∧ (∃ (g : Nat), q (.t 7) = .ptr (.site 0 1 0) g 0 ∧ q (.i (.site 0 1 0)) = .box g [(.pv (.sl p2.f0.length (es_api_Member p2.f0)))]) ∧ (∃ (g : Nat), q (.t 11) = .ptr (.site 3 1 0) g 0 ∧ q (.i (.site 3 1 0)) = .box g [(.pv (.sl xb3_1_0_3.length (ints xb3_1_0_3))), (i64 xb3_1_1_3)]) ∧ (∃ (g : Nat), q (.t 12) = .ptr (.site 4 2 0) g 0 ∧ q (.i (.site 4 2 0)) = .box g [(.pv (.sl y12.1.f0.length (es_api_Member y12.1.f0)))]) ∧ (∃ (g : Nat), q (.t 13) = .ptr (.site 5 2 0) g 0 ∧ q (.i (.site 5 2 0)) = .box g [(i64 y14.1.thr), (.pv (.sl y14.1.nodes.length (ints y14.1.nodes))), (.pv (.sl y14.1.inner.length (encTs y14.1.inner)))])
def Q_law13_DeletionAnswers_3 (p1 : Tru) (p2 : S_api_Config) (y12 : (S_api_Config × S_trustquorummake_Tape)) (y14 : (Tru × S_trustquorummake_Tape)) (p3 : Int) (p4 : Int) (y16 : (Int × S_trustquorummake_Tape)) (y18 : (Int × S_trustquorummake_Tape)) (xb3_1_0_3 : (List Int)) (xb3_1_1_3 : Int) (q : St) : Prop := True
def QR_law13_DeletionAnswers_3 (p1 : Tru) (p2 : S_api_Config) (y12 : (S_api_Config × S_trustquorummake_Tape)) (y14 : (Tru × S_trustquorummake_Tape)) (p3 : Int) (p4 : Int) (y16 : (Int × S_trustquorummake_Tape)) (y18 : (Int × S_trustquorummake_Tape)) (q : St) : Prop := q (.t 10) = (bl false)
theorem Pb_law13_DeletionAnswers_3 {p1 : Tru} {p2 : S_api_Config} {y12 : (S_api_Config × S_trustquorummake_Tape)} {y14 : (Tru × S_trustquorummake_Tape)} {p3 : Int} {p4 : Int} {y16 : (Int × S_trustquorummake_Tape)} {y18 : (Int × S_trustquorummake_Tape)} {i20 : Nat} {xb3_1_0_3 : (List Int)} {xb3_1_1_3 : Int} {e21 : Int} {q : St} {r : (Stp ((List Int) × Int) Unit)} (hx : ([p4, y16.1, y18.1, 0, 1023] : List Int)[i20]? = some e21) (hi : i20 < ([p4, y16.1, y18.1, 0, 1023] : List Int).length) (hn : ([p4, y16.1, y18.1, 0, 1023] : List Int).length < 4611686018427387904) (hI : I_law13_DeletionAnswers_3 p1 p2 y12 y14 p3 p4 y16 y18 i20 xb3_1_0_3 xb3_1_1_3 q) (hB : B_law13_DeletionAnswers_3 p1 p2 y12 y14 p3 p4 y16 y18 i20 xb3_1_0_3 xb3_1_1_3 e21 = some r) : Res (C Tryd.prog cf (Code.fst (Code.fst (Code.snd (Code.fst (Code.snd (Code.snd (Code.snd (Code.snd (Code.snd ((Tryd.f5.body).getD .skip)))))))))) q) (postB 0 (fun a q => I_law13_DeletionAnswers_3 p1 p2 y12 y14 p3 p4 y16 y18 (i20 + 1) a.1 a.2 q) (fun a q => Q_law13_DeletionAnswers_3 p1 p2 y12 y14 p3 p4 y16 y18 a.1 a.2 q) (fun a q => QR_law13_DeletionAnswers_3 p1 p2 y12 y14 p3 p4 y16 y18 q) r) := by
  have hi3 : (i20 : Int) < 5 := by simp only [List.length_cons, List.length_nil] at hi; omega
  have hi2 := decide_eq_true hi3
  have hi4 := idx_step hi hn
  have hi5 := ne_of_get hx
  simp only [I_law13_DeletionAnswers_3] at hI
  obtain ⟨q1, ⟨v2, q2, a2⟩, q3, q4, ⟨g6, q5, q6⟩, ⟨g8, q7, q8⟩, ⟨g10, q9, q10⟩, ⟨g12, q11, q12⟩, ⟨g14, q13, q14⟩⟩ := hI
  simp only [Code.fst, Code.snd, Tryd.f5, Option.getD_some]
  generalize hc1 : Code.block 2 _ = cc1
  generalize hc4 : Code.block 6 _ = cc4
  unfold B_law13_DeletionAnswers_3 at hB
  rcases a2 with ⟨ga2, rfl, oa2⟩
  have l20 := ints_get1 hx
  try simp only [Nat.mul_one] at l20
  try simp only [Int.cast_ofNat_Int, Int.natCast_zero, List.length_cons, List.length_nil, List.nil_append, List.cons_append, Nat.zero_add, Nat.reduceAdd, Tru.thr_mk, Tru.nodes_mk, Tru.inner_mk, ints_cons, ints_nil, encTs_cons, encTs_nil, es_api_Config_cons, es_api_Config_nil, es_api_Member_cons, es_api_Member_nil] at l20
  obtain ⟨y21, k22, hB⟩ := kb_inv hB
  replace k22 := run_make_BentTrust k22
  try simp only [Int.cast_ofNat_Int, Int.natCast_zero, List.length_cons, List.length_nil, List.nil_append, List.cons_append, Nat.zero_add, Nat.reduceAdd, Tru.thr_mk, Tru.nodes_mk, Tru.inner_mk, ints_cons, ints_nil, encTs_cons, encTs_nil, es_api_Config_cons, es_api_Config_nil, es_api_Member_cons, es_api_Member_nil] at k22
  try dsimp only at hB
  try simp -implicitDefEqProofs [-getElem?_pos, -Int.ofNat_lt, -Int.ofNat_le, -Int.natCast_eq_zero, -Int.natCast_pos, -List.length_eq_zero_iff, List.getElem?_cons_zero, List.getElem?_cons_succ, List.getElem?_nil, q1, q2, q3, q4, q5, q6, q7, q8, q9, q10, q11, q12, q13, q14, oa2, hx, hi2, hi3, hi4, hi5, l20, k22]
  rw [drawK_ok _ _ _ (by kernel_rfl)]
  simp -implicitDefEqProofs [-getElem?_pos, -Int.ofNat_lt, -Int.ofNat_le, -Int.natCast_eq_zero, -Int.natCast_pos, -List.length_eq_zero_iff, List.getElem?_cons_zero, List.getElem?_cons_succ, List.getElem?_nil, q1, q2, q3, q4, q5, q6, q7, q8, q9, q10, q11, q12, q13, q14, oa2, hx, hi2, hi3, hi4, hi5, l20, k22]
  generalize hz1 : C Tryd.prog cf cc1 _ = z1
  obtain ⟨_, hsm, hB⟩ := kb_inv hB
  obtain ⟨o, hB1, hB⟩ := kb_inv hB
  have hJ := P_law13_DeletionAnswers_1 (hc1.symm.trans (by kernel_rfl)) hz1 (smallK_inv hsm) (by simp -implicitDefEqProofs [-getElem?_pos, -Int.ofNat_lt, -Int.ofNat_le, -Int.natCast_eq_zero, -Int.natCast_pos, -List.length_eq_zero_iff, List.getElem?_cons_zero, List.getElem?_cons_succ, List.getElem?_nil, and_assoc, I_law13_DeletionAnswers_1, ownAt, q1, q2, q3, q4, q5, q6, q7, q8, q9, q10, q11, q12, q13, q14, oa2, hx, hi2, hi3, hi4, hi5, l20, k22]) hB1
  obtain ⟨e1, s1, rfl, hq⟩ := hJ.open
  clear hB1
  rcases o with z35 | ⟨_, _⟩ | z35r
  · simp only [stpK_go] at hB
    obtain ⟨rfl, hq⟩ := hq
    simp only [Q_law13_DeletionAnswers_1] at hq
    obtain ⟨q35_1, q35_2, ⟨v35_3, q35_3, a35_3⟩, q35_4, q35_5, ⟨g35_7, q35_6, q35_7⟩, ⟨g35_9, q35_8, q35_9⟩, ⟨g35_11, q35_10, q35_11⟩, ⟨g35_13, q35_12, q35_13⟩, ⟨g35_15, q35_14, q35_15⟩⟩ := hq
    rcases a35_3 with ⟨ga35_3, rfl, oa35_3⟩
    obtain ⟨y36, k37, hB⟩ := kb_inv hB
    replace k37 := run_make_BentConfig k37
    try simp only [Int.cast_ofNat_Int, Int.natCast_zero, List.length_cons, List.length_nil, List.nil_append, List.cons_append, Nat.zero_add, Nat.reduceAdd, Tru.thr_mk, Tru.nodes_mk, Tru.inner_mk, ints_cons, ints_nil, encTs_cons, encTs_nil, es_api_Config_cons, es_api_Config_nil, es_api_Member_cons, es_api_Member_nil] at k37
    try dsimp only at hB
    try simp -implicitDefEqProofs [-getElem?_pos, -Int.ofNat_lt, -Int.ofNat_le, -Int.natCast_eq_zero, -Int.natCast_pos, -List.length_eq_zero_iff, List.getElem?_cons_zero, List.getElem?_cons_succ, List.getElem?_nil, q35_1, q35_2, q35_3, q35_4, q35_5, q35_6, q35_7, q35_8, q35_9, q35_10, q35_11, q35_12, q35_13, q35_14, q35_15, oa35_3, hx, hi2, hi3, hi4, hi5, l20, k22, k37]
    rw [drawK_ok _ _ _ (by kernel_rfl)]
    simp -implicitDefEqProofs [-getElem?_pos, -Int.ofNat_lt, -Int.ofNat_le, -Int.natCast_eq_zero, -Int.natCast_pos, -List.length_eq_zero_iff, List.getElem?_cons_zero, List.getElem?_cons_succ, List.getElem?_nil, q35_1, q35_2, q35_3, q35_4, q35_5, q35_6, q35_7, q35_8, q35_9, q35_10, q35_11, q35_12, q35_13, q35_14, q35_15, oa35_3, hx, hi2, hi3, hi4, hi5, l20, k22, k37]
    generalize hz4 : C Tryd.prog cf cc4 _ = z4
    obtain ⟨_, hsm, hB⟩ := kb_inv hB
    obtain ⟨o, hB1, hB⟩ := kb_inv hB
    have hJ := P_law13_DeletionAnswers_4 (hc4.symm.trans (by kernel_rfl)) hz4 (smallK_inv hsm) (by simp -implicitDefEqProofs [-getElem?_pos, -Int.ofNat_lt, -Int.ofNat_le, -Int.natCast_eq_zero, -Int.natCast_pos, -List.length_eq_zero_iff, List.getElem?_cons_zero, List.getElem?_cons_succ, List.getElem?_nil, and_assoc, I_law13_DeletionAnswers_4, ownAt, q35_1, q35_2, q35_3, q35_4, q35_5, q35_6, q35_7, q35_8, q35_9, q35_10, q35_11, q35_12, q35_13, q35_14, q35_15, oa35_3, hx, hi2, hi3, hi4, hi5, l20, k22, k37]) hB1
    obtain ⟨e4, s4, rfl, hq⟩ := hJ.open
    clear hB1
    rcases o with z46 | ⟨_, _⟩ | z46r
    · simp only [stpK_go] at hB
      obtain ⟨rfl, hq⟩ := hq
      simp only [Q_law13_DeletionAnswers_4] at hq
      obtain ⟨q46_1, ⟨v46_2, q46_2, a46_2⟩, q46_3, q46_4, ⟨g46_6, q46_5, q46_6⟩, ⟨g46_8, q46_7, q46_8⟩, ⟨g46_10, q46_9, q46_10⟩, ⟨g46_12, q46_11, q46_12⟩, ⟨g46_14, q46_13, q46_14⟩⟩ := hq
      rcases a46_2 with ⟨ga46_2, rfl, oa46_2⟩
      obtain rfl := Option.some.inj hB
      try simp -implicitDefEqProofs [-getElem?_pos, -Int.ofNat_lt, -Int.ofNat_le, -Int.natCast_eq_zero, -Int.natCast_pos, -List.length_eq_zero_iff, List.getElem?_cons_zero, List.getElem?_cons_succ, List.getElem?_nil, q46_1, q46_2, q46_3, q46_4, q46_5, q46_6, q46_7, q46_8, q46_9, q46_10, q46_11, q46_12, q46_13, q46_14, oa46_2, hx, hi2, hi3, hi4, hi5, l20, k22, k37]
      refine Res.bgo ?_
      simp -implicitDefEqProofs [-getElem?_pos, -Int.ofNat_lt, -Int.ofNat_le, -Int.natCast_eq_zero, -Int.natCast_pos, -List.length_eq_zero_iff, List.getElem?_cons_zero, List.getElem?_cons_succ, List.getElem?_nil, and_assoc, I_law13_DeletionAnswers_3, ownAt, q46_1, q46_2, q46_3, q46_4, q46_5, q46_6, q46_7, q46_8, q46_9, q46_10, q46_11, q46_12, q46_13, q46_14, oa46_2, hx, hi2, hi3, hi4, hi5, l20, k22, k37]
    · exact hq.elim
    · simp only [stpK_ret] at hB
      obtain ⟨rfl, hq⟩ := hq
      simp only [QR_law13_DeletionAnswers_4] at hq
      have q46_r1 := hq
      obtain rfl := Option.some.inj hB
      try simp -implicitDefEqProofs [-getElem?_pos, -Int.ofNat_lt, -Int.ofNat_le, -Int.natCast_eq_zero, -Int.natCast_pos, -List.length_eq_zero_iff, List.getElem?_cons_zero, List.getElem?_cons_succ, List.getElem?_nil, q46_r1, hx, hi2, hi3, hi4, hi5, l20, k22, k37]
      refine Res.bret ?_
      simp -implicitDefEqProofs [-getElem?_pos, -Int.ofNat_lt, -Int.ofNat_le, -Int.natCast_eq_zero, -Int.natCast_pos, -List.length_eq_zero_iff, List.getElem?_cons_zero, List.getElem?_cons_succ, List.getElem?_nil, and_assoc, QR_law13_DeletionAnswers_3, ownAt, q46_r1, hx, hi2, hi3, hi4, hi5, l20, k22, k37]
  · exact hq.elim
  · simp only [stpK_ret] at hB
    obtain ⟨rfl, hq⟩ := hq
    simp only [QR_law13_DeletionAnswers_1] at hq
    have q35_r1 := hq
    obtain rfl := Option.some.inj hB
    try simp -implicitDefEqProofs [-getElem?_pos, -Int.ofNat_lt, -Int.ofNat_le, -Int.natCast_eq_zero, -Int.natCast_pos, -List.length_eq_zero_iff, List.getElem?_cons_zero, List.getElem?_cons_succ, List.getElem?_nil, q35_r1, hx, hi2, hi3, hi4, hi5, l20, k22]
    refine Res.bret ?_
    simp -implicitDefEqProofs [-getElem?_pos, -Int.ofNat_lt, -Int.ofNat_le, -Int.natCast_eq_zero, -Int.natCast_pos, -List.length_eq_zero_iff, List.getElem?_cons_zero, List.getElem?_cons_succ, List.getElem?_nil, and_assoc, QR_law13_DeletionAnswers_3, ownAt, q35_r1, hx, hi2, hi3, hi4, hi5, l20, k22]
theorem Pe_law13_DeletionAnswers_3 {p1 : Tru} {p2 : S_api_Config} {y12 : (S_api_Config × S_trustquorummake_Tape)} {y14 : (Tru × S_trustquorummake_Tape)} {p3 : Int} {p4 : Int} {y16 : (Int × S_trustquorummake_Tape)} {y18 : (Int × S_trustquorummake_Tape)} {xb3_1_0_3 : (List Int)} {xb3_1_1_3 : Int} {q : St} (hI : I_law13_DeletionAnswers_3 p1 p2 y12 y14 p3 p4 y16 y18 ([p4, y16.1, y18.1, 0, 1023] : List Int).length xb3_1_0_3 xb3_1_1_3 q) : Res (C Tryd.prog cf (Code.fst (Code.fst (Code.snd (Code.fst (Code.snd (Code.snd (Code.snd (Code.snd (Code.snd ((Tryd.f5.body).getD .skip)))))))))) q) fun e q' => e = .exit 0 ∧ Q_law13_DeletionAnswers_3 p1 p2 y12 y14 p3 p4 y16 y18 xb3_1_0_3 xb3_1_1_3 q' := by
  simp only [I_law13_DeletionAnswers_3] at hI
  obtain ⟨q1, ⟨v2, q2, a2⟩, q3, q4, ⟨g6, q5, q6⟩, ⟨g8, q7, q8⟩, ⟨g10, q9, q10⟩, ⟨g12, q11, q12⟩, ⟨g14, q13, q14⟩⟩ := hI
  simp only [Code.fst, Code.snd, Tryd.f5, Option.getD_some]
  rcases a2 with ⟨ga2, rfl, oa2⟩
  simp -implicitDefEqProofs [-getElem?_pos, -Int.ofNat_lt, -Int.ofNat_le, -Int.natCast_eq_zero, -Int.natCast_pos, -List.length_eq_zero_iff, List.getElem?_cons_zero, List.getElem?_cons_succ, List.getElem?_nil, q1, q2, q3, q4, q5, q6, q7, q8, q9, q10, q11, q12, q13, q14, oa2]
  refine Res.x ?_
  simp -implicitDefEqProofs [-getElem?_pos, -Int.ofNat_lt, -Int.ofNat_le, -Int.natCast_eq_zero, -Int.natCast_pos, -List.length_eq_zero_iff, List.getElem?_cons_zero, List.getElem?_cons_succ, List.getElem?_nil, and_assoc, Q_law13_DeletionAnswers_3, ownAt, q1, q2, q3, q4, q5, q6, q7, q8, q9, q10, q11, q12, q13, q14, oa2]
theorem P_law13_DeletionAnswers_3 {p1 : Tru} {p2 : S_api_Config} {y12 : (S_api_Config × S_trustquorummake_Tape)} {y14 : (Tru × S_trustquorummake_Tape)} {p3 : Int} {p4 : Int} {y16 : (Int × S_trustquorummake_Tape)} {y18 : (Int × S_trustquorummake_Tape)} {xb3_1_0_3 : (List Int)} {xb3_1_1_3 : Int} {cc : Code} (hcc : cc = .block 0 (.loop (Code.fst (Code.fst (Code.snd (Code.fst (Code.snd (Code.snd (Code.snd (Code.snd (Code.snd ((Tryd.f5.body).getD .skip)))))))))))) {s : St} {z : Option (Ex × St)} (hz : C Tryd.prog cf cc s = z) {r : (Stp ((List Int) × Int) Unit)} (hn : ([p4, y16.1, y18.1, 0, 1023] : List Int).length < 4611686018427387904) (hI : I_law13_DeletionAnswers_3 p1 p2 y12 y14 p3 p4 y16 y18 0 xb3_1_0_3 xb3_1_1_3 s) (hB : loopL (fun i a x => B_law13_DeletionAnswers_3 p1 p2 y12 y14 p3 p4 y16 y18 i a.1 a.2 x) 0 (xb3_1_0_3, xb3_1_1_3) ([p4, y16.1, y18.1, 0, 1023] : List Int) = some r) : Res z (postS (fun a q => Q_law13_DeletionAnswers_3 p1 p2 y12 y14 p3 p4 y16 y18 a.1 a.2 q) (fun a q => QR_law13_DeletionAnswers_3 p1 p2 y12 y14 p3 p4 y16 y18 q) r) := by
  subst hcc
  exact loopL_sim (I := fun i a q => I_law13_DeletionAnswers_3 p1 p2 y12 y14 p3 p4 y16 y18 i a.1 a.2 q) (Q := (fun a q => Q_law13_DeletionAnswers_3 p1 p2 y12 y14 p3 p4 y16 y18 a.1 a.2 q)) (QR := (fun a q => QR_law13_DeletionAnswers_3 p1 p2 y12 y14 p3 p4 y16 y18 q)) (fun i x a q r hx hi h hB => Pb_law13_DeletionAnswers_3 hx hi hn h hB) (fun a q h => Pe_law13_DeletionAnswers_3 h) hI hz hB
noncomputable def B_law13_DeletionAnswers (p0 : (List Int)) (p1 : Tru) (p2 : S_api_Config) (p3 : Int) (p4 : Int) : Option Bool :=
  kb (B_law13_DeletionAnswers_0 p1 p2 p0 p3 p4) fun z6 =>
  cnd z6 (
    kb (G_law13_awake ) fun y8 =>
    some y8) (
    kb (G_make_New p0) fun y10 =>
    kb (G_make_Config y10 10) fun y12 =>
    kb (G_make_Trust y12.2 10 4) fun y14 =>
    kb (G_make_Tape_N y14.2 1024) fun y16 =>
    kb (G_make_Tape_N y16.2 1024) fun y18 =>
    kb (smallK ([p4, y16.1, y18.1, 0, 1023] : List Int)) fun _ =>
    kb (loopL (fun i a x => B_law13_DeletionAnswers_3 p1 p2 y12 y14 p3 p4 y16 y18 i a.1 a.2 x) 0 (y18.2.f0, y18.2.f1) ([p4, y16.1, y18.1, 0, 1023] : List Int)) fun o => stpK o (fun z47 =>
      kb (G_law13_awake ) fun y48 =>
      some y48) (fun z47r =>
      some false))
theorem sim_law13_DeletionAnswers {p0 : (List Int)} {p1 : Tru} {p2 : S_api_Config} {p3 : Int} {p4 : Int} {r : Bool} (hB : B_law13_DeletionAnswers p0 p1 p2 p3 p4 = some r) : R 5 [(.pv (.sl p0.length (ints p0))), (.agg [(i64 p1.thr), (.pv (.sl p1.nodes.length (ints p1.nodes))), (.pv (.sl p1.inner.length (encTs p1.inner)))]), (.agg [(.pv (.sl p2.f0.length (es_api_Member p2.f0)))]), (i64 p3), (i64 p4)] [] = some ((bl r), [], []) := by
  rw [R_eq _ _ _ fn_law13_DeletionAnswers]
  simp only [Code.fst, Code.snd, Tryd.f5, Option.getD_some]
  generalize hc0 : Code.region 1 _ _ = cc0
  generalize hc3 : Code.block 0 _ = cc3
  unfold B_law13_DeletionAnswers at hB
  try simp -implicitDefEqProofs [-getElem?_pos, -Int.ofNat_lt, -Int.ofNat_le, -Int.natCast_eq_zero, -Int.natCast_pos, -List.length_eq_zero_iff, List.getElem?_cons_zero, List.getElem?_cons_succ, List.getElem?_nil]
  generalize hz0 : C Tryd.prog cf cc0 _ = z0
  obtain ⟨z6, hB1, hB⟩ := kb_inv hB
  have hJ := P_law13_DeletionAnswers_0 (hc0.symm.trans (by kernel_rfl)) hz0 (by simp -implicitDefEqProofs [-getElem?_pos, -Int.ofNat_lt, -Int.ofNat_le, -Int.natCast_eq_zero, -Int.natCast_pos, -List.length_eq_zero_iff, List.getElem?_cons_zero, List.getElem?_cons_succ, List.getElem?_nil, and_assoc, J_law13_DeletionAnswers_0, ownAt]) hB1
  obtain ⟨e0, s0, rfl, hq⟩ := hJ.open
  clear hB1
  obtain ⟨rfl, hq⟩ := hq
  simp only [Q_law13_DeletionAnswers_0] at hq
  obtain ⟨q6_1, q6_2, q6_3, q6_4, ⟨g6_6, q6_5, q6_6⟩, ⟨g6_8, q6_7, q6_8⟩⟩ := hq
  rcases cnd_inv hB with ⟨c7, hB⟩ | ⟨c7, hB⟩
  · obtain ⟨y8, k9, hB⟩ := kb_inv hB
    replace k9 := run_law13_awake k9
    try simp only [Int.cast_ofNat_Int, Int.natCast_zero, List.length_cons, List.length_nil, List.nil_append, List.cons_append, Nat.zero_add, Nat.reduceAdd, Tru.thr_mk, Tru.nodes_mk, Tru.inner_mk, ints_cons, ints_nil, encTs_cons, encTs_nil, es_api_Config_cons, es_api_Config_nil, es_api_Member_cons, es_api_Member_nil, c7] at k9
    try dsimp only at hB
    obtain rfl := Option.some.inj hB
    simp -implicitDefEqProofs [-getElem?_pos, -Int.ofNat_lt, -Int.ofNat_le, -Int.natCast_eq_zero, -Int.natCast_pos, -List.length_eq_zero_iff, List.getElem?_cons_zero, List.getElem?_cons_succ, List.getElem?_nil, q6_1, q6_2, q6_3, q6_4, q6_5, q6_6, q6_7, q6_8, c7, k9]
  · obtain ⟨y10, k11, hB⟩ := kb_inv hB
    replace k11 := run_make_New k11
    try simp only [Int.cast_ofNat_Int, Int.natCast_zero, List.length_cons, List.length_nil, List.nil_append, List.cons_append, Nat.zero_add, Nat.reduceAdd, Tru.thr_mk, Tru.nodes_mk, Tru.inner_mk, ints_cons, ints_nil, encTs_cons, encTs_nil, es_api_Config_cons, es_api_Config_nil, es_api_Member_cons, es_api_Member_nil, c7] at k11
    try dsimp only at hB
    obtain ⟨y12, k13, hB⟩ := kb_inv hB
    replace k13 := run_make_Config k13
    try simp only [Int.cast_ofNat_Int, Int.natCast_zero, List.length_cons, List.length_nil, List.nil_append, List.cons_append, Nat.zero_add, Nat.reduceAdd, Tru.thr_mk, Tru.nodes_mk, Tru.inner_mk, ints_cons, ints_nil, encTs_cons, encTs_nil, es_api_Config_cons, es_api_Config_nil, es_api_Member_cons, es_api_Member_nil, c7] at k13
    try dsimp only at hB
    obtain ⟨y14, k15, hB⟩ := kb_inv hB
    replace k15 := run_make_Trust k15
    try simp only [Int.cast_ofNat_Int, Int.natCast_zero, List.length_cons, List.length_nil, List.nil_append, List.cons_append, Nat.zero_add, Nat.reduceAdd, Tru.thr_mk, Tru.nodes_mk, Tru.inner_mk, ints_cons, ints_nil, encTs_cons, encTs_nil, es_api_Config_cons, es_api_Config_nil, es_api_Member_cons, es_api_Member_nil, c7] at k15
    try dsimp only at hB
    obtain ⟨y16, k17, hB⟩ := kb_inv hB
    replace k17 := run_make_Tape_N k17
    try simp only [Int.cast_ofNat_Int, Int.natCast_zero, List.length_cons, List.length_nil, List.nil_append, List.cons_append, Nat.zero_add, Nat.reduceAdd, Tru.thr_mk, Tru.nodes_mk, Tru.inner_mk, ints_cons, ints_nil, encTs_cons, encTs_nil, es_api_Config_cons, es_api_Config_nil, es_api_Member_cons, es_api_Member_nil, c7] at k17
    try dsimp only at hB
    obtain ⟨y18, k19, hB⟩ := kb_inv hB
    replace k19 := run_make_Tape_N k19
    try simp only [Int.cast_ofNat_Int, Int.natCast_zero, List.length_cons, List.length_nil, List.nil_append, List.cons_append, Nat.zero_add, Nat.reduceAdd, Tru.thr_mk, Tru.nodes_mk, Tru.inner_mk, ints_cons, ints_nil, encTs_cons, encTs_nil, es_api_Config_cons, es_api_Config_nil, es_api_Member_cons, es_api_Member_nil, c7] at k19
    try dsimp only at hB
    try simp -implicitDefEqProofs [-getElem?_pos, -Int.ofNat_lt, -Int.ofNat_le, -Int.natCast_eq_zero, -Int.natCast_pos, -List.length_eq_zero_iff, List.getElem?_cons_zero, List.getElem?_cons_succ, List.getElem?_nil, q6_1, q6_2, q6_3, q6_4, q6_5, q6_6, q6_7, q6_8, c7, k11, k13, k15, k17, k19]
    generalize hz3 : C Tryd.prog cf cc3 _ = z3
    obtain ⟨_, hsm, hB⟩ := kb_inv hB
    obtain ⟨o, hB1, hB⟩ := kb_inv hB
    have hJ := P_law13_DeletionAnswers_3 (hc3.symm.trans (by kernel_rfl)) hz3 (smallK_inv hsm) (by simp -implicitDefEqProofs [-getElem?_pos, -Int.ofNat_lt, -Int.ofNat_le, -Int.natCast_eq_zero, -Int.natCast_pos, -List.length_eq_zero_iff, List.getElem?_cons_zero, List.getElem?_cons_succ, List.getElem?_nil, and_assoc, I_law13_DeletionAnswers_3, ownAt, q6_1, q6_2, q6_3, q6_4, q6_5, q6_6, q6_7, q6_8, c7, k11, k13, k15, k17, k19]) hB1
    obtain ⟨e3, s3, rfl, hq⟩ := hJ.open
    clear hB1
    rcases o with z47 | ⟨_, _⟩ | z47r
    · simp only [stpK_go] at hB
      obtain ⟨rfl, hq⟩ := hq
      simp only [Q_law13_DeletionAnswers_3] at hq
      obtain ⟨y48, k49, hB⟩ := kb_inv hB
      replace k49 := run_law13_awake k49
      try simp only [Int.cast_ofNat_Int, Int.natCast_zero, List.length_cons, List.length_nil, List.nil_append, List.cons_append, Nat.zero_add, Nat.reduceAdd, Tru.thr_mk, Tru.nodes_mk, Tru.inner_mk, ints_cons, ints_nil, encTs_cons, encTs_nil, es_api_Config_cons, es_api_Config_nil, es_api_Member_cons, es_api_Member_nil, c7] at k49
      try dsimp only at hB
      obtain rfl := Option.some.inj hB
      simp -implicitDefEqProofs [-getElem?_pos, -Int.ofNat_lt, -Int.ofNat_le, -Int.natCast_eq_zero, -Int.natCast_pos, -List.length_eq_zero_iff, List.getElem?_cons_zero, List.getElem?_cons_succ, List.getElem?_nil, c7, k11, k13, k15, k17, k19, k49]
    · exact hq.elim
    · simp only [stpK_ret] at hB
      obtain ⟨rfl, hq⟩ := hq
      simp only [QR_law13_DeletionAnswers_3] at hq
      have q47_r1 := hq
      obtain rfl := Option.some.inj hB
      simp -implicitDefEqProofs [-getElem?_pos, -Int.ofNat_lt, -Int.ofNat_le, -Int.natCast_eq_zero, -Int.natCast_pos, -List.length_eq_zero_iff, List.getElem?_cons_zero, List.getElem?_cons_succ, List.getElem?_nil, q47_r1, c7, k11, k13, k15, k17, k19]
theorem g_law13_DeletionAnswers {p0 : (List Int)} {p1 : Tru} {p2 : S_api_Config} {p3 : Int} {p4 : Int} {r : Bool} (hB : B_law13_DeletionAnswers p0 p1 p2 p3 p4 = some r) : G_law13_DeletionAnswers p0 p1 p2 p3 p4 = some r := dec_of (fun a b h => by rcases a with a0_; rcases b with b0_; simp at h; simp [*]) (sim_law13_DeletionAnswers hB)
end Go.Am

/-
The plain law of DeletionAnswers.
-/
namespace Go.Am
open Go
set_option linter.unusedVariables false
set_option linter.unusedSimpArgs false

theorem val_wee {x : Tru} (h : valB x = true) (hf : x.Fine) : x.Wee 400 := by
  unfold valB at h
  rw [Bool.and_eq_true, Bool.and_eq_true, decide_eq_true_eq, decide_eq_true_eq] at h
  exact ⟨by omega, hf.2⟩
theorem smallK2 {X : Type} (a b : X) : smallK [a, b] = some () := smallK_some (by simp)
theorem smallK3 {X : Type} (a b c : X) : smallK [a, b, c] = some () := smallK_some (by simp)
theorem smallK5 {X : Type} (a b c d e : X) : smallK [a, b, c, d, e] = some () := smallK_some (by simp)
theorem law_DeletionAnswers (l : List Int) (hl : ∀ k ∈ l, in64 k) (x : Tru) (hx : x.Ok) (hxs : x.Slim) (c : Conf) (hc : ∀ m ∈ c.f0, m.f1.Ok) (hcs : ∀ m ∈ c.f0, m.f1.Slim) (node s : Int) (hnode : in64 node) (hs : in64 s) :
    B_law13_DeletionAnswers l x c node s = some true := by
  obtain ⟨b1, e1, hb1⟩ := s_SmallTrust hxs
  obtain ⟨b2, e2, hb2⟩ := s_SmallConfig hcs
  have h0 : B_law13_DeletionAnswers_0 x c l node s = some (!(b1 && b2)) := by
    unfold B_law13_DeletionAnswers_0
    rw [e1, kb_some]
    cases b1
    · rfl
    · rw [cnd_true, e2, kb_some]; rfl
  unfold B_law13_DeletionAnswers
  rw [h0, kb_some]
  cases hb : b1 && b2
  · simp only [Bool.not_false, cnd_true]
    rw [s_awake, kb_some]
  rw [Bool.and_eq_true] at hb
  have hx9 := hb1 hb.1
  obtain ⟨hc30, hc9⟩ := hb2 hb.2
  have wx : x.Wee 400 := ⟨by omega, hx⟩
  have wc : CWee 400 c := ⟨hc30, fun m hm => ⟨by have := hc9 m hm; omega, hc m hm⟩⟩
  obtain ⟨t0, g0, ht0⟩ := s_New hl
  obtain ⟨cf, t1, g1, ⟨hf1, hf2, hf3⟩, ht1⟩ := s_Config 10 (by omega) (by omega) t0 ht0
  obtain ⟨y, t2, g2, ⟨hv, hyf, _⟩, ht2⟩ := s_mkTrust 10 (by omega) (by omega) 4 (by omega) t1 ht1
  obtain ⟨v3, t3, g3, hv3, ht3⟩ := s_N ht2 (n := 1024) (by omega) (by omega)
  obtain ⟨v4, t4, g4, hv4, ht4⟩ := s_N ht3 (n := 1024) (by omega) (by omega)
  have wy := val_wee hv hyf
  have wcf : CWee 400 cf := ⟨by omega, fun m hm => by
    rcases hf3 m hm with h | rfl
    · exact val_wee h.2.1 h.2.2.1
    · exact mem0_wee.mono (by omega)⟩
  have round : ∀ (j : Nat) (a : List Int × Int), ∀ e ∈ [s, v3, v4, 0, 1023], Tp ⟨a.1, a.2⟩ → ∃ a' : List Int × Int, B_law13_DeletionAnswers_3 x c (cf, t1) (y, t2) node s (v3, t3) (v4, t4) j a.1 a.2 e = some (.go a') ∧ Tp ⟨a'.1, a'.2⟩ := by
    rintro j ⟨tl, ta⟩ e _ htp
    obtain ⟨z, t5, g5, hz, ht5⟩ := s_BentTrust y 400 wy (by omega) ⟨tl, ta⟩ htp
    have hT : ∀ (k : Nat) (a : List Int × Int), ∀ u ∈ [y, z, x], Tp ⟨a.1, a.2⟩ → ∃ a' : List Int × Int, B_law13_DeletionAnswers_1 x c (cf, t1) (y, t2) e node s (v3, t3) (v4, t4) j [y, z, x] k a.1 a.2 u = some (.go a') ∧ Tp ⟨a'.1, a'.2⟩ := by
      rintro k ⟨ul, ua⟩ u hu hup
      obtain ⟨v, t6, g6, hv6, ht6⟩ := s_N (t := ⟨ul, ua⟩) hup (n := 10) (by omega) (by omega)
      have wu : u.Fine := by
        simp only [List.mem_cons, List.not_mem_nil, or_false] at hu
        rcases hu with rfl | rfl | rfl
        · exact hyf
        · exact wee_fine hz (by omega)
        · exact wee_fine wx (by omega)
      obtain ⟨_, g7, _⟩ := loopL_go (R := Unit) (f := fun i a x_1 => B_law13_DeletionAnswers_2 x c u t6.f0 t6.f1 (cf, t1) (y, t2) e node s (v3, t3) (v4, t4) j [y, z, x] k [node, v] i x_1) (fun _ => True) [node, v] 0 () (fun i a w hw _ => ⟨(), by
        have hk : in64 w := by
          simp only [List.mem_cons, List.not_mem_nil, or_false] at hw
          rcases hw with rfl | rfl
          · exact hnode
          · unfold in64; omega
        unfold B_law13_DeletionAnswers_2
        rw [s_Trust _ _ wu, kb_some, s_ref13_Trust _ _ wu, kb_some]
        obtain ⟨q, q1, q2⟩ := s_ref02_Same (delT e w u) (del_Fine hk wu) (delT e w u)
        rw [q1, q2.2 rfl, kb_some, cnd_true], trivial⟩) trivial
      refine ⟨(t6.f0, t6.f1), ?_, ht6⟩
      unfold B_law13_DeletionAnswers_1
      rw [g6, kb_some]
      dsimp only
      rw [smallK2, kb_some, g7, kb_some, stpK_go]
    obtain ⟨a7, g7, ht7⟩ := loopL_go (R := Unit) (f := fun i a x_1 => B_law13_DeletionAnswers_1 x c (cf, t1) (y, t2) e node s (v3, t3) (v4, t4) j [y, z, x] i a.1 a.2 x_1) (fun a : List Int × Int => Tp ⟨a.1, a.2⟩) [y, z, x] 0 (t5.f0, t5.f1) hT ht5
    obtain ⟨d, t8, g8, hd, ht8⟩ := s_BentConfig (c := cf) (M := 400) (t := ⟨a7.1, a7.2⟩) hf1 (by omega) wcf.2 (by omega) ht7
    obtain ⟨_, g9, _⟩ := loopL_go (R := Unit) (f := fun i a x_1 => B_law13_DeletionAnswers_4 x c t8.f0 t8.f1 (cf, t1) (y, t2) e node s (v3, t3) (v4, t4) j [cf, d, c] i x_1) (fun _ => True) [cf, d, c] 0 () (fun i a u hu _ => ⟨(), by
      have wu : Conf.Fine u := by
        simp only [List.mem_cons, List.not_mem_nil, or_false] at hu
        rcases hu with rfl | rfl | rfl
        · exact cwee_fine wcf (by omega)
        · exact cwee_fine hd (by omega)
        · exact cwee_fine wc (by omega)
      unfold B_law13_DeletionAnswers_4
      rw [s_Delete _ _ wu, kb_some, s_ref13_Delete _ _ wu, kb_some, s_ref06_Same' (delC_Fine e wu) rfl, kb_some, cnd_true], trivial⟩) trivial
    refine ⟨(t8.f0, t8.f1), ?_, ht8⟩
    unfold B_law13_DeletionAnswers_3
    rw [g5, kb_some]
    dsimp only
    rw [smallK3, kb_some, g7, kb_some, stpK_go, g8, kb_some]
    dsimp only
    rw [smallK3, kb_some, g9, kb_some, stpK_go]
  obtain ⟨a5, g5, ht5⟩ := loopL_go (R := Unit) (f := fun i a x_1 => B_law13_DeletionAnswers_3 x c (cf, t1) (y, t2) node s (v3, t3) (v4, t4) i a.1 a.2 x_1) (fun a : List Int × Int => Tp ⟨a.1, a.2⟩) [s, v3, v4, 0, 1023] 0 (t4.f0, t4.f1) round ht4
  simp only [Bool.not_true, cnd_false]
  rw [g0, kb_some, g1, kb_some]
  dsimp only
  rw [g2, kb_some]
  dsimp only
  rw [g3, kb_some]
  dsimp only
  rw [g4, kb_some]
  dsimp only
  rw [smallK5, kb_some, g5, kb_some, stpK_go, s_awake, kb_some]
end Go.Am

/-
From the abstract machine to what a row asks of a call.
-/
namespace Go.Am
open Go Go.RowKit
set_option linter.unusedVariables false

/-- what is there at the start, and never changes -/
def I0 (w : World) (b : Nat) : Prop := b < w.heap.size
abbrev G0 : Gn := fun _ => 0
abbrev M0 : Mu := fun _ => none

theorem start_rel (w : World) (args : List AV) : SRel w.heap (fun _ => False) M0 (enterA args []) where
  low b h := h.elim
  ent id := by
    cases id with
    | arg j => show EntOk _ _ _ _ _ none (([] : List AV).getD j (.tup [])); rw [List.getD_nil]; trivial
    | ret j => exact trivial
    | site r o j => exact trivial
  inj id id' b c c' h := by cases h

theorem start_imm (w : World) (args : List AV) (b : Nat) (h : I0 w b) : Imm w.heap (fun _ => False) M0 (enterA args []) b :=
  ⟨h, fun h => h, fun ⟨id, c, e, _⟩ => by cases e⟩

theorem start_gs (args : List AV) : Gs (enterA args []) = G0 := by
  funext id
  cases id with
  | arg j => show gen (([] : List AV).getD j (.tup [])) = 0; rw [List.getD_nil]; rfl
  | ret j => rfl
  | site r o j => rfl

/-- a call whose answer the abstract machine tells: it answers so, and what was there before is as it was -/
theorem run_law {P : Program} {cfg : Cfg} (hP : P.follows .mixedOrders = true) (hx : ∀ f sm, cfg.ext f = some sm → SoundF P f sm) {f : FuncId} {args : List AV} {v : AV} (h : W P cfg f args [] = some (v, [], []))
    {b : Bool} (hv : v = .pv (.bool b)) (w : World) (cargs : Array Value) (R : RepL w.heap (I0 w) G0 M0 args cargs.toList) :
    Calls P f cargs w fun e w' => e = .returned (.bool b) ∧ Below w.heap.size w w' := by
  subst hv
  obtain ⟨_, hr⟩ := W_sound hP hx f args [] (.pv (.bool b)) [] [] h
  refine (hr (fun _ => False) w M0 cargs (start_rel w args) ?_).mono ?_
  · show RepL _ _ (Gs (enterA args [])) _ _ _
    rw [start_gs]
    exact RepL.mono ⟨start_imm w args, fun _ _ => rfl⟩ ⟨fun _ => Nat.le_refl _, fun _ _ => rfl⟩ _ _ R
  · rintro e w' ⟨cv, μ', rfl, S, rv, T⟩
    have : cv = .bool b := rv
    subst this
    exact ⟨rfl, T.io.os, T.io.tape, T.io.output, T.tr.size, fun k hk => T.tr.keep k hk fun ⟨id, c, e, _⟩ => by cases e⟩

theorem cell_block {w : World} {x : Addr} {v : Value} (h : w.cell? x = some v) : x.block < w.heap.size ∧ x.spot = none := by
  unfold World.cell? at h
  split at h
  · rename_i c _ _ hh
    refine ⟨(Array.getElem?_eq_some_iff.1 hh).1, ?_⟩
    split at h
    · cases h
    · rename_i hs; cases hx : x.spot with
      | none => rfl
      | some _ => rw [hx] at hs; exact absurd rfl hs
  · cases h

/-- a row of numbers in memory -/
theorem rep_ints {w : World} {x : Addr} {len cap : Nat} {zs : List Int} (hl : len ≤ cap) (hz : zs.length = cap)
    (hc : ∀ i, i < zs.length → w.cell? (x.add i) = some (.int .i64 (zs.getD i 0))) :
    RepP w.heap (I0 w) (.sl len ((zs.take len).map (.int .i64 ·))) (.slice (some x) len cap) := by
  refine ⟨some x, cap, rfl, hl, ?_⟩
  by_cases h0 : 0 < zs.length
  · obtain ⟨hb, hs⟩ := cell_block (x := x) (by simpa [Addr.add] using hc 0 h0)
    obtain ⟨b, o, e⟩ := x
    simp only at hs hb
    subst hs
    refine .inr ⟨b, o, rfl, hb, .of_get fun j p hp => ?_⟩
    simp only [List.getElem?_map, Option.map_eq_some_iff] at hp
    obtain ⟨n, hn, rfl⟩ := hp
    have hj : j < zs.length := by
      have := (List.getElem?_eq_some_iff.1 hn).1
      simp at this
      omega
    have hc' := hc j hj
    have ha : Addr.add ⟨b, o, none⟩ j = ⟨b, o + j, none⟩ := by
      unfold Addr.add
      split
      · rename_i h; subst h; rfl
      · rfl
    rw [ha, cell?_eq] at hc'
    refine ⟨_, hc', ?_⟩
    have : zs.getD j 0 = n := by
      have hn2 : zs[j]? = some n := by
        rw [List.getElem?_take] at hn
        split at hn
        · exact hn
        · cases hn
      simp [hn2]
    rw [this]
    rfl
  · have : zs = [] := List.eq_nil_of_length_eq_zero (by omega)
    subst this
    exact .inl (by simp)

theorem rep_nil (w : World) : RepP w.heap (I0 w) (.sl 0 []) (.slice none 0 0) := ⟨none, 0, rfl, Nat.le_refl _, .inl rfl⟩
end Go.Am

/-
Arguments of a call, opened: trusts and configurations that lie in memory, as pure values.
-/
namespace Go.Am
open Go Go.Proofs
set_option linter.unusedVariables false

section
variable {H : Type} {enc : TypeId × Value → H} {P : Program} {w : World} {spare : Nat → Bool} {held : Bool}

/-- cells in memory that stand for pure ones -/
def Reps (w : World) (ps : List PV) (cs : List Value) : Prop := ps.length = cs.length ∧ ∀ (j : Nat) p v, ps[j]? = some p → cs[j]? = some v → RepP w.heap (I0 w) p v

theorem RepRow_append {h : Heap} {I : Nat → Prop} {b : Nat} : ∀ {off : Nat} {p q : List PV}, RepRow h I b off p → RepRow h I b (off + p.length) q → RepRow h I b off (p ++ q)
  | off, [], q, _, h2 => by simpa using h2
  | off, x :: p, q, h1, h2 => ⟨h1.1, RepRow_append h1.2 (by rw [show off + 1 + p.length = off + (x :: p).length by simp; omega]; exact h2)⟩

theorem addr_zero (a : Addr) : a.add 0 = a := by simp [Addr.add]
theorem addr_none (b o j : Nat) : Addr.add ⟨b, o, none⟩ j = ⟨b, o + j, none⟩ := by
  unfold Addr.add
  split
  · rename_i h; subst h; rfl
  · rfl

/-- no list in it is longer than memory -/
def Lite (P : Program) (t : TypeId) (d : DataW H) : Prop := ∀ n ∈ d.weights P t, n ≤ reachBytes
theorem lite_all {e : TypeId} : ∀ {l : List (DataW H)}, (∀ n ∈ DataW.weightsAll P e l, n ≤ reachBytes) → ∀ d ∈ l, Lite P e d
  | [], _, d, hd => by cases hd
  | x :: r, h, d, hd => by
    unfold DataW.weightsAll at h
    cases hd with
    | head => exact fun n hn => h n (List.mem_append.2 (.inl hn))
    | tail _ hd => exact lite_all (fun n hn => h n (List.mem_append.2 (.inr hn))) d hd
theorem lite_each : ∀ {ts : List TypeId} {ds : List (DataW H)}, (∀ n ∈ DataW.weightsEach P ts ds, n ≤ reachBytes) → ∀ (i : Nat) t d, ts[i]? = some t → ds[i]? = some d → Lite P t d
  | [], ds, h, i, t, d, ht, hd => by simp at ht
  | _ :: _, [], h, i, t, d, ht, hd => by simp at hd
  | t' :: ts, d' :: ds, h, i, t, d, ht, hd => by
    unfold DataW.weightsEach at h
    cases i with
    | zero =>
      simp at ht hd; subst ht; subst hd
      exact fun n hn => h n (List.mem_append.2 (.inl hn))
    | succ i => exact lite_each (fun n hn => h n (List.mem_append.2 (.inr hn))) i t d (by simpa using ht) (by simpa using hd)
theorem lite_slice {t e : TypeId} (ht : P.underlying t = some (.slice e)) {a b : List (DataW H)} (h : Lite P t (.slice a b)) : a.length * P.bytesOf e ≤ reachBytes ∧ ∀ d ∈ a, Lite P e d := by
  unfold Lite at h
  unfold DataW.weights at h
  rw [ht] at h
  simp only [List.mem_cons, List.mem_append] at h
  refine ⟨Nat.le_trans (Nat.mul_le_mul_right _ (Nat.le_add_right _ _)) (h _ (.inl rfl)), lite_all fun n hn => h n (.inr (.inl hn))⟩
theorem lite_struct {t : TypeId} {fs : Array Field} (ht : P.underlying t = some (.struct fs)) {a : List (DataW H)} (h : Lite P t (.agg a)) : ∀ (i : Nat) u d, (fs.toList.map (·.type))[i]? = some u → a[i]? = some d → Lite P u d := by
  unfold Lite at h
  unfold DataW.weights at h
  rw [ht] at h
  exact lite_each h
theorem open_slice {X : Type} (E : List X → List PV) (cell : X → List PV) {z : Nat} (hz : 0 < z) (h0 : E [] = []) (h1 : ∀ x l, E (x :: l) = cell x ++ E l) (hc : ∀ x, (cell x).length = z) (Ok : X → Prop) {t e : TypeId} {fuel : Nat} {v : Value} {x : DataW H × List MemPlace}
    (ht : P.underlying t = some (.slice e)) (hsz : P.cellsOf e = z)
    (he : ∀ n cs y, n < fuel → DataW.trod enc P w 0 spare held n e cs = some y → Lite P e y.1 → ∃ q : X, Ok q ∧ Reps w (cell q) cs)
    (h : DataW.trod enc P w 0 spare held fuel t [v] = some x) (hL : Lite P t x.1) : ∃ l : List X, ((∀ q ∈ l, Ok q) ∧ l.length * P.bytesOf e ≤ reachBytes) ∧ RepP w.heap (I0 w) (.sl l.length (E l)) v := by
  rcases DataW.trod_slice ht h with ⟨hcs, _⟩ | ⟨a, len, cap, elems, rest, n, hf, hcs, hxe, hb, hl, hm, hlen, hel, _⟩
  · obtain rfl : v = .slice none 0 0 := by simpa using hcs
    exact ⟨[], ⟨by simp, by simp⟩, none, 0, rfl, Nat.le_refl _, .inl h0⟩
  · obtain rfl : v = .slice (some a) len cap := by simpa using hcs
    rw [hsz] at hel
    rw [hxe] at hL
    obtain ⟨hL1, hL2⟩ := lite_slice ht hL
    rw [List.length_map, hlen] at hL1
    have each : ∀ i, i < len → ∃ q : X, Ok q ∧ ∀ j p, (cell q)[j]? = some p → ∃ u, w.cell? ((a.add (i * z)).add j) = some u ∧ RepP w.heap (I0 w) p u := by
      intro i hi
      have h2 := hel i hi
      rw [List.getElem?_eq_getElem (by omega), Option.bind_eq_some_iff] at h2
      obtain ⟨cs, hc1, hc2⟩ := h2
      obtain ⟨_, hcl, hcc⟩ := World.cells?_some hc1
      obtain ⟨q, hq, hr⟩ := he n cs _ (by omega) hc2 (hL2 _ (List.mem_map_of_mem (List.getElem_mem _)))
      refine ⟨q, hq, fun j p hp => ?_⟩
      have hj : j < z := by rw [← hc q]; exact (List.getElem?_eq_some_iff.1 hp).1
      have hj2 : j < cs.length := by omega
      refine ⟨cs[j], ?_, hr.2 j p _ hp (by simp [hj2])⟩
      rw [hcc j hj]
      simp [hj2]
    by_cases hlen0 : len = 0
    · subst hlen0
      exact ⟨[], ⟨by simp, by simp⟩, some a, cap, rfl, hl, .inl h0⟩
    · obtain ⟨q0, _, hq0⟩ := each 0 (by omega)
      have hcell : 0 < (cell q0).length := by rw [hc]; exact hz
      obtain ⟨u0, hu0, _⟩ := hq0 0 (cell q0)[0] (by simp [hcell])
      rw [Nat.zero_mul, addr_zero, addr_zero] at hu0
      obtain ⟨hblk, hspot⟩ := cell_block hu0
      obtain ⟨b, o, s⟩ := a
      simp only at hspot hblk
      subst hspot
      have hd : ∀ d k, k + d = len → ∃ l : List X, l.length = d ∧ (∀ q ∈ l, Ok q) ∧ RepRow w.heap (I0 w) b (o + k * z) (E l) := by
        intro d
        induction d with
        | zero => intro k _; exact ⟨[], rfl, by simp, by rw [h0]; trivial⟩
        | succ d ih =>
          intro k hk
          obtain ⟨l, hll, hlo, hlr⟩ := ih (k + 1) (by omega)
          obtain ⟨q, hq, hqr⟩ := each k (by omega)
          refine ⟨q :: l, by simp [hll], fun y hy => ?_, ?_⟩
          · cases hy with
            | head => exact hq
            | tail _ hy => exact hlo y hy
          · rw [h1]
            refine RepRow_append (.of_get fun j p hp => ?_) ?_
            · obtain ⟨u, hu, hr⟩ := hqr j p hp
              rw [addr_none, addr_none, cell?_eq] at hu
              exact ⟨u, hu, hr⟩
            · rw [hc, show o + k * z + z = o + (k + 1) * z by rw [Nat.add_mul]; omega]
              exact hlr
      obtain ⟨l, hll, hlo, hlr⟩ := hd len 0 (by omega)
      rw [Nat.zero_mul, Nat.add_zero] at hlr
      refine ⟨l, ⟨hlo, by rw [hll]; exact hL1⟩, ?_⟩
      rw [hll]
      exact ⟨some ⟨b, o, none⟩, cap, rfl, hl, .inr ⟨b, o, rfl, hblk, hlr⟩⟩
end

section
variable {H : Type} {enc : TypeId × Value → H} {w : World} {spare : Nat → Bool} {held : Bool}
theorem wf_in64 {k : Int} (h : (Lit.int .i64 k).wf = true) : in64 k := by
  simp [Lit.wf, IntKind.min, IntKind.max, IntKind.signed, IntKind.bits] at h
  unfold in64
  omega
theorem reps_one {p : PV} {v : Value} (h : RepP w.heap (I0 w) p v) : Reps w [p] [v] := by
  refine ⟨rfl, fun j q u hq hu => ?_⟩
  cases j with
  | zero => simp at hq hu; subst hq; subst hu; exact h
  | succ j => simp at hq
theorem open_intl {fuel : Nat} {v : Value} {x : DataW H × List MemPlace} (h : DataW.trod enc Tryd.prog w 0 spare held fuel 22 [v] = some x) (hL : Lite Tryd.prog 22 x.1) : ∃ l : List Int, ((∀ k ∈ l, in64 k) ∧ l.length * Tryd.prog.bytesOf 3 ≤ reachBytes) ∧ RepP w.heap (I0 w) (.sl l.length (ints l)) v :=
  open_slice ints (fun k => [.int .i64 k]) (z := 1) (by omega) rfl (fun _ _ => rfl) (fun _ => rfl) in64 Tryd.underlying22 (by kernel_rfl)
    (fun n cs y _ hy _ => by
      obtain ⟨m, rfl, _, hw⟩ := DataW.trod_int Tryd.underlying3 hy
      exact ⟨m, wf_in64 hw, reps_one rfl⟩) h hL
theorem take_one {α : Type} {l : List α} {a b c : α} (h : l.length = 3) : ∃ a b c, l = [a, b, c] := by
  match l, h with
  | [a, b, c], _ => exact ⟨a, b, c, rfl⟩
theorem open_tru : ∀ (fuel : Nat) (cs : List Value) (x : DataW H × List MemPlace), DataW.trod enc Tryd.prog w 0 spare held fuel 28 cs = some x → Lite Tryd.prog 28 x.1 → ∃ t : Tru, (t.Ok ∧ t.Slim) ∧ Reps w (encT t) cs := by
  intro fuel
  induction fuel using Nat.strongRecOn with
  | _ fuel IH =>
    intro cs x h hL
    obtain ⟨xs, n, hn, hxe, hl, hxs, hf⟩ := DataW.trod_struct Tryd.underlying28 h
    rw [hxe] at hL
    have hS := lite_struct Tryd.underlying28 hL
    rw [show Tryd.prog.cellsOf 28 = 3 by kernel_rfl] at hl
    have hxs3 : xs.length = 3 := hxs
    match cs, hl, xs, hxs3 with
    | [c0, c1, c2], _, [x0, x1, x2], _ =>
      have f0 : DataW.trod enc Tryd.prog w 0 spare held n 3 (([c0, c1, c2].drop 0).take (Tryd.prog.cellsOf 3)) = [x0, x1, x2][0]? := hf 0 _ rfl
      have f1 : DataW.trod enc Tryd.prog w 0 spare held n 22 (([c0, c1, c2].drop 1).take (Tryd.prog.cellsOf 22)) = [x0, x1, x2][1]? := hf 1 _ rfl
      have f2 : DataW.trod enc Tryd.prog w 0 spare held n 26 (([c0, c1, c2].drop 2).take (Tryd.prog.cellsOf 26)) = [x0, x1, x2][2]? := hf 2 _ rfl
      rw [show Tryd.prog.cellsOf 3 = 1 by kernel_rfl] at f0
      rw [show Tryd.prog.cellsOf 22 = 1 by kernel_rfl] at f1
      rw [show Tryd.prog.cellsOf 26 = 1 by kernel_rfl] at f2
      obtain ⟨m, hm, _, hw⟩ := DataW.trod_int Tryd.underlying3 (show DataW.trod enc Tryd.prog w 0 spare held n 3 [c0] = some x0 from f0)
      obtain ⟨l1, ⟨o1, s1⟩, r1⟩ := open_intl (show DataW.trod enc Tryd.prog w 0 spare held n 22 [c1] = some x1 from f1) (hS 1 _ _ rfl rfl)
      obtain ⟨l2, ⟨o2, s2⟩, r2⟩ := open_slice encTs encT (z := 3) (by omega) rfl (fun _ _ => by rw [encTs]) (fun t => by cases t; rfl) (fun t : Tru => t.Ok ∧ t.Slim) Tryd.underlying26 (by kernel_rfl)
        (fun n' cs' y hn' hy hy2 => IH n' (by omega) cs' y hy hy2) (show DataW.trod enc Tryd.prog w 0 spare held n 26 [c2] = some x2 from f2) (hS 2 _ _ rfl rfl)
      rw [show Tryd.prog.bytesOf 3 = 8 by kernel_rfl] at s1
      rw [show Tryd.prog.bytesOf 28 = 56 by kernel_rfl] at s2
      unfold reachBytes at s1 s2
      simp at hm
      refine ⟨.mk m l1 l2, ⟨⟨wf_in64 hw, o1, Oks_iff.2 fun q hq => (o2 q hq).1⟩, by omega, by omega, Slims_iff.2 fun q hq => (o2 q hq).2⟩, rfl, fun j p v hp hv => ?_⟩
      match j with
      | 0 => simp [encT] at hp hv; subst hp; subst hv; exact hm
      | 1 => simp [encT] at hp hv; subst hp; subst hv; exact r1
      | 2 => simp [encT] at hp hv; subst hp; subst hv; exact r2
      | j + 3 => simp [encT] at hp
theorem open_mem {fuel : Nat} {cs : List Value} {x : DataW H × List MemPlace} (h : DataW.trod enc Tryd.prog w 0 spare held fuel 56 cs = some x) (hL : Lite Tryd.prog 56 x.1) : ∃ m : S_api_Member, (m.f1.Ok ∧ m.f1.Slim) ∧ Reps w (.bool m.f0 :: encT m.f1) cs := by
  obtain ⟨xs, n, hn, hxe, hl, hxs, hf⟩ := DataW.trod_struct Tryd.underlying56 h
  rw [hxe] at hL
  have hS := lite_struct Tryd.underlying56 hL
  rw [show Tryd.prog.cellsOf 56 = 4 by kernel_rfl] at hl
  have hxs2 : xs.length = 2 := hxs
  match cs, hl, xs, hxs2 with
  | [c0, c1, c2, c3], _, [x0, x1], _ =>
    have f0 : DataW.trod enc Tryd.prog w 0 spare held n 4 (([c0, c1, c2, c3].drop 0).take (Tryd.prog.cellsOf 4)) = [x0, x1][0]? := hf 0 _ rfl
    have f1 : DataW.trod enc Tryd.prog w 0 spare held n 28 (([c0, c1, c2, c3].drop 1).take (Tryd.prog.cellsOf 28)) = [x0, x1][1]? := hf 1 _ rfl
    rw [show Tryd.prog.cellsOf 4 = 1 by kernel_rfl] at f0
    rw [show Tryd.prog.cellsOf 28 = 3 by kernel_rfl] at f1
    obtain ⟨b, hb, _⟩ := DataW.trod_bool Tryd.underlying4 (show DataW.trod enc Tryd.prog w 0 spare held n 4 [c0] = some x0 from f0)
    obtain ⟨t, ho, hr⟩ := open_tru n _ x1 (show DataW.trod enc Tryd.prog w 0 spare held n 28 [c1, c2, c3] = some x1 from f1) (hS 1 _ _ rfl rfl)
    simp at hb
    refine ⟨⟨b, t⟩, ho, by simp [hr.1], fun j p v hp hv => ?_⟩
    cases j with
    | zero => simp at hp hv; subst hp; subst hv; exact hb
    | succ j => exact hr.2 j p v (by simpa using hp) (by simpa using hv)
theorem open_conf {fuel : Nat} {cs : List Value} {x : DataW H × List MemPlace} (h : DataW.trod enc Tryd.prog w 0 spare held fuel 40 cs = some x) (hL : Lite Tryd.prog 40 x.1) : ∃ c : S_api_Config, (∀ m ∈ c.f0, m.f1.Ok ∧ m.f1.Slim) ∧ Reps w [.sl c.f0.length (es_api_Member c.f0)] cs := by
  obtain ⟨xs, n, hn, hxe, hl, hxs, hf⟩ := DataW.trod_struct Tryd.underlying40 h
  rw [hxe] at hL
  have hS := lite_struct Tryd.underlying40 hL
  rw [show Tryd.prog.cellsOf 40 = 1 by kernel_rfl] at hl
  have hxs1 : xs.length = 1 := hxs
  match cs, hl, xs, hxs1 with
  | [c0], _, [x0], _ =>
    have f0 : DataW.trod enc Tryd.prog w 0 spare held n 38 (([c0].drop 0).take (Tryd.prog.cellsOf 38)) = [x0][0]? := hf 0 _ rfl
    rw [show Tryd.prog.cellsOf 38 = 1 by kernel_rfl] at f0
    obtain ⟨l, ⟨o, _⟩, r⟩ := open_slice es_api_Member (fun m : S_api_Member => .bool m.f0 :: encT m.f1) (z := 4) (by omega) rfl (fun m _ => by obtain ⟨b, t⟩ := m; cases t; rfl) (fun m => by obtain ⟨b, t⟩ := m; cases t; rfl) (fun m => m.f1.Ok ∧ m.f1.Slim) Tryd.underlying38 (by kernel_rfl)
      (fun n' cs' y hn' hy hy2 => open_mem hy hy2) (show DataW.trod enc Tryd.prog w 0 spare held n 38 [c0] = some x0 from f0) (hS 0 _ _ rfl rfl)
    exact ⟨⟨l⟩, o, reps_one r⟩
/-- a struct as an argument -/
theorem repV_agg {ps : List PV} {u : Array Value} (h : Reps w ps u.toList) : RepV w.heap (I0 w) G0 M0 (.agg (ps.map .pv)) (.agg u) :=
  ⟨u, rfl, RepL.of_get (by simpa using h.1) fun j a v ha hv => by
    simp only [List.getElem?_map, Option.map_eq_some_iff] at ha
    obtain ⟨p, hp, rfl⟩ := ha
    exact h.2 j p v hp hv⟩
/-! ### arguments -/
theorem trod_in {P : Program} {t : TypeId} {v : Value} {d : DataW H} {ps : List MemPlace} (h : DataW.Trod enc P w 0 spare held t v d ps) : ∀ x ∈ ps, x.block < w.heap.size := by
  obtain ⟨m, hm⟩ := h
  exact DataW.trod_lt m _ _ _ hm
theorem arg_intl {r : Reach} {b0 : Nat} {v : Value} {d : DataW H} {ps : List MemPlace} (hv : Value.okWide Tryd.prog w r b0 22 v) (hd : DataW.Trod enc Tryd.prog w 0 spare held 22 v d ps) (hL : Lite Tryd.prog 22 d) :
    ∃ l : List Int, (∀ k ∈ l, in64 k) ∧ RepV w.heap (I0 w) G0 M0 (.pv (.sl l.length (ints l))) v := by
  obtain ⟨a, n, c, rfl⟩ := WideShapes.okWide_slice Tryd.underlying22 hv
  obtain ⟨fuel, hf⟩ := hd
  obtain ⟨l, ⟨h1, _⟩, h2⟩ := open_intl hf hL
  exact ⟨l, h1, h2⟩
theorem arg_int {r : Reach} {b0 : Nat} {v : Value} {d : DataW H} {ps : List MemPlace} (hv : Value.okWide Tryd.prog w r b0 3 v) (hd : DataW.Trod enc Tryd.prog w 0 spare held 3 v d ps) :
    ∃ k : Int, in64 k ∧ RepV w.heap (I0 w) G0 M0 (i64 k) v := by
  obtain ⟨k, rfl⟩ := WideShapes.okWide_int Tryd.underlying3 hv
  obtain ⟨fuel, hf⟩ := hd
  obtain ⟨n, h1, _, h2⟩ := DataW.trod_int Tryd.underlying3 hf
  simp [Value.cells] at h1
  subst h1
  exact ⟨_, wf_in64 h2, rfl⟩
theorem arg_tru {r : Reach} {b0 : Nat} {v : Value} {d : DataW H} {ps : List MemPlace} (hv : Value.okWide Tryd.prog w r b0 28 v) (hd : DataW.Trod enc Tryd.prog w 0 spare held 28 v d ps) (hL : Lite Tryd.prog 28 d) :
    ∃ t : Tru, (t.Ok ∧ t.Slim) ∧ RepV w.heap (I0 w) G0 M0 (.agg [i64 t.thr, .pv (.sl t.nodes.length (ints t.nodes)), .pv (.sl t.inner.length (encTs t.inner))]) v := by
  obtain ⟨u, rfl, _⟩ := WideShapes.okWide_struct Tryd.underlying28 hv
  obtain ⟨fuel, hf⟩ := hd
  obtain ⟨t, h1, h2⟩ := open_tru fuel _ _ hf hL
  refine ⟨t, h1, ?_⟩
  have := repV_agg (u := u) h2
  cases t
  exact this
theorem arg_conf {r : Reach} {b0 : Nat} {v : Value} {d : DataW H} {ps : List MemPlace} (hv : Value.okWide Tryd.prog w r b0 40 v) (hd : DataW.Trod enc Tryd.prog w 0 spare held 40 v d ps) (hL : Lite Tryd.prog 40 d) :
    ∃ c : S_api_Config, (∀ m ∈ c.f0, m.f1.Ok ∧ m.f1.Slim) ∧ RepV w.heap (I0 w) G0 M0 (.agg [.pv (.sl c.f0.length (es_api_Member c.f0))]) v := by
  obtain ⟨u, rfl, _⟩ := WideShapes.okWide_struct Tryd.underlying40 hv
  obtain ⟨fuel, hf⟩ := hd
  obtain ⟨c, h1, h2⟩ := open_conf hf hL
  exact ⟨c, h1, repV_agg (u := u) h2⟩
end
end Go.Am
