/-
Part 5 of the road to the statement: Gf_make_BentTrust, U9, Gf_law03_NotationTexts, PTexts, OpnA, OpnT.
-/
import Derived.Test.YtaabageohhekdaaDoorTx4
import Derived.ChangeSlices
import Derived.Handed
/-
How trustquorummake.BentTrust runs, as a pure function.
-/
namespace Go.Am
open Go Go.Proofs
set_option linter.unusedVariables false
set_option linter.unusedSimpArgs false
set_option maxRecDepth 4000
set_option maxHeartbeats 4000000
noncomputable def B_make_BentTrust_0 (p0 : S_trustquorummake_Tape) (p1 : Tru) : Option ((List Int) × Int × Bool) :=
  cnd (decide (0 < (p1.inner.length : Int))) (
    kb (G_make_Tape_N p0 2) fun y2 =>
    some (y2.2.f0, y2.2.f1, (decide (y2.1 = 1)))) (
    some (p0.f0, p0.f1, false))
def J_make_BentTrust_0 (p0 : S_trustquorummake_Tape) (p1 : Tru) (q : St) : Prop := (q (.t 0) = .ptr (.arg 0) 0 0 ∧ q (.i (.arg 0)) = .box 0 [(.pv (.sl p0.f0.length (ints p0.f0))), (i64 p0.f1)]) ∧ (∃ (g : Nat), q (.t 3) = .ptr (.site 0 0 0) g 0 ∧ q (.i (.site 0 0 0)) = .box g [(i64 p1.thr), (.pv (.sl p1.nodes.length (ints p1.nodes))), (.pv (.sl p1.inner.length (encTs p1.inner)))]) ∧ (∃ (g : Nat), q (.t 4) = .ptr (.site 0 1 0) g 0 ∧ q (.i (.site 0 1 0)) = .box g [(i64 0), .nilsl, .nilsl])
def Q_make_BentTrust_0 (p0 : S_trustquorummake_Tape) (p1 : Tru) (oba0_0_0 : (List Int)) (oba0_1_0 : Int) (o18_0 : Bool) (q : St) : Prop := q (.t 18) = (bl o18_0) ∧ (q (.t 0) = .ptr (.arg 0) 0 0 ∧ q (.i (.arg 0)) = .box 0 [(.pv (.sl oba0_0_0.length (ints oba0_0_0))), (i64 oba0_1_0)]) ∧ (∃ (g : Nat), q (.t 3) = .ptr (.site 0 0 0) g 0 ∧ q (.i (.site 0 0 0)) = .box g [(i64 p1.thr), (.pv (.sl p1.nodes.length (ints p1.nodes))), (.pv (.sl p1.inner.length (encTs p1.inner)))]) ∧ (∃ (g : Nat), q (.t 4) = .ptr (.site 0 1 0) g 0 ∧ q (.i (.site 0 1 0)) = .box g [(i64 0), .nilsl, .nilsl])
theorem P_make_BentTrust_0 {p0 : S_trustquorummake_Tape} {p1 : Tru} {cc : Code} (hcc : cc = (Code.fst (Code.fst (Code.snd ((Tryd.f12.body).getD .skip))))) {s : St} {z : Option (Ex × St)} (hz : C Tryd.prog cf cc s = z) {r : ((List Int) × Int × Bool)} (hI : J_make_BentTrust_0 p0 p1 s) (hB : B_make_BentTrust_0 p0 p1 = some r) : Res z (postG (fun a q => Q_make_BentTrust_0 p0 p1 a.1 a.2.1 a.2.2 q) r) := by
  subst hcc
  subst hz
  simp only [J_make_BentTrust_0] at hI
  obtain ⟨⟨q1, q2⟩, ⟨g4, q3, q4⟩, ⟨g6, q5, q6⟩⟩ := hI
  simp only [Code.fst, Code.snd, Tryd.f12, Option.getD_some]
  unfold B_make_BentTrust_0 at hB
  rcases cnd_inv hB with ⟨c1, hB⟩ | ⟨c1, hB⟩
  · have pc1 := eq_true (of_decide_eq_true c1)
    have nc1 := c1
    try simp only [List.length_nil, List.length_cons, Int.cast_ofNat_Int, Int.natCast_zero, Nat.zero_add, Nat.reduceAdd, Int.reduceLT, Int.reduceLE, Int.reduceEq, eq_self, decide_true, decide_false, Bool.true_eq_false, Bool.false_eq_true] at nc1
    all_goals
      obtain ⟨y2, k3, hB⟩ := kb_inv hB
      replace k3 := run_make_Tape_N k3
      try simp only [Int.cast_ofNat_Int, Int.natCast_zero, List.length_cons, List.length_nil, List.nil_append, List.cons_append, Nat.zero_add, Nat.reduceAdd, Tru.thr_mk, Tru.nodes_mk, Tru.inner_mk, ints_cons, ints_nil, encTs_cons, encTs_nil, es_str_cons, es_str_nil] at k3
      try dsimp only at hB
      obtain rfl := Option.some.inj hB
      try simp -implicitDefEqProofs [-getElem?_pos, -Int.ofNat_lt, -Int.ofNat_le, -Int.natCast_eq_zero, -Int.natCast_pos, -List.length_eq_zero_iff, List.getElem?_cons_zero, List.getElem?_cons_succ, List.getElem?_nil, q1, q2, q3, q4, q5, q6, c1, pc1, nc1, k3]
      refine Res.g ?_
      simp -implicitDefEqProofs [-getElem?_pos, -Int.ofNat_lt, -Int.ofNat_le, -Int.natCast_eq_zero, -Int.natCast_pos, -List.length_eq_zero_iff, List.getElem?_cons_zero, List.getElem?_cons_succ, List.getElem?_nil, and_assoc, Q_make_BentTrust_0, ownAt, q1, q2, q3, q4, q5, q6, c1, pc1, nc1, k3]
  · have pc1 := eq_false (of_decide_eq_false c1)
    have nc1 := c1
    try simp only [List.length_nil, List.length_cons, Int.cast_ofNat_Int, Int.natCast_zero, Nat.zero_add, Nat.reduceAdd, Int.reduceLT, Int.reduceLE, Int.reduceEq, eq_self, decide_true, decide_false, Bool.true_eq_false, Bool.false_eq_true] at nc1
    all_goals
      obtain rfl := Option.some.inj hB
      try simp -implicitDefEqProofs [-getElem?_pos, -Int.ofNat_lt, -Int.ofNat_le, -Int.natCast_eq_zero, -Int.natCast_pos, -List.length_eq_zero_iff, List.getElem?_cons_zero, List.getElem?_cons_succ, List.getElem?_nil, q1, q2, q3, q4, q5, q6, c1, pc1, nc1]
      refine Res.g ?_
      simp -implicitDefEqProofs [-getElem?_pos, -Int.ofNat_lt, -Int.ofNat_le, -Int.natCast_eq_zero, -Int.natCast_pos, -List.length_eq_zero_iff, List.getElem?_cons_zero, List.getElem?_cons_succ, List.getElem?_nil, and_assoc, Q_make_BentTrust_0, ownAt, q1, q2, q3, q4, q5, q6, c1, pc1, nc1]
noncomputable def B_make_BentTrust_1 (y36 : (Int × S_trustquorummake_Tape)) (xb22_1_0_1 : Int) (xb22_1_1_1 : (List Int)) (xb22_1_2_1 : (List Tru)) (x7_1 : Int) : Option (Stp (Int × (List Int) × (List Tru) × Int) Unit) :=
  cnd (decide (0 < x7_1)) (
    some (.go (1, ([] : (List Int)), ([(Tru.mk xb22_1_0_1 xb22_1_1_1 xb22_1_2_1)] : List Tru), (sub64 x7_1 1)))) (
    some (.ex 3 (xb22_1_0_1, xb22_1_1_1, xb22_1_2_1, x7_1)))
def I_make_BentTrust_1 (y36 : (Int × S_trustquorummake_Tape)) (xb22_1_0_1 : Int) (xb22_1_1_1 : (List Int)) (xb22_1_2_1 : (List Tru)) (x7_1 : Int) (q : St) : Prop := q (.t 7) = (i64 x7_1) ∧ (q (.i (.arg 0)) = .box 0 [(.pv (.sl y36.2.f0.length (ints y36.2.f0))), (i64 y36.2.f1)]) ∧ (∃ (g : Nat), q (.t 4) = .ptr (.site 0 1 0) g 0 ∧ q (.i (.site 0 1 0)) = .box g [(i64 0), .nilsl, .nilsl]) ∧ (∃ (g : Nat) (w0 : AV) (w1 : AV), q (.t 6) = .ptr (.site 22 1 0) g 0 ∧ q (.i (.site 22 1 0)) = .box g [(i64 xb22_1_0_1), w0, w1] ∧ (w0 = .pv (.sl xb22_1_1_1.length (ints xb22_1_1_1)) ∨ (w0 = .nilsl ∧ xb22_1_1_1 = [])) ∧ (ownAt q w1 (.site 26 1 0) false 3 xb22_1_2_1.length (encTs xb22_1_2_1) ∨ w1 = .pv (.sl xb22_1_2_1.length (encTs xb22_1_2_1))))
def Q_make_BentTrust_1 (y36 : (Int × S_trustquorummake_Tape)) (xb22_1_0_1 : Int) (xb22_1_1_1 : (List Int)) (xb22_1_2_1 : (List Tru)) (x7_1 : Int) (q : St) : Prop := (q (.i (.arg 0)) = .box 0 [(.pv (.sl y36.2.f0.length (ints y36.2.f0))), (i64 y36.2.f1)]) ∧ (∃ (g : Nat), q (.t 4) = .ptr (.site 0 1 0) g 0 ∧ q (.i (.site 0 1 0)) = .box g [(i64 0), .nilsl, .nilsl]) ∧ (∃ (g : Nat) (w0 : AV) (w1 : AV), q (.t 6) = .ptr (.site 22 1 0) g 0 ∧ q (.i (.site 22 1 0)) = .box g [(i64 xb22_1_0_1), w0, w1] ∧ (w0 = .pv (.sl xb22_1_1_1.length (ints xb22_1_1_1)) ∨ (w0 = .nilsl ∧ xb22_1_1_1 = [])) ∧ (ownAt q w1 (.site 26 1 0) false 3 xb22_1_2_1.length (encTs xb22_1_2_1) ∨ w1 = .pv (.sl xb22_1_2_1.length (encTs xb22_1_2_1))))
theorem Pb_make_BentTrust_1 {y36 : (Int × S_trustquorummake_Tape)} {xb22_1_0_1 : Int} {xb22_1_1_1 : (List Int)} {xb22_1_2_1 : (List Tru)} {x7_1 : Int} {q : St} {r : (Stp (Int × (List Int) × (List Tru) × Int) Unit)} (hI : I_make_BentTrust_1 y36 xb22_1_0_1 xb22_1_1_1 xb22_1_2_1 x7_1 q) (hB : B_make_BentTrust_1 y36 xb22_1_0_1 xb22_1_1_1 xb22_1_2_1 x7_1 = some r) : Res (C Tryd.prog cf (Code.fst (Code.fst (Code.snd (Code.fst (Code.snd (Code.fst (Code.snd (Code.snd (Code.snd (Code.snd (Code.snd (Code.snd (Code.snd (Code.snd (Code.snd (Code.fst (Code.snd (Code.fst (Code.snd (Code.snd ((Tryd.f12.body).getD .skip))))))))))))))))))))) q) (postB 3 (fun a q => I_make_BentTrust_1 y36 a.1 a.2.1 a.2.2.1 a.2.2.2 q) (fun a q => Q_make_BentTrust_1 y36 a.1 a.2.1 a.2.2.1 a.2.2.2 q) (fun _ _ => False) r) := by
  simp only [I_make_BentTrust_1] at hI
  obtain ⟨q1, q2, ⟨g4, q3, q4⟩, ⟨g6, v6_w0, v6_w1, q5, q6, a6_w0, a6_w1⟩⟩ := hI
  simp only [Code.fst, Code.snd, Tryd.f12, Option.getD_some]
  generalize hr26 : Code.region 26 _ _ = rr26
  unfold B_make_BentTrust_1 at hB
  rcases a6_w0 with rfl | ⟨rfl, ea6_w0⟩
  · rcases a6_w1 with ⟨ga6_w1, rfl, oa6_w1⟩ | rfl
    · rcases cnd_inv hB with ⟨c38, hB⟩ | ⟨c38, hB⟩
      · have pc38 := eq_true (of_decide_eq_true c38)
        obtain rfl := Option.some.inj hB
        subst hr26
        try simp -implicitDefEqProofs [-getElem?_pos, -Int.ofNat_lt, -Int.ofNat_le, -Int.natCast_eq_zero, -Int.natCast_pos, -List.length_eq_zero_iff, List.getElem?_cons_zero, List.getElem?_cons_succ, List.getElem?_nil, q1, q2, q3, q4, q5, q6, oa6_w1, c38, pc38]
        refine Res.bgo ?_
        simp -implicitDefEqProofs [-getElem?_pos, -Int.ofNat_lt, -Int.ofNat_le, -Int.natCast_eq_zero, -Int.natCast_pos, -List.length_eq_zero_iff, List.getElem?_cons_zero, List.getElem?_cons_succ, List.getElem?_nil, and_assoc, I_make_BentTrust_1, ownAt, q1, q2, q3, q4, q5, q6, oa6_w1, c38, pc38]
      · have pc38 := eq_false (of_decide_eq_false c38)
        obtain rfl := Option.some.inj hB
        try simp -implicitDefEqProofs [-getElem?_pos, -Int.ofNat_lt, -Int.ofNat_le, -Int.natCast_eq_zero, -Int.natCast_pos, -List.length_eq_zero_iff, List.getElem?_cons_zero, List.getElem?_cons_succ, List.getElem?_nil, q1, q2, q3, q4, q5, q6, oa6_w1, c38, pc38]
        refine Res.bex ?_
        simp -implicitDefEqProofs [-getElem?_pos, -Int.ofNat_lt, -Int.ofNat_le, -Int.natCast_eq_zero, -Int.natCast_pos, -List.length_eq_zero_iff, List.getElem?_cons_zero, List.getElem?_cons_succ, List.getElem?_nil, and_assoc, Q_make_BentTrust_1, ownAt, q1, q2, q3, q4, q5, q6, oa6_w1, c38, pc38]
    · rcases cnd_inv hB with ⟨c38, hB⟩ | ⟨c38, hB⟩
      · have pc38 := eq_true (of_decide_eq_true c38)
        obtain rfl := Option.some.inj hB
        subst hr26
        try simp -implicitDefEqProofs [-getElem?_pos, -Int.ofNat_lt, -Int.ofNat_le, -Int.natCast_eq_zero, -Int.natCast_pos, -List.length_eq_zero_iff, List.getElem?_cons_zero, List.getElem?_cons_succ, List.getElem?_nil, q1, q2, q3, q4, q5, q6, c38, pc38]
        refine Res.bgo ?_
        simp -implicitDefEqProofs [-getElem?_pos, -Int.ofNat_lt, -Int.ofNat_le, -Int.natCast_eq_zero, -Int.natCast_pos, -List.length_eq_zero_iff, List.getElem?_cons_zero, List.getElem?_cons_succ, List.getElem?_nil, and_assoc, I_make_BentTrust_1, ownAt, q1, q2, q3, q4, q5, q6, c38, pc38]
      · have pc38 := eq_false (of_decide_eq_false c38)
        obtain rfl := Option.some.inj hB
        try simp -implicitDefEqProofs [-getElem?_pos, -Int.ofNat_lt, -Int.ofNat_le, -Int.natCast_eq_zero, -Int.natCast_pos, -List.length_eq_zero_iff, List.getElem?_cons_zero, List.getElem?_cons_succ, List.getElem?_nil, q1, q2, q3, q4, q5, q6, c38, pc38]
        refine Res.bex ?_
        simp -implicitDefEqProofs [-getElem?_pos, -Int.ofNat_lt, -Int.ofNat_le, -Int.natCast_eq_zero, -Int.natCast_pos, -List.length_eq_zero_iff, List.getElem?_cons_zero, List.getElem?_cons_succ, List.getElem?_nil, and_assoc, Q_make_BentTrust_1, ownAt, q1, q2, q3, q4, q5, q6, c38, pc38]
  · try subst ea6_w0
    rcases a6_w1 with ⟨ga6_w1, rfl, oa6_w1⟩ | rfl
    · rcases cnd_inv hB with ⟨c38, hB⟩ | ⟨c38, hB⟩
      · have pc38 := eq_true (of_decide_eq_true c38)
        obtain rfl := Option.some.inj hB
        subst hr26
        try simp -implicitDefEqProofs [-getElem?_pos, -Int.ofNat_lt, -Int.ofNat_le, -Int.natCast_eq_zero, -Int.natCast_pos, -List.length_eq_zero_iff, List.getElem?_cons_zero, List.getElem?_cons_succ, List.getElem?_nil, q1, q2, q3, q4, q5, q6, oa6_w1, c38, pc38]
        refine Res.bgo ?_
        simp -implicitDefEqProofs [-getElem?_pos, -Int.ofNat_lt, -Int.ofNat_le, -Int.natCast_eq_zero, -Int.natCast_pos, -List.length_eq_zero_iff, List.getElem?_cons_zero, List.getElem?_cons_succ, List.getElem?_nil, and_assoc, I_make_BentTrust_1, ownAt, q1, q2, q3, q4, q5, q6, oa6_w1, c38, pc38]; all_goals ((repeat' apply And.intro) <;> assumption)
      · have pc38 := eq_false (of_decide_eq_false c38)
        obtain rfl := Option.some.inj hB
        try simp -implicitDefEqProofs [-getElem?_pos, -Int.ofNat_lt, -Int.ofNat_le, -Int.natCast_eq_zero, -Int.natCast_pos, -List.length_eq_zero_iff, List.getElem?_cons_zero, List.getElem?_cons_succ, List.getElem?_nil, q1, q2, q3, q4, q5, q6, oa6_w1, c38, pc38]
        refine Res.bex ?_
        simp -implicitDefEqProofs [-getElem?_pos, -Int.ofNat_lt, -Int.ofNat_le, -Int.natCast_eq_zero, -Int.natCast_pos, -List.length_eq_zero_iff, List.getElem?_cons_zero, List.getElem?_cons_succ, List.getElem?_nil, and_assoc, Q_make_BentTrust_1, ownAt, q1, q2, q3, q4, q5, q6, oa6_w1, c38, pc38]; all_goals ((repeat' apply And.intro) <;> assumption)
    · rcases cnd_inv hB with ⟨c38, hB⟩ | ⟨c38, hB⟩
      · have pc38 := eq_true (of_decide_eq_true c38)
        obtain rfl := Option.some.inj hB
        subst hr26
        try simp -implicitDefEqProofs [-getElem?_pos, -Int.ofNat_lt, -Int.ofNat_le, -Int.natCast_eq_zero, -Int.natCast_pos, -List.length_eq_zero_iff, List.getElem?_cons_zero, List.getElem?_cons_succ, List.getElem?_nil, q1, q2, q3, q4, q5, q6, c38, pc38]
        refine Res.bgo ?_
        simp -implicitDefEqProofs [-getElem?_pos, -Int.ofNat_lt, -Int.ofNat_le, -Int.natCast_eq_zero, -Int.natCast_pos, -List.length_eq_zero_iff, List.getElem?_cons_zero, List.getElem?_cons_succ, List.getElem?_nil, and_assoc, I_make_BentTrust_1, ownAt, q1, q2, q3, q4, q5, q6, c38, pc38]; all_goals ((repeat' apply And.intro) <;> assumption)
      · have pc38 := eq_false (of_decide_eq_false c38)
        obtain rfl := Option.some.inj hB
        try simp -implicitDefEqProofs [-getElem?_pos, -Int.ofNat_lt, -Int.ofNat_le, -Int.natCast_eq_zero, -Int.natCast_pos, -List.length_eq_zero_iff, List.getElem?_cons_zero, List.getElem?_cons_succ, List.getElem?_nil, q1, q2, q3, q4, q5, q6, c38, pc38]
        refine Res.bex ?_
        simp -implicitDefEqProofs [-getElem?_pos, -Int.ofNat_lt, -Int.ofNat_le, -Int.natCast_eq_zero, -Int.natCast_pos, -List.length_eq_zero_iff, List.getElem?_cons_zero, List.getElem?_cons_succ, List.getElem?_nil, and_assoc, Q_make_BentTrust_1, ownAt, q1, q2, q3, q4, q5, q6, c38, pc38]; all_goals ((repeat' apply And.intro) <;> assumption)
theorem P_make_BentTrust_1 {y36 : (Int × S_trustquorummake_Tape)} {xb22_1_0_1 : Int} {xb22_1_1_1 : (List Int)} {xb22_1_2_1 : (List Tru)} {x7_1 : Int} {cc : Code} (hcc : cc = .block 3 (.loop (Code.fst (Code.fst (Code.snd (Code.fst (Code.snd (Code.fst (Code.snd (Code.snd (Code.snd (Code.snd (Code.snd (Code.snd (Code.snd (Code.snd (Code.snd (Code.fst (Code.snd (Code.fst (Code.snd (Code.snd ((Tryd.f12.body).getD .skip))))))))))))))))))))))) {s : St} {z : Option (Ex × St)} (hz : C Tryd.prog cf cc s = z) {r : (Stp (Int × (List Int) × (List Tru) × Int) Unit)} (hI : I_make_BentTrust_1 y36 xb22_1_0_1 xb22_1_1_1 xb22_1_2_1 x7_1 s) (hB : iterW (fun a => B_make_BentTrust_1 y36 a.1 a.2.1 a.2.2.1 a.2.2.2) (xb22_1_0_1, xb22_1_1_1, xb22_1_2_1, x7_1) = some r) : Res z (postS (fun a q => Q_make_BentTrust_1 y36 a.1 a.2.1 a.2.2.1 a.2.2.2 q) (fun _ _ => False) r) := by
  subst hcc
  exact while_sim (I := fun a q => I_make_BentTrust_1 y36 a.1 a.2.1 a.2.2.1 a.2.2.2 q) (Q := (fun a q => Q_make_BentTrust_1 y36 a.1 a.2.1 a.2.2.1 a.2.2.2 q)) (QR := (fun _ _ => False)) (fun a q r h hB => Pb_make_BentTrust_1 h hB) hI hz hB
noncomputable def B_make_BentTrust_2 (pba0_0_2 : (List Int)) (pba0_1_2 : Int) (p1 : Tru) (x8_2 : (List Tru)) (x9_2 : Int) : Option (Stp ((List Tru) × Int) Unit) :=
  cnd (decide (0 < x9_2)) (
    kb (appK x8_2 ([(Tru.mk 1 ([(x9_2.tmod 10)] : List Int) ([] : (List Tru)))] : List Tru) 56) fun L43 =>
    some (.go (L43, (sub64 x9_2 1)))) (
    some (.ex 1 (x8_2, x9_2)))
def I_make_BentTrust_2 (pba0_0_2 : (List Int)) (pba0_1_2 : Int) (p1 : Tru) (x8_2 : (List Tru)) (x9_2 : Int) (q : St) : Prop := (∃ v : AV, q (.t 8) = v ∧ (ownAt q v (.site 11 6 0) false 3 x8_2.length (encTs x8_2) ∨ (v = .nilsl ∧ x8_2 = []))) ∧ q (.t 9) = (i64 x9_2) ∧ (q (.i (.arg 0)) = .box 0 [(.pv (.sl pba0_0_2.length (ints pba0_0_2))), (i64 pba0_1_2)]) ∧ (∃ (g : Nat), q (.t 3) = .ptr (.site 0 0 0) g 0 ∧ q (.i (.site 0 0 0)) = .box g [(i64 p1.thr), (.pv (.sl p1.nodes.length (ints p1.nodes))), (.pv (.sl p1.inner.length (encTs p1.inner)))]) ∧ (∃ (g : Nat), q (.t 4) = .ptr (.site 0 1 0) g 0 ∧ q (.i (.site 0 1 0)) = .box g [(i64 0), .nilsl, .nilsl])
def Q_make_BentTrust_2 (pba0_0_2 : (List Int)) (pba0_1_2 : Int) (p1 : Tru) (x8_2 : (List Tru)) (x9_2 : Int) (q : St) : Prop := (∃ v : AV, q (.t 8) = v ∧ (ownAt q v (.site 11 6 0) false 3 x8_2.length (encTs x8_2) ∨ (v = .nilsl ∧ x8_2 = []))) ∧ (q (.i (.arg 0)) = .box 0 [(.pv (.sl pba0_0_2.length (ints pba0_0_2))), (i64 pba0_1_2)]) ∧ (∃ (g : Nat), q (.t 3) = .ptr (.site 0 0 0) g 0 ∧ q (.i (.site 0 0 0)) = .box g [(i64 p1.thr), (.pv (.sl p1.nodes.length (ints p1.nodes))), (.pv (.sl p1.inner.length (encTs p1.inner)))]) ∧ (∃ (g : Nat), q (.t 4) = .ptr (.site 0 1 0) g 0 ∧ q (.i (.site 0 1 0)) = .box g [(i64 0), .nilsl, .nilsl])
theorem Pb_make_BentTrust_2 {pba0_0_2 : (List Int)} {pba0_1_2 : Int} {p1 : Tru} {x8_2 : (List Tru)} {x9_2 : Int} {q : St} {r : (Stp ((List Tru) × Int) Unit)} (hI : I_make_BentTrust_2 pba0_0_2 pba0_1_2 p1 x8_2 x9_2 q) (hB : B_make_BentTrust_2 pba0_0_2 pba0_1_2 p1 x8_2 x9_2 = some r) : Res (C Tryd.prog cf (Code.fst (Code.fst (Code.snd (Code.fst (Code.snd (Code.snd (Code.snd (Code.snd (Code.snd (Code.snd (Code.snd (Code.snd (Code.snd (Code.snd (Code.snd (Code.fst (Code.snd (Code.fst (Code.snd (Code.snd ((Tryd.f12.body).getD .skip))))))))))))))))))))) q) (postB 1 (fun a q => I_make_BentTrust_2 pba0_0_2 pba0_1_2 p1 a.1 a.2 q) (fun a q => Q_make_BentTrust_2 pba0_0_2 pba0_1_2 p1 a.1 a.2 q) (fun _ _ => False) r) := by
  simp only [I_make_BentTrust_2] at hI
  obtain ⟨⟨v1, q1, a1⟩, q2, q3, ⟨g5, q4, q5⟩, ⟨g7, q6, q7⟩⟩ := hI
  simp only [Code.fst, Code.snd, Tryd.f12, Option.getD_some]
  generalize hr11 : Code.region 11 _ _ = rr11
  unfold B_make_BentTrust_2 at hB
  rcases a1 with ⟨ga1, rfl, oa1⟩ | ⟨rfl, ea1⟩
  · rcases cnd_inv hB with ⟨c42, hB⟩ | ⟨c42, hB⟩
    · have pc42 := eq_true (of_decide_eq_true c42)
      obtain ⟨L43, a44, hB⟩ := kb_inv hB
      obtain ⟨a44z, a44a, a44y⟩ := appK_inv a44
      try (simp only [List.nil_append] at a44z; subst a44z)
      have a44b := appK_len a44
      have a44c := encTs_appK a44
      have a44d := appK_le a44
      try simp only [Int.cast_ofNat_Int, Int.natCast_zero, List.length_cons, List.length_nil, List.nil_append, List.cons_append, Nat.zero_add, Nat.reduceAdd, Tru.thr_mk, Tru.nodes_mk, Tru.inner_mk, ints_cons, ints_nil, encTs_cons, encTs_nil, es_str_cons, es_str_nil] at a44a a44b a44c
      try replace a44b : _ = (1 : Nat) := a44b.symm
      try dsimp only at hB
      obtain rfl := Option.some.inj hB
      subst hr11
      try simp -implicitDefEqProofs [-getElem?_pos, -Int.ofNat_lt, -Int.ofNat_le, -Int.natCast_eq_zero, -Int.natCast_pos, -List.length_eq_zero_iff, List.getElem?_cons_zero, List.getElem?_cons_succ, List.getElem?_nil, q1, q2, q3, q4, q5, q6, q7, oa1, c42, pc42, a44a, a44b, a44c, a44d]
      refine Res.bgo ?_
      simp -implicitDefEqProofs [-getElem?_pos, -Int.ofNat_lt, -Int.ofNat_le, -Int.natCast_eq_zero, -Int.natCast_pos, -List.length_eq_zero_iff, List.getElem?_cons_zero, List.getElem?_cons_succ, List.getElem?_nil, and_assoc, I_make_BentTrust_2, ownAt, q1, q2, q3, q4, q5, q6, q7, oa1, c42, pc42, a44a, a44b, a44c, a44d]
    · have pc42 := eq_false (of_decide_eq_false c42)
      obtain rfl := Option.some.inj hB
      try simp -implicitDefEqProofs [-getElem?_pos, -Int.ofNat_lt, -Int.ofNat_le, -Int.natCast_eq_zero, -Int.natCast_pos, -List.length_eq_zero_iff, List.getElem?_cons_zero, List.getElem?_cons_succ, List.getElem?_nil, q1, q2, q3, q4, q5, q6, q7, oa1, c42, pc42]
      refine Res.bex ?_
      simp -implicitDefEqProofs [-getElem?_pos, -Int.ofNat_lt, -Int.ofNat_le, -Int.natCast_eq_zero, -Int.natCast_pos, -List.length_eq_zero_iff, List.getElem?_cons_zero, List.getElem?_cons_succ, List.getElem?_nil, and_assoc, Q_make_BentTrust_2, ownAt, q1, q2, q3, q4, q5, q6, q7, oa1, c42, pc42]
  · try subst ea1
    rcases cnd_inv hB with ⟨c42, hB⟩ | ⟨c42, hB⟩
    · have pc42 := eq_true (of_decide_eq_true c42)
      obtain ⟨L43, a44, hB⟩ := kb_inv hB
      obtain ⟨a44z, a44a, a44y⟩ := appK_inv a44
      simp only [List.nil_append] at a44z
      subst a44z
      try dsimp only at hB
      obtain rfl := Option.some.inj hB
      subst hr11
      try simp -implicitDefEqProofs [-getElem?_pos, -Int.ofNat_lt, -Int.ofNat_le, -Int.natCast_eq_zero, -Int.natCast_pos, -List.length_eq_zero_iff, List.getElem?_cons_zero, List.getElem?_cons_succ, List.getElem?_nil, q1, q2, q3, q4, q5, q6, q7, c42, pc42]
      refine Res.bgo ?_
      simp -implicitDefEqProofs [-getElem?_pos, -Int.ofNat_lt, -Int.ofNat_le, -Int.natCast_eq_zero, -Int.natCast_pos, -List.length_eq_zero_iff, List.getElem?_cons_zero, List.getElem?_cons_succ, List.getElem?_nil, and_assoc, I_make_BentTrust_2, ownAt, q1, q2, q3, q4, q5, q6, q7, c42, pc42]; all_goals ((repeat' apply And.intro) <;> assumption)
    · have pc42 := eq_false (of_decide_eq_false c42)
      obtain rfl := Option.some.inj hB
      try simp -implicitDefEqProofs [-getElem?_pos, -Int.ofNat_lt, -Int.ofNat_le, -Int.natCast_eq_zero, -Int.natCast_pos, -List.length_eq_zero_iff, List.getElem?_cons_zero, List.getElem?_cons_succ, List.getElem?_nil, q1, q2, q3, q4, q5, q6, q7, c42, pc42]
      refine Res.bex ?_
      simp -implicitDefEqProofs [-getElem?_pos, -Int.ofNat_lt, -Int.ofNat_le, -Int.natCast_eq_zero, -Int.natCast_pos, -List.length_eq_zero_iff, List.getElem?_cons_zero, List.getElem?_cons_succ, List.getElem?_nil, and_assoc, Q_make_BentTrust_2, ownAt, q1, q2, q3, q4, q5, q6, q7, c42, pc42]; all_goals ((repeat' apply And.intro) <;> assumption)
theorem P_make_BentTrust_2 {pba0_0_2 : (List Int)} {pba0_1_2 : Int} {p1 : Tru} {x8_2 : (List Tru)} {x9_2 : Int} {cc : Code} (hcc : cc = .block 1 (.loop (Code.fst (Code.fst (Code.snd (Code.fst (Code.snd (Code.snd (Code.snd (Code.snd (Code.snd (Code.snd (Code.snd (Code.snd (Code.snd (Code.snd (Code.snd (Code.fst (Code.snd (Code.fst (Code.snd (Code.snd ((Tryd.f12.body).getD .skip))))))))))))))))))))))) {s : St} {z : Option (Ex × St)} (hz : C Tryd.prog cf cc s = z) {r : (Stp ((List Tru) × Int) Unit)} (hI : I_make_BentTrust_2 pba0_0_2 pba0_1_2 p1 x8_2 x9_2 s) (hB : iterW (fun a => B_make_BentTrust_2 pba0_0_2 pba0_1_2 p1 a.1 a.2) (x8_2, x9_2) = some r) : Res z (postS (fun a q => Q_make_BentTrust_2 pba0_0_2 pba0_1_2 p1 a.1 a.2 q) (fun _ _ => False) r) := by
  subst hcc
  exact while_sim (I := fun a q => I_make_BentTrust_2 pba0_0_2 pba0_1_2 p1 a.1 a.2 q) (Q := (fun a q => Q_make_BentTrust_2 pba0_0_2 pba0_1_2 p1 a.1 a.2 q)) (QR := (fun _ _ => False)) (fun a q r h hB => Pb_make_BentTrust_2 h hB) hI hz hB
noncomputable def B_make_BentTrust (p0 : S_trustquorummake_Tape) (p1 : Tru) : Option (Tru × S_trustquorummake_Tape) :=
  kb (B_make_BentTrust_0 p0 p1) fun z4 =>
  cnd z4.2.2 (
    kb (appK ([] : List Tru) p1.inner 56) fun L6 =>
    kb (G_make_Tape_N (S_trustquorummake_Tape.mk z4.1 z4.2.1) (L6.length : Int)) fun y8 =>
    kb (getI L6 y8.1) fun x10 =>
    kb (G_make_BentTrust y8.2 x10) fun y13 =>
    kb (setK L6 y8.1 y13.1) fun L15 =>
    some ((Tru.mk p1.thr p1.nodes L15), y13.2)) (
    kb (G_make_Tape_N (S_trustquorummake_Tape.mk z4.1 z4.2.1) 6) fun y17 =>
    cnd (decide (y17.1 = 0)) (
      kb (G_make_Tape_Pick y17.2 ([0, (-1), (add64 (p1.nodes.length : Int) (p1.inner.length : Int)), (add64 (add64 (p1.nodes.length : Int) (p1.inner.length : Int)) 1)] : List Int)) fun y20 =>
      some ((Tru.mk y20.1 p1.nodes p1.inner), y20.2)) (
      cnd (decide (y17.1 = 1)) (
        kb (appK ([] : List Int) p1.nodes 8) fun L23 =>
        kb (G_make_Tape_Pick y17.2 ([(-1), 0, 9, 10] : List Int)) fun y25 =>
        kb (appK L23 ([y25.1] : List Int) 8) fun L27 =>
        some ((Tru.mk p1.thr L27 p1.inner), y25.2)) (
        cnd (decide (y17.1 = 2)) (
          some ((Tru.mk p1.thr ([] : (List Int)) p1.inner), y17.2)) (
          cnd (decide (y17.1 = 3)) (
            kb (appK ([] : List Tru) p1.inner 56) fun L31 =>
            kb (appK L31 ([(Tru.mk 0 ([] : (List Int)) ([] : (List Tru)))] : List Tru) 56) fun L33 =>
            some ((Tru.mk p1.thr p1.nodes L33), y17.2)) (
            cnd (decide (y17.1 = 4)) (
              kb (G_make_Tape_Range y17.2 1 4) fun y36 =>
              kb (iterW (fun a => B_make_BentTrust_1 y36 a.1 a.2.1 a.2.2.1 a.2.2.2) (p1.thr, p1.nodes, p1.inner, y36.1)) fun o => stpK o (fun z39 =>
                some ((Tru.mk z39.1 z39.2.1 z39.2.2.1), y36.2)) (fun z39r =>
                none)) (
              kb (G_make_Tape_Pick y17.2 ([20, 60, 101] : List Int)) fun y40 =>
              kb (iterW (fun a => B_make_BentTrust_2 y40.2.f0 y40.2.f1 p1 a.1 a.2) (([] : (List Tru)), y40.1)) fun o => stpK o (fun z45 =>
                kb (appK z45.1 p1.inner 56) fun L46 =>
                some ((Tru.mk p1.thr p1.nodes L46), y40.2)) (fun z45r =>
                none)))))))
theorem sim_make_BentTrust {p0 : S_trustquorummake_Tape} {p1 : Tru} {r : (Tru × S_trustquorummake_Tape)} (hB : B_make_BentTrust p0 p1 = some r) : R 12 [.ptr (.arg 0) 0 0, (.agg [(i64 p1.thr), (.pv (.sl p1.nodes.length (ints p1.nodes))), (.pv (.sl p1.inner.length (encTs p1.inner)))])] [.box 0 [(.pv (.sl p0.f0.length (ints p0.f0))), (i64 p0.f1)]] = some ((.agg [(i64 r.1.thr), (.pv (.sl r.1.nodes.length (ints r.1.nodes))), (.pv (.sl r.1.inner.length (encTs r.1.inner)))]), [.box 0 [(.pv (.sl r.2.f0.length (ints r.2.f0))), (i64 r.2.f1)]], []) := by
  rw [R_eq _ _ _ fn_make_BentTrust]
  simp only [Code.fst, Code.snd, Tryd.f12, Option.getD_some]
  generalize hc0 : Code.region 1 _ _ = cc0
  generalize hc1 : Code.block 3 _ = cc1
  generalize hc2 : Code.block 1 _ = cc2
  generalize hr2 : Code.region 2 _ _ = rr2
  generalize hr3 : Code.region 3 _ _ = rr3
  generalize hr4 : Code.region 4 _ _ = rr4
  generalize hr8 : Code.region 8 _ _ = rr8
  generalize hr12 : Code.region 12 _ _ = rr12
  generalize hr14 : Code.region 14 _ _ = rr14
  generalize hr16 : Code.region 16 _ _ = rr16
  generalize hr20 : Code.region 20 _ _ = rr20
  unfold B_make_BentTrust at hB
  try simp -implicitDefEqProofs [-getElem?_pos, -Int.ofNat_lt, -Int.ofNat_le, -Int.natCast_eq_zero, -Int.natCast_pos, -List.length_eq_zero_iff, List.getElem?_cons_zero, List.getElem?_cons_succ, List.getElem?_nil]
  generalize hz0 : C Tryd.prog cf cc0 _ = z0
  obtain ⟨z4, hB1, hB⟩ := kb_inv hB
  have hJ := P_make_BentTrust_0 (hc0.symm.trans (by kernel_rfl)) hz0 (by simp -implicitDefEqProofs [-getElem?_pos, -Int.ofNat_lt, -Int.ofNat_le, -Int.natCast_eq_zero, -Int.natCast_pos, -List.length_eq_zero_iff, List.getElem?_cons_zero, List.getElem?_cons_succ, List.getElem?_nil, and_assoc, J_make_BentTrust_0, ownAt]) hB1
  obtain ⟨e0, s0, rfl, hq⟩ := hJ.open
  clear hB1
  obtain ⟨rfl, hq⟩ := hq
  simp only [Q_make_BentTrust_0] at hq
  obtain ⟨q4_1, ⟨q4_2, q4_3⟩, ⟨g4_5, q4_4, q4_5⟩, ⟨g4_7, q4_6, q4_7⟩⟩ := hq
  rcases cnd_inv hB with ⟨c5, hB⟩ | ⟨c5, hB⟩
  · obtain ⟨L6, a7, hB⟩ := kb_inv hB
    obtain ⟨a7z, a7a, a7y⟩ := appK_inv a7
    try (simp only [List.nil_append] at a7z; subst a7z)
    have a7b := appK_len a7
    have a7c := encTs_appK a7
    have a7d := appK_le a7
    try dsimp only at hB
    obtain ⟨y8, k9, hB⟩ := kb_inv hB
    replace k9 := run_make_Tape_N k9
    try simp only [Int.cast_ofNat_Int, Int.natCast_zero, List.length_cons, List.length_nil, List.nil_append, List.cons_append, Nat.zero_add, Nat.reduceAdd, Tru.thr_mk, Tru.nodes_mk, Tru.inner_mk, ints_cons, ints_nil, encTs_cons, encTs_nil, es_str_cons, es_str_nil, c5] at k9
    try dsimp only at hB
    obtain ⟨x10, h11, hB⟩ := kb_inv hB
    obtain ⟨h11a, h11b, h11c, h11d⟩ := getI_inv h11
    try simp only [Int.toNat_natCast, Int.reduceToNat] at h11c
    try dsimp only at hB
    have l12 := encTs_ld h11c
    obtain ⟨y13, k14, hB⟩ := kb_inv hB
    replace k14 := run_make_BentTrust k14
    try simp only [Int.cast_ofNat_Int, Int.natCast_zero, List.length_cons, List.length_nil, List.nil_append, List.cons_append, Nat.zero_add, Nat.reduceAdd, Tru.thr_mk, Tru.nodes_mk, Tru.inner_mk, ints_cons, ints_nil, encTs_cons, encTs_nil, es_str_cons, es_str_nil, c5] at k14
    try dsimp only at hB
    obtain ⟨L15, s16, hB⟩ := kb_inv hB
    obtain ⟨s16a, s16b, s16c, s16d, s16e, s16g⟩ := encTs_put s16
    try simp only [Int.cast_ofNat_Int, Int.natCast_zero, List.length_cons, List.length_nil, List.nil_append, List.cons_append, Nat.zero_add, Nat.reduceAdd, Tru.thr_mk, Tru.nodes_mk, Tru.inner_mk, ints_cons, ints_nil, encTs_cons, encTs_nil, es_str_cons, es_str_nil, c5] at s16d
    try dsimp only at hB
    obtain rfl := Option.some.inj hB
    subst hr2
    subst hr3
    subst hr4
    simp -implicitDefEqProofs [-getElem?_pos, -Int.ofNat_lt, -Int.ofNat_le, -Int.natCast_eq_zero, -Int.natCast_pos, -List.length_eq_zero_iff, List.getElem?_cons_zero, List.getElem?_cons_succ, List.getElem?_nil, q4_1, q4_2, q4_3, q4_4, q4_5, q4_6, q4_7, c5, a7a, a7b, a7c, a7d, k9, h11a, h11b, h11c, h11d, l12, k14, s16a, s16b, s16c, s16d, s16e, s16g]
    rw [drawK_ok _ _ _ (by kernel_rfl)]
    simp -implicitDefEqProofs [-getElem?_pos, -Int.ofNat_lt, -Int.ofNat_le, -Int.natCast_eq_zero, -Int.natCast_pos, -List.length_eq_zero_iff, List.getElem?_cons_zero, List.getElem?_cons_succ, List.getElem?_nil, q4_1, q4_2, q4_3, q4_4, q4_5, q4_6, q4_7, c5, a7a, a7b, a7c, a7d, k9, h11a, h11b, h11c, h11d, l12, k14, s16a, s16b, s16c, s16d, s16e, s16g]
  · obtain ⟨y17, k18, hB⟩ := kb_inv hB
    replace k18 := run_make_Tape_N k18
    try simp only [Int.cast_ofNat_Int, Int.natCast_zero, List.length_cons, List.length_nil, List.nil_append, List.cons_append, Nat.zero_add, Nat.reduceAdd, Tru.thr_mk, Tru.nodes_mk, Tru.inner_mk, ints_cons, ints_nil, encTs_cons, encTs_nil, es_str_cons, es_str_nil, c5] at k18
    try dsimp only at hB
    rcases cnd_inv hB with ⟨c19, hB⟩ | ⟨c19, hB⟩
    · have pc19 := eq_true (of_decide_eq_true c19)
      obtain ⟨y20, k21, hB⟩ := kb_inv hB
      replace k21 := run_make_Tape_Pick k21
      try simp only [Int.cast_ofNat_Int, Int.natCast_zero, List.length_cons, List.length_nil, List.nil_append, List.cons_append, Nat.zero_add, Nat.reduceAdd, Tru.thr_mk, Tru.nodes_mk, Tru.inner_mk, ints_cons, ints_nil, encTs_cons, encTs_nil, es_str_cons, es_str_nil, c5] at k21
      try dsimp only at hB
      obtain rfl := Option.some.inj hB
      subst hr14
      simp -implicitDefEqProofs [-getElem?_pos, -Int.ofNat_lt, -Int.ofNat_le, -Int.natCast_eq_zero, -Int.natCast_pos, -List.length_eq_zero_iff, List.getElem?_cons_zero, List.getElem?_cons_succ, List.getElem?_nil, q4_1, q4_2, q4_3, q4_4, q4_5, q4_6, q4_7, c5, k18, c19, pc19, k21]
    · have pc19 := eq_false (of_decide_eq_false c19)
      rcases cnd_inv hB with ⟨c22, hB⟩ | ⟨c22, hB⟩
      · have pc22 := eq_true (of_decide_eq_true c22)
        obtain ⟨L23, a24, hB⟩ := kb_inv hB
        obtain ⟨a24z, a24a, a24y⟩ := appK_inv a24
        try (simp only [List.nil_append] at a24z; subst a24z)
        have a24b := appK_len a24
        have a24c := ints_appK a24
        have a24d := appK_le a24
        try dsimp only at hB
        obtain ⟨y25, k26, hB⟩ := kb_inv hB
        replace k26 := run_make_Tape_Pick k26
        try simp only [Int.cast_ofNat_Int, Int.natCast_zero, List.length_cons, List.length_nil, List.nil_append, List.cons_append, Nat.zero_add, Nat.reduceAdd, Tru.thr_mk, Tru.nodes_mk, Tru.inner_mk, ints_cons, ints_nil, encTs_cons, encTs_nil, es_str_cons, es_str_nil, c5] at k26
        try dsimp only at hB
        obtain ⟨L27, a28, hB⟩ := kb_inv hB
        obtain ⟨a28z, a28a, a28y⟩ := appK_inv a28
        try (simp only [List.nil_append] at a28z; subst a28z)
        have a28b := appK_len a28
        have a28c := ints_appK a28
        have a28d := appK_le a28
        try simp only [Int.cast_ofNat_Int, Int.natCast_zero, List.length_cons, List.length_nil, List.nil_append, List.cons_append, Nat.zero_add, Nat.reduceAdd, Tru.thr_mk, Tru.nodes_mk, Tru.inner_mk, ints_cons, ints_nil, encTs_cons, encTs_nil, es_str_cons, es_str_nil, c5] at a28a a28b a28c
        try replace a28b : _ = (1 : Nat) := a28b.symm
        try dsimp only at hB
        obtain rfl := Option.some.inj hB
        subst hr16
        simp -implicitDefEqProofs [-getElem?_pos, -Int.ofNat_lt, -Int.ofNat_le, -Int.natCast_eq_zero, -Int.natCast_pos, -List.length_eq_zero_iff, List.getElem?_cons_zero, List.getElem?_cons_succ, List.getElem?_nil, q4_1, q4_2, q4_3, q4_4, q4_5, q4_6, q4_7, c5, k18, c19, pc19, c22, pc22, a24a, a24b, a24c, a24d, k26, a28a, a28b, a28c, a28d]
      · have pc22 := eq_false (of_decide_eq_false c22)
        rcases cnd_inv hB with ⟨c29, hB⟩ | ⟨c29, hB⟩
        · have pc29 := eq_true (of_decide_eq_true c29)
          obtain rfl := Option.some.inj hB
          simp -implicitDefEqProofs [-getElem?_pos, -Int.ofNat_lt, -Int.ofNat_le, -Int.natCast_eq_zero, -Int.natCast_pos, -List.length_eq_zero_iff, List.getElem?_cons_zero, List.getElem?_cons_succ, List.getElem?_nil, q4_1, q4_2, q4_3, q4_4, q4_5, q4_6, q4_7, c5, k18, c19, pc19, c22, pc22, c29, pc29]
        · have pc29 := eq_false (of_decide_eq_false c29)
          rcases cnd_inv hB with ⟨c30, hB⟩ | ⟨c30, hB⟩
          · have pc30 := eq_true (of_decide_eq_true c30)
            obtain ⟨L31, a32, hB⟩ := kb_inv hB
            obtain ⟨a32z, a32a, a32y⟩ := appK_inv a32
            try (simp only [List.nil_append] at a32z; subst a32z)
            have a32b := appK_len a32
            have a32c := encTs_appK a32
            have a32d := appK_le a32
            try dsimp only at hB
            obtain ⟨L33, a34, hB⟩ := kb_inv hB
            obtain ⟨a34z, a34a, a34y⟩ := appK_inv a34
            try (simp only [List.nil_append] at a34z; subst a34z)
            have a34b := appK_len a34
            have a34c := encTs_appK a34
            have a34d := appK_le a34
            try simp only [Int.cast_ofNat_Int, Int.natCast_zero, List.length_cons, List.length_nil, List.nil_append, List.cons_append, Nat.zero_add, Nat.reduceAdd, Tru.thr_mk, Tru.nodes_mk, Tru.inner_mk, ints_cons, ints_nil, encTs_cons, encTs_nil, es_str_cons, es_str_nil, c5] at a34a a34b a34c
            try replace a34b : _ = (1 : Nat) := a34b.symm
            try dsimp only at hB
            obtain rfl := Option.some.inj hB
            subst hr20
            simp -implicitDefEqProofs [-getElem?_pos, -Int.ofNat_lt, -Int.ofNat_le, -Int.natCast_eq_zero, -Int.natCast_pos, -List.length_eq_zero_iff, List.getElem?_cons_zero, List.getElem?_cons_succ, List.getElem?_nil, q4_1, q4_2, q4_3, q4_4, q4_5, q4_6, q4_7, c5, k18, c19, pc19, c22, pc22, c29, pc29, c30, pc30, a32a, a32b, a32c, a32d, a34a, a34b, a34c, a34d]
          · have pc30 := eq_false (of_decide_eq_false c30)
            rcases cnd_inv hB with ⟨c35, hB⟩ | ⟨c35, hB⟩
            · have pc35 := eq_true (of_decide_eq_true c35)
              obtain ⟨y36, k37, hB⟩ := kb_inv hB
              replace k37 := run_make_Tape_Range k37
              try simp only [Int.cast_ofNat_Int, Int.natCast_zero, List.length_cons, List.length_nil, List.nil_append, List.cons_append, Nat.zero_add, Nat.reduceAdd, Tru.thr_mk, Tru.nodes_mk, Tru.inner_mk, ints_cons, ints_nil, encTs_cons, encTs_nil, es_str_cons, es_str_nil, c5] at k37
              try dsimp only at hB
              try simp -implicitDefEqProofs [-getElem?_pos, -Int.ofNat_lt, -Int.ofNat_le, -Int.natCast_eq_zero, -Int.natCast_pos, -List.length_eq_zero_iff, List.getElem?_cons_zero, List.getElem?_cons_succ, List.getElem?_nil, q4_1, q4_2, q4_3, q4_4, q4_5, q4_6, q4_7, c5, k18, c19, pc19, c22, pc22, c29, pc29, c30, pc30, c35, pc35, k37]
              generalize hz1 : C Tryd.prog cf cc1 _ = z1
              obtain ⟨o, hB1, hB⟩ := kb_inv hB
              have hJ := P_make_BentTrust_1 (hc1.symm.trans (by kernel_rfl)) hz1 (by simp -implicitDefEqProofs [-getElem?_pos, -Int.ofNat_lt, -Int.ofNat_le, -Int.natCast_eq_zero, -Int.natCast_pos, -List.length_eq_zero_iff, List.getElem?_cons_zero, List.getElem?_cons_succ, List.getElem?_nil, and_assoc, I_make_BentTrust_1, ownAt, q4_1, q4_2, q4_3, q4_4, q4_5, q4_6, q4_7, c5, k18, c19, pc19, c22, pc22, c29, pc29, c30, pc30, c35, pc35, k37]) hB1
              obtain ⟨e1, s1, rfl, hq⟩ := hJ.open
              clear hB1
              rcases o with z39 | ⟨_, _⟩ | z39r
              · simp only [stpK_go] at hB
                obtain ⟨rfl, hq⟩ := hq
                obtain ⟨u1_0, u1_1, u1_2, u1_3⟩ := z39
                dsimp only at hB hq
                simp only [Q_make_BentTrust_1] at hq
                obtain ⟨q39_1, ⟨g39_3, q39_2, q39_3⟩, ⟨g39_5, v39_5_w0, v39_5_w1, q39_4, q39_5, a39_5_w0, a39_5_w1⟩⟩ := hq
                rcases a39_5_w0 with rfl | ⟨rfl, ea39_5_w0⟩
                · rcases a39_5_w1 with ⟨ga39_5_w1, rfl, oa39_5_w1⟩ | rfl
                  · obtain rfl := Option.some.inj hB
                    simp -implicitDefEqProofs [-getElem?_pos, -Int.ofNat_lt, -Int.ofNat_le, -Int.natCast_eq_zero, -Int.natCast_pos, -List.length_eq_zero_iff, List.getElem?_cons_zero, List.getElem?_cons_succ, List.getElem?_nil, q39_1, q39_2, q39_3, q39_4, q39_5, oa39_5_w1, c5, k18, c19, pc19, c22, pc22, c29, pc29, c30, pc30, c35, pc35, k37]
                  · obtain rfl := Option.some.inj hB
                    simp -implicitDefEqProofs [-getElem?_pos, -Int.ofNat_lt, -Int.ofNat_le, -Int.natCast_eq_zero, -Int.natCast_pos, -List.length_eq_zero_iff, List.getElem?_cons_zero, List.getElem?_cons_succ, List.getElem?_nil, q39_1, q39_2, q39_3, q39_4, q39_5, c5, k18, c19, pc19, c22, pc22, c29, pc29, c30, pc30, c35, pc35, k37]
                · try subst ea39_5_w0
                  rcases a39_5_w1 with ⟨ga39_5_w1, rfl, oa39_5_w1⟩ | rfl
                  · obtain rfl := Option.some.inj hB
                    simp -implicitDefEqProofs [-getElem?_pos, -Int.ofNat_lt, -Int.ofNat_le, -Int.natCast_eq_zero, -Int.natCast_pos, -List.length_eq_zero_iff, List.getElem?_cons_zero, List.getElem?_cons_succ, List.getElem?_nil, q39_1, q39_2, q39_3, q39_4, q39_5, oa39_5_w1, c5, k18, c19, pc19, c22, pc22, c29, pc29, c30, pc30, c35, pc35, k37]
                  · obtain rfl := Option.some.inj hB
                    simp -implicitDefEqProofs [-getElem?_pos, -Int.ofNat_lt, -Int.ofNat_le, -Int.natCast_eq_zero, -Int.natCast_pos, -List.length_eq_zero_iff, List.getElem?_cons_zero, List.getElem?_cons_succ, List.getElem?_nil, q39_1, q39_2, q39_3, q39_4, q39_5, c5, k18, c19, pc19, c22, pc22, c29, pc29, c30, pc30, c35, pc35, k37]
              · exact hq.elim
              · cases hB
            · have pc35 := eq_false (of_decide_eq_false c35)
              obtain ⟨y40, k41, hB⟩ := kb_inv hB
              replace k41 := run_make_Tape_Pick k41
              try simp only [Int.cast_ofNat_Int, Int.natCast_zero, List.length_cons, List.length_nil, List.nil_append, List.cons_append, Nat.zero_add, Nat.reduceAdd, Tru.thr_mk, Tru.nodes_mk, Tru.inner_mk, ints_cons, ints_nil, encTs_cons, encTs_nil, es_str_cons, es_str_nil, c5] at k41
              try dsimp only at hB
              subst hr8
              try simp -implicitDefEqProofs [-getElem?_pos, -Int.ofNat_lt, -Int.ofNat_le, -Int.natCast_eq_zero, -Int.natCast_pos, -List.length_eq_zero_iff, List.getElem?_cons_zero, List.getElem?_cons_succ, List.getElem?_nil, q4_1, q4_2, q4_3, q4_4, q4_5, q4_6, q4_7, c5, k18, c19, pc19, c22, pc22, c29, pc29, c30, pc30, c35, pc35, k41]
              generalize hz2 : C Tryd.prog cf cc2 _ = z2
              obtain ⟨o, hB1, hB⟩ := kb_inv hB
              have hJ := P_make_BentTrust_2 (hc2.symm.trans (by kernel_rfl)) hz2 (by simp -implicitDefEqProofs [-getElem?_pos, -Int.ofNat_lt, -Int.ofNat_le, -Int.natCast_eq_zero, -Int.natCast_pos, -List.length_eq_zero_iff, List.getElem?_cons_zero, List.getElem?_cons_succ, List.getElem?_nil, and_assoc, I_make_BentTrust_2, ownAt, q4_1, q4_2, q4_3, q4_4, q4_5, q4_6, q4_7, c5, k18, c19, pc19, c22, pc22, c29, pc29, c30, pc30, c35, pc35, k41]) hB1
              obtain ⟨e2, s2, rfl, hq⟩ := hJ.open
              clear hB1
              rcases o with z45 | ⟨_, _⟩ | z45r
              · simp only [stpK_go] at hB
                obtain ⟨rfl, hq⟩ := hq
                obtain ⟨u2_0, u2_1⟩ := z45
                dsimp only at hB hq
                simp only [Q_make_BentTrust_2] at hq
                obtain ⟨⟨v45_1, q45_1, a45_1⟩, q45_2, ⟨g45_4, q45_3, q45_4⟩, ⟨g45_6, q45_5, q45_6⟩⟩ := hq
                rcases a45_1 with ⟨ga45_1, rfl, oa45_1⟩ | ⟨rfl, ea45_1⟩
                · obtain ⟨L46, a47, hB⟩ := kb_inv hB
                  obtain ⟨a47z, a47a, a47y⟩ := appK_inv a47
                  try (simp only [List.nil_append] at a47z; subst a47z)
                  have a47b := appK_len a47
                  have a47c := encTs_appK a47
                  have a47d := appK_le a47
                  try dsimp only at hB
                  obtain rfl := Option.some.inj hB
                  subst hr12
                  simp -implicitDefEqProofs [-getElem?_pos, -Int.ofNat_lt, -Int.ofNat_le, -Int.natCast_eq_zero, -Int.natCast_pos, -List.length_eq_zero_iff, List.getElem?_cons_zero, List.getElem?_cons_succ, List.getElem?_nil, q45_1, q45_2, q45_3, q45_4, q45_5, q45_6, oa45_1, c5, k18, c19, pc19, c22, pc22, c29, pc29, c30, pc30, c35, pc35, k41, a47a, a47b, a47c, a47d]
                · try subst ea45_1
                  obtain ⟨L46, a47, hB⟩ := kb_inv hB
                  obtain ⟨a47z, a47a, a47y⟩ := appK_inv a47
                  try simp only [List.nil_append] at a47z
                  subst a47z
                  try dsimp only at hB
                  rcases appK_cases a47 with a47e | a47e
                  · have a47e2 := List.eq_nil_of_length_eq_zero a47e
                    obtain rfl := Option.some.inj hB
                    subst hr12
                    simp -implicitDefEqProofs [-getElem?_pos, -Int.ofNat_lt, -Int.ofNat_le, -Int.natCast_eq_zero, -Int.natCast_pos, -List.length_eq_zero_iff, List.getElem?_cons_zero, List.getElem?_cons_succ, List.getElem?_nil, q45_1, q45_2, q45_3, q45_4, q45_5, q45_6, c5, k18, c19, pc19, c22, pc22, c29, pc29, c30, pc30, c35, pc35, k41, a47e, a47e2]
                  · obtain rfl := Option.some.inj hB
                    subst hr12
                    simp -implicitDefEqProofs [-getElem?_pos, -Int.ofNat_lt, -Int.ofNat_le, -Int.natCast_eq_zero, -Int.natCast_pos, -List.length_eq_zero_iff, List.getElem?_cons_zero, List.getElem?_cons_succ, List.getElem?_nil, q45_1, q45_2, q45_3, q45_4, q45_5, q45_6, c5, k18, c19, pc19, c22, pc22, c29, pc29, c30, pc30, c35, pc35, k41, a47e, a47y]
              · exact hq.elim
              · cases hB
theorem g_make_BentTrust {p0 : S_trustquorummake_Tape} {p1 : Tru} {r : (Tru × S_trustquorummake_Tape)} (hB : B_make_BentTrust p0 p1 = some r) : G_make_BentTrust p0 p1 = some r := dec_of (fun a b h => by rcases a with ⟨⟨a0_0, a0_1, a0_2⟩, ⟨a1_0, a1_1⟩⟩; rcases b with ⟨⟨b0_0, b0_1, b0_2⟩, ⟨b1_0, b1_1⟩⟩; simp at h; simp [*]) (sim_make_BentTrust hB)
end Go.Am

/-
Plain laws: trusts in which one thing is changed.
-/
namespace Go.Am
open Go
set_option linter.unusedVariables false
set_option linter.unusedSimpArgs false

/-- small, and the numbers are ints -/
def Tru.Wee (m : Nat) (x : Tru) : Prop := x.size ≤ m ∧ x.Ok
theorem sizes_set : ∀ (l : List Tru) (j : Nat) (y z : Tru), l[j]? = some y → sizes (l.set j z) + y.size = sizes l + z.size
  | [], j, y, z, h => by simp at h
  | x :: r, 0, y, z, h => by
    simp at h; subst h
    simp only [List.set_cons_zero, sizes]; omega
  | x :: r, j + 1, y, z, h => by
    have := sizes_set r j y z (by simpa using h)
    simp only [List.set_cons_succ, sizes]; omega
theorem Oks_app {a b : List Tru} (ha : Oks a) (hb : Oks b) : Oks (a ++ b) := by
  rw [Oks_iff] at ha hb ⊢
  intro x hx
  rcases List.mem_append.1 hx with h | h
  · exact ha x h
  · exact hb x h
theorem Ok0 : Oks [Tru.mk 0 [] []] := ⟨⟨by unfold in64; omega, fun k hk => (by cases hk), trivial⟩, trivial⟩
theorem s_BentTrust : ∀ x : Tru, ∀ M : Nat, x.Wee M → M ≤ 1000000 → ∀ t : Tape, Tp t → ∃ y t', G_make_BentTrust t x = some (y, t') ∧ y.Wee (M + 250) ∧ Tp t' := by
  refine tru_ind fun u n i ih M h hM t ht => ?_
  obtain ⟨hs, ho⟩ := h
  rw [size_mk] at hs
  have ho' := (Ok_eq _).1 ho
  simp only [Tru.nodes_mk, Tru.inner_mk, Tru.thr_mk] at ho'
  obtain ⟨ou, on, oi⟩ := ho'
  have hfirst : ∃ (b : Bool) (tp : Tape), B_make_BentTrust_0 t (.mk u n i) = some (tp.f0, tp.f1, b) ∧ Tp tp ∧ (b = true → 1 ≤ i.length) := by
    unfold B_make_BentTrust_0
    rw [Tru.inner_mk]
    by_cases c : 0 < (i.length : Int)
    · obtain ⟨v, t', g1, gv, gt⟩ := s_N ht (n := 2) (by omega) (by omega)
      exact ⟨decide (v = 1), t', by simp only [c, decide_true, cnd_true, g1, kb_some], gt, fun _ => by omega⟩
    · exact ⟨false, t, by simp only [c, decide_false, cnd_false], ht, fun h => by cases h⟩
  obtain ⟨b, tp, e0, ht0, hb⟩ := hfirst
  have hB : ∃ y t', B_make_BentTrust t (.mk u n i) = some (y, t') ∧ y.Wee (M + 250) ∧ Tp t' := by
    unfold B_make_BentTrust
    rw [e0, kb_some]
    dsimp only
    simp only [Tru.nodes_mk, Tru.inner_mk, Tru.thr_mk]
    cases b
    case true =>
      have hi1 := hb rfl
      rw [cnd_true, appK_some (by simp; omega), kb_some, List.nil_append]
      obtain ⟨v, t1, e1, hv, ht1⟩ := s_N (t := ⟨tp.f0, tp.f1⟩) ht0 (n := (i.length : Int)) (by omega) (by omega)
      have hlt : v.toNat < i.length := by omega
      have hmem : i[v.toNat] ∈ i := List.getElem_mem _
      obtain ⟨y, t2, e2, hy, ht2⟩ := ih _ hmem (i[v.toNat]).size ⟨Nat.le_refl _, Oks_mem hmem oi⟩ (by have := sizes_mem hmem; omega) t1 ht1
      have hset := sizes_set i v.toNat _ y (List.getElem?_eq_getElem hlt)
      refine ⟨.mk u n (i.set v.toNat y), t2, ?_, ⟨?_, ?_⟩, ht2⟩
      · rw [e1, kb_some, getI_some hv.1 hlt, kb_some, e2, kb_some, setK_some hv.1 hv.2, kb_some]
      · rw [size_mk, List.length_set]; have := hy.1; omega
      · rw [Ok_eq]
        refine ⟨ou, on, Oks_iff.2 fun z hz => ?_⟩
        rw [Tru.inner_mk] at hz
        rcases List.mem_or_eq_of_mem_set hz with hz | rfl
        · exact Oks_mem hz oi
        · exact hy.2
    case false =>
      rw [cnd_false]
      obtain ⟨v, t1, e1, hv, ht1⟩ := s_N (t := ⟨tp.f0, tp.f1⟩) ht0 (n := 6) (by omega) (by omega)
      rw [e1, kb_some]
      dsimp only
      by_cases c0 : v = 0
      · simp only [c0, decide_true, cnd_true]
        have ea : add64 (n.length : Int) (i.length : Int) = n.length + i.length := add64_of (by omega) (by omega)
        rw [ea, add64_of (by omega) (by omega)]
        obtain ⟨w, t2, e2, hw, ht2⟩ := s_Pick ht1 (l := [0, -1, (n.length : Int) + i.length, (n.length : Int) + i.length + 1]) (by simp) (by simp)
        refine ⟨.mk w n i, t2, by rw [e2, kb_some], ⟨by rw [size_mk]; omega, ?_, on, oi⟩, ht2⟩
        simp at hw; unfold in64; omega
      simp only [c0, decide_false, cnd_false]
      by_cases c1 : v = 1
      · simp only [c1, decide_true, cnd_true]
        rw [appK_some (by simp; omega), kb_some, List.nil_append]
        obtain ⟨w, t2, e2, hw, ht2⟩ := s_Pick ht1 (l := [-1, 0, 9, 10]) (by simp) (by simp)
        refine ⟨.mk u (n ++ [w]) i, t2, by rw [e2, kb_some, appK_some (by simp; omega), kb_some], ⟨by rw [size_mk]; simp; omega, ou, fun k hk => ?_, oi⟩, ht2⟩
        rcases List.mem_append.1 hk with hk | hk
        · exact on k hk
        · simp at hw hk; unfold in64; omega
      simp only [c1, decide_false, cnd_false]
      by_cases c2 : v = 2
      · simp only [c2, decide_true, cnd_true]
        exact ⟨.mk u [] i, t1, rfl, ⟨by rw [size_mk]; simp; omega, ou, fun k hk => (by cases hk), oi⟩, ht1⟩
      simp only [c2, decide_false, cnd_false]
      by_cases c3 : v = 3
      · simp only [c3, decide_true, cnd_true]
        rw [appK_some (by simp; omega), kb_some, List.nil_append]
        refine ⟨.mk u n (i ++ [.mk 0 [] []]), t1, by rw [appK_some (by simp; omega), kb_some], ⟨?_, ou, on, Oks_app oi Ok0⟩, ht1⟩
        rw [size_mk, sizes_app]; simp [sizes, Tru.size]; omega
      simp only [c3, decide_false, cnd_false]
      by_cases c4 : v = 4
      · simp only [c4, decide_true, cnd_true]
        obtain ⟨w, t2, e2, hw, ht2⟩ := s_Range ht1 (a := 1) (b := 4) (by omega) (by omega) (by omega)
        rw [e2, kb_some]
        have hloop := iterW_spec (A := Int × List Int × List Tru × Int) (R := Unit) (f := fun a => B_make_BentTrust_1 (w, t2) a.1 a.2.1 a.2.2.1 a.2.2.2)
          (fun k a => (0 ≤ a.2.2.2 ∧ a.2.2.2 ≤ 4 ∧ k = a.2.2.2.toNat) ∧ (Tru.mk a.1 a.2.1 a.2.2.1).Wee (M + 4 * (4 - a.2.2.2.toNat)))
          (fun x => ∃ a : Int × List Int × List Tru × Int, x = .go a ∧ (Tru.mk a.1 a.2.1 a.2.2.1).Wee (M + 250)) (by
            rintro k ⟨a, l, r, j⟩ ⟨⟨hj0, hj4, hk⟩, hw⟩
            dsimp only at hj0 hj4 hk hw
            by_cases c : 0 < j
            · left
              refine ⟨(1, [], [.mk a l r], j - 1), (j - 1).toNat, ?_, by omega, ⟨by show 0 ≤ j - 1; omega, by show j - 1 ≤ 4; omega, rfl⟩, ⟨?_, ?_⟩⟩
              · unfold B_make_BentTrust_1
                simp only [c, decide_true, cnd_true]
                rw [sub64_of (by omega) (by omega)]
              · have := hw.1
                dsimp only
                rw [size_mk] at this ⊢
                simp only [sizes, size_mk, List.length_nil, List.length_cons]
                omega
              · exact ⟨by unfold in64; omega, fun k hk => (by cases hk), hw.2, trivial⟩
            · right; left
              refine ⟨3, (a, l, r, j), ?_, (a, l, r, j), rfl, by have := hw.1; dsimp only; omega, hw.2⟩
              unfold B_make_BentTrust_1
              simp only [c, decide_false, cnd_false]) w.toNat (u, n, i, w) ⟨⟨by show 0 ≤ w; omega, by show w ≤ 4; omega, rfl⟩, by dsimp only; rw [size_mk]; omega, ho⟩
        obtain ⟨_, e3, a, rfl, ha⟩ := hloop
        exact ⟨_, t2, by rw [e3, kb_some, stpK_go], ha, ht2⟩
      simp only [c4, decide_false, cnd_false]
      obtain ⟨w, t2, e2, hw, ht2⟩ := s_Pick ht1 (l := [20, 60, 101]) (by simp) (by simp)
      rw [e2, kb_some]
      have hw2 : 0 ≤ w ∧ w ≤ 101 := by simp at hw; omega
      have hloop := iterW_spec (A := List Tru × Int) (R := Unit) (f := fun a => B_make_BentTrust_2 t2.f0 t2.f1 (.mk u n i) a.1 a.2)
        (fun k a => (0 ≤ a.2 ∧ a.1.length + a.2 ≤ 101 ∧ k = a.2.toNat) ∧ (sizes a.1 ≤ a.1.length ∧ Oks a.1))
        (fun x => ∃ a : List Tru × Int, x = .go a ∧ a.1.length ≤ 101 ∧ (sizes a.1 ≤ a.1.length ∧ Oks a.1)) (by
          rintro k ⟨l, j⟩ ⟨⟨hj0, hj4, hk⟩, hl1, hl2⟩
          dsimp only at hj0 hj4 hk hl1 hl2
          by_cases c : 0 < j
          · left
            have hm1 : j.tmod 10 < 10 := Int.tmod_lt_of_pos _ (by omega)
            have hm2 : -10 < j.tmod 10 := Int.lt_tmod_of_pos j (b := 10) (by omega)
            refine ⟨(l ++ [.mk 1 [j.tmod 10] []], j - 1), (j - 1).toNat, ?_, by omega, ⟨by show 0 ≤ j - 1; omega, by simp; omega, rfl⟩, ?_, ?_⟩
            · unfold B_make_BentTrust_2
              simp only [c, decide_true, cnd_true]
              rw [appK_some (by simp; omega), kb_some, sub64_of (by omega) (by omega)]
            · dsimp only
              rw [sizes_app]; simp [sizes, Tru.size]; omega
            · exact Oks_app hl2 ⟨⟨by unfold in64; omega, fun k hk => by simp at hk; unfold in64; omega, trivial⟩, trivial⟩
          · right; left
            refine ⟨1, (l, j), ?_, (l, j), rfl, by show l.length ≤ 101; omega, hl1, hl2⟩
            unfold B_make_BentTrust_2
            simp only [c, decide_false, cnd_false]) w.toNat ([], w) ⟨⟨by show 0 ≤ w; omega, by simp; omega, rfl⟩, by simp [sizes], trivial⟩
      obtain ⟨_, e3, ⟨L, j⟩, rfl, hL1, hL2, hL3⟩ := hloop
      dsimp only at hL1 hL2 hL3
      refine ⟨.mk u n (L ++ i), t2, ?_, ⟨?_, ou, on, Oks_app hL3 oi⟩, ht2⟩
      · rw [e3, kb_some, stpK_go]
        dsimp only
        rw [appK_some (by omega), kb_some]
      · rw [size_mk, sizes_app, List.length_append]; omega
  obtain ⟨y, t', h1, h2, h3⟩ := hB
  exact ⟨y, t', g_make_BentTrust h1, h2, h3⟩
theorem wee_fine {m : Nat} {x : Tru} (h : x.Wee m) (hm : m < 1073741824) : x.Fine := ⟨by have := h.1; omega, h.2⟩
theorem Tru.Wee.mono {a b : Nat} {x : Tru} (h : x.Wee a) (hb : a ≤ b) : x.Wee b := ⟨Nat.le_trans h.1 hb, h.2⟩
end Go.Am

/-
How trustquorumlaw03.NotationTexts runs, as a pure function.
-/
namespace Go.Am
open Go Go.Proofs
set_option linter.unusedVariables false
set_option linter.unusedSimpArgs false
set_option maxRecDepth 4000
set_option maxHeartbeats 4000000
noncomputable def B_law03_NotationTexts_0 (pb11_6_0_0 : Int) (pb11_6_1_0 : (List Int)) (pb11_6_2_0 : (List Tru)) (e13 : Tru) (p12_0 : Int) (y8 : (Tru × S_trustquorummake_Tape)) (y10 : (Tru × S_trustquorummake_Tape)) (p1 : Tru) (i12 : Nat) : Option Bool :=
  kb (G_ref02_Valid e13) fun y20 =>
  cnd (decide (p12_0 = 0)) (
    cnd (decide (y20 = 0)) (
      kb (G_ref02_Same e13 (Tru.mk pb11_6_0_0 pb11_6_1_0 pb11_6_2_0)) fun y24 =>
      some (!y24)) (
      some true)) (
    cnd (decide (y20 = 0)) (
      some true) (
      some false))
def J_law03_NotationTexts_0 (pb11_6_0_0 : Int) (pb11_6_1_0 : (List Int)) (pb11_6_2_0 : (List Tru)) (e13 : Tru) (p12_0 : Int) (y8 : (Tru × S_trustquorummake_Tape)) (y10 : (Tru × S_trustquorummake_Tape)) (p1 : Tru) (i12 : Nat) (q : St) : Prop := q (.t 12) = (i64 p12_0) ∧ (∃ v : AV, q (.t 28) = v ∧ (ownAt q v (.site 5 5 0) false 3 ([y8.1, y10.1, p1] : List Tru).length (encTs ([y8.1, y10.1, p1] : List Tru)))) ∧ q (.t 29) = (i64 3) ∧ q (.t 30) = (i64 (i12 : Int)) ∧ (∃ (g : Nat), q (.t 10) = .ptr (.site 11 6 0) g 0 ∧ q (.i (.site 11 6 0)) = .box g [(i64 pb11_6_0_0), (.pv (.sl pb11_6_1_0.length (ints pb11_6_1_0))), (.pv (.sl pb11_6_2_0.length (encTs pb11_6_2_0)))]) ∧ (∃ (g : Nat), q (.t 8) = .ptr (.site 7 2 0) g 0 ∧ q (.i (.site 7 2 0)) = .box g [(i64 e13.thr), (.pv (.sl e13.nodes.length (ints e13.nodes))), (.pv (.sl e13.inner.length (encTs e13.inner)))])
def Q_law03_NotationTexts_0 (pb11_6_0_0 : Int) (pb11_6_1_0 : (List Int)) (pb11_6_2_0 : (List Tru)) (e13 : Tru) (p12_0 : Int) (y8 : (Tru × S_trustquorummake_Tape)) (y10 : (Tru × S_trustquorummake_Tape)) (p1 : Tru) (i12 : Nat) (o61_0 : Bool) (q : St) : Prop := (∃ v : AV, q (.t 28) = v ∧ (ownAt q v (.site 5 5 0) false 3 ([y8.1, y10.1, p1] : List Tru).length (encTs ([y8.1, y10.1, p1] : List Tru)))) ∧ q (.t 29) = (i64 3) ∧ q (.t 30) = (i64 (i12 : Int)) ∧ q (.t 61) = (bl o61_0)
theorem P_law03_NotationTexts_0 {pb11_6_0_0 : Int} {pb11_6_1_0 : (List Int)} {pb11_6_2_0 : (List Tru)} {e13 : Tru} {p12_0 : Int} {y8 : (Tru × S_trustquorummake_Tape)} {y10 : (Tru × S_trustquorummake_Tape)} {p1 : Tru} {i12 : Nat} {cc : Code} (hcc : cc = (Code.fst (Code.snd (Code.snd (Code.snd (Code.snd (Code.fst (Code.fst (Code.snd (Code.snd (Code.fst (Code.fst (Code.snd (Code.fst (Code.snd (Code.snd (Code.snd (Code.snd ((Tryd.f3.body).getD .skip))))))))))))))))))) {s : St} {z : Option (Ex × St)} (hz : C Tryd.prog cf cc s = z) {r : Bool} (hI : J_law03_NotationTexts_0 pb11_6_0_0 pb11_6_1_0 pb11_6_2_0 e13 p12_0 y8 y10 p1 i12 s) (hB : B_law03_NotationTexts_0 pb11_6_0_0 pb11_6_1_0 pb11_6_2_0 e13 p12_0 y8 y10 p1 i12 = some r) : Res z (postG (fun a q => Q_law03_NotationTexts_0 pb11_6_0_0 pb11_6_1_0 pb11_6_2_0 e13 p12_0 y8 y10 p1 i12 a q) r) := by
  subst hcc
  subst hz
  simp only [J_law03_NotationTexts_0] at hI
  obtain ⟨q1, ⟨v2, q2, a2⟩, q3, q4, ⟨g6, q5, q6⟩, ⟨g8, q7, q8⟩⟩ := hI
  simp only [Code.fst, Code.snd, Tryd.f3, Option.getD_some]
  unfold B_law03_NotationTexts_0 at hB
  rcases a2 with ⟨ga2, rfl, oa2⟩
  obtain ⟨y20, k21, hB⟩ := kb_inv hB
  replace k21 := run_ref02_Valid k21
  try simp only [Int.cast_ofNat_Int, Int.natCast_zero, List.length_cons, List.length_nil, List.nil_append, List.cons_append, Nat.zero_add, Nat.reduceAdd, Tru.thr_mk, Tru.nodes_mk, Tru.inner_mk, ints_cons, ints_nil, encTs_cons, encTs_nil, es_str_cons, es_str_nil] at k21
  try dsimp only at hB
  rcases cnd_inv hB with ⟨c22, hB⟩ | ⟨c22, hB⟩
  · have pc22 := eq_true (of_decide_eq_true c22)
    rcases cnd_inv hB with ⟨c23, hB⟩ | ⟨c23, hB⟩
    · have pc23 := eq_true (of_decide_eq_true c23)
      obtain ⟨y24, k25, hB⟩ := kb_inv hB
      replace k25 := run_ref02_Same k25
      try simp only [Int.cast_ofNat_Int, Int.natCast_zero, List.length_cons, List.length_nil, List.nil_append, List.cons_append, Nat.zero_add, Nat.reduceAdd, Tru.thr_mk, Tru.nodes_mk, Tru.inner_mk, ints_cons, ints_nil, encTs_cons, encTs_nil, es_str_cons, es_str_nil] at k25
      try dsimp only at hB
      obtain rfl := Option.some.inj hB
      try simp -implicitDefEqProofs [-getElem?_pos, -Int.ofNat_lt, -Int.ofNat_le, -Int.natCast_eq_zero, -Int.natCast_pos, -List.length_eq_zero_iff, List.getElem?_cons_zero, List.getElem?_cons_succ, List.getElem?_nil, q1, q2, q3, q4, q5, q6, q7, q8, oa2, k21, c22, pc22, c23, pc23, k25]
      refine Res.g ?_
      simp -implicitDefEqProofs [-getElem?_pos, -Int.ofNat_lt, -Int.ofNat_le, -Int.natCast_eq_zero, -Int.natCast_pos, -List.length_eq_zero_iff, List.getElem?_cons_zero, List.getElem?_cons_succ, List.getElem?_nil, and_assoc, Q_law03_NotationTexts_0, ownAt, q1, q2, q3, q4, q5, q6, q7, q8, oa2, k21, c22, pc22, c23, pc23, k25]
    · have pc23 := eq_false (of_decide_eq_false c23)
      obtain rfl := Option.some.inj hB
      try simp -implicitDefEqProofs [-getElem?_pos, -Int.ofNat_lt, -Int.ofNat_le, -Int.natCast_eq_zero, -Int.natCast_pos, -List.length_eq_zero_iff, List.getElem?_cons_zero, List.getElem?_cons_succ, List.getElem?_nil, q1, q2, q3, q4, q5, q6, q7, q8, oa2, k21, c22, pc22, c23, pc23]
      refine Res.g ?_
      simp -implicitDefEqProofs [-getElem?_pos, -Int.ofNat_lt, -Int.ofNat_le, -Int.natCast_eq_zero, -Int.natCast_pos, -List.length_eq_zero_iff, List.getElem?_cons_zero, List.getElem?_cons_succ, List.getElem?_nil, and_assoc, Q_law03_NotationTexts_0, ownAt, q1, q2, q3, q4, q5, q6, q7, q8, oa2, k21, c22, pc22, c23, pc23]
  · have pc22 := eq_false (of_decide_eq_false c22)
    rcases cnd_inv hB with ⟨c26, hB⟩ | ⟨c26, hB⟩
    · have pc26 := eq_true (of_decide_eq_true c26)
      obtain rfl := Option.some.inj hB
      try simp -implicitDefEqProofs [-getElem?_pos, -Int.ofNat_lt, -Int.ofNat_le, -Int.natCast_eq_zero, -Int.natCast_pos, -List.length_eq_zero_iff, List.getElem?_cons_zero, List.getElem?_cons_succ, List.getElem?_nil, q1, q2, q3, q4, q5, q6, q7, q8, oa2, k21, c22, pc22, c26, pc26]
      refine Res.g ?_
      simp -implicitDefEqProofs [-getElem?_pos, -Int.ofNat_lt, -Int.ofNat_le, -Int.natCast_eq_zero, -Int.natCast_pos, -List.length_eq_zero_iff, List.getElem?_cons_zero, List.getElem?_cons_succ, List.getElem?_nil, and_assoc, Q_law03_NotationTexts_0, ownAt, q1, q2, q3, q4, q5, q6, q7, q8, oa2, k21, c22, pc22, c26, pc26]
    · have pc26 := eq_false (of_decide_eq_false c26)
      obtain rfl := Option.some.inj hB
      try simp -implicitDefEqProofs [-getElem?_pos, -Int.ofNat_lt, -Int.ofNat_le, -Int.natCast_eq_zero, -Int.natCast_pos, -List.length_eq_zero_iff, List.getElem?_cons_zero, List.getElem?_cons_succ, List.getElem?_nil, q1, q2, q3, q4, q5, q6, q7, q8, oa2, k21, c22, pc22, c26, pc26]
      refine Res.g ?_
      simp -implicitDefEqProofs [-getElem?_pos, -Int.ofNat_lt, -Int.ofNat_le, -Int.natCast_eq_zero, -Int.natCast_pos, -List.length_eq_zero_iff, List.getElem?_cons_zero, List.getElem?_cons_succ, List.getElem?_nil, and_assoc, Q_law03_NotationTexts_0, ownAt, q1, q2, q3, q4, q5, q6, q7, q8, oa2, k21, c22, pc22, c26, pc26]
noncomputable def B_law03_NotationTexts_1 (y8 : (Tru × S_trustquorummake_Tape)) (y10 : (Tru × S_trustquorummake_Tape)) (p1 : Tru) (i12 : Nat) (e13 : Tru) : Option (Stp Unit Unit) :=
  kb (G_notation_Text e13) fun y13 =>
  kb (G_ref03_Text e13) fun y15 =>
  cnd (y13 == y15) (
    kb (G_notation_Parse y13) fun y18 =>
    kb (B_law03_NotationTexts_0 y18.1.thr y18.1.nodes y18.1.inner e13 y18.2.2 y8 y10 p1 i12) fun z27 =>
    cnd z27 (
      some (.ret ())) (
      some (.go ()))) (
    some (.ret ()))
def I_law03_NotationTexts_1 (y8 : (Tru × S_trustquorummake_Tape)) (y10 : (Tru × S_trustquorummake_Tape)) (p1 : Tru) (i12 : Nat) (q : St) : Prop := (∃ v : AV, q (.t 28) = v ∧ (ownAt q v (.site 5 5 0) false 3 ([y8.1, y10.1, p1] : List Tru).length (encTs ([y8.1, y10.1, p1] : List Tru)))) ∧ q (.t 29) = (i64 3) ∧ q (.t 30) = (i64 (i12 : Int))
def Q_law03_NotationTexts_1 (y8 : (Tru × S_trustquorummake_Tape)) (y10 : (Tru × S_trustquorummake_Tape)) (p1 : Tru) (q : St) : Prop := True
def QR_law03_NotationTexts_1 (y8 : (Tru × S_trustquorummake_Tape)) (y10 : (Tru × S_trustquorummake_Tape)) (p1 : Tru) (q : St) : Prop := q (.t 4) = (bl false)
theorem Pb_law03_NotationTexts_1 {y8 : (Tru × S_trustquorummake_Tape)} {y10 : (Tru × S_trustquorummake_Tape)} {p1 : Tru} {i12 : Nat} {e13 : Tru} {q : St} {r : (Stp Unit Unit)} (hx : ([y8.1, y10.1, p1] : List Tru)[i12]? = some e13) (hi : i12 < ([y8.1, y10.1, p1] : List Tru).length) (hn : ([y8.1, y10.1, p1] : List Tru).length < 4611686018427387904) (hI : I_law03_NotationTexts_1 y8 y10 p1 i12 q) (hB : B_law03_NotationTexts_1 y8 y10 p1 i12 e13 = some r) : Res (C Tryd.prog cf (Code.fst (Code.fst (Code.snd (Code.fst (Code.snd (Code.snd (Code.snd (Code.snd ((Tryd.f3.body).getD .skip))))))))) q) (postB 0 (fun a q => I_law03_NotationTexts_1 y8 y10 p1 (i12 + 1) q) (fun a q => Q_law03_NotationTexts_1 y8 y10 p1 q) (fun a q => QR_law03_NotationTexts_1 y8 y10 p1 q) r) := by
  have hi3 : (i12 : Int) < 3 := by simp only [List.length_cons, List.length_nil] at hi; omega
  have hi2 := decide_eq_true hi3
  have hi4 := idx_step hi hn
  have hi5 := ne_of_get hx
  simp only [I_law03_NotationTexts_1] at hI
  obtain ⟨⟨v1, q1, a1⟩, q2, q3⟩ := hI
  simp only [Code.fst, Code.snd, Tryd.f3, Option.getD_some]
  generalize hc0 : Code.region 12 _ _ = cc0
  generalize hr7 : Code.region 7 _ _ = rr7
  generalize hr9 : Code.region 9 _ _ = rr9
  generalize hr11 : Code.region 11 _ _ = rr11
  unfold B_law03_NotationTexts_1 at hB
  rcases a1 with ⟨ga1, rfl, oa1⟩
  have l12 := encTs_ld hx
  try simp only [Int.cast_ofNat_Int, Int.natCast_zero, List.length_cons, List.length_nil, List.nil_append, List.cons_append, Nat.zero_add, Nat.reduceAdd, Tru.thr_mk, Tru.nodes_mk, Tru.inner_mk, ints_cons, ints_nil, encTs_cons, encTs_nil, es_str_cons, es_str_nil] at l12
  obtain ⟨y13, k14, hB⟩ := kb_inv hB
  replace k14 := run_notation_Text k14
  try simp only [Int.cast_ofNat_Int, Int.natCast_zero, List.length_cons, List.length_nil, List.nil_append, List.cons_append, Nat.zero_add, Nat.reduceAdd, Tru.thr_mk, Tru.nodes_mk, Tru.inner_mk, ints_cons, ints_nil, encTs_cons, encTs_nil, es_str_cons, es_str_nil] at k14
  try dsimp only at hB
  obtain ⟨y15, k16, hB⟩ := kb_inv hB
  replace k16 := run_ref03_Text k16
  try simp only [Int.cast_ofNat_Int, Int.natCast_zero, List.length_cons, List.length_nil, List.nil_append, List.cons_append, Nat.zero_add, Nat.reduceAdd, Tru.thr_mk, Tru.nodes_mk, Tru.inner_mk, ints_cons, ints_nil, encTs_cons, encTs_nil, es_str_cons, es_str_nil] at k16
  try dsimp only at hB
  rcases cnd_inv hB with ⟨c17, hB⟩ | ⟨c17, hB⟩
  · obtain ⟨y18, k19, hB⟩ := kb_inv hB
    replace k19 := run_notation_Parse k19
    try simp only [Int.cast_ofNat_Int, Int.natCast_zero, List.length_cons, List.length_nil, List.nil_append, List.cons_append, Nat.zero_add, Nat.reduceAdd, Tru.thr_mk, Tru.nodes_mk, Tru.inner_mk, ints_cons, ints_nil, encTs_cons, encTs_nil, es_str_cons, es_str_nil] at k19
    try dsimp only at hB
    subst hr7
    subst hr9
    subst hr11
    try simp -implicitDefEqProofs [-getElem?_pos, -Int.ofNat_lt, -Int.ofNat_le, -Int.natCast_eq_zero, -Int.natCast_pos, -List.length_eq_zero_iff, List.getElem?_cons_zero, List.getElem?_cons_succ, List.getElem?_nil, q1, q2, q3, oa1, hx, hi2, hi3, hi4, hi5, l12, k14, k16, c17, k19]
    generalize hz0 : C Tryd.prog cf cc0 _ = z0
    obtain ⟨z27, hB1, hB⟩ := kb_inv hB
    have hJ := P_law03_NotationTexts_0 (hc0.symm.trans (by kernel_rfl)) hz0 (by simp -implicitDefEqProofs [-getElem?_pos, -Int.ofNat_lt, -Int.ofNat_le, -Int.natCast_eq_zero, -Int.natCast_pos, -List.length_eq_zero_iff, List.getElem?_cons_zero, List.getElem?_cons_succ, List.getElem?_nil, and_assoc, J_law03_NotationTexts_0, ownAt, q1, q2, q3, oa1, hx, hi2, hi3, hi4, hi5, l12, k14, k16, c17, k19]) hB1
    obtain ⟨e0, s0, rfl, hq⟩ := hJ.open
    clear hB1
    obtain ⟨rfl, hq⟩ := hq
    simp only [Q_law03_NotationTexts_0] at hq
    obtain ⟨⟨v27_1, q27_1, a27_1⟩, q27_2, q27_3, q27_4⟩ := hq
    rcases a27_1 with ⟨ga27_1, rfl, oa27_1⟩
    rcases cnd_inv hB with ⟨c28, hB⟩ | ⟨c28, hB⟩
    · obtain rfl := Option.some.inj hB
      try simp -implicitDefEqProofs [-getElem?_pos, -Int.ofNat_lt, -Int.ofNat_le, -Int.natCast_eq_zero, -Int.natCast_pos, -List.length_eq_zero_iff, List.getElem?_cons_zero, List.getElem?_cons_succ, List.getElem?_nil, q27_1, q27_2, q27_3, q27_4, oa27_1, hx, hi2, hi3, hi4, hi5, l12, k14, k16, c17, k19, c28]
      refine Res.bret ?_
      simp -implicitDefEqProofs [-getElem?_pos, -Int.ofNat_lt, -Int.ofNat_le, -Int.natCast_eq_zero, -Int.natCast_pos, -List.length_eq_zero_iff, List.getElem?_cons_zero, List.getElem?_cons_succ, List.getElem?_nil, and_assoc, QR_law03_NotationTexts_1, ownAt, q27_1, q27_2, q27_3, q27_4, oa27_1, hx, hi2, hi3, hi4, hi5, l12, k14, k16, c17, k19, c28]
    · obtain rfl := Option.some.inj hB
      try simp -implicitDefEqProofs [-getElem?_pos, -Int.ofNat_lt, -Int.ofNat_le, -Int.natCast_eq_zero, -Int.natCast_pos, -List.length_eq_zero_iff, List.getElem?_cons_zero, List.getElem?_cons_succ, List.getElem?_nil, q27_1, q27_2, q27_3, q27_4, oa27_1, hx, hi2, hi3, hi4, hi5, l12, k14, k16, c17, k19, c28]
      refine Res.bgo ?_
      simp -implicitDefEqProofs [-getElem?_pos, -Int.ofNat_lt, -Int.ofNat_le, -Int.natCast_eq_zero, -Int.natCast_pos, -List.length_eq_zero_iff, List.getElem?_cons_zero, List.getElem?_cons_succ, List.getElem?_nil, and_assoc, I_law03_NotationTexts_1, ownAt, q27_1, q27_2, q27_3, q27_4, oa27_1, hx, hi2, hi3, hi4, hi5, l12, k14, k16, c17, k19, c28]
  · obtain rfl := Option.some.inj hB
    subst hr7
    subst hr9
    try simp -implicitDefEqProofs [-getElem?_pos, -Int.ofNat_lt, -Int.ofNat_le, -Int.natCast_eq_zero, -Int.natCast_pos, -List.length_eq_zero_iff, List.getElem?_cons_zero, List.getElem?_cons_succ, List.getElem?_nil, q1, q2, q3, oa1, hx, hi2, hi3, hi4, hi5, l12, k14, k16, c17]
    refine Res.bret ?_
    simp -implicitDefEqProofs [-getElem?_pos, -Int.ofNat_lt, -Int.ofNat_le, -Int.natCast_eq_zero, -Int.natCast_pos, -List.length_eq_zero_iff, List.getElem?_cons_zero, List.getElem?_cons_succ, List.getElem?_nil, and_assoc, QR_law03_NotationTexts_1, ownAt, q1, q2, q3, oa1, hx, hi2, hi3, hi4, hi5, l12, k14, k16, c17]
theorem Pe_law03_NotationTexts_1 {y8 : (Tru × S_trustquorummake_Tape)} {y10 : (Tru × S_trustquorummake_Tape)} {p1 : Tru} {q : St} (hI : I_law03_NotationTexts_1 y8 y10 p1 ([y8.1, y10.1, p1] : List Tru).length q) : Res (C Tryd.prog cf (Code.fst (Code.fst (Code.snd (Code.fst (Code.snd (Code.snd (Code.snd (Code.snd ((Tryd.f3.body).getD .skip))))))))) q) fun e q' => e = .exit 0 ∧ Q_law03_NotationTexts_1 y8 y10 p1 q' := by
  simp only [I_law03_NotationTexts_1] at hI
  obtain ⟨⟨v1, q1, a1⟩, q2, q3⟩ := hI
  simp only [Code.fst, Code.snd, Tryd.f3, Option.getD_some]
  rcases a1 with ⟨ga1, rfl, oa1⟩
  simp -implicitDefEqProofs [-getElem?_pos, -Int.ofNat_lt, -Int.ofNat_le, -Int.natCast_eq_zero, -Int.natCast_pos, -List.length_eq_zero_iff, List.getElem?_cons_zero, List.getElem?_cons_succ, List.getElem?_nil, q1, q2, q3, oa1]
  refine Res.x ?_
  simp -implicitDefEqProofs [-getElem?_pos, -Int.ofNat_lt, -Int.ofNat_le, -Int.natCast_eq_zero, -Int.natCast_pos, -List.length_eq_zero_iff, List.getElem?_cons_zero, List.getElem?_cons_succ, List.getElem?_nil, and_assoc, Q_law03_NotationTexts_1, ownAt, q1, q2, q3, oa1]
theorem P_law03_NotationTexts_1 {y8 : (Tru × S_trustquorummake_Tape)} {y10 : (Tru × S_trustquorummake_Tape)} {p1 : Tru} {cc : Code} (hcc : cc = .block 0 (.loop (Code.fst (Code.fst (Code.snd (Code.fst (Code.snd (Code.snd (Code.snd (Code.snd ((Tryd.f3.body).getD .skip))))))))))) {s : St} {z : Option (Ex × St)} (hz : C Tryd.prog cf cc s = z) {r : (Stp Unit Unit)} (hn : ([y8.1, y10.1, p1] : List Tru).length < 4611686018427387904) (hI : I_law03_NotationTexts_1 y8 y10 p1 0 s) (hB : loopL (fun i a x => B_law03_NotationTexts_1 y8 y10 p1 i x) 0 () ([y8.1, y10.1, p1] : List Tru) = some r) : Res z (postS (fun a q => Q_law03_NotationTexts_1 y8 y10 p1 q) (fun a q => QR_law03_NotationTexts_1 y8 y10 p1 q) r) := by
  subst hcc
  exact loopL_sim (I := fun i a q => I_law03_NotationTexts_1 y8 y10 p1 i q) (Q := (fun a q => Q_law03_NotationTexts_1 y8 y10 p1 q)) (QR := (fun a q => QR_law03_NotationTexts_1 y8 y10 p1 q)) (fun i x a q r hx hi h hB => Pb_law03_NotationTexts_1 hx hi hn h hB) (fun a q h => Pe_law03_NotationTexts_1 h) hI hz hB
noncomputable def B_law03_NotationTexts (p0 : (List Int)) (p1 : Tru) : Option Bool :=
  kb (G_make_SmallTrust p1) fun y1 =>
  cnd y1 (
    kb (G_make_New p0) fun y4 =>
    kb (G_make_Tape_Range y4 1 10) fun y6 =>
    kb (G_make_Trust y6.2 y6.1 3) fun y8 =>
    kb (G_make_BentTrust y8.2 y8.1) fun y10 =>
    kb (smallK ([y8.1, y10.1, p1] : List Tru)) fun _ =>
    kb (loopL (fun i a x => B_law03_NotationTexts_1 y8 y10 p1 i x) 0 () ([y8.1, y10.1, p1] : List Tru)) fun o => stpK o (fun z29 =>
      kb (G_law03_awake ) fun y30 =>
      some y30) (fun z29r =>
      some false)) (
    kb (G_law03_awake ) fun y32 =>
    some y32)
theorem sim_law03_NotationTexts {p0 : (List Int)} {p1 : Tru} {r : Bool} (hB : B_law03_NotationTexts p0 p1 = some r) : R 3 [(.pv (.sl p0.length (ints p0))), (.agg [(i64 p1.thr), (.pv (.sl p1.nodes.length (ints p1.nodes))), (.pv (.sl p1.inner.length (encTs p1.inner)))])] [] = some ((bl r), [], []) := by
  rw [R_eq _ _ _ fn_law03_NotationTexts]
  simp only [Code.fst, Code.snd, Tryd.f3, Option.getD_some]
  generalize hc1 : Code.block 0 _ = cc1
  generalize hr4 : Code.region 4 _ _ = rr4
  generalize hr5 : Code.region 5 _ _ = rr5
  unfold B_law03_NotationTexts at hB
  obtain ⟨y1, k2, hB⟩ := kb_inv hB
  replace k2 := run_make_SmallTrust k2
  try simp only [Int.cast_ofNat_Int, Int.natCast_zero, List.length_cons, List.length_nil, List.nil_append, List.cons_append, Nat.zero_add, Nat.reduceAdd, Tru.thr_mk, Tru.nodes_mk, Tru.inner_mk, ints_cons, ints_nil, encTs_cons, encTs_nil, es_str_cons, es_str_nil] at k2
  try dsimp only at hB
  rcases cnd_inv hB with ⟨c3, hB⟩ | ⟨c3, hB⟩
  · obtain ⟨y4, k5, hB⟩ := kb_inv hB
    replace k5 := run_make_New k5
    try simp only [Int.cast_ofNat_Int, Int.natCast_zero, List.length_cons, List.length_nil, List.nil_append, List.cons_append, Nat.zero_add, Nat.reduceAdd, Tru.thr_mk, Tru.nodes_mk, Tru.inner_mk, ints_cons, ints_nil, encTs_cons, encTs_nil, es_str_cons, es_str_nil, c3] at k5
    try dsimp only at hB
    obtain ⟨y6, k7, hB⟩ := kb_inv hB
    replace k7 := run_make_Tape_Range k7
    try simp only [Int.cast_ofNat_Int, Int.natCast_zero, List.length_cons, List.length_nil, List.nil_append, List.cons_append, Nat.zero_add, Nat.reduceAdd, Tru.thr_mk, Tru.nodes_mk, Tru.inner_mk, ints_cons, ints_nil, encTs_cons, encTs_nil, es_str_cons, es_str_nil, c3] at k7
    try dsimp only at hB
    obtain ⟨y8, k9, hB⟩ := kb_inv hB
    replace k9 := run_make_Trust k9
    try simp only [Int.cast_ofNat_Int, Int.natCast_zero, List.length_cons, List.length_nil, List.nil_append, List.cons_append, Nat.zero_add, Nat.reduceAdd, Tru.thr_mk, Tru.nodes_mk, Tru.inner_mk, ints_cons, ints_nil, encTs_cons, encTs_nil, es_str_cons, es_str_nil, c3] at k9
    try dsimp only at hB
    obtain ⟨y10, k11, hB⟩ := kb_inv hB
    replace k11 := run_make_BentTrust k11
    try simp only [Int.cast_ofNat_Int, Int.natCast_zero, List.length_cons, List.length_nil, List.nil_append, List.cons_append, Nat.zero_add, Nat.reduceAdd, Tru.thr_mk, Tru.nodes_mk, Tru.inner_mk, ints_cons, ints_nil, encTs_cons, encTs_nil, es_str_cons, es_str_nil, c3] at k11
    try dsimp only at hB
    subst hr4
    subst hr5
    try simp -implicitDefEqProofs [-getElem?_pos, -Int.ofNat_lt, -Int.ofNat_le, -Int.natCast_eq_zero, -Int.natCast_pos, -List.length_eq_zero_iff, List.getElem?_cons_zero, List.getElem?_cons_succ, List.getElem?_nil, k2, c3, k5, k7, k9, k11]
    rw [drawK_ok _ _ _ (by kernel_rfl)]
    simp -implicitDefEqProofs [-getElem?_pos, -Int.ofNat_lt, -Int.ofNat_le, -Int.natCast_eq_zero, -Int.natCast_pos, -List.length_eq_zero_iff, List.getElem?_cons_zero, List.getElem?_cons_succ, List.getElem?_nil, k2, c3, k5, k7, k9, k11]
    generalize hz1 : C Tryd.prog cf cc1 _ = z1
    obtain ⟨_, hsm, hB⟩ := kb_inv hB
    obtain ⟨o, hB1, hB⟩ := kb_inv hB
    have hJ := P_law03_NotationTexts_1 (hc1.symm.trans (by kernel_rfl)) hz1 (smallK_inv hsm) (by simp -implicitDefEqProofs [-getElem?_pos, -Int.ofNat_lt, -Int.ofNat_le, -Int.natCast_eq_zero, -Int.natCast_pos, -List.length_eq_zero_iff, List.getElem?_cons_zero, List.getElem?_cons_succ, List.getElem?_nil, and_assoc, I_law03_NotationTexts_1, ownAt, k2, c3, k5, k7, k9, k11]) hB1
    obtain ⟨e1, s1, rfl, hq⟩ := hJ.open
    clear hB1
    rcases o with z29 | ⟨_, _⟩ | z29r
    · simp only [stpK_go] at hB
      obtain ⟨rfl, hq⟩ := hq
      simp only [Q_law03_NotationTexts_1] at hq
      obtain ⟨y30, k31, hB⟩ := kb_inv hB
      replace k31 := run_law03_awake k31
      try simp only [Int.cast_ofNat_Int, Int.natCast_zero, List.length_cons, List.length_nil, List.nil_append, List.cons_append, Nat.zero_add, Nat.reduceAdd, Tru.thr_mk, Tru.nodes_mk, Tru.inner_mk, ints_cons, ints_nil, encTs_cons, encTs_nil, es_str_cons, es_str_nil, c3] at k31
      try dsimp only at hB
      obtain rfl := Option.some.inj hB
      simp -implicitDefEqProofs [-getElem?_pos, -Int.ofNat_lt, -Int.ofNat_le, -Int.natCast_eq_zero, -Int.natCast_pos, -List.length_eq_zero_iff, List.getElem?_cons_zero, List.getElem?_cons_succ, List.getElem?_nil, k2, c3, k5, k7, k9, k11, k31]
    · exact hq.elim
    · simp only [stpK_ret] at hB
      obtain ⟨rfl, hq⟩ := hq
      simp only [QR_law03_NotationTexts_1] at hq
      have q29_r1 := hq
      obtain rfl := Option.some.inj hB
      simp -implicitDefEqProofs [-getElem?_pos, -Int.ofNat_lt, -Int.ofNat_le, -Int.natCast_eq_zero, -Int.natCast_pos, -List.length_eq_zero_iff, List.getElem?_cons_zero, List.getElem?_cons_succ, List.getElem?_nil, q29_r1, k2, c3, k5, k7, k9, k11]
  · obtain ⟨y32, k33, hB⟩ := kb_inv hB
    replace k33 := run_law03_awake k33
    try simp only [Int.cast_ofNat_Int, Int.natCast_zero, List.length_cons, List.length_nil, List.nil_append, List.cons_append, Nat.zero_add, Nat.reduceAdd, Tru.thr_mk, Tru.nodes_mk, Tru.inner_mk, ints_cons, ints_nil, encTs_cons, encTs_nil, es_str_cons, es_str_nil, c3] at k33
    try dsimp only at hB
    obtain rfl := Option.some.inj hB
    simp -implicitDefEqProofs [-getElem?_pos, -Int.ofNat_lt, -Int.ofNat_le, -Int.natCast_eq_zero, -Int.natCast_pos, -List.length_eq_zero_iff, List.getElem?_cons_zero, List.getElem?_cons_succ, List.getElem?_nil, k2, c3, k33]
theorem g_law03_NotationTexts {p0 : (List Int)} {p1 : Tru} {r : Bool} (hB : B_law03_NotationTexts p0 p1 = some r) : G_law03_NotationTexts p0 p1 = some r := dec_of (fun a b h => by rcases a with a0_; rcases b with b0_; simp at h; simp [*]) (sim_law03_NotationTexts hB)
end Go.Am

/-
The plain law of NotationTexts.
-/
namespace Go.Am
open Go
set_option linter.unusedVariables false
set_option linter.unusedSimpArgs false

theorem parse_quest : parseV [63] = (.mk 0 [] [], 0, 2) := by
  have h : pTop ([63] : List UInt8).length (skipB [63]) = (.mk 0 [] [], false, [63]) := rfl
  unfold parseV
  rw [if_neg (by simp), h, if_neg (by simp)]
  rfl
theorem texts_step (y8 y10 : Tru × Tape) (p1 : Tru) (i : Nat) {e : Tru} (h : e.Fine) : B_law03_NotationTexts_1 y8 y10 p1 i e = some (.go ()) := by
  unfold B_law03_NotationTexts_1
  rw [s_notation_Text h, kb_some, s_ref03_Text h, kb_some, beq_self_eq_true, cnd_true, s_Parse, kb_some]
  unfold B_law03_NotationTexts_0
  rw [s_ref02_ValidE h, kb_some]
  by_cases c : valE e = 0
  · have hv := (valE_ok h).1 c
    have et : textV e = txtT e := if_pos c
    obtain ⟨v, e1, hvv⟩ := s_ref02_Same e h e
    rw [et, parse_text hv h]
    dsimp only
    simp only [c, decide_true, cnd_true]
    rw [show (Tru.mk e.thr e.nodes e.inner) = e from e.eta, e1, kb_some, kb_some, hvv.2 rfl]
    rfl
  · have et : textV e = [63] := if_neg c
    rw [et, parse_quest]
    have h2 : ¬ (2 : Int) = 0 := by omega
    simp only [c, h2, decide_false, cnd_false, kb_some]
theorem law_NotationTexts (l : List Int) (hl : ∀ k ∈ l, in64 k) (raw : Tru) (hr : raw.Ok ∧ raw.Slim) : B_law03_NotationTexts l raw = some true := by
  obtain ⟨b, e0, hb⟩ := s_SmallTrust hr.2
  unfold B_law03_NotationTexts
  rw [e0, kb_some, s_awake03]
  cases b
  · rw [cnd_false, kb_some]
  rw [cnd_true]
  have hrf : raw.Fine := ⟨by have := hb rfl; omega, hr.1⟩
  obtain ⟨t0, e1, ht0⟩ := s_New hl
  obtain ⟨m, t1, e2, hm, ht1⟩ := s_Range ht0 (a := 1) (b := 10) (by omega) (by omega) (by omega)
  obtain ⟨x, t2, e3, ⟨hv, hf, _⟩, ht2⟩ := s_mkTrust m hm.1 hm.2 3 (by omega) t1 ht1
  obtain ⟨y, t3, e4, hy, ht3⟩ := s_BentTrust x 200 ⟨(val_good hv).2, hf.2⟩ (by omega) t2 ht2
  have hyf : y.Fine := wee_fine hy (by omega)
  rw [e1, kb_some, e2, kb_some]
  dsimp only
  rw [e3, kb_some]
  dsimp only
  rw [e4, kb_some]
  dsimp only
  rw [smallK_some (by simp), kb_some]
  have hloop : loopL (fun i (a : Unit) z => B_law03_NotationTexts_1 (x, t2) (y, t3) raw i z) 0 () [x, y, raw] = some (.go ()) := by
    simp only [loopL, texts_step _ _ _ _ hf, texts_step _ _ _ _ hyf, texts_step _ _ _ _ hrf, kb_some]
  rw [hloop, kb_some, stpK_go, kb_some]
end Go.Am

/-
Arguments of a call, opened: trusts and configurations that lie in memory, as pure values.
-/
namespace Go.Am
open Go Go.Proofs
set_option linter.unusedVariables false
set_option maxRecDepth 100000

section
variable {H : Type} {enc : TypeId × Value → H} {P : Program} {w : World} {spare : Nat → Bool} {held : Bool}

/-- cells in memory that stand for pure ones -/
def Reps (w : World) (ps : List PV) (cs : List Value) : Prop := ps.length = cs.length ∧ ∀ (j : Nat) p v, ps[j]? = some p → cs[j]? = some v → RepP w.heap (I0 w) p v

theorem RepRow_append {h : Heap} {I : Nat → Prop} {b : Nat} : ∀ {off : Nat} {p q : List PV}, RepRow h I b off p → RepRow h I b (off + p.length) q → RepRow h I b off (p ++ q)
  | off, [], q, _, h2 => by simpa using h2
  | off, x :: p, q, h1, h2 => ⟨h1.1, RepRow_append h1.2 (by rw [show off + 1 + p.length = off + (x :: p).length by simp; omega]; exact h2)⟩

theorem addr_zero (a : Addr) : a.add 0 = a := by simp [Addr.add]
theorem addr_none (b o j : Nat) : Addr.add ⟨b, o, none⟩ j = ⟨b, o + j, none⟩ := by
  unfold Addr.add
  split
  · rename_i h; subst h; rfl
  · rfl

/-- no list in it is longer than memory -/
def Lite (P : Program) (t : TypeId) (d : DataW H) : Prop := ∀ n ∈ d.weights P t, n ≤ reachBytes
theorem lite_all {e : TypeId} : ∀ {l : List (DataW H)}, (∀ n ∈ DataW.weightsAll P e l, n ≤ reachBytes) → ∀ d ∈ l, Lite P e d
  | [], _, d, hd => by cases hd
  | x :: r, h, d, hd => by
    unfold DataW.weightsAll at h
    cases hd with
    | head => exact fun n hn => h n (List.mem_append.2 (.inl hn))
    | tail _ hd => exact lite_all (fun n hn => h n (List.mem_append.2 (.inr hn))) d hd
theorem lite_each : ∀ {ts : List TypeId} {ds : List (DataW H)}, (∀ n ∈ DataW.weightsEach P ts ds, n ≤ reachBytes) → ∀ (i : Nat) t d, ts[i]? = some t → ds[i]? = some d → Lite P t d
  | [], ds, h, i, t, d, ht, hd => by simp at ht
  | _ :: _, [], h, i, t, d, ht, hd => by simp at hd
  | t' :: ts, d' :: ds, h, i, t, d, ht, hd => by
    unfold DataW.weightsEach at h
    cases i with
    | zero =>
      simp at ht hd; subst ht; subst hd
      exact fun n hn => h n (List.mem_append.2 (.inl hn))
    | succ i => exact lite_each (fun n hn => h n (List.mem_append.2 (.inr hn))) i t d (by simpa using ht) (by simpa using hd)
theorem lite_slice {t e : TypeId} (ht : P.underlying t = some (.slice e)) {a b : List (DataW H)} (h : Lite P t (.slice a b)) : a.length * P.bytesOf e ≤ reachBytes ∧ ∀ d ∈ a, Lite P e d := by
  unfold Lite at h
  unfold DataW.weights at h
  rw [ht] at h
  simp only [List.mem_cons, List.mem_append] at h
  refine ⟨Nat.le_trans (Nat.mul_le_mul_right _ (Nat.le_add_right _ _)) (h _ (.inl rfl)), lite_all fun n hn => h n (.inr (.inl hn))⟩
theorem lite_struct {t : TypeId} {fs : Array Field} (ht : P.underlying t = some (.struct fs)) {a : List (DataW H)} (h : Lite P t (.agg a)) : ∀ (i : Nat) u d, (fs.toList.map (·.type))[i]? = some u → a[i]? = some d → Lite P u d := by
  unfold Lite at h
  unfold DataW.weights at h
  rw [ht] at h
  exact lite_each h
theorem open_slice {X : Type} (E : List X → List PV) (cell : X → List PV) {z : Nat} (hz : 0 < z) (h0 : E [] = []) (h1 : ∀ x l, E (x :: l) = cell x ++ E l) (hc : ∀ x, (cell x).length = z) (Ok : X → Prop) {t e : TypeId} {fuel : Nat} {v : Value} {x : DataW H × List MemPlace}
    (ht : P.underlying t = some (.slice e)) (hsz : P.cellsOf e = z)
    (he : ∀ n cs y, n < fuel → DataW.trod enc P w 0 spare held n e cs = some y → Lite P e y.1 → ∃ q : X, Ok q ∧ Reps w (cell q) cs)
    (h : DataW.trod enc P w 0 spare held fuel t [v] = some x) (hL : Lite P t x.1) : ∃ l : List X, ((∀ q ∈ l, Ok q) ∧ l.length * P.bytesOf e ≤ reachBytes) ∧ RepP w.heap (I0 w) (.sl l.length (E l)) v := by
  rcases DataW.trod_slice ht h with ⟨hcs, _⟩ | ⟨a, len, cap, elems, rest, n, hf, hcs, hxe, hb, hl, hm, hlen, hel, _⟩
  · obtain rfl : v = .slice none 0 0 := by simpa using hcs
    exact ⟨[], ⟨by simp, by simp⟩, none, 0, rfl, Nat.le_refl _, .inl h0⟩
  · obtain rfl : v = .slice (some a) len cap := by simpa using hcs
    rw [hsz] at hel
    rw [hxe] at hL
    obtain ⟨hL1, hL2⟩ := lite_slice ht hL
    rw [List.length_map, hlen] at hL1
    have each : ∀ i, i < len → ∃ q : X, Ok q ∧ ∀ j p, (cell q)[j]? = some p → ∃ u, w.cell? ((a.add (i * z)).add j) = some u ∧ RepP w.heap (I0 w) p u := by
      intro i hi
      have h2 := hel i hi
      rw [List.getElem?_eq_getElem (by omega), Option.bind_eq_some_iff] at h2
      obtain ⟨cs, hc1, hc2⟩ := h2
      obtain ⟨_, hcl, hcc⟩ := World.cells?_some hc1
      obtain ⟨q, hq, hr⟩ := he n cs _ (by omega) hc2 (hL2 _ (List.mem_map_of_mem (List.getElem_mem _)))
      refine ⟨q, hq, fun j p hp => ?_⟩
      have hj : j < z := by rw [← hc q]; exact (List.getElem?_eq_some_iff.1 hp).1
      have hj2 : j < cs.length := by omega
      refine ⟨cs[j], ?_, hr.2 j p _ hp (by simp [hj2])⟩
      rw [hcc j hj]
      simp [hj2]
    by_cases hlen0 : len = 0
    · subst hlen0
      exact ⟨[], ⟨by simp, by simp⟩, some a, cap, rfl, hl, .inl h0⟩
    · obtain ⟨q0, _, hq0⟩ := each 0 (by omega)
      have hcell : 0 < (cell q0).length := by rw [hc]; exact hz
      obtain ⟨u0, hu0, _⟩ := hq0 0 (cell q0)[0] (by simp [hcell])
      rw [Nat.zero_mul, addr_zero, addr_zero] at hu0
      obtain ⟨hblk, hspot⟩ := cell_block hu0
      obtain ⟨b, o, s⟩ := a
      simp only at hspot hblk
      subst hspot
      have hd : ∀ d k, k + d = len → ∃ l : List X, l.length = d ∧ (∀ q ∈ l, Ok q) ∧ RepRow w.heap (I0 w) b (o + k * z) (E l) := by
        intro d
        induction d with
        | zero => intro k _; exact ⟨[], rfl, by simp, by rw [h0]; trivial⟩
        | succ d ih =>
          intro k hk
          obtain ⟨l, hll, hlo, hlr⟩ := ih (k + 1) (by omega)
          obtain ⟨q, hq, hqr⟩ := each k (by omega)
          refine ⟨q :: l, by simp [hll], fun y hy => ?_, ?_⟩
          · cases hy with
            | head => exact hq
            | tail _ hy => exact hlo y hy
          · rw [h1]
            refine RepRow_append (.of_get fun j p hp => ?_) ?_
            · obtain ⟨u, hu, hr⟩ := hqr j p hp
              rw [addr_none, addr_none, cell?_eq] at hu
              exact ⟨u, hu, hr⟩
            · rw [hc, show o + k * z + z = o + (k + 1) * z by rw [Nat.add_mul]; omega]
              exact hlr
      obtain ⟨l, hll, hlo, hlr⟩ := hd len 0 (by omega)
      rw [Nat.zero_mul, Nat.add_zero] at hlr
      refine ⟨l, ⟨hlo, by rw [hll]; exact hL1⟩, ?_⟩
      rw [hll]
      exact ⟨some ⟨b, o, none⟩, cap, rfl, hl, .inr ⟨b, o, rfl, hblk, hlr⟩⟩
end

section
variable {H : Type} {enc : TypeId × Value → H} {w : World} {spare : Nat → Bool} {held : Bool}
theorem wf_in64 {k : Int} (h : (Lit.int .i64 k).wf = true) : in64 k := by
  simp [Lit.wf, IntKind.min, IntKind.max, IntKind.signed, IntKind.bits] at h
  unfold in64
  omega
theorem reps_one {p : PV} {v : Value} (h : RepP w.heap (I0 w) p v) : Reps w [p] [v] := by
  refine ⟨rfl, fun j q u hq hu => ?_⟩
  cases j with
  | zero => simp at hq hu; subst hq; subst hu; exact h
  | succ j => simp at hq
theorem open_intl {fuel : Nat} {v : Value} {x : DataW H × List MemPlace} (h : DataW.trod enc Tryd.prog w 0 spare held fuel 22 [v] = some x) (hL : Lite Tryd.prog 22 x.1) : ∃ l : List Int, ((∀ k ∈ l, in64 k) ∧ l.length * Tryd.prog.bytesOf 3 ≤ reachBytes) ∧ RepP w.heap (I0 w) (.sl l.length (ints l)) v :=
  open_slice ints (fun k => [.int .i64 k]) (z := 1) (by omega) rfl (fun _ _ => rfl) (fun _ => rfl) in64 Tryd.underlying22 (by kernel_rfl)
    (fun n cs y _ hy _ => by
      obtain ⟨m, rfl, _, hw⟩ := DataW.trod_int Tryd.underlying3 hy
      exact ⟨m, wf_in64 hw, reps_one rfl⟩) h hL
theorem take_one {α : Type} {l : List α} {a b c : α} (h : l.length = 3) : ∃ a b c, l = [a, b, c] := by
  match l, h with
  | [a, b, c], _ => exact ⟨a, b, c, rfl⟩
/-- a struct as an argument -/
theorem repV_agg {ps : List PV} {u : Array Value} (h : Reps w ps u.toList) : RepV w.heap (I0 w) G0 M0 (.agg (ps.map .pv)) (.agg u) :=
  ⟨u, rfl, RepL.of_get (by simpa using h.1) fun j a v ha hv => by
    simp only [List.getElem?_map, Option.map_eq_some_iff] at ha
    obtain ⟨p, hp, rfl⟩ := ha
    exact h.2 j p v hp hv⟩
/-! ### arguments -/
theorem trod_in {P : Program} {t : TypeId} {v : Value} {d : DataW H} {ps : List MemPlace} (h : DataW.Trod enc P w 0 spare held t v d ps) : ∀ x ∈ ps, x.block < w.heap.size := by
  obtain ⟨m, hm⟩ := h
  exact DataW.trod_lt m _ _ _ hm
theorem arg_intl {r : Reach} {b0 : Nat} {v : Value} {d : DataW H} {ps : List MemPlace} (hv : Value.okWide Tryd.prog w r b0 22 v) (hd : DataW.Trod enc Tryd.prog w 0 spare held 22 v d ps) (hL : Lite Tryd.prog 22 d) :
    ∃ l : List Int, (∀ k ∈ l, in64 k) ∧ RepV w.heap (I0 w) G0 M0 (.pv (.sl l.length (ints l))) v := by
  obtain ⟨a, n, c, rfl⟩ := WideShapes.okWide_slice Tryd.underlying22 hv
  obtain ⟨fuel, hf⟩ := hd
  obtain ⟨l, ⟨h1, _⟩, h2⟩ := open_intl hf hL
  exact ⟨l, h1, h2⟩
theorem arg_int {r : Reach} {b0 : Nat} {v : Value} {d : DataW H} {ps : List MemPlace} (hv : Value.okWide Tryd.prog w r b0 3 v) (hd : DataW.Trod enc Tryd.prog w 0 spare held 3 v d ps) :
    ∃ k : Int, in64 k ∧ RepV w.heap (I0 w) G0 M0 (i64 k) v := by
  obtain ⟨k, rfl⟩ := WideShapes.okWide_int Tryd.underlying3 hv
  obtain ⟨fuel, hf⟩ := hd
  obtain ⟨n, h1, _, h2⟩ := DataW.trod_int Tryd.underlying3 hf
  simp [Value.cells] at h1
  subst h1
  exact ⟨_, wf_in64 h2, rfl⟩
theorem arg_u64 {r : Reach} {b0 : Nat} {v : Value} {d : DataW H} {ps : List MemPlace} (hv : Value.okWide Tryd.prog w r b0 94 v) (hd : DataW.Trod enc Tryd.prog w 0 spare held 94 v d ps) :
    ∃ k : Int, (0 ≤ k ∧ k ≤ 18446744073709551615) ∧ RepV w.heap (I0 w) G0 M0 (.pv (.int .u64 k)) v := by
  obtain ⟨k, rfl⟩ := WideShapes.okWide_int Tryd.underlying94 hv
  obtain ⟨fuel, hf⟩ := hd
  obtain ⟨n, h1, _, h2⟩ := DataW.trod_int Tryd.underlying94 hf
  simp [Value.cells] at h1
  subst h1
  simp [Lit.wf, IntKind.min, IntKind.max, IntKind.signed, IntKind.bits] at h2
  exact ⟨_, by omega, rfl⟩
end
end Go.Am

/-
Arguments of a call, opened: trusts.
-/
namespace Go.Am
open Go Go.Proofs
set_option linter.unusedVariables false
set_option maxRecDepth 100000

section
variable {H : Type} {enc : TypeId × Value → H} {P : Program} {w : World} {spare : Nat → Bool} {held : Bool}
theorem open_tru : ∀ (fuel : Nat) (cs : List Value) (x : DataW H × List MemPlace), DataW.trod enc Tryd.prog w 0 spare held fuel 25 cs = some x → Lite Tryd.prog 25 x.1 → ∃ t : Tru, (t.Ok ∧ t.Slim) ∧ Reps w (encT t) cs := by
  intro fuel
  induction fuel using Nat.strongRecOn with
  | _ fuel IH =>
    intro cs x h hL
    obtain ⟨xs, n, hn, hxe, hl, hxs, hf⟩ := DataW.trod_struct Tryd.underlying25 h
    rw [hxe] at hL
    have hS := lite_struct Tryd.underlying25 hL
    rw [show Tryd.prog.cellsOf 25 = 3 by kernel_rfl] at hl
    have hxs3 : xs.length = 3 := hxs
    match cs, hl, xs, hxs3 with
    | [c0, c1, c2], _, [x0, x1, x2], _ =>
      have f0 : DataW.trod enc Tryd.prog w 0 spare held n 3 (([c0, c1, c2].drop 0).take (Tryd.prog.cellsOf 3)) = [x0, x1, x2][0]? := hf 0 _ rfl
      have f1 : DataW.trod enc Tryd.prog w 0 spare held n 22 (([c0, c1, c2].drop 1).take (Tryd.prog.cellsOf 22)) = [x0, x1, x2][1]? := hf 1 _ rfl
      have f2 : DataW.trod enc Tryd.prog w 0 spare held n 23 (([c0, c1, c2].drop 2).take (Tryd.prog.cellsOf 23)) = [x0, x1, x2][2]? := hf 2 _ rfl
      rw [show Tryd.prog.cellsOf 3 = 1 by kernel_rfl] at f0
      rw [show Tryd.prog.cellsOf 22 = 1 by kernel_rfl] at f1
      rw [show Tryd.prog.cellsOf 23 = 1 by kernel_rfl] at f2
      obtain ⟨m, hm, _, hw⟩ := DataW.trod_int Tryd.underlying3 (show DataW.trod enc Tryd.prog w 0 spare held n 3 [c0] = some x0 from f0)
      obtain ⟨l1, ⟨o1, s1⟩, r1⟩ := open_intl (show DataW.trod enc Tryd.prog w 0 spare held n 22 [c1] = some x1 from f1) (hS 1 _ _ rfl rfl)
      obtain ⟨l2, ⟨o2, s2⟩, r2⟩ := open_slice encTs encT (z := 3) (by omega) rfl (fun _ _ => by rw [encTs]) (fun t => by cases t; rfl) (fun t : Tru => t.Ok ∧ t.Slim) Tryd.underlying23 (by kernel_rfl)
        (fun n' cs' y hn' hy hy2 => IH n' (by omega) cs' y hy hy2) (show DataW.trod enc Tryd.prog w 0 spare held n 23 [c2] = some x2 from f2) (hS 2 _ _ rfl rfl)
      rw [show Tryd.prog.bytesOf 3 = 8 by kernel_rfl] at s1
      rw [show Tryd.prog.bytesOf 25 = 56 by kernel_rfl] at s2
      unfold reachBytes at s1 s2
      simp at hm
      refine ⟨.mk m l1 l2, ⟨⟨wf_in64 hw, o1, Oks_iff.2 fun q hq => (o2 q hq).1⟩, by omega, by omega, Slims_iff.2 fun q hq => (o2 q hq).2⟩, rfl, fun j p v hp hv => ?_⟩
      match j with
      | 0 => simp [encT] at hp hv; subst hp; subst hv; exact hm
      | 1 => simp [encT] at hp hv; subst hp; subst hv; exact r1
      | 2 => simp [encT] at hp hv; subst hp; subst hv; exact r2
      | j + 3 => simp [encT] at hp
theorem arg_tru {r : Reach} {b0 : Nat} {v : Value} {d : DataW H} {ps : List MemPlace} (hv : Value.okWide Tryd.prog w r b0 25 v) (hd : DataW.Trod enc Tryd.prog w 0 spare held 25 v d ps) (hL : Lite Tryd.prog 25 d) :
    ∃ t : Tru, (t.Ok ∧ t.Slim) ∧ RepV w.heap (I0 w) G0 M0 (.agg [i64 t.thr, .pv (.sl t.nodes.length (ints t.nodes)), .pv (.sl t.inner.length (encTs t.inner))]) v := by
  obtain ⟨u, rfl, _⟩ := WideShapes.okWide_struct Tryd.underlying25 hv
  obtain ⟨fuel, hf⟩ := hd
  obtain ⟨t, h1, h2⟩ := open_tru fuel _ _ hf hL
  refine ⟨t, h1, ?_⟩
  have := repV_agg (u := u) h2
  cases t
  exact this
end
end Go.Am
