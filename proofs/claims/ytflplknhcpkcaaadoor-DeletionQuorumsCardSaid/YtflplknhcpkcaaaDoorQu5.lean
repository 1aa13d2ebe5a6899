/-
Part 5 of the road to the statement: Gf_law13_DeletionQuorums, PQuorums, AmLink.
-/
import Derived.Test.YtflplknhcpkcaaaDoorQu4
import Derived.Below
/-
How trustquorumlaw13.DeletionQuorums runs, as a pure function.
-/
namespace Go.Am
open Go Go.Proofs
set_option linter.unusedVariables false
set_option linter.unusedSimpArgs false
set_option maxRecDepth 4000
set_option maxHeartbeats 4000000
noncomputable def B_law13_DeletionQuorums_0 (y6 : (Int × S_trustquorummake_Tape)) (y3 : (S_api_Config × S_trustquorummake_Tape)) (y8 : S_api_Config) : Option Bool :=
  kb (G_ref06_Valid y8) fun y10 =>
  cnd (decide (y10 = 0)) (
    kb (G_ref06_Declared y8) fun y13 =>
    kb (G_ref06_Declared y3.1) fun y15 =>
    cnd (decide (y13 = (andn64 y15 (and64 y6.1 (sub64 (shl64 1 (y3.1.f0.length : Int)) 1))))) (
      some (!(decide ((y8.f0.length : Int) = (y3.1.f0.length : Int))))) (
      some true)) (
    some true)
def J_law13_DeletionQuorums_0 (y6 : (Int × S_trustquorummake_Tape)) (y3 : (S_api_Config × S_trustquorummake_Tape)) (y8 : S_api_Config) (q : St) : Prop := q (.t 5) = (i64 (sub64 (shl64 1 (y3.1.f0.length : Int)) 1)) ∧ q (.t 6) = (i64 (and64 y6.1 (sub64 (shl64 1 (y3.1.f0.length : Int)) 1))) ∧ (∃ (g : Nat), q (.t 3) = .ptr (.site 1 1 0) g 0 ∧ q (.i (.site 1 1 0)) = .box g [(.pv (.sl y6.2.f0.length (ints y6.2.f0))), (i64 y6.2.f1)]) ∧ (∃ (g : Nat), q (.t 4) = .ptr (.site 2 2 0) g 0 ∧ q (.i (.site 2 2 0)) = .box g [(.pv (.sl y3.1.f0.length (es_api_Member y3.1.f0)))]) ∧ (∃ (g : Nat), q (.t 7) = .ptr (.site 5 3 0) g 0 ∧ q (.i (.site 5 3 0)) = .box g [(.pv (.sl y8.f0.length (es_api_Member y8.f0)))])
def Q_law13_DeletionQuorums_0 (y6 : (Int × S_trustquorummake_Tape)) (y3 : (S_api_Config × S_trustquorummake_Tape)) (y8 : S_api_Config) (o50_0 : Bool) (q : St) : Prop := q (.t 5) = (i64 (sub64 (shl64 1 (y3.1.f0.length : Int)) 1)) ∧ q (.t 50) = (bl o50_0) ∧ q (.t 6) = (i64 (and64 y6.1 (sub64 (shl64 1 (y3.1.f0.length : Int)) 1))) ∧ (∃ (g : Nat), q (.t 3) = .ptr (.site 1 1 0) g 0 ∧ q (.i (.site 1 1 0)) = .box g [(.pv (.sl y6.2.f0.length (ints y6.2.f0))), (i64 y6.2.f1)]) ∧ (∃ (g : Nat), q (.t 4) = .ptr (.site 2 2 0) g 0 ∧ q (.i (.site 2 2 0)) = .box g [(.pv (.sl y3.1.f0.length (es_api_Member y3.1.f0)))]) ∧ (∃ (g : Nat), q (.t 7) = .ptr (.site 5 3 0) g 0 ∧ q (.i (.site 5 3 0)) = .box g [(.pv (.sl y8.f0.length (es_api_Member y8.f0)))])
theorem P_law13_DeletionQuorums_0 {y6 : (Int × S_trustquorummake_Tape)} {y3 : (S_api_Config × S_trustquorummake_Tape)} {y8 : S_api_Config} {cc : Code} (hcc : cc = (Code.fst (Code.fst (Code.snd (Code.snd (Code.snd (Code.snd (Code.snd (Code.snd ((Tryd.f7.body).getD .skip)))))))))) {s : St} {z : Option (Ex × St)} (hz : C Tryd.prog cf cc s = z) {r : Bool} (hI : J_law13_DeletionQuorums_0 y6 y3 y8 s) (hB : B_law13_DeletionQuorums_0 y6 y3 y8 = some r) : Res z (postG (fun a q => Q_law13_DeletionQuorums_0 y6 y3 y8 a q) r) := by
  subst hcc
  subst hz
  simp only [J_law13_DeletionQuorums_0] at hI
  obtain ⟨q1, q2, ⟨g4, q3, q4⟩, ⟨g6, q5, q6⟩, ⟨g8, q7, q8⟩⟩ := hI
  simp only [Code.fst, Code.snd, Tryd.f7, Option.getD_some]
  unfold B_law13_DeletionQuorums_0 at hB
  obtain ⟨y10, k11, hB⟩ := kb_inv hB
  replace k11 := run_ref06_Valid k11
  try simp only [Int.cast_ofNat_Int, Int.natCast_zero, List.length_cons, List.length_nil, List.nil_append, List.cons_append, Nat.zero_add, Nat.reduceAdd, Tru.thr_mk, Tru.nodes_mk, Tru.inner_mk, ints_cons, ints_nil, encTs_cons, encTs_nil, es_api_Config_cons, es_api_Config_nil, es_api_Member_cons, es_api_Member_nil] at k11
  try dsimp only at hB
  rcases cnd_inv hB with ⟨c12, hB⟩ | ⟨c12, hB⟩
  · have pc12 := eq_true (of_decide_eq_true c12)
    obtain ⟨y13, k14, hB⟩ := kb_inv hB
    replace k14 := run_ref06_Declared k14
    try simp only [Int.cast_ofNat_Int, Int.natCast_zero, List.length_cons, List.length_nil, List.nil_append, List.cons_append, Nat.zero_add, Nat.reduceAdd, Tru.thr_mk, Tru.nodes_mk, Tru.inner_mk, ints_cons, ints_nil, encTs_cons, encTs_nil, es_api_Config_cons, es_api_Config_nil, es_api_Member_cons, es_api_Member_nil] at k14
    try dsimp only at hB
    obtain ⟨y15, k16, hB⟩ := kb_inv hB
    replace k16 := run_ref06_Declared k16
    try simp only [Int.cast_ofNat_Int, Int.natCast_zero, List.length_cons, List.length_nil, List.nil_append, List.cons_append, Nat.zero_add, Nat.reduceAdd, Tru.thr_mk, Tru.nodes_mk, Tru.inner_mk, ints_cons, ints_nil, encTs_cons, encTs_nil, es_api_Config_cons, es_api_Config_nil, es_api_Member_cons, es_api_Member_nil] at k16
    try dsimp only at hB
    rcases cnd_inv hB with ⟨c17, hB⟩ | ⟨c17, hB⟩
    · have pc17 := eq_true (of_decide_eq_true c17)
      have nc17 := c17
      try simp only [List.length_nil, List.length_cons, Int.cast_ofNat_Int, Int.natCast_zero, Nat.zero_add, Nat.reduceAdd, Int.reduceLT, Int.reduceLE, Int.reduceEq, eq_self, decide_true, decide_false, Bool.true_eq_false, Bool.false_eq_true] at nc17
      all_goals
        obtain rfl := Option.some.inj hB
        try simp -implicitDefEqProofs [-getElem?_pos, -Int.ofNat_lt, -Int.ofNat_le, -Int.natCast_eq_zero, -Int.natCast_pos, -List.length_eq_zero_iff, List.getElem?_cons_zero, List.getElem?_cons_succ, List.getElem?_nil, q1, q2, q3, q4, q5, q6, q7, q8, k11, c12, pc12, k14, k16, c17, pc17, nc17]
        rw [drawK_ok _ _ _ (by kernel_rfl)]
        simp -implicitDefEqProofs [-getElem?_pos, -Int.ofNat_lt, -Int.ofNat_le, -Int.natCast_eq_zero, -Int.natCast_pos, -List.length_eq_zero_iff, List.getElem?_cons_zero, List.getElem?_cons_succ, List.getElem?_nil, q1, q2, q3, q4, q5, q6, q7, q8, k11, c12, pc12, k14, k16, c17, pc17, nc17]
        refine Res.g ?_
        simp -implicitDefEqProofs [-getElem?_pos, -Int.ofNat_lt, -Int.ofNat_le, -Int.natCast_eq_zero, -Int.natCast_pos, -List.length_eq_zero_iff, List.getElem?_cons_zero, List.getElem?_cons_succ, List.getElem?_nil, and_assoc, Q_law13_DeletionQuorums_0, ownAt, q1, q2, q3, q4, q5, q6, q7, q8, k11, c12, pc12, k14, k16, c17, pc17, nc17]
    · have pc17 := eq_false (of_decide_eq_false c17)
      have nc17 := c17
      try simp only [List.length_nil, List.length_cons, Int.cast_ofNat_Int, Int.natCast_zero, Nat.zero_add, Nat.reduceAdd, Int.reduceLT, Int.reduceLE, Int.reduceEq, eq_self, decide_true, decide_false, Bool.true_eq_false, Bool.false_eq_true] at nc17
      all_goals
        obtain rfl := Option.some.inj hB
        try simp -implicitDefEqProofs [-getElem?_pos, -Int.ofNat_lt, -Int.ofNat_le, -Int.natCast_eq_zero, -Int.natCast_pos, -List.length_eq_zero_iff, List.getElem?_cons_zero, List.getElem?_cons_succ, List.getElem?_nil, q1, q2, q3, q4, q5, q6, q7, q8, k11, c12, pc12, k14, k16, c17, pc17, nc17]
        rw [drawK_ok _ _ _ (by kernel_rfl)]
        simp -implicitDefEqProofs [-getElem?_pos, -Int.ofNat_lt, -Int.ofNat_le, -Int.natCast_eq_zero, -Int.natCast_pos, -List.length_eq_zero_iff, List.getElem?_cons_zero, List.getElem?_cons_succ, List.getElem?_nil, q1, q2, q3, q4, q5, q6, q7, q8, k11, c12, pc12, k14, k16, c17, pc17, nc17]
        refine Res.g ?_
        simp -implicitDefEqProofs [-getElem?_pos, -Int.ofNat_lt, -Int.ofNat_le, -Int.natCast_eq_zero, -Int.natCast_pos, -List.length_eq_zero_iff, List.getElem?_cons_zero, List.getElem?_cons_succ, List.getElem?_nil, and_assoc, Q_law13_DeletionQuorums_0, ownAt, q1, q2, q3, q4, q5, q6, q7, q8, k11, c12, pc12, k14, k16, c17, pc17, nc17]
  · have pc12 := eq_false (of_decide_eq_false c12)
    obtain rfl := Option.some.inj hB
    try simp -implicitDefEqProofs [-getElem?_pos, -Int.ofNat_lt, -Int.ofNat_le, -Int.natCast_eq_zero, -Int.natCast_pos, -List.length_eq_zero_iff, List.getElem?_cons_zero, List.getElem?_cons_succ, List.getElem?_nil, q1, q2, q3, q4, q5, q6, q7, q8, k11, c12, pc12]
    rw [drawK_ok _ _ _ (by kernel_rfl)]
    simp -implicitDefEqProofs [-getElem?_pos, -Int.ofNat_lt, -Int.ofNat_le, -Int.natCast_eq_zero, -Int.natCast_pos, -List.length_eq_zero_iff, List.getElem?_cons_zero, List.getElem?_cons_succ, List.getElem?_nil, q1, q2, q3, q4, q5, q6, q7, q8, k11, c12, pc12]
    refine Res.g ?_
    simp -implicitDefEqProofs [-getElem?_pos, -Int.ofNat_lt, -Int.ofNat_le, -Int.natCast_eq_zero, -Int.natCast_pos, -List.length_eq_zero_iff, List.getElem?_cons_zero, List.getElem?_cons_succ, List.getElem?_nil, and_assoc, Q_law13_DeletionQuorums_0, ownAt, q1, q2, q3, q4, q5, q6, q7, q8, k11, c12, pc12]
noncomputable def B_law13_DeletionQuorums_1 (pb1_1_0_1 : (List Int)) (pb1_1_1_1 : Int) (y3 : (S_api_Config × S_trustquorummake_Tape)) (y8 : S_api_Config) (p10_1 : Int) (y6 : (Int × S_trustquorummake_Tape)) (p8_1 : Int) (p9_1 : Int) : Option Bool :=
  cnd (decide ((andn64 p10_1 (and64 y6.1 (sub64 (shl64 1 (y3.1.f0.length : Int)) 1))) = 0)) (
    some false) (
    kb (G_ref09_Quorum y8 (andn64 p10_1 (and64 y6.1 (sub64 (shl64 1 (y3.1.f0.length : Int)) 1)))) fun y26 =>
    some (!y26))
def J_law13_DeletionQuorums_1 (pb1_1_0_1 : (List Int)) (pb1_1_1_1 : Int) (y3 : (S_api_Config × S_trustquorummake_Tape)) (y8 : S_api_Config) (p10_1 : Int) (y6 : (Int × S_trustquorummake_Tape)) (p8_1 : Int) (p9_1 : Int) (q : St) : Prop := q (.t 10) = (i64 p10_1) ∧ q (.t 5) = (i64 (sub64 (shl64 1 (y3.1.f0.length : Int)) 1)) ∧ q (.t 6) = (i64 (and64 y6.1 (sub64 (shl64 1 (y3.1.f0.length : Int)) 1))) ∧ q (.t 8) = (i64 p8_1) ∧ q (.t 9) = (i64 p9_1) ∧ (∃ (g : Nat), q (.t 3) = .ptr (.site 1 1 0) g 0 ∧ q (.i (.site 1 1 0)) = .box g [(.pv (.sl pb1_1_0_1.length (ints pb1_1_0_1))), (i64 pb1_1_1_1)]) ∧ (∃ (g : Nat), q (.t 4) = .ptr (.site 2 2 0) g 0 ∧ q (.i (.site 2 2 0)) = .box g [(.pv (.sl y3.1.f0.length (es_api_Member y3.1.f0)))]) ∧ (∃ (g : Nat), q (.t 7) = .ptr (.site 5 3 0) g 0 ∧ q (.i (.site 5 3 0)) = .box g [(.pv (.sl y8.f0.length (es_api_Member y8.f0)))])
def Q_law13_DeletionQuorums_1 (pb1_1_0_1 : (List Int)) (pb1_1_1_1 : Int) (y3 : (S_api_Config × S_trustquorummake_Tape)) (y8 : S_api_Config) (p10_1 : Int) (y6 : (Int × S_trustquorummake_Tape)) (p8_1 : Int) (p9_1 : Int) (o73_1 : Bool) (q : St) : Prop := q (.t 5) = (i64 (sub64 (shl64 1 (y3.1.f0.length : Int)) 1)) ∧ q (.t 6) = (i64 (and64 y6.1 (sub64 (shl64 1 (y3.1.f0.length : Int)) 1))) ∧ q (.t 73) = (bl o73_1) ∧ q (.t 8) = (i64 p8_1) ∧ q (.t 9) = (i64 p9_1) ∧ (∃ (g : Nat), q (.t 3) = .ptr (.site 1 1 0) g 0 ∧ q (.i (.site 1 1 0)) = .box g [(.pv (.sl pb1_1_0_1.length (ints pb1_1_0_1))), (i64 pb1_1_1_1)]) ∧ (∃ (g : Nat), q (.t 4) = .ptr (.site 2 2 0) g 0 ∧ q (.i (.site 2 2 0)) = .box g [(.pv (.sl y3.1.f0.length (es_api_Member y3.1.f0)))]) ∧ (∃ (g : Nat), q (.t 7) = .ptr (.site 5 3 0) g 0 ∧ q (.i (.site 5 3 0)) = .box g [(.pv (.sl y8.f0.length (es_api_Member y8.f0)))])
theorem P_law13_DeletionQuorums_1 {pb1_1_0_1 : (List Int)} {pb1_1_1_1 : Int} {y3 : (S_api_Config × S_trustquorummake_Tape)} {y8 : S_api_Config} {p10_1 : Int} {y6 : (Int × S_trustquorummake_Tape)} {p8_1 : Int} {p9_1 : Int} {cc : Code} (hcc : cc = (Code.fst (Code.fst (Code.snd (Code.snd (Code.fst (Code.fst (Code.snd (Code.fst (Code.fst (Code.snd (Code.fst (Code.snd (Code.snd (Code.snd (Code.snd (Code.snd (Code.snd (Code.snd ((Tryd.f7.body).getD .skip)))))))))))))))))))) {s : St} {z : Option (Ex × St)} (hz : C Tryd.prog cf cc s = z) {r : Bool} (hI : J_law13_DeletionQuorums_1 pb1_1_0_1 pb1_1_1_1 y3 y8 p10_1 y6 p8_1 p9_1 s) (hB : B_law13_DeletionQuorums_1 pb1_1_0_1 pb1_1_1_1 y3 y8 p10_1 y6 p8_1 p9_1 = some r) : Res z (postG (fun a q => Q_law13_DeletionQuorums_1 pb1_1_0_1 pb1_1_1_1 y3 y8 p10_1 y6 p8_1 p9_1 a q) r) := by
  subst hcc
  subst hz
  simp only [J_law13_DeletionQuorums_1] at hI
  obtain ⟨q1, q2, q3, q4, q5, ⟨g7, q6, q7⟩, ⟨g9, q8, q9⟩, ⟨g11, q10, q11⟩⟩ := hI
  simp only [Code.fst, Code.snd, Tryd.f7, Option.getD_some]
  unfold B_law13_DeletionQuorums_1 at hB
  rcases cnd_inv hB with ⟨c25, hB⟩ | ⟨c25, hB⟩
  · have pc25 := eq_true (of_decide_eq_true c25)
    have nc25 := c25
    try simp only [List.length_nil, List.length_cons, Int.cast_ofNat_Int, Int.natCast_zero, Nat.zero_add, Nat.reduceAdd, Int.reduceLT, Int.reduceLE, Int.reduceEq, eq_self, decide_true, decide_false, Bool.true_eq_false, Bool.false_eq_true] at nc25
    all_goals
      obtain rfl := Option.some.inj hB
      try simp -implicitDefEqProofs [-getElem?_pos, -Int.ofNat_lt, -Int.ofNat_le, -Int.natCast_eq_zero, -Int.natCast_pos, -List.length_eq_zero_iff, List.getElem?_cons_zero, List.getElem?_cons_succ, List.getElem?_nil, q1, q2, q3, q4, q5, q6, q7, q8, q9, q10, q11, c25, pc25, nc25]
      refine Res.g ?_
      simp -implicitDefEqProofs [-getElem?_pos, -Int.ofNat_lt, -Int.ofNat_le, -Int.natCast_eq_zero, -Int.natCast_pos, -List.length_eq_zero_iff, List.getElem?_cons_zero, List.getElem?_cons_succ, List.getElem?_nil, and_assoc, Q_law13_DeletionQuorums_1, ownAt, q1, q2, q3, q4, q5, q6, q7, q8, q9, q10, q11, c25, pc25, nc25]
  · have pc25 := eq_false (of_decide_eq_false c25)
    have nc25 := c25
    try simp only [List.length_nil, List.length_cons, Int.cast_ofNat_Int, Int.natCast_zero, Nat.zero_add, Nat.reduceAdd, Int.reduceLT, Int.reduceLE, Int.reduceEq, eq_self, decide_true, decide_false, Bool.true_eq_false, Bool.false_eq_true] at nc25
    all_goals
      obtain ⟨y26, k27, hB⟩ := kb_inv hB
      replace k27 := run_ref09_Quorum k27
      try simp only [Int.cast_ofNat_Int, Int.natCast_zero, List.length_cons, List.length_nil, List.nil_append, List.cons_append, Nat.zero_add, Nat.reduceAdd, Tru.thr_mk, Tru.nodes_mk, Tru.inner_mk, ints_cons, ints_nil, encTs_cons, encTs_nil, es_api_Config_cons, es_api_Config_nil, es_api_Member_cons, es_api_Member_nil] at k27
      try dsimp only at hB
      obtain rfl := Option.some.inj hB
      try simp -implicitDefEqProofs [-getElem?_pos, -Int.ofNat_lt, -Int.ofNat_le, -Int.natCast_eq_zero, -Int.natCast_pos, -List.length_eq_zero_iff, List.getElem?_cons_zero, List.getElem?_cons_succ, List.getElem?_nil, q1, q2, q3, q4, q5, q6, q7, q8, q9, q10, q11, c25, pc25, nc25, k27]
      refine Res.g ?_
      simp -implicitDefEqProofs [-getElem?_pos, -Int.ofNat_lt, -Int.ofNat_le, -Int.natCast_eq_zero, -Int.natCast_pos, -List.length_eq_zero_iff, List.getElem?_cons_zero, List.getElem?_cons_succ, List.getElem?_nil, and_assoc, Q_law13_DeletionQuorums_1, ownAt, q1, q2, q3, q4, q5, q6, q7, q8, q9, q10, q11, c25, pc25, nc25, k27]
noncomputable def B_law13_DeletionQuorums_2 (pb1_1_0_2 : (List Int)) (pb1_1_1_2 : Int) (y3 : (S_api_Config × S_trustquorummake_Tape)) (y8 : S_api_Config) (p11_2 : Int) (y6 : (Int × S_trustquorummake_Tape)) (p8_2 : Int) : Option Bool :=
  cnd (decide (p11_2 = 0)) (
    some false) (
    kb (G_ref06_Declared y3.1) fun y31 =>
    some (decide ((and64 p11_2 y31) = p11_2)))
def J_law13_DeletionQuorums_2 (pb1_1_0_2 : (List Int)) (pb1_1_1_2 : Int) (y3 : (S_api_Config × S_trustquorummake_Tape)) (y8 : S_api_Config) (p11_2 : Int) (y6 : (Int × S_trustquorummake_Tape)) (p8_2 : Int) (q : St) : Prop := q (.t 11) = (i64 p11_2) ∧ q (.t 5) = (i64 (sub64 (shl64 1 (y3.1.f0.length : Int)) 1)) ∧ q (.t 6) = (i64 (and64 y6.1 (sub64 (shl64 1 (y3.1.f0.length : Int)) 1))) ∧ q (.t 8) = (i64 p8_2) ∧ (∃ (g : Nat), q (.t 3) = .ptr (.site 1 1 0) g 0 ∧ q (.i (.site 1 1 0)) = .box g [(.pv (.sl pb1_1_0_2.length (ints pb1_1_0_2))), (i64 pb1_1_1_2)]) ∧ (∃ (g : Nat), q (.t 4) = .ptr (.site 2 2 0) g 0 ∧ q (.i (.site 2 2 0)) = .box g [(.pv (.sl y3.1.f0.length (es_api_Member y3.1.f0)))]) ∧ (∃ (g : Nat), q (.t 7) = .ptr (.site 5 3 0) g 0 ∧ q (.i (.site 5 3 0)) = .box g [(.pv (.sl y8.f0.length (es_api_Member y8.f0)))])
def Q_law13_DeletionQuorums_2 (pb1_1_0_2 : (List Int)) (pb1_1_1_2 : Int) (y3 : (S_api_Config × S_trustquorummake_Tape)) (y8 : S_api_Config) (p11_2 : Int) (y6 : (Int × S_trustquorummake_Tape)) (p8_2 : Int) (o12_2 : Bool) (q : St) : Prop := q (.t 11) = (i64 p11_2) ∧ q (.t 12) = (bl o12_2) ∧ q (.t 5) = (i64 (sub64 (shl64 1 (y3.1.f0.length : Int)) 1)) ∧ q (.t 6) = (i64 (and64 y6.1 (sub64 (shl64 1 (y3.1.f0.length : Int)) 1))) ∧ q (.t 8) = (i64 p8_2) ∧ (∃ (g : Nat), q (.t 3) = .ptr (.site 1 1 0) g 0 ∧ q (.i (.site 1 1 0)) = .box g [(.pv (.sl pb1_1_0_2.length (ints pb1_1_0_2))), (i64 pb1_1_1_2)]) ∧ (∃ (g : Nat), q (.t 4) = .ptr (.site 2 2 0) g 0 ∧ q (.i (.site 2 2 0)) = .box g [(.pv (.sl y3.1.f0.length (es_api_Member y3.1.f0)))]) ∧ (∃ (g : Nat), q (.t 7) = .ptr (.site 5 3 0) g 0 ∧ q (.i (.site 5 3 0)) = .box g [(.pv (.sl y8.f0.length (es_api_Member y8.f0)))])
theorem P_law13_DeletionQuorums_2 {pb1_1_0_2 : (List Int)} {pb1_1_1_2 : Int} {y3 : (S_api_Config × S_trustquorummake_Tape)} {y8 : S_api_Config} {p11_2 : Int} {y6 : (Int × S_trustquorummake_Tape)} {p8_2 : Int} {cc : Code} (hcc : cc = (Code.fst (Code.snd (Code.snd (Code.snd (Code.snd (Code.fst (Code.fst (Code.snd (Code.fst (Code.fst (Code.snd (Code.fst (Code.snd (Code.snd (Code.snd (Code.snd (Code.snd (Code.snd (Code.snd ((Tryd.f7.body).getD .skip))))))))))))))))))))) {s : St} {z : Option (Ex × St)} (hz : C Tryd.prog cf cc s = z) {r : Bool} (hI : J_law13_DeletionQuorums_2 pb1_1_0_2 pb1_1_1_2 y3 y8 p11_2 y6 p8_2 s) (hB : B_law13_DeletionQuorums_2 pb1_1_0_2 pb1_1_1_2 y3 y8 p11_2 y6 p8_2 = some r) : Res z (postG (fun a q => Q_law13_DeletionQuorums_2 pb1_1_0_2 pb1_1_1_2 y3 y8 p11_2 y6 p8_2 a q) r) := by
  subst hcc
  subst hz
  simp only [J_law13_DeletionQuorums_2] at hI
  obtain ⟨q1, q2, q3, q4, ⟨g6, q5, q6⟩, ⟨g8, q7, q8⟩, ⟨g10, q9, q10⟩⟩ := hI
  simp only [Code.fst, Code.snd, Tryd.f7, Option.getD_some]
  unfold B_law13_DeletionQuorums_2 at hB
  rcases cnd_inv hB with ⟨c30, hB⟩ | ⟨c30, hB⟩
  · have pc30 := eq_true (of_decide_eq_true c30)
    obtain rfl := Option.some.inj hB
    try simp -implicitDefEqProofs [-getElem?_pos, -Int.ofNat_lt, -Int.ofNat_le, -Int.natCast_eq_zero, -Int.natCast_pos, -List.length_eq_zero_iff, List.getElem?_cons_zero, List.getElem?_cons_succ, List.getElem?_nil, q1, q2, q3, q4, q5, q6, q7, q8, q9, q10, c30, pc30]
    refine Res.g ?_
    simp -implicitDefEqProofs [-getElem?_pos, -Int.ofNat_lt, -Int.ofNat_le, -Int.natCast_eq_zero, -Int.natCast_pos, -List.length_eq_zero_iff, List.getElem?_cons_zero, List.getElem?_cons_succ, List.getElem?_nil, and_assoc, Q_law13_DeletionQuorums_2, ownAt, q1, q2, q3, q4, q5, q6, q7, q8, q9, q10, c30, pc30]
  · have pc30 := eq_false (of_decide_eq_false c30)
    obtain ⟨y31, k32, hB⟩ := kb_inv hB
    replace k32 := run_ref06_Declared k32
    try simp only [Int.cast_ofNat_Int, Int.natCast_zero, List.length_cons, List.length_nil, List.nil_append, List.cons_append, Nat.zero_add, Nat.reduceAdd, Tru.thr_mk, Tru.nodes_mk, Tru.inner_mk, ints_cons, ints_nil, encTs_cons, encTs_nil, es_api_Config_cons, es_api_Config_nil, es_api_Member_cons, es_api_Member_nil] at k32
    try dsimp only at hB
    obtain rfl := Option.some.inj hB
    try simp -implicitDefEqProofs [-getElem?_pos, -Int.ofNat_lt, -Int.ofNat_le, -Int.natCast_eq_zero, -Int.natCast_pos, -List.length_eq_zero_iff, List.getElem?_cons_zero, List.getElem?_cons_succ, List.getElem?_nil, q1, q2, q3, q4, q5, q6, q7, q8, q9, q10, c30, pc30, k32]
    refine Res.g ?_
    simp -implicitDefEqProofs [-getElem?_pos, -Int.ofNat_lt, -Int.ofNat_le, -Int.natCast_eq_zero, -Int.natCast_pos, -List.length_eq_zero_iff, List.getElem?_cons_zero, List.getElem?_cons_succ, List.getElem?_nil, and_assoc, Q_law13_DeletionQuorums_2, ownAt, q1, q2, q3, q4, q5, q6, q7, q8, q9, q10, c30, pc30, k32]
noncomputable def B_law13_DeletionQuorums_3 (pb1_1_0_3 : (List Int)) (pb1_1_1_3 : Int) (y3 : (S_api_Config × S_trustquorummake_Tape)) (y8 : S_api_Config) (p11_3 : Int) (p12_3 : Bool) (i33 : Nat) (y6 : (Int × S_trustquorummake_Tape)) (p8_3 : Int) : Option Bool :=
  kb (mustK (¬ (i33 : Int) < 0)) fun _ =>
  cnd (decide ((and64 (shr64 p11_3 (i33 : Int)) 1) = 1)) (
    kb (getI y3.1.f0 (i33 : Int)) fun x36 =>
    kb (G_ref02_Satisfied x36.f1 (or64 p11_3 (and64 y6.1 (sub64 (shl64 1 (y3.1.f0.length : Int)) 1)))) fun y39 =>
    some (!y39)) (
    some false)
def J_law13_DeletionQuorums_3 (pb1_1_0_3 : (List Int)) (pb1_1_1_3 : Int) (y3 : (S_api_Config × S_trustquorummake_Tape)) (y8 : S_api_Config) (p11_3 : Int) (p12_3 : Bool) (i33 : Nat) (y6 : (Int × S_trustquorummake_Tape)) (p8_3 : Int) (q : St) : Prop := q (.t 11) = (i64 p11_3) ∧ q (.t 12) = (bl p12_3) ∧ q (.t 13) = (i64 (i33 : Int)) ∧ q (.t 5) = (i64 (sub64 (shl64 1 (y3.1.f0.length : Int)) 1)) ∧ q (.t 6) = (i64 (and64 y6.1 (sub64 (shl64 1 (y3.1.f0.length : Int)) 1))) ∧ q (.t 8) = (i64 p8_3) ∧ q (.t 89) = (i64 (y3.1.f0.length : Int)) ∧ q (.t 90) = (i64 (i33 : Int)) ∧ (∃ (g : Nat), q (.t 3) = .ptr (.site 1 1 0) g 0 ∧ q (.i (.site 1 1 0)) = .box g [(.pv (.sl pb1_1_0_3.length (ints pb1_1_0_3))), (i64 pb1_1_1_3)]) ∧ (∃ (g : Nat), q (.t 4) = .ptr (.site 2 2 0) g 0 ∧ q (.i (.site 2 2 0)) = .box g [(.pv (.sl y3.1.f0.length (es_api_Member y3.1.f0)))]) ∧ (∃ (g : Nat), q (.t 7) = .ptr (.site 5 3 0) g 0 ∧ q (.i (.site 5 3 0)) = .box g [(.pv (.sl y8.f0.length (es_api_Member y8.f0)))])
def Q_law13_DeletionQuorums_3 (pb1_1_0_3 : (List Int)) (pb1_1_1_3 : Int) (y3 : (S_api_Config × S_trustquorummake_Tape)) (y8 : S_api_Config) (p11_3 : Int) (p12_3 : Bool) (i33 : Nat) (y6 : (Int × S_trustquorummake_Tape)) (p8_3 : Int) (o110_3 : Bool) (q : St) : Prop := q (.t 11) = (i64 p11_3) ∧ q (.t 110) = (bl o110_3) ∧ q (.t 12) = (bl p12_3) ∧ q (.t 5) = (i64 (sub64 (shl64 1 (y3.1.f0.length : Int)) 1)) ∧ q (.t 6) = (i64 (and64 y6.1 (sub64 (shl64 1 (y3.1.f0.length : Int)) 1))) ∧ q (.t 8) = (i64 p8_3) ∧ q (.t 89) = (i64 (y3.1.f0.length : Int)) ∧ q (.t 90) = (i64 (i33 : Int)) ∧ (∃ (g : Nat), q (.t 3) = .ptr (.site 1 1 0) g 0 ∧ q (.i (.site 1 1 0)) = .box g [(.pv (.sl pb1_1_0_3.length (ints pb1_1_0_3))), (i64 pb1_1_1_3)]) ∧ (∃ (g : Nat), q (.t 4) = .ptr (.site 2 2 0) g 0 ∧ q (.i (.site 2 2 0)) = .box g [(.pv (.sl y3.1.f0.length (es_api_Member y3.1.f0)))]) ∧ (∃ (g : Nat), q (.t 7) = .ptr (.site 5 3 0) g 0 ∧ q (.i (.site 5 3 0)) = .box g [(.pv (.sl y8.f0.length (es_api_Member y8.f0)))])
theorem P_law13_DeletionQuorums_3 {pb1_1_0_3 : (List Int)} {pb1_1_1_3 : Int} {y3 : (S_api_Config × S_trustquorummake_Tape)} {y8 : S_api_Config} {p11_3 : Int} {p12_3 : Bool} {i33 : Nat} {y6 : (Int × S_trustquorummake_Tape)} {p8_3 : Int} {cc : Code} (hcc : cc = (Code.fst (Code.snd (Code.fst (Code.fst (Code.snd (Code.snd (Code.fst (Code.fst (Code.snd (Code.fst (Code.snd (Code.snd (Code.snd (Code.snd (Code.snd (Code.fst (Code.fst (Code.snd (Code.fst (Code.fst (Code.snd (Code.fst (Code.snd (Code.snd (Code.snd (Code.snd (Code.snd (Code.snd (Code.snd ((Tryd.f7.body).getD .skip))))))))))))))))))))))))))))))) {s : St} {z : Option (Ex × St)} (hz : C Tryd.prog cf cc s = z) {r : Bool} (hI : J_law13_DeletionQuorums_3 pb1_1_0_3 pb1_1_1_3 y3 y8 p11_3 p12_3 i33 y6 p8_3 s) (hB : B_law13_DeletionQuorums_3 pb1_1_0_3 pb1_1_1_3 y3 y8 p11_3 p12_3 i33 y6 p8_3 = some r) : Res z (postG (fun a q => Q_law13_DeletionQuorums_3 pb1_1_0_3 pb1_1_1_3 y3 y8 p11_3 p12_3 i33 y6 p8_3 a q) r) := by
  subst hcc
  subst hz
  simp only [J_law13_DeletionQuorums_3] at hI
  obtain ⟨q1, q2, q3, q4, q5, q6, q7, q8, ⟨g10, q9, q10⟩, ⟨g12, q11, q12⟩, ⟨g14, q13, q14⟩⟩ := hI
  simp only [Code.fst, Code.snd, Tryd.f7, Option.getD_some]
  unfold B_law13_DeletionQuorums_3 at hB
  obtain ⟨_, n34, hB⟩ := kb_inv hB
  have n34a := mustK_inv n34
  try dsimp only at hB
  rcases cnd_inv hB with ⟨c35, hB⟩ | ⟨c35, hB⟩
  · have pc35 := eq_true (of_decide_eq_true c35)
    obtain ⟨x36, h37, hB⟩ := kb_inv hB
    obtain ⟨h37a, h37b, h37c, h37d⟩ := getI_inv h37
    try simp only [Int.toNat_natCast, Int.reduceToNat] at h37c
    try dsimp only at hB
    have l38 := es_api_Member_sub1 h37c
    obtain ⟨y39, k40, hB⟩ := kb_inv hB
    replace k40 := run_ref02_Satisfied k40
    try simp only [Int.cast_ofNat_Int, Int.natCast_zero, List.length_cons, List.length_nil, List.nil_append, List.cons_append, Nat.zero_add, Nat.reduceAdd, Tru.thr_mk, Tru.nodes_mk, Tru.inner_mk, ints_cons, ints_nil, encTs_cons, encTs_nil, es_api_Config_cons, es_api_Config_nil, es_api_Member_cons, es_api_Member_nil] at k40
    try dsimp only at hB
    obtain rfl := Option.some.inj hB
    try simp -implicitDefEqProofs [-getElem?_pos, -Int.ofNat_lt, -Int.ofNat_le, -Int.natCast_eq_zero, -Int.natCast_pos, -List.length_eq_zero_iff, List.getElem?_cons_zero, List.getElem?_cons_succ, List.getElem?_nil, q1, q2, q3, q4, q5, q6, q7, q8, q9, q10, q11, q12, q13, q14, n34a, c35, pc35, h37a, h37b, h37c, h37d, l38, k40]
    refine Res.g ?_
    simp -implicitDefEqProofs [-getElem?_pos, -Int.ofNat_lt, -Int.ofNat_le, -Int.natCast_eq_zero, -Int.natCast_pos, -List.length_eq_zero_iff, List.getElem?_cons_zero, List.getElem?_cons_succ, List.getElem?_nil, and_assoc, Q_law13_DeletionQuorums_3, ownAt, q1, q2, q3, q4, q5, q6, q7, q8, q9, q10, q11, q12, q13, q14, n34a, c35, pc35, h37a, h37b, h37c, h37d, l38, k40]
  · have pc35 := eq_false (of_decide_eq_false c35)
    obtain rfl := Option.some.inj hB
    try simp -implicitDefEqProofs [-getElem?_pos, -Int.ofNat_lt, -Int.ofNat_le, -Int.natCast_eq_zero, -Int.natCast_pos, -List.length_eq_zero_iff, List.getElem?_cons_zero, List.getElem?_cons_succ, List.getElem?_nil, q1, q2, q3, q4, q5, q6, q7, q8, q9, q10, q11, q12, q13, q14, n34a, c35, pc35]
    refine Res.g ?_
    simp -implicitDefEqProofs [-getElem?_pos, -Int.ofNat_lt, -Int.ofNat_le, -Int.natCast_eq_zero, -Int.natCast_pos, -List.length_eq_zero_iff, List.getElem?_cons_zero, List.getElem?_cons_succ, List.getElem?_nil, and_assoc, Q_law13_DeletionQuorums_3, ownAt, q1, q2, q3, q4, q5, q6, q7, q8, q9, q10, q11, q12, q13, q14, n34a, c35, pc35]
noncomputable def B_law13_DeletionQuorums_4 (pb1_1_0_4 : (List Int)) (pb1_1_1_4 : Int) (y3 : (S_api_Config × S_trustquorummake_Tape)) (y8 : S_api_Config) (p11_4 : Int) (y6 : (Int × S_trustquorummake_Tape)) (p8_4 : Int) (i33 : Nat) (x12_4 : Bool) (e34 : S_api_Member) : Option Bool :=
  kb (B_law13_DeletionQuorums_3 pb1_1_0_4 pb1_1_1_4 y3 y8 p11_4 x12_4 i33 y6 p8_4) fun z41 =>
  cnd z41 (
    some false) (
    some x12_4)
def I_law13_DeletionQuorums_4 (pb1_1_0_4 : (List Int)) (pb1_1_1_4 : Int) (y3 : (S_api_Config × S_trustquorummake_Tape)) (y8 : S_api_Config) (p11_4 : Int) (y6 : (Int × S_trustquorummake_Tape)) (p8_4 : Int) (i33 : Nat) (x12_4 : Bool) (q : St) : Prop := q (.t 11) = (i64 p11_4) ∧ q (.t 12) = (bl x12_4) ∧ q (.t 5) = (i64 (sub64 (shl64 1 (y3.1.f0.length : Int)) 1)) ∧ q (.t 6) = (i64 (and64 y6.1 (sub64 (shl64 1 (y3.1.f0.length : Int)) 1))) ∧ q (.t 8) = (i64 p8_4) ∧ q (.t 89) = (i64 (y3.1.f0.length : Int)) ∧ q (.t 90) = (i64 (i33 : Int)) ∧ (∃ (g : Nat), q (.t 3) = .ptr (.site 1 1 0) g 0 ∧ q (.i (.site 1 1 0)) = .box g [(.pv (.sl pb1_1_0_4.length (ints pb1_1_0_4))), (i64 pb1_1_1_4)]) ∧ (∃ (g : Nat), q (.t 4) = .ptr (.site 2 2 0) g 0 ∧ q (.i (.site 2 2 0)) = .box g [(.pv (.sl y3.1.f0.length (es_api_Member y3.1.f0)))]) ∧ (∃ (g : Nat), q (.t 7) = .ptr (.site 5 3 0) g 0 ∧ q (.i (.site 5 3 0)) = .box g [(.pv (.sl y8.f0.length (es_api_Member y8.f0)))])
def Q_law13_DeletionQuorums_4 (pb1_1_0_4 : (List Int)) (pb1_1_1_4 : Int) (y3 : (S_api_Config × S_trustquorummake_Tape)) (y8 : S_api_Config) (p11_4 : Int) (y6 : (Int × S_trustquorummake_Tape)) (p8_4 : Int) (x12_4 : Bool) (q : St) : Prop := q (.t 11) = (i64 p11_4) ∧ q (.t 12) = (bl x12_4) ∧ q (.t 5) = (i64 (sub64 (shl64 1 (y3.1.f0.length : Int)) 1)) ∧ q (.t 6) = (i64 (and64 y6.1 (sub64 (shl64 1 (y3.1.f0.length : Int)) 1))) ∧ q (.t 8) = (i64 p8_4) ∧ (∃ (g : Nat), q (.t 3) = .ptr (.site 1 1 0) g 0 ∧ q (.i (.site 1 1 0)) = .box g [(.pv (.sl pb1_1_0_4.length (ints pb1_1_0_4))), (i64 pb1_1_1_4)]) ∧ (∃ (g : Nat), q (.t 4) = .ptr (.site 2 2 0) g 0 ∧ q (.i (.site 2 2 0)) = .box g [(.pv (.sl y3.1.f0.length (es_api_Member y3.1.f0)))]) ∧ (∃ (g : Nat), q (.t 7) = .ptr (.site 5 3 0) g 0 ∧ q (.i (.site 5 3 0)) = .box g [(.pv (.sl y8.f0.length (es_api_Member y8.f0)))])
theorem Pb_law13_DeletionQuorums_4 {pb1_1_0_4 : (List Int)} {pb1_1_1_4 : Int} {y3 : (S_api_Config × S_trustquorummake_Tape)} {y8 : S_api_Config} {p11_4 : Int} {y6 : (Int × S_trustquorummake_Tape)} {p8_4 : Int} {i33 : Nat} {x12_4 : Bool} {e34 : S_api_Member} {q : St} {r : Bool} (hx : y3.1.f0[i33]? = some e34) (hi : i33 < y3.1.f0.length) (hn : y3.1.f0.length < 4611686018427387904) (hI : I_law13_DeletionQuorums_4 pb1_1_0_4 pb1_1_1_4 y3 y8 p11_4 y6 p8_4 i33 x12_4 q) (hB : B_law13_DeletionQuorums_4 pb1_1_0_4 pb1_1_1_4 y3 y8 p11_4 y6 p8_4 i33 x12_4 e34 = some r) : Res (C Tryd.prog cf (Code.fst (Code.fst (Code.snd (Code.fst (Code.snd (Code.snd (Code.snd (Code.snd (Code.snd (Code.fst (Code.fst (Code.snd (Code.fst (Code.fst (Code.snd (Code.fst (Code.snd (Code.snd (Code.snd (Code.snd (Code.snd (Code.snd (Code.snd ((Tryd.f7.body).getD .skip)))))))))))))))))))))))) q) (postG (fun a q => I_law13_DeletionQuorums_4 pb1_1_0_4 pb1_1_1_4 y3 y8 p11_4 y6 p8_4 (i33 + 1) a q) r) := by
  have hi3 : (i33 : Int) < (y3.1.f0.length : Int) := by omega
  have hi2 := decide_eq_true hi3
  have hi4 := idx_step hi hn
  have hi5 := ne_of_get hx
  simp only [I_law13_DeletionQuorums_4] at hI
  obtain ⟨q1, q2, q3, q4, q5, q6, q7, ⟨g9, q8, q9⟩, ⟨g11, q10, q11⟩, ⟨g13, q12, q13⟩⟩ := hI
  simp only [Code.fst, Code.snd, Tryd.f7, Option.getD_some]
  generalize hc3 : Code.region 20 _ _ = cc3
  unfold B_law13_DeletionQuorums_4 at hB
  try simp -implicitDefEqProofs [-getElem?_pos, -Int.ofNat_lt, -Int.ofNat_le, -Int.natCast_eq_zero, -Int.natCast_pos, -List.length_eq_zero_iff, List.getElem?_cons_zero, List.getElem?_cons_succ, List.getElem?_nil, q1, q2, q3, q4, q5, q6, q7, q8, q9, q10, q11, q12, q13, hx, hi2, hi3, hi4, hi5]
  generalize hz3 : C Tryd.prog cf cc3 _ = z3
  obtain ⟨z41, hB1, hB⟩ := kb_inv hB
  have hJ := P_law13_DeletionQuorums_3 (hc3.symm.trans (by kernel_rfl)) hz3 (by simp -implicitDefEqProofs [-getElem?_pos, -Int.ofNat_lt, -Int.ofNat_le, -Int.natCast_eq_zero, -Int.natCast_pos, -List.length_eq_zero_iff, List.getElem?_cons_zero, List.getElem?_cons_succ, List.getElem?_nil, and_assoc, J_law13_DeletionQuorums_3, ownAt, q1, q2, q3, q4, q5, q6, q7, q8, q9, q10, q11, q12, q13, hx, hi2, hi3, hi4, hi5]) hB1
  obtain ⟨e3, s3, rfl, hq⟩ := hJ.open
  clear hB1
  obtain ⟨rfl, hq⟩ := hq
  simp only [Q_law13_DeletionQuorums_3] at hq
  obtain ⟨q41_1, q41_2, q41_3, q41_4, q41_5, q41_6, q41_7, q41_8, ⟨g41_10, q41_9, q41_10⟩, ⟨g41_12, q41_11, q41_12⟩, ⟨g41_14, q41_13, q41_14⟩⟩ := hq
  rcases cnd_inv hB with ⟨c42, hB⟩ | ⟨c42, hB⟩
  · obtain rfl := Option.some.inj hB
    try simp -implicitDefEqProofs [-getElem?_pos, -Int.ofNat_lt, -Int.ofNat_le, -Int.natCast_eq_zero, -Int.natCast_pos, -List.length_eq_zero_iff, List.getElem?_cons_zero, List.getElem?_cons_succ, List.getElem?_nil, q41_1, q41_2, q41_3, q41_4, q41_5, q41_6, q41_7, q41_8, q41_9, q41_10, q41_11, q41_12, q41_13, q41_14, hx, hi2, hi3, hi4, hi5, c42]
    refine Res.g ?_
    simp -implicitDefEqProofs [-getElem?_pos, -Int.ofNat_lt, -Int.ofNat_le, -Int.natCast_eq_zero, -Int.natCast_pos, -List.length_eq_zero_iff, List.getElem?_cons_zero, List.getElem?_cons_succ, List.getElem?_nil, and_assoc, I_law13_DeletionQuorums_4, ownAt, q41_1, q41_2, q41_3, q41_4, q41_5, q41_6, q41_7, q41_8, q41_9, q41_10, q41_11, q41_12, q41_13, q41_14, hx, hi2, hi3, hi4, hi5, c42]
  · obtain rfl := Option.some.inj hB
    try simp -implicitDefEqProofs [-getElem?_pos, -Int.ofNat_lt, -Int.ofNat_le, -Int.natCast_eq_zero, -Int.natCast_pos, -List.length_eq_zero_iff, List.getElem?_cons_zero, List.getElem?_cons_succ, List.getElem?_nil, q41_1, q41_2, q41_3, q41_4, q41_5, q41_6, q41_7, q41_8, q41_9, q41_10, q41_11, q41_12, q41_13, q41_14, hx, hi2, hi3, hi4, hi5, c42]
    refine Res.g ?_
    simp -implicitDefEqProofs [-getElem?_pos, -Int.ofNat_lt, -Int.ofNat_le, -Int.natCast_eq_zero, -Int.natCast_pos, -List.length_eq_zero_iff, List.getElem?_cons_zero, List.getElem?_cons_succ, List.getElem?_nil, and_assoc, I_law13_DeletionQuorums_4, ownAt, q41_1, q41_2, q41_3, q41_4, q41_5, q41_6, q41_7, q41_8, q41_9, q41_10, q41_11, q41_12, q41_13, q41_14, hx, hi2, hi3, hi4, hi5, c42]
theorem Pe_law13_DeletionQuorums_4 {pb1_1_0_4 : (List Int)} {pb1_1_1_4 : Int} {y3 : (S_api_Config × S_trustquorummake_Tape)} {y8 : S_api_Config} {p11_4 : Int} {y6 : (Int × S_trustquorummake_Tape)} {p8_4 : Int} {x12_4 : Bool} {q : St} (hI : I_law13_DeletionQuorums_4 pb1_1_0_4 pb1_1_1_4 y3 y8 p11_4 y6 p8_4 y3.1.f0.length x12_4 q) : Res (C Tryd.prog cf (Code.fst (Code.fst (Code.snd (Code.fst (Code.snd (Code.snd (Code.snd (Code.snd (Code.snd (Code.fst (Code.fst (Code.snd (Code.fst (Code.fst (Code.snd (Code.fst (Code.snd (Code.snd (Code.snd (Code.snd (Code.snd (Code.snd (Code.snd ((Tryd.f7.body).getD .skip)))))))))))))))))))))))) q) fun e q' => e = .exit 2 ∧ Q_law13_DeletionQuorums_4 pb1_1_0_4 pb1_1_1_4 y3 y8 p11_4 y6 p8_4 x12_4 q' := by
  simp only [I_law13_DeletionQuorums_4] at hI
  obtain ⟨q1, q2, q3, q4, q5, q6, q7, ⟨g9, q8, q9⟩, ⟨g11, q10, q11⟩, ⟨g13, q12, q13⟩⟩ := hI
  simp only [Code.fst, Code.snd, Tryd.f7, Option.getD_some]
  simp -implicitDefEqProofs [-getElem?_pos, -Int.ofNat_lt, -Int.ofNat_le, -Int.natCast_eq_zero, -Int.natCast_pos, -List.length_eq_zero_iff, List.getElem?_cons_zero, List.getElem?_cons_succ, List.getElem?_nil, q1, q2, q3, q4, q5, q6, q7, q8, q9, q10, q11, q12, q13]
  refine Res.x ?_
  simp -implicitDefEqProofs [-getElem?_pos, -Int.ofNat_lt, -Int.ofNat_le, -Int.natCast_eq_zero, -Int.natCast_pos, -List.length_eq_zero_iff, List.getElem?_cons_zero, List.getElem?_cons_succ, List.getElem?_nil, and_assoc, Q_law13_DeletionQuorums_4, ownAt, q1, q2, q3, q4, q5, q6, q7, q8, q9, q10, q11, q12, q13]
theorem P_law13_DeletionQuorums_4 {pb1_1_0_4 : (List Int)} {pb1_1_1_4 : Int} {y3 : (S_api_Config × S_trustquorummake_Tape)} {y8 : S_api_Config} {p11_4 : Int} {y6 : (Int × S_trustquorummake_Tape)} {p8_4 : Int} {x12_4 : Bool} {cc : Code} (hcc : cc = .block 2 (.loop (Code.fst (Code.fst (Code.snd (Code.fst (Code.snd (Code.snd (Code.snd (Code.snd (Code.snd (Code.fst (Code.fst (Code.snd (Code.fst (Code.fst (Code.snd (Code.fst (Code.snd (Code.snd (Code.snd (Code.snd (Code.snd (Code.snd (Code.snd ((Tryd.f7.body).getD .skip)))))))))))))))))))))))))) {s : St} {z : Option (Ex × St)} (hz : C Tryd.prog cf cc s = z) {r : Bool} (hn : y3.1.f0.length < 4611686018427387904) (hI : I_law13_DeletionQuorums_4 pb1_1_0_4 pb1_1_1_4 y3 y8 p11_4 y6 p8_4 0 x12_4 s) (hB : foldO (fun i a x => B_law13_DeletionQuorums_4 pb1_1_0_4 pb1_1_1_4 y3 y8 p11_4 y6 p8_4 i a x) 0 x12_4 y3.1.f0 = some r) : Res z (postG (fun a q => Q_law13_DeletionQuorums_4 pb1_1_0_4 pb1_1_1_4 y3 y8 p11_4 y6 p8_4 a q) r) := by
  subst hcc
  exact fold_sim (I := fun i a q => I_law13_DeletionQuorums_4 pb1_1_0_4 pb1_1_1_4 y3 y8 p11_4 y6 p8_4 i a q) (Q := (fun a q => Q_law13_DeletionQuorums_4 pb1_1_0_4 pb1_1_1_4 y3 y8 p11_4 y6 p8_4 a q)) (fun i x a q r hx hi h hB => Pb_law13_DeletionQuorums_4 hx hi hn h hB) (fun a q h => Pe_law13_DeletionQuorums_4 h) hI hz hB
noncomputable def B_law13_DeletionQuorums_5 (y3 : (S_api_Config × S_trustquorummake_Tape)) (y8 : S_api_Config) (y6 : (Int × S_trustquorummake_Tape)) (xb1_1_0_5 : (List Int)) (xb1_1_1_5 : Int) (x8_5 : Int) : Option (Stp ((List Int) × Int × Int) Unit) :=
  cnd (decide (x8_5 < 12)) (
    kb (G_make_Tape_N (S_trustquorummake_Tape.mk xb1_1_0_5 xb1_1_1_5) 256) fun y21 =>
    kb (G_ref09_Greatest y3.1 (and64 y21.1 (sub64 (shl64 1 (y3.1.f0.length : Int)) 1))) fun y23 =>
    kb (B_law13_DeletionQuorums_1 y21.2.f0 y21.2.f1 y3 y8 y23 y6 x8_5 (and64 y21.1 (sub64 (shl64 1 (y3.1.f0.length : Int)) 1))) fun z28 =>
    cnd z28 (
      some (.ret ())) (
      kb (B_law13_DeletionQuorums_2 y21.2.f0 y21.2.f1 y3 y8 (andn64 (and64 y21.1 (sub64 (shl64 1 (y3.1.f0.length : Int)) 1)) (and64 y6.1 (sub64 (shl64 1 (y3.1.f0.length : Int)) 1))) y6 x8_5) fun z33 =>
      kb (smallK y3.1.f0) fun _ =>
      kb (foldO (fun i a x => B_law13_DeletionQuorums_4 y21.2.f0 y21.2.f1 y3 y8 (andn64 (and64 y21.1 (sub64 (shl64 1 (y3.1.f0.length : Int)) 1)) (and64 y6.1 (sub64 (shl64 1 (y3.1.f0.length : Int)) 1))) y6 x8_5 i a x) 0 z33 y3.1.f0) fun z43 =>
      kb (G_ref09_Quorum y8 (andn64 (and64 y21.1 (sub64 (shl64 1 (y3.1.f0.length : Int)) 1)) (and64 y6.1 (sub64 (shl64 1 (y3.1.f0.length : Int)) 1)))) fun y44 =>
      cnd (y44 == z43) (
        some (.go (y21.2.f0, y21.2.f1, (add64 x8_5 1)))) (
        some (.ret ())))) (
    some (.ex 0 (xb1_1_0_5, xb1_1_1_5, x8_5)))
def I_law13_DeletionQuorums_5 (y3 : (S_api_Config × S_trustquorummake_Tape)) (y8 : S_api_Config) (y6 : (Int × S_trustquorummake_Tape)) (xb1_1_0_5 : (List Int)) (xb1_1_1_5 : Int) (x8_5 : Int) (q : St) : Prop := q (.t 5) = (i64 (sub64 (shl64 1 (y3.1.f0.length : Int)) 1)) ∧ q (.t 6) = (i64 (and64 y6.1 (sub64 (shl64 1 (y3.1.f0.length : Int)) 1))) ∧ q (.t 8) = (i64 x8_5) ∧ (∃ (g : Nat), q (.t 3) = .ptr (.site 1 1 0) g 0 ∧ q (.i (.site 1 1 0)) = .box g [(.pv (.sl xb1_1_0_5.length (ints xb1_1_0_5))), (i64 xb1_1_1_5)]) ∧ (∃ (g : Nat), q (.t 4) = .ptr (.site 2 2 0) g 0 ∧ q (.i (.site 2 2 0)) = .box g [(.pv (.sl y3.1.f0.length (es_api_Member y3.1.f0)))]) ∧ (∃ (g : Nat), q (.t 7) = .ptr (.site 5 3 0) g 0 ∧ q (.i (.site 5 3 0)) = .box g [(.pv (.sl y8.f0.length (es_api_Member y8.f0)))])
def Q_law13_DeletionQuorums_5 (y3 : (S_api_Config × S_trustquorummake_Tape)) (y8 : S_api_Config) (y6 : (Int × S_trustquorummake_Tape)) (xb1_1_0_5 : (List Int)) (xb1_1_1_5 : Int) (x8_5 : Int) (q : St) : Prop := True
def QR_law13_DeletionQuorums_5 (y3 : (S_api_Config × S_trustquorummake_Tape)) (y8 : S_api_Config) (y6 : (Int × S_trustquorummake_Tape)) (q : St) : Prop := q (.t 2) = (bl false)
theorem Pb_law13_DeletionQuorums_5 {y3 : (S_api_Config × S_trustquorummake_Tape)} {y8 : S_api_Config} {y6 : (Int × S_trustquorummake_Tape)} {xb1_1_0_5 : (List Int)} {xb1_1_1_5 : Int} {x8_5 : Int} {q : St} {r : (Stp ((List Int) × Int × Int) Unit)} (hI : I_law13_DeletionQuorums_5 y3 y8 y6 xb1_1_0_5 xb1_1_1_5 x8_5 q) (hB : B_law13_DeletionQuorums_5 y3 y8 y6 xb1_1_0_5 xb1_1_1_5 x8_5 = some r) : Res (C Tryd.prog cf (Code.fst (Code.fst (Code.snd (Code.fst (Code.snd (Code.snd (Code.snd (Code.snd (Code.snd (Code.snd (Code.snd ((Tryd.f7.body).getD .skip)))))))))))) q) (postB 0 (fun a q => I_law13_DeletionQuorums_5 y3 y8 y6 a.1 a.2.1 a.2.2 q) (fun a q => Q_law13_DeletionQuorums_5 y3 y8 y6 a.1 a.2.1 a.2.2 q) (fun a q => QR_law13_DeletionQuorums_5 y3 y8 y6 q) r) := by
  simp only [I_law13_DeletionQuorums_5] at hI
  obtain ⟨q1, q2, q3, ⟨g5, q4, q5⟩, ⟨g7, q6, q7⟩, ⟨g9, q8, q9⟩⟩ := hI
  simp only [Code.fst, Code.snd, Tryd.f7, Option.getD_some]
  generalize hc1 : Code.region 13 _ _ = cc1
  generalize hc2 : Code.region 16 _ _ = cc2
  generalize hc4 : Code.block 2 _ = cc4
  unfold B_law13_DeletionQuorums_5 at hB
  rcases cnd_inv hB with ⟨c20, hB⟩ | ⟨c20, hB⟩
  · have pc20 := eq_true (of_decide_eq_true c20)
    obtain ⟨y21, k22, hB⟩ := kb_inv hB
    replace k22 := run_make_Tape_N k22
    try simp only [Int.cast_ofNat_Int, Int.natCast_zero, List.length_cons, List.length_nil, List.nil_append, List.cons_append, Nat.zero_add, Nat.reduceAdd, Tru.thr_mk, Tru.nodes_mk, Tru.inner_mk, ints_cons, ints_nil, encTs_cons, encTs_nil, es_api_Config_cons, es_api_Config_nil, es_api_Member_cons, es_api_Member_nil] at k22
    try dsimp only at hB
    obtain ⟨y23, k24, hB⟩ := kb_inv hB
    replace k24 := run_ref09_Greatest k24
    try simp only [Int.cast_ofNat_Int, Int.natCast_zero, List.length_cons, List.length_nil, List.nil_append, List.cons_append, Nat.zero_add, Nat.reduceAdd, Tru.thr_mk, Tru.nodes_mk, Tru.inner_mk, ints_cons, ints_nil, encTs_cons, encTs_nil, es_api_Config_cons, es_api_Config_nil, es_api_Member_cons, es_api_Member_nil] at k24
    try dsimp only at hB
    try simp -implicitDefEqProofs [-getElem?_pos, -Int.ofNat_lt, -Int.ofNat_le, -Int.natCast_eq_zero, -Int.natCast_pos, -List.length_eq_zero_iff, List.getElem?_cons_zero, List.getElem?_cons_succ, List.getElem?_nil, q1, q2, q3, q4, q5, q6, q7, q8, q9, c20, pc20, k22, k24]
    generalize hz1 : C Tryd.prog cf cc1 _ = z1
    obtain ⟨z28, hB1, hB⟩ := kb_inv hB
    have hJ := P_law13_DeletionQuorums_1 (hc1.symm.trans (by kernel_rfl)) hz1 (by simp -implicitDefEqProofs [-getElem?_pos, -Int.ofNat_lt, -Int.ofNat_le, -Int.natCast_eq_zero, -Int.natCast_pos, -List.length_eq_zero_iff, List.getElem?_cons_zero, List.getElem?_cons_succ, List.getElem?_nil, and_assoc, J_law13_DeletionQuorums_1, ownAt, q1, q2, q3, q4, q5, q6, q7, q8, q9, c20, pc20, k22, k24]) hB1
    obtain ⟨e1, s1, rfl, hq⟩ := hJ.open
    clear hB1
    obtain ⟨rfl, hq⟩ := hq
    simp only [Q_law13_DeletionQuorums_1] at hq
    obtain ⟨q28_1, q28_2, q28_3, q28_4, q28_5, ⟨g28_7, q28_6, q28_7⟩, ⟨g28_9, q28_8, q28_9⟩, ⟨g28_11, q28_10, q28_11⟩⟩ := hq
    rcases cnd_inv hB with ⟨c29, hB⟩ | ⟨c29, hB⟩
    · obtain rfl := Option.some.inj hB
      try simp -implicitDefEqProofs [-getElem?_pos, -Int.ofNat_lt, -Int.ofNat_le, -Int.natCast_eq_zero, -Int.natCast_pos, -List.length_eq_zero_iff, List.getElem?_cons_zero, List.getElem?_cons_succ, List.getElem?_nil, q28_1, q28_2, q28_3, q28_4, q28_5, q28_6, q28_7, q28_8, q28_9, q28_10, q28_11, c20, pc20, k22, k24, c29]
      refine Res.bret ?_
      simp -implicitDefEqProofs [-getElem?_pos, -Int.ofNat_lt, -Int.ofNat_le, -Int.natCast_eq_zero, -Int.natCast_pos, -List.length_eq_zero_iff, List.getElem?_cons_zero, List.getElem?_cons_succ, List.getElem?_nil, and_assoc, QR_law13_DeletionQuorums_5, ownAt, q28_1, q28_2, q28_3, q28_4, q28_5, q28_6, q28_7, q28_8, q28_9, q28_10, q28_11, c20, pc20, k22, k24, c29]
    · try simp -implicitDefEqProofs [-getElem?_pos, -Int.ofNat_lt, -Int.ofNat_le, -Int.natCast_eq_zero, -Int.natCast_pos, -List.length_eq_zero_iff, List.getElem?_cons_zero, List.getElem?_cons_succ, List.getElem?_nil, q28_1, q28_2, q28_3, q28_4, q28_5, q28_6, q28_7, q28_8, q28_9, q28_10, q28_11, c20, pc20, k22, k24, c29]
      generalize hz2 : C Tryd.prog cf cc2 _ = z2
      obtain ⟨z33, hB1, hB⟩ := kb_inv hB
      have hJ := P_law13_DeletionQuorums_2 (hc2.symm.trans (by kernel_rfl)) hz2 (by simp -implicitDefEqProofs [-getElem?_pos, -Int.ofNat_lt, -Int.ofNat_le, -Int.natCast_eq_zero, -Int.natCast_pos, -List.length_eq_zero_iff, List.getElem?_cons_zero, List.getElem?_cons_succ, List.getElem?_nil, and_assoc, J_law13_DeletionQuorums_2, ownAt, q28_1, q28_2, q28_3, q28_4, q28_5, q28_6, q28_7, q28_8, q28_9, q28_10, q28_11, c20, pc20, k22, k24, c29]) hB1
      obtain ⟨e2, s2, rfl, hq⟩ := hJ.open
      clear hB1
      obtain ⟨rfl, hq⟩ := hq
      simp only [Q_law13_DeletionQuorums_2] at hq
      obtain ⟨q33_1, q33_2, q33_3, q33_4, q33_5, ⟨g33_7, q33_6, q33_7⟩, ⟨g33_9, q33_8, q33_9⟩, ⟨g33_11, q33_10, q33_11⟩⟩ := hq
      try simp -implicitDefEqProofs [-getElem?_pos, -Int.ofNat_lt, -Int.ofNat_le, -Int.natCast_eq_zero, -Int.natCast_pos, -List.length_eq_zero_iff, List.getElem?_cons_zero, List.getElem?_cons_succ, List.getElem?_nil, q33_1, q33_2, q33_3, q33_4, q33_5, q33_6, q33_7, q33_8, q33_9, q33_10, q33_11, c20, pc20, k22, k24, c29]
      generalize hz4 : C Tryd.prog cf cc4 _ = z4
      obtain ⟨_, hsm, hB⟩ := kb_inv hB
      obtain ⟨z43, hB1, hB⟩ := kb_inv hB
      have hJ := P_law13_DeletionQuorums_4 (hc4.symm.trans (by kernel_rfl)) hz4 (smallK_inv hsm) (by simp -implicitDefEqProofs [-getElem?_pos, -Int.ofNat_lt, -Int.ofNat_le, -Int.natCast_eq_zero, -Int.natCast_pos, -List.length_eq_zero_iff, List.getElem?_cons_zero, List.getElem?_cons_succ, List.getElem?_nil, and_assoc, I_law13_DeletionQuorums_4, ownAt, q33_1, q33_2, q33_3, q33_4, q33_5, q33_6, q33_7, q33_8, q33_9, q33_10, q33_11, c20, pc20, k22, k24, c29]) hB1
      obtain ⟨e4, s4, rfl, hq⟩ := hJ.open
      clear hB1
      obtain ⟨rfl, hq⟩ := hq
      simp only [Q_law13_DeletionQuorums_4] at hq
      obtain ⟨q43_1, q43_2, q43_3, q43_4, q43_5, ⟨g43_7, q43_6, q43_7⟩, ⟨g43_9, q43_8, q43_9⟩, ⟨g43_11, q43_10, q43_11⟩⟩ := hq
      obtain ⟨y44, k45, hB⟩ := kb_inv hB
      replace k45 := run_ref09_Quorum k45
      try simp only [Int.cast_ofNat_Int, Int.natCast_zero, List.length_cons, List.length_nil, List.nil_append, List.cons_append, Nat.zero_add, Nat.reduceAdd, Tru.thr_mk, Tru.nodes_mk, Tru.inner_mk, ints_cons, ints_nil, encTs_cons, encTs_nil, es_api_Config_cons, es_api_Config_nil, es_api_Member_cons, es_api_Member_nil, c29] at k45
      try dsimp only at hB
      rcases cnd_inv hB with ⟨c46, hB⟩ | ⟨c46, hB⟩
      · obtain rfl := Option.some.inj hB
        try simp -implicitDefEqProofs [-getElem?_pos, -Int.ofNat_lt, -Int.ofNat_le, -Int.natCast_eq_zero, -Int.natCast_pos, -List.length_eq_zero_iff, List.getElem?_cons_zero, List.getElem?_cons_succ, List.getElem?_nil, q43_1, q43_2, q43_3, q43_4, q43_5, q43_6, q43_7, q43_8, q43_9, q43_10, q43_11, c20, pc20, k22, k24, c29, k45, c46]
        refine Res.bgo ?_
        simp -implicitDefEqProofs [-getElem?_pos, -Int.ofNat_lt, -Int.ofNat_le, -Int.natCast_eq_zero, -Int.natCast_pos, -List.length_eq_zero_iff, List.getElem?_cons_zero, List.getElem?_cons_succ, List.getElem?_nil, and_assoc, I_law13_DeletionQuorums_5, ownAt, q43_1, q43_2, q43_3, q43_4, q43_5, q43_6, q43_7, q43_8, q43_9, q43_10, q43_11, c20, pc20, k22, k24, c29, k45, c46]
      · obtain rfl := Option.some.inj hB
        try simp -implicitDefEqProofs [-getElem?_pos, -Int.ofNat_lt, -Int.ofNat_le, -Int.natCast_eq_zero, -Int.natCast_pos, -List.length_eq_zero_iff, List.getElem?_cons_zero, List.getElem?_cons_succ, List.getElem?_nil, q43_1, q43_2, q43_3, q43_4, q43_5, q43_6, q43_7, q43_8, q43_9, q43_10, q43_11, c20, pc20, k22, k24, c29, k45, c46]
        refine Res.bret ?_
        simp -implicitDefEqProofs [-getElem?_pos, -Int.ofNat_lt, -Int.ofNat_le, -Int.natCast_eq_zero, -Int.natCast_pos, -List.length_eq_zero_iff, List.getElem?_cons_zero, List.getElem?_cons_succ, List.getElem?_nil, and_assoc, QR_law13_DeletionQuorums_5, ownAt, q43_1, q43_2, q43_3, q43_4, q43_5, q43_6, q43_7, q43_8, q43_9, q43_10, q43_11, c20, pc20, k22, k24, c29, k45, c46]
  · have pc20 := eq_false (of_decide_eq_false c20)
    obtain rfl := Option.some.inj hB
    try simp -implicitDefEqProofs [-getElem?_pos, -Int.ofNat_lt, -Int.ofNat_le, -Int.natCast_eq_zero, -Int.natCast_pos, -List.length_eq_zero_iff, List.getElem?_cons_zero, List.getElem?_cons_succ, List.getElem?_nil, q1, q2, q3, q4, q5, q6, q7, q8, q9, c20, pc20]
    refine Res.bex ?_
    simp -implicitDefEqProofs [-getElem?_pos, -Int.ofNat_lt, -Int.ofNat_le, -Int.natCast_eq_zero, -Int.natCast_pos, -List.length_eq_zero_iff, List.getElem?_cons_zero, List.getElem?_cons_succ, List.getElem?_nil, and_assoc, Q_law13_DeletionQuorums_5, ownAt, q1, q2, q3, q4, q5, q6, q7, q8, q9, c20, pc20]
theorem P_law13_DeletionQuorums_5 {y3 : (S_api_Config × S_trustquorummake_Tape)} {y8 : S_api_Config} {y6 : (Int × S_trustquorummake_Tape)} {xb1_1_0_5 : (List Int)} {xb1_1_1_5 : Int} {x8_5 : Int} {cc : Code} (hcc : cc = .block 0 (.loop (Code.fst (Code.fst (Code.snd (Code.fst (Code.snd (Code.snd (Code.snd (Code.snd (Code.snd (Code.snd (Code.snd ((Tryd.f7.body).getD .skip)))))))))))))) {s : St} {z : Option (Ex × St)} (hz : C Tryd.prog cf cc s = z) {r : (Stp ((List Int) × Int × Int) Unit)} (hI : I_law13_DeletionQuorums_5 y3 y8 y6 xb1_1_0_5 xb1_1_1_5 x8_5 s) (hB : iterW (fun a => B_law13_DeletionQuorums_5 y3 y8 y6 a.1 a.2.1 a.2.2) (xb1_1_0_5, xb1_1_1_5, x8_5) = some r) : Res z (postS (fun a q => Q_law13_DeletionQuorums_5 y3 y8 y6 a.1 a.2.1 a.2.2 q) (fun a q => QR_law13_DeletionQuorums_5 y3 y8 y6 q) r) := by
  subst hcc
  exact while_sim (I := fun a q => I_law13_DeletionQuorums_5 y3 y8 y6 a.1 a.2.1 a.2.2 q) (Q := (fun a q => Q_law13_DeletionQuorums_5 y3 y8 y6 a.1 a.2.1 a.2.2 q)) (QR := (fun a q => QR_law13_DeletionQuorums_5 y3 y8 y6 q)) (fun a q r h hB => Pb_law13_DeletionQuorums_5 h hB) hI hz hB
noncomputable def B_law13_DeletionQuorums (p0 : (List Int)) : Option Bool :=
  kb (G_make_New p0) fun y1 =>
  kb (G_make_Config y1 8) fun y3 =>
  kb (mustK (¬ (y3.1.f0.length : Int) < 0)) fun _ =>
  kb (G_make_Tape_N y3.2 256) fun y6 =>
  kb (G_deletion_Delete y3.1 (and64 y6.1 (sub64 (shl64 1 (y3.1.f0.length : Int)) 1))) fun y8 =>
  kb (B_law13_DeletionQuorums_0 y6 y3 y8) fun z18 =>
  cnd z18 (
    some false) (
    kb (iterW (fun a => B_law13_DeletionQuorums_5 y3 y8 y6 a.1 a.2.1 a.2.2) (y6.2.f0, y6.2.f1, 0)) fun o => stpK o (fun z47 =>
      kb (G_law13_awake ) fun y48 =>
      some y48) (fun z47r =>
      some false))
theorem sim_law13_DeletionQuorums {p0 : (List Int)} {r : Bool} (hB : B_law13_DeletionQuorums p0 = some r) : R 7 [(.pv (.sl p0.length (ints p0)))] [] = some ((bl r), [], []) := by
  rw [R_eq _ _ _ fn_law13_DeletionQuorums]
  simp only [Code.fst, Code.snd, Tryd.f7, Option.getD_some]
  generalize hc0 : Code.region 6 _ _ = cc0
  generalize hc5 : Code.block 0 _ = cc5
  unfold B_law13_DeletionQuorums at hB
  obtain ⟨y1, k2, hB⟩ := kb_inv hB
  replace k2 := run_make_New k2
  try simp only [Int.cast_ofNat_Int, Int.natCast_zero, List.length_cons, List.length_nil, List.nil_append, List.cons_append, Nat.zero_add, Nat.reduceAdd, Tru.thr_mk, Tru.nodes_mk, Tru.inner_mk, ints_cons, ints_nil, encTs_cons, encTs_nil, es_api_Config_cons, es_api_Config_nil, es_api_Member_cons, es_api_Member_nil] at k2
  try dsimp only at hB
  obtain ⟨y3, k4, hB⟩ := kb_inv hB
  replace k4 := run_make_Config k4
  try simp only [Int.cast_ofNat_Int, Int.natCast_zero, List.length_cons, List.length_nil, List.nil_append, List.cons_append, Nat.zero_add, Nat.reduceAdd, Tru.thr_mk, Tru.nodes_mk, Tru.inner_mk, ints_cons, ints_nil, encTs_cons, encTs_nil, es_api_Config_cons, es_api_Config_nil, es_api_Member_cons, es_api_Member_nil] at k4
  try dsimp only at hB
  obtain ⟨_, n5, hB⟩ := kb_inv hB
  have n5a := mustK_inv n5
  try dsimp only at hB
  obtain ⟨y6, k7, hB⟩ := kb_inv hB
  replace k7 := run_make_Tape_N k7
  try simp only [Int.cast_ofNat_Int, Int.natCast_zero, List.length_cons, List.length_nil, List.nil_append, List.cons_append, Nat.zero_add, Nat.reduceAdd, Tru.thr_mk, Tru.nodes_mk, Tru.inner_mk, ints_cons, ints_nil, encTs_cons, encTs_nil, es_api_Config_cons, es_api_Config_nil, es_api_Member_cons, es_api_Member_nil] at k7
  try dsimp only at hB
  obtain ⟨y8, k9, hB⟩ := kb_inv hB
  replace k9 := run_deletion_Delete k9
  try simp only [Int.cast_ofNat_Int, Int.natCast_zero, List.length_cons, List.length_nil, List.nil_append, List.cons_append, Nat.zero_add, Nat.reduceAdd, Tru.thr_mk, Tru.nodes_mk, Tru.inner_mk, ints_cons, ints_nil, encTs_cons, encTs_nil, es_api_Config_cons, es_api_Config_nil, es_api_Member_cons, es_api_Member_nil] at k9
  try dsimp only at hB
  try simp -implicitDefEqProofs [-getElem?_pos, -Int.ofNat_lt, -Int.ofNat_le, -Int.natCast_eq_zero, -Int.natCast_pos, -List.length_eq_zero_iff, List.getElem?_cons_zero, List.getElem?_cons_succ, List.getElem?_nil, k2, k4, n5a, k7, k9]
  generalize hz0 : C Tryd.prog cf cc0 _ = z0
  obtain ⟨z18, hB1, hB⟩ := kb_inv hB
  have hJ := P_law13_DeletionQuorums_0 (hc0.symm.trans (by kernel_rfl)) hz0 (by simp -implicitDefEqProofs [-getElem?_pos, -Int.ofNat_lt, -Int.ofNat_le, -Int.natCast_eq_zero, -Int.natCast_pos, -List.length_eq_zero_iff, List.getElem?_cons_zero, List.getElem?_cons_succ, List.getElem?_nil, and_assoc, J_law13_DeletionQuorums_0, ownAt, k2, k4, n5a, k7, k9]) hB1
  obtain ⟨e0, s0, rfl, hq⟩ := hJ.open
  clear hB1
  obtain ⟨rfl, hq⟩ := hq
  simp only [Q_law13_DeletionQuorums_0] at hq
  obtain ⟨q18_1, q18_2, q18_3, ⟨g18_5, q18_4, q18_5⟩, ⟨g18_7, q18_6, q18_7⟩, ⟨g18_9, q18_8, q18_9⟩⟩ := hq
  rcases cnd_inv hB with ⟨c19, hB⟩ | ⟨c19, hB⟩
  · obtain rfl := Option.some.inj hB
    simp -implicitDefEqProofs [-getElem?_pos, -Int.ofNat_lt, -Int.ofNat_le, -Int.natCast_eq_zero, -Int.natCast_pos, -List.length_eq_zero_iff, List.getElem?_cons_zero, List.getElem?_cons_succ, List.getElem?_nil, q18_1, q18_2, q18_3, q18_4, q18_5, q18_6, q18_7, q18_8, q18_9, k2, k4, n5a, k7, k9, c19]
  · try simp -implicitDefEqProofs [-getElem?_pos, -Int.ofNat_lt, -Int.ofNat_le, -Int.natCast_eq_zero, -Int.natCast_pos, -List.length_eq_zero_iff, List.getElem?_cons_zero, List.getElem?_cons_succ, List.getElem?_nil, q18_1, q18_2, q18_3, q18_4, q18_5, q18_6, q18_7, q18_8, q18_9, k2, k4, n5a, k7, k9, c19]
    generalize hz5 : C Tryd.prog cf cc5 _ = z5
    obtain ⟨o, hB1, hB⟩ := kb_inv hB
    have hJ := P_law13_DeletionQuorums_5 (hc5.symm.trans (by kernel_rfl)) hz5 (by simp -implicitDefEqProofs [-getElem?_pos, -Int.ofNat_lt, -Int.ofNat_le, -Int.natCast_eq_zero, -Int.natCast_pos, -List.length_eq_zero_iff, List.getElem?_cons_zero, List.getElem?_cons_succ, List.getElem?_nil, and_assoc, I_law13_DeletionQuorums_5, ownAt, q18_1, q18_2, q18_3, q18_4, q18_5, q18_6, q18_7, q18_8, q18_9, k2, k4, n5a, k7, k9, c19]) hB1
    obtain ⟨e5, s5, rfl, hq⟩ := hJ.open
    clear hB1
    rcases o with z47 | ⟨_, _⟩ | z47r
    · simp only [stpK_go] at hB
      obtain ⟨rfl, hq⟩ := hq
      simp only [Q_law13_DeletionQuorums_5] at hq
      obtain ⟨y48, k49, hB⟩ := kb_inv hB
      replace k49 := run_law13_awake k49
      try simp only [Int.cast_ofNat_Int, Int.natCast_zero, List.length_cons, List.length_nil, List.nil_append, List.cons_append, Nat.zero_add, Nat.reduceAdd, Tru.thr_mk, Tru.nodes_mk, Tru.inner_mk, ints_cons, ints_nil, encTs_cons, encTs_nil, es_api_Config_cons, es_api_Config_nil, es_api_Member_cons, es_api_Member_nil, c19] at k49
      try dsimp only at hB
      obtain rfl := Option.some.inj hB
      simp -implicitDefEqProofs [-getElem?_pos, -Int.ofNat_lt, -Int.ofNat_le, -Int.natCast_eq_zero, -Int.natCast_pos, -List.length_eq_zero_iff, List.getElem?_cons_zero, List.getElem?_cons_succ, List.getElem?_nil, k2, k4, n5a, k7, k9, c19, k49]
    · exact hq.elim
    · simp only [stpK_ret] at hB
      obtain ⟨rfl, hq⟩ := hq
      simp only [QR_law13_DeletionQuorums_5] at hq
      have q47_r1 := hq
      obtain rfl := Option.some.inj hB
      simp -implicitDefEqProofs [-getElem?_pos, -Int.ofNat_lt, -Int.ofNat_le, -Int.natCast_eq_zero, -Int.natCast_pos, -List.length_eq_zero_iff, List.getElem?_cons_zero, List.getElem?_cons_succ, List.getElem?_nil, q47_r1, k2, k4, n5a, k7, k9, c19]
theorem g_law13_DeletionQuorums {p0 : (List Int)} {r : Bool} (hB : B_law13_DeletionQuorums p0 = some r) : G_law13_DeletionQuorums p0 = some r := dec_of (fun a b h => by rcases a with a0_; rcases b with b0_; simp at h; simp [*]) (sim_law13_DeletionQuorums hB)
end Go.Am

/-
The plain law of DeletionQuorums.
-/
namespace Go.Am
open Go
set_option linter.unusedVariables false
set_option linter.unusedSimpArgs false

/-- the set of the nodes below n -/
theorem set_below {n : Nat} (h : n ≤ 10) : setB (sub64 (shl64 1 (n : Int)) 1) = true ∧ ∀ j, hasS (sub64 (shl64 1 (n : Int)) 1) j = (decide (0 ≤ j ∧ j < 10) && decide (j < (n : Int))) := by
  have hp : 2 ^ n ≤ 2 ^ 10 := Nat.pow_le_pow_right (by omega) h
  have hq : 0 < 2 ^ n := Nat.pow_pos (by omega)
  have e : sub64 (shl64 1 (n : Int)) 1 = ((2 ^ n - 1 : Nat) : Int) := by
    rw [shl64_one (by omega), sub64_of (by omega) (by omega)]
    omega
  rw [e]
  have hlt : 2 ^ n - 1 < 1024 := by omega
  refine ⟨nat_set hlt, fun j => ?_⟩
  rw [has_nat hlt, Nat.testBit_two_pow_sub_one]
  by_cases hj : 0 ≤ j ∧ j < 10
  · obtain ⟨i, rfl⟩ := Int.eq_ofNat_of_zero_le hj.1
    simp only [hj, and_self, decide_true, Bool.true_and, Int.toNat_natCast, decide_eq_decide]
    simp
  · simp [hj]
theorem lt_pow {m : Int} {n : Nat} (hm : setB m = true) (hn : n ≤ 10) (h : ∀ j, hasS m j = true → j < (n : Int)) : m < shl64 1 (n : Int) := by
  obtain ⟨a, rfl, ha⟩ := set_nat hm
  rw [shl64_one (by omega)]
  have : a < 2 ^ n := by
    apply Nat.lt_pow_two_of_testBit
    intro i hi
    by_cases h10 : i < 10
    · cases hb : a.testBit i
      · rfl
      · have := h (i : Int) (by rw [has_nat ha]; simp [hb]; omega)
        omega
    · exact Nat.testBit_lt_two_pow (Nat.lt_of_lt_of_le ha (by
        have : 2 ^ 10 ≤ 2 ^ i := Nat.pow_le_pow_right (by omega) (by omega)
        omega))
  omega
theorem bel_in {n j : Int} : ∀ x : Tru, belT n x → inT j x = true → 0 ≤ j ∧ j < n := by
  refine tru_ind fun t l i ih h hj => ?_
  obtain ⟨h1, h2⟩ := h
  rw [belTs_iff] at h2
  simp only [inT, inTs_eq, Bool.or_eq_true, List.any_eq_true] at hj
  rcases hj with hj | ⟨y, hy, hj⟩
  · exact h1 j (List.contains_iff_mem.1 hj)
  · exact ih y hy (h2 y hy) hj
theorem lv_in' {s j : Int} : ∀ x : Tru, inT j (lvT s x) = true → inT j x = true := by
  refine tru_ind fun t n i ih h => ?_
  simp only [lvT, lvTs_eq, inT, inTs_eq, Bool.or_eq_true, List.any_eq_true] at h ⊢
  rcases h with h | ⟨y, hy, h⟩
  · exact .inl (List.contains_iff_mem.2 (List.mem_filter.1 (List.contains_iff_mem.1 h)).1)
  · obtain ⟨x, hx, rfl⟩ := List.mem_map.1 (List.mem_filter.1 hy).1
    exact .inr ⟨x, hx, ih x hx h⟩
theorem del_in' {s k j : Int} {x : Tru} (h : inT j (delT s k x) = true) : inT j x = true ∨ j = k := by
  unfold delT at h
  split at h
  · split at h
    · right; simpa [inT, inTs] using h
    · exact .inl (lv_in' x h)
  · exact .inl h
/-- a configuration stays valid -/
theorem del_cvalid {c : Conf} (h10 : c.f0.length ≤ 10) (hc : ∀ m ∈ c.f0, MemOk (c.f0.length : Int) m) {s : Int} : G_ref06_Valid (delC s c) = some 0 := by
  refine g_ref06_Valid ?_
  have hlen : (delC s c).f0.length = c.f0.length := by simp [delC]
  unfold B_ref06_Valid
  rw [hlen]
  rw [show decide (10 < (c.f0.length : Int)) = false by simp; omega, cnd_false, smallK_some (by rw [hlen]; omega), kb_some]
  have hone : ∀ (i : Nat) (x : Mem), (delC s c).f0[i]? = some x → B_ref06_Valid_0 (delC s c) i x = some (.go ()) := by
    intro i x hx
    have hi := (List.getElem?_eq_some_iff.1 hx).1
    rw [hlen] at hi
    have hxe : x = delM s i c.f0[i] := by
      have := (List.getElem?_eq_some_iff.1 hx).2
      rw [← this]
      simp [delC]
    have hmem := hc _ (List.getElem_mem hi)
    have hzero : B_ref06_Valid_0 (delC s c) i mem0 = some (.go ()) := by
      unfold B_ref06_Valid_0
      have hf : mem0.f1.Fine := MemOk_Fine (n := 1) (.inr rfl)
      obtain ⟨v, e1, e2⟩ := s_ref02_Same mem0.f1 hf (.mk 0 [] [])
      have : v = true := e2.2 rfl
      show cnd false _ _ = _
      rw [cnd_false, e1, kb_some, this, cnd_true]
    have hdecl : ∀ y : Tru, valB y = true → y.Fine → (∀ j, inT j y = true → j < (c.f0.length : Int)) → B_ref06_Valid_0 (delC s c) i ⟨true, y⟩ = some (.go ()) := by
      intro y hv hf hb
      unfold B_ref06_Valid_0
      obtain ⟨e, e1, e2⟩ := s_ref02_Valid hf
      obtain ⟨m, m1, m2, m3⟩ := s_ref02_Uses y hf
      have hlt : m < shl64 1 (c.f0.length : Int) := lt_pow m2 h10 fun j hj => by
        rw [m3, Bool.and_eq_true] at hj
        exact hb j hj.2
      dsimp only
      rw [cnd_true, e1, kb_some, e2.2 hv]
      simp only [decide_true, cnd_true]
      rw [m1, kb_some, mustK_some (by omega), kb_some, hlen]
      rw [show decide (shl64 1 (c.f0.length : Int) ≤ m) = false by simp; omega, cnd_false]
    rw [hxe]
    unfold delM
    split
    · exact hzero
    · rcases hmem with ⟨a, b, d, e⟩ | e
      · rw [if_pos a]
        refine hdecl _ (del_valid (by omega) (by omega) b) (del_Fine (by unfold in64; omega) d) fun j hj => ?_
        rcases del_in' hj with hj | rfl
        · exact (bel_in _ e hj).2
        · omega
      · rw [e]
        exact hzero
  have key : ∀ (r : List Mem) (j : Nat), (∀ k x, r[k]? = some x → (delC s c).f0[j + k]? = some x) → loopL (fun i a x => B_ref06_Valid_0 (delC s c) i x) j () r = some (.go ()) := by
    intro r
    induction r with
    | nil => intro j _; rfl
    | cons x r ih =>
      intro j hr
      show kb (B_ref06_Valid_0 (delC s c) j x) _ = _
      rw [hone j x (hr 0 x rfl), kb_some]
      exact ih (j + 1) fun k y hk => by
        have := hr (k + 1) y (by simpa using hk)
        rwa [show j + (k + 1) = j + 1 + k by omega] at this
  rw [key _ 0 (fun k x hk => by simpa using hk), kb_some]
  rfl
theorem decl_del (c : Conf) (s k : Int) : decl (delC s c) k = (decl c k && !hasS s k) := by
  unfold decl
  by_cases hk : 0 ≤ k ∧ k < 10
  · obtain ⟨i, rfl⟩ := Int.eq_ofNat_of_zero_le hk.1
    simp only [hk, and_self, decide_true, Bool.true_and, Int.ofNat_eq_natCast, Int.toNat_natCast, delC, List.getElem?_mapIdx]
    cases c.f0[i]? with
    | none => rfl
    | some m =>
      simp only [Option.map_some]
      unfold delM
      cases hasS s (i : Int)
      · cases h : m.f0 <;> simp [h]
      · simp [mem0]
  · simp [hk]
theorem del_sat {c : Conf} {s z : Int} (hs : setB s = true) {u : Int} (hu : ∀ j, hasS u j = (hasS z j || hasS s j)) {k : Int} {m : Mem} (hk : hasS z k = true) (h0 : hasS s k = false) (hd : m.f0 = true) : 0 ≤ k → sat z (delM s k.toNat m).f1 = sat u m.f1 := by
  intro h
  unfold delM
  rw [Int.toNat_of_nonneg h, h0]
  simp only [Bool.false_eq_true, if_false, hd, if_true]
  exact sat_del hs hu hk m.f1
theorem law_DeletionQuorums (l : List Int) (hl : ∀ k ∈ l, in64 k) : B_law13_DeletionQuorums l = some true := by
  obtain ⟨t0, e0, ht0⟩ := s_New hl
  obtain ⟨c, t1, e1, ⟨hc1, hc2, hc3⟩, ht1⟩ := s_Config 8 (by omega) (by omega) t0 ht0
  obtain ⟨v, t2, e2, hv, ht2⟩ := s_N ht1 (n := 256) (by omega) (by omega)
  have hf : Conf.Fine c := ⟨by omega, fun m hm => MemOk_Fine (hc3 m hm)⟩
  have sv : setB v = true := by rw [setB_iff]; omega
  obtain ⟨n1, n2⟩ := set_below (n := c.f0.length) (by omega)
  obtain ⟨g1, g2⟩ := set_and sv n1
  generalize hg : and64 v (sub64 (shl64 1 (c.f0.length : Int)) 1) = g at g1 g2
  have hdf : Conf.Fine (delC g c) := delC_Fine g hf
  obtain ⟨dc, ec, dc1, dc2⟩ := s_Declared c hf.1
  obtain ⟨dd, edd, dd1, dd2⟩ := s_Declared (delC g c) hdf.1
  have hdd : dd = andn64 dc g := by
    obtain ⟨a1, a2⟩ := set_andn dc1 g1
    refine set_ext dd1 a1 fun k => ?_
    rw [dd2, decl_del, a2, dc2]
  have h0 : B_law13_DeletionQuorums_0 (v, t2) (c, t1) (delC g c) = some false := by
    unfold B_law13_DeletionQuorums_0
    rw [del_cvalid (by omega) hc3, kb_some]
    simp only [decide_true, cnd_true]
    rw [edd, kb_some]
    rw [ec, kb_some, hg, hdd]
    simp only [decide_true, cnd_true]
    simp [delC]
  have hdget : ∀ (k : Int) (m : Mem), (delC g c).f0[k.toNat]? = some m → ∃ m0, c.f0[k.toNat]? = some m0 ∧ m = delM g k.toNat m0 := by
    intro k m h
    simp only [delC, List.getElem?_mapIdx, Option.map_eq_some_iff] at h
    obtain ⟨m0, h1, h2⟩ := h
    exact ⟨m0, h1, h2.symm⟩
  have hsatiff : ∀ (z u : Int), setB z = true → (∀ j, hasS u j = (hasS z j || hasS g j)) → (∀ k, hasS z k = true → hasS g k = false ∧ decl c k = true) → (satAll (delC g c) z ↔ ∀ k m, hasS z k = true → c.f0[k.toNat]? = some m → sat u m.f1 = true) := by
    intro z u hz hu hzd
    constructor
    · intro h k m hk hm
      obtain ⟨hk0, m', hm', hd⟩ := decl_get (hzd k hk).2
      rw [hm] at hm'; cases hm'
      have := h k (delM g k.toNat m) hk (by simp only [delC, List.getElem?_mapIdx, hm]; rfl)
      rwa [del_sat (c := c) g1 hu hk (hzd k hk).1 hd hk0.1] at this
    · intro h k m hk hm
      obtain ⟨m0, h1, rfl⟩ := hdget k m hm
      obtain ⟨hk0, m', hm', hd⟩ := decl_get (hzd k hk).2
      rw [h1] at hm'; cases hm'
      rw [del_sat (c := c) g1 hu hk (hzd k hk).1 hd hk0.1]
      exact h k m0 hk h1
  have hloop := iterW_spec (A := List Int × Int × Int) (R := Unit) (f := fun a => B_law13_DeletionQuorums_5 (c, t1) (delC g c) (v, t2) a.1 a.2.1 a.2.2)
    (fun k a => (0 ≤ a.2.2 ∧ a.2.2 ≤ 12 ∧ k = (12 - a.2.2).toNat) ∧ Tp ⟨a.1, a.2.1⟩) (fun x => ∃ a, x = .go a) (by
      rintro k ⟨tl, ta, i⟩ ⟨⟨hi, hin, hk⟩, htp⟩
      dsimp only at hi hin hk htp
      by_cases c0 : i < 12
      · left
        obtain ⟨w, t3, e3, hw, ht3⟩ := s_N htp (n := 256) (by omega) (by omega)
        have sw : setB w = true := by rw [setB_iff]; omega
        obtain ⟨x1, x2⟩ := set_and sw n1
        generalize hx : and64 w (sub64 (shl64 1 (c.f0.length : Int)) 1) = x at x1 x2
        obtain ⟨q, eq, ⟨q1, q2⟩, q3⟩ := s_Greatest c hf x x1
        obtain ⟨z1, z2⟩ := set_andn q1 g1
        obtain ⟨u1, u2⟩ := set_or z1 g1
        have hq : B_law13_DeletionQuorums_1 t3.f0 t3.f1 (c, t1) (delC g c) q (v, t2) i x = some false := by
          unfold B_law13_DeletionQuorums_1
          rw [hg]
          by_cases cz : andn64 q g = 0
          · simp [cz, cnd_true]
          · simp only [cz, decide_false, cnd_false]
            obtain ⟨b, eb, hb⟩ := s_Quorum (delC g c) hdf (andn64 q g) z1
            have hz : ∀ k, hasS (andn64 q g) k = true → hasS g k = false ∧ decl c k = true := by
              intro k hk
              rw [z2, Bool.and_eq_true, Bool.not_eq_true'] at hk
              exact ⟨hk.2, (q2 k hk.1).2⟩
            have : b = true := hb.2 ⟨⟨cz, fun k hk => by rw [decl_del, (hz k hk).1, (hz k hk).2]; rfl⟩, (hsatiff _ (or64 (andn64 q g) g) z1 u2 hz).2 fun k m hk hm => by
              rw [z2, Bool.and_eq_true] at hk
              exact sat_mono (a := q) (fun j hj => by rw [u2, z2, hj]; cases hasS g j <;> rfl) _ (q3 k m hk.1 hm)⟩
            rw [eb, kb_some, this]
            rfl
        obtain ⟨y1, y2⟩ := set_andn x1 g1
        generalize hy : andn64 x g = y at y1 y2
        obtain ⟨r1, r2⟩ := set_or y1 g1
        have h2 : B_law13_DeletionQuorums_2 t3.f0 t3.f1 (c, t1) (delC g c) y (v, t2) i = some (!(decide (y = 0)) && decide (and64 y dc = y)) := by
          unfold B_law13_DeletionQuorums_2
          by_cases cy : y = 0
          · simp [cy, cnd_true]
          · simp only [cy, decide_false, cnd_false, ec, kb_some]
            simp
        have h4 := foldO_inv (f := fun j (a : Bool) (m : Mem) => B_law13_DeletionQuorums_4 t3.f0 t3.f1 (c, t1) (delC g c) y (v, t2) i j a m) (fun j a => a = true ↔ ((!(decide (y = 0)) && decide (and64 y dc = y)) = true ∧ ∀ k : Nat, k < j → ∀ m, c.f0[k]? = some m → hasS y (k : Int) = true → sat (or64 y g) m.f1 = true)) c.f0 0 (!(decide (y = 0)) && decide (and64 y dc = y)) (by
          rintro j a m hj hp
          simp only [Nat.zero_add] at hp ⊢
          have hjl := (List.getElem?_eq_some_iff.1 hj).1
          have hm := hf.2 m (List.mem_of_getElem? hj)
          have e3' : B_law13_DeletionQuorums_3 t3.f0 t3.f1 (c, t1) (delC g c) y a j (v, t2) i = some (hasS y (j : Int) && !(sat (or64 y g) m.f1)) := by
            unfold B_law13_DeletionQuorums_3
            rw [mustK_some (by omega), kb_some]
            obtain ⟨ym, rfl, hym⟩ := set_nat y1
            rw [has_shr hym (by omega), has_nat hym]
            have ed : decide (0 ≤ (j : Int) ∧ (j : Int) < 10) = true := by simp; omega
            rw [ed, Bool.true_and, Int.toNat_natCast]
            cases ym.testBit j
            · rfl
            · simp only [cnd_true, Bool.true_and]
              rw [getI_nat, hj, kb_some, hg, s_ref02_Satisfied _ hm, kb_some, r1, Bool.true_and]
          unfold B_law13_DeletionQuorums_4
          rw [e3', kb_some]
          have hstep : (∀ k : Nat, k < j + 1 → ∀ m, c.f0[k]? = some m → hasS y (k : Int) = true → sat (or64 y g) m.f1 = true) ↔ ((∀ k : Nat, k < j → ∀ m, c.f0[k]? = some m → hasS y (k : Int) = true → sat (or64 y g) m.f1 = true) ∧ (hasS y (j : Int) = true → sat (or64 y g) m.f1 = true)) := by
            constructor
            · intro h
              exact ⟨fun k hk => h k (by omega), h j (by omega) m hj⟩
            · rintro ⟨h, h'⟩ k hk m' hm' hy'
              rcases Nat.lt_succ_iff_lt_or_eq.1 hk with hk | rfl
              · exact h k hk m' hm' hy'
              · rw [hj] at hm'; cases hm'; exact h' hy'
          cases cc : (hasS y (j : Int) && !(sat (or64 y g) m.f1))
          · refine ⟨a, rfl, ?_⟩
            rw [hp, hstep]
            have : hasS y (j : Int) = true → sat (or64 y g) m.f1 = true := by
              intro hh
              rw [hh] at cc
              simpa using cc
            exact ⟨fun h => ⟨h.1, h.2, this⟩, fun h => ⟨h.1, h.2.1⟩⟩
          · refine ⟨false, rfl, ?_⟩
            rw [Bool.and_eq_true, Bool.not_eq_true'] at cc
            simp only [Bool.false_eq_true, false_iff]
            rintro ⟨_, h⟩
            have := h j (by omega) m hj cc.1
            rw [cc.2] at this
            cases this) (by simp)
        obtain ⟨al, e4, hal⟩ := h4
        obtain ⟨b, eb, hb⟩ := s_Quorum (delC g c) hdf y y1
        have hbal : b = al := by
          have hiff : b = true ↔ al = true := by
            rw [hb, hal]
            try simp only [Nat.zero_add]
            have hdecl : (∀ k, hasS y k = true → hasS g k = false) := by
              intro k hk
              rw [y2, Bool.and_eq_true, Bool.not_eq_true'] at hk
              exact hk.2
            have hsub := sub_and y1 dc1
            constructor
            · rintro ⟨⟨ha, hb'⟩, hc'⟩
              have hyd : ∀ k, hasS y k = true → hasS g k = false ∧ decl c k = true := fun k hk => by
                have := hb' k hk
                rw [decl_del, Bool.and_eq_true] at this
                exact ⟨hdecl k hk, this.1⟩
              refine ⟨?_, fun k hk m hm hy' => ?_⟩
              · rw [Bool.and_eq_true]
                exact ⟨by simp [ha], hsub.2 fun k hk => by rw [dc2]; exact (hyd k hk).2⟩
              · exact (hsatiff y (or64 y g) y1 r2 hyd).1 hc' (k : Int) m hy' (by simpa using hm)
            · rintro ⟨ha, hb'⟩
              rw [Bool.and_eq_true] at ha
              have hyd : ∀ k, hasS y k = true → hasS g k = false ∧ decl c k = true := fun k hk => by
                have := hsub.1 ha.2 k hk
                rw [dc2] at this
                exact ⟨hdecl k hk, this⟩
              refine ⟨⟨by simpa using ha.1, fun k hk => by rw [decl_del, (hyd k hk).1, (hyd k hk).2]; rfl⟩, (hsatiff y (or64 y g) y1 r2 hyd).2 fun k m hk hm => ?_⟩
              have hk0 := (decl_get (hyd k hk).2).1
              exact hb' k.toNat (List.getElem?_eq_some_iff.1 hm).1 m hm (by rw [Int.toNat_of_nonneg hk0.1]; exact hk)
          cases b <;> cases al <;> simp_all
        refine ⟨(t3.f0, t3.f1, i + 1), (12 - (i + 1)).toNat, ?_, by omega, ⟨by dsimp only; omega, by dsimp only; omega, rfl⟩, ht3⟩
        unfold B_law13_DeletionQuorums_5
        simp only [c0, decide_true, cnd_true]
        rw [e3, kb_some]
        dsimp only
        rw [hx, hg, hy, eq, kb_some, hq, kb_some, cnd_false, h2, kb_some, smallK_some (by omega), kb_some, e4, kb_some, eb, kb_some, hbal]
        simp only [beq_self_eq_true, cnd_true]
        rw [add64_of (by omega) (by omega)]
      · right; left
        refine ⟨0, (tl, ta, i), ?_, _, rfl⟩
        unfold B_law13_DeletionQuorums_5
        simp only [c0, decide_false, cnd_false]) ((12 : Int) - 0).toNat (t2.f0, t2.f1, 0) ⟨⟨by simp, by simp, rfl⟩, ht2⟩
  obtain ⟨_, e3, a, rfl⟩ := hloop
  unfold B_law13_DeletionQuorums
  rw [e0, kb_some, e1, kb_some]
  dsimp only
  rw [mustK_some (by omega), kb_some, e2, kb_some]
  dsimp only
  rw [hg, s_Delete _ _ hf, kb_some, h0, kb_some, cnd_false, e3, kb_some]
  simp only [stpK_go]
  rw [s_awake, kb_some]
end Go.Am

/-
From the abstract machine to what a row asks of a call.
-/
namespace Go.Am
open Go Go.RowKit
set_option linter.unusedVariables false

/-- what is there at the start, and never changes -/
def I0 (w : World) (b : Nat) : Prop := b < w.heap.size
abbrev G0 : Gn := fun _ => 0
abbrev M0 : Mu := fun _ => none

theorem start_rel (w : World) (args : List AV) : SRel w.heap (fun _ => False) M0 (enterA args []) where
  low b h := h.elim
  ent id := by
    cases id with
    | arg j => show EntOk _ _ _ _ _ none (([] : List AV).getD j (.tup [])); rw [List.getD_nil]; trivial
    | ret j => exact trivial
    | site r o j => exact trivial
  inj id id' b c c' h := by cases h

theorem start_imm (w : World) (args : List AV) (b : Nat) (h : I0 w b) : Imm w.heap (fun _ => False) M0 (enterA args []) b :=
  ⟨h, fun h => h, fun ⟨id, c, e, _⟩ => by cases e⟩

theorem start_gs (args : List AV) : Gs (enterA args []) = G0 := by
  funext id
  cases id with
  | arg j => show gen (([] : List AV).getD j (.tup [])) = 0; rw [List.getD_nil]; rfl
  | ret j => rfl
  | site r o j => rfl

/-- a call whose answer the abstract machine tells: it answers so, and what was there before is as it was -/
theorem run_law {P : Program} {cfg : Cfg} (hP : P.follows .mixedOrders = true) (hx : ∀ f sm, cfg.ext f = some sm → SoundF P f sm) {f : FuncId} {args : List AV} {v : AV} (h : W P cfg f args [] = some (v, [], []))
    {b : Bool} (hv : v = .pv (.bool b)) (w : World) (cargs : Array Value) (R : RepL w.heap (I0 w) G0 M0 args cargs.toList) :
    Calls P f cargs w fun e w' => e = .returned (.bool b) ∧ Below w.heap.size w w' := by
  subst hv
  obtain ⟨_, hr⟩ := W_sound hP hx f args [] (.pv (.bool b)) [] [] h
  refine (hr (fun _ => False) w M0 cargs (start_rel w args) ?_).mono ?_
  · show RepL _ _ (Gs (enterA args [])) _ _ _
    rw [start_gs]
    exact RepL.mono ⟨start_imm w args, fun _ _ => rfl⟩ ⟨fun _ => Nat.le_refl _, fun _ _ => rfl⟩ _ _ R
  · rintro e w' ⟨cv, μ', rfl, S, rv, T⟩
    have : cv = .bool b := rv
    subst this
    exact ⟨rfl, T.io.os, T.io.tape, T.io.output, T.tr.size, fun k hk => T.tr.keep k hk fun ⟨id, c, e, _⟩ => by cases e⟩

theorem cell_block {w : World} {x : Addr} {v : Value} (h : w.cell? x = some v) : x.block < w.heap.size ∧ x.spot = none := by
  unfold World.cell? at h
  split at h
  · rename_i c _ _ hh
    refine ⟨(Array.getElem?_eq_some_iff.1 hh).1, ?_⟩
    split at h
    · cases h
    · rename_i hs; cases hx : x.spot with
      | none => rfl
      | some _ => rw [hx] at hs; exact absurd rfl hs
  · cases h

/-- a row of numbers in memory -/
theorem rep_ints {w : World} {x : Addr} {len cap : Nat} {zs : List Int} (hl : len ≤ cap) (hz : zs.length = cap)
    (hc : ∀ i, i < zs.length → w.cell? (x.add i) = some (.int .i64 (zs.getD i 0))) :
    RepP w.heap (I0 w) (.sl len ((zs.take len).map (.int .i64 ·))) (.slice (some x) len cap) := by
  refine ⟨some x, cap, rfl, hl, ?_⟩
  by_cases h0 : 0 < zs.length
  · obtain ⟨hb, hs⟩ := cell_block (x := x) (by simpa [Addr.add] using hc 0 h0)
    obtain ⟨b, o, e⟩ := x
    simp only at hs hb
    subst hs
    refine .inr ⟨b, o, rfl, hb, .of_get fun j p hp => ?_⟩
    simp only [List.getElem?_map, Option.map_eq_some_iff] at hp
    obtain ⟨n, hn, rfl⟩ := hp
    have hj : j < zs.length := by
      have := (List.getElem?_eq_some_iff.1 hn).1
      simp at this
      omega
    have hc' := hc j hj
    have ha : Addr.add ⟨b, o, none⟩ j = ⟨b, o + j, none⟩ := by
      unfold Addr.add
      split
      · rename_i h; subst h; rfl
      · rfl
    rw [ha, cell?_eq] at hc'
    refine ⟨_, hc', ?_⟩
    have : zs.getD j 0 = n := by
      have hn2 : zs[j]? = some n := by
        rw [List.getElem?_take] at hn
        split at hn
        · exact hn
        · cases hn
      simp [hn2]
    rw [this]
    rfl
  · have : zs = [] := List.eq_nil_of_length_eq_zero (by omega)
    subst this
    exact .inl (by simp)

theorem rep_nil (w : World) : RepP w.heap (I0 w) (.sl 0 []) (.slice none 0 0) := ⟨none, 0, rfl, Nat.le_refl _, .inl rfl⟩
end Go.Am
