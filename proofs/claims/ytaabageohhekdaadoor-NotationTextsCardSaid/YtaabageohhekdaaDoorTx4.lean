/-
Part 4 of the road to the statement: Gf_notation_reader_rest, Gf_notation_Parse, N3c, N3d, Aw03, Gf_notation_Canonical, Gf_law03_blanks, N3e, Slim, Gf_make_entries, Gf_make_SmallTrust, U8.
-/
import Derived.Test.YtaabageohhekdaaDoorTx3
/-
How notation.reader).rest runs, as a pure function.
-/
namespace Go.Am
open Go Go.Proofs
set_option linter.unusedVariables false
set_option linter.unusedSimpArgs false
set_option maxRecDepth 4000
set_option maxHeartbeats 4000000
noncomputable def B_notation_reader_rest_0 (p0 : S_notation_reader) (p1 : Int) : Option ((List UInt8) × (List UInt8) × Int × Bool) :=
  kb (G_notation_reader_take p0 ([111, 102] : List UInt8)) fun y1 =>
  cnd y1.1 (
    kb (G_notation_reader_take y1.2 ([40] : List UInt8)) fun y4 =>
    some (y4.2.f0, y4.2.f1, y4.2.f2, (!y4.1))) (
    some (y1.2.f0, y1.2.f1, y1.2.f2, true))
def J_notation_reader_rest_0 (p0 : S_notation_reader) (p1 : Int) (q : St) : Prop := (q (.t 0) = .ptr (.arg 0) 0 0 ∧ q (.i (.arg 0)) = .box 0 [(.pv (.str p0.f0)), (.pv (.str p0.f1)), (i64 p0.f2)]) ∧ (∃ (g : Nat), q (.t 4) = .ptr (.site 0 0 0) g 0 ∧ q (.i (.site 0 0 0)) = .box g [(i64 0), .nilsl, .nilsl]) ∧ (∃ (g : Nat), q (.t 6) = .ptr (.site 1 2 0) g 0 ∧ q (.i (.site 1 2 0)) = .box g [(i64 p1), .nilsl, .nilsl])
def Q_notation_reader_rest_0 (p0 : S_notation_reader) (p1 : Int) (oba0_0_0 : (List UInt8)) (oba0_1_0 : (List UInt8)) (oba0_2_0 : Int) (o20_0 : Bool) (q : St) : Prop := q (.t 20) = (bl o20_0) ∧ (q (.t 0) = .ptr (.arg 0) 0 0 ∧ q (.i (.arg 0)) = .box 0 [(.pv (.str oba0_0_0)), (.pv (.str oba0_1_0)), (i64 oba0_2_0)]) ∧ (∃ (g : Nat), q (.t 4) = .ptr (.site 0 0 0) g 0 ∧ q (.i (.site 0 0 0)) = .box g [(i64 0), .nilsl, .nilsl]) ∧ (∃ (g : Nat), q (.t 6) = .ptr (.site 1 2 0) g 0 ∧ q (.i (.site 1 2 0)) = .box g [(i64 p1), .nilsl, .nilsl])
theorem P_notation_reader_rest_0 {p0 : S_notation_reader} {p1 : Int} {cc : Code} (hcc : cc = (Code.fst (Code.fst (Code.snd (Code.snd ((Tryd.f29.body).getD .skip)))))) {s : St} {z : Option (Ex × St)} (hz : C Tryd.prog cf cc s = z) {r : ((List UInt8) × (List UInt8) × Int × Bool)} (hI : J_notation_reader_rest_0 p0 p1 s) (hB : B_notation_reader_rest_0 p0 p1 = some r) : Res z (postG (fun a q => Q_notation_reader_rest_0 p0 p1 a.1 a.2.1 a.2.2.1 a.2.2.2 q) r) := by
  subst hcc
  subst hz
  simp only [J_notation_reader_rest_0] at hI
  obtain ⟨⟨q1, q2⟩, ⟨g4, q3, q4⟩, ⟨g6, q5, q6⟩⟩ := hI
  simp only [Code.fst, Code.snd, Tryd.f29, Option.getD_some]
  unfold B_notation_reader_rest_0 at hB
  obtain ⟨y1, k2, hB⟩ := kb_inv hB
  replace k2 := run_notation_reader_take k2
  try simp only [Int.cast_ofNat_Int, Int.natCast_zero, List.length_cons, List.length_nil, List.nil_append, List.cons_append, Nat.zero_add, Nat.reduceAdd, Tru.thr_mk, Tru.nodes_mk, Tru.inner_mk, ints_cons, ints_nil, encTs_cons, encTs_nil, es_str_cons, es_str_nil] at k2
  try dsimp only at hB
  rcases cnd_inv hB with ⟨c3, hB⟩ | ⟨c3, hB⟩
  · obtain ⟨y4, k5, hB⟩ := kb_inv hB
    replace k5 := run_notation_reader_take k5
    try simp only [Int.cast_ofNat_Int, Int.natCast_zero, List.length_cons, List.length_nil, List.nil_append, List.cons_append, Nat.zero_add, Nat.reduceAdd, Tru.thr_mk, Tru.nodes_mk, Tru.inner_mk, ints_cons, ints_nil, encTs_cons, encTs_nil, es_str_cons, es_str_nil, c3] at k5
    try dsimp only at hB
    obtain rfl := Option.some.inj hB
    try simp -implicitDefEqProofs [-getElem?_pos, -Int.ofNat_lt, -Int.ofNat_le, -Int.natCast_eq_zero, -Int.natCast_pos, -List.length_eq_zero_iff, List.getElem?_cons_zero, List.getElem?_cons_succ, List.getElem?_nil, q1, q2, q3, q4, q5, q6, k2, c3, k5]
    refine Res.g ?_
    simp -implicitDefEqProofs [-getElem?_pos, -Int.ofNat_lt, -Int.ofNat_le, -Int.natCast_eq_zero, -Int.natCast_pos, -List.length_eq_zero_iff, List.getElem?_cons_zero, List.getElem?_cons_succ, List.getElem?_nil, and_assoc, Q_notation_reader_rest_0, ownAt, q1, q2, q3, q4, q5, q6, k2, c3, k5]
  · obtain rfl := Option.some.inj hB
    try simp -implicitDefEqProofs [-getElem?_pos, -Int.ofNat_lt, -Int.ofNat_le, -Int.natCast_eq_zero, -Int.natCast_pos, -List.length_eq_zero_iff, List.getElem?_cons_zero, List.getElem?_cons_succ, List.getElem?_nil, q1, q2, q3, q4, q5, q6, k2, c3]
    refine Res.g ?_
    simp -implicitDefEqProofs [-getElem?_pos, -Int.ofNat_lt, -Int.ofNat_le, -Int.natCast_eq_zero, -Int.natCast_pos, -List.length_eq_zero_iff, List.getElem?_cons_zero, List.getElem?_cons_succ, List.getElem?_nil, and_assoc, Q_notation_reader_rest_0, ownAt, q1, q2, q3, q4, q5, q6, k2, c3]
noncomputable def B_notation_reader_rest_1 (pba0_0_1 : (List UInt8)) (pba0_1_1 : (List UInt8)) (pba0_2_1 : Int) (p1 : Int) (pb1_2_1_1 : (List Int)) (pb1_2_2_1 : (List Tru)) (p34_1 : Bool) (p7_1 : Int) : Option (Stp ((List UInt8) × (List UInt8) × Int × (List Int) × (List Tru)) ((List UInt8) × (List UInt8) × Int)) :=
  cnd p34_1 (
    kb (G_notation_reader_rest (S_notation_reader.mk pba0_0_1 pba0_1_1 pba0_2_1) p7_1) fun y12 =>
    cnd y12.2.1 (
      kb (appK pb1_2_2_1 ([y12.1] : List Tru) 56) fun L15 =>
      some (.go (y12.2.2.f0, y12.2.2.f1, y12.2.2.f2, pb1_2_1_1, L15))) (
      some (.ret (y12.2.2.f0, y12.2.2.f1, y12.2.2.f2)))) (
    kb (appK pb1_2_1_1 ([p7_1] : List Int) 8) fun L17 =>
    some (.go (pba0_0_1, pba0_1_1, pba0_2_1, L17, pb1_2_2_1)))
def J_notation_reader_rest_1 (pba0_0_1 : (List UInt8)) (pba0_1_1 : (List UInt8)) (pba0_2_1 : Int) (p1 : Int) (pb1_2_1_1 : (List Int)) (pb1_2_2_1 : (List Tru)) (p34_1 : Bool) (p7_1 : Int) (q : St) : Prop := q (.t 34) = (bl p34_1) ∧ q (.t 7) = (i64 p7_1) ∧ (q (.t 0) = .ptr (.arg 0) 0 0 ∧ q (.i (.arg 0)) = .box 0 [(.pv (.str pba0_0_1)), (.pv (.str pba0_1_1)), (i64 pba0_2_1)]) ∧ (∃ (g : Nat), q (.t 4) = .ptr (.site 0 0 0) g 0 ∧ q (.i (.site 0 0 0)) = .box g [(i64 0), .nilsl, .nilsl]) ∧ (∃ (g : Nat) (w0 : AV) (w1 : AV), q (.t 6) = .ptr (.site 1 2 0) g 0 ∧ q (.i (.site 1 2 0)) = .box g [(i64 p1), w0, w1] ∧ (ownAt q w0 (.site 12 4 0) false 1 pb1_2_1_1.length (ints pb1_2_1_1) ∨ (w0 = .nilsl ∧ pb1_2_1_1 = [])) ∧ (ownAt q w1 (.site 11 4 0) false 3 pb1_2_2_1.length (encTs pb1_2_2_1) ∨ (w1 = .nilsl ∧ pb1_2_2_1 = [])))
def Q_notation_reader_rest_1 (pba0_0_1 : (List UInt8)) (pba0_1_1 : (List UInt8)) (pba0_2_1 : Int) (p1 : Int) (pb1_2_1_1 : (List Int)) (pb1_2_2_1 : (List Tru)) (p34_1 : Bool) (p7_1 : Int) (oba0_0_1 : (List UInt8)) (oba0_1_1 : (List UInt8)) (oba0_2_1 : Int) (ob1_2_1_1 : (List Int)) (ob1_2_2_1 : (List Tru)) (q : St) : Prop := (q (.t 0) = .ptr (.arg 0) 0 0 ∧ q (.i (.arg 0)) = .box 0 [(.pv (.str oba0_0_1)), (.pv (.str oba0_1_1)), (i64 oba0_2_1)]) ∧ (∃ (g : Nat), q (.t 4) = .ptr (.site 0 0 0) g 0 ∧ q (.i (.site 0 0 0)) = .box g [(i64 0), .nilsl, .nilsl]) ∧ (∃ (g : Nat) (w0 : AV) (w1 : AV), q (.t 6) = .ptr (.site 1 2 0) g 0 ∧ q (.i (.site 1 2 0)) = .box g [(i64 p1), w0, w1] ∧ (ownAt q w0 (.site 12 4 0) false 1 ob1_2_1_1.length (ints ob1_2_1_1) ∨ (w0 = .nilsl ∧ ob1_2_1_1 = [])) ∧ (ownAt q w1 (.site 11 4 0) false 3 ob1_2_2_1.length (encTs ob1_2_2_1) ∨ (w1 = .nilsl ∧ ob1_2_2_1 = [])))
def QR_notation_reader_rest_1 (pba0_0_1 : (List UInt8)) (pba0_1_1 : (List UInt8)) (pba0_2_1 : Int) (p1 : Int) (pb1_2_1_1 : (List Int)) (pb1_2_2_1 : (List Tru)) (p34_1 : Bool) (p7_1 : Int) (rba0_0_1 : (List UInt8)) (rba0_1_1 : (List UInt8)) (rba0_2_1 : Int) (q : St) : Prop := q (.t 5) = (bl false) ∧ (q (.i (.arg 0)) = .box 0 [(.pv (.str rba0_0_1)), (.pv (.str rba0_1_1)), (i64 rba0_2_1)]) ∧ (∃ (g : Nat) (w0 : AV) (w1 : AV), q (.t 4) = .ptr (.site 0 0 0) g 0 ∧ q (.i (.site 0 0 0)) = .box g [(i64 p1), w0, w1] ∧ (ownAt q w0 (.site 12 4 0) false 1 pb1_2_1_1.length (ints pb1_2_1_1) ∨ (w0 = .nilsl ∧ pb1_2_1_1 = [])) ∧ (ownAt q w1 (.site 11 4 0) false 3 pb1_2_2_1.length (encTs pb1_2_2_1) ∨ (w1 = .nilsl ∧ pb1_2_2_1 = [])))
theorem P_notation_reader_rest_1 {pba0_0_1 : (List UInt8)} {pba0_1_1 : (List UInt8)} {pba0_2_1 : Int} {p1 : Int} {pb1_2_1_1 : (List Int)} {pb1_2_2_1 : (List Tru)} {p34_1 : Bool} {p7_1 : Int} {cc : Code} (hcc : cc = (Code.snd (Code.fst (Code.snd (Code.snd (Code.fst (Code.fst (Code.fst (Code.snd (Code.snd (Code.snd ((Tryd.f29.body).getD .skip)))))))))))) {s : St} {z : Option (Ex × St)} (hz : C Tryd.prog cf cc s = z) {r : (Stp ((List UInt8) × (List UInt8) × Int × (List Int) × (List Tru)) ((List UInt8) × (List UInt8) × Int))} (hI : J_notation_reader_rest_1 pba0_0_1 pba0_1_1 pba0_2_1 p1 pb1_2_1_1 pb1_2_2_1 p34_1 p7_1 s) (hB : B_notation_reader_rest_1 pba0_0_1 pba0_1_1 pba0_2_1 p1 pb1_2_1_1 pb1_2_2_1 p34_1 p7_1 = some r) : Res z (postS (fun a q => Q_notation_reader_rest_1 pba0_0_1 pba0_1_1 pba0_2_1 p1 pb1_2_1_1 pb1_2_2_1 p34_1 p7_1 a.1 a.2.1 a.2.2.1 a.2.2.2.1 a.2.2.2.2 q) (fun a q => QR_notation_reader_rest_1 pba0_0_1 pba0_1_1 pba0_2_1 p1 pb1_2_1_1 pb1_2_2_1 p34_1 p7_1 a.1 a.2.1 a.2.2 q) r) := by
  subst hcc
  subst hz
  simp only [J_notation_reader_rest_1] at hI
  obtain ⟨q1, q2, ⟨q3, q4⟩, ⟨g6, q5, q6⟩, ⟨g8, v8_w0, v8_w1, q7, q8, a8_w0, a8_w1⟩⟩ := hI
  simp only [Code.fst, Code.snd, Tryd.f29, Option.getD_some]
  generalize hr8 : Code.region 8 _ _ = rr8
  generalize hr11 : Code.region 11 _ _ = rr11
  generalize hr12 : Code.region 12 _ _ = rr12
  unfold B_notation_reader_rest_1 at hB
  rcases a8_w0 with ⟨ga8_w0, rfl, oa8_w0⟩ | ⟨rfl, ea8_w0⟩
  · rcases a8_w1 with ⟨ga8_w1, rfl, oa8_w1⟩ | ⟨rfl, ea8_w1⟩
    · rcases cnd_inv hB with ⟨c11, hB⟩ | ⟨c11, hB⟩
      · obtain ⟨y12, k13, hB⟩ := kb_inv hB
        replace k13 := run_notation_reader_rest k13
        try simp only [Int.cast_ofNat_Int, Int.natCast_zero, List.length_cons, List.length_nil, List.nil_append, List.cons_append, Nat.zero_add, Nat.reduceAdd, Tru.thr_mk, Tru.nodes_mk, Tru.inner_mk, ints_cons, ints_nil, encTs_cons, encTs_nil, es_str_cons, es_str_nil, c11] at k13
        try dsimp only at hB
        rcases cnd_inv hB with ⟨c14, hB⟩ | ⟨c14, hB⟩
        · obtain ⟨L15, a16, hB⟩ := kb_inv hB
          obtain ⟨a16z, a16a, a16y⟩ := appK_inv a16
          try (simp only [List.nil_append] at a16z; subst a16z)
          have a16b := appK_len a16
          have a16c := encTs_appK a16
          have a16d := appK_le a16
          try simp only [Int.cast_ofNat_Int, Int.natCast_zero, List.length_cons, List.length_nil, List.nil_append, List.cons_append, Nat.zero_add, Nat.reduceAdd, Tru.thr_mk, Tru.nodes_mk, Tru.inner_mk, ints_cons, ints_nil, encTs_cons, encTs_nil, es_str_cons, es_str_nil, c11, c14] at a16a a16b a16c
          try replace a16b : _ = (1 : Nat) := a16b.symm
          try dsimp only at hB
          obtain rfl := Option.some.inj hB
          subst hr8
          subst hr11
          try simp -implicitDefEqProofs [-getElem?_pos, -Int.ofNat_lt, -Int.ofNat_le, -Int.natCast_eq_zero, -Int.natCast_pos, -List.length_eq_zero_iff, List.getElem?_cons_zero, List.getElem?_cons_succ, List.getElem?_nil, q1, q2, q3, q4, q5, q6, q7, q8, oa8_w0, oa8_w1, c11, k13, c14, a16a, a16b, a16c, a16d]
          refine Res.sgo ?_
          simp -implicitDefEqProofs [-getElem?_pos, -Int.ofNat_lt, -Int.ofNat_le, -Int.natCast_eq_zero, -Int.natCast_pos, -List.length_eq_zero_iff, List.getElem?_cons_zero, List.getElem?_cons_succ, List.getElem?_nil, and_assoc, Q_notation_reader_rest_1, ownAt, q1, q2, q3, q4, q5, q6, q7, q8, oa8_w0, oa8_w1, c11, k13, c14, a16a, a16b, a16c, a16d]
        · obtain rfl := Option.some.inj hB
          subst hr8
          try simp -implicitDefEqProofs [-getElem?_pos, -Int.ofNat_lt, -Int.ofNat_le, -Int.natCast_eq_zero, -Int.natCast_pos, -List.length_eq_zero_iff, List.getElem?_cons_zero, List.getElem?_cons_succ, List.getElem?_nil, q1, q2, q3, q4, q5, q6, q7, q8, oa8_w0, oa8_w1, c11, k13, c14]
          refine Res.sret ?_
          simp -implicitDefEqProofs [-getElem?_pos, -Int.ofNat_lt, -Int.ofNat_le, -Int.natCast_eq_zero, -Int.natCast_pos, -List.length_eq_zero_iff, List.getElem?_cons_zero, List.getElem?_cons_succ, List.getElem?_nil, and_assoc, QR_notation_reader_rest_1, ownAt, q1, q2, q3, q4, q5, q6, q7, q8, oa8_w0, oa8_w1, c11, k13, c14]
      · obtain ⟨L17, a18, hB⟩ := kb_inv hB
        obtain ⟨a18z, a18a, a18y⟩ := appK_inv a18
        try (simp only [List.nil_append] at a18z; subst a18z)
        have a18b := appK_len a18
        have a18c := ints_appK a18
        have a18d := appK_le a18
        try simp only [Int.cast_ofNat_Int, Int.natCast_zero, List.length_cons, List.length_nil, List.nil_append, List.cons_append, Nat.zero_add, Nat.reduceAdd, Tru.thr_mk, Tru.nodes_mk, Tru.inner_mk, ints_cons, ints_nil, encTs_cons, encTs_nil, es_str_cons, es_str_nil, c11] at a18a a18b a18c
        try replace a18b : _ = (1 : Nat) := a18b.symm
        try dsimp only at hB
        obtain rfl := Option.some.inj hB
        subst hr12
        try simp -implicitDefEqProofs [-getElem?_pos, -Int.ofNat_lt, -Int.ofNat_le, -Int.natCast_eq_zero, -Int.natCast_pos, -List.length_eq_zero_iff, List.getElem?_cons_zero, List.getElem?_cons_succ, List.getElem?_nil, q1, q2, q3, q4, q5, q6, q7, q8, oa8_w0, oa8_w1, c11, a18a, a18b, a18c, a18d]
        refine Res.sgo ?_
        simp -implicitDefEqProofs [-getElem?_pos, -Int.ofNat_lt, -Int.ofNat_le, -Int.natCast_eq_zero, -Int.natCast_pos, -List.length_eq_zero_iff, List.getElem?_cons_zero, List.getElem?_cons_succ, List.getElem?_nil, and_assoc, Q_notation_reader_rest_1, ownAt, q1, q2, q3, q4, q5, q6, q7, q8, oa8_w0, oa8_w1, c11, a18a, a18b, a18c, a18d]
    · try subst ea8_w1
      rcases cnd_inv hB with ⟨c11, hB⟩ | ⟨c11, hB⟩
      · obtain ⟨y12, k13, hB⟩ := kb_inv hB
        replace k13 := run_notation_reader_rest k13
        try simp only [Int.cast_ofNat_Int, Int.natCast_zero, List.length_cons, List.length_nil, List.nil_append, List.cons_append, Nat.zero_add, Nat.reduceAdd, Tru.thr_mk, Tru.nodes_mk, Tru.inner_mk, ints_cons, ints_nil, encTs_cons, encTs_nil, es_str_cons, es_str_nil, c11] at k13
        try dsimp only at hB
        rcases cnd_inv hB with ⟨c14, hB⟩ | ⟨c14, hB⟩
        · obtain ⟨L15, a16, hB⟩ := kb_inv hB
          obtain ⟨a16z, a16a, a16y⟩ := appK_inv a16
          simp only [List.nil_append] at a16z
          subst a16z
          try dsimp only at hB
          obtain rfl := Option.some.inj hB
          subst hr8
          subst hr11
          try simp -implicitDefEqProofs [-getElem?_pos, -Int.ofNat_lt, -Int.ofNat_le, -Int.natCast_eq_zero, -Int.natCast_pos, -List.length_eq_zero_iff, List.getElem?_cons_zero, List.getElem?_cons_succ, List.getElem?_nil, q1, q2, q3, q4, q5, q6, q7, q8, oa8_w0, c11, k13, c14]
          refine Res.sgo ?_
          simp -implicitDefEqProofs [-getElem?_pos, -Int.ofNat_lt, -Int.ofNat_le, -Int.natCast_eq_zero, -Int.natCast_pos, -List.length_eq_zero_iff, List.getElem?_cons_zero, List.getElem?_cons_succ, List.getElem?_nil, and_assoc, Q_notation_reader_rest_1, ownAt, q1, q2, q3, q4, q5, q6, q7, q8, oa8_w0, c11, k13, c14]; all_goals ((repeat' apply And.intro) <;> assumption)
        · obtain rfl := Option.some.inj hB
          subst hr8
          try simp -implicitDefEqProofs [-getElem?_pos, -Int.ofNat_lt, -Int.ofNat_le, -Int.natCast_eq_zero, -Int.natCast_pos, -List.length_eq_zero_iff, List.getElem?_cons_zero, List.getElem?_cons_succ, List.getElem?_nil, q1, q2, q3, q4, q5, q6, q7, q8, oa8_w0, c11, k13, c14]
          refine Res.sret ?_
          simp -implicitDefEqProofs [-getElem?_pos, -Int.ofNat_lt, -Int.ofNat_le, -Int.natCast_eq_zero, -Int.natCast_pos, -List.length_eq_zero_iff, List.getElem?_cons_zero, List.getElem?_cons_succ, List.getElem?_nil, and_assoc, QR_notation_reader_rest_1, ownAt, q1, q2, q3, q4, q5, q6, q7, q8, oa8_w0, c11, k13, c14]; all_goals ((repeat' apply And.intro) <;> assumption)
      · obtain ⟨L17, a18, hB⟩ := kb_inv hB
        obtain ⟨a18z, a18a, a18y⟩ := appK_inv a18
        try (simp only [List.nil_append] at a18z; subst a18z)
        have a18b := appK_len a18
        have a18c := ints_appK a18
        have a18d := appK_le a18
        try simp only [Int.cast_ofNat_Int, Int.natCast_zero, List.length_cons, List.length_nil, List.nil_append, List.cons_append, Nat.zero_add, Nat.reduceAdd, Tru.thr_mk, Tru.nodes_mk, Tru.inner_mk, ints_cons, ints_nil, encTs_cons, encTs_nil, es_str_cons, es_str_nil, c11] at a18a a18b a18c
        try replace a18b : _ = (1 : Nat) := a18b.symm
        try dsimp only at hB
        obtain rfl := Option.some.inj hB
        subst hr12
        try simp -implicitDefEqProofs [-getElem?_pos, -Int.ofNat_lt, -Int.ofNat_le, -Int.natCast_eq_zero, -Int.natCast_pos, -List.length_eq_zero_iff, List.getElem?_cons_zero, List.getElem?_cons_succ, List.getElem?_nil, q1, q2, q3, q4, q5, q6, q7, q8, oa8_w0, c11, a18a, a18b, a18c, a18d]
        refine Res.sgo ?_
        simp -implicitDefEqProofs [-getElem?_pos, -Int.ofNat_lt, -Int.ofNat_le, -Int.natCast_eq_zero, -Int.natCast_pos, -List.length_eq_zero_iff, List.getElem?_cons_zero, List.getElem?_cons_succ, List.getElem?_nil, and_assoc, Q_notation_reader_rest_1, ownAt, q1, q2, q3, q4, q5, q6, q7, q8, oa8_w0, c11, a18a, a18b, a18c, a18d]; all_goals ((repeat' apply And.intro) <;> assumption)
  · try subst ea8_w0
    rcases a8_w1 with ⟨ga8_w1, rfl, oa8_w1⟩ | ⟨rfl, ea8_w1⟩
    · rcases cnd_inv hB with ⟨c11, hB⟩ | ⟨c11, hB⟩
      · obtain ⟨y12, k13, hB⟩ := kb_inv hB
        replace k13 := run_notation_reader_rest k13
        try simp only [Int.cast_ofNat_Int, Int.natCast_zero, List.length_cons, List.length_nil, List.nil_append, List.cons_append, Nat.zero_add, Nat.reduceAdd, Tru.thr_mk, Tru.nodes_mk, Tru.inner_mk, ints_cons, ints_nil, encTs_cons, encTs_nil, es_str_cons, es_str_nil, c11] at k13
        try dsimp only at hB
        rcases cnd_inv hB with ⟨c14, hB⟩ | ⟨c14, hB⟩
        · obtain ⟨L15, a16, hB⟩ := kb_inv hB
          obtain ⟨a16z, a16a, a16y⟩ := appK_inv a16
          try (simp only [List.nil_append] at a16z; subst a16z)
          have a16b := appK_len a16
          have a16c := encTs_appK a16
          have a16d := appK_le a16
          try simp only [Int.cast_ofNat_Int, Int.natCast_zero, List.length_cons, List.length_nil, List.nil_append, List.cons_append, Nat.zero_add, Nat.reduceAdd, Tru.thr_mk, Tru.nodes_mk, Tru.inner_mk, ints_cons, ints_nil, encTs_cons, encTs_nil, es_str_cons, es_str_nil, c11, c14] at a16a a16b a16c
          try replace a16b : _ = (1 : Nat) := a16b.symm
          try dsimp only at hB
          obtain rfl := Option.some.inj hB
          subst hr8
          subst hr11
          try simp -implicitDefEqProofs [-getElem?_pos, -Int.ofNat_lt, -Int.ofNat_le, -Int.natCast_eq_zero, -Int.natCast_pos, -List.length_eq_zero_iff, List.getElem?_cons_zero, List.getElem?_cons_succ, List.getElem?_nil, q1, q2, q3, q4, q5, q6, q7, q8, oa8_w1, c11, k13, c14, a16a, a16b, a16c, a16d]
          refine Res.sgo ?_
          simp -implicitDefEqProofs [-getElem?_pos, -Int.ofNat_lt, -Int.ofNat_le, -Int.natCast_eq_zero, -Int.natCast_pos, -List.length_eq_zero_iff, List.getElem?_cons_zero, List.getElem?_cons_succ, List.getElem?_nil, and_assoc, Q_notation_reader_rest_1, ownAt, q1, q2, q3, q4, q5, q6, q7, q8, oa8_w1, c11, k13, c14, a16a, a16b, a16c, a16d]; all_goals ((repeat' apply And.intro) <;> assumption)
        · obtain rfl := Option.some.inj hB
          subst hr8
          try simp -implicitDefEqProofs [-getElem?_pos, -Int.ofNat_lt, -Int.ofNat_le, -Int.natCast_eq_zero, -Int.natCast_pos, -List.length_eq_zero_iff, List.getElem?_cons_zero, List.getElem?_cons_succ, List.getElem?_nil, q1, q2, q3, q4, q5, q6, q7, q8, oa8_w1, c11, k13, c14]
          refine Res.sret ?_
          simp -implicitDefEqProofs [-getElem?_pos, -Int.ofNat_lt, -Int.ofNat_le, -Int.natCast_eq_zero, -Int.natCast_pos, -List.length_eq_zero_iff, List.getElem?_cons_zero, List.getElem?_cons_succ, List.getElem?_nil, and_assoc, QR_notation_reader_rest_1, ownAt, q1, q2, q3, q4, q5, q6, q7, q8, oa8_w1, c11, k13, c14]; all_goals ((repeat' apply And.intro) <;> assumption)
      · obtain ⟨L17, a18, hB⟩ := kb_inv hB
        obtain ⟨a18z, a18a, a18y⟩ := appK_inv a18
        simp only [List.nil_append] at a18z
        subst a18z
        try dsimp only at hB
        obtain rfl := Option.some.inj hB
        subst hr12
        try simp -implicitDefEqProofs [-getElem?_pos, -Int.ofNat_lt, -Int.ofNat_le, -Int.natCast_eq_zero, -Int.natCast_pos, -List.length_eq_zero_iff, List.getElem?_cons_zero, List.getElem?_cons_succ, List.getElem?_nil, q1, q2, q3, q4, q5, q6, q7, q8, oa8_w1, c11]
        refine Res.sgo ?_
        simp -implicitDefEqProofs [-getElem?_pos, -Int.ofNat_lt, -Int.ofNat_le, -Int.natCast_eq_zero, -Int.natCast_pos, -List.length_eq_zero_iff, List.getElem?_cons_zero, List.getElem?_cons_succ, List.getElem?_nil, and_assoc, Q_notation_reader_rest_1, ownAt, q1, q2, q3, q4, q5, q6, q7, q8, oa8_w1, c11]; all_goals ((repeat' apply And.intro) <;> assumption)
    · try subst ea8_w1
      rcases cnd_inv hB with ⟨c11, hB⟩ | ⟨c11, hB⟩
      · obtain ⟨y12, k13, hB⟩ := kb_inv hB
        replace k13 := run_notation_reader_rest k13
        try simp only [Int.cast_ofNat_Int, Int.natCast_zero, List.length_cons, List.length_nil, List.nil_append, List.cons_append, Nat.zero_add, Nat.reduceAdd, Tru.thr_mk, Tru.nodes_mk, Tru.inner_mk, ints_cons, ints_nil, encTs_cons, encTs_nil, es_str_cons, es_str_nil, c11] at k13
        try dsimp only at hB
        rcases cnd_inv hB with ⟨c14, hB⟩ | ⟨c14, hB⟩
        · obtain ⟨L15, a16, hB⟩ := kb_inv hB
          obtain ⟨a16z, a16a, a16y⟩ := appK_inv a16
          simp only [List.nil_append] at a16z
          subst a16z
          try dsimp only at hB
          obtain rfl := Option.some.inj hB
          subst hr8
          subst hr11
          try simp -implicitDefEqProofs [-getElem?_pos, -Int.ofNat_lt, -Int.ofNat_le, -Int.natCast_eq_zero, -Int.natCast_pos, -List.length_eq_zero_iff, List.getElem?_cons_zero, List.getElem?_cons_succ, List.getElem?_nil, q1, q2, q3, q4, q5, q6, q7, q8, c11, k13, c14]
          refine Res.sgo ?_
          simp -implicitDefEqProofs [-getElem?_pos, -Int.ofNat_lt, -Int.ofNat_le, -Int.natCast_eq_zero, -Int.natCast_pos, -List.length_eq_zero_iff, List.getElem?_cons_zero, List.getElem?_cons_succ, List.getElem?_nil, and_assoc, Q_notation_reader_rest_1, ownAt, q1, q2, q3, q4, q5, q6, q7, q8, c11, k13, c14]; all_goals ((repeat' apply And.intro) <;> assumption)
        · obtain rfl := Option.some.inj hB
          subst hr8
          try simp -implicitDefEqProofs [-getElem?_pos, -Int.ofNat_lt, -Int.ofNat_le, -Int.natCast_eq_zero, -Int.natCast_pos, -List.length_eq_zero_iff, List.getElem?_cons_zero, List.getElem?_cons_succ, List.getElem?_nil, q1, q2, q3, q4, q5, q6, q7, q8, c11, k13, c14]
          refine Res.sret ?_
          simp -implicitDefEqProofs [-getElem?_pos, -Int.ofNat_lt, -Int.ofNat_le, -Int.natCast_eq_zero, -Int.natCast_pos, -List.length_eq_zero_iff, List.getElem?_cons_zero, List.getElem?_cons_succ, List.getElem?_nil, and_assoc, QR_notation_reader_rest_1, ownAt, q1, q2, q3, q4, q5, q6, q7, q8, c11, k13, c14]; all_goals ((repeat' apply And.intro) <;> assumption)
      · obtain ⟨L17, a18, hB⟩ := kb_inv hB
        obtain ⟨a18z, a18a, a18y⟩ := appK_inv a18
        simp only [List.nil_append] at a18z
        subst a18z
        try dsimp only at hB
        obtain rfl := Option.some.inj hB
        subst hr12
        try simp -implicitDefEqProofs [-getElem?_pos, -Int.ofNat_lt, -Int.ofNat_le, -Int.natCast_eq_zero, -Int.natCast_pos, -List.length_eq_zero_iff, List.getElem?_cons_zero, List.getElem?_cons_succ, List.getElem?_nil, q1, q2, q3, q4, q5, q6, q7, q8, c11]
        refine Res.sgo ?_
        simp -implicitDefEqProofs [-getElem?_pos, -Int.ofNat_lt, -Int.ofNat_le, -Int.natCast_eq_zero, -Int.natCast_pos, -List.length_eq_zero_iff, List.getElem?_cons_zero, List.getElem?_cons_succ, List.getElem?_nil, and_assoc, Q_notation_reader_rest_1, ownAt, q1, q2, q3, q4, q5, q6, q7, q8, c11]; all_goals ((repeat' apply And.intro) <;> assumption)
noncomputable def B_notation_reader_rest_2 (p1 : Int) (xba0_0_2 : (List UInt8)) (xba0_1_2 : (List UInt8)) (xba0_2_2 : Int) (xb1_2_1_2 : (List Int)) (xb1_2_2_2 : (List Tru)) : Option (Stp ((List UInt8) × (List UInt8) × Int × (List Int) × (List Tru)) ((List UInt8) × (List UInt8) × Int × (List Int) × (List Tru) × Bool)) :=
  kb (G_notation_reader_number (S_notation_reader.mk xba0_0_2 xba0_1_2 xba0_2_2)) fun y8 =>
  cnd y8.2.1 (
    kb (B_notation_reader_rest_1 y8.2.2.f0 y8.2.2.f1 y8.2.2.f2 p1 xb1_2_1_2 xb1_2_2_2 (y8.2.2.f1 == ([111, 102] : List UInt8)) y8.1) fun o => stpK o (fun z19 =>
      kb (G_notation_reader_take (S_notation_reader.mk z19.1 z19.2.1 z19.2.2.1) ([41] : List UInt8)) fun y20 =>
      cnd y20.1 (
        some (.ret (y20.2.f0, y20.2.f1, y20.2.f2, z19.2.2.2.1, z19.2.2.2.2, true))) (
        kb (G_notation_reader_take y20.2 ([44] : List UInt8)) fun y23 =>
        cnd y23.1 (
          some (.go (y23.2.f0, y23.2.f1, y23.2.f2, z19.2.2.2.1, z19.2.2.2.2))) (
          some (.ret (y23.2.f0, y23.2.f1, y23.2.f2, z19.2.2.2.1, z19.2.2.2.2, false))))) (fun z19r =>
      some (.ret (z19r.1, z19r.2.1, z19r.2.2, xb1_2_1_2, xb1_2_2_2, false)))) (
    some (.ret (y8.2.2.f0, y8.2.2.f1, y8.2.2.f2, xb1_2_1_2, xb1_2_2_2, false)))
def I_notation_reader_rest_2 (p1 : Int) (xba0_0_2 : (List UInt8)) (xba0_1_2 : (List UInt8)) (xba0_2_2 : Int) (xb1_2_1_2 : (List Int)) (xb1_2_2_2 : (List Tru)) (q : St) : Prop := (q (.t 0) = .ptr (.arg 0) 0 0 ∧ q (.i (.arg 0)) = .box 0 [(.pv (.str xba0_0_2)), (.pv (.str xba0_1_2)), (i64 xba0_2_2)]) ∧ (∃ (g : Nat), q (.t 4) = .ptr (.site 0 0 0) g 0 ∧ q (.i (.site 0 0 0)) = .box g [(i64 0), .nilsl, .nilsl]) ∧ (∃ (g : Nat) (w0 : AV) (w1 : AV), q (.t 6) = .ptr (.site 1 2 0) g 0 ∧ q (.i (.site 1 2 0)) = .box g [(i64 p1), w0, w1] ∧ (ownAt q w0 (.site 12 4 0) false 1 xb1_2_1_2.length (ints xb1_2_1_2) ∨ (w0 = .nilsl ∧ xb1_2_1_2 = [])) ∧ (ownAt q w1 (.site 11 4 0) false 3 xb1_2_2_2.length (encTs xb1_2_2_2) ∨ (w1 = .nilsl ∧ xb1_2_2_2 = [])))
def QR_notation_reader_rest_2 (p1 : Int) (rba0_0_2 : (List UInt8)) (rba0_1_2 : (List UInt8)) (rba0_2_2 : Int) (rb0_0_1_2 : (List Int)) (rb0_0_2_2 : (List Tru)) (r5_2 : Bool) (q : St) : Prop := q (.t 5) = (bl r5_2) ∧ (q (.i (.arg 0)) = .box 0 [(.pv (.str rba0_0_2)), (.pv (.str rba0_1_2)), (i64 rba0_2_2)]) ∧ (∃ (g : Nat) (w0 : AV) (w1 : AV), q (.t 4) = .ptr (.site 0 0 0) g 0 ∧ q (.i (.site 0 0 0)) = .box g [(i64 p1), w0, w1] ∧ (ownAt q w0 (.site 12 4 0) false 1 rb0_0_1_2.length (ints rb0_0_1_2) ∨ (w0 = .nilsl ∧ rb0_0_1_2 = [])) ∧ (ownAt q w1 (.site 11 4 0) false 3 rb0_0_2_2.length (encTs rb0_0_2_2) ∨ (w1 = .nilsl ∧ rb0_0_2_2 = [])))
theorem Pb_notation_reader_rest_2 {p1 : Int} {xba0_0_2 : (List UInt8)} {xba0_1_2 : (List UInt8)} {xba0_2_2 : Int} {xb1_2_1_2 : (List Int)} {xb1_2_2_2 : (List Tru)} {q : St} {r : (Stp ((List UInt8) × (List UInt8) × Int × (List Int) × (List Tru)) ((List UInt8) × (List UInt8) × Int × (List Int) × (List Tru) × Bool))} (hI : I_notation_reader_rest_2 p1 xba0_0_2 xba0_1_2 xba0_2_2 xb1_2_1_2 xb1_2_2_2 q) (hB : B_notation_reader_rest_2 p1 xba0_0_2 xba0_1_2 xba0_2_2 xb1_2_1_2 xb1_2_2_2 = some r) : Res (C Tryd.prog cf (Code.fst (Code.fst (Code.snd (Code.snd (Code.snd ((Tryd.f29.body).getD .skip)))))) q) (postB 0 (fun a q => I_notation_reader_rest_2 p1 a.1 a.2.1 a.2.2.1 a.2.2.2.1 a.2.2.2.2 q) (fun _ _ => False) (fun a q => QR_notation_reader_rest_2 p1 a.1 a.2.1 a.2.2.1 a.2.2.2.1 a.2.2.2.2.1 a.2.2.2.2.2 q) r) := by
  simp only [I_notation_reader_rest_2] at hI
  obtain ⟨⟨q1, q2⟩, ⟨g4, q3, q4⟩, ⟨g6, v6_w0, v6_w1, q5, q6, a6_w0, a6_w1⟩⟩ := hI
  simp only [Code.fst, Code.snd, Tryd.f29, Option.getD_some]
  generalize hc1 : Code.cond (Operand.tmp 34) _ _ = cc1
  generalize hr4 : Code.region 4 _ _ = rr4
  generalize hr7 : Code.region 7 _ _ = rr7
  unfold B_notation_reader_rest_2 at hB
  rcases a6_w0 with ⟨ga6_w0, rfl, oa6_w0⟩ | ⟨rfl, ea6_w0⟩
  · rcases a6_w1 with ⟨ga6_w1, rfl, oa6_w1⟩ | ⟨rfl, ea6_w1⟩
    · obtain ⟨y8, k9, hB⟩ := kb_inv hB
      replace k9 := run_notation_reader_number k9
      try simp only [Int.cast_ofNat_Int, Int.natCast_zero, List.length_cons, List.length_nil, List.nil_append, List.cons_append, Nat.zero_add, Nat.reduceAdd, Tru.thr_mk, Tru.nodes_mk, Tru.inner_mk, ints_cons, ints_nil, encTs_cons, encTs_nil, es_str_cons, es_str_nil] at k9
      try dsimp only at hB
      rcases cnd_inv hB with ⟨c10, hB⟩ | ⟨c10, hB⟩
      · subst hr4
        subst hr7
        try simp -implicitDefEqProofs [-getElem?_pos, -Int.ofNat_lt, -Int.ofNat_le, -Int.natCast_eq_zero, -Int.natCast_pos, -List.length_eq_zero_iff, List.getElem?_cons_zero, List.getElem?_cons_succ, List.getElem?_nil, q1, q2, q3, q4, q5, q6, oa6_w0, oa6_w1, k9, c10]
        generalize hz1 : C Tryd.prog cf cc1 _ = z1
        obtain ⟨o, hB1, hB⟩ := kb_inv hB
        have hJ := P_notation_reader_rest_1 (hc1.symm.trans (by kernel_rfl)) hz1 (by simp -implicitDefEqProofs [-getElem?_pos, -Int.ofNat_lt, -Int.ofNat_le, -Int.natCast_eq_zero, -Int.natCast_pos, -List.length_eq_zero_iff, List.getElem?_cons_zero, List.getElem?_cons_succ, List.getElem?_nil, and_assoc, J_notation_reader_rest_1, ownAt, q1, q2, q3, q4, q5, q6, oa6_w0, oa6_w1, k9, c10]) hB1
        obtain ⟨e1, s1, rfl, hq⟩ := hJ.open
        clear hB1
        rcases o with z19 | ⟨_, _⟩ | z19r
        · simp only [stpK_go] at hB
          obtain ⟨rfl, hq⟩ := hq
          obtain ⟨u1_0, u1_1, u1_2, u1_3, u1_4⟩ := z19
          dsimp only at hB hq
          simp only [Q_notation_reader_rest_1] at hq
          obtain ⟨⟨q19_1, q19_2⟩, ⟨g19_4, q19_3, q19_4⟩, ⟨g19_6, v19_6_w0, v19_6_w1, q19_5, q19_6, a19_6_w0, a19_6_w1⟩⟩ := hq
          rcases a19_6_w0 with ⟨ga19_6_w0, rfl, oa19_6_w0⟩ | ⟨rfl, ea19_6_w0⟩
          · rcases a19_6_w1 with ⟨ga19_6_w1, rfl, oa19_6_w1⟩ | ⟨rfl, ea19_6_w1⟩
            · obtain ⟨y20, k21, hB⟩ := kb_inv hB
              replace k21 := run_notation_reader_take k21
              try simp only [Int.cast_ofNat_Int, Int.natCast_zero, List.length_cons, List.length_nil, List.nil_append, List.cons_append, Nat.zero_add, Nat.reduceAdd, Tru.thr_mk, Tru.nodes_mk, Tru.inner_mk, ints_cons, ints_nil, encTs_cons, encTs_nil, es_str_cons, es_str_nil, c10] at k21
              try dsimp only at hB
              rcases cnd_inv hB with ⟨c22, hB⟩ | ⟨c22, hB⟩
              · obtain rfl := Option.some.inj hB
                try simp -implicitDefEqProofs [-getElem?_pos, -Int.ofNat_lt, -Int.ofNat_le, -Int.natCast_eq_zero, -Int.natCast_pos, -List.length_eq_zero_iff, List.getElem?_cons_zero, List.getElem?_cons_succ, List.getElem?_nil, q19_1, q19_2, q19_3, q19_4, q19_5, q19_6, oa19_6_w0, oa19_6_w1, k9, c10, k21, c22]
                refine Res.bret ?_
                simp -implicitDefEqProofs [-getElem?_pos, -Int.ofNat_lt, -Int.ofNat_le, -Int.natCast_eq_zero, -Int.natCast_pos, -List.length_eq_zero_iff, List.getElem?_cons_zero, List.getElem?_cons_succ, List.getElem?_nil, and_assoc, QR_notation_reader_rest_2, ownAt, q19_1, q19_2, q19_3, q19_4, q19_5, q19_6, oa19_6_w0, oa19_6_w1, k9, c10, k21, c22]
              · obtain ⟨y23, k24, hB⟩ := kb_inv hB
                replace k24 := run_notation_reader_take k24
                try simp only [Int.cast_ofNat_Int, Int.natCast_zero, List.length_cons, List.length_nil, List.nil_append, List.cons_append, Nat.zero_add, Nat.reduceAdd, Tru.thr_mk, Tru.nodes_mk, Tru.inner_mk, ints_cons, ints_nil, encTs_cons, encTs_nil, es_str_cons, es_str_nil, c10, c22] at k24
                try dsimp only at hB
                rcases cnd_inv hB with ⟨c25, hB⟩ | ⟨c25, hB⟩
                · obtain rfl := Option.some.inj hB
                  try simp -implicitDefEqProofs [-getElem?_pos, -Int.ofNat_lt, -Int.ofNat_le, -Int.natCast_eq_zero, -Int.natCast_pos, -List.length_eq_zero_iff, List.getElem?_cons_zero, List.getElem?_cons_succ, List.getElem?_nil, q19_1, q19_2, q19_3, q19_4, q19_5, q19_6, oa19_6_w0, oa19_6_w1, k9, c10, k21, c22, k24, c25]
                  refine Res.bgo ?_
                  simp -implicitDefEqProofs [-getElem?_pos, -Int.ofNat_lt, -Int.ofNat_le, -Int.natCast_eq_zero, -Int.natCast_pos, -List.length_eq_zero_iff, List.getElem?_cons_zero, List.getElem?_cons_succ, List.getElem?_nil, and_assoc, I_notation_reader_rest_2, ownAt, q19_1, q19_2, q19_3, q19_4, q19_5, q19_6, oa19_6_w0, oa19_6_w1, k9, c10, k21, c22, k24, c25]
                · obtain rfl := Option.some.inj hB
                  try simp -implicitDefEqProofs [-getElem?_pos, -Int.ofNat_lt, -Int.ofNat_le, -Int.natCast_eq_zero, -Int.natCast_pos, -List.length_eq_zero_iff, List.getElem?_cons_zero, List.getElem?_cons_succ, List.getElem?_nil, q19_1, q19_2, q19_3, q19_4, q19_5, q19_6, oa19_6_w0, oa19_6_w1, k9, c10, k21, c22, k24, c25]
                  refine Res.bret ?_
                  simp -implicitDefEqProofs [-getElem?_pos, -Int.ofNat_lt, -Int.ofNat_le, -Int.natCast_eq_zero, -Int.natCast_pos, -List.length_eq_zero_iff, List.getElem?_cons_zero, List.getElem?_cons_succ, List.getElem?_nil, and_assoc, QR_notation_reader_rest_2, ownAt, q19_1, q19_2, q19_3, q19_4, q19_5, q19_6, oa19_6_w0, oa19_6_w1, k9, c10, k21, c22, k24, c25]
            · try subst ea19_6_w1
              obtain ⟨y20, k21, hB⟩ := kb_inv hB
              replace k21 := run_notation_reader_take k21
              try simp only [Int.cast_ofNat_Int, Int.natCast_zero, List.length_cons, List.length_nil, List.nil_append, List.cons_append, Nat.zero_add, Nat.reduceAdd, Tru.thr_mk, Tru.nodes_mk, Tru.inner_mk, ints_cons, ints_nil, encTs_cons, encTs_nil, es_str_cons, es_str_nil, c10] at k21
              try dsimp only at hB
              rcases cnd_inv hB with ⟨c22, hB⟩ | ⟨c22, hB⟩
              · obtain rfl := Option.some.inj hB
                try simp -implicitDefEqProofs [-getElem?_pos, -Int.ofNat_lt, -Int.ofNat_le, -Int.natCast_eq_zero, -Int.natCast_pos, -List.length_eq_zero_iff, List.getElem?_cons_zero, List.getElem?_cons_succ, List.getElem?_nil, q19_1, q19_2, q19_3, q19_4, q19_5, q19_6, oa19_6_w0, k9, c10, k21, c22]
                refine Res.bret ?_
                simp -implicitDefEqProofs [-getElem?_pos, -Int.ofNat_lt, -Int.ofNat_le, -Int.natCast_eq_zero, -Int.natCast_pos, -List.length_eq_zero_iff, List.getElem?_cons_zero, List.getElem?_cons_succ, List.getElem?_nil, and_assoc, QR_notation_reader_rest_2, ownAt, q19_1, q19_2, q19_3, q19_4, q19_5, q19_6, oa19_6_w0, k9, c10, k21, c22]; all_goals ((repeat' apply And.intro) <;> assumption)
              · obtain ⟨y23, k24, hB⟩ := kb_inv hB
                replace k24 := run_notation_reader_take k24
                try simp only [Int.cast_ofNat_Int, Int.natCast_zero, List.length_cons, List.length_nil, List.nil_append, List.cons_append, Nat.zero_add, Nat.reduceAdd, Tru.thr_mk, Tru.nodes_mk, Tru.inner_mk, ints_cons, ints_nil, encTs_cons, encTs_nil, es_str_cons, es_str_nil, c10, c22] at k24
                try dsimp only at hB
                rcases cnd_inv hB with ⟨c25, hB⟩ | ⟨c25, hB⟩
                · obtain rfl := Option.some.inj hB
                  try simp -implicitDefEqProofs [-getElem?_pos, -Int.ofNat_lt, -Int.ofNat_le, -Int.natCast_eq_zero, -Int.natCast_pos, -List.length_eq_zero_iff, List.getElem?_cons_zero, List.getElem?_cons_succ, List.getElem?_nil, q19_1, q19_2, q19_3, q19_4, q19_5, q19_6, oa19_6_w0, k9, c10, k21, c22, k24, c25]
                  refine Res.bgo ?_
                  simp -implicitDefEqProofs [-getElem?_pos, -Int.ofNat_lt, -Int.ofNat_le, -Int.natCast_eq_zero, -Int.natCast_pos, -List.length_eq_zero_iff, List.getElem?_cons_zero, List.getElem?_cons_succ, List.getElem?_nil, and_assoc, I_notation_reader_rest_2, ownAt, q19_1, q19_2, q19_3, q19_4, q19_5, q19_6, oa19_6_w0, k9, c10, k21, c22, k24, c25]; all_goals ((repeat' apply And.intro) <;> assumption)
                · obtain rfl := Option.some.inj hB
                  try simp -implicitDefEqProofs [-getElem?_pos, -Int.ofNat_lt, -Int.ofNat_le, -Int.natCast_eq_zero, -Int.natCast_pos, -List.length_eq_zero_iff, List.getElem?_cons_zero, List.getElem?_cons_succ, List.getElem?_nil, q19_1, q19_2, q19_3, q19_4, q19_5, q19_6, oa19_6_w0, k9, c10, k21, c22, k24, c25]
                  refine Res.bret ?_
                  simp -implicitDefEqProofs [-getElem?_pos, -Int.ofNat_lt, -Int.ofNat_le, -Int.natCast_eq_zero, -Int.natCast_pos, -List.length_eq_zero_iff, List.getElem?_cons_zero, List.getElem?_cons_succ, List.getElem?_nil, and_assoc, QR_notation_reader_rest_2, ownAt, q19_1, q19_2, q19_3, q19_4, q19_5, q19_6, oa19_6_w0, k9, c10, k21, c22, k24, c25]; all_goals ((repeat' apply And.intro) <;> assumption)
          · try subst ea19_6_w0
            rcases a19_6_w1 with ⟨ga19_6_w1, rfl, oa19_6_w1⟩ | ⟨rfl, ea19_6_w1⟩
            · obtain ⟨y20, k21, hB⟩ := kb_inv hB
              replace k21 := run_notation_reader_take k21
              try simp only [Int.cast_ofNat_Int, Int.natCast_zero, List.length_cons, List.length_nil, List.nil_append, List.cons_append, Nat.zero_add, Nat.reduceAdd, Tru.thr_mk, Tru.nodes_mk, Tru.inner_mk, ints_cons, ints_nil, encTs_cons, encTs_nil, es_str_cons, es_str_nil, c10] at k21
              try dsimp only at hB
              rcases cnd_inv hB with ⟨c22, hB⟩ | ⟨c22, hB⟩
              · obtain rfl := Option.some.inj hB
                try simp -implicitDefEqProofs [-getElem?_pos, -Int.ofNat_lt, -Int.ofNat_le, -Int.natCast_eq_zero, -Int.natCast_pos, -List.length_eq_zero_iff, List.getElem?_cons_zero, List.getElem?_cons_succ, List.getElem?_nil, q19_1, q19_2, q19_3, q19_4, q19_5, q19_6, oa19_6_w1, k9, c10, k21, c22]
                refine Res.bret ?_
                simp -implicitDefEqProofs [-getElem?_pos, -Int.ofNat_lt, -Int.ofNat_le, -Int.natCast_eq_zero, -Int.natCast_pos, -List.length_eq_zero_iff, List.getElem?_cons_zero, List.getElem?_cons_succ, List.getElem?_nil, and_assoc, QR_notation_reader_rest_2, ownAt, q19_1, q19_2, q19_3, q19_4, q19_5, q19_6, oa19_6_w1, k9, c10, k21, c22]; all_goals ((repeat' apply And.intro) <;> assumption)
              · obtain ⟨y23, k24, hB⟩ := kb_inv hB
                replace k24 := run_notation_reader_take k24
                try simp only [Int.cast_ofNat_Int, Int.natCast_zero, List.length_cons, List.length_nil, List.nil_append, List.cons_append, Nat.zero_add, Nat.reduceAdd, Tru.thr_mk, Tru.nodes_mk, Tru.inner_mk, ints_cons, ints_nil, encTs_cons, encTs_nil, es_str_cons, es_str_nil, c10, c22] at k24
                try dsimp only at hB
                rcases cnd_inv hB with ⟨c25, hB⟩ | ⟨c25, hB⟩
                · obtain rfl := Option.some.inj hB
                  try simp -implicitDefEqProofs [-getElem?_pos, -Int.ofNat_lt, -Int.ofNat_le, -Int.natCast_eq_zero, -Int.natCast_pos, -List.length_eq_zero_iff, List.getElem?_cons_zero, List.getElem?_cons_succ, List.getElem?_nil, q19_1, q19_2, q19_3, q19_4, q19_5, q19_6, oa19_6_w1, k9, c10, k21, c22, k24, c25]
                  refine Res.bgo ?_
                  simp -implicitDefEqProofs [-getElem?_pos, -Int.ofNat_lt, -Int.ofNat_le, -Int.natCast_eq_zero, -Int.natCast_pos, -List.length_eq_zero_iff, List.getElem?_cons_zero, List.getElem?_cons_succ, List.getElem?_nil, and_assoc, I_notation_reader_rest_2, ownAt, q19_1, q19_2, q19_3, q19_4, q19_5, q19_6, oa19_6_w1, k9, c10, k21, c22, k24, c25]; all_goals ((repeat' apply And.intro) <;> assumption)
                · obtain rfl := Option.some.inj hB
                  try simp -implicitDefEqProofs [-getElem?_pos, -Int.ofNat_lt, -Int.ofNat_le, -Int.natCast_eq_zero, -Int.natCast_pos, -List.length_eq_zero_iff, List.getElem?_cons_zero, List.getElem?_cons_succ, List.getElem?_nil, q19_1, q19_2, q19_3, q19_4, q19_5, q19_6, oa19_6_w1, k9, c10, k21, c22, k24, c25]
                  refine Res.bret ?_
                  simp -implicitDefEqProofs [-getElem?_pos, -Int.ofNat_lt, -Int.ofNat_le, -Int.natCast_eq_zero, -Int.natCast_pos, -List.length_eq_zero_iff, List.getElem?_cons_zero, List.getElem?_cons_succ, List.getElem?_nil, and_assoc, QR_notation_reader_rest_2, ownAt, q19_1, q19_2, q19_3, q19_4, q19_5, q19_6, oa19_6_w1, k9, c10, k21, c22, k24, c25]; all_goals ((repeat' apply And.intro) <;> assumption)
            · try subst ea19_6_w1
              obtain ⟨y20, k21, hB⟩ := kb_inv hB
              replace k21 := run_notation_reader_take k21
              try simp only [Int.cast_ofNat_Int, Int.natCast_zero, List.length_cons, List.length_nil, List.nil_append, List.cons_append, Nat.zero_add, Nat.reduceAdd, Tru.thr_mk, Tru.nodes_mk, Tru.inner_mk, ints_cons, ints_nil, encTs_cons, encTs_nil, es_str_cons, es_str_nil, c10] at k21
              try dsimp only at hB
              rcases cnd_inv hB with ⟨c22, hB⟩ | ⟨c22, hB⟩
              · obtain rfl := Option.some.inj hB
                try simp -implicitDefEqProofs [-getElem?_pos, -Int.ofNat_lt, -Int.ofNat_le, -Int.natCast_eq_zero, -Int.natCast_pos, -List.length_eq_zero_iff, List.getElem?_cons_zero, List.getElem?_cons_succ, List.getElem?_nil, q19_1, q19_2, q19_3, q19_4, q19_5, q19_6, k9, c10, k21, c22]
                refine Res.bret ?_
                simp -implicitDefEqProofs [-getElem?_pos, -Int.ofNat_lt, -Int.ofNat_le, -Int.natCast_eq_zero, -Int.natCast_pos, -List.length_eq_zero_iff, List.getElem?_cons_zero, List.getElem?_cons_succ, List.getElem?_nil, and_assoc, QR_notation_reader_rest_2, ownAt, q19_1, q19_2, q19_3, q19_4, q19_5, q19_6, k9, c10, k21, c22]; all_goals ((repeat' apply And.intro) <;> assumption)
              · obtain ⟨y23, k24, hB⟩ := kb_inv hB
                replace k24 := run_notation_reader_take k24
                try simp only [Int.cast_ofNat_Int, Int.natCast_zero, List.length_cons, List.length_nil, List.nil_append, List.cons_append, Nat.zero_add, Nat.reduceAdd, Tru.thr_mk, Tru.nodes_mk, Tru.inner_mk, ints_cons, ints_nil, encTs_cons, encTs_nil, es_str_cons, es_str_nil, c10, c22] at k24
                try dsimp only at hB
                rcases cnd_inv hB with ⟨c25, hB⟩ | ⟨c25, hB⟩
                · obtain rfl := Option.some.inj hB
                  try simp -implicitDefEqProofs [-getElem?_pos, -Int.ofNat_lt, -Int.ofNat_le, -Int.natCast_eq_zero, -Int.natCast_pos, -List.length_eq_zero_iff, List.getElem?_cons_zero, List.getElem?_cons_succ, List.getElem?_nil, q19_1, q19_2, q19_3, q19_4, q19_5, q19_6, k9, c10, k21, c22, k24, c25]
                  refine Res.bgo ?_
                  simp -implicitDefEqProofs [-getElem?_pos, -Int.ofNat_lt, -Int.ofNat_le, -Int.natCast_eq_zero, -Int.natCast_pos, -List.length_eq_zero_iff, List.getElem?_cons_zero, List.getElem?_cons_succ, List.getElem?_nil, and_assoc, I_notation_reader_rest_2, ownAt, q19_1, q19_2, q19_3, q19_4, q19_5, q19_6, k9, c10, k21, c22, k24, c25]; all_goals ((repeat' apply And.intro) <;> assumption)
                · obtain rfl := Option.some.inj hB
                  try simp -implicitDefEqProofs [-getElem?_pos, -Int.ofNat_lt, -Int.ofNat_le, -Int.natCast_eq_zero, -Int.natCast_pos, -List.length_eq_zero_iff, List.getElem?_cons_zero, List.getElem?_cons_succ, List.getElem?_nil, q19_1, q19_2, q19_3, q19_4, q19_5, q19_6, k9, c10, k21, c22, k24, c25]
                  refine Res.bret ?_
                  simp -implicitDefEqProofs [-getElem?_pos, -Int.ofNat_lt, -Int.ofNat_le, -Int.natCast_eq_zero, -Int.natCast_pos, -List.length_eq_zero_iff, List.getElem?_cons_zero, List.getElem?_cons_succ, List.getElem?_nil, and_assoc, QR_notation_reader_rest_2, ownAt, q19_1, q19_2, q19_3, q19_4, q19_5, q19_6, k9, c10, k21, c22, k24, c25]; all_goals ((repeat' apply And.intro) <;> assumption)
        · exact hq.elim
        · simp only [stpK_ret] at hB
          obtain ⟨rfl, hq⟩ := hq
          obtain ⟨u1_0, u1_1, u1_2⟩ := z19r
          dsimp only at hB hq
          simp only [QR_notation_reader_rest_1] at hq
          obtain ⟨q19_r1, q19_r2, ⟨g19_r4, v19_r4_w0, v19_r4_w1, q19_r3, q19_r4, a19_r4_w0, a19_r4_w1⟩⟩ := hq
          rcases a19_r4_w0 with ⟨ga19_r4_w0, rfl, oa19_r4_w0⟩ | ⟨rfl, ea19_r4_w0⟩
          · rcases a19_r4_w1 with ⟨ga19_r4_w1, rfl, oa19_r4_w1⟩ | ⟨rfl, ea19_r4_w1⟩
            · obtain rfl := Option.some.inj hB
              try simp -implicitDefEqProofs [-getElem?_pos, -Int.ofNat_lt, -Int.ofNat_le, -Int.natCast_eq_zero, -Int.natCast_pos, -List.length_eq_zero_iff, List.getElem?_cons_zero, List.getElem?_cons_succ, List.getElem?_nil, q19_r1, q19_r2, q19_r3, q19_r4, oa19_r4_w0, oa19_r4_w1, k9, c10]
              refine Res.bret ?_
              simp -implicitDefEqProofs [-getElem?_pos, -Int.ofNat_lt, -Int.ofNat_le, -Int.natCast_eq_zero, -Int.natCast_pos, -List.length_eq_zero_iff, List.getElem?_cons_zero, List.getElem?_cons_succ, List.getElem?_nil, and_assoc, QR_notation_reader_rest_2, ownAt, q19_r1, q19_r2, q19_r3, q19_r4, oa19_r4_w0, oa19_r4_w1, k9, c10]
            · try subst ea19_r4_w1
              obtain rfl := Option.some.inj hB
              try simp -implicitDefEqProofs [-getElem?_pos, -Int.ofNat_lt, -Int.ofNat_le, -Int.natCast_eq_zero, -Int.natCast_pos, -List.length_eq_zero_iff, List.getElem?_cons_zero, List.getElem?_cons_succ, List.getElem?_nil, q19_r1, q19_r2, q19_r3, q19_r4, oa19_r4_w0, k9, c10]
              refine Res.bret ?_
              simp -implicitDefEqProofs [-getElem?_pos, -Int.ofNat_lt, -Int.ofNat_le, -Int.natCast_eq_zero, -Int.natCast_pos, -List.length_eq_zero_iff, List.getElem?_cons_zero, List.getElem?_cons_succ, List.getElem?_nil, and_assoc, QR_notation_reader_rest_2, ownAt, q19_r1, q19_r2, q19_r3, q19_r4, oa19_r4_w0, k9, c10]; all_goals ((repeat' apply And.intro) <;> assumption)
          · try subst ea19_r4_w0
            rcases a19_r4_w1 with ⟨ga19_r4_w1, rfl, oa19_r4_w1⟩ | ⟨rfl, ea19_r4_w1⟩
            · obtain rfl := Option.some.inj hB
              try simp -implicitDefEqProofs [-getElem?_pos, -Int.ofNat_lt, -Int.ofNat_le, -Int.natCast_eq_zero, -Int.natCast_pos, -List.length_eq_zero_iff, List.getElem?_cons_zero, List.getElem?_cons_succ, List.getElem?_nil, q19_r1, q19_r2, q19_r3, q19_r4, oa19_r4_w1, k9, c10]
              refine Res.bret ?_
              simp -implicitDefEqProofs [-getElem?_pos, -Int.ofNat_lt, -Int.ofNat_le, -Int.natCast_eq_zero, -Int.natCast_pos, -List.length_eq_zero_iff, List.getElem?_cons_zero, List.getElem?_cons_succ, List.getElem?_nil, and_assoc, QR_notation_reader_rest_2, ownAt, q19_r1, q19_r2, q19_r3, q19_r4, oa19_r4_w1, k9, c10]; all_goals ((repeat' apply And.intro) <;> assumption)
            · try subst ea19_r4_w1
              obtain rfl := Option.some.inj hB
              try simp -implicitDefEqProofs [-getElem?_pos, -Int.ofNat_lt, -Int.ofNat_le, -Int.natCast_eq_zero, -Int.natCast_pos, -List.length_eq_zero_iff, List.getElem?_cons_zero, List.getElem?_cons_succ, List.getElem?_nil, q19_r1, q19_r2, q19_r3, q19_r4, k9, c10]
              refine Res.bret ?_
              simp -implicitDefEqProofs [-getElem?_pos, -Int.ofNat_lt, -Int.ofNat_le, -Int.natCast_eq_zero, -Int.natCast_pos, -List.length_eq_zero_iff, List.getElem?_cons_zero, List.getElem?_cons_succ, List.getElem?_nil, and_assoc, QR_notation_reader_rest_2, ownAt, q19_r1, q19_r2, q19_r3, q19_r4, k9, c10]; all_goals ((repeat' apply And.intro) <;> assumption)
      · obtain rfl := Option.some.inj hB
        subst hr4
        try simp -implicitDefEqProofs [-getElem?_pos, -Int.ofNat_lt, -Int.ofNat_le, -Int.natCast_eq_zero, -Int.natCast_pos, -List.length_eq_zero_iff, List.getElem?_cons_zero, List.getElem?_cons_succ, List.getElem?_nil, q1, q2, q3, q4, q5, q6, oa6_w0, oa6_w1, k9, c10]
        refine Res.bret ?_
        simp -implicitDefEqProofs [-getElem?_pos, -Int.ofNat_lt, -Int.ofNat_le, -Int.natCast_eq_zero, -Int.natCast_pos, -List.length_eq_zero_iff, List.getElem?_cons_zero, List.getElem?_cons_succ, List.getElem?_nil, and_assoc, QR_notation_reader_rest_2, ownAt, q1, q2, q3, q4, q5, q6, oa6_w0, oa6_w1, k9, c10]
    · try subst ea6_w1
      obtain ⟨y8, k9, hB⟩ := kb_inv hB
      replace k9 := run_notation_reader_number k9
      try simp only [Int.cast_ofNat_Int, Int.natCast_zero, List.length_cons, List.length_nil, List.nil_append, List.cons_append, Nat.zero_add, Nat.reduceAdd, Tru.thr_mk, Tru.nodes_mk, Tru.inner_mk, ints_cons, ints_nil, encTs_cons, encTs_nil, es_str_cons, es_str_nil] at k9
      try dsimp only at hB
      rcases cnd_inv hB with ⟨c10, hB⟩ | ⟨c10, hB⟩
      · subst hr4
        subst hr7
        try simp -implicitDefEqProofs [-getElem?_pos, -Int.ofNat_lt, -Int.ofNat_le, -Int.natCast_eq_zero, -Int.natCast_pos, -List.length_eq_zero_iff, List.getElem?_cons_zero, List.getElem?_cons_succ, List.getElem?_nil, q1, q2, q3, q4, q5, q6, oa6_w0, k9, c10]
        generalize hz1 : C Tryd.prog cf cc1 _ = z1
        obtain ⟨o, hB1, hB⟩ := kb_inv hB
        have hJ := P_notation_reader_rest_1 (hc1.symm.trans (by kernel_rfl)) hz1 (by simp -implicitDefEqProofs [-getElem?_pos, -Int.ofNat_lt, -Int.ofNat_le, -Int.natCast_eq_zero, -Int.natCast_pos, -List.length_eq_zero_iff, List.getElem?_cons_zero, List.getElem?_cons_succ, List.getElem?_nil, and_assoc, J_notation_reader_rest_1, ownAt, q1, q2, q3, q4, q5, q6, oa6_w0, k9, c10]; all_goals ((repeat' apply And.intro) <;> assumption)) hB1
        obtain ⟨e1, s1, rfl, hq⟩ := hJ.open
        clear hB1
        rcases o with z19 | ⟨_, _⟩ | z19r
        · simp only [stpK_go] at hB
          obtain ⟨rfl, hq⟩ := hq
          obtain ⟨u1_0, u1_1, u1_2, u1_3, u1_4⟩ := z19
          dsimp only at hB hq
          simp only [Q_notation_reader_rest_1] at hq
          obtain ⟨⟨q19_1, q19_2⟩, ⟨g19_4, q19_3, q19_4⟩, ⟨g19_6, v19_6_w0, v19_6_w1, q19_5, q19_6, a19_6_w0, a19_6_w1⟩⟩ := hq
          rcases a19_6_w0 with ⟨ga19_6_w0, rfl, oa19_6_w0⟩ | ⟨rfl, ea19_6_w0⟩
          · rcases a19_6_w1 with ⟨ga19_6_w1, rfl, oa19_6_w1⟩ | ⟨rfl, ea19_6_w1⟩
            · obtain ⟨y20, k21, hB⟩ := kb_inv hB
              replace k21 := run_notation_reader_take k21
              try simp only [Int.cast_ofNat_Int, Int.natCast_zero, List.length_cons, List.length_nil, List.nil_append, List.cons_append, Nat.zero_add, Nat.reduceAdd, Tru.thr_mk, Tru.nodes_mk, Tru.inner_mk, ints_cons, ints_nil, encTs_cons, encTs_nil, es_str_cons, es_str_nil, c10] at k21
              try dsimp only at hB
              rcases cnd_inv hB with ⟨c22, hB⟩ | ⟨c22, hB⟩
              · obtain rfl := Option.some.inj hB
                try simp -implicitDefEqProofs [-getElem?_pos, -Int.ofNat_lt, -Int.ofNat_le, -Int.natCast_eq_zero, -Int.natCast_pos, -List.length_eq_zero_iff, List.getElem?_cons_zero, List.getElem?_cons_succ, List.getElem?_nil, q19_1, q19_2, q19_3, q19_4, q19_5, q19_6, oa19_6_w0, oa19_6_w1, k9, c10, k21, c22]
                refine Res.bret ?_
                simp -implicitDefEqProofs [-getElem?_pos, -Int.ofNat_lt, -Int.ofNat_le, -Int.natCast_eq_zero, -Int.natCast_pos, -List.length_eq_zero_iff, List.getElem?_cons_zero, List.getElem?_cons_succ, List.getElem?_nil, and_assoc, QR_notation_reader_rest_2, ownAt, q19_1, q19_2, q19_3, q19_4, q19_5, q19_6, oa19_6_w0, oa19_6_w1, k9, c10, k21, c22]; all_goals ((repeat' apply And.intro) <;> assumption)
              · obtain ⟨y23, k24, hB⟩ := kb_inv hB
                replace k24 := run_notation_reader_take k24
                try simp only [Int.cast_ofNat_Int, Int.natCast_zero, List.length_cons, List.length_nil, List.nil_append, List.cons_append, Nat.zero_add, Nat.reduceAdd, Tru.thr_mk, Tru.nodes_mk, Tru.inner_mk, ints_cons, ints_nil, encTs_cons, encTs_nil, es_str_cons, es_str_nil, c10, c22] at k24
                try dsimp only at hB
                rcases cnd_inv hB with ⟨c25, hB⟩ | ⟨c25, hB⟩
                · obtain rfl := Option.some.inj hB
                  try simp -implicitDefEqProofs [-getElem?_pos, -Int.ofNat_lt, -Int.ofNat_le, -Int.natCast_eq_zero, -Int.natCast_pos, -List.length_eq_zero_iff, List.getElem?_cons_zero, List.getElem?_cons_succ, List.getElem?_nil, q19_1, q19_2, q19_3, q19_4, q19_5, q19_6, oa19_6_w0, oa19_6_w1, k9, c10, k21, c22, k24, c25]
                  refine Res.bgo ?_
                  simp -implicitDefEqProofs [-getElem?_pos, -Int.ofNat_lt, -Int.ofNat_le, -Int.natCast_eq_zero, -Int.natCast_pos, -List.length_eq_zero_iff, List.getElem?_cons_zero, List.getElem?_cons_succ, List.getElem?_nil, and_assoc, I_notation_reader_rest_2, ownAt, q19_1, q19_2, q19_3, q19_4, q19_5, q19_6, oa19_6_w0, oa19_6_w1, k9, c10, k21, c22, k24, c25]; all_goals ((repeat' apply And.intro) <;> assumption)
                · obtain rfl := Option.some.inj hB
                  try simp -implicitDefEqProofs [-getElem?_pos, -Int.ofNat_lt, -Int.ofNat_le, -Int.natCast_eq_zero, -Int.natCast_pos, -List.length_eq_zero_iff, List.getElem?_cons_zero, List.getElem?_cons_succ, List.getElem?_nil, q19_1, q19_2, q19_3, q19_4, q19_5, q19_6, oa19_6_w0, oa19_6_w1, k9, c10, k21, c22, k24, c25]
                  refine Res.bret ?_
                  simp -implicitDefEqProofs [-getElem?_pos, -Int.ofNat_lt, -Int.ofNat_le, -Int.natCast_eq_zero, -Int.natCast_pos, -List.length_eq_zero_iff, List.getElem?_cons_zero, List.getElem?_cons_succ, List.getElem?_nil, and_assoc, QR_notation_reader_rest_2, ownAt, q19_1, q19_2, q19_3, q19_4, q19_5, q19_6, oa19_6_w0, oa19_6_w1, k9, c10, k21, c22, k24, c25]; all_goals ((repeat' apply And.intro) <;> assumption)
            · try subst ea19_6_w1
              obtain ⟨y20, k21, hB⟩ := kb_inv hB
              replace k21 := run_notation_reader_take k21
              try simp only [Int.cast_ofNat_Int, Int.natCast_zero, List.length_cons, List.length_nil, List.nil_append, List.cons_append, Nat.zero_add, Nat.reduceAdd, Tru.thr_mk, Tru.nodes_mk, Tru.inner_mk, ints_cons, ints_nil, encTs_cons, encTs_nil, es_str_cons, es_str_nil, c10] at k21
              try dsimp only at hB
              rcases cnd_inv hB with ⟨c22, hB⟩ | ⟨c22, hB⟩
              · obtain rfl := Option.some.inj hB
                try simp -implicitDefEqProofs [-getElem?_pos, -Int.ofNat_lt, -Int.ofNat_le, -Int.natCast_eq_zero, -Int.natCast_pos, -List.length_eq_zero_iff, List.getElem?_cons_zero, List.getElem?_cons_succ, List.getElem?_nil, q19_1, q19_2, q19_3, q19_4, q19_5, q19_6, oa19_6_w0, k9, c10, k21, c22]
                refine Res.bret ?_
                simp -implicitDefEqProofs [-getElem?_pos, -Int.ofNat_lt, -Int.ofNat_le, -Int.natCast_eq_zero, -Int.natCast_pos, -List.length_eq_zero_iff, List.getElem?_cons_zero, List.getElem?_cons_succ, List.getElem?_nil, and_assoc, QR_notation_reader_rest_2, ownAt, q19_1, q19_2, q19_3, q19_4, q19_5, q19_6, oa19_6_w0, k9, c10, k21, c22]; all_goals ((repeat' apply And.intro) <;> assumption)
              · obtain ⟨y23, k24, hB⟩ := kb_inv hB
                replace k24 := run_notation_reader_take k24
                try simp only [Int.cast_ofNat_Int, Int.natCast_zero, List.length_cons, List.length_nil, List.nil_append, List.cons_append, Nat.zero_add, Nat.reduceAdd, Tru.thr_mk, Tru.nodes_mk, Tru.inner_mk, ints_cons, ints_nil, encTs_cons, encTs_nil, es_str_cons, es_str_nil, c10, c22] at k24
                try dsimp only at hB
                rcases cnd_inv hB with ⟨c25, hB⟩ | ⟨c25, hB⟩
                · obtain rfl := Option.some.inj hB
                  try simp -implicitDefEqProofs [-getElem?_pos, -Int.ofNat_lt, -Int.ofNat_le, -Int.natCast_eq_zero, -Int.natCast_pos, -List.length_eq_zero_iff, List.getElem?_cons_zero, List.getElem?_cons_succ, List.getElem?_nil, q19_1, q19_2, q19_3, q19_4, q19_5, q19_6, oa19_6_w0, k9, c10, k21, c22, k24, c25]
                  refine Res.bgo ?_
                  simp -implicitDefEqProofs [-getElem?_pos, -Int.ofNat_lt, -Int.ofNat_le, -Int.natCast_eq_zero, -Int.natCast_pos, -List.length_eq_zero_iff, List.getElem?_cons_zero, List.getElem?_cons_succ, List.getElem?_nil, and_assoc, I_notation_reader_rest_2, ownAt, q19_1, q19_2, q19_3, q19_4, q19_5, q19_6, oa19_6_w0, k9, c10, k21, c22, k24, c25]; all_goals ((repeat' apply And.intro) <;> assumption)
                · obtain rfl := Option.some.inj hB
                  try simp -implicitDefEqProofs [-getElem?_pos, -Int.ofNat_lt, -Int.ofNat_le, -Int.natCast_eq_zero, -Int.natCast_pos, -List.length_eq_zero_iff, List.getElem?_cons_zero, List.getElem?_cons_succ, List.getElem?_nil, q19_1, q19_2, q19_3, q19_4, q19_5, q19_6, oa19_6_w0, k9, c10, k21, c22, k24, c25]
                  refine Res.bret ?_
                  simp -implicitDefEqProofs [-getElem?_pos, -Int.ofNat_lt, -Int.ofNat_le, -Int.natCast_eq_zero, -Int.natCast_pos, -List.length_eq_zero_iff, List.getElem?_cons_zero, List.getElem?_cons_succ, List.getElem?_nil, and_assoc, QR_notation_reader_rest_2, ownAt, q19_1, q19_2, q19_3, q19_4, q19_5, q19_6, oa19_6_w0, k9, c10, k21, c22, k24, c25]; all_goals ((repeat' apply And.intro) <;> assumption)
          · try subst ea19_6_w0
            rcases a19_6_w1 with ⟨ga19_6_w1, rfl, oa19_6_w1⟩ | ⟨rfl, ea19_6_w1⟩
            · obtain ⟨y20, k21, hB⟩ := kb_inv hB
              replace k21 := run_notation_reader_take k21
              try simp only [Int.cast_ofNat_Int, Int.natCast_zero, List.length_cons, List.length_nil, List.nil_append, List.cons_append, Nat.zero_add, Nat.reduceAdd, Tru.thr_mk, Tru.nodes_mk, Tru.inner_mk, ints_cons, ints_nil, encTs_cons, encTs_nil, es_str_cons, es_str_nil, c10] at k21
              try dsimp only at hB
              rcases cnd_inv hB with ⟨c22, hB⟩ | ⟨c22, hB⟩
              · obtain rfl := Option.some.inj hB
                try simp -implicitDefEqProofs [-getElem?_pos, -Int.ofNat_lt, -Int.ofNat_le, -Int.natCast_eq_zero, -Int.natCast_pos, -List.length_eq_zero_iff, List.getElem?_cons_zero, List.getElem?_cons_succ, List.getElem?_nil, q19_1, q19_2, q19_3, q19_4, q19_5, q19_6, oa19_6_w1, k9, c10, k21, c22]
                refine Res.bret ?_
                simp -implicitDefEqProofs [-getElem?_pos, -Int.ofNat_lt, -Int.ofNat_le, -Int.natCast_eq_zero, -Int.natCast_pos, -List.length_eq_zero_iff, List.getElem?_cons_zero, List.getElem?_cons_succ, List.getElem?_nil, and_assoc, QR_notation_reader_rest_2, ownAt, q19_1, q19_2, q19_3, q19_4, q19_5, q19_6, oa19_6_w1, k9, c10, k21, c22]; all_goals ((repeat' apply And.intro) <;> assumption)
              · obtain ⟨y23, k24, hB⟩ := kb_inv hB
                replace k24 := run_notation_reader_take k24
                try simp only [Int.cast_ofNat_Int, Int.natCast_zero, List.length_cons, List.length_nil, List.nil_append, List.cons_append, Nat.zero_add, Nat.reduceAdd, Tru.thr_mk, Tru.nodes_mk, Tru.inner_mk, ints_cons, ints_nil, encTs_cons, encTs_nil, es_str_cons, es_str_nil, c10, c22] at k24
                try dsimp only at hB
                rcases cnd_inv hB with ⟨c25, hB⟩ | ⟨c25, hB⟩
                · obtain rfl := Option.some.inj hB
                  try simp -implicitDefEqProofs [-getElem?_pos, -Int.ofNat_lt, -Int.ofNat_le, -Int.natCast_eq_zero, -Int.natCast_pos, -List.length_eq_zero_iff, List.getElem?_cons_zero, List.getElem?_cons_succ, List.getElem?_nil, q19_1, q19_2, q19_3, q19_4, q19_5, q19_6, oa19_6_w1, k9, c10, k21, c22, k24, c25]
                  refine Res.bgo ?_
                  simp -implicitDefEqProofs [-getElem?_pos, -Int.ofNat_lt, -Int.ofNat_le, -Int.natCast_eq_zero, -Int.natCast_pos, -List.length_eq_zero_iff, List.getElem?_cons_zero, List.getElem?_cons_succ, List.getElem?_nil, and_assoc, I_notation_reader_rest_2, ownAt, q19_1, q19_2, q19_3, q19_4, q19_5, q19_6, oa19_6_w1, k9, c10, k21, c22, k24, c25]; all_goals ((repeat' apply And.intro) <;> assumption)
                · obtain rfl := Option.some.inj hB
                  try simp -implicitDefEqProofs [-getElem?_pos, -Int.ofNat_lt, -Int.ofNat_le, -Int.natCast_eq_zero, -Int.natCast_pos, -List.length_eq_zero_iff, List.getElem?_cons_zero, List.getElem?_cons_succ, List.getElem?_nil, q19_1, q19_2, q19_3, q19_4, q19_5, q19_6, oa19_6_w1, k9, c10, k21, c22, k24, c25]
                  refine Res.bret ?_
                  simp -implicitDefEqProofs [-getElem?_pos, -Int.ofNat_lt, -Int.ofNat_le, -Int.natCast_eq_zero, -Int.natCast_pos, -List.length_eq_zero_iff, List.getElem?_cons_zero, List.getElem?_cons_succ, List.getElem?_nil, and_assoc, QR_notation_reader_rest_2, ownAt, q19_1, q19_2, q19_3, q19_4, q19_5, q19_6, oa19_6_w1, k9, c10, k21, c22, k24, c25]; all_goals ((repeat' apply And.intro) <;> assumption)
            · try subst ea19_6_w1
              obtain ⟨y20, k21, hB⟩ := kb_inv hB
              replace k21 := run_notation_reader_take k21
              try simp only [Int.cast_ofNat_Int, Int.natCast_zero, List.length_cons, List.length_nil, List.nil_append, List.cons_append, Nat.zero_add, Nat.reduceAdd, Tru.thr_mk, Tru.nodes_mk, Tru.inner_mk, ints_cons, ints_nil, encTs_cons, encTs_nil, es_str_cons, es_str_nil, c10] at k21
              try dsimp only at hB
              rcases cnd_inv hB with ⟨c22, hB⟩ | ⟨c22, hB⟩
              · obtain rfl := Option.some.inj hB
                try simp -implicitDefEqProofs [-getElem?_pos, -Int.ofNat_lt, -Int.ofNat_le, -Int.natCast_eq_zero, -Int.natCast_pos, -List.length_eq_zero_iff, List.getElem?_cons_zero, List.getElem?_cons_succ, List.getElem?_nil, q19_1, q19_2, q19_3, q19_4, q19_5, q19_6, k9, c10, k21, c22]
                refine Res.bret ?_
                simp -implicitDefEqProofs [-getElem?_pos, -Int.ofNat_lt, -Int.ofNat_le, -Int.natCast_eq_zero, -Int.natCast_pos, -List.length_eq_zero_iff, List.getElem?_cons_zero, List.getElem?_cons_succ, List.getElem?_nil, and_assoc, QR_notation_reader_rest_2, ownAt, q19_1, q19_2, q19_3, q19_4, q19_5, q19_6, k9, c10, k21, c22]; all_goals ((repeat' apply And.intro) <;> assumption)
              · obtain ⟨y23, k24, hB⟩ := kb_inv hB
                replace k24 := run_notation_reader_take k24
                try simp only [Int.cast_ofNat_Int, Int.natCast_zero, List.length_cons, List.length_nil, List.nil_append, List.cons_append, Nat.zero_add, Nat.reduceAdd, Tru.thr_mk, Tru.nodes_mk, Tru.inner_mk, ints_cons, ints_nil, encTs_cons, encTs_nil, es_str_cons, es_str_nil, c10, c22] at k24
                try dsimp only at hB
                rcases cnd_inv hB with ⟨c25, hB⟩ | ⟨c25, hB⟩
                · obtain rfl := Option.some.inj hB
                  try simp -implicitDefEqProofs [-getElem?_pos, -Int.ofNat_lt, -Int.ofNat_le, -Int.natCast_eq_zero, -Int.natCast_pos, -List.length_eq_zero_iff, List.getElem?_cons_zero, List.getElem?_cons_succ, List.getElem?_nil, q19_1, q19_2, q19_3, q19_4, q19_5, q19_6, k9, c10, k21, c22, k24, c25]
                  refine Res.bgo ?_
                  simp -implicitDefEqProofs [-getElem?_pos, -Int.ofNat_lt, -Int.ofNat_le, -Int.natCast_eq_zero, -Int.natCast_pos, -List.length_eq_zero_iff, List.getElem?_cons_zero, List.getElem?_cons_succ, List.getElem?_nil, and_assoc, I_notation_reader_rest_2, ownAt, q19_1, q19_2, q19_3, q19_4, q19_5, q19_6, k9, c10, k21, c22, k24, c25]; all_goals ((repeat' apply And.intro) <;> assumption)
                · obtain rfl := Option.some.inj hB
                  try simp -implicitDefEqProofs [-getElem?_pos, -Int.ofNat_lt, -Int.ofNat_le, -Int.natCast_eq_zero, -Int.natCast_pos, -List.length_eq_zero_iff, List.getElem?_cons_zero, List.getElem?_cons_succ, List.getElem?_nil, q19_1, q19_2, q19_3, q19_4, q19_5, q19_6, k9, c10, k21, c22, k24, c25]
                  refine Res.bret ?_
                  simp -implicitDefEqProofs [-getElem?_pos, -Int.ofNat_lt, -Int.ofNat_le, -Int.natCast_eq_zero, -Int.natCast_pos, -List.length_eq_zero_iff, List.getElem?_cons_zero, List.getElem?_cons_succ, List.getElem?_nil, and_assoc, QR_notation_reader_rest_2, ownAt, q19_1, q19_2, q19_3, q19_4, q19_5, q19_6, k9, c10, k21, c22, k24, c25]; all_goals ((repeat' apply And.intro) <;> assumption)
        · exact hq.elim
        · simp only [stpK_ret] at hB
          obtain ⟨rfl, hq⟩ := hq
          obtain ⟨u1_0, u1_1, u1_2⟩ := z19r
          dsimp only at hB hq
          simp only [QR_notation_reader_rest_1] at hq
          obtain ⟨q19_r1, q19_r2, ⟨g19_r4, v19_r4_w0, v19_r4_w1, q19_r3, q19_r4, a19_r4_w0, a19_r4_w1⟩⟩ := hq
          rcases a19_r4_w0 with ⟨ga19_r4_w0, rfl, oa19_r4_w0⟩ | ⟨rfl, ea19_r4_w0⟩
          · rcases a19_r4_w1 with ⟨ga19_r4_w1, rfl, oa19_r4_w1⟩ | ⟨rfl, ea19_r4_w1⟩
            · obtain rfl := Option.some.inj hB
              try simp -implicitDefEqProofs [-getElem?_pos, -Int.ofNat_lt, -Int.ofNat_le, -Int.natCast_eq_zero, -Int.natCast_pos, -List.length_eq_zero_iff, List.getElem?_cons_zero, List.getElem?_cons_succ, List.getElem?_nil, q19_r1, q19_r2, q19_r3, q19_r4, oa19_r4_w0, oa19_r4_w1, k9, c10]
              refine Res.bret ?_
              simp -implicitDefEqProofs [-getElem?_pos, -Int.ofNat_lt, -Int.ofNat_le, -Int.natCast_eq_zero, -Int.natCast_pos, -List.length_eq_zero_iff, List.getElem?_cons_zero, List.getElem?_cons_succ, List.getElem?_nil, and_assoc, QR_notation_reader_rest_2, ownAt, q19_r1, q19_r2, q19_r3, q19_r4, oa19_r4_w0, oa19_r4_w1, k9, c10]; all_goals ((repeat' apply And.intro) <;> assumption)
            · try subst ea19_r4_w1
              obtain rfl := Option.some.inj hB
              try simp -implicitDefEqProofs [-getElem?_pos, -Int.ofNat_lt, -Int.ofNat_le, -Int.natCast_eq_zero, -Int.natCast_pos, -List.length_eq_zero_iff, List.getElem?_cons_zero, List.getElem?_cons_succ, List.getElem?_nil, q19_r1, q19_r2, q19_r3, q19_r4, oa19_r4_w0, k9, c10]
              refine Res.bret ?_
              simp -implicitDefEqProofs [-getElem?_pos, -Int.ofNat_lt, -Int.ofNat_le, -Int.natCast_eq_zero, -Int.natCast_pos, -List.length_eq_zero_iff, List.getElem?_cons_zero, List.getElem?_cons_succ, List.getElem?_nil, and_assoc, QR_notation_reader_rest_2, ownAt, q19_r1, q19_r2, q19_r3, q19_r4, oa19_r4_w0, k9, c10]; all_goals ((repeat' apply And.intro) <;> assumption)
          · try subst ea19_r4_w0
            rcases a19_r4_w1 with ⟨ga19_r4_w1, rfl, oa19_r4_w1⟩ | ⟨rfl, ea19_r4_w1⟩
            · obtain rfl := Option.some.inj hB
              try simp -implicitDefEqProofs [-getElem?_pos, -Int.ofNat_lt, -Int.ofNat_le, -Int.natCast_eq_zero, -Int.natCast_pos, -List.length_eq_zero_iff, List.getElem?_cons_zero, List.getElem?_cons_succ, List.getElem?_nil, q19_r1, q19_r2, q19_r3, q19_r4, oa19_r4_w1, k9, c10]
              refine Res.bret ?_
              simp -implicitDefEqProofs [-getElem?_pos, -Int.ofNat_lt, -Int.ofNat_le, -Int.natCast_eq_zero, -Int.natCast_pos, -List.length_eq_zero_iff, List.getElem?_cons_zero, List.getElem?_cons_succ, List.getElem?_nil, and_assoc, QR_notation_reader_rest_2, ownAt, q19_r1, q19_r2, q19_r3, q19_r4, oa19_r4_w1, k9, c10]; all_goals ((repeat' apply And.intro) <;> assumption)
            · try subst ea19_r4_w1
              obtain rfl := Option.some.inj hB
              try simp -implicitDefEqProofs [-getElem?_pos, -Int.ofNat_lt, -Int.ofNat_le, -Int.natCast_eq_zero, -Int.natCast_pos, -List.length_eq_zero_iff, List.getElem?_cons_zero, List.getElem?_cons_succ, List.getElem?_nil, q19_r1, q19_r2, q19_r3, q19_r4, k9, c10]
              refine Res.bret ?_
              simp -implicitDefEqProofs [-getElem?_pos, -Int.ofNat_lt, -Int.ofNat_le, -Int.natCast_eq_zero, -Int.natCast_pos, -List.length_eq_zero_iff, List.getElem?_cons_zero, List.getElem?_cons_succ, List.getElem?_nil, and_assoc, QR_notation_reader_rest_2, ownAt, q19_r1, q19_r2, q19_r3, q19_r4, k9, c10]; all_goals ((repeat' apply And.intro) <;> assumption)
      · obtain rfl := Option.some.inj hB
        subst hr4
        try simp -implicitDefEqProofs [-getElem?_pos, -Int.ofNat_lt, -Int.ofNat_le, -Int.natCast_eq_zero, -Int.natCast_pos, -List.length_eq_zero_iff, List.getElem?_cons_zero, List.getElem?_cons_succ, List.getElem?_nil, q1, q2, q3, q4, q5, q6, oa6_w0, k9, c10]
        refine Res.bret ?_
        simp -implicitDefEqProofs [-getElem?_pos, -Int.ofNat_lt, -Int.ofNat_le, -Int.natCast_eq_zero, -Int.natCast_pos, -List.length_eq_zero_iff, List.getElem?_cons_zero, List.getElem?_cons_succ, List.getElem?_nil, and_assoc, QR_notation_reader_rest_2, ownAt, q1, q2, q3, q4, q5, q6, oa6_w0, k9, c10]; all_goals ((repeat' apply And.intro) <;> assumption)
  · try subst ea6_w0
    rcases a6_w1 with ⟨ga6_w1, rfl, oa6_w1⟩ | ⟨rfl, ea6_w1⟩
    · obtain ⟨y8, k9, hB⟩ := kb_inv hB
      replace k9 := run_notation_reader_number k9
      try simp only [Int.cast_ofNat_Int, Int.natCast_zero, List.length_cons, List.length_nil, List.nil_append, List.cons_append, Nat.zero_add, Nat.reduceAdd, Tru.thr_mk, Tru.nodes_mk, Tru.inner_mk, ints_cons, ints_nil, encTs_cons, encTs_nil, es_str_cons, es_str_nil] at k9
      try dsimp only at hB
      rcases cnd_inv hB with ⟨c10, hB⟩ | ⟨c10, hB⟩
      · subst hr4
        subst hr7
        try simp -implicitDefEqProofs [-getElem?_pos, -Int.ofNat_lt, -Int.ofNat_le, -Int.natCast_eq_zero, -Int.natCast_pos, -List.length_eq_zero_iff, List.getElem?_cons_zero, List.getElem?_cons_succ, List.getElem?_nil, q1, q2, q3, q4, q5, q6, oa6_w1, k9, c10]
        generalize hz1 : C Tryd.prog cf cc1 _ = z1
        obtain ⟨o, hB1, hB⟩ := kb_inv hB
        have hJ := P_notation_reader_rest_1 (hc1.symm.trans (by kernel_rfl)) hz1 (by simp -implicitDefEqProofs [-getElem?_pos, -Int.ofNat_lt, -Int.ofNat_le, -Int.natCast_eq_zero, -Int.natCast_pos, -List.length_eq_zero_iff, List.getElem?_cons_zero, List.getElem?_cons_succ, List.getElem?_nil, and_assoc, J_notation_reader_rest_1, ownAt, q1, q2, q3, q4, q5, q6, oa6_w1, k9, c10]; all_goals ((repeat' apply And.intro) <;> assumption)) hB1
        obtain ⟨e1, s1, rfl, hq⟩ := hJ.open
        clear hB1
        rcases o with z19 | ⟨_, _⟩ | z19r
        · simp only [stpK_go] at hB
          obtain ⟨rfl, hq⟩ := hq
          obtain ⟨u1_0, u1_1, u1_2, u1_3, u1_4⟩ := z19
          dsimp only at hB hq
          simp only [Q_notation_reader_rest_1] at hq
          obtain ⟨⟨q19_1, q19_2⟩, ⟨g19_4, q19_3, q19_4⟩, ⟨g19_6, v19_6_w0, v19_6_w1, q19_5, q19_6, a19_6_w0, a19_6_w1⟩⟩ := hq
          rcases a19_6_w0 with ⟨ga19_6_w0, rfl, oa19_6_w0⟩ | ⟨rfl, ea19_6_w0⟩
          · rcases a19_6_w1 with ⟨ga19_6_w1, rfl, oa19_6_w1⟩ | ⟨rfl, ea19_6_w1⟩
            · obtain ⟨y20, k21, hB⟩ := kb_inv hB
              replace k21 := run_notation_reader_take k21
              try simp only [Int.cast_ofNat_Int, Int.natCast_zero, List.length_cons, List.length_nil, List.nil_append, List.cons_append, Nat.zero_add, Nat.reduceAdd, Tru.thr_mk, Tru.nodes_mk, Tru.inner_mk, ints_cons, ints_nil, encTs_cons, encTs_nil, es_str_cons, es_str_nil, c10] at k21
              try dsimp only at hB
              rcases cnd_inv hB with ⟨c22, hB⟩ | ⟨c22, hB⟩
              · obtain rfl := Option.some.inj hB
                try simp -implicitDefEqProofs [-getElem?_pos, -Int.ofNat_lt, -Int.ofNat_le, -Int.natCast_eq_zero, -Int.natCast_pos, -List.length_eq_zero_iff, List.getElem?_cons_zero, List.getElem?_cons_succ, List.getElem?_nil, q19_1, q19_2, q19_3, q19_4, q19_5, q19_6, oa19_6_w0, oa19_6_w1, k9, c10, k21, c22]
                refine Res.bret ?_
                simp -implicitDefEqProofs [-getElem?_pos, -Int.ofNat_lt, -Int.ofNat_le, -Int.natCast_eq_zero, -Int.natCast_pos, -List.length_eq_zero_iff, List.getElem?_cons_zero, List.getElem?_cons_succ, List.getElem?_nil, and_assoc, QR_notation_reader_rest_2, ownAt, q19_1, q19_2, q19_3, q19_4, q19_5, q19_6, oa19_6_w0, oa19_6_w1, k9, c10, k21, c22]; all_goals ((repeat' apply And.intro) <;> assumption)
              · obtain ⟨y23, k24, hB⟩ := kb_inv hB
                replace k24 := run_notation_reader_take k24
                try simp only [Int.cast_ofNat_Int, Int.natCast_zero, List.length_cons, List.length_nil, List.nil_append, List.cons_append, Nat.zero_add, Nat.reduceAdd, Tru.thr_mk, Tru.nodes_mk, Tru.inner_mk, ints_cons, ints_nil, encTs_cons, encTs_nil, es_str_cons, es_str_nil, c10, c22] at k24
                try dsimp only at hB
                rcases cnd_inv hB with ⟨c25, hB⟩ | ⟨c25, hB⟩
                · obtain rfl := Option.some.inj hB
                  try simp -implicitDefEqProofs [-getElem?_pos, -Int.ofNat_lt, -Int.ofNat_le, -Int.natCast_eq_zero, -Int.natCast_pos, -List.length_eq_zero_iff, List.getElem?_cons_zero, List.getElem?_cons_succ, List.getElem?_nil, q19_1, q19_2, q19_3, q19_4, q19_5, q19_6, oa19_6_w0, oa19_6_w1, k9, c10, k21, c22, k24, c25]
                  refine Res.bgo ?_
                  simp -implicitDefEqProofs [-getElem?_pos, -Int.ofNat_lt, -Int.ofNat_le, -Int.natCast_eq_zero, -Int.natCast_pos, -List.length_eq_zero_iff, List.getElem?_cons_zero, List.getElem?_cons_succ, List.getElem?_nil, and_assoc, I_notation_reader_rest_2, ownAt, q19_1, q19_2, q19_3, q19_4, q19_5, q19_6, oa19_6_w0, oa19_6_w1, k9, c10, k21, c22, k24, c25]; all_goals ((repeat' apply And.intro) <;> assumption)
                · obtain rfl := Option.some.inj hB
                  try simp -implicitDefEqProofs [-getElem?_pos, -Int.ofNat_lt, -Int.ofNat_le, -Int.natCast_eq_zero, -Int.natCast_pos, -List.length_eq_zero_iff, List.getElem?_cons_zero, List.getElem?_cons_succ, List.getElem?_nil, q19_1, q19_2, q19_3, q19_4, q19_5, q19_6, oa19_6_w0, oa19_6_w1, k9, c10, k21, c22, k24, c25]
                  refine Res.bret ?_
                  simp -implicitDefEqProofs [-getElem?_pos, -Int.ofNat_lt, -Int.ofNat_le, -Int.natCast_eq_zero, -Int.natCast_pos, -List.length_eq_zero_iff, List.getElem?_cons_zero, List.getElem?_cons_succ, List.getElem?_nil, and_assoc, QR_notation_reader_rest_2, ownAt, q19_1, q19_2, q19_3, q19_4, q19_5, q19_6, oa19_6_w0, oa19_6_w1, k9, c10, k21, c22, k24, c25]; all_goals ((repeat' apply And.intro) <;> assumption)
            · try subst ea19_6_w1
              obtain ⟨y20, k21, hB⟩ := kb_inv hB
              replace k21 := run_notation_reader_take k21
              try simp only [Int.cast_ofNat_Int, Int.natCast_zero, List.length_cons, List.length_nil, List.nil_append, List.cons_append, Nat.zero_add, Nat.reduceAdd, Tru.thr_mk, Tru.nodes_mk, Tru.inner_mk, ints_cons, ints_nil, encTs_cons, encTs_nil, es_str_cons, es_str_nil, c10] at k21
              try dsimp only at hB
              rcases cnd_inv hB with ⟨c22, hB⟩ | ⟨c22, hB⟩
              · obtain rfl := Option.some.inj hB
                try simp -implicitDefEqProofs [-getElem?_pos, -Int.ofNat_lt, -Int.ofNat_le, -Int.natCast_eq_zero, -Int.natCast_pos, -List.length_eq_zero_iff, List.getElem?_cons_zero, List.getElem?_cons_succ, List.getElem?_nil, q19_1, q19_2, q19_3, q19_4, q19_5, q19_6, oa19_6_w0, k9, c10, k21, c22]
                refine Res.bret ?_
                simp -implicitDefEqProofs [-getElem?_pos, -Int.ofNat_lt, -Int.ofNat_le, -Int.natCast_eq_zero, -Int.natCast_pos, -List.length_eq_zero_iff, List.getElem?_cons_zero, List.getElem?_cons_succ, List.getElem?_nil, and_assoc, QR_notation_reader_rest_2, ownAt, q19_1, q19_2, q19_3, q19_4, q19_5, q19_6, oa19_6_w0, k9, c10, k21, c22]; all_goals ((repeat' apply And.intro) <;> assumption)
              · obtain ⟨y23, k24, hB⟩ := kb_inv hB
                replace k24 := run_notation_reader_take k24
                try simp only [Int.cast_ofNat_Int, Int.natCast_zero, List.length_cons, List.length_nil, List.nil_append, List.cons_append, Nat.zero_add, Nat.reduceAdd, Tru.thr_mk, Tru.nodes_mk, Tru.inner_mk, ints_cons, ints_nil, encTs_cons, encTs_nil, es_str_cons, es_str_nil, c10, c22] at k24
                try dsimp only at hB
                rcases cnd_inv hB with ⟨c25, hB⟩ | ⟨c25, hB⟩
                · obtain rfl := Option.some.inj hB
                  try simp -implicitDefEqProofs [-getElem?_pos, -Int.ofNat_lt, -Int.ofNat_le, -Int.natCast_eq_zero, -Int.natCast_pos, -List.length_eq_zero_iff, List.getElem?_cons_zero, List.getElem?_cons_succ, List.getElem?_nil, q19_1, q19_2, q19_3, q19_4, q19_5, q19_6, oa19_6_w0, k9, c10, k21, c22, k24, c25]
                  refine Res.bgo ?_
                  simp -implicitDefEqProofs [-getElem?_pos, -Int.ofNat_lt, -Int.ofNat_le, -Int.natCast_eq_zero, -Int.natCast_pos, -List.length_eq_zero_iff, List.getElem?_cons_zero, List.getElem?_cons_succ, List.getElem?_nil, and_assoc, I_notation_reader_rest_2, ownAt, q19_1, q19_2, q19_3, q19_4, q19_5, q19_6, oa19_6_w0, k9, c10, k21, c22, k24, c25]; all_goals ((repeat' apply And.intro) <;> assumption)
                · obtain rfl := Option.some.inj hB
                  try simp -implicitDefEqProofs [-getElem?_pos, -Int.ofNat_lt, -Int.ofNat_le, -Int.natCast_eq_zero, -Int.natCast_pos, -List.length_eq_zero_iff, List.getElem?_cons_zero, List.getElem?_cons_succ, List.getElem?_nil, q19_1, q19_2, q19_3, q19_4, q19_5, q19_6, oa19_6_w0, k9, c10, k21, c22, k24, c25]
                  refine Res.bret ?_
                  simp -implicitDefEqProofs [-getElem?_pos, -Int.ofNat_lt, -Int.ofNat_le, -Int.natCast_eq_zero, -Int.natCast_pos, -List.length_eq_zero_iff, List.getElem?_cons_zero, List.getElem?_cons_succ, List.getElem?_nil, and_assoc, QR_notation_reader_rest_2, ownAt, q19_1, q19_2, q19_3, q19_4, q19_5, q19_6, oa19_6_w0, k9, c10, k21, c22, k24, c25]; all_goals ((repeat' apply And.intro) <;> assumption)
          · try subst ea19_6_w0
            rcases a19_6_w1 with ⟨ga19_6_w1, rfl, oa19_6_w1⟩ | ⟨rfl, ea19_6_w1⟩
            · obtain ⟨y20, k21, hB⟩ := kb_inv hB
              replace k21 := run_notation_reader_take k21
              try simp only [Int.cast_ofNat_Int, Int.natCast_zero, List.length_cons, List.length_nil, List.nil_append, List.cons_append, Nat.zero_add, Nat.reduceAdd, Tru.thr_mk, Tru.nodes_mk, Tru.inner_mk, ints_cons, ints_nil, encTs_cons, encTs_nil, es_str_cons, es_str_nil, c10] at k21
              try dsimp only at hB
              rcases cnd_inv hB with ⟨c22, hB⟩ | ⟨c22, hB⟩
              · obtain rfl := Option.some.inj hB
                try simp -implicitDefEqProofs [-getElem?_pos, -Int.ofNat_lt, -Int.ofNat_le, -Int.natCast_eq_zero, -Int.natCast_pos, -List.length_eq_zero_iff, List.getElem?_cons_zero, List.getElem?_cons_succ, List.getElem?_nil, q19_1, q19_2, q19_3, q19_4, q19_5, q19_6, oa19_6_w1, k9, c10, k21, c22]
                refine Res.bret ?_
                simp -implicitDefEqProofs [-getElem?_pos, -Int.ofNat_lt, -Int.ofNat_le, -Int.natCast_eq_zero, -Int.natCast_pos, -List.length_eq_zero_iff, List.getElem?_cons_zero, List.getElem?_cons_succ, List.getElem?_nil, and_assoc, QR_notation_reader_rest_2, ownAt, q19_1, q19_2, q19_3, q19_4, q19_5, q19_6, oa19_6_w1, k9, c10, k21, c22]; all_goals ((repeat' apply And.intro) <;> assumption)
              · obtain ⟨y23, k24, hB⟩ := kb_inv hB
                replace k24 := run_notation_reader_take k24
                try simp only [Int.cast_ofNat_Int, Int.natCast_zero, List.length_cons, List.length_nil, List.nil_append, List.cons_append, Nat.zero_add, Nat.reduceAdd, Tru.thr_mk, Tru.nodes_mk, Tru.inner_mk, ints_cons, ints_nil, encTs_cons, encTs_nil, es_str_cons, es_str_nil, c10, c22] at k24
                try dsimp only at hB
                rcases cnd_inv hB with ⟨c25, hB⟩ | ⟨c25, hB⟩
                · obtain rfl := Option.some.inj hB
                  try simp -implicitDefEqProofs [-getElem?_pos, -Int.ofNat_lt, -Int.ofNat_le, -Int.natCast_eq_zero, -Int.natCast_pos, -List.length_eq_zero_iff, List.getElem?_cons_zero, List.getElem?_cons_succ, List.getElem?_nil, q19_1, q19_2, q19_3, q19_4, q19_5, q19_6, oa19_6_w1, k9, c10, k21, c22, k24, c25]
                  refine Res.bgo ?_
                  simp -implicitDefEqProofs [-getElem?_pos, -Int.ofNat_lt, -Int.ofNat_le, -Int.natCast_eq_zero, -Int.natCast_pos, -List.length_eq_zero_iff, List.getElem?_cons_zero, List.getElem?_cons_succ, List.getElem?_nil, and_assoc, I_notation_reader_rest_2, ownAt, q19_1, q19_2, q19_3, q19_4, q19_5, q19_6, oa19_6_w1, k9, c10, k21, c22, k24, c25]; all_goals ((repeat' apply And.intro) <;> assumption)
                · obtain rfl := Option.some.inj hB
                  try simp -implicitDefEqProofs [-getElem?_pos, -Int.ofNat_lt, -Int.ofNat_le, -Int.natCast_eq_zero, -Int.natCast_pos, -List.length_eq_zero_iff, List.getElem?_cons_zero, List.getElem?_cons_succ, List.getElem?_nil, q19_1, q19_2, q19_3, q19_4, q19_5, q19_6, oa19_6_w1, k9, c10, k21, c22, k24, c25]
                  refine Res.bret ?_
                  simp -implicitDefEqProofs [-getElem?_pos, -Int.ofNat_lt, -Int.ofNat_le, -Int.natCast_eq_zero, -Int.natCast_pos, -List.length_eq_zero_iff, List.getElem?_cons_zero, List.getElem?_cons_succ, List.getElem?_nil, and_assoc, QR_notation_reader_rest_2, ownAt, q19_1, q19_2, q19_3, q19_4, q19_5, q19_6, oa19_6_w1, k9, c10, k21, c22, k24, c25]; all_goals ((repeat' apply And.intro) <;> assumption)
            · try subst ea19_6_w1
              obtain ⟨y20, k21, hB⟩ := kb_inv hB
              replace k21 := run_notation_reader_take k21
              try simp only [Int.cast_ofNat_Int, Int.natCast_zero, List.length_cons, List.length_nil, List.nil_append, List.cons_append, Nat.zero_add, Nat.reduceAdd, Tru.thr_mk, Tru.nodes_mk, Tru.inner_mk, ints_cons, ints_nil, encTs_cons, encTs_nil, es_str_cons, es_str_nil, c10] at k21
              try dsimp only at hB
              rcases cnd_inv hB with ⟨c22, hB⟩ | ⟨c22, hB⟩
              · obtain rfl := Option.some.inj hB
                try simp -implicitDefEqProofs [-getElem?_pos, -Int.ofNat_lt, -Int.ofNat_le, -Int.natCast_eq_zero, -Int.natCast_pos, -List.length_eq_zero_iff, List.getElem?_cons_zero, List.getElem?_cons_succ, List.getElem?_nil, q19_1, q19_2, q19_3, q19_4, q19_5, q19_6, k9, c10, k21, c22]
                refine Res.bret ?_
                simp -implicitDefEqProofs [-getElem?_pos, -Int.ofNat_lt, -Int.ofNat_le, -Int.natCast_eq_zero, -Int.natCast_pos, -List.length_eq_zero_iff, List.getElem?_cons_zero, List.getElem?_cons_succ, List.getElem?_nil, and_assoc, QR_notation_reader_rest_2, ownAt, q19_1, q19_2, q19_3, q19_4, q19_5, q19_6, k9, c10, k21, c22]; all_goals ((repeat' apply And.intro) <;> assumption)
              · obtain ⟨y23, k24, hB⟩ := kb_inv hB
                replace k24 := run_notation_reader_take k24
                try simp only [Int.cast_ofNat_Int, Int.natCast_zero, List.length_cons, List.length_nil, List.nil_append, List.cons_append, Nat.zero_add, Nat.reduceAdd, Tru.thr_mk, Tru.nodes_mk, Tru.inner_mk, ints_cons, ints_nil, encTs_cons, encTs_nil, es_str_cons, es_str_nil, c10, c22] at k24
                try dsimp only at hB
                rcases cnd_inv hB with ⟨c25, hB⟩ | ⟨c25, hB⟩
                · obtain rfl := Option.some.inj hB
                  try simp -implicitDefEqProofs [-getElem?_pos, -Int.ofNat_lt, -Int.ofNat_le, -Int.natCast_eq_zero, -Int.natCast_pos, -List.length_eq_zero_iff, List.getElem?_cons_zero, List.getElem?_cons_succ, List.getElem?_nil, q19_1, q19_2, q19_3, q19_4, q19_5, q19_6, k9, c10, k21, c22, k24, c25]
                  refine Res.bgo ?_
                  simp -implicitDefEqProofs [-getElem?_pos, -Int.ofNat_lt, -Int.ofNat_le, -Int.natCast_eq_zero, -Int.natCast_pos, -List.length_eq_zero_iff, List.getElem?_cons_zero, List.getElem?_cons_succ, List.getElem?_nil, and_assoc, I_notation_reader_rest_2, ownAt, q19_1, q19_2, q19_3, q19_4, q19_5, q19_6, k9, c10, k21, c22, k24, c25]; all_goals ((repeat' apply And.intro) <;> assumption)
                · obtain rfl := Option.some.inj hB
                  try simp -implicitDefEqProofs [-getElem?_pos, -Int.ofNat_lt, -Int.ofNat_le, -Int.natCast_eq_zero, -Int.natCast_pos, -List.length_eq_zero_iff, List.getElem?_cons_zero, List.getElem?_cons_succ, List.getElem?_nil, q19_1, q19_2, q19_3, q19_4, q19_5, q19_6, k9, c10, k21, c22, k24, c25]
                  refine Res.bret ?_
                  simp -implicitDefEqProofs [-getElem?_pos, -Int.ofNat_lt, -Int.ofNat_le, -Int.natCast_eq_zero, -Int.natCast_pos, -List.length_eq_zero_iff, List.getElem?_cons_zero, List.getElem?_cons_succ, List.getElem?_nil, and_assoc, QR_notation_reader_rest_2, ownAt, q19_1, q19_2, q19_3, q19_4, q19_5, q19_6, k9, c10, k21, c22, k24, c25]; all_goals ((repeat' apply And.intro) <;> assumption)
        · exact hq.elim
        · simp only [stpK_ret] at hB
          obtain ⟨rfl, hq⟩ := hq
          obtain ⟨u1_0, u1_1, u1_2⟩ := z19r
          dsimp only at hB hq
          simp only [QR_notation_reader_rest_1] at hq
          obtain ⟨q19_r1, q19_r2, ⟨g19_r4, v19_r4_w0, v19_r4_w1, q19_r3, q19_r4, a19_r4_w0, a19_r4_w1⟩⟩ := hq
          rcases a19_r4_w0 with ⟨ga19_r4_w0, rfl, oa19_r4_w0⟩ | ⟨rfl, ea19_r4_w0⟩
          · rcases a19_r4_w1 with ⟨ga19_r4_w1, rfl, oa19_r4_w1⟩ | ⟨rfl, ea19_r4_w1⟩
            · obtain rfl := Option.some.inj hB
              try simp -implicitDefEqProofs [-getElem?_pos, -Int.ofNat_lt, -Int.ofNat_le, -Int.natCast_eq_zero, -Int.natCast_pos, -List.length_eq_zero_iff, List.getElem?_cons_zero, List.getElem?_cons_succ, List.getElem?_nil, q19_r1, q19_r2, q19_r3, q19_r4, oa19_r4_w0, oa19_r4_w1, k9, c10]
              refine Res.bret ?_
              simp -implicitDefEqProofs [-getElem?_pos, -Int.ofNat_lt, -Int.ofNat_le, -Int.natCast_eq_zero, -Int.natCast_pos, -List.length_eq_zero_iff, List.getElem?_cons_zero, List.getElem?_cons_succ, List.getElem?_nil, and_assoc, QR_notation_reader_rest_2, ownAt, q19_r1, q19_r2, q19_r3, q19_r4, oa19_r4_w0, oa19_r4_w1, k9, c10]; all_goals ((repeat' apply And.intro) <;> assumption)
            · try subst ea19_r4_w1
              obtain rfl := Option.some.inj hB
              try simp -implicitDefEqProofs [-getElem?_pos, -Int.ofNat_lt, -Int.ofNat_le, -Int.natCast_eq_zero, -Int.natCast_pos, -List.length_eq_zero_iff, List.getElem?_cons_zero, List.getElem?_cons_succ, List.getElem?_nil, q19_r1, q19_r2, q19_r3, q19_r4, oa19_r4_w0, k9, c10]
              refine Res.bret ?_
              simp -implicitDefEqProofs [-getElem?_pos, -Int.ofNat_lt, -Int.ofNat_le, -Int.natCast_eq_zero, -Int.natCast_pos, -List.length_eq_zero_iff, List.getElem?_cons_zero, List.getElem?_cons_succ, List.getElem?_nil, and_assoc, QR_notation_reader_rest_2, ownAt, q19_r1, q19_r2, q19_r3, q19_r4, oa19_r4_w0, k9, c10]; all_goals ((repeat' apply And.intro) <;> assumption)
          · try subst ea19_r4_w0
            rcases a19_r4_w1 with ⟨ga19_r4_w1, rfl, oa19_r4_w1⟩ | ⟨rfl, ea19_r4_w1⟩
            · obtain rfl := Option.some.inj hB
              try simp -implicitDefEqProofs [-getElem?_pos, -Int.ofNat_lt, -Int.ofNat_le, -Int.natCast_eq_zero, -Int.natCast_pos, -List.length_eq_zero_iff, List.getElem?_cons_zero, List.getElem?_cons_succ, List.getElem?_nil, q19_r1, q19_r2, q19_r3, q19_r4, oa19_r4_w1, k9, c10]
              refine Res.bret ?_
              simp -implicitDefEqProofs [-getElem?_pos, -Int.ofNat_lt, -Int.ofNat_le, -Int.natCast_eq_zero, -Int.natCast_pos, -List.length_eq_zero_iff, List.getElem?_cons_zero, List.getElem?_cons_succ, List.getElem?_nil, and_assoc, QR_notation_reader_rest_2, ownAt, q19_r1, q19_r2, q19_r3, q19_r4, oa19_r4_w1, k9, c10]; all_goals ((repeat' apply And.intro) <;> assumption)
            · try subst ea19_r4_w1
              obtain rfl := Option.some.inj hB
              try simp -implicitDefEqProofs [-getElem?_pos, -Int.ofNat_lt, -Int.ofNat_le, -Int.natCast_eq_zero, -Int.natCast_pos, -List.length_eq_zero_iff, List.getElem?_cons_zero, List.getElem?_cons_succ, List.getElem?_nil, q19_r1, q19_r2, q19_r3, q19_r4, k9, c10]
              refine Res.bret ?_
              simp -implicitDefEqProofs [-getElem?_pos, -Int.ofNat_lt, -Int.ofNat_le, -Int.natCast_eq_zero, -Int.natCast_pos, -List.length_eq_zero_iff, List.getElem?_cons_zero, List.getElem?_cons_succ, List.getElem?_nil, and_assoc, QR_notation_reader_rest_2, ownAt, q19_r1, q19_r2, q19_r3, q19_r4, k9, c10]; all_goals ((repeat' apply And.intro) <;> assumption)
      · obtain rfl := Option.some.inj hB
        subst hr4
        try simp -implicitDefEqProofs [-getElem?_pos, -Int.ofNat_lt, -Int.ofNat_le, -Int.natCast_eq_zero, -Int.natCast_pos, -List.length_eq_zero_iff, List.getElem?_cons_zero, List.getElem?_cons_succ, List.getElem?_nil, q1, q2, q3, q4, q5, q6, oa6_w1, k9, c10]
        refine Res.bret ?_
        simp -implicitDefEqProofs [-getElem?_pos, -Int.ofNat_lt, -Int.ofNat_le, -Int.natCast_eq_zero, -Int.natCast_pos, -List.length_eq_zero_iff, List.getElem?_cons_zero, List.getElem?_cons_succ, List.getElem?_nil, and_assoc, QR_notation_reader_rest_2, ownAt, q1, q2, q3, q4, q5, q6, oa6_w1, k9, c10]; all_goals ((repeat' apply And.intro) <;> assumption)
    · try subst ea6_w1
      obtain ⟨y8, k9, hB⟩ := kb_inv hB
      replace k9 := run_notation_reader_number k9
      try simp only [Int.cast_ofNat_Int, Int.natCast_zero, List.length_cons, List.length_nil, List.nil_append, List.cons_append, Nat.zero_add, Nat.reduceAdd, Tru.thr_mk, Tru.nodes_mk, Tru.inner_mk, ints_cons, ints_nil, encTs_cons, encTs_nil, es_str_cons, es_str_nil] at k9
      try dsimp only at hB
      rcases cnd_inv hB with ⟨c10, hB⟩ | ⟨c10, hB⟩
      · subst hr4
        subst hr7
        try simp -implicitDefEqProofs [-getElem?_pos, -Int.ofNat_lt, -Int.ofNat_le, -Int.natCast_eq_zero, -Int.natCast_pos, -List.length_eq_zero_iff, List.getElem?_cons_zero, List.getElem?_cons_succ, List.getElem?_nil, q1, q2, q3, q4, q5, q6, k9, c10]
        generalize hz1 : C Tryd.prog cf cc1 _ = z1
        obtain ⟨o, hB1, hB⟩ := kb_inv hB
        have hJ := P_notation_reader_rest_1 (hc1.symm.trans (by kernel_rfl)) hz1 (by simp -implicitDefEqProofs [-getElem?_pos, -Int.ofNat_lt, -Int.ofNat_le, -Int.natCast_eq_zero, -Int.natCast_pos, -List.length_eq_zero_iff, List.getElem?_cons_zero, List.getElem?_cons_succ, List.getElem?_nil, and_assoc, J_notation_reader_rest_1, ownAt, q1, q2, q3, q4, q5, q6, k9, c10]; all_goals ((repeat' apply And.intro) <;> assumption)) hB1
        obtain ⟨e1, s1, rfl, hq⟩ := hJ.open
        clear hB1
        rcases o with z19 | ⟨_, _⟩ | z19r
        · simp only [stpK_go] at hB
          obtain ⟨rfl, hq⟩ := hq
          obtain ⟨u1_0, u1_1, u1_2, u1_3, u1_4⟩ := z19
          dsimp only at hB hq
          simp only [Q_notation_reader_rest_1] at hq
          obtain ⟨⟨q19_1, q19_2⟩, ⟨g19_4, q19_3, q19_4⟩, ⟨g19_6, v19_6_w0, v19_6_w1, q19_5, q19_6, a19_6_w0, a19_6_w1⟩⟩ := hq
          rcases a19_6_w0 with ⟨ga19_6_w0, rfl, oa19_6_w0⟩ | ⟨rfl, ea19_6_w0⟩
          · rcases a19_6_w1 with ⟨ga19_6_w1, rfl, oa19_6_w1⟩ | ⟨rfl, ea19_6_w1⟩
            · obtain ⟨y20, k21, hB⟩ := kb_inv hB
              replace k21 := run_notation_reader_take k21
              try simp only [Int.cast_ofNat_Int, Int.natCast_zero, List.length_cons, List.length_nil, List.nil_append, List.cons_append, Nat.zero_add, Nat.reduceAdd, Tru.thr_mk, Tru.nodes_mk, Tru.inner_mk, ints_cons, ints_nil, encTs_cons, encTs_nil, es_str_cons, es_str_nil, c10] at k21
              try dsimp only at hB
              rcases cnd_inv hB with ⟨c22, hB⟩ | ⟨c22, hB⟩
              · obtain rfl := Option.some.inj hB
                try simp -implicitDefEqProofs [-getElem?_pos, -Int.ofNat_lt, -Int.ofNat_le, -Int.natCast_eq_zero, -Int.natCast_pos, -List.length_eq_zero_iff, List.getElem?_cons_zero, List.getElem?_cons_succ, List.getElem?_nil, q19_1, q19_2, q19_3, q19_4, q19_5, q19_6, oa19_6_w0, oa19_6_w1, k9, c10, k21, c22]
                refine Res.bret ?_
                simp -implicitDefEqProofs [-getElem?_pos, -Int.ofNat_lt, -Int.ofNat_le, -Int.natCast_eq_zero, -Int.natCast_pos, -List.length_eq_zero_iff, List.getElem?_cons_zero, List.getElem?_cons_succ, List.getElem?_nil, and_assoc, QR_notation_reader_rest_2, ownAt, q19_1, q19_2, q19_3, q19_4, q19_5, q19_6, oa19_6_w0, oa19_6_w1, k9, c10, k21, c22]; all_goals ((repeat' apply And.intro) <;> assumption)
              · obtain ⟨y23, k24, hB⟩ := kb_inv hB
                replace k24 := run_notation_reader_take k24
                try simp only [Int.cast_ofNat_Int, Int.natCast_zero, List.length_cons, List.length_nil, List.nil_append, List.cons_append, Nat.zero_add, Nat.reduceAdd, Tru.thr_mk, Tru.nodes_mk, Tru.inner_mk, ints_cons, ints_nil, encTs_cons, encTs_nil, es_str_cons, es_str_nil, c10, c22] at k24
                try dsimp only at hB
                rcases cnd_inv hB with ⟨c25, hB⟩ | ⟨c25, hB⟩
                · obtain rfl := Option.some.inj hB
                  try simp -implicitDefEqProofs [-getElem?_pos, -Int.ofNat_lt, -Int.ofNat_le, -Int.natCast_eq_zero, -Int.natCast_pos, -List.length_eq_zero_iff, List.getElem?_cons_zero, List.getElem?_cons_succ, List.getElem?_nil, q19_1, q19_2, q19_3, q19_4, q19_5, q19_6, oa19_6_w0, oa19_6_w1, k9, c10, k21, c22, k24, c25]
                  refine Res.bgo ?_
                  simp -implicitDefEqProofs [-getElem?_pos, -Int.ofNat_lt, -Int.ofNat_le, -Int.natCast_eq_zero, -Int.natCast_pos, -List.length_eq_zero_iff, List.getElem?_cons_zero, List.getElem?_cons_succ, List.getElem?_nil, and_assoc, I_notation_reader_rest_2, ownAt, q19_1, q19_2, q19_3, q19_4, q19_5, q19_6, oa19_6_w0, oa19_6_w1, k9, c10, k21, c22, k24, c25]; all_goals ((repeat' apply And.intro) <;> assumption)
                · obtain rfl := Option.some.inj hB
                  try simp -implicitDefEqProofs [-getElem?_pos, -Int.ofNat_lt, -Int.ofNat_le, -Int.natCast_eq_zero, -Int.natCast_pos, -List.length_eq_zero_iff, List.getElem?_cons_zero, List.getElem?_cons_succ, List.getElem?_nil, q19_1, q19_2, q19_3, q19_4, q19_5, q19_6, oa19_6_w0, oa19_6_w1, k9, c10, k21, c22, k24, c25]
                  refine Res.bret ?_
                  simp -implicitDefEqProofs [-getElem?_pos, -Int.ofNat_lt, -Int.ofNat_le, -Int.natCast_eq_zero, -Int.natCast_pos, -List.length_eq_zero_iff, List.getElem?_cons_zero, List.getElem?_cons_succ, List.getElem?_nil, and_assoc, QR_notation_reader_rest_2, ownAt, q19_1, q19_2, q19_3, q19_4, q19_5, q19_6, oa19_6_w0, oa19_6_w1, k9, c10, k21, c22, k24, c25]; all_goals ((repeat' apply And.intro) <;> assumption)
            · try subst ea19_6_w1
              obtain ⟨y20, k21, hB⟩ := kb_inv hB
              replace k21 := run_notation_reader_take k21
              try simp only [Int.cast_ofNat_Int, Int.natCast_zero, List.length_cons, List.length_nil, List.nil_append, List.cons_append, Nat.zero_add, Nat.reduceAdd, Tru.thr_mk, Tru.nodes_mk, Tru.inner_mk, ints_cons, ints_nil, encTs_cons, encTs_nil, es_str_cons, es_str_nil, c10] at k21
              try dsimp only at hB
              rcases cnd_inv hB with ⟨c22, hB⟩ | ⟨c22, hB⟩
              · obtain rfl := Option.some.inj hB
                try simp -implicitDefEqProofs [-getElem?_pos, -Int.ofNat_lt, -Int.ofNat_le, -Int.natCast_eq_zero, -Int.natCast_pos, -List.length_eq_zero_iff, List.getElem?_cons_zero, List.getElem?_cons_succ, List.getElem?_nil, q19_1, q19_2, q19_3, q19_4, q19_5, q19_6, oa19_6_w0, k9, c10, k21, c22]
                refine Res.bret ?_
                simp -implicitDefEqProofs [-getElem?_pos, -Int.ofNat_lt, -Int.ofNat_le, -Int.natCast_eq_zero, -Int.natCast_pos, -List.length_eq_zero_iff, List.getElem?_cons_zero, List.getElem?_cons_succ, List.getElem?_nil, and_assoc, QR_notation_reader_rest_2, ownAt, q19_1, q19_2, q19_3, q19_4, q19_5, q19_6, oa19_6_w0, k9, c10, k21, c22]; all_goals ((repeat' apply And.intro) <;> assumption)
              · obtain ⟨y23, k24, hB⟩ := kb_inv hB
                replace k24 := run_notation_reader_take k24
                try simp only [Int.cast_ofNat_Int, Int.natCast_zero, List.length_cons, List.length_nil, List.nil_append, List.cons_append, Nat.zero_add, Nat.reduceAdd, Tru.thr_mk, Tru.nodes_mk, Tru.inner_mk, ints_cons, ints_nil, encTs_cons, encTs_nil, es_str_cons, es_str_nil, c10, c22] at k24
                try dsimp only at hB
                rcases cnd_inv hB with ⟨c25, hB⟩ | ⟨c25, hB⟩
                · obtain rfl := Option.some.inj hB
                  try simp -implicitDefEqProofs [-getElem?_pos, -Int.ofNat_lt, -Int.ofNat_le, -Int.natCast_eq_zero, -Int.natCast_pos, -List.length_eq_zero_iff, List.getElem?_cons_zero, List.getElem?_cons_succ, List.getElem?_nil, q19_1, q19_2, q19_3, q19_4, q19_5, q19_6, oa19_6_w0, k9, c10, k21, c22, k24, c25]
                  refine Res.bgo ?_
                  simp -implicitDefEqProofs [-getElem?_pos, -Int.ofNat_lt, -Int.ofNat_le, -Int.natCast_eq_zero, -Int.natCast_pos, -List.length_eq_zero_iff, List.getElem?_cons_zero, List.getElem?_cons_succ, List.getElem?_nil, and_assoc, I_notation_reader_rest_2, ownAt, q19_1, q19_2, q19_3, q19_4, q19_5, q19_6, oa19_6_w0, k9, c10, k21, c22, k24, c25]; all_goals ((repeat' apply And.intro) <;> assumption)
                · obtain rfl := Option.some.inj hB
                  try simp -implicitDefEqProofs [-getElem?_pos, -Int.ofNat_lt, -Int.ofNat_le, -Int.natCast_eq_zero, -Int.natCast_pos, -List.length_eq_zero_iff, List.getElem?_cons_zero, List.getElem?_cons_succ, List.getElem?_nil, q19_1, q19_2, q19_3, q19_4, q19_5, q19_6, oa19_6_w0, k9, c10, k21, c22, k24, c25]
                  refine Res.bret ?_
                  simp -implicitDefEqProofs [-getElem?_pos, -Int.ofNat_lt, -Int.ofNat_le, -Int.natCast_eq_zero, -Int.natCast_pos, -List.length_eq_zero_iff, List.getElem?_cons_zero, List.getElem?_cons_succ, List.getElem?_nil, and_assoc, QR_notation_reader_rest_2, ownAt, q19_1, q19_2, q19_3, q19_4, q19_5, q19_6, oa19_6_w0, k9, c10, k21, c22, k24, c25]; all_goals ((repeat' apply And.intro) <;> assumption)
          · try subst ea19_6_w0
            rcases a19_6_w1 with ⟨ga19_6_w1, rfl, oa19_6_w1⟩ | ⟨rfl, ea19_6_w1⟩
            · obtain ⟨y20, k21, hB⟩ := kb_inv hB
              replace k21 := run_notation_reader_take k21
              try simp only [Int.cast_ofNat_Int, Int.natCast_zero, List.length_cons, List.length_nil, List.nil_append, List.cons_append, Nat.zero_add, Nat.reduceAdd, Tru.thr_mk, Tru.nodes_mk, Tru.inner_mk, ints_cons, ints_nil, encTs_cons, encTs_nil, es_str_cons, es_str_nil, c10] at k21
              try dsimp only at hB
              rcases cnd_inv hB with ⟨c22, hB⟩ | ⟨c22, hB⟩
              · obtain rfl := Option.some.inj hB
                try simp -implicitDefEqProofs [-getElem?_pos, -Int.ofNat_lt, -Int.ofNat_le, -Int.natCast_eq_zero, -Int.natCast_pos, -List.length_eq_zero_iff, List.getElem?_cons_zero, List.getElem?_cons_succ, List.getElem?_nil, q19_1, q19_2, q19_3, q19_4, q19_5, q19_6, oa19_6_w1, k9, c10, k21, c22]
                refine Res.bret ?_
                simp -implicitDefEqProofs [-getElem?_pos, -Int.ofNat_lt, -Int.ofNat_le, -Int.natCast_eq_zero, -Int.natCast_pos, -List.length_eq_zero_iff, List.getElem?_cons_zero, List.getElem?_cons_succ, List.getElem?_nil, and_assoc, QR_notation_reader_rest_2, ownAt, q19_1, q19_2, q19_3, q19_4, q19_5, q19_6, oa19_6_w1, k9, c10, k21, c22]; all_goals ((repeat' apply And.intro) <;> assumption)
              · obtain ⟨y23, k24, hB⟩ := kb_inv hB
                replace k24 := run_notation_reader_take k24
                try simp only [Int.cast_ofNat_Int, Int.natCast_zero, List.length_cons, List.length_nil, List.nil_append, List.cons_append, Nat.zero_add, Nat.reduceAdd, Tru.thr_mk, Tru.nodes_mk, Tru.inner_mk, ints_cons, ints_nil, encTs_cons, encTs_nil, es_str_cons, es_str_nil, c10, c22] at k24
                try dsimp only at hB
                rcases cnd_inv hB with ⟨c25, hB⟩ | ⟨c25, hB⟩
                · obtain rfl := Option.some.inj hB
                  try simp -implicitDefEqProofs [-getElem?_pos, -Int.ofNat_lt, -Int.ofNat_le, -Int.natCast_eq_zero, -Int.natCast_pos, -List.length_eq_zero_iff, List.getElem?_cons_zero, List.getElem?_cons_succ, List.getElem?_nil, q19_1, q19_2, q19_3, q19_4, q19_5, q19_6, oa19_6_w1, k9, c10, k21, c22, k24, c25]
                  refine Res.bgo ?_
                  simp -implicitDefEqProofs [-getElem?_pos, -Int.ofNat_lt, -Int.ofNat_le, -Int.natCast_eq_zero, -Int.natCast_pos, -List.length_eq_zero_iff, List.getElem?_cons_zero, List.getElem?_cons_succ, List.getElem?_nil, and_assoc, I_notation_reader_rest_2, ownAt, q19_1, q19_2, q19_3, q19_4, q19_5, q19_6, oa19_6_w1, k9, c10, k21, c22, k24, c25]; all_goals ((repeat' apply And.intro) <;> assumption)
                · obtain rfl := Option.some.inj hB
                  try simp -implicitDefEqProofs [-getElem?_pos, -Int.ofNat_lt, -Int.ofNat_le, -Int.natCast_eq_zero, -Int.natCast_pos, -List.length_eq_zero_iff, List.getElem?_cons_zero, List.getElem?_cons_succ, List.getElem?_nil, q19_1, q19_2, q19_3, q19_4, q19_5, q19_6, oa19_6_w1, k9, c10, k21, c22, k24, c25]
                  refine Res.bret ?_
                  simp -implicitDefEqProofs [-getElem?_pos, -Int.ofNat_lt, -Int.ofNat_le, -Int.natCast_eq_zero, -Int.natCast_pos, -List.length_eq_zero_iff, List.getElem?_cons_zero, List.getElem?_cons_succ, List.getElem?_nil, and_assoc, QR_notation_reader_rest_2, ownAt, q19_1, q19_2, q19_3, q19_4, q19_5, q19_6, oa19_6_w1, k9, c10, k21, c22, k24, c25]; all_goals ((repeat' apply And.intro) <;> assumption)
            · try subst ea19_6_w1
              obtain ⟨y20, k21, hB⟩ := kb_inv hB
              replace k21 := run_notation_reader_take k21
              try simp only [Int.cast_ofNat_Int, Int.natCast_zero, List.length_cons, List.length_nil, List.nil_append, List.cons_append, Nat.zero_add, Nat.reduceAdd, Tru.thr_mk, Tru.nodes_mk, Tru.inner_mk, ints_cons, ints_nil, encTs_cons, encTs_nil, es_str_cons, es_str_nil, c10] at k21
              try dsimp only at hB
              rcases cnd_inv hB with ⟨c22, hB⟩ | ⟨c22, hB⟩
              · obtain rfl := Option.some.inj hB
                try simp -implicitDefEqProofs [-getElem?_pos, -Int.ofNat_lt, -Int.ofNat_le, -Int.natCast_eq_zero, -Int.natCast_pos, -List.length_eq_zero_iff, List.getElem?_cons_zero, List.getElem?_cons_succ, List.getElem?_nil, q19_1, q19_2, q19_3, q19_4, q19_5, q19_6, k9, c10, k21, c22]
                refine Res.bret ?_
                simp -implicitDefEqProofs [-getElem?_pos, -Int.ofNat_lt, -Int.ofNat_le, -Int.natCast_eq_zero, -Int.natCast_pos, -List.length_eq_zero_iff, List.getElem?_cons_zero, List.getElem?_cons_succ, List.getElem?_nil, and_assoc, QR_notation_reader_rest_2, ownAt, q19_1, q19_2, q19_3, q19_4, q19_5, q19_6, k9, c10, k21, c22]; all_goals ((repeat' apply And.intro) <;> assumption)
              · obtain ⟨y23, k24, hB⟩ := kb_inv hB
                replace k24 := run_notation_reader_take k24
                try simp only [Int.cast_ofNat_Int, Int.natCast_zero, List.length_cons, List.length_nil, List.nil_append, List.cons_append, Nat.zero_add, Nat.reduceAdd, Tru.thr_mk, Tru.nodes_mk, Tru.inner_mk, ints_cons, ints_nil, encTs_cons, encTs_nil, es_str_cons, es_str_nil, c10, c22] at k24
                try dsimp only at hB
                rcases cnd_inv hB with ⟨c25, hB⟩ | ⟨c25, hB⟩
                · obtain rfl := Option.some.inj hB
                  try simp -implicitDefEqProofs [-getElem?_pos, -Int.ofNat_lt, -Int.ofNat_le, -Int.natCast_eq_zero, -Int.natCast_pos, -List.length_eq_zero_iff, List.getElem?_cons_zero, List.getElem?_cons_succ, List.getElem?_nil, q19_1, q19_2, q19_3, q19_4, q19_5, q19_6, k9, c10, k21, c22, k24, c25]
                  refine Res.bgo ?_
                  simp -implicitDefEqProofs [-getElem?_pos, -Int.ofNat_lt, -Int.ofNat_le, -Int.natCast_eq_zero, -Int.natCast_pos, -List.length_eq_zero_iff, List.getElem?_cons_zero, List.getElem?_cons_succ, List.getElem?_nil, and_assoc, I_notation_reader_rest_2, ownAt, q19_1, q19_2, q19_3, q19_4, q19_5, q19_6, k9, c10, k21, c22, k24, c25]; all_goals ((repeat' apply And.intro) <;> assumption)
                · obtain rfl := Option.some.inj hB
                  try simp -implicitDefEqProofs [-getElem?_pos, -Int.ofNat_lt, -Int.ofNat_le, -Int.natCast_eq_zero, -Int.natCast_pos, -List.length_eq_zero_iff, List.getElem?_cons_zero, List.getElem?_cons_succ, List.getElem?_nil, q19_1, q19_2, q19_3, q19_4, q19_5, q19_6, k9, c10, k21, c22, k24, c25]
                  refine Res.bret ?_
                  simp -implicitDefEqProofs [-getElem?_pos, -Int.ofNat_lt, -Int.ofNat_le, -Int.natCast_eq_zero, -Int.natCast_pos, -List.length_eq_zero_iff, List.getElem?_cons_zero, List.getElem?_cons_succ, List.getElem?_nil, and_assoc, QR_notation_reader_rest_2, ownAt, q19_1, q19_2, q19_3, q19_4, q19_5, q19_6, k9, c10, k21, c22, k24, c25]; all_goals ((repeat' apply And.intro) <;> assumption)
        · exact hq.elim
        · simp only [stpK_ret] at hB
          obtain ⟨rfl, hq⟩ := hq
          obtain ⟨u1_0, u1_1, u1_2⟩ := z19r
          dsimp only at hB hq
          simp only [QR_notation_reader_rest_1] at hq
          obtain ⟨q19_r1, q19_r2, ⟨g19_r4, v19_r4_w0, v19_r4_w1, q19_r3, q19_r4, a19_r4_w0, a19_r4_w1⟩⟩ := hq
          rcases a19_r4_w0 with ⟨ga19_r4_w0, rfl, oa19_r4_w0⟩ | ⟨rfl, ea19_r4_w0⟩
          · rcases a19_r4_w1 with ⟨ga19_r4_w1, rfl, oa19_r4_w1⟩ | ⟨rfl, ea19_r4_w1⟩
            · obtain rfl := Option.some.inj hB
              try simp -implicitDefEqProofs [-getElem?_pos, -Int.ofNat_lt, -Int.ofNat_le, -Int.natCast_eq_zero, -Int.natCast_pos, -List.length_eq_zero_iff, List.getElem?_cons_zero, List.getElem?_cons_succ, List.getElem?_nil, q19_r1, q19_r2, q19_r3, q19_r4, oa19_r4_w0, oa19_r4_w1, k9, c10]
              refine Res.bret ?_
              simp -implicitDefEqProofs [-getElem?_pos, -Int.ofNat_lt, -Int.ofNat_le, -Int.natCast_eq_zero, -Int.natCast_pos, -List.length_eq_zero_iff, List.getElem?_cons_zero, List.getElem?_cons_succ, List.getElem?_nil, and_assoc, QR_notation_reader_rest_2, ownAt, q19_r1, q19_r2, q19_r3, q19_r4, oa19_r4_w0, oa19_r4_w1, k9, c10]; all_goals ((repeat' apply And.intro) <;> assumption)
            · try subst ea19_r4_w1
              obtain rfl := Option.some.inj hB
              try simp -implicitDefEqProofs [-getElem?_pos, -Int.ofNat_lt, -Int.ofNat_le, -Int.natCast_eq_zero, -Int.natCast_pos, -List.length_eq_zero_iff, List.getElem?_cons_zero, List.getElem?_cons_succ, List.getElem?_nil, q19_r1, q19_r2, q19_r3, q19_r4, oa19_r4_w0, k9, c10]
              refine Res.bret ?_
              simp -implicitDefEqProofs [-getElem?_pos, -Int.ofNat_lt, -Int.ofNat_le, -Int.natCast_eq_zero, -Int.natCast_pos, -List.length_eq_zero_iff, List.getElem?_cons_zero, List.getElem?_cons_succ, List.getElem?_nil, and_assoc, QR_notation_reader_rest_2, ownAt, q19_r1, q19_r2, q19_r3, q19_r4, oa19_r4_w0, k9, c10]; all_goals ((repeat' apply And.intro) <;> assumption)
          · try subst ea19_r4_w0
            rcases a19_r4_w1 with ⟨ga19_r4_w1, rfl, oa19_r4_w1⟩ | ⟨rfl, ea19_r4_w1⟩
            · obtain rfl := Option.some.inj hB
              try simp -implicitDefEqProofs [-getElem?_pos, -Int.ofNat_lt, -Int.ofNat_le, -Int.natCast_eq_zero, -Int.natCast_pos, -List.length_eq_zero_iff, List.getElem?_cons_zero, List.getElem?_cons_succ, List.getElem?_nil, q19_r1, q19_r2, q19_r3, q19_r4, oa19_r4_w1, k9, c10]
              refine Res.bret ?_
              simp -implicitDefEqProofs [-getElem?_pos, -Int.ofNat_lt, -Int.ofNat_le, -Int.natCast_eq_zero, -Int.natCast_pos, -List.length_eq_zero_iff, List.getElem?_cons_zero, List.getElem?_cons_succ, List.getElem?_nil, and_assoc, QR_notation_reader_rest_2, ownAt, q19_r1, q19_r2, q19_r3, q19_r4, oa19_r4_w1, k9, c10]; all_goals ((repeat' apply And.intro) <;> assumption)
            · try subst ea19_r4_w1
              obtain rfl := Option.some.inj hB
              try simp -implicitDefEqProofs [-getElem?_pos, -Int.ofNat_lt, -Int.ofNat_le, -Int.natCast_eq_zero, -Int.natCast_pos, -List.length_eq_zero_iff, List.getElem?_cons_zero, List.getElem?_cons_succ, List.getElem?_nil, q19_r1, q19_r2, q19_r3, q19_r4, k9, c10]
              refine Res.bret ?_
              simp -implicitDefEqProofs [-getElem?_pos, -Int.ofNat_lt, -Int.ofNat_le, -Int.natCast_eq_zero, -Int.natCast_pos, -List.length_eq_zero_iff, List.getElem?_cons_zero, List.getElem?_cons_succ, List.getElem?_nil, and_assoc, QR_notation_reader_rest_2, ownAt, q19_r1, q19_r2, q19_r3, q19_r4, k9, c10]; all_goals ((repeat' apply And.intro) <;> assumption)
      · obtain rfl := Option.some.inj hB
        subst hr4
        try simp -implicitDefEqProofs [-getElem?_pos, -Int.ofNat_lt, -Int.ofNat_le, -Int.natCast_eq_zero, -Int.natCast_pos, -List.length_eq_zero_iff, List.getElem?_cons_zero, List.getElem?_cons_succ, List.getElem?_nil, q1, q2, q3, q4, q5, q6, k9, c10]
        refine Res.bret ?_
        simp -implicitDefEqProofs [-getElem?_pos, -Int.ofNat_lt, -Int.ofNat_le, -Int.natCast_eq_zero, -Int.natCast_pos, -List.length_eq_zero_iff, List.getElem?_cons_zero, List.getElem?_cons_succ, List.getElem?_nil, and_assoc, QR_notation_reader_rest_2, ownAt, q1, q2, q3, q4, q5, q6, k9, c10]; all_goals ((repeat' apply And.intro) <;> assumption)
theorem P_notation_reader_rest_2 {p1 : Int} {xba0_0_2 : (List UInt8)} {xba0_1_2 : (List UInt8)} {xba0_2_2 : Int} {xb1_2_1_2 : (List Int)} {xb1_2_2_2 : (List Tru)} {cc : Code} (hcc : cc = .block 0 (.loop (Code.fst (Code.fst (Code.snd (Code.snd (Code.snd ((Tryd.f29.body).getD .skip)))))))) {s : St} {z : Option (Ex × St)} (hz : C Tryd.prog cf cc s = z) {r : (Stp ((List UInt8) × (List UInt8) × Int × (List Int) × (List Tru)) ((List UInt8) × (List UInt8) × Int × (List Int) × (List Tru) × Bool))} (hI : I_notation_reader_rest_2 p1 xba0_0_2 xba0_1_2 xba0_2_2 xb1_2_1_2 xb1_2_2_2 s) (hB : iterW (fun a => B_notation_reader_rest_2 p1 a.1 a.2.1 a.2.2.1 a.2.2.2.1 a.2.2.2.2) (xba0_0_2, xba0_1_2, xba0_2_2, xb1_2_1_2, xb1_2_2_2) = some r) : Res z (postS (fun _ _ => False) (fun a q => QR_notation_reader_rest_2 p1 a.1 a.2.1 a.2.2.1 a.2.2.2.1 a.2.2.2.2.1 a.2.2.2.2.2 q) r) := by
  subst hcc
  exact while_sim (I := fun a q => I_notation_reader_rest_2 p1 a.1 a.2.1 a.2.2.1 a.2.2.2.1 a.2.2.2.2 q) (Q := (fun _ _ => False)) (QR := (fun a q => QR_notation_reader_rest_2 p1 a.1 a.2.1 a.2.2.1 a.2.2.2.1 a.2.2.2.2.1 a.2.2.2.2.2 q)) (fun a q r h hB => Pb_notation_reader_rest_2 h hB) hI hz hB
noncomputable def B_notation_reader_rest (p0 : S_notation_reader) (p1 : Int) : Option (Tru × Bool × S_notation_reader) :=
  kb (B_notation_reader_rest_0 p0 p1) fun z6 =>
  cnd z6.2.2.2 (
    some ((Tru.mk p1 ([] : (List Int)) ([] : (List Tru))), false, (S_notation_reader.mk z6.1 z6.2.1 z6.2.2.1))) (
    kb (iterW (fun a => B_notation_reader_rest_2 p1 a.1 a.2.1 a.2.2.1 a.2.2.2.1 a.2.2.2.2) (z6.1, z6.2.1, z6.2.2.1, ([] : (List Int)), ([] : (List Tru)))) fun o => stpK o (fun z26 =>
      none) (fun z26r =>
      some ((Tru.mk p1 z26r.2.2.2.1 z26r.2.2.2.2.1), z26r.2.2.2.2.2, (S_notation_reader.mk z26r.1 z26r.2.1 z26r.2.2.1))))
theorem sim_notation_reader_rest {p0 : S_notation_reader} {p1 : Int} {r : (Tru × Bool × S_notation_reader)} (hB : B_notation_reader_rest p0 p1 = some r) : R 29 [.ptr (.arg 0) 0 0, (i64 p1)] [.box 0 [(.pv (.str p0.f0)), (.pv (.str p0.f1)), (i64 p0.f2)]] = some (.tup [(.agg [(i64 r.1.thr), (.pv (.sl r.1.nodes.length (ints r.1.nodes))), (.pv (.sl r.1.inner.length (encTs r.1.inner)))]), (bl r.2.1)], [.box 0 [(.pv (.str r.2.2.f0)), (.pv (.str r.2.2.f1)), (i64 r.2.2.f2)]], []) := by
  rw [R_eq _ _ _ fn_notation_reader_rest]
  simp only [Code.fst, Code.snd, Tryd.f29, Option.getD_some]
  generalize hc0 : Code.region 2 _ _ = cc0
  generalize hc2 : Code.block 0 _ = cc2
  generalize hr1 : Code.region 1 _ _ = rr1
  unfold B_notation_reader_rest at hB
  subst hr1
  try simp -implicitDefEqProofs [-getElem?_pos, -Int.ofNat_lt, -Int.ofNat_le, -Int.natCast_eq_zero, -Int.natCast_pos, -List.length_eq_zero_iff, List.getElem?_cons_zero, List.getElem?_cons_succ, List.getElem?_nil]
  generalize hz0 : C Tryd.prog cf cc0 _ = z0
  obtain ⟨z6, hB1, hB⟩ := kb_inv hB
  have hJ := P_notation_reader_rest_0 (hc0.symm.trans (by kernel_rfl)) hz0 (by simp -implicitDefEqProofs [-getElem?_pos, -Int.ofNat_lt, -Int.ofNat_le, -Int.natCast_eq_zero, -Int.natCast_pos, -List.length_eq_zero_iff, List.getElem?_cons_zero, List.getElem?_cons_succ, List.getElem?_nil, and_assoc, J_notation_reader_rest_0, ownAt]) hB1
  obtain ⟨e0, s0, rfl, hq⟩ := hJ.open
  clear hB1
  obtain ⟨rfl, hq⟩ := hq
  simp only [Q_notation_reader_rest_0] at hq
  obtain ⟨q6_1, ⟨q6_2, q6_3⟩, ⟨g6_5, q6_4, q6_5⟩, ⟨g6_7, q6_6, q6_7⟩⟩ := hq
  rcases cnd_inv hB with ⟨c7, hB⟩ | ⟨c7, hB⟩
  · obtain rfl := Option.some.inj hB
    simp -implicitDefEqProofs [-getElem?_pos, -Int.ofNat_lt, -Int.ofNat_le, -Int.natCast_eq_zero, -Int.natCast_pos, -List.length_eq_zero_iff, List.getElem?_cons_zero, List.getElem?_cons_succ, List.getElem?_nil, q6_1, q6_2, q6_3, q6_4, q6_5, q6_6, q6_7, c7]
  · try simp -implicitDefEqProofs [-getElem?_pos, -Int.ofNat_lt, -Int.ofNat_le, -Int.natCast_eq_zero, -Int.natCast_pos, -List.length_eq_zero_iff, List.getElem?_cons_zero, List.getElem?_cons_succ, List.getElem?_nil, q6_1, q6_2, q6_3, q6_4, q6_5, q6_6, q6_7, c7]
    generalize hz2 : C Tryd.prog cf cc2 _ = z2
    obtain ⟨o, hB1, hB⟩ := kb_inv hB
    have hJ := P_notation_reader_rest_2 (hc2.symm.trans (by kernel_rfl)) hz2 (by simp -implicitDefEqProofs [-getElem?_pos, -Int.ofNat_lt, -Int.ofNat_le, -Int.natCast_eq_zero, -Int.natCast_pos, -List.length_eq_zero_iff, List.getElem?_cons_zero, List.getElem?_cons_succ, List.getElem?_nil, and_assoc, I_notation_reader_rest_2, ownAt, q6_1, q6_2, q6_3, q6_4, q6_5, q6_6, q6_7, c7]) hB1
    obtain ⟨e2, s2, rfl, hq⟩ := hJ.open
    clear hB1
    rcases o with z26 | ⟨_, _⟩ | z26r
    · cases hB
    · exact hq.elim
    · simp only [stpK_ret] at hB
      obtain ⟨rfl, hq⟩ := hq
      obtain ⟨u2_0, u2_1, u2_2, u2_3, u2_4, u2_5⟩ := z26r
      dsimp only at hB hq
      simp only [QR_notation_reader_rest_2] at hq
      obtain ⟨q26_r1, q26_r2, ⟨g26_r4, v26_r4_w0, v26_r4_w1, q26_r3, q26_r4, a26_r4_w0, a26_r4_w1⟩⟩ := hq
      rcases a26_r4_w0 with ⟨ga26_r4_w0, rfl, oa26_r4_w0⟩ | ⟨rfl, ea26_r4_w0⟩
      · rcases a26_r4_w1 with ⟨ga26_r4_w1, rfl, oa26_r4_w1⟩ | ⟨rfl, ea26_r4_w1⟩
        · obtain rfl := Option.some.inj hB
          simp -implicitDefEqProofs [-getElem?_pos, -Int.ofNat_lt, -Int.ofNat_le, -Int.natCast_eq_zero, -Int.natCast_pos, -List.length_eq_zero_iff, List.getElem?_cons_zero, List.getElem?_cons_succ, List.getElem?_nil, q26_r1, q26_r2, q26_r3, q26_r4, oa26_r4_w0, oa26_r4_w1, c7]
        · try subst ea26_r4_w1
          obtain rfl := Option.some.inj hB
          simp -implicitDefEqProofs [-getElem?_pos, -Int.ofNat_lt, -Int.ofNat_le, -Int.natCast_eq_zero, -Int.natCast_pos, -List.length_eq_zero_iff, List.getElem?_cons_zero, List.getElem?_cons_succ, List.getElem?_nil, q26_r1, q26_r2, q26_r3, q26_r4, oa26_r4_w0, c7]
      · try subst ea26_r4_w0
        rcases a26_r4_w1 with ⟨ga26_r4_w1, rfl, oa26_r4_w1⟩ | ⟨rfl, ea26_r4_w1⟩
        · obtain rfl := Option.some.inj hB
          simp -implicitDefEqProofs [-getElem?_pos, -Int.ofNat_lt, -Int.ofNat_le, -Int.natCast_eq_zero, -Int.natCast_pos, -List.length_eq_zero_iff, List.getElem?_cons_zero, List.getElem?_cons_succ, List.getElem?_nil, q26_r1, q26_r2, q26_r3, q26_r4, oa26_r4_w1, c7]
        · try subst ea26_r4_w1
          obtain rfl := Option.some.inj hB
          simp -implicitDefEqProofs [-getElem?_pos, -Int.ofNat_lt, -Int.ofNat_le, -Int.natCast_eq_zero, -Int.natCast_pos, -List.length_eq_zero_iff, List.getElem?_cons_zero, List.getElem?_cons_succ, List.getElem?_nil, q26_r1, q26_r2, q26_r3, q26_r4, c7]
theorem g_notation_reader_rest {p0 : S_notation_reader} {p1 : Int} {r : (Tru × Bool × S_notation_reader)} (hB : B_notation_reader_rest p0 p1 = some r) : G_notation_reader_rest p0 p1 = some r := dec_of (fun a b h => by rcases a with ⟨⟨a0_0, a0_1, a0_2⟩, a1_, ⟨a2_0, a2_1, a2_2⟩⟩; rcases b with ⟨⟨b0_0, b0_1, b0_2⟩, b1_, ⟨b2_0, b2_1, b2_2⟩⟩; simp at h; simp [*]) (sim_notation_reader_rest hB)
end Go.Am

/-
How notation.Parse runs, as a pure function.
-/
namespace Go.Am
open Go Go.Proofs
set_option linter.unusedVariables false
set_option linter.unusedSimpArgs false
set_option maxRecDepth 4000
set_option maxHeartbeats 4000000
noncomputable def B_notation_Parse_0 (y4 : (Int × Bool × S_notation_reader)) (p0 : (List UInt8)) : Option ((List UInt8) × (List UInt8) × Int × Int × (List Int) × (List Tru) × Bool) :=
  cnd y4.2.1 (
    kb (G_notation_reader_rest y4.2.2 y4.1) fun y7 =>
    some (y7.2.2.f0, y7.2.2.f1, y7.2.2.f2, y7.1.thr, y7.1.nodes, y7.1.inner, y7.2.1)) (
    some (y4.2.2.f0, y4.2.2.f1, y4.2.2.f2, 0, ([] : (List Int)), ([] : (List Tru)), y4.2.1))
def J_notation_Parse_0 (y4 : (Int × Bool × S_notation_reader)) (p0 : (List UInt8)) (q : St) : Prop := q (.t 0) = (.pv (.str p0)) ∧ q (.t 24) = (bl y4.2.1) ∧ q (.t 7) = (i64 y4.1) ∧ q (.t 8) = (bl y4.2.1) ∧ (∃ (g : Nat), q (.t 2) = .ptr (.site 0 0 0) g 0 ∧ q (.i (.site 0 0 0)) = .box g [(i64 0), .nilsl, .nilsl]) ∧ (∃ (g : Nat), q (.t 5) = .ptr (.site 3 2 0) g 0 ∧ q (.i (.site 3 2 0)) = .box g [(.pv (.str y4.2.2.f0)), (.pv (.str y4.2.2.f1)), (i64 y4.2.2.f2)]) ∧ (∃ (g : Nat), q (.t 6) = .ptr (.site 5 0 0) g 0 ∧ q (.i (.site 5 0 0)) = .box g [(i64 0), .nilsl, .nilsl])
def Q_notation_Parse_0 (y4 : (Int × Bool × S_notation_reader)) (p0 : (List UInt8)) (ob3_2_0_0 : (List UInt8)) (ob3_2_1_0 : (List UInt8)) (ob3_2_2_0 : Int) (ob5_0_0_0 : Int) (ob5_0_1_0 : (List Int)) (ob5_0_2_0 : (List Tru)) (o8_0 : Bool) (q : St) : Prop := q (.t 0) = (.pv (.str p0)) ∧ q (.t 8) = (bl o8_0) ∧ (∃ (g : Nat), q (.t 2) = .ptr (.site 0 0 0) g 0 ∧ q (.i (.site 0 0 0)) = .box g [(i64 0), .nilsl, .nilsl]) ∧ (∃ (g : Nat), q (.t 5) = .ptr (.site 3 2 0) g 0 ∧ q (.i (.site 3 2 0)) = .box g [(.pv (.str ob3_2_0_0)), (.pv (.str ob3_2_1_0)), (i64 ob3_2_2_0)]) ∧ (∃ (g : Nat) (w0 : AV) (w1 : AV), q (.t 6) = .ptr (.site 5 0 0) g 0 ∧ q (.i (.site 5 0 0)) = .box g [(i64 ob5_0_0_0), w0, w1] ∧ (w0 = .pv (.sl ob5_0_1_0.length (ints ob5_0_1_0)) ∨ (w0 = .nilsl ∧ ob5_0_1_0 = [])) ∧ (w1 = .pv (.sl ob5_0_2_0.length (encTs ob5_0_2_0)) ∨ (w1 = .nilsl ∧ ob5_0_2_0 = [])))
theorem P_notation_Parse_0 {y4 : (Int × Bool × S_notation_reader)} {p0 : (List UInt8)} {cc : Code} (hcc : cc = (Code.snd (Code.fst (Code.snd (Code.snd (Code.snd (Code.snd (Code.snd (Code.snd ((Tryd.f15.body).getD .skip)))))))))) {s : St} {z : Option (Ex × St)} (hz : C Tryd.prog cf cc s = z) {r : ((List UInt8) × (List UInt8) × Int × Int × (List Int) × (List Tru) × Bool)} (hI : J_notation_Parse_0 y4 p0 s) (hB : B_notation_Parse_0 y4 p0 = some r) : Res z (postG (fun a q => Q_notation_Parse_0 y4 p0 a.1 a.2.1 a.2.2.1 a.2.2.2.1 a.2.2.2.2.1 a.2.2.2.2.2.1 a.2.2.2.2.2.2 q) r) := by
  subst hcc
  subst hz
  simp only [J_notation_Parse_0] at hI
  obtain ⟨q1, q2, q3, q4, ⟨g6, q5, q6⟩, ⟨g8, q7, q8⟩, ⟨g10, q9, q10⟩⟩ := hI
  simp only [Code.fst, Code.snd, Tryd.f15, Option.getD_some]
  generalize hr8 : Code.region 8 _ _ = rr8
  unfold B_notation_Parse_0 at hB
  rcases cnd_inv hB with ⟨c6, hB⟩ | ⟨c6, hB⟩
  · obtain ⟨y7, k8, hB⟩ := kb_inv hB
    replace k8 := run_notation_reader_rest k8
    try simp only [Int.cast_ofNat_Int, Int.natCast_zero, List.length_cons, List.length_nil, List.nil_append, List.cons_append, Nat.zero_add, Nat.reduceAdd, Tru.thr_mk, Tru.nodes_mk, Tru.inner_mk, ints_cons, ints_nil, encTs_cons, encTs_nil, es_str_cons, es_str_nil, c6] at k8
    try dsimp only at hB
    obtain rfl := Option.some.inj hB
    subst hr8
    try simp -implicitDefEqProofs [-getElem?_pos, -Int.ofNat_lt, -Int.ofNat_le, -Int.natCast_eq_zero, -Int.natCast_pos, -List.length_eq_zero_iff, List.getElem?_cons_zero, List.getElem?_cons_succ, List.getElem?_nil, q1, q2, q3, q4, q5, q6, q7, q8, q9, q10, c6, k8]
    refine Res.g ?_
    simp -implicitDefEqProofs [-getElem?_pos, -Int.ofNat_lt, -Int.ofNat_le, -Int.natCast_eq_zero, -Int.natCast_pos, -List.length_eq_zero_iff, List.getElem?_cons_zero, List.getElem?_cons_succ, List.getElem?_nil, and_assoc, Q_notation_Parse_0, ownAt, q1, q2, q3, q4, q5, q6, q7, q8, q9, q10, c6, k8]
  · obtain rfl := Option.some.inj hB
    try simp -implicitDefEqProofs [-getElem?_pos, -Int.ofNat_lt, -Int.ofNat_le, -Int.natCast_eq_zero, -Int.natCast_pos, -List.length_eq_zero_iff, List.getElem?_cons_zero, List.getElem?_cons_succ, List.getElem?_nil, q1, q2, q3, q4, q5, q6, q7, q8, q9, q10, c6]
    refine Res.g ?_
    simp -implicitDefEqProofs [-getElem?_pos, -Int.ofNat_lt, -Int.ofNat_le, -Int.natCast_eq_zero, -Int.natCast_pos, -List.length_eq_zero_iff, List.getElem?_cons_zero, List.getElem?_cons_succ, List.getElem?_nil, and_assoc, Q_notation_Parse_0, ownAt, q1, q2, q3, q4, q5, q6, q7, q8, q9, q10, c6]
noncomputable def B_notation_Parse_1 (z9 : ((List UInt8) × (List UInt8) × Int × Int × (List Int) × (List Tru) × Bool)) (p0 : (List UInt8)) : Option Bool :=
  cnd z9.2.2.2.2.2.2 (
    some (decide (z9.2.2.1 < (p0.length : Int)))) (
    some true)
def J_notation_Parse_1 (z9 : ((List UInt8) × (List UInt8) × Int × Int × (List Int) × (List Tru) × Bool)) (p0 : (List UInt8)) (q : St) : Prop := q (.t 0) = (.pv (.str p0)) ∧ q (.t 8) = (bl z9.2.2.2.2.2.2) ∧ (∃ (g : Nat), q (.t 2) = .ptr (.site 0 0 0) g 0 ∧ q (.i (.site 0 0 0)) = .box g [(i64 0), .nilsl, .nilsl]) ∧ (∃ (g : Nat), q (.t 5) = .ptr (.site 3 2 0) g 0 ∧ q (.i (.site 3 2 0)) = .box g [(.pv (.str z9.1)), (.pv (.str z9.2.1)), (i64 z9.2.2.1)]) ∧ (∃ (g : Nat) (w0 : AV) (w1 : AV), q (.t 6) = .ptr (.site 5 0 0) g 0 ∧ q (.i (.site 5 0 0)) = .box g [(i64 z9.2.2.2.1), w0, w1] ∧ (w0 = .pv (.sl z9.2.2.2.2.1.length (ints z9.2.2.2.2.1)) ∨ (w0 = .nilsl ∧ z9.2.2.2.2.1 = [])) ∧ (w1 = .pv (.sl z9.2.2.2.2.2.1.length (encTs z9.2.2.2.2.2.1)) ∨ (w1 = .nilsl ∧ z9.2.2.2.2.2.1 = [])))
def Q_notation_Parse_1 (z9 : ((List UInt8) × (List UInt8) × Int × Int × (List Int) × (List Tru) × Bool)) (p0 : (List UInt8)) (o41_1 : Bool) (q : St) : Prop := q (.t 41) = (bl o41_1) ∧ (∃ (g : Nat), q (.t 2) = .ptr (.site 0 0 0) g 0 ∧ q (.i (.site 0 0 0)) = .box g [(i64 0), .nilsl, .nilsl]) ∧ (∃ (g : Nat), q (.t 5) = .ptr (.site 3 2 0) g 0 ∧ q (.i (.site 3 2 0)) = .box g [(.pv (.str z9.1)), (.pv (.str z9.2.1)), (i64 z9.2.2.1)]) ∧ (∃ (g : Nat) (w0 : AV) (w1 : AV), q (.t 6) = .ptr (.site 5 0 0) g 0 ∧ q (.i (.site 5 0 0)) = .box g [(i64 z9.2.2.2.1), w0, w1] ∧ (w0 = .pv (.sl z9.2.2.2.2.1.length (ints z9.2.2.2.2.1)) ∨ (w0 = .nilsl ∧ z9.2.2.2.2.1 = [])) ∧ (w1 = .pv (.sl z9.2.2.2.2.2.1.length (encTs z9.2.2.2.2.2.1)) ∨ (w1 = .nilsl ∧ z9.2.2.2.2.2.1 = [])))
theorem P_notation_Parse_1 {z9 : ((List UInt8) × (List UInt8) × Int × Int × (List Int) × (List Tru) × Bool)} {p0 : (List UInt8)} {cc : Code} (hcc : cc = (Code.fst (Code.fst (Code.snd (Code.snd (Code.snd (Code.snd (Code.snd (Code.snd (Code.snd ((Tryd.f15.body).getD .skip))))))))))) {s : St} {z : Option (Ex × St)} (hz : C Tryd.prog cf cc s = z) {r : Bool} (hI : J_notation_Parse_1 z9 p0 s) (hB : B_notation_Parse_1 z9 p0 = some r) : Res z (postG (fun a q => Q_notation_Parse_1 z9 p0 a q) r) := by
  subst hcc
  subst hz
  simp only [J_notation_Parse_1] at hI
  obtain ⟨q1, q2, ⟨g4, q3, q4⟩, ⟨g6, q5, q6⟩, ⟨g8, v8_w0, v8_w1, q7, q8, a8_w0, a8_w1⟩⟩ := hI
  simp only [Code.fst, Code.snd, Tryd.f15, Option.getD_some]
  unfold B_notation_Parse_1 at hB
  rcases a8_w0 with rfl | ⟨rfl, ea8_w0⟩
  · rcases a8_w1 with rfl | ⟨rfl, ea8_w1⟩
    · rcases cnd_inv hB with ⟨c10, hB⟩ | ⟨c10, hB⟩
      · obtain rfl := Option.some.inj hB
        try simp -implicitDefEqProofs [-getElem?_pos, -Int.ofNat_lt, -Int.ofNat_le, -Int.natCast_eq_zero, -Int.natCast_pos, -List.length_eq_zero_iff, List.getElem?_cons_zero, List.getElem?_cons_succ, List.getElem?_nil, q1, q2, q3, q4, q5, q6, q7, q8, c10]
        refine Res.g ?_
        simp -implicitDefEqProofs [-getElem?_pos, -Int.ofNat_lt, -Int.ofNat_le, -Int.natCast_eq_zero, -Int.natCast_pos, -List.length_eq_zero_iff, List.getElem?_cons_zero, List.getElem?_cons_succ, List.getElem?_nil, and_assoc, Q_notation_Parse_1, ownAt, q1, q2, q3, q4, q5, q6, q7, q8, c10]
      · obtain rfl := Option.some.inj hB
        try simp -implicitDefEqProofs [-getElem?_pos, -Int.ofNat_lt, -Int.ofNat_le, -Int.natCast_eq_zero, -Int.natCast_pos, -List.length_eq_zero_iff, List.getElem?_cons_zero, List.getElem?_cons_succ, List.getElem?_nil, q1, q2, q3, q4, q5, q6, q7, q8, c10]
        refine Res.g ?_
        simp -implicitDefEqProofs [-getElem?_pos, -Int.ofNat_lt, -Int.ofNat_le, -Int.natCast_eq_zero, -Int.natCast_pos, -List.length_eq_zero_iff, List.getElem?_cons_zero, List.getElem?_cons_succ, List.getElem?_nil, and_assoc, Q_notation_Parse_1, ownAt, q1, q2, q3, q4, q5, q6, q7, q8, c10]
    · try subst ea8_w1
      rcases cnd_inv hB with ⟨c10, hB⟩ | ⟨c10, hB⟩
      · obtain rfl := Option.some.inj hB
        try simp -implicitDefEqProofs [-getElem?_pos, -Int.ofNat_lt, -Int.ofNat_le, -Int.natCast_eq_zero, -Int.natCast_pos, -List.length_eq_zero_iff, List.getElem?_cons_zero, List.getElem?_cons_succ, List.getElem?_nil, q1, q2, q3, q4, q5, q6, q7, q8, c10]
        refine Res.g ?_
        simp -implicitDefEqProofs [-getElem?_pos, -Int.ofNat_lt, -Int.ofNat_le, -Int.natCast_eq_zero, -Int.natCast_pos, -List.length_eq_zero_iff, List.getElem?_cons_zero, List.getElem?_cons_succ, List.getElem?_nil, and_assoc, Q_notation_Parse_1, ownAt, q1, q2, q3, q4, q5, q6, q7, q8, c10]; all_goals ((repeat' apply And.intro) <;> assumption)
      · obtain rfl := Option.some.inj hB
        try simp -implicitDefEqProofs [-getElem?_pos, -Int.ofNat_lt, -Int.ofNat_le, -Int.natCast_eq_zero, -Int.natCast_pos, -List.length_eq_zero_iff, List.getElem?_cons_zero, List.getElem?_cons_succ, List.getElem?_nil, q1, q2, q3, q4, q5, q6, q7, q8, c10]
        refine Res.g ?_
        simp -implicitDefEqProofs [-getElem?_pos, -Int.ofNat_lt, -Int.ofNat_le, -Int.natCast_eq_zero, -Int.natCast_pos, -List.length_eq_zero_iff, List.getElem?_cons_zero, List.getElem?_cons_succ, List.getElem?_nil, and_assoc, Q_notation_Parse_1, ownAt, q1, q2, q3, q4, q5, q6, q7, q8, c10]; all_goals ((repeat' apply And.intro) <;> assumption)
  · try subst ea8_w0
    rcases a8_w1 with rfl | ⟨rfl, ea8_w1⟩
    · rcases cnd_inv hB with ⟨c10, hB⟩ | ⟨c10, hB⟩
      · obtain rfl := Option.some.inj hB
        try simp -implicitDefEqProofs [-getElem?_pos, -Int.ofNat_lt, -Int.ofNat_le, -Int.natCast_eq_zero, -Int.natCast_pos, -List.length_eq_zero_iff, List.getElem?_cons_zero, List.getElem?_cons_succ, List.getElem?_nil, q1, q2, q3, q4, q5, q6, q7, q8, c10]
        refine Res.g ?_
        simp -implicitDefEqProofs [-getElem?_pos, -Int.ofNat_lt, -Int.ofNat_le, -Int.natCast_eq_zero, -Int.natCast_pos, -List.length_eq_zero_iff, List.getElem?_cons_zero, List.getElem?_cons_succ, List.getElem?_nil, and_assoc, Q_notation_Parse_1, ownAt, q1, q2, q3, q4, q5, q6, q7, q8, c10]; all_goals ((repeat' apply And.intro) <;> assumption)
      · obtain rfl := Option.some.inj hB
        try simp -implicitDefEqProofs [-getElem?_pos, -Int.ofNat_lt, -Int.ofNat_le, -Int.natCast_eq_zero, -Int.natCast_pos, -List.length_eq_zero_iff, List.getElem?_cons_zero, List.getElem?_cons_succ, List.getElem?_nil, q1, q2, q3, q4, q5, q6, q7, q8, c10]
        refine Res.g ?_
        simp -implicitDefEqProofs [-getElem?_pos, -Int.ofNat_lt, -Int.ofNat_le, -Int.natCast_eq_zero, -Int.natCast_pos, -List.length_eq_zero_iff, List.getElem?_cons_zero, List.getElem?_cons_succ, List.getElem?_nil, and_assoc, Q_notation_Parse_1, ownAt, q1, q2, q3, q4, q5, q6, q7, q8, c10]; all_goals ((repeat' apply And.intro) <;> assumption)
    · try subst ea8_w1
      rcases cnd_inv hB with ⟨c10, hB⟩ | ⟨c10, hB⟩
      · obtain rfl := Option.some.inj hB
        try simp -implicitDefEqProofs [-getElem?_pos, -Int.ofNat_lt, -Int.ofNat_le, -Int.natCast_eq_zero, -Int.natCast_pos, -List.length_eq_zero_iff, List.getElem?_cons_zero, List.getElem?_cons_succ, List.getElem?_nil, q1, q2, q3, q4, q5, q6, q7, q8, c10]
        refine Res.g ?_
        simp -implicitDefEqProofs [-getElem?_pos, -Int.ofNat_lt, -Int.ofNat_le, -Int.natCast_eq_zero, -Int.natCast_pos, -List.length_eq_zero_iff, List.getElem?_cons_zero, List.getElem?_cons_succ, List.getElem?_nil, and_assoc, Q_notation_Parse_1, ownAt, q1, q2, q3, q4, q5, q6, q7, q8, c10]; all_goals ((repeat' apply And.intro) <;> assumption)
      · obtain rfl := Option.some.inj hB
        try simp -implicitDefEqProofs [-getElem?_pos, -Int.ofNat_lt, -Int.ofNat_le, -Int.natCast_eq_zero, -Int.natCast_pos, -List.length_eq_zero_iff, List.getElem?_cons_zero, List.getElem?_cons_succ, List.getElem?_nil, q1, q2, q3, q4, q5, q6, q7, q8, c10]
        refine Res.g ?_
        simp -implicitDefEqProofs [-getElem?_pos, -Int.ofNat_lt, -Int.ofNat_le, -Int.natCast_eq_zero, -Int.natCast_pos, -List.length_eq_zero_iff, List.getElem?_cons_zero, List.getElem?_cons_succ, List.getElem?_nil, and_assoc, Q_notation_Parse_1, ownAt, q1, q2, q3, q4, q5, q6, q7, q8, c10]; all_goals ((repeat' apply And.intro) <;> assumption)
noncomputable def B_notation_Parse (p0 : (List UInt8)) : Option (Tru × Int × Int) :=
  cnd (decide (6000 < (p0.length : Int))) (
    some ((Tru.mk 0 ([] : (List Int)) ([] : (List Tru))), 0, 3)) (
    kb (G_notation_reader_next (S_notation_reader.mk p0 ([] : List UInt8) 0)) fun y2 =>
    kb (G_notation_reader_number y2) fun y4 =>
    kb (B_notation_Parse_0 y4 p0) fun z9 =>
    kb (B_notation_Parse_1 z9 p0) fun z11 =>
    cnd z11 (
      some ((Tru.mk 0 ([] : (List Int)) ([] : (List Tru))), z9.2.2.1, 2)) (
      kb (G_threshold_Valid (Tru.mk z9.2.2.2.1 z9.2.2.2.2.1 z9.2.2.2.2.2.1)) fun y13 =>
      cnd (decide (y13 = 0)) (
        some ((Tru.mk z9.2.2.2.1 z9.2.2.2.2.1 z9.2.2.2.2.2.1), 0, 0)) (
        some ((Tru.mk 0 ([] : (List Int)) ([] : (List Tru))), 0, y13))))
theorem sim_notation_Parse {p0 : (List UInt8)} {r : (Tru × Int × Int)} (hB : B_notation_Parse p0 = some r) : R 15 [(.pv (.str p0))] [] = some (.tup [(.agg [(i64 r.1.thr), (.pv (.sl r.1.nodes.length (ints r.1.nodes))), (.pv (.sl r.1.inner.length (encTs r.1.inner)))]), (i64 r.2.1), (i64 r.2.2)], [], []) := by
  rw [R_eq _ _ _ fn_notation_Parse]
  simp only [Code.fst, Code.snd, Tryd.f15, Option.getD_some]
  generalize hc0 : Code.cond (Operand.tmp 24) _ _ = cc0
  generalize hc1 : Code.region 9 _ _ = cc1
  generalize hr2 : Code.region 2 _ _ = rr2
  generalize hr3 : Code.region 3 _ _ = rr3
  generalize hr6 : Code.region 6 _ _ = rr6
  generalize hr10 : Code.region 10 _ _ = rr10
  generalize hr13 : Code.region 13 _ _ = rr13
  generalize hr14 : Code.region 14 _ _ = rr14
  unfold B_notation_Parse at hB
  rcases cnd_inv hB with ⟨c1, hB⟩ | ⟨c1, hB⟩
  · have pc1 := eq_true (of_decide_eq_true c1)
    have nc1 := c1
    try simp only [List.length_nil, List.length_cons, Int.cast_ofNat_Int, Int.natCast_zero, Nat.zero_add, Nat.reduceAdd, Int.reduceLT, Int.reduceLE, Int.reduceEq, eq_self, decide_true, decide_false, Bool.true_eq_false, Bool.false_eq_true] at nc1
    all_goals
      obtain rfl := Option.some.inj hB
      subst hr2
      simp -implicitDefEqProofs [-getElem?_pos, -Int.ofNat_lt, -Int.ofNat_le, -Int.natCast_eq_zero, -Int.natCast_pos, -List.length_eq_zero_iff, List.getElem?_cons_zero, List.getElem?_cons_succ, List.getElem?_nil, c1, pc1, nc1]
  · have pc1 := eq_false (of_decide_eq_false c1)
    have nc1 := c1
    try simp only [List.length_nil, List.length_cons, Int.cast_ofNat_Int, Int.natCast_zero, Nat.zero_add, Nat.reduceAdd, Int.reduceLT, Int.reduceLE, Int.reduceEq, eq_self, decide_true, decide_false, Bool.true_eq_false, Bool.false_eq_true] at nc1
    all_goals
      obtain ⟨y2, k3, hB⟩ := kb_inv hB
      replace k3 := run_notation_reader_next k3
      try simp only [Int.cast_ofNat_Int, Int.natCast_zero, List.length_cons, List.length_nil, List.nil_append, List.cons_append, Nat.zero_add, Nat.reduceAdd, Tru.thr_mk, Tru.nodes_mk, Tru.inner_mk, ints_cons, ints_nil, encTs_cons, encTs_nil, es_str_cons, es_str_nil] at k3
      try dsimp only at hB
      obtain ⟨y4, k5, hB⟩ := kb_inv hB
      replace k5 := run_notation_reader_number k5
      try simp only [Int.cast_ofNat_Int, Int.natCast_zero, List.length_cons, List.length_nil, List.nil_append, List.cons_append, Nat.zero_add, Nat.reduceAdd, Tru.thr_mk, Tru.nodes_mk, Tru.inner_mk, ints_cons, ints_nil, encTs_cons, encTs_nil, es_str_cons, es_str_nil] at k5
      try dsimp only at hB
      subst hr3
      subst hr6
      try simp -implicitDefEqProofs [-getElem?_pos, -Int.ofNat_lt, -Int.ofNat_le, -Int.natCast_eq_zero, -Int.natCast_pos, -List.length_eq_zero_iff, List.getElem?_cons_zero, List.getElem?_cons_succ, List.getElem?_nil, c1, pc1, nc1, k3, k5]
      generalize hz0 : C Tryd.prog cf cc0 _ = z0
      obtain ⟨z9, hB1, hB⟩ := kb_inv hB
      have hJ := P_notation_Parse_0 (hc0.symm.trans (by kernel_rfl)) hz0 (by simp -implicitDefEqProofs [-getElem?_pos, -Int.ofNat_lt, -Int.ofNat_le, -Int.natCast_eq_zero, -Int.natCast_pos, -List.length_eq_zero_iff, List.getElem?_cons_zero, List.getElem?_cons_succ, List.getElem?_nil, and_assoc, J_notation_Parse_0, ownAt, c1, pc1, nc1, k3, k5]) hB1
      obtain ⟨e0, s0, rfl, hq⟩ := hJ.open
      clear hB1
      obtain ⟨rfl, hq⟩ := hq
      obtain ⟨u0_0, u0_1, u0_2, u0_3, u0_4, u0_5, u0_6⟩ := z9
      dsimp only at hB hq
      simp only [Q_notation_Parse_0] at hq
      obtain ⟨q9_1, q9_2, ⟨g9_4, q9_3, q9_4⟩, ⟨g9_6, q9_5, q9_6⟩, ⟨g9_8, v9_8_w0, v9_8_w1, q9_7, q9_8, a9_8_w0, a9_8_w1⟩⟩ := hq
      rcases a9_8_w0 with rfl | ⟨rfl, ea9_8_w0⟩
      · rcases a9_8_w1 with rfl | ⟨rfl, ea9_8_w1⟩
        · try simp -implicitDefEqProofs [-getElem?_pos, -Int.ofNat_lt, -Int.ofNat_le, -Int.natCast_eq_zero, -Int.natCast_pos, -List.length_eq_zero_iff, List.getElem?_cons_zero, List.getElem?_cons_succ, List.getElem?_nil, q9_1, q9_2, q9_3, q9_4, q9_5, q9_6, q9_7, q9_8, c1, pc1, nc1, k3, k5]
          generalize hz1 : C Tryd.prog cf cc1 _ = z1
          obtain ⟨z11, hB1, hB⟩ := kb_inv hB
          have hJ := P_notation_Parse_1 (hc1.symm.trans (by kernel_rfl)) hz1 (by simp -implicitDefEqProofs [-getElem?_pos, -Int.ofNat_lt, -Int.ofNat_le, -Int.natCast_eq_zero, -Int.natCast_pos, -List.length_eq_zero_iff, List.getElem?_cons_zero, List.getElem?_cons_succ, List.getElem?_nil, and_assoc, J_notation_Parse_1, ownAt, q9_1, q9_2, q9_3, q9_4, q9_5, q9_6, q9_7, q9_8, c1, pc1, nc1, k3, k5]) hB1
          obtain ⟨e1, s1, rfl, hq⟩ := hJ.open
          clear hB1
          obtain ⟨rfl, hq⟩ := hq
          simp only [Q_notation_Parse_1] at hq
          obtain ⟨q11_1, ⟨g11_3, q11_2, q11_3⟩, ⟨g11_5, q11_4, q11_5⟩, ⟨g11_7, v11_7_w0, v11_7_w1, q11_6, q11_7, a11_7_w0, a11_7_w1⟩⟩ := hq
          rcases a11_7_w0 with rfl | ⟨rfl, ea11_7_w0⟩
          · rcases a11_7_w1 with rfl | ⟨rfl, ea11_7_w1⟩
            · rcases cnd_inv hB with ⟨c12, hB⟩ | ⟨c12, hB⟩
              · obtain rfl := Option.some.inj hB
                subst hr10
                simp -implicitDefEqProofs [-getElem?_pos, -Int.ofNat_lt, -Int.ofNat_le, -Int.natCast_eq_zero, -Int.natCast_pos, -List.length_eq_zero_iff, List.getElem?_cons_zero, List.getElem?_cons_succ, List.getElem?_nil, q11_1, q11_2, q11_3, q11_4, q11_5, q11_6, q11_7, c1, pc1, nc1, k3, k5, c12]
                rw [drawK_ok _ _ _ (by kernel_rfl)]
                simp -implicitDefEqProofs [-getElem?_pos, -Int.ofNat_lt, -Int.ofNat_le, -Int.natCast_eq_zero, -Int.natCast_pos, -List.length_eq_zero_iff, List.getElem?_cons_zero, List.getElem?_cons_succ, List.getElem?_nil, q11_1, q11_2, q11_3, q11_4, q11_5, q11_6, q11_7, c1, pc1, nc1, k3, k5, c12]
              · obtain ⟨y13, k14, hB⟩ := kb_inv hB
                replace k14 := run_threshold_Valid k14
                try simp only [Int.cast_ofNat_Int, Int.natCast_zero, List.length_cons, List.length_nil, List.nil_append, List.cons_append, Nat.zero_add, Nat.reduceAdd, Tru.thr_mk, Tru.nodes_mk, Tru.inner_mk, ints_cons, ints_nil, encTs_cons, encTs_nil, es_str_cons, es_str_nil, c12] at k14
                try dsimp only at hB
                rcases cnd_inv hB with ⟨c15, hB⟩ | ⟨c15, hB⟩
                · have pc15 := eq_true (of_decide_eq_true c15)
                  obtain rfl := Option.some.inj hB
                  subst hr14
                  simp -implicitDefEqProofs [-getElem?_pos, -Int.ofNat_lt, -Int.ofNat_le, -Int.natCast_eq_zero, -Int.natCast_pos, -List.length_eq_zero_iff, List.getElem?_cons_zero, List.getElem?_cons_succ, List.getElem?_nil, q11_1, q11_2, q11_3, q11_4, q11_5, q11_6, q11_7, c1, pc1, nc1, k3, k5, c12, k14, c15, pc15]
                · have pc15 := eq_false (of_decide_eq_false c15)
                  obtain rfl := Option.some.inj hB
                  subst hr13
                  simp -implicitDefEqProofs [-getElem?_pos, -Int.ofNat_lt, -Int.ofNat_le, -Int.natCast_eq_zero, -Int.natCast_pos, -List.length_eq_zero_iff, List.getElem?_cons_zero, List.getElem?_cons_succ, List.getElem?_nil, q11_1, q11_2, q11_3, q11_4, q11_5, q11_6, q11_7, c1, pc1, nc1, k3, k5, c12, k14, c15, pc15]
            · try subst ea11_7_w1
              rcases cnd_inv hB with ⟨c12, hB⟩ | ⟨c12, hB⟩
              · obtain rfl := Option.some.inj hB
                subst hr10
                simp -implicitDefEqProofs [-getElem?_pos, -Int.ofNat_lt, -Int.ofNat_le, -Int.natCast_eq_zero, -Int.natCast_pos, -List.length_eq_zero_iff, List.getElem?_cons_zero, List.getElem?_cons_succ, List.getElem?_nil, q11_1, q11_2, q11_3, q11_4, q11_5, q11_6, q11_7, c1, pc1, nc1, k3, k5, c12]
                rw [drawK_ok _ _ _ (by kernel_rfl)]
                simp -implicitDefEqProofs [-getElem?_pos, -Int.ofNat_lt, -Int.ofNat_le, -Int.natCast_eq_zero, -Int.natCast_pos, -List.length_eq_zero_iff, List.getElem?_cons_zero, List.getElem?_cons_succ, List.getElem?_nil, q11_1, q11_2, q11_3, q11_4, q11_5, q11_6, q11_7, c1, pc1, nc1, k3, k5, c12]
              · obtain ⟨y13, k14, hB⟩ := kb_inv hB
                replace k14 := run_threshold_Valid k14
                try simp only [Int.cast_ofNat_Int, Int.natCast_zero, List.length_cons, List.length_nil, List.nil_append, List.cons_append, Nat.zero_add, Nat.reduceAdd, Tru.thr_mk, Tru.nodes_mk, Tru.inner_mk, ints_cons, ints_nil, encTs_cons, encTs_nil, es_str_cons, es_str_nil, c12] at k14
                try dsimp only at hB
                rcases cnd_inv hB with ⟨c15, hB⟩ | ⟨c15, hB⟩
                · have pc15 := eq_true (of_decide_eq_true c15)
                  obtain rfl := Option.some.inj hB
                  subst hr14
                  simp -implicitDefEqProofs [-getElem?_pos, -Int.ofNat_lt, -Int.ofNat_le, -Int.natCast_eq_zero, -Int.natCast_pos, -List.length_eq_zero_iff, List.getElem?_cons_zero, List.getElem?_cons_succ, List.getElem?_nil, q11_1, q11_2, q11_3, q11_4, q11_5, q11_6, q11_7, c1, pc1, nc1, k3, k5, c12, k14, c15, pc15]
                · have pc15 := eq_false (of_decide_eq_false c15)
                  obtain rfl := Option.some.inj hB
                  subst hr13
                  simp -implicitDefEqProofs [-getElem?_pos, -Int.ofNat_lt, -Int.ofNat_le, -Int.natCast_eq_zero, -Int.natCast_pos, -List.length_eq_zero_iff, List.getElem?_cons_zero, List.getElem?_cons_succ, List.getElem?_nil, q11_1, q11_2, q11_3, q11_4, q11_5, q11_6, q11_7, c1, pc1, nc1, k3, k5, c12, k14, c15, pc15]
          · try subst ea11_7_w0
            rcases a11_7_w1 with rfl | ⟨rfl, ea11_7_w1⟩
            · rcases cnd_inv hB with ⟨c12, hB⟩ | ⟨c12, hB⟩
              · obtain rfl := Option.some.inj hB
                subst hr10
                simp -implicitDefEqProofs [-getElem?_pos, -Int.ofNat_lt, -Int.ofNat_le, -Int.natCast_eq_zero, -Int.natCast_pos, -List.length_eq_zero_iff, List.getElem?_cons_zero, List.getElem?_cons_succ, List.getElem?_nil, q11_1, q11_2, q11_3, q11_4, q11_5, q11_6, q11_7, c1, pc1, nc1, k3, k5, c12]
                rw [drawK_ok _ _ _ (by kernel_rfl)]
                simp -implicitDefEqProofs [-getElem?_pos, -Int.ofNat_lt, -Int.ofNat_le, -Int.natCast_eq_zero, -Int.natCast_pos, -List.length_eq_zero_iff, List.getElem?_cons_zero, List.getElem?_cons_succ, List.getElem?_nil, q11_1, q11_2, q11_3, q11_4, q11_5, q11_6, q11_7, c1, pc1, nc1, k3, k5, c12]
              · obtain ⟨y13, k14, hB⟩ := kb_inv hB
                replace k14 := run_threshold_Valid k14
                try simp only [Int.cast_ofNat_Int, Int.natCast_zero, List.length_cons, List.length_nil, List.nil_append, List.cons_append, Nat.zero_add, Nat.reduceAdd, Tru.thr_mk, Tru.nodes_mk, Tru.inner_mk, ints_cons, ints_nil, encTs_cons, encTs_nil, es_str_cons, es_str_nil, c12] at k14
                try dsimp only at hB
                rcases cnd_inv hB with ⟨c15, hB⟩ | ⟨c15, hB⟩
                · have pc15 := eq_true (of_decide_eq_true c15)
                  obtain rfl := Option.some.inj hB
                  subst hr14
                  simp -implicitDefEqProofs [-getElem?_pos, -Int.ofNat_lt, -Int.ofNat_le, -Int.natCast_eq_zero, -Int.natCast_pos, -List.length_eq_zero_iff, List.getElem?_cons_zero, List.getElem?_cons_succ, List.getElem?_nil, q11_1, q11_2, q11_3, q11_4, q11_5, q11_6, q11_7, c1, pc1, nc1, k3, k5, c12, k14, c15, pc15]
                · have pc15 := eq_false (of_decide_eq_false c15)
                  obtain rfl := Option.some.inj hB
                  subst hr13
                  simp -implicitDefEqProofs [-getElem?_pos, -Int.ofNat_lt, -Int.ofNat_le, -Int.natCast_eq_zero, -Int.natCast_pos, -List.length_eq_zero_iff, List.getElem?_cons_zero, List.getElem?_cons_succ, List.getElem?_nil, q11_1, q11_2, q11_3, q11_4, q11_5, q11_6, q11_7, c1, pc1, nc1, k3, k5, c12, k14, c15, pc15]
            · try subst ea11_7_w1
              rcases cnd_inv hB with ⟨c12, hB⟩ | ⟨c12, hB⟩
              · obtain rfl := Option.some.inj hB
                subst hr10
                simp -implicitDefEqProofs [-getElem?_pos, -Int.ofNat_lt, -Int.ofNat_le, -Int.natCast_eq_zero, -Int.natCast_pos, -List.length_eq_zero_iff, List.getElem?_cons_zero, List.getElem?_cons_succ, List.getElem?_nil, q11_1, q11_2, q11_3, q11_4, q11_5, q11_6, q11_7, c1, pc1, nc1, k3, k5, c12]
                rw [drawK_ok _ _ _ (by kernel_rfl)]
                simp -implicitDefEqProofs [-getElem?_pos, -Int.ofNat_lt, -Int.ofNat_le, -Int.natCast_eq_zero, -Int.natCast_pos, -List.length_eq_zero_iff, List.getElem?_cons_zero, List.getElem?_cons_succ, List.getElem?_nil, q11_1, q11_2, q11_3, q11_4, q11_5, q11_6, q11_7, c1, pc1, nc1, k3, k5, c12]
              · obtain ⟨y13, k14, hB⟩ := kb_inv hB
                replace k14 := run_threshold_Valid k14
                try simp only [Int.cast_ofNat_Int, Int.natCast_zero, List.length_cons, List.length_nil, List.nil_append, List.cons_append, Nat.zero_add, Nat.reduceAdd, Tru.thr_mk, Tru.nodes_mk, Tru.inner_mk, ints_cons, ints_nil, encTs_cons, encTs_nil, es_str_cons, es_str_nil, c12] at k14
                try dsimp only at hB
                rcases cnd_inv hB with ⟨c15, hB⟩ | ⟨c15, hB⟩
                · have pc15 := eq_true (of_decide_eq_true c15)
                  obtain rfl := Option.some.inj hB
                  subst hr14
                  simp -implicitDefEqProofs [-getElem?_pos, -Int.ofNat_lt, -Int.ofNat_le, -Int.natCast_eq_zero, -Int.natCast_pos, -List.length_eq_zero_iff, List.getElem?_cons_zero, List.getElem?_cons_succ, List.getElem?_nil, q11_1, q11_2, q11_3, q11_4, q11_5, q11_6, q11_7, c1, pc1, nc1, k3, k5, c12, k14, c15, pc15]
                · have pc15 := eq_false (of_decide_eq_false c15)
                  obtain rfl := Option.some.inj hB
                  subst hr13
                  simp -implicitDefEqProofs [-getElem?_pos, -Int.ofNat_lt, -Int.ofNat_le, -Int.natCast_eq_zero, -Int.natCast_pos, -List.length_eq_zero_iff, List.getElem?_cons_zero, List.getElem?_cons_succ, List.getElem?_nil, q11_1, q11_2, q11_3, q11_4, q11_5, q11_6, q11_7, c1, pc1, nc1, k3, k5, c12, k14, c15, pc15]
        · try subst ea9_8_w1
          try simp -implicitDefEqProofs [-getElem?_pos, -Int.ofNat_lt, -Int.ofNat_le, -Int.natCast_eq_zero, -Int.natCast_pos, -List.length_eq_zero_iff, List.getElem?_cons_zero, List.getElem?_cons_succ, List.getElem?_nil, q9_1, q9_2, q9_3, q9_4, q9_5, q9_6, q9_7, q9_8, c1, pc1, nc1, k3, k5]
          generalize hz1 : C Tryd.prog cf cc1 _ = z1
          obtain ⟨z11, hB1, hB⟩ := kb_inv hB
          have hJ := P_notation_Parse_1 (hc1.symm.trans (by kernel_rfl)) hz1 (by simp -implicitDefEqProofs [-getElem?_pos, -Int.ofNat_lt, -Int.ofNat_le, -Int.natCast_eq_zero, -Int.natCast_pos, -List.length_eq_zero_iff, List.getElem?_cons_zero, List.getElem?_cons_succ, List.getElem?_nil, and_assoc, J_notation_Parse_1, ownAt, q9_1, q9_2, q9_3, q9_4, q9_5, q9_6, q9_7, q9_8, c1, pc1, nc1, k3, k5]; all_goals ((repeat' apply And.intro) <;> assumption)) hB1
          obtain ⟨e1, s1, rfl, hq⟩ := hJ.open
          clear hB1
          obtain ⟨rfl, hq⟩ := hq
          simp only [Q_notation_Parse_1] at hq
          obtain ⟨q11_1, ⟨g11_3, q11_2, q11_3⟩, ⟨g11_5, q11_4, q11_5⟩, ⟨g11_7, v11_7_w0, v11_7_w1, q11_6, q11_7, a11_7_w0, a11_7_w1⟩⟩ := hq
          rcases a11_7_w0 with rfl | ⟨rfl, ea11_7_w0⟩
          · rcases a11_7_w1 with rfl | ⟨rfl, ea11_7_w1⟩
            · rcases cnd_inv hB with ⟨c12, hB⟩ | ⟨c12, hB⟩
              · obtain rfl := Option.some.inj hB
                subst hr10
                simp -implicitDefEqProofs [-getElem?_pos, -Int.ofNat_lt, -Int.ofNat_le, -Int.natCast_eq_zero, -Int.natCast_pos, -List.length_eq_zero_iff, List.getElem?_cons_zero, List.getElem?_cons_succ, List.getElem?_nil, q11_1, q11_2, q11_3, q11_4, q11_5, q11_6, q11_7, c1, pc1, nc1, k3, k5, c12]
                rw [drawK_ok _ _ _ (by kernel_rfl)]
                simp -implicitDefEqProofs [-getElem?_pos, -Int.ofNat_lt, -Int.ofNat_le, -Int.natCast_eq_zero, -Int.natCast_pos, -List.length_eq_zero_iff, List.getElem?_cons_zero, List.getElem?_cons_succ, List.getElem?_nil, q11_1, q11_2, q11_3, q11_4, q11_5, q11_6, q11_7, c1, pc1, nc1, k3, k5, c12]
              · obtain ⟨y13, k14, hB⟩ := kb_inv hB
                replace k14 := run_threshold_Valid k14
                try simp only [Int.cast_ofNat_Int, Int.natCast_zero, List.length_cons, List.length_nil, List.nil_append, List.cons_append, Nat.zero_add, Nat.reduceAdd, Tru.thr_mk, Tru.nodes_mk, Tru.inner_mk, ints_cons, ints_nil, encTs_cons, encTs_nil, es_str_cons, es_str_nil, c12] at k14
                try dsimp only at hB
                rcases cnd_inv hB with ⟨c15, hB⟩ | ⟨c15, hB⟩
                · have pc15 := eq_true (of_decide_eq_true c15)
                  obtain rfl := Option.some.inj hB
                  subst hr14
                  simp -implicitDefEqProofs [-getElem?_pos, -Int.ofNat_lt, -Int.ofNat_le, -Int.natCast_eq_zero, -Int.natCast_pos, -List.length_eq_zero_iff, List.getElem?_cons_zero, List.getElem?_cons_succ, List.getElem?_nil, q11_1, q11_2, q11_3, q11_4, q11_5, q11_6, q11_7, c1, pc1, nc1, k3, k5, c12, k14, c15, pc15]
                · have pc15 := eq_false (of_decide_eq_false c15)
                  obtain rfl := Option.some.inj hB
                  subst hr13
                  simp -implicitDefEqProofs [-getElem?_pos, -Int.ofNat_lt, -Int.ofNat_le, -Int.natCast_eq_zero, -Int.natCast_pos, -List.length_eq_zero_iff, List.getElem?_cons_zero, List.getElem?_cons_succ, List.getElem?_nil, q11_1, q11_2, q11_3, q11_4, q11_5, q11_6, q11_7, c1, pc1, nc1, k3, k5, c12, k14, c15, pc15]
            · try subst ea11_7_w1
              rcases cnd_inv hB with ⟨c12, hB⟩ | ⟨c12, hB⟩
              · obtain rfl := Option.some.inj hB
                subst hr10
                simp -implicitDefEqProofs [-getElem?_pos, -Int.ofNat_lt, -Int.ofNat_le, -Int.natCast_eq_zero, -Int.natCast_pos, -List.length_eq_zero_iff, List.getElem?_cons_zero, List.getElem?_cons_succ, List.getElem?_nil, q11_1, q11_2, q11_3, q11_4, q11_5, q11_6, q11_7, c1, pc1, nc1, k3, k5, c12]
                rw [drawK_ok _ _ _ (by kernel_rfl)]
                simp -implicitDefEqProofs [-getElem?_pos, -Int.ofNat_lt, -Int.ofNat_le, -Int.natCast_eq_zero, -Int.natCast_pos, -List.length_eq_zero_iff, List.getElem?_cons_zero, List.getElem?_cons_succ, List.getElem?_nil, q11_1, q11_2, q11_3, q11_4, q11_5, q11_6, q11_7, c1, pc1, nc1, k3, k5, c12]
              · obtain ⟨y13, k14, hB⟩ := kb_inv hB
                replace k14 := run_threshold_Valid k14
                try simp only [Int.cast_ofNat_Int, Int.natCast_zero, List.length_cons, List.length_nil, List.nil_append, List.cons_append, Nat.zero_add, Nat.reduceAdd, Tru.thr_mk, Tru.nodes_mk, Tru.inner_mk, ints_cons, ints_nil, encTs_cons, encTs_nil, es_str_cons, es_str_nil, c12] at k14
                try dsimp only at hB
                rcases cnd_inv hB with ⟨c15, hB⟩ | ⟨c15, hB⟩
                · have pc15 := eq_true (of_decide_eq_true c15)
                  obtain rfl := Option.some.inj hB
                  subst hr14
                  simp -implicitDefEqProofs [-getElem?_pos, -Int.ofNat_lt, -Int.ofNat_le, -Int.natCast_eq_zero, -Int.natCast_pos, -List.length_eq_zero_iff, List.getElem?_cons_zero, List.getElem?_cons_succ, List.getElem?_nil, q11_1, q11_2, q11_3, q11_4, q11_5, q11_6, q11_7, c1, pc1, nc1, k3, k5, c12, k14, c15, pc15]
                · have pc15 := eq_false (of_decide_eq_false c15)
                  obtain rfl := Option.some.inj hB
                  subst hr13
                  simp -implicitDefEqProofs [-getElem?_pos, -Int.ofNat_lt, -Int.ofNat_le, -Int.natCast_eq_zero, -Int.natCast_pos, -List.length_eq_zero_iff, List.getElem?_cons_zero, List.getElem?_cons_succ, List.getElem?_nil, q11_1, q11_2, q11_3, q11_4, q11_5, q11_6, q11_7, c1, pc1, nc1, k3, k5, c12, k14, c15, pc15]
          · try subst ea11_7_w0
            rcases a11_7_w1 with rfl | ⟨rfl, ea11_7_w1⟩
            · rcases cnd_inv hB with ⟨c12, hB⟩ | ⟨c12, hB⟩
              · obtain rfl := Option.some.inj hB
                subst hr10
                simp -implicitDefEqProofs [-getElem?_pos, -Int.ofNat_lt, -Int.ofNat_le, -Int.natCast_eq_zero, -Int.natCast_pos, -List.length_eq_zero_iff, List.getElem?_cons_zero, List.getElem?_cons_succ, List.getElem?_nil, q11_1, q11_2, q11_3, q11_4, q11_5, q11_6, q11_7, c1, pc1, nc1, k3, k5, c12]
                rw [drawK_ok _ _ _ (by kernel_rfl)]
                simp -implicitDefEqProofs [-getElem?_pos, -Int.ofNat_lt, -Int.ofNat_le, -Int.natCast_eq_zero, -Int.natCast_pos, -List.length_eq_zero_iff, List.getElem?_cons_zero, List.getElem?_cons_succ, List.getElem?_nil, q11_1, q11_2, q11_3, q11_4, q11_5, q11_6, q11_7, c1, pc1, nc1, k3, k5, c12]
              · obtain ⟨y13, k14, hB⟩ := kb_inv hB
                replace k14 := run_threshold_Valid k14
                try simp only [Int.cast_ofNat_Int, Int.natCast_zero, List.length_cons, List.length_nil, List.nil_append, List.cons_append, Nat.zero_add, Nat.reduceAdd, Tru.thr_mk, Tru.nodes_mk, Tru.inner_mk, ints_cons, ints_nil, encTs_cons, encTs_nil, es_str_cons, es_str_nil, c12] at k14
                try dsimp only at hB
                rcases cnd_inv hB with ⟨c15, hB⟩ | ⟨c15, hB⟩
                · have pc15 := eq_true (of_decide_eq_true c15)
                  obtain rfl := Option.some.inj hB
                  subst hr14
                  simp -implicitDefEqProofs [-getElem?_pos, -Int.ofNat_lt, -Int.ofNat_le, -Int.natCast_eq_zero, -Int.natCast_pos, -List.length_eq_zero_iff, List.getElem?_cons_zero, List.getElem?_cons_succ, List.getElem?_nil, q11_1, q11_2, q11_3, q11_4, q11_5, q11_6, q11_7, c1, pc1, nc1, k3, k5, c12, k14, c15, pc15]
                · have pc15 := eq_false (of_decide_eq_false c15)
                  obtain rfl := Option.some.inj hB
                  subst hr13
                  simp -implicitDefEqProofs [-getElem?_pos, -Int.ofNat_lt, -Int.ofNat_le, -Int.natCast_eq_zero, -Int.natCast_pos, -List.length_eq_zero_iff, List.getElem?_cons_zero, List.getElem?_cons_succ, List.getElem?_nil, q11_1, q11_2, q11_3, q11_4, q11_5, q11_6, q11_7, c1, pc1, nc1, k3, k5, c12, k14, c15, pc15]
            · try subst ea11_7_w1
              rcases cnd_inv hB with ⟨c12, hB⟩ | ⟨c12, hB⟩
              · obtain rfl := Option.some.inj hB
                subst hr10
                simp -implicitDefEqProofs [-getElem?_pos, -Int.ofNat_lt, -Int.ofNat_le, -Int.natCast_eq_zero, -Int.natCast_pos, -List.length_eq_zero_iff, List.getElem?_cons_zero, List.getElem?_cons_succ, List.getElem?_nil, q11_1, q11_2, q11_3, q11_4, q11_5, q11_6, q11_7, c1, pc1, nc1, k3, k5, c12]
                rw [drawK_ok _ _ _ (by kernel_rfl)]
                simp -implicitDefEqProofs [-getElem?_pos, -Int.ofNat_lt, -Int.ofNat_le, -Int.natCast_eq_zero, -Int.natCast_pos, -List.length_eq_zero_iff, List.getElem?_cons_zero, List.getElem?_cons_succ, List.getElem?_nil, q11_1, q11_2, q11_3, q11_4, q11_5, q11_6, q11_7, c1, pc1, nc1, k3, k5, c12]
              · obtain ⟨y13, k14, hB⟩ := kb_inv hB
                replace k14 := run_threshold_Valid k14
                try simp only [Int.cast_ofNat_Int, Int.natCast_zero, List.length_cons, List.length_nil, List.nil_append, List.cons_append, Nat.zero_add, Nat.reduceAdd, Tru.thr_mk, Tru.nodes_mk, Tru.inner_mk, ints_cons, ints_nil, encTs_cons, encTs_nil, es_str_cons, es_str_nil, c12] at k14
                try dsimp only at hB
                rcases cnd_inv hB with ⟨c15, hB⟩ | ⟨c15, hB⟩
                · have pc15 := eq_true (of_decide_eq_true c15)
                  obtain rfl := Option.some.inj hB
                  subst hr14
                  simp -implicitDefEqProofs [-getElem?_pos, -Int.ofNat_lt, -Int.ofNat_le, -Int.natCast_eq_zero, -Int.natCast_pos, -List.length_eq_zero_iff, List.getElem?_cons_zero, List.getElem?_cons_succ, List.getElem?_nil, q11_1, q11_2, q11_3, q11_4, q11_5, q11_6, q11_7, c1, pc1, nc1, k3, k5, c12, k14, c15, pc15]
                · have pc15 := eq_false (of_decide_eq_false c15)
                  obtain rfl := Option.some.inj hB
                  subst hr13
                  simp -implicitDefEqProofs [-getElem?_pos, -Int.ofNat_lt, -Int.ofNat_le, -Int.natCast_eq_zero, -Int.natCast_pos, -List.length_eq_zero_iff, List.getElem?_cons_zero, List.getElem?_cons_succ, List.getElem?_nil, q11_1, q11_2, q11_3, q11_4, q11_5, q11_6, q11_7, c1, pc1, nc1, k3, k5, c12, k14, c15, pc15]
      · try subst ea9_8_w0
        rcases a9_8_w1 with rfl | ⟨rfl, ea9_8_w1⟩
        · try simp -implicitDefEqProofs [-getElem?_pos, -Int.ofNat_lt, -Int.ofNat_le, -Int.natCast_eq_zero, -Int.natCast_pos, -List.length_eq_zero_iff, List.getElem?_cons_zero, List.getElem?_cons_succ, List.getElem?_nil, q9_1, q9_2, q9_3, q9_4, q9_5, q9_6, q9_7, q9_8, c1, pc1, nc1, k3, k5]
          generalize hz1 : C Tryd.prog cf cc1 _ = z1
          obtain ⟨z11, hB1, hB⟩ := kb_inv hB
          have hJ := P_notation_Parse_1 (hc1.symm.trans (by kernel_rfl)) hz1 (by simp -implicitDefEqProofs [-getElem?_pos, -Int.ofNat_lt, -Int.ofNat_le, -Int.natCast_eq_zero, -Int.natCast_pos, -List.length_eq_zero_iff, List.getElem?_cons_zero, List.getElem?_cons_succ, List.getElem?_nil, and_assoc, J_notation_Parse_1, ownAt, q9_1, q9_2, q9_3, q9_4, q9_5, q9_6, q9_7, q9_8, c1, pc1, nc1, k3, k5]; all_goals ((repeat' apply And.intro) <;> assumption)) hB1
          obtain ⟨e1, s1, rfl, hq⟩ := hJ.open
          clear hB1
          obtain ⟨rfl, hq⟩ := hq
          simp only [Q_notation_Parse_1] at hq
          obtain ⟨q11_1, ⟨g11_3, q11_2, q11_3⟩, ⟨g11_5, q11_4, q11_5⟩, ⟨g11_7, v11_7_w0, v11_7_w1, q11_6, q11_7, a11_7_w0, a11_7_w1⟩⟩ := hq
          rcases a11_7_w0 with rfl | ⟨rfl, ea11_7_w0⟩
          · rcases a11_7_w1 with rfl | ⟨rfl, ea11_7_w1⟩
            · rcases cnd_inv hB with ⟨c12, hB⟩ | ⟨c12, hB⟩
              · obtain rfl := Option.some.inj hB
                subst hr10
                simp -implicitDefEqProofs [-getElem?_pos, -Int.ofNat_lt, -Int.ofNat_le, -Int.natCast_eq_zero, -Int.natCast_pos, -List.length_eq_zero_iff, List.getElem?_cons_zero, List.getElem?_cons_succ, List.getElem?_nil, q11_1, q11_2, q11_3, q11_4, q11_5, q11_6, q11_7, c1, pc1, nc1, k3, k5, c12]
                rw [drawK_ok _ _ _ (by kernel_rfl)]
                simp -implicitDefEqProofs [-getElem?_pos, -Int.ofNat_lt, -Int.ofNat_le, -Int.natCast_eq_zero, -Int.natCast_pos, -List.length_eq_zero_iff, List.getElem?_cons_zero, List.getElem?_cons_succ, List.getElem?_nil, q11_1, q11_2, q11_3, q11_4, q11_5, q11_6, q11_7, c1, pc1, nc1, k3, k5, c12]
              · obtain ⟨y13, k14, hB⟩ := kb_inv hB
                replace k14 := run_threshold_Valid k14
                try simp only [Int.cast_ofNat_Int, Int.natCast_zero, List.length_cons, List.length_nil, List.nil_append, List.cons_append, Nat.zero_add, Nat.reduceAdd, Tru.thr_mk, Tru.nodes_mk, Tru.inner_mk, ints_cons, ints_nil, encTs_cons, encTs_nil, es_str_cons, es_str_nil, c12] at k14
                try dsimp only at hB
                rcases cnd_inv hB with ⟨c15, hB⟩ | ⟨c15, hB⟩
                · have pc15 := eq_true (of_decide_eq_true c15)
                  obtain rfl := Option.some.inj hB
                  subst hr14
                  simp -implicitDefEqProofs [-getElem?_pos, -Int.ofNat_lt, -Int.ofNat_le, -Int.natCast_eq_zero, -Int.natCast_pos, -List.length_eq_zero_iff, List.getElem?_cons_zero, List.getElem?_cons_succ, List.getElem?_nil, q11_1, q11_2, q11_3, q11_4, q11_5, q11_6, q11_7, c1, pc1, nc1, k3, k5, c12, k14, c15, pc15]
                · have pc15 := eq_false (of_decide_eq_false c15)
                  obtain rfl := Option.some.inj hB
                  subst hr13
                  simp -implicitDefEqProofs [-getElem?_pos, -Int.ofNat_lt, -Int.ofNat_le, -Int.natCast_eq_zero, -Int.natCast_pos, -List.length_eq_zero_iff, List.getElem?_cons_zero, List.getElem?_cons_succ, List.getElem?_nil, q11_1, q11_2, q11_3, q11_4, q11_5, q11_6, q11_7, c1, pc1, nc1, k3, k5, c12, k14, c15, pc15]
            · try subst ea11_7_w1
              rcases cnd_inv hB with ⟨c12, hB⟩ | ⟨c12, hB⟩
              · obtain rfl := Option.some.inj hB
                subst hr10
                simp -implicitDefEqProofs [-getElem?_pos, -Int.ofNat_lt, -Int.ofNat_le, -Int.natCast_eq_zero, -Int.natCast_pos, -List.length_eq_zero_iff, List.getElem?_cons_zero, List.getElem?_cons_succ, List.getElem?_nil, q11_1, q11_2, q11_3, q11_4, q11_5, q11_6, q11_7, c1, pc1, nc1, k3, k5, c12]
                rw [drawK_ok _ _ _ (by kernel_rfl)]
                simp -implicitDefEqProofs [-getElem?_pos, -Int.ofNat_lt, -Int.ofNat_le, -Int.natCast_eq_zero, -Int.natCast_pos, -List.length_eq_zero_iff, List.getElem?_cons_zero, List.getElem?_cons_succ, List.getElem?_nil, q11_1, q11_2, q11_3, q11_4, q11_5, q11_6, q11_7, c1, pc1, nc1, k3, k5, c12]
              · obtain ⟨y13, k14, hB⟩ := kb_inv hB
                replace k14 := run_threshold_Valid k14
                try simp only [Int.cast_ofNat_Int, Int.natCast_zero, List.length_cons, List.length_nil, List.nil_append, List.cons_append, Nat.zero_add, Nat.reduceAdd, Tru.thr_mk, Tru.nodes_mk, Tru.inner_mk, ints_cons, ints_nil, encTs_cons, encTs_nil, es_str_cons, es_str_nil, c12] at k14
                try dsimp only at hB
                rcases cnd_inv hB with ⟨c15, hB⟩ | ⟨c15, hB⟩
                · have pc15 := eq_true (of_decide_eq_true c15)
                  obtain rfl := Option.some.inj hB
                  subst hr14
                  simp -implicitDefEqProofs [-getElem?_pos, -Int.ofNat_lt, -Int.ofNat_le, -Int.natCast_eq_zero, -Int.natCast_pos, -List.length_eq_zero_iff, List.getElem?_cons_zero, List.getElem?_cons_succ, List.getElem?_nil, q11_1, q11_2, q11_3, q11_4, q11_5, q11_6, q11_7, c1, pc1, nc1, k3, k5, c12, k14, c15, pc15]
                · have pc15 := eq_false (of_decide_eq_false c15)
                  obtain rfl := Option.some.inj hB
                  subst hr13
                  simp -implicitDefEqProofs [-getElem?_pos, -Int.ofNat_lt, -Int.ofNat_le, -Int.natCast_eq_zero, -Int.natCast_pos, -List.length_eq_zero_iff, List.getElem?_cons_zero, List.getElem?_cons_succ, List.getElem?_nil, q11_1, q11_2, q11_3, q11_4, q11_5, q11_6, q11_7, c1, pc1, nc1, k3, k5, c12, k14, c15, pc15]
          · try subst ea11_7_w0
            rcases a11_7_w1 with rfl | ⟨rfl, ea11_7_w1⟩
            · rcases cnd_inv hB with ⟨c12, hB⟩ | ⟨c12, hB⟩
              · obtain rfl := Option.some.inj hB
                subst hr10
                simp -implicitDefEqProofs [-getElem?_pos, -Int.ofNat_lt, -Int.ofNat_le, -Int.natCast_eq_zero, -Int.natCast_pos, -List.length_eq_zero_iff, List.getElem?_cons_zero, List.getElem?_cons_succ, List.getElem?_nil, q11_1, q11_2, q11_3, q11_4, q11_5, q11_6, q11_7, c1, pc1, nc1, k3, k5, c12]
                rw [drawK_ok _ _ _ (by kernel_rfl)]
                simp -implicitDefEqProofs [-getElem?_pos, -Int.ofNat_lt, -Int.ofNat_le, -Int.natCast_eq_zero, -Int.natCast_pos, -List.length_eq_zero_iff, List.getElem?_cons_zero, List.getElem?_cons_succ, List.getElem?_nil, q11_1, q11_2, q11_3, q11_4, q11_5, q11_6, q11_7, c1, pc1, nc1, k3, k5, c12]
              · obtain ⟨y13, k14, hB⟩ := kb_inv hB
                replace k14 := run_threshold_Valid k14
                try simp only [Int.cast_ofNat_Int, Int.natCast_zero, List.length_cons, List.length_nil, List.nil_append, List.cons_append, Nat.zero_add, Nat.reduceAdd, Tru.thr_mk, Tru.nodes_mk, Tru.inner_mk, ints_cons, ints_nil, encTs_cons, encTs_nil, es_str_cons, es_str_nil, c12] at k14
                try dsimp only at hB
                rcases cnd_inv hB with ⟨c15, hB⟩ | ⟨c15, hB⟩
                · have pc15 := eq_true (of_decide_eq_true c15)
                  obtain rfl := Option.some.inj hB
                  subst hr14
                  simp -implicitDefEqProofs [-getElem?_pos, -Int.ofNat_lt, -Int.ofNat_le, -Int.natCast_eq_zero, -Int.natCast_pos, -List.length_eq_zero_iff, List.getElem?_cons_zero, List.getElem?_cons_succ, List.getElem?_nil, q11_1, q11_2, q11_3, q11_4, q11_5, q11_6, q11_7, c1, pc1, nc1, k3, k5, c12, k14, c15, pc15]
                · have pc15 := eq_false (of_decide_eq_false c15)
                  obtain rfl := Option.some.inj hB
                  subst hr13
                  simp -implicitDefEqProofs [-getElem?_pos, -Int.ofNat_lt, -Int.ofNat_le, -Int.natCast_eq_zero, -Int.natCast_pos, -List.length_eq_zero_iff, List.getElem?_cons_zero, List.getElem?_cons_succ, List.getElem?_nil, q11_1, q11_2, q11_3, q11_4, q11_5, q11_6, q11_7, c1, pc1, nc1, k3, k5, c12, k14, c15, pc15]
            · try subst ea11_7_w1
              rcases cnd_inv hB with ⟨c12, hB⟩ | ⟨c12, hB⟩
              · obtain rfl := Option.some.inj hB
                subst hr10
                simp -implicitDefEqProofs [-getElem?_pos, -Int.ofNat_lt, -Int.ofNat_le, -Int.natCast_eq_zero, -Int.natCast_pos, -List.length_eq_zero_iff, List.getElem?_cons_zero, List.getElem?_cons_succ, List.getElem?_nil, q11_1, q11_2, q11_3, q11_4, q11_5, q11_6, q11_7, c1, pc1, nc1, k3, k5, c12]
                rw [drawK_ok _ _ _ (by kernel_rfl)]
                simp -implicitDefEqProofs [-getElem?_pos, -Int.ofNat_lt, -Int.ofNat_le, -Int.natCast_eq_zero, -Int.natCast_pos, -List.length_eq_zero_iff, List.getElem?_cons_zero, List.getElem?_cons_succ, List.getElem?_nil, q11_1, q11_2, q11_3, q11_4, q11_5, q11_6, q11_7, c1, pc1, nc1, k3, k5, c12]
              · obtain ⟨y13, k14, hB⟩ := kb_inv hB
                replace k14 := run_threshold_Valid k14
                try simp only [Int.cast_ofNat_Int, Int.natCast_zero, List.length_cons, List.length_nil, List.nil_append, List.cons_append, Nat.zero_add, Nat.reduceAdd, Tru.thr_mk, Tru.nodes_mk, Tru.inner_mk, ints_cons, ints_nil, encTs_cons, encTs_nil, es_str_cons, es_str_nil, c12] at k14
                try dsimp only at hB
                rcases cnd_inv hB with ⟨c15, hB⟩ | ⟨c15, hB⟩
                · have pc15 := eq_true (of_decide_eq_true c15)
                  obtain rfl := Option.some.inj hB
                  subst hr14
                  simp -implicitDefEqProofs [-getElem?_pos, -Int.ofNat_lt, -Int.ofNat_le, -Int.natCast_eq_zero, -Int.natCast_pos, -List.length_eq_zero_iff, List.getElem?_cons_zero, List.getElem?_cons_succ, List.getElem?_nil, q11_1, q11_2, q11_3, q11_4, q11_5, q11_6, q11_7, c1, pc1, nc1, k3, k5, c12, k14, c15, pc15]
                · have pc15 := eq_false (of_decide_eq_false c15)
                  obtain rfl := Option.some.inj hB
                  subst hr13
                  simp -implicitDefEqProofs [-getElem?_pos, -Int.ofNat_lt, -Int.ofNat_le, -Int.natCast_eq_zero, -Int.natCast_pos, -List.length_eq_zero_iff, List.getElem?_cons_zero, List.getElem?_cons_succ, List.getElem?_nil, q11_1, q11_2, q11_3, q11_4, q11_5, q11_6, q11_7, c1, pc1, nc1, k3, k5, c12, k14, c15, pc15]
        · try subst ea9_8_w1
          try simp -implicitDefEqProofs [-getElem?_pos, -Int.ofNat_lt, -Int.ofNat_le, -Int.natCast_eq_zero, -Int.natCast_pos, -List.length_eq_zero_iff, List.getElem?_cons_zero, List.getElem?_cons_succ, List.getElem?_nil, q9_1, q9_2, q9_3, q9_4, q9_5, q9_6, q9_7, q9_8, c1, pc1, nc1, k3, k5]
          generalize hz1 : C Tryd.prog cf cc1 _ = z1
          obtain ⟨z11, hB1, hB⟩ := kb_inv hB
          have hJ := P_notation_Parse_1 (hc1.symm.trans (by kernel_rfl)) hz1 (by simp -implicitDefEqProofs [-getElem?_pos, -Int.ofNat_lt, -Int.ofNat_le, -Int.natCast_eq_zero, -Int.natCast_pos, -List.length_eq_zero_iff, List.getElem?_cons_zero, List.getElem?_cons_succ, List.getElem?_nil, and_assoc, J_notation_Parse_1, ownAt, q9_1, q9_2, q9_3, q9_4, q9_5, q9_6, q9_7, q9_8, c1, pc1, nc1, k3, k5]; all_goals ((repeat' apply And.intro) <;> assumption)) hB1
          obtain ⟨e1, s1, rfl, hq⟩ := hJ.open
          clear hB1
          obtain ⟨rfl, hq⟩ := hq
          simp only [Q_notation_Parse_1] at hq
          obtain ⟨q11_1, ⟨g11_3, q11_2, q11_3⟩, ⟨g11_5, q11_4, q11_5⟩, ⟨g11_7, v11_7_w0, v11_7_w1, q11_6, q11_7, a11_7_w0, a11_7_w1⟩⟩ := hq
          rcases a11_7_w0 with rfl | ⟨rfl, ea11_7_w0⟩
          · rcases a11_7_w1 with rfl | ⟨rfl, ea11_7_w1⟩
            · rcases cnd_inv hB with ⟨c12, hB⟩ | ⟨c12, hB⟩
              · obtain rfl := Option.some.inj hB
                subst hr10
                simp -implicitDefEqProofs [-getElem?_pos, -Int.ofNat_lt, -Int.ofNat_le, -Int.natCast_eq_zero, -Int.natCast_pos, -List.length_eq_zero_iff, List.getElem?_cons_zero, List.getElem?_cons_succ, List.getElem?_nil, q11_1, q11_2, q11_3, q11_4, q11_5, q11_6, q11_7, c1, pc1, nc1, k3, k5, c12]
                rw [drawK_ok _ _ _ (by kernel_rfl)]
                simp -implicitDefEqProofs [-getElem?_pos, -Int.ofNat_lt, -Int.ofNat_le, -Int.natCast_eq_zero, -Int.natCast_pos, -List.length_eq_zero_iff, List.getElem?_cons_zero, List.getElem?_cons_succ, List.getElem?_nil, q11_1, q11_2, q11_3, q11_4, q11_5, q11_6, q11_7, c1, pc1, nc1, k3, k5, c12]
              · obtain ⟨y13, k14, hB⟩ := kb_inv hB
                replace k14 := run_threshold_Valid k14
                try simp only [Int.cast_ofNat_Int, Int.natCast_zero, List.length_cons, List.length_nil, List.nil_append, List.cons_append, Nat.zero_add, Nat.reduceAdd, Tru.thr_mk, Tru.nodes_mk, Tru.inner_mk, ints_cons, ints_nil, encTs_cons, encTs_nil, es_str_cons, es_str_nil, c12] at k14
                try dsimp only at hB
                rcases cnd_inv hB with ⟨c15, hB⟩ | ⟨c15, hB⟩
                · have pc15 := eq_true (of_decide_eq_true c15)
                  obtain rfl := Option.some.inj hB
                  subst hr14
                  simp -implicitDefEqProofs [-getElem?_pos, -Int.ofNat_lt, -Int.ofNat_le, -Int.natCast_eq_zero, -Int.natCast_pos, -List.length_eq_zero_iff, List.getElem?_cons_zero, List.getElem?_cons_succ, List.getElem?_nil, q11_1, q11_2, q11_3, q11_4, q11_5, q11_6, q11_7, c1, pc1, nc1, k3, k5, c12, k14, c15, pc15]
                · have pc15 := eq_false (of_decide_eq_false c15)
                  obtain rfl := Option.some.inj hB
                  subst hr13
                  simp -implicitDefEqProofs [-getElem?_pos, -Int.ofNat_lt, -Int.ofNat_le, -Int.natCast_eq_zero, -Int.natCast_pos, -List.length_eq_zero_iff, List.getElem?_cons_zero, List.getElem?_cons_succ, List.getElem?_nil, q11_1, q11_2, q11_3, q11_4, q11_5, q11_6, q11_7, c1, pc1, nc1, k3, k5, c12, k14, c15, pc15]
            · try subst ea11_7_w1
              rcases cnd_inv hB with ⟨c12, hB⟩ | ⟨c12, hB⟩
              · obtain rfl := Option.some.inj hB
                subst hr10
                simp -implicitDefEqProofs [-getElem?_pos, -Int.ofNat_lt, -Int.ofNat_le, -Int.natCast_eq_zero, -Int.natCast_pos, -List.length_eq_zero_iff, List.getElem?_cons_zero, List.getElem?_cons_succ, List.getElem?_nil, q11_1, q11_2, q11_3, q11_4, q11_5, q11_6, q11_7, c1, pc1, nc1, k3, k5, c12]
                rw [drawK_ok _ _ _ (by kernel_rfl)]
                simp -implicitDefEqProofs [-getElem?_pos, -Int.ofNat_lt, -Int.ofNat_le, -Int.natCast_eq_zero, -Int.natCast_pos, -List.length_eq_zero_iff, List.getElem?_cons_zero, List.getElem?_cons_succ, List.getElem?_nil, q11_1, q11_2, q11_3, q11_4, q11_5, q11_6, q11_7, c1, pc1, nc1, k3, k5, c12]
              · obtain ⟨y13, k14, hB⟩ := kb_inv hB
                replace k14 := run_threshold_Valid k14
                try simp only [Int.cast_ofNat_Int, Int.natCast_zero, List.length_cons, List.length_nil, List.nil_append, List.cons_append, Nat.zero_add, Nat.reduceAdd, Tru.thr_mk, Tru.nodes_mk, Tru.inner_mk, ints_cons, ints_nil, encTs_cons, encTs_nil, es_str_cons, es_str_nil, c12] at k14
                try dsimp only at hB
                rcases cnd_inv hB with ⟨c15, hB⟩ | ⟨c15, hB⟩
                · have pc15 := eq_true (of_decide_eq_true c15)
                  obtain rfl := Option.some.inj hB
                  subst hr14
                  simp -implicitDefEqProofs [-getElem?_pos, -Int.ofNat_lt, -Int.ofNat_le, -Int.natCast_eq_zero, -Int.natCast_pos, -List.length_eq_zero_iff, List.getElem?_cons_zero, List.getElem?_cons_succ, List.getElem?_nil, q11_1, q11_2, q11_3, q11_4, q11_5, q11_6, q11_7, c1, pc1, nc1, k3, k5, c12, k14, c15, pc15]
                · have pc15 := eq_false (of_decide_eq_false c15)
                  obtain rfl := Option.some.inj hB
                  subst hr13
                  simp -implicitDefEqProofs [-getElem?_pos, -Int.ofNat_lt, -Int.ofNat_le, -Int.natCast_eq_zero, -Int.natCast_pos, -List.length_eq_zero_iff, List.getElem?_cons_zero, List.getElem?_cons_succ, List.getElem?_nil, q11_1, q11_2, q11_3, q11_4, q11_5, q11_6, q11_7, c1, pc1, nc1, k3, k5, c12, k14, c15, pc15]
          · try subst ea11_7_w0
            rcases a11_7_w1 with rfl | ⟨rfl, ea11_7_w1⟩
            · rcases cnd_inv hB with ⟨c12, hB⟩ | ⟨c12, hB⟩
              · obtain rfl := Option.some.inj hB
                subst hr10
                simp -implicitDefEqProofs [-getElem?_pos, -Int.ofNat_lt, -Int.ofNat_le, -Int.natCast_eq_zero, -Int.natCast_pos, -List.length_eq_zero_iff, List.getElem?_cons_zero, List.getElem?_cons_succ, List.getElem?_nil, q11_1, q11_2, q11_3, q11_4, q11_5, q11_6, q11_7, c1, pc1, nc1, k3, k5, c12]
                rw [drawK_ok _ _ _ (by kernel_rfl)]
                simp -implicitDefEqProofs [-getElem?_pos, -Int.ofNat_lt, -Int.ofNat_le, -Int.natCast_eq_zero, -Int.natCast_pos, -List.length_eq_zero_iff, List.getElem?_cons_zero, List.getElem?_cons_succ, List.getElem?_nil, q11_1, q11_2, q11_3, q11_4, q11_5, q11_6, q11_7, c1, pc1, nc1, k3, k5, c12]
              · obtain ⟨y13, k14, hB⟩ := kb_inv hB
                replace k14 := run_threshold_Valid k14
                try simp only [Int.cast_ofNat_Int, Int.natCast_zero, List.length_cons, List.length_nil, List.nil_append, List.cons_append, Nat.zero_add, Nat.reduceAdd, Tru.thr_mk, Tru.nodes_mk, Tru.inner_mk, ints_cons, ints_nil, encTs_cons, encTs_nil, es_str_cons, es_str_nil, c12] at k14
                try dsimp only at hB
                rcases cnd_inv hB with ⟨c15, hB⟩ | ⟨c15, hB⟩
                · have pc15 := eq_true (of_decide_eq_true c15)
                  obtain rfl := Option.some.inj hB
                  subst hr14
                  simp -implicitDefEqProofs [-getElem?_pos, -Int.ofNat_lt, -Int.ofNat_le, -Int.natCast_eq_zero, -Int.natCast_pos, -List.length_eq_zero_iff, List.getElem?_cons_zero, List.getElem?_cons_succ, List.getElem?_nil, q11_1, q11_2, q11_3, q11_4, q11_5, q11_6, q11_7, c1, pc1, nc1, k3, k5, c12, k14, c15, pc15]
                · have pc15 := eq_false (of_decide_eq_false c15)
                  obtain rfl := Option.some.inj hB
                  subst hr13
                  simp -implicitDefEqProofs [-getElem?_pos, -Int.ofNat_lt, -Int.ofNat_le, -Int.natCast_eq_zero, -Int.natCast_pos, -List.length_eq_zero_iff, List.getElem?_cons_zero, List.getElem?_cons_succ, List.getElem?_nil, q11_1, q11_2, q11_3, q11_4, q11_5, q11_6, q11_7, c1, pc1, nc1, k3, k5, c12, k14, c15, pc15]
            · try subst ea11_7_w1
              rcases cnd_inv hB with ⟨c12, hB⟩ | ⟨c12, hB⟩
              · obtain rfl := Option.some.inj hB
                subst hr10
                simp -implicitDefEqProofs [-getElem?_pos, -Int.ofNat_lt, -Int.ofNat_le, -Int.natCast_eq_zero, -Int.natCast_pos, -List.length_eq_zero_iff, List.getElem?_cons_zero, List.getElem?_cons_succ, List.getElem?_nil, q11_1, q11_2, q11_3, q11_4, q11_5, q11_6, q11_7, c1, pc1, nc1, k3, k5, c12]
                rw [drawK_ok _ _ _ (by kernel_rfl)]
                simp -implicitDefEqProofs [-getElem?_pos, -Int.ofNat_lt, -Int.ofNat_le, -Int.natCast_eq_zero, -Int.natCast_pos, -List.length_eq_zero_iff, List.getElem?_cons_zero, List.getElem?_cons_succ, List.getElem?_nil, q11_1, q11_2, q11_3, q11_4, q11_5, q11_6, q11_7, c1, pc1, nc1, k3, k5, c12]
              · obtain ⟨y13, k14, hB⟩ := kb_inv hB
                replace k14 := run_threshold_Valid k14
                try simp only [Int.cast_ofNat_Int, Int.natCast_zero, List.length_cons, List.length_nil, List.nil_append, List.cons_append, Nat.zero_add, Nat.reduceAdd, Tru.thr_mk, Tru.nodes_mk, Tru.inner_mk, ints_cons, ints_nil, encTs_cons, encTs_nil, es_str_cons, es_str_nil, c12] at k14
                try dsimp only at hB
                rcases cnd_inv hB with ⟨c15, hB⟩ | ⟨c15, hB⟩
                · have pc15 := eq_true (of_decide_eq_true c15)
                  obtain rfl := Option.some.inj hB
                  subst hr14
                  simp -implicitDefEqProofs [-getElem?_pos, -Int.ofNat_lt, -Int.ofNat_le, -Int.natCast_eq_zero, -Int.natCast_pos, -List.length_eq_zero_iff, List.getElem?_cons_zero, List.getElem?_cons_succ, List.getElem?_nil, q11_1, q11_2, q11_3, q11_4, q11_5, q11_6, q11_7, c1, pc1, nc1, k3, k5, c12, k14, c15, pc15]
                · have pc15 := eq_false (of_decide_eq_false c15)
                  obtain rfl := Option.some.inj hB
                  subst hr13
                  simp -implicitDefEqProofs [-getElem?_pos, -Int.ofNat_lt, -Int.ofNat_le, -Int.natCast_eq_zero, -Int.natCast_pos, -List.length_eq_zero_iff, List.getElem?_cons_zero, List.getElem?_cons_succ, List.getElem?_nil, q11_1, q11_2, q11_3, q11_4, q11_5, q11_6, q11_7, c1, pc1, nc1, k3, k5, c12, k14, c15, pc15]
theorem g_notation_Parse {p0 : (List UInt8)} {r : (Tru × Int × Int)} (hB : B_notation_Parse p0 = some r) : G_notation_Parse p0 = some r := dec_of (fun a b h => by rcases a with ⟨⟨a0_0, a0_1, a0_2⟩, a1_, a2_⟩; rcases b with ⟨⟨b0_0, b0_1, b0_2⟩, b1_, b2_⟩; simp at h; simp [*]) (sim_notation_Parse hB)
end Go.Am

/-
Reading a trust: what the program's reader answers.
-/
namespace Go.Am
open Go
set_option linter.unusedVariables false
set_option linter.unusedSimpArgs false

theorem s_digit (b : UInt8) : G_notation_digit (b.toNat : Int) = some (dg b) := by
  refine g_notation_digit ?_
  unfold B_notation_digit dg
  by_cases h1 : 48 ≤ b.toNat
  · have : (48 : Int) ≤ (b.toNat : Int) := by omega
    simp only [this, decide_true, cnd_true, h1, true_and]
    congr 1
    by_cases h2 : b.toNat ≤ 57
    · have : (b.toNat : Int) ≤ 57 := by omega
      simp [h2, this]
    · have : ¬ (b.toNat : Int) ≤ 57 := by omega
      simp [h2, this]
  · have : ¬ (48 : Int) ≤ (b.toNat : Int) := by omega
    simp [this, cnd_false, h1]
theorem s_HasPrefix (l p : List UInt8) : G_strings_HasPrefix l p = some (decide (p.length ≤ l.length) && l.take p.length == p) := by
  refine g_strings_HasPrefix ?_
  unfold B_strings_HasPrefix
  have h : G_internal_stringslite_HasPrefix l p = some (decide (p.length ≤ l.length) && l.take p.length == p) := by
    refine g_internal_stringslite_HasPrefix ?_
    unfold B_internal_stringslite_HasPrefix
    by_cases c : p.length ≤ l.length
    · have c' : (p.length : Int) ≤ (l.length : Int) := by omega
      have e : partK l 0 (p.length : Int) = some (l.take p.length) := by
        unfold partK
        rw [if_pos ⟨by omega, by omega, c'⟩]
        simp
      simp only [c', c, decide_true, cnd_true, e, kb_some, Bool.true_and]
    · have c' : ¬ (p.length : Int) ≤ (l.length : Int) := by omega
      simp [c', c, cnd_false]
  rw [h, kb_some]
theorem idx_punct (x : UInt8) : decide (0 ≤ Lib.indexByte [40, 41, 44] x) = punct x := by
  unfold punct
  by_cases h1 : x = 40
  · subst h1; decide
  by_cases h2 : x = 41
  · subst h2; decide
  by_cases h3 : x = 44
  · subst h3; decide
  have e1 : (40 == x) = false := by rw [beq_eq_false_iff_ne]; exact fun e => h1 e.symm
  have e2 : (41 == x) = false := by rw [beq_eq_false_iff_ne]; exact fun e => h2 e.symm
  have e3 : (44 == x) = false := by rw [beq_eq_false_iff_ne]; exact fun e => h3 e.symm
  simp [Lib.indexByte, e1, e2, e3, h1, h2, h3]
theorem s_IndexByte (l : List UInt8) (x : UInt8) : G_strings_IndexByte l (x.toNat : Int) = some (Lib.indexByte l x) := by
  refine g_strings_IndexByte ?_
  unfold B_strings_IndexByte indexByteK
  rw [Int.toNat_natCast]
  simp

/-! ### the reader -/
abbrev Rdr := S_notation_reader
def rdAt (text l : List UInt8) : Rdr := ⟨text, tok l, ((text.length - l.length : Nat) : Int)⟩
theorem drop_suf {text l : List UInt8} (h : l <:+ text) : text.drop (text.length - l.length) = l := by
  obtain ⟨p, rfl⟩ := h
  simp
theorem next_blanks (text : List UInt8) (ht : text.length < 1000000000) (w : List UInt8) (at_ : Int) : ∀ (l : List UInt8) (j : Nat), j ≤ text.length → text.drop j = l →
    iterW (fun a => B_notation_reader_next_1 ⟨text, w, at_⟩ a) (j : Int) = some (.go ((text.length - (skipB l).length : Nat) : Int)) := by
  intro l
  induction l with
  | nil =>
    intro j hj hl
    have : text.length ≤ j := List.drop_eq_nil_iff.1 hl
    have hx : ¬ (j : Int) < (text.length : Int) := by omega
    refine (iterW_ex (k := 0) (a' := (j : Int)) ?_).trans ?_
    · unfold B_notation_reader_next_1 B_notation_reader_next_0
      simp only [hx, decide_false, cnd_false, kb_some]
    · have : j = text.length := by omega
      subst this
      rfl
  | cons c r ih =>
    intro j hj hl
    have hlt : j < text.length := by
      rcases Nat.lt_or_ge j text.length with h | h
      · exact h
      · rw [List.drop_of_length_le h] at hl; cases hl
    have hg : text[j]? = some c := by
      have := congrArg (·[0]?) hl
      simpa [List.getElem?_drop] using this
    have hr : text.drop (j + 1) = r := by
      rw [← List.drop_drop, hl]; rfl
    have h0 : B_notation_reader_next_0 ⟨text, w, at_⟩ (j : Int) = some (decide (c = 32)) := by
      unfold B_notation_reader_next_0
      have : (j : Int) < (text.length : Int) := by omega
      simp only [this, decide_true, cnd_true]
      rw [getI_nat, hg, kb_some]
      congr 1
      rw [decide_eq_decide]
      constructor
      · intro h
        apply UInt8.toNat_inj.1
        show c.toNat = 32
        omega
      · rintro rfl; rfl
    rw [skipB_cons]
    by_cases hc : c = 32
    · rw [if_pos hc]
      refine (iterW_go (a' := ((j + 1 : Nat) : Int)) ?_).trans (ih (j + 1) (by omega) hr)
      unfold B_notation_reader_next_1
      rw [h0, kb_some]
      simp only [hc, decide_true, cnd_true]
      rw [add64_of (by omega) (by omega)]
      rfl
    · rw [if_neg hc]
      refine (iterW_ex (k := 0) (a' := (j : Int)) ?_).trans ?_
      · unfold B_notation_reader_next_1
        rw [h0, kb_some]
        simp only [hc, decide_false, cnd_false]
      · have := congrArg List.length hl
        rw [List.length_drop] at this
        congr 2
        omega
theorem next_digits (p : Rdr) (z : Int) (L : List UInt8) (hL : L.length < 1000000000) : ∀ (l : List UInt8) (j : Nat), L.drop j = l → j ≤ L.length →
    iterW (fun a => B_notation_reader_next_4 p z L a) (j : Int) = some (.go ((j + (l.takeWhile dg).length : Nat) : Int)) := by
  intro l
  induction l with
  | nil =>
    intro j hl hj
    have : L.length ≤ j := List.drop_eq_nil_iff.1 hl
    have hx : ¬ (j : Int) < (L.length : Int) := by omega
    refine (iterW_ex (k := 3) (a' := (j : Int)) ?_).trans rfl
    unfold B_notation_reader_next_4 B_notation_reader_next_3
    simp only [hx, decide_false, cnd_false, kb_some]
  | cons c r ih =>
    intro j hl hj
    have hlt : j < L.length := by
      rcases Nat.lt_or_ge j L.length with h | h
      · exact h
      · rw [List.drop_of_length_le h] at hl; cases hl
    have hg : L[j]? = some c := by
      have := congrArg (·[0]?) hl
      simpa [List.getElem?_drop] using this
    have hr : L.drop (j + 1) = r := by
      rw [← List.drop_drop, hl]; rfl
    have h0 : B_notation_reader_next_3 p z L (j : Int) = some (dg c) := by
      unfold B_notation_reader_next_3
      have : (j : Int) < (L.length : Int) := by omega
      simp only [this, decide_true, cnd_true]
      rw [getI_nat, hg, kb_some, s_digit, kb_some]
    rw [List.takeWhile_cons]
    cases hc : dg c
    · refine (iterW_ex (k := 3) (a' := (j : Int)) ?_).trans rfl
      unfold B_notation_reader_next_4
      rw [h0, kb_some, hc, cnd_false]
    · rw [if_pos rfl]
      refine (iterW_go (a' := ((j + 1 : Nat) : Int)) ?_).trans ((ih (j + 1) hr (by omega)).trans ?_)
      · unfold B_notation_reader_next_4
        rw [h0, kb_some, hc, cnd_true, add64_of (by omega) (by omega)]
        rfl
      · congr 2
        rw [List.length_cons]
        omega
theorem s_next {text w : List UInt8} {a : Nat} (ht : text.length < 1000000000) (ha : a + w.length ≤ text.length) :
    G_notation_reader_next ⟨text, w, (a : Int)⟩ = some (rdAt text (skipB (text.drop (a + w.length)))) := by
  refine g_notation_reader_next ?_
  unfold B_notation_reader_next
  dsimp only
  have e0 : add64 (a : Int) (w.length : Int) = ((a + w.length : Nat) : Int) := by rw [add64_of (by omega) (by omega)]; omega
  rw [e0, next_blanks text ht w _ _ (a + w.length) ha rfl, kb_some, stpK_go]
  have hs : skipB (text.drop (a + w.length)) <:+ text := (skipB_suf _).trans (List.drop_suffix _ _)
  generalize skipB (text.drop (a + w.length)) = l at hs
  have hl := hs.length_le
  have e1 : partK text ((text.length - l.length : Nat) : Int) (text.length : Int) = some l := by
    unfold partK
    rw [if_pos ⟨by omega, by omega, by omega⟩]
    rw [Int.toNat_natCast, Int.toNat_natCast, drop_suf hs, List.take_of_length_le (by omega)]
  rw [e1, kb_some, s_HasPrefix, kb_some]
  unfold rdAt
  cases l with
  | nil =>
    simp only [List.length_nil, List.length_cons, Nat.zero_add, Nat.reduceAdd, Nat.reduceLeDiff, decide_false, Bool.false_and, cnd_false]
    have e2 : B_notation_reader_next_2 ⟨text, w, (a : Int)⟩ ((text.length - 0 : Nat) : Int) [] = some false := by
      unfold B_notation_reader_next_2
      rfl
    rw [e2, kb_some, cnd_false]
    have e3 := next_digits ⟨text, w, (a : Int)⟩ ((text.length - 0 : Nat) : Int) [] (by simp) [] 0 rfl (by simp)
    rw [show ((0 : Nat) : Int) = 0 from rfl] at e3
    rw [e3, kb_some, stpK_go]
    rfl
  | cons c r =>
    rw [tok_cons]
    by_cases hof : c = 111 ∧ r.head? = some 102
    · obtain ⟨rfl, h2⟩ := hof
      cases r with
      | nil => cases h2
      | cons d q =>
        simp only [List.head?_cons, Option.some.injEq] at h2
        subst h2
        have e2 : partK (111 :: 102 :: q) 0 2 = some [111, 102] := by
          unfold partK
          rw [if_pos ⟨by omega, by omega, by simp <;> omega⟩]
          rfl
        have e3 : (decide (([111, 102] : List UInt8).length ≤ (111 :: 102 :: q).length) && ((111 :: 102 :: q).take ([111, 102] : List UInt8).length == [111, 102])) = true := by
          simp
        rw [e3, cnd_true, e2, kb_some]
        rfl
    · have e3 : (decide (([111, 102] : List UInt8).length ≤ (c :: r).length) && ((c :: r).take ([111, 102] : List UInt8).length == [111, 102])) = false := by
        cases r with
        | nil => rfl
        | cons d q =>
          simp only [List.length_cons, List.length_nil, List.take_succ_cons, List.take_zero, Bool.and_eq_false_iff]
          right
          rw [beq_eq_false_iff_ne]
          intro e
          simp only [List.cons.injEq] at e
          apply hof
          simp [e.1, e.2.1]
      rw [e3, cnd_false]
      have e2 : B_notation_reader_next_2 ⟨text, w, (a : Int)⟩ ((text.length - (c :: r).length : Nat) : Int) (c :: r) = some (punct c) := by
        unfold B_notation_reader_next_2
        have : ((c :: r) == ([] : List UInt8)) = false := rfl
        rw [this, cnd_false]
        have hg : getI (c :: r) 0 = some c := rfl
        rw [hg, kb_some, s_IndexByte, kb_some, idx_punct]
      rw [e2, kb_some]
      cases hp : punct c
      · rw [cnd_false]
        have e4 := next_digits ⟨text, w, (a : Int)⟩ ((text.length - (c :: r).length : Nat) : Int) (c :: r) (by omega) (c :: r) 0 rfl (by simp)
        rw [show ((0 : Nat) : Int) = 0 from rfl] at e4
        rw [e4, kb_some, stpK_go]
        have e5 : partK (c :: r) 0 ((0 + ((c :: r).takeWhile dg).length : Nat) : Int) = some ((c :: r).takeWhile dg) := by
          have hle : ((c :: r).takeWhile dg).length ≤ (c :: r).length := (List.takeWhile_prefix dg).length_le
          unfold partK
          rw [if_pos ⟨by omega, by omega, by omega⟩]
          simp only [Int.toNat_zero, List.drop_zero, Nat.sub_zero, Nat.zero_add, Int.toNat_natCast]
          congr 1
          exact (List.prefix_iff_eq_take.1 (List.takeWhile_prefix dg)).symm
        rw [e5, kb_some]
        by_cases h1 : c = 111
        · rw [if_pos h1, if_neg fun h => hof ⟨h1, h⟩]
          subst h1
          rfl
        · rw [if_neg h1, if_neg (by simp)]
      · have h1 : c ≠ 111 := by rintro rfl; exact absurd hp (by decide)
        rw [cnd_true, if_neg h1, if_pos rfl]
        have e5 : partK (c :: r) 0 1 = some [c] := by
          unfold partK
          rw [if_pos ⟨by omega, by omega, by simp <;> omega⟩]
          rfl
        rw [e5, kb_some]
theorem s_next_at {text l : List UInt8} (ht : text.length < 1000000000) (h : l <:+ text) : G_notation_reader_next (rdAt text l) = some (rdAt text (nx l)) := by
  have hl := h.length_le
  have h1 := tok_le l
  unfold rdAt
  rw [s_next ht (by omega)]
  unfold rdAt
  rw [← List.drop_drop, drop_suf h]
  rfl
theorem s_take {text l : List UInt8} (ht : text.length < 1000000000) (h : l <:+ text) (w : List UInt8) : G_notation_reader_take (rdAt text l) w = some (if tok l = w then (true, rdAt text (nx l)) else (false, rdAt text l)) := by
  refine g_notation_reader_take ?_
  unfold B_notation_reader_take
  rw [s_next_at ht h]
  by_cases c : tok l = w
  · have : ((rdAt text l).f1 == w) = true := beq_iff_eq.2 c
    rw [this, cnd_true, kb_some, if_pos c]
  · have : ((rdAt text l).f1 == w) = false := beq_eq_false_iff_ne.2 c
    rw [this, cnd_false, if_neg c]

/-! ### numbers -/
theorem dg_digitVal {b : UInt8} (h : dg b = true) : Lib.digitVal b = some (b.toNat - 48) := by
  have h' : 48 ≤ b.toNat ∧ b.toNat ≤ 57 := of_decide_eq_true h
  unfold Lib.digitVal
  rw [if_pos (by simpa using h')]
theorem decFrom_fold : ∀ (w : List UInt8) (a : Nat), (∀ b ∈ w, dg b = true) → Lib.decFrom a w = some (w.foldl (fun a (b : UInt8) => a * 10 + (b.toNat - 48)) a)
  | [], a, _ => rfl
  | b :: r, a, h => by
    unfold Lib.decFrom
    rw [dg_digitVal (h b (by simp))]
    exact decFrom_fold r _ fun c hc => h c (by simp [hc])
theorem atoi_val {w : List UInt8} (h0 : w ≠ []) (h : ∀ b ∈ w, dg b = true) : Lib.atoi w = some (valD w : Int) := by
  cases w with
  | nil => exact absurd rfl h0
  | cons b r =>
    have hb : 48 ≤ b.toNat ∧ b.toNat ≤ 57 := of_decide_eq_true (h b (by simp))
    have n1 : (b == 45) = false := by rw [beq_eq_false_iff_ne]; rintro rfl; exact absurd hb (by decide)
    have n2 : (b == 43) = false := by rw [beq_eq_false_iff_ne]; rintro rfl; exact absurd hb (by decide)
    simp only [Lib.atoi, n1, n2, Bool.false_eq_true, if_false]
    unfold Lib.decNat
    rw [if_neg (by simp), decFrom_fold _ _ h]
    rfl
theorem tok_digs {l : List UInt8} {b : UInt8} {r : List UInt8} (h : tok l = b :: r) (hb : dg b = true) : ∀ c ∈ tok l, dg c = true := by
  cases l with
  | nil => cases h
  | cons c q =>
    rw [tok_cons] at h ⊢
    split at h
    · split at h
      · cases h; exact absurd hb (by decide)
      · cases h
    · rename_i h1
      rw [if_neg h1]
      split at h
      · rename_i h2
        cases h
        exfalso
        unfold punct at h2
        simp only [Bool.or_eq_true, beq_iff_eq] at h2
        rcases h2 with rfl | rfl | rfl <;> exact absurd hb (by decide)
      · rename_i h2
        rw [if_neg h2]
        intro d hd
        exact List.all_eq_true.1 (List.all_takeWhile (p := dg) (l := c :: q)) d hd
theorem s_number {text l : List UInt8} (ht : text.length < 1000000000) (h : l <:+ text) : G_notation_reader_number (rdAt text l) = some (match num l with
    | none => (0, false, rdAt text l)
    | some k => ((k : Int), true, rdAt text (nx l))) := by
  refine g_notation_reader_number ?_
  unfold B_notation_reader_number
  have e0 : B_notation_reader_number_0 (rdAt text l) = some (!numOk (tok l)) := by
    unfold B_notation_reader_number_0
    show cnd (tok l == []) _ _ = _
    cases hw : tok l with
    | nil => rfl
    | cons b r =>
      have hf : (rdAt text l).f1 = b :: r := hw
      rw [hf]
      have : ((b :: r) == ([] : List UInt8)) = false := rfl
      rw [this, cnd_false]
      have hg : getI (b :: r) 0 = some b := rfl
      rw [hg, kb_some, s_digit, kb_some]
      show _ = some (!(dg b && (decide (r.length ≤ 3) && (r.isEmpty || b != 48))))
      cases hd : dg b
      · rfl
      · rw [cnd_true, Bool.true_and]
        by_cases c1 : 4 < (b :: r).length
        · have c2 : ¬ r.length ≤ 3 := by rw [List.length_cons] at c1; omega
          have c3 : (4 : Int) < ((b :: r).length : Int) := by omega
          simp only [c3, decide_true, cnd_true, c2, decide_false, Bool.false_and, Bool.not_false]
        · have c2 : r.length ≤ 3 := by rw [List.length_cons] at c1; omega
          have c3 : ¬ (4 : Int) < ((b :: r).length : Int) := by omega
          simp only [c3, decide_false, cnd_false, c2, decide_true, Bool.true_and]
          cases r with
          | nil => rfl
          | cons d q =>
            have c4 : (1 : Int) < ((b :: d :: q).length : Int) := by simp only [List.length_cons]; omega
            simp only [c4, decide_true, cnd_true, List.isEmpty_cons, Bool.false_or, bne, Bool.not_not]
            congr 1
            rw [show (b == 48) = decide (b = 48) from rfl, decide_eq_decide]
            constructor
            · intro h
              apply UInt8.toNat_inj.1
              show b.toNat = 48
              omega
            · rintro rfl; rfl
  rw [e0, kb_some]
  unfold num
  cases hn : numOk (tok l)
  · rw [Bool.not_false, cnd_true, if_neg (by simp)]
  · rw [Bool.not_true, cnd_false, if_pos rfl]
    have hlen : (tok l).length ≤ 4 ∧ (tok l ≠ [] ∧ ∀ c ∈ tok l, dg c = true) := by
      cases hw : tok l with
      | nil => rw [hw] at hn; cases hn
      | cons b r =>
        have hn' := hn
        rw [hw] at hn'
        simp only [numOk, Bool.and_eq_true, decide_eq_true_eq] at hn'
        refine ⟨by rw [List.length_cons]; omega, by simp, ?_⟩
        rw [← hw]
        exact tok_digs hw hn'.1
    have ea : G_strconv_Atoi (rdAt text l).f1 = some ((valD (tok l) : Int), true) := by
      refine g_strconv_Atoi ?_
      unfold B_strconv_Atoi atoiK
      show (if (tok l).length ≤ 18 then _ else _) = _
      rw [if_pos (by omega)]
      show Option.map _ (Lib.atoi (tok l)) = _
      rw [atoi_val hlen.2.1 hlen.2.2]
      rfl
    rw [ea, kb_some, s_next_at ht h, kb_some]

/-! ### a trust -/
theorem thr_loop : ∀ (f : Nat) (l : List UInt8) (n : Int) (ns : List Int) (is : List Tru), (pLoop f l n ns is).1.thr = n := by
  intro f
  induction f with
  | zero => intro l n ns is; rfl
  | succ f ih =>
    intro l n ns is
    have ht : ∀ r ns' is', (pTail (pLoop f) r n ns' is').1.thr = n := by
      intro r ns' is'
      unfold pTail
      split
      · rfl
      · split
        · exact ih _ _ _ _
        · rfl
    unfold pLoop
    split
    · rfl
    · split
      · split
        · exact ht _ _ _
        · rfl
      · exact ht _ _ _
def LoopAt (text : List UInt8) (f : Nat) : Prop := ∀ (l : List UInt8) (n : Int) (ns : List Int) (is : List Tru), l <:+ text → l.length ≤ f → ns.length + (is.length + l.length) ≤ 1000000 →
  iterW (fun a : List UInt8 × List UInt8 × Int × List Int × List Tru => B_notation_reader_rest_2 n a.1 a.2.1 a.2.2.1 a.2.2.2.1 a.2.2.2.2) ((rdAt text l).f0, (rdAt text l).f1, (rdAt text l).f2, ns, is) =
    some (.ret ((rdAt text (pLoop f l n ns is).2.2).f0, (rdAt text (pLoop f l n ns is).2.2).f1, (rdAt text (pLoop f l n ns is).2.2).f2, (pLoop f l n ns is).1.nodes, (pLoop f l n ns is).1.inner, (pLoop f l n ns is).2.1))
def RestAt (text : List UInt8) (f : Nat) : Prop := ∀ (l : List UInt8) (n : Int), l <:+ text → l.length ≤ f →
  G_notation_reader_rest (rdAt text l) n = some ((pRest (pLoop f) l n).1, (pRest (pLoop f) l n).2.1, rdAt text (pRest (pLoop f) l n).2.2)
theorem rd_eta (r : Rdr) : (⟨r.f0, r.f1, r.f2⟩ : Rdr) = r := rfl
theorem rest_of_loop {text : List UInt8} (ht : text.length ≤ 100000) {f : Nat} (hL : LoopAt text f) : RestAt text f := by
  intro l n hs hf
  have ht' : text.length < 1000000000 := by omega
  refine g_notation_reader_rest ?_
  unfold B_notation_reader_rest
  have e0 : B_notation_reader_rest_0 (rdAt text l) n = some (if tok l = [111, 102] then (if tok (nx l) = [40] then ((rdAt text (nx (nx l))).f0, (rdAt text (nx (nx l))).f1, (rdAt text (nx (nx l))).f2, false) else ((rdAt text (nx l)).f0, (rdAt text (nx l)).f1, (rdAt text (nx l)).f2, true)) else ((rdAt text l).f0, (rdAt text l).f1, (rdAt text l).f2, true)) := by
    unfold B_notation_reader_rest_0
    rw [s_take ht' hs, kb_some]
    by_cases c : tok l = [111, 102]
    · rw [if_pos c, if_pos c]
      dsimp only
      rw [cnd_true, s_take ht' ((nx_suf l).trans hs), kb_some]
      by_cases c2 : tok (nx l) = [40]
      · rw [if_pos c2, if_pos c2]; rfl
      · rw [if_neg c2, if_neg c2]; rfl
    · rw [if_neg c, if_neg c]
      rfl
  rw [e0, kb_some]
  unfold pRest
  by_cases c : tok l = [111, 102]
  · rw [if_pos c, if_pos c]
    by_cases c2 : tok (nx l) = [40]
    · rw [if_pos c2, if_pos c2]
      dsimp only
      have hs2 : nx (nx l) <:+ text := (nx_suf _).trans ((nx_suf l).trans hs)
      have hl2 : (nx (nx l)).length ≤ l.length := ((nx_suf _).trans (nx_suf l)).length_le
      have := hs2.length_le
      rw [cnd_false, hL (nx (nx l)) n [] [] hs2 (by omega) (by simp; omega), kb_some, stpK_ret]
      dsimp only
      have e := thr_loop f (nx (nx l)) n [] []
      congr 2
      refine Tru.ext' ?_ rfl rfl
      rw [e]
      rfl
    · rw [if_neg c2, if_neg c2]
      rfl
  · rw [if_neg c, if_neg c]
    rfl
theorem tail_step {text : List UInt8} (ht : text.length < 1000000000) {f : Nat} (hL : LoopAt text f) {l : List UInt8} (hs : l <:+ text) {n : Int} {ns : List Int} {is : List Tru} (hf : tok l ≠ [] → (nx l).length ≤ f) (hb : ns.length + (is.length + l.length) ≤ 1000000)
    {s : List UInt8 × List UInt8 × Int × List Int × List Tru} (hB : B_notation_reader_rest_2 n s.1 s.2.1 s.2.2.1 s.2.2.2.1 s.2.2.2.2 = (kb (G_notation_reader_take (rdAt text l) ([41] : List UInt8)) fun y20 =>
      cnd y20.1 (
        some (.ret (y20.2.f0, y20.2.f1, y20.2.f2, ns, is, true))) (
        kb (G_notation_reader_take y20.2 ([44] : List UInt8)) fun y23 =>
        cnd y23.1 (
          some (.go (y23.2.f0, y23.2.f1, y23.2.f2, ns, is))) (
          some (.ret (y23.2.f0, y23.2.f1, y23.2.f2, ns, is, false)))))) :
    iterW (fun a : List UInt8 × List UInt8 × Int × List Int × List Tru => B_notation_reader_rest_2 n a.1 a.2.1 a.2.2.1 a.2.2.2.1 a.2.2.2.2) s =
      some (.ret ((rdAt text (pTail (pLoop f) l n ns is).2.2).f0, (rdAt text (pTail (pLoop f) l n ns is).2.2).f1, (rdAt text (pTail (pLoop f) l n ns is).2.2).f2, (pTail (pLoop f) l n ns is).1.nodes, (pTail (pLoop f) l n ns is).1.inner, (pTail (pLoop f) l n ns is).2.1)) := by
  rw [s_take ht hs, kb_some] at hB
  unfold pTail
  by_cases c1 : tok l = [41]
  · rw [if_pos c1] at hB
    dsimp only at hB
    rw [cnd_true] at hB
    rw [if_pos c1]
    exact iterW_ret hB
  · rw [if_neg c1] at hB
    dsimp only at hB
    rw [cnd_false, s_take ht hs, kb_some] at hB
    rw [if_neg c1]
    by_cases c2 : tok l = [44]
    · rw [if_pos c2] at hB
      dsimp only at hB
      rw [cnd_true] at hB
      rw [if_pos c2]
      have := (nx_suf l).length_le
      exact (iterW_go hB).trans (hL (nx l) n ns is ((nx_suf l).trans hs) (hf (by rw [c2]; simp)) (by omega))
    · rw [if_neg c2] at hB
      dsimp only at hB
      rw [cnd_false] at hB
      rw [if_neg c2]
      exact iterW_ret hB
theorem loop_at (text : List UInt8) (ht : text.length ≤ 100000) : ∀ f, LoopAt text f := by
  have ht' : text.length < 1000000000 := by omega
  intro f
  induction f with
  | zero =>
    intro l n ns is hs hf hb
    have : l = [] := List.eq_nil_of_length_eq_zero (by omega)
    subst this
    refine iterW_ret ?_
    unfold B_notation_reader_rest_2
    dsimp only
    rw [show (S_notation_reader.mk (rdAt text []).f0 (rdAt text []).f1 (rdAt text []).f2) = rdAt text [] from rfl, s_number ht' hs, kb_some]
    rfl
  | succ f ih =>
    intro l n ns is hs hf hb
    have hR := rest_of_loop ht ih
    have hnum : ∀ k, num l = some k → (nx l).length + 1 ≤ l.length := fun k hk => nx_lt (num_tok hk)
    unfold pLoop
    cases hk : num l with
    | none =>
      refine iterW_ret ?_
      unfold B_notation_reader_rest_2
      dsimp only
      rw [show (S_notation_reader.mk (rdAt text l).f0 (rdAt text l).f1 (rdAt text l).f2) = rdAt text l from rfl, s_number ht' hs, hk, kb_some]
      rfl
    | some k =>
      have h1 := hnum k hk
      have hs1 : nx l <:+ text := (nx_suf l).trans hs
      dsimp only
      by_cases hof : tok (nx l) = [111, 102]
      · rw [if_pos hof]
        have h2 : (nx (nx l)).length + 1 ≤ (nx l).length := nx_lt (by rw [hof]; simp)
        have hfit := fit_rest (fit_loop f) (nx l) (k : Int) (by have := num_lt hk; unfold in64; omega)
        have hB : B_notation_reader_rest_1 (rdAt text (nx l)).f0 (rdAt text (nx l)).f1 (rdAt text (nx l)).f2 n ns is true (k : Int) = some (if (pRest (pLoop f) (nx l) (k : Int)).2.1 = true then .go ((rdAt text (pRest (pLoop f) (nx l) (k : Int)).2.2).f0, (rdAt text (pRest (pLoop f) (nx l) (k : Int)).2.2).f1, (rdAt text (pRest (pLoop f) (nx l) (k : Int)).2.2).f2, ns, is ++ [(pRest (pLoop f) (nx l) (k : Int)).1]) else .ret ((rdAt text (pRest (pLoop f) (nx l) (k : Int)).2.2).f0, (rdAt text (pRest (pLoop f) (nx l) (k : Int)).2.2).f1, (rdAt text (pRest (pLoop f) (nx l) (k : Int)).2.2).f2)) := by
          unfold B_notation_reader_rest_1
          rw [cnd_true, show (S_notation_reader.mk (rdAt text (nx l)).f0 (rdAt text (nx l)).f1 (rdAt text (nx l)).f2) = rdAt text (nx l) from rfl, hR (nx l) (k : Int) hs1 (by omega), kb_some]
          dsimp only
          cases (pRest (pLoop f) (nx l) (k : Int)).2.1
          · rw [cnd_false]; rfl
          · rw [cnd_true, appK_some (by simp; omega), kb_some]; rfl
        obtain ⟨v, hv⟩ : ∃ v, B_notation_reader_rest_2 n (rdAt text l).f0 (rdAt text l).f1 (rdAt text l).f2 ns is = v := ⟨_, rfl⟩
        have hB2 := hv
        unfold B_notation_reader_rest_2 at hB2
        rw [show (S_notation_reader.mk (rdAt text l).f0 (rdAt text l).f1 (rdAt text l).f2) = rdAt text l from rfl, s_number ht' hs, hk, kb_some] at hB2
        dsimp only at hB2
        rw [cnd_true, show ((rdAt text (nx l)).f1 == [111, 102]) = true from beq_iff_eq.2 hof, hB, kb_some] at hB2
        generalize pRest (pLoop f) (nx l) (k : Int) = R at hfit hB2
        obtain ⟨x, o, r⟩ := R
        have hrl := hfit.suf.length_le
        have hrt : r <:+ text := hfit.suf.trans hs1
        dsimp only at hB2 hrl hrt ⊢
        cases o
        · rw [if_neg (by simp), stpK_ret] at hB2
          exact iterW_ret (hv.trans hB2.symm)
        · rw [if_pos rfl, stpK_go] at hB2
          exact tail_step ht' ih hrt (fun h => by have := nx_lt h; omega) (by simp; omega) (s := ((rdAt text l).f0, (rdAt text l).f1, (rdAt text l).f2, ns, is)) (hv.trans hB2.symm)
      · rw [if_neg hof]
        obtain ⟨v, hv⟩ : ∃ v, B_notation_reader_rest_2 n (rdAt text l).f0 (rdAt text l).f1 (rdAt text l).f2 ns is = v := ⟨_, rfl⟩
        have hB2 := hv
        unfold B_notation_reader_rest_2 at hB2
        rw [show (S_notation_reader.mk (rdAt text l).f0 (rdAt text l).f1 (rdAt text l).f2) = rdAt text l from rfl, s_number ht' hs, hk, kb_some] at hB2
        dsimp only at hB2
        have hB : B_notation_reader_rest_1 (rdAt text (nx l)).f0 (rdAt text (nx l)).f1 (rdAt text (nx l)).f2 n ns is false (k : Int) = some (.go ((rdAt text (nx l)).f0, (rdAt text (nx l)).f1, (rdAt text (nx l)).f2, ns ++ [(k : Int)], is)) := by
          unfold B_notation_reader_rest_1
          rw [cnd_false, appK_some (by simp; omega), kb_some]
        rw [cnd_true, show ((rdAt text (nx l)).f1 == [111, 102]) = false from beq_eq_false_iff_ne.2 hof, hB, kb_some, stpK_go] at hB2
        exact tail_step ht' ih hs1 (fun h => by have := nx_lt h; omega) (by simp; omega) (s := ((rdAt text l).f0, (rdAt text l).f1, (rdAt text l).f2, ns, is)) (hv.trans hB2.symm)

/-! ### a text -/
/-- what Parse answers -/
def parseV (text : List UInt8) : Tru × Int × Int :=
  if 6000 < text.length then (.mk 0 [] [], 0, 3) else
  if (pTop text.length (skipB text)).2.1 = true ∧ (pTop text.length (skipB text)).2.2 = [] then
    (if valE (pTop text.length (skipB text)).1 = 0 then ((pTop text.length (skipB text)).1, 0, 0) else (.mk 0 [] [], 0, valE (pTop text.length (skipB text)).1))
  else (.mk 0 [] [], ((text.length - (pTop text.length (skipB text)).2.2.length : Nat) : Int), 2)
theorem s_Parse (text : List UInt8) : G_notation_Parse text = some (parseV text) := by
  refine g_notation_Parse ?_
  unfold B_notation_Parse parseV
  by_cases hl : 6000 < text.length
  · have : (6000 : Int) < (text.length : Int) := by omega
    simp only [this, decide_true, cnd_true, hl, if_true]
  have hl' : ¬ (6000 : Int) < (text.length : Int) := by omega
  rw [if_neg hl]
  simp only [hl', decide_false, cnd_false]
  have e0 := s_next (text := text) (w := []) (a := 0) (by omega) (by simp)
  rw [show ((0 : Nat) : Int) = 0 from rfl, show text.drop (0 + ([] : List UInt8).length) = text from rfl] at e0
  have hs := skipB_suf text
  have hlen := hs.length_le
  rw [e0, kb_some, s_number (by omega) hs, kb_some]
  have hfit := fit_top text.length (skipB text)
  have hsz := hfit.size
  have hok := hfit.ok
  have hsuf := hfit.suf.trans hs
  have key : ∃ R : PR, R.2.2 <:+ text ∧ (pTop text.length (skipB text) = R ∧ B_notation_Parse_0 (match num (skipB text) with
      | none => (0, false, rdAt text (skipB text))
      | some k => ((k : Int), true, rdAt text (nx (skipB text)))) text = some ((rdAt text R.2.2).f0, (rdAt text R.2.2).f1, (rdAt text R.2.2).f2, R.1.thr, R.1.nodes, R.1.inner, R.2.1)) := by
    refine ⟨pTop text.length (skipB text), hsuf, rfl, ?_⟩
    unfold pTop
    cases hk : num (skipB text) with
    | none => rfl
    | some k =>
      have hs1 : nx (skipB text) <:+ text := (nx_suf _).trans hs
      unfold B_notation_Parse_0
      dsimp only
      rw [cnd_true, rest_of_loop (by omega) (loop_at text (by omega) text.length) _ _ hs1 hs1.length_le, kb_some]
  obtain ⟨R, h1, h2, h3⟩ := key
  rw [h3, kb_some, h2]
  rw [h2] at hsz hok
  obtain ⟨x, o, r⟩ := R
  have hrl := h1.length_le
  dsimp only at hsz hok hrl ⊢
  unfold B_notation_Parse_1
  dsimp only
  cases o
  · rw [cnd_false, kb_some, cnd_true, if_neg (by simp)]
    rfl
  · rw [cnd_true, kb_some]
    by_cases hr : r = []
    · subst hr
      have e : decide ((rdAt text []).f2 < (text.length : Int)) = false := by simp [rdAt]
      rw [e, cnd_false, if_pos ⟨rfl, rfl⟩, show (Tru.mk x.thr x.nodes x.inner) = x from x.eta]
      have hf : x.Fine := ⟨by simp at hsz; omega, hok⟩
      rw [s_threshold_Valid hf, kb_some]
      by_cases hv : valE x = 0
      · simp only [hv, decide_true, cnd_true, if_true]
      · simp only [hv, decide_false, cnd_false, if_false]
    · have hp := List.length_pos_iff.2 hr
      have e : decide ((rdAt text r).f2 < (text.length : Int)) = true := by
        show decide (((text.length - r.length : Nat) : Int) < (text.length : Int)) = true
        exact decide_eq_true (by omega)
      rw [e, cnd_true, if_neg (fun h => hr h.2)]
      rfl
end Go.Am

/-
Reading a trust: a proper beginning of a text.
-/
namespace Go.Am
open Go
set_option linter.unusedVariables false
set_option linter.unusedSimpArgs false

/-- begins with no blank -/
def Sk (u : List UInt8) : Prop := skipB u = u
theorem sk_nx (l : List UInt8) : Sk (nx l) := nx_skip l
theorem skip_app (a s : List UInt8) : (skipB a = [] ∧ skipB (a ++ s) = skipB s) ∨ (skipB a ≠ [] ∧ skipB (a ++ s) = skipB a ++ s) := by
  induction a with
  | nil => exact .inl ⟨rfl, rfl⟩
  | cons c r ih =>
    rw [List.cons_append, skipB_cons, skipB_cons]
    split
    · exact ih
    · exact .inr ⟨by simp, rfl⟩
theorem tw_all {l : List UInt8} (h : ∀ b ∈ l, dg b = true) : l.takeWhile dg = l := by
  have := takeWhile_app (r := []) h (fun c q e => by cases e)
  rwa [List.append_nil] at this
theorem tw_mem {l : List UInt8} (h : l.takeWhile dg = l) : ∀ b ∈ l, dg b = true := by
  intro b hb
  rw [← h] at hb
  exact List.all_eq_true.1 (List.all_takeWhile (p := dg) (l := l)) b hb
/-- where a text is cut off: the token is whole, or it is a beginning of digits, or a letter alone -/
theorem tok_cut {u : List UInt8} (hu : u ≠ []) (s : List UInt8) :
    (tok (u ++ s) = tok u) ∨ ((u = [111]) ∨ (tok u = u ∧ ((∀ b ∈ u, dg b = true) ∧ ∃ d, tok (u ++ s) = u ++ d))) := by
  cases u with
  | nil => exact absurd rfl hu
  | cons c r =>
    rw [List.cons_append, tok_cons, tok_cons]
    by_cases h1 : c = 111
    · rw [if_pos h1, if_pos h1]
      cases r with
      | nil => right; left; rw [h1]
      | cons d q => left; rfl
    · rw [if_neg h1, if_neg h1]
      split
      · left; rfl
      · by_cases h2 : ∀ b ∈ c :: r, dg b = true
        · right; right
          have e : (c :: r).takeWhile dg = c :: r := tw_all h2
          refine ⟨e, h2, s.takeWhile dg, ?_⟩
          rw [← List.cons_append, List.takeWhile_append_of_pos h2]
        · left
          rw [← List.cons_append, List.takeWhile_append]
          have : ¬ ((c :: r).takeWhile dg).length = (c :: r).length := by
            intro e
            apply h2
            have := (List.prefix_iff_eq_take.1 (List.takeWhile_prefix (p := dg) (l := c :: r)))
            rw [e, List.take_length] at this
            exact tw_mem this
          rw [if_neg this]
theorem nx_cut {u s : List UInt8} (h : tok (u ++ s) = tok u) : (nx u = [] ∧ nx (u ++ s) = skipB s) ∨ (nx u ≠ [] ∧ nx (u ++ s) = nx u ++ s) := by
  unfold nx
  rw [h, List.drop_append_of_le_length (tok_le u)]
  exact skip_app _ s
/-- what comes of the beginning, if the whole is read well -/
def Cut (s : List UInt8) (A B : PR) : Prop := B.2.1 = true →
  (A = (B.1, true, A.2.2) ∧ (A.2.2 ≠ [] ∧ (Sk A.2.2 ∧ B.2.2 = A.2.2 ++ s))) ∨ ((A = (B.1, true, []) ∧ B.2.2 = skipB s) ∨ (A.2.1 = false ∧ A.2.2.length ≤ 1))
def CutP (s : List UInt8) (P : PF) : Prop := ∀ u n ns is, u ≠ [] → Sk u → Cut s (P u n ns is) (P (u ++ s) n ns is)
def NilP (P : PF) : Prop := ∀ n ns is, (P [] n ns is).2.1 = false ∧ (P [] n ns is).2.2 = []
theorem nil_loop : ∀ f, NilP (pLoop f) := by
  intro f n ns is
  cases f with
  | zero => exact ⟨rfl, rfl⟩
  | succ f => exact ⟨rfl, rfl⟩
theorem nil_tail (P : PF) (n : Int) (ns : List Int) (is : List Tru) : (pTail P [] n ns is).2.1 = false ∧ (pTail P [] n ns is).2.2 = [] := ⟨rfl, rfl⟩
theorem nil_rest (P : PF) (n : Int) : (pRest P [] n).2.1 = false ∧ (pRest P [] n).2.2 = [] := ⟨rfl, rfl⟩
theorem dig_tok {u d : List UInt8} (hu : u ≠ []) (h : ∀ b ∈ u, dg b = true) (w : List UInt8) (hw : w = [40] ∨ (w = [41] ∨ (w = [44] ∨ w = [111, 102]))) : u ++ d ≠ w := by
  intro e
  cases u with
  | nil => exact hu rfl
  | cons b q =>
    have hb := h b (by simp)
    rcases hw with rfl | rfl | rfl | rfl <;> simp only [List.cons_append, List.cons.injEq] at e <;> rw [e.1] at hb <;> exact absurd hb (by decide)
theorem cut_tail {s : List UInt8} {P : PF} (hP : CutP s P) (h0 : NilP P) : ∀ u n ns is, u ≠ [] → Sk u → Cut s (pTail P u n ns is) (pTail P (u ++ s) n ns is) := by
  intro u n ns is hu hs hB
  rcases tok_cut hu s with h | rfl | ⟨h1, h2, d, h3⟩
  · unfold pTail at hB ⊢
    rw [h] at hB ⊢
    by_cases c1 : tok u = [41]
    · rw [if_pos c1, if_pos c1]
      rcases nx_cut h with ⟨e1, e2⟩ | ⟨e1, e2⟩
      · right; left
        rw [e1, e2]
        exact ⟨rfl, rfl⟩
      · left
        rw [e2]
        exact ⟨rfl, e1, sk_nx u, rfl⟩
    · rw [if_neg c1] at hB
      rw [if_neg c1, if_neg c1]
      by_cases c2 : tok u = [44]
      · rw [if_pos c2] at hB
        rw [if_pos c2, if_pos c2]
        rcases nx_cut h with ⟨e1, e2⟩ | ⟨e1, e2⟩
        · right; right
          rw [e1]
          have := h0 n ns is
          exact ⟨this.1, by rw [this.2]; simp⟩
        · rw [e2] at hB ⊢
          exact hP (nx u) n ns is e1 (sk_nx u) hB
      · rw [if_neg c2] at hB
        cases hB
  · right; right
    exact ⟨rfl, by show [111].length ≤ 1; simp⟩
  · exfalso
    unfold pTail at hB
    rw [h3, if_neg (dig_tok hu h2 _ (by simp)), if_neg (dig_tok hu h2 _ (by simp))] at hB
    cases hB
theorem cut_rest {s : List UInt8} {P : PF} (hP : CutP s P) (h0 : NilP P) : ∀ u n, u ≠ [] → Sk u → Cut s (pRest P u n) (pRest P (u ++ s) n) := by
  intro u n hu hs hB
  rcases tok_cut hu s with h | rfl | ⟨h1, h2, d, h3⟩
  · unfold pRest at hB ⊢
    rw [h] at hB ⊢
    by_cases c1 : tok u = [111, 102]
    · rw [if_pos c1] at hB
      rw [if_pos c1, if_pos c1]
      rcases nx_cut h with ⟨e1, e2⟩ | ⟨e1, e2⟩
      · right; right
        rw [e1, if_neg (by simp [tok])]
        exact ⟨rfl, by simp⟩
      · rw [e2] at hB ⊢
        rcases tok_cut e1 s with g | g | ⟨g1, g2, d, g3⟩
        · rw [g] at hB ⊢
          by_cases c2 : tok (nx u) = [40]
          · rw [if_pos c2] at hB
            rw [if_pos c2, if_pos c2]
            rcases nx_cut g with ⟨k1, k2⟩ | ⟨k1, k2⟩
            · right; right
              rw [k1]
              have := h0 n [] []
              exact ⟨this.1, by rw [this.2]; simp⟩
            · rw [k2] at hB ⊢
              exact hP _ n [] [] k1 (sk_nx _) hB
          · rw [if_neg c2] at hB
            cases hB
        · right; right
          rw [g]
          exact ⟨rfl, by show [111].length ≤ 1; simp⟩
        · exfalso
          rw [g3, if_neg (dig_tok e1 g2 _ (by simp))] at hB
          cases hB
    · rw [if_neg c1] at hB
      cases hB
  · right; right
    exact ⟨rfl, by show [111].length ≤ 1; simp⟩
  · exfalso
    unfold pRest at hB
    rw [h3, if_neg (dig_tok hu h2 _ (by simp))] at hB
    cases hB
theorem numOk_pre {u d : List UInt8} (hu : u ≠ []) (h : numOk (u ++ d) = true) : numOk u = true := by
  cases u with
  | nil => exact absurd rfl hu
  | cons b r =>
    rw [List.cons_append] at h
    simp only [numOk, Bool.and_eq_true, decide_eq_true_eq, Bool.or_eq_true, List.isEmpty_iff, List.length_append] at h ⊢
    refine ⟨h.1, by omega, ?_⟩
    rcases h.2.2 with h | h
    · left
      exact (List.append_eq_nil_iff.1 h).1
    · exact .inr h
theorem nx_all {u : List UInt8} (h : tok u = u) : nx u = [] := by
  unfold nx
  rw [h, List.drop_length]
  rfl
theorem cut_loop (s : List UInt8) : ∀ f, CutP s (pLoop f) := by
  intro f
  induction f with
  | zero => intro u n ns is _ _ h; cases h
  | succ f ih =>
    intro u n ns is hu hs hB
    have h0 := nil_loop f
    rcases tok_cut hu s with h | rfl | ⟨h1, h2, d, h3⟩
    · have hn : num (u ++ s) = num u := by unfold num; rw [h]
      unfold pLoop at hB ⊢
      rw [hn] at hB ⊢
      cases hk : num u with
      | none => rw [hk] at hB; cases hB
      | some k =>
        rw [hk] at hB
        dsimp only at hB ⊢
        rcases nx_cut h with ⟨e1, e2⟩ | ⟨e1, e2⟩
        · right; right
          rw [e1, if_neg (by simp [tok])]
          have := nil_tail (pLoop f) n (ns ++ [(k : Int)]) is
          exact ⟨this.1, by rw [this.2]; simp⟩
        · rw [e2] at hB ⊢
          rcases tok_cut e1 s with g | g | ⟨g1, g2, d, g3⟩
          · rw [g] at hB ⊢
            by_cases c : tok (nx u) = [111, 102]
            · rw [if_pos c] at hB
              rw [if_pos c, if_pos c]
              have hr := cut_rest ih h0 (nx u) (k : Int) e1 (sk_nx u)
              generalize pRest (pLoop f) (nx u ++ s) (k : Int) = B at hr hB
              generalize pRest (pLoop f) (nx u) (k : Int) = A at hr
              obtain ⟨x, o, r⟩ := B
              cases o
              · cases hB
              · dsimp only at hB ⊢
                rcases hr rfl with ⟨a1, a2, a3, a4⟩ | ⟨a1, a2⟩ | ⟨a1, a2⟩
                · obtain ⟨y, p, q⟩ := A
                  dsimp only at a1 a2 a3 a4
                  cases a1
                  subst a4
                  exact cut_tail ih h0 q n ns (is ++ [x]) a2 a3 hB
                · subst a1
                  right; right
                  have := nil_tail (pLoop f) n ns (is ++ [x])
                  exact ⟨this.1, by show (pTail (pLoop f) [] n ns (is ++ [x])).2.2.length ≤ 1; rw [this.2]; simp⟩
                · obtain ⟨y, p, q⟩ := A
                  dsimp only at a1 a2
                  subst a1
                  right; right
                  exact ⟨rfl, a2⟩
            · rw [if_neg c] at hB
              rw [if_neg c, if_neg c]
              exact cut_tail ih h0 (nx u) n (ns ++ [(k : Int)]) is e1 (sk_nx u) hB
          · right; right
            rw [g, if_neg (by simp [tok])]
            exact ⟨rfl, by show [111].length ≤ 1; simp⟩
          · exfalso
            rw [g3, if_neg (dig_tok e1 g2 _ (by simp))] at hB
            unfold pTail at hB
            rw [g3, if_neg (dig_tok e1 g2 _ (by simp)), if_neg (dig_tok e1 g2 _ (by simp))] at hB
            cases hB
    · right; right
      exact ⟨rfl, by show [111].length ≤ 1; simp⟩
    · -- digits that go on behind the cut
      right; right
      have hn : numOk (u ++ d) = true := by
        unfold pLoop num at hB
        rw [h3] at hB
        split at hB
        · cases hB
        · rename_i k hk
          split at hk
          · assumption
          · cases hk
      have hnu : num u = some (valD u) := by
        unfold num
        rw [h1, if_pos (numOk_pre hu hn)]
      unfold pLoop
      rw [hnu, nx_all h1]
      dsimp only
      rw [if_neg (by simp [tok])]
      have := nil_tail (pLoop f) n (ns ++ [(valD u : Int)]) is
      exact ⟨this.1, by rw [this.2]; simp⟩
theorem cut_top (s : List UInt8) (f : Nat) {u : List UInt8} (hu : u ≠ []) (hs : Sk u) : Cut s (pTop f u) (pTop f (u ++ s)) := by
  intro hB
  have h0 := nil_loop f
  rcases tok_cut hu s with h | rfl | ⟨h1, h2, d, h3⟩
  · have hn : num (u ++ s) = num u := by unfold num; rw [h]
    unfold pTop at hB ⊢
    rw [hn] at hB ⊢
    cases hk : num u with
    | none => rw [hk] at hB; cases hB
    | some k =>
      rw [hk] at hB
      dsimp only at hB ⊢
      rcases nx_cut h with ⟨e1, e2⟩ | ⟨e1, e2⟩
      · right; right
        rw [e1]
        have := nil_rest (pLoop f) (k : Int)
        exact ⟨this.1, by rw [this.2]; simp⟩
      · rw [e2] at hB ⊢
        exact cut_rest (cut_loop s f) h0 (nx u) (k : Int) e1 (sk_nx u) hB
  · right; right
    exact ⟨rfl, by show [111].length ≤ 1; simp⟩
  · right; right
    have hn : numOk (u ++ d) = true := by
      unfold pTop num at hB
      rw [h3] at hB
      split at hB
      · cases hB
      · rename_i k hk
        split at hk
        · assumption
        · cases hk
    have hnu : num u = some (valD u) := by
      unfold num
      rw [h1, if_pos (numOk_pre hu hn)]
    unfold pTop
    rw [hnu, nx_all h1]
    have := nil_rest (pLoop f) (valD u : Int)
    exact ⟨this.1, by show (pRest (pLoop f) [] (valD u : Int)).2.2.length ≤ 1; rw [this.2]; simp⟩
/-- a proper beginning of a text of a trust has no trust, and the place of the error is at its end or one byte before -/
theorem cut_text {x : Tru} (hd : dec3 x) (hu : full x) {u s : List UInt8} (h : u ++ s = txtT x) (hs : s ≠ []) (f : Nat) (hf : (txtT x).length ≤ f) :
    (pTop f (skipB u)).2.1 = false ∧ (pTop f (skipB u)).2.2.length ≤ 1 := by
  by_cases h0 : u = []
  · subst h0
    exact ⟨rfl, by show ([] : List UInt8).length ≤ 1; simp⟩
  have hsk : Sk u := by
    have h1 := skip_txt hd ([] : List UInt8)
    rw [List.append_nil, ← h] at h1
    rcases skip_app u s with ⟨e1, e2⟩ | ⟨e1, e2⟩
    · exfalso
      rw [h1] at e2
      have := (skipB_suf s).length_le
      rw [← e2, List.length_append] at this
      have := List.length_pos_iff.2 h0
      omega
    · rw [h1] at e2
      exact (List.append_cancel_right e2).symm
  have hw := rt_top hd hu (f := f) [] (by simpa using hf)
  rw [List.append_nil, ← h] at hw
  have hB := cut_top s f h0 hsk (by rw [hw])
  rw [hsk, hw] at *
  rcases hB with ⟨a1, a2, a3, a4⟩ | ⟨a1, a2⟩ | a
  · exfalso
    have := congrArg List.length a4
    rw [List.length_append] at this
    have := List.length_pos_iff.2 hs
    simp only [skipB, List.length_nil] at *
    omega
  · -- blanks alone behind the cut: but the last byte is a bracket
    exfalso
    dsimp only at a2
    obtain ⟨A, hA⟩ : ∃ A, txtT x = A ++ [41] := by
      obtain ⟨t, n, i⟩ := x
      exact ⟨itoaN t.toNat ++ ([32, 111, 102, 32, 40] ++ joinL (n.map (fun k => itoaN k.toNat) ++ txtTs i) [44, 32]), by simp [txtT]⟩
    have hall : ∀ l : List UInt8, skipB l = [] → ∀ b ∈ l, b = 32 := by
      intro l
      induction l with
      | nil => intro _ b hb; cases hb
      | cons c r ih =>
        intro e b hb
        rw [skipB_cons] at e
        split at e
        · rename_i hc
          cases hb with
          | head => exact hc
          | tail _ hb => exact ih e b hb
        · cases e
    obtain ⟨L, b, hL⟩ : ∃ L b, s = L ++ [b] := by
      rcases List.eq_nil_or_concat s with e | ⟨L, b, e⟩
      · exact absurd e hs
      · exact ⟨L, b, by simpa using e⟩
    have hb : b = 41 := by
      rw [hA, hL, ← List.append_assoc] at h
      have := (List.append_inj' h rfl).2
      simpa using this
    have := hall s a2.symm b (by rw [hL]; simp)
    rw [hb] at this
    exact absurd this (by decide)
  · exact a
/-! ### fuel -/
theorem tail_fuel {P Q : PF} {l : List UInt8} (h : ∀ m n ns is, m.length < l.length → P m n ns is = Q m n ns is) (n : Int) (ns : List Int) (is : List Tru) : pTail P l n ns is = pTail Q l n ns is := by
  unfold pTail
  split
  · rfl
  · split
    · rename_i c
      exact h _ _ _ _ (nx_lt (by rw [c]; simp))
    · rfl
theorem rest_fuel {P Q : PF} {l : List UInt8} (h : ∀ m n ns is, m.length < l.length → P m n ns is = Q m n ns is) (n : Int) : pRest P l n = pRest Q l n := by
  unfold pRest
  split
  · rename_i c
    split
    · have := nx_lt (l := l) (by rw [c]; simp)
      have := (nx_suf (nx l)).length_le
      exact h _ _ _ _ (by omega)
    · rfl
  · rfl
/-- more fuel changes nothing -/
theorem loop_fuel : ∀ (f g : Nat) (l : List UInt8) (n : Int) (ns : List Int) (is : List Tru), l.length ≤ f → l.length ≤ g → pLoop f l n ns is = pLoop g l n ns is := by
  intro f
  induction f with
  | zero =>
    intro g l n ns is hf hg
    have : l = [] := List.eq_nil_of_length_eq_zero (by omega)
    subst this
    cases g with
    | zero => rfl
    | succ g => rfl
  | succ f ih =>
    intro g l n ns is hf hg
    cases g with
    | zero =>
      have : l = [] := List.eq_nil_of_length_eq_zero (by omega)
      subst this
      rfl
    | succ g =>
      unfold pLoop
      cases hk : num l with
      | none => rfl
      | some k =>
        have h1 := nx_lt (num_tok hk)
        have hall : ∀ m : List UInt8, m.length < l.length → ∀ n ns is, pLoop f m n ns is = pLoop g m n ns is := fun m hm n ns is => ih g m n ns is (by omega) (by omega)
        have hr : pRest (pLoop f) (nx l) (k : Int) = pRest (pLoop g) (nx l) (k : Int) := rest_fuel (fun m n ns is hm => hall m (by omega) n ns is) _
        have hfit := fit_rest (fit_loop g) (nx l) (k : Int) (by have := num_lt hk; unfold in64; omega)
        dsimp only
        rw [hr]
        split
        · generalize pRest (pLoop g) (nx l) (k : Int) = R at hfit
          obtain ⟨x, o, r⟩ := R
          have := hfit.suf.length_le
          dsimp only at this
          cases o
          · rfl
          · exact tail_fuel (fun m n ns is hm => hall m (by omega) n ns is) _ _ _
        · exact tail_fuel (fun m n ns is hm => hall m (by omega) n ns is) _ _ _
theorem top_fuel {f g : Nat} {l : List UInt8} (hf : l.length ≤ f) (hg : l.length ≤ g) : pTop f l = pTop g l := by
  unfold pTop
  cases hk : num l with
  | none => rfl
  | some k =>
    have h1 := nx_lt (num_tok hk)
    exact rest_fuel (fun m n ns is hm => loop_fuel f g m n ns is (by omega) (by omega)) _
end Go.Am

/-
The example of the chapter: the kernel runs it.
-/
namespace Go.Am
open Go Go.Proofs
theorem awake_run : R 8 [] [] = some (bl true, [], []) := (W_iff _ _ _ _).2 ⟨200, by kernel_rfl⟩
theorem s_awake03 : G_law03_awake = some true := of_law03_awake awake_run
end Go.Am

/-
How notation.Canonical runs, as a pure function.
-/
namespace Go.Am
open Go Go.Proofs
set_option linter.unusedVariables false
set_option linter.unusedSimpArgs false
set_option maxRecDepth 4000
set_option maxHeartbeats 4000000
noncomputable def B_notation_Canonical (p0 : (List UInt8)) : Option ((List UInt8) × Int) :=
  kb (G_notation_Parse p0) fun y1 =>
  cnd (decide (y1.2.2 = 0)) (
    kb (G_notation_write y1.1) fun y4 =>
    some (y4, 0)) (
    some (([] : List UInt8), y1.2.2))
theorem sim_notation_Canonical {p0 : (List UInt8)} {r : ((List UInt8) × Int)} (hB : B_notation_Canonical p0 = some r) : R 19 [(.pv (.str p0))] [] = some (.tup [(.pv (.str r.1)), (i64 r.2)], [], []) := by
  rw [R_eq _ _ _ fn_notation_Canonical]
  simp only [Code.fst, Code.snd, Tryd.f19, Option.getD_some]
  generalize hr1 : Code.region 1 _ _ = rr1
  generalize hr4 : Code.region 4 _ _ = rr4
  unfold B_notation_Canonical at hB
  obtain ⟨y1, k2, hB⟩ := kb_inv hB
  replace k2 := run_notation_Parse k2
  try simp only [Int.cast_ofNat_Int, Int.natCast_zero, List.length_cons, List.length_nil, List.nil_append, List.cons_append, Nat.zero_add, Nat.reduceAdd, Tru.thr_mk, Tru.nodes_mk, Tru.inner_mk, ints_cons, ints_nil, encTs_cons, encTs_nil, es_str_cons, es_str_nil] at k2
  try dsimp only at hB
  rcases cnd_inv hB with ⟨c3, hB⟩ | ⟨c3, hB⟩
  · have pc3 := eq_true (of_decide_eq_true c3)
    obtain ⟨y4, k5, hB⟩ := kb_inv hB
    replace k5 := run_notation_write k5
    try simp only [Int.cast_ofNat_Int, Int.natCast_zero, List.length_cons, List.length_nil, List.nil_append, List.cons_append, Nat.zero_add, Nat.reduceAdd, Tru.thr_mk, Tru.nodes_mk, Tru.inner_mk, ints_cons, ints_nil, encTs_cons, encTs_nil, es_str_cons, es_str_nil] at k5
    try dsimp only at hB
    obtain rfl := Option.some.inj hB
    subst hr1
    subst hr4
    simp -implicitDefEqProofs [-getElem?_pos, -Int.ofNat_lt, -Int.ofNat_le, -Int.natCast_eq_zero, -Int.natCast_pos, -List.length_eq_zero_iff, List.getElem?_cons_zero, List.getElem?_cons_succ, List.getElem?_nil, k2, c3, pc3, k5]
  · have pc3 := eq_false (of_decide_eq_false c3)
    obtain rfl := Option.some.inj hB
    subst hr1
    simp -implicitDefEqProofs [-getElem?_pos, -Int.ofNat_lt, -Int.ofNat_le, -Int.natCast_eq_zero, -Int.natCast_pos, -List.length_eq_zero_iff, List.getElem?_cons_zero, List.getElem?_cons_succ, List.getElem?_nil, k2, c3, pc3]
theorem g_notation_Canonical {p0 : (List UInt8)} {r : ((List UInt8) × Int)} (hB : B_notation_Canonical p0 = some r) : G_notation_Canonical p0 = some r := dec_of (fun a b h => by rcases a with ⟨a0_, a1_⟩; rcases b with ⟨b0_, b1_⟩; simp at h; simp [*]) (sim_notation_Canonical hB)
end Go.Am

/-
How trustquorumlaw03.blanks runs, as a pure function.
-/
namespace Go.Am
open Go Go.Proofs
set_option linter.unusedVariables false
set_option linter.unusedSimpArgs false
set_option maxRecDepth 4000
set_option maxHeartbeats 4000000
noncomputable def B_law03_blanks_0 (pba0_0_0 : (List Int)) (pba0_1_0 : Int) (p1 : (List UInt8)) (p5_0 : (List UInt8)) (p6_0 : Int) (p7_0 : (List UInt8)) : Option ((List Int) × Int × Bool) :=
  cnd (p7_0 == ([40] : List UInt8)) (
    kb (G_make_Tape_N (S_trustquorummake_Tape.mk pba0_0_0 pba0_1_0) 2) fun y5 =>
    some (y5.2.f0, y5.2.f1, (decide (y5.1 = 1)))) (
    cnd (p7_0 == ([41] : List UInt8)) (
      kb (G_make_Tape_N (S_trustquorummake_Tape.mk pba0_0_0 pba0_1_0) 2) fun y8 =>
      some (y8.2.f0, y8.2.f1, (decide (y8.1 = 1)))) (
      cnd (p7_0 == ([44] : List UInt8)) (
        kb (G_make_Tape_N (S_trustquorummake_Tape.mk pba0_0_0 pba0_1_0) 2) fun y11 =>
        some (y11.2.f0, y11.2.f1, (decide (y11.1 = 1)))) (
        cnd (p7_0 == ([111] : List UInt8)) (
          kb (G_make_Tape_N (S_trustquorummake_Tape.mk pba0_0_0 pba0_1_0) 2) fun y14 =>
          some (y14.2.f0, y14.2.f1, (decide (y14.1 = 1)))) (
          some (pba0_0_0, pba0_1_0, false)))))
def J_law03_blanks_0 (pba0_0_0 : (List Int)) (pba0_1_0 : Int) (p1 : (List UInt8)) (p5_0 : (List UInt8)) (p6_0 : Int) (p7_0 : (List UInt8)) (q : St) : Prop := q (.t 1) = (.pv (.str p1)) ∧ q (.t 5) = (.pv (.str p5_0)) ∧ q (.t 6) = (i64 p6_0) ∧ q (.t 7) = (.pv (.str p7_0)) ∧ (q (.t 0) = .ptr (.arg 0) 0 0 ∧ q (.i (.arg 0)) = .box 0 [(.pv (.sl pba0_0_0.length (ints pba0_0_0))), (i64 pba0_1_0)])
def Q_law03_blanks_0 (pba0_0_0 : (List Int)) (pba0_1_0 : Int) (p1 : (List UInt8)) (p5_0 : (List UInt8)) (p6_0 : Int) (p7_0 : (List UInt8)) (oba0_0_0 : (List Int)) (oba0_1_0 : Int) (o37_0 : Bool) (q : St) : Prop := q (.t 1) = (.pv (.str p1)) ∧ q (.t 37) = (bl o37_0) ∧ q (.t 5) = (.pv (.str p5_0)) ∧ q (.t 6) = (i64 p6_0) ∧ q (.t 7) = (.pv (.str p7_0)) ∧ (q (.t 0) = .ptr (.arg 0) 0 0 ∧ q (.i (.arg 0)) = .box 0 [(.pv (.sl oba0_0_0.length (ints oba0_0_0))), (i64 oba0_1_0)])
theorem P_law03_blanks_0 {pba0_0_0 : (List Int)} {pba0_1_0 : Int} {p1 : (List UInt8)} {p5_0 : (List UInt8)} {p6_0 : Int} {p7_0 : (List UInt8)} {cc : Code} (hcc : cc = (Code.fst (Code.fst (Code.snd (Code.fst (Code.fst (Code.snd (Code.fst (Code.fst (Code.snd (Code.fst (Code.snd (Code.snd ((Tryd.f18.body).getD .skip)))))))))))))) {s : St} {z : Option (Ex × St)} (hz : C Tryd.prog cf cc s = z) {r : ((List Int) × Int × Bool)} (hI : J_law03_blanks_0 pba0_0_0 pba0_1_0 p1 p5_0 p6_0 p7_0 s) (hB : B_law03_blanks_0 pba0_0_0 pba0_1_0 p1 p5_0 p6_0 p7_0 = some r) : Res z (postG (fun a q => Q_law03_blanks_0 pba0_0_0 pba0_1_0 p1 p5_0 p6_0 p7_0 a.1 a.2.1 a.2.2 q) r) := by
  subst hcc
  subst hz
  simp only [J_law03_blanks_0] at hI
  obtain ⟨q1, q2, q3, q4, ⟨q5, q6⟩⟩ := hI
  simp only [Code.fst, Code.snd, Tryd.f18, Option.getD_some]
  unfold B_law03_blanks_0 at hB
  rcases cnd_inv hB with ⟨c4, hB⟩ | ⟨c4, hB⟩
  · obtain ⟨y5, k6, hB⟩ := kb_inv hB
    replace k6 := run_make_Tape_N k6
    try simp only [Int.cast_ofNat_Int, Int.natCast_zero, List.length_cons, List.length_nil, List.nil_append, List.cons_append, Nat.zero_add, Nat.reduceAdd, Tru.thr_mk, Tru.nodes_mk, Tru.inner_mk, ints_cons, ints_nil, encTs_cons, encTs_nil, es_str_cons, es_str_nil] at k6
    try dsimp only at hB
    obtain rfl := Option.some.inj hB
    try simp -implicitDefEqProofs [-getElem?_pos, -Int.ofNat_lt, -Int.ofNat_le, -Int.natCast_eq_zero, -Int.natCast_pos, -List.length_eq_zero_iff, List.getElem?_cons_zero, List.getElem?_cons_succ, List.getElem?_nil, q1, q2, q3, q4, q5, q6, c4, k6]
    refine Res.g ?_
    simp -implicitDefEqProofs [-getElem?_pos, -Int.ofNat_lt, -Int.ofNat_le, -Int.natCast_eq_zero, -Int.natCast_pos, -List.length_eq_zero_iff, List.getElem?_cons_zero, List.getElem?_cons_succ, List.getElem?_nil, and_assoc, Q_law03_blanks_0, ownAt, q1, q2, q3, q4, q5, q6, c4, k6]
  · rcases cnd_inv hB with ⟨c7, hB⟩ | ⟨c7, hB⟩
    · obtain ⟨y8, k9, hB⟩ := kb_inv hB
      replace k9 := run_make_Tape_N k9
      try simp only [Int.cast_ofNat_Int, Int.natCast_zero, List.length_cons, List.length_nil, List.nil_append, List.cons_append, Nat.zero_add, Nat.reduceAdd, Tru.thr_mk, Tru.nodes_mk, Tru.inner_mk, ints_cons, ints_nil, encTs_cons, encTs_nil, es_str_cons, es_str_nil] at k9
      try dsimp only at hB
      obtain rfl := Option.some.inj hB
      try simp -implicitDefEqProofs [-getElem?_pos, -Int.ofNat_lt, -Int.ofNat_le, -Int.natCast_eq_zero, -Int.natCast_pos, -List.length_eq_zero_iff, List.getElem?_cons_zero, List.getElem?_cons_succ, List.getElem?_nil, q1, q2, q3, q4, q5, q6, c4, c7, k9]
      refine Res.g ?_
      simp -implicitDefEqProofs [-getElem?_pos, -Int.ofNat_lt, -Int.ofNat_le, -Int.natCast_eq_zero, -Int.natCast_pos, -List.length_eq_zero_iff, List.getElem?_cons_zero, List.getElem?_cons_succ, List.getElem?_nil, and_assoc, Q_law03_blanks_0, ownAt, q1, q2, q3, q4, q5, q6, c4, c7, k9]
    · rcases cnd_inv hB with ⟨c10, hB⟩ | ⟨c10, hB⟩
      · obtain ⟨y11, k12, hB⟩ := kb_inv hB
        replace k12 := run_make_Tape_N k12
        try simp only [Int.cast_ofNat_Int, Int.natCast_zero, List.length_cons, List.length_nil, List.nil_append, List.cons_append, Nat.zero_add, Nat.reduceAdd, Tru.thr_mk, Tru.nodes_mk, Tru.inner_mk, ints_cons, ints_nil, encTs_cons, encTs_nil, es_str_cons, es_str_nil] at k12
        try dsimp only at hB
        obtain rfl := Option.some.inj hB
        try simp -implicitDefEqProofs [-getElem?_pos, -Int.ofNat_lt, -Int.ofNat_le, -Int.natCast_eq_zero, -Int.natCast_pos, -List.length_eq_zero_iff, List.getElem?_cons_zero, List.getElem?_cons_succ, List.getElem?_nil, q1, q2, q3, q4, q5, q6, c4, c7, c10, k12]
        refine Res.g ?_
        simp -implicitDefEqProofs [-getElem?_pos, -Int.ofNat_lt, -Int.ofNat_le, -Int.natCast_eq_zero, -Int.natCast_pos, -List.length_eq_zero_iff, List.getElem?_cons_zero, List.getElem?_cons_succ, List.getElem?_nil, and_assoc, Q_law03_blanks_0, ownAt, q1, q2, q3, q4, q5, q6, c4, c7, c10, k12]
      · rcases cnd_inv hB with ⟨c13, hB⟩ | ⟨c13, hB⟩
        · obtain ⟨y14, k15, hB⟩ := kb_inv hB
          replace k15 := run_make_Tape_N k15
          try simp only [Int.cast_ofNat_Int, Int.natCast_zero, List.length_cons, List.length_nil, List.nil_append, List.cons_append, Nat.zero_add, Nat.reduceAdd, Tru.thr_mk, Tru.nodes_mk, Tru.inner_mk, ints_cons, ints_nil, encTs_cons, encTs_nil, es_str_cons, es_str_nil] at k15
          try dsimp only at hB
          obtain rfl := Option.some.inj hB
          try simp -implicitDefEqProofs [-getElem?_pos, -Int.ofNat_lt, -Int.ofNat_le, -Int.natCast_eq_zero, -Int.natCast_pos, -List.length_eq_zero_iff, List.getElem?_cons_zero, List.getElem?_cons_succ, List.getElem?_nil, q1, q2, q3, q4, q5, q6, c4, c7, c10, c13, k15]
          refine Res.g ?_
          simp -implicitDefEqProofs [-getElem?_pos, -Int.ofNat_lt, -Int.ofNat_le, -Int.natCast_eq_zero, -Int.natCast_pos, -List.length_eq_zero_iff, List.getElem?_cons_zero, List.getElem?_cons_succ, List.getElem?_nil, and_assoc, Q_law03_blanks_0, ownAt, q1, q2, q3, q4, q5, q6, c4, c7, c10, c13, k15]
        · obtain rfl := Option.some.inj hB
          try simp -implicitDefEqProofs [-getElem?_pos, -Int.ofNat_lt, -Int.ofNat_le, -Int.natCast_eq_zero, -Int.natCast_pos, -List.length_eq_zero_iff, List.getElem?_cons_zero, List.getElem?_cons_succ, List.getElem?_nil, q1, q2, q3, q4, q5, q6, c4, c7, c10, c13]
          refine Res.g ?_
          simp -implicitDefEqProofs [-getElem?_pos, -Int.ofNat_lt, -Int.ofNat_le, -Int.natCast_eq_zero, -Int.natCast_pos, -List.length_eq_zero_iff, List.getElem?_cons_zero, List.getElem?_cons_succ, List.getElem?_nil, and_assoc, Q_law03_blanks_0, ownAt, q1, q2, q3, q4, q5, q6, c4, c7, c10, c13]
noncomputable def B_law03_blanks_1 (pba0_0_1 : (List Int)) (pba0_1_1 : Int) (p1 : (List UInt8)) (p37_1 : Bool) (p5_1 : (List UInt8)) (p6_1 : Int) (p7_1 : (List UInt8)) : Option (List UInt8) :=
  cnd p37_1 (
    kb (catK p5_1 ([32, 32] : List UInt8)) fun S19 =>
    some S19) (
    some p5_1)
def J_law03_blanks_1 (pba0_0_1 : (List Int)) (pba0_1_1 : Int) (p1 : (List UInt8)) (p37_1 : Bool) (p5_1 : (List UInt8)) (p6_1 : Int) (p7_1 : (List UInt8)) (q : St) : Prop := q (.t 1) = (.pv (.str p1)) ∧ q (.t 37) = (bl p37_1) ∧ q (.t 5) = (.pv (.str p5_1)) ∧ q (.t 6) = (i64 p6_1) ∧ q (.t 7) = (.pv (.str p7_1)) ∧ (q (.t 0) = .ptr (.arg 0) 0 0 ∧ q (.i (.arg 0)) = .box 0 [(.pv (.sl pba0_0_1.length (ints pba0_0_1))), (i64 pba0_1_1)])
def Q_law03_blanks_1 (pba0_0_1 : (List Int)) (pba0_1_1 : Int) (p1 : (List UInt8)) (p37_1 : Bool) (p5_1 : (List UInt8)) (p6_1 : Int) (p7_1 : (List UInt8)) (o5_1 : (List UInt8)) (q : St) : Prop := q (.t 1) = (.pv (.str p1)) ∧ q (.t 5) = (.pv (.str o5_1)) ∧ q (.t 6) = (i64 p6_1) ∧ q (.t 7) = (.pv (.str p7_1)) ∧ (q (.t 0) = .ptr (.arg 0) 0 0 ∧ q (.i (.arg 0)) = .box 0 [(.pv (.sl pba0_0_1.length (ints pba0_0_1))), (i64 pba0_1_1)])
theorem P_law03_blanks_1 {pba0_0_1 : (List Int)} {pba0_1_1 : Int} {p1 : (List UInt8)} {p37_1 : Bool} {p5_1 : (List UInt8)} {p6_1 : Int} {p7_1 : (List UInt8)} {cc : Code} (hcc : cc = (Code.snd (Code.fst (Code.snd (Code.fst (Code.fst (Code.snd (Code.fst (Code.fst (Code.snd (Code.fst (Code.snd (Code.snd ((Tryd.f18.body).getD .skip)))))))))))))) {s : St} {z : Option (Ex × St)} (hz : C Tryd.prog cf cc s = z) {r : (List UInt8)} (hI : J_law03_blanks_1 pba0_0_1 pba0_1_1 p1 p37_1 p5_1 p6_1 p7_1 s) (hB : B_law03_blanks_1 pba0_0_1 pba0_1_1 p1 p37_1 p5_1 p6_1 p7_1 = some r) : Res z (postG (fun a q => Q_law03_blanks_1 pba0_0_1 pba0_1_1 p1 p37_1 p5_1 p6_1 p7_1 a q) r) := by
  subst hcc
  subst hz
  simp only [J_law03_blanks_1] at hI
  obtain ⟨q1, q2, q3, q4, q5, ⟨q6, q7⟩⟩ := hI
  simp only [Code.fst, Code.snd, Tryd.f18, Option.getD_some]
  unfold B_law03_blanks_1 at hB
  rcases cnd_inv hB with ⟨c17, hB⟩ | ⟨c17, hB⟩
  · obtain ⟨S19, n18, hB⟩ := kb_inv hB
    obtain ⟨n18a, n18b⟩ := catK_inv n18
    try simp only [List.length_cons, List.length_nil, Nat.zero_add, Nat.reduceAdd] at n18a
    try simp only [List.cons_append, List.nil_append] at n18b
    try dsimp only at hB
    obtain rfl := Option.some.inj hB
    try simp -implicitDefEqProofs [-getElem?_pos, -Int.ofNat_lt, -Int.ofNat_le, -Int.natCast_eq_zero, -Int.natCast_pos, -List.length_eq_zero_iff, List.getElem?_cons_zero, List.getElem?_cons_succ, List.getElem?_nil, q1, q2, q3, q4, q5, q6, q7, c17, n18a, n18b]
    refine Res.g ?_
    simp -implicitDefEqProofs [-getElem?_pos, -Int.ofNat_lt, -Int.ofNat_le, -Int.natCast_eq_zero, -Int.natCast_pos, -List.length_eq_zero_iff, List.getElem?_cons_zero, List.getElem?_cons_succ, List.getElem?_nil, and_assoc, Q_law03_blanks_1, ownAt, q1, q2, q3, q4, q5, q6, q7, c17, n18a, n18b]
  · obtain rfl := Option.some.inj hB
    try simp -implicitDefEqProofs [-getElem?_pos, -Int.ofNat_lt, -Int.ofNat_le, -Int.natCast_eq_zero, -Int.natCast_pos, -List.length_eq_zero_iff, List.getElem?_cons_zero, List.getElem?_cons_succ, List.getElem?_nil, q1, q2, q3, q4, q5, q6, q7, c17]
    refine Res.g ?_
    simp -implicitDefEqProofs [-getElem?_pos, -Int.ofNat_lt, -Int.ofNat_le, -Int.natCast_eq_zero, -Int.natCast_pos, -List.length_eq_zero_iff, List.getElem?_cons_zero, List.getElem?_cons_succ, List.getElem?_nil, and_assoc, Q_law03_blanks_1, ownAt, q1, q2, q3, q4, q5, q6, q7, c17]
noncomputable def B_law03_blanks_2 (pba0_0_2 : (List Int)) (pba0_1_2 : Int) (p1 : (List UInt8)) (p5_2 : (List UInt8)) (p6_2 : Int) (p7_2 : (List UInt8)) : Option ((List Int) × Int × Bool) :=
  cnd (p7_2 == ([40] : List UInt8)) (
    kb (G_make_Tape_N (S_trustquorummake_Tape.mk pba0_0_2 pba0_1_2) 3) fun y24 =>
    some (y24.2.f0, y24.2.f1, (decide (y24.1 = 1)))) (
    cnd (p7_2 == ([41] : List UInt8)) (
      kb (G_make_Tape_N (S_trustquorummake_Tape.mk pba0_0_2 pba0_1_2) 3) fun y27 =>
      some (y27.2.f0, y27.2.f1, (decide (y27.1 = 1)))) (
      cnd (p7_2 == ([44] : List UInt8)) (
        kb (G_make_Tape_N (S_trustquorummake_Tape.mk pba0_0_2 pba0_1_2) 3) fun y30 =>
        some (y30.2.f0, y30.2.f1, (decide (y30.1 = 1)))) (
        cnd (p7_2 == ([102] : List UInt8)) (
          kb (G_make_Tape_N (S_trustquorummake_Tape.mk pba0_0_2 pba0_1_2) 3) fun y33 =>
          some (y33.2.f0, y33.2.f1, (decide (y33.1 = 1)))) (
          some (pba0_0_2, pba0_1_2, false)))))
def J_law03_blanks_2 (pba0_0_2 : (List Int)) (pba0_1_2 : Int) (p1 : (List UInt8)) (p5_2 : (List UInt8)) (p6_2 : Int) (p7_2 : (List UInt8)) (q : St) : Prop := q (.t 1) = (.pv (.str p1)) ∧ q (.t 5) = (.pv (.str p5_2)) ∧ q (.t 6) = (i64 p6_2) ∧ q (.t 7) = (.pv (.str p7_2)) ∧ (q (.t 0) = .ptr (.arg 0) 0 0 ∧ q (.i (.arg 0)) = .box 0 [(.pv (.sl pba0_0_2.length (ints pba0_0_2))), (i64 pba0_1_2)])
def Q_law03_blanks_2 (pba0_0_2 : (List Int)) (pba0_1_2 : Int) (p1 : (List UInt8)) (p5_2 : (List UInt8)) (p6_2 : Int) (p7_2 : (List UInt8)) (oba0_0_2 : (List Int)) (oba0_1_2 : Int) (o61_2 : Bool) (q : St) : Prop := q (.t 1) = (.pv (.str p1)) ∧ q (.t 5) = (.pv (.str p5_2)) ∧ q (.t 6) = (i64 p6_2) ∧ q (.t 61) = (bl o61_2) ∧ (q (.t 0) = .ptr (.arg 0) 0 0 ∧ q (.i (.arg 0)) = .box 0 [(.pv (.sl oba0_0_2.length (ints oba0_0_2))), (i64 oba0_1_2)])
theorem P_law03_blanks_2 {pba0_0_2 : (List Int)} {pba0_1_2 : Int} {p1 : (List UInt8)} {p5_2 : (List UInt8)} {p6_2 : Int} {p7_2 : (List UInt8)} {cc : Code} (hcc : cc = (Code.fst (Code.snd (Code.snd (Code.snd (Code.fst (Code.fst (Code.snd (Code.fst (Code.fst (Code.snd (Code.fst (Code.snd (Code.snd ((Tryd.f18.body).getD .skip))))))))))))))) {s : St} {z : Option (Ex × St)} (hz : C Tryd.prog cf cc s = z) {r : ((List Int) × Int × Bool)} (hI : J_law03_blanks_2 pba0_0_2 pba0_1_2 p1 p5_2 p6_2 p7_2 s) (hB : B_law03_blanks_2 pba0_0_2 pba0_1_2 p1 p5_2 p6_2 p7_2 = some r) : Res z (postG (fun a q => Q_law03_blanks_2 pba0_0_2 pba0_1_2 p1 p5_2 p6_2 p7_2 a.1 a.2.1 a.2.2 q) r) := by
  subst hcc
  subst hz
  simp only [J_law03_blanks_2] at hI
  obtain ⟨q1, q2, q3, q4, ⟨q5, q6⟩⟩ := hI
  simp only [Code.fst, Code.snd, Tryd.f18, Option.getD_some]
  unfold B_law03_blanks_2 at hB
  rcases cnd_inv hB with ⟨c23, hB⟩ | ⟨c23, hB⟩
  · obtain ⟨y24, k25, hB⟩ := kb_inv hB
    replace k25 := run_make_Tape_N k25
    try simp only [Int.cast_ofNat_Int, Int.natCast_zero, List.length_cons, List.length_nil, List.nil_append, List.cons_append, Nat.zero_add, Nat.reduceAdd, Tru.thr_mk, Tru.nodes_mk, Tru.inner_mk, ints_cons, ints_nil, encTs_cons, encTs_nil, es_str_cons, es_str_nil] at k25
    try dsimp only at hB
    obtain rfl := Option.some.inj hB
    try simp -implicitDefEqProofs [-getElem?_pos, -Int.ofNat_lt, -Int.ofNat_le, -Int.natCast_eq_zero, -Int.natCast_pos, -List.length_eq_zero_iff, List.getElem?_cons_zero, List.getElem?_cons_succ, List.getElem?_nil, q1, q2, q3, q4, q5, q6, c23, k25]
    refine Res.g ?_
    simp -implicitDefEqProofs [-getElem?_pos, -Int.ofNat_lt, -Int.ofNat_le, -Int.natCast_eq_zero, -Int.natCast_pos, -List.length_eq_zero_iff, List.getElem?_cons_zero, List.getElem?_cons_succ, List.getElem?_nil, and_assoc, Q_law03_blanks_2, ownAt, q1, q2, q3, q4, q5, q6, c23, k25]
  · rcases cnd_inv hB with ⟨c26, hB⟩ | ⟨c26, hB⟩
    · obtain ⟨y27, k28, hB⟩ := kb_inv hB
      replace k28 := run_make_Tape_N k28
      try simp only [Int.cast_ofNat_Int, Int.natCast_zero, List.length_cons, List.length_nil, List.nil_append, List.cons_append, Nat.zero_add, Nat.reduceAdd, Tru.thr_mk, Tru.nodes_mk, Tru.inner_mk, ints_cons, ints_nil, encTs_cons, encTs_nil, es_str_cons, es_str_nil] at k28
      try dsimp only at hB
      obtain rfl := Option.some.inj hB
      try simp -implicitDefEqProofs [-getElem?_pos, -Int.ofNat_lt, -Int.ofNat_le, -Int.natCast_eq_zero, -Int.natCast_pos, -List.length_eq_zero_iff, List.getElem?_cons_zero, List.getElem?_cons_succ, List.getElem?_nil, q1, q2, q3, q4, q5, q6, c23, c26, k28]
      refine Res.g ?_
      simp -implicitDefEqProofs [-getElem?_pos, -Int.ofNat_lt, -Int.ofNat_le, -Int.natCast_eq_zero, -Int.natCast_pos, -List.length_eq_zero_iff, List.getElem?_cons_zero, List.getElem?_cons_succ, List.getElem?_nil, and_assoc, Q_law03_blanks_2, ownAt, q1, q2, q3, q4, q5, q6, c23, c26, k28]
    · rcases cnd_inv hB with ⟨c29, hB⟩ | ⟨c29, hB⟩
      · obtain ⟨y30, k31, hB⟩ := kb_inv hB
        replace k31 := run_make_Tape_N k31
        try simp only [Int.cast_ofNat_Int, Int.natCast_zero, List.length_cons, List.length_nil, List.nil_append, List.cons_append, Nat.zero_add, Nat.reduceAdd, Tru.thr_mk, Tru.nodes_mk, Tru.inner_mk, ints_cons, ints_nil, encTs_cons, encTs_nil, es_str_cons, es_str_nil] at k31
        try dsimp only at hB
        obtain rfl := Option.some.inj hB
        try simp -implicitDefEqProofs [-getElem?_pos, -Int.ofNat_lt, -Int.ofNat_le, -Int.natCast_eq_zero, -Int.natCast_pos, -List.length_eq_zero_iff, List.getElem?_cons_zero, List.getElem?_cons_succ, List.getElem?_nil, q1, q2, q3, q4, q5, q6, c23, c26, c29, k31]
        refine Res.g ?_
        simp -implicitDefEqProofs [-getElem?_pos, -Int.ofNat_lt, -Int.ofNat_le, -Int.natCast_eq_zero, -Int.natCast_pos, -List.length_eq_zero_iff, List.getElem?_cons_zero, List.getElem?_cons_succ, List.getElem?_nil, and_assoc, Q_law03_blanks_2, ownAt, q1, q2, q3, q4, q5, q6, c23, c26, c29, k31]
      · rcases cnd_inv hB with ⟨c32, hB⟩ | ⟨c32, hB⟩
        · obtain ⟨y33, k34, hB⟩ := kb_inv hB
          replace k34 := run_make_Tape_N k34
          try simp only [Int.cast_ofNat_Int, Int.natCast_zero, List.length_cons, List.length_nil, List.nil_append, List.cons_append, Nat.zero_add, Nat.reduceAdd, Tru.thr_mk, Tru.nodes_mk, Tru.inner_mk, ints_cons, ints_nil, encTs_cons, encTs_nil, es_str_cons, es_str_nil] at k34
          try dsimp only at hB
          obtain rfl := Option.some.inj hB
          try simp -implicitDefEqProofs [-getElem?_pos, -Int.ofNat_lt, -Int.ofNat_le, -Int.natCast_eq_zero, -Int.natCast_pos, -List.length_eq_zero_iff, List.getElem?_cons_zero, List.getElem?_cons_succ, List.getElem?_nil, q1, q2, q3, q4, q5, q6, c23, c26, c29, c32, k34]
          refine Res.g ?_
          simp -implicitDefEqProofs [-getElem?_pos, -Int.ofNat_lt, -Int.ofNat_le, -Int.natCast_eq_zero, -Int.natCast_pos, -List.length_eq_zero_iff, List.getElem?_cons_zero, List.getElem?_cons_succ, List.getElem?_nil, and_assoc, Q_law03_blanks_2, ownAt, q1, q2, q3, q4, q5, q6, c23, c26, c29, c32, k34]
        · obtain rfl := Option.some.inj hB
          try simp -implicitDefEqProofs [-getElem?_pos, -Int.ofNat_lt, -Int.ofNat_le, -Int.natCast_eq_zero, -Int.natCast_pos, -List.length_eq_zero_iff, List.getElem?_cons_zero, List.getElem?_cons_succ, List.getElem?_nil, q1, q2, q3, q4, q5, q6, c23, c26, c29, c32]
          refine Res.g ?_
          simp -implicitDefEqProofs [-getElem?_pos, -Int.ofNat_lt, -Int.ofNat_le, -Int.natCast_eq_zero, -Int.natCast_pos, -List.length_eq_zero_iff, List.getElem?_cons_zero, List.getElem?_cons_succ, List.getElem?_nil, and_assoc, Q_law03_blanks_2, ownAt, q1, q2, q3, q4, q5, q6, c23, c26, c29, c32]
noncomputable def B_law03_blanks_3 (p1 : (List UInt8)) (xba0_0_3 : (List Int)) (xba0_1_3 : Int) (x5_3 : (List UInt8)) (x6_3 : Int) : Option (Stp ((List Int) × Int × (List UInt8) × Int) Unit) :=
  cnd (decide (x6_3 < (p1.length : Int))) (
    kb (partK p1 x6_3 (add64 x6_3 1)) fun L2 =>
    kb (B_law03_blanks_0 xba0_0_3 xba0_1_3 p1 x5_3 x6_3 L2) fun z16 =>
    kb (B_law03_blanks_1 z16.1 z16.2.1 p1 z16.2.2 x5_3 x6_3 L2) fun z20 =>
    kb (catK z20 L2) fun S22 =>
    kb (B_law03_blanks_2 z16.1 z16.2.1 p1 S22 x6_3 L2) fun z35 =>
    cnd z35.2.2 (
      kb (catK S22 ([32] : List UInt8)) fun S38 =>
      some (.go (z35.1, z35.2.1, S38, (add64 x6_3 1)))) (
      some (.go (z35.1, z35.2.1, S22, (add64 x6_3 1))))) (
    some (.ex 0 (xba0_0_3, xba0_1_3, x5_3, x6_3)))
def I_law03_blanks_3 (p1 : (List UInt8)) (xba0_0_3 : (List Int)) (xba0_1_3 : Int) (x5_3 : (List UInt8)) (x6_3 : Int) (q : St) : Prop := q (.t 1) = (.pv (.str p1)) ∧ q (.t 5) = (.pv (.str x5_3)) ∧ q (.t 6) = (i64 x6_3) ∧ (q (.t 0) = .ptr (.arg 0) 0 0 ∧ q (.i (.arg 0)) = .box 0 [(.pv (.sl xba0_0_3.length (ints xba0_0_3))), (i64 xba0_1_3)])
def Q_law03_blanks_3 (p1 : (List UInt8)) (xba0_0_3 : (List Int)) (xba0_1_3 : Int) (x5_3 : (List UInt8)) (x6_3 : Int) (q : St) : Prop := q (.t 5) = (.pv (.str x5_3)) ∧ (q (.i (.arg 0)) = .box 0 [(.pv (.sl xba0_0_3.length (ints xba0_0_3))), (i64 xba0_1_3)])
theorem Pb_law03_blanks_3 {p1 : (List UInt8)} {xba0_0_3 : (List Int)} {xba0_1_3 : Int} {x5_3 : (List UInt8)} {x6_3 : Int} {q : St} {r : (Stp ((List Int) × Int × (List UInt8) × Int) Unit)} (hI : I_law03_blanks_3 p1 xba0_0_3 xba0_1_3 x5_3 x6_3 q) (hB : B_law03_blanks_3 p1 xba0_0_3 xba0_1_3 x5_3 x6_3 = some r) : Res (C Tryd.prog cf (Code.fst (Code.fst (Code.snd (Code.fst (Code.snd (Code.snd ((Tryd.f18.body).getD .skip))))))) q) (postB 0 (fun a q => I_law03_blanks_3 p1 a.1 a.2.1 a.2.2.1 a.2.2.2 q) (fun a q => Q_law03_blanks_3 p1 a.1 a.2.1 a.2.2.1 a.2.2.2 q) (fun _ _ => False) r) := by
  simp only [I_law03_blanks_3] at hI
  obtain ⟨q1, q2, q3, ⟨q4, q5⟩⟩ := hI
  simp only [Code.fst, Code.snd, Tryd.f18, Option.getD_some]
  generalize hc0 : Code.region 6 _ _ = cc0
  generalize hc1 : Code.cond (Operand.tmp 37) _ _ = cc1
  generalize hc2 : Code.region 9 _ _ = cc2
  generalize hr3 : Code.region 3 _ _ = rr3
  generalize hr5 : Code.region 5 _ _ = rr5
  generalize hr8 : Code.region 8 _ _ = rr8
  unfold B_law03_blanks_3 at hB
  rcases cnd_inv hB with ⟨c1, hB⟩ | ⟨c1, hB⟩
  · have pc1 := eq_true (of_decide_eq_true c1)
    have nc1 := c1
    try simp only [List.length_nil, List.length_cons, Int.cast_ofNat_Int, Int.natCast_zero, Nat.zero_add, Nat.reduceAdd, Int.reduceLT, Int.reduceLE, Int.reduceEq, eq_self, decide_true, decide_false, Bool.true_eq_false, Bool.false_eq_true] at nc1
    all_goals
      obtain ⟨L2, sq3, hB⟩ := kb_inv hB
      obtain ⟨⟨sq3a, sq3b, sq3c⟩, sq3z, sq3d⟩ := partK_inv sq3
      obtain ⟨sq3e, sq3f⟩ := partK_lh_str sq3
      try simp only [Int.toNat_natCast, Int.reduceToNat] at sq3e
      try simp only [Int.toNat_natCast, Int.reduceToNat] at sq3f
      try dsimp only at hB
      subst hr3
      subst hr5
      try simp -implicitDefEqProofs [-getElem?_pos, -Int.ofNat_lt, -Int.ofNat_le, -Int.natCast_eq_zero, -Int.natCast_pos, -List.length_eq_zero_iff, List.getElem?_cons_zero, List.getElem?_cons_succ, List.getElem?_nil, q1, q2, q3, q4, q5, c1, pc1, nc1, sq3a, sq3e, sq3f]
      generalize hz0 : C Tryd.prog cf cc0 _ = z0
      obtain ⟨z16, hB1, hB⟩ := kb_inv hB
      have hJ := P_law03_blanks_0 (hc0.symm.trans (by kernel_rfl)) hz0 (by simp -implicitDefEqProofs [-getElem?_pos, -Int.ofNat_lt, -Int.ofNat_le, -Int.natCast_eq_zero, -Int.natCast_pos, -List.length_eq_zero_iff, List.getElem?_cons_zero, List.getElem?_cons_succ, List.getElem?_nil, and_assoc, J_law03_blanks_0, ownAt, q1, q2, q3, q4, q5, c1, pc1, nc1, sq3a, sq3e, sq3f]) hB1
      obtain ⟨e0, s0, rfl, hq⟩ := hJ.open
      clear hB1
      obtain ⟨rfl, hq⟩ := hq
      simp only [Q_law03_blanks_0] at hq
      obtain ⟨q16_1, q16_2, q16_3, q16_4, q16_5, ⟨q16_6, q16_7⟩⟩ := hq
      try simp -implicitDefEqProofs [-getElem?_pos, -Int.ofNat_lt, -Int.ofNat_le, -Int.natCast_eq_zero, -Int.natCast_pos, -List.length_eq_zero_iff, List.getElem?_cons_zero, List.getElem?_cons_succ, List.getElem?_nil, q16_1, q16_2, q16_3, q16_4, q16_5, q16_6, q16_7, c1, pc1, nc1, sq3a, sq3e, sq3f]
      generalize hz1 : C Tryd.prog cf cc1 _ = z1
      obtain ⟨z20, hB1, hB⟩ := kb_inv hB
      have hJ := P_law03_blanks_1 (hc1.symm.trans (by kernel_rfl)) hz1 (by simp -implicitDefEqProofs [-getElem?_pos, -Int.ofNat_lt, -Int.ofNat_le, -Int.natCast_eq_zero, -Int.natCast_pos, -List.length_eq_zero_iff, List.getElem?_cons_zero, List.getElem?_cons_succ, List.getElem?_nil, and_assoc, J_law03_blanks_1, ownAt, q16_1, q16_2, q16_3, q16_4, q16_5, q16_6, q16_7, c1, pc1, nc1, sq3a, sq3e, sq3f]) hB1
      obtain ⟨e1, s1, rfl, hq⟩ := hJ.open
      clear hB1
      obtain ⟨rfl, hq⟩ := hq
      simp only [Q_law03_blanks_1] at hq
      obtain ⟨q20_1, q20_2, q20_3, q20_4, ⟨q20_5, q20_6⟩⟩ := hq
      obtain ⟨S22, n21, hB⟩ := kb_inv hB
      obtain ⟨n21a, n21b⟩ := catK_inv n21
      try dsimp only at hB
      subst hr8
      try simp -implicitDefEqProofs [-getElem?_pos, -Int.ofNat_lt, -Int.ofNat_le, -Int.natCast_eq_zero, -Int.natCast_pos, -List.length_eq_zero_iff, List.getElem?_cons_zero, List.getElem?_cons_succ, List.getElem?_nil, q20_1, q20_2, q20_3, q20_4, q20_5, q20_6, c1, pc1, nc1, sq3a, sq3e, sq3f, n21a, n21b]
      generalize hz2 : C Tryd.prog cf cc2 _ = z2
      obtain ⟨z35, hB1, hB⟩ := kb_inv hB
      have hJ := P_law03_blanks_2 (hc2.symm.trans (by kernel_rfl)) hz2 (by simp -implicitDefEqProofs [-getElem?_pos, -Int.ofNat_lt, -Int.ofNat_le, -Int.natCast_eq_zero, -Int.natCast_pos, -List.length_eq_zero_iff, List.getElem?_cons_zero, List.getElem?_cons_succ, List.getElem?_nil, and_assoc, J_law03_blanks_2, ownAt, q20_1, q20_2, q20_3, q20_4, q20_5, q20_6, c1, pc1, nc1, sq3a, sq3e, sq3f, n21a, n21b]) hB1
      obtain ⟨e2, s2, rfl, hq⟩ := hJ.open
      clear hB1
      obtain ⟨rfl, hq⟩ := hq
      simp only [Q_law03_blanks_2] at hq
      obtain ⟨q35_1, q35_2, q35_3, q35_4, ⟨q35_5, q35_6⟩⟩ := hq
      rcases cnd_inv hB with ⟨c36, hB⟩ | ⟨c36, hB⟩
      · obtain ⟨S38, n37, hB⟩ := kb_inv hB
        obtain ⟨n37a, n37b⟩ := catK_inv n37
        try simp only [List.length_cons, List.length_nil, Nat.zero_add, Nat.reduceAdd] at n37a
        try simp only [List.cons_append, List.nil_append] at n37b
        try dsimp only at hB
        obtain rfl := Option.some.inj hB
        try simp -implicitDefEqProofs [-getElem?_pos, -Int.ofNat_lt, -Int.ofNat_le, -Int.natCast_eq_zero, -Int.natCast_pos, -List.length_eq_zero_iff, List.getElem?_cons_zero, List.getElem?_cons_succ, List.getElem?_nil, q35_1, q35_2, q35_3, q35_4, q35_5, q35_6, c1, pc1, nc1, sq3a, sq3e, sq3f, n21a, n21b, c36, n37a, n37b]
        refine Res.bgo ?_
        simp -implicitDefEqProofs [-getElem?_pos, -Int.ofNat_lt, -Int.ofNat_le, -Int.natCast_eq_zero, -Int.natCast_pos, -List.length_eq_zero_iff, List.getElem?_cons_zero, List.getElem?_cons_succ, List.getElem?_nil, and_assoc, I_law03_blanks_3, ownAt, q35_1, q35_2, q35_3, q35_4, q35_5, q35_6, c1, pc1, nc1, sq3a, sq3e, sq3f, n21a, n21b, c36, n37a, n37b]
      · obtain rfl := Option.some.inj hB
        try simp -implicitDefEqProofs [-getElem?_pos, -Int.ofNat_lt, -Int.ofNat_le, -Int.natCast_eq_zero, -Int.natCast_pos, -List.length_eq_zero_iff, List.getElem?_cons_zero, List.getElem?_cons_succ, List.getElem?_nil, q35_1, q35_2, q35_3, q35_4, q35_5, q35_6, c1, pc1, nc1, sq3a, sq3e, sq3f, n21a, n21b, c36]
        refine Res.bgo ?_
        simp -implicitDefEqProofs [-getElem?_pos, -Int.ofNat_lt, -Int.ofNat_le, -Int.natCast_eq_zero, -Int.natCast_pos, -List.length_eq_zero_iff, List.getElem?_cons_zero, List.getElem?_cons_succ, List.getElem?_nil, and_assoc, I_law03_blanks_3, ownAt, q35_1, q35_2, q35_3, q35_4, q35_5, q35_6, c1, pc1, nc1, sq3a, sq3e, sq3f, n21a, n21b, c36]
  · have pc1 := eq_false (of_decide_eq_false c1)
    have nc1 := c1
    try simp only [List.length_nil, List.length_cons, Int.cast_ofNat_Int, Int.natCast_zero, Nat.zero_add, Nat.reduceAdd, Int.reduceLT, Int.reduceLE, Int.reduceEq, eq_self, decide_true, decide_false, Bool.true_eq_false, Bool.false_eq_true] at nc1
    all_goals
      obtain rfl := Option.some.inj hB
      subst hr3
      try simp -implicitDefEqProofs [-getElem?_pos, -Int.ofNat_lt, -Int.ofNat_le, -Int.natCast_eq_zero, -Int.natCast_pos, -List.length_eq_zero_iff, List.getElem?_cons_zero, List.getElem?_cons_succ, List.getElem?_nil, q1, q2, q3, q4, q5, c1, pc1, nc1]
      refine Res.bex ?_
      simp -implicitDefEqProofs [-getElem?_pos, -Int.ofNat_lt, -Int.ofNat_le, -Int.natCast_eq_zero, -Int.natCast_pos, -List.length_eq_zero_iff, List.getElem?_cons_zero, List.getElem?_cons_succ, List.getElem?_nil, and_assoc, Q_law03_blanks_3, ownAt, q1, q2, q3, q4, q5, c1, pc1, nc1]
theorem P_law03_blanks_3 {p1 : (List UInt8)} {xba0_0_3 : (List Int)} {xba0_1_3 : Int} {x5_3 : (List UInt8)} {x6_3 : Int} {cc : Code} (hcc : cc = .block 0 (.loop (Code.fst (Code.fst (Code.snd (Code.fst (Code.snd (Code.snd ((Tryd.f18.body).getD .skip))))))))) {s : St} {z : Option (Ex × St)} (hz : C Tryd.prog cf cc s = z) {r : (Stp ((List Int) × Int × (List UInt8) × Int) Unit)} (hI : I_law03_blanks_3 p1 xba0_0_3 xba0_1_3 x5_3 x6_3 s) (hB : iterW (fun a => B_law03_blanks_3 p1 a.1 a.2.1 a.2.2.1 a.2.2.2) (xba0_0_3, xba0_1_3, x5_3, x6_3) = some r) : Res z (postS (fun a q => Q_law03_blanks_3 p1 a.1 a.2.1 a.2.2.1 a.2.2.2 q) (fun _ _ => False) r) := by
  subst hcc
  exact while_sim (I := fun a q => I_law03_blanks_3 p1 a.1 a.2.1 a.2.2.1 a.2.2.2 q) (Q := (fun a q => Q_law03_blanks_3 p1 a.1 a.2.1 a.2.2.1 a.2.2.2 q)) (QR := (fun _ _ => False)) (fun a q r h hB => Pb_law03_blanks_3 h hB) hI hz hB
noncomputable def B_law03_blanks (p0 : S_trustquorummake_Tape) (p1 : (List UInt8)) : Option ((List UInt8) × S_trustquorummake_Tape) :=
  kb (iterW (fun a => B_law03_blanks_3 p1 a.1 a.2.1 a.2.2.1 a.2.2.2) (p0.f0, p0.f1, ([] : List UInt8), 0)) fun o => stpK o (fun z39 =>
    some (z39.2.2.1, (S_trustquorummake_Tape.mk z39.1 z39.2.1))) (fun z39r =>
    none)
theorem sim_law03_blanks {p0 : S_trustquorummake_Tape} {p1 : (List UInt8)} {r : ((List UInt8) × S_trustquorummake_Tape)} (hB : B_law03_blanks p0 p1 = some r) : R 18 [.ptr (.arg 0) 0 0, (.pv (.str p1))] [.box 0 [(.pv (.sl p0.f0.length (ints p0.f0))), (i64 p0.f1)]] = some ((.pv (.str r.1)), [.box 0 [(.pv (.sl r.2.f0.length (ints r.2.f0))), (i64 r.2.f1)]], []) := by
  rw [R_eq _ _ _ fn_law03_blanks]
  simp only [Code.fst, Code.snd, Tryd.f18, Option.getD_some]
  generalize hc3 : Code.block 0 _ = cc3
  unfold B_law03_blanks at hB
  try simp -implicitDefEqProofs [-getElem?_pos, -Int.ofNat_lt, -Int.ofNat_le, -Int.natCast_eq_zero, -Int.natCast_pos, -List.length_eq_zero_iff, List.getElem?_cons_zero, List.getElem?_cons_succ, List.getElem?_nil]
  generalize hz3 : C Tryd.prog cf cc3 _ = z3
  obtain ⟨o, hB1, hB⟩ := kb_inv hB
  have hJ := P_law03_blanks_3 (hc3.symm.trans (by kernel_rfl)) hz3 (by simp -implicitDefEqProofs [-getElem?_pos, -Int.ofNat_lt, -Int.ofNat_le, -Int.natCast_eq_zero, -Int.natCast_pos, -List.length_eq_zero_iff, List.getElem?_cons_zero, List.getElem?_cons_succ, List.getElem?_nil, and_assoc, I_law03_blanks_3, ownAt]) hB1
  obtain ⟨e3, s3, rfl, hq⟩ := hJ.open
  clear hB1
  rcases o with z39 | ⟨_, _⟩ | z39r
  · simp only [stpK_go] at hB
    obtain ⟨rfl, hq⟩ := hq
    simp only [Q_law03_blanks_3] at hq
    obtain ⟨q39_1, q39_2⟩ := hq
    obtain rfl := Option.some.inj hB
    simp -implicitDefEqProofs [-getElem?_pos, -Int.ofNat_lt, -Int.ofNat_le, -Int.natCast_eq_zero, -Int.natCast_pos, -List.length_eq_zero_iff, List.getElem?_cons_zero, List.getElem?_cons_succ, List.getElem?_nil, q39_1, q39_2]
  · exact hq.elim
  · cases hB
theorem g_law03_blanks {p0 : S_trustquorummake_Tape} {p1 : (List UInt8)} {r : ((List UInt8) × S_trustquorummake_Tape)} (hB : B_law03_blanks p0 p1 = some r) : G_law03_blanks p0 p1 = some r := dec_of (fun a b h => by rcases a with ⟨a0_, ⟨a1_0, a1_1⟩⟩; rcases b with ⟨b0_, ⟨b1_0, b1_1⟩⟩; simp at h; simp [*]) (sim_law03_blanks hB)
end Go.Am

/-
Reading and writing trusts: what Text, Canonical and the law's blanks answer.
-/
namespace Go.Am
open Go
set_option linter.unusedVariables false
set_option linter.unusedSimpArgs false

theorem val_good {x : Tru} (h : valB x = true) : good x = true ∧ x.size ≤ 200 := by
  unfold valB at h
  rw [Bool.and_eq_true, Bool.and_eq_true, decide_eq_true_eq] at h
  exact ⟨h.2.2, by simpa using h.2.1⟩
theorem val_dec3 {x : Tru} (h : valB x = true) : dec3 x := good_dec3 x (val_good h).1 (by have := (val_good h).2; omega)
theorem val_full {x : Tru} (h : valB x = true) : full x := good_full x (val_good h).1
theorem val_len {x : Tru} (h : valB x = true) : (txtT x).length ≤ 2300 := by
  have := txt_len x
  have := (val_good h).2
  omega
/-- the text of a trust, a question mark for what is no trust -/
def textV (x : Tru) : List UInt8 := if valE x = 0 then txtT x else [63]
theorem s_notation_Text {x : Tru} (h : x.Fine) : G_notation_Text x = some (textV x) := by
  refine g_notation_Text ?_
  unfold B_notation_Text textV
  rw [s_threshold_Valid h, kb_some]
  by_cases c : valE x = 0
  · simp only [c, decide_true, cnd_true, if_true]
    rw [s_write _ (val_dec3 ((valE_ok h).1 c)) h, kb_some]
  · simp only [c, decide_false, cnd_false, if_false]
theorem s_ref03_Text {x : Tru} (h : x.Fine) : G_ref03_Text x = some (textV x) := by
  refine g_ref03_Text ?_
  unfold B_ref03_Text textV
  rw [s_ref02_ValidE h, kb_some]
  by_cases c : valE x = 0
  · simp only [c, decide_true, cnd_true, if_true]
    rw [s_ref03_text _ (val_dec3 ((valE_ok h).1 c)) h, kb_some]
  · simp only [c, decide_false, cnd_false, if_false]
theorem parse_ok {text : List UInt8} (h : (parseV text).2.2 = 0) : valB (parseV text).1 = true ∧ (parseV text).1.Fine := by
  unfold parseV at h ⊢
  split at h
  · cases h
  · rename_i hl
    have hfit := fit_top text.length (skipB text)
    have hs := (skipB_suf text).length_le
    have hsz := hfit.size
    rw [if_neg hl]
    split at h
    · rename_i hc
      rw [if_pos hc]
      split at h
      · rename_i hv
        rw [if_pos hv]
        have hf : (pTop text.length (skipB text)).1.Fine := ⟨by rw [hc.2] at hsz; simp at hsz; omega, hfit.ok⟩
        exact ⟨(valE_ok hf).1 hv, hf⟩
      · rename_i hv
        exact absurd h hv
    · cases h
def canonV (text : List UInt8) : List UInt8 × Int := if (parseV text).2.2 = 0 then (txtT (parseV text).1, 0) else ([], (parseV text).2.2)
theorem s_Canonical (text : List UInt8) : G_notation_Canonical text = some (canonV text) := by
  refine g_notation_Canonical ?_
  unfold B_notation_Canonical canonV
  rw [s_Parse, kb_some]
  by_cases c : (parseV text).2.2 = 0
  · obtain ⟨h1, h2⟩ := parse_ok c
    simp only [c, decide_true, cnd_true, if_true]
    rw [s_write _ (val_dec3 h1) h2, kb_some]
  · simp only [c, decide_false, cnd_false, if_false]
theorem parse_of_top {text : List UInt8} {x : Tru} (hl : text.length ≤ 6000) (hv : valB x = true) (hf : x.Fine) (h : pTop text.length (skipB text) = (x, true, [])) : parseV text = (x, 0, 0) := by
  unfold parseV
  rw [if_neg (by omega), h, if_pos ⟨rfl, rfl⟩]
  dsimp only
  rw [if_pos ((valE_ok hf).2 hv)]
theorem top_text {x : Tru} (hv : valB x = true) {f : Nat} (hf : (txtT x).length ≤ f) : pTop f (skipB (txtT x)) = (x, true, []) := by
  have h := skip_txt (val_dec3 hv) ([] : List UInt8)
  rw [List.append_nil] at h
  rw [h]
  have := rt_top (val_dec3 hv) (val_full hv) (f := f) [] (by simpa using hf)
  rwa [List.append_nil] at this
theorem parse_text {x : Tru} (hv : valB x = true) (hf : x.Fine) : parseV (txtT x) = (x, 0, 0) :=
  parse_of_top (by have := val_len hv; omega) hv hf (top_text hv (Nat.le_refl _))

/-! ### blanks -/
theorem Bl.len {x y : List UInt8} (h : Bl x y) : x.length ≤ y.length := by
  induction h with
  | nil => simp
  | cons c p q _ _ _ ih => simp; omega
theorem blanks_0 {tl : List Int} {ta : Int} (ht : Tp ⟨tl, ta⟩) (p1 p5 : List UInt8) (p6 : Int) (c : UInt8) : ∃ t' b, B_law03_blanks_0 tl ta p1 p5 p6 [c] = some (t'.f0, t'.f1, b) ∧ (Tp t' ∧ (b = true → befB c = true)) := by
  obtain ⟨v, t', e, _, ht'⟩ := s_N ht (n := 2) (by omega) (by omega)
  unfold B_law03_blanks_0
  rw [e]
  simp only [kb_some]
  have hq : ∀ d : UInt8, (([c] : List UInt8) == [d]) = (c == d) := by intro d; simp
  simp only [hq]
  by_cases h1 : c = 40
  · exact ⟨t', _, by rw [beq_iff_eq.2 h1, cnd_true], ht', fun _ => by rw [h1]; rfl⟩
  rw [beq_eq_false_iff_ne.2 h1, cnd_false]
  by_cases h2 : c = 41
  · exact ⟨t', _, by rw [beq_iff_eq.2 h2, cnd_true], ht', fun _ => by rw [h2]; rfl⟩
  rw [beq_eq_false_iff_ne.2 h2, cnd_false]
  by_cases h3 : c = 44
  · exact ⟨t', _, by rw [beq_iff_eq.2 h3, cnd_true], ht', fun _ => by rw [h3]; rfl⟩
  rw [beq_eq_false_iff_ne.2 h3, cnd_false]
  by_cases h4 : c = 111
  · exact ⟨t', _, by rw [beq_iff_eq.2 h4, cnd_true], ht', fun _ => by rw [h4]; rfl⟩
  rw [beq_eq_false_iff_ne.2 h4, cnd_false]
  exact ⟨⟨tl, ta⟩, false, rfl, ht, fun h => by cases h⟩
theorem blanks_2 {tl : List Int} {ta : Int} (ht : Tp ⟨tl, ta⟩) (p1 p5 : List UInt8) (p6 : Int) (c : UInt8) : ∃ t' b, B_law03_blanks_2 tl ta p1 p5 p6 [c] = some (t'.f0, t'.f1, b) ∧ (Tp t' ∧ (b = true → aftB c = true)) := by
  obtain ⟨v, t', e, _, ht'⟩ := s_N ht (n := 3) (by omega) (by omega)
  unfold B_law03_blanks_2
  rw [e]
  simp only [kb_some]
  have hq : ∀ d : UInt8, (([c] : List UInt8) == [d]) = (c == d) := by intro d; simp
  simp only [hq]
  by_cases h1 : c = 40
  · exact ⟨t', _, by rw [beq_iff_eq.2 h1, cnd_true], ht', fun _ => by rw [h1]; rfl⟩
  rw [beq_eq_false_iff_ne.2 h1, cnd_false]
  by_cases h2 : c = 41
  · exact ⟨t', _, by rw [beq_iff_eq.2 h2, cnd_true], ht', fun _ => by rw [h2]; rfl⟩
  rw [beq_eq_false_iff_ne.2 h2, cnd_false]
  by_cases h3 : c = 44
  · exact ⟨t', _, by rw [beq_iff_eq.2 h3, cnd_true], ht', fun _ => by rw [h3]; rfl⟩
  rw [beq_eq_false_iff_ne.2 h3, cnd_false]
  by_cases h4 : c = 102
  · exact ⟨t', _, by rw [beq_iff_eq.2 h4, cnd_true], ht', fun _ => by rw [h4]; rfl⟩
  rw [beq_eq_false_iff_ne.2 h4, cnd_false]
  exact ⟨⟨tl, ta⟩, false, rfl, ht, fun h => by cases h⟩
theorem s_blanks {t : Tape} (ht : Tp t) {x : List UInt8} (hx : x.length ≤ 1000000) : ∃ y t', G_law03_blanks t x = some (y, t') ∧ (Bl x y ∧ Tp t') := by
  have hloop := iterW_spec (A := List Int × Int × List UInt8 × Int) (R := Unit) (f := fun a => B_law03_blanks_3 x a.1 a.2.1 a.2.2.1 a.2.2.2)
    (fun k a => (0 ≤ a.2.2.2 ∧ a.2.2.2 ≤ x.length ∧ k = x.length - a.2.2.2.toNat) ∧ (Bl (x.take a.2.2.2.toNat) a.2.2.1 ∧ a.2.2.1.length ≤ 4 * a.2.2.2.toNat) ∧ Tp ⟨a.1, a.2.1⟩)
    (fun r => ∃ a : List Int × Int × List UInt8 × Int, r = .go a ∧ (Bl x a.2.2.1 ∧ Tp ⟨a.1, a.2.1⟩)) (by
      rintro k ⟨tl, ta, o, j⟩ ⟨⟨hj0, hj1, hk⟩, ⟨hb, hlen⟩, htp⟩
      dsimp only at hj0 hj1 hk hb hlen htp
      by_cases c : j < (x.length : Int)
      · left
        have hlt : j.toNat < x.length := by omega
        have ej : add64 j 1 = j + 1 := add64_of (by omega) (by omega)
        have ep : partK x j (j + 1) = some [x[j.toNat]] := by
          unfold partK
          rw [if_pos ⟨hj0, by omega, by omega⟩, show (j + 1).toNat - j.toNat = 1 by omega, List.drop_eq_getElem_cons hlt]
          rfl
        obtain ⟨t1, b1, e1, ht1, hb1⟩ := blanks_0 htp x o j x[j.toNat]
        obtain ⟨w1, hw1, hw2⟩ : ∃ w : List UInt8, B_law03_blanks_1 t1.f0 t1.f1 x b1 o j [x[j.toNat]] = some (o ++ w) ∧ (w = [] ∨ (befB x[j.toNat] = true ∧ w = [32, 32])) := by
          unfold B_law03_blanks_1
          cases b1
          · exact ⟨[], by rw [cnd_false, List.append_nil], .inl rfl⟩
          · exact ⟨[32, 32], by rw [cnd_true, catK_some (by simp; omega), kb_some], .inr ⟨hb1 rfl, rfl⟩⟩
        have hwl : w1.length ≤ 2 := by rcases hw2 with rfl | ⟨_, rfl⟩ <;> simp
        have ec : catK (o ++ w1) [x[j.toNat]] = some (o ++ w1 ++ [x[j.toNat]]) := catK_some (by simp; omega)
        obtain ⟨t2, b2, e2, ht2, hb2⟩ := blanks_2 (tl := t1.f0) (ta := t1.f1) ht1 x (o ++ w1 ++ [x[j.toNat]]) j x[j.toNat]
        obtain ⟨w2, hw3, hw4⟩ : ∃ w : List UInt8, B_law03_blanks_3 x tl ta o j = some (.go (t2.f0, t2.f1, o ++ w1 ++ [x[j.toNat]] ++ w, j + 1)) ∧ (w = [] ∨ (aftB x[j.toNat] = true ∧ w = [32])) := by
          unfold B_law03_blanks_3
          simp only [c, decide_true, cnd_true, ej, ep, kb_some, e1, hw1, ec, e2]
          cases b2
          · exact ⟨[], by rw [cnd_false, List.append_nil], .inl rfl⟩
          · exact ⟨[32], by rw [cnd_true, catK_some (by simp; omega), kb_some], .inr ⟨hb2 rfl, rfl⟩⟩
        have hwl2 : w2.length ≤ 1 := by rcases hw4 with rfl | ⟨_, rfl⟩ <;> simp
        refine ⟨_, x.length - (j + 1).toNat, hw3, by omega, ⟨by show 0 ≤ j + 1; omega, by show j + 1 ≤ _; omega, rfl⟩, ⟨?_, ?_⟩, ht2⟩
        · show Bl (x.take (j + 1).toNat) _
          rw [show (j + 1).toNat = j.toNat + 1 by omega, List.take_add_one, List.getElem?_eq_getElem hlt]
          have hs := hb.app (Bl.cons x[j.toNat] w1 w2 .nil hw2 hw4)
          simpa using hs
        · show (o ++ w1 ++ [x[j.toNat]] ++ w2).length ≤ 4 * (j + 1).toNat
          simp only [List.length_append, List.length_cons, List.length_nil]
          omega
      · right; left
        refine ⟨0, (tl, ta, o, j), ?_, (tl, ta, o, j), rfl, ?_, htp⟩
        · unfold B_law03_blanks_3
          simp only [c, decide_false, cnd_false]
        · dsimp only
          rwa [show j.toNat = x.length by omega, List.take_length] at hb) x.length (t.f0, t.f1, [], 0) ⟨⟨by simp, by simp, by simp⟩, ⟨by simpa using Bl.nil, by simp⟩, ht⟩
  obtain ⟨_, e, ⟨tl, ta, o, j⟩, rfl, h1, h2⟩ := hloop
  refine ⟨o, ⟨tl, ta⟩, g_law03_blanks ?_, h1, h2⟩
  unfold B_law03_blanks
  rw [e, kb_some, stpK_go]
end Go.Am

/-
Plain laws: trusts whose lists fit into memory.
-/
namespace Go.Am
open Go
mutual
/-- no list in a trust is longer than memory -/
def Tru.Slim : Tru → Prop
  | .mk _ n i => n.length ≤ 17592186044416 ∧ (i.length ≤ 17592186044416 ∧ Slims i)
def Slims : List Tru → Prop
  | [] => True
  | x :: r => x.Slim ∧ Slims r
end
theorem Slims_iff : ∀ {l : List Tru}, Slims l ↔ ∀ x ∈ l, x.Slim
  | [] => by simp [Slims]
  | y :: r => by simp [Slims, Slims_iff (l := r)]
end Go.Am

/-
How trustquorummake.entries runs, as a pure function.
-/
namespace Go.Am
open Go Go.Proofs
set_option linter.unusedVariables false
set_option linter.unusedSimpArgs false
set_option maxRecDepth 4000
set_option maxHeartbeats 4000000
noncomputable def B_make_entries_0 (p0 : Tru) (p1_0 : Int) (p5_0 : Int) : Option Bool :=
  cnd (decide (p5_0 < (p0.inner.length : Int))) (
    some (decide (p1_0 ≤ 400))) (
    some false)
def J_make_entries_0 (p0 : Tru) (p1_0 : Int) (p5_0 : Int) (q : St) : Prop := q (.t 1) = (i64 p1_0) ∧ q (.t 5) = (i64 p5_0) ∧ (∃ (g : Nat), q (.t 2) = .ptr (.site 0 0 0) g 0 ∧ q (.i (.site 0 0 0)) = .box g [(i64 p0.thr), (.pv (.sl p0.nodes.length (ints p0.nodes))), (.pv (.sl p0.inner.length (encTs p0.inner)))])
def Q_make_entries_0 (p0 : Tru) (p1_0 : Int) (p5_0 : Int) (o20_0 : Bool) (q : St) : Prop := q (.t 1) = (i64 p1_0) ∧ q (.t 20) = (bl o20_0) ∧ q (.t 5) = (i64 p5_0) ∧ (∃ (g : Nat), q (.t 2) = .ptr (.site 0 0 0) g 0 ∧ q (.i (.site 0 0 0)) = .box g [(i64 p0.thr), (.pv (.sl p0.nodes.length (ints p0.nodes))), (.pv (.sl p0.inner.length (encTs p0.inner)))])
theorem P_make_entries_0 {p0 : Tru} {p1_0 : Int} {p5_0 : Int} {cc : Code} (hcc : cc = (Code.fst (Code.fst (Code.fst (Code.fst (Code.snd (Code.fst (Code.snd (Code.snd ((Tryd.f20.body).getD .skip)))))))))) {s : St} {z : Option (Ex × St)} (hz : C Tryd.prog cf cc s = z) {r : Bool} (hI : J_make_entries_0 p0 p1_0 p5_0 s) (hB : B_make_entries_0 p0 p1_0 p5_0 = some r) : Res z (postG (fun a q => Q_make_entries_0 p0 p1_0 p5_0 a q) r) := by
  subst hcc
  subst hz
  simp only [J_make_entries_0] at hI
  obtain ⟨q1, q2, ⟨g4, q3, q4⟩⟩ := hI
  simp only [Code.fst, Code.snd, Tryd.f20, Option.getD_some]
  unfold B_make_entries_0 at hB
  rcases cnd_inv hB with ⟨c1, hB⟩ | ⟨c1, hB⟩
  · have pc1 := eq_true (of_decide_eq_true c1)
    have nc1 := c1
    try simp only [List.length_nil, List.length_cons, Int.cast_ofNat_Int, Int.natCast_zero, Nat.zero_add, Nat.reduceAdd, Int.reduceLT, Int.reduceLE, Int.reduceEq, eq_self, decide_true, decide_false, Bool.true_eq_false, Bool.false_eq_true] at nc1
    all_goals
      obtain rfl := Option.some.inj hB
      try simp -implicitDefEqProofs [-getElem?_pos, -Int.ofNat_lt, -Int.ofNat_le, -Int.natCast_eq_zero, -Int.natCast_pos, -List.length_eq_zero_iff, List.getElem?_cons_zero, List.getElem?_cons_succ, List.getElem?_nil, q1, q2, q3, q4, c1, pc1, nc1]
      refine Res.g ?_
      simp -implicitDefEqProofs [-getElem?_pos, -Int.ofNat_lt, -Int.ofNat_le, -Int.natCast_eq_zero, -Int.natCast_pos, -List.length_eq_zero_iff, List.getElem?_cons_zero, List.getElem?_cons_succ, List.getElem?_nil, and_assoc, Q_make_entries_0, ownAt, q1, q2, q3, q4, c1, pc1, nc1]
  · have pc1 := eq_false (of_decide_eq_false c1)
    have nc1 := c1
    try simp only [List.length_nil, List.length_cons, Int.cast_ofNat_Int, Int.natCast_zero, Nat.zero_add, Nat.reduceAdd, Int.reduceLT, Int.reduceLE, Int.reduceEq, eq_self, decide_true, decide_false, Bool.true_eq_false, Bool.false_eq_true] at nc1
    all_goals
      obtain rfl := Option.some.inj hB
      try simp -implicitDefEqProofs [-getElem?_pos, -Int.ofNat_lt, -Int.ofNat_le, -Int.natCast_eq_zero, -Int.natCast_pos, -List.length_eq_zero_iff, List.getElem?_cons_zero, List.getElem?_cons_succ, List.getElem?_nil, q1, q2, q3, q4, c1, pc1, nc1]
      refine Res.g ?_
      simp -implicitDefEqProofs [-getElem?_pos, -Int.ofNat_lt, -Int.ofNat_le, -Int.natCast_eq_zero, -Int.natCast_pos, -List.length_eq_zero_iff, List.getElem?_cons_zero, List.getElem?_cons_succ, List.getElem?_nil, and_assoc, Q_make_entries_0, ownAt, q1, q2, q3, q4, c1, pc1, nc1]
noncomputable def B_make_entries_1 (p0 : Tru) (x1_1 : Int) (x5_1 : Int) : Option (Stp (Int × Int) Unit) :=
  kb (B_make_entries_0 p0 x1_1 x5_1) fun z2 =>
  cnd z2 (
    kb (getI p0.inner x5_1) fun x4 =>
    kb (G_make_entries x4 x1_1) fun y7 =>
    some (.go (y7, (add64 x5_1 1)))) (
    some (.ex 0 (x1_1, x5_1)))
def I_make_entries_1 (p0 : Tru) (x1_1 : Int) (x5_1 : Int) (q : St) : Prop := q (.t 1) = (i64 x1_1) ∧ q (.t 5) = (i64 x5_1) ∧ (∃ (g : Nat), q (.t 2) = .ptr (.site 0 0 0) g 0 ∧ q (.i (.site 0 0 0)) = .box g [(i64 p0.thr), (.pv (.sl p0.nodes.length (ints p0.nodes))), (.pv (.sl p0.inner.length (encTs p0.inner)))])
def Q_make_entries_1 (p0 : Tru) (x1_1 : Int) (x5_1 : Int) (q : St) : Prop := q (.t 1) = (i64 x1_1)
theorem Pb_make_entries_1 {p0 : Tru} {x1_1 : Int} {x5_1 : Int} {q : St} {r : (Stp (Int × Int) Unit)} (hI : I_make_entries_1 p0 x1_1 x5_1 q) (hB : B_make_entries_1 p0 x1_1 x5_1 = some r) : Res (C Tryd.prog cf (Code.fst (Code.fst (Code.snd (Code.fst (Code.snd (Code.snd ((Tryd.f20.body).getD .skip))))))) q) (postB 0 (fun a q => I_make_entries_1 p0 a.1 a.2 q) (fun a q => Q_make_entries_1 p0 a.1 a.2 q) (fun _ _ => False) r) := by
  simp only [I_make_entries_1] at hI
  obtain ⟨q1, q2, ⟨g4, q3, q4⟩⟩ := hI
  simp only [Code.fst, Code.snd, Tryd.f20, Option.getD_some]
  generalize hc0 : Code.region 3 _ _ = cc0
  generalize hr5 : Code.region 5 _ _ = rr5
  unfold B_make_entries_1 at hB
  try simp -implicitDefEqProofs [-getElem?_pos, -Int.ofNat_lt, -Int.ofNat_le, -Int.natCast_eq_zero, -Int.natCast_pos, -List.length_eq_zero_iff, List.getElem?_cons_zero, List.getElem?_cons_succ, List.getElem?_nil, q1, q2, q3, q4]
  generalize hz0 : C Tryd.prog cf cc0 _ = z0
  obtain ⟨z2, hB1, hB⟩ := kb_inv hB
  have hJ := P_make_entries_0 (hc0.symm.trans (by kernel_rfl)) hz0 (by simp -implicitDefEqProofs [-getElem?_pos, -Int.ofNat_lt, -Int.ofNat_le, -Int.natCast_eq_zero, -Int.natCast_pos, -List.length_eq_zero_iff, List.getElem?_cons_zero, List.getElem?_cons_succ, List.getElem?_nil, and_assoc, J_make_entries_0, ownAt, q1, q2, q3, q4]) hB1
  obtain ⟨e0, s0, rfl, hq⟩ := hJ.open
  clear hB1
  obtain ⟨rfl, hq⟩ := hq
  simp only [Q_make_entries_0] at hq
  obtain ⟨q2_1, q2_2, q2_3, ⟨g2_5, q2_4, q2_5⟩⟩ := hq
  rcases cnd_inv hB with ⟨c3, hB⟩ | ⟨c3, hB⟩
  · obtain ⟨x4, h5, hB⟩ := kb_inv hB
    obtain ⟨h5a, h5b, h5c, h5d⟩ := getI_inv h5
    try simp only [Int.toNat_natCast, Int.reduceToNat] at h5c
    try dsimp only at hB
    have l6 := encTs_ld h5c
    obtain ⟨y7, k8, hB⟩ := kb_inv hB
    replace k8 := run_make_entries k8
    try simp only [Int.cast_ofNat_Int, Int.natCast_zero, List.length_cons, List.length_nil, List.nil_append, List.cons_append, Nat.zero_add, Nat.reduceAdd, Tru.thr_mk, Tru.nodes_mk, Tru.inner_mk, ints_cons, ints_nil, encTs_cons, encTs_nil, es_str_cons, es_str_nil, c3] at k8
    try dsimp only at hB
    obtain rfl := Option.some.inj hB
    subst hr5
    try simp -implicitDefEqProofs [-getElem?_pos, -Int.ofNat_lt, -Int.ofNat_le, -Int.natCast_eq_zero, -Int.natCast_pos, -List.length_eq_zero_iff, List.getElem?_cons_zero, List.getElem?_cons_succ, List.getElem?_nil, q2_1, q2_2, q2_3, q2_4, q2_5, c3, h5a, h5b, h5c, h5d, l6, k8]
    refine Res.bgo ?_
    simp -implicitDefEqProofs [-getElem?_pos, -Int.ofNat_lt, -Int.ofNat_le, -Int.natCast_eq_zero, -Int.natCast_pos, -List.length_eq_zero_iff, List.getElem?_cons_zero, List.getElem?_cons_succ, List.getElem?_nil, and_assoc, I_make_entries_1, ownAt, q2_1, q2_2, q2_3, q2_4, q2_5, c3, h5a, h5b, h5c, h5d, l6, k8]
  · obtain rfl := Option.some.inj hB
    try simp -implicitDefEqProofs [-getElem?_pos, -Int.ofNat_lt, -Int.ofNat_le, -Int.natCast_eq_zero, -Int.natCast_pos, -List.length_eq_zero_iff, List.getElem?_cons_zero, List.getElem?_cons_succ, List.getElem?_nil, q2_1, q2_2, q2_3, q2_4, q2_5, c3]
    refine Res.bex ?_
    simp -implicitDefEqProofs [-getElem?_pos, -Int.ofNat_lt, -Int.ofNat_le, -Int.natCast_eq_zero, -Int.natCast_pos, -List.length_eq_zero_iff, List.getElem?_cons_zero, List.getElem?_cons_succ, List.getElem?_nil, and_assoc, Q_make_entries_1, ownAt, q2_1, q2_2, q2_3, q2_4, q2_5, c3]
theorem P_make_entries_1 {p0 : Tru} {x1_1 : Int} {x5_1 : Int} {cc : Code} (hcc : cc = .block 0 (.loop (Code.fst (Code.fst (Code.snd (Code.fst (Code.snd (Code.snd ((Tryd.f20.body).getD .skip))))))))) {s : St} {z : Option (Ex × St)} (hz : C Tryd.prog cf cc s = z) {r : (Stp (Int × Int) Unit)} (hI : I_make_entries_1 p0 x1_1 x5_1 s) (hB : iterW (fun a => B_make_entries_1 p0 a.1 a.2) (x1_1, x5_1) = some r) : Res z (postS (fun a q => Q_make_entries_1 p0 a.1 a.2 q) (fun _ _ => False) r) := by
  subst hcc
  exact while_sim (I := fun a q => I_make_entries_1 p0 a.1 a.2 q) (Q := (fun a q => Q_make_entries_1 p0 a.1 a.2 q)) (QR := (fun _ _ => False)) (fun a q r h hB => Pb_make_entries_1 h hB) hI hz hB
noncomputable def B_make_entries (p0 : Tru) (p1 : Int) : Option Int :=
  kb (iterW (fun a => B_make_entries_1 p0 a.1 a.2) ((add64 p1 (add64 1 (p0.nodes.length : Int))), 0)) fun o => stpK o (fun z9 =>
    some z9.1) (fun z9r =>
    none)
theorem sim_make_entries {p0 : Tru} {p1 : Int} {r : Int} (hB : B_make_entries p0 p1 = some r) : R 20 [(.agg [(i64 p0.thr), (.pv (.sl p0.nodes.length (ints p0.nodes))), (.pv (.sl p0.inner.length (encTs p0.inner)))]), (i64 p1)] [] = some ((i64 r), [], []) := by
  rw [R_eq _ _ _ fn_make_entries]
  simp only [Code.fst, Code.snd, Tryd.f20, Option.getD_some]
  generalize hc1 : Code.block 0 _ = cc1
  generalize hr1 : Code.region 1 _ _ = rr1
  unfold B_make_entries at hB
  subst hr1
  try simp -implicitDefEqProofs [-getElem?_pos, -Int.ofNat_lt, -Int.ofNat_le, -Int.natCast_eq_zero, -Int.natCast_pos, -List.length_eq_zero_iff, List.getElem?_cons_zero, List.getElem?_cons_succ, List.getElem?_nil]
  generalize hz1 : C Tryd.prog cf cc1 _ = z1
  obtain ⟨o, hB1, hB⟩ := kb_inv hB
  have hJ := P_make_entries_1 (hc1.symm.trans (by kernel_rfl)) hz1 (by simp -implicitDefEqProofs [-getElem?_pos, -Int.ofNat_lt, -Int.ofNat_le, -Int.natCast_eq_zero, -Int.natCast_pos, -List.length_eq_zero_iff, List.getElem?_cons_zero, List.getElem?_cons_succ, List.getElem?_nil, and_assoc, I_make_entries_1, ownAt]) hB1
  obtain ⟨e1, s1, rfl, hq⟩ := hJ.open
  clear hB1
  rcases o with z9 | ⟨_, _⟩ | z9r
  · simp only [stpK_go] at hB
    obtain ⟨rfl, hq⟩ := hq
    simp only [Q_make_entries_1] at hq
    have q9_1 := hq
    obtain rfl := Option.some.inj hB
    simp -implicitDefEqProofs [-getElem?_pos, -Int.ofNat_lt, -Int.ofNat_le, -Int.natCast_eq_zero, -Int.natCast_pos, -List.length_eq_zero_iff, List.getElem?_cons_zero, List.getElem?_cons_succ, List.getElem?_nil, q9_1]
  · exact hq.elim
  · cases hB
theorem g_make_entries {p0 : Tru} {p1 : Int} {r : Int} (hB : B_make_entries p0 p1 = some r) : G_make_entries p0 p1 = some r := dec_of (fun a b h => by rcases a with a0_; rcases b with b0_; simp at h; simp [*]) (sim_make_entries hB)
end Go.Am

/-
How trustquorummake.SmallTrust runs, as a pure function.
-/
namespace Go.Am
open Go Go.Proofs
set_option linter.unusedVariables false
set_option linter.unusedSimpArgs false
set_option maxRecDepth 4000
set_option maxHeartbeats 4000000
noncomputable def B_make_SmallTrust (p0 : Tru) : Option Bool :=
  kb (G_make_entries p0 0) fun y1 =>
  some (decide (y1 ≤ 400))
theorem sim_make_SmallTrust {p0 : Tru} {r : Bool} (hB : B_make_SmallTrust p0 = some r) : R 7 [(.agg [(i64 p0.thr), (.pv (.sl p0.nodes.length (ints p0.nodes))), (.pv (.sl p0.inner.length (encTs p0.inner)))])] [] = some ((bl r), [], []) := by
  rw [R_eq _ _ _ fn_make_SmallTrust]
  simp only [Code.fst, Code.snd, Tryd.f7, Option.getD_some]
  generalize hr1 : Code.region 1 _ _ = rr1
  unfold B_make_SmallTrust at hB
  obtain ⟨y1, k2, hB⟩ := kb_inv hB
  replace k2 := run_make_entries k2
  try simp only [Int.cast_ofNat_Int, Int.natCast_zero, List.length_cons, List.length_nil, List.nil_append, List.cons_append, Nat.zero_add, Nat.reduceAdd, Tru.thr_mk, Tru.nodes_mk, Tru.inner_mk, ints_cons, ints_nil, encTs_cons, encTs_nil, es_str_cons, es_str_nil] at k2
  try dsimp only at hB
  obtain rfl := Option.some.inj hB
  subst hr1
  simp -implicitDefEqProofs [-getElem?_pos, -Int.ofNat_lt, -Int.ofNat_le, -Int.natCast_eq_zero, -Int.natCast_pos, -List.length_eq_zero_iff, List.getElem?_cons_zero, List.getElem?_cons_succ, List.getElem?_nil, k2]
theorem g_make_SmallTrust {p0 : Tru} {r : Bool} (hB : B_make_SmallTrust p0 = some r) : G_make_SmallTrust p0 = some r := dec_of (fun a b h => by rcases a with a0_; rcases b with b0_; simp at h; simp [*]) (sim_make_SmallTrust hB)
end Go.Am

/-
Plain laws: which trusts are small enough to be looked at.
-/
namespace Go.Am
open Go
set_option linter.unusedVariables false
set_option linter.unusedSimpArgs false

/-- a loop over a list that comes through -/
theorem loopL_go {A X R : Type} {f : Nat → A → X → Option (Stp A R)} (P : A → Prop) : ∀ (l : List X) (i : Nat) (a : A),
    (∀ (j : Nat) (a : A), ∀ x ∈ l, P a → ∃ a', f j a x = some (.go a') ∧ P a') → P a → ∃ a', loopL f i a l = some (.go a') ∧ P a'
  | [], i, a, _, h => ⟨a, rfl, h⟩
  | x :: r, i, a, hf, h => by
    obtain ⟨a', h1, h2⟩ := hf i a x (by simp) h
    obtain ⟨a'', h3, h4⟩ := loopL_go P r (i + 1) a' (fun j a y hy => hf j a y (by simp [hy])) h2
    refine ⟨a'', ?_, h4⟩
    show kb (f i a x) _ = _
    rw [h1, kb_some]
    exact h3

/-! ### small trusts -/
/-- entries of the first trusts of a list -/
def ent (l : List Tru) (j : Nat) : Nat := sizes (l.take j) + j
theorem ent_succ {l : List Tru} {j : Nat} {x : Tru} (h : l[j]? = some x) : ent l (j + 1) = ent l j + 1 + x.size := by
  unfold ent
  rw [List.take_add_one, h, sizes_app]
  simp [sizes]; omega
theorem s_entries : ∀ x : Tru, x.Slim → ∀ n : Int, 0 ≤ n → n ≤ 400 → ∃ r, G_make_entries x n = some r ∧ (0 ≤ r ∧ r ≤ 17592186044817) ∧ (r ≤ 400 → r = n + 1 + (x.size : Int)) := by
  refine tru_ind fun t l i ih h n h0 h4 => ?_
  obtain ⟨hn, hi, hs⟩ := h
  rw [Slims_iff] at hs
  have e1 : add64 n (add64 1 ((Tru.mk t l i).nodes.length : Int)) = n + 1 + l.length := by
    rw [Tru.nodes_mk, add64_of (a := 1) (by omega) (by omega), add64_of (by omega) (by omega)]; omega
  have hloop := iterW_spec (A := Int × Int) (R := Unit) (f := fun a => B_make_entries_1 (.mk t l i) a.1 a.2)
    (fun k a => (0 ≤ a.2 ∧ a.2 ≤ i.length ∧ k = i.length - a.2.toNat) ∧ (0 ≤ a.1 ∧ a.1 ≤ 17592186044817) ∧ (a.1 ≤ 400 → a.1 = n + 1 + l.length + (ent i a.2.toNat : Int)))
    (fun x => ∃ a : Int × Int, x = .go a ∧ (0 ≤ a.1 ∧ a.1 ≤ 17592186044817) ∧ (a.1 ≤ 400 → a.1 = n + 1 + l.length + (ent i i.length : Int))) (by
      rintro k ⟨a, j⟩ ⟨⟨hj0, hj1, hk⟩, ha, hr⟩
      dsimp only at hj0 hj1 hk ha hr
      have h0 : B_make_entries_0 (.mk t l i) a j = some (decide (j < (i.length : Int)) && decide (a ≤ 400)) := by
        unfold B_make_entries_0
        rw [Tru.inner_mk]
        by_cases c : j < (i.length : Int) <;> simp [c, cnd]
      by_cases c : j < (i.length : Int) ∧ a ≤ 400
      · left
        have hlt : j.toNat < i.length := by omega
        obtain ⟨r, g1, g2, g3⟩ := ih i[j.toNat] (List.getElem_mem _) (hs _ (List.getElem_mem _)) a ha.1 c.2
        refine ⟨(r, j + 1), i.length - (j + 1).toNat, ?_, by omega, ⟨by show 0 ≤ j + 1; omega, by show j + 1 ≤ _; omega, rfl⟩, g2, ?_⟩
        · unfold B_make_entries_1
          rw [h0, kb_some]
          simp only [c.1, c.2, decide_true, Bool.and_self, cnd_true, Tru.inner_mk]
          rw [getI_some hj0 hlt, kb_some, g1, kb_some, add64_of (by omega) (by omega)]
        · intro hle
          dsimp only at hle ⊢
          have e := g3 hle
          have e2 := hr c.2
          have e3 := ent_succ (l := i) (j := j.toNat) (x := i[j.toNat]) (by simp [hlt])
          rw [show (j + 1).toNat = j.toNat + 1 by omega, e3, e, e2]
          omega
      · right; left
        refine ⟨0, (a, j), ?_, (a, j), rfl, ha, ?_⟩
        · unfold B_make_entries_1
          have : (decide (j < (i.length : Int)) && decide (a ≤ 400)) = false := by
            rw [← Bool.not_eq_true, Bool.and_eq_true, decide_eq_true_eq, decide_eq_true_eq]; exact c
          rw [h0, kb_some, this, cnd_false]
        · intro hle
          dsimp only at hle ⊢
          have : j.toNat = i.length := by omega
          rw [← this]; exact hr hle) i.length (n + 1 + l.length, 0) ⟨⟨by simp, by simp, by simp⟩, ⟨by show 0 ≤ n + 1 + (l.length : Int); omega, by show n + 1 + (l.length : Int) ≤ _; omega⟩, fun _ => by simp [ent, sizes]⟩
  obtain ⟨_, e2, a, rfl, e3, e4⟩ := hloop
  refine ⟨a.1, g_make_entries ?_, e3, fun hle => ?_⟩
  · unfold B_make_entries
    rw [e1, e2, kb_some, stpK_go]
  · rw [e4 hle, size_mk, ent, List.take_length]
    omega
theorem s_SmallTrust {x : Tru} (h : x.Slim) : ∃ b, G_make_SmallTrust x = some b ∧ (b = true → x.size ≤ 399) := by
  obtain ⟨r, e, h1, h2⟩ := s_entries x h 0 (by omega) (by omega)
  refine ⟨decide (r ≤ 400), g_make_SmallTrust ?_, fun hb => ?_⟩
  · unfold B_make_SmallTrust
    rw [e, kb_some]
  · have := of_decide_eq_true hb
    have := h2 this
    omega
end Go.Am
