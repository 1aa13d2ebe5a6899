/-
Part 3 of the road to the statement: Qu3, Gf_ref01_Same, Gf_ref02_Same, Qu5, Gf_threshold_node, Gf_threshold_level_fn1, Gf_slices_IndexFunc___int_int_, Gf_slices_ContainsFunc___int_int_, Gf_nodeset_Of, Gf_threshold_Depth, Gf_threshold_Size, Gf_threshold_level, Gf_threshold_Valid, Gf_strconv_Itoa, Gf_strings_Join, Gf_notation_write, Gf_notation_Text, Gf_ref03_text, Gf_ref03_Text, U7a, U7b, U7d, Gf_declaration_Hash, HTag, Gf_ref07_Hash, Gf_ref07_Tag, V7b, N3a, N3b, Gf_strconv_Atoi, UAt, Gf_notation_digit, Gf_internal_stringslite_HasPrefix, Gf_strings_HasPrefix, Gf_strings_IndexByte, Gf_notation_reader_next, Gf_notation_reader_number, Gf_notation_reader_take.
-/
import Derived.Test.YthkahljlmncdiaaGreatDoorSg2
set_option linter.unusedVariables false
set_option linter.unusedSimpArgs false
/-
Plain laws: deletion and the trusts that are made.
-/
namespace Go.Am
open Go
theorem s_nodeset_below (s : Int) : G_nodeset_below s 10 = some (setB s) := by
  refine g_nodeset_below ?_
  unfold B_nodeset_below setB
  have e : shl64 1 10 = 1024 := shl64_one (k := 10) (by omega)
  by_cases h : 0 ≤ s
  · rw [mustK_some (by omega)]
    simp only [h, decide_true, cnd_true, kb_some, e, true_and]
    congr 1
    simp only [decide_eq_decide]
    omega
  · simp [h, cnd]
theorem s_nodeset_Valid (s : Int) : G_nodeset_Valid s = some (setB s) := by
  refine g_nodeset_Valid ?_
  unfold B_nodeset_Valid
  rw [s_nodeset_below]; rfl
theorem s_nodeset_Has (s k : Int) : G_nodeset_Has s k = some (hasS s k) := by
  refine g_nodeset_Has ?_
  unfold B_nodeset_Has hasS
  rw [s_nodeset_Valid, kb_some]
  cases h : setB s
  · rfl
  · rw [setB_iff] at h
    simp only [cnd_true, Bool.true_and]
    by_cases h1 : 0 ≤ k
    · by_cases h2 : k < 10
      · simp only [h1, h2, decide_true, cnd_true, mustK_some (show ¬ k < 0 by omega), kb_some, and_self, Bool.true_and]
        obtain ⟨m, rfl⟩ := Int.eq_ofNat_of_zero_le h.1
        obtain ⟨j, rfl⟩ := Int.eq_ofNat_of_zero_le h1
        have := has_and (m := m) (k := j) (by omega) (by omega)
        show some (!(decide (and64 (m : Int) (shl64 1 (j : Int)) = 0))) = _
        rw [this]
        simp
      · simp [h1, h2, cnd]
    · simp [h1, cnd]
mutual
/-- all nodes lie below n -/
def belT (n : Int) : Tru → Prop
  | .mk _ l i => (∀ k ∈ l, 0 ≤ k ∧ k < n) ∧ belTs n i
def belTs (n : Int) : List Tru → Prop
  | [] => True
  | x :: r => belT n x ∧ belTs n r
end
theorem belTs_iff {n : Int} : ∀ {l : List Tru}, belTs n l ↔ ∀ x ∈ l, belT n x
  | [] => by simp [belTs]
  | y :: r => by simp [belTs, belTs_iff (l := r)]
/-! ### trusts that are made -/
def bd : Nat → Nat
  | 0 => 5
  | d + 1 => 8 + 3 * bd d
theorem size_mk (t : Int) (n : List Int) (i : List Tru) : (Tru.mk t n i).size = n.length + (i.length + sizes i) := rfl
theorem s_trust0 (n : Int) (h1 : 1 ≤ n) (h2 : n ≤ 10) (t : Tape) (ht : Tp t) : ∃ (L : List Int) (y1 : List Int × Tape) (y3 : Int × Tape), G_make_Tape_Order t n = some y1 ∧ G_make_Tape_Range y1.2 1 (if 5 < n then 5 else n) = some y3 ∧ partK y1.1 0 y3.1 = some L ∧ Tp y3.2 ∧ 1 ≤ L.length ∧ L.length ≤ 5 ∧ ∀ x ∈ L, 0 ≤ x ∧ x < n := by
  obtain ⟨l, t1, e1, ⟨hl, hm⟩, ht1⟩ := s_Order ht (by omega) (show n ≤ 1000 by omega)
  obtain ⟨v, t2, e2, hv, ht2⟩ := s_Range ht1 (a := 1) (b := if 5 < n then 5 else n) (by omega) (by split <;> omega) (by split <;> omega)
  have hv2 : v ≤ n ∧ v ≤ 5 := by have := hv.2; split at this <;> omega
  refine ⟨(l.drop 0).take (v.toNat - 0), (l, t1), (v, t2), e1, e2, ?_, ht2, ?_, ?_, ?_⟩
  · unfold partK
    rw [if_pos ⟨by omega, by show 0 ≤ v; omega, by show v ≤ (l.length : Int); omega⟩]
    rfl
  · simp; omega
  · simp; omega
  · intro x hx
    simp at hx
    exact hm x (List.mem_of_mem_take hx)
theorem foldl_app (l a : List Int) : l.foldl (fun a x => a ++ [x]) a = a ++ l := by
  induction l generalizing a with
  | nil => simp
  | cons x r ihr => rw [List.foldl_cons, ihr]; simp
theorem s_trust1 (y : Int × Tape) (n deep : Int) (L : List Int) (hL : L.length ≤ 5) : foldO (fun i a x => B_make_trust_0 y n deep L i a x) 0 [] L = some L := by
  have h1 := foldO_spec (f := fun j a x => B_make_trust_0 y n deep L j a x) (g := fun a x => a ++ [x]) (fun j a => a.length ≤ j) L 0 [] (by
    intro j a x hj hp
    have hjl := (List.getElem?_eq_some_iff.1 hj).1
    simp only [Nat.zero_add] at hp ⊢
    unfold B_make_trust_0
    rw [appK_some (by simp; omega), kb_some]
    exact ⟨rfl, by simp; omega⟩) (by simp)
  rw [h1.1, foldl_app]
  simp
theorem s_trust (n : Int) (h1 : 1 ≤ n) (h2 : n ≤ 10) : ∀ (d : Nat) (deep : Int), d ≤ 4 → deep = (d : Int) + 1 → ∀ t : Tape, Tp t → ∃ x t', G_make_trust t n deep = some (x, t') ∧ (x.size ≤ bd d ∧ x.Ok ∧ belT n x) ∧ Tp t' := by
  intro d
  induction d with
  | zero =>
    intro deep hd4 hd t ht
    obtain ⟨L, y1, y3, e1, e2, e3, ht2, hL1, hL5, hLm⟩ := s_trust0 n h1 h2 t ht
    have e0 : add64 (L.length : Int) (([] : List Tru).length : Int) = (L.length : Int) := by
      rw [add64_of (by simp <;> omega) (by simp <;> omega)]; simp
    obtain ⟨v, t4, e4, hv, ht4⟩ := s_Range ht2 (a := 1) (b := (L.length : Int)) (by omega) (by omega) (by omega)
    refine ⟨.mk v L [], t4, g_make_trust ?_, ⟨?_, ?_⟩, ht4⟩
    · unfold B_make_trust
      rw [e1, kb_some, e2, kb_some, e3, kb_some, smallK_some (by omega), kb_some, s_trust1 _ _ _ _ hL5, kb_some]
      rw [show decide (1 < deep) = false by simp; omega, cnd_false, e0, e4, kb_some]
    · rw [size_mk]; simp [sizes, bd]; omega
    · exact ⟨⟨by unfold in64; omega, fun k hk => by have := hLm k hk; unfold in64; omega, trivial⟩, hLm, trivial⟩
  | succ d ih =>
    intro deep hd4 hd t ht
    obtain ⟨L, y1, y3, e1, e2, e3, ht2, hL1, hL5, hLm⟩ := s_trust0 n h1 h2 t ht
    obtain ⟨c, t3, e5, hc, ht3⟩ := s_Pick ht2 (l := [0, 0, 1, 1, 2, 3]) (by simp) (by simp)
    have hc3 : 0 ≤ c ∧ c ≤ 3 := by
      simp at hc
      omega
    have hloop := iterW_spec (A := List Int × Int × List Tru × Int) (R := Unit) (f := fun a => B_make_trust_1 L n deep a.1 a.2.1 a.2.2.1 a.2.2.2)
      (fun k a => (0 ≤ a.2.2.2 ∧ a.2.2.1.length + a.2.2.2 ≤ 3 ∧ k = a.2.2.2.toNat) ∧ (sizes a.2.2.1 ≤ a.2.2.1.length * bd d ∧ Oks a.2.2.1 ∧ belTs n a.2.2.1) ∧ Tp ⟨a.1, a.2.1⟩)
      (fun x => ∃ a : List Int × Int × List Tru × Int, x = .go a ∧ a.2.2.1.length ≤ 3 ∧ (sizes a.2.2.1 ≤ a.2.2.1.length * bd d ∧ Oks a.2.2.1 ∧ belTs n a.2.2.1) ∧ Tp ⟨a.1, a.2.1⟩)
      (by
        rintro k ⟨tl, ta, l, i⟩ ⟨⟨hi, hin, hk⟩, ⟨hl, hm, hbl⟩, htp⟩
        dsimp only at hi hin hk hl hm hbl htp
        by_cases c : 0 < i
        · left
          obtain ⟨x, t', g1, ⟨gs, go, gb⟩, gt⟩ := ih (sub64 deep 1) (by omega) (by rw [sub64_of (by omega) (by omega)]; omega) ⟨tl, ta⟩ htp
          refine ⟨(t'.f0, t'.f1, l ++ [x], i - 1), (i - 1).toNat, ?_, by omega, ⟨by show 0 ≤ i - 1; omega, by simp; omega, rfl⟩, ⟨?_, ?_, ?_⟩, gt⟩
          · simp only [B_make_trust_1, c, decide_true, cnd_true, g1, kb_some]
            rw [appK_some (by simp; omega), kb_some, sub64_of (by omega) (by omega)]
          · rw [sizes_app, List.length_append]
            simp only [sizes, List.length_cons, List.length_nil]
            have : (l.length + (0 + 1)) * bd d = l.length * bd d + bd d := by rw [Nat.zero_add, Nat.add_mul, Nat.one_mul]
            omega
          · rw [Oks_iff] at hm ⊢
            intro y hy
            rcases List.mem_append.1 hy with hy | hy
            · exact hm y hy
            · obtain rfl := List.mem_singleton.1 hy; exact go
          · rw [belTs_iff] at hbl ⊢
            intro y hy
            rcases List.mem_append.1 hy with hy | hy
            · exact hbl y hy
            · obtain rfl := List.mem_singleton.1 hy; exact gb
        · right; left
          refine ⟨2, (tl, ta, l, i), ?_, (tl, ta, l, i), rfl, ?_, ⟨hl, hm, hbl⟩, htp⟩
          · simp only [B_make_trust_1, c, decide_false, cnd_false]
          · dsimp only; omega) c.toNat (t3.f0, t3.f1, [], c) ⟨⟨hc3.1, by simp; omega, rfl⟩, ⟨by simp [sizes], trivial, trivial⟩, ht3⟩
    obtain ⟨_, e6, ⟨tl, ta, I, j⟩, rfl, hI3, ⟨hIs, hIo, hIb⟩, htp⟩ := hloop
    dsimp only at hI3 hIs hIo hIb htp
    have hsz : sizes I ≤ 3 * bd d := Nat.le_trans hIs (Nat.mul_le_mul_right _ hI3)
    have hbd : bd d ≤ 1000 := by
      have : d ≤ 3 := by omega
      rcases d with _ | _ | _ | _ | d
      · decide
      · decide
      · decide
      · decide
      · omega
    have h2' : ∃ (tp : Tape) (b : Bool), B_make_trust_2 tl ta L I = some (tp.f0, tp.f1, b) ∧ Tp tp ∧ (b = true → 1 ≤ I.length) := by
      unfold B_make_trust_2
      by_cases c : 0 < (I.length : Int)
      · obtain ⟨v, t', g1, gv, gt⟩ := s_N htp (n := 3) (by omega) (by omega)
        refine ⟨t', decide (v = 0), ?_, gt, fun _ => by omega⟩
        simp only [c, decide_true, cnd_true, g1, kb_some]
      · refine ⟨⟨tl, ta⟩, false, ?_, htp, fun h => by cases h⟩
        simp only [c, decide_false, cnd_false]
    obtain ⟨tp, b, e7, ht7, hb⟩ := h2'
    have hB : ∀ r, (cnd b (kb (G_make_Tape_Range (S_trustquorummake_Tape.mk tp.f0 tp.f1) 1 (add64 (([] : (List Int)).length : Int) (I.length : Int))) fun y25 => some ((Tru.mk y25.1 ([] : (List Int)) I), y25.2))
        (kb (G_make_Tape_Range (S_trustquorummake_Tape.mk tp.f0 tp.f1) 1 (add64 (L.length : Int) (I.length : Int))) fun y27 => some ((Tru.mk y27.1 L I), y27.2)) = some r) → B_make_trust t n deep = some r := by
      intro r hr
      unfold B_make_trust
      rw [e1, kb_some, e2, kb_some, e3, kb_some, smallK_some (by omega), kb_some, s_trust1 _ _ _ _ hL5, kb_some]
      rw [show decide (1 < deep) = true by simp; omega, cnd_true, e5, kb_some, e6, kb_some]
      simp only [stpK_go]
      rw [e7, kb_some]
      exact hr
    cases b
    · have ea : add64 (L.length : Int) (I.length : Int) = (L.length : Int) + I.length := add64_of (by omega) (by omega)
      obtain ⟨v, t4, e4, hv, ht4⟩ := s_Range (t := ⟨tp.f0, tp.f1⟩) ht7 (a := 1) (b := (L.length : Int) + I.length) (by omega) (by omega) (by omega)
      refine ⟨.mk v L I, t4, g_make_trust (hB _ ?_), ⟨?_, ?_⟩, ht4⟩
      · rw [cnd_false, ea, e4, kb_some]
      · rw [size_mk]; simp only [bd]; omega
      · exact ⟨⟨by unfold in64; omega, fun k hk => by have := hLm k hk; unfold in64; omega, hIo⟩, hLm, hIb⟩
    · have hI1 := hb rfl
      have ea : add64 (([] : List Int).length : Int) (I.length : Int) = (I.length : Int) := by rw [add64_of (by simp <;> omega) (by simp <;> omega)]; simp
      obtain ⟨v, t4, e4, hv, ht4⟩ := s_Range (t := ⟨tp.f0, tp.f1⟩) ht7 (a := 1) (b := (I.length : Int)) (by omega) (by omega) (by omega)
      refine ⟨.mk v [] I, t4, g_make_trust (hB _ ?_), ⟨?_, ?_⟩, ht4⟩
      · rw [cnd_true, ea, e4, kb_some]
      · rw [size_mk]; simp only [bd, List.length_nil]; omega
      · exact ⟨⟨(by unfold in64; omega), ⟨fun k hk => (by cases hk), hIo⟩⟩, fun k hk => (by cases hk), hIb⟩
/-- a trust that is made is valid -/
theorem s_mkTrust (n : Int) (h1 : 1 ≤ n) (h2 : n ≤ 10) (deep : Int) (hd : 1 ≤ deep ∧ deep ≤ 5) (t : Tape) (ht : Tp t) : ∃ x t', G_make_Trust t n deep = some (x, t') ∧ (valB x = true ∧ x.Fine ∧ belT n x) ∧ Tp t' := by
  obtain ⟨x, t1, e1, ⟨hs, ho, hbx⟩, ht1⟩ := s_trust n h1 h2 (deep - 1).toNat deep (by omega) (by omega) t ht
  have hbd : bd (deep - 1).toNat ≤ 100000 := by
    have : (deep - 1).toNat ≤ 4 := by omega
    generalize (deep - 1).toNat = d at this
    rcases d with _ | _ | _ | _ | _ | d
    · decide
    · decide
    · decide
    · decide
    · decide
    · omega
  have hf : x.Fine := ⟨by omega, ho⟩
  obtain ⟨e, e2, he⟩ := s_ref02_Valid hf
  by_cases c : e = 0
  · refine ⟨x, t1, g_make_Trust ?_, ⟨he.1 c, hf, hbx⟩, ht1⟩
    unfold B_make_Trust
    simp only [e1, kb_some, e2, c, decide_true, cnd_true]
  · obtain ⟨v, t2, e3, hv, ht2⟩ := s_N ht1 (n := n) h1 (by omega)
    refine ⟨.mk 1 [v] [], t2, g_make_Trust ?_, ⟨?_, ?_, fun k hk => by obtain rfl := List.mem_singleton.1 hk; exact hv, trivial⟩, ht2⟩
    · unfold B_make_Trust
      simp only [e1, kb_some, e2, c, decide_false, cnd_false, e3]
    · have hb : badN v = false := by simp [badN]; omega
      simp [valB, dep, deps, size_mk, sizes, good, goods, badA, hb]
    · exact ⟨by rw [size_mk]; simp [sizes], by unfold in64; omega, fun k hk => by obtain rfl := List.mem_singleton.1 hk; unfold in64; omega, trivial⟩
end Go.Am
namespace Go.Am
open Go Go.Proofs
set_option maxRecDepth 4000
set_option maxHeartbeats 4000000
open Int renaming ofNat_lt → Iqa, ofNat_le → Iqb, natCast_eq_zero → Iqc, natCast_pos → Iqd, cast_ofNat_Int → Iqe, natCast_zero → Iqf
open List renaming length_eq_zero_iff → Lqa, getElem?_cons_zero → Lqb, getElem?_cons_succ → Lqc, getElem?_nil → Lqd, length_cons → Lqe, length_nil → Lqf
open Nat renaming zero_add → Nqa
noncomputable def B_ref01_Same_0 (p0 : (List Int)) (p1 : (List Int)) (i2 : Nat) (e3 : Int) : Option (Stp Unit Unit) :=
  kb (getI p1 (i2 : Int)) fun x3 =>
  cnd (decide (e3 = x3)) (
    some (.go ())) (
    some (.ret ()))
def I_ref01_Same_0 (p0 : (List Int)) (p1 : (List Int)) (i2 : Nat) (q : St) : Prop := q (.t 0) = (.pv (.sl p0.length (ints p0))) ∧ q (.t 1) = (.pv (.sl p1.length (ints p1))) ∧ q (.t 12) = (i64 (p0.length : Int)) ∧ q (.t 13) = (i64 (i2 : Int))
def Q_ref01_Same_0 (p0 : (List Int)) (p1 : (List Int)) (q : St) : Prop := True
def QR_ref01_Same_0 (p0 : (List Int)) (p1 : (List Int)) (q : St) : Prop := q (.t 4) = (bl false)
theorem Pb_ref01_Same_0 {p0 : (List Int)} {p1 : (List Int)} {i2 : Nat} {e3 : Int} {q : St} {r : (Stp Unit Unit)} (hx : p0[i2]? = some e3) (hi : i2 < p0.length) (hn : p0.length < 4611686018427387904) (hI : I_ref01_Same_0 p0 p1 i2 q) (hB : B_ref01_Same_0 p0 p1 i2 e3 = some r) : Res (C Tryz.prog cf (Code.fst (Code.fst (Code.snd (Code.fst (Code.snd (Code.snd ((Tryz.f48.body).getD .skip))))))) q) (postB 0 (fun a q => I_ref01_Same_0 p0 p1 (i2 + 1) q) (fun a q => Q_ref01_Same_0 p0 p1 q) (fun a q => QR_ref01_Same_0 p0 p1 q) r) := by
  have hi3 : (i2 : Int) < (p0.length : Int) := by omega
  have hi2 := decide_eq_true hi3
  have hi4 := idx_step hi hn
  have hi5 := ne_of_get hx
  simp only [I_ref01_Same_0] at hI
  obtain ⟨q1, q2, q3, q4⟩ := hI
  simp only [Code.fst, Code.snd, Tryz.f48, Option.getD_some]
  generalize hr6 : Code.region 6 _ _ = rr6
  unfold B_ref01_Same_0 at hB
  obtain ⟨x3, h4, hB⟩ := kb_inv hB
  obtain ⟨h4a, h4b, h4c, h4d⟩ := getI_inv h4
  try simp only [Int.toNat_natCast, Int.reduceToNat] at h4c
  try dsimp only at hB
  rcases cnd_inv hB with ⟨c6, hB⟩ | ⟨c6, hB⟩
  · have pc6 := eq_true (of_decide_eq_true c6)
    obtain rfl := Option.some.inj hB
    subst hr6
    try simp -implicitDefEqProofs [-getElem?_pos, -Iqa, -Iqb, -Iqc, -Iqd, -Lqa, Lqb, Lqc, Lqd, q1, q2, q3, q4, hx, hi2, hi3, hi4, hi5, h4a, h4b, h4c, h4d, c6, pc6]
    rw [drawK_ok _ _ _ (by kernel_rfl)]
    simp -implicitDefEqProofs [-getElem?_pos, -Iqa, -Iqb, -Iqc, -Iqd, -Lqa, Lqb, Lqc, Lqd, q1, q2, q3, q4, hx, hi2, hi3, hi4, hi5, h4a, h4b, h4c, h4d, c6, pc6]
    refine Res.bgo ?_
    simp -implicitDefEqProofs [-getElem?_pos, -Iqa, -Iqb, -Iqc, -Iqd, -Lqa, Lqb, Lqc, Lqd, and_assoc, I_ref01_Same_0, ownAt, q1, q2, q3, q4, hx, hi2, hi3, hi4, hi5, h4a, h4b, h4c, h4d, c6, pc6]
  · have pc6 := eq_false (of_decide_eq_false c6)
    obtain rfl := Option.some.inj hB
    subst hr6
    try simp -implicitDefEqProofs [-getElem?_pos, -Iqa, -Iqb, -Iqc, -Iqd, -Lqa, Lqb, Lqc, Lqd, q1, q2, q3, q4, hx, hi2, hi3, hi4, hi5, h4a, h4b, h4c, h4d, c6, pc6]
    rw [drawK_ok _ _ _ (by kernel_rfl)]
    simp -implicitDefEqProofs [-getElem?_pos, -Iqa, -Iqb, -Iqc, -Iqd, -Lqa, Lqb, Lqc, Lqd, q1, q2, q3, q4, hx, hi2, hi3, hi4, hi5, h4a, h4b, h4c, h4d, c6, pc6]
    refine Res.bret ?_
    simp -implicitDefEqProofs [-getElem?_pos, -Iqa, -Iqb, -Iqc, -Iqd, -Lqa, Lqb, Lqc, Lqd, and_assoc, QR_ref01_Same_0, ownAt, q1, q2, q3, q4, hx, hi2, hi3, hi4, hi5, h4a, h4b, h4c, h4d, c6, pc6]
theorem Pe_ref01_Same_0 {p0 : (List Int)} {p1 : (List Int)} {q : St} (hI : I_ref01_Same_0 p0 p1 p0.length q) : Res (C Tryz.prog cf (Code.fst (Code.fst (Code.snd (Code.fst (Code.snd (Code.snd ((Tryz.f48.body).getD .skip))))))) q) fun e q' => e = .exit 0 ∧ Q_ref01_Same_0 p0 p1 q' := by
  simp only [I_ref01_Same_0] at hI
  obtain ⟨q1, q2, q3, q4⟩ := hI
  simp only [Code.fst, Code.snd, Tryz.f48, Option.getD_some]
  simp -implicitDefEqProofs [-getElem?_pos, -Iqa, -Iqb, -Iqc, -Iqd, -Lqa, Lqb, Lqc, Lqd, q1, q2, q3, q4]
  refine Res.x ?_
  simp -implicitDefEqProofs [-getElem?_pos, -Iqa, -Iqb, -Iqc, -Iqd, -Lqa, Lqb, Lqc, Lqd, and_assoc, Q_ref01_Same_0, ownAt, q1, q2, q3, q4]
theorem P_ref01_Same_0 {p0 : (List Int)} {p1 : (List Int)} {cc : Code} (hcc : cc = .block 0 (.loop (Code.fst (Code.fst (Code.snd (Code.fst (Code.snd (Code.snd ((Tryz.f48.body).getD .skip))))))))) {s : St} {z : Option (Ex × St)} (hz : C Tryz.prog cf cc s = z) {r : (Stp Unit Unit)} (hn : p0.length < 4611686018427387904) (hI : I_ref01_Same_0 p0 p1 0 s) (hB : loopL (fun i a x => B_ref01_Same_0 p0 p1 i x) 0 () p0 = some r) : Res z (postS (fun a q => Q_ref01_Same_0 p0 p1 q) (fun a q => QR_ref01_Same_0 p0 p1 q) r) := by
  subst hcc
  exact loopL_sim (I := fun i a q => I_ref01_Same_0 p0 p1 i q) (Q := (fun a q => Q_ref01_Same_0 p0 p1 q)) (QR := (fun a q => QR_ref01_Same_0 p0 p1 q)) (fun i x a q r hx hi h hB => Pb_ref01_Same_0 hx hi hn h hB) (fun a q h => Pe_ref01_Same_0 h) hI hz hB
noncomputable def B_ref01_Same (p0 : (List Int)) (p1 : (List Int)) : Option Bool :=
  cnd (decide ((p0.length : Int) = (p1.length : Int))) (
    kb (smallK p0) fun _ =>
    kb (loopL (fun i a x => B_ref01_Same_0 p0 p1 i x) 0 () p0) fun o => stpK o (fun z7 =>
      some true) (fun z7r =>
      some false)) (
    some false)
theorem sim_ref01_Same {p0 : (List Int)} {p1 : (List Int)} {r : Bool} (hB : B_ref01_Same p0 p1 = some r) : R 48 [(.pv (.sl p0.length (ints p0))), (.pv (.sl p1.length (ints p1)))] [] = some ((bl r), [], []) := by
  rw [R_eq _ _ _ fn_ref01_Same]
  simp only [Code.fst, Code.snd, Tryz.f48, Option.getD_some]
  generalize hc0 : Code.block 0 _ = cc0
  generalize hr1 : Code.region 1 _ _ = rr1
  unfold B_ref01_Same at hB
  rcases cnd_inv hB with ⟨c1, hB⟩ | ⟨c1, hB⟩
  · have pc1 := eq_true (of_decide_eq_true c1)
    have nc1 := c1
    try simp only [Lqf, Lqe, Iqe, Iqf, Nqa, Nat.reduceAdd, Int.reduceLT, Int.reduceLE, Int.reduceEq, eq_self, decide_true, decide_false, Bool.true_eq_false, Bool.false_eq_true] at nc1
    all_goals
      subst hr1
      try simp -implicitDefEqProofs [-getElem?_pos, -Iqa, -Iqb, -Iqc, -Iqd, -Lqa, Lqb, Lqc, Lqd, c1, pc1, nc1]
      generalize hz0 : C Tryz.prog cf cc0 _ = z0
      obtain ⟨_, hsm, hB⟩ := kb_inv hB
      obtain ⟨o, hB1, hB⟩ := kb_inv hB
      have hJ := P_ref01_Same_0 (hc0.symm.trans (by kernel_rfl)) hz0 (smallK_inv hsm) (by simp -implicitDefEqProofs [-getElem?_pos, -Iqa, -Iqb, -Iqc, -Iqd, -Lqa, Lqb, Lqc, Lqd, and_assoc, I_ref01_Same_0, ownAt, c1, pc1, nc1]) hB1
      obtain ⟨e0, s0, rfl, hq⟩ := hJ.open
      clear hB1
      rcases o with z7 | ⟨_, _⟩ | z7r
      · simp only [stpK_go] at hB
        obtain ⟨rfl, hq⟩ := hq
        simp only [Q_ref01_Same_0] at hq
        obtain rfl := Option.some.inj hB
        simp -implicitDefEqProofs [-getElem?_pos, -Iqa, -Iqb, -Iqc, -Iqd, -Lqa, Lqb, Lqc, Lqd, c1, pc1, nc1]
      · exact hq.elim
      · simp only [stpK_ret] at hB
        obtain ⟨rfl, hq⟩ := hq
        simp only [QR_ref01_Same_0] at hq
        have q7_r1 := hq
        obtain rfl := Option.some.inj hB
        simp -implicitDefEqProofs [-getElem?_pos, -Iqa, -Iqb, -Iqc, -Iqd, -Lqa, Lqb, Lqc, Lqd, q7_r1, c1, pc1, nc1]
  · have pc1 := eq_false (of_decide_eq_false c1)
    have nc1 := c1
    try simp only [Lqf, Lqe, Iqe, Iqf, Nqa, Nat.reduceAdd, Int.reduceLT, Int.reduceLE, Int.reduceEq, eq_self, decide_true, decide_false, Bool.true_eq_false, Bool.false_eq_true] at nc1
    all_goals
      obtain rfl := Option.some.inj hB
      subst hr1
      simp -implicitDefEqProofs [-getElem?_pos, -Iqa, -Iqb, -Iqc, -Iqd, -Lqa, Lqb, Lqc, Lqd, c1, pc1, nc1]
theorem g_ref01_Same {p0 : (List Int)} {p1 : (List Int)} {r : Bool} (hB : B_ref01_Same p0 p1 = some r) : G_ref01_Same p0 p1 = some r := dec_of (fun a b h => by rcases a with a0_; rcases b with b0_; simp at h; simp [*]) (sim_ref01_Same hB)
end Go.Am
namespace Go.Am
open Go Go.Proofs
set_option maxRecDepth 4000
set_option maxHeartbeats 4000000
open Int renaming ofNat_lt → Iqa, ofNat_le → Iqb, natCast_eq_zero → Iqc, natCast_pos → Iqd, cast_ofNat_Int → Iqe, natCast_zero → Iqf
open List renaming length_eq_zero_iff → Lqa, getElem?_cons_zero → Lqb, getElem?_cons_succ → Lqc, getElem?_nil → Lqd, length_cons → Lqe, length_nil → Lqf, nil_append → Lqg, cons_append → Lqh
open Nat renaming zero_add → Nqa
open Tru renaming thr_mk → Tqa, nodes_mk → Tqb, inner_mk → Tqc
open Go.Am renaming es_api_Declaration_cons → Eqa, es_api_Declaration_nil → Eqb, es_api_Evidence_cons → Eqc, es_api_Evidence_nil → Eqd, ints_cons → Eqe, ints_nil → Eqf, encTs_cons → Eqg, encTs_nil → Eqh, es_str_cons → Eqi, es_str_nil → Eqj, es_u64_cons → Eqk, es_u64_nil → Eql, es_u8_cons → Eqm, es_u8_nil → Eqn
noncomputable def B_ref02_Same_0 (p0 : Tru) (p1 : Tru) : Option Bool :=
  cnd (decide (p0.thr = p1.thr)) (
    kb (G_ref01_Same p0.nodes p1.nodes) fun y2 =>
    cnd y2 (
      some (!(decide ((p0.inner.length : Int) = (p1.inner.length : Int))))) (
      some true)) (
    some true)
def J_ref02_Same_0 (p0 : Tru) (p1 : Tru) (q : St) : Prop := (∃ (g : Nat), q (.t 2) = .ptr (.site 0 0 0) g 0 ∧ q (.i (.site 0 0 0)) = .box g [(i64 p0.thr), (.pv (.sl p0.nodes.length (ints p0.nodes))), (.pv (.sl p0.inner.length (encTs p0.inner)))]) ∧ (∃ (g : Nat), q (.t 3) = .ptr (.site 0 1 0) g 0 ∧ q (.i (.site 0 1 0)) = .box g [(i64 p1.thr), (.pv (.sl p1.nodes.length (ints p1.nodes))), (.pv (.sl p1.inner.length (encTs p1.inner)))])
def Q_ref02_Same_0 (p0 : Tru) (p1 : Tru) (o27_0 : Bool) (q : St) : Prop := q (.t 27) = (bl o27_0) ∧ (∃ (g : Nat), q (.t 2) = .ptr (.site 0 0 0) g 0 ∧ q (.i (.site 0 0 0)) = .box g [(i64 p0.thr), (.pv (.sl p0.nodes.length (ints p0.nodes))), (.pv (.sl p0.inner.length (encTs p0.inner)))]) ∧ (∃ (g : Nat), q (.t 3) = .ptr (.site 0 1 0) g 0 ∧ q (.i (.site 0 1 0)) = .box g [(i64 p1.thr), (.pv (.sl p1.nodes.length (ints p1.nodes))), (.pv (.sl p1.inner.length (encTs p1.inner)))])
theorem P_ref02_Same_0 {p0 : Tru} {p1 : Tru} {cc : Code} (hcc : cc = (Code.fst (Code.fst (Code.snd ((Tryz.f13.body).getD .skip))))) {s : St} {z : Option (Ex × St)} (hz : C Tryz.prog cf cc s = z) {r : Bool} (hI : J_ref02_Same_0 p0 p1 s) (hB : B_ref02_Same_0 p0 p1 = some r) : Res z (postG (fun a q => Q_ref02_Same_0 p0 p1 a q) r) := by
  subst hcc
  subst hz
  simp only [J_ref02_Same_0] at hI
  obtain ⟨⟨g2, q1, q2⟩, ⟨g4, q3, q4⟩⟩ := hI
  simp only [Code.fst, Code.snd, Tryz.f13, Option.getD_some]
  unfold B_ref02_Same_0 at hB
  rcases cnd_inv hB with ⟨c1, hB⟩ | ⟨c1, hB⟩
  · have pc1 := eq_true (of_decide_eq_true c1)
    obtain ⟨y2, k3, hB⟩ := kb_inv hB
    replace k3 := run_ref01_Same k3
    try simp only [Iqe, Iqf, Lqe, Lqf, Lqg, Lqh, Nqa, Nat.reduceAdd, Tqa, Tqb, Tqc, Eqe, Eqf, Eqg, Eqh, Eqa, Eqb, Eqc, Eqd, Eqi, Eqj, Eqk, Eql, Eqm, Eqn] at k3
    try dsimp only at hB
    rcases cnd_inv hB with ⟨c4, hB⟩ | ⟨c4, hB⟩
    · obtain rfl := Option.some.inj hB
      try simp -implicitDefEqProofs [-getElem?_pos, -Iqa, -Iqb, -Iqc, -Iqd, -Lqa, Lqb, Lqc, Lqd, q1, q2, q3, q4, c1, pc1, k3, c4]
      refine Res.g ?_
      simp -implicitDefEqProofs [-getElem?_pos, -Iqa, -Iqb, -Iqc, -Iqd, -Lqa, Lqb, Lqc, Lqd, and_assoc, Q_ref02_Same_0, ownAt, q1, q2, q3, q4, c1, pc1, k3, c4]
    · obtain rfl := Option.some.inj hB
      try simp -implicitDefEqProofs [-getElem?_pos, -Iqa, -Iqb, -Iqc, -Iqd, -Lqa, Lqb, Lqc, Lqd, q1, q2, q3, q4, c1, pc1, k3, c4]
      refine Res.g ?_
      simp -implicitDefEqProofs [-getElem?_pos, -Iqa, -Iqb, -Iqc, -Iqd, -Lqa, Lqb, Lqc, Lqd, and_assoc, Q_ref02_Same_0, ownAt, q1, q2, q3, q4, c1, pc1, k3, c4]
  · have pc1 := eq_false (of_decide_eq_false c1)
    obtain rfl := Option.some.inj hB
    try simp -implicitDefEqProofs [-getElem?_pos, -Iqa, -Iqb, -Iqc, -Iqd, -Lqa, Lqb, Lqc, Lqd, q1, q2, q3, q4, c1, pc1]
    refine Res.g ?_
    simp -implicitDefEqProofs [-getElem?_pos, -Iqa, -Iqb, -Iqc, -Iqd, -Lqa, Lqb, Lqc, Lqd, and_assoc, Q_ref02_Same_0, ownAt, q1, q2, q3, q4, c1, pc1]
noncomputable def B_ref02_Same_1 (p0 : Tru) (p1 : Tru) (i7 : Nat) (e8 : Tru) : Option (Stp Unit Unit) :=
  kb (getI p1.inner (i7 : Int)) fun x8 =>
  kb (G_ref02_Same e8 x8) fun y11 =>
  cnd y11 (
    some (.go ())) (
    some (.ret ()))
def I_ref02_Same_1 (p0 : Tru) (p1 : Tru) (i7 : Nat) (q : St) : Prop := q (.t 30) = (i64 (p0.inner.length : Int)) ∧ q (.t 31) = (i64 (i7 : Int)) ∧ (∃ (g : Nat), q (.t 2) = .ptr (.site 0 0 0) g 0 ∧ q (.i (.site 0 0 0)) = .box g [(i64 p0.thr), (.pv (.sl p0.nodes.length (ints p0.nodes))), (.pv (.sl p0.inner.length (encTs p0.inner)))]) ∧ (∃ (g : Nat), q (.t 3) = .ptr (.site 0 1 0) g 0 ∧ q (.i (.site 0 1 0)) = .box g [(i64 p1.thr), (.pv (.sl p1.nodes.length (ints p1.nodes))), (.pv (.sl p1.inner.length (encTs p1.inner)))])
def Q_ref02_Same_1 (p0 : Tru) (p1 : Tru) (q : St) : Prop := True
def QR_ref02_Same_1 (p0 : Tru) (p1 : Tru) (q : St) : Prop := q (.t 4) = (bl false)
theorem Pb_ref02_Same_1 {p0 : Tru} {p1 : Tru} {i7 : Nat} {e8 : Tru} {q : St} {r : (Stp Unit Unit)} (hx : p0.inner[i7]? = some e8) (hi : i7 < p0.inner.length) (hn : p0.inner.length < 4611686018427387904) (hI : I_ref02_Same_1 p0 p1 i7 q) (hB : B_ref02_Same_1 p0 p1 i7 e8 = some r) : Res (C Tryz.prog cf (Code.fst (Code.fst (Code.snd (Code.fst (Code.snd (Code.snd ((Tryz.f13.body).getD .skip))))))) q) (postB 0 (fun a q => I_ref02_Same_1 p0 p1 (i7 + 1) q) (fun a q => Q_ref02_Same_1 p0 p1 q) (fun a q => QR_ref02_Same_1 p0 p1 q) r) := by
  have hi3 : (i7 : Int) < (p0.inner.length : Int) := by omega
  have hi2 := decide_eq_true hi3
  have hi4 := idx_step hi hn
  have hi5 := ne_of_get hx
  simp only [I_ref02_Same_1] at hI
  obtain ⟨q1, q2, ⟨g4, q3, q4⟩, ⟨g6, q5, q6⟩⟩ := hI
  simp only [Code.fst, Code.snd, Tryz.f13, Option.getD_some]
  generalize hr6 : Code.region 6 _ _ = rr6
  unfold B_ref02_Same_1 at hB
  have l7 := encTs_ld hx
  obtain ⟨x8, h9, hB⟩ := kb_inv hB
  obtain ⟨h9a, h9b, h9c, h9d⟩ := getI_inv h9
  try simp only [Int.toNat_natCast, Int.reduceToNat] at h9c
  try dsimp only at hB
  have l10 := encTs_ld h9c
  obtain ⟨y11, k12, hB⟩ := kb_inv hB
  replace k12 := run_ref02_Same k12
  try simp only [Iqe, Iqf, Lqe, Lqf, Lqg, Lqh, Nqa, Nat.reduceAdd, Tqa, Tqb, Tqc, Eqe, Eqf, Eqg, Eqh, Eqa, Eqb, Eqc, Eqd, Eqi, Eqj, Eqk, Eql, Eqm, Eqn] at k12
  try dsimp only at hB
  rcases cnd_inv hB with ⟨c13, hB⟩ | ⟨c13, hB⟩
  · obtain rfl := Option.some.inj hB
    subst hr6
    try simp -implicitDefEqProofs [-getElem?_pos, -Iqa, -Iqb, -Iqc, -Iqd, -Lqa, Lqb, Lqc, Lqd, q1, q2, q3, q4, q5, q6, hx, hi2, hi3, hi4, hi5, l7, h9a, h9b, h9c, h9d, l10, k12, c13]
    rw [drawK_ok _ _ _ (by kernel_rfl)]
    simp -implicitDefEqProofs [-getElem?_pos, -Iqa, -Iqb, -Iqc, -Iqd, -Lqa, Lqb, Lqc, Lqd, q1, q2, q3, q4, q5, q6, hx, hi2, hi3, hi4, hi5, l7, h9a, h9b, h9c, h9d, l10, k12, c13]
    refine Res.bgo ?_
    simp -implicitDefEqProofs [-getElem?_pos, -Iqa, -Iqb, -Iqc, -Iqd, -Lqa, Lqb, Lqc, Lqd, and_assoc, I_ref02_Same_1, ownAt, q1, q2, q3, q4, q5, q6, hx, hi2, hi3, hi4, hi5, l7, h9a, h9b, h9c, h9d, l10, k12, c13]
  · obtain rfl := Option.some.inj hB
    subst hr6
    try simp -implicitDefEqProofs [-getElem?_pos, -Iqa, -Iqb, -Iqc, -Iqd, -Lqa, Lqb, Lqc, Lqd, q1, q2, q3, q4, q5, q6, hx, hi2, hi3, hi4, hi5, l7, h9a, h9b, h9c, h9d, l10, k12, c13]
    rw [drawK_ok _ _ _ (by kernel_rfl)]
    simp -implicitDefEqProofs [-getElem?_pos, -Iqa, -Iqb, -Iqc, -Iqd, -Lqa, Lqb, Lqc, Lqd, q1, q2, q3, q4, q5, q6, hx, hi2, hi3, hi4, hi5, l7, h9a, h9b, h9c, h9d, l10, k12, c13]
    refine Res.bret ?_
    simp -implicitDefEqProofs [-getElem?_pos, -Iqa, -Iqb, -Iqc, -Iqd, -Lqa, Lqb, Lqc, Lqd, and_assoc, QR_ref02_Same_1, ownAt, q1, q2, q3, q4, q5, q6, hx, hi2, hi3, hi4, hi5, l7, h9a, h9b, h9c, h9d, l10, k12, c13]
theorem Pe_ref02_Same_1 {p0 : Tru} {p1 : Tru} {q : St} (hI : I_ref02_Same_1 p0 p1 p0.inner.length q) : Res (C Tryz.prog cf (Code.fst (Code.fst (Code.snd (Code.fst (Code.snd (Code.snd ((Tryz.f13.body).getD .skip))))))) q) fun e q' => e = .exit 0 ∧ Q_ref02_Same_1 p0 p1 q' := by
  simp only [I_ref02_Same_1] at hI
  obtain ⟨q1, q2, ⟨g4, q3, q4⟩, ⟨g6, q5, q6⟩⟩ := hI
  simp only [Code.fst, Code.snd, Tryz.f13, Option.getD_some]
  simp -implicitDefEqProofs [-getElem?_pos, -Iqa, -Iqb, -Iqc, -Iqd, -Lqa, Lqb, Lqc, Lqd, q1, q2, q3, q4, q5, q6]
  refine Res.x ?_
  simp -implicitDefEqProofs [-getElem?_pos, -Iqa, -Iqb, -Iqc, -Iqd, -Lqa, Lqb, Lqc, Lqd, and_assoc, Q_ref02_Same_1, ownAt, q1, q2, q3, q4, q5, q6]
theorem P_ref02_Same_1 {p0 : Tru} {p1 : Tru} {cc : Code} (hcc : cc = .block 0 (.loop (Code.fst (Code.fst (Code.snd (Code.fst (Code.snd (Code.snd ((Tryz.f13.body).getD .skip))))))))) {s : St} {z : Option (Ex × St)} (hz : C Tryz.prog cf cc s = z) {r : (Stp Unit Unit)} (hn : p0.inner.length < 4611686018427387904) (hI : I_ref02_Same_1 p0 p1 0 s) (hB : loopL (fun i a x => B_ref02_Same_1 p0 p1 i x) 0 () p0.inner = some r) : Res z (postS (fun a q => Q_ref02_Same_1 p0 p1 q) (fun a q => QR_ref02_Same_1 p0 p1 q) r) := by
  subst hcc
  exact loopL_sim (I := fun i a q => I_ref02_Same_1 p0 p1 i q) (Q := (fun a q => Q_ref02_Same_1 p0 p1 q)) (QR := (fun a q => QR_ref02_Same_1 p0 p1 q)) (fun i x a q r hx hi h hB => Pb_ref02_Same_1 hx hi hn h hB) (fun a q h => Pe_ref02_Same_1 h) hI hz hB
noncomputable def B_ref02_Same (p0 : Tru) (p1 : Tru) : Option Bool :=
  kb (B_ref02_Same_0 p0 p1) fun z5 =>
  cnd z5 (
    some false) (
    kb (smallK p0.inner) fun _ =>
    kb (loopL (fun i a x => B_ref02_Same_1 p0 p1 i x) 0 () p0.inner) fun o => stpK o (fun z14 =>
      some true) (fun z14r =>
      some false))
theorem sim_ref02_Same {p0 : Tru} {p1 : Tru} {r : Bool} (hB : B_ref02_Same p0 p1 = some r) : R 13 [(.agg [(i64 p0.thr), (.pv (.sl p0.nodes.length (ints p0.nodes))), (.pv (.sl p0.inner.length (encTs p0.inner)))]), (.agg [(i64 p1.thr), (.pv (.sl p1.nodes.length (ints p1.nodes))), (.pv (.sl p1.inner.length (encTs p1.inner)))])] [] = some ((bl r), [], []) := by
  rw [R_eq _ _ _ fn_ref02_Same]
  simp only [Code.fst, Code.snd, Tryz.f13, Option.getD_some]
  generalize hc0 : Code.region 1 _ _ = cc0
  generalize hc1 : Code.block 0 _ = cc1
  generalize hr3 : Code.region 3 _ _ = rr3
  unfold B_ref02_Same at hB
  try simp -implicitDefEqProofs [-getElem?_pos, -Iqa, -Iqb, -Iqc, -Iqd, -Lqa, Lqb, Lqc, Lqd]
  generalize hz0 : C Tryz.prog cf cc0 _ = z0
  obtain ⟨z5, hB1, hB⟩ := kb_inv hB
  have hJ := P_ref02_Same_0 (hc0.symm.trans (by kernel_rfl)) hz0 (by simp -implicitDefEqProofs [-getElem?_pos, -Iqa, -Iqb, -Iqc, -Iqd, -Lqa, Lqb, Lqc, Lqd, and_assoc, J_ref02_Same_0, ownAt]) hB1
  obtain ⟨e0, s0, rfl, hq⟩ := hJ.open
  clear hB1
  obtain ⟨rfl, hq⟩ := hq
  simp only [Q_ref02_Same_0] at hq
  obtain ⟨q5_1, ⟨g5_3, q5_2, q5_3⟩, ⟨g5_5, q5_4, q5_5⟩⟩ := hq
  rcases cnd_inv hB with ⟨c6, hB⟩ | ⟨c6, hB⟩
  · obtain rfl := Option.some.inj hB
    simp -implicitDefEqProofs [-getElem?_pos, -Iqa, -Iqb, -Iqc, -Iqd, -Lqa, Lqb, Lqc, Lqd, q5_1, q5_2, q5_3, q5_4, q5_5, c6]
  · subst hr3
    try simp -implicitDefEqProofs [-getElem?_pos, -Iqa, -Iqb, -Iqc, -Iqd, -Lqa, Lqb, Lqc, Lqd, q5_1, q5_2, q5_3, q5_4, q5_5, c6]
    generalize hz1 : C Tryz.prog cf cc1 _ = z1
    obtain ⟨_, hsm, hB⟩ := kb_inv hB
    obtain ⟨o, hB1, hB⟩ := kb_inv hB
    have hJ := P_ref02_Same_1 (hc1.symm.trans (by kernel_rfl)) hz1 (smallK_inv hsm) (by simp -implicitDefEqProofs [-getElem?_pos, -Iqa, -Iqb, -Iqc, -Iqd, -Lqa, Lqb, Lqc, Lqd, and_assoc, I_ref02_Same_1, ownAt, q5_1, q5_2, q5_3, q5_4, q5_5, c6]) hB1
    obtain ⟨e1, s1, rfl, hq⟩ := hJ.open
    clear hB1
    rcases o with z14 | ⟨_, _⟩ | z14r
    · simp only [stpK_go] at hB
      obtain ⟨rfl, hq⟩ := hq
      simp only [Q_ref02_Same_1] at hq
      obtain rfl := Option.some.inj hB
      simp -implicitDefEqProofs [-getElem?_pos, -Iqa, -Iqb, -Iqc, -Iqd, -Lqa, Lqb, Lqc, Lqd, c6]
    · exact hq.elim
    · simp only [stpK_ret] at hB
      obtain ⟨rfl, hq⟩ := hq
      simp only [QR_ref02_Same_1] at hq
      have q14_r1 := hq
      obtain rfl := Option.some.inj hB
      simp -implicitDefEqProofs [-getElem?_pos, -Iqa, -Iqb, -Iqc, -Iqd, -Lqa, Lqb, Lqc, Lqd, q14_r1, c6]
theorem g_ref02_Same {p0 : Tru} {p1 : Tru} {r : Bool} (hB : B_ref02_Same p0 p1 = some r) : G_ref02_Same p0 p1 = some r := dec_of (fun a b h => by rcases a with a0_; rcases b with b0_; simp at h; simp [*]) (sim_ref02_Same hB)
end Go.Am
/-
Plain laws: when two trusts are the same.
-/
namespace Go.Am
open Go
/-! ### the same -/
/-- a loop that goes over two lists -/
theorem same_loop {X : Type} (l m : List X) (h : l.length = m.length) (f : Nat → Unit → X → Option (Stp Unit Unit)) (p : X → X → Prop)
    (hf : ∀ (i : Nat) (x y : X), l[i]? = some x → m[i]? = some y → ∃ o, f i () x = some o ∧ ((p x y ∧ o = .go ()) ∨ (¬ p x y ∧ o = .ret ()))) :
    ∃ o, loopL f 0 () l = some o ∧ (((∀ (i : Nat) (x y : X), l[i]? = some x → m[i]? = some y → p x y) ∧ o = .go ()) ∨ ((¬ ∀ (i : Nat) (x y : X), l[i]? = some x → m[i]? = some y → p x y) ∧ o = .ret ())) := by
  have hx : ∀ (d j : Nat), j + d = l.length → ∃ o, loopL f j () (l.drop j) = some o ∧ (((∀ (i : Nat) (x y : X), j ≤ i → l[i]? = some x → m[i]? = some y → p x y) ∧ o = .go ()) ∨ ((¬ ∀ (i : Nat) (x y : X), j ≤ i → l[i]? = some x → m[i]? = some y → p x y) ∧ o = .ret ())) := by
    intro d
    induction d with
    | zero =>
      intro j hj
      rw [List.drop_of_length_le (by omega)]
      refine ⟨_, rfl, .inl ⟨fun i x y hi hx => ?_, rfl⟩⟩
      have := (List.getElem?_eq_some_iff.1 hx).1
      omega
    | succ d ih =>
      intro j hj
      have h1 : j < l.length := by omega
      have h2 : j < m.length := by omega
      rw [List.drop_eq_getElem_cons h1]
      obtain ⟨o, ho, hp⟩ := hf j l[j] m[j] (by simp [h1]) (by simp [h2])
      obtain ⟨o', ho', hp'⟩ := ih (j + 1) (by omega)
      rcases hp with ⟨hp, rfl⟩ | ⟨hp, rfl⟩
      · refine ⟨o', ?_, ?_⟩
        · show kb (f j () l[j]) _ = _
          rw [ho, kb_some]; exact ho'
        · have e : (∀ (i : Nat) (x y : X), j + 1 ≤ i → l[i]? = some x → m[i]? = some y → p x y) ↔ ∀ (i : Nat) (x y : X), j ≤ i → l[i]? = some x → m[i]? = some y → p x y := by
            constructor
            · intro hh i x y hi hx hy
              rcases Nat.eq_or_lt_of_le hi with rfl | hi
              · rw [List.getElem?_eq_getElem h1] at hx
                rw [List.getElem?_eq_getElem h2] at hy
                cases hx; cases hy; exact hp
              · exact hh i x y hi hx hy
            · intro hh i x y hi; exact hh i x y (by omega)
          rw [← e]; exact hp'
      · refine ⟨.ret (), ?_, .inr ⟨fun hh => hp (hh j _ _ (Nat.le_refl _) (by simp [h1]) (by simp [h2])), rfl⟩⟩
        show kb (f j () l[j]) _ = _
        rw [ho, kb_some]
  obtain ⟨o, h1, h2⟩ := hx l.length 0 (by omega)
  exact ⟨o, h1, by simpa using h2⟩
theorem ext_get {X : Type} {l m : List X} (h : l.length = m.length) : (∀ (i : Nat) (x y : X), l[i]? = some x → m[i]? = some y → x = y) ↔ l = m := by
  constructor
  · intro hh
    apply List.ext_getElem h
    intro i h1 h2
    exact hh i _ _ (by simp [h1]) (by simp [h2])
  · rintro rfl i x y hx hy
    rw [hx] at hy; exact Option.some.inj hy
theorem s_ref01_Same (a b : List Int) (ha : a.length < 4611686018427387904) : ∃ v, G_ref01_Same a b = some v ∧ (v = true ↔ a = b) := by
  have hB : ∃ v, B_ref01_Same a b = some v ∧ (v = true ↔ a = b) := by
    unfold B_ref01_Same
    by_cases c : (a.length : Int) = (b.length : Int)
    · have hl : a.length = b.length := by omega
      simp only [c, decide_true, cnd_true]
      rw [smallK_some ha, kb_some]
      obtain ⟨o, ho, hp⟩ := same_loop a b hl (fun i u x => B_ref01_Same_0 a b i x) (fun x y => x = y) (fun i x y hx hy => by
        refine ⟨if x = y then .go () else .ret (), ?_, ?_⟩
        · unfold B_ref01_Same_0
          rw [getI_nat, hy, kb_some]
          by_cases e : x = y <;> simp [e, cnd_true, cnd_false]
        · by_cases e : x = y <;> simp [e])
      rw [ho, kb_some]
      rw [ext_get hl] at hp
      rcases hp with ⟨hp, rfl⟩ | ⟨hp, rfl⟩
      · exact ⟨true, rfl, by simp [hp]⟩
      · exact ⟨false, rfl, by simp [hp]⟩
    · refine ⟨false, by simp only [c, decide_false, cnd_false], ?_⟩
      have : a ≠ b := fun e => c (by rw [e])
      simp [this]
  obtain ⟨v, h1, h2⟩ := hB
  exact ⟨v, g_ref01_Same h1, h2⟩
theorem s_ref02_Same : ∀ x : Tru, x.Fine → ∀ y : Tru, ∃ v, G_ref02_Same x y = some v ∧ (v = true ↔ x = y) := by
  refine tru_ind fun t n i ih h y => ?_
  obtain ⟨u, m, j⟩ := y
  have hl := Fine_len h
  simp only [Tru.nodes_mk, Tru.inner_mk] at hl
  obtain ⟨v1, e1, h1⟩ := s_ref01_Same n m (by omega)
  have hB : ∃ v, B_ref02_Same (.mk t n i) (.mk u m j) = some v ∧ (v = true ↔ (Tru.mk t n i) = .mk u m j) := by
    have h0 : B_ref02_Same_0 (.mk t n i) (.mk u m j) = some (!(decide (t = u) && (v1 && decide ((i.length : Int) = (j.length : Int))))) := by
      unfold B_ref02_Same_0
      simp only [Tru.thr_mk, Tru.nodes_mk, Tru.inner_mk, e1, kb_some]
      by_cases c : t = u
      · simp only [c, decide_true, cnd_true, Bool.true_and]
        cases v1
        · simp [cnd_false]
        · simp only [cnd_true, Bool.true_and]; rfl
      · simp [c, cnd_false]
    unfold B_ref02_Same
    rw [h0, kb_some]
    simp only [Tru.inner_mk]
    by_cases c1 : t = u
    case neg => exact ⟨false, by simp [c1, cnd_true], by simp [c1]⟩
    by_cases c2 : v1 = true
    case neg =>
      have : n ≠ m := fun e => c2 (h1.2 e)
      have c2' : v1 = false := by simpa using c2
      exact ⟨false, by simp [c2', cnd_true], by simp [this]⟩
    by_cases c3 : (i.length : Int) = (j.length : Int)
    case neg =>
      have : i ≠ j := fun e => c3 (by rw [e])
      exact ⟨false, by simp [c3, cnd_true], by simp [this]⟩
    have hij : i.length = j.length := by omega
    simp only [c1, c2, c3, decide_true, Bool.and_self, Bool.not_true, cnd_false]
    rw [smallK_some (by omega), kb_some]
    obtain ⟨o, ho, hp⟩ := same_loop i j hij (fun k a x => B_ref02_Same_1 (.mk u n i) (.mk u m j) k x) (fun x y => x = y) (fun k x y hx hy => by
      obtain ⟨v, ev, hv⟩ := ih x (List.mem_of_getElem? hx) (Fine_inner h (List.mem_of_getElem? hx)) y
      refine ⟨if v = true then .go () else .ret (), ?_, ?_⟩
      · unfold B_ref02_Same_1
        simp only [Tru.inner_mk]
        rw [getI_nat, hy, kb_some, ev, kb_some]
        cases v <;> rfl
      · rw [← hv]
        cases v <;> simp)
    rw [ho, kb_some]
    rw [ext_get hij] at hp
    have hnm := h1.1 c2
    rcases hp with ⟨hp, rfl⟩ | ⟨hp, rfl⟩
    · exact ⟨true, rfl, by simp [hp, hnm]⟩
    · exact ⟨false, rfl, by simp [hp]⟩
  obtain ⟨v, h2, h3⟩ := hB
  exact ⟨v, g_ref02_Same h2, h3⟩
end Go.Am
namespace Go.Am
open Go Go.Proofs
set_option maxRecDepth 4000
set_option maxHeartbeats 4000000
open Int renaming ofNat_lt → Iqa, ofNat_le → Iqb, natCast_eq_zero → Iqc, natCast_pos → Iqd
open List renaming length_eq_zero_iff → Lqa, getElem?_cons_zero → Lqb, getElem?_cons_succ → Lqc, getElem?_nil → Lqd
noncomputable def B_threshold_node (p0 : Int) : Option Bool :=
  cnd (decide (0 ≤ p0)) (
    some (decide (p0 < 10))) (
    some false)
theorem sim_threshold_node {p0 : Int} {r : Bool} (hB : B_threshold_node p0 = some r) : R 117 [(i64 p0)] [] = some ((bl r), [], []) := by
  rw [R_eq _ _ _ fn_threshold_node]
  simp only [Code.fst, Code.snd, Tryz.f117, Option.getD_some]
  generalize hr1 : Code.region 1 _ _ = rr1
  unfold B_threshold_node at hB
  rcases cnd_inv hB with ⟨c1, hB⟩ | ⟨c1, hB⟩
  · have pc1 := eq_true (of_decide_eq_true c1)
    obtain rfl := Option.some.inj hB
    subst hr1
    simp -implicitDefEqProofs [-getElem?_pos, -Iqa, -Iqb, -Iqc, -Iqd, -Lqa, Lqb, Lqc, Lqd, c1, pc1]
  · have pc1 := eq_false (of_decide_eq_false c1)
    obtain rfl := Option.some.inj hB
    subst hr1
    simp -implicitDefEqProofs [-getElem?_pos, -Iqa, -Iqb, -Iqc, -Iqd, -Lqa, Lqb, Lqc, Lqd, c1, pc1]
theorem g_threshold_node {p0 : Int} {r : Bool} (hB : B_threshold_node p0 = some r) : G_threshold_node p0 = some r := dec_of (fun a b h => by rcases a with a0_; rcases b with b0_; simp at h; simp [*]) (sim_threshold_node hB)
end Go.Am
namespace Go.Am
open Go Go.Proofs
set_option maxRecDepth 4000
set_option maxHeartbeats 4000000
open Int renaming ofNat_lt → Iqa, ofNat_le → Iqb, natCast_eq_zero → Iqc, natCast_pos → Iqd, cast_ofNat_Int → Iqe, natCast_zero → Iqf
open List renaming length_eq_zero_iff → Lqa, getElem?_cons_zero → Lqb, getElem?_cons_succ → Lqc, getElem?_nil → Lqd, length_cons → Lqe, length_nil → Lqf, nil_append → Lqg, cons_append → Lqh
open Nat renaming zero_add → Nqa
open Tru renaming thr_mk → Tqa, nodes_mk → Tqb, inner_mk → Tqc
open Go.Am renaming es_api_Declaration_cons → Eqa, es_api_Declaration_nil → Eqb, es_api_Evidence_cons → Eqc, es_api_Evidence_nil → Eqd, ints_cons → Eqe, ints_nil → Eqf, encTs_cons → Eqg, encTs_nil → Eqh, es_str_cons → Eqi, es_str_nil → Eqj, es_u64_cons → Eqk, es_u64_nil → Eql, es_u8_cons → Eqm, es_u8_nil → Eqn
noncomputable def B_threshold_level_fn1 (p0 : Int) : Option Bool :=
  kb (G_threshold_node p0) fun y1 =>
  some (!y1)
theorem sim_threshold_level_fn1 {p0 : Int} {r : Bool} (hB : B_threshold_level_fn1 p0 = some r) : R 116 [(i64 p0)] [] = some ((bl r), [], []) := by
  rw [R_eq _ _ _ fn_threshold_level_fn1]
  simp only [Code.fst, Code.snd, Tryz.f116, Option.getD_some]
  generalize hr1 : Code.region 1 _ _ = rr1
  unfold B_threshold_level_fn1 at hB
  obtain ⟨y1, k2, hB⟩ := kb_inv hB
  replace k2 := run_threshold_node k2
  try simp only [Iqe, Iqf, Lqe, Lqf, Lqg, Lqh, Nqa, Nat.reduceAdd, Tqa, Tqb, Tqc, Eqe, Eqf, Eqg, Eqh, Eqa, Eqb, Eqc, Eqd, Eqi, Eqj, Eqk, Eql, Eqm, Eqn] at k2
  try dsimp only at hB
  obtain rfl := Option.some.inj hB
  subst hr1
  simp -implicitDefEqProofs [-getElem?_pos, -Iqa, -Iqb, -Iqc, -Iqd, -Lqa, Lqb, Lqc, Lqd, k2]
theorem g_threshold_level_fn1 {p0 : Int} {r : Bool} (hB : B_threshold_level_fn1 p0 = some r) : G_threshold_level_fn1 p0 = some r := dec_of (fun a b h => by rcases a with a0_; rcases b with b0_; simp at h; simp [*]) (sim_threshold_level_fn1 hB)
end Go.Am
namespace Go.Am
open Go Go.Proofs
set_option maxRecDepth 4000
set_option maxHeartbeats 4000000
open Int renaming ofNat_lt → Iqa, ofNat_le → Iqb, natCast_eq_zero → Iqc, natCast_pos → Iqd, cast_ofNat_Int → Iqe, natCast_zero → Iqf
open List renaming length_eq_zero_iff → Lqa, getElem?_cons_zero → Lqb, getElem?_cons_succ → Lqc, getElem?_nil → Lqd, length_cons → Lqe, length_nil → Lqf, nil_append → Lqg, cons_append → Lqh
open Nat renaming zero_add → Nqa
open Tru renaming thr_mk → Tqa, nodes_mk → Tqb, inner_mk → Tqc
open Go.Am renaming es_api_Declaration_cons → Eqa, es_api_Declaration_nil → Eqb, es_api_Evidence_cons → Eqc, es_api_Evidence_nil → Eqd, ints_cons → Eqe, ints_nil → Eqf, encTs_cons → Eqg, encTs_nil → Eqh, es_str_cons → Eqi, es_str_nil → Eqj, es_u64_cons → Eqk, es_u64_nil → Eql, es_u8_cons → Eqm, es_u8_nil → Eqn
noncomputable def B_slices_IndexFunc___int_int__0 (p0 : (List Int)) (i1 : Nat) (e2 : Int) : Option (Stp Unit Int) :=
  kb (G_threshold_level_fn1 e2) fun y2 =>
  cnd y2 (
    some (.ret (i1 : Int))) (
    some (.go ()))
def I_slices_IndexFunc___int_int__0 (p0 : (List Int)) (i1 : Nat) (q : St) : Prop := q (.t 0) = (.pv (.sl p0.length (ints p0))) ∧ q (.t 1) = (.fn 116 [] []) ∧ q (.t 7) = (i64 (p0.length : Int)) ∧ q (.t 8) = (i64 (i1 : Int))
def Q_slices_IndexFunc___int_int__0 (p0 : (List Int)) (q : St) : Prop := True
def QR_slices_IndexFunc___int_int__0 (p0 : (List Int)) (r4_0 : Int) (q : St) : Prop := q (.t 4) = (i64 r4_0)
theorem Pb_slices_IndexFunc___int_int__0 {p0 : (List Int)} {i1 : Nat} {e2 : Int} {q : St} {r : (Stp Unit Int)} (hx : p0[i1]? = some e2) (hi : i1 < p0.length) (hn : p0.length < 4611686018427387904) (hI : I_slices_IndexFunc___int_int__0 p0 i1 q) (hB : B_slices_IndexFunc___int_int__0 p0 i1 e2 = some r) : Res (C Tryz.prog cf (Code.fst (Code.fst (Code.snd (Code.fst (Code.snd ((Tryz.f135.body).getD .skip)))))) q) (postB 0 (fun a q => I_slices_IndexFunc___int_int__0 p0 (i1 + 1) q) (fun a q => Q_slices_IndexFunc___int_int__0 p0 q) (fun a q => QR_slices_IndexFunc___int_int__0 p0 a q) r) := by
  have hi3 : (i1 : Int) < (p0.length : Int) := by omega
  have hi2 := decide_eq_true hi3
  have hi4 := idx_step hi hn
  have hi5 := ne_of_get hx
  simp only [I_slices_IndexFunc___int_int__0] at hI
  obtain ⟨q1, q2, q3, q4⟩ := hI
  simp only [Code.fst, Code.snd, Tryz.f135, Option.getD_some]
  generalize hr4 : Code.region 4 _ _ = rr4
  unfold B_slices_IndexFunc___int_int__0 at hB
  obtain ⟨y2, k3, hB⟩ := kb_inv hB
  replace k3 := run_threshold_level_fn1 k3
  try simp only [Iqe, Iqf, Lqe, Lqf, Lqg, Lqh, Nqa, Nat.reduceAdd, Tqa, Tqb, Tqc, Eqe, Eqf, Eqg, Eqh, Eqa, Eqb, Eqc, Eqd, Eqi, Eqj, Eqk, Eql, Eqm, Eqn] at k3
  try dsimp only at hB
  rcases cnd_inv hB with ⟨c4, hB⟩ | ⟨c4, hB⟩
  · obtain rfl := Option.some.inj hB
    subst hr4
    try simp -implicitDefEqProofs [-getElem?_pos, -Iqa, -Iqb, -Iqc, -Iqd, -Lqa, Lqb, Lqc, Lqd, q1, q2, q3, q4, hx, hi2, hi3, hi4, hi5, k3, c4]
    refine Res.bret ?_
    simp -implicitDefEqProofs [-getElem?_pos, -Iqa, -Iqb, -Iqc, -Iqd, -Lqa, Lqb, Lqc, Lqd, and_assoc, QR_slices_IndexFunc___int_int__0, ownAt, q1, q2, q3, q4, hx, hi2, hi3, hi4, hi5, k3, c4]
  · obtain rfl := Option.some.inj hB
    subst hr4
    try simp -implicitDefEqProofs [-getElem?_pos, -Iqa, -Iqb, -Iqc, -Iqd, -Lqa, Lqb, Lqc, Lqd, q1, q2, q3, q4, hx, hi2, hi3, hi4, hi5, k3, c4]
    refine Res.bgo ?_
    simp -implicitDefEqProofs [-getElem?_pos, -Iqa, -Iqb, -Iqc, -Iqd, -Lqa, Lqb, Lqc, Lqd, and_assoc, I_slices_IndexFunc___int_int__0, ownAt, q1, q2, q3, q4, hx, hi2, hi3, hi4, hi5, k3, c4]
theorem Pe_slices_IndexFunc___int_int__0 {p0 : (List Int)} {q : St} (hI : I_slices_IndexFunc___int_int__0 p0 p0.length q) : Res (C Tryz.prog cf (Code.fst (Code.fst (Code.snd (Code.fst (Code.snd ((Tryz.f135.body).getD .skip)))))) q) fun e q' => e = .exit 0 ∧ Q_slices_IndexFunc___int_int__0 p0 q' := by
  simp only [I_slices_IndexFunc___int_int__0] at hI
  obtain ⟨q1, q2, q3, q4⟩ := hI
  simp only [Code.fst, Code.snd, Tryz.f135, Option.getD_some]
  simp -implicitDefEqProofs [-getElem?_pos, -Iqa, -Iqb, -Iqc, -Iqd, -Lqa, Lqb, Lqc, Lqd, q1, q2, q3, q4]
  refine Res.x ?_
  simp -implicitDefEqProofs [-getElem?_pos, -Iqa, -Iqb, -Iqc, -Iqd, -Lqa, Lqb, Lqc, Lqd, and_assoc, Q_slices_IndexFunc___int_int__0, ownAt, q1, q2, q3, q4]
theorem P_slices_IndexFunc___int_int__0 {p0 : (List Int)} {cc : Code} (hcc : cc = .block 0 (.loop (Code.fst (Code.fst (Code.snd (Code.fst (Code.snd ((Tryz.f135.body).getD .skip)))))))) {s : St} {z : Option (Ex × St)} (hz : C Tryz.prog cf cc s = z) {r : (Stp Unit Int)} (hn : p0.length < 4611686018427387904) (hI : I_slices_IndexFunc___int_int__0 p0 0 s) (hB : loopL (fun i a x => B_slices_IndexFunc___int_int__0 p0 i x) 0 () p0 = some r) : Res z (postS (fun a q => Q_slices_IndexFunc___int_int__0 p0 q) (fun a q => QR_slices_IndexFunc___int_int__0 p0 a q) r) := by
  subst hcc
  exact loopL_sim (I := fun i a q => I_slices_IndexFunc___int_int__0 p0 i q) (Q := (fun a q => Q_slices_IndexFunc___int_int__0 p0 q)) (QR := (fun a q => QR_slices_IndexFunc___int_int__0 p0 a q)) (fun i x a q r hx hi h hB => Pb_slices_IndexFunc___int_int__0 hx hi hn h hB) (fun a q h => Pe_slices_IndexFunc___int_int__0 h) hI hz hB
noncomputable def B_slices_IndexFunc___int_int_ (p0 : (List Int)) : Option Int :=
  kb (smallK p0) fun _ =>
  kb (loopL (fun i a x => B_slices_IndexFunc___int_int__0 p0 i x) 0 () p0) fun o => stpK o (fun z5 =>
    some (-1)) (fun z5r =>
    some z5r)
theorem sim_slices_IndexFunc___int_int_ {p0 : (List Int)} {r : Int} (hB : B_slices_IndexFunc___int_int_ p0 = some r) : R 135 [(.pv (.sl p0.length (ints p0))), (.fn 116 [] [])] [] = some ((i64 r), [], []) := by
  rw [R_eq _ _ _ fn_slices_IndexFunc___int_int_]
  simp only [Code.fst, Code.snd, Tryz.f135, Option.getD_some]
  generalize hc0 : Code.block 0 _ = cc0
  unfold B_slices_IndexFunc___int_int_ at hB
  try simp -implicitDefEqProofs [-getElem?_pos, -Iqa, -Iqb, -Iqc, -Iqd, -Lqa, Lqb, Lqc, Lqd]
  generalize hz0 : C Tryz.prog cf cc0 _ = z0
  obtain ⟨_, hsm, hB⟩ := kb_inv hB
  obtain ⟨o, hB1, hB⟩ := kb_inv hB
  have hJ := P_slices_IndexFunc___int_int__0 (hc0.symm.trans (by kernel_rfl)) hz0 (smallK_inv hsm) (by simp -implicitDefEqProofs [-getElem?_pos, -Iqa, -Iqb, -Iqc, -Iqd, -Lqa, Lqb, Lqc, Lqd, and_assoc, I_slices_IndexFunc___int_int__0, ownAt]) hB1
  obtain ⟨e0, s0, rfl, hq⟩ := hJ.open
  clear hB1
  rcases o with z5 | ⟨_, _⟩ | z5r
  · simp only [stpK_go] at hB
    obtain ⟨rfl, hq⟩ := hq
    simp only [Q_slices_IndexFunc___int_int__0] at hq
    obtain rfl := Option.some.inj hB
    simp -implicitDefEqProofs [-getElem?_pos, -Iqa, -Iqb, -Iqc, -Iqd, -Lqa, Lqb, Lqc, Lqd]
  · exact hq.elim
  · simp only [stpK_ret] at hB
    obtain ⟨rfl, hq⟩ := hq
    simp only [QR_slices_IndexFunc___int_int__0] at hq
    have q5_r1 := hq
    obtain rfl := Option.some.inj hB
    simp -implicitDefEqProofs [-getElem?_pos, -Iqa, -Iqb, -Iqc, -Iqd, -Lqa, Lqb, Lqc, Lqd, q5_r1]
theorem g_slices_IndexFunc___int_int_ {p0 : (List Int)} {r : Int} (hB : B_slices_IndexFunc___int_int_ p0 = some r) : G_slices_IndexFunc___int_int_ p0 = some r := dec_of (fun a b h => by rcases a with a0_; rcases b with b0_; simp at h; simp [*]) (sim_slices_IndexFunc___int_int_ hB)
end Go.Am
namespace Go.Am
open Go Go.Proofs
set_option maxRecDepth 4000
set_option maxHeartbeats 4000000
open Int renaming ofNat_lt → Iqa, ofNat_le → Iqb, natCast_eq_zero → Iqc, natCast_pos → Iqd, cast_ofNat_Int → Iqe, natCast_zero → Iqf
open List renaming length_eq_zero_iff → Lqa, getElem?_cons_zero → Lqb, getElem?_cons_succ → Lqc, getElem?_nil → Lqd, length_cons → Lqe, length_nil → Lqf, nil_append → Lqg, cons_append → Lqh
open Nat renaming zero_add → Nqa
open Tru renaming thr_mk → Tqa, nodes_mk → Tqb, inner_mk → Tqc
open Go.Am renaming es_api_Declaration_cons → Eqa, es_api_Declaration_nil → Eqb, es_api_Evidence_cons → Eqc, es_api_Evidence_nil → Eqd, ints_cons → Eqe, ints_nil → Eqf, encTs_cons → Eqg, encTs_nil → Eqh, es_str_cons → Eqi, es_str_nil → Eqj, es_u64_cons → Eqk, es_u64_nil → Eql, es_u8_cons → Eqm, es_u8_nil → Eqn
noncomputable def B_slices_ContainsFunc___int_int_ (p0 : (List Int)) : Option Bool :=
  kb (G_slices_IndexFunc___int_int_ p0) fun y1 =>
  some (decide (0 ≤ y1))
theorem sim_slices_ContainsFunc___int_int_ {p0 : (List Int)} {r : Bool} (hB : B_slices_ContainsFunc___int_int_ p0 = some r) : R 115 [(.pv (.sl p0.length (ints p0))), (.fn 116 [] [])] [] = some ((bl r), [], []) := by
  rw [R_eq _ _ _ fn_slices_ContainsFunc___int_int_]
  simp only [Code.fst, Code.snd, Tryz.f115, Option.getD_some]
  generalize hr1 : Code.region 1 _ _ = rr1
  unfold B_slices_ContainsFunc___int_int_ at hB
  obtain ⟨y1, k2, hB⟩ := kb_inv hB
  replace k2 := run_slices_IndexFunc___int_int_ k2
  try simp only [Iqe, Iqf, Lqe, Lqf, Lqg, Lqh, Nqa, Nat.reduceAdd, Tqa, Tqb, Tqc, Eqe, Eqf, Eqg, Eqh, Eqa, Eqb, Eqc, Eqd, Eqi, Eqj, Eqk, Eql, Eqm, Eqn] at k2
  try dsimp only at hB
  obtain rfl := Option.some.inj hB
  subst hr1
  simp -implicitDefEqProofs [-getElem?_pos, -Iqa, -Iqb, -Iqc, -Iqd, -Lqa, Lqb, Lqc, Lqd, k2]
theorem g_slices_ContainsFunc___int_int_ {p0 : (List Int)} {r : Bool} (hB : B_slices_ContainsFunc___int_int_ p0 = some r) : G_slices_ContainsFunc___int_int_ p0 = some r := dec_of (fun a b h => by rcases a with a0_; rcases b with b0_; simp at h; simp [*]) (sim_slices_ContainsFunc___int_int_ hB)
end Go.Am
namespace Go.Am
open Go Go.Proofs
set_option maxRecDepth 4000
set_option maxHeartbeats 4000000
open Int renaming ofNat_lt → Iqa, ofNat_le → Iqb, natCast_eq_zero → Iqc, natCast_pos → Iqd, cast_ofNat_Int → Iqe, natCast_zero → Iqf
open List renaming length_eq_zero_iff → Lqa, getElem?_cons_zero → Lqb, getElem?_cons_succ → Lqc, getElem?_nil → Lqd, length_cons → Lqe, length_nil → Lqf, nil_append → Lqg, cons_append → Lqh
open Nat renaming zero_add → Nqa
open Tru renaming thr_mk → Tqa, nodes_mk → Tqb, inner_mk → Tqc
open Go.Am renaming es_api_Declaration_cons → Eqa, es_api_Declaration_nil → Eqb, es_api_Evidence_cons → Eqc, es_api_Evidence_nil → Eqd, ints_cons → Eqe, ints_nil → Eqf, encTs_cons → Eqg, encTs_nil → Eqh, es_str_cons → Eqi, es_str_nil → Eqj, es_u64_cons → Eqk, es_u64_nil → Eql, es_u8_cons → Eqm, es_u8_nil → Eqn
noncomputable def B_nodeset_Of_0 (p4_0 : Int) (e2 : Int) (p0 : (List Int)) (i1 : Nat) : Option Bool :=
  cnd (decide (e2 < 0)) (
    some true) (
    some (decide (10 ≤ e2)))
def J_nodeset_Of_0 (p4_0 : Int) (e2 : Int) (p0 : (List Int)) (i1 : Nat) (q : St) : Prop := q (.t 4) = (i64 p4_0) ∧ q (.t 6) = (i64 e2) ∧ q (.t 7) = (.pv (.sl p0.length (ints p0))) ∧ q (.t 8) = (i64 (p0.length : Int)) ∧ q (.t 9) = (i64 (i1 : Int))
def Q_nodeset_Of_0 (p4_0 : Int) (e2 : Int) (p0 : (List Int)) (i1 : Nat) (o18_0 : Bool) (q : St) : Prop := q (.t 18) = (bl o18_0) ∧ q (.t 4) = (i64 p4_0) ∧ q (.t 6) = (i64 e2) ∧ q (.t 7) = (.pv (.sl p0.length (ints p0))) ∧ q (.t 8) = (i64 (p0.length : Int)) ∧ q (.t 9) = (i64 (i1 : Int))
theorem P_nodeset_Of_0 {p4_0 : Int} {e2 : Int} {p0 : (List Int)} {i1 : Nat} {cc : Code} (hcc : cc = (Code.fst (Code.fst (Code.snd (Code.fst (Code.fst (Code.snd (Code.snd (Code.fst (Code.fst (Code.snd (Code.fst (Code.snd (Code.snd ((Tryz.f118.body).getD .skip))))))))))))))) {s : St} {z : Option (Ex × St)} (hz : C Tryz.prog cf cc s = z) {r : Bool} (hI : J_nodeset_Of_0 p4_0 e2 p0 i1 s) (hB : B_nodeset_Of_0 p4_0 e2 p0 i1 = some r) : Res z (postG (fun a q => Q_nodeset_Of_0 p4_0 e2 p0 i1 a q) r) := by
  subst hcc
  subst hz
  simp only [J_nodeset_Of_0] at hI
  obtain ⟨q1, q2, q3, q4, q5⟩ := hI
  simp only [Code.fst, Code.snd, Tryz.f118, Option.getD_some]
  unfold B_nodeset_Of_0 at hB
  rcases cnd_inv hB with ⟨c2, hB⟩ | ⟨c2, hB⟩
  · have pc2 := eq_true (of_decide_eq_true c2)
    obtain rfl := Option.some.inj hB
    try simp -implicitDefEqProofs [-getElem?_pos, -Iqa, -Iqb, -Iqc, -Iqd, -Lqa, Lqb, Lqc, Lqd, q1, q2, q3, q4, q5, c2, pc2]
    refine Res.g ?_
    simp -implicitDefEqProofs [-getElem?_pos, -Iqa, -Iqb, -Iqc, -Iqd, -Lqa, Lqb, Lqc, Lqd, and_assoc, Q_nodeset_Of_0, ownAt, q1, q2, q3, q4, q5, c2, pc2]
  · have pc2 := eq_false (of_decide_eq_false c2)
    obtain rfl := Option.some.inj hB
    try simp -implicitDefEqProofs [-getElem?_pos, -Iqa, -Iqb, -Iqc, -Iqd, -Lqa, Lqb, Lqc, Lqd, q1, q2, q3, q4, q5, c2, pc2]
    refine Res.g ?_
    simp -implicitDefEqProofs [-getElem?_pos, -Iqa, -Iqb, -Iqc, -Iqd, -Lqa, Lqb, Lqc, Lqd, and_assoc, Q_nodeset_Of_0, ownAt, q1, q2, q3, q4, q5, c2, pc2]
noncomputable def B_nodeset_Of_1 (p0 : (List Int)) (i1 : Nat) (x4_1 : Int) (e2 : Int) : Option (Stp Int Int) :=
  kb (B_nodeset_Of_0 x4_1 e2 p0 i1) fun z3 =>
  cnd z3 (
    some (.ret 5)) (
    kb (G_nodeset_Has x4_1 e2) fun y5 =>
    cnd y5 (
      some (.ret 6)) (
      kb (mustK (¬ e2 < 0)) fun _ =>
      some (.go (or64 x4_1 (shl64 1 e2)))))
def I_nodeset_Of_1 (p0 : (List Int)) (i1 : Nat) (x4_1 : Int) (q : St) : Prop := q (.t 4) = (i64 x4_1) ∧ q (.t 7) = (.pv (.sl p0.length (ints p0))) ∧ q (.t 8) = (i64 (p0.length : Int)) ∧ q (.t 9) = (i64 (i1 : Int))
def Q_nodeset_Of_1 (p0 : (List Int)) (x4_1 : Int) (q : St) : Prop := q (.t 4) = (i64 x4_1)
def QR_nodeset_Of_1 (p0 : (List Int)) (r3_1 : Int) (q : St) : Prop := q (.t 2) = (i64 0) ∧ q (.t 3) = (i64 r3_1)
theorem Pb_nodeset_Of_1 {p0 : (List Int)} {i1 : Nat} {x4_1 : Int} {e2 : Int} {q : St} {r : (Stp Int Int)} (hx : p0[i1]? = some e2) (hi : i1 < p0.length) (hn : p0.length < 4611686018427387904) (hI : I_nodeset_Of_1 p0 i1 x4_1 q) (hB : B_nodeset_Of_1 p0 i1 x4_1 e2 = some r) : Res (C Tryz.prog cf (Code.fst (Code.fst (Code.snd (Code.fst (Code.snd (Code.snd ((Tryz.f118.body).getD .skip))))))) q) (postB 0 (fun a q => I_nodeset_Of_1 p0 (i1 + 1) a q) (fun a q => Q_nodeset_Of_1 p0 a q) (fun a q => QR_nodeset_Of_1 p0 a q) r) := by
  have hi3 : (i1 : Int) < (p0.length : Int) := by omega
  have hi2 := decide_eq_true hi3
  have hi4 := idx_step hi hn
  have hi5 := ne_of_get hx
  simp only [I_nodeset_Of_1] at hI
  obtain ⟨q1, q2, q3, q4⟩ := hI
  simp only [Code.fst, Code.snd, Tryz.f118, Option.getD_some]
  generalize hc0 : Code.region 5 _ _ = cc0
  generalize hr9 : Code.region 9 _ _ = rr9
  unfold B_nodeset_Of_1 at hB
  try simp -implicitDefEqProofs [-getElem?_pos, -Iqa, -Iqb, -Iqc, -Iqd, -Lqa, Lqb, Lqc, Lqd, q1, q2, q3, q4, hx, hi2, hi3, hi4, hi5]
  generalize hz0 : C Tryz.prog cf cc0 _ = z0
  obtain ⟨z3, hB1, hB⟩ := kb_inv hB
  have hJ := P_nodeset_Of_0 (hc0.symm.trans (by kernel_rfl)) hz0 (by simp -implicitDefEqProofs [-getElem?_pos, -Iqa, -Iqb, -Iqc, -Iqd, -Lqa, Lqb, Lqc, Lqd, and_assoc, J_nodeset_Of_0, ownAt, q1, q2, q3, q4, hx, hi2, hi3, hi4, hi5]) hB1
  obtain ⟨e0, s0, rfl, hq⟩ := hJ.open
  clear hB1
  obtain ⟨rfl, hq⟩ := hq
  simp only [Q_nodeset_Of_0] at hq
  obtain ⟨q3_1, q3_2, q3_3, q3_4, q3_5, q3_6⟩ := hq
  rcases cnd_inv hB with ⟨c4, hB⟩ | ⟨c4, hB⟩
  · obtain rfl := Option.some.inj hB
    try simp -implicitDefEqProofs [-getElem?_pos, -Iqa, -Iqb, -Iqc, -Iqd, -Lqa, Lqb, Lqc, Lqd, q3_1, q3_2, q3_3, q3_4, q3_5, q3_6, hx, hi2, hi3, hi4, hi5, c4]
    refine Res.bret ?_
    simp -implicitDefEqProofs [-getElem?_pos, -Iqa, -Iqb, -Iqc, -Iqd, -Lqa, Lqb, Lqc, Lqd, and_assoc, QR_nodeset_Of_1, ownAt, q3_1, q3_2, q3_3, q3_4, q3_5, q3_6, hx, hi2, hi3, hi4, hi5, c4]
  · obtain ⟨y5, k6, hB⟩ := kb_inv hB
    replace k6 := run_nodeset_Has k6
    try simp only [Iqe, Iqf, Lqe, Lqf, Lqg, Lqh, Nqa, Nat.reduceAdd, Tqa, Tqb, Tqc, Eqe, Eqf, Eqg, Eqh, Eqa, Eqb, Eqc, Eqd, Eqi, Eqj, Eqk, Eql, Eqm, Eqn, c4] at k6
    try dsimp only at hB
    rcases cnd_inv hB with ⟨c7, hB⟩ | ⟨c7, hB⟩
    · obtain rfl := Option.some.inj hB
      try simp -implicitDefEqProofs [-getElem?_pos, -Iqa, -Iqb, -Iqc, -Iqd, -Lqa, Lqb, Lqc, Lqd, q3_1, q3_2, q3_3, q3_4, q3_5, q3_6, hx, hi2, hi3, hi4, hi5, c4, k6, c7]
      refine Res.bret ?_
      simp -implicitDefEqProofs [-getElem?_pos, -Iqa, -Iqb, -Iqc, -Iqd, -Lqa, Lqb, Lqc, Lqd, and_assoc, QR_nodeset_Of_1, ownAt, q3_1, q3_2, q3_3, q3_4, q3_5, q3_6, hx, hi2, hi3, hi4, hi5, c4, k6, c7]
    · obtain ⟨_, n8, hB⟩ := kb_inv hB
      have n8a := mustK_inv n8
      try dsimp only at hB
      obtain rfl := Option.some.inj hB
      subst hr9
      try simp -implicitDefEqProofs [-getElem?_pos, -Iqa, -Iqb, -Iqc, -Iqd, -Lqa, Lqb, Lqc, Lqd, q3_1, q3_2, q3_3, q3_4, q3_5, q3_6, hx, hi2, hi3, hi4, hi5, c4, k6, c7, n8a]
      refine Res.bgo ?_
      simp -implicitDefEqProofs [-getElem?_pos, -Iqa, -Iqb, -Iqc, -Iqd, -Lqa, Lqb, Lqc, Lqd, and_assoc, I_nodeset_Of_1, ownAt, q3_1, q3_2, q3_3, q3_4, q3_5, q3_6, hx, hi2, hi3, hi4, hi5, c4, k6, c7, n8a]
theorem Pe_nodeset_Of_1 {p0 : (List Int)} {x4_1 : Int} {q : St} (hI : I_nodeset_Of_1 p0 p0.length x4_1 q) : Res (C Tryz.prog cf (Code.fst (Code.fst (Code.snd (Code.fst (Code.snd (Code.snd ((Tryz.f118.body).getD .skip))))))) q) fun e q' => e = .exit 0 ∧ Q_nodeset_Of_1 p0 x4_1 q' := by
  simp only [I_nodeset_Of_1] at hI
  obtain ⟨q1, q2, q3, q4⟩ := hI
  simp only [Code.fst, Code.snd, Tryz.f118, Option.getD_some]
  simp -implicitDefEqProofs [-getElem?_pos, -Iqa, -Iqb, -Iqc, -Iqd, -Lqa, Lqb, Lqc, Lqd, q1, q2, q3, q4]
  refine Res.x ?_
  simp -implicitDefEqProofs [-getElem?_pos, -Iqa, -Iqb, -Iqc, -Iqd, -Lqa, Lqb, Lqc, Lqd, and_assoc, Q_nodeset_Of_1, ownAt, q1, q2, q3, q4]
theorem P_nodeset_Of_1 {p0 : (List Int)} {x4_1 : Int} {cc : Code} (hcc : cc = .block 0 (.loop (Code.fst (Code.fst (Code.snd (Code.fst (Code.snd (Code.snd ((Tryz.f118.body).getD .skip))))))))) {s : St} {z : Option (Ex × St)} (hz : C Tryz.prog cf cc s = z) {r : (Stp Int Int)} (hn : p0.length < 4611686018427387904) (hI : I_nodeset_Of_1 p0 0 x4_1 s) (hB : loopL (fun i a x => B_nodeset_Of_1 p0 i a x) 0 x4_1 p0 = some r) : Res z (postS (fun a q => Q_nodeset_Of_1 p0 a q) (fun a q => QR_nodeset_Of_1 p0 a q) r) := by
  subst hcc
  exact loopL_sim (I := fun i a q => I_nodeset_Of_1 p0 i a q) (Q := (fun a q => Q_nodeset_Of_1 p0 a q)) (QR := (fun a q => QR_nodeset_Of_1 p0 a q)) (fun i x a q r hx hi h hB => Pb_nodeset_Of_1 hx hi hn h hB) (fun a q h => Pe_nodeset_Of_1 h) hI hz hB
noncomputable def B_nodeset_Of (p0 : (List Int)) : Option (Int × Int) :=
  kb (smallK p0) fun _ =>
  kb (loopL (fun i a x => B_nodeset_Of_1 p0 i a x) 0 0 p0) fun o => stpK o (fun z9 =>
    some (z9, 0)) (fun z9r =>
    some (0, z9r))
theorem sim_nodeset_Of {p0 : (List Int)} {r : (Int × Int)} (hB : B_nodeset_Of p0 = some r) : R 118 [(.pv (.sl p0.length (ints p0)))] [] = some (.tup [(i64 r.1), (i64 r.2)], [], []) := by
  rw [R_eq _ _ _ fn_nodeset_Of]
  simp only [Code.fst, Code.snd, Tryz.f118, Option.getD_some]
  generalize hc1 : Code.block 0 _ = cc1
  unfold B_nodeset_Of at hB
  try simp -implicitDefEqProofs [-getElem?_pos, -Iqa, -Iqb, -Iqc, -Iqd, -Lqa, Lqb, Lqc, Lqd]
  generalize hz1 : C Tryz.prog cf cc1 _ = z1
  obtain ⟨_, hsm, hB⟩ := kb_inv hB
  obtain ⟨o, hB1, hB⟩ := kb_inv hB
  have hJ := P_nodeset_Of_1 (hc1.symm.trans (by kernel_rfl)) hz1 (smallK_inv hsm) (by simp -implicitDefEqProofs [-getElem?_pos, -Iqa, -Iqb, -Iqc, -Iqd, -Lqa, Lqb, Lqc, Lqd, and_assoc, I_nodeset_Of_1, ownAt]) hB1
  obtain ⟨e1, s1, rfl, hq⟩ := hJ.open
  clear hB1
  rcases o with z9 | ⟨_, _⟩ | z9r
  · simp only [stpK_go] at hB
    obtain ⟨rfl, hq⟩ := hq
    simp only [Q_nodeset_Of_1] at hq
    have q9_1 := hq
    obtain rfl := Option.some.inj hB
    simp -implicitDefEqProofs [-getElem?_pos, -Iqa, -Iqb, -Iqc, -Iqd, -Lqa, Lqb, Lqc, Lqd, q9_1]
  · exact hq.elim
  · simp only [stpK_ret] at hB
    obtain ⟨rfl, hq⟩ := hq
    simp only [QR_nodeset_Of_1] at hq
    obtain ⟨q9_r1, q9_r2⟩ := hq
    obtain rfl := Option.some.inj hB
    simp -implicitDefEqProofs [-getElem?_pos, -Iqa, -Iqb, -Iqc, -Iqd, -Lqa, Lqb, Lqc, Lqd, q9_r1, q9_r2]
theorem g_nodeset_Of {p0 : (List Int)} {r : (Int × Int)} (hB : B_nodeset_Of p0 = some r) : G_nodeset_Of p0 = some r := dec_of (fun a b h => by rcases a with ⟨a0_, a1_⟩; rcases b with ⟨b0_, b1_⟩; simp at h; simp [*]) (sim_nodeset_Of hB)
end Go.Am
namespace Go.Am
open Go Go.Proofs
set_option maxRecDepth 4000
set_option maxHeartbeats 4000000
open Int renaming ofNat_lt → Iqa, ofNat_le → Iqb, natCast_eq_zero → Iqc, natCast_pos → Iqd, cast_ofNat_Int → Iqe, natCast_zero → Iqf
open List renaming length_eq_zero_iff → Lqa, getElem?_cons_zero → Lqb, getElem?_cons_succ → Lqc, getElem?_nil → Lqd, length_cons → Lqe, length_nil → Lqf, nil_append → Lqg, cons_append → Lqh
open Nat renaming zero_add → Nqa
open Tru renaming thr_mk → Tqa, nodes_mk → Tqb, inner_mk → Tqc
open Go.Am renaming es_api_Declaration_cons → Eqa, es_api_Declaration_nil → Eqb, es_api_Evidence_cons → Eqc, es_api_Evidence_nil → Eqd, ints_cons → Eqe, ints_nil → Eqf, encTs_cons → Eqg, encTs_nil → Eqh, es_str_cons → Eqi, es_str_nil → Eqj, es_u64_cons → Eqk, es_u64_nil → Eql, es_u8_cons → Eqm, es_u8_nil → Eqn
noncomputable def B_threshold_Depth_0 (p0 : Tru) (i1 : Nat) (x3_0 : Int) (e2 : Tru) : Option Int :=
  kb (G_threshold_Depth e2) fun y2 =>
  some (if x3_0 < y2 then y2 else x3_0)
def I_threshold_Depth_0 (p0 : Tru) (i1 : Nat) (x3_0 : Int) (q : St) : Prop := q (.t 3) = (i64 x3_0) ∧ q (.t 7) = (.pv (.sl p0.inner.length (encTs p0.inner))) ∧ q (.t 8) = (i64 (p0.inner.length : Int)) ∧ q (.t 9) = (i64 (i1 : Int))
def Q_threshold_Depth_0 (p0 : Tru) (x3_0 : Int) (q : St) : Prop := q (.t 3) = (i64 x3_0)
theorem Pb_threshold_Depth_0 {p0 : Tru} {i1 : Nat} {x3_0 : Int} {e2 : Tru} {q : St} {r : Int} (hx : p0.inner[i1]? = some e2) (hi : i1 < p0.inner.length) (hn : p0.inner.length < 4611686018427387904) (hI : I_threshold_Depth_0 p0 i1 x3_0 q) (hB : B_threshold_Depth_0 p0 i1 x3_0 e2 = some r) : Res (C Tryz.prog cf (Code.fst (Code.fst (Code.snd (Code.fst (Code.snd (Code.snd ((Tryz.f53.body).getD .skip))))))) q) (postG (fun a q => I_threshold_Depth_0 p0 (i1 + 1) a q) r) := by
  have hi3 : (i1 : Int) < (p0.inner.length : Int) := by omega
  have hi2 := decide_eq_true hi3
  have hi4 := idx_step hi hn
  have hi5 := ne_of_get hx
  simp only [I_threshold_Depth_0] at hI
  obtain ⟨q1, q2, q3, q4⟩ := hI
  simp only [Code.fst, Code.snd, Tryz.f53, Option.getD_some]
  generalize hr4 : Code.region 4 _ _ = rr4
  generalize hr5 : Code.region 5 _ _ = rr5
  unfold B_threshold_Depth_0 at hB
  have l1 := encTs_ld hx
  obtain ⟨y2, k3, hB⟩ := kb_inv hB
  replace k3 := run_threshold_Depth k3
  try simp only [Iqe, Iqf, Lqe, Lqf, Lqg, Lqh, Nqa, Nat.reduceAdd, Tqa, Tqb, Tqc, Eqe, Eqf, Eqg, Eqh, Eqa, Eqb, Eqc, Eqd, Eqi, Eqj, Eqk, Eql, Eqm, Eqn] at k3
  try dsimp only at hB
  obtain rfl := Option.some.inj hB
  subst hr4
  subst hr5
  try simp -implicitDefEqProofs [-getElem?_pos, -Iqa, -Iqb, -Iqc, -Iqd, -Lqa, Lqb, Lqc, Lqd, q1, q2, q3, q4, hx, hi2, hi3, hi4, hi5, l1, k3]
  refine Res.g ?_
  simp -implicitDefEqProofs [-getElem?_pos, -Iqa, -Iqb, -Iqc, -Iqd, -Lqa, Lqb, Lqc, Lqd, and_assoc, I_threshold_Depth_0, ownAt, q1, q2, q3, q4, hx, hi2, hi3, hi4, hi5, l1, k3]
theorem Pe_threshold_Depth_0 {p0 : Tru} {x3_0 : Int} {q : St} (hI : I_threshold_Depth_0 p0 p0.inner.length x3_0 q) : Res (C Tryz.prog cf (Code.fst (Code.fst (Code.snd (Code.fst (Code.snd (Code.snd ((Tryz.f53.body).getD .skip))))))) q) fun e q' => e = .exit 0 ∧ Q_threshold_Depth_0 p0 x3_0 q' := by
  simp only [I_threshold_Depth_0] at hI
  obtain ⟨q1, q2, q3, q4⟩ := hI
  simp only [Code.fst, Code.snd, Tryz.f53, Option.getD_some]
  simp -implicitDefEqProofs [-getElem?_pos, -Iqa, -Iqb, -Iqc, -Iqd, -Lqa, Lqb, Lqc, Lqd, q1, q2, q3, q4]
  refine Res.x ?_
  simp -implicitDefEqProofs [-getElem?_pos, -Iqa, -Iqb, -Iqc, -Iqd, -Lqa, Lqb, Lqc, Lqd, and_assoc, Q_threshold_Depth_0, ownAt, q1, q2, q3, q4]
theorem P_threshold_Depth_0 {p0 : Tru} {x3_0 : Int} {cc : Code} (hcc : cc = .block 0 (.loop (Code.fst (Code.fst (Code.snd (Code.fst (Code.snd (Code.snd ((Tryz.f53.body).getD .skip))))))))) {s : St} {z : Option (Ex × St)} (hz : C Tryz.prog cf cc s = z) {r : Int} (hn : p0.inner.length < 4611686018427387904) (hI : I_threshold_Depth_0 p0 0 x3_0 s) (hB : foldO (fun i a x => B_threshold_Depth_0 p0 i a x) 0 x3_0 p0.inner = some r) : Res z (postG (fun a q => Q_threshold_Depth_0 p0 a q) r) := by
  subst hcc
  exact fold_sim (I := fun i a q => I_threshold_Depth_0 p0 i a q) (Q := (fun a q => Q_threshold_Depth_0 p0 a q)) (fun i x a q r hx hi h hB => Pb_threshold_Depth_0 hx hi hn h hB) (fun a q h => Pe_threshold_Depth_0 h) hI hz hB
noncomputable def B_threshold_Depth (p0 : Tru) : Option Int :=
  kb (smallK p0.inner) fun _ =>
  kb (foldO (fun i a x => B_threshold_Depth_0 p0 i a x) 0 0 p0.inner) fun z4 =>
  some (add64 z4 1)
theorem sim_threshold_Depth {p0 : Tru} {r : Int} (hB : B_threshold_Depth p0 = some r) : R 53 [(.agg [(i64 p0.thr), (.pv (.sl p0.nodes.length (ints p0.nodes))), (.pv (.sl p0.inner.length (encTs p0.inner)))])] [] = some ((i64 r), [], []) := by
  rw [R_eq _ _ _ fn_threshold_Depth]
  simp only [Code.fst, Code.snd, Tryz.f53, Option.getD_some]
  generalize hc0 : Code.block 0 _ = cc0
  generalize hr2 : Code.region 2 _ _ = rr2
  unfold B_threshold_Depth at hB
  subst hr2
  try simp -implicitDefEqProofs [-getElem?_pos, -Iqa, -Iqb, -Iqc, -Iqd, -Lqa, Lqb, Lqc, Lqd]
  generalize hz0 : C Tryz.prog cf cc0 _ = z0
  obtain ⟨_, hsm, hB⟩ := kb_inv hB
  obtain ⟨z4, hB1, hB⟩ := kb_inv hB
  have hJ := P_threshold_Depth_0 (hc0.symm.trans (by kernel_rfl)) hz0 (smallK_inv hsm) (by simp -implicitDefEqProofs [-getElem?_pos, -Iqa, -Iqb, -Iqc, -Iqd, -Lqa, Lqb, Lqc, Lqd, and_assoc, I_threshold_Depth_0, ownAt]) hB1
  obtain ⟨e0, s0, rfl, hq⟩ := hJ.open
  clear hB1
  obtain ⟨rfl, hq⟩ := hq
  simp only [Q_threshold_Depth_0] at hq
  have q4_1 := hq
  obtain rfl := Option.some.inj hB
  simp -implicitDefEqProofs [-getElem?_pos, -Iqa, -Iqb, -Iqc, -Iqd, -Lqa, Lqb, Lqc, Lqd, q4_1]
theorem g_threshold_Depth {p0 : Tru} {r : Int} (hB : B_threshold_Depth p0 = some r) : G_threshold_Depth p0 = some r := dec_of (fun a b h => by rcases a with a0_; rcases b with b0_; simp at h; simp [*]) (sim_threshold_Depth hB)
end Go.Am
namespace Go.Am
open Go Go.Proofs
set_option maxRecDepth 4000
set_option maxHeartbeats 4000000
open Int renaming ofNat_lt → Iqa, ofNat_le → Iqb, natCast_eq_zero → Iqc, natCast_pos → Iqd, cast_ofNat_Int → Iqe, natCast_zero → Iqf
open List renaming length_eq_zero_iff → Lqa, getElem?_cons_zero → Lqb, getElem?_cons_succ → Lqc, getElem?_nil → Lqd, length_cons → Lqe, length_nil → Lqf, nil_append → Lqg, cons_append → Lqh
open Nat renaming zero_add → Nqa
open Tru renaming thr_mk → Tqa, nodes_mk → Tqb, inner_mk → Tqc
open Go.Am renaming es_api_Declaration_cons → Eqa, es_api_Declaration_nil → Eqb, es_api_Evidence_cons → Eqc, es_api_Evidence_nil → Eqd, ints_cons → Eqe, ints_nil → Eqf, encTs_cons → Eqg, encTs_nil → Eqh, es_str_cons → Eqi, es_str_nil → Eqj, es_u64_cons → Eqk, es_u64_nil → Eql, es_u8_cons → Eqm, es_u8_nil → Eqn
noncomputable def B_threshold_Size_0 (p0 : Tru) (i1 : Nat) (x3_0 : Int) (e2 : Tru) : Option Int :=
  kb (G_threshold_Size e2) fun y2 =>
  some (add64 x3_0 y2)
def I_threshold_Size_0 (p0 : Tru) (i1 : Nat) (x3_0 : Int) (q : St) : Prop := q (.t 14) = (.pv (.sl p0.inner.length (encTs p0.inner))) ∧ q (.t 15) = (i64 (p0.inner.length : Int)) ∧ q (.t 16) = (i64 (i1 : Int)) ∧ q (.t 3) = (i64 x3_0)
def Q_threshold_Size_0 (p0 : Tru) (x3_0 : Int) (q : St) : Prop := q (.t 3) = (i64 x3_0)
theorem Pb_threshold_Size_0 {p0 : Tru} {i1 : Nat} {x3_0 : Int} {e2 : Tru} {q : St} {r : Int} (hx : p0.inner[i1]? = some e2) (hi : i1 < p0.inner.length) (hn : p0.inner.length < 4611686018427387904) (hI : I_threshold_Size_0 p0 i1 x3_0 q) (hB : B_threshold_Size_0 p0 i1 x3_0 e2 = some r) : Res (C Tryz.prog cf (Code.fst (Code.fst (Code.snd (Code.fst (Code.snd (Code.snd ((Tryz.f54.body).getD .skip))))))) q) (postG (fun a q => I_threshold_Size_0 p0 (i1 + 1) a q) r) := by
  have hi3 : (i1 : Int) < (p0.inner.length : Int) := by omega
  have hi2 := decide_eq_true hi3
  have hi4 := idx_step hi hn
  have hi5 := ne_of_get hx
  simp only [I_threshold_Size_0] at hI
  obtain ⟨q1, q2, q3, q4⟩ := hI
  simp only [Code.fst, Code.snd, Tryz.f54, Option.getD_some]
  generalize hr4 : Code.region 4 _ _ = rr4
  generalize hr5 : Code.region 5 _ _ = rr5
  unfold B_threshold_Size_0 at hB
  have l1 := encTs_ld hx
  obtain ⟨y2, k3, hB⟩ := kb_inv hB
  replace k3 := run_threshold_Size k3
  try simp only [Iqe, Iqf, Lqe, Lqf, Lqg, Lqh, Nqa, Nat.reduceAdd, Tqa, Tqb, Tqc, Eqe, Eqf, Eqg, Eqh, Eqa, Eqb, Eqc, Eqd, Eqi, Eqj, Eqk, Eql, Eqm, Eqn] at k3
  try dsimp only at hB
  obtain rfl := Option.some.inj hB
  subst hr4
  subst hr5
  try simp -implicitDefEqProofs [-getElem?_pos, -Iqa, -Iqb, -Iqc, -Iqd, -Lqa, Lqb, Lqc, Lqd, q1, q2, q3, q4, hx, hi2, hi3, hi4, hi5, l1, k3]
  refine Res.g ?_
  simp -implicitDefEqProofs [-getElem?_pos, -Iqa, -Iqb, -Iqc, -Iqd, -Lqa, Lqb, Lqc, Lqd, and_assoc, I_threshold_Size_0, ownAt, q1, q2, q3, q4, hx, hi2, hi3, hi4, hi5, l1, k3]
theorem Pe_threshold_Size_0 {p0 : Tru} {x3_0 : Int} {q : St} (hI : I_threshold_Size_0 p0 p0.inner.length x3_0 q) : Res (C Tryz.prog cf (Code.fst (Code.fst (Code.snd (Code.fst (Code.snd (Code.snd ((Tryz.f54.body).getD .skip))))))) q) fun e q' => e = .exit 0 ∧ Q_threshold_Size_0 p0 x3_0 q' := by
  simp only [I_threshold_Size_0] at hI
  obtain ⟨q1, q2, q3, q4⟩ := hI
  simp only [Code.fst, Code.snd, Tryz.f54, Option.getD_some]
  simp -implicitDefEqProofs [-getElem?_pos, -Iqa, -Iqb, -Iqc, -Iqd, -Lqa, Lqb, Lqc, Lqd, q1, q2, q3, q4]
  refine Res.x ?_
  simp -implicitDefEqProofs [-getElem?_pos, -Iqa, -Iqb, -Iqc, -Iqd, -Lqa, Lqb, Lqc, Lqd, and_assoc, Q_threshold_Size_0, ownAt, q1, q2, q3, q4]
theorem P_threshold_Size_0 {p0 : Tru} {x3_0 : Int} {cc : Code} (hcc : cc = .block 0 (.loop (Code.fst (Code.fst (Code.snd (Code.fst (Code.snd (Code.snd ((Tryz.f54.body).getD .skip))))))))) {s : St} {z : Option (Ex × St)} (hz : C Tryz.prog cf cc s = z) {r : Int} (hn : p0.inner.length < 4611686018427387904) (hI : I_threshold_Size_0 p0 0 x3_0 s) (hB : foldO (fun i a x => B_threshold_Size_0 p0 i a x) 0 x3_0 p0.inner = some r) : Res z (postG (fun a q => Q_threshold_Size_0 p0 a q) r) := by
  subst hcc
  exact fold_sim (I := fun i a q => I_threshold_Size_0 p0 i a q) (Q := (fun a q => Q_threshold_Size_0 p0 a q)) (fun i x a q r hx hi h hB => Pb_threshold_Size_0 hx hi hn h hB) (fun a q h => Pe_threshold_Size_0 h) hI hz hB
noncomputable def B_threshold_Size (p0 : Tru) : Option Int :=
  kb (smallK p0.inner) fun _ =>
  kb (foldO (fun i a x => B_threshold_Size_0 p0 i a x) 0 (add64 (p0.nodes.length : Int) (p0.inner.length : Int)) p0.inner) fun z4 =>
  some z4
theorem sim_threshold_Size {p0 : Tru} {r : Int} (hB : B_threshold_Size p0 = some r) : R 54 [(.agg [(i64 p0.thr), (.pv (.sl p0.nodes.length (ints p0.nodes))), (.pv (.sl p0.inner.length (encTs p0.inner)))])] [] = some ((i64 r), [], []) := by
  rw [R_eq _ _ _ fn_threshold_Size]
  simp only [Code.fst, Code.snd, Tryz.f54, Option.getD_some]
  generalize hc0 : Code.block 0 _ = cc0
  generalize hr1 : Code.region 1 _ _ = rr1
  generalize hr2 : Code.region 2 _ _ = rr2
  unfold B_threshold_Size at hB
  subst hr1
  subst hr2
  try simp -implicitDefEqProofs [-getElem?_pos, -Iqa, -Iqb, -Iqc, -Iqd, -Lqa, Lqb, Lqc, Lqd]
  generalize hz0 : C Tryz.prog cf cc0 _ = z0
  obtain ⟨_, hsm, hB⟩ := kb_inv hB
  obtain ⟨z4, hB1, hB⟩ := kb_inv hB
  have hJ := P_threshold_Size_0 (hc0.symm.trans (by kernel_rfl)) hz0 (smallK_inv hsm) (by simp -implicitDefEqProofs [-getElem?_pos, -Iqa, -Iqb, -Iqc, -Iqd, -Lqa, Lqb, Lqc, Lqd, and_assoc, I_threshold_Size_0, ownAt]) hB1
  obtain ⟨e0, s0, rfl, hq⟩ := hJ.open
  clear hB1
  obtain ⟨rfl, hq⟩ := hq
  simp only [Q_threshold_Size_0] at hq
  have q4_1 := hq
  obtain rfl := Option.some.inj hB
  simp -implicitDefEqProofs [-getElem?_pos, -Iqa, -Iqb, -Iqc, -Iqd, -Lqa, Lqb, Lqc, Lqd, q4_1]
theorem g_threshold_Size {p0 : Tru} {r : Int} (hB : B_threshold_Size p0 = some r) : G_threshold_Size p0 = some r := dec_of (fun a b h => by rcases a with a0_; rcases b with b0_; simp at h; simp [*]) (sim_threshold_Size hB)
end Go.Am
namespace Go.Am
open Go Go.Proofs
set_option maxRecDepth 4000
set_option maxHeartbeats 4000000
open Int renaming ofNat_lt → Iqa, ofNat_le → Iqb, natCast_eq_zero → Iqc, natCast_pos → Iqd, cast_ofNat_Int → Iqe, natCast_zero → Iqf
open List renaming length_eq_zero_iff → Lqa, getElem?_cons_zero → Lqb, getElem?_cons_succ → Lqc, getElem?_nil → Lqd, length_cons → Lqe, length_nil → Lqf, nil_append → Lqg, cons_append → Lqh
open Nat renaming zero_add → Nqa
open Tru renaming thr_mk → Tqa, nodes_mk → Tqb, inner_mk → Tqc
open Go.Am renaming es_api_Declaration_cons → Eqa, es_api_Declaration_nil → Eqb, es_api_Evidence_cons → Eqc, es_api_Evidence_nil → Eqd, ints_cons → Eqe, ints_nil → Eqf, encTs_cons → Eqg, encTs_nil → Eqh, es_str_cons → Eqi, es_str_nil → Eqj, es_u64_cons → Eqk, es_u64_nil → Eql, es_u8_cons → Eqm, es_u8_nil → Eqn
noncomputable def B_threshold_level_0 (p0 : Tru) : Option Bool :=
  cnd (decide (p0.thr < 1)) (
    some true) (
    some (decide ((add64 (p0.nodes.length : Int) (p0.inner.length : Int)) < p0.thr)))
def J_threshold_level_0 (p0 : Tru) (q : St) : Prop := (∃ (g : Nat), q (.t 1) = .ptr (.site 0 0 0) g 0 ∧ q (.i (.site 0 0 0)) = .box g [(i64 p0.thr), (.pv (.sl p0.nodes.length (ints p0.nodes))), (.pv (.sl p0.inner.length (encTs p0.inner)))])
def Q_threshold_level_0 (p0 : Tru) (o22_0 : Bool) (q : St) : Prop := q (.t 22) = (bl o22_0) ∧ (∃ (g : Nat), q (.t 1) = .ptr (.site 0 0 0) g 0 ∧ q (.i (.site 0 0 0)) = .box g [(i64 p0.thr), (.pv (.sl p0.nodes.length (ints p0.nodes))), (.pv (.sl p0.inner.length (encTs p0.inner)))])
theorem P_threshold_level_0 {p0 : Tru} {cc : Code} (hcc : cc = (Code.fst (Code.fst (Code.snd ((Tryz.f84.body).getD .skip))))) {s : St} {z : Option (Ex × St)} (hz : C Tryz.prog cf cc s = z) {r : Bool} (hI : J_threshold_level_0 p0 s) (hB : B_threshold_level_0 p0 = some r) : Res z (postG (fun a q => Q_threshold_level_0 p0 a q) r) := by
  subst hcc
  subst hz
  simp only [J_threshold_level_0] at hI
  obtain ⟨g2, q1, q2⟩ := hI
  simp only [Code.fst, Code.snd, Tryz.f84, Option.getD_some]
  unfold B_threshold_level_0 at hB
  rcases cnd_inv hB with ⟨c1, hB⟩ | ⟨c1, hB⟩
  · have pc1 := eq_true (of_decide_eq_true c1)
    obtain rfl := Option.some.inj hB
    try simp -implicitDefEqProofs [-getElem?_pos, -Iqa, -Iqb, -Iqc, -Iqd, -Lqa, Lqb, Lqc, Lqd, q1, q2, c1, pc1]
    refine Res.g ?_
    simp -implicitDefEqProofs [-getElem?_pos, -Iqa, -Iqb, -Iqc, -Iqd, -Lqa, Lqb, Lqc, Lqd, and_assoc, Q_threshold_level_0, ownAt, q1, q2, c1, pc1]
  · have pc1 := eq_false (of_decide_eq_false c1)
    obtain rfl := Option.some.inj hB
    try simp -implicitDefEqProofs [-getElem?_pos, -Iqa, -Iqb, -Iqc, -Iqd, -Lqa, Lqb, Lqc, Lqd, q1, q2, c1, pc1]
    refine Res.g ?_
    simp -implicitDefEqProofs [-getElem?_pos, -Iqa, -Iqb, -Iqc, -Iqd, -Lqa, Lqb, Lqc, Lqd, and_assoc, Q_threshold_level_0, ownAt, q1, q2, c1, pc1]
noncomputable def B_threshold_level_1 (p0 : Tru) (i10 : Nat) (e11 : Tru) : Option (Stp Unit Int) :=
  kb (G_threshold_level e11) fun y11 =>
  cnd (decide (y11 = 0)) (
    some (.go ())) (
    some (.ret y11))
def I_threshold_level_1 (p0 : Tru) (i10 : Nat) (q : St) : Prop := q (.t 36) = (.pv (.sl p0.inner.length (encTs p0.inner))) ∧ q (.t 37) = (i64 (p0.inner.length : Int)) ∧ q (.t 38) = (i64 (i10 : Int))
def Q_threshold_level_1 (p0 : Tru) (q : St) : Prop := True
def QR_threshold_level_1 (p0 : Tru) (r2_1 : Int) (q : St) : Prop := q (.t 2) = (i64 r2_1)
theorem Pb_threshold_level_1 {p0 : Tru} {i10 : Nat} {e11 : Tru} {q : St} {r : (Stp Unit Int)} (hx : p0.inner[i10]? = some e11) (hi : i10 < p0.inner.length) (hn : p0.inner.length < 4611686018427387904) (hI : I_threshold_level_1 p0 i10 q) (hB : B_threshold_level_1 p0 i10 e11 = some r) : Res (C Tryz.prog cf (Code.fst (Code.fst (Code.snd (Code.fst (Code.snd (Code.snd (Code.snd (Code.snd ((Tryz.f84.body).getD .skip))))))))) q) (postB 0 (fun a q => I_threshold_level_1 p0 (i10 + 1) q) (fun a q => Q_threshold_level_1 p0 q) (fun a q => QR_threshold_level_1 p0 a q) r) := by
  have hi3 : (i10 : Int) < (p0.inner.length : Int) := by omega
  have hi2 := decide_eq_true hi3
  have hi4 := idx_step hi hn
  have hi5 := ne_of_get hx
  simp only [I_threshold_level_1] at hI
  obtain ⟨q1, q2, q3⟩ := hI
  simp only [Code.fst, Code.snd, Tryz.f84, Option.getD_some]
  generalize hr10 : Code.region 10 _ _ = rr10
  unfold B_threshold_level_1 at hB
  have l10 := encTs_ld hx
  obtain ⟨y11, k12, hB⟩ := kb_inv hB
  replace k12 := run_threshold_level k12
  try simp only [Iqe, Iqf, Lqe, Lqf, Lqg, Lqh, Nqa, Nat.reduceAdd, Tqa, Tqb, Tqc, Eqe, Eqf, Eqg, Eqh, Eqa, Eqb, Eqc, Eqd, Eqi, Eqj, Eqk, Eql, Eqm, Eqn] at k12
  try dsimp only at hB
  rcases cnd_inv hB with ⟨c13, hB⟩ | ⟨c13, hB⟩
  · have pc13 := eq_true (of_decide_eq_true c13)
    obtain rfl := Option.some.inj hB
    subst hr10
    try simp -implicitDefEqProofs [-getElem?_pos, -Iqa, -Iqb, -Iqc, -Iqd, -Lqa, Lqb, Lqc, Lqd, q1, q2, q3, hx, hi2, hi3, hi4, hi5, l10, k12, c13, pc13]
    refine Res.bgo ?_
    simp -implicitDefEqProofs [-getElem?_pos, -Iqa, -Iqb, -Iqc, -Iqd, -Lqa, Lqb, Lqc, Lqd, and_assoc, I_threshold_level_1, ownAt, q1, q2, q3, hx, hi2, hi3, hi4, hi5, l10, k12, c13, pc13]
  · have pc13 := eq_false (of_decide_eq_false c13)
    obtain rfl := Option.some.inj hB
    subst hr10
    try simp -implicitDefEqProofs [-getElem?_pos, -Iqa, -Iqb, -Iqc, -Iqd, -Lqa, Lqb, Lqc, Lqd, q1, q2, q3, hx, hi2, hi3, hi4, hi5, l10, k12, c13, pc13]
    refine Res.bret ?_
    simp -implicitDefEqProofs [-getElem?_pos, -Iqa, -Iqb, -Iqc, -Iqd, -Lqa, Lqb, Lqc, Lqd, and_assoc, QR_threshold_level_1, ownAt, q1, q2, q3, hx, hi2, hi3, hi4, hi5, l10, k12, c13, pc13]
theorem Pe_threshold_level_1 {p0 : Tru} {q : St} (hI : I_threshold_level_1 p0 p0.inner.length q) : Res (C Tryz.prog cf (Code.fst (Code.fst (Code.snd (Code.fst (Code.snd (Code.snd (Code.snd (Code.snd ((Tryz.f84.body).getD .skip))))))))) q) fun e q' => e = .exit 0 ∧ Q_threshold_level_1 p0 q' := by
  simp only [I_threshold_level_1] at hI
  obtain ⟨q1, q2, q3⟩ := hI
  simp only [Code.fst, Code.snd, Tryz.f84, Option.getD_some]
  simp -implicitDefEqProofs [-getElem?_pos, -Iqa, -Iqb, -Iqc, -Iqd, -Lqa, Lqb, Lqc, Lqd, q1, q2, q3]
  refine Res.x ?_
  simp -implicitDefEqProofs [-getElem?_pos, -Iqa, -Iqb, -Iqc, -Iqd, -Lqa, Lqb, Lqc, Lqd, and_assoc, Q_threshold_level_1, ownAt, q1, q2, q3]
theorem P_threshold_level_1 {p0 : Tru} {cc : Code} (hcc : cc = .block 0 (.loop (Code.fst (Code.fst (Code.snd (Code.fst (Code.snd (Code.snd (Code.snd (Code.snd ((Tryz.f84.body).getD .skip))))))))))) {s : St} {z : Option (Ex × St)} (hz : C Tryz.prog cf cc s = z) {r : (Stp Unit Int)} (hn : p0.inner.length < 4611686018427387904) (hI : I_threshold_level_1 p0 0 s) (hB : loopL (fun i a x => B_threshold_level_1 p0 i x) 0 () p0.inner = some r) : Res z (postS (fun a q => Q_threshold_level_1 p0 q) (fun a q => QR_threshold_level_1 p0 a q) r) := by
  subst hcc
  exact loopL_sim (I := fun i a q => I_threshold_level_1 p0 i q) (Q := (fun a q => Q_threshold_level_1 p0 q)) (QR := (fun a q => QR_threshold_level_1 p0 a q)) (fun i x a q r hx hi h hB => Pb_threshold_level_1 hx hi hn h hB) (fun a q h => Pe_threshold_level_1 h) hI hz hB
noncomputable def B_threshold_level (p0 : Tru) : Option Int :=
  kb (B_threshold_level_0 p0) fun z2 =>
  cnd z2 (
    some 4) (
    kb (G_slices_ContainsFunc___int_int_ p0.nodes) fun y4 =>
    cnd y4 (
      some 5) (
      kb (G_nodeset_Of p0.nodes) fun y7 =>
      cnd (decide (y7.2 = 0)) (
        kb (smallK p0.inner) fun _ =>
        kb (loopL (fun i a x => B_threshold_level_1 p0 i x) 0 () p0.inner) fun o => stpK o (fun z14 =>
          some 0) (fun z14r =>
          some z14r)) (
        some y7.2)))
theorem sim_threshold_level {p0 : Tru} {r : Int} (hB : B_threshold_level p0 = some r) : R 84 [(.agg [(i64 p0.thr), (.pv (.sl p0.nodes.length (ints p0.nodes))), (.pv (.sl p0.inner.length (encTs p0.inner)))])] [] = some ((i64 r), [], []) := by
  rw [R_eq _ _ _ fn_threshold_level]
  simp only [Code.fst, Code.snd, Tryz.f84, Option.getD_some]
  generalize hc0 : Code.region 1 _ _ = cc0
  generalize hc1 : Code.block 0 _ = cc1
  generalize hr5 : Code.region 5 _ _ = rr5
  generalize hr8 : Code.region 8 _ _ = rr8
  unfold B_threshold_level at hB
  try simp -implicitDefEqProofs [-getElem?_pos, -Iqa, -Iqb, -Iqc, -Iqd, -Lqa, Lqb, Lqc, Lqd]
  generalize hz0 : C Tryz.prog cf cc0 _ = z0
  obtain ⟨z2, hB1, hB⟩ := kb_inv hB
  have hJ := P_threshold_level_0 (hc0.symm.trans (by kernel_rfl)) hz0 (by simp -implicitDefEqProofs [-getElem?_pos, -Iqa, -Iqb, -Iqc, -Iqd, -Lqa, Lqb, Lqc, Lqd, and_assoc, J_threshold_level_0, ownAt]) hB1
  obtain ⟨e0, s0, rfl, hq⟩ := hJ.open
  clear hB1
  obtain ⟨rfl, hq⟩ := hq
  simp only [Q_threshold_level_0] at hq
  obtain ⟨q2_1, ⟨g2_3, q2_2, q2_3⟩⟩ := hq
  rcases cnd_inv hB with ⟨c3, hB⟩ | ⟨c3, hB⟩
  · obtain rfl := Option.some.inj hB
    simp -implicitDefEqProofs [-getElem?_pos, -Iqa, -Iqb, -Iqc, -Iqd, -Lqa, Lqb, Lqc, Lqd, q2_1, q2_2, q2_3, c3]
  · obtain ⟨y4, k5, hB⟩ := kb_inv hB
    replace k5 := run_slices_ContainsFunc___int_int_ k5
    try simp only [Iqe, Iqf, Lqe, Lqf, Lqg, Lqh, Nqa, Nat.reduceAdd, Tqa, Tqb, Tqc, Eqe, Eqf, Eqg, Eqh, Eqa, Eqb, Eqc, Eqd, Eqi, Eqj, Eqk, Eql, Eqm, Eqn, c3] at k5
    try dsimp only at hB
    rcases cnd_inv hB with ⟨c6, hB⟩ | ⟨c6, hB⟩
    · obtain rfl := Option.some.inj hB
      simp -implicitDefEqProofs [-getElem?_pos, -Iqa, -Iqb, -Iqc, -Iqd, -Lqa, Lqb, Lqc, Lqd, q2_1, q2_2, q2_3, c3, k5, c6]
    · obtain ⟨y7, k8, hB⟩ := kb_inv hB
      replace k8 := run_nodeset_Of k8
      try simp only [Iqe, Iqf, Lqe, Lqf, Lqg, Lqh, Nqa, Nat.reduceAdd, Tqa, Tqb, Tqc, Eqe, Eqf, Eqg, Eqh, Eqa, Eqb, Eqc, Eqd, Eqi, Eqj, Eqk, Eql, Eqm, Eqn, c3, c6] at k8
      try dsimp only at hB
      rcases cnd_inv hB with ⟨c9, hB⟩ | ⟨c9, hB⟩
      · have pc9 := eq_true (of_decide_eq_true c9)
        subst hr5
        subst hr8
        try simp -implicitDefEqProofs [-getElem?_pos, -Iqa, -Iqb, -Iqc, -Iqd, -Lqa, Lqb, Lqc, Lqd, q2_1, q2_2, q2_3, c3, k5, c6, k8, c9, pc9]
        generalize hz1 : C Tryz.prog cf cc1 _ = z1
        obtain ⟨_, hsm, hB⟩ := kb_inv hB
        obtain ⟨o, hB1, hB⟩ := kb_inv hB
        have hJ := P_threshold_level_1 (hc1.symm.trans (by kernel_rfl)) hz1 (smallK_inv hsm) (by simp -implicitDefEqProofs [-getElem?_pos, -Iqa, -Iqb, -Iqc, -Iqd, -Lqa, Lqb, Lqc, Lqd, and_assoc, I_threshold_level_1, ownAt, q2_1, q2_2, q2_3, c3, k5, c6, k8, c9, pc9]) hB1
        obtain ⟨e1, s1, rfl, hq⟩ := hJ.open
        clear hB1
        rcases o with z14 | ⟨_, _⟩ | z14r
        · simp only [stpK_go] at hB
          obtain ⟨rfl, hq⟩ := hq
          simp only [Q_threshold_level_1] at hq
          obtain rfl := Option.some.inj hB
          simp -implicitDefEqProofs [-getElem?_pos, -Iqa, -Iqb, -Iqc, -Iqd, -Lqa, Lqb, Lqc, Lqd, c3, k5, c6, k8, c9, pc9]
        · exact hq.elim
        · simp only [stpK_ret] at hB
          obtain ⟨rfl, hq⟩ := hq
          simp only [QR_threshold_level_1] at hq
          have q14_r1 := hq
          obtain rfl := Option.some.inj hB
          simp -implicitDefEqProofs [-getElem?_pos, -Iqa, -Iqb, -Iqc, -Iqd, -Lqa, Lqb, Lqc, Lqd, q14_r1, c3, k5, c6, k8, c9, pc9]
      · have pc9 := eq_false (of_decide_eq_false c9)
        obtain rfl := Option.some.inj hB
        subst hr5
        simp -implicitDefEqProofs [-getElem?_pos, -Iqa, -Iqb, -Iqc, -Iqd, -Lqa, Lqb, Lqc, Lqd, q2_1, q2_2, q2_3, c3, k5, c6, k8, c9, pc9]
theorem g_threshold_level {p0 : Tru} {r : Int} (hB : B_threshold_level p0 = some r) : G_threshold_level p0 = some r := dec_of (fun a b h => by rcases a with a0_; rcases b with b0_; simp at h; simp [*]) (sim_threshold_level hB)
end Go.Am
namespace Go.Am
open Go Go.Proofs
set_option maxRecDepth 4000
set_option maxHeartbeats 4000000
open Int renaming ofNat_lt → Iqa, ofNat_le → Iqb, natCast_eq_zero → Iqc, natCast_pos → Iqd, cast_ofNat_Int → Iqe, natCast_zero → Iqf
open List renaming length_eq_zero_iff → Lqa, getElem?_cons_zero → Lqb, getElem?_cons_succ → Lqc, getElem?_nil → Lqd, length_cons → Lqe, length_nil → Lqf, nil_append → Lqg, cons_append → Lqh
open Nat renaming zero_add → Nqa
open Tru renaming thr_mk → Tqa, nodes_mk → Tqb, inner_mk → Tqc
open Go.Am renaming es_api_Declaration_cons → Eqa, es_api_Declaration_nil → Eqb, es_api_Evidence_cons → Eqc, es_api_Evidence_nil → Eqd, ints_cons → Eqe, ints_nil → Eqf, encTs_cons → Eqg, encTs_nil → Eqh, es_str_cons → Eqi, es_str_nil → Eqj, es_u64_cons → Eqk, es_u64_nil → Eql, es_u8_cons → Eqm, es_u8_nil → Eqn
noncomputable def B_threshold_Valid_0 (p0 : Tru) : Option Bool :=
  kb (G_threshold_Depth p0) fun y1 =>
  cnd (decide (4 < y1)) (
    some true) (
    kb (G_threshold_Size p0) fun y4 =>
    some (decide (200 < y4)))
def J_threshold_Valid_0 (p0 : Tru) (q : St) : Prop := (∃ (g : Nat), q (.t 1) = .ptr (.site 0 0 0) g 0 ∧ q (.i (.site 0 0 0)) = .box g [(i64 p0.thr), (.pv (.sl p0.nodes.length (ints p0.nodes))), (.pv (.sl p0.inner.length (encTs p0.inner)))])
def Q_threshold_Valid_0 (p0 : Tru) (o10_0 : Bool) (q : St) : Prop := q (.t 10) = (bl o10_0) ∧ (∃ (g : Nat), q (.t 1) = .ptr (.site 0 0 0) g 0 ∧ q (.i (.site 0 0 0)) = .box g [(i64 p0.thr), (.pv (.sl p0.nodes.length (ints p0.nodes))), (.pv (.sl p0.inner.length (encTs p0.inner)))])
theorem P_threshold_Valid_0 {p0 : Tru} {cc : Code} (hcc : cc = (Code.fst (Code.fst (Code.snd ((Tryz.f52.body).getD .skip))))) {s : St} {z : Option (Ex × St)} (hz : C Tryz.prog cf cc s = z) {r : Bool} (hI : J_threshold_Valid_0 p0 s) (hB : B_threshold_Valid_0 p0 = some r) : Res z (postG (fun a q => Q_threshold_Valid_0 p0 a q) r) := by
  subst hcc
  subst hz
  simp only [J_threshold_Valid_0] at hI
  obtain ⟨g2, q1, q2⟩ := hI
  simp only [Code.fst, Code.snd, Tryz.f52, Option.getD_some]
  unfold B_threshold_Valid_0 at hB
  obtain ⟨y1, k2, hB⟩ := kb_inv hB
  replace k2 := run_threshold_Depth k2
  try simp only [Iqe, Iqf, Lqe, Lqf, Lqg, Lqh, Nqa, Nat.reduceAdd, Tqa, Tqb, Tqc, Eqe, Eqf, Eqg, Eqh, Eqa, Eqb, Eqc, Eqd, Eqi, Eqj, Eqk, Eql, Eqm, Eqn] at k2
  try dsimp only at hB
  rcases cnd_inv hB with ⟨c3, hB⟩ | ⟨c3, hB⟩
  · have pc3 := eq_true (of_decide_eq_true c3)
    obtain rfl := Option.some.inj hB
    try simp -implicitDefEqProofs [-getElem?_pos, -Iqa, -Iqb, -Iqc, -Iqd, -Lqa, Lqb, Lqc, Lqd, q1, q2, k2, c3, pc3]
    refine Res.g ?_
    simp -implicitDefEqProofs [-getElem?_pos, -Iqa, -Iqb, -Iqc, -Iqd, -Lqa, Lqb, Lqc, Lqd, and_assoc, Q_threshold_Valid_0, ownAt, q1, q2, k2, c3, pc3]
  · have pc3 := eq_false (of_decide_eq_false c3)
    obtain ⟨y4, k5, hB⟩ := kb_inv hB
    replace k5 := run_threshold_Size k5
    try simp only [Iqe, Iqf, Lqe, Lqf, Lqg, Lqh, Nqa, Nat.reduceAdd, Tqa, Tqb, Tqc, Eqe, Eqf, Eqg, Eqh, Eqa, Eqb, Eqc, Eqd, Eqi, Eqj, Eqk, Eql, Eqm, Eqn] at k5
    try dsimp only at hB
    obtain rfl := Option.some.inj hB
    try simp -implicitDefEqProofs [-getElem?_pos, -Iqa, -Iqb, -Iqc, -Iqd, -Lqa, Lqb, Lqc, Lqd, q1, q2, k2, c3, pc3, k5]
    refine Res.g ?_
    simp -implicitDefEqProofs [-getElem?_pos, -Iqa, -Iqb, -Iqc, -Iqd, -Lqa, Lqb, Lqc, Lqd, and_assoc, Q_threshold_Valid_0, ownAt, q1, q2, k2, c3, pc3, k5]
noncomputable def B_threshold_Valid (p0 : Tru) : Option Int :=
  kb (B_threshold_Valid_0 p0) fun z6 =>
  cnd z6 (
    some 3) (
    kb (G_threshold_level p0) fun y8 =>
    some y8)
theorem sim_threshold_Valid {p0 : Tru} {r : Int} (hB : B_threshold_Valid p0 = some r) : R 52 [(.agg [(i64 p0.thr), (.pv (.sl p0.nodes.length (ints p0.nodes))), (.pv (.sl p0.inner.length (encTs p0.inner)))])] [] = some ((i64 r), [], []) := by
  rw [R_eq _ _ _ fn_threshold_Valid]
  simp only [Code.fst, Code.snd, Tryz.f52, Option.getD_some]
  generalize hc0 : Code.region 1 _ _ = cc0
  unfold B_threshold_Valid at hB
  try simp -implicitDefEqProofs [-getElem?_pos, -Iqa, -Iqb, -Iqc, -Iqd, -Lqa, Lqb, Lqc, Lqd]
  generalize hz0 : C Tryz.prog cf cc0 _ = z0
  obtain ⟨z6, hB1, hB⟩ := kb_inv hB
  have hJ := P_threshold_Valid_0 (hc0.symm.trans (by kernel_rfl)) hz0 (by simp -implicitDefEqProofs [-getElem?_pos, -Iqa, -Iqb, -Iqc, -Iqd, -Lqa, Lqb, Lqc, Lqd, and_assoc, J_threshold_Valid_0, ownAt]) hB1
  obtain ⟨e0, s0, rfl, hq⟩ := hJ.open
  clear hB1
  obtain ⟨rfl, hq⟩ := hq
  simp only [Q_threshold_Valid_0] at hq
  obtain ⟨q6_1, ⟨g6_3, q6_2, q6_3⟩⟩ := hq
  rcases cnd_inv hB with ⟨c7, hB⟩ | ⟨c7, hB⟩
  · obtain rfl := Option.some.inj hB
    simp -implicitDefEqProofs [-getElem?_pos, -Iqa, -Iqb, -Iqc, -Iqd, -Lqa, Lqb, Lqc, Lqd, q6_1, q6_2, q6_3, c7]
  · obtain ⟨y8, k9, hB⟩ := kb_inv hB
    replace k9 := run_threshold_level k9
    try simp only [Iqe, Iqf, Lqe, Lqf, Lqg, Lqh, Nqa, Nat.reduceAdd, Tqa, Tqb, Tqc, Eqe, Eqf, Eqg, Eqh, Eqa, Eqb, Eqc, Eqd, Eqi, Eqj, Eqk, Eql, Eqm, Eqn, c7] at k9
    try dsimp only at hB
    obtain rfl := Option.some.inj hB
    simp -implicitDefEqProofs [-getElem?_pos, -Iqa, -Iqb, -Iqc, -Iqd, -Lqa, Lqb, Lqc, Lqd, q6_1, q6_2, q6_3, c7, k9]
theorem g_threshold_Valid {p0 : Tru} {r : Int} (hB : B_threshold_Valid p0 = some r) : G_threshold_Valid p0 = some r := dec_of (fun a b h => by rcases a with a0_; rcases b with b0_; simp at h; simp [*]) (sim_threshold_Valid hB)
end Go.Am
namespace Go.Am
open Go Go.Proofs
set_option maxRecDepth 4000
set_option maxHeartbeats 4000000
noncomputable def B_strconv_Itoa (p0 : Int) : Option (List UInt8) := itoaK p0
theorem sim_strconv_Itoa {p0 : Int} {r : (List UInt8)} (hB : B_strconv_Itoa p0 = some r) : R 56 [(i64 p0)] [] = some ((.pv (.str r)), [], []) := by
  show W Tryz.prog cf _ _ _ = _
  rw [W_ext (sm := itoaSm) rfl]
  unfold B_strconv_Itoa at hB
  simp [itoaSm, es_strs, unStrs_strsP, strsP_len, hB]
theorem g_strconv_Itoa {p0 : Int} {r : (List UInt8)} (hB : B_strconv_Itoa p0 = some r) : G_strconv_Itoa p0 = some r := dec_of (fun a b h => by rcases a with a0_; rcases b with b0_; simp at h; simp [*]) (sim_strconv_Itoa hB)
end Go.Am
namespace Go.Am
open Go Go.Proofs
set_option maxRecDepth 4000
set_option maxHeartbeats 4000000
noncomputable def B_strings_Join (p0 : (List (List UInt8))) (p1 : (List UInt8)) : Option (List UInt8) := joinK p0 p1
theorem sim_strings_Join {p0 : (List (List UInt8))} {p1 : (List UInt8)} {r : (List UInt8)} (hB : B_strings_Join p0 p1 = some r) : R 121 [(.pv (.sl p0.length (es_str p0))), (.pv (.str p1))] [] = some ((.pv (.str r)), [], []) := by
  show W Tryz.prog cf _ _ _ = _
  rw [W_ext (sm := joinSm) rfl]
  unfold B_strings_Join at hB
  simp [joinSm, es_strs, unStrs_strsP, strsP_len, hB]
theorem g_strings_Join {p0 : (List (List UInt8))} {p1 : (List UInt8)} {r : (List UInt8)} (hB : B_strings_Join p0 p1 = some r) : G_strings_Join p0 p1 = some r := dec_of (fun a b h => by rcases a with a0_; rcases b with b0_; simp at h; simp [*]) (sim_strings_Join hB)
end Go.Am
namespace Go.Am
open Go Go.Proofs
set_option maxRecDepth 4000
set_option maxHeartbeats 4000000
open Int renaming ofNat_lt → Iqa, ofNat_le → Iqb, natCast_eq_zero → Iqc, natCast_pos → Iqd, cast_ofNat_Int → Iqe, natCast_zero → Iqf
open List renaming length_eq_zero_iff → Lqa, getElem?_cons_zero → Lqb, getElem?_cons_succ → Lqc, getElem?_nil → Lqd, length_cons → Lqe, length_nil → Lqf, nil_append → Lqg, cons_append → Lqh
open Nat renaming zero_add → Nqa
open Tru renaming thr_mk → Tqa, nodes_mk → Tqb, inner_mk → Tqc
open Go.Am renaming es_api_Declaration_cons → Eqa, es_api_Declaration_nil → Eqb, es_api_Evidence_cons → Eqc, es_api_Evidence_nil → Eqd, ints_cons → Eqe, ints_nil → Eqf, encTs_cons → Eqg, encTs_nil → Eqh, es_str_cons → Eqi, es_str_nil → Eqj, es_u64_cons → Eqk, es_u64_nil → Eql, es_u8_cons → Eqm, es_u8_nil → Eqn
noncomputable def B_notation_write_0 (p0 : Tru) (i1 : Nat) (x3_0 : (List (List UInt8))) (e2 : Int) : Option (List (List UInt8)) :=
  kb (G_strconv_Itoa e2) fun y2 =>
  kb (appK x3_0 ([y2] : List (List UInt8)) 16) fun L4 =>
  some L4
def I_notation_write_0 (p0 : Tru) (i1 : Nat) (x3_0 : (List (List UInt8))) (q : St) : Prop := q (.t 10) = (i64 (p0.nodes.length : Int)) ∧ q (.t 11) = (i64 (i1 : Int)) ∧ (∃ v : AV, q (.t 3) = v ∧ (ownAt q v (.site 5 4 0) false 1 x3_0.length (es_str x3_0) ∨ (v = .nilsl ∧ x3_0 = []))) ∧ q (.t 9) = (.pv (.sl p0.nodes.length (ints p0.nodes))) ∧ (∃ (g : Nat), q (.t 1) = .ptr (.site 0 0 0) g 0 ∧ q (.i (.site 0 0 0)) = .box g [(i64 p0.thr), (.pv (.sl p0.nodes.length (ints p0.nodes))), (.pv (.sl p0.inner.length (encTs p0.inner)))])
def Q_notation_write_0 (p0 : Tru) (x3_0 : (List (List UInt8))) (q : St) : Prop := (∃ v : AV, q (.t 3) = v ∧ (ownAt q v (.site 5 4 0) false 1 x3_0.length (es_str x3_0) ∨ (v = .nilsl ∧ x3_0 = []))) ∧ (∃ (g : Nat), q (.t 1) = .ptr (.site 0 0 0) g 0 ∧ q (.i (.site 0 0 0)) = .box g [(i64 p0.thr), (.pv (.sl p0.nodes.length (ints p0.nodes))), (.pv (.sl p0.inner.length (encTs p0.inner)))])
theorem Pb_notation_write_0 {p0 : Tru} {i1 : Nat} {x3_0 : (List (List UInt8))} {e2 : Int} {q : St} {r : (List (List UInt8))} (hx : p0.nodes[i1]? = some e2) (hi : i1 < p0.nodes.length) (hn : p0.nodes.length < 4611686018427387904) (hI : I_notation_write_0 p0 i1 x3_0 q) (hB : B_notation_write_0 p0 i1 x3_0 e2 = some r) : Res (C Tryz.prog cf (Code.fst (Code.fst (Code.snd (Code.fst (Code.snd (Code.snd ((Tryz.f87.body).getD .skip))))))) q) (postG (fun a q => I_notation_write_0 p0 (i1 + 1) a q) r) := by
  have hi3 : (i1 : Int) < (p0.nodes.length : Int) := by omega
  have hi2 := decide_eq_true hi3
  have hi4 := idx_step hi hn
  have hi5 := ne_of_get hx
  simp only [I_notation_write_0] at hI
  obtain ⟨q1, q2, ⟨v3, q3, a3⟩, q4, ⟨g6, q5, q6⟩⟩ := hI
  simp only [Code.fst, Code.snd, Tryz.f87, Option.getD_some]
  generalize hr5 : Code.region 5 _ _ = rr5
  unfold B_notation_write_0 at hB
  rcases a3 with ⟨ga3, rfl, oa3⟩ | ⟨rfl, ea3⟩
  · obtain ⟨y2, k3, hB⟩ := kb_inv hB
    replace k3 := run_strconv_Itoa k3
    try simp only [Iqe, Iqf, Lqe, Lqf, Lqg, Lqh, Nqa, Nat.reduceAdd, Tqa, Tqb, Tqc, Eqe, Eqf, Eqg, Eqh, Eqa, Eqb, Eqc, Eqd, Eqi, Eqj, Eqk, Eql, Eqm, Eqn] at k3
    try dsimp only at hB
    obtain ⟨L4, a5, hB⟩ := kb_inv hB
    obtain ⟨a5z, a5a, a5y⟩ := appK_inv a5
    try (simp only [Lqg] at a5z; subst a5z)
    have a5b := appK_len a5
    have a5c := es_str_appK a5
    have a5d := appK_le a5
    try simp only [Iqe, Iqf, Lqe, Lqf, Lqg, Lqh, Nqa, Nat.reduceAdd, Tqa, Tqb, Tqc, Eqe, Eqf, Eqg, Eqh, Eqa, Eqb, Eqc, Eqd, Eqi, Eqj, Eqk, Eql, Eqm, Eqn] at a5a a5b a5c
    try replace a5b : _ = (1 : Nat) := a5b.symm
    try dsimp only at hB
    obtain rfl := Option.some.inj hB
    subst hr5
    try simp -implicitDefEqProofs [-getElem?_pos, -Iqa, -Iqb, -Iqc, -Iqd, -Lqa, Lqb, Lqc, Lqd, q1, q2, q3, q4, q5, q6, oa3, hx, hi2, hi3, hi4, hi5, k3, a5a, a5b, a5c, a5d]
    refine Res.g ?_
    simp -implicitDefEqProofs [-getElem?_pos, -Iqa, -Iqb, -Iqc, -Iqd, -Lqa, Lqb, Lqc, Lqd, and_assoc, I_notation_write_0, ownAt, q1, q2, q3, q4, q5, q6, oa3, hx, hi2, hi3, hi4, hi5, k3, a5a, a5b, a5c, a5d]
  · try subst ea3
    obtain ⟨y2, k3, hB⟩ := kb_inv hB
    replace k3 := run_strconv_Itoa k3
    try simp only [Iqe, Iqf, Lqe, Lqf, Lqg, Lqh, Nqa, Nat.reduceAdd, Tqa, Tqb, Tqc, Eqe, Eqf, Eqg, Eqh, Eqa, Eqb, Eqc, Eqd, Eqi, Eqj, Eqk, Eql, Eqm, Eqn] at k3
    try dsimp only at hB
    obtain ⟨L4, a5, hB⟩ := kb_inv hB
    obtain ⟨a5z, a5a, a5y⟩ := appK_inv a5
    simp only [Lqg] at a5z
    subst a5z
    try dsimp only at hB
    obtain rfl := Option.some.inj hB
    subst hr5
    try simp -implicitDefEqProofs [-getElem?_pos, -Iqa, -Iqb, -Iqc, -Iqd, -Lqa, Lqb, Lqc, Lqd, q1, q2, q3, q4, q5, q6, hx, hi2, hi3, hi4, hi5, k3]
    refine Res.g ?_
    simp -implicitDefEqProofs [-getElem?_pos, -Iqa, -Iqb, -Iqc, -Iqd, -Lqa, Lqb, Lqc, Lqd, and_assoc, I_notation_write_0, ownAt, q1, q2, q3, q4, q5, q6, hx, hi2, hi3, hi4, hi5, k3]; all_goals ((repeat' apply And.intro) <;> assumption)
theorem Pe_notation_write_0 {p0 : Tru} {x3_0 : (List (List UInt8))} {q : St} (hI : I_notation_write_0 p0 p0.nodes.length x3_0 q) : Res (C Tryz.prog cf (Code.fst (Code.fst (Code.snd (Code.fst (Code.snd (Code.snd ((Tryz.f87.body).getD .skip))))))) q) fun e q' => e = .exit 0 ∧ Q_notation_write_0 p0 x3_0 q' := by
  simp only [I_notation_write_0] at hI
  obtain ⟨q1, q2, ⟨v3, q3, a3⟩, q4, ⟨g6, q5, q6⟩⟩ := hI
  simp only [Code.fst, Code.snd, Tryz.f87, Option.getD_some]
  rcases a3 with ⟨ga3, rfl, oa3⟩ | ⟨rfl, ea3⟩
  · simp -implicitDefEqProofs [-getElem?_pos, -Iqa, -Iqb, -Iqc, -Iqd, -Lqa, Lqb, Lqc, Lqd, q1, q2, q3, q4, q5, q6, oa3]
    refine Res.x ?_
    simp -implicitDefEqProofs [-getElem?_pos, -Iqa, -Iqb, -Iqc, -Iqd, -Lqa, Lqb, Lqc, Lqd, and_assoc, Q_notation_write_0, ownAt, q1, q2, q3, q4, q5, q6, oa3]
  · try subst ea3
    simp -implicitDefEqProofs [-getElem?_pos, -Iqa, -Iqb, -Iqc, -Iqd, -Lqa, Lqb, Lqc, Lqd, q1, q2, q3, q4, q5, q6]
    refine Res.x ?_
    simp -implicitDefEqProofs [-getElem?_pos, -Iqa, -Iqb, -Iqc, -Iqd, -Lqa, Lqb, Lqc, Lqd, and_assoc, Q_notation_write_0, ownAt, q1, q2, q3, q4, q5, q6]
theorem P_notation_write_0 {p0 : Tru} {x3_0 : (List (List UInt8))} {cc : Code} (hcc : cc = .block 0 (.loop (Code.fst (Code.fst (Code.snd (Code.fst (Code.snd (Code.snd ((Tryz.f87.body).getD .skip))))))))) {s : St} {z : Option (Ex × St)} (hz : C Tryz.prog cf cc s = z) {r : (List (List UInt8))} (hn : p0.nodes.length < 4611686018427387904) (hI : I_notation_write_0 p0 0 x3_0 s) (hB : foldO (fun i a x => B_notation_write_0 p0 i a x) 0 x3_0 p0.nodes = some r) : Res z (postG (fun a q => Q_notation_write_0 p0 a q) r) := by
  subst hcc
  exact fold_sim (I := fun i a q => I_notation_write_0 p0 i a q) (Q := (fun a q => Q_notation_write_0 p0 a q)) (fun i x a q r hx hi h hB => Pb_notation_write_0 hx hi hn h hB) (fun a q h => Pe_notation_write_0 h) hI hz hB
noncomputable def B_notation_write_1 (p0 : Tru) (i14 : Nat) (x3_1 : (List (List UInt8))) (e15 : Tru) : Option (List (List UInt8)) :=
  kb (G_notation_write e15) fun y8 =>
  kb (appK x3_1 ([y8] : List (List UInt8)) 16) fun L10 =>
  some L10
def I_notation_write_1 (p0 : Tru) (i14 : Nat) (x3_1 : (List (List UInt8))) (q : St) : Prop := q (.t 22) = (.pv (.sl p0.inner.length (encTs p0.inner))) ∧ q (.t 23) = (i64 (p0.inner.length : Int)) ∧ q (.t 24) = (i64 (i14 : Int)) ∧ (∃ v : AV, q (.t 3) = v ∧ (ownAt q v (.site 10 4 0) false 1 x3_1.length (es_str x3_1) ∨ ownAt q v (.site 5 4 0) false 1 x3_1.length (es_str x3_1) ∨ (v = .nilsl ∧ x3_1 = []))) ∧ (∃ (g : Nat), q (.t 1) = .ptr (.site 0 0 0) g 0 ∧ q (.i (.site 0 0 0)) = .box g [(i64 p0.thr), (.pv (.sl p0.nodes.length (ints p0.nodes))), (.pv (.sl p0.inner.length (encTs p0.inner)))])
def Q_notation_write_1 (p0 : Tru) (x3_1 : (List (List UInt8))) (q : St) : Prop := (∃ v : AV, q (.t 3) = v ∧ (ownAt q v (.site 10 4 0) false 1 x3_1.length (es_str x3_1) ∨ ownAt q v (.site 5 4 0) false 1 x3_1.length (es_str x3_1) ∨ (v = .nilsl ∧ x3_1 = []))) ∧ (∃ (g : Nat), q (.t 1) = .ptr (.site 0 0 0) g 0 ∧ q (.i (.site 0 0 0)) = .box g [(i64 p0.thr), (.pv (.sl p0.nodes.length (ints p0.nodes))), (.pv (.sl p0.inner.length (encTs p0.inner)))])
theorem Pb_notation_write_1 {p0 : Tru} {i14 : Nat} {x3_1 : (List (List UInt8))} {e15 : Tru} {q : St} {r : (List (List UInt8))} (hx : p0.inner[i14]? = some e15) (hi : i14 < p0.inner.length) (hn : p0.inner.length < 4611686018427387904) (hI : I_notation_write_1 p0 i14 x3_1 q) (hB : B_notation_write_1 p0 i14 x3_1 e15 = some r) : Res (C Tryz.prog cf (Code.fst (Code.fst (Code.snd (Code.fst (Code.snd (Code.snd (Code.snd ((Tryz.f87.body).getD .skip)))))))) q) (postG (fun a q => I_notation_write_1 p0 (i14 + 1) a q) r) := by
  have hi3 : (i14 : Int) < (p0.inner.length : Int) := by omega
  have hi2 := decide_eq_true hi3
  have hi4 := idx_step hi hn
  have hi5 := ne_of_get hx
  simp only [I_notation_write_1] at hI
  obtain ⟨q1, q2, q3, ⟨v4, q4, a4⟩, ⟨g6, q5, q6⟩⟩ := hI
  simp only [Code.fst, Code.snd, Tryz.f87, Option.getD_some]
  generalize hr9 : Code.region 9 _ _ = rr9
  generalize hr10 : Code.region 10 _ _ = rr10
  unfold B_notation_write_1 at hB
  rcases a4 with ⟨ga4, rfl, oa4⟩ | ⟨ga4, rfl, oa4⟩ | ⟨rfl, ea4⟩
  · have l7 := encTs_ld hx
    obtain ⟨y8, k9, hB⟩ := kb_inv hB
    replace k9 := run_notation_write k9
    try simp only [Iqe, Iqf, Lqe, Lqf, Lqg, Lqh, Nqa, Nat.reduceAdd, Tqa, Tqb, Tqc, Eqe, Eqf, Eqg, Eqh, Eqa, Eqb, Eqc, Eqd, Eqi, Eqj, Eqk, Eql, Eqm, Eqn] at k9
    try dsimp only at hB
    obtain ⟨L10, a11, hB⟩ := kb_inv hB
    obtain ⟨a11z, a11a, a11y⟩ := appK_inv a11
    try (simp only [Lqg] at a11z; subst a11z)
    have a11b := appK_len a11
    have a11c := es_str_appK a11
    have a11d := appK_le a11
    try simp only [Iqe, Iqf, Lqe, Lqf, Lqg, Lqh, Nqa, Nat.reduceAdd, Tqa, Tqb, Tqc, Eqe, Eqf, Eqg, Eqh, Eqa, Eqb, Eqc, Eqd, Eqi, Eqj, Eqk, Eql, Eqm, Eqn] at a11a a11b a11c
    try replace a11b : _ = (1 : Nat) := a11b.symm
    try dsimp only at hB
    obtain rfl := Option.some.inj hB
    subst hr9
    subst hr10
    try simp -implicitDefEqProofs [-getElem?_pos, -Iqa, -Iqb, -Iqc, -Iqd, -Lqa, Lqb, Lqc, Lqd, q1, q2, q3, q4, q5, q6, oa4, hx, hi2, hi3, hi4, hi5, l7, k9, a11a, a11b, a11c, a11d]
    refine Res.g ?_
    simp -implicitDefEqProofs [-getElem?_pos, -Iqa, -Iqb, -Iqc, -Iqd, -Lqa, Lqb, Lqc, Lqd, and_assoc, I_notation_write_1, ownAt, q1, q2, q3, q4, q5, q6, oa4, hx, hi2, hi3, hi4, hi5, l7, k9, a11a, a11b, a11c, a11d]
  · have l7 := encTs_ld hx
    obtain ⟨y8, k9, hB⟩ := kb_inv hB
    replace k9 := run_notation_write k9
    try simp only [Iqe, Iqf, Lqe, Lqf, Lqg, Lqh, Nqa, Nat.reduceAdd, Tqa, Tqb, Tqc, Eqe, Eqf, Eqg, Eqh, Eqa, Eqb, Eqc, Eqd, Eqi, Eqj, Eqk, Eql, Eqm, Eqn] at k9
    try dsimp only at hB
    obtain ⟨L10, a11, hB⟩ := kb_inv hB
    obtain ⟨a11z, a11a, a11y⟩ := appK_inv a11
    try (simp only [Lqg] at a11z; subst a11z)
    have a11b := appK_len a11
    have a11c := es_str_appK a11
    have a11d := appK_le a11
    try simp only [Iqe, Iqf, Lqe, Lqf, Lqg, Lqh, Nqa, Nat.reduceAdd, Tqa, Tqb, Tqc, Eqe, Eqf, Eqg, Eqh, Eqa, Eqb, Eqc, Eqd, Eqi, Eqj, Eqk, Eql, Eqm, Eqn] at a11a a11b a11c
    try replace a11b : _ = (1 : Nat) := a11b.symm
    try dsimp only at hB
    obtain rfl := Option.some.inj hB
    subst hr9
    subst hr10
    try simp -implicitDefEqProofs [-getElem?_pos, -Iqa, -Iqb, -Iqc, -Iqd, -Lqa, Lqb, Lqc, Lqd, q1, q2, q3, q4, q5, q6, oa4, hx, hi2, hi3, hi4, hi5, l7, k9, a11a, a11b, a11c, a11d]
    refine Res.g ?_
    simp -implicitDefEqProofs [-getElem?_pos, -Iqa, -Iqb, -Iqc, -Iqd, -Lqa, Lqb, Lqc, Lqd, and_assoc, I_notation_write_1, ownAt, q1, q2, q3, q4, q5, q6, oa4, hx, hi2, hi3, hi4, hi5, l7, k9, a11a, a11b, a11c, a11d]
  · try subst ea4
    have l7 := encTs_ld hx
    obtain ⟨y8, k9, hB⟩ := kb_inv hB
    replace k9 := run_notation_write k9
    try simp only [Iqe, Iqf, Lqe, Lqf, Lqg, Lqh, Nqa, Nat.reduceAdd, Tqa, Tqb, Tqc, Eqe, Eqf, Eqg, Eqh, Eqa, Eqb, Eqc, Eqd, Eqi, Eqj, Eqk, Eql, Eqm, Eqn] at k9
    try dsimp only at hB
    obtain ⟨L10, a11, hB⟩ := kb_inv hB
    obtain ⟨a11z, a11a, a11y⟩ := appK_inv a11
    simp only [Lqg] at a11z
    subst a11z
    try dsimp only at hB
    obtain rfl := Option.some.inj hB
    subst hr9
    subst hr10
    try simp -implicitDefEqProofs [-getElem?_pos, -Iqa, -Iqb, -Iqc, -Iqd, -Lqa, Lqb, Lqc, Lqd, q1, q2, q3, q4, q5, q6, hx, hi2, hi3, hi4, hi5, l7, k9]
    refine Res.g ?_
    simp -implicitDefEqProofs [-getElem?_pos, -Iqa, -Iqb, -Iqc, -Iqd, -Lqa, Lqb, Lqc, Lqd, and_assoc, I_notation_write_1, ownAt, q1, q2, q3, q4, q5, q6, hx, hi2, hi3, hi4, hi5, l7, k9]; all_goals ((repeat' apply And.intro) <;> assumption)
theorem Pe_notation_write_1 {p0 : Tru} {x3_1 : (List (List UInt8))} {q : St} (hI : I_notation_write_1 p0 p0.inner.length x3_1 q) : Res (C Tryz.prog cf (Code.fst (Code.fst (Code.snd (Code.fst (Code.snd (Code.snd (Code.snd ((Tryz.f87.body).getD .skip)))))))) q) fun e q' => e = .exit 2 ∧ Q_notation_write_1 p0 x3_1 q' := by
  simp only [I_notation_write_1] at hI
  obtain ⟨q1, q2, q3, ⟨v4, q4, a4⟩, ⟨g6, q5, q6⟩⟩ := hI
  simp only [Code.fst, Code.snd, Tryz.f87, Option.getD_some]
  rcases a4 with ⟨ga4, rfl, oa4⟩ | ⟨ga4, rfl, oa4⟩ | ⟨rfl, ea4⟩
  · simp -implicitDefEqProofs [-getElem?_pos, -Iqa, -Iqb, -Iqc, -Iqd, -Lqa, Lqb, Lqc, Lqd, q1, q2, q3, q4, q5, q6, oa4]
    refine Res.x ?_
    simp -implicitDefEqProofs [-getElem?_pos, -Iqa, -Iqb, -Iqc, -Iqd, -Lqa, Lqb, Lqc, Lqd, and_assoc, Q_notation_write_1, ownAt, q1, q2, q3, q4, q5, q6, oa4]
  · simp -implicitDefEqProofs [-getElem?_pos, -Iqa, -Iqb, -Iqc, -Iqd, -Lqa, Lqb, Lqc, Lqd, q1, q2, q3, q4, q5, q6, oa4]
    refine Res.x ?_
    simp -implicitDefEqProofs [-getElem?_pos, -Iqa, -Iqb, -Iqc, -Iqd, -Lqa, Lqb, Lqc, Lqd, and_assoc, Q_notation_write_1, ownAt, q1, q2, q3, q4, q5, q6, oa4]
  · try subst ea4
    simp -implicitDefEqProofs [-getElem?_pos, -Iqa, -Iqb, -Iqc, -Iqd, -Lqa, Lqb, Lqc, Lqd, q1, q2, q3, q4, q5, q6]
    refine Res.x ?_
    simp -implicitDefEqProofs [-getElem?_pos, -Iqa, -Iqb, -Iqc, -Iqd, -Lqa, Lqb, Lqc, Lqd, and_assoc, Q_notation_write_1, ownAt, q1, q2, q3, q4, q5, q6]
theorem P_notation_write_1 {p0 : Tru} {x3_1 : (List (List UInt8))} {cc : Code} (hcc : cc = .block 2 (.loop (Code.fst (Code.fst (Code.snd (Code.fst (Code.snd (Code.snd (Code.snd ((Tryz.f87.body).getD .skip)))))))))) {s : St} {z : Option (Ex × St)} (hz : C Tryz.prog cf cc s = z) {r : (List (List UInt8))} (hn : p0.inner.length < 4611686018427387904) (hI : I_notation_write_1 p0 0 x3_1 s) (hB : foldO (fun i a x => B_notation_write_1 p0 i a x) 0 x3_1 p0.inner = some r) : Res z (postG (fun a q => Q_notation_write_1 p0 a q) r) := by
  subst hcc
  exact fold_sim (I := fun i a q => I_notation_write_1 p0 i a q) (Q := (fun a q => Q_notation_write_1 p0 a q)) (fun i x a q r hx hi h hB => Pb_notation_write_1 hx hi hn h hB) (fun a q h => Pe_notation_write_1 h) hI hz hB
noncomputable def B_notation_write (p0 : Tru) : Option (List UInt8) :=
  kb (smallK p0.nodes) fun _ =>
  kb (foldO (fun i a x => B_notation_write_0 p0 i a x) 0 ([] : (List (List UInt8))) p0.nodes) fun z6 =>
  kb (smallK p0.inner) fun _ =>
  kb (foldO (fun i a x => B_notation_write_1 p0 i a x) 0 z6 p0.inner) fun z12 =>
  kb (G_strconv_Itoa p0.thr) fun y13 =>
  kb (catK y13 ([32, 111, 102, 32, 40] : List UInt8)) fun S16 =>
  kb (G_strings_Join z12 ([44, 32] : List UInt8)) fun y17 =>
  kb (catK S16 y17) fun S20 =>
  kb (catK S20 ([41] : List UInt8)) fun S22 =>
  some S22
theorem sim_notation_write {p0 : Tru} {r : (List UInt8)} (hB : B_notation_write p0 = some r) : R 87 [(.agg [(i64 p0.thr), (.pv (.sl p0.nodes.length (ints p0.nodes))), (.pv (.sl p0.inner.length (encTs p0.inner)))])] [] = some ((.pv (.str r)), [], []) := by
  rw [R_eq _ _ _ fn_notation_write]
  simp only [Code.fst, Code.snd, Tryz.f87, Option.getD_some]
  generalize hc0 : Code.block 0 _ = cc0
  generalize hc1 : Code.block 2 _ = cc1
  generalize hr2 : Code.region 2 _ _ = rr2
  generalize hr7 : Code.region 7 _ _ = rr7
  generalize hr12 : Code.region 12 _ _ = rr12
  unfold B_notation_write at hB
  subst hr2
  try simp -implicitDefEqProofs [-getElem?_pos, -Iqa, -Iqb, -Iqc, -Iqd, -Lqa, Lqb, Lqc, Lqd]
  generalize hz0 : C Tryz.prog cf cc0 _ = z0
  obtain ⟨_, hsm, hB⟩ := kb_inv hB
  obtain ⟨z6, hB1, hB⟩ := kb_inv hB
  have hJ := P_notation_write_0 (hc0.symm.trans (by kernel_rfl)) hz0 (smallK_inv hsm) (by simp -implicitDefEqProofs [-getElem?_pos, -Iqa, -Iqb, -Iqc, -Iqd, -Lqa, Lqb, Lqc, Lqd, and_assoc, I_notation_write_0, ownAt]) hB1
  obtain ⟨e0, s0, rfl, hq⟩ := hJ.open
  clear hB1
  obtain ⟨rfl, hq⟩ := hq
  simp only [Q_notation_write_0] at hq
  obtain ⟨⟨v6_1, q6_1, a6_1⟩, ⟨g6_3, q6_2, q6_3⟩⟩ := hq
  rcases a6_1 with ⟨ga6_1, rfl, oa6_1⟩ | ⟨rfl, ea6_1⟩
  · subst hr7
    try simp -implicitDefEqProofs [-getElem?_pos, -Iqa, -Iqb, -Iqc, -Iqd, -Lqa, Lqb, Lqc, Lqd, q6_1, q6_2, q6_3, oa6_1]
    generalize hz1 : C Tryz.prog cf cc1 _ = z1
    obtain ⟨_, hsm, hB⟩ := kb_inv hB
    obtain ⟨z12, hB1, hB⟩ := kb_inv hB
    have hJ := P_notation_write_1 (hc1.symm.trans (by kernel_rfl)) hz1 (smallK_inv hsm) (by simp -implicitDefEqProofs [-getElem?_pos, -Iqa, -Iqb, -Iqc, -Iqd, -Lqa, Lqb, Lqc, Lqd, and_assoc, I_notation_write_1, ownAt, q6_1, q6_2, q6_3, oa6_1]) hB1
    obtain ⟨e1, s1, rfl, hq⟩ := hJ.open
    clear hB1
    obtain ⟨rfl, hq⟩ := hq
    simp only [Q_notation_write_1] at hq
    obtain ⟨⟨v12_1, q12_1, a12_1⟩, ⟨g12_3, q12_2, q12_3⟩⟩ := hq
    rcases a12_1 with ⟨ga12_1, rfl, oa12_1⟩ | ⟨ga12_1, rfl, oa12_1⟩ | ⟨rfl, ea12_1⟩
    · obtain ⟨y13, k14, hB⟩ := kb_inv hB
      replace k14 := run_strconv_Itoa k14
      try simp only [Iqe, Iqf, Lqe, Lqf, Lqg, Lqh, Nqa, Nat.reduceAdd, Tqa, Tqb, Tqc, Eqe, Eqf, Eqg, Eqh, Eqa, Eqb, Eqc, Eqd, Eqi, Eqj, Eqk, Eql, Eqm, Eqn] at k14
      try dsimp only at hB
      obtain ⟨S16, n15, hB⟩ := kb_inv hB
      obtain ⟨n15a, n15b⟩ := catK_inv n15
      try simp only [Lqe, Lqf, Nqa, Nat.reduceAdd] at n15a
      try simp only [Lqh, Lqg] at n15b
      try dsimp only at hB
      obtain ⟨y17, k18, hB⟩ := kb_inv hB
      replace k18 := run_strings_Join k18
      try simp only [Iqe, Iqf, Lqe, Lqf, Lqg, Lqh, Nqa, Nat.reduceAdd, Tqa, Tqb, Tqc, Eqe, Eqf, Eqg, Eqh, Eqa, Eqb, Eqc, Eqd, Eqi, Eqj, Eqk, Eql, Eqm, Eqn] at k18
      try dsimp only at hB
      obtain ⟨S20, n19, hB⟩ := kb_inv hB
      obtain ⟨n19a, n19b⟩ := catK_inv n19
      try dsimp only at hB
      obtain ⟨S22, n21, hB⟩ := kb_inv hB
      obtain ⟨n21a, n21b⟩ := catK_inv n21
      try simp only [Lqe, Lqf, Nqa, Nat.reduceAdd] at n21a
      try simp only [Lqh, Lqg] at n21b
      try dsimp only at hB
      obtain rfl := Option.some.inj hB
      subst hr12
      simp -implicitDefEqProofs [-getElem?_pos, -Iqa, -Iqb, -Iqc, -Iqd, -Lqa, Lqb, Lqc, Lqd, q12_1, q12_2, q12_3, oa12_1, k14, n15a, n15b, k18, n19a, n19b, n21a, n21b]
    · obtain ⟨y13, k14, hB⟩ := kb_inv hB
      replace k14 := run_strconv_Itoa k14
      try simp only [Iqe, Iqf, Lqe, Lqf, Lqg, Lqh, Nqa, Nat.reduceAdd, Tqa, Tqb, Tqc, Eqe, Eqf, Eqg, Eqh, Eqa, Eqb, Eqc, Eqd, Eqi, Eqj, Eqk, Eql, Eqm, Eqn] at k14
      try dsimp only at hB
      obtain ⟨S16, n15, hB⟩ := kb_inv hB
      obtain ⟨n15a, n15b⟩ := catK_inv n15
      try simp only [Lqe, Lqf, Nqa, Nat.reduceAdd] at n15a
      try simp only [Lqh, Lqg] at n15b
      try dsimp only at hB
      obtain ⟨y17, k18, hB⟩ := kb_inv hB
      replace k18 := run_strings_Join k18
      try simp only [Iqe, Iqf, Lqe, Lqf, Lqg, Lqh, Nqa, Nat.reduceAdd, Tqa, Tqb, Tqc, Eqe, Eqf, Eqg, Eqh, Eqa, Eqb, Eqc, Eqd, Eqi, Eqj, Eqk, Eql, Eqm, Eqn] at k18
      try dsimp only at hB
      obtain ⟨S20, n19, hB⟩ := kb_inv hB
      obtain ⟨n19a, n19b⟩ := catK_inv n19
      try dsimp only at hB
      obtain ⟨S22, n21, hB⟩ := kb_inv hB
      obtain ⟨n21a, n21b⟩ := catK_inv n21
      try simp only [Lqe, Lqf, Nqa, Nat.reduceAdd] at n21a
      try simp only [Lqh, Lqg] at n21b
      try dsimp only at hB
      obtain rfl := Option.some.inj hB
      subst hr12
      simp -implicitDefEqProofs [-getElem?_pos, -Iqa, -Iqb, -Iqc, -Iqd, -Lqa, Lqb, Lqc, Lqd, q12_1, q12_2, q12_3, oa12_1, k14, n15a, n15b, k18, n19a, n19b, n21a, n21b]
    · try subst ea12_1
      obtain ⟨y13, k14, hB⟩ := kb_inv hB
      replace k14 := run_strconv_Itoa k14
      try simp only [Iqe, Iqf, Lqe, Lqf, Lqg, Lqh, Nqa, Nat.reduceAdd, Tqa, Tqb, Tqc, Eqe, Eqf, Eqg, Eqh, Eqa, Eqb, Eqc, Eqd, Eqi, Eqj, Eqk, Eql, Eqm, Eqn] at k14
      try dsimp only at hB
      obtain ⟨S16, n15, hB⟩ := kb_inv hB
      obtain ⟨n15a, n15b⟩ := catK_inv n15
      try simp only [Lqe, Lqf, Nqa, Nat.reduceAdd] at n15a
      try simp only [Lqh, Lqg] at n15b
      try dsimp only at hB
      obtain ⟨y17, k18, hB⟩ := kb_inv hB
      replace k18 := run_strings_Join k18
      try simp only [Iqe, Iqf, Lqe, Lqf, Lqg, Lqh, Nqa, Nat.reduceAdd, Tqa, Tqb, Tqc, Eqe, Eqf, Eqg, Eqh, Eqa, Eqb, Eqc, Eqd, Eqi, Eqj, Eqk, Eql, Eqm, Eqn] at k18
      try dsimp only at hB
      obtain ⟨S20, n19, hB⟩ := kb_inv hB
      obtain ⟨n19a, n19b⟩ := catK_inv n19
      try dsimp only at hB
      obtain ⟨S22, n21, hB⟩ := kb_inv hB
      obtain ⟨n21a, n21b⟩ := catK_inv n21
      try simp only [Lqe, Lqf, Nqa, Nat.reduceAdd] at n21a
      try simp only [Lqh, Lqg] at n21b
      try dsimp only at hB
      obtain rfl := Option.some.inj hB
      subst hr12
      simp -implicitDefEqProofs [-getElem?_pos, -Iqa, -Iqb, -Iqc, -Iqd, -Lqa, Lqb, Lqc, Lqd, q12_1, q12_2, q12_3, k14, n15a, n15b, k18, n19a, n19b, n21a, n21b]
  · try subst ea6_1
    subst hr7
    try simp -implicitDefEqProofs [-getElem?_pos, -Iqa, -Iqb, -Iqc, -Iqd, -Lqa, Lqb, Lqc, Lqd, q6_1, q6_2, q6_3]
    generalize hz1 : C Tryz.prog cf cc1 _ = z1
    obtain ⟨_, hsm, hB⟩ := kb_inv hB
    obtain ⟨z12, hB1, hB⟩ := kb_inv hB
    have hJ := P_notation_write_1 (hc1.symm.trans (by kernel_rfl)) hz1 (smallK_inv hsm) (by simp -implicitDefEqProofs [-getElem?_pos, -Iqa, -Iqb, -Iqc, -Iqd, -Lqa, Lqb, Lqc, Lqd, and_assoc, I_notation_write_1, ownAt, q6_1, q6_2, q6_3]; all_goals ((repeat' apply And.intro) <;> assumption)) hB1
    obtain ⟨e1, s1, rfl, hq⟩ := hJ.open
    clear hB1
    obtain ⟨rfl, hq⟩ := hq
    simp only [Q_notation_write_1] at hq
    obtain ⟨⟨v12_1, q12_1, a12_1⟩, ⟨g12_3, q12_2, q12_3⟩⟩ := hq
    rcases a12_1 with ⟨ga12_1, rfl, oa12_1⟩ | ⟨ga12_1, rfl, oa12_1⟩ | ⟨rfl, ea12_1⟩
    · obtain ⟨y13, k14, hB⟩ := kb_inv hB
      replace k14 := run_strconv_Itoa k14
      try simp only [Iqe, Iqf, Lqe, Lqf, Lqg, Lqh, Nqa, Nat.reduceAdd, Tqa, Tqb, Tqc, Eqe, Eqf, Eqg, Eqh, Eqa, Eqb, Eqc, Eqd, Eqi, Eqj, Eqk, Eql, Eqm, Eqn] at k14
      try dsimp only at hB
      obtain ⟨S16, n15, hB⟩ := kb_inv hB
      obtain ⟨n15a, n15b⟩ := catK_inv n15
      try simp only [Lqe, Lqf, Nqa, Nat.reduceAdd] at n15a
      try simp only [Lqh, Lqg] at n15b
      try dsimp only at hB
      obtain ⟨y17, k18, hB⟩ := kb_inv hB
      replace k18 := run_strings_Join k18
      try simp only [Iqe, Iqf, Lqe, Lqf, Lqg, Lqh, Nqa, Nat.reduceAdd, Tqa, Tqb, Tqc, Eqe, Eqf, Eqg, Eqh, Eqa, Eqb, Eqc, Eqd, Eqi, Eqj, Eqk, Eql, Eqm, Eqn] at k18
      try dsimp only at hB
      obtain ⟨S20, n19, hB⟩ := kb_inv hB
      obtain ⟨n19a, n19b⟩ := catK_inv n19
      try dsimp only at hB
      obtain ⟨S22, n21, hB⟩ := kb_inv hB
      obtain ⟨n21a, n21b⟩ := catK_inv n21
      try simp only [Lqe, Lqf, Nqa, Nat.reduceAdd] at n21a
      try simp only [Lqh, Lqg] at n21b
      try dsimp only at hB
      obtain rfl := Option.some.inj hB
      subst hr12
      simp -implicitDefEqProofs [-getElem?_pos, -Iqa, -Iqb, -Iqc, -Iqd, -Lqa, Lqb, Lqc, Lqd, q12_1, q12_2, q12_3, oa12_1, k14, n15a, n15b, k18, n19a, n19b, n21a, n21b]
    · obtain ⟨y13, k14, hB⟩ := kb_inv hB
      replace k14 := run_strconv_Itoa k14
      try simp only [Iqe, Iqf, Lqe, Lqf, Lqg, Lqh, Nqa, Nat.reduceAdd, Tqa, Tqb, Tqc, Eqe, Eqf, Eqg, Eqh, Eqa, Eqb, Eqc, Eqd, Eqi, Eqj, Eqk, Eql, Eqm, Eqn] at k14
      try dsimp only at hB
      obtain ⟨S16, n15, hB⟩ := kb_inv hB
      obtain ⟨n15a, n15b⟩ := catK_inv n15
      try simp only [Lqe, Lqf, Nqa, Nat.reduceAdd] at n15a
      try simp only [Lqh, Lqg] at n15b
      try dsimp only at hB
      obtain ⟨y17, k18, hB⟩ := kb_inv hB
      replace k18 := run_strings_Join k18
      try simp only [Iqe, Iqf, Lqe, Lqf, Lqg, Lqh, Nqa, Nat.reduceAdd, Tqa, Tqb, Tqc, Eqe, Eqf, Eqg, Eqh, Eqa, Eqb, Eqc, Eqd, Eqi, Eqj, Eqk, Eql, Eqm, Eqn] at k18
      try dsimp only at hB
      obtain ⟨S20, n19, hB⟩ := kb_inv hB
      obtain ⟨n19a, n19b⟩ := catK_inv n19
      try dsimp only at hB
      obtain ⟨S22, n21, hB⟩ := kb_inv hB
      obtain ⟨n21a, n21b⟩ := catK_inv n21
      try simp only [Lqe, Lqf, Nqa, Nat.reduceAdd] at n21a
      try simp only [Lqh, Lqg] at n21b
      try dsimp only at hB
      obtain rfl := Option.some.inj hB
      subst hr12
      simp -implicitDefEqProofs [-getElem?_pos, -Iqa, -Iqb, -Iqc, -Iqd, -Lqa, Lqb, Lqc, Lqd, q12_1, q12_2, q12_3, oa12_1, k14, n15a, n15b, k18, n19a, n19b, n21a, n21b]
    · try subst ea12_1
      obtain ⟨y13, k14, hB⟩ := kb_inv hB
      replace k14 := run_strconv_Itoa k14
      try simp only [Iqe, Iqf, Lqe, Lqf, Lqg, Lqh, Nqa, Nat.reduceAdd, Tqa, Tqb, Tqc, Eqe, Eqf, Eqg, Eqh, Eqa, Eqb, Eqc, Eqd, Eqi, Eqj, Eqk, Eql, Eqm, Eqn] at k14
      try dsimp only at hB
      obtain ⟨S16, n15, hB⟩ := kb_inv hB
      obtain ⟨n15a, n15b⟩ := catK_inv n15
      try simp only [Lqe, Lqf, Nqa, Nat.reduceAdd] at n15a
      try simp only [Lqh, Lqg] at n15b
      try dsimp only at hB
      obtain ⟨y17, k18, hB⟩ := kb_inv hB
      replace k18 := run_strings_Join k18
      try simp only [Iqe, Iqf, Lqe, Lqf, Lqg, Lqh, Nqa, Nat.reduceAdd, Tqa, Tqb, Tqc, Eqe, Eqf, Eqg, Eqh, Eqa, Eqb, Eqc, Eqd, Eqi, Eqj, Eqk, Eql, Eqm, Eqn] at k18
      try dsimp only at hB
      obtain ⟨S20, n19, hB⟩ := kb_inv hB
      obtain ⟨n19a, n19b⟩ := catK_inv n19
      try dsimp only at hB
      obtain ⟨S22, n21, hB⟩ := kb_inv hB
      obtain ⟨n21a, n21b⟩ := catK_inv n21
      try simp only [Lqe, Lqf, Nqa, Nat.reduceAdd] at n21a
      try simp only [Lqh, Lqg] at n21b
      try dsimp only at hB
      obtain rfl := Option.some.inj hB
      subst hr12
      simp -implicitDefEqProofs [-getElem?_pos, -Iqa, -Iqb, -Iqc, -Iqd, -Lqa, Lqb, Lqc, Lqd, q12_1, q12_2, q12_3, k14, n15a, n15b, k18, n19a, n19b, n21a, n21b]
theorem g_notation_write {p0 : Tru} {r : (List UInt8)} (hB : B_notation_write p0 = some r) : G_notation_write p0 = some r := dec_of (fun a b h => by rcases a with a0_; rcases b with b0_; simp at h; simp [*]) (sim_notation_write hB)
end Go.Am
namespace Go.Am
open Go Go.Proofs
set_option maxRecDepth 4000
set_option maxHeartbeats 4000000
open Int renaming ofNat_lt → Iqa, ofNat_le → Iqb, natCast_eq_zero → Iqc, natCast_pos → Iqd, cast_ofNat_Int → Iqe, natCast_zero → Iqf
open List renaming length_eq_zero_iff → Lqa, getElem?_cons_zero → Lqb, getElem?_cons_succ → Lqc, getElem?_nil → Lqd, length_cons → Lqe, length_nil → Lqf, nil_append → Lqg, cons_append → Lqh
open Nat renaming zero_add → Nqa
open Tru renaming thr_mk → Tqa, nodes_mk → Tqb, inner_mk → Tqc
open Go.Am renaming es_api_Declaration_cons → Eqa, es_api_Declaration_nil → Eqb, es_api_Evidence_cons → Eqc, es_api_Evidence_nil → Eqd, ints_cons → Eqe, ints_nil → Eqf, encTs_cons → Eqg, encTs_nil → Eqh, es_str_cons → Eqi, es_str_nil → Eqj, es_u64_cons → Eqk, es_u64_nil → Eql, es_u8_cons → Eqm, es_u8_nil → Eqn
noncomputable def B_notation_Text (p0 : Tru) : Option (List UInt8) :=
  kb (G_threshold_Valid p0) fun y1 =>
  cnd (decide (y1 = 0)) (
    kb (G_notation_write p0) fun y4 =>
    some y4) (
    some ([63] : List UInt8))
theorem sim_notation_Text {p0 : Tru} {r : (List UInt8)} (hB : B_notation_Text p0 = some r) : R 57 [(.agg [(i64 p0.thr), (.pv (.sl p0.nodes.length (ints p0.nodes))), (.pv (.sl p0.inner.length (encTs p0.inner)))])] [] = some ((.pv (.str r)), [], []) := by
  rw [R_eq _ _ _ fn_notation_Text]
  simp only [Code.fst, Code.snd, Tryz.f57, Option.getD_some]
  unfold B_notation_Text at hB
  obtain ⟨y1, k2, hB⟩ := kb_inv hB
  replace k2 := run_threshold_Valid k2
  try simp only [Iqe, Iqf, Lqe, Lqf, Lqg, Lqh, Nqa, Nat.reduceAdd, Tqa, Tqb, Tqc, Eqe, Eqf, Eqg, Eqh, Eqa, Eqb, Eqc, Eqd, Eqi, Eqj, Eqk, Eql, Eqm, Eqn] at k2
  try dsimp only at hB
  rcases cnd_inv hB with ⟨c3, hB⟩ | ⟨c3, hB⟩
  · have pc3 := eq_true (of_decide_eq_true c3)
    obtain ⟨y4, k5, hB⟩ := kb_inv hB
    replace k5 := run_notation_write k5
    try simp only [Iqe, Iqf, Lqe, Lqf, Lqg, Lqh, Nqa, Nat.reduceAdd, Tqa, Tqb, Tqc, Eqe, Eqf, Eqg, Eqh, Eqa, Eqb, Eqc, Eqd, Eqi, Eqj, Eqk, Eql, Eqm, Eqn] at k5
    try dsimp only at hB
    obtain rfl := Option.some.inj hB
    simp -implicitDefEqProofs [-getElem?_pos, -Iqa, -Iqb, -Iqc, -Iqd, -Lqa, Lqb, Lqc, Lqd, k2, c3, pc3, k5]
  · have pc3 := eq_false (of_decide_eq_false c3)
    obtain rfl := Option.some.inj hB
    simp -implicitDefEqProofs [-getElem?_pos, -Iqa, -Iqb, -Iqc, -Iqd, -Lqa, Lqb, Lqc, Lqd, k2, c3, pc3]
theorem g_notation_Text {p0 : Tru} {r : (List UInt8)} (hB : B_notation_Text p0 = some r) : G_notation_Text p0 = some r := dec_of (fun a b h => by rcases a with a0_; rcases b with b0_; simp at h; simp [*]) (sim_notation_Text hB)
end Go.Am
namespace Go.Am
open Go Go.Proofs
set_option maxRecDepth 4000
set_option maxHeartbeats 4000000
open Int renaming ofNat_lt → Iqa, ofNat_le → Iqb, natCast_eq_zero → Iqc, natCast_pos → Iqd, cast_ofNat_Int → Iqe, natCast_zero → Iqf
open List renaming length_eq_zero_iff → Lqa, getElem?_cons_zero → Lqb, getElem?_cons_succ → Lqc, getElem?_nil → Lqd, length_cons → Lqe, length_nil → Lqf, nil_append → Lqg, cons_append → Lqh
open Nat renaming zero_add → Nqa
open Tru renaming thr_mk → Tqa, nodes_mk → Tqb, inner_mk → Tqc
open Go.Am renaming es_api_Declaration_cons → Eqa, es_api_Declaration_nil → Eqb, es_api_Evidence_cons → Eqc, es_api_Evidence_nil → Eqd, ints_cons → Eqe, ints_nil → Eqf, encTs_cons → Eqg, encTs_nil → Eqh, es_str_cons → Eqi, es_str_nil → Eqj, es_u64_cons → Eqk, es_u64_nil → Eql, es_u8_cons → Eqm, es_u8_nil → Eqn
noncomputable def B_ref03_text_0 (p0 : Tru) (i5 : Nat) (x3_0 : (List UInt8)) (x4_0 : (List UInt8)) (e6 : Int) : Option ((List UInt8) × (List UInt8)) :=
  kb (catK x3_0 x4_0) fun S7 =>
  kb (G_strconv_Itoa e6) fun y8 =>
  kb (catK S7 y8) fun S11 =>
  some (S11, ([44, 32] : List UInt8))
def I_ref03_text_0 (p0 : Tru) (i5 : Nat) (x3_0 : (List UInt8)) (x4_0 : (List UInt8)) (q : St) : Prop := q (.t 14) = (.pv (.sl p0.nodes.length (ints p0.nodes))) ∧ q (.t 15) = (i64 (p0.nodes.length : Int)) ∧ q (.t 16) = (i64 (i5 : Int)) ∧ q (.t 3) = (.pv (.str x3_0)) ∧ q (.t 4) = (.pv (.str x4_0)) ∧ (∃ (g : Nat), q (.t 1) = .ptr (.site 0 0 0) g 0 ∧ q (.i (.site 0 0 0)) = .box g [(i64 p0.thr), (.pv (.sl p0.nodes.length (ints p0.nodes))), (.pv (.sl p0.inner.length (encTs p0.inner)))])
def Q_ref03_text_0 (p0 : Tru) (x3_0 : (List UInt8)) (x4_0 : (List UInt8)) (q : St) : Prop := q (.t 3) = (.pv (.str x3_0)) ∧ q (.t 4) = (.pv (.str x4_0)) ∧ (∃ (g : Nat), q (.t 1) = .ptr (.site 0 0 0) g 0 ∧ q (.i (.site 0 0 0)) = .box g [(i64 p0.thr), (.pv (.sl p0.nodes.length (ints p0.nodes))), (.pv (.sl p0.inner.length (encTs p0.inner)))])
theorem Pb_ref03_text_0 {p0 : Tru} {i5 : Nat} {x3_0 : (List UInt8)} {x4_0 : (List UInt8)} {e6 : Int} {q : St} {r : ((List UInt8) × (List UInt8))} (hx : p0.nodes[i5]? = some e6) (hi : i5 < p0.nodes.length) (hn : p0.nodes.length < 4611686018427387904) (hI : I_ref03_text_0 p0 i5 x3_0 x4_0 q) (hB : B_ref03_text_0 p0 i5 x3_0 x4_0 e6 = some r) : Res (C Tryz.prog cf (Code.fst (Code.fst (Code.snd (Code.fst (Code.snd (Code.snd (Code.snd ((Tryz.f88.body).getD .skip)))))))) q) (postG (fun a q => I_ref03_text_0 p0 (i5 + 1) a.1 a.2 q) r) := by
  have hi3 : (i5 : Int) < (p0.nodes.length : Int) := by omega
  have hi2 := decide_eq_true hi3
  have hi4 := idx_step hi hn
  have hi5 := ne_of_get hx
  simp only [I_ref03_text_0] at hI
  obtain ⟨q1, q2, q3, q4, q5, ⟨g7, q6, q7⟩⟩ := hI
  simp only [Code.fst, Code.snd, Tryz.f88, Option.getD_some]
  generalize hr6 : Code.region 6 _ _ = rr6
  unfold B_ref03_text_0 at hB
  obtain ⟨S7, n6, hB⟩ := kb_inv hB
  obtain ⟨n6a, n6b⟩ := catK_inv n6
  try dsimp only at hB
  obtain ⟨y8, k9, hB⟩ := kb_inv hB
  replace k9 := run_strconv_Itoa k9
  try simp only [Iqe, Iqf, Lqe, Lqf, Lqg, Lqh, Nqa, Nat.reduceAdd, Tqa, Tqb, Tqc, Eqe, Eqf, Eqg, Eqh, Eqa, Eqb, Eqc, Eqd, Eqi, Eqj, Eqk, Eql, Eqm, Eqn] at k9
  try dsimp only at hB
  obtain ⟨S11, n10, hB⟩ := kb_inv hB
  obtain ⟨n10a, n10b⟩ := catK_inv n10
  try dsimp only at hB
  obtain rfl := Option.some.inj hB
  subst hr6
  try simp -implicitDefEqProofs [-getElem?_pos, -Iqa, -Iqb, -Iqc, -Iqd, -Lqa, Lqb, Lqc, Lqd, q1, q2, q3, q4, q5, q6, q7, hx, hi2, hi3, hi4, hi5, n6a, n6b, k9, n10a, n10b]
  refine Res.g ?_
  simp -implicitDefEqProofs [-getElem?_pos, -Iqa, -Iqb, -Iqc, -Iqd, -Lqa, Lqb, Lqc, Lqd, and_assoc, I_ref03_text_0, ownAt, q1, q2, q3, q4, q5, q6, q7, hx, hi2, hi3, hi4, hi5, n6a, n6b, k9, n10a, n10b]
theorem Pe_ref03_text_0 {p0 : Tru} {x3_0 : (List UInt8)} {x4_0 : (List UInt8)} {q : St} (hI : I_ref03_text_0 p0 p0.nodes.length x3_0 x4_0 q) : Res (C Tryz.prog cf (Code.fst (Code.fst (Code.snd (Code.fst (Code.snd (Code.snd (Code.snd ((Tryz.f88.body).getD .skip)))))))) q) fun e q' => e = .exit 0 ∧ Q_ref03_text_0 p0 x3_0 x4_0 q' := by
  simp only [I_ref03_text_0] at hI
  obtain ⟨q1, q2, q3, q4, q5, ⟨g7, q6, q7⟩⟩ := hI
  simp only [Code.fst, Code.snd, Tryz.f88, Option.getD_some]
  simp -implicitDefEqProofs [-getElem?_pos, -Iqa, -Iqb, -Iqc, -Iqd, -Lqa, Lqb, Lqc, Lqd, q1, q2, q3, q4, q5, q6, q7]
  refine Res.x ?_
  simp -implicitDefEqProofs [-getElem?_pos, -Iqa, -Iqb, -Iqc, -Iqd, -Lqa, Lqb, Lqc, Lqd, and_assoc, Q_ref03_text_0, ownAt, q1, q2, q3, q4, q5, q6, q7]
theorem P_ref03_text_0 {p0 : Tru} {x3_0 : (List UInt8)} {x4_0 : (List UInt8)} {cc : Code} (hcc : cc = .block 0 (.loop (Code.fst (Code.fst (Code.snd (Code.fst (Code.snd (Code.snd (Code.snd ((Tryz.f88.body).getD .skip)))))))))) {s : St} {z : Option (Ex × St)} (hz : C Tryz.prog cf cc s = z) {r : ((List UInt8) × (List UInt8))} (hn : p0.nodes.length < 4611686018427387904) (hI : I_ref03_text_0 p0 0 x3_0 x4_0 s) (hB : foldO (fun i a x => B_ref03_text_0 p0 i a.1 a.2 x) 0 (x3_0, x4_0) p0.nodes = some r) : Res z (postG (fun a q => Q_ref03_text_0 p0 a.1 a.2 q) r) := by
  subst hcc
  exact fold_sim (I := fun i a q => I_ref03_text_0 p0 i a.1 a.2 q) (Q := (fun a q => Q_ref03_text_0 p0 a.1 a.2 q)) (fun i x a q r hx hi h hB => Pb_ref03_text_0 hx hi hn h hB) (fun a q h => Pe_ref03_text_0 h) hI hz hB
noncomputable def B_ref03_text_1 (p0 : Tru) (i22 : Nat) (x3_1 : (List UInt8)) (x4_1 : (List UInt8)) (e23 : Tru) : Option ((List UInt8) × (List UInt8)) :=
  kb (catK x3_1 x4_1) fun S15 =>
  kb (G_ref03_text e23) fun y16 =>
  kb (catK S15 y16) fun S19 =>
  some (S19, ([44, 32] : List UInt8))
def I_ref03_text_1 (p0 : Tru) (i22 : Nat) (x3_1 : (List UInt8)) (x4_1 : (List UInt8)) (q : St) : Prop := q (.t 28) = (.pv (.sl p0.inner.length (encTs p0.inner))) ∧ q (.t 29) = (i64 (p0.inner.length : Int)) ∧ q (.t 3) = (.pv (.str x3_1)) ∧ q (.t 30) = (i64 (i22 : Int)) ∧ q (.t 4) = (.pv (.str x4_1))
def Q_ref03_text_1 (p0 : Tru) (x3_1 : (List UInt8)) (x4_1 : (List UInt8)) (q : St) : Prop := q (.t 3) = (.pv (.str x3_1))
theorem Pb_ref03_text_1 {p0 : Tru} {i22 : Nat} {x3_1 : (List UInt8)} {x4_1 : (List UInt8)} {e23 : Tru} {q : St} {r : ((List UInt8) × (List UInt8))} (hx : p0.inner[i22]? = some e23) (hi : i22 < p0.inner.length) (hn : p0.inner.length < 4611686018427387904) (hI : I_ref03_text_1 p0 i22 x3_1 x4_1 q) (hB : B_ref03_text_1 p0 i22 x3_1 x4_1 e23 = some r) : Res (C Tryz.prog cf (Code.fst (Code.fst (Code.snd (Code.fst (Code.snd (Code.snd (Code.snd (Code.snd ((Tryz.f88.body).getD .skip))))))))) q) (postG (fun a q => I_ref03_text_1 p0 (i22 + 1) a.1 a.2 q) r) := by
  have hi3 : (i22 : Int) < (p0.inner.length : Int) := by omega
  have hi2 := decide_eq_true hi3
  have hi4 := idx_step hi hn
  have hi5 := ne_of_get hx
  simp only [I_ref03_text_1] at hI
  obtain ⟨q1, q2, q3, q4, q5⟩ := hI
  simp only [Code.fst, Code.snd, Tryz.f88, Option.getD_some]
  generalize hr10 : Code.region 10 _ _ = rr10
  generalize hr11 : Code.region 11 _ _ = rr11
  unfold B_ref03_text_1 at hB
  have l13 := encTs_ld hx
  obtain ⟨S15, n14, hB⟩ := kb_inv hB
  obtain ⟨n14a, n14b⟩ := catK_inv n14
  try dsimp only at hB
  obtain ⟨y16, k17, hB⟩ := kb_inv hB
  replace k17 := run_ref03_text k17
  try simp only [Iqe, Iqf, Lqe, Lqf, Lqg, Lqh, Nqa, Nat.reduceAdd, Tqa, Tqb, Tqc, Eqe, Eqf, Eqg, Eqh, Eqa, Eqb, Eqc, Eqd, Eqi, Eqj, Eqk, Eql, Eqm, Eqn] at k17
  try dsimp only at hB
  obtain ⟨S19, n18, hB⟩ := kb_inv hB
  obtain ⟨n18a, n18b⟩ := catK_inv n18
  try dsimp only at hB
  obtain rfl := Option.some.inj hB
  subst hr10
  subst hr11
  try simp -implicitDefEqProofs [-getElem?_pos, -Iqa, -Iqb, -Iqc, -Iqd, -Lqa, Lqb, Lqc, Lqd, q1, q2, q3, q4, q5, hx, hi2, hi3, hi4, hi5, l13, n14a, n14b, k17, n18a, n18b]
  refine Res.g ?_
  simp -implicitDefEqProofs [-getElem?_pos, -Iqa, -Iqb, -Iqc, -Iqd, -Lqa, Lqb, Lqc, Lqd, and_assoc, I_ref03_text_1, ownAt, q1, q2, q3, q4, q5, hx, hi2, hi3, hi4, hi5, l13, n14a, n14b, k17, n18a, n18b]
theorem Pe_ref03_text_1 {p0 : Tru} {x3_1 : (List UInt8)} {x4_1 : (List UInt8)} {q : St} (hI : I_ref03_text_1 p0 p0.inner.length x3_1 x4_1 q) : Res (C Tryz.prog cf (Code.fst (Code.fst (Code.snd (Code.fst (Code.snd (Code.snd (Code.snd (Code.snd ((Tryz.f88.body).getD .skip))))))))) q) fun e q' => e = .exit 2 ∧ Q_ref03_text_1 p0 x3_1 x4_1 q' := by
  simp only [I_ref03_text_1] at hI
  obtain ⟨q1, q2, q3, q4, q5⟩ := hI
  simp only [Code.fst, Code.snd, Tryz.f88, Option.getD_some]
  simp -implicitDefEqProofs [-getElem?_pos, -Iqa, -Iqb, -Iqc, -Iqd, -Lqa, Lqb, Lqc, Lqd, q1, q2, q3, q4, q5]
  refine Res.x ?_
  simp -implicitDefEqProofs [-getElem?_pos, -Iqa, -Iqb, -Iqc, -Iqd, -Lqa, Lqb, Lqc, Lqd, and_assoc, Q_ref03_text_1, ownAt, q1, q2, q3, q4, q5]
theorem P_ref03_text_1 {p0 : Tru} {x3_1 : (List UInt8)} {x4_1 : (List UInt8)} {cc : Code} (hcc : cc = .block 2 (.loop (Code.fst (Code.fst (Code.snd (Code.fst (Code.snd (Code.snd (Code.snd (Code.snd ((Tryz.f88.body).getD .skip))))))))))) {s : St} {z : Option (Ex × St)} (hz : C Tryz.prog cf cc s = z) {r : ((List UInt8) × (List UInt8))} (hn : p0.inner.length < 4611686018427387904) (hI : I_ref03_text_1 p0 0 x3_1 x4_1 s) (hB : foldO (fun i a x => B_ref03_text_1 p0 i a.1 a.2 x) 0 (x3_1, x4_1) p0.inner = some r) : Res z (postG (fun a q => Q_ref03_text_1 p0 a.1 a.2 q) r) := by
  subst hcc
  exact fold_sim (I := fun i a q => I_ref03_text_1 p0 i a.1 a.2 q) (Q := (fun a q => Q_ref03_text_1 p0 a.1 a.2 q)) (fun i x a q r hx hi h hB => Pb_ref03_text_1 hx hi hn h hB) (fun a q h => Pe_ref03_text_1 h) hI hz hB
noncomputable def B_ref03_text (p0 : Tru) : Option (List UInt8) :=
  kb (G_strconv_Itoa p0.thr) fun y1 =>
  kb (catK y1 ([32, 111, 102, 32, 40] : List UInt8)) fun S4 =>
  kb (smallK p0.nodes) fun _ =>
  kb (foldO (fun i a x => B_ref03_text_0 p0 i a.1 a.2 x) 0 (S4, ([] : List UInt8)) p0.nodes) fun z12 =>
  kb (smallK p0.inner) fun _ =>
  kb (foldO (fun i a x => B_ref03_text_1 p0 i a.1 a.2 x) 0 (z12.1, z12.2) p0.inner) fun z20 =>
  kb (catK z20.1 ([41] : List UInt8)) fun S22 =>
  some S22
theorem sim_ref03_text {p0 : Tru} {r : (List UInt8)} (hB : B_ref03_text p0 = some r) : R 88 [(.agg [(i64 p0.thr), (.pv (.sl p0.nodes.length (ints p0.nodes))), (.pv (.sl p0.inner.length (encTs p0.inner)))])] [] = some ((.pv (.str r)), [], []) := by
  rw [R_eq _ _ _ fn_ref03_text]
  simp only [Code.fst, Code.snd, Tryz.f88, Option.getD_some]
  generalize hc0 : Code.block 0 _ = cc0
  generalize hc1 : Code.block 2 _ = cc1
  generalize hr1 : Code.region 1 _ _ = rr1
  generalize hr3 : Code.region 3 _ _ = rr3
  generalize hr8 : Code.region 8 _ _ = rr8
  unfold B_ref03_text at hB
  obtain ⟨y1, k2, hB⟩ := kb_inv hB
  replace k2 := run_strconv_Itoa k2
  try simp only [Iqe, Iqf, Lqe, Lqf, Lqg, Lqh, Nqa, Nat.reduceAdd, Tqa, Tqb, Tqc, Eqe, Eqf, Eqg, Eqh, Eqa, Eqb, Eqc, Eqd, Eqi, Eqj, Eqk, Eql, Eqm, Eqn] at k2
  try dsimp only at hB
  obtain ⟨S4, n3, hB⟩ := kb_inv hB
  obtain ⟨n3a, n3b⟩ := catK_inv n3
  try simp only [Lqe, Lqf, Nqa, Nat.reduceAdd] at n3a
  try simp only [Lqh, Lqg] at n3b
  try dsimp only at hB
  subst hr1
  subst hr3
  try simp -implicitDefEqProofs [-getElem?_pos, -Iqa, -Iqb, -Iqc, -Iqd, -Lqa, Lqb, Lqc, Lqd, k2, n3a, n3b]
  generalize hz0 : C Tryz.prog cf cc0 _ = z0
  obtain ⟨_, hsm, hB⟩ := kb_inv hB
  obtain ⟨z12, hB1, hB⟩ := kb_inv hB
  have hJ := P_ref03_text_0 (hc0.symm.trans (by kernel_rfl)) hz0 (smallK_inv hsm) (by simp -implicitDefEqProofs [-getElem?_pos, -Iqa, -Iqb, -Iqc, -Iqd, -Lqa, Lqb, Lqc, Lqd, and_assoc, I_ref03_text_0, ownAt, k2, n3a, n3b]) hB1
  obtain ⟨e0, s0, rfl, hq⟩ := hJ.open
  clear hB1
  obtain ⟨rfl, hq⟩ := hq
  simp only [Q_ref03_text_0] at hq
  obtain ⟨q12_1, q12_2, ⟨g12_4, q12_3, q12_4⟩⟩ := hq
  subst hr8
  try simp -implicitDefEqProofs [-getElem?_pos, -Iqa, -Iqb, -Iqc, -Iqd, -Lqa, Lqb, Lqc, Lqd, q12_1, q12_2, q12_3, q12_4, k2, n3a, n3b]
  generalize hz1 : C Tryz.prog cf cc1 _ = z1
  obtain ⟨_, hsm, hB⟩ := kb_inv hB
  obtain ⟨z20, hB1, hB⟩ := kb_inv hB
  have hJ := P_ref03_text_1 (hc1.symm.trans (by kernel_rfl)) hz1 (smallK_inv hsm) (by simp -implicitDefEqProofs [-getElem?_pos, -Iqa, -Iqb, -Iqc, -Iqd, -Lqa, Lqb, Lqc, Lqd, and_assoc, I_ref03_text_1, ownAt, q12_1, q12_2, q12_3, q12_4, k2, n3a, n3b]) hB1
  obtain ⟨e1, s1, rfl, hq⟩ := hJ.open
  clear hB1
  obtain ⟨rfl, hq⟩ := hq
  simp only [Q_ref03_text_1] at hq
  have q20_1 := hq
  obtain ⟨S22, n21, hB⟩ := kb_inv hB
  obtain ⟨n21a, n21b⟩ := catK_inv n21
  try simp only [Lqe, Lqf, Nqa, Nat.reduceAdd] at n21a
  try simp only [Lqh, Lqg] at n21b
  try dsimp only at hB
  obtain rfl := Option.some.inj hB
  simp -implicitDefEqProofs [-getElem?_pos, -Iqa, -Iqb, -Iqc, -Iqd, -Lqa, Lqb, Lqc, Lqd, q20_1, k2, n3a, n3b, n21a, n21b]
theorem g_ref03_text {p0 : Tru} {r : (List UInt8)} (hB : B_ref03_text p0 = some r) : G_ref03_text p0 = some r := dec_of (fun a b h => by rcases a with a0_; rcases b with b0_; simp at h; simp [*]) (sim_ref03_text hB)
end Go.Am
namespace Go.Am
open Go Go.Proofs
set_option maxRecDepth 4000
set_option maxHeartbeats 4000000
open Int renaming ofNat_lt → Iqa, ofNat_le → Iqb, natCast_eq_zero → Iqc, natCast_pos → Iqd, cast_ofNat_Int → Iqe, natCast_zero → Iqf
open List renaming length_eq_zero_iff → Lqa, getElem?_cons_zero → Lqb, getElem?_cons_succ → Lqc, getElem?_nil → Lqd, length_cons → Lqe, length_nil → Lqf, nil_append → Lqg, cons_append → Lqh
open Nat renaming zero_add → Nqa
open Tru renaming thr_mk → Tqa, nodes_mk → Tqb, inner_mk → Tqc
open Go.Am renaming es_api_Declaration_cons → Eqa, es_api_Declaration_nil → Eqb, es_api_Evidence_cons → Eqc, es_api_Evidence_nil → Eqd, ints_cons → Eqe, ints_nil → Eqf, encTs_cons → Eqg, encTs_nil → Eqh, es_str_cons → Eqi, es_str_nil → Eqj, es_u64_cons → Eqk, es_u64_nil → Eql, es_u8_cons → Eqm, es_u8_nil → Eqn
noncomputable def B_ref03_Text (p0 : Tru) : Option (List UInt8) :=
  kb (G_ref02_Valid p0) fun y1 =>
  cnd (decide (y1 = 0)) (
    kb (G_ref03_text p0) fun y4 =>
    some y4) (
    some ([63] : List UInt8))
theorem sim_ref03_Text {p0 : Tru} {r : (List UInt8)} (hB : B_ref03_Text p0 = some r) : R 58 [(.agg [(i64 p0.thr), (.pv (.sl p0.nodes.length (ints p0.nodes))), (.pv (.sl p0.inner.length (encTs p0.inner)))])] [] = some ((.pv (.str r)), [], []) := by
  rw [R_eq _ _ _ fn_ref03_Text]
  simp only [Code.fst, Code.snd, Tryz.f58, Option.getD_some]
  unfold B_ref03_Text at hB
  obtain ⟨y1, k2, hB⟩ := kb_inv hB
  replace k2 := run_ref02_Valid k2
  try simp only [Iqe, Iqf, Lqe, Lqf, Lqg, Lqh, Nqa, Nat.reduceAdd, Tqa, Tqb, Tqc, Eqe, Eqf, Eqg, Eqh, Eqa, Eqb, Eqc, Eqd, Eqi, Eqj, Eqk, Eql, Eqm, Eqn] at k2
  try dsimp only at hB
  rcases cnd_inv hB with ⟨c3, hB⟩ | ⟨c3, hB⟩
  · have pc3 := eq_true (of_decide_eq_true c3)
    obtain ⟨y4, k5, hB⟩ := kb_inv hB
    replace k5 := run_ref03_text k5
    try simp only [Iqe, Iqf, Lqe, Lqf, Lqg, Lqh, Nqa, Nat.reduceAdd, Tqa, Tqb, Tqc, Eqe, Eqf, Eqg, Eqh, Eqa, Eqb, Eqc, Eqd, Eqi, Eqj, Eqk, Eql, Eqm, Eqn] at k5
    try dsimp only at hB
    obtain rfl := Option.some.inj hB
    simp -implicitDefEqProofs [-getElem?_pos, -Iqa, -Iqb, -Iqc, -Iqd, -Lqa, Lqb, Lqc, Lqd, k2, c3, pc3, k5]
  · have pc3 := eq_false (of_decide_eq_false c3)
    obtain rfl := Option.some.inj hB
    simp -implicitDefEqProofs [-getElem?_pos, -Iqa, -Iqb, -Iqc, -Iqd, -Lqa, Lqb, Lqc, Lqd, k2, c3, pc3]
theorem g_ref03_Text {p0 : Tru} {r : (List UInt8)} (hB : B_ref03_Text p0 = some r) : G_ref03_Text p0 = some r := dec_of (fun a b h => by rcases a with a0_; rcases b with b0_; simp at h; simp [*]) (sim_ref03_Text hB)
end Go.Am
/-
Plain laws of chapters 02 and 03: what a trust's text is.
-/
namespace Go.Am
open Go
/-! ### validity, as the program has it -/
theorem s_threshold_Depth : ∀ x : Tru, x.Fine → G_threshold_Depth x = some (dep x : Int) := by
  refine tru_ind fun t n i ih h => g_threshold_Depth ?_
  have hl := Fine_len h
  simp only [Tru.nodes_mk, Tru.inner_mk] at hl
  unfold B_threshold_Depth
  simp only [Tru.inner_mk]
  rw [smallK_some (by omega), kb_some]
  have h1 := foldO_spec (f := fun j a x => B_threshold_Depth_0 (.mk t n i) j a x) (g := fun (a : Int) x => if a < (dep x : Int) then (dep x : Int) else a) (fun j a => True) i 0 0 (by
    intro j a x hj hp
    have hx : x ∈ i := List.mem_of_getElem? hj
    refine ⟨?_, trivial⟩
    simp only [B_threshold_Depth_0, ih x hx (Fine_inner h hx), kb_some]) trivial
  rw [h1.1, kb_some]
  have := foldl_deps i 0
  simp only [Int.natCast_zero, Nat.zero_max] at this
  rw [this]
  have hd := dep_le (.mk t n i)
  have hs := h.1
  simp only [dep] at hd ⊢
  rw [add64_of (by omega) (by omega)]
  simp
theorem s_threshold_Size : ∀ x : Tru, x.Fine → G_threshold_Size x = some (x.size : Int) := by
  refine tru_ind fun t n i ih h => g_threshold_Size ?_
  have hl := Fine_len h
  have hs := h.1
  simp only [Tru.nodes_mk, Tru.inner_mk] at hl
  simp only [Tru.size] at hs
  unfold B_threshold_Size
  simp only [Tru.inner_mk, Tru.nodes_mk]
  rw [smallK_some (by omega), kb_some]
  have h1 := foldO_spec (f := fun j a x => B_threshold_Size_0 (.mk t n i) j a x) (g := fun (a : Int) x => a + (x.size : Int)) (fun j a => a = n.length + i.length + (sizes (i.take j) : Int)) i 0 (n.length + i.length) (by
    intro j a x hj hp
    have hx : x ∈ i := List.mem_of_getElem? hj
    have hb := sizes_take i (j + 1)
    have e : sizes (i.take (j + 1)) = sizes (i.take j) + x.size := by rw [List.take_add_one, hj, sizes_app]; simp [sizes]
    simp only [Nat.zero_add] at hp ⊢
    simp only [B_threshold_Size_0, ih x hx (Fine_inner h hx), kb_some]
    have := sizes_take i j
    exact ⟨by rw [add64_of (by omega) (by omega)], by omega⟩) (by simp [sizes])
  rw [add64_of (by omega) (by omega), h1.1, kb_some, foldl_sizes]
  simp only [Tru.size]
  congr 1
  omega
/-! ### texts -/
mutual
def txtT : Tru → List UInt8
  | .mk t n i => itoaN t.toNat ++ ([32, 111, 102, 32, 40] ++ (joinL (n.map (fun k => itoaN k.toNat) ++ txtTs i) [44, 32] ++ [41]))
def txtTs : List Tru → List (List UInt8)
  | [] => []
  | x :: r => txtT x :: txtTs r
end
theorem txtTs_eq : ∀ l, txtTs l = l.map txtT
  | [] => rfl
  | x :: r => by simp only [txtTs, txtTs_eq r, List.map_cons]
mutual
/-- the numbers are below 1000 -/
def dec3 : Tru → Prop
  | .mk t n i => (0 ≤ t ∧ t < 1000) ∧ ((∀ k ∈ n, 0 ≤ k ∧ k < 1000) ∧ dec3s i)
def dec3s : List Tru → Prop
  | [] => True
  | x :: r => dec3 x ∧ dec3s r
end
theorem dec3s_iff : ∀ {l : List Tru}, dec3s l ↔ ∀ x ∈ l, dec3 x
  | [] => by simp [dec3s]
  | y :: r => by simp [dec3s, dec3s_iff (l := r)]
theorem itoaN_len (n : Nat) : (itoaN n).length ≤ 3 := by
  unfold itoaN
  split
  · simp
  · split <;> simp
def lenS : List (List UInt8) → Nat
  | [] => 0
  | w :: r => w.length + 2 + lenS r
theorem lenS_app : ∀ a b, lenS (a ++ b) = lenS a + lenS b
  | [], b => by simp [lenS]
  | w :: a, b => by simp only [List.cons_append, lenS, lenS_app a b]; omega
theorem joinL_len : ∀ (ws : List (List UInt8)), (joinL ws [44, 32]).length ≤ lenS ws
  | [] => by simp [joinL]
  | [x] => by simp [joinL, lenS]
  | x :: y :: r => by
    have h2 := joinL_len (y :: r)
    simp only [joinL, lenS, List.length_append, List.length_cons, List.length_nil] at h2 ⊢
    omega
theorem lenS_nodes : ∀ n : List Int, lenS (n.map fun k => itoaN k.toNat) ≤ 5 * n.length
  | [] => by simp [lenS]
  | k :: r => by
    have h1 := itoaN_len k.toNat
    have h2 := lenS_nodes r
    simp only [List.map_cons, lenS, List.length_cons]; omega
mutual
theorem txt_len : ∀ x : Tru, (txtT x).length ≤ 11 * x.size + 9
  | .mk t n i => by
    have h1 := itoaN_len t.toNat
    have h2 := lenS_nodes n
    have h3 := txts_len i
    have h4 := joinL_len (n.map (fun k => itoaN k.toNat) ++ txtTs i)
    rw [lenS_app] at h4
    simp only [txtT, Tru.size, List.length_append, List.length_cons, List.length_nil]
    omega
theorem txts_len : ∀ l : List Tru, lenS (txtTs l) ≤ 11 * (l.length + sizes l)
  | [] => by simp [txtTs, lenS]
  | x :: r => by
    have h1 := txt_len x
    have h2 := txts_len r
    simp only [txtTs, lenS, sizes, List.length_cons]; omega
end
theorem joinL_app (sep : List UInt8) (w : List UInt8) : ∀ ws : List (List UInt8), joinL (ws ++ [w]) sep = joinL ws sep ++ ((if ws = [] then [] else sep) ++ w)
  | [] => by simp [joinL]
  | [x] => by simp [joinL]
  | x :: y :: r => by
    have h := joinL_app sep w (y :: r)
    simp only [List.cons_append, joinL] at h ⊢
    rw [h]
    simp
theorem s_Itoa {k : Int} (h0 : 0 ≤ k) (h1 : k < 1000) : G_strconv_Itoa k = some (itoaN k.toNat) := by
  refine g_strconv_Itoa ?_
  unfold B_strconv_Itoa itoaK
  rw [if_pos ⟨h0, h1⟩]
theorem s_Join {ws : List (List UInt8)} (h1 : ws.length ≤ 1000000000000) (h2 : lenS ws ≤ 1000000000000) : G_strings_Join ws [44, 32] = some (joinL ws [44, 32]) := by
  refine g_strings_Join ?_
  unfold B_strings_Join joinK
  have := joinL_len ws
  rw [if_pos ⟨by omega, by omega⟩]
theorem map_take_succ {X Y : Type} (f : X → Y) {l : List X} {j : Nat} {x : X} (h : l[j]? = some x) : (l.take (j + 1)).map f = (l.take j).map f ++ [f x] := by
  rw [List.take_add_one, h]; simp
theorem s_write : ∀ x : Tru, dec3 x → x.Fine → G_notation_write x = some (txtT x) := by
  refine tru_ind fun t n i ih hd h => g_notation_write ?_
  have hl := Fine_len h
  have hs := h.1
  simp only [Tru.nodes_mk, Tru.inner_mk] at hl
  simp only [Tru.size] at hs
  obtain ⟨⟨ht0, ht1⟩, hn, hi⟩ := hd
  rw [dec3s_iff] at hi
  unfold B_notation_write
  simp only [Tru.inner_mk, Tru.nodes_mk, Tru.thr_mk]
  rw [smallK_some (by omega), kb_some]
  obtain ⟨z, e1, p1⟩ := foldO_inv (f := fun j a x => B_notation_write_0 (.mk t n i) j a x) (fun j a => a = (n.take j).map fun k => itoaN k.toNat) n 0 [] (by
    intro j a x hj hp
    have hjl := (List.getElem?_eq_some_iff.1 hj).1
    have hx := hn x (List.mem_of_getElem? hj)
    simp only [Nat.zero_add] at hp ⊢
    refine ⟨a ++ [itoaN x.toNat], ?_, ?_⟩
    · unfold B_notation_write_0
      rw [s_Itoa hx.1 hx.2, kb_some, appK_some (by rw [hp]; simp; omega), kb_some]
    · rw [map_take_succ _ hj, hp]) (by simp)
  rw [e1, kb_some, smallK_some (by omega), kb_some]
  simp only [Nat.zero_add, List.take_length] at p1
  subst p1
  obtain ⟨z, e2, p2⟩ := foldO_inv (f := fun j a x => B_notation_write_1 (.mk t n i) j a x) (fun j a => a = (n.map fun k => itoaN k.toNat) ++ (i.take j).map txtT) i 0 (n.map fun k => itoaN k.toNat) (by
    intro j a x hj hp
    have hjl := (List.getElem?_eq_some_iff.1 hj).1
    have hx := List.mem_of_getElem? hj
    simp only [Nat.zero_add] at hp ⊢
    refine ⟨a ++ [txtT x], ?_, ?_⟩
    · unfold B_notation_write_1
      rw [ih x hx (hi x hx) (Fine_inner h hx), kb_some, appK_some (by rw [hp]; simp; omega), kb_some]
    · rw [map_take_succ _ hj, hp, List.append_assoc]) (by simp)
  rw [e2, kb_some, s_Itoa ht0 ht1, kb_some]
  simp only [Nat.zero_add, List.take_length] at p2
  have hw : z = n.map (fun k => itoaN k.toNat) ++ txtTs i := by rw [p2, txtTs_eq]
  have b1 := lenS_nodes n
  have b2 := txts_len i
  have b3 : lenS z = lenS (n.map fun k => itoaN k.toNat) + lenS (txtTs i) := by rw [hw, lenS_app]
  have b4 : z.length = n.length + i.length := by rw [p2]; simp
  have b5 := joinL_len z
  have b6 := itoaN_len t.toNat
  rw [catK_some (by simp; omega), kb_some, s_Join (by omega) (by omega), kb_some, catK_some (by simp; omega), kb_some, catK_some (by simp; omega), kb_some]
  simp only [txtT, hw, List.append_assoc]
theorem s_ref03_text : ∀ x : Tru, dec3 x → x.Fine → G_ref03_text x = some (txtT x) := by
  refine tru_ind fun t n i ih hd h => g_ref03_text ?_
  have hl := Fine_len h
  have hs := h.1
  simp only [Tru.nodes_mk, Tru.inner_mk] at hl
  simp only [Tru.size] at hs
  obtain ⟨⟨ht0, ht1⟩, hn, hi⟩ := hd
  rw [dec3s_iff] at hi
  have b6 := itoaN_len t.toNat
  unfold B_ref03_text
  simp only [Tru.inner_mk, Tru.nodes_mk, Tru.thr_mk]
  rw [s_Itoa ht0 ht1, kb_some, catK_some (by simp; omega), kb_some, smallK_some (by omega), kb_some]
  generalize hpre : itoaN t.toNat ++ [32, 111, 102, 32, 40] = pre
  have bp : pre.length ≤ 8 := by rw [← hpre]; simp; omega
  obtain ⟨⟨z1, z2⟩, e1, p1⟩ := foldO_inv (f := fun j (a : List UInt8 × List UInt8) x => B_ref03_text_0 (.mk t n i) j a.1 a.2 x) (fun j a => (a.1 = pre ++ joinL ((n.take j).map fun k => itoaN k.toNat) [44, 32]) ∧ a.2 = if (n.take j).map (fun k => itoaN k.toNat) = [] then [] else [44, 32]) n 0 (pre, []) (by
    rintro j ⟨a, b⟩ x hj ⟨hp, hq⟩
    have hjl := (List.getElem?_eq_some_iff.1 hj).1
    have hx := hn x (List.mem_of_getElem? hj)
    simp only [Nat.zero_add] at hp hq ⊢
    have c1 := joinL_len ((n.take j).map fun k => itoaN k.toNat)
    have c2 := lenS_nodes (n.take j)
    have c3 : (n.take j).length ≤ n.length := by simp; omega
    have c4 := itoaN_len x.toNat
    have c5 : b.length ≤ 2 := by rw [hq]; split <;> simp
    have c6 : a.length = pre.length + (joinL ((n.take j).map fun k => itoaN k.toNat) [44, 32]).length := by rw [hp, List.length_append]
    refine ⟨(a ++ b ++ itoaN x.toNat, [44, 32]), ?_, ?_, ?_⟩
    · unfold B_ref03_text_0
      rw [catK_some (by omega), kb_some, s_Itoa hx.1 hx.2, kb_some, catK_some (by simp; omega), kb_some]
    · rw [map_take_succ _ hj, joinL_app, hp, hq]
      simp only [List.append_assoc]
    · rw [map_take_succ _ hj]; simp) (by simp [joinL])
  rw [e1, kb_some, smallK_some (by omega), kb_some]
  simp only [Nat.zero_add, List.take_length] at p1
  obtain ⟨⟨w1, w2⟩, e2, p2⟩ := foldO_inv (f := fun j (a : List UInt8 × List UInt8) x => B_ref03_text_1 (.mk t n i) j a.1 a.2 x) (fun j a => (a.1 = pre ++ joinL ((n.map fun k => itoaN k.toNat) ++ (i.take j).map txtT) [44, 32]) ∧ a.2 = if (n.map fun k => itoaN k.toNat) ++ (i.take j).map txtT = [] then [] else [44, 32]) i 0 (z1, z2) (by
    rintro j ⟨a, b⟩ x hj ⟨hp, hq⟩
    have hjl := (List.getElem?_eq_some_iff.1 hj).1
    have hx := List.mem_of_getElem? hj
    simp only [Nat.zero_add] at hp hq ⊢
    have c1 := joinL_len ((n.map fun k => itoaN k.toNat) ++ (i.take j).map txtT)
    have c2 := lenS_nodes n
    have c3 := txts_len (i.take j)
    rw [txtTs_eq] at c3
    have c7 := sizes_take i j
    have c8 : (i.take j).length ≤ i.length := by simp; omega
    rw [lenS_app] at c1
    have c4 := txt_len x
    have c9 := sizes_mem hx
    have c5 : b.length ≤ 2 := by rw [hq]; split <;> simp
    have c6 : a.length = pre.length + (joinL ((n.map fun k => itoaN k.toNat) ++ (i.take j).map txtT) [44, 32]).length := by rw [hp, List.length_append]
    refine ⟨(a ++ b ++ txtT x, [44, 32]), ?_, ?_, ?_⟩
    · unfold B_ref03_text_1
      rw [catK_some (by omega), kb_some, ih x hx (hi x hx) (Fine_inner h hx), kb_some, catK_some (by simp; omega), kb_some]
    · rw [map_take_succ _ hj, ← List.append_assoc, joinL_app, hp, hq]
      simp only [List.append_assoc]
    · rw [map_take_succ _ hj]; simp) (by simpa using p1)
  rw [e2, kb_some]
  simp only [Nat.zero_add, List.take_length] at p2
  obtain ⟨p3, p4⟩ := p2
  have c1 := joinL_len ((n.map fun k => itoaN k.toNat) ++ i.map txtT)
  have c2 := lenS_nodes n
  have c3 := txts_len i
  rw [txtTs_eq] at c3
  rw [lenS_app] at c1
  have c6 : w1.length = pre.length + (joinL ((n.map fun k => itoaN k.toNat) ++ i.map txtT) [44, 32]).length := by rw [p3, List.length_append]
  rw [catK_some (by simp; omega), kb_some, p3, ← hpre]
  simp only [txtT, txtTs_eq, List.append_assoc]
end Go.Am
/-
Plain laws of chapter 02: the program's validity is the reference's.
-/
namespace Go.Am
open Go
theorem s_node (k : Int) : G_threshold_node k = some (!badN k) := by
  refine g_threshold_node ?_
  unfold B_threshold_node badN
  by_cases c : 0 ≤ k
  · have : ¬ k < 0 := by omega
    simp only [c, this, decide_true, decide_false, cnd_true, Bool.false_or]
    congr 1
    rw [← decide_not]
    congr 1
    simp
  · have : k < 0 := by omega
    simp [c, this, cnd_false]
theorem s_bad (k : Int) : G_threshold_level_fn1 k = some (badN k) := by
  refine g_threshold_level_fn1 ?_
  unfold B_threshold_level_fn1
  rw [s_node, kb_some]
  simp
theorem s_IndexFunc (l : List Int) (hl : l.length < 4611686018427387904) : ∃ v, G_slices_IndexFunc___int_int_ l = some v ∧ (0 ≤ v ↔ badA l = true) := by
  have hx : ∀ (r : List Int) (j : Nat), ∃ o, loopL (fun i a x => B_slices_IndexFunc___int_int__0 l i x) j () r = some o ∧ ((badA r = false ∧ o = .go ()) ∨ (badA r = true ∧ ∃ q : Nat, o = .ret (q : Int))) := by
    intro r
    induction r with
    | nil => intro j; exact ⟨_, rfl, .inl ⟨rfl, rfl⟩⟩
    | cons x r ih =>
      intro j
      have e : B_slices_IndexFunc___int_int__0 l j x = some (if badN x = true then .ret (j : Int) else .go ()) := by
        unfold B_slices_IndexFunc___int_int__0
        rw [s_bad, kb_some]
        cases badN x <;> rfl
      cases c : badN x
      · obtain ⟨o, h1, h2⟩ := ih (j + 1)
        refine ⟨o, ?_, ?_⟩
        · show kb (B_slices_IndexFunc___int_int__0 l j x) _ = _
          rw [e, kb_some, c]
          exact h1
        · simpa [badA, c] using h2
      · refine ⟨.ret (j : Int), ?_, .inr ⟨by simp [badA, c], j, rfl⟩⟩
        show kb (B_slices_IndexFunc___int_int__0 l j x) _ = _
        rw [e, kb_some, c]
        rfl
  obtain ⟨o, h1, h2⟩ := hx l 0
  rcases h2 with ⟨hb, rfl⟩ | ⟨hb, q, rfl⟩
  · refine ⟨-1, g_slices_IndexFunc___int_int_ ?_, by simp [hb]⟩
    unfold B_slices_IndexFunc___int_int_
    rw [smallK_some hl, kb_some, h1, kb_some, stpK_go]
  · refine ⟨(q : Int), g_slices_IndexFunc___int_int_ ?_, by simp [hb]⟩
    unfold B_slices_IndexFunc___int_int_
    rw [smallK_some hl, kb_some, h1, kb_some, stpK_ret]
theorem s_ContainsFunc (l : List Int) (hl : l.length < 4611686018427387904) : G_slices_ContainsFunc___int_int_ l = some (badA l) := by
  obtain ⟨v, h1, h2⟩ := s_IndexFunc l hl
  refine g_slices_ContainsFunc___int_int_ ?_
  unfold B_slices_ContainsFunc___int_int_
  rw [h1, kb_some]
  congr 1
  cases hb : badA l
  · rw [hb] at h2
    simpa using h2
  · rw [hb] at h2
    simpa using h2
theorem s_nodeset_Of (l : List Int) (hl : l.length < 4611686018427387904) : G_nodeset_Of l = G_ref01_Of l := by
  rw [s_ref01_Of l hl]
  refine g_nodeset_Of ?_
  unfold B_nodeset_Of
  rw [smallK_some hl, kb_some]
  have h1 := loopL_spec (f := fun i a x => B_nodeset_Of_1 l i a x) ofG ofR (fun j a => True) (fun a => rfl) (fun a x r => by simp only [ofR]; cases ofG a x <;> rfl) l 0 0 (by
    intro j a x hj hp
    refine ⟨?_, fun _ _ => trivial⟩
    unfold B_nodeset_Of_1 B_nodeset_Of_0 ofG badN
    by_cases c1 : x < 0
    · simp [c1, cnd_true, kb_some]
    · by_cases c2 : 10 ≤ x
      · simp [c1, c2, cnd_true, cnd_false, kb_some]
      · simp only [c1, c2, decide_false, cnd_false, kb_some, s_nodeset_Has, Bool.or_self, Bool.false_eq_true, if_false]
        cases hasS a x
        · simp only [cnd_false, not_false_eq_true, mustK_T, kb_some]; simp
        · simp [cnd_true]) trivial
  rw [h1, kb_some]
  cases h : ofR 0 l with
  | go s => rfl
  | ex k s => exact absurd h (ofR_ne l 0 k s)
  | ret e => rfl
/-! ### the error of a trust -/
def ofE (l : List Int) : Int := match ofR 0 l with
  | .go _ => 0
  | .ex _ _ => 0
  | .ret e => e
mutual
def errT : Tru → Int
  | .mk t n i => if t < 1 then 4 else if ((n.length + i.length : Nat) : Int) < t then 4 else if badA n = true then 5 else if ofE n = 0 then errTs i else ofE n
def errTs : List Tru → Int
  | [] => 0
  | x :: r => if errT x = 0 then errTs r else errT x
end
theorem s_Of_E (l : List Int) (hl : l.length < 4611686018427387904) : ∃ s, G_ref01_Of l = some (s, ofE l) := by
  rw [s_ref01_Of l hl]
  unfold ofE
  cases h : ofR 0 l with
  | go s => exact ⟨s, rfl⟩
  | ex k s => exact ⟨s, rfl⟩
  | ret e => exact ⟨0, rfl⟩
theorem errs_loop {f : Nat → Unit → Tru → Option (Stp Unit Int)} : ∀ (l : List Tru) (j : Nat), (∀ (k : Nat), ∀ x ∈ l, f k () x = some (if errT x = 0 then .go () else .ret (errT x))) →
    loopL f j () l = some (if errTs l = 0 then .go () else .ret (errTs l))
  | [], j, _ => rfl
  | x :: r, j, h => by
    show kb (f j () x) _ = _
    rw [h j x (by simp), kb_some]
    by_cases c : errT x = 0
    · simp only [c, if_true, errTs]
      exact errs_loop r (j + 1) fun k y hy => h k y (by simp [hy])
    · simp [c, errTs]
theorem s_threshold_level : ∀ x : Tru, x.Fine → G_threshold_level x = some (errT x) := by
  refine tru_ind fun t n i ih h => g_threshold_level ?_
  have hl := Fine_len h
  simp only [Tru.nodes_mk, Tru.inner_mk] at hl
  have h0 : B_threshold_level_0 (.mk t n i) = some (decide (t < 1) || decide (((n.length + i.length : Nat) : Int) < t)) := by
    unfold B_threshold_level_0
    simp only [Tru.thr_mk, Tru.nodes_mk, Tru.inner_mk]
    have e := add64_of (a := (n.length : Int)) (b := (i.length : Int)) (by omega) (by omega)
    simp only [e]
    by_cases c : t < 1
    · simp [c, cnd_true]
    · simp [c, cnd_false]
  unfold B_threshold_level
  rw [h0, kb_some]
  simp only [Tru.nodes_mk, Tru.inner_mk, errT]
  by_cases c1 : t < 1
  · simp [c1, cnd_true]
  by_cases c2 : ((n.length + i.length : Nat) : Int) < t
  · simp only [c1, c2, decide_true, decide_false, Bool.or_true, cnd_true, if_true, if_false]
  simp only [c1, c2, decide_false, Bool.or_self, cnd_false, if_false]
  rw [s_ContainsFunc n (by omega), kb_some]
  cases hb : badA n
  case true => simp [cnd_true]
  simp only [cnd_false, Bool.false_eq_true, if_false]
  obtain ⟨s, ho⟩ := s_Of_E n (by omega)
  rw [s_nodeset_Of n (by omega), ho, kb_some]
  by_cases c3 : ofE n = 0
  case neg => simp [c3, cnd_false]
  simp only [c3, decide_true, cnd_true, if_true]
  rw [smallK_some (by omega), kb_some, errs_loop i 0 (fun k x hx => by
    unfold B_threshold_level_1
    rw [ih x hx (Fine_inner h hx), kb_some]
    by_cases c : errT x = 0 <;> simp [c, cnd_true, cnd_false]), kb_some]
  by_cases c : errTs i = 0 <;> simp [c, stpK_go, stpK_ret]
theorem s_check_E : ∀ x : Tru, x.Fine → G_ref02_check x = some (errT x) := by
  refine tru_ind fun t n i ih h => g_ref02_check ?_
  have hl := Fine_len h
  simp only [Tru.nodes_mk, Tru.inner_mk] at hl
  have h0 : B_ref02_check_0 (.mk t n i) = some (decide (t < 1) || decide (((n.length + i.length : Nat) : Int) < t)) := by
    unfold B_ref02_check_0
    simp only [Tru.thr_mk, Tru.nodes_mk, Tru.inner_mk]
    have e := add64_of (a := (n.length : Int)) (b := (i.length : Int)) (by omega) (by omega)
    simp only [e]
    by_cases c : t < 1
    · simp [c, cnd_true]
    · simp [c, cnd_false]
  have h1 : loopL (fun j a x => B_ref02_check_3 (.mk t n i) j x) 0 () n = some (if badA n = true then .ret () else .go ()) := by
    refine loopL_spec (fun a x => if badN x = true then .ret () else .go ()) (fun a l => if badA l = true then .ret () else .go ()) (fun j a => True) (fun a => by simp [badA]) (fun a x r => ?_) n 0 () (fun j a x hj hp => ⟨?_, fun _ _ => trivial⟩) trivial
    · by_cases c : badN x = true <;> simp [badA, c]
    · unfold B_ref02_check_3 B_ref02_check_1 badN
      by_cases c1 : x < 0
      · simp [c1, cnd_true, kb_some]
      · by_cases c2 : 10 ≤ x <;> simp [c1, c2, cnd_true, cnd_false, kb_some]
  unfold B_ref02_check
  rw [h0, kb_some]
  simp only [Tru.nodes_mk, Tru.inner_mk, errT]
  by_cases c1 : t < 1
  · simp [c1, cnd_true]
  by_cases c2 : ((n.length + i.length : Nat) : Int) < t
  · simp only [c1, c2, decide_true, decide_false, Bool.or_true, cnd_true, if_true, if_false]
  simp only [c1, c2, decide_false, Bool.or_self, cnd_false, if_false]
  rw [smallK_some (by omega), kb_some, h1, kb_some]
  cases hb : badA n
  case true => simp [stpK_ret]
  simp only [Bool.false_eq_true, if_false, stpK_go]
  obtain ⟨s, ho⟩ := s_Of_E n (by omega)
  rw [ho, kb_some]
  by_cases c3 : ofE n = 0
  case neg => simp [c3, cnd_false]
  simp only [c3, decide_true, cnd_true, if_true]
  rw [smallK_some (by omega), kb_some, errs_loop i 0 (fun k x hx => by
    unfold B_ref02_check_2
    rw [ih x hx (Fine_inner h hx), kb_some]
    by_cases c : errT x = 0 <;> simp [c, cnd_true, cnd_false]), kb_some]
  by_cases c : errTs i = 0 <;> simp [c, stpK_go, stpK_ret]
theorem errT_good {x : Tru} (h : x.Fine) : errT x = 0 ↔ good x = true := by
  obtain ⟨e, h1, h2⟩ := s_ref02_check x h
  rw [s_check_E x h] at h1
  cases h1
  exact h2
/-- the error of a trust, its limits too -/
def valE (x : Tru) : Int := if 4 < dep x then 3 else if 200 < x.size then 3 else errT x
theorem valE_ok {x : Tru} (h : x.Fine) : valE x = 0 ↔ valB x = true := by
  unfold valE valB
  by_cases c1 : 4 < dep x
  · have : ¬ dep x ≤ 4 := by omega
    simp [c1, this]
  · by_cases c2 : 200 < x.size
    · have : ¬ x.size ≤ 200 := by omega
      simp [c1, c2, this]
    · have e1 : dep x ≤ 4 := by omega
      have e2 : x.size ≤ 200 := by omega
      simp only [c1, c2, if_false, e1, e2, decide_true, Bool.true_and]
      exact errT_good h
theorem s_threshold_Valid {x : Tru} (h : x.Fine) : G_threshold_Valid x = some (valE x) := by
  refine g_threshold_Valid ?_
  unfold B_threshold_Valid B_threshold_Valid_0 valE
  rw [s_threshold_Depth x h, kb_some]
  by_cases c1 : 4 < dep x
  · have : (4 : Int) < (dep x : Int) := by omega
    simp [c1, this, cnd_true, kb_some]
  · have : ¬ (4 : Int) < (dep x : Int) := by omega
    simp only [c1, this, decide_false, cnd_false, if_false]
    rw [s_threshold_Size x h, kb_some, kb_some]
    by_cases c2 : 200 < x.size
    · have : (200 : Int) < (x.size : Int) := by omega
      simp [c2, this, cnd_true]
    · have : ¬ (200 : Int) < (x.size : Int) := by omega
      simp only [c2, this, decide_false, cnd_false, if_false]
      rw [s_threshold_level x h, kb_some]
theorem s_ref02_ValidE {x : Tru} (h : x.Fine) : G_ref02_Valid x = some (valE x) := by
  refine g_ref02_Valid ?_
  unfold B_ref02_Valid B_ref02_Valid_0 valE
  rw [s_ref02_Depth x h, kb_some]
  by_cases c1 : 4 < dep x
  · have : (4 : Int) < (dep x : Int) := by omega
    simp [c1, this, cnd_true, kb_some]
  · have : ¬ (4 : Int) < (dep x : Int) := by omega
    simp only [c1, this, decide_false, cnd_false, if_false]
    rw [s_ref02_Size x h, kb_some, kb_some]
    by_cases c2 : 200 < x.size
    · have : (200 : Int) < (x.size : Int) := by omega
      simp [c2, this, cnd_true]
    · have : ¬ (200 : Int) < (x.size : Int) := by omega
      simp only [c2, this, decide_false, cnd_false, if_false]
      rw [s_check_E x h, kb_some]
end Go.Am
/-
The text of a trust is one to one.
-/
namespace Go.Am
open Go
theorem badA_iff : ∀ {l : List Int}, badA l = false ↔ ∀ k ∈ l, 0 ≤ k ∧ k < 10
  | [] => by simp [badA]
  | x :: r => by
    have ih := badA_iff (l := r)
    have e : badA (x :: r) = (badN x || badA r) := by simp [badA]
    rw [e, Bool.or_eq_false_iff, ih]
    have e2 : badN x = false ↔ 0 ≤ x ∧ x < 10 := by unfold badN; simp
    rw [e2]
    simp
theorem good_dec3 : ∀ x : Tru, good x = true → x.size < 1000 → dec3 x := by
  refine tru_ind fun t n i ih h hs => ?_
  simp only [good, Bool.and_eq_true, decide_eq_true_eq, goods_eq, List.all_eq_true, Bool.not_eq_true'] at h
  obtain ⟨⟨h1, h2⟩, h3, h4, h5⟩ := h
  rw [size_mk] at hs
  refine ⟨by omega, fun k hk => ?_, dec3s_iff.2 fun x hx => ih x hx (h5 x hx) ?_⟩
  · have := badA_iff.1 h3 k hk
    omega
  · have := sizes_mem hx
    omega
def Dig (l : List UInt8) : Prop := ∀ b ∈ l, 48 ≤ b.toNat ∧ b.toNat ≤ 57
theorem itoaN_read : ∀ k : Nat, k < 1000 → (itoaN k).foldl (fun a b => a * 10 + (b.toNat - 48)) 0 = k := by decide +kernel
theorem itoaN_ne (n : Nat) : itoaN n ≠ [] := by
  unfold itoaN
  split
  · simp
  · split <;> simp
/-- digits, and then what is none -/
theorem dig_split : ∀ {u v : List UInt8} {r s : List UInt8} {a b : UInt8}, Dig u → Dig v → ¬(48 ≤ a.toNat ∧ a.toNat ≤ 57) → ¬(48 ≤ b.toNat ∧ b.toNat ≤ 57) → u ++ a :: r = v ++ b :: s → u = v ∧ (a = b ∧ r = s)
  | [], [], r, s, a, b, _, _, _, _, h => by simpa using h
  | [], y :: v, r, s, a, b, _, hv, ha, _, h => by
    simp only [List.nil_append, List.cons_append, List.cons.injEq] at h
    exact absurd (h.1 ▸ hv y (by simp)) ha
  | x :: u, [], r, s, a, b, hu, _, _, hb, h => by
    simp only [List.nil_append, List.cons_append, List.cons.injEq] at h
    exact absurd (h.1 ▸ hu x (by simp)) hb
  | x :: u, y :: v, r, s, a, b, hu, hv, ha, hb, h => by
    simp only [List.cons_append, List.cons.injEq] at h
    obtain ⟨h1, h2⟩ := dig_split (fun z hz => hu z (by simp [hz])) (fun z hz => hv z (by simp [hz])) ha hb h.2
    exact ⟨by rw [h.1, h1], h2⟩
/-- what stands behind a word: the next one, or the end -/
def tailW (ws : List (List UInt8)) (r : List UInt8) : List UInt8 := if ws = [] then 41 :: r else 44 :: 32 :: (joinL ws [44, 32] ++ 41 :: r)
theorem join_tail (w : List UInt8) (ws : List (List UInt8)) (r : List UInt8) : joinL (w :: ws) [44, 32] ++ 41 :: r = w ++ tailW ws r := by
  cases ws with
  | nil => simp [joinL, tailW]
  | cons y q => simp [joinL, tailW]
theorem txt_shape (t : Int) (n : List Int) (i : List Tru) (r : List UInt8) : txtT (.mk t n i) ++ r = itoaN t.toNat ++ 32 :: (111 :: 102 :: 32 :: 40 :: (joinL (n.map (fun k => itoaN k.toNat) ++ txtTs i) [44, 32] ++ 41 :: r)) := by
  simp [txtT]
end Go.Am
namespace Go.Am
open Go Go.Proofs
set_option maxRecDepth 4000
set_option maxHeartbeats 4000000
open Int renaming ofNat_lt → Iqa, ofNat_le → Iqb, natCast_eq_zero → Iqc, natCast_pos → Iqd
open List renaming length_eq_zero_iff → Lqa, getElem?_cons_zero → Lqb, getElem?_cons_succ → Lqc, getElem?_nil → Lqd
noncomputable def B_declaration_Hash_0 (L1 : (List Int)) (i3 : Nat) (x3_0 : Int) (e4 : Int) : Option Int :=
  some (mulK .u64 (xorK .u64 x3_0 (IntKind.wrap .u64 e4)) 1099511628211)
def I_declaration_Hash_0 (L1 : (List Int)) (i3 : Nat) (x3_0 : Int) (q : St) : Prop := q (.t 3) = (.pv (.int .u64 x3_0)) ∧ q (.t 7) = (.pv (.sl L1.length (es_u8 L1))) ∧ q (.t 8) = (i64 (L1.length : Int)) ∧ q (.t 9) = (i64 (i3 : Int))
def Q_declaration_Hash_0 (L1 : (List Int)) (x3_0 : Int) (q : St) : Prop := q (.t 3) = (.pv (.int .u64 x3_0))
theorem Pb_declaration_Hash_0 {L1 : (List Int)} {i3 : Nat} {x3_0 : Int} {e4 : Int} {q : St} {r : Int} (hx : L1[i3]? = some e4) (hi : i3 < L1.length) (hn : L1.length < 4611686018427387904) (hI : I_declaration_Hash_0 L1 i3 x3_0 q) (hB : B_declaration_Hash_0 L1 i3 x3_0 e4 = some r) : Res (C Tryz.prog cf (Code.fst (Code.fst (Code.snd (Code.fst (Code.snd (Code.snd ((Tryz.f33.body).getD .skip))))))) q) (postG (fun a q => I_declaration_Hash_0 L1 (i3 + 1) a q) r) := by
  have hi3 : (i3 : Int) < (L1.length : Int) := by omega
  have hi2 := decide_eq_true hi3
  have hi4 := idx_step hi hn
  have hi5 := ne_of_get hx
  simp only [I_declaration_Hash_0] at hI
  obtain ⟨q1, q2, q3, q4⟩ := hI
  simp only [Code.fst, Code.snd, Tryz.f33, Option.getD_some]
  generalize hr5 : Code.region 5 _ _ = rr5
  unfold B_declaration_Hash_0 at hB
  obtain rfl := Option.some.inj hB
  subst hr5
  try simp -implicitDefEqProofs [-getElem?_pos, -Iqa, -Iqb, -Iqc, -Iqd, -Lqa, Lqb, Lqc, Lqd, q1, q2, q3, q4, hx, hi2, hi3, hi4, hi5]
  refine Res.g ?_
  simp -implicitDefEqProofs [-getElem?_pos, -Iqa, -Iqb, -Iqc, -Iqd, -Lqa, Lqb, Lqc, Lqd, and_assoc, I_declaration_Hash_0, ownAt, q1, q2, q3, q4, hx, hi2, hi3, hi4, hi5]
theorem Pe_declaration_Hash_0 {L1 : (List Int)} {x3_0 : Int} {q : St} (hI : I_declaration_Hash_0 L1 L1.length x3_0 q) : Res (C Tryz.prog cf (Code.fst (Code.fst (Code.snd (Code.fst (Code.snd (Code.snd ((Tryz.f33.body).getD .skip))))))) q) fun e q' => e = .exit 0 ∧ Q_declaration_Hash_0 L1 x3_0 q' := by
  simp only [I_declaration_Hash_0] at hI
  obtain ⟨q1, q2, q3, q4⟩ := hI
  simp only [Code.fst, Code.snd, Tryz.f33, Option.getD_some]
  simp -implicitDefEqProofs [-getElem?_pos, -Iqa, -Iqb, -Iqc, -Iqd, -Lqa, Lqb, Lqc, Lqd, q1, q2, q3, q4]
  refine Res.x ?_
  simp -implicitDefEqProofs [-getElem?_pos, -Iqa, -Iqb, -Iqc, -Iqd, -Lqa, Lqb, Lqc, Lqd, and_assoc, Q_declaration_Hash_0, ownAt, q1, q2, q3, q4]
theorem P_declaration_Hash_0 {L1 : (List Int)} {x3_0 : Int} {cc : Code} (hcc : cc = .block 0 (.loop (Code.fst (Code.fst (Code.snd (Code.fst (Code.snd (Code.snd ((Tryz.f33.body).getD .skip))))))))) {s : St} {z : Option (Ex × St)} (hz : C Tryz.prog cf cc s = z) {r : Int} (hn : L1.length < 4611686018427387904) (hI : I_declaration_Hash_0 L1 0 x3_0 s) (hB : foldO (fun i a x => B_declaration_Hash_0 L1 i a x) 0 x3_0 L1 = some r) : Res z (postG (fun a q => Q_declaration_Hash_0 L1 a q) r) := by
  subst hcc
  exact fold_sim (I := fun i a q => I_declaration_Hash_0 L1 i a q) (Q := (fun a q => Q_declaration_Hash_0 L1 a q)) (fun i x a q r hx hi h hB => Pb_declaration_Hash_0 hx hi hn h hB) (fun a q h => Pe_declaration_Hash_0 h) hI hz hB
noncomputable def B_declaration_Hash (p0 : (List UInt8)) : Option Int :=
  kb (u8K p0) fun L1 =>
  kb (smallK L1) fun _ =>
  kb (foldO (fun i a x => B_declaration_Hash_0 L1 i a x) 0 14695981039346656037 L1) fun z4 =>
  some z4
theorem sim_declaration_Hash {p0 : (List UInt8)} {r : Int} (hB : B_declaration_Hash p0 = some r) : R 33 [(.pv (.str p0))] [] = some ((.pv (.int .u64 r)), [], []) := by
  rw [R_eq _ _ _ fn_declaration_Hash]
  simp only [Code.fst, Code.snd, Tryz.f33, Option.getD_some]
  generalize hc0 : Code.block 0 _ = cc0
  generalize hr2 : Code.region 2 _ _ = rr2
  unfold B_declaration_Hash at hB
  obtain ⟨L1, u2, hB⟩ := kb_inv hB
  obtain ⟨u2a, u2b⟩ := u8K_inv u2
  try dsimp only at hB
  subst hr2
  try simp -implicitDefEqProofs [-getElem?_pos, -Iqa, -Iqb, -Iqc, -Iqd, -Lqa, Lqb, Lqc, Lqd, u2a, u2b]
  generalize hz0 : C Tryz.prog cf cc0 _ = z0
  obtain ⟨_, hsm, hB⟩ := kb_inv hB
  obtain ⟨z4, hB1, hB⟩ := kb_inv hB
  have hJ := P_declaration_Hash_0 (hc0.symm.trans (by kernel_rfl)) hz0 (smallK_inv hsm) (by simp -implicitDefEqProofs [-getElem?_pos, -Iqa, -Iqb, -Iqc, -Iqd, -Lqa, Lqb, Lqc, Lqd, and_assoc, I_declaration_Hash_0, ownAt, u2a, u2b]) hB1
  obtain ⟨e0, s0, rfl, hq⟩ := hJ.open
  clear hB1
  obtain ⟨rfl, hq⟩ := hq
  simp only [Q_declaration_Hash_0] at hq
  have q4_1 := hq
  obtain rfl := Option.some.inj hB
  simp -implicitDefEqProofs [-getElem?_pos, -Iqa, -Iqb, -Iqc, -Iqd, -Lqa, Lqb, Lqc, Lqd, q4_1, u2a, u2b]
theorem g_declaration_Hash {p0 : (List UInt8)} {r : Int} (hB : B_declaration_Hash p0 = some r) : G_declaration_Hash p0 = some r := dec_of (fun a b h => by rcases a with a0_; rcases b with b0_; simp at h; simp [*]) (sim_declaration_Hash hB)
end Go.Am
/-
How declaration.Tag runs: eight bytes of the key ahead of the bytes.
-/
namespace Go.Am
open Go Go.Proofs
set_option maxRecDepth 4000
set_option maxHeartbeats 4000000
theorem C_loop' {P : Program} {cfg : Cfg} (b : Code) (s : St) : C P cfg (.loop b) s = thenC (C P cfg b s) (fun s' => C P cfg (.loop b) s') := by
  rw [C_loop]
  cases C P cfg b s with
  | none => rfl
  | some q => obtain ⟨e, s'⟩ := q; cases e <;> rfl
def loopBody : Code → Code
  | .loop b => b
  | _ => .skip
theorem loopBody_loop (b : Code) : loopBody (.loop b) = b := rfl
def tagByte (key : Int) (k : Int) : UInt8 := UInt8.ofNat (IntKind.u8.wrap (shrK .u64 key k)).toNat
def tagHead (key : Int) : List UInt8 := [tagByte key 56, tagByte key 48, tagByte key 40, tagByte key 32, tagByte key 24, tagByte key 16, tagByte key 8, tagByte key 0]
theorem sim_declaration_Tag {p0 : Int} {p1 : List UInt8} {r : Int} (hl : p1.length < 1000000000) (hr : G_declaration_Hash (tagHead p0 ++ p1) = some r) : R 35 [(.pv (.int .u64 p0)), (.pv (.str p1))] [] = some ((.pv (.int .u64 r)), [], []) := by
  have k := run_declaration_Hash hr
  simp only [tagHead, tagByte, List.cons_append, List.nil_append] at k
  have hl2 : p1.length + 8 < 4611686018427387904 := by omega
  have hl3 : 8 + p1.length < 4611686018427387904 := by omega
  have m0 : sub64 56 (mul64 8 0) = 56 := by decide
  have m1 : sub64 56 (mul64 8 1) = 48 := by decide
  have m2 : sub64 56 (mul64 8 2) = 40 := by decide
  have m3 : sub64 56 (mul64 8 3) = 32 := by decide
  have m4 : sub64 56 (mul64 8 4) = 24 := by decide
  have m5 : sub64 56 (mul64 8 5) = 16 := by decide
  have m6 : sub64 56 (mul64 8 6) = 8 := by decide
  have m7 : sub64 56 (mul64 8 7) = 0 := by decide
  have a0 : add64 0 1 = 1 := by decide
  have a1 : add64 1 1 = 2 := by decide
  have a2 : add64 2 1 = 3 := by decide
  have a3 : add64 3 1 = 4 := by decide
  have a4 : add64 4 1 = 5 := by decide
  have a5 : add64 5 1 = 6 := by decide
  have a6 : add64 6 1 = 7 := by decide
  have a7 : add64 7 1 = 8 := by decide
  rw [R_eq _ _ _ fn_declaration_Tag]
  simp only [Code.fst, Code.snd, Tryz.f35, Option.getD_some]
  generalize hr7 : Code.region 7 _ _ = rr7
  generalize hL : Code.loop _ = lp
  simp -implicitDefEqProofs
  have hl0 : ∀ s, C Tryz.prog cf lp s = thenC (C Tryz.prog cf (loopBody lp) s) (fun s' => C Tryz.prog cf lp s') := by
    intro s
    subst hL
    exact C_loop' _ s
  have hbd := congrArg loopBody hL
  rw [loopBody_loop] at hbd
  rw [← hbd] at hl0
  clear hbd
  rw [hl0]
  simp -implicitDefEqProofs [m0, a0]
  rw [hl0]
  simp -implicitDefEqProofs [m1, a1]
  rw [hl0]
  simp -implicitDefEqProofs [m2, a2]
  rw [hl0]
  simp -implicitDefEqProofs [m3, a3]
  rw [hl0]
  simp -implicitDefEqProofs [m4, a4]
  rw [hl0]
  simp -implicitDefEqProofs [m5, a5]
  rw [hl0]
  simp -implicitDefEqProofs [m6, a6]
  rw [hl0]
  simp -implicitDefEqProofs [m7, a7]
  rw [hl0]
  simp -implicitDefEqProofs
  subst hr7
  simp -implicitDefEqProofs [unbytes, hl2, hl3, tagByte, k]
theorem g_declaration_Tag {p0 : Int} {p1 : List UInt8} {r : Int} (hl : p1.length < 1000000000) (hr : G_declaration_Hash (tagHead p0 ++ p1) = some r) : G_declaration_Tag p0 p1 = some r := of_declaration_Tag (sim_declaration_Tag hl hr)
end Go.Am
namespace Go.Am
open Go Go.Proofs
set_option maxRecDepth 4000
set_option maxHeartbeats 4000000
open Int renaming ofNat_lt → Iqa, ofNat_le → Iqb, natCast_eq_zero → Iqc, natCast_pos → Iqd, cast_ofNat_Int → Iqe, natCast_zero → Iqf
open List renaming length_eq_zero_iff → Lqa, getElem?_cons_zero → Lqb, getElem?_cons_succ → Lqc, getElem?_nil → Lqd, length_cons → Lqe, length_nil → Lqf
open Nat renaming zero_add → Nqa
noncomputable def B_ref07_Hash_0 (p0 : (List UInt8)) (x3_0 : Int) (x4_0 : Int) : Option (Stp (Int × Int) Unit) :=
  cnd (decide (x4_0 < (p0.length : Int))) (
    kb (getI p0 x4_0) fun x2 =>
    some (.go ((mulK .u64 (xorK .u64 x3_0 (IntKind.wrap .u64 (x2.toNat : Int))) 1099511628211), (add64 x4_0 1)))) (
    some (.ex 0 (x3_0, x4_0)))
def I_ref07_Hash_0 (p0 : (List UInt8)) (x3_0 : Int) (x4_0 : Int) (q : St) : Prop := q (.t 0) = (.pv (.str p0)) ∧ q (.t 3) = (.pv (.int .u64 x3_0)) ∧ q (.t 4) = (i64 x4_0)
def Q_ref07_Hash_0 (p0 : (List UInt8)) (x3_0 : Int) (x4_0 : Int) (q : St) : Prop := q (.t 3) = (.pv (.int .u64 x3_0))
theorem Pb_ref07_Hash_0 {p0 : (List UInt8)} {x3_0 : Int} {x4_0 : Int} {q : St} {r : (Stp (Int × Int) Unit)} (hI : I_ref07_Hash_0 p0 x3_0 x4_0 q) (hB : B_ref07_Hash_0 p0 x3_0 x4_0 = some r) : Res (C Tryz.prog cf (Code.fst (Code.fst (Code.snd (Code.fst (Code.snd (Code.snd ((Tryz.f34.body).getD .skip))))))) q) (postB 0 (fun a q => I_ref07_Hash_0 p0 a.1 a.2 q) (fun a q => Q_ref07_Hash_0 p0 a.1 a.2 q) (fun _ _ => False) r) := by
  simp only [I_ref07_Hash_0] at hI
  obtain ⟨q1, q2, q3⟩ := hI
  simp only [Code.fst, Code.snd, Tryz.f34, Option.getD_some]
  generalize hr3 : Code.region 3 _ _ = rr3
  generalize hr5 : Code.region 5 _ _ = rr5
  unfold B_ref07_Hash_0 at hB
  rcases cnd_inv hB with ⟨c1, hB⟩ | ⟨c1, hB⟩
  · have pc1 := eq_true (of_decide_eq_true c1)
    have nc1 := c1
    try simp only [Lqf, Lqe, Iqe, Iqf, Nqa, Nat.reduceAdd, Int.reduceLT, Int.reduceLE, Int.reduceEq, eq_self, decide_true, decide_false, Bool.true_eq_false, Bool.false_eq_true] at nc1
    all_goals
      obtain ⟨x2, h3, hB⟩ := kb_inv hB
      obtain ⟨h3a, h3b, h3c, h3d⟩ := getI_inv h3
      try simp only [Int.toNat_natCast, Int.reduceToNat] at h3c
      try dsimp only at hB
      obtain rfl := Option.some.inj hB
      subst hr3
      subst hr5
      try simp -implicitDefEqProofs [-getElem?_pos, -Iqa, -Iqb, -Iqc, -Iqd, -Lqa, Lqb, Lqc, Lqd, q1, q2, q3, c1, pc1, nc1, h3a, h3b, h3c]
      refine Res.bgo ?_
      simp -implicitDefEqProofs [-getElem?_pos, -Iqa, -Iqb, -Iqc, -Iqd, -Lqa, Lqb, Lqc, Lqd, and_assoc, I_ref07_Hash_0, ownAt, q1, q2, q3, c1, pc1, nc1, h3a, h3b, h3c]
  · have pc1 := eq_false (of_decide_eq_false c1)
    have nc1 := c1
    try simp only [Lqf, Lqe, Iqe, Iqf, Nqa, Nat.reduceAdd, Int.reduceLT, Int.reduceLE, Int.reduceEq, eq_self, decide_true, decide_false, Bool.true_eq_false, Bool.false_eq_true] at nc1
    all_goals
      obtain rfl := Option.some.inj hB
      subst hr3
      try simp -implicitDefEqProofs [-getElem?_pos, -Iqa, -Iqb, -Iqc, -Iqd, -Lqa, Lqb, Lqc, Lqd, q1, q2, q3, c1, pc1, nc1]
      refine Res.bex ?_
      simp -implicitDefEqProofs [-getElem?_pos, -Iqa, -Iqb, -Iqc, -Iqd, -Lqa, Lqb, Lqc, Lqd, and_assoc, Q_ref07_Hash_0, ownAt, q1, q2, q3, c1, pc1, nc1]
theorem P_ref07_Hash_0 {p0 : (List UInt8)} {x3_0 : Int} {x4_0 : Int} {cc : Code} (hcc : cc = .block 0 (.loop (Code.fst (Code.fst (Code.snd (Code.fst (Code.snd (Code.snd ((Tryz.f34.body).getD .skip))))))))) {s : St} {z : Option (Ex × St)} (hz : C Tryz.prog cf cc s = z) {r : (Stp (Int × Int) Unit)} (hI : I_ref07_Hash_0 p0 x3_0 x4_0 s) (hB : iterW (fun a => B_ref07_Hash_0 p0 a.1 a.2) (x3_0, x4_0) = some r) : Res z (postS (fun a q => Q_ref07_Hash_0 p0 a.1 a.2 q) (fun _ _ => False) r) := by
  subst hcc
  exact while_sim (I := fun a q => I_ref07_Hash_0 p0 a.1 a.2 q) (Q := (fun a q => Q_ref07_Hash_0 p0 a.1 a.2 q)) (QR := (fun _ _ => False)) (fun a q r h hB => Pb_ref07_Hash_0 h hB) hI hz hB
noncomputable def B_ref07_Hash (p0 : (List UInt8)) : Option Int :=
  kb (iterW (fun a => B_ref07_Hash_0 p0 a.1 a.2) (14695981039346656037, 0)) fun o => stpK o (fun z4 =>
    some z4.1) (fun z4r =>
    none)
theorem sim_ref07_Hash {p0 : (List UInt8)} {r : Int} (hB : B_ref07_Hash p0 = some r) : R 34 [(.pv (.str p0))] [] = some ((.pv (.int .u64 r)), [], []) := by
  rw [R_eq _ _ _ fn_ref07_Hash]
  simp only [Code.fst, Code.snd, Tryz.f34, Option.getD_some]
  generalize hc0 : Code.block 0 _ = cc0
  unfold B_ref07_Hash at hB
  try simp -implicitDefEqProofs [-getElem?_pos, -Iqa, -Iqb, -Iqc, -Iqd, -Lqa, Lqb, Lqc, Lqd]
  generalize hz0 : C Tryz.prog cf cc0 _ = z0
  obtain ⟨o, hB1, hB⟩ := kb_inv hB
  have hJ := P_ref07_Hash_0 (hc0.symm.trans (by kernel_rfl)) hz0 (by simp -implicitDefEqProofs [-getElem?_pos, -Iqa, -Iqb, -Iqc, -Iqd, -Lqa, Lqb, Lqc, Lqd, and_assoc, I_ref07_Hash_0, ownAt]) hB1
  obtain ⟨e0, s0, rfl, hq⟩ := hJ.open
  clear hB1
  rcases o with z4 | ⟨_, _⟩ | z4r
  · simp only [stpK_go] at hB
    obtain ⟨rfl, hq⟩ := hq
    simp only [Q_ref07_Hash_0] at hq
    have q4_1 := hq
    obtain rfl := Option.some.inj hB
    simp -implicitDefEqProofs [-getElem?_pos, -Iqa, -Iqb, -Iqc, -Iqd, -Lqa, Lqb, Lqc, Lqd, q4_1]
  · exact hq.elim
  · cases hB
theorem g_ref07_Hash {p0 : (List UInt8)} {r : Int} (hB : B_ref07_Hash p0 = some r) : G_ref07_Hash p0 = some r := dec_of (fun a b h => by rcases a with a0_; rcases b with b0_; simp at h; simp [*]) (sim_ref07_Hash hB)
end Go.Am
namespace Go.Am
open Go Go.Proofs
set_option maxRecDepth 4000
set_option maxHeartbeats 4000000
open Int renaming ofNat_lt → Iqa, ofNat_le → Iqb, natCast_eq_zero → Iqc, natCast_pos → Iqd, cast_ofNat_Int → Iqe, natCast_zero → Iqf
open List renaming length_eq_zero_iff → Lqa, getElem?_cons_zero → Lqb, getElem?_cons_succ → Lqc, getElem?_nil → Lqd, length_cons → Lqe, length_nil → Lqf, nil_append → Lqg, cons_append → Lqh
open Nat renaming zero_add → Nqa
open Tru renaming thr_mk → Tqa, nodes_mk → Tqb, inner_mk → Tqc
open Go.Am renaming es_api_Declaration_cons → Eqa, es_api_Declaration_nil → Eqb, es_api_Evidence_cons → Eqc, es_api_Evidence_nil → Eqd, ints_cons → Eqe, ints_nil → Eqf, encTs_cons → Eqg, encTs_nil → Eqh, es_str_cons → Eqi, es_str_nil → Eqj, es_u64_cons → Eqk, es_u64_nil → Eql, es_u8_cons → Eqm, es_u8_nil → Eqn
noncomputable def B_ref07_Tag_0 (p0 : Int) (p1 : (List UInt8)) (x5_0 : (List Int)) (x6_0 : Int) : Option (Stp ((List Int) × Int) Unit) :=
  cnd (decide (0 ≤ x6_0)) (
    kb (mustK (¬ x6_0 < 0)) fun _ =>
    kb (appK x5_0 ([(IntKind.wrap .u8 (shrK .u64 p0 x6_0))] : List Int) 1) fun L3 =>
    some (.go (L3, (sub64 x6_0 8)))) (
    some (.ex 0 (x5_0, x6_0)))
def I_ref07_Tag_0 (p0 : Int) (p1 : (List UInt8)) (x5_0 : (List Int)) (x6_0 : Int) (q : St) : Prop := q (.t 0) = (.pv (.int .u64 p0)) ∧ q (.t 1) = (.pv (.str p1)) ∧ (∃ v : AV, q (.t 5) = v ∧ (ownAt q v (.site 5 6 0) false 1 x5_0.length (es_u8 x5_0) ∨ (v = .nilsl ∧ x5_0 = []))) ∧ q (.t 6) = (i64 x6_0)
def Q_ref07_Tag_0 (p0 : Int) (p1 : (List UInt8)) (x5_0 : (List Int)) (x6_0 : Int) (q : St) : Prop := q (.t 1) = (.pv (.str p1)) ∧ (∃ v : AV, q (.t 5) = v ∧ (ownAt q v (.site 5 6 0) false 1 x5_0.length (es_u8 x5_0) ∨ (v = .nilsl ∧ x5_0 = [])))
theorem Pb_ref07_Tag_0 {p0 : Int} {p1 : (List UInt8)} {x5_0 : (List Int)} {x6_0 : Int} {q : St} {r : (Stp ((List Int) × Int) Unit)} (hI : I_ref07_Tag_0 p0 p1 x5_0 x6_0 q) (hB : B_ref07_Tag_0 p0 p1 x5_0 x6_0 = some r) : Res (C Tryz.prog cf (Code.fst (Code.fst (Code.snd (Code.fst (Code.snd (Code.snd ((Tryz.f36.body).getD .skip))))))) q) (postB 0 (fun a q => I_ref07_Tag_0 p0 p1 a.1 a.2 q) (fun a q => Q_ref07_Tag_0 p0 p1 a.1 a.2 q) (fun _ _ => False) r) := by
  simp only [I_ref07_Tag_0] at hI
  obtain ⟨q1, q2, ⟨v3, q3, a3⟩, q4⟩ := hI
  simp only [Code.fst, Code.snd, Tryz.f36, Option.getD_some]
  generalize hr5 : Code.region 5 _ _ = rr5
  unfold B_ref07_Tag_0 at hB
  rcases a3 with ⟨ga3, rfl, oa3⟩ | ⟨rfl, ea3⟩
  · rcases cnd_inv hB with ⟨c1, hB⟩ | ⟨c1, hB⟩
    · have pc1 := eq_true (of_decide_eq_true c1)
      obtain ⟨_, n2, hB⟩ := kb_inv hB
      have n2a := mustK_inv n2
      try dsimp only at hB
      obtain ⟨L3, a4, hB⟩ := kb_inv hB
      obtain ⟨a4z, a4a, a4y⟩ := appK_inv a4
      try (simp only [Lqg] at a4z; subst a4z)
      have a4b := appK_len a4
      have a4c := es_u8_appK a4
      have a4d := appK_le a4
      simp only [Nat.mul_one] at a4d
      try simp only [Iqe, Iqf, Lqe, Lqf, Lqg, Lqh, Nqa, Nat.reduceAdd, Tqa, Tqb, Tqc, Eqe, Eqf, Eqg, Eqh, Eqa, Eqb, Eqc, Eqd, Eqi, Eqj, Eqk, Eql, Eqm, Eqn] at a4a a4b a4c
      try replace a4b : _ = (1 : Nat) := a4b.symm
      try dsimp only at hB
      obtain rfl := Option.some.inj hB
      subst hr5
      try simp -implicitDefEqProofs [-getElem?_pos, -Iqa, -Iqb, -Iqc, -Iqd, -Lqa, Lqb, Lqc, Lqd, q1, q2, q3, q4, oa3, c1, pc1, n2a, a4a, a4b, a4c, a4d]
      refine Res.bgo ?_
      simp -implicitDefEqProofs [-getElem?_pos, -Iqa, -Iqb, -Iqc, -Iqd, -Lqa, Lqb, Lqc, Lqd, and_assoc, I_ref07_Tag_0, ownAt, q1, q2, q3, q4, oa3, c1, pc1, n2a, a4a, a4b, a4c, a4d]
    · have pc1 := eq_false (of_decide_eq_false c1)
      obtain rfl := Option.some.inj hB
      try simp -implicitDefEqProofs [-getElem?_pos, -Iqa, -Iqb, -Iqc, -Iqd, -Lqa, Lqb, Lqc, Lqd, q1, q2, q3, q4, oa3, c1, pc1]
      refine Res.bex ?_
      simp -implicitDefEqProofs [-getElem?_pos, -Iqa, -Iqb, -Iqc, -Iqd, -Lqa, Lqb, Lqc, Lqd, and_assoc, Q_ref07_Tag_0, ownAt, q1, q2, q3, q4, oa3, c1, pc1]
  · try subst ea3
    rcases cnd_inv hB with ⟨c1, hB⟩ | ⟨c1, hB⟩
    · have pc1 := eq_true (of_decide_eq_true c1)
      obtain ⟨_, n2, hB⟩ := kb_inv hB
      have n2a := mustK_inv n2
      try dsimp only at hB
      obtain ⟨L3, a4, hB⟩ := kb_inv hB
      obtain ⟨a4z, a4a, a4y⟩ := appK_inv a4
      simp only [Lqg] at a4z
      subst a4z
      try dsimp only at hB
      obtain rfl := Option.some.inj hB
      subst hr5
      try simp -implicitDefEqProofs [-getElem?_pos, -Iqa, -Iqb, -Iqc, -Iqd, -Lqa, Lqb, Lqc, Lqd, q1, q2, q3, q4, c1, pc1, n2a]
      refine Res.bgo ?_
      simp -implicitDefEqProofs [-getElem?_pos, -Iqa, -Iqb, -Iqc, -Iqd, -Lqa, Lqb, Lqc, Lqd, and_assoc, I_ref07_Tag_0, ownAt, q1, q2, q3, q4, c1, pc1, n2a]; all_goals ((repeat' apply And.intro) <;> assumption)
    · have pc1 := eq_false (of_decide_eq_false c1)
      obtain rfl := Option.some.inj hB
      try simp -implicitDefEqProofs [-getElem?_pos, -Iqa, -Iqb, -Iqc, -Iqd, -Lqa, Lqb, Lqc, Lqd, q1, q2, q3, q4, c1, pc1]
      refine Res.bex ?_
      simp -implicitDefEqProofs [-getElem?_pos, -Iqa, -Iqb, -Iqc, -Iqd, -Lqa, Lqb, Lqc, Lqd, and_assoc, Q_ref07_Tag_0, ownAt, q1, q2, q3, q4, c1, pc1]; all_goals ((repeat' apply And.intro) <;> assumption)
theorem P_ref07_Tag_0 {p0 : Int} {p1 : (List UInt8)} {x5_0 : (List Int)} {x6_0 : Int} {cc : Code} (hcc : cc = .block 0 (.loop (Code.fst (Code.fst (Code.snd (Code.fst (Code.snd (Code.snd ((Tryz.f36.body).getD .skip))))))))) {s : St} {z : Option (Ex × St)} (hz : C Tryz.prog cf cc s = z) {r : (Stp ((List Int) × Int) Unit)} (hI : I_ref07_Tag_0 p0 p1 x5_0 x6_0 s) (hB : iterW (fun a => B_ref07_Tag_0 p0 p1 a.1 a.2) (x5_0, x6_0) = some r) : Res z (postS (fun a q => Q_ref07_Tag_0 p0 p1 a.1 a.2 q) (fun _ _ => False) r) := by
  subst hcc
  exact while_sim (I := fun a q => I_ref07_Tag_0 p0 p1 a.1 a.2 q) (Q := (fun a q => Q_ref07_Tag_0 p0 p1 a.1 a.2 q)) (QR := (fun _ _ => False)) (fun a q r h hB => Pb_ref07_Tag_0 h hB) hI hz hB
noncomputable def B_ref07_Tag (p0 : Int) (p1 : (List UInt8)) : Option Int :=
  kb (iterW (fun a => B_ref07_Tag_0 p0 p1 a.1 a.2) (([] : (List Int)), 56)) fun o => stpK o (fun z5 =>
    kb (toU8K z5.1) fun L6 =>
    kb (catK L6 p1) fun S9 =>
    kb (G_ref07_Hash S9) fun y10 =>
    some y10) (fun z5r =>
    none)
theorem sim_ref07_Tag {p0 : Int} {p1 : (List UInt8)} {r : Int} (hB : B_ref07_Tag p0 p1 = some r) : R 36 [(.pv (.int .u64 p0)), (.pv (.str p1))] [] = some ((.pv (.int .u64 r)), [], []) := by
  rw [R_eq _ _ _ fn_ref07_Tag]
  simp only [Code.fst, Code.snd, Tryz.f36, Option.getD_some]
  generalize hc0 : Code.block 0 _ = cc0
  generalize hr6 : Code.region 6 _ _ = rr6
  unfold B_ref07_Tag at hB
  try simp -implicitDefEqProofs [-getElem?_pos, -Iqa, -Iqb, -Iqc, -Iqd, -Lqa, Lqb, Lqc, Lqd]
  generalize hz0 : C Tryz.prog cf cc0 _ = z0
  obtain ⟨o, hB1, hB⟩ := kb_inv hB
  have hJ := P_ref07_Tag_0 (hc0.symm.trans (by kernel_rfl)) hz0 (by simp -implicitDefEqProofs [-getElem?_pos, -Iqa, -Iqb, -Iqc, -Iqd, -Lqa, Lqb, Lqc, Lqd, and_assoc, I_ref07_Tag_0, ownAt]) hB1
  obtain ⟨e0, s0, rfl, hq⟩ := hJ.open
  clear hB1
  rcases o with z5 | ⟨_, _⟩ | z5r
  · simp only [stpK_go] at hB
    obtain ⟨rfl, hq⟩ := hq
    obtain ⟨u0_0, u0_1⟩ := z5
    dsimp only at hB hq
    simp only [Q_ref07_Tag_0] at hq
    obtain ⟨q5_1, ⟨v5_2, q5_2, a5_2⟩⟩ := hq
    rcases a5_2 with ⟨ga5_2, rfl, oa5_2⟩ | ⟨rfl, ea5_2⟩
    · obtain ⟨L6, u7, hB⟩ := kb_inv hB
      have u7a := toU8K_inv u7
      try simp only [Iqe, Iqf, Lqe, Lqf, Lqg, Lqh, Nqa, Nat.reduceAdd, Tqa, Tqb, Tqc, Eqe, Eqf, Eqg, Eqh, Eqa, Eqb, Eqc, Eqd, Eqi, Eqj, Eqk, Eql, Eqm, Eqn] at u7a
      try dsimp only at hB
      obtain ⟨S9, n8, hB⟩ := kb_inv hB
      obtain ⟨n8a, n8b⟩ := catK_inv n8
      try dsimp only at hB
      obtain ⟨y10, k11, hB⟩ := kb_inv hB
      replace k11 := run_ref07_Hash k11
      try simp only [Iqe, Iqf, Lqe, Lqf, Lqg, Lqh, Nqa, Nat.reduceAdd, Tqa, Tqb, Tqc, Eqe, Eqf, Eqg, Eqh, Eqa, Eqb, Eqc, Eqd, Eqi, Eqj, Eqk, Eql, Eqm, Eqn] at k11
      try dsimp only at hB
      obtain rfl := Option.some.inj hB
      subst hr6
      simp -implicitDefEqProofs [-getElem?_pos, -Iqa, -Iqb, -Iqc, -Iqd, -Lqa, Lqb, Lqc, Lqd, q5_1, q5_2, oa5_2, u7a, n8a, n8b, k11]
    · try subst ea5_2
      obtain ⟨L6, u7, hB⟩ := kb_inv hB
      have u7a := toU8K_inv u7
      try simp only [Iqe, Iqf, Lqe, Lqf, Lqg, Lqh, Nqa, Nat.reduceAdd, Tqa, Tqb, Tqc, Eqe, Eqf, Eqg, Eqh, Eqa, Eqb, Eqc, Eqd, Eqi, Eqj, Eqk, Eql, Eqm, Eqn] at u7a
      try dsimp only at hB
      obtain ⟨S9, n8, hB⟩ := kb_inv hB
      obtain ⟨n8a, n8b⟩ := catK_inv n8
      try dsimp only at hB
      obtain ⟨y10, k11, hB⟩ := kb_inv hB
      replace k11 := run_ref07_Hash k11
      try simp only [Iqe, Iqf, Lqe, Lqf, Lqg, Lqh, Nqa, Nat.reduceAdd, Tqa, Tqb, Tqc, Eqe, Eqf, Eqg, Eqh, Eqa, Eqb, Eqc, Eqd, Eqi, Eqj, Eqk, Eql, Eqm, Eqn] at k11
      try dsimp only at hB
      obtain rfl := Option.some.inj hB
      subst hr6
      simp -implicitDefEqProofs [-getElem?_pos, -Iqa, -Iqb, -Iqc, -Iqd, -Lqa, Lqb, Lqc, Lqd, q5_1, q5_2, u7a, n8a, n8b, k11]
  · exact hq.elim
  · cases hB
theorem g_ref07_Tag {p0 : Int} {p1 : (List UInt8)} {r : Int} (hB : B_ref07_Tag p0 p1 = some r) : G_ref07_Tag p0 p1 = some r := dec_of (fun a b h => by rcases a with a0_; rcases b with b0_; simp at h; simp [*]) (sim_ref07_Tag hB)
end Go.Am
/-
Chapter 07: hashes and tags.
-/
namespace Go.Am
open Go
/-! ### hashes -/
def hashG (h : Int) (b : UInt8) : Int := mulK .u64 (xorK .u64 h (IntKind.wrap .u64 (b.toNat : Int))) 1099511628211
def hashV (l : List UInt8) : Int := l.foldl hashG 14695981039346656037
theorem s_declaration_Hash (l : List UInt8) (hl : l.length < 4611686018427387904) : G_declaration_Hash l = some (hashV l) := by
  refine g_declaration_Hash ?_
  unfold B_declaration_Hash u8K
  rw [kb_some, smallK_some (by rw [u8s_len]; exact hl), kb_some]
  have h1 := foldO_spec (f := fun i a x => B_declaration_Hash_0 (u8s l) i a x) (g := fun a e => mulK .u64 (xorK .u64 a (IntKind.wrap .u64 e)) 1099511628211) (fun j a => True) (u8s l) 0 14695981039346656037 (fun j a x _ _ => ⟨rfl, trivial⟩) trivial
  rw [h1.1, kb_some]
  unfold hashV u8s
  rw [List.foldl_map]
  rfl
theorem s_ref07_Hash (l : List UInt8) (hl : l.length < 4611686018427387904) : G_ref07_Hash l = some (hashV l) := by
  have hloop := iterW_spec (A := Int × Int) (R := Unit) (f := fun a => B_ref07_Hash_0 l a.1 a.2)
    (fun k a => (0 ≤ a.2 ∧ a.2 ≤ l.length ∧ k = l.length - a.2.toNat) ∧ a.1 = (l.take a.2.toNat).foldl hashG 14695981039346656037)
    (fun x => ∃ a : Int × Int, x = .go a ∧ a.1 = hashV l) (by
      rintro k ⟨a, j⟩ ⟨⟨hj0, hj1, hk⟩, ha⟩
      dsimp only at hj0 hj1 hk ha
      by_cases c : j < (l.length : Int)
      · left
        have hlt : j.toNat < l.length := by omega
        refine ⟨(hashG a l[j.toNat], j + 1), l.length - (j + 1).toNat, ?_, by omega, ⟨by show 0 ≤ j + 1; omega, by show j + 1 ≤ _; omega, rfl⟩, ?_⟩
        · unfold B_ref07_Hash_0
          simp only [c, decide_true, cnd_true]
          rw [getI_some hj0 hlt, kb_some, add64_of (by omega) (by omega)]
          rfl
        · show hashG a l[j.toNat] = _
          rw [show (j + 1).toNat = j.toNat + 1 by omega, List.take_add_one, List.getElem?_eq_getElem hlt, List.foldl_append, ← ha]
          rfl
      · right; left
        refine ⟨0, (a, j), ?_, (a, j), rfl, ?_⟩
        · unfold B_ref07_Hash_0
          simp only [c, decide_false, cnd_false]
        · show a = _
          rw [ha, show j.toNat = l.length by omega, List.take_length]
          rfl) l.length (14695981039346656037, 0) ⟨⟨by simp, by simp, by simp⟩, by simp⟩
  obtain ⟨_, e, a, rfl, h⟩ := hloop
  refine g_ref07_Hash ?_
  unfold B_ref07_Hash
  rw [e, kb_some, stpK_go, h]
def tagV (key : Int) (b : List UInt8) : Int := hashV (tagHead key ++ b)
theorem tagHead_len (key : Int) : (tagHead key).length = 8 := rfl
theorem s_declaration_Tag (key : Int) {b : List UInt8} (h : b.length < 1000000000) : G_declaration_Tag key b = some (tagV key b) :=
  g_declaration_Tag h (s_declaration_Hash _ (by rw [List.length_append, tagHead_len]; omega))
theorem s_ref07_Tag (key : Int) {b : List UInt8} (h : b.length < 1000000000) : G_ref07_Tag key b = some (tagV key b) := by
  have e : iterW (fun a : List Int × Int => B_ref07_Tag_0 key b a.1 a.2) (([] : List Int), 56) = some (.go ([IntKind.wrap .u8 (shrK .u64 key 56), IntKind.wrap .u8 (shrK .u64 key 48), IntKind.wrap .u8 (shrK .u64 key 40), IntKind.wrap .u8 (shrK .u64 key 32), IntKind.wrap .u8 (shrK .u64 key 24), IntKind.wrap .u8 (shrK .u64 key 16), IntKind.wrap .u8 (shrK .u64 key 8), IntKind.wrap .u8 (shrK .u64 key 0)], -8)) := by
    have stp : ∀ (l : List Int) (j j' : Int), 0 ≤ j → l.length ≤ 8 → sub64 j 8 = j' → iterW (fun a : List Int × Int => B_ref07_Tag_0 key b a.1 a.2) (l, j) = iterW (fun a : List Int × Int => B_ref07_Tag_0 key b a.1 a.2) (l ++ [IntKind.wrap .u8 (shrK .u64 key j)], j') := by
      intro l j j' h0 hl hj
      refine iterW_go ?_
      unfold B_ref07_Tag_0
      simp only [h0, decide_true, cnd_true]
      rw [mustK_some (show ¬ j < 0 by omega), kb_some, appK_some (by simp; omega), kb_some, hj]
    rw [stp [] 56 48 (by omega) (by simp) (by decide), stp _ 48 40 (by omega) (by simp) (by decide), stp _ 40 32 (by omega) (by simp) (by decide), stp _ 32 24 (by omega) (by simp) (by decide), stp _ 24 16 (by omega) (by simp) (by decide), stp _ 16 8 (by omega) (by simp) (by decide), stp _ 8 0 (by omega) (by simp) (by decide), stp _ 0 (-8) (by omega) (by simp) (by decide)]
    refine iterW_ex (k := 0) ?_
    unfold B_ref07_Tag_0
    simp [cnd_false]
  refine g_ref07_Tag ?_
  unfold B_ref07_Tag
  rw [e, kb_some, stpK_go]
  unfold toU8K
  rw [kb_some]
  have hh : toU8 [IntKind.wrap .u8 (shrK .u64 key 56), IntKind.wrap .u8 (shrK .u64 key 48), IntKind.wrap .u8 (shrK .u64 key 40), IntKind.wrap .u8 (shrK .u64 key 32), IntKind.wrap .u8 (shrK .u64 key 24), IntKind.wrap .u8 (shrK .u64 key 16), IntKind.wrap .u8 (shrK .u64 key 8), IntKind.wrap .u8 (shrK .u64 key 0)] = tagHead key := rfl
  dsimp only
  rw [hh, catK_some (by rw [tagHead_len]; omega), kb_some, s_ref07_Hash _ (by rw [List.length_append, tagHead_len]; omega), kb_some]
  rfl
end Go.Am
/-
Reading a trust: tokens, and a reader of lists of bytes.
-/
namespace Go.Am
open Go
def dg (b : UInt8) : Bool := decide (48 ≤ b.toNat ∧ b.toNat ≤ 57)
def skipB : List UInt8 → List UInt8
  | [] => []
  | c :: r => if c = 32 then skipB r else c :: r
def punct (c : UInt8) : Bool := c == 40 || (c == 41 || c == 44)
/-- the token at the beginning, empty where none begins -/
def tok : List UInt8 → List UInt8
  | [] => []
  | c :: r => if c = 111 then (if r.head? = some 102 then [111, 102] else []) else if punct c = true then [c] else (c :: r).takeWhile dg
def nx (l : List UInt8) : List UInt8 := skipB (l.drop (tok l).length)
def valD (l : List UInt8) : Nat := l.foldl (fun a b => a * 10 + (b.toNat - 48)) 0
def numOk : List UInt8 → Bool
  | [] => false
  | b :: r => dg b && (decide (r.length ≤ 3) && (r.isEmpty || b != 48))
def num (l : List UInt8) : Option Nat := if numOk (tok l) = true then some (valD (tok l)) else none
abbrev PR := Tru × Bool × List UInt8
abbrev PF := List UInt8 → Int → List Int → List Tru → PR
def pRest (P : PF) (l : List UInt8) (n : Int) : PR :=
  if tok l = [111, 102] then (if tok (nx l) = [40] then P (nx (nx l)) n [] [] else (.mk n [] [], false, nx l)) else (.mk n [] [], false, l)
def pTail (P : PF) (l : List UInt8) (n : Int) (ns : List Int) (is : List Tru) : PR :=
  if tok l = [41] then (.mk n ns is, true, nx l) else if tok l = [44] then P (nx l) n ns is else (.mk n ns is, false, l)
def pLoop : Nat → PF
  | 0, l, n, ns, is => (.mk n ns is, false, l)
  | f + 1, l, n, ns, is =>
    match num l with
    | none => (.mk n ns is, false, l)
    | some k =>
      if tok (nx l) = [111, 102] then
        (match pRest (pLoop f) (nx l) (k : Int) with
        | (x, true, r) => pTail (pLoop f) r n ns (is ++ [x])
        | (_, false, r) => (.mk n ns is, false, r))
      else pTail (pLoop f) (nx l) n (ns ++ [(k : Int)]) is
/-- the whole of a trust, from its first number on -/
def pTop (f : Nat) (l : List UInt8) : PR :=
  match num l with
  | none => (.mk 0 [] [], false, l)
  | some k => pRest (pLoop f) (nx l) (k : Int)
/-! ### what is left -/
theorem skipB_cons (c : UInt8) (r : List UInt8) : skipB (c :: r) = if c = 32 then skipB r else c :: r := rfl
theorem tok_cons (c : UInt8) (r : List UInt8) : tok (c :: r) = if c = 111 then (if r.head? = some 102 then [111, 102] else []) else if punct c = true then [c] else (c :: r).takeWhile dg := rfl
theorem skipB_suf : ∀ l : List UInt8, skipB l <:+ l
  | [] => List.suffix_refl _
  | c :: r => by
    rw [skipB_cons]
    split
    · exact (skipB_suf r).trans (List.suffix_cons c r)
    · exact List.suffix_refl _
theorem skipB_idem : ∀ l : List UInt8, skipB (skipB l) = skipB l
  | [] => rfl
  | c :: r => by
    rw [skipB_cons]
    split
    · exact skipB_idem r
    · rename_i h
      rw [skipB_cons, if_neg h]
theorem skipB_ne {c : UInt8} (h : c ≠ 32) (r : List UInt8) : skipB (c :: r) = c :: r := if_neg h
theorem skipB_32 (r : List UInt8) : skipB (32 :: r) = skipB r := if_pos rfl
theorem tok_pre (l : List UInt8) : tok l <+: l := by
  cases l with
  | nil => exact List.prefix_refl _
  | cons c r =>
    rw [tok_cons]
    split
    · rename_i h
      subst h
      split
      · rename_i h
        cases r with
        | nil => cases h
        | cons d q => simp at h; subst h; exact ⟨q, rfl⟩
      · exact List.nil_prefix
    · split
      · exact ⟨r, rfl⟩
      · exact List.takeWhile_prefix _
theorem tok_le (l : List UInt8) : (tok l).length ≤ l.length := (tok_pre l).length_le
theorem nx_suf (l : List UInt8) : nx l <:+ l := (skipB_suf _).trans (List.drop_suffix _ _)
theorem nx_lt {l : List UInt8} (h : tok l ≠ []) : (nx l).length < l.length := by
  have h1 := (skipB_suf (l.drop (tok l).length)).length_le
  have h2 := tok_le l
  have h3 := List.length_pos_iff.2 h
  rw [List.length_drop] at h1
  unfold nx
  omega
theorem num_tok {l : List UInt8} {k : Nat} (h : num l = some k) : tok l ≠ [] := by
  unfold num at h
  split at h
  · rename_i h'
    intro e
    rw [e] at h'
    cases h'
  · cases h
theorem digs_lt : ∀ (w : List UInt8) (a : Nat), w.foldl (fun a (b : UInt8) => a * 10 + (b.toNat - 48)) a ≤ (a + 1) * 256 ^ w.length * 256 ^ w.length
  | [], a => by simp
  | b :: r, a => by
    have h := digs_lt r (a * 10 + (b.toNat - 48))
    have hb := b.toNat_lt
    rw [List.foldl_cons, List.length_cons]
    refine Nat.le_trans h ?_
    have e : (a + 1) * 256 ^ (r.length + 1) * 256 ^ (r.length + 1) = ((a + 1) * 256 * 256) * 256 ^ r.length * 256 ^ r.length := by
      rw [Nat.pow_succ]
      simp only [Nat.mul_assoc, Nat.mul_comm, Nat.mul_left_comm]
    rw [e]
    refine Nat.mul_le_mul_right _ (Nat.mul_le_mul_right _ ?_)
    omega
theorem num_lt {l : List UInt8} {k : Nat} (h : num l = some k) : k < 1000000000000000000 := by
  unfold num at h
  split at h
  · rename_i h'
    cases h
    have hl : (tok l).length ≤ 4 := by
      cases hw : tok l with
      | nil => simp
      | cons b r =>
        rw [hw] at h'
        simp only [numOk, Bool.and_eq_true, decide_eq_true_eq] at h'
        simp; omega
    generalize tok l = w at *
    match w, hl with
    | [], _ => simp [valD]
    | [a], _ => have := a.toNat_lt; simp [valD]; omega
    | [a, b], _ => have := a.toNat_lt; have := b.toNat_lt; simp [valD]; omega
    | [a, b, c], _ => have := a.toNat_lt; have := b.toNat_lt; have := c.toNat_lt; simp [valD]; omega
    | [a, b, c, d], _ => have := a.toNat_lt; have := b.toNat_lt; have := c.toNat_lt; have := d.toNat_lt; simp [valD]; omega
    | _ :: _ :: _ :: _ :: _ :: _, h => simp at h
  · cases h
/-- the result's rest is a rest, its numbers are ints, and it is not larger than what was read -/
structure Fit (l : List UInt8) (z : Nat) (R : PR) : Prop where
  suf : R.2.2 <:+ l
  size : R.1.size + R.2.2.length ≤ z + l.length
  ok : R.1.Ok
theorem Ok_mk {n : Int} {ns : List Int} {is : List Tru} (h1 : in64 n) (h2 : ∀ k ∈ ns, in64 k) (h3 : ∀ x ∈ is, x.Ok) : (Tru.mk n ns is).Ok := ⟨h1, h2, Oks_iff.2 h3⟩
theorem size_mk' (n : Int) (ns : List Int) (is : List Tru) : (Tru.mk n ns is).size = ns.length + (is.length + sizes is) := rfl
def FitP (P : PF) : Prop := ∀ l n ns is, in64 n → (∀ k ∈ ns, in64 k) → (∀ x ∈ is, x.Ok) → Fit l (ns.length + (is.length + sizes is)) (P l n ns is)
theorem fit_tail {P : PF} (hP : FitP P) : ∀ l n ns is, in64 n → (∀ k ∈ ns, in64 k) → (∀ x ∈ is, x.Ok) → Fit l (ns.length + (is.length + sizes is)) (pTail P l n ns is) := by
  intro l n ns is h1 h2 h3
  unfold pTail
  split
  · exact ⟨nx_suf l, by have := (nx_suf l).length_le; simp only [size_mk']; omega, Ok_mk h1 h2 h3⟩
  · split
    · have := hP (nx l) n ns is h1 h2 h3
      exact ⟨this.suf.trans (nx_suf l), by have := this.size; have := (nx_suf l).length_le; omega, this.ok⟩
    · exact ⟨List.suffix_refl _, by simp only [size_mk']; omega, Ok_mk h1 h2 h3⟩
theorem fit_rest {P : PF} (hP : FitP P) : ∀ l n, in64 n → Fit l 0 (pRest P l n) := by
  intro l n h1
  unfold pRest
  split
  · split
    · have := hP (nx (nx l)) n [] [] h1 (by simp) (by simp)
      refine ⟨this.suf.trans ((nx_suf _).trans (nx_suf l)), ?_, this.ok⟩
      have h2 := this.size
      have := (nx_suf l).length_le
      have := (nx_suf (nx l)).length_le
      simp only [List.length_nil, sizes] at h2
      omega
    · exact ⟨nx_suf l, by have := (nx_suf l).length_le; simp only [size_mk', List.length_nil, sizes]; omega, Ok_mk h1 (by simp) (by simp)⟩
  · exact ⟨List.suffix_refl _, by simp only [size_mk', List.length_nil, sizes]; omega, Ok_mk h1 (by simp) (by simp)⟩
theorem fit_loop : ∀ f, FitP (pLoop f) := by
  intro f
  induction f with
  | zero =>
    intro l n ns is h1 h2 h3
    exact ⟨List.suffix_refl _, by simp only [pLoop, size_mk']; omega, Ok_mk h1 h2 h3⟩
  | succ f ih =>
    intro l n ns is h1 h2 h3
    unfold pLoop
    cases hk : num l with
    | none => exact ⟨List.suffix_refl _, by simp only [size_mk']; omega, Ok_mk h1 h2 h3⟩
    | some k =>
      have hk1 := num_lt hk
      have hkk : in64 (k : Int) := by unfold in64; omega
      have hn := nx_lt (num_tok hk)
      dsimp only
      split
      · rename_i hof
        have hr := fit_rest ih (nx l) (k : Int) hkk
        have hn2 := nx_lt (l := nx l) (by rw [hof]; simp)
        split
        · rename_i x r e
          rw [e] at hr
          have ht := fit_tail ih r n ns (is ++ [x]) h1 h2 (fun y hy => by
            rcases List.mem_append.1 hy with hy | hy
            · exact h3 y hy
            · obtain rfl := List.mem_singleton.1 hy; exact hr.ok)
          refine ⟨ht.suf.trans (hr.suf.trans (nx_suf l)), ?_, ht.ok⟩
          have a := ht.size
          have b := hr.size
          dsimp only at b
          rw [sizes_app] at a
          simp only [List.length_append, List.length_cons, List.length_nil, sizes] at a
          omega
        · rename_i x r e
          rw [e] at hr
          exact ⟨hr.suf.trans (nx_suf l), by have := hr.suf.length_le; dsimp only at this; simp only [size_mk']; omega, Ok_mk h1 h2 h3⟩
      · have ht := fit_tail ih (nx l) n (ns ++ [(k : Int)]) is h1 (fun y hy => by
            rcases List.mem_append.1 hy with hy | hy
            · exact h2 y hy
            · obtain rfl := List.mem_singleton.1 hy; exact hkk) h3
        refine ⟨ht.suf.trans (nx_suf l), ?_, ht.ok⟩
        have a := ht.size
        simp only [List.length_append, List.length_cons, List.length_nil] at a
        omega
theorem fit_top (f : Nat) (l : List UInt8) : Fit l 0 (pTop f l) := by
  unfold pTop
  cases hk : num l with
  | none => exact ⟨List.suffix_refl _, by simp only [size_mk', List.length_nil, sizes]; omega, Ok_mk (by unfold in64; omega) (by simp) (by simp)⟩
  | some k =>
    have hk1 := num_lt hk
    have := fit_rest (fit_loop f) (nx l) (k : Int) (by unfold in64; omega)
    show Fit l 0 (pRest (pLoop f) (nx l) (k : Int))
    exact ⟨this.suf.trans (nx_suf l), by have := this.size; have := (nx_suf l).length_le; omega, this.ok⟩
/-! ### two texts with the same tokens -/
structure SameTok (Q : List UInt8 → List UInt8 → Prop) : Prop where
  tok : ∀ {a b}, Q a b → tok a = tok b
  nx : ∀ {a b}, Q a b → Q (nx a) (nx b)
def SamePR (Q : List UInt8 → List UInt8 → Prop) (R S : PR) : Prop := R.1 = S.1 ∧ (R.2.1 = S.2.1 ∧ Q R.2.2 S.2.2)
def SameP (Q : List UInt8 → List UInt8 → Prop) (P P' : PF) : Prop := ∀ a b n ns is, Q a b → SamePR Q (P a n ns is) (P' b n ns is)
end Go.Am
/-
Reading a trust: what was written is read again; blanks change nothing; no proper beginning is a trust.
-/
namespace Go.Am
open Go
def NoDig (r : List UInt8) : Prop := ∀ c q, r = c :: q → dg c = false
theorem takeWhile_app {u r : List UInt8} (h : ∀ b ∈ u, dg b = true) (hr : NoDig r) : (u ++ r).takeWhile dg = u := by
  induction u with
  | nil =>
    cases r with
    | nil => rfl
    | cons c q => rw [List.nil_append, List.takeWhile_cons, hr c q rfl]; rfl
  | cons b u ih =>
    rw [List.cons_append, List.takeWhile_cons, h b (by simp), if_pos rfl, ih fun c hc => h c (by simp [hc])]
theorem itoa_facts : ∀ k : Nat, k < 1000 → ((itoaN k).all dg && (numOk (itoaN k) && ((itoaN k).head?.all fun b => b != 111 && (!punct b && b != 32)))) = true := by decide +kernel
theorem itoa_cons {k : Nat} (h : k < 1000) : ∃ b q, itoaN k = b :: q ∧ ((b ≠ 111 ∧ (punct b = false ∧ b ≠ 32)) ∧ ∀ c ∈ b :: q, dg c = true) := by
  have hf := itoa_facts k h
  cases e : itoaN k with
  | nil => exact absurd e (itoaN_ne k)
  | cons b q =>
    rw [e] at hf
    simp only [Bool.and_eq_true, List.head?_cons, Option.all_some, bne_iff_ne, Bool.not_eq_true', List.all_eq_true] at hf
    exact ⟨b, q, rfl, ⟨hf.2.2.1, hf.2.2.2⟩, hf.1⟩
theorem tok_itoa {k : Nat} (h : k < 1000) {r : List UInt8} (hr : NoDig r) : tok (itoaN k ++ r) = itoaN k := by
  obtain ⟨b, q, e, ⟨h1, h2, _⟩, h3⟩ := itoa_cons h
  rw [e, List.cons_append, tok_cons, if_neg h1, h2, if_neg (by simp), ← List.cons_append]
  exact takeWhile_app h3 hr
theorem num_itoa {k : Nat} (h : k < 1000) {r : List UInt8} (hr : NoDig r) : num (itoaN k ++ r) = some k := by
  have hf := itoa_facts k h
  simp only [Bool.and_eq_true] at hf
  unfold num
  rw [tok_itoa h hr, if_pos hf.2.1]
  exact congrArg some (itoaN_read k h)
theorem nx_itoa {k : Nat} (h : k < 1000) {r : List UInt8} (hr : NoDig r) : nx (itoaN k ++ r) = skipB r := by
  unfold nx
  rw [tok_itoa h hr, List.drop_left]
theorem skip_itoa {k : Nat} (h : k < 1000) (r : List UInt8) : skipB (itoaN k ++ r) = itoaN k ++ r := by
  obtain ⟨b, q, e, ⟨_, _, h2⟩, _⟩ := itoa_cons h
  rw [e, List.cons_append, skipB_ne h2]
theorem tok_of (r : List UInt8) : tok (111 :: 102 :: r) = [111, 102] := by simp [tok]
theorem nx_of (r : List UInt8) : nx (111 :: 102 :: r) = skipB r := by unfold nx; rw [tok_of]; rfl
theorem tok_40 (r : List UInt8) : tok (40 :: r) = [40] := by simp [tok, punct]
theorem nx_40 (r : List UInt8) : nx (40 :: r) = skipB r := by unfold nx; rw [tok_40]; rfl
theorem tok_41 (r : List UInt8) : tok (41 :: r) = [41] := by simp [tok, punct]
theorem nx_41 (r : List UInt8) : nx (41 :: r) = skipB r := by unfold nx; rw [tok_41]; rfl
theorem tok_44 (r : List UInt8) : tok (44 :: r) = [44] := by simp [tok, punct]
theorem nx_44 (r : List UInt8) : nx (44 :: r) = skipB r := by unfold nx; rw [tok_44]; rfl
theorem noDig_32 (r : List UInt8) : NoDig (32 :: r) := by intro c q e; cases e; decide
theorem tailW_eq (ws : List (List UInt8)) (r : List UInt8) : tailW ws r = (if ws = [] then 41 :: r else 44 :: 32 :: (joinL ws [44, 32] ++ 41 :: r)) := rfl
theorem noDig_tail (ws : List (List UInt8)) (r : List UInt8) : NoDig (tailW ws r) := by
  intro c q e
  rw [tailW_eq] at e
  split at e <;> cases e <;> decide
theorem skip_tail (ws : List (List UInt8)) (r : List UInt8) : skipB (tailW ws r) = tailW ws r := by
  rw [tailW_eq]
  split
  · rfl
  · rfl
theorem tok_tail_of (ws : List (List UInt8)) (r : List UInt8) : tok (tailW ws r) ≠ [111, 102] := by
  rw [tailW_eq]
  split
  · rw [tok_41]; decide
  · rw [tok_44]; decide
theorem pTail_end (P : PF) (r : List UInt8) (n : Int) (ns : List Int) (is : List Tru) : pTail P (tailW [] r) n ns is = (.mk n ns is, true, skipB r) := by
  rw [tailW_eq, if_pos rfl]
  unfold pTail
  rw [tok_41, if_pos rfl, nx_41]
theorem pTail_more (P : PF) {ws : List (List UInt8)} (h : ws ≠ []) (r : List UInt8) (n : Int) (ns : List Int) (is : List Tru) : pTail P (tailW ws r) n ns is = P (skipB (joinL ws [44, 32] ++ 41 :: r)) n ns is := by
  rw [tailW_eq, if_neg h]
  unfold pTail
  rw [tok_44, if_neg (by decide), if_pos rfl, nx_44, skipB_32]
mutual
/-- at each level there is an entry -/
def full : Tru → Prop
  | .mk t n i => 1 ≤ n.length + i.length ∧ fulls i
def fulls : List Tru → Prop
  | [] => True
  | x :: r => full x ∧ fulls r
end
theorem fulls_iff : ∀ {l : List Tru}, fulls l ↔ ∀ x ∈ l, full x
  | [] => by simp [fulls]
  | y :: r => by simp [fulls, fulls_iff (l := r)]
theorem good_full : ∀ x : Tru, good x = true → full x := by
  refine tru_ind fun t n i ih h => ?_
  simp only [good, Bool.and_eq_true, decide_eq_true_eq, goods_eq, List.all_eq_true, Bool.not_eq_true'] at h
  obtain ⟨⟨h1, h2⟩, h3, h4, h5⟩ := h
  exact ⟨by omega, fulls_iff.2 fun x hx => ih x hx (h5 x hx)⟩
/-- behind the bracket -/
def body (x : Tru) (r : List UInt8) : List UInt8 := joinL (x.nodes.map (fun k => itoaN k.toNat) ++ txtTs x.inner) [44, 32] ++ 41 :: r
theorem txt_body (x : Tru) (r : List UInt8) : txtT x ++ r = itoaN x.thr.toNat ++ 32 :: (111 :: 102 :: 32 :: 40 :: body x r) := by
  obtain ⟨t, n, i⟩ := x
  exact txt_shape t n i r
theorem skip_txt {x : Tru} (h : dec3 x) (r : List UInt8) : skipB (txtT x ++ r) = txtT x ++ r := by
  obtain ⟨t, n, i⟩ := x
  have := h.1
  rw [txt_shape, skip_itoa (by omega)]
def RtAt (x : Tru) : Prop := ∀ f r, (body x r).length ≤ f → pRest (pLoop f) (111 :: 102 :: 32 :: 40 :: body x r) x.thr = (x, true, skipB r)
theorem rt_step_tru {x : Tru} (hx : dec3 x) (h : RtAt x) {f : Nat} {R : List UInt8} (hf : (body x R).length ≤ f) (hR : skipB R = R) (n : Int) (ns : List Int) (is : List Tru) :
    pLoop (f + 1) (txtT x ++ R) n ns is = pTail (pLoop f) R n ns (is ++ [x]) := by
  have ht : 0 ≤ x.thr ∧ x.thr < 1000 := by obtain ⟨t, m, j⟩ := x; exact hx.1
  have e : ((x.thr.toNat : Nat) : Int) = x.thr := by omega
  rw [txt_body, pLoop, num_itoa (by omega) (noDig_32 _)]
  dsimp only
  rw [nx_itoa (by omega) (noDig_32 _), skipB_32, skipB_ne (by decide), tok_of, if_pos rfl, e, h f R hf, hR]
theorem rt_step_node {k : Int} (hk : 0 ≤ k ∧ k < 1000) (f : Nat) (ws : List (List UInt8)) (r : List UInt8) (n : Int) (ns : List Int) (is : List Tru) :
    pLoop (f + 1) (itoaN k.toNat ++ tailW ws r) n ns is = pTail (pLoop f) (tailW ws r) n (ns ++ [k]) is := by
  have e : ((k.toNat : Nat) : Int) = k := by omega
  rw [pLoop, num_itoa (by omega) (noDig_tail _ _)]
  dsimp only
  rw [nx_itoa (by omega) (noDig_tail _ _), skip_tail, if_neg (tok_tail_of _ _), e]
theorem txtTs_nil {i : List Tru} (h : txtTs i = []) : i = [] := by
  cases i with
  | nil => rfl
  | cons _ _ => simp [txtTs] at h
theorem rt_inner : ∀ (i : List Tru), (∀ x ∈ i, RtAt x) → ∀ (f : Nat) (n : Int) (ns : List Int) (is : List Tru) (r : List UInt8), i ≠ [] → dec3s i → (joinL (txtTs i) [44, 32] ++ 41 :: r).length ≤ f →
    pLoop f (joinL (txtTs i) [44, 32] ++ 41 :: r) n ns is = (.mk n ns (is ++ i), true, skipB r) := by
  intro i
  induction i with
  | nil => intro _ f n ns is r h; exact absurd rfl h
  | cons x i ihi =>
    intro ih f n ns is r _ hd hf
    rw [show txtTs (x :: i) = txtT x :: txtTs i from rfl, join_tail] at hf ⊢
    have hx := hd.1
    have hl : (body x (tailW (txtTs i) r)).length + 1 ≤ f := by
      rw [txt_body] at hf
      simp only [List.length_append, List.length_cons] at hf
      omega
    have hl2 : (tailW (txtTs i) r).length + 1 ≤ f := by
      have h0 := List.length_pos_iff.2 (itoaN_ne x.thr.toNat)
      have := congrArg List.length (txt_body x [])
      simp only [List.append_nil, List.length_append, List.length_cons] at this
      rw [List.length_append] at hf
      omega
    obtain ⟨f, rfl⟩ : ∃ g, f = g + 1 := ⟨f - 1, by omega⟩
    rw [rt_step_tru hx (ih x (by simp)) (by omega) (skip_tail _ _)]
    by_cases h0 : i = []
    · subst h0
      exact pTail_end _ _ _ _ _
    · have h1 : txtTs i ≠ [] := fun e => h0 (txtTs_nil e)
      rw [pTail_more _ h1]
      have e : skipB (joinL (txtTs i) [44, 32] ++ 41 :: r) = joinL (txtTs i) [44, 32] ++ 41 :: r := by
        cases i with
        | nil => exact absurd rfl h0
        | cons y q => rw [show txtTs (y :: q) = txtT y :: txtTs q from rfl, join_tail, skip_txt hd.2.1]
      rw [e, ihi (fun y hy => ih y (by simp [hy])) f n ns (is ++ [x]) r h0 hd.2 (by
        rw [tailW_eq, if_neg h1] at hl2
        simp only [List.length_cons] at hl2
        omega)]
      simp
theorem rt_nodes (i : List Tru) (ih : ∀ x ∈ i, RtAt x) (hd : dec3s i) : ∀ (m : List Int) (f : Nat) (n : Int) (ns : List Int) (is : List Tru) (r : List UInt8), 1 ≤ m.length + i.length → (∀ k ∈ m, 0 ≤ k ∧ k < 1000) →
    (joinL (m.map (fun k => itoaN k.toNat) ++ txtTs i) [44, 32] ++ 41 :: r).length ≤ f →
    pLoop f (joinL (m.map (fun k => itoaN k.toNat) ++ txtTs i) [44, 32] ++ 41 :: r) n ns is = (.mk n (ns ++ m) (is ++ i), true, skipB r) := by
  intro m
  induction m with
  | nil =>
    intro f n ns is r h1 _ hf
    have h0 : i ≠ [] := by rintro rfl; simp at h1
    rw [List.append_nil]
    exact rt_inner i ih f n ns is r h0 hd hf
  | cons k m ihm =>
    intro f n ns is r _ hm hf
    rw [List.map_cons, List.cons_append, join_tail] at hf ⊢
    have hl := List.length_pos_iff.2 (itoaN_ne k.toNat)
    rw [List.length_append] at hf
    obtain ⟨f, rfl⟩ : ∃ g, f = g + 1 := ⟨f - 1, by omega⟩
    rw [rt_step_node (hm k (by simp))]
    by_cases h0 : m.map (fun k => itoaN k.toNat) ++ txtTs i = []
    · rw [h0, pTail_end]
      rw [List.append_eq_nil_iff, List.map_eq_nil_iff] at h0
      rw [h0.1, txtTs_nil h0.2]
      simp
    · rw [pTail_more _ h0]
      have h1 : 1 ≤ m.length + i.length := by
        cases m with
        | cons => simp; omega
        | nil =>
          cases i with
          | cons => simp
          | nil => exact absurd rfl h0
      have e : skipB (joinL (m.map (fun k => itoaN k.toNat) ++ txtTs i) [44, 32] ++ 41 :: r) = joinL (m.map (fun k => itoaN k.toNat) ++ txtTs i) [44, 32] ++ 41 :: r := by
        cases m with
        | cons k' q =>
          have := hm k' (by simp)
          rw [List.map_cons, List.cons_append, join_tail, skip_itoa (by omega)]
        | nil =>
          cases i with
          | nil => exact absurd rfl h0
          | cons y q => rw [List.map_nil, List.nil_append, show txtTs (y :: q) = txtT y :: txtTs q from rfl, join_tail, skip_txt hd.1]
      rw [e, ihm f n (ns ++ [k]) is r h1 (fun z hz => hm z (by simp [hz])) (by
        rw [tailW_eq, if_neg h0] at hf
        simp only [List.length_cons] at hf
        omega)]
      simp
theorem rt_rest : ∀ x : Tru, dec3 x → full x → RtAt x := by
  refine tru_ind fun t n i ih hd hu f r hf => ?_
  obtain ⟨ht, hn, hi⟩ := hd
  rw [dec3s_iff] at hi
  have hu2 := fulls_iff.1 hu.2
  unfold pRest
  rw [tok_of, if_pos rfl, nx_of, skipB_32, skipB_ne (by decide), tok_40, if_pos rfl, nx_40]
  have key := rt_nodes i (fun x hx => ih x hx (hi x hx) (hu2 x hx)) (dec3s_iff.2 hi) n f t [] [] r hu.1 hn (by simpa [body] using hf)
  have e : skipB (body (.mk t n i) r) = joinL (n.map (fun k => itoaN k.toNat) ++ txtTs i) [44, 32] ++ 41 :: r := by
    unfold body
    simp only [Tru.nodes_mk, Tru.inner_mk]
    have h1 := hu.1
    cases n with
    | cons k' q =>
      have := hn k' (by simp)
      rw [List.map_cons, List.cons_append, join_tail, skip_itoa (by omega)]
    | nil =>
      cases i with
      | nil => simp at h1
      | cons y q => rw [List.map_nil, List.nil_append, show txtTs (y :: q) = txtT y :: txtTs q from rfl, join_tail, skip_txt (hi y (by simp))]
  rw [e]
  simp only [Tru.thr_mk]
  rw [key]
  simp
/-- what was written is read again -/
theorem rt_top {x : Tru} (hd : dec3 x) (hu : full x) {f : Nat} (r : List UInt8) (hf : (txtT x ++ r).length ≤ f) : pTop f (txtT x ++ r) = (x, true, skipB r) := by
  have ht : 0 ≤ x.thr ∧ x.thr < 1000 := by obtain ⟨t, m, j⟩ := x; exact hd.1
  have e : ((x.thr.toNat : Nat) : Int) = x.thr := by omega
  rw [txt_body] at hf ⊢
  unfold pTop
  rw [num_itoa (by omega) (noDig_32 _)]
  dsimp only
  rw [nx_itoa (by omega) (noDig_32 _), skipB_32, skipB_ne (by decide), e]
  exact rt_rest x hd hu f r (by simp only [List.length_append, List.length_cons] at hf; omega)
/-! ### blanks between tokens -/
def befB (c : UInt8) : Bool := c == 40 || (c == 41 || (c == 44 || c == 111))
def aftB (c : UInt8) : Bool := c == 40 || (c == 41 || (c == 44 || c == 102))
/-- blanks are put in before and behind some bytes -/
inductive Bl : List UInt8 → List UInt8 → Prop where
  | nil : Bl [] []
  | cons (c : UInt8) {x y : List UInt8} (p q : List UInt8) : Bl x y → (p = [] ∨ (befB c = true ∧ p = [32, 32])) → (q = [] ∨ (aftB c = true ∧ q = [32])) → Bl (c :: x) (p ++ c :: (q ++ y))
theorem Bl.app {x y x' y' : List UInt8} (h : Bl x y) (h' : Bl x' y') : Bl (x ++ x') (y ++ y') := by
  induction h with
  | nil => exact h'
  | cons c p q _ hp hq ih =>
    rw [List.append_assoc, List.cons_append, List.cons_append, List.append_assoc]
    exact Bl.cons c p q ih hp hq
theorem skip_pre {p : List UInt8} {c : UInt8} (hp : p = [] ∨ (befB c = true ∧ p = [32, 32])) (l : List UInt8) : skipB (p ++ l) = skipB l := by
  rcases hp with rfl | ⟨_, rfl⟩
  · rfl
  · rfl
def BlS (a b : List UInt8) : Prop := ∃ x y, Bl x y ∧ (a = skipB x ∧ b = skipB y)
theorem BlS.cases {a b : List UInt8} (h : BlS a b) : (a = [] ∧ b = []) ∨ ∃ c x q y, c ≠ 32 ∧ (Bl x y ∧ ((q = [] ∨ (aftB c = true ∧ q = [32])) ∧ (a = c :: x ∧ b = c :: (q ++ y)))) := by
  obtain ⟨x, y, h, rfl, rfl⟩ := h
  induction h with
  | nil => exact .inl ⟨rfl, rfl⟩
  | @cons c x y p q h hp hq ih =>
    by_cases hc : c = 32
    · subst hc
      have hp0 : p = [] := by rcases hp with h | h; exact h; cases h.1
      have hq0 : q = [] := by rcases hq with h | h; exact h; cases h.1
      subst hp0 hq0
      exact ih
    · right
      exact ⟨c, x, q, y, hc, h, hq, skipB_ne hc x, by rw [skip_pre hp, skipB_ne hc]⟩
end Go.Am
namespace Go.Am
open Go Go.Proofs
set_option maxRecDepth 4000
set_option maxHeartbeats 4000000
noncomputable def B_strconv_Atoi (p0 : (List UInt8)) : Option (Int × Bool) := atoiK p0
theorem sim_strconv_Atoi {p0 : (List UInt8)} {r : (Int × Bool)} (hB : B_strconv_Atoi p0 = some r) : R 69 [(.pv (.str p0))] [] = some (.tup [(i64 r.1), (.pv (ifP r.2))], [], []) := by
  show W Tryz.prog cf _ _ _ = _
  rw [W_ext (sm := atoiSm) rfl]
  unfold B_strconv_Atoi at hB
  simp [atoiSm, es_strs, unStrs_strsP, strsP_len, hB]
theorem g_strconv_Atoi {p0 : (List UInt8)} {r : (Int × Bool)} (hB : B_strconv_Atoi p0 = some r) : G_strconv_Atoi p0 = some r := dec_of (fun a b h => by rcases a with ⟨a0_, a1_⟩; rcases b with ⟨b0_, b1_⟩; simp at h; simp [*]) (sim_strconv_Atoi hB)
end Go.Am
/-
strconv.Atoi of a few digits (seats with AmExtAtoiAll).
-/
namespace Go.Am
open Go
theorem parse10_digs : ∀ (w : List UInt8) (a k : Nat), (∀ b ∈ w, dg b = true) → a < 10 ^ k → k + w.length ≤ 15 → Lib.parseUint10 a w = .ok (w.foldl (fun a (b : UInt8) => a * 10 + (b.toNat - 48)) a)
  | [], a, k, _, _, _ => rfl
  | b :: r, a, k, h, ha, hk => by
    have hb : 48 ≤ b.toNat ∧ b.toNat ≤ 57 := of_decide_eq_true (h b (by simp))
    rw [List.length_cons] at hk
    have hp : 10 ^ k ≤ 10 ^ 14 := Nat.pow_le_pow_right (by omega) (by omega)
    have hs : 10 ^ (k + 1) = 10 ^ k * 10 := Nat.pow_succ 10 k
    unfold Lib.parseUint10
    rw [if_pos hb, if_neg (by omega), if_neg (by omega)]
    exact parse10_digs r _ (k + 1) (fun c hc => h c (by simp [hc])) (by omega) (by omega)
theorem valD_lt : ∀ (w : List UInt8) (a k : Nat), (∀ b ∈ w, dg b = true) → a < 10 ^ k → w.foldl (fun a (b : UInt8) => a * 10 + (b.toNat - 48)) a < 10 ^ (k + w.length)
  | [], a, k, _, ha => ha
  | b :: r, a, k, h, ha => by
    have hb : 48 ≤ b.toNat ∧ b.toNat ≤ 57 := of_decide_eq_true (h b (by simp))
    have hs : 10 ^ (k + 1) = 10 ^ k * 10 := Nat.pow_succ 10 k
    have := valD_lt r (a * 10 + (b.toNat - 48)) (k + 1) (fun c hc => h c (by simp [hc])) (by omega)
    rw [List.length_cons, show k + (r.length + 1) = k + 1 + r.length by omega]
    exact this
theorem atoiAll_digs {w : List UInt8} (h0 : w ≠ []) (h : ∀ b ∈ w, dg b = true) (hl : w.length ≤ 4) : Lib.atoiAll w = .ok (valD w : Int) := by
  cases w with
  | nil => exact absurd rfl h0
  | cons b r =>
    have hb : 48 ≤ b.toNat ∧ b.toNat ≤ 57 := of_decide_eq_true (h b (by simp))
    have hv := valD_lt (b :: r) 0 0 h (by decide)
    have hp : 10 ^ (0 + (b :: r).length) ≤ 10 ^ 14 := Nat.pow_le_pow_right (by omega) (by omega)
    have hm : Lib.parseMag (b :: r) = .ok (valD (b :: r)) := by
      unfold Lib.parseMag
      rw [if_neg (by simp), parse10_digs (b :: r) 0 0 h (by decide) (by omega)]
      rfl
    have hv' : valD (b :: r) < 10 ^ 14 := Nat.lt_of_lt_of_le hv hp
    unfold Lib.atoiAll
    have n1 : ¬ (b.toNat = 43 ∨ b.toNat = 45) := by omega
    have n2 : ¬ b.toNat = 45 := by omega
    dsimp only
    rw [if_neg n1, hm]
    dsimp only
    rw [if_neg (by omega), if_neg (by omega), if_neg n2]
theorem s_Atoi_digs {w : List UInt8} (h0 : w ≠ []) (h : ∀ b ∈ w, dg b = true) (hl : w.length ≤ 4) : G_strconv_Atoi w = some ((valD w : Int), true) := by
  refine g_strconv_Atoi ?_
  unfold B_strconv_Atoi atoiK
  rw [if_pos (by omega), atoiAll_digs h0 h hl]
end Go.Am
namespace Go.Am
open Go Go.Proofs
set_option maxRecDepth 4000
set_option maxHeartbeats 4000000
open Int renaming ofNat_lt → Iqa, ofNat_le → Iqb, natCast_eq_zero → Iqc, natCast_pos → Iqd
open List renaming length_eq_zero_iff → Lqa, getElem?_cons_zero → Lqb, getElem?_cons_succ → Lqc, getElem?_nil → Lqd
noncomputable def B_notation_digit (p0 : Int) : Option Bool :=
  cnd (decide (48 ≤ p0)) (
    some (decide (p0 ≤ 57))) (
    some false)
theorem sim_notation_digit {p0 : Int} {r : Bool} (hB : B_notation_digit p0 = some r) : R 105 [(.pv (.int .u8 p0))] [] = some ((bl r), [], []) := by
  rw [R_eq _ _ _ fn_notation_digit]
  simp only [Code.fst, Code.snd, Tryz.f105, Option.getD_some]
  generalize hr1 : Code.region 1 _ _ = rr1
  unfold B_notation_digit at hB
  rcases cnd_inv hB with ⟨c1, hB⟩ | ⟨c1, hB⟩
  · have pc1 := eq_true (of_decide_eq_true c1)
    obtain rfl := Option.some.inj hB
    subst hr1
    simp -implicitDefEqProofs [-getElem?_pos, -Iqa, -Iqb, -Iqc, -Iqd, -Lqa, Lqb, Lqc, Lqd, c1, pc1]
  · have pc1 := eq_false (of_decide_eq_false c1)
    obtain rfl := Option.some.inj hB
    subst hr1
    simp -implicitDefEqProofs [-getElem?_pos, -Iqa, -Iqb, -Iqc, -Iqd, -Lqa, Lqb, Lqc, Lqd, c1, pc1]
theorem g_notation_digit {p0 : Int} {r : Bool} (hB : B_notation_digit p0 = some r) : G_notation_digit p0 = some r := dec_of (fun a b h => by rcases a with a0_; rcases b with b0_; simp at h; simp [*]) (sim_notation_digit hB)
end Go.Am
namespace Go.Am
open Go Go.Proofs
set_option maxRecDepth 4000
set_option maxHeartbeats 4000000
open Int renaming ofNat_lt → Iqa, ofNat_le → Iqb, natCast_eq_zero → Iqc, natCast_pos → Iqd, cast_ofNat_Int → Iqe, natCast_zero → Iqf
open List renaming length_eq_zero_iff → Lqa, getElem?_cons_zero → Lqb, getElem?_cons_succ → Lqc, getElem?_nil → Lqd, length_cons → Lqe, length_nil → Lqf
open Nat renaming zero_add → Nqa
noncomputable def B_internal_stringslite_HasPrefix (p0 : (List UInt8)) (p1 : (List UInt8)) : Option Bool :=
  cnd (decide ((p1.length : Int) ≤ (p0.length : Int))) (
    kb (partK p0 0 (p1.length : Int)) fun L2 =>
    some (L2 == p1)) (
    some false)
theorem sim_internal_stringslite_HasPrefix {p0 : (List UInt8)} {p1 : (List UInt8)} {r : Bool} (hB : B_internal_stringslite_HasPrefix p0 p1 = some r) : R 95 [(.pv (.str p0)), (.pv (.str p1))] [] = some ((bl r), [], []) := by
  rw [R_eq _ _ _ fn_internal_stringslite_HasPrefix]
  simp only [Code.fst, Code.snd, Tryz.f95, Option.getD_some]
  generalize hr1 : Code.region 1 _ _ = rr1
  unfold B_internal_stringslite_HasPrefix at hB
  rcases cnd_inv hB with ⟨c1, hB⟩ | ⟨c1, hB⟩
  · have pc1 := eq_true (of_decide_eq_true c1)
    have nc1 := c1
    try simp only [Lqf, Lqe, Iqe, Iqf, Nqa, Nat.reduceAdd, Int.reduceLT, Int.reduceLE, Int.reduceEq, eq_self, decide_true, decide_false, Bool.true_eq_false, Bool.false_eq_true] at nc1
    all_goals
      obtain ⟨L2, sq3, hB⟩ := kb_inv hB
      obtain ⟨⟨sq3a, sq3b, sq3c⟩, sq3z, sq3d⟩ := partK_inv sq3
      obtain ⟨sq3e, sq3f⟩ := partK_h_str sq3
      try simp only [Int.toNat_natCast, Int.reduceToNat] at sq3e
      try simp only [Int.toNat_natCast, Int.reduceToNat] at sq3f
      try dsimp only at hB
      obtain rfl := Option.some.inj hB
      subst hr1
      simp -implicitDefEqProofs [-getElem?_pos, -Iqa, -Iqb, -Iqc, -Iqd, -Lqa, Lqb, Lqc, Lqd, c1, pc1, nc1, sq3a, sq3e, sq3f]
  · have pc1 := eq_false (of_decide_eq_false c1)
    have nc1 := c1
    try simp only [Lqf, Lqe, Iqe, Iqf, Nqa, Nat.reduceAdd, Int.reduceLT, Int.reduceLE, Int.reduceEq, eq_self, decide_true, decide_false, Bool.true_eq_false, Bool.false_eq_true] at nc1
    all_goals
      obtain rfl := Option.some.inj hB
      subst hr1
      simp -implicitDefEqProofs [-getElem?_pos, -Iqa, -Iqb, -Iqc, -Iqd, -Lqa, Lqb, Lqc, Lqd, c1, pc1, nc1]
theorem g_internal_stringslite_HasPrefix {p0 : (List UInt8)} {p1 : (List UInt8)} {r : Bool} (hB : B_internal_stringslite_HasPrefix p0 p1 = some r) : G_internal_stringslite_HasPrefix p0 p1 = some r := dec_of (fun a b h => by rcases a with a0_; rcases b with b0_; simp at h; simp [*]) (sim_internal_stringslite_HasPrefix hB)
end Go.Am
namespace Go.Am
open Go Go.Proofs
set_option maxRecDepth 4000
set_option maxHeartbeats 4000000
open Int renaming ofNat_lt → Iqa, ofNat_le → Iqb, natCast_eq_zero → Iqc, natCast_pos → Iqd, cast_ofNat_Int → Iqe, natCast_zero → Iqf
open List renaming length_eq_zero_iff → Lqa, getElem?_cons_zero → Lqb, getElem?_cons_succ → Lqc, getElem?_nil → Lqd, length_cons → Lqe, length_nil → Lqf, nil_append → Lqg, cons_append → Lqh
open Nat renaming zero_add → Nqa
open Tru renaming thr_mk → Tqa, nodes_mk → Tqb, inner_mk → Tqc
open Go.Am renaming es_api_Declaration_cons → Eqa, es_api_Declaration_nil → Eqb, es_api_Evidence_cons → Eqc, es_api_Evidence_nil → Eqd, ints_cons → Eqe, ints_nil → Eqf, encTs_cons → Eqg, encTs_nil → Eqh, es_str_cons → Eqi, es_str_nil → Eqj, es_u64_cons → Eqk, es_u64_nil → Eql, es_u8_cons → Eqm, es_u8_nil → Eqn
noncomputable def B_strings_HasPrefix (p0 : (List UInt8)) (p1 : (List UInt8)) : Option Bool :=
  kb (G_internal_stringslite_HasPrefix p0 p1) fun y1 =>
  some y1
theorem sim_strings_HasPrefix {p0 : (List UInt8)} {p1 : (List UInt8)} {r : Bool} (hB : B_strings_HasPrefix p0 p1 = some r) : R 78 [(.pv (.str p0)), (.pv (.str p1))] [] = some ((bl r), [], []) := by
  rw [R_eq _ _ _ fn_strings_HasPrefix]
  simp only [Code.fst, Code.snd, Tryz.f78, Option.getD_some]
  generalize hr1 : Code.region 1 _ _ = rr1
  unfold B_strings_HasPrefix at hB
  obtain ⟨y1, k2, hB⟩ := kb_inv hB
  replace k2 := run_internal_stringslite_HasPrefix k2
  try simp only [Iqe, Iqf, Lqe, Lqf, Lqg, Lqh, Nqa, Nat.reduceAdd, Tqa, Tqb, Tqc, Eqe, Eqf, Eqg, Eqh, Eqa, Eqb, Eqc, Eqd, Eqi, Eqj, Eqk, Eql, Eqm, Eqn] at k2
  try dsimp only at hB
  obtain rfl := Option.some.inj hB
  subst hr1
  simp -implicitDefEqProofs [-getElem?_pos, -Iqa, -Iqb, -Iqc, -Iqd, -Lqa, Lqb, Lqc, Lqd, k2]
theorem g_strings_HasPrefix {p0 : (List UInt8)} {p1 : (List UInt8)} {r : Bool} (hB : B_strings_HasPrefix p0 p1 = some r) : G_strings_HasPrefix p0 p1 = some r := dec_of (fun a b h => by rcases a with a0_; rcases b with b0_; simp at h; simp [*]) (sim_strings_HasPrefix hB)
end Go.Am
namespace Go.Am
open Go Go.Proofs
set_option maxRecDepth 4000
set_option maxHeartbeats 4000000
noncomputable def B_strings_IndexByte (p0 : (List UInt8)) (p1 : Int) : Option Int := indexByteK p0 p1
theorem sim_strings_IndexByte {p0 : (List UInt8)} {p1 : Int} {r : Int} (hB : B_strings_IndexByte p0 p1 = some r) : R 104 [(.pv (.str p0)), (.pv (.int .u8 p1))] [] = some ((i64 r), [], []) := by
  show W Tryz.prog cf _ _ _ = _
  rw [W_ext (sm := indexByteSm) rfl]
  unfold B_strings_IndexByte at hB
  simp [indexByteSm, es_strs, unStrs_strsP, strsP_len, hB]
theorem g_strings_IndexByte {p0 : (List UInt8)} {p1 : Int} {r : Int} (hB : B_strings_IndexByte p0 p1 = some r) : G_strings_IndexByte p0 p1 = some r := dec_of (fun a b h => by rcases a with a0_; rcases b with b0_; simp at h; simp [*]) (sim_strings_IndexByte hB)
end Go.Am
namespace Go.Am
open Go Go.Proofs
set_option maxRecDepth 4000
set_option maxHeartbeats 4000000
open Int renaming ofNat_lt → Iqa, ofNat_le → Iqb, natCast_eq_zero → Iqc, natCast_pos → Iqd, cast_ofNat_Int → Iqe, natCast_zero → Iqf
open List renaming length_eq_zero_iff → Lqa, getElem?_cons_zero → Lqb, getElem?_cons_succ → Lqc, getElem?_nil → Lqd, length_cons → Lqe, length_nil → Lqf, nil_append → Lqg, cons_append → Lqh
open Nat renaming zero_add → Nqa
open Tru renaming thr_mk → Tqa, nodes_mk → Tqb, inner_mk → Tqc
open Go.Am renaming es_api_Declaration_cons → Eqa, es_api_Declaration_nil → Eqb, es_api_Evidence_cons → Eqc, es_api_Evidence_nil → Eqd, ints_cons → Eqe, ints_nil → Eqf, encTs_cons → Eqg, encTs_nil → Eqh, es_str_cons → Eqi, es_str_nil → Eqj, es_u64_cons → Eqk, es_u64_nil → Eql, es_u8_cons → Eqm, es_u8_nil → Eqn
noncomputable def B_notation_reader_next_0 (p0 : S_notation_reader) (pba0_2_0 : Int) : Option Bool :=
  cnd (decide (pba0_2_0 < (p0.f0.length : Int))) (
    kb (getI p0.f0 pba0_2_0) fun x2 =>
    some (decide ((x2.toNat : Int) = 32))) (
    some false)
def J_notation_reader_next_0 (p0 : S_notation_reader) (pba0_2_0 : Int) (q : St) : Prop := (q (.t 0) = .ptr (.arg 0) 0 0 ∧ q (.i (.arg 0)) = .box 0 [(.pv (.str p0.f0)), (.pv (.str p0.f1)), (i64 pba0_2_0)])
def Q_notation_reader_next_0 (p0 : S_notation_reader) (pba0_2_0 : Int) (o37_0 : Bool) (q : St) : Prop := q (.t 37) = (bl o37_0) ∧ (q (.t 0) = .ptr (.arg 0) 0 0 ∧ q (.i (.arg 0)) = .box 0 [(.pv (.str p0.f0)), (.pv (.str p0.f1)), (i64 pba0_2_0)])
theorem P_notation_reader_next_0 {p0 : S_notation_reader} {pba0_2_0 : Int} {cc : Code} (hcc : cc = (Code.fst (Code.fst (Code.fst (Code.fst (Code.fst (Code.snd ((Tryz.f73.body).getD .skip)))))))) {s : St} {z : Option (Ex × St)} (hz : C Tryz.prog cf cc s = z) {r : Bool} (hI : J_notation_reader_next_0 p0 pba0_2_0 s) (hB : B_notation_reader_next_0 p0 pba0_2_0 = some r) : Res z (postG (fun a q => Q_notation_reader_next_0 p0 pba0_2_0 a q) r) := by
  subst hcc
  subst hz
  simp only [J_notation_reader_next_0] at hI
  obtain ⟨q1, q2⟩ := hI
  simp only [Code.fst, Code.snd, Tryz.f73, Option.getD_some]
  unfold B_notation_reader_next_0 at hB
  rcases cnd_inv hB with ⟨c1, hB⟩ | ⟨c1, hB⟩
  · have pc1 := eq_true (of_decide_eq_true c1)
    have nc1 := c1
    try simp only [Lqf, Lqe, Iqe, Iqf, Nqa, Nat.reduceAdd, Int.reduceLT, Int.reduceLE, Int.reduceEq, eq_self, decide_true, decide_false, Bool.true_eq_false, Bool.false_eq_true] at nc1
    all_goals
      obtain ⟨x2, h3, hB⟩ := kb_inv hB
      obtain ⟨h3a, h3b, h3c, h3d⟩ := getI_inv h3
      try simp only [Int.toNat_natCast, Int.reduceToNat] at h3c
      try dsimp only at hB
      obtain rfl := Option.some.inj hB
      try simp -implicitDefEqProofs [-getElem?_pos, -Iqa, -Iqb, -Iqc, -Iqd, -Lqa, Lqb, Lqc, Lqd, q1, q2, c1, pc1, nc1, h3a, h3b, h3c]
      rw [drawK_ok _ _ _ (by kernel_rfl)]
      simp -implicitDefEqProofs [-getElem?_pos, -Iqa, -Iqb, -Iqc, -Iqd, -Lqa, Lqb, Lqc, Lqd, q1, q2, c1, pc1, nc1, h3a, h3b, h3c]
      refine Res.g ?_
      simp -implicitDefEqProofs [-getElem?_pos, -Iqa, -Iqb, -Iqc, -Iqd, -Lqa, Lqb, Lqc, Lqd, and_assoc, Q_notation_reader_next_0, ownAt, q1, q2, c1, pc1, nc1, h3a, h3b, h3c]
  · have pc1 := eq_false (of_decide_eq_false c1)
    have nc1 := c1
    try simp only [Lqf, Lqe, Iqe, Iqf, Nqa, Nat.reduceAdd, Int.reduceLT, Int.reduceLE, Int.reduceEq, eq_self, decide_true, decide_false, Bool.true_eq_false, Bool.false_eq_true] at nc1
    all_goals
      obtain rfl := Option.some.inj hB
      try simp -implicitDefEqProofs [-getElem?_pos, -Iqa, -Iqb, -Iqc, -Iqd, -Lqa, Lqb, Lqc, Lqd, q1, q2, c1, pc1, nc1]
      rw [drawK_ok _ _ _ (by kernel_rfl)]
      simp -implicitDefEqProofs [-getElem?_pos, -Iqa, -Iqb, -Iqc, -Iqd, -Lqa, Lqb, Lqc, Lqd, q1, q2, c1, pc1, nc1]
      refine Res.g ?_
      simp -implicitDefEqProofs [-getElem?_pos, -Iqa, -Iqb, -Iqc, -Iqd, -Lqa, Lqb, Lqc, Lqd, and_assoc, Q_notation_reader_next_0, ownAt, q1, q2, c1, pc1, nc1]
noncomputable def B_notation_reader_next_1 (p0 : S_notation_reader) (xba0_2_1 : Int) : Option (Stp Int Unit) :=
  kb (B_notation_reader_next_0 p0 xba0_2_1) fun z4 =>
  cnd z4 (
    some (.go (add64 xba0_2_1 1))) (
    some (.ex 0 xba0_2_1))
def I_notation_reader_next_1 (p0 : S_notation_reader) (xba0_2_1 : Int) (q : St) : Prop := (q (.t 0) = .ptr (.arg 0) 0 0 ∧ q (.i (.arg 0)) = .box 0 [(.pv (.str p0.f0)), (.pv (.str p0.f1)), (i64 xba0_2_1)])
def Q_notation_reader_next_1 (p0 : S_notation_reader) (xba0_2_1 : Int) (q : St) : Prop := (q (.t 0) = .ptr (.arg 0) 0 0 ∧ q (.i (.arg 0)) = .box 0 [(.pv (.str p0.f0)), (.pv (.str p0.f1)), (i64 xba0_2_1)])
theorem Pb_notation_reader_next_1 {p0 : S_notation_reader} {xba0_2_1 : Int} {q : St} {r : (Stp Int Unit)} (hI : I_notation_reader_next_1 p0 xba0_2_1 q) (hB : B_notation_reader_next_1 p0 xba0_2_1 = some r) : Res (C Tryz.prog cf (Code.fst (Code.fst (Code.fst (Code.snd ((Tryz.f73.body).getD .skip))))) q) (postB 0 (fun a q => I_notation_reader_next_1 p0 a q) (fun a q => Q_notation_reader_next_1 p0 a q) (fun _ _ => False) r) := by
  simp only [I_notation_reader_next_1] at hI
  obtain ⟨q1, q2⟩ := hI
  simp only [Code.fst, Code.snd, Tryz.f73, Option.getD_some]
  generalize hc0 : Code.region 1 _ _ = cc0
  generalize hr2 : Code.region 2 _ _ = rr2
  unfold B_notation_reader_next_1 at hB
  try simp -implicitDefEqProofs [-getElem?_pos, -Iqa, -Iqb, -Iqc, -Iqd, -Lqa, Lqb, Lqc, Lqd, q1, q2]
  generalize hz0 : C Tryz.prog cf cc0 _ = z0
  obtain ⟨z4, hB1, hB⟩ := kb_inv hB
  have hJ := P_notation_reader_next_0 (hc0.symm.trans (by kernel_rfl)) hz0 (by simp -implicitDefEqProofs [-getElem?_pos, -Iqa, -Iqb, -Iqc, -Iqd, -Lqa, Lqb, Lqc, Lqd, and_assoc, J_notation_reader_next_0, ownAt, q1, q2]) hB1
  obtain ⟨e0, s0, rfl, hq⟩ := hJ.open
  clear hB1
  obtain ⟨rfl, hq⟩ := hq
  simp only [Q_notation_reader_next_0] at hq
  obtain ⟨q4_1, ⟨q4_2, q4_3⟩⟩ := hq
  rcases cnd_inv hB with ⟨c5, hB⟩ | ⟨c5, hB⟩
  · obtain rfl := Option.some.inj hB
    subst hr2
    try simp -implicitDefEqProofs [-getElem?_pos, -Iqa, -Iqb, -Iqc, -Iqd, -Lqa, Lqb, Lqc, Lqd, q4_1, q4_2, q4_3, c5]
    refine Res.bgo ?_
    simp -implicitDefEqProofs [-getElem?_pos, -Iqa, -Iqb, -Iqc, -Iqd, -Lqa, Lqb, Lqc, Lqd, and_assoc, I_notation_reader_next_1, ownAt, q4_1, q4_2, q4_3, c5]
  · obtain rfl := Option.some.inj hB
    try simp -implicitDefEqProofs [-getElem?_pos, -Iqa, -Iqb, -Iqc, -Iqd, -Lqa, Lqb, Lqc, Lqd, q4_1, q4_2, q4_3, c5]
    refine Res.bex ?_
    simp -implicitDefEqProofs [-getElem?_pos, -Iqa, -Iqb, -Iqc, -Iqd, -Lqa, Lqb, Lqc, Lqd, and_assoc, Q_notation_reader_next_1, ownAt, q4_1, q4_2, q4_3, c5]
theorem P_notation_reader_next_1 {p0 : S_notation_reader} {xba0_2_1 : Int} {cc : Code} (hcc : cc = .block 0 (.loop (Code.fst (Code.fst (Code.fst (Code.snd ((Tryz.f73.body).getD .skip))))))) {s : St} {z : Option (Ex × St)} (hz : C Tryz.prog cf cc s = z) {r : (Stp Int Unit)} (hI : I_notation_reader_next_1 p0 xba0_2_1 s) (hB : iterW (fun a => B_notation_reader_next_1 p0 a) xba0_2_1 = some r) : Res z (postS (fun a q => Q_notation_reader_next_1 p0 a q) (fun _ _ => False) r) := by
  subst hcc
  exact while_sim (I := fun a q => I_notation_reader_next_1 p0 a q) (Q := (fun a q => Q_notation_reader_next_1 p0 a q)) (QR := (fun _ _ => False)) (fun a q r h hB => Pb_notation_reader_next_1 h hB) hI hz hB
noncomputable def B_notation_reader_next_2 (p0 : S_notation_reader) (pba0_2_2 : Int) (p2_2 : (List UInt8)) : Option Bool :=
  cnd (p2_2 == ([] : List UInt8)) (
    some false) (
    kb (getI p2_2 0) fun x15 =>
    kb (G_strings_IndexByte ([40, 41, 44] : List UInt8) (x15.toNat : Int)) fun y17 =>
    some (decide (0 ≤ y17)))
def J_notation_reader_next_2 (p0 : S_notation_reader) (pba0_2_2 : Int) (p2_2 : (List UInt8)) (q : St) : Prop := q (.t 2) = (.pv (.str p2_2)) ∧ q (.t 3) = (i64 0) ∧ (q (.t 0) = .ptr (.arg 0) 0 0 ∧ q (.i (.arg 0)) = .box 0 [(.pv (.str p0.f0)), (.pv (.str p0.f1)), (i64 pba0_2_2)])
def Q_notation_reader_next_2 (p0 : S_notation_reader) (pba0_2_2 : Int) (p2_2 : (List UInt8)) (o69_2 : Bool) (q : St) : Prop := q (.t 2) = (.pv (.str p2_2)) ∧ q (.t 3) = (i64 0) ∧ q (.t 69) = (bl o69_2) ∧ (q (.t 0) = .ptr (.arg 0) 0 0 ∧ q (.i (.arg 0)) = .box 0 [(.pv (.str p0.f0)), (.pv (.str p0.f1)), (i64 pba0_2_2)])
theorem P_notation_reader_next_2 {p0 : S_notation_reader} {pba0_2_2 : Int} {p2_2 : (List UInt8)} {cc : Code} (hcc : cc = (Code.fst (Code.snd (Code.snd (Code.fst (Code.fst (Code.snd (Code.snd (Code.snd (Code.snd ((Tryz.f73.body).getD .skip))))))))))) {s : St} {z : Option (Ex × St)} (hz : C Tryz.prog cf cc s = z) {r : Bool} (hI : J_notation_reader_next_2 p0 pba0_2_2 p2_2 s) (hB : B_notation_reader_next_2 p0 pba0_2_2 p2_2 = some r) : Res z (postG (fun a q => Q_notation_reader_next_2 p0 pba0_2_2 p2_2 a q) r) := by
  subst hcc
  subst hz
  simp only [J_notation_reader_next_2] at hI
  obtain ⟨q1, q2, ⟨q3, q4⟩⟩ := hI
  simp only [Code.fst, Code.snd, Tryz.f73, Option.getD_some]
  unfold B_notation_reader_next_2 at hB
  rcases cnd_inv hB with ⟨c14, hB⟩ | ⟨c14, hB⟩
  · obtain rfl := Option.some.inj hB
    try simp -implicitDefEqProofs [-getElem?_pos, -Iqa, -Iqb, -Iqc, -Iqd, -Lqa, Lqb, Lqc, Lqd, q1, q2, q3, q4, c14]
    refine Res.g ?_
    simp -implicitDefEqProofs [-getElem?_pos, -Iqa, -Iqb, -Iqc, -Iqd, -Lqa, Lqb, Lqc, Lqd, and_assoc, Q_notation_reader_next_2, ownAt, q1, q2, q3, q4, c14]
  · obtain ⟨x15, h16, hB⟩ := kb_inv hB
    obtain ⟨h16a, h16b, h16c, h16d⟩ := getI_inv h16
    try simp only [Int.toNat_natCast, Int.reduceToNat] at h16c
    try dsimp only at hB
    obtain ⟨y17, k18, hB⟩ := kb_inv hB
    replace k18 := run_strings_IndexByte k18
    try simp only [Iqe, Iqf, Lqe, Lqf, Lqg, Lqh, Nqa, Nat.reduceAdd, Tqa, Tqb, Tqc, Eqe, Eqf, Eqg, Eqh, Eqa, Eqb, Eqc, Eqd, Eqi, Eqj, Eqk, Eql, Eqm, Eqn] at k18
    try dsimp only at hB
    obtain rfl := Option.some.inj hB
    try simp -implicitDefEqProofs [-getElem?_pos, -Iqa, -Iqb, -Iqc, -Iqd, -Lqa, Lqb, Lqc, Lqd, q1, q2, q3, q4, c14, h16a, h16b, h16c, k18]
    refine Res.g ?_
    simp -implicitDefEqProofs [-getElem?_pos, -Iqa, -Iqb, -Iqc, -Iqd, -Lqa, Lqb, Lqc, Lqd, and_assoc, Q_notation_reader_next_2, ownAt, q1, q2, q3, q4, c14, h16a, h16b, h16c, k18]
noncomputable def B_notation_reader_next_3 (p0 : S_notation_reader) (pba0_2_3 : Int) (p2_3 : (List UInt8)) (p3_3 : Int) : Option Bool :=
  cnd (decide (p3_3 < (p2_3.length : Int))) (
    kb (getI p2_3 p3_3) fun x24 =>
    kb (G_notation_digit (x24.toNat : Int)) fun y26 =>
    some y26) (
    some false)
def J_notation_reader_next_3 (p0 : S_notation_reader) (pba0_2_3 : Int) (p2_3 : (List UInt8)) (p3_3 : Int) (q : St) : Prop := q (.t 2) = (.pv (.str p2_3)) ∧ q (.t 3) = (i64 p3_3) ∧ (q (.t 0) = .ptr (.arg 0) 0 0 ∧ q (.i (.arg 0)) = .box 0 [(.pv (.str p0.f0)), (.pv (.str p0.f1)), (i64 pba0_2_3)])
def Q_notation_reader_next_3 (p0 : S_notation_reader) (pba0_2_3 : Int) (p2_3 : (List UInt8)) (p3_3 : Int) (o63_3 : Bool) (q : St) : Prop := q (.t 2) = (.pv (.str p2_3)) ∧ q (.t 3) = (i64 p3_3) ∧ q (.t 63) = (bl o63_3) ∧ (q (.t 0) = .ptr (.arg 0) 0 0 ∧ q (.i (.arg 0)) = .box 0 [(.pv (.str p0.f0)), (.pv (.str p0.f1)), (i64 pba0_2_3)])
theorem P_notation_reader_next_3 {p0 : S_notation_reader} {pba0_2_3 : Int} {p2_3 : (List UInt8)} {p3_3 : Int} {cc : Code} (hcc : cc = (Code.fst (Code.fst (Code.fst (Code.fst (Code.snd (Code.snd (Code.snd (Code.snd (Code.fst (Code.fst (Code.snd (Code.snd (Code.snd (Code.snd ((Tryz.f73.body).getD .skip)))))))))))))))) {s : St} {z : Option (Ex × St)} (hz : C Tryz.prog cf cc s = z) {r : Bool} (hI : J_notation_reader_next_3 p0 pba0_2_3 p2_3 p3_3 s) (hB : B_notation_reader_next_3 p0 pba0_2_3 p2_3 p3_3 = some r) : Res z (postG (fun a q => Q_notation_reader_next_3 p0 pba0_2_3 p2_3 p3_3 a q) r) := by
  subst hcc
  subst hz
  simp only [J_notation_reader_next_3] at hI
  obtain ⟨q1, q2, ⟨q3, q4⟩⟩ := hI
  simp only [Code.fst, Code.snd, Tryz.f73, Option.getD_some]
  unfold B_notation_reader_next_3 at hB
  rcases cnd_inv hB with ⟨c23, hB⟩ | ⟨c23, hB⟩
  · have pc23 := eq_true (of_decide_eq_true c23)
    have nc23 := c23
    try simp only [Lqf, Lqe, Iqe, Iqf, Nqa, Nat.reduceAdd, Int.reduceLT, Int.reduceLE, Int.reduceEq, eq_self, decide_true, decide_false, Bool.true_eq_false, Bool.false_eq_true] at nc23
    all_goals
      obtain ⟨x24, h25, hB⟩ := kb_inv hB
      obtain ⟨h25a, h25b, h25c, h25d⟩ := getI_inv h25
      try simp only [Int.toNat_natCast, Int.reduceToNat] at h25c
      try dsimp only at hB
      obtain ⟨y26, k27, hB⟩ := kb_inv hB
      replace k27 := run_notation_digit k27
      try simp only [Iqe, Iqf, Lqe, Lqf, Lqg, Lqh, Nqa, Nat.reduceAdd, Tqa, Tqb, Tqc, Eqe, Eqf, Eqg, Eqh, Eqa, Eqb, Eqc, Eqd, Eqi, Eqj, Eqk, Eql, Eqm, Eqn] at k27
      try dsimp only at hB
      obtain rfl := Option.some.inj hB
      try simp -implicitDefEqProofs [-getElem?_pos, -Iqa, -Iqb, -Iqc, -Iqd, -Lqa, Lqb, Lqc, Lqd, q1, q2, q3, q4, c23, pc23, nc23, h25a, h25b, h25c, k27]
      refine Res.g ?_
      simp -implicitDefEqProofs [-getElem?_pos, -Iqa, -Iqb, -Iqc, -Iqd, -Lqa, Lqb, Lqc, Lqd, and_assoc, Q_notation_reader_next_3, ownAt, q1, q2, q3, q4, c23, pc23, nc23, h25a, h25b, h25c, k27]
  · have pc23 := eq_false (of_decide_eq_false c23)
    have nc23 := c23
    try simp only [Lqf, Lqe, Iqe, Iqf, Nqa, Nat.reduceAdd, Int.reduceLT, Int.reduceLE, Int.reduceEq, eq_self, decide_true, decide_false, Bool.true_eq_false, Bool.false_eq_true] at nc23
    all_goals
      obtain rfl := Option.some.inj hB
      try simp -implicitDefEqProofs [-getElem?_pos, -Iqa, -Iqb, -Iqc, -Iqd, -Lqa, Lqb, Lqc, Lqd, q1, q2, q3, q4, c23, pc23, nc23]
      refine Res.g ?_
      simp -implicitDefEqProofs [-getElem?_pos, -Iqa, -Iqb, -Iqc, -Iqd, -Lqa, Lqb, Lqc, Lqd, and_assoc, Q_notation_reader_next_3, ownAt, q1, q2, q3, q4, c23, pc23, nc23]
noncomputable def B_notation_reader_next_4 (p0 : S_notation_reader) (pba0_2_4 : Int) (p2_4 : (List UInt8)) (x3_4 : Int) : Option (Stp Int Unit) :=
  kb (B_notation_reader_next_3 p0 pba0_2_4 p2_4 x3_4) fun z28 =>
  cnd z28 (
    some (.go (add64 x3_4 1))) (
    some (.ex 3 x3_4))
def I_notation_reader_next_4 (p0 : S_notation_reader) (pba0_2_4 : Int) (p2_4 : (List UInt8)) (x3_4 : Int) (q : St) : Prop := q (.t 2) = (.pv (.str p2_4)) ∧ q (.t 3) = (i64 x3_4) ∧ (q (.t 0) = .ptr (.arg 0) 0 0 ∧ q (.i (.arg 0)) = .box 0 [(.pv (.str p0.f0)), (.pv (.str p0.f1)), (i64 pba0_2_4)])
def Q_notation_reader_next_4 (p0 : S_notation_reader) (pba0_2_4 : Int) (p2_4 : (List UInt8)) (x3_4 : Int) (q : St) : Prop := q (.t 2) = (.pv (.str p2_4)) ∧ q (.t 3) = (i64 x3_4) ∧ (q (.t 0) = .ptr (.arg 0) 0 0 ∧ q (.i (.arg 0)) = .box 0 [(.pv (.str p0.f0)), (.pv (.str p0.f1)), (i64 pba0_2_4)])
theorem Pb_notation_reader_next_4 {p0 : S_notation_reader} {pba0_2_4 : Int} {p2_4 : (List UInt8)} {x3_4 : Int} {q : St} {r : (Stp Int Unit)} (hI : I_notation_reader_next_4 p0 pba0_2_4 p2_4 x3_4 q) (hB : B_notation_reader_next_4 p0 pba0_2_4 p2_4 x3_4 = some r) : Res (C Tryz.prog cf (Code.fst (Code.fst (Code.snd (Code.snd (Code.snd (Code.snd (Code.fst (Code.fst (Code.snd (Code.snd (Code.snd (Code.snd ((Tryz.f73.body).getD .skip))))))))))))) q) (postB 3 (fun a q => I_notation_reader_next_4 p0 pba0_2_4 p2_4 a q) (fun a q => Q_notation_reader_next_4 p0 pba0_2_4 p2_4 a q) (fun _ _ => False) r) := by
  simp only [I_notation_reader_next_4] at hI
  obtain ⟨q1, q2, ⟨q3, q4⟩⟩ := hI
  simp only [Code.fst, Code.snd, Tryz.f73, Option.getD_some]
  generalize hc3 : Code.region 5 _ _ = cc3
  unfold B_notation_reader_next_4 at hB
  try simp -implicitDefEqProofs [-getElem?_pos, -Iqa, -Iqb, -Iqc, -Iqd, -Lqa, Lqb, Lqc, Lqd, q1, q2, q3, q4]
  generalize hz3 : C Tryz.prog cf cc3 _ = z3
  obtain ⟨z28, hB1, hB⟩ := kb_inv hB
  have hJ := P_notation_reader_next_3 (hc3.symm.trans (by kernel_rfl)) hz3 (by simp -implicitDefEqProofs [-getElem?_pos, -Iqa, -Iqb, -Iqc, -Iqd, -Lqa, Lqb, Lqc, Lqd, and_assoc, J_notation_reader_next_3, ownAt, q1, q2, q3, q4]) hB1
  obtain ⟨e3, s3, rfl, hq⟩ := hJ.open
  clear hB1
  obtain ⟨rfl, hq⟩ := hq
  simp only [Q_notation_reader_next_3] at hq
  obtain ⟨q28_1, q28_2, q28_3, ⟨q28_4, q28_5⟩⟩ := hq
  rcases cnd_inv hB with ⟨c29, hB⟩ | ⟨c29, hB⟩
  · obtain rfl := Option.some.inj hB
    try simp -implicitDefEqProofs [-getElem?_pos, -Iqa, -Iqb, -Iqc, -Iqd, -Lqa, Lqb, Lqc, Lqd, q28_1, q28_2, q28_3, q28_4, q28_5, c29]
    refine Res.bgo ?_
    simp -implicitDefEqProofs [-getElem?_pos, -Iqa, -Iqb, -Iqc, -Iqd, -Lqa, Lqb, Lqc, Lqd, and_assoc, I_notation_reader_next_4, ownAt, q28_1, q28_2, q28_3, q28_4, q28_5, c29]
  · obtain rfl := Option.some.inj hB
    try simp -implicitDefEqProofs [-getElem?_pos, -Iqa, -Iqb, -Iqc, -Iqd, -Lqa, Lqb, Lqc, Lqd, q28_1, q28_2, q28_3, q28_4, q28_5, c29]
    refine Res.bex ?_
    simp -implicitDefEqProofs [-getElem?_pos, -Iqa, -Iqb, -Iqc, -Iqd, -Lqa, Lqb, Lqc, Lqd, and_assoc, Q_notation_reader_next_4, ownAt, q28_1, q28_2, q28_3, q28_4, q28_5, c29]
theorem P_notation_reader_next_4 {p0 : S_notation_reader} {pba0_2_4 : Int} {p2_4 : (List UInt8)} {x3_4 : Int} {cc : Code} (hcc : cc = .block 3 (.loop (Code.fst (Code.fst (Code.snd (Code.snd (Code.snd (Code.snd (Code.fst (Code.fst (Code.snd (Code.snd (Code.snd (Code.snd ((Tryz.f73.body).getD .skip))))))))))))))) {s : St} {z : Option (Ex × St)} (hz : C Tryz.prog cf cc s = z) {r : (Stp Int Unit)} (hI : I_notation_reader_next_4 p0 pba0_2_4 p2_4 x3_4 s) (hB : iterW (fun a => B_notation_reader_next_4 p0 pba0_2_4 p2_4 a) x3_4 = some r) : Res z (postS (fun a q => Q_notation_reader_next_4 p0 pba0_2_4 p2_4 a q) (fun _ _ => False) r) := by
  subst hcc
  exact while_sim (I := fun a q => I_notation_reader_next_4 p0 pba0_2_4 p2_4 a q) (Q := (fun a q => Q_notation_reader_next_4 p0 pba0_2_4 p2_4 a q)) (QR := (fun _ _ => False)) (fun a q r h hB => Pb_notation_reader_next_4 h hB) hI hz hB
noncomputable def B_notation_reader_next (p0 : S_notation_reader) : Option S_notation_reader :=
  kb (iterW (fun a => B_notation_reader_next_1 p0 a) (add64 p0.f2 (p0.f1.length : Int))) fun o => stpK o (fun z6 =>
    kb (partK p0.f0 z6 (p0.f0.length : Int)) fun L7 =>
    kb (G_strings_HasPrefix L7 ([111, 102] : List UInt8)) fun y9 =>
    cnd y9 (
      kb (partK L7 0 2) fun L12 =>
      some (S_notation_reader.mk p0.f0 L12 z6)) (
      kb (B_notation_reader_next_2 p0 z6 L7) fun z19 =>
      cnd z19 (
        kb (partK L7 0 1) fun L21 =>
        some (S_notation_reader.mk p0.f0 L21 z6)) (
        kb (iterW (fun a => B_notation_reader_next_4 p0 z6 L7 a) 0) fun o => stpK o (fun z30 =>
          kb (partK L7 0 z30) fun L31 =>
          some (S_notation_reader.mk p0.f0 L31 z6)) (fun z30r =>
          none)))) (fun z6r =>
    none)
theorem sim_notation_reader_next {p0 : S_notation_reader} {r : S_notation_reader} (hB : B_notation_reader_next p0 = some r) : R 73 [.ptr (.arg 0) 0 0] [.box 0 [(.pv (.str p0.f0)), (.pv (.str p0.f1)), (i64 p0.f2)]] = some (.tup [], [.box 0 [(.pv (.str r.f0)), (.pv (.str r.f1)), (i64 r.f2)]], []) := by
  rw [R_eq _ _ _ fn_notation_reader_next]
  simp only [Code.fst, Code.snd, Tryz.f73, Option.getD_some]
  generalize hc1 : Code.block 0 _ = cc1
  generalize hc2 : Code.region 9 _ _ = cc2
  generalize hc4 : Code.block 3 _ = cc4
  generalize hr0 : Code.region 0 _ _ = rr0
  generalize hr3 : Code.region 3 _ _ = rr3
  generalize hr11 : Code.region 11 _ _ = rr11
  unfold B_notation_reader_next at hB
  subst hr0
  try simp -implicitDefEqProofs [-getElem?_pos, -Iqa, -Iqb, -Iqc, -Iqd, -Lqa, Lqb, Lqc, Lqd]
  rw [drawK_ok _ _ _ (by kernel_rfl)]
  simp -implicitDefEqProofs [-getElem?_pos, -Iqa, -Iqb, -Iqc, -Iqd, -Lqa, Lqb, Lqc, Lqd]
  generalize hz1 : C Tryz.prog cf cc1 _ = z1
  obtain ⟨o, hB1, hB⟩ := kb_inv hB
  have hJ := P_notation_reader_next_1 (hc1.symm.trans (by kernel_rfl)) hz1 (by simp -implicitDefEqProofs [-getElem?_pos, -Iqa, -Iqb, -Iqc, -Iqd, -Lqa, Lqb, Lqc, Lqd, and_assoc, I_notation_reader_next_1, ownAt]) hB1
  obtain ⟨e1, s1, rfl, hq⟩ := hJ.open
  clear hB1
  rcases o with z6 | ⟨_, _⟩ | z6r
  · simp only [stpK_go] at hB
    obtain ⟨rfl, hq⟩ := hq
    simp only [Q_notation_reader_next_1] at hq
    obtain ⟨q6_1, q6_2⟩ := hq
    obtain ⟨L7, sq8, hB⟩ := kb_inv hB
    obtain ⟨⟨sq8a, sq8b, sq8c⟩, sq8z, sq8d⟩ := partK_inv sq8
    obtain ⟨sq8e, sq8f⟩ := partK_l_str sq8
    try simp only [Int.toNat_natCast, Int.reduceToNat] at sq8e
    try simp only [Int.toNat_natCast, Int.reduceToNat] at sq8f
    try dsimp only at hB
    obtain ⟨y9, k10, hB⟩ := kb_inv hB
    replace k10 := run_strings_HasPrefix k10
    try simp only [Iqe, Iqf, Lqe, Lqf, Lqg, Lqh, Nqa, Nat.reduceAdd, Tqa, Tqb, Tqc, Eqe, Eqf, Eqg, Eqh, Eqa, Eqb, Eqc, Eqd, Eqi, Eqj, Eqk, Eql, Eqm, Eqn] at k10
    try dsimp only at hB
    rcases cnd_inv hB with ⟨c11, hB⟩ | ⟨c11, hB⟩
    · obtain ⟨L12, sq13, hB⟩ := kb_inv hB
      obtain ⟨⟨sq13a, sq13b, sq13c⟩, sq13z, sq13d⟩ := partK_inv sq13
      obtain ⟨sq13e, sq13f⟩ := partK_h_str sq13
      try simp only [Int.toNat_natCast, Int.reduceToNat] at sq13e
      try simp only [Int.toNat_natCast, Int.reduceToNat] at sq13f
      try dsimp only at hB
      obtain rfl := Option.some.inj hB
      subst hr3
      subst hr11
      simp -implicitDefEqProofs [-getElem?_pos, -Iqa, -Iqb, -Iqc, -Iqd, -Lqa, Lqb, Lqc, Lqd, q6_1, q6_2, sq8a, sq8e, sq8f, k10, c11, sq13a, sq13e, sq13f]
      rw [drawK_ok _ _ _ (by kernel_rfl)]
      simp -implicitDefEqProofs [-getElem?_pos, -Iqa, -Iqb, -Iqc, -Iqd, -Lqa, Lqb, Lqc, Lqd, q6_1, q6_2, sq8a, sq8e, sq8f, k10, c11, sq13a, sq13e, sq13f]
    · subst hr3
      try simp -implicitDefEqProofs [-getElem?_pos, -Iqa, -Iqb, -Iqc, -Iqd, -Lqa, Lqb, Lqc, Lqd, q6_1, q6_2, sq8a, sq8e, sq8f, k10, c11]
      rw [drawK_ok _ _ _ (by kernel_rfl)]
      simp -implicitDefEqProofs [-getElem?_pos, -Iqa, -Iqb, -Iqc, -Iqd, -Lqa, Lqb, Lqc, Lqd, q6_1, q6_2, sq8a, sq8e, sq8f, k10, c11]
      generalize hz2 : C Tryz.prog cf cc2 _ = z2
      obtain ⟨z19, hB1, hB⟩ := kb_inv hB
      have hJ := P_notation_reader_next_2 (hc2.symm.trans (by kernel_rfl)) hz2 (by simp -implicitDefEqProofs [-getElem?_pos, -Iqa, -Iqb, -Iqc, -Iqd, -Lqa, Lqb, Lqc, Lqd, and_assoc, J_notation_reader_next_2, ownAt, q6_1, q6_2, sq8a, sq8e, sq8f, k10, c11]) hB1
      obtain ⟨e2, s2, rfl, hq⟩ := hJ.open
      clear hB1
      obtain ⟨rfl, hq⟩ := hq
      simp only [Q_notation_reader_next_2] at hq
      obtain ⟨q19_1, q19_2, q19_3, ⟨q19_4, q19_5⟩⟩ := hq
      rcases cnd_inv hB with ⟨c20, hB⟩ | ⟨c20, hB⟩
      · obtain ⟨L21, sq22, hB⟩ := kb_inv hB
        obtain ⟨⟨sq22a, sq22b, sq22c⟩, sq22z, sq22d⟩ := partK_inv sq22
        obtain ⟨sq22e, sq22f⟩ := partK_h_str sq22
        try simp only [Int.toNat_natCast, Int.reduceToNat] at sq22e
        try simp only [Int.toNat_natCast, Int.reduceToNat] at sq22f
        try dsimp only at hB
        obtain rfl := Option.some.inj hB
        subst hr11
        simp -implicitDefEqProofs [-getElem?_pos, -Iqa, -Iqb, -Iqc, -Iqd, -Lqa, Lqb, Lqc, Lqd, q19_1, q19_2, q19_3, q19_4, q19_5, sq8a, sq8e, sq8f, k10, c11, c20, sq22a, sq22e, sq22f]
      · try simp -implicitDefEqProofs [-getElem?_pos, -Iqa, -Iqb, -Iqc, -Iqd, -Lqa, Lqb, Lqc, Lqd, q19_1, q19_2, q19_3, q19_4, q19_5, sq8a, sq8e, sq8f, k10, c11, c20]
        generalize hz4 : C Tryz.prog cf cc4 _ = z4
        obtain ⟨o, hB1, hB⟩ := kb_inv hB
        have hJ := P_notation_reader_next_4 (hc4.symm.trans (by kernel_rfl)) hz4 (by simp -implicitDefEqProofs [-getElem?_pos, -Iqa, -Iqb, -Iqc, -Iqd, -Lqa, Lqb, Lqc, Lqd, and_assoc, I_notation_reader_next_4, ownAt, q19_1, q19_2, q19_3, q19_4, q19_5, sq8a, sq8e, sq8f, k10, c11, c20]) hB1
        obtain ⟨e4, s4, rfl, hq⟩ := hJ.open
        clear hB1
        rcases o with z30 | ⟨_, _⟩ | z30r
        · simp only [stpK_go] at hB
          obtain ⟨rfl, hq⟩ := hq
          simp only [Q_notation_reader_next_4] at hq
          obtain ⟨q30_1, q30_2, ⟨q30_3, q30_4⟩⟩ := hq
          obtain ⟨L31, sq32, hB⟩ := kb_inv hB
          obtain ⟨⟨sq32a, sq32b, sq32c⟩, sq32z, sq32d⟩ := partK_inv sq32
          obtain ⟨sq32e, sq32f⟩ := partK_h_str sq32
          try simp only [Int.toNat_natCast, Int.reduceToNat] at sq32e
          try simp only [Int.toNat_natCast, Int.reduceToNat] at sq32f
          try dsimp only at hB
          obtain rfl := Option.some.inj hB
          subst hr11
          simp -implicitDefEqProofs [-getElem?_pos, -Iqa, -Iqb, -Iqc, -Iqd, -Lqa, Lqb, Lqc, Lqd, q30_1, q30_2, q30_3, q30_4, sq8a, sq8e, sq8f, k10, c11, c20, sq32a, sq32e, sq32f]
        · exact hq.elim
        · cases hB
  · exact hq.elim
  · cases hB
theorem g_notation_reader_next {p0 : S_notation_reader} {r : S_notation_reader} (hB : B_notation_reader_next p0 = some r) : G_notation_reader_next p0 = some r := dec_of (fun a b h => by rcases a with ⟨a0_0, a0_1, a0_2⟩; rcases b with ⟨b0_0, b0_1, b0_2⟩; simp at h; simp [*]) (sim_notation_reader_next hB)
end Go.Am
namespace Go.Am
open Go Go.Proofs
set_option maxRecDepth 4000
set_option maxHeartbeats 4000000
open Int renaming ofNat_lt → Iqa, ofNat_le → Iqb, natCast_eq_zero → Iqc, natCast_pos → Iqd, cast_ofNat_Int → Iqe, natCast_zero → Iqf
open List renaming length_eq_zero_iff → Lqa, getElem?_cons_zero → Lqb, getElem?_cons_succ → Lqc, getElem?_nil → Lqd, length_cons → Lqe, length_nil → Lqf, nil_append → Lqg, cons_append → Lqh
open Nat renaming zero_add → Nqa
open Tru renaming thr_mk → Tqa, nodes_mk → Tqb, inner_mk → Tqc
open Go.Am renaming es_api_Declaration_cons → Eqa, es_api_Declaration_nil → Eqb, es_api_Evidence_cons → Eqc, es_api_Evidence_nil → Eqd, ints_cons → Eqe, ints_nil → Eqf, encTs_cons → Eqg, encTs_nil → Eqh, es_str_cons → Eqi, es_str_nil → Eqj, es_u64_cons → Eqk, es_u64_nil → Eql, es_u8_cons → Eqm, es_u8_nil → Eqn
noncomputable def B_notation_reader_number_0 (p0 : S_notation_reader) : Option Bool :=
  cnd (p0.f1 == ([] : List UInt8)) (
    some true) (
    kb (getI p0.f1 0) fun x2 =>
    kb (G_notation_digit (x2.toNat : Int)) fun y4 =>
    cnd y4 (
      cnd (decide (4 < (p0.f1.length : Int))) (
        some true) (
        cnd (decide (1 < (p0.f1.length : Int))) (
          some (decide ((x2.toNat : Int) = 48))) (
          some false))) (
      some true))
def J_notation_reader_number_0 (p0 : S_notation_reader) (q : St) : Prop := q (.t 4) = (.pv (.str p0.f1)) ∧ (q (.t 0) = .ptr (.arg 0) 0 0 ∧ q (.i (.arg 0)) = .box 0 [(.pv (.str p0.f0)), (.pv (.str p0.f1)), (i64 p0.f2)])
def Q_notation_reader_number_0 (p0 : S_notation_reader) (o33_0 : Bool) (q : St) : Prop := q (.t 33) = (bl o33_0) ∧ q (.t 4) = (.pv (.str p0.f1)) ∧ (q (.t 0) = .ptr (.arg 0) 0 0 ∧ q (.i (.arg 0)) = .box 0 [(.pv (.str p0.f0)), (.pv (.str p0.f1)), (i64 p0.f2)])
theorem P_notation_reader_number_0 {p0 : S_notation_reader} {cc : Code} (hcc : cc = (Code.fst (Code.fst (Code.snd (Code.snd ((Tryz.f74.body).getD .skip)))))) {s : St} {z : Option (Ex × St)} (hz : C Tryz.prog cf cc s = z) {r : Bool} (hI : J_notation_reader_number_0 p0 s) (hB : B_notation_reader_number_0 p0 = some r) : Res z (postG (fun a q => Q_notation_reader_number_0 p0 a q) r) := by
  subst hcc
  subst hz
  simp only [J_notation_reader_number_0] at hI
  obtain ⟨q1, ⟨q2, q3⟩⟩ := hI
  simp only [Code.fst, Code.snd, Tryz.f74, Option.getD_some]
  unfold B_notation_reader_number_0 at hB
  rcases cnd_inv hB with ⟨c1, hB⟩ | ⟨c1, hB⟩
  · obtain rfl := Option.some.inj hB
    try simp -implicitDefEqProofs [-getElem?_pos, -Iqa, -Iqb, -Iqc, -Iqd, -Lqa, Lqb, Lqc, Lqd, q1, q2, q3, c1]
    refine Res.g ?_
    simp -implicitDefEqProofs [-getElem?_pos, -Iqa, -Iqb, -Iqc, -Iqd, -Lqa, Lqb, Lqc, Lqd, and_assoc, Q_notation_reader_number_0, ownAt, q1, q2, q3, c1]
  · obtain ⟨x2, h3, hB⟩ := kb_inv hB
    obtain ⟨h3a, h3b, h3c, h3d⟩ := getI_inv h3
    try simp only [Int.toNat_natCast, Int.reduceToNat] at h3c
    try dsimp only at hB
    obtain ⟨y4, k5, hB⟩ := kb_inv hB
    replace k5 := run_notation_digit k5
    try simp only [Iqe, Iqf, Lqe, Lqf, Lqg, Lqh, Nqa, Nat.reduceAdd, Tqa, Tqb, Tqc, Eqe, Eqf, Eqg, Eqh, Eqa, Eqb, Eqc, Eqd, Eqi, Eqj, Eqk, Eql, Eqm, Eqn] at k5
    try dsimp only at hB
    rcases cnd_inv hB with ⟨c6, hB⟩ | ⟨c6, hB⟩
    · rcases cnd_inv hB with ⟨c7, hB⟩ | ⟨c7, hB⟩
      · have pc7 := eq_true (of_decide_eq_true c7)
        have nc7 := c7
        try simp only [Lqf, Lqe, Iqe, Iqf, Nqa, Nat.reduceAdd, Int.reduceLT, Int.reduceLE, Int.reduceEq, eq_self, decide_true, decide_false, Bool.true_eq_false, Bool.false_eq_true] at nc7
        all_goals
          obtain rfl := Option.some.inj hB
          try simp -implicitDefEqProofs [-getElem?_pos, -Iqa, -Iqb, -Iqc, -Iqd, -Lqa, Lqb, Lqc, Lqd, q1, q2, q3, c1, h3a, h3b, h3c, k5, c6, c7, pc7, nc7]
          refine Res.g ?_
          simp -implicitDefEqProofs [-getElem?_pos, -Iqa, -Iqb, -Iqc, -Iqd, -Lqa, Lqb, Lqc, Lqd, and_assoc, Q_notation_reader_number_0, ownAt, q1, q2, q3, c1, h3a, h3b, h3c, k5, c6, c7, pc7, nc7]
      · have pc7 := eq_false (of_decide_eq_false c7)
        have nc7 := c7
        try simp only [Lqf, Lqe, Iqe, Iqf, Nqa, Nat.reduceAdd, Int.reduceLT, Int.reduceLE, Int.reduceEq, eq_self, decide_true, decide_false, Bool.true_eq_false, Bool.false_eq_true] at nc7
        all_goals
          rcases cnd_inv hB with ⟨c8, hB⟩ | ⟨c8, hB⟩
          · have pc8 := eq_true (of_decide_eq_true c8)
            have nc8 := c8
            try simp only [Lqf, Lqe, Iqe, Iqf, Nqa, Nat.reduceAdd, Int.reduceLT, Int.reduceLE, Int.reduceEq, eq_self, decide_true, decide_false, Bool.true_eq_false, Bool.false_eq_true] at nc8
            all_goals
              obtain rfl := Option.some.inj hB
              try simp -implicitDefEqProofs [-getElem?_pos, -Iqa, -Iqb, -Iqc, -Iqd, -Lqa, Lqb, Lqc, Lqd, q1, q2, q3, c1, h3a, h3b, h3c, k5, c6, c7, pc7, nc7, c8, pc8, nc8]
              refine Res.g ?_
              simp -implicitDefEqProofs [-getElem?_pos, -Iqa, -Iqb, -Iqc, -Iqd, -Lqa, Lqb, Lqc, Lqd, and_assoc, Q_notation_reader_number_0, ownAt, q1, q2, q3, c1, h3a, h3b, h3c, k5, c6, c7, pc7, nc7, c8, pc8, nc8]
          · have pc8 := eq_false (of_decide_eq_false c8)
            have nc8 := c8
            try simp only [Lqf, Lqe, Iqe, Iqf, Nqa, Nat.reduceAdd, Int.reduceLT, Int.reduceLE, Int.reduceEq, eq_self, decide_true, decide_false, Bool.true_eq_false, Bool.false_eq_true] at nc8
            all_goals
              obtain rfl := Option.some.inj hB
              try simp -implicitDefEqProofs [-getElem?_pos, -Iqa, -Iqb, -Iqc, -Iqd, -Lqa, Lqb, Lqc, Lqd, q1, q2, q3, c1, h3a, h3b, h3c, k5, c6, c7, pc7, nc7, c8, pc8, nc8]
              refine Res.g ?_
              simp -implicitDefEqProofs [-getElem?_pos, -Iqa, -Iqb, -Iqc, -Iqd, -Lqa, Lqb, Lqc, Lqd, and_assoc, Q_notation_reader_number_0, ownAt, q1, q2, q3, c1, h3a, h3b, h3c, k5, c6, c7, pc7, nc7, c8, pc8, nc8]
    · obtain rfl := Option.some.inj hB
      try simp -implicitDefEqProofs [-getElem?_pos, -Iqa, -Iqb, -Iqc, -Iqd, -Lqa, Lqb, Lqc, Lqd, q1, q2, q3, c1, h3a, h3b, h3c, k5, c6]
      refine Res.g ?_
      simp -implicitDefEqProofs [-getElem?_pos, -Iqa, -Iqb, -Iqc, -Iqd, -Lqa, Lqb, Lqc, Lqd, and_assoc, Q_notation_reader_number_0, ownAt, q1, q2, q3, c1, h3a, h3b, h3c, k5, c6]
noncomputable def B_notation_reader_number (p0 : S_notation_reader) : Option (Int × Bool × S_notation_reader) :=
  kb (B_notation_reader_number_0 p0) fun z9 =>
  cnd z9 (
    some (0, false, p0)) (
    kb (G_strconv_Atoi p0.f1) fun y11 =>
    kb (G_notation_reader_next p0) fun y13 =>
    some (y11.1, true, y13))
theorem sim_notation_reader_number {p0 : S_notation_reader} {r : (Int × Bool × S_notation_reader)} (hB : B_notation_reader_number p0 = some r) : R 74 [.ptr (.arg 0) 0 0] [.box 0 [(.pv (.str p0.f0)), (.pv (.str p0.f1)), (i64 p0.f2)]] = some (.tup [(i64 r.1), (bl r.2.1)], [.box 0 [(.pv (.str r.2.2.f0)), (.pv (.str r.2.2.f1)), (i64 r.2.2.f2)]], []) := by
  rw [R_eq _ _ _ fn_notation_reader_number]
  simp only [Code.fst, Code.snd, Tryz.f74, Option.getD_some]
  generalize hc0 : Code.region 2 _ _ = cc0
  generalize hr1 : Code.region 1 _ _ = rr1
  generalize hr4 : Code.region 4 _ _ = rr4
  unfold B_notation_reader_number at hB
  subst hr1
  try simp -implicitDefEqProofs [-getElem?_pos, -Iqa, -Iqb, -Iqc, -Iqd, -Lqa, Lqb, Lqc, Lqd]
  generalize hz0 : C Tryz.prog cf cc0 _ = z0
  obtain ⟨z9, hB1, hB⟩ := kb_inv hB
  have hJ := P_notation_reader_number_0 (hc0.symm.trans (by kernel_rfl)) hz0 (by simp -implicitDefEqProofs [-getElem?_pos, -Iqa, -Iqb, -Iqc, -Iqd, -Lqa, Lqb, Lqc, Lqd, and_assoc, J_notation_reader_number_0, ownAt]) hB1
  obtain ⟨e0, s0, rfl, hq⟩ := hJ.open
  clear hB1
  obtain ⟨rfl, hq⟩ := hq
  simp only [Q_notation_reader_number_0] at hq
  obtain ⟨q9_1, q9_2, ⟨q9_3, q9_4⟩⟩ := hq
  rcases cnd_inv hB with ⟨c10, hB⟩ | ⟨c10, hB⟩
  · obtain rfl := Option.some.inj hB
    simp -implicitDefEqProofs [-getElem?_pos, -Iqa, -Iqb, -Iqc, -Iqd, -Lqa, Lqb, Lqc, Lqd, q9_1, q9_2, q9_3, q9_4, c10]
  · obtain ⟨y11, k12, hB⟩ := kb_inv hB
    replace k12 := run_strconv_Atoi k12
    try simp only [Iqe, Iqf, Lqe, Lqf, Lqg, Lqh, Nqa, Nat.reduceAdd, Tqa, Tqb, Tqc, Eqe, Eqf, Eqg, Eqh, Eqa, Eqb, Eqc, Eqd, Eqi, Eqj, Eqk, Eql, Eqm, Eqn, c10] at k12
    try dsimp only at hB
    obtain ⟨y13, k14, hB⟩ := kb_inv hB
    replace k14 := run_notation_reader_next k14
    try simp only [Iqe, Iqf, Lqe, Lqf, Lqg, Lqh, Nqa, Nat.reduceAdd, Tqa, Tqb, Tqc, Eqe, Eqf, Eqg, Eqh, Eqa, Eqb, Eqc, Eqd, Eqi, Eqj, Eqk, Eql, Eqm, Eqn, c10] at k14
    try dsimp only at hB
    obtain rfl := Option.some.inj hB
    subst hr4
    simp -implicitDefEqProofs [-getElem?_pos, -Iqa, -Iqb, -Iqc, -Iqd, -Lqa, Lqb, Lqc, Lqd, q9_1, q9_2, q9_3, q9_4, c10, k12, k14]
theorem g_notation_reader_number {p0 : S_notation_reader} {r : (Int × Bool × S_notation_reader)} (hB : B_notation_reader_number p0 = some r) : G_notation_reader_number p0 = some r := dec_of (fun a b h => by rcases a with ⟨a0_, a1_, ⟨a2_0, a2_1, a2_2⟩⟩; rcases b with ⟨b0_, b1_, ⟨b2_0, b2_1, b2_2⟩⟩; simp at h; simp [*]) (sim_notation_reader_number hB)
end Go.Am
namespace Go.Am
open Go Go.Proofs
set_option maxRecDepth 4000
set_option maxHeartbeats 4000000
open Int renaming ofNat_lt → Iqa, ofNat_le → Iqb, natCast_eq_zero → Iqc, natCast_pos → Iqd, cast_ofNat_Int → Iqe, natCast_zero → Iqf
open List renaming length_eq_zero_iff → Lqa, getElem?_cons_zero → Lqb, getElem?_cons_succ → Lqc, getElem?_nil → Lqd, length_cons → Lqe, length_nil → Lqf, nil_append → Lqg, cons_append → Lqh
open Nat renaming zero_add → Nqa
open Tru renaming thr_mk → Tqa, nodes_mk → Tqb, inner_mk → Tqc
open Go.Am renaming es_api_Declaration_cons → Eqa, es_api_Declaration_nil → Eqb, es_api_Evidence_cons → Eqc, es_api_Evidence_nil → Eqd, ints_cons → Eqe, ints_nil → Eqf, encTs_cons → Eqg, encTs_nil → Eqh, es_str_cons → Eqi, es_str_nil → Eqj, es_u64_cons → Eqk, es_u64_nil → Eql, es_u8_cons → Eqm, es_u8_nil → Eqn
noncomputable def B_notation_reader_take (p0 : S_notation_reader) (p1 : (List UInt8)) : Option (Bool × S_notation_reader) :=
  cnd (p0.f1 == p1) (
    kb (G_notation_reader_next p0) fun y2 =>
    some (true, y2)) (
    some (false, p0))
theorem sim_notation_reader_take {p0 : S_notation_reader} {p1 : (List UInt8)} {r : (Bool × S_notation_reader)} (hB : B_notation_reader_take p0 p1 = some r) : R 106 [.ptr (.arg 0) 0 0, (.pv (.str p1))] [.box 0 [(.pv (.str p0.f0)), (.pv (.str p0.f1)), (i64 p0.f2)]] = some ((bl r.1), [.box 0 [(.pv (.str r.2.f0)), (.pv (.str r.2.f1)), (i64 r.2.f2)]], []) := by
  rw [R_eq _ _ _ fn_notation_reader_take]
  simp only [Code.fst, Code.snd, Tryz.f106, Option.getD_some]
  generalize hr1 : Code.region 1 _ _ = rr1
  unfold B_notation_reader_take at hB
  rcases cnd_inv hB with ⟨c1, hB⟩ | ⟨c1, hB⟩
  · obtain ⟨y2, k3, hB⟩ := kb_inv hB
    replace k3 := run_notation_reader_next k3
    try simp only [Iqe, Iqf, Lqe, Lqf, Lqg, Lqh, Nqa, Nat.reduceAdd, Tqa, Tqb, Tqc, Eqe, Eqf, Eqg, Eqh, Eqa, Eqb, Eqc, Eqd, Eqi, Eqj, Eqk, Eql, Eqm, Eqn] at k3
    try dsimp only at hB
    obtain rfl := Option.some.inj hB
    subst hr1
    simp -implicitDefEqProofs [-getElem?_pos, -Iqa, -Iqb, -Iqc, -Iqd, -Lqa, Lqb, Lqc, Lqd, c1, k3]
  · obtain rfl := Option.some.inj hB
    subst hr1
    simp -implicitDefEqProofs [-getElem?_pos, -Iqa, -Iqb, -Iqc, -Iqd, -Lqa, Lqb, Lqc, Lqd, c1]
theorem g_notation_reader_take {p0 : S_notation_reader} {p1 : (List UInt8)} {r : (Bool × S_notation_reader)} (hB : B_notation_reader_take p0 p1 = some r) : G_notation_reader_take p0 p1 = some r := dec_of (fun a b h => by rcases a with ⟨a0_, ⟨a1_0, a1_1, a1_2⟩⟩; rcases b with ⟨b0_, ⟨b1_0, b1_1, b1_2⟩⟩; simp at h; simp [*]) (sim_notation_reader_take hB)
end Go.Am
