/-
Part 2 of the road to the statement: Gg, Pu0, Gf_ref01_Valid, Gf_ref01_Has, Gf_ref01_Of, Gf_ref02_Depth, Gf_ref02_Size, Gf_ref02_check, Gf_ref02_Valid, Gf_make_New, Gf_make_Tape_N, Gf_make_Tape_Range, Gf_make_Tape_Pick, Gf_make_Tape_Order, Qu1, Qu2, Gf_nodeset_below, Gf_nodeset_Valid, Gf_nodeset_Has, Gf_make_trust, Gf_make_Trust.
-/
import Derived.Test.YthkahljlmncdiaaGreatDoorSg1
set_option linter.unusedVariables false
set_option linter.unusedSimpArgs false
/-
What the functions of the program answer, decoded.
-/
namespace Go.Am
open Go Go.Proofs
set_option maxRecDepth 4000
set_option maxHeartbeats 4000000
noncomputable def G_law07_awake  : Option Bool := dec (R 17 [] []) fun r => ((bl r), [], [])
theorem run_law07_awake  {r : Bool} (h : G_law07_awake  = some r) : R 17 [] [] = some ((bl r), [], []) := by have e := dec_run h; exact e
theorem of_law07_awake  {r : Bool} (h : R 17 [] [] = some ((bl r), [], [])) : G_law07_awake  = some r := dec_of (fun a b h => by rcases a with a0_; rcases b with b0_; simp at h; simp [*]) h
theorem fn_declaration_Tag : fnA Tryz.prog 35 = some ⟨Tryz.f35, (Tryz.f35.body).getD .skip⟩ := by kernel_rfl
noncomputable def G_declaration_Tag (p0 : Int) (p1 : (List UInt8)) : Option Int := dec (R 35 [(.pv (.int .u64 p0)), (.pv (.str p1))] []) fun r => ((.pv (.int .u64 r)), [], [])
theorem run_declaration_Tag {p0 : Int} {p1 : (List UInt8)} {r : Int} (h : G_declaration_Tag p0 p1 = some r) : R 35 [(.pv (.int .u64 p0)), (.pv (.str p1))] [] = some ((.pv (.int .u64 r)), [], []) := by have e := dec_run h; exact e
theorem of_declaration_Tag {p0 : Int} {p1 : (List UInt8)} {r : Int} (h : R 35 [(.pv (.int .u64 p0)), (.pv (.str p1))] [] = some ((.pv (.int .u64 r)), [], [])) : G_declaration_Tag p0 p1 = some r := dec_of (fun a b h => by rcases a with a0_; rcases b with b0_; simp at h; simp [*]) h
theorem fn_internal_strconv_FormatUint : fnA Tryz.prog 76 = some ⟨Tryz.f76, (Tryz.f76.body).getD .skip⟩ := by kernel_rfl
noncomputable def G_internal_strconv_FormatUint (p0 : Int) (p1 : Int) : Option (List UInt8) := dec (R 76 [(.pv (.int .u64 p0)), (i64 p1)] []) fun r => ((.pv (.str r)), [], [])
theorem run_internal_strconv_FormatUint {p0 : Int} {p1 : Int} {r : (List UInt8)} (h : G_internal_strconv_FormatUint p0 p1 = some r) : R 76 [(.pv (.int .u64 p0)), (i64 p1)] [] = some ((.pv (.str r)), [], []) := by have e := dec_run h; exact e
theorem of_internal_strconv_FormatUint {p0 : Int} {p1 : Int} {r : (List UInt8)} (h : R 76 [(.pv (.int .u64 p0)), (i64 p1)] [] = some ((.pv (.str r)), [], [])) : G_internal_strconv_FormatUint p0 p1 = some r := dec_of (fun a b h => by rcases a with a0_; rcases b with b0_; simp at h; simp [*]) h
noncomputable def G_internal_strconv_numDigits (p0 : Int) : Option Int := dec (R 108 [(.pv (.int .u64 p0))] []) fun r => ((i64 r), [], [])
noncomputable def G_internal_strconv_formatBase10 (p0 : (List Int)) (p1 : Int) : Option Unit := dec (R 109 [(.pv (.sl p0.length (es_u8 p0))), (.pv (.int .u64 p1))] []) fun r => (.tup [], [], [])
theorem fn_internal_strconv_formatBits : fnA Tryz.prog 110 = some ⟨Tryz.f110, (Tryz.f110.body).getD .skip⟩ := by kernel_rfl
noncomputable def G_internal_strconv_formatBits (p0 : (List Int)) (p1 : Int) (p2 : Int) (p3 : Bool) (p4 : Bool) : Option ((List Int) × (List UInt8)) := dec (R 110 [(.pv (.sl p0.length (es_u8 p0))), (.pv (.int .u64 p1)), (i64 p2), (bl p3), (bl p4)] []) fun r => (.tup [(.pv (.sl r.1.length (es_u8 r.1))), (.pv (.str r.2))], [], [])
noncomputable def G_bits_TrailingZeros32 (p0 : Int) : Option Int := dec (R 142 [(.pv (.int .u32 p0))] []) fun r => ((i64 r), [], [])
theorem fn_law07_DeclarationSigns : fnA Tryz.prog 3 = some ⟨Tryz.f3, (Tryz.f3.body).getD .skip⟩ := by kernel_rfl
noncomputable def G_law07_DeclarationSigns (p0 : (List Int)) : Option Bool := dec (R 3 [(.pv (.sl p0.length (ints p0)))] []) fun r => ((bl r), [], [])
noncomputable def G_law07_DeclarationAnswers (p0 : (List Int)) (p1 : S_api_Declaration) (p2 : S_api_Declaration) (p3 : (List Int)) (p4 : Int) (p5 : (List UInt8)) : Option Bool := dec (R 4 [(.pv (.sl p0.length (ints p0))), (.agg [(i64 p1.f0), (i64 p1.f1), (i64 p1.f2.thr), (.pv (.sl p1.f2.nodes.length (ints p1.f2.nodes))), (.pv (.sl p1.f2.inner.length (encTs p1.f2.inner))), (.pv (.int .u64 p1.f3))]), (.agg [(i64 p2.f0), (i64 p2.f1), (i64 p2.f2.thr), (.pv (.sl p2.f2.nodes.length (ints p2.f2.nodes))), (.pv (.sl p2.f2.inner.length (encTs p2.f2.inner))), (.pv (.int .u64 p2.f3))]), (.pv (.sl p3.length (es_u64 p3))), (.pv (.int .u64 p4)), (.pv (.str p5))] []) fun r => ((bl r), [], [])
theorem fn_make_New : fnA Tryz.prog 5 = some ⟨Tryz.f5, (Tryz.f5.body).getD .skip⟩ := by kernel_rfl
noncomputable def G_make_New (p0 : (List Int)) : Option S_trustquorummake_Tape := dec (R 5 [(.pv (.sl p0.length (ints p0)))] []) fun r => (.ptr (.ret 0) 1 0, [], [.box 1 [(.pv (.sl r.f0.length (ints r.f0))), (i64 r.f1)]])
theorem run_make_New {p0 : (List Int)} {r : S_trustquorummake_Tape} (h : G_make_New p0 = some r) : R 5 [(.pv (.sl p0.length (ints p0)))] [] = some (.ptr (.ret 0) 1 0, [], [.box 1 [(.pv (.sl r.f0.length (ints r.f0))), (i64 r.f1)]]) := by have e := dec_run h; exact e
theorem fn_make_Tape_Range : fnA Tryz.prog 7 = some ⟨Tryz.f7, (Tryz.f7.body).getD .skip⟩ := by kernel_rfl
noncomputable def G_make_Tape_Range (p0 : S_trustquorummake_Tape) (p1 : Int) (p2 : Int) : Option (Int × S_trustquorummake_Tape) := dec (R 7 [.ptr (.arg 0) 0 0, (i64 p1), (i64 p2)] [.box 0 [(.pv (.sl p0.f0.length (ints p0.f0))), (i64 p0.f1)]]) fun r => ((i64 r.1), [.box 0 [(.pv (.sl r.2.f0.length (ints r.2.f0))), (i64 r.2.f1)]], [])
theorem run_make_Tape_Range {p0 : S_trustquorummake_Tape} {p1 : Int} {p2 : Int} {r : (Int × S_trustquorummake_Tape)} (h : G_make_Tape_Range p0 p1 p2 = some r) : R 7 [.ptr (.arg 0) 0 0, (i64 p1), (i64 p2)] [.box 0 [(.pv (.sl p0.f0.length (ints p0.f0))), (i64 p0.f1)]] = some ((i64 r.1), [.box 0 [(.pv (.sl r.2.f0.length (ints r.2.f0))), (i64 r.2.f1)]], []) := by have e := dec_run h; exact e
theorem fn_make_Keys : fnA Tryz.prog 6 = some ⟨Tryz.f6, (Tryz.f6.body).getD .skip⟩ := by kernel_rfl
noncomputable def G_make_Keys (p0 : S_trustquorummake_Tape) (p1 : Int) : Option ((List Int) × S_trustquorummake_Tape) := dec (R 6 [.ptr (.arg 0) 0 0, (i64 p1)] [.box 0 [(.pv (.sl p0.f0.length (ints p0.f0))), (i64 p0.f1)]]) fun r => ((.pv (.sl r.1.length (es_u64 r.1))), [.box 0 [(.pv (.sl r.2.f0.length (ints r.2.f0))), (i64 r.2.f1)]], [])
theorem run_make_Keys {p0 : S_trustquorummake_Tape} {p1 : Int} {r : ((List Int) × S_trustquorummake_Tape)} (h : G_make_Keys p0 p1 = some r) : R 6 [.ptr (.arg 0) 0 0, (i64 p1)] [.box 0 [(.pv (.sl p0.f0.length (ints p0.f0))), (i64 p0.f1)]] = some ((.pv (.sl r.1.length (es_u64 r.1))), [.box 0 [(.pv (.sl r.2.f0.length (ints r.2.f0))), (i64 r.2.f1)]], []) := by have e := dec_run h; exact e
theorem fn_make_Tape_N : fnA Tryz.prog 8 = some ⟨Tryz.f8, (Tryz.f8.body).getD .skip⟩ := by kernel_rfl
noncomputable def G_make_Tape_N (p0 : S_trustquorummake_Tape) (p1 : Int) : Option (Int × S_trustquorummake_Tape) := dec (R 8 [.ptr (.arg 0) 0 0, (i64 p1)] [.box 0 [(.pv (.sl p0.f0.length (ints p0.f0))), (i64 p0.f1)]]) fun r => ((i64 r.1), [.box 0 [(.pv (.sl r.2.f0.length (ints r.2.f0))), (i64 r.2.f1)]], [])
theorem run_make_Tape_N {p0 : S_trustquorummake_Tape} {p1 : Int} {r : (Int × S_trustquorummake_Tape)} (h : G_make_Tape_N p0 p1 = some r) : R 8 [.ptr (.arg 0) 0 0, (i64 p1)] [.box 0 [(.pv (.sl p0.f0.length (ints p0.f0))), (i64 p0.f1)]] = some ((i64 r.1), [.box 0 [(.pv (.sl r.2.f0.length (ints r.2.f0))), (i64 r.2.f1)]], []) := by have e := dec_run h; exact e
theorem fn_make_Declared : fnA Tryz.prog 9 = some ⟨Tryz.f9, (Tryz.f9.body).getD .skip⟩ := by kernel_rfl
noncomputable def G_make_Declared (p0 : S_trustquorummake_Tape) (p1 : Int) : Option (Tru × S_trustquorummake_Tape) := dec (R 9 [.ptr (.arg 0) 0 0, (i64 p1)] [.box 0 [(.pv (.sl p0.f0.length (ints p0.f0))), (i64 p0.f1)]]) fun r => ((.agg [(i64 r.1.thr), (.pv (.sl r.1.nodes.length (ints r.1.nodes))), (.pv (.sl r.1.inner.length (encTs r.1.inner)))]), [.box 0 [(.pv (.sl r.2.f0.length (ints r.2.f0))), (i64 r.2.f1)]], [])
theorem run_make_Declared {p0 : S_trustquorummake_Tape} {p1 : Int} {r : (Tru × S_trustquorummake_Tape)} (h : G_make_Declared p0 p1 = some r) : R 9 [.ptr (.arg 0) 0 0, (i64 p1)] [.box 0 [(.pv (.sl p0.f0.length (ints p0.f0))), (i64 p0.f1)]] = some ((.agg [(i64 r.1.thr), (.pv (.sl r.1.nodes.length (ints r.1.nodes))), (.pv (.sl r.1.inner.length (encTs r.1.inner)))]), [.box 0 [(.pv (.sl r.2.f0.length (ints r.2.f0))), (i64 r.2.f1)]], []) := by have e := dec_run h; exact e
theorem fn_declaration_Sign : fnA Tryz.prog 10 = some ⟨Tryz.f10, (Tryz.f10.body).getD .skip⟩ := by kernel_rfl
noncomputable def G_declaration_Sign (p0 : Int) (p1 : Int) (p2 : Int) (p3 : Tru) : Option (S_api_Declaration × Int) := dec (R 10 [(.pv (.int .u64 p0)), (i64 p1), (i64 p2), (.agg [(i64 p3.thr), (.pv (.sl p3.nodes.length (ints p3.nodes))), (.pv (.sl p3.inner.length (encTs p3.inner)))])] []) fun r => (.tup [(.agg [(i64 r.1.f0), (i64 r.1.f1), (i64 r.1.f2.thr), (.pv (.sl r.1.f2.nodes.length (ints r.1.f2.nodes))), (.pv (.sl r.1.f2.inner.length (encTs r.1.f2.inner))), (.pv (.int .u64 r.1.f3))]), (i64 r.2)], [], [])
theorem run_declaration_Sign {p0 : Int} {p1 : Int} {p2 : Int} {p3 : Tru} {r : (S_api_Declaration × Int)} (h : G_declaration_Sign p0 p1 p2 p3 = some r) : R 10 [(.pv (.int .u64 p0)), (i64 p1), (i64 p2), (.agg [(i64 p3.thr), (.pv (.sl p3.nodes.length (ints p3.nodes))), (.pv (.sl p3.inner.length (encTs p3.inner)))])] [] = some (.tup [(.agg [(i64 r.1.f0), (i64 r.1.f1), (i64 r.1.f2.thr), (.pv (.sl r.1.f2.nodes.length (ints r.1.f2.nodes))), (.pv (.sl r.1.f2.inner.length (encTs r.1.f2.inner))), (.pv (.int .u64 r.1.f3))]), (i64 r.2)], [], []) := by have e := dec_run h; exact e
theorem fn_declaration_Text : fnA Tryz.prog 12 = some ⟨Tryz.f12, (Tryz.f12.body).getD .skip⟩ := by kernel_rfl
noncomputable def G_declaration_Text (p0 : S_api_Declaration) : Option (List UInt8) := dec (R 12 [(.agg [(i64 p0.f0), (i64 p0.f1), (i64 p0.f2.thr), (.pv (.sl p0.f2.nodes.length (ints p0.f2.nodes))), (.pv (.sl p0.f2.inner.length (encTs p0.f2.inner))), (.pv (.int .u64 p0.f3))])] []) fun r => ((.pv (.str r)), [], [])
theorem run_declaration_Text {p0 : S_api_Declaration} {r : (List UInt8)} (h : G_declaration_Text p0 = some r) : R 12 [(.agg [(i64 p0.f0), (i64 p0.f1), (i64 p0.f2.thr), (.pv (.sl p0.f2.nodes.length (ints p0.f2.nodes))), (.pv (.sl p0.f2.inner.length (encTs p0.f2.inner))), (.pv (.int .u64 p0.f3))])] [] = some ((.pv (.str r)), [], []) := by have e := dec_run h; exact e
theorem fn_declaration_Parse : fnA Tryz.prog 11 = some ⟨Tryz.f11, (Tryz.f11.body).getD .skip⟩ := by kernel_rfl
noncomputable def G_declaration_Parse (p0 : (List UInt8)) : Option (S_api_Declaration × Int) := dec (R 11 [(.pv (.str p0))] []) fun r => (.tup [(.agg [(i64 r.1.f0), (i64 r.1.f1), (i64 r.1.f2.thr), (.pv (.sl r.1.f2.nodes.length (ints r.1.f2.nodes))), (.pv (.sl r.1.f2.inner.length (encTs r.1.f2.inner))), (.pv (.int .u64 r.1.f3))]), (i64 r.2)], [], [])
theorem run_declaration_Parse {p0 : (List UInt8)} {r : (S_api_Declaration × Int)} (h : G_declaration_Parse p0 = some r) : R 11 [(.pv (.str p0))] [] = some (.tup [(.agg [(i64 r.1.f0), (i64 r.1.f1), (i64 r.1.f2.thr), (.pv (.sl r.1.f2.nodes.length (ints r.1.f2.nodes))), (.pv (.sl r.1.f2.inner.length (encTs r.1.f2.inner))), (.pv (.int .u64 r.1.f3))]), (i64 r.2)], [], []) := by have e := dec_run h; exact e
theorem fn_ref02_Same : fnA Tryz.prog 13 = some ⟨Tryz.f13, (Tryz.f13.body).getD .skip⟩ := by kernel_rfl
noncomputable def G_ref02_Same (p0 : Tru) (p1 : Tru) : Option Bool := dec (R 13 [(.agg [(i64 p0.thr), (.pv (.sl p0.nodes.length (ints p0.nodes))), (.pv (.sl p0.inner.length (encTs p0.inner)))]), (.agg [(i64 p1.thr), (.pv (.sl p1.nodes.length (ints p1.nodes))), (.pv (.sl p1.inner.length (encTs p1.inner)))])] []) fun r => ((bl r), [], [])
theorem run_ref02_Same {p0 : Tru} {p1 : Tru} {r : Bool} (h : G_ref02_Same p0 p1 = some r) : R 13 [(.agg [(i64 p0.thr), (.pv (.sl p0.nodes.length (ints p0.nodes))), (.pv (.sl p0.inner.length (encTs p0.inner)))]), (.agg [(i64 p1.thr), (.pv (.sl p1.nodes.length (ints p1.nodes))), (.pv (.sl p1.inner.length (encTs p1.inner)))])] [] = some ((bl r), [], []) := by have e := dec_run h; exact e
theorem fn_declaration_Check : fnA Tryz.prog 14 = some ⟨Tryz.f14, (Tryz.f14.body).getD .skip⟩ := by kernel_rfl
noncomputable def G_declaration_Check (p0 : (List Int)) (p1 : S_api_Declaration) : Option Int := dec (R 14 [(.pv (.sl p0.length (es_u64 p0))), (.agg [(i64 p1.f0), (i64 p1.f1), (i64 p1.f2.thr), (.pv (.sl p1.f2.nodes.length (ints p1.f2.nodes))), (.pv (.sl p1.f2.inner.length (encTs p1.f2.inner))), (.pv (.int .u64 p1.f3))])] []) fun r => ((i64 r), [], [])
theorem run_declaration_Check {p0 : (List Int)} {p1 : S_api_Declaration} {r : Int} (h : G_declaration_Check p0 p1 = some r) : R 14 [(.pv (.sl p0.length (es_u64 p0))), (.agg [(i64 p1.f0), (i64 p1.f1), (i64 p1.f2.thr), (.pv (.sl p1.f2.nodes.length (ints p1.f2.nodes))), (.pv (.sl p1.f2.inner.length (encTs p1.f2.inner))), (.pv (.int .u64 p1.f3))])] [] = some ((i64 r), [], []) := by have e := dec_run h; exact e
theorem fn_ref07_Check : fnA Tryz.prog 15 = some ⟨Tryz.f15, (Tryz.f15.body).getD .skip⟩ := by kernel_rfl
noncomputable def G_ref07_Check (p0 : (List Int)) (p1 : S_api_Declaration) : Option Int := dec (R 15 [(.pv (.sl p0.length (es_u64 p0))), (.agg [(i64 p1.f0), (i64 p1.f1), (i64 p1.f2.thr), (.pv (.sl p1.f2.nodes.length (ints p1.f2.nodes))), (.pv (.sl p1.f2.inner.length (encTs p1.f2.inner))), (.pv (.int .u64 p1.f3))])] []) fun r => ((i64 r), [], [])
theorem run_ref07_Check {p0 : (List Int)} {p1 : S_api_Declaration} {r : Int} (h : G_ref07_Check p0 p1 = some r) : R 15 [(.pv (.sl p0.length (es_u64 p0))), (.agg [(i64 p1.f0), (i64 p1.f1), (i64 p1.f2.thr), (.pv (.sl p1.f2.nodes.length (ints p1.f2.nodes))), (.pv (.sl p1.f2.inner.length (encTs p1.f2.inner))), (.pv (.int .u64 p1.f3))])] [] = some ((i64 r), [], []) := by have e := dec_run h; exact e
theorem fn_ref07_Same : fnA Tryz.prog 16 = some ⟨Tryz.f16, (Tryz.f16.body).getD .skip⟩ := by kernel_rfl
noncomputable def G_ref07_Same (p0 : S_api_Declaration) (p1 : S_api_Declaration) : Option Bool := dec (R 16 [(.agg [(i64 p0.f0), (i64 p0.f1), (i64 p0.f2.thr), (.pv (.sl p0.f2.nodes.length (ints p0.f2.nodes))), (.pv (.sl p0.f2.inner.length (encTs p0.f2.inner))), (.pv (.int .u64 p0.f3))]), (.agg [(i64 p1.f0), (i64 p1.f1), (i64 p1.f2.thr), (.pv (.sl p1.f2.nodes.length (ints p1.f2.nodes))), (.pv (.sl p1.f2.inner.length (encTs p1.f2.inner))), (.pv (.int .u64 p1.f3))])] []) fun r => ((bl r), [], [])
theorem run_ref07_Same {p0 : S_api_Declaration} {p1 : S_api_Declaration} {r : Bool} (h : G_ref07_Same p0 p1 = some r) : R 16 [(.agg [(i64 p0.f0), (i64 p0.f1), (i64 p0.f2.thr), (.pv (.sl p0.f2.nodes.length (ints p0.f2.nodes))), (.pv (.sl p0.f2.inner.length (encTs p0.f2.inner))), (.pv (.int .u64 p0.f3))]), (.agg [(i64 p1.f0), (i64 p1.f1), (i64 p1.f2.thr), (.pv (.sl p1.f2.nodes.length (ints p1.f2.nodes))), (.pv (.sl p1.f2.inner.length (encTs p1.f2.inner))), (.pv (.int .u64 p1.f3))])] [] = some ((bl r), [], []) := by have e := dec_run h; exact e
noncomputable def G_make_SmallDeclaration (p0 : S_api_Declaration) : Option Bool := dec (R 18 [(.agg [(i64 p0.f0), (i64 p0.f1), (i64 p0.f2.thr), (.pv (.sl p0.f2.nodes.length (ints p0.f2.nodes))), (.pv (.sl p0.f2.inner.length (encTs p0.f2.inner))), (.pv (.int .u64 p0.f3))])] []) fun r => ((bl r), [], [])
noncomputable def G_make_Declaration (p0 : S_trustquorummake_Tape) (p1 : (List Int)) : Option (S_api_Declaration × S_trustquorummake_Tape) := dec (R 19 [.ptr (.arg 0) 0 0, (.pv (.sl p1.length (es_u64 p1)))] [.box 0 [(.pv (.sl p0.f0.length (ints p0.f0))), (i64 p0.f1)]]) fun r => ((.agg [(i64 r.1.f0), (i64 r.1.f1), (i64 r.1.f2.thr), (.pv (.sl r.1.f2.nodes.length (ints r.1.f2.nodes))), (.pv (.sl r.1.f2.inner.length (encTs r.1.f2.inner))), (.pv (.int .u64 r.1.f3))]), [.box 0 [(.pv (.sl r.2.f0.length (ints r.2.f0))), (i64 r.2.f1)]], [])
noncomputable def G_make_BentDeclaration (p0 : S_trustquorummake_Tape) (p1 : S_api_Declaration) : Option (S_api_Declaration × S_trustquorummake_Tape) := dec (R 20 [.ptr (.arg 0) 0 0, (.agg [(i64 p1.f0), (i64 p1.f1), (i64 p1.f2.thr), (.pv (.sl p1.f2.nodes.length (ints p1.f2.nodes))), (.pv (.sl p1.f2.inner.length (encTs p1.f2.inner))), (.pv (.int .u64 p1.f3))])] [.box 0 [(.pv (.sl p0.f0.length (ints p0.f0))), (i64 p0.f1)]]) fun r => ((.agg [(i64 r.1.f0), (i64 r.1.f1), (i64 r.1.f2.thr), (.pv (.sl r.1.f2.nodes.length (ints r.1.f2.nodes))), (.pv (.sl r.1.f2.inner.length (encTs r.1.f2.inner))), (.pv (.int .u64 r.1.f3))]), [.box 0 [(.pv (.sl r.2.f0.length (ints r.2.f0))), (i64 r.2.f1)]], [])
theorem fn_declaration_Plain : fnA Tryz.prog 21 = some ⟨Tryz.f21, (Tryz.f21.body).getD .skip⟩ := by kernel_rfl
noncomputable def G_declaration_Plain (p0 : S_api_Declaration) : Option Int := dec (R 21 [(.agg [(i64 p0.f0), (i64 p0.f1), (i64 p0.f2.thr), (.pv (.sl p0.f2.nodes.length (ints p0.f2.nodes))), (.pv (.sl p0.f2.inner.length (encTs p0.f2.inner))), (.pv (.int .u64 p0.f3))])] []) fun r => ((i64 r), [], [])
theorem run_declaration_Plain {p0 : S_api_Declaration} {r : Int} (h : G_declaration_Plain p0 = some r) : R 21 [(.agg [(i64 p0.f0), (i64 p0.f1), (i64 p0.f2.thr), (.pv (.sl p0.f2.nodes.length (ints p0.f2.nodes))), (.pv (.sl p0.f2.inner.length (encTs p0.f2.inner))), (.pv (.int .u64 p0.f3))])] [] = some ((i64 r), [], []) := by have e := dec_run h; exact e
theorem fn_ref07_Plain : fnA Tryz.prog 22 = some ⟨Tryz.f22, (Tryz.f22.body).getD .skip⟩ := by kernel_rfl
noncomputable def G_ref07_Plain (p0 : S_api_Declaration) : Option Int := dec (R 22 [(.agg [(i64 p0.f0), (i64 p0.f1), (i64 p0.f2.thr), (.pv (.sl p0.f2.nodes.length (ints p0.f2.nodes))), (.pv (.sl p0.f2.inner.length (encTs p0.f2.inner))), (.pv (.int .u64 p0.f3))])] []) fun r => ((i64 r), [], [])
theorem run_ref07_Plain {p0 : S_api_Declaration} {r : Int} (h : G_ref07_Plain p0 = some r) : R 22 [(.agg [(i64 p0.f0), (i64 p0.f1), (i64 p0.f2.thr), (.pv (.sl p0.f2.nodes.length (ints p0.f2.nodes))), (.pv (.sl p0.f2.inner.length (encTs p0.f2.inner))), (.pv (.int .u64 p0.f3))])] [] = some ((i64 r), [], []) := by have e := dec_run h; exact e
theorem fn_declaration_Bytes : fnA Tryz.prog 23 = some ⟨Tryz.f23, (Tryz.f23.body).getD .skip⟩ := by kernel_rfl
noncomputable def G_declaration_Bytes (p0 : S_api_Declaration) : Option (List UInt8) := dec (R 23 [(.agg [(i64 p0.f0), (i64 p0.f1), (i64 p0.f2.thr), (.pv (.sl p0.f2.nodes.length (ints p0.f2.nodes))), (.pv (.sl p0.f2.inner.length (encTs p0.f2.inner))), (.pv (.int .u64 p0.f3))])] []) fun r => ((.pv (.str r)), [], [])
theorem run_declaration_Bytes {p0 : S_api_Declaration} {r : (List UInt8)} (h : G_declaration_Bytes p0 = some r) : R 23 [(.agg [(i64 p0.f0), (i64 p0.f1), (i64 p0.f2.thr), (.pv (.sl p0.f2.nodes.length (ints p0.f2.nodes))), (.pv (.sl p0.f2.inner.length (encTs p0.f2.inner))), (.pv (.int .u64 p0.f3))])] [] = some ((.pv (.str r)), [], []) := by have e := dec_run h; exact e
theorem fn_ref07_Bytes : fnA Tryz.prog 24 = some ⟨Tryz.f24, (Tryz.f24.body).getD .skip⟩ := by kernel_rfl
noncomputable def G_ref07_Bytes (p0 : S_api_Declaration) : Option (List UInt8) := dec (R 24 [(.agg [(i64 p0.f0), (i64 p0.f1), (i64 p0.f2.thr), (.pv (.sl p0.f2.nodes.length (ints p0.f2.nodes))), (.pv (.sl p0.f2.inner.length (encTs p0.f2.inner))), (.pv (.int .u64 p0.f3))])] []) fun r => ((.pv (.str r)), [], [])
theorem run_ref07_Bytes {p0 : S_api_Declaration} {r : (List UInt8)} (h : G_ref07_Bytes p0 = some r) : R 24 [(.agg [(i64 p0.f0), (i64 p0.f1), (i64 p0.f2.thr), (.pv (.sl p0.f2.nodes.length (ints p0.f2.nodes))), (.pv (.sl p0.f2.inner.length (encTs p0.f2.inner))), (.pv (.int .u64 p0.f3))])] [] = some ((.pv (.str r)), [], []) := by have e := dec_run h; exact e
noncomputable def G_ref07_Text (p0 : S_api_Declaration) : Option (List UInt8) := dec (R 25 [(.agg [(i64 p0.f0), (i64 p0.f1), (i64 p0.f2.thr), (.pv (.sl p0.f2.nodes.length (ints p0.f2.nodes))), (.pv (.sl p0.f2.inner.length (encTs p0.f2.inner))), (.pv (.int .u64 p0.f3))])] []) fun r => ((.pv (.str r)), [], [])
noncomputable def G_declaration_Compare (p0 : S_api_Declaration) (p1 : S_api_Declaration) : Option Int := dec (R 26 [(.agg [(i64 p0.f0), (i64 p0.f1), (i64 p0.f2.thr), (.pv (.sl p0.f2.nodes.length (ints p0.f2.nodes))), (.pv (.sl p0.f2.inner.length (encTs p0.f2.inner))), (.pv (.int .u64 p0.f3))]), (.agg [(i64 p1.f0), (i64 p1.f1), (i64 p1.f2.thr), (.pv (.sl p1.f2.nodes.length (ints p1.f2.nodes))), (.pv (.sl p1.f2.inner.length (encTs p1.f2.inner))), (.pv (.int .u64 p1.f3))])] []) fun r => ((i64 r), [], [])
noncomputable def G_ref07_Compare (p0 : S_api_Declaration) (p1 : S_api_Declaration) : Option Int := dec (R 27 [(.agg [(i64 p0.f0), (i64 p0.f1), (i64 p0.f2.thr), (.pv (.sl p0.f2.nodes.length (ints p0.f2.nodes))), (.pv (.sl p0.f2.inner.length (encTs p0.f2.inner))), (.pv (.int .u64 p0.f3))]), (.agg [(i64 p1.f0), (i64 p1.f1), (i64 p1.f2.thr), (.pv (.sl p1.f2.nodes.length (ints p1.f2.nodes))), (.pv (.sl p1.f2.inner.length (encTs p1.f2.inner))), (.pv (.int .u64 p1.f3))])] []) fun r => ((i64 r), [], [])
noncomputable def G_ref07_Sign (p0 : Int) (p1 : Int) (p2 : Int) (p3 : Tru) : Option (S_api_Declaration × Int) := dec (R 28 [(.pv (.int .u64 p0)), (i64 p1), (i64 p2), (.agg [(i64 p3.thr), (.pv (.sl p3.nodes.length (ints p3.nodes))), (.pv (.sl p3.inner.length (encTs p3.inner)))])] []) fun r => (.tup [(.agg [(i64 r.1.f0), (i64 r.1.f1), (i64 r.1.f2.thr), (.pv (.sl r.1.f2.nodes.length (ints r.1.f2.nodes))), (.pv (.sl r.1.f2.inner.length (encTs r.1.f2.inner))), (.pv (.int .u64 r.1.f3))]), (i64 r.2)], [], [])
noncomputable def G_declaration_Proves (p0 : (List Int)) (p1 : S_api_Evidence) : Option Int := dec (R 29 [(.pv (.sl p0.length (es_u64 p0))), (.agg [(i64 p1.f0.f0), (i64 p1.f0.f1), (i64 p1.f0.f2.thr), (.pv (.sl p1.f0.f2.nodes.length (ints p1.f0.f2.nodes))), (.pv (.sl p1.f0.f2.inner.length (encTs p1.f0.f2.inner))), (.pv (.int .u64 p1.f0.f3)), (i64 p1.f1.f0), (i64 p1.f1.f1), (i64 p1.f1.f2.thr), (.pv (.sl p1.f1.f2.nodes.length (ints p1.f1.f2.nodes))), (.pv (.sl p1.f1.f2.inner.length (encTs p1.f1.f2.inner))), (.pv (.int .u64 p1.f1.f3))])] []) fun r => ((i64 r), [], [])
noncomputable def G_ref07_Proves (p0 : (List Int)) (p1 : S_api_Evidence) : Option Int := dec (R 30 [(.pv (.sl p0.length (es_u64 p0))), (.agg [(i64 p1.f0.f0), (i64 p1.f0.f1), (i64 p1.f0.f2.thr), (.pv (.sl p1.f0.f2.nodes.length (ints p1.f0.f2.nodes))), (.pv (.sl p1.f0.f2.inner.length (encTs p1.f0.f2.inner))), (.pv (.int .u64 p1.f0.f3)), (i64 p1.f1.f0), (i64 p1.f1.f1), (i64 p1.f1.f2.thr), (.pv (.sl p1.f1.f2.nodes.length (ints p1.f1.f2.nodes))), (.pv (.sl p1.f1.f2.inner.length (encTs p1.f1.f2.inner))), (.pv (.int .u64 p1.f1.f3))])] []) fun r => ((i64 r), [], [])
noncomputable def G_law07_spoilt (p0 : S_trustquorummake_Tape) (p1 : (List UInt8)) : Option ((List UInt8) × S_trustquorummake_Tape) := dec (R 31 [.ptr (.arg 0) 0 0, (.pv (.str p1))] [.box 0 [(.pv (.sl p0.f0.length (ints p0.f0))), (i64 p0.f1)]]) fun r => ((.pv (.str r.1)), [.box 0 [(.pv (.sl r.2.f0.length (ints r.2.f0))), (i64 r.2.f1)]], [])
noncomputable def G_ref07_Parse (p0 : (List UInt8)) : Option (S_api_Declaration × Int) := dec (R 32 [(.pv (.str p0))] []) fun r => (.tup [(.agg [(i64 r.1.f0), (i64 r.1.f1), (i64 r.1.f2.thr), (.pv (.sl r.1.f2.nodes.length (ints r.1.f2.nodes))), (.pv (.sl r.1.f2.inner.length (encTs r.1.f2.inner))), (.pv (.int .u64 r.1.f3))]), (i64 r.2)], [], [])
theorem fn_declaration_Hash : fnA Tryz.prog 33 = some ⟨Tryz.f33, (Tryz.f33.body).getD .skip⟩ := by kernel_rfl
noncomputable def G_declaration_Hash (p0 : (List UInt8)) : Option Int := dec (R 33 [(.pv (.str p0))] []) fun r => ((.pv (.int .u64 r)), [], [])
theorem run_declaration_Hash {p0 : (List UInt8)} {r : Int} (h : G_declaration_Hash p0 = some r) : R 33 [(.pv (.str p0))] [] = some ((.pv (.int .u64 r)), [], []) := by have e := dec_run h; exact e
theorem fn_ref07_Hash : fnA Tryz.prog 34 = some ⟨Tryz.f34, (Tryz.f34.body).getD .skip⟩ := by kernel_rfl
noncomputable def G_ref07_Hash (p0 : (List UInt8)) : Option Int := dec (R 34 [(.pv (.str p0))] []) fun r => ((.pv (.int .u64 r)), [], [])
theorem run_ref07_Hash {p0 : (List UInt8)} {r : Int} (h : G_ref07_Hash p0 = some r) : R 34 [(.pv (.str p0))] [] = some ((.pv (.int .u64 r)), [], []) := by have e := dec_run h; exact e
theorem fn_ref07_Tag : fnA Tryz.prog 36 = some ⟨Tryz.f36, (Tryz.f36.body).getD .skip⟩ := by kernel_rfl
noncomputable def G_ref07_Tag (p0 : Int) (p1 : (List UInt8)) : Option Int := dec (R 36 [(.pv (.int .u64 p0)), (.pv (.str p1))] []) fun r => ((.pv (.int .u64 r)), [], [])
theorem run_ref07_Tag {p0 : Int} {p1 : (List UInt8)} {r : Int} (h : G_ref07_Tag p0 p1 = some r) : R 36 [(.pv (.int .u64 p0)), (.pv (.str p1))] [] = some ((.pv (.int .u64 r)), [], []) := by have e := dec_run h; exact e
theorem fn_make_Trust : fnA Tryz.prog 37 = some ⟨Tryz.f37, (Tryz.f37.body).getD .skip⟩ := by kernel_rfl
noncomputable def G_make_Trust (p0 : S_trustquorummake_Tape) (p1 : Int) (p2 : Int) : Option (Tru × S_trustquorummake_Tape) := dec (R 37 [.ptr (.arg 0) 0 0, (i64 p1), (i64 p2)] [.box 0 [(.pv (.sl p0.f0.length (ints p0.f0))), (i64 p0.f1)]]) fun r => ((.agg [(i64 r.1.thr), (.pv (.sl r.1.nodes.length (ints r.1.nodes))), (.pv (.sl r.1.inner.length (encTs r.1.inner)))]), [.box 0 [(.pv (.sl r.2.f0.length (ints r.2.f0))), (i64 r.2.f1)]], [])
theorem run_make_Trust {p0 : S_trustquorummake_Tape} {p1 : Int} {p2 : Int} {r : (Tru × S_trustquorummake_Tape)} (h : G_make_Trust p0 p1 p2 = some r) : R 37 [.ptr (.arg 0) 0 0, (i64 p1), (i64 p2)] [.box 0 [(.pv (.sl p0.f0.length (ints p0.f0))), (i64 p0.f1)]] = some ((.agg [(i64 r.1.thr), (.pv (.sl r.1.nodes.length (ints r.1.nodes))), (.pv (.sl r.1.inner.length (encTs r.1.inner)))]), [.box 0 [(.pv (.sl r.2.f0.length (ints r.2.f0))), (i64 r.2.f1)]], []) := by have e := dec_run h; exact e
theorem fn_ref02_Size : fnA Tryz.prog 38 = some ⟨Tryz.f38, (Tryz.f38.body).getD .skip⟩ := by kernel_rfl
noncomputable def G_ref02_Size (p0 : Tru) : Option Int := dec (R 38 [(.agg [(i64 p0.thr), (.pv (.sl p0.nodes.length (ints p0.nodes))), (.pv (.sl p0.inner.length (encTs p0.inner)))])] []) fun r => ((i64 r), [], [])
theorem run_ref02_Size {p0 : Tru} {r : Int} (h : G_ref02_Size p0 = some r) : R 38 [(.agg [(i64 p0.thr), (.pv (.sl p0.nodes.length (ints p0.nodes))), (.pv (.sl p0.inner.length (encTs p0.inner)))])] [] = some ((i64 r), [], []) := by have e := dec_run h; exact e
theorem fn_ref02_Depth : fnA Tryz.prog 39 = some ⟨Tryz.f39, (Tryz.f39.body).getD .skip⟩ := by kernel_rfl
noncomputable def G_ref02_Depth (p0 : Tru) : Option Int := dec (R 39 [(.agg [(i64 p0.thr), (.pv (.sl p0.nodes.length (ints p0.nodes))), (.pv (.sl p0.inner.length (encTs p0.inner)))])] []) fun r => ((i64 r), [], [])
theorem run_ref02_Depth {p0 : Tru} {r : Int} (h : G_ref02_Depth p0 = some r) : R 39 [(.agg [(i64 p0.thr), (.pv (.sl p0.nodes.length (ints p0.nodes))), (.pv (.sl p0.inner.length (encTs p0.inner)))])] [] = some ((i64 r), [], []) := by have e := dec_run h; exact e
theorem fn_declaration_copied : fnA Tryz.prog 40 = some ⟨Tryz.f40, (Tryz.f40.body).getD .skip⟩ := by kernel_rfl
noncomputable def G_declaration_copied (p0 : Tru) : Option Tru := dec (R 40 [(.agg [(i64 p0.thr), (.pv (.sl p0.nodes.length (ints p0.nodes))), (.pv (.sl p0.inner.length (encTs p0.inner)))])] []) fun r => ((.agg [(i64 r.thr), (.pv (.sl r.nodes.length (ints r.nodes))), (.pv (.sl r.inner.length (encTs r.inner)))]), [], [])
theorem run_declaration_copied {p0 : Tru} {r : Tru} (h : G_declaration_copied p0 = some r) : R 40 [(.agg [(i64 p0.thr), (.pv (.sl p0.nodes.length (ints p0.nodes))), (.pv (.sl p0.inner.length (encTs p0.inner)))])] [] = some ((.agg [(i64 r.thr), (.pv (.sl r.nodes.length (ints r.nodes))), (.pv (.sl r.inner.length (encTs r.inner)))]), [], []) := by have e := dec_run h; exact e
theorem fn_strconv_FormatUint : fnA Tryz.prog 46 = some ⟨Tryz.f46, (Tryz.f46.body).getD .skip⟩ := by kernel_rfl
noncomputable def G_strconv_FormatUint (p0 : Int) (p1 : Int) : Option (List UInt8) := dec (R 46 [(.pv (.int .u64 p0)), (i64 p1)] []) fun r => ((.pv (.str r)), [], [])
theorem run_strconv_FormatUint {p0 : Int} {p1 : Int} {r : (List UInt8)} (h : G_strconv_FormatUint p0 p1 = some r) : R 46 [(.pv (.int .u64 p0)), (i64 p1)] [] = some ((.pv (.str r)), [], []) := by have e := dec_run h; exact e
noncomputable def G_strings_Repeat (p0 : (List UInt8)) (p1 : Int) : Option (List UInt8) := dec (R 47 [(.pv (.str p0)), (i64 p1)] []) fun r => ((.pv (.str r)), [], [])
theorem run_strings_Repeat {p0 : (List UInt8)} {p1 : Int} {r : (List UInt8)} (h : G_strings_Repeat p0 p1 = some r) : R 47 [(.pv (.str p0)), (i64 p1)] [] = some ((.pv (.str r)), [], []) := by have e := dec_run h; exact e
noncomputable def G_strings_TrimPrefix (p0 : (List UInt8)) (p1 : (List UInt8)) : Option (List UInt8) := dec (R 41 [(.pv (.str p0)), (.pv (.str p1))] []) fun r => ((.pv (.str r)), [], [])
theorem run_strings_TrimPrefix {p0 : (List UInt8)} {p1 : (List UInt8)} {r : (List UInt8)} (h : G_strings_TrimPrefix p0 p1 = some r) : R 41 [(.pv (.str p0)), (.pv (.str p1))] [] = some ((.pv (.str r)), [], []) := by have e := dec_run h; exact e
theorem fn_declaration_number : fnA Tryz.prog 42 = some ⟨Tryz.f42, (Tryz.f42.body).getD .skip⟩ := by kernel_rfl
noncomputable def G_declaration_number (p0 : (List UInt8)) : Option (Int × (List UInt8)) := dec (R 42 [(.pv (.str p0))] []) fun r => (.tup [(i64 r.1), (.pv (.str r.2))], [], [])
theorem run_declaration_number {p0 : (List UInt8)} {r : (Int × (List UInt8))} (h : G_declaration_number p0 = some r) : R 42 [(.pv (.str p0))] [] = some (.tup [(i64 r.1), (.pv (.str r.2))], [], []) := by have e := dec_run h; exact e
noncomputable def G_strings_LastIndexByte (p0 : (List UInt8)) (p1 : Int) : Option Int := dec (R 43 [(.pv (.str p0)), (.pv (.int .u8 p1))] []) fun r => ((i64 r), [], [])
theorem run_strings_LastIndexByte {p0 : (List UInt8)} {p1 : Int} {r : Int} (h : G_strings_LastIndexByte p0 p1 = some r) : R 43 [(.pv (.str p0)), (.pv (.int .u8 p1))] [] = some ((i64 r), [], []) := by have e := dec_run h; exact e
noncomputable def G_strconv_ParseUint (p0 : (List UInt8)) (p1 : Int) (p2 : Int) : Option (Int × Bool) := dec (R 44 [(.pv (.str p0)), (i64 p1), (i64 p2)] []) fun r => (.tup [(.pv (.int .u64 r.1)), (.pv (ifP r.2))], [], [])
theorem run_strconv_ParseUint {p0 : (List UInt8)} {p1 : Int} {p2 : Int} {r : (Int × Bool)} (h : G_strconv_ParseUint p0 p1 p2 = some r) : R 44 [(.pv (.str p0)), (i64 p1), (i64 p2)] [] = some (.tup [(.pv (.int .u64 r.1)), (.pv (ifP r.2))], [], []) := by have e := dec_run h; exact e
theorem fn_notation_Parse : fnA Tryz.prog 45 = some ⟨Tryz.f45, (Tryz.f45.body).getD .skip⟩ := by kernel_rfl
noncomputable def G_notation_Parse (p0 : (List UInt8)) : Option (Tru × Int × Int) := dec (R 45 [(.pv (.str p0))] []) fun r => (.tup [(.agg [(i64 r.1.thr), (.pv (.sl r.1.nodes.length (ints r.1.nodes))), (.pv (.sl r.1.inner.length (encTs r.1.inner)))]), (i64 r.2.1), (i64 r.2.2)], [], [])
theorem run_notation_Parse {p0 : (List UInt8)} {r : (Tru × Int × Int)} (h : G_notation_Parse p0 = some r) : R 45 [(.pv (.str p0))] [] = some (.tup [(.agg [(i64 r.1.thr), (.pv (.sl r.1.nodes.length (ints r.1.nodes))), (.pv (.sl r.1.inner.length (encTs r.1.inner)))]), (i64 r.2.1), (i64 r.2.2)], [], []) := by have e := dec_run h; exact e
theorem fn_ref01_Same : fnA Tryz.prog 48 = some ⟨Tryz.f48, (Tryz.f48.body).getD .skip⟩ := by kernel_rfl
noncomputable def G_ref01_Same (p0 : (List Int)) (p1 : (List Int)) : Option Bool := dec (R 48 [(.pv (.sl p0.length (ints p0))), (.pv (.sl p1.length (ints p1)))] []) fun r => ((bl r), [], [])
theorem run_ref01_Same {p0 : (List Int)} {p1 : (List Int)} {r : Bool} (h : G_ref01_Same p0 p1 = some r) : R 48 [(.pv (.sl p0.length (ints p0))), (.pv (.sl p1.length (ints p1)))] [] = some ((bl r), [], []) := by have e := dec_run h; exact e
noncomputable def G_make_SmallTrust (p0 : Tru) : Option Bool := dec (R 49 [(.agg [(i64 p0.thr), (.pv (.sl p0.nodes.length (ints p0.nodes))), (.pv (.sl p0.inner.length (encTs p0.inner)))])] []) fun r => ((bl r), [], [])
theorem fn_make_Tape_Pick : fnA Tryz.prog 50 = some ⟨Tryz.f50, (Tryz.f50.body).getD .skip⟩ := by kernel_rfl
noncomputable def G_make_Tape_Pick (p0 : S_trustquorummake_Tape) (p1 : (List Int)) : Option (Int × S_trustquorummake_Tape) := dec (R 50 [.ptr (.arg 0) 0 0, (.pv (.sl p1.length (ints p1)))] [.box 0 [(.pv (.sl p0.f0.length (ints p0.f0))), (i64 p0.f1)]]) fun r => ((i64 r.1), [.box 0 [(.pv (.sl r.2.f0.length (ints r.2.f0))), (i64 r.2.f1)]], [])
theorem run_make_Tape_Pick {p0 : S_trustquorummake_Tape} {p1 : (List Int)} {r : (Int × S_trustquorummake_Tape)} (h : G_make_Tape_Pick p0 p1 = some r) : R 50 [.ptr (.arg 0) 0 0, (.pv (.sl p1.length (ints p1)))] [.box 0 [(.pv (.sl p0.f0.length (ints p0.f0))), (i64 p0.f1)]] = some ((i64 r.1), [.box 0 [(.pv (.sl r.2.f0.length (ints r.2.f0))), (i64 r.2.f1)]], []) := by have e := dec_run h; exact e
noncomputable def G_make_BentTrust (p0 : S_trustquorummake_Tape) (p1 : Tru) : Option (Tru × S_trustquorummake_Tape) := dec (R 51 [.ptr (.arg 0) 0 0, (.agg [(i64 p1.thr), (.pv (.sl p1.nodes.length (ints p1.nodes))), (.pv (.sl p1.inner.length (encTs p1.inner)))])] [.box 0 [(.pv (.sl p0.f0.length (ints p0.f0))), (i64 p0.f1)]]) fun r => ((.agg [(i64 r.1.thr), (.pv (.sl r.1.nodes.length (ints r.1.nodes))), (.pv (.sl r.1.inner.length (encTs r.1.inner)))]), [.box 0 [(.pv (.sl r.2.f0.length (ints r.2.f0))), (i64 r.2.f1)]], [])
theorem fn_threshold_Valid : fnA Tryz.prog 52 = some ⟨Tryz.f52, (Tryz.f52.body).getD .skip⟩ := by kernel_rfl
noncomputable def G_threshold_Valid (p0 : Tru) : Option Int := dec (R 52 [(.agg [(i64 p0.thr), (.pv (.sl p0.nodes.length (ints p0.nodes))), (.pv (.sl p0.inner.length (encTs p0.inner)))])] []) fun r => ((i64 r), [], [])
theorem run_threshold_Valid {p0 : Tru} {r : Int} (h : G_threshold_Valid p0 = some r) : R 52 [(.agg [(i64 p0.thr), (.pv (.sl p0.nodes.length (ints p0.nodes))), (.pv (.sl p0.inner.length (encTs p0.inner)))])] [] = some ((i64 r), [], []) := by have e := dec_run h; exact e
theorem fn_threshold_Depth : fnA Tryz.prog 53 = some ⟨Tryz.f53, (Tryz.f53.body).getD .skip⟩ := by kernel_rfl
noncomputable def G_threshold_Depth (p0 : Tru) : Option Int := dec (R 53 [(.agg [(i64 p0.thr), (.pv (.sl p0.nodes.length (ints p0.nodes))), (.pv (.sl p0.inner.length (encTs p0.inner)))])] []) fun r => ((i64 r), [], [])
theorem run_threshold_Depth {p0 : Tru} {r : Int} (h : G_threshold_Depth p0 = some r) : R 53 [(.agg [(i64 p0.thr), (.pv (.sl p0.nodes.length (ints p0.nodes))), (.pv (.sl p0.inner.length (encTs p0.inner)))])] [] = some ((i64 r), [], []) := by have e := dec_run h; exact e
theorem fn_threshold_Size : fnA Tryz.prog 54 = some ⟨Tryz.f54, (Tryz.f54.body).getD .skip⟩ := by kernel_rfl
noncomputable def G_threshold_Size (p0 : Tru) : Option Int := dec (R 54 [(.agg [(i64 p0.thr), (.pv (.sl p0.nodes.length (ints p0.nodes))), (.pv (.sl p0.inner.length (encTs p0.inner)))])] []) fun r => ((i64 r), [], [])
theorem run_threshold_Size {p0 : Tru} {r : Int} (h : G_threshold_Size p0 = some r) : R 54 [(.agg [(i64 p0.thr), (.pv (.sl p0.nodes.length (ints p0.nodes))), (.pv (.sl p0.inner.length (encTs p0.inner)))])] [] = some ((i64 r), [], []) := by have e := dec_run h; exact e
theorem fn_ref02_Valid : fnA Tryz.prog 55 = some ⟨Tryz.f55, (Tryz.f55.body).getD .skip⟩ := by kernel_rfl
noncomputable def G_ref02_Valid (p0 : Tru) : Option Int := dec (R 55 [(.agg [(i64 p0.thr), (.pv (.sl p0.nodes.length (ints p0.nodes))), (.pv (.sl p0.inner.length (encTs p0.inner)))])] []) fun r => ((i64 r), [], [])
theorem run_ref02_Valid {p0 : Tru} {r : Int} (h : G_ref02_Valid p0 = some r) : R 55 [(.agg [(i64 p0.thr), (.pv (.sl p0.nodes.length (ints p0.nodes))), (.pv (.sl p0.inner.length (encTs p0.inner)))])] [] = some ((i64 r), [], []) := by have e := dec_run h; exact e
noncomputable def G_strconv_Itoa (p0 : Int) : Option (List UInt8) := dec (R 56 [(i64 p0)] []) fun r => ((.pv (.str r)), [], [])
theorem run_strconv_Itoa {p0 : Int} {r : (List UInt8)} (h : G_strconv_Itoa p0 = some r) : R 56 [(i64 p0)] [] = some ((.pv (.str r)), [], []) := by have e := dec_run h; exact e
theorem fn_notation_Text : fnA Tryz.prog 57 = some ⟨Tryz.f57, (Tryz.f57.body).getD .skip⟩ := by kernel_rfl
noncomputable def G_notation_Text (p0 : Tru) : Option (List UInt8) := dec (R 57 [(.agg [(i64 p0.thr), (.pv (.sl p0.nodes.length (ints p0.nodes))), (.pv (.sl p0.inner.length (encTs p0.inner)))])] []) fun r => ((.pv (.str r)), [], [])
theorem run_notation_Text {p0 : Tru} {r : (List UInt8)} (h : G_notation_Text p0 = some r) : R 57 [(.agg [(i64 p0.thr), (.pv (.sl p0.nodes.length (ints p0.nodes))), (.pv (.sl p0.inner.length (encTs p0.inner)))])] [] = some ((.pv (.str r)), [], []) := by have e := dec_run h; exact e
theorem fn_ref03_Text : fnA Tryz.prog 58 = some ⟨Tryz.f58, (Tryz.f58.body).getD .skip⟩ := by kernel_rfl
noncomputable def G_ref03_Text (p0 : Tru) : Option (List UInt8) := dec (R 58 [(.agg [(i64 p0.thr), (.pv (.sl p0.nodes.length (ints p0.nodes))), (.pv (.sl p0.inner.length (encTs p0.inner)))])] []) fun r => ((.pv (.str r)), [], [])
theorem run_ref03_Text {p0 : Tru} {r : (List UInt8)} (h : G_ref03_Text p0 = some r) : R 58 [(.agg [(i64 p0.thr), (.pv (.sl p0.nodes.length (ints p0.nodes))), (.pv (.sl p0.inner.length (encTs p0.inner)))])] [] = some ((.pv (.str r)), [], []) := by have e := dec_run h; exact e
noncomputable def G_cmp_Compare_int_ (p0 : Int) (p1 : Int) : Option Int := dec (R 60 [(i64 p0), (i64 p1)] []) fun r => ((i64 r), [], [])
noncomputable def G_cmp_Compare_string_ (p0 : (List UInt8)) (p1 : (List UInt8)) : Option Int := dec (R 61 [(.pv (.str p0)), (.pv (.str p1))] []) fun r => ((i64 r), [], [])
noncomputable def G_cmp_Or_int_ (p0 : (List Int)) : Option Int := dec (R 59 [(.pv (.sl p0.length (ints p0)))] []) fun r => ((i64 r), [], [])
noncomputable def G_ref07_sign (p0 : Bool) : Option Int := dec (R 62 [(bl p0)] []) fun r => ((i64 r), [], [])
noncomputable def G_ref07_word (p0 : (List UInt8)) : Option ((List UInt8) × (List UInt8)) := dec (R 63 [(.pv (.str p0))] []) fun r => (.tup [(.pv (.str r.1)), (.pv (.str r.2))], [], [])
noncomputable def G_ref07_small (p0 : (List UInt8)) : Option Int := dec (R 64 [(.pv (.str p0))] []) fun r => ((i64 r), [], [])
noncomputable def G_ref03_Parse (p0 : (List UInt8)) : Option (Tru × Int × Int) := dec (R 65 [(.pv (.str p0))] []) fun r => (.tup [(.agg [(i64 r.1.thr), (.pv (.sl r.1.nodes.length (ints r.1.nodes))), (.pv (.sl r.1.inner.length (encTs r.1.inner)))]), (i64 r.2.1), (i64 r.2.2)], [], [])
theorem fn_make_trust : fnA Tryz.prog 66 = some ⟨Tryz.f66, (Tryz.f66.body).getD .skip⟩ := by kernel_rfl
noncomputable def G_make_trust (p0 : S_trustquorummake_Tape) (p1 : Int) (p2 : Int) : Option (Tru × S_trustquorummake_Tape) := dec (R 66 [.ptr (.arg 0) 0 0, (i64 p1), (i64 p2)] [.box 0 [(.pv (.sl p0.f0.length (ints p0.f0))), (i64 p0.f1)]]) fun r => ((.agg [(i64 r.1.thr), (.pv (.sl r.1.nodes.length (ints r.1.nodes))), (.pv (.sl r.1.inner.length (encTs r.1.inner)))]), [.box 0 [(.pv (.sl r.2.f0.length (ints r.2.f0))), (i64 r.2.f1)]], [])
theorem run_make_trust {p0 : S_trustquorummake_Tape} {p1 : Int} {p2 : Int} {r : (Tru × S_trustquorummake_Tape)} (h : G_make_trust p0 p1 p2 = some r) : R 66 [.ptr (.arg 0) 0 0, (i64 p1), (i64 p2)] [.box 0 [(.pv (.sl p0.f0.length (ints p0.f0))), (i64 p0.f1)]] = some ((.agg [(i64 r.1.thr), (.pv (.sl r.1.nodes.length (ints r.1.nodes))), (.pv (.sl r.1.inner.length (encTs r.1.inner)))]), [.box 0 [(.pv (.sl r.2.f0.length (ints r.2.f0))), (i64 r.2.f1)]], []) := by have e := dec_run h; exact e
theorem fn_strings_Cut : fnA Tryz.prog 68 = some ⟨Tryz.f68, (Tryz.f68.body).getD .skip⟩ := by kernel_rfl
noncomputable def G_strings_Cut (p0 : (List UInt8)) (p1 : (List UInt8)) : Option ((List UInt8) × (List UInt8) × Bool) := dec (R 68 [(.pv (.str p0)), (.pv (.str p1))] []) fun r => (.tup [(.pv (.str r.1)), (.pv (.str r.2.1)), (bl r.2.2)], [], [])
theorem run_strings_Cut {p0 : (List UInt8)} {p1 : (List UInt8)} {r : ((List UInt8) × (List UInt8) × Bool)} (h : G_strings_Cut p0 p1 = some r) : R 68 [(.pv (.str p0)), (.pv (.str p1))] [] = some (.tup [(.pv (.str r.1)), (.pv (.str r.2.1)), (bl r.2.2)], [], []) := by have e := dec_run h; exact e
noncomputable def G_strconv_Atoi (p0 : (List UInt8)) : Option (Int × Bool) := dec (R 69 [(.pv (.str p0))] []) fun r => (.tup [(i64 r.1), (.pv (ifP r.2))], [], [])
theorem run_strconv_Atoi {p0 : (List UInt8)} {r : (Int × Bool)} (h : G_strconv_Atoi p0 = some r) : R 69 [(.pv (.str p0))] [] = some (.tup [(i64 r.1), (.pv (ifP r.2))], [], []) := by have e := dec_run h; exact e
theorem fn_notation_reader_next : fnA Tryz.prog 73 = some ⟨Tryz.f73, (Tryz.f73.body).getD .skip⟩ := by kernel_rfl
noncomputable def G_notation_reader_next (p0 : S_notation_reader) : Option S_notation_reader := dec (R 73 [.ptr (.arg 0) 0 0] [.box 0 [(.pv (.str p0.f0)), (.pv (.str p0.f1)), (i64 p0.f2)]]) fun r => (.tup [], [.box 0 [(.pv (.str r.f0)), (.pv (.str r.f1)), (i64 r.f2)]], [])
theorem run_notation_reader_next {p0 : S_notation_reader} {r : S_notation_reader} (h : G_notation_reader_next p0 = some r) : R 73 [.ptr (.arg 0) 0 0] [.box 0 [(.pv (.str p0.f0)), (.pv (.str p0.f1)), (i64 p0.f2)]] = some (.tup [], [.box 0 [(.pv (.str r.f0)), (.pv (.str r.f1)), (i64 r.f2)]], []) := by have e := dec_run h; exact e
theorem fn_notation_reader_number : fnA Tryz.prog 74 = some ⟨Tryz.f74, (Tryz.f74.body).getD .skip⟩ := by kernel_rfl
noncomputable def G_notation_reader_number (p0 : S_notation_reader) : Option (Int × Bool × S_notation_reader) := dec (R 74 [.ptr (.arg 0) 0 0] [.box 0 [(.pv (.str p0.f0)), (.pv (.str p0.f1)), (i64 p0.f2)]]) fun r => (.tup [(i64 r.1), (bl r.2.1)], [.box 0 [(.pv (.str r.2.2.f0)), (.pv (.str r.2.2.f1)), (i64 r.2.2.f2)]], [])
theorem run_notation_reader_number {p0 : S_notation_reader} {r : (Int × Bool × S_notation_reader)} (h : G_notation_reader_number p0 = some r) : R 74 [.ptr (.arg 0) 0 0] [.box 0 [(.pv (.str p0.f0)), (.pv (.str p0.f1)), (i64 p0.f2)]] = some (.tup [(i64 r.1), (bl r.2.1)], [.box 0 [(.pv (.str r.2.2.f0)), (.pv (.str r.2.2.f1)), (i64 r.2.2.f2)]], []) := by have e := dec_run h; exact e
theorem fn_notation_reader_rest : fnA Tryz.prog 75 = some ⟨Tryz.f75, (Tryz.f75.body).getD .skip⟩ := by kernel_rfl
noncomputable def G_notation_reader_rest (p0 : S_notation_reader) (p1 : Int) : Option (Tru × Bool × S_notation_reader) := dec (R 75 [.ptr (.arg 0) 0 0, (i64 p1)] [.box 0 [(.pv (.str p0.f0)), (.pv (.str p0.f1)), (i64 p0.f2)]]) fun r => (.tup [(.agg [(i64 r.1.thr), (.pv (.sl r.1.nodes.length (ints r.1.nodes))), (.pv (.sl r.1.inner.length (encTs r.1.inner)))]), (bl r.2.1)], [.box 0 [(.pv (.str r.2.2.f0)), (.pv (.str r.2.2.f1)), (i64 r.2.2.f2)]], [])
theorem run_notation_reader_rest {p0 : S_notation_reader} {p1 : Int} {r : (Tru × Bool × S_notation_reader)} (h : G_notation_reader_rest p0 p1 = some r) : R 75 [.ptr (.arg 0) 0 0, (i64 p1)] [.box 0 [(.pv (.str p0.f0)), (.pv (.str p0.f1)), (i64 p0.f2)]] = some (.tup [(.agg [(i64 r.1.thr), (.pv (.sl r.1.nodes.length (ints r.1.nodes))), (.pv (.sl r.1.inner.length (encTs r.1.inner)))]), (bl r.2.1)], [.box 0 [(.pv (.str r.2.2.f0)), (.pv (.str r.2.2.f1)), (i64 r.2.2.f2)]], []) := by have e := dec_run h; exact e
noncomputable def G_make_entries (p0 : Tru) (p1 : Int) : Option Int := dec (R 83 [(.agg [(i64 p0.thr), (.pv (.sl p0.nodes.length (ints p0.nodes))), (.pv (.sl p0.inner.length (encTs p0.inner)))]), (i64 p1)] []) fun r => ((i64 r), [], [])
theorem fn_threshold_level : fnA Tryz.prog 84 = some ⟨Tryz.f84, (Tryz.f84.body).getD .skip⟩ := by kernel_rfl
noncomputable def G_threshold_level (p0 : Tru) : Option Int := dec (R 84 [(.agg [(i64 p0.thr), (.pv (.sl p0.nodes.length (ints p0.nodes))), (.pv (.sl p0.inner.length (encTs p0.inner)))])] []) fun r => ((i64 r), [], [])
theorem run_threshold_level {p0 : Tru} {r : Int} (h : G_threshold_level p0 = some r) : R 84 [(.agg [(i64 p0.thr), (.pv (.sl p0.nodes.length (ints p0.nodes))), (.pv (.sl p0.inner.length (encTs p0.inner)))])] [] = some ((i64 r), [], []) := by have e := dec_run h; exact e
theorem fn_ref02_check : fnA Tryz.prog 85 = some ⟨Tryz.f85, (Tryz.f85.body).getD .skip⟩ := by kernel_rfl
noncomputable def G_ref02_check (p0 : Tru) : Option Int := dec (R 85 [(.agg [(i64 p0.thr), (.pv (.sl p0.nodes.length (ints p0.nodes))), (.pv (.sl p0.inner.length (encTs p0.inner)))])] []) fun r => ((i64 r), [], [])
theorem run_ref02_check {p0 : Tru} {r : Int} (h : G_ref02_check p0 = some r) : R 85 [(.agg [(i64 p0.thr), (.pv (.sl p0.nodes.length (ints p0.nodes))), (.pv (.sl p0.inner.length (encTs p0.inner)))])] [] = some ((i64 r), [], []) := by have e := dec_run h; exact e
theorem fn_notation_write : fnA Tryz.prog 87 = some ⟨Tryz.f87, (Tryz.f87.body).getD .skip⟩ := by kernel_rfl
noncomputable def G_notation_write (p0 : Tru) : Option (List UInt8) := dec (R 87 [(.agg [(i64 p0.thr), (.pv (.sl p0.nodes.length (ints p0.nodes))), (.pv (.sl p0.inner.length (encTs p0.inner)))])] []) fun r => ((.pv (.str r)), [], [])
theorem run_notation_write {p0 : Tru} {r : (List UInt8)} (h : G_notation_write p0 = some r) : R 87 [(.agg [(i64 p0.thr), (.pv (.sl p0.nodes.length (ints p0.nodes))), (.pv (.sl p0.inner.length (encTs p0.inner)))])] [] = some ((.pv (.str r)), [], []) := by have e := dec_run h; exact e
theorem fn_ref03_text : fnA Tryz.prog 88 = some ⟨Tryz.f88, (Tryz.f88.body).getD .skip⟩ := by kernel_rfl
noncomputable def G_ref03_text (p0 : Tru) : Option (List UInt8) := dec (R 88 [(.agg [(i64 p0.thr), (.pv (.sl p0.nodes.length (ints p0.nodes))), (.pv (.sl p0.inner.length (encTs p0.inner)))])] []) fun r => ((.pv (.str r)), [], [])
theorem run_ref03_text {p0 : Tru} {r : (List UInt8)} (h : G_ref03_text p0 = some r) : R 88 [(.agg [(i64 p0.thr), (.pv (.sl p0.nodes.length (ints p0.nodes))), (.pv (.sl p0.inner.length (encTs p0.inner)))])] [] = some ((.pv (.str r)), [], []) := by have e := dec_run h; exact e
noncomputable def G_cmp_isNaN_int_ (p0 : Int) : Option Bool := dec (R 89 [(i64 p0)] []) fun r => ((bl r), [], [])
noncomputable def G_cmp_isNaN_string_ (p0 : (List UInt8)) : Option Bool := dec (R 90 [(.pv (.str p0))] []) fun r => ((bl r), [], [])
noncomputable def G_ref03_reader_number (p0 : S_trustquorumref03_reader) : Option (Int × Bool × S_trustquorumref03_reader) := dec (R 91 [.ptr (.arg 0) 0 0] [.box 0 [(.pv (.str p0.f0)), (i64 p0.f1)]]) fun r => (.tup [(i64 r.1), (bl r.2.1)], [.box 0 [(.pv (.str r.2.2.f0)), (i64 r.2.2.f1)]], [])
noncomputable def G_ref03_reader_rest (p0 : S_trustquorumref03_reader) (p1 : Int) : Option (Tru × Bool × S_trustquorumref03_reader) := dec (R 92 [.ptr (.arg 0) 0 0, (i64 p1)] [.box 0 [(.pv (.str p0.f0)), (i64 p0.f1)]]) fun r => (.tup [(.agg [(i64 r.1.thr), (.pv (.sl r.1.nodes.length (ints r.1.nodes))), (.pv (.sl r.1.inner.length (encTs r.1.inner)))]), (bl r.2.1)], [.box 0 [(.pv (.str r.2.2.f0)), (i64 r.2.2.f1)]], [])
noncomputable def G_ref03_reader_skip (p0 : S_trustquorumref03_reader) : Option S_trustquorumref03_reader := dec (R 93 [.ptr (.arg 0) 0 0] [.box 0 [(.pv (.str p0.f0)), (i64 p0.f1)]]) fun r => (.tup [], [.box 0 [(.pv (.str r.f0)), (i64 r.f1)]], [])
theorem fn_make_Tape_Order : fnA Tryz.prog 94 = some ⟨Tryz.f94, (Tryz.f94.body).getD .skip⟩ := by kernel_rfl
noncomputable def G_make_Tape_Order (p0 : S_trustquorummake_Tape) (p1 : Int) : Option ((List Int) × S_trustquorummake_Tape) := dec (R 94 [.ptr (.arg 0) 0 0, (i64 p1)] [.box 0 [(.pv (.sl p0.f0.length (ints p0.f0))), (i64 p0.f1)]]) fun r => ((.pv (.sl r.1.length (ints r.1))), [.box 0 [(.pv (.sl r.2.f0.length (ints r.2.f0))), (i64 r.2.f1)]], [])
theorem run_make_Tape_Order {p0 : S_trustquorummake_Tape} {p1 : Int} {r : ((List Int) × S_trustquorummake_Tape)} (h : G_make_Tape_Order p0 p1 = some r) : R 94 [.ptr (.arg 0) 0 0, (i64 p1)] [.box 0 [(.pv (.sl p0.f0.length (ints p0.f0))), (i64 p0.f1)]] = some ((.pv (.sl r.1.length (ints r.1))), [.box 0 [(.pv (.sl r.2.f0.length (ints r.2.f0))), (i64 r.2.f1)]], []) := by have e := dec_run h; exact e
noncomputable def G_internal_strconv_small (p0 : Int) : Option (List UInt8) := dec (R 107 [(i64 p0)] []) fun r => ((.pv (.str r)), [], [])
theorem fn_internal_stringslite_Cut : fnA Tryz.prog 96 = some ⟨Tryz.f96, (Tryz.f96.body).getD .skip⟩ := by kernel_rfl
noncomputable def G_internal_stringslite_Cut (p0 : (List UInt8)) (p1 : (List UInt8)) : Option ((List UInt8) × (List UInt8) × Bool) := dec (R 96 [(.pv (.str p0)), (.pv (.str p1))] []) fun r => (.tup [(.pv (.str r.1)), (.pv (.str r.2.1)), (bl r.2.2)], [], [])
theorem run_internal_stringslite_Cut {p0 : (List UInt8)} {p1 : (List UInt8)} {r : ((List UInt8) × (List UInt8) × Bool)} (h : G_internal_stringslite_Cut p0 p1 = some r) : R 96 [(.pv (.str p0)), (.pv (.str p1))] [] = some (.tup [(.pv (.str r.1)), (.pv (.str r.2.1)), (bl r.2.2)], [], []) := by have e := dec_run h; exact e
theorem fn_strings_HasPrefix : fnA Tryz.prog 78 = some ⟨Tryz.f78, (Tryz.f78.body).getD .skip⟩ := by kernel_rfl
noncomputable def G_strings_HasPrefix (p0 : (List UInt8)) (p1 : (List UInt8)) : Option Bool := dec (R 78 [(.pv (.str p0)), (.pv (.str p1))] []) fun r => ((bl r), [], [])
theorem run_strings_HasPrefix {p0 : (List UInt8)} {p1 : (List UInt8)} {r : Bool} (h : G_strings_HasPrefix p0 p1 = some r) : R 78 [(.pv (.str p0)), (.pv (.str p1))] [] = some ((bl r), [], []) := by have e := dec_run h; exact e
noncomputable def G_strings_IndexByte (p0 : (List UInt8)) (p1 : Int) : Option Int := dec (R 104 [(.pv (.str p0)), (.pv (.int .u8 p1))] []) fun r => ((i64 r), [], [])
theorem run_strings_IndexByte {p0 : (List UInt8)} {p1 : Int} {r : Int} (h : G_strings_IndexByte p0 p1 = some r) : R 104 [(.pv (.str p0)), (.pv (.int .u8 p1))] [] = some ((i64 r), [], []) := by have e := dec_run h; exact e
theorem fn_notation_digit : fnA Tryz.prog 105 = some ⟨Tryz.f105, (Tryz.f105.body).getD .skip⟩ := by kernel_rfl
noncomputable def G_notation_digit (p0 : Int) : Option Bool := dec (R 105 [(.pv (.int .u8 p0))] []) fun r => ((bl r), [], [])
theorem run_notation_digit {p0 : Int} {r : Bool} (h : G_notation_digit p0 = some r) : R 105 [(.pv (.int .u8 p0))] [] = some ((bl r), [], []) := by have e := dec_run h; exact e
theorem fn_notation_reader_take : fnA Tryz.prog 106 = some ⟨Tryz.f106, (Tryz.f106.body).getD .skip⟩ := by kernel_rfl
noncomputable def G_notation_reader_take (p0 : S_notation_reader) (p1 : (List UInt8)) : Option (Bool × S_notation_reader) := dec (R 106 [.ptr (.arg 0) 0 0, (.pv (.str p1))] [.box 0 [(.pv (.str p0.f0)), (.pv (.str p0.f1)), (i64 p0.f2)]]) fun r => ((bl r.1), [.box 0 [(.pv (.str r.2.f0)), (.pv (.str r.2.f1)), (i64 r.2.f2)]], [])
theorem run_notation_reader_take {p0 : S_notation_reader} {p1 : (List UInt8)} {r : (Bool × S_notation_reader)} (h : G_notation_reader_take p0 p1 = some r) : R 106 [.ptr (.arg 0) 0 0, (.pv (.str p1))] [.box 0 [(.pv (.str p0.f0)), (.pv (.str p0.f1)), (i64 p0.f2)]] = some ((bl r.1), [.box 0 [(.pv (.str r.2.f0)), (.pv (.str r.2.f1)), (i64 r.2.f2)]], []) := by have e := dec_run h; exact e
theorem fn_slices_ContainsFunc___int_int_ : fnA Tryz.prog 115 = some ⟨Tryz.f115, (Tryz.f115.body).getD .skip⟩ := by kernel_rfl
noncomputable def G_slices_ContainsFunc___int_int_ (p0 : (List Int)) : Option Bool := dec (R 115 [(.pv (.sl p0.length (ints p0))), (.fn 116 [] [])] []) fun r => ((bl r), [], [])
theorem run_slices_ContainsFunc___int_int_ {p0 : (List Int)} {r : Bool} (h : G_slices_ContainsFunc___int_int_ p0 = some r) : R 115 [(.pv (.sl p0.length (ints p0))), (.fn 116 [] [])] [] = some ((bl r), [], []) := by have e := dec_run h; exact e
theorem fn_threshold_level_fn1 : fnA Tryz.prog 116 = some ⟨Tryz.f116, (Tryz.f116.body).getD .skip⟩ := by kernel_rfl
noncomputable def G_threshold_level_fn1 (p0 : Int) : Option Bool := dec (R 116 [(i64 p0)] []) fun r => ((bl r), [], [])
theorem run_threshold_level_fn1 {p0 : Int} {r : Bool} (h : G_threshold_level_fn1 p0 = some r) : R 116 [(i64 p0)] [] = some ((bl r), [], []) := by have e := dec_run h; exact e
theorem fn_nodeset_Of : fnA Tryz.prog 118 = some ⟨Tryz.f118, (Tryz.f118.body).getD .skip⟩ := by kernel_rfl
noncomputable def G_nodeset_Of (p0 : (List Int)) : Option (Int × Int) := dec (R 118 [(.pv (.sl p0.length (ints p0)))] []) fun r => (.tup [(i64 r.1), (i64 r.2)], [], [])
theorem run_nodeset_Of {p0 : (List Int)} {r : (Int × Int)} (h : G_nodeset_Of p0 = some r) : R 118 [(.pv (.sl p0.length (ints p0)))] [] = some (.tup [(i64 r.1), (i64 r.2)], [], []) := by have e := dec_run h; exact e
theorem fn_ref01_Of : fnA Tryz.prog 119 = some ⟨Tryz.f119, (Tryz.f119.body).getD .skip⟩ := by kernel_rfl
noncomputable def G_ref01_Of (p0 : (List Int)) : Option (Int × Int) := dec (R 119 [(.pv (.sl p0.length (ints p0)))] []) fun r => (.tup [(i64 r.1), (i64 r.2)], [], [])
theorem run_ref01_Of {p0 : (List Int)} {r : (Int × Int)} (h : G_ref01_Of p0 = some r) : R 119 [(.pv (.sl p0.length (ints p0)))] [] = some (.tup [(i64 r.1), (i64 r.2)], [], []) := by have e := dec_run h; exact e
noncomputable def G_strings_Join (p0 : (List (List UInt8))) (p1 : (List UInt8)) : Option (List UInt8) := dec (R 121 [(.pv (.sl p0.length (es_str p0))), (.pv (.str p1))] []) fun r => ((.pv (.str r)), [], [])
theorem run_strings_Join {p0 : (List (List UInt8))} {p1 : (List UInt8)} {r : (List UInt8)} (h : G_strings_Join p0 p1 = some r) : R 121 [(.pv (.sl p0.length (es_str p0))), (.pv (.str p1))] [] = some ((.pv (.str r)), [], []) := by have e := dec_run h; exact e
noncomputable def G_ref03_reader_sign (p0 : S_trustquorumref03_reader) (p1 : (List UInt8)) : Option (Bool × S_trustquorumref03_reader) := dec (R 122 [.ptr (.arg 0) 0 0, (.pv (.str p1))] [.box 0 [(.pv (.str p0.f0)), (i64 p0.f1)]]) fun r => ((bl r.1), [.box 0 [(.pv (.str r.2.f0)), (i64 r.2.f1)]], [])
noncomputable def G_bits_Len64 (p0 : Int) : Option Int := dec (R 129 [(.pv (.int .u64 p0))] []) fun r => ((i64 r), [], [])
noncomputable def G_internal_strconv_log10Pow2 (p0 : Int) : Option Int := dec (R 128 [(i64 p0)] []) fun r => ((i64 r), [], [])
noncomputable def G_internal_strconv_bool2_int_ (p0 : Bool) : Option Int := dec (R 130 [(bl p0)] []) fun r => ((i64 r), [], [])
theorem fn_internal_strconv_isPowerOfTwo : fnA Tryz.prog 131 = some ⟨Tryz.f131, (Tryz.f131.body).getD .skip⟩ := by kernel_rfl
noncomputable def G_internal_strconv_isPowerOfTwo (p0 : Int) : Option Bool := dec (R 131 [(i64 p0)] []) fun r => ((bl r), [], [])
theorem run_internal_strconv_isPowerOfTwo {p0 : Int} {r : Bool} (h : G_internal_strconv_isPowerOfTwo p0 = some r) : R 131 [(i64 p0)] [] = some ((bl r), [], []) := by have e := dec_run h; exact e
theorem fn_bits_TrailingZeros : fnA Tryz.prog 132 = some ⟨Tryz.f132, (Tryz.f132.body).getD .skip⟩ := by kernel_rfl
noncomputable def G_bits_TrailingZeros (p0 : Int) : Option Int := dec (R 132 [(.pv (.int .u64 p0))] []) fun r => ((i64 r), [], [])
theorem run_bits_TrailingZeros {p0 : Int} {r : Int} (h : G_bits_TrailingZeros p0 = some r) : R 132 [(.pv (.int .u64 p0))] [] = some ((i64 r), [], []) := by have e := dec_run h; exact e
noncomputable def G_internal_stringslite_Index (p0 : (List UInt8)) (p1 : (List UInt8)) : Option Int := dec (R 123 [(.pv (.str p0)), (.pv (.str p1))] []) fun r => ((i64 r), [], [])
theorem run_internal_stringslite_Index {p0 : (List UInt8)} {p1 : (List UInt8)} {r : Int} (h : G_internal_stringslite_Index p0 p1 = some r) : R 123 [(.pv (.str p0)), (.pv (.str p1))] [] = some ((i64 r), [], []) := by have e := dec_run h; exact e
theorem fn_internal_stringslite_HasPrefix : fnA Tryz.prog 95 = some ⟨Tryz.f95, (Tryz.f95.body).getD .skip⟩ := by kernel_rfl
noncomputable def G_internal_stringslite_HasPrefix (p0 : (List UInt8)) (p1 : (List UInt8)) : Option Bool := dec (R 95 [(.pv (.str p0)), (.pv (.str p1))] []) fun r => ((bl r), [], [])
theorem run_internal_stringslite_HasPrefix {p0 : (List UInt8)} {p1 : (List UInt8)} {r : Bool} (h : G_internal_stringslite_HasPrefix p0 p1 = some r) : R 95 [(.pv (.str p0)), (.pv (.str p1))] [] = some ((bl r), [], []) := by have e := dec_run h; exact e
theorem fn_slices_IndexFunc___int_int_ : fnA Tryz.prog 135 = some ⟨Tryz.f135, (Tryz.f135.body).getD .skip⟩ := by kernel_rfl
noncomputable def G_slices_IndexFunc___int_int_ (p0 : (List Int)) : Option Int := dec (R 135 [(.pv (.sl p0.length (ints p0))), (.fn 116 [] [])] []) fun r => ((i64 r), [], [])
theorem run_slices_IndexFunc___int_int_ {p0 : (List Int)} {r : Int} (h : G_slices_IndexFunc___int_int_ p0 = some r) : R 135 [(.pv (.sl p0.length (ints p0))), (.fn 116 [] [])] [] = some ((i64 r), [], []) := by have e := dec_run h; exact e
theorem fn_threshold_node : fnA Tryz.prog 117 = some ⟨Tryz.f117, (Tryz.f117.body).getD .skip⟩ := by kernel_rfl
noncomputable def G_threshold_node (p0 : Int) : Option Bool := dec (R 117 [(i64 p0)] []) fun r => ((bl r), [], [])
theorem run_threshold_node {p0 : Int} {r : Bool} (h : G_threshold_node p0 = some r) : R 117 [(i64 p0)] [] = some ((bl r), [], []) := by have e := dec_run h; exact e
theorem fn_nodeset_Has : fnA Tryz.prog 136 = some ⟨Tryz.f136, (Tryz.f136.body).getD .skip⟩ := by kernel_rfl
noncomputable def G_nodeset_Has (p0 : Int) (p1 : Int) : Option Bool := dec (R 136 [(i64 p0), (i64 p1)] []) fun r => ((bl r), [], [])
theorem run_nodeset_Has {p0 : Int} {p1 : Int} {r : Bool} (h : G_nodeset_Has p0 p1 = some r) : R 136 [(i64 p0), (i64 p1)] [] = some ((bl r), [], []) := by have e := dec_run h; exact e
theorem fn_ref01_Has : fnA Tryz.prog 137 = some ⟨Tryz.f137, (Tryz.f137.body).getD .skip⟩ := by kernel_rfl
noncomputable def G_ref01_Has (p0 : Int) (p1 : Int) : Option Bool := dec (R 137 [(i64 p0), (i64 p1)] []) fun r => ((bl r), [], [])
theorem run_ref01_Has {p0 : Int} {p1 : Int} {r : Bool} (h : G_ref01_Has p0 p1 = some r) : R 137 [(i64 p0), (i64 p1)] [] = some ((bl r), [], []) := by have e := dec_run h; exact e
noncomputable def G_bits_TrailingZeros64 (p0 : Int) : Option Int := dec (R 143 [(.pv (.int .u64 p0))] []) fun r => ((i64 r), [], [])
theorem run_bits_TrailingZeros64 {p0 : Int} {r : Int} (h : G_bits_TrailingZeros64 p0 = some r) : R 143 [(.pv (.int .u64 p0))] [] = some ((i64 r), [], []) := by have e := dec_run h; exact e
theorem fn_nodeset_Valid : fnA Tryz.prog 144 = some ⟨Tryz.f144, (Tryz.f144.body).getD .skip⟩ := by kernel_rfl
noncomputable def G_nodeset_Valid (p0 : Int) : Option Bool := dec (R 144 [(i64 p0)] []) fun r => ((bl r), [], [])
theorem run_nodeset_Valid {p0 : Int} {r : Bool} (h : G_nodeset_Valid p0 = some r) : R 144 [(i64 p0)] [] = some ((bl r), [], []) := by have e := dec_run h; exact e
theorem fn_ref01_Valid : fnA Tryz.prog 145 = some ⟨Tryz.f145, (Tryz.f145.body).getD .skip⟩ := by kernel_rfl
noncomputable def G_ref01_Valid (p0 : Int) : Option Bool := dec (R 145 [(i64 p0)] []) fun r => ((bl r), [], [])
theorem run_ref01_Valid {p0 : Int} {r : Bool} (h : G_ref01_Valid p0 = some r) : R 145 [(i64 p0)] [] = some ((bl r), [], []) := by have e := dec_run h; exact e
theorem fn_nodeset_below : fnA Tryz.prog 147 = some ⟨Tryz.f147, (Tryz.f147.body).getD .skip⟩ := by kernel_rfl
noncomputable def G_nodeset_below (p0 : Int) (p1 : Int) : Option Bool := dec (R 147 [(i64 p0), (i64 p1)] []) fun r => ((bl r), [], [])
theorem run_nodeset_below {p0 : Int} {p1 : Int} {r : Bool} (h : G_nodeset_below p0 p1 = some r) : R 147 [(i64 p0), (i64 p1)] [] = some ((bl r), [], []) := by have e := dec_run h; exact e
end Go.Am
/-
Plain laws: sets of nodes as numbers, folds, sizes of trusts.
-/
namespace Go.Am
open Go
def in64 (n : Int) : Prop := -9223372036854775808 ≤ n ∧ n ≤ 9223372036854775807
theorem add64_of {a b : Int} (h : -9223372036854775808 ≤ a + b) (h' : a + b ≤ 9223372036854775807) : add64 a b = a + b := wr64_of h h'
theorem sub64_of {a b : Int} (h : -9223372036854775808 ≤ a - b) (h' : a - b ≤ 9223372036854775807) : sub64 a b = a - b := wr64_of h h'
/-! ### bits -/
theorem ofInt_nat (m : Nat) : BitVec.ofInt 64 (m : Int) = BitVec.ofNat 64 m := by
  apply BitVec.eq_of_toNat_eq
  simp
theorem and64_nat {a b : Nat} (ha : a < 2 ^ 63) (hb : b < 2 ^ 63) : and64 (a : Int) (b : Int) = ((a &&& b : Nat) : Int) := by
  unfold and64
  rw [ofInt_nat, ofInt_nat, BitVec.toNat_and, BitVec.toNat_ofNat, BitVec.toNat_ofNat, Nat.mod_eq_of_lt (by omega), Nat.mod_eq_of_lt (by omega)]
  have : a &&& b ≤ a := Nat.and_le_left
  exact wr64_of (by omega) (by omega)
theorem or64_nat {a b : Nat} (ha : a < 2 ^ 63) (hb : b < 2 ^ 63) : or64 (a : Int) (b : Int) = ((a ||| b : Nat) : Int) := by
  unfold or64
  rw [ofInt_nat, ofInt_nat, BitVec.toNat_or, BitVec.toNat_ofNat, BitVec.toNat_ofNat, Nat.mod_eq_of_lt (by omega), Nat.mod_eq_of_lt (by omega)]
  have : a ||| b < 2 ^ 63 := Nat.or_lt_two_pow ha hb
  exact wr64_of (by omega) (by omega)
theorem shl64_one {k : Nat} (h : k < 62) : shl64 1 (k : Int) = ((2 ^ k : Nat) : Int) := by
  unfold shl64
  rw [Int.toNat_natCast, Nat.min_eq_left (by omega), Int.one_mul]
  have : 2 ^ k < 2 ^ 62 := Nat.pow_lt_pow_right (by omega) h
  have e : (2 : Int) ^ k = ((2 ^ k : Nat) : Int) := by simp
  rw [e]
  generalize 2 ^ k = p at this
  exact wr64_of (by omega) (by omega)
theorem shr64_nat (a k : Nat) (h : k ≤ 64) : shr64 (a : Int) (k : Int) = ((a >>> k : Nat) : Int) := by
  unfold shr64
  rw [Int.toNat_natCast, Nat.min_eq_left h, Nat.shiftRight_eq_div_pow]
  rw [Int.fdiv_eq_ediv_of_nonneg _ (Int.pow_nonneg (by omega))]
  simp
/-- an int is a set -/
def setB (s : Int) : Bool := decide (0 ≤ s ∧ s ≤ 1023)
/-- a node is in a set -/
def hasS (s k : Int) : Bool := setB s && (decide (0 ≤ k ∧ k < 10) && s.toNat.testBit k.toNat)
theorem setB_iff {s : Int} : setB s = true ↔ 0 ≤ s ∧ s ≤ 1023 := by simp [setB]
theorem testBit_and_pow (m k : Nat) : (m &&& 2 ^ k = 0) ↔ m.testBit k = false := by
  constructor
  · intro h
    have := congrArg (fun n => Nat.testBit n k) h
    simpa [Nat.testBit_and, Nat.testBit_two_pow_self] using this
  · intro h
    apply Nat.eq_of_testBit_eq
    intro i
    rw [Nat.testBit_and, Nat.testBit_two_pow, Nat.zero_testBit]
    by_cases e : k = i
    · subst e; simp [h]
    · simp [e]
theorem has_and {m k : Nat} (hm : m < 1024) (hk : k < 10) : decide (and64 (m : Int) (shl64 1 (k : Int)) = 0) = !m.testBit k := by
  have hp : 2 ^ k < 2 ^ 10 := Nat.pow_lt_pow_right (by omega) hk
  rw [shl64_one (by omega), and64_nat (by omega) (by omega)]
  have := testBit_and_pow m k
  cases h : m.testBit k
  · rw [h] at this; simp [this]
  · rw [h] at this; simp; intro e; exact absurd (this.1 e) (by simp)
theorem has_shr {m k : Nat} (hm : m < 1024) (hk : k < 10) : decide (and64 (shr64 (m : Int) (k : Int)) 1 = 1) = m.testBit k := by
  rw [shr64_nat _ _ (by omega)]
  have h1 : m >>> k ≤ m := by rw [Nat.shiftRight_eq_div_pow]; exact Nat.div_le_self _ _
  have e := and64_nat (a := m >>> k) (b := 1) (by omega) (by omega)
  rw [show ((1 : Nat) : Int) = 1 from rfl] at e
  rw [e, Nat.testBit]
  rw [Nat.and_comm]
  rcases Nat.mod_two_eq_zero_or_one (m >>> k) with h | h
  · have : 1 &&& m >>> k = 0 := by rw [Nat.one_and_eq_mod_two, h]
    simp [this]
  · have : 1 &&& m >>> k = 1 := by rw [Nat.one_and_eq_mod_two, h]
    simp [this]
theorem mustK_T (inst : Decidable True) : @mustK True inst = some () := if_pos trivial
/-! ### folds -/
theorem foldO_spec {A X : Type} {f : Nat → A → X → Option A} {g : A → X → A} (P : Nat → A → Prop) : ∀ (l : List X) (i : Nat) (a : A),
    (∀ (j : Nat) (a : A) (x : X), l[j]? = some x → P (i + j) a → f (i + j) a x = some (g a x) ∧ P (i + j + 1) (g a x)) → P i a →
    foldO f i a l = some (l.foldl g a) ∧ P (i + l.length) (l.foldl g a)
  | [], i, a, _, h => ⟨rfl, h⟩
  | x :: r, i, a, hf, h => by
    obtain ⟨h1, h2⟩ := hf 0 a x rfl h
    simp only [Nat.add_zero] at h1 h2
    have ih := foldO_spec P r (i + 1) (g a x) (fun j a x hj hp => by
      have := hf (j + 1) a x (by simpa using hj) (by rw [show i + (j + 1) = i + 1 + j by omega]; exact hp)
      rw [show i + (j + 1) = i + 1 + j by omega] at this
      exact this) h2
    constructor
    · show kb (f i a x) _ = _
      rw [h1, kb_some]
      exact ih.1
    · rw [List.length_cons, show i + (r.length + 1) = i + 1 + r.length by omega]
      exact ih.2
theorem foldO_inv {A X : Type} {f : Nat → A → X → Option A} (P : Nat → A → Prop) : ∀ (l : List X) (i : Nat) (a : A),
    (∀ (j : Nat) (a : A) (x : X), l[j]? = some x → P (i + j) a → ∃ a', f (i + j) a x = some a' ∧ P (i + j + 1) a') → P i a →
    ∃ a', foldO f i a l = some a' ∧ P (i + l.length) a'
  | [], i, a, _, h => ⟨a, rfl, h⟩
  | x :: r, i, a, hf, h => by
    obtain ⟨a1, h1, h2⟩ := hf 0 a x rfl h
    simp only [Nat.add_zero] at h1 h2
    obtain ⟨a2, h3, h4⟩ := foldO_inv P r (i + 1) a1 (fun j a x hj hp => by
      have := hf (j + 1) a x (by simpa using hj) (by rw [show i + (j + 1) = i + 1 + j by omega]; exact hp)
      rw [show i + (j + 1) = i + 1 + j by omega] at this
      exact this) h2
    refine ⟨a2, ?_, ?_⟩
    · show kb (f i a x) _ = _
      rw [h1, kb_some]
      exact h3
    · rw [List.length_cons, show i + (r.length + 1) = i + 1 + r.length by omega]
      exact h4
/-- a fold that goes on or comes back -/
theorem loopL_spec {A X R : Type} {f : Nat → A → X → Option (Stp A R)} (g : A → X → Stp A R) (out : A → List X → Stp A R) (P : Nat → A → Prop)
    (h0 : ∀ a, out a [] = .go a) (h1 : ∀ a x r, out a (x :: r) = match g a x with
      | .go a' => out a' r
      | .ex _ a' => .go a'
      | .ret u => .ret u) : ∀ (l : List X) (i : Nat) (a : A),
    (∀ (j : Nat) (a : A) (x : X), l[j]? = some x → P (i + j) a → f (i + j) a x = some (g a x) ∧ ∀ a', g a x = .go a' → P (i + j + 1) a') → P i a →
    loopL f i a l = some (out a l)
  | [], i, a, _, h => by rw [h0]; rfl
  | x :: r, i, a, hf, h => by
    obtain ⟨e1, e2⟩ := hf 0 a x rfl h
    simp only [Nat.add_zero] at e1 e2
    rw [h1]
    show kb (f i a x) _ = _
    rw [e1, kb_some]
    cases hg : g a x with
    | go a' =>
      exact loopL_spec g out P h0 h1 r (i + 1) a' (fun j a x hj hp => by
        have := hf (j + 1) a x (by simpa using hj) (by rw [show i + (j + 1) = i + 1 + j by omega]; exact hp)
        rw [show i + (j + 1) = i + 1 + j by omega] at this
        exact this) (e2 a' hg)
    | ex _ a' => rfl
    | ret u => rfl
/-- a loop that goes on while a measure falls -/
theorem iterW_spec {A R : Type} {f : A → Option (Stp A R)} (I : Nat → A → Prop) (Q : Stp A R → Prop)
    (h : ∀ n a, I n a → (∃ a' n', f a = some (.go a') ∧ n' < n ∧ I n' a') ∨ (∃ k a', f a = some (.ex k a') ∧ Q (.go a')) ∨ (∃ r, f a = some (.ret r) ∧ Q (.ret r))) :
    ∀ (n : Nat) (a : A), I n a → ∃ x, iterW f a = some x ∧ Q x := by
  intro n
  induction n using Nat.strongRecOn with
  | _ n ih =>
    intro a ha
    rcases h n a ha with ⟨a', n', h1, h2, h3⟩ | ⟨k, a', h1, h2⟩ | ⟨r, h1, h2⟩
    · rw [iterW_go h1]; exact ih n' h2 a' h3
    · exact ⟨_, iterW_ex h1, h2⟩
    · exact ⟨_, iterW_ret h1, h2⟩
/-! ### sizes of trusts -/
mutual
/-- the number of entries -/
def Tru.size : Tru → Nat
  | .mk _ n i => n.length + (i.length + sizes i)
def sizes : List Tru → Nat
  | [] => 0
  | x :: r => x.size + sizes r
end
mutual
/-- the numbers in a trust are ints -/
def Tru.Ok : Tru → Prop
  | .mk t n i => in64 t ∧ ((∀ k ∈ n, in64 k) ∧ Oks i)
def Oks : List Tru → Prop
  | [] => True
  | x :: r => x.Ok ∧ Oks r
end
theorem size_eq (x : Tru) : x.size = x.nodes.length + (x.inner.length + sizes x.inner) := by cases x; rfl
theorem Ok_eq (x : Tru) : x.Ok ↔ in64 x.thr ∧ ((∀ k ∈ x.nodes, in64 k) ∧ Oks x.inner) := by cases x; rfl
theorem sizes_mem : ∀ {l : List Tru} {x : Tru}, x ∈ l → x.size + l.length ≤ sizes l + l.length
  | [], x, h => by cases h
  | y :: r, x, h => by
    simp only [sizes, List.length_cons]
    cases h with
    | head => omega
    | tail _ h => have := sizes_mem h; omega
theorem Oks_mem : ∀ {l : List Tru} {x : Tru}, x ∈ l → Oks l → x.Ok
  | [], x, h, _ => by cases h
  | y :: r, x, h, ho => by
    cases h with
    | head => exact ho.1
    | tail _ h => exact Oks_mem h ho.2
theorem Oks_iff : ∀ {l : List Tru}, Oks l ↔ ∀ x ∈ l, x.Ok
  | [] => by simp [Oks]
  | y :: r => by simp [Oks, Oks_iff (l := r)]
theorem sizes_app : ∀ (a b : List Tru), sizes (a ++ b) = sizes a + sizes b
  | [], b => by simp [sizes]
  | x :: r, b => by simp [sizes, sizes_app r b]; omega
/-- induction over trusts -/
theorem tru_ind {p : Tru → Prop} (h : ∀ t n i, (∀ x ∈ i, p x) → p (.mk t n i)) : ∀ x, p x := by
  intro x
  have := @Tru.rec (motive_1 := p) (motive_2 := fun l => ∀ x ∈ l, p x) (fun t n i hi => h t n i hi) (fun x hx => by cases hx) (fun y r hy hr x hx => by
    cases hx with
    | head => exact hy
    | tail _ hx => exact hr x hx)
  exact this x
/-- a trust that is small enough for the machine -/
def Tru.Fine (x : Tru) : Prop := x.size < 1073741824 ∧ x.Ok
theorem Fine_inner {x y : Tru} (h : x.Fine) (hy : y ∈ x.inner) : y.Fine := by
  obtain ⟨h1, h2⟩ := h
  rw [size_eq] at h1
  rw [Ok_eq] at h2
  exact ⟨by have := sizes_mem hy; omega, Oks_mem hy h2.2.2⟩
theorem Fine_len {x : Tru} (h : x.Fine) : x.nodes.length + x.inner.length < 1073741824 := by
  have := h.1; rw [size_eq] at this; omega
end Go.Am
namespace Go.Am
open Go Go.Proofs
set_option maxRecDepth 4000
set_option maxHeartbeats 4000000
open Int renaming ofNat_lt → Iqa, ofNat_le → Iqb, natCast_eq_zero → Iqc, natCast_pos → Iqd
open List renaming length_eq_zero_iff → Lqa, getElem?_cons_zero → Lqb, getElem?_cons_succ → Lqc, getElem?_nil → Lqd
noncomputable def B_ref01_Valid (p0 : Int) : Option Bool :=
  cnd (decide (0 ≤ p0)) (
    some (decide (p0 ≤ 1023))) (
    some false)
theorem sim_ref01_Valid {p0 : Int} {r : Bool} (hB : B_ref01_Valid p0 = some r) : R 145 [(i64 p0)] [] = some ((bl r), [], []) := by
  rw [R_eq _ _ _ fn_ref01_Valid]
  simp only [Code.fst, Code.snd, Tryz.f145, Option.getD_some]
  generalize hr1 : Code.region 1 _ _ = rr1
  unfold B_ref01_Valid at hB
  rcases cnd_inv hB with ⟨c1, hB⟩ | ⟨c1, hB⟩
  · have pc1 := eq_true (of_decide_eq_true c1)
    obtain rfl := Option.some.inj hB
    subst hr1
    simp -implicitDefEqProofs [-getElem?_pos, -Iqa, -Iqb, -Iqc, -Iqd, -Lqa, Lqb, Lqc, Lqd, c1, pc1]
  · have pc1 := eq_false (of_decide_eq_false c1)
    obtain rfl := Option.some.inj hB
    subst hr1
    simp -implicitDefEqProofs [-getElem?_pos, -Iqa, -Iqb, -Iqc, -Iqd, -Lqa, Lqb, Lqc, Lqd, c1, pc1]
theorem g_ref01_Valid {p0 : Int} {r : Bool} (hB : B_ref01_Valid p0 = some r) : G_ref01_Valid p0 = some r := dec_of (fun a b h => by rcases a with a0_; rcases b with b0_; simp at h; simp [*]) (sim_ref01_Valid hB)
end Go.Am
namespace Go.Am
open Go Go.Proofs
set_option maxRecDepth 4000
set_option maxHeartbeats 4000000
open Int renaming ofNat_lt → Iqa, ofNat_le → Iqb, natCast_eq_zero → Iqc, natCast_pos → Iqd, cast_ofNat_Int → Iqe, natCast_zero → Iqf
open List renaming length_eq_zero_iff → Lqa, getElem?_cons_zero → Lqb, getElem?_cons_succ → Lqc, getElem?_nil → Lqd, length_cons → Lqe, length_nil → Lqf, nil_append → Lqg, cons_append → Lqh
open Nat renaming zero_add → Nqa
open Tru renaming thr_mk → Tqa, nodes_mk → Tqb, inner_mk → Tqc
open Go.Am renaming es_api_Declaration_cons → Eqa, es_api_Declaration_nil → Eqb, es_api_Evidence_cons → Eqc, es_api_Evidence_nil → Eqd, ints_cons → Eqe, ints_nil → Eqf, encTs_cons → Eqg, encTs_nil → Eqh, es_str_cons → Eqi, es_str_nil → Eqj, es_u64_cons → Eqk, es_u64_nil → Eql, es_u8_cons → Eqm, es_u8_nil → Eqn
noncomputable def B_ref01_Has (p0 : Int) (p1 : Int) : Option Bool :=
  kb (G_ref01_Valid p0) fun y1 =>
  cnd y1 (
    cnd (decide (0 ≤ p1)) (
      cnd (decide (p1 < 10)) (
        kb (mustK (¬ p1 < 0)) fun _ =>
        some (decide ((and64 (shr64 p0 p1) 1) = 1))) (
        some false)) (
      some false)) (
    some false)
theorem sim_ref01_Has {p0 : Int} {p1 : Int} {r : Bool} (hB : B_ref01_Has p0 p1 = some r) : R 137 [(i64 p0), (i64 p1)] [] = some ((bl r), [], []) := by
  rw [R_eq _ _ _ fn_ref01_Has]
  simp only [Code.fst, Code.snd, Tryz.f137, Option.getD_some]
  generalize hr1 : Code.region 1 _ _ = rr1
  unfold B_ref01_Has at hB
  obtain ⟨y1, k2, hB⟩ := kb_inv hB
  replace k2 := run_ref01_Valid k2
  try simp only [Iqe, Iqf, Lqe, Lqf, Lqg, Lqh, Nqa, Nat.reduceAdd, Tqa, Tqb, Tqc, Eqe, Eqf, Eqg, Eqh, Eqa, Eqb, Eqc, Eqd, Eqi, Eqj, Eqk, Eql, Eqm, Eqn] at k2
  try dsimp only at hB
  rcases cnd_inv hB with ⟨c3, hB⟩ | ⟨c3, hB⟩
  · rcases cnd_inv hB with ⟨c4, hB⟩ | ⟨c4, hB⟩
    · have pc4 := eq_true (of_decide_eq_true c4)
      rcases cnd_inv hB with ⟨c5, hB⟩ | ⟨c5, hB⟩
      · have pc5 := eq_true (of_decide_eq_true c5)
        obtain ⟨_, n6, hB⟩ := kb_inv hB
        have n6a := mustK_inv n6
        try dsimp only at hB
        obtain rfl := Option.some.inj hB
        subst hr1
        simp -implicitDefEqProofs [-getElem?_pos, -Iqa, -Iqb, -Iqc, -Iqd, -Lqa, Lqb, Lqc, Lqd, k2, c3, c4, pc4, c5, pc5, n6a]
      · have pc5 := eq_false (of_decide_eq_false c5)
        obtain rfl := Option.some.inj hB
        subst hr1
        simp -implicitDefEqProofs [-getElem?_pos, -Iqa, -Iqb, -Iqc, -Iqd, -Lqa, Lqb, Lqc, Lqd, k2, c3, c4, pc4, c5, pc5]
    · have pc4 := eq_false (of_decide_eq_false c4)
      obtain rfl := Option.some.inj hB
      subst hr1
      simp -implicitDefEqProofs [-getElem?_pos, -Iqa, -Iqb, -Iqc, -Iqd, -Lqa, Lqb, Lqc, Lqd, k2, c3, c4, pc4]
  · obtain rfl := Option.some.inj hB
    subst hr1
    simp -implicitDefEqProofs [-getElem?_pos, -Iqa, -Iqb, -Iqc, -Iqd, -Lqa, Lqb, Lqc, Lqd, k2, c3]
theorem g_ref01_Has {p0 : Int} {p1 : Int} {r : Bool} (hB : B_ref01_Has p0 p1 = some r) : G_ref01_Has p0 p1 = some r := dec_of (fun a b h => by rcases a with a0_; rcases b with b0_; simp at h; simp [*]) (sim_ref01_Has hB)
end Go.Am
namespace Go.Am
open Go Go.Proofs
set_option maxRecDepth 4000
set_option maxHeartbeats 4000000
open Int renaming ofNat_lt → Iqa, ofNat_le → Iqb, natCast_eq_zero → Iqc, natCast_pos → Iqd, cast_ofNat_Int → Iqe, natCast_zero → Iqf
open List renaming length_eq_zero_iff → Lqa, getElem?_cons_zero → Lqb, getElem?_cons_succ → Lqc, getElem?_nil → Lqd, length_cons → Lqe, length_nil → Lqf, nil_append → Lqg, cons_append → Lqh
open Nat renaming zero_add → Nqa
open Tru renaming thr_mk → Tqa, nodes_mk → Tqb, inner_mk → Tqc
open Go.Am renaming es_api_Declaration_cons → Eqa, es_api_Declaration_nil → Eqb, es_api_Evidence_cons → Eqc, es_api_Evidence_nil → Eqd, ints_cons → Eqe, ints_nil → Eqf, encTs_cons → Eqg, encTs_nil → Eqh, es_str_cons → Eqi, es_str_nil → Eqj, es_u64_cons → Eqk, es_u64_nil → Eql, es_u8_cons → Eqm, es_u8_nil → Eqn
noncomputable def B_ref01_Of_0 (p4_0 : Int) (e2 : Int) (p0 : (List Int)) (i1 : Nat) : Option Bool :=
  cnd (decide (e2 < 0)) (
    some true) (
    some (decide (10 ≤ e2)))
def J_ref01_Of_0 (p4_0 : Int) (e2 : Int) (p0 : (List Int)) (i1 : Nat) (q : St) : Prop := q (.t 4) = (i64 p4_0) ∧ q (.t 6) = (i64 e2) ∧ q (.t 7) = (.pv (.sl p0.length (ints p0))) ∧ q (.t 8) = (i64 (p0.length : Int)) ∧ q (.t 9) = (i64 (i1 : Int))
def Q_ref01_Of_0 (p4_0 : Int) (e2 : Int) (p0 : (List Int)) (i1 : Nat) (o18_0 : Bool) (q : St) : Prop := q (.t 18) = (bl o18_0) ∧ q (.t 4) = (i64 p4_0) ∧ q (.t 6) = (i64 e2) ∧ q (.t 7) = (.pv (.sl p0.length (ints p0))) ∧ q (.t 8) = (i64 (p0.length : Int)) ∧ q (.t 9) = (i64 (i1 : Int))
theorem P_ref01_Of_0 {p4_0 : Int} {e2 : Int} {p0 : (List Int)} {i1 : Nat} {cc : Code} (hcc : cc = (Code.fst (Code.fst (Code.snd (Code.fst (Code.fst (Code.snd (Code.snd (Code.fst (Code.fst (Code.snd (Code.fst (Code.snd (Code.snd ((Tryz.f119.body).getD .skip))))))))))))))) {s : St} {z : Option (Ex × St)} (hz : C Tryz.prog cf cc s = z) {r : Bool} (hI : J_ref01_Of_0 p4_0 e2 p0 i1 s) (hB : B_ref01_Of_0 p4_0 e2 p0 i1 = some r) : Res z (postG (fun a q => Q_ref01_Of_0 p4_0 e2 p0 i1 a q) r) := by
  subst hcc
  subst hz
  simp only [J_ref01_Of_0] at hI
  obtain ⟨q1, q2, q3, q4, q5⟩ := hI
  simp only [Code.fst, Code.snd, Tryz.f119, Option.getD_some]
  unfold B_ref01_Of_0 at hB
  rcases cnd_inv hB with ⟨c2, hB⟩ | ⟨c2, hB⟩
  · have pc2 := eq_true (of_decide_eq_true c2)
    obtain rfl := Option.some.inj hB
    try simp -implicitDefEqProofs [-getElem?_pos, -Iqa, -Iqb, -Iqc, -Iqd, -Lqa, Lqb, Lqc, Lqd, q1, q2, q3, q4, q5, c2, pc2]
    refine Res.g ?_
    simp -implicitDefEqProofs [-getElem?_pos, -Iqa, -Iqb, -Iqc, -Iqd, -Lqa, Lqb, Lqc, Lqd, and_assoc, Q_ref01_Of_0, ownAt, q1, q2, q3, q4, q5, c2, pc2]
  · have pc2 := eq_false (of_decide_eq_false c2)
    obtain rfl := Option.some.inj hB
    try simp -implicitDefEqProofs [-getElem?_pos, -Iqa, -Iqb, -Iqc, -Iqd, -Lqa, Lqb, Lqc, Lqd, q1, q2, q3, q4, q5, c2, pc2]
    refine Res.g ?_
    simp -implicitDefEqProofs [-getElem?_pos, -Iqa, -Iqb, -Iqc, -Iqd, -Lqa, Lqb, Lqc, Lqd, and_assoc, Q_ref01_Of_0, ownAt, q1, q2, q3, q4, q5, c2, pc2]
noncomputable def B_ref01_Of_1 (p0 : (List Int)) (i1 : Nat) (x4_1 : Int) (e2 : Int) : Option (Stp Int Int) :=
  kb (B_ref01_Of_0 x4_1 e2 p0 i1) fun z3 =>
  cnd z3 (
    some (.ret 5)) (
    kb (G_ref01_Has x4_1 e2) fun y5 =>
    cnd y5 (
      some (.ret 6)) (
      kb (mustK (¬ e2 < 0)) fun _ =>
      some (.go (or64 x4_1 (shl64 1 e2)))))
def I_ref01_Of_1 (p0 : (List Int)) (i1 : Nat) (x4_1 : Int) (q : St) : Prop := q (.t 4) = (i64 x4_1) ∧ q (.t 7) = (.pv (.sl p0.length (ints p0))) ∧ q (.t 8) = (i64 (p0.length : Int)) ∧ q (.t 9) = (i64 (i1 : Int))
def Q_ref01_Of_1 (p0 : (List Int)) (x4_1 : Int) (q : St) : Prop := q (.t 4) = (i64 x4_1)
def QR_ref01_Of_1 (p0 : (List Int)) (r3_1 : Int) (q : St) : Prop := q (.t 2) = (i64 0) ∧ q (.t 3) = (i64 r3_1)
theorem Pb_ref01_Of_1 {p0 : (List Int)} {i1 : Nat} {x4_1 : Int} {e2 : Int} {q : St} {r : (Stp Int Int)} (hx : p0[i1]? = some e2) (hi : i1 < p0.length) (hn : p0.length < 4611686018427387904) (hI : I_ref01_Of_1 p0 i1 x4_1 q) (hB : B_ref01_Of_1 p0 i1 x4_1 e2 = some r) : Res (C Tryz.prog cf (Code.fst (Code.fst (Code.snd (Code.fst (Code.snd (Code.snd ((Tryz.f119.body).getD .skip))))))) q) (postB 0 (fun a q => I_ref01_Of_1 p0 (i1 + 1) a q) (fun a q => Q_ref01_Of_1 p0 a q) (fun a q => QR_ref01_Of_1 p0 a q) r) := by
  have hi3 : (i1 : Int) < (p0.length : Int) := by omega
  have hi2 := decide_eq_true hi3
  have hi4 := idx_step hi hn
  have hi5 := ne_of_get hx
  simp only [I_ref01_Of_1] at hI
  obtain ⟨q1, q2, q3, q4⟩ := hI
  simp only [Code.fst, Code.snd, Tryz.f119, Option.getD_some]
  generalize hc0 : Code.region 5 _ _ = cc0
  generalize hr9 : Code.region 9 _ _ = rr9
  unfold B_ref01_Of_1 at hB
  try simp -implicitDefEqProofs [-getElem?_pos, -Iqa, -Iqb, -Iqc, -Iqd, -Lqa, Lqb, Lqc, Lqd, q1, q2, q3, q4, hx, hi2, hi3, hi4, hi5]
  generalize hz0 : C Tryz.prog cf cc0 _ = z0
  obtain ⟨z3, hB1, hB⟩ := kb_inv hB
  have hJ := P_ref01_Of_0 (hc0.symm.trans (by kernel_rfl)) hz0 (by simp -implicitDefEqProofs [-getElem?_pos, -Iqa, -Iqb, -Iqc, -Iqd, -Lqa, Lqb, Lqc, Lqd, and_assoc, J_ref01_Of_0, ownAt, q1, q2, q3, q4, hx, hi2, hi3, hi4, hi5]) hB1
  obtain ⟨e0, s0, rfl, hq⟩ := hJ.open
  clear hB1
  obtain ⟨rfl, hq⟩ := hq
  simp only [Q_ref01_Of_0] at hq
  obtain ⟨q3_1, q3_2, q3_3, q3_4, q3_5, q3_6⟩ := hq
  rcases cnd_inv hB with ⟨c4, hB⟩ | ⟨c4, hB⟩
  · obtain rfl := Option.some.inj hB
    try simp -implicitDefEqProofs [-getElem?_pos, -Iqa, -Iqb, -Iqc, -Iqd, -Lqa, Lqb, Lqc, Lqd, q3_1, q3_2, q3_3, q3_4, q3_5, q3_6, hx, hi2, hi3, hi4, hi5, c4]
    refine Res.bret ?_
    simp -implicitDefEqProofs [-getElem?_pos, -Iqa, -Iqb, -Iqc, -Iqd, -Lqa, Lqb, Lqc, Lqd, and_assoc, QR_ref01_Of_1, ownAt, q3_1, q3_2, q3_3, q3_4, q3_5, q3_6, hx, hi2, hi3, hi4, hi5, c4]
  · obtain ⟨y5, k6, hB⟩ := kb_inv hB
    replace k6 := run_ref01_Has k6
    try simp only [Iqe, Iqf, Lqe, Lqf, Lqg, Lqh, Nqa, Nat.reduceAdd, Tqa, Tqb, Tqc, Eqe, Eqf, Eqg, Eqh, Eqa, Eqb, Eqc, Eqd, Eqi, Eqj, Eqk, Eql, Eqm, Eqn, c4] at k6
    try dsimp only at hB
    rcases cnd_inv hB with ⟨c7, hB⟩ | ⟨c7, hB⟩
    · obtain rfl := Option.some.inj hB
      try simp -implicitDefEqProofs [-getElem?_pos, -Iqa, -Iqb, -Iqc, -Iqd, -Lqa, Lqb, Lqc, Lqd, q3_1, q3_2, q3_3, q3_4, q3_5, q3_6, hx, hi2, hi3, hi4, hi5, c4, k6, c7]
      refine Res.bret ?_
      simp -implicitDefEqProofs [-getElem?_pos, -Iqa, -Iqb, -Iqc, -Iqd, -Lqa, Lqb, Lqc, Lqd, and_assoc, QR_ref01_Of_1, ownAt, q3_1, q3_2, q3_3, q3_4, q3_5, q3_6, hx, hi2, hi3, hi4, hi5, c4, k6, c7]
    · obtain ⟨_, n8, hB⟩ := kb_inv hB
      have n8a := mustK_inv n8
      try dsimp only at hB
      obtain rfl := Option.some.inj hB
      subst hr9
      try simp -implicitDefEqProofs [-getElem?_pos, -Iqa, -Iqb, -Iqc, -Iqd, -Lqa, Lqb, Lqc, Lqd, q3_1, q3_2, q3_3, q3_4, q3_5, q3_6, hx, hi2, hi3, hi4, hi5, c4, k6, c7, n8a]
      refine Res.bgo ?_
      simp -implicitDefEqProofs [-getElem?_pos, -Iqa, -Iqb, -Iqc, -Iqd, -Lqa, Lqb, Lqc, Lqd, and_assoc, I_ref01_Of_1, ownAt, q3_1, q3_2, q3_3, q3_4, q3_5, q3_6, hx, hi2, hi3, hi4, hi5, c4, k6, c7, n8a]
theorem Pe_ref01_Of_1 {p0 : (List Int)} {x4_1 : Int} {q : St} (hI : I_ref01_Of_1 p0 p0.length x4_1 q) : Res (C Tryz.prog cf (Code.fst (Code.fst (Code.snd (Code.fst (Code.snd (Code.snd ((Tryz.f119.body).getD .skip))))))) q) fun e q' => e = .exit 0 ∧ Q_ref01_Of_1 p0 x4_1 q' := by
  simp only [I_ref01_Of_1] at hI
  obtain ⟨q1, q2, q3, q4⟩ := hI
  simp only [Code.fst, Code.snd, Tryz.f119, Option.getD_some]
  simp -implicitDefEqProofs [-getElem?_pos, -Iqa, -Iqb, -Iqc, -Iqd, -Lqa, Lqb, Lqc, Lqd, q1, q2, q3, q4]
  refine Res.x ?_
  simp -implicitDefEqProofs [-getElem?_pos, -Iqa, -Iqb, -Iqc, -Iqd, -Lqa, Lqb, Lqc, Lqd, and_assoc, Q_ref01_Of_1, ownAt, q1, q2, q3, q4]
theorem P_ref01_Of_1 {p0 : (List Int)} {x4_1 : Int} {cc : Code} (hcc : cc = .block 0 (.loop (Code.fst (Code.fst (Code.snd (Code.fst (Code.snd (Code.snd ((Tryz.f119.body).getD .skip))))))))) {s : St} {z : Option (Ex × St)} (hz : C Tryz.prog cf cc s = z) {r : (Stp Int Int)} (hn : p0.length < 4611686018427387904) (hI : I_ref01_Of_1 p0 0 x4_1 s) (hB : loopL (fun i a x => B_ref01_Of_1 p0 i a x) 0 x4_1 p0 = some r) : Res z (postS (fun a q => Q_ref01_Of_1 p0 a q) (fun a q => QR_ref01_Of_1 p0 a q) r) := by
  subst hcc
  exact loopL_sim (I := fun i a q => I_ref01_Of_1 p0 i a q) (Q := (fun a q => Q_ref01_Of_1 p0 a q)) (QR := (fun a q => QR_ref01_Of_1 p0 a q)) (fun i x a q r hx hi h hB => Pb_ref01_Of_1 hx hi hn h hB) (fun a q h => Pe_ref01_Of_1 h) hI hz hB
noncomputable def B_ref01_Of (p0 : (List Int)) : Option (Int × Int) :=
  kb (smallK p0) fun _ =>
  kb (loopL (fun i a x => B_ref01_Of_1 p0 i a x) 0 0 p0) fun o => stpK o (fun z9 =>
    some (z9, 0)) (fun z9r =>
    some (0, z9r))
theorem sim_ref01_Of {p0 : (List Int)} {r : (Int × Int)} (hB : B_ref01_Of p0 = some r) : R 119 [(.pv (.sl p0.length (ints p0)))] [] = some (.tup [(i64 r.1), (i64 r.2)], [], []) := by
  rw [R_eq _ _ _ fn_ref01_Of]
  simp only [Code.fst, Code.snd, Tryz.f119, Option.getD_some]
  generalize hc1 : Code.block 0 _ = cc1
  unfold B_ref01_Of at hB
  try simp -implicitDefEqProofs [-getElem?_pos, -Iqa, -Iqb, -Iqc, -Iqd, -Lqa, Lqb, Lqc, Lqd]
  generalize hz1 : C Tryz.prog cf cc1 _ = z1
  obtain ⟨_, hsm, hB⟩ := kb_inv hB
  obtain ⟨o, hB1, hB⟩ := kb_inv hB
  have hJ := P_ref01_Of_1 (hc1.symm.trans (by kernel_rfl)) hz1 (smallK_inv hsm) (by simp -implicitDefEqProofs [-getElem?_pos, -Iqa, -Iqb, -Iqc, -Iqd, -Lqa, Lqb, Lqc, Lqd, and_assoc, I_ref01_Of_1, ownAt]) hB1
  obtain ⟨e1, s1, rfl, hq⟩ := hJ.open
  clear hB1
  rcases o with z9 | ⟨_, _⟩ | z9r
  · simp only [stpK_go] at hB
    obtain ⟨rfl, hq⟩ := hq
    simp only [Q_ref01_Of_1] at hq
    have q9_1 := hq
    obtain rfl := Option.some.inj hB
    simp -implicitDefEqProofs [-getElem?_pos, -Iqa, -Iqb, -Iqc, -Iqd, -Lqa, Lqb, Lqc, Lqd, q9_1]
  · exact hq.elim
  · simp only [stpK_ret] at hB
    obtain ⟨rfl, hq⟩ := hq
    simp only [QR_ref01_Of_1] at hq
    obtain ⟨q9_r1, q9_r2⟩ := hq
    obtain rfl := Option.some.inj hB
    simp -implicitDefEqProofs [-getElem?_pos, -Iqa, -Iqb, -Iqc, -Iqd, -Lqa, Lqb, Lqc, Lqd, q9_r1, q9_r2]
theorem g_ref01_Of {p0 : (List Int)} {r : (Int × Int)} (hB : B_ref01_Of p0 = some r) : G_ref01_Of p0 = some r := dec_of (fun a b h => by rcases a with ⟨a0_, a1_⟩; rcases b with ⟨b0_, b1_⟩; simp at h; simp [*]) (sim_ref01_Of hB)
end Go.Am
namespace Go.Am
open Go Go.Proofs
set_option maxRecDepth 4000
set_option maxHeartbeats 4000000
open Int renaming ofNat_lt → Iqa, ofNat_le → Iqb, natCast_eq_zero → Iqc, natCast_pos → Iqd, cast_ofNat_Int → Iqe, natCast_zero → Iqf
open List renaming length_eq_zero_iff → Lqa, getElem?_cons_zero → Lqb, getElem?_cons_succ → Lqc, getElem?_nil → Lqd, length_cons → Lqe, length_nil → Lqf, nil_append → Lqg, cons_append → Lqh
open Nat renaming zero_add → Nqa
open Tru renaming thr_mk → Tqa, nodes_mk → Tqb, inner_mk → Tqc
open Go.Am renaming es_api_Declaration_cons → Eqa, es_api_Declaration_nil → Eqb, es_api_Evidence_cons → Eqc, es_api_Evidence_nil → Eqd, ints_cons → Eqe, ints_nil → Eqf, encTs_cons → Eqg, encTs_nil → Eqh, es_str_cons → Eqi, es_str_nil → Eqj, es_u64_cons → Eqk, es_u64_nil → Eql, es_u8_cons → Eqm, es_u8_nil → Eqn
noncomputable def B_ref02_Depth_0 (p0 : Tru) (i1 : Nat) (x3_0 : Int) (e2 : Tru) : Option Int :=
  kb (G_ref02_Depth e2) fun y2 =>
  some (if x3_0 < y2 then y2 else x3_0)
def I_ref02_Depth_0 (p0 : Tru) (i1 : Nat) (x3_0 : Int) (q : St) : Prop := q (.t 3) = (i64 x3_0) ∧ q (.t 7) = (.pv (.sl p0.inner.length (encTs p0.inner))) ∧ q (.t 8) = (i64 (p0.inner.length : Int)) ∧ q (.t 9) = (i64 (i1 : Int))
def Q_ref02_Depth_0 (p0 : Tru) (x3_0 : Int) (q : St) : Prop := q (.t 3) = (i64 x3_0)
theorem Pb_ref02_Depth_0 {p0 : Tru} {i1 : Nat} {x3_0 : Int} {e2 : Tru} {q : St} {r : Int} (hx : p0.inner[i1]? = some e2) (hi : i1 < p0.inner.length) (hn : p0.inner.length < 4611686018427387904) (hI : I_ref02_Depth_0 p0 i1 x3_0 q) (hB : B_ref02_Depth_0 p0 i1 x3_0 e2 = some r) : Res (C Tryz.prog cf (Code.fst (Code.fst (Code.snd (Code.fst (Code.snd (Code.snd ((Tryz.f39.body).getD .skip))))))) q) (postG (fun a q => I_ref02_Depth_0 p0 (i1 + 1) a q) r) := by
  have hi3 : (i1 : Int) < (p0.inner.length : Int) := by omega
  have hi2 := decide_eq_true hi3
  have hi4 := idx_step hi hn
  have hi5 := ne_of_get hx
  simp only [I_ref02_Depth_0] at hI
  obtain ⟨q1, q2, q3, q4⟩ := hI
  simp only [Code.fst, Code.snd, Tryz.f39, Option.getD_some]
  generalize hr4 : Code.region 4 _ _ = rr4
  generalize hr5 : Code.region 5 _ _ = rr5
  unfold B_ref02_Depth_0 at hB
  have l1 := encTs_ld hx
  obtain ⟨y2, k3, hB⟩ := kb_inv hB
  replace k3 := run_ref02_Depth k3
  try simp only [Iqe, Iqf, Lqe, Lqf, Lqg, Lqh, Nqa, Nat.reduceAdd, Tqa, Tqb, Tqc, Eqe, Eqf, Eqg, Eqh, Eqa, Eqb, Eqc, Eqd, Eqi, Eqj, Eqk, Eql, Eqm, Eqn] at k3
  try dsimp only at hB
  obtain rfl := Option.some.inj hB
  subst hr4
  subst hr5
  try simp -implicitDefEqProofs [-getElem?_pos, -Iqa, -Iqb, -Iqc, -Iqd, -Lqa, Lqb, Lqc, Lqd, q1, q2, q3, q4, hx, hi2, hi3, hi4, hi5, l1, k3]
  refine Res.g ?_
  simp -implicitDefEqProofs [-getElem?_pos, -Iqa, -Iqb, -Iqc, -Iqd, -Lqa, Lqb, Lqc, Lqd, and_assoc, I_ref02_Depth_0, ownAt, q1, q2, q3, q4, hx, hi2, hi3, hi4, hi5, l1, k3]
theorem Pe_ref02_Depth_0 {p0 : Tru} {x3_0 : Int} {q : St} (hI : I_ref02_Depth_0 p0 p0.inner.length x3_0 q) : Res (C Tryz.prog cf (Code.fst (Code.fst (Code.snd (Code.fst (Code.snd (Code.snd ((Tryz.f39.body).getD .skip))))))) q) fun e q' => e = .exit 0 ∧ Q_ref02_Depth_0 p0 x3_0 q' := by
  simp only [I_ref02_Depth_0] at hI
  obtain ⟨q1, q2, q3, q4⟩ := hI
  simp only [Code.fst, Code.snd, Tryz.f39, Option.getD_some]
  simp -implicitDefEqProofs [-getElem?_pos, -Iqa, -Iqb, -Iqc, -Iqd, -Lqa, Lqb, Lqc, Lqd, q1, q2, q3, q4]
  refine Res.x ?_
  simp -implicitDefEqProofs [-getElem?_pos, -Iqa, -Iqb, -Iqc, -Iqd, -Lqa, Lqb, Lqc, Lqd, and_assoc, Q_ref02_Depth_0, ownAt, q1, q2, q3, q4]
theorem P_ref02_Depth_0 {p0 : Tru} {x3_0 : Int} {cc : Code} (hcc : cc = .block 0 (.loop (Code.fst (Code.fst (Code.snd (Code.fst (Code.snd (Code.snd ((Tryz.f39.body).getD .skip))))))))) {s : St} {z : Option (Ex × St)} (hz : C Tryz.prog cf cc s = z) {r : Int} (hn : p0.inner.length < 4611686018427387904) (hI : I_ref02_Depth_0 p0 0 x3_0 s) (hB : foldO (fun i a x => B_ref02_Depth_0 p0 i a x) 0 x3_0 p0.inner = some r) : Res z (postG (fun a q => Q_ref02_Depth_0 p0 a q) r) := by
  subst hcc
  exact fold_sim (I := fun i a q => I_ref02_Depth_0 p0 i a q) (Q := (fun a q => Q_ref02_Depth_0 p0 a q)) (fun i x a q r hx hi h hB => Pb_ref02_Depth_0 hx hi hn h hB) (fun a q h => Pe_ref02_Depth_0 h) hI hz hB
noncomputable def B_ref02_Depth (p0 : Tru) : Option Int :=
  kb (smallK p0.inner) fun _ =>
  kb (foldO (fun i a x => B_ref02_Depth_0 p0 i a x) 0 0 p0.inner) fun z4 =>
  some (add64 z4 1)
theorem sim_ref02_Depth {p0 : Tru} {r : Int} (hB : B_ref02_Depth p0 = some r) : R 39 [(.agg [(i64 p0.thr), (.pv (.sl p0.nodes.length (ints p0.nodes))), (.pv (.sl p0.inner.length (encTs p0.inner)))])] [] = some ((i64 r), [], []) := by
  rw [R_eq _ _ _ fn_ref02_Depth]
  simp only [Code.fst, Code.snd, Tryz.f39, Option.getD_some]
  generalize hc0 : Code.block 0 _ = cc0
  generalize hr2 : Code.region 2 _ _ = rr2
  unfold B_ref02_Depth at hB
  subst hr2
  try simp -implicitDefEqProofs [-getElem?_pos, -Iqa, -Iqb, -Iqc, -Iqd, -Lqa, Lqb, Lqc, Lqd]
  generalize hz0 : C Tryz.prog cf cc0 _ = z0
  obtain ⟨_, hsm, hB⟩ := kb_inv hB
  obtain ⟨z4, hB1, hB⟩ := kb_inv hB
  have hJ := P_ref02_Depth_0 (hc0.symm.trans (by kernel_rfl)) hz0 (smallK_inv hsm) (by simp -implicitDefEqProofs [-getElem?_pos, -Iqa, -Iqb, -Iqc, -Iqd, -Lqa, Lqb, Lqc, Lqd, and_assoc, I_ref02_Depth_0, ownAt]) hB1
  obtain ⟨e0, s0, rfl, hq⟩ := hJ.open
  clear hB1
  obtain ⟨rfl, hq⟩ := hq
  simp only [Q_ref02_Depth_0] at hq
  have q4_1 := hq
  obtain rfl := Option.some.inj hB
  simp -implicitDefEqProofs [-getElem?_pos, -Iqa, -Iqb, -Iqc, -Iqd, -Lqa, Lqb, Lqc, Lqd, q4_1]
theorem g_ref02_Depth {p0 : Tru} {r : Int} (hB : B_ref02_Depth p0 = some r) : G_ref02_Depth p0 = some r := dec_of (fun a b h => by rcases a with a0_; rcases b with b0_; simp at h; simp [*]) (sim_ref02_Depth hB)
end Go.Am
namespace Go.Am
open Go Go.Proofs
set_option maxRecDepth 4000
set_option maxHeartbeats 4000000
open Int renaming ofNat_lt → Iqa, ofNat_le → Iqb, natCast_eq_zero → Iqc, natCast_pos → Iqd, cast_ofNat_Int → Iqe, natCast_zero → Iqf
open List renaming length_eq_zero_iff → Lqa, getElem?_cons_zero → Lqb, getElem?_cons_succ → Lqc, getElem?_nil → Lqd, length_cons → Lqe, length_nil → Lqf, nil_append → Lqg, cons_append → Lqh
open Nat renaming zero_add → Nqa
open Tru renaming thr_mk → Tqa, nodes_mk → Tqb, inner_mk → Tqc
open Go.Am renaming es_api_Declaration_cons → Eqa, es_api_Declaration_nil → Eqb, es_api_Evidence_cons → Eqc, es_api_Evidence_nil → Eqd, ints_cons → Eqe, ints_nil → Eqf, encTs_cons → Eqg, encTs_nil → Eqh, es_str_cons → Eqi, es_str_nil → Eqj, es_u64_cons → Eqk, es_u64_nil → Eql, es_u8_cons → Eqm, es_u8_nil → Eqn
noncomputable def B_ref02_Size_0 (p0 : Tru) (i1 : Nat) (x3_0 : Int) (e2 : Tru) : Option Int :=
  kb (G_ref02_Size e2) fun y2 =>
  some (add64 x3_0 y2)
def I_ref02_Size_0 (p0 : Tru) (i1 : Nat) (x3_0 : Int) (q : St) : Prop := q (.t 14) = (.pv (.sl p0.inner.length (encTs p0.inner))) ∧ q (.t 15) = (i64 (p0.inner.length : Int)) ∧ q (.t 16) = (i64 (i1 : Int)) ∧ q (.t 3) = (i64 x3_0)
def Q_ref02_Size_0 (p0 : Tru) (x3_0 : Int) (q : St) : Prop := q (.t 3) = (i64 x3_0)
theorem Pb_ref02_Size_0 {p0 : Tru} {i1 : Nat} {x3_0 : Int} {e2 : Tru} {q : St} {r : Int} (hx : p0.inner[i1]? = some e2) (hi : i1 < p0.inner.length) (hn : p0.inner.length < 4611686018427387904) (hI : I_ref02_Size_0 p0 i1 x3_0 q) (hB : B_ref02_Size_0 p0 i1 x3_0 e2 = some r) : Res (C Tryz.prog cf (Code.fst (Code.fst (Code.snd (Code.fst (Code.snd (Code.snd ((Tryz.f38.body).getD .skip))))))) q) (postG (fun a q => I_ref02_Size_0 p0 (i1 + 1) a q) r) := by
  have hi3 : (i1 : Int) < (p0.inner.length : Int) := by omega
  have hi2 := decide_eq_true hi3
  have hi4 := idx_step hi hn
  have hi5 := ne_of_get hx
  simp only [I_ref02_Size_0] at hI
  obtain ⟨q1, q2, q3, q4⟩ := hI
  simp only [Code.fst, Code.snd, Tryz.f38, Option.getD_some]
  generalize hr4 : Code.region 4 _ _ = rr4
  generalize hr5 : Code.region 5 _ _ = rr5
  unfold B_ref02_Size_0 at hB
  have l1 := encTs_ld hx
  obtain ⟨y2, k3, hB⟩ := kb_inv hB
  replace k3 := run_ref02_Size k3
  try simp only [Iqe, Iqf, Lqe, Lqf, Lqg, Lqh, Nqa, Nat.reduceAdd, Tqa, Tqb, Tqc, Eqe, Eqf, Eqg, Eqh, Eqa, Eqb, Eqc, Eqd, Eqi, Eqj, Eqk, Eql, Eqm, Eqn] at k3
  try dsimp only at hB
  obtain rfl := Option.some.inj hB
  subst hr4
  subst hr5
  try simp -implicitDefEqProofs [-getElem?_pos, -Iqa, -Iqb, -Iqc, -Iqd, -Lqa, Lqb, Lqc, Lqd, q1, q2, q3, q4, hx, hi2, hi3, hi4, hi5, l1, k3]
  refine Res.g ?_
  simp -implicitDefEqProofs [-getElem?_pos, -Iqa, -Iqb, -Iqc, -Iqd, -Lqa, Lqb, Lqc, Lqd, and_assoc, I_ref02_Size_0, ownAt, q1, q2, q3, q4, hx, hi2, hi3, hi4, hi5, l1, k3]
theorem Pe_ref02_Size_0 {p0 : Tru} {x3_0 : Int} {q : St} (hI : I_ref02_Size_0 p0 p0.inner.length x3_0 q) : Res (C Tryz.prog cf (Code.fst (Code.fst (Code.snd (Code.fst (Code.snd (Code.snd ((Tryz.f38.body).getD .skip))))))) q) fun e q' => e = .exit 0 ∧ Q_ref02_Size_0 p0 x3_0 q' := by
  simp only [I_ref02_Size_0] at hI
  obtain ⟨q1, q2, q3, q4⟩ := hI
  simp only [Code.fst, Code.snd, Tryz.f38, Option.getD_some]
  simp -implicitDefEqProofs [-getElem?_pos, -Iqa, -Iqb, -Iqc, -Iqd, -Lqa, Lqb, Lqc, Lqd, q1, q2, q3, q4]
  refine Res.x ?_
  simp -implicitDefEqProofs [-getElem?_pos, -Iqa, -Iqb, -Iqc, -Iqd, -Lqa, Lqb, Lqc, Lqd, and_assoc, Q_ref02_Size_0, ownAt, q1, q2, q3, q4]
theorem P_ref02_Size_0 {p0 : Tru} {x3_0 : Int} {cc : Code} (hcc : cc = .block 0 (.loop (Code.fst (Code.fst (Code.snd (Code.fst (Code.snd (Code.snd ((Tryz.f38.body).getD .skip))))))))) {s : St} {z : Option (Ex × St)} (hz : C Tryz.prog cf cc s = z) {r : Int} (hn : p0.inner.length < 4611686018427387904) (hI : I_ref02_Size_0 p0 0 x3_0 s) (hB : foldO (fun i a x => B_ref02_Size_0 p0 i a x) 0 x3_0 p0.inner = some r) : Res z (postG (fun a q => Q_ref02_Size_0 p0 a q) r) := by
  subst hcc
  exact fold_sim (I := fun i a q => I_ref02_Size_0 p0 i a q) (Q := (fun a q => Q_ref02_Size_0 p0 a q)) (fun i x a q r hx hi h hB => Pb_ref02_Size_0 hx hi hn h hB) (fun a q h => Pe_ref02_Size_0 h) hI hz hB
noncomputable def B_ref02_Size (p0 : Tru) : Option Int :=
  kb (smallK p0.inner) fun _ =>
  kb (foldO (fun i a x => B_ref02_Size_0 p0 i a x) 0 (add64 (p0.nodes.length : Int) (p0.inner.length : Int)) p0.inner) fun z4 =>
  some z4
theorem sim_ref02_Size {p0 : Tru} {r : Int} (hB : B_ref02_Size p0 = some r) : R 38 [(.agg [(i64 p0.thr), (.pv (.sl p0.nodes.length (ints p0.nodes))), (.pv (.sl p0.inner.length (encTs p0.inner)))])] [] = some ((i64 r), [], []) := by
  rw [R_eq _ _ _ fn_ref02_Size]
  simp only [Code.fst, Code.snd, Tryz.f38, Option.getD_some]
  generalize hc0 : Code.block 0 _ = cc0
  generalize hr1 : Code.region 1 _ _ = rr1
  generalize hr2 : Code.region 2 _ _ = rr2
  unfold B_ref02_Size at hB
  subst hr1
  subst hr2
  try simp -implicitDefEqProofs [-getElem?_pos, -Iqa, -Iqb, -Iqc, -Iqd, -Lqa, Lqb, Lqc, Lqd]
  generalize hz0 : C Tryz.prog cf cc0 _ = z0
  obtain ⟨_, hsm, hB⟩ := kb_inv hB
  obtain ⟨z4, hB1, hB⟩ := kb_inv hB
  have hJ := P_ref02_Size_0 (hc0.symm.trans (by kernel_rfl)) hz0 (smallK_inv hsm) (by simp -implicitDefEqProofs [-getElem?_pos, -Iqa, -Iqb, -Iqc, -Iqd, -Lqa, Lqb, Lqc, Lqd, and_assoc, I_ref02_Size_0, ownAt]) hB1
  obtain ⟨e0, s0, rfl, hq⟩ := hJ.open
  clear hB1
  obtain ⟨rfl, hq⟩ := hq
  simp only [Q_ref02_Size_0] at hq
  have q4_1 := hq
  obtain rfl := Option.some.inj hB
  simp -implicitDefEqProofs [-getElem?_pos, -Iqa, -Iqb, -Iqc, -Iqd, -Lqa, Lqb, Lqc, Lqd, q4_1]
theorem g_ref02_Size {p0 : Tru} {r : Int} (hB : B_ref02_Size p0 = some r) : G_ref02_Size p0 = some r := dec_of (fun a b h => by rcases a with a0_; rcases b with b0_; simp at h; simp [*]) (sim_ref02_Size hB)
end Go.Am
namespace Go.Am
open Go Go.Proofs
set_option maxRecDepth 4000
set_option maxHeartbeats 4000000
open Int renaming ofNat_lt → Iqa, ofNat_le → Iqb, natCast_eq_zero → Iqc, natCast_pos → Iqd, cast_ofNat_Int → Iqe, natCast_zero → Iqf
open List renaming length_eq_zero_iff → Lqa, getElem?_cons_zero → Lqb, getElem?_cons_succ → Lqc, getElem?_nil → Lqd, length_cons → Lqe, length_nil → Lqf, nil_append → Lqg, cons_append → Lqh
open Nat renaming zero_add → Nqa
open Tru renaming thr_mk → Tqa, nodes_mk → Tqb, inner_mk → Tqc
open Go.Am renaming es_api_Declaration_cons → Eqa, es_api_Declaration_nil → Eqb, es_api_Evidence_cons → Eqc, es_api_Evidence_nil → Eqd, ints_cons → Eqe, ints_nil → Eqf, encTs_cons → Eqg, encTs_nil → Eqh, es_str_cons → Eqi, es_str_nil → Eqj, es_u64_cons → Eqk, es_u64_nil → Eql, es_u8_cons → Eqm, es_u8_nil → Eqn
noncomputable def B_ref02_check_0 (p0 : Tru) : Option Bool :=
  cnd (decide (p0.thr < 1)) (
    some true) (
    some (decide ((add64 (p0.nodes.length : Int) (p0.inner.length : Int)) < p0.thr)))
def J_ref02_check_0 (p0 : Tru) (q : St) : Prop := (∃ (g : Nat), q (.t 1) = .ptr (.site 0 0 0) g 0 ∧ q (.i (.site 0 0 0)) = .box g [(i64 p0.thr), (.pv (.sl p0.nodes.length (ints p0.nodes))), (.pv (.sl p0.inner.length (encTs p0.inner)))])
def Q_ref02_check_0 (p0 : Tru) (o24_0 : Bool) (q : St) : Prop := q (.t 24) = (bl o24_0) ∧ (∃ (g : Nat), q (.t 1) = .ptr (.site 0 0 0) g 0 ∧ q (.i (.site 0 0 0)) = .box g [(i64 p0.thr), (.pv (.sl p0.nodes.length (ints p0.nodes))), (.pv (.sl p0.inner.length (encTs p0.inner)))])
theorem P_ref02_check_0 {p0 : Tru} {cc : Code} (hcc : cc = (Code.fst (Code.fst (Code.snd ((Tryz.f85.body).getD .skip))))) {s : St} {z : Option (Ex × St)} (hz : C Tryz.prog cf cc s = z) {r : Bool} (hI : J_ref02_check_0 p0 s) (hB : B_ref02_check_0 p0 = some r) : Res z (postG (fun a q => Q_ref02_check_0 p0 a q) r) := by
  subst hcc
  subst hz
  simp only [J_ref02_check_0] at hI
  obtain ⟨g2, q1, q2⟩ := hI
  simp only [Code.fst, Code.snd, Tryz.f85, Option.getD_some]
  unfold B_ref02_check_0 at hB
  rcases cnd_inv hB with ⟨c1, hB⟩ | ⟨c1, hB⟩
  · have pc1 := eq_true (of_decide_eq_true c1)
    obtain rfl := Option.some.inj hB
    try simp -implicitDefEqProofs [-getElem?_pos, -Iqa, -Iqb, -Iqc, -Iqd, -Lqa, Lqb, Lqc, Lqd, q1, q2, c1, pc1]
    refine Res.g ?_
    simp -implicitDefEqProofs [-getElem?_pos, -Iqa, -Iqb, -Iqc, -Iqd, -Lqa, Lqb, Lqc, Lqd, and_assoc, Q_ref02_check_0, ownAt, q1, q2, c1, pc1]
  · have pc1 := eq_false (of_decide_eq_false c1)
    obtain rfl := Option.some.inj hB
    try simp -implicitDefEqProofs [-getElem?_pos, -Iqa, -Iqb, -Iqc, -Iqd, -Lqa, Lqb, Lqc, Lqd, q1, q2, c1, pc1]
    refine Res.g ?_
    simp -implicitDefEqProofs [-getElem?_pos, -Iqa, -Iqb, -Iqc, -Iqd, -Lqa, Lqb, Lqc, Lqd, and_assoc, Q_ref02_check_0, ownAt, q1, q2, c1, pc1]
noncomputable def B_ref02_check_2 (p0 : Tru) (i14 : Nat) (e15 : Tru) : Option (Stp Unit Int) :=
  kb (G_ref02_check e15) fun y13 =>
  cnd (decide (y13 = 0)) (
    some (.go ())) (
    some (.ret y13))
def I_ref02_check_2 (p0 : Tru) (i14 : Nat) (q : St) : Prop := q (.t 49) = (.pv (.sl p0.inner.length (encTs p0.inner))) ∧ q (.t 50) = (i64 (p0.inner.length : Int)) ∧ q (.t 51) = (i64 (i14 : Int))
def Q_ref02_check_2 (p0 : Tru) (q : St) : Prop := True
def QR_ref02_check_2 (p0 : Tru) (r2_2 : Int) (q : St) : Prop := q (.t 2) = (i64 r2_2)
theorem Pb_ref02_check_2 {p0 : Tru} {i14 : Nat} {e15 : Tru} {q : St} {r : (Stp Unit Int)} (hx : p0.inner[i14]? = some e15) (hi : i14 < p0.inner.length) (hn : p0.inner.length < 4611686018427387904) (hI : I_ref02_check_2 p0 i14 q) (hB : B_ref02_check_2 p0 i14 e15 = some r) : Res (C Tryz.prog cf (Code.fst (Code.fst (Code.snd (Code.fst (Code.snd (Code.snd (Code.snd (Code.snd ((Tryz.f85.body).getD .skip))))))))) q) (postB 2 (fun a q => I_ref02_check_2 p0 (i14 + 1) q) (fun a q => Q_ref02_check_2 p0 q) (fun a q => QR_ref02_check_2 p0 a q) r) := by
  have hi3 : (i14 : Int) < (p0.inner.length : Int) := by omega
  have hi2 := decide_eq_true hi3
  have hi4 := idx_step hi hn
  have hi5 := ne_of_get hx
  simp only [I_ref02_check_2] at hI
  obtain ⟨q1, q2, q3⟩ := hI
  simp only [Code.fst, Code.snd, Tryz.f85, Option.getD_some]
  generalize hr14 : Code.region 14 _ _ = rr14
  unfold B_ref02_check_2 at hB
  have l12 := encTs_ld hx
  obtain ⟨y13, k14, hB⟩ := kb_inv hB
  replace k14 := run_ref02_check k14
  try simp only [Iqe, Iqf, Lqe, Lqf, Lqg, Lqh, Nqa, Nat.reduceAdd, Tqa, Tqb, Tqc, Eqe, Eqf, Eqg, Eqh, Eqa, Eqb, Eqc, Eqd, Eqi, Eqj, Eqk, Eql, Eqm, Eqn] at k14
  try dsimp only at hB
  rcases cnd_inv hB with ⟨c15, hB⟩ | ⟨c15, hB⟩
  · have pc15 := eq_true (of_decide_eq_true c15)
    obtain rfl := Option.some.inj hB
    subst hr14
    try simp -implicitDefEqProofs [-getElem?_pos, -Iqa, -Iqb, -Iqc, -Iqd, -Lqa, Lqb, Lqc, Lqd, q1, q2, q3, hx, hi2, hi3, hi4, hi5, l12, k14, c15, pc15]
    refine Res.bgo ?_
    simp -implicitDefEqProofs [-getElem?_pos, -Iqa, -Iqb, -Iqc, -Iqd, -Lqa, Lqb, Lqc, Lqd, and_assoc, I_ref02_check_2, ownAt, q1, q2, q3, hx, hi2, hi3, hi4, hi5, l12, k14, c15, pc15]
  · have pc15 := eq_false (of_decide_eq_false c15)
    obtain rfl := Option.some.inj hB
    subst hr14
    try simp -implicitDefEqProofs [-getElem?_pos, -Iqa, -Iqb, -Iqc, -Iqd, -Lqa, Lqb, Lqc, Lqd, q1, q2, q3, hx, hi2, hi3, hi4, hi5, l12, k14, c15, pc15]
    refine Res.bret ?_
    simp -implicitDefEqProofs [-getElem?_pos, -Iqa, -Iqb, -Iqc, -Iqd, -Lqa, Lqb, Lqc, Lqd, and_assoc, QR_ref02_check_2, ownAt, q1, q2, q3, hx, hi2, hi3, hi4, hi5, l12, k14, c15, pc15]
theorem Pe_ref02_check_2 {p0 : Tru} {q : St} (hI : I_ref02_check_2 p0 p0.inner.length q) : Res (C Tryz.prog cf (Code.fst (Code.fst (Code.snd (Code.fst (Code.snd (Code.snd (Code.snd (Code.snd ((Tryz.f85.body).getD .skip))))))))) q) fun e q' => e = .exit 2 ∧ Q_ref02_check_2 p0 q' := by
  simp only [I_ref02_check_2] at hI
  obtain ⟨q1, q2, q3⟩ := hI
  simp only [Code.fst, Code.snd, Tryz.f85, Option.getD_some]
  simp -implicitDefEqProofs [-getElem?_pos, -Iqa, -Iqb, -Iqc, -Iqd, -Lqa, Lqb, Lqc, Lqd, q1, q2, q3]
  refine Res.x ?_
  simp -implicitDefEqProofs [-getElem?_pos, -Iqa, -Iqb, -Iqc, -Iqd, -Lqa, Lqb, Lqc, Lqd, and_assoc, Q_ref02_check_2, ownAt, q1, q2, q3]
theorem P_ref02_check_2 {p0 : Tru} {cc : Code} (hcc : cc = .block 2 (.loop (Code.fst (Code.fst (Code.snd (Code.fst (Code.snd (Code.snd (Code.snd (Code.snd ((Tryz.f85.body).getD .skip))))))))))) {s : St} {z : Option (Ex × St)} (hz : C Tryz.prog cf cc s = z) {r : (Stp Unit Int)} (hn : p0.inner.length < 4611686018427387904) (hI : I_ref02_check_2 p0 0 s) (hB : loopL (fun i a x => B_ref02_check_2 p0 i x) 0 () p0.inner = some r) : Res z (postS (fun a q => Q_ref02_check_2 p0 q) (fun a q => QR_ref02_check_2 p0 a q) r) := by
  subst hcc
  exact loopL_sim (I := fun i a q => I_ref02_check_2 p0 i q) (Q := (fun a q => Q_ref02_check_2 p0 q)) (QR := (fun a q => QR_ref02_check_2 p0 a q)) (fun i x a q r hx hi h hB => Pb_ref02_check_2 hx hi hn h hB) (fun a q h => Pe_ref02_check_2 h) hI hz hB
noncomputable def B_ref02_check_1 (p0 : Tru) (i4 : Nat) (e5 : Int) : Option Bool :=
  cnd (decide (e5 < 0)) (
    some true) (
    some (decide (10 ≤ e5)))
def J_ref02_check_1 (p0 : Tru) (i4 : Nat) (e5 : Int) (q : St) : Prop := q (.t 26) = (.pv (.sl p0.nodes.length (ints p0.nodes))) ∧ q (.t 27) = (i64 (p0.nodes.length : Int)) ∧ q (.t 28) = (i64 (i4 : Int)) ∧ q (.t 4) = (i64 e5) ∧ (∃ (g : Nat), q (.t 1) = .ptr (.site 0 0 0) g 0 ∧ q (.i (.site 0 0 0)) = .box g [(i64 p0.thr), (.pv (.sl p0.nodes.length (ints p0.nodes))), (.pv (.sl p0.inner.length (encTs p0.inner)))])
def Q_ref02_check_1 (p0 : Tru) (i4 : Nat) (e5 : Int) (o37_1 : Bool) (q : St) : Prop := q (.t 26) = (.pv (.sl p0.nodes.length (ints p0.nodes))) ∧ q (.t 27) = (i64 (p0.nodes.length : Int)) ∧ q (.t 28) = (i64 (i4 : Int)) ∧ q (.t 37) = (bl o37_1) ∧ (∃ (g : Nat), q (.t 1) = .ptr (.site 0 0 0) g 0 ∧ q (.i (.site 0 0 0)) = .box g [(i64 p0.thr), (.pv (.sl p0.nodes.length (ints p0.nodes))), (.pv (.sl p0.inner.length (encTs p0.inner)))])
theorem P_ref02_check_1 {p0 : Tru} {i4 : Nat} {e5 : Int} {cc : Code} (hcc : cc = (Code.fst (Code.snd (Code.fst (Code.fst (Code.snd (Code.snd (Code.fst (Code.fst (Code.snd (Code.fst (Code.snd (Code.snd ((Tryz.f85.body).getD .skip)))))))))))))) {s : St} {z : Option (Ex × St)} (hz : C Tryz.prog cf cc s = z) {r : Bool} (hI : J_ref02_check_1 p0 i4 e5 s) (hB : B_ref02_check_1 p0 i4 e5 = some r) : Res z (postG (fun a q => Q_ref02_check_1 p0 i4 e5 a q) r) := by
  subst hcc
  subst hz
  simp only [J_ref02_check_1] at hI
  obtain ⟨q1, q2, q3, q4, ⟨g6, q5, q6⟩⟩ := hI
  simp only [Code.fst, Code.snd, Tryz.f85, Option.getD_some]
  unfold B_ref02_check_1 at hB
  rcases cnd_inv hB with ⟨c5, hB⟩ | ⟨c5, hB⟩
  · have pc5 := eq_true (of_decide_eq_true c5)
    obtain rfl := Option.some.inj hB
    try simp -implicitDefEqProofs [-getElem?_pos, -Iqa, -Iqb, -Iqc, -Iqd, -Lqa, Lqb, Lqc, Lqd, q1, q2, q3, q4, q5, q6, c5, pc5]
    refine Res.g ?_
    simp -implicitDefEqProofs [-getElem?_pos, -Iqa, -Iqb, -Iqc, -Iqd, -Lqa, Lqb, Lqc, Lqd, and_assoc, Q_ref02_check_1, ownAt, q1, q2, q3, q4, q5, q6, c5, pc5]
  · have pc5 := eq_false (of_decide_eq_false c5)
    obtain rfl := Option.some.inj hB
    try simp -implicitDefEqProofs [-getElem?_pos, -Iqa, -Iqb, -Iqc, -Iqd, -Lqa, Lqb, Lqc, Lqd, q1, q2, q3, q4, q5, q6, c5, pc5]
    refine Res.g ?_
    simp -implicitDefEqProofs [-getElem?_pos, -Iqa, -Iqb, -Iqc, -Iqd, -Lqa, Lqb, Lqc, Lqd, and_assoc, Q_ref02_check_1, ownAt, q1, q2, q3, q4, q5, q6, c5, pc5]
noncomputable def B_ref02_check_3 (p0 : Tru) (i4 : Nat) (e5 : Int) : Option (Stp Unit Unit) :=
  kb (B_ref02_check_1 p0 i4 e5) fun z6 =>
  cnd z6 (
    some (.ret ())) (
    some (.go ()))
def I_ref02_check_3 (p0 : Tru) (i4 : Nat) (q : St) : Prop := q (.t 26) = (.pv (.sl p0.nodes.length (ints p0.nodes))) ∧ q (.t 27) = (i64 (p0.nodes.length : Int)) ∧ q (.t 28) = (i64 (i4 : Int)) ∧ (∃ (g : Nat), q (.t 1) = .ptr (.site 0 0 0) g 0 ∧ q (.i (.site 0 0 0)) = .box g [(i64 p0.thr), (.pv (.sl p0.nodes.length (ints p0.nodes))), (.pv (.sl p0.inner.length (encTs p0.inner)))])
def Q_ref02_check_3 (p0 : Tru) (q : St) : Prop := (∃ (g : Nat), q (.t 1) = .ptr (.site 0 0 0) g 0 ∧ q (.i (.site 0 0 0)) = .box g [(i64 p0.thr), (.pv (.sl p0.nodes.length (ints p0.nodes))), (.pv (.sl p0.inner.length (encTs p0.inner)))])
def QR_ref02_check_3 (p0 : Tru) (q : St) : Prop := q (.t 2) = (i64 5)
theorem Pb_ref02_check_3 {p0 : Tru} {i4 : Nat} {e5 : Int} {q : St} {r : (Stp Unit Unit)} (hx : p0.nodes[i4]? = some e5) (hi : i4 < p0.nodes.length) (hn : p0.nodes.length < 4611686018427387904) (hI : I_ref02_check_3 p0 i4 q) (hB : B_ref02_check_3 p0 i4 e5 = some r) : Res (C Tryz.prog cf (Code.fst (Code.fst (Code.snd (Code.fst (Code.snd (Code.snd ((Tryz.f85.body).getD .skip))))))) q) (postB 0 (fun a q => I_ref02_check_3 p0 (i4 + 1) q) (fun a q => Q_ref02_check_3 p0 q) (fun a q => QR_ref02_check_3 p0 q) r) := by
  have hi3 : (i4 : Int) < (p0.nodes.length : Int) := by omega
  have hi2 := decide_eq_true hi3
  have hi4 := idx_step hi hn
  have hi5 := ne_of_get hx
  simp only [I_ref02_check_3] at hI
  obtain ⟨q1, q2, q3, ⟨g5, q4, q5⟩⟩ := hI
  simp only [Code.fst, Code.snd, Tryz.f85, Option.getD_some]
  generalize hc1 : Code.region 6 _ _ = cc1
  unfold B_ref02_check_3 at hB
  try simp -implicitDefEqProofs [-getElem?_pos, -Iqa, -Iqb, -Iqc, -Iqd, -Lqa, Lqb, Lqc, Lqd, q1, q2, q3, q4, q5, hx, hi2, hi3, hi4, hi5]
  generalize hz1 : C Tryz.prog cf cc1 _ = z1
  obtain ⟨z6, hB1, hB⟩ := kb_inv hB
  have hJ := P_ref02_check_1 (hc1.symm.trans (by kernel_rfl)) hz1 (by simp -implicitDefEqProofs [-getElem?_pos, -Iqa, -Iqb, -Iqc, -Iqd, -Lqa, Lqb, Lqc, Lqd, and_assoc, J_ref02_check_1, ownAt, q1, q2, q3, q4, q5, hx, hi2, hi3, hi4, hi5]) hB1
  obtain ⟨e1, s1, rfl, hq⟩ := hJ.open
  clear hB1
  obtain ⟨rfl, hq⟩ := hq
  simp only [Q_ref02_check_1] at hq
  obtain ⟨q6_1, q6_2, q6_3, q6_4, ⟨g6_6, q6_5, q6_6⟩⟩ := hq
  rcases cnd_inv hB with ⟨c7, hB⟩ | ⟨c7, hB⟩
  · obtain rfl := Option.some.inj hB
    try simp -implicitDefEqProofs [-getElem?_pos, -Iqa, -Iqb, -Iqc, -Iqd, -Lqa, Lqb, Lqc, Lqd, q6_1, q6_2, q6_3, q6_4, q6_5, q6_6, hx, hi2, hi3, hi4, hi5, c7]
    refine Res.bret ?_
    simp -implicitDefEqProofs [-getElem?_pos, -Iqa, -Iqb, -Iqc, -Iqd, -Lqa, Lqb, Lqc, Lqd, and_assoc, QR_ref02_check_3, ownAt, q6_1, q6_2, q6_3, q6_4, q6_5, q6_6, hx, hi2, hi3, hi4, hi5, c7]
  · obtain rfl := Option.some.inj hB
    try simp -implicitDefEqProofs [-getElem?_pos, -Iqa, -Iqb, -Iqc, -Iqd, -Lqa, Lqb, Lqc, Lqd, q6_1, q6_2, q6_3, q6_4, q6_5, q6_6, hx, hi2, hi3, hi4, hi5, c7]
    refine Res.bgo ?_
    simp -implicitDefEqProofs [-getElem?_pos, -Iqa, -Iqb, -Iqc, -Iqd, -Lqa, Lqb, Lqc, Lqd, and_assoc, I_ref02_check_3, ownAt, q6_1, q6_2, q6_3, q6_4, q6_5, q6_6, hx, hi2, hi3, hi4, hi5, c7]
theorem Pe_ref02_check_3 {p0 : Tru} {q : St} (hI : I_ref02_check_3 p0 p0.nodes.length q) : Res (C Tryz.prog cf (Code.fst (Code.fst (Code.snd (Code.fst (Code.snd (Code.snd ((Tryz.f85.body).getD .skip))))))) q) fun e q' => e = .exit 0 ∧ Q_ref02_check_3 p0 q' := by
  simp only [I_ref02_check_3] at hI
  obtain ⟨q1, q2, q3, ⟨g5, q4, q5⟩⟩ := hI
  simp only [Code.fst, Code.snd, Tryz.f85, Option.getD_some]
  simp -implicitDefEqProofs [-getElem?_pos, -Iqa, -Iqb, -Iqc, -Iqd, -Lqa, Lqb, Lqc, Lqd, q1, q2, q3, q4, q5]
  refine Res.x ?_
  simp -implicitDefEqProofs [-getElem?_pos, -Iqa, -Iqb, -Iqc, -Iqd, -Lqa, Lqb, Lqc, Lqd, and_assoc, Q_ref02_check_3, ownAt, q1, q2, q3, q4, q5]
theorem P_ref02_check_3 {p0 : Tru} {cc : Code} (hcc : cc = .block 0 (.loop (Code.fst (Code.fst (Code.snd (Code.fst (Code.snd (Code.snd ((Tryz.f85.body).getD .skip))))))))) {s : St} {z : Option (Ex × St)} (hz : C Tryz.prog cf cc s = z) {r : (Stp Unit Unit)} (hn : p0.nodes.length < 4611686018427387904) (hI : I_ref02_check_3 p0 0 s) (hB : loopL (fun i a x => B_ref02_check_3 p0 i x) 0 () p0.nodes = some r) : Res z (postS (fun a q => Q_ref02_check_3 p0 q) (fun a q => QR_ref02_check_3 p0 q) r) := by
  subst hcc
  exact loopL_sim (I := fun i a q => I_ref02_check_3 p0 i q) (Q := (fun a q => Q_ref02_check_3 p0 q)) (QR := (fun a q => QR_ref02_check_3 p0 q)) (fun i x a q r hx hi h hB => Pb_ref02_check_3 hx hi hn h hB) (fun a q h => Pe_ref02_check_3 h) hI hz hB
noncomputable def B_ref02_check (p0 : Tru) : Option Int :=
  kb (B_ref02_check_0 p0) fun z2 =>
  cnd z2 (
    some 4) (
    kb (smallK p0.nodes) fun _ =>
    kb (loopL (fun i a x => B_ref02_check_3 p0 i x) 0 () p0.nodes) fun o => stpK o (fun z8 =>
      kb (G_ref01_Of p0.nodes) fun y9 =>
      cnd (decide (y9.2 = 0)) (
        kb (smallK p0.inner) fun _ =>
        kb (loopL (fun i a x => B_ref02_check_2 p0 i x) 0 () p0.inner) fun o => stpK o (fun z16 =>
          some 0) (fun z16r =>
          some z16r)) (
        some y9.2)) (fun z8r =>
      some 5))
theorem sim_ref02_check {p0 : Tru} {r : Int} (hB : B_ref02_check p0 = some r) : R 85 [(.agg [(i64 p0.thr), (.pv (.sl p0.nodes.length (ints p0.nodes))), (.pv (.sl p0.inner.length (encTs p0.inner)))])] [] = some ((i64 r), [], []) := by
  rw [R_eq _ _ _ fn_ref02_check]
  simp only [Code.fst, Code.snd, Tryz.f85, Option.getD_some]
  generalize hc0 : Code.region 1 _ _ = cc0
  generalize hc2 : Code.block 2 _ = cc2
  generalize hc3 : Code.block 0 _ = cc3
  generalize hr3 : Code.region 3 _ _ = rr3
  generalize hr9 : Code.region 9 _ _ = rr9
  generalize hr12 : Code.region 12 _ _ = rr12
  unfold B_ref02_check at hB
  try simp -implicitDefEqProofs [-getElem?_pos, -Iqa, -Iqb, -Iqc, -Iqd, -Lqa, Lqb, Lqc, Lqd]
  generalize hz0 : C Tryz.prog cf cc0 _ = z0
  obtain ⟨z2, hB1, hB⟩ := kb_inv hB
  have hJ := P_ref02_check_0 (hc0.symm.trans (by kernel_rfl)) hz0 (by simp -implicitDefEqProofs [-getElem?_pos, -Iqa, -Iqb, -Iqc, -Iqd, -Lqa, Lqb, Lqc, Lqd, and_assoc, J_ref02_check_0, ownAt]) hB1
  obtain ⟨e0, s0, rfl, hq⟩ := hJ.open
  clear hB1
  obtain ⟨rfl, hq⟩ := hq
  simp only [Q_ref02_check_0] at hq
  obtain ⟨q2_1, ⟨g2_3, q2_2, q2_3⟩⟩ := hq
  rcases cnd_inv hB with ⟨c3, hB⟩ | ⟨c3, hB⟩
  · obtain rfl := Option.some.inj hB
    simp -implicitDefEqProofs [-getElem?_pos, -Iqa, -Iqb, -Iqc, -Iqd, -Lqa, Lqb, Lqc, Lqd, q2_1, q2_2, q2_3, c3]
  · subst hr3
    try simp -implicitDefEqProofs [-getElem?_pos, -Iqa, -Iqb, -Iqc, -Iqd, -Lqa, Lqb, Lqc, Lqd, q2_1, q2_2, q2_3, c3]
    generalize hz3 : C Tryz.prog cf cc3 _ = z3
    obtain ⟨_, hsm, hB⟩ := kb_inv hB
    obtain ⟨o, hB1, hB⟩ := kb_inv hB
    have hJ := P_ref02_check_3 (hc3.symm.trans (by kernel_rfl)) hz3 (smallK_inv hsm) (by simp -implicitDefEqProofs [-getElem?_pos, -Iqa, -Iqb, -Iqc, -Iqd, -Lqa, Lqb, Lqc, Lqd, and_assoc, I_ref02_check_3, ownAt, q2_1, q2_2, q2_3, c3]) hB1
    obtain ⟨e3, s3, rfl, hq⟩ := hJ.open
    clear hB1
    rcases o with z8 | ⟨_, _⟩ | z8r
    · simp only [stpK_go] at hB
      obtain ⟨rfl, hq⟩ := hq
      simp only [Q_ref02_check_3] at hq
      obtain ⟨g8_2, q8_1, q8_2⟩ := hq
      obtain ⟨y9, k10, hB⟩ := kb_inv hB
      replace k10 := run_ref01_Of k10
      try simp only [Iqe, Iqf, Lqe, Lqf, Lqg, Lqh, Nqa, Nat.reduceAdd, Tqa, Tqb, Tqc, Eqe, Eqf, Eqg, Eqh, Eqa, Eqb, Eqc, Eqd, Eqi, Eqj, Eqk, Eql, Eqm, Eqn, c3] at k10
      try dsimp only at hB
      rcases cnd_inv hB with ⟨c11, hB⟩ | ⟨c11, hB⟩
      · have pc11 := eq_true (of_decide_eq_true c11)
        subst hr9
        subst hr12
        try simp -implicitDefEqProofs [-getElem?_pos, -Iqa, -Iqb, -Iqc, -Iqd, -Lqa, Lqb, Lqc, Lqd, q8_1, q8_2, c3, k10, c11, pc11]
        generalize hz2 : C Tryz.prog cf cc2 _ = z2
        obtain ⟨_, hsm, hB⟩ := kb_inv hB
        obtain ⟨o, hB1, hB⟩ := kb_inv hB
        have hJ := P_ref02_check_2 (hc2.symm.trans (by kernel_rfl)) hz2 (smallK_inv hsm) (by simp -implicitDefEqProofs [-getElem?_pos, -Iqa, -Iqb, -Iqc, -Iqd, -Lqa, Lqb, Lqc, Lqd, and_assoc, I_ref02_check_2, ownAt, q8_1, q8_2, c3, k10, c11, pc11]) hB1
        obtain ⟨e2, s2, rfl, hq⟩ := hJ.open
        clear hB1
        rcases o with z16 | ⟨_, _⟩ | z16r
        · simp only [stpK_go] at hB
          obtain ⟨rfl, hq⟩ := hq
          simp only [Q_ref02_check_2] at hq
          obtain rfl := Option.some.inj hB
          simp -implicitDefEqProofs [-getElem?_pos, -Iqa, -Iqb, -Iqc, -Iqd, -Lqa, Lqb, Lqc, Lqd, c3, k10, c11, pc11]
        · exact hq.elim
        · simp only [stpK_ret] at hB
          obtain ⟨rfl, hq⟩ := hq
          simp only [QR_ref02_check_2] at hq
          have q16_r1 := hq
          obtain rfl := Option.some.inj hB
          simp -implicitDefEqProofs [-getElem?_pos, -Iqa, -Iqb, -Iqc, -Iqd, -Lqa, Lqb, Lqc, Lqd, q16_r1, c3, k10, c11, pc11]
      · have pc11 := eq_false (of_decide_eq_false c11)
        obtain rfl := Option.some.inj hB
        subst hr9
        simp -implicitDefEqProofs [-getElem?_pos, -Iqa, -Iqb, -Iqc, -Iqd, -Lqa, Lqb, Lqc, Lqd, q8_1, q8_2, c3, k10, c11, pc11]
    · exact hq.elim
    · simp only [stpK_ret] at hB
      obtain ⟨rfl, hq⟩ := hq
      simp only [QR_ref02_check_3] at hq
      have q8_r1 := hq
      obtain rfl := Option.some.inj hB
      simp -implicitDefEqProofs [-getElem?_pos, -Iqa, -Iqb, -Iqc, -Iqd, -Lqa, Lqb, Lqc, Lqd, q8_r1, c3]
theorem g_ref02_check {p0 : Tru} {r : Int} (hB : B_ref02_check p0 = some r) : G_ref02_check p0 = some r := dec_of (fun a b h => by rcases a with a0_; rcases b with b0_; simp at h; simp [*]) (sim_ref02_check hB)
end Go.Am
namespace Go.Am
open Go Go.Proofs
set_option maxRecDepth 4000
set_option maxHeartbeats 4000000
open Int renaming ofNat_lt → Iqa, ofNat_le → Iqb, natCast_eq_zero → Iqc, natCast_pos → Iqd, cast_ofNat_Int → Iqe, natCast_zero → Iqf
open List renaming length_eq_zero_iff → Lqa, getElem?_cons_zero → Lqb, getElem?_cons_succ → Lqc, getElem?_nil → Lqd, length_cons → Lqe, length_nil → Lqf, nil_append → Lqg, cons_append → Lqh
open Nat renaming zero_add → Nqa
open Tru renaming thr_mk → Tqa, nodes_mk → Tqb, inner_mk → Tqc
open Go.Am renaming es_api_Declaration_cons → Eqa, es_api_Declaration_nil → Eqb, es_api_Evidence_cons → Eqc, es_api_Evidence_nil → Eqd, ints_cons → Eqe, ints_nil → Eqf, encTs_cons → Eqg, encTs_nil → Eqh, es_str_cons → Eqi, es_str_nil → Eqj, es_u64_cons → Eqk, es_u64_nil → Eql, es_u8_cons → Eqm, es_u8_nil → Eqn
noncomputable def B_ref02_Valid_0 (p0 : Tru) : Option Bool :=
  kb (G_ref02_Depth p0) fun y1 =>
  cnd (decide (4 < y1)) (
    some true) (
    kb (G_ref02_Size p0) fun y4 =>
    some (decide (200 < y4)))
def J_ref02_Valid_0 (p0 : Tru) (q : St) : Prop := (∃ (g : Nat), q (.t 1) = .ptr (.site 0 0 0) g 0 ∧ q (.i (.site 0 0 0)) = .box g [(i64 p0.thr), (.pv (.sl p0.nodes.length (ints p0.nodes))), (.pv (.sl p0.inner.length (encTs p0.inner)))])
def Q_ref02_Valid_0 (p0 : Tru) (o10_0 : Bool) (q : St) : Prop := q (.t 10) = (bl o10_0) ∧ (∃ (g : Nat), q (.t 1) = .ptr (.site 0 0 0) g 0 ∧ q (.i (.site 0 0 0)) = .box g [(i64 p0.thr), (.pv (.sl p0.nodes.length (ints p0.nodes))), (.pv (.sl p0.inner.length (encTs p0.inner)))])
theorem P_ref02_Valid_0 {p0 : Tru} {cc : Code} (hcc : cc = (Code.fst (Code.fst (Code.snd ((Tryz.f55.body).getD .skip))))) {s : St} {z : Option (Ex × St)} (hz : C Tryz.prog cf cc s = z) {r : Bool} (hI : J_ref02_Valid_0 p0 s) (hB : B_ref02_Valid_0 p0 = some r) : Res z (postG (fun a q => Q_ref02_Valid_0 p0 a q) r) := by
  subst hcc
  subst hz
  simp only [J_ref02_Valid_0] at hI
  obtain ⟨g2, q1, q2⟩ := hI
  simp only [Code.fst, Code.snd, Tryz.f55, Option.getD_some]
  unfold B_ref02_Valid_0 at hB
  obtain ⟨y1, k2, hB⟩ := kb_inv hB
  replace k2 := run_ref02_Depth k2
  try simp only [Iqe, Iqf, Lqe, Lqf, Lqg, Lqh, Nqa, Nat.reduceAdd, Tqa, Tqb, Tqc, Eqe, Eqf, Eqg, Eqh, Eqa, Eqb, Eqc, Eqd, Eqi, Eqj, Eqk, Eql, Eqm, Eqn] at k2
  try dsimp only at hB
  rcases cnd_inv hB with ⟨c3, hB⟩ | ⟨c3, hB⟩
  · have pc3 := eq_true (of_decide_eq_true c3)
    obtain rfl := Option.some.inj hB
    try simp -implicitDefEqProofs [-getElem?_pos, -Iqa, -Iqb, -Iqc, -Iqd, -Lqa, Lqb, Lqc, Lqd, q1, q2, k2, c3, pc3]
    refine Res.g ?_
    simp -implicitDefEqProofs [-getElem?_pos, -Iqa, -Iqb, -Iqc, -Iqd, -Lqa, Lqb, Lqc, Lqd, and_assoc, Q_ref02_Valid_0, ownAt, q1, q2, k2, c3, pc3]
  · have pc3 := eq_false (of_decide_eq_false c3)
    obtain ⟨y4, k5, hB⟩ := kb_inv hB
    replace k5 := run_ref02_Size k5
    try simp only [Iqe, Iqf, Lqe, Lqf, Lqg, Lqh, Nqa, Nat.reduceAdd, Tqa, Tqb, Tqc, Eqe, Eqf, Eqg, Eqh, Eqa, Eqb, Eqc, Eqd, Eqi, Eqj, Eqk, Eql, Eqm, Eqn] at k5
    try dsimp only at hB
    obtain rfl := Option.some.inj hB
    try simp -implicitDefEqProofs [-getElem?_pos, -Iqa, -Iqb, -Iqc, -Iqd, -Lqa, Lqb, Lqc, Lqd, q1, q2, k2, c3, pc3, k5]
    refine Res.g ?_
    simp -implicitDefEqProofs [-getElem?_pos, -Iqa, -Iqb, -Iqc, -Iqd, -Lqa, Lqb, Lqc, Lqd, and_assoc, Q_ref02_Valid_0, ownAt, q1, q2, k2, c3, pc3, k5]
noncomputable def B_ref02_Valid (p0 : Tru) : Option Int :=
  kb (B_ref02_Valid_0 p0) fun z6 =>
  cnd z6 (
    some 3) (
    kb (G_ref02_check p0) fun y8 =>
    some y8)
theorem sim_ref02_Valid {p0 : Tru} {r : Int} (hB : B_ref02_Valid p0 = some r) : R 55 [(.agg [(i64 p0.thr), (.pv (.sl p0.nodes.length (ints p0.nodes))), (.pv (.sl p0.inner.length (encTs p0.inner)))])] [] = some ((i64 r), [], []) := by
  rw [R_eq _ _ _ fn_ref02_Valid]
  simp only [Code.fst, Code.snd, Tryz.f55, Option.getD_some]
  generalize hc0 : Code.region 1 _ _ = cc0
  unfold B_ref02_Valid at hB
  try simp -implicitDefEqProofs [-getElem?_pos, -Iqa, -Iqb, -Iqc, -Iqd, -Lqa, Lqb, Lqc, Lqd]
  generalize hz0 : C Tryz.prog cf cc0 _ = z0
  obtain ⟨z6, hB1, hB⟩ := kb_inv hB
  have hJ := P_ref02_Valid_0 (hc0.symm.trans (by kernel_rfl)) hz0 (by simp -implicitDefEqProofs [-getElem?_pos, -Iqa, -Iqb, -Iqc, -Iqd, -Lqa, Lqb, Lqc, Lqd, and_assoc, J_ref02_Valid_0, ownAt]) hB1
  obtain ⟨e0, s0, rfl, hq⟩ := hJ.open
  clear hB1
  obtain ⟨rfl, hq⟩ := hq
  simp only [Q_ref02_Valid_0] at hq
  obtain ⟨q6_1, ⟨g6_3, q6_2, q6_3⟩⟩ := hq
  rcases cnd_inv hB with ⟨c7, hB⟩ | ⟨c7, hB⟩
  · obtain rfl := Option.some.inj hB
    simp -implicitDefEqProofs [-getElem?_pos, -Iqa, -Iqb, -Iqc, -Iqd, -Lqa, Lqb, Lqc, Lqd, q6_1, q6_2, q6_3, c7]
  · obtain ⟨y8, k9, hB⟩ := kb_inv hB
    replace k9 := run_ref02_check k9
    try simp only [Iqe, Iqf, Lqe, Lqf, Lqg, Lqh, Nqa, Nat.reduceAdd, Tqa, Tqb, Tqc, Eqe, Eqf, Eqg, Eqh, Eqa, Eqb, Eqc, Eqd, Eqi, Eqj, Eqk, Eql, Eqm, Eqn, c7] at k9
    try dsimp only at hB
    obtain rfl := Option.some.inj hB
    simp -implicitDefEqProofs [-getElem?_pos, -Iqa, -Iqb, -Iqc, -Iqd, -Lqa, Lqb, Lqc, Lqd, q6_1, q6_2, q6_3, c7, k9]
theorem g_ref02_Valid {p0 : Tru} {r : Int} (hB : B_ref02_Valid p0 = some r) : G_ref02_Valid p0 = some r := dec_of (fun a b h => by rcases a with a0_; rcases b with b0_; simp at h; simp [*]) (sim_ref02_Valid hB)
end Go.Am
namespace Go.Am
open Go Go.Proofs
set_option maxRecDepth 4000
set_option maxHeartbeats 4000000
open Int renaming ofNat_lt → Iqa, ofNat_le → Iqb, natCast_eq_zero → Iqc, natCast_pos → Iqd
open List renaming length_eq_zero_iff → Lqa, getElem?_cons_zero → Lqb, getElem?_cons_succ → Lqc, getElem?_nil → Lqd
noncomputable def B_make_New (p0 : (List Int)) : Option S_trustquorummake_Tape :=
  kb (partK p0 0 (if 400 < (p0.length : Int) then 400 else (p0.length : Int))) fun L1 =>
  some (S_trustquorummake_Tape.mk L1 0)
theorem sim_make_New {p0 : (List Int)} {r : S_trustquorummake_Tape} (hB : B_make_New p0 = some r) : R 5 [(.pv (.sl p0.length (ints p0)))] [] = some (.ptr (.ret 0) 1 0, [], [.box 1 [(.pv (.sl r.f0.length (ints r.f0))), (i64 r.f1)]]) := by
  rw [R_eq _ _ _ fn_make_New]
  simp only [Code.fst, Code.snd, Tryz.f5, Option.getD_some]
  generalize hr1 : Code.region 1 _ _ = rr1
  unfold B_make_New at hB
  obtain ⟨L1, sq2, hB⟩ := kb_inv hB
  obtain ⟨sq2a, sq2b, sq2c, sq2d, sq2e, sq2f, sq2g⟩ := ints_part_h sq2
  try dsimp only at hB
  obtain rfl := Option.some.inj hB
  subst hr1
  simp -implicitDefEqProofs [-getElem?_pos, -Iqa, -Iqb, -Iqc, -Iqd, -Lqa, Lqb, Lqc, Lqd, sq2a, sq2b, sq2c, sq2d, sq2e, sq2f, sq2g]
theorem g_make_New {p0 : (List Int)} {r : S_trustquorummake_Tape} (hB : B_make_New p0 = some r) : G_make_New p0 = some r := dec_of (fun a b h => by rcases a with ⟨a0_0, a0_1⟩; rcases b with ⟨b0_0, b0_1⟩; simp at h; simp [*]) (sim_make_New hB)
end Go.Am
namespace Go.Am
open Go Go.Proofs
set_option maxRecDepth 4000
set_option maxHeartbeats 4000000
open Int renaming ofNat_lt → Iqa, ofNat_le → Iqb, natCast_eq_zero → Iqc, natCast_pos → Iqd, cast_ofNat_Int → Iqe, natCast_zero → Iqf
open List renaming length_eq_zero_iff → Lqa, getElem?_cons_zero → Lqb, getElem?_cons_succ → Lqc, getElem?_nil → Lqd, length_cons → Lqe, length_nil → Lqf
open Nat renaming zero_add → Nqa
noncomputable def B_make_Tape_N (p0 : S_trustquorummake_Tape) (p1 : Int) : Option (Int × S_trustquorummake_Tape) :=
  cnd (decide ((p0.f0.length : Int) ≤ p0.f1)) (
    some (0, p0)) (
    kb (getI p0.f0 p0.f1) fun x2 =>
    kb (mustK (p1 ≠ 0)) fun _ =>
    cnd (decide ((x2.tmod p1) < 0)) (
      some ((add64 (x2.tmod p1) p1), (S_trustquorummake_Tape.mk p0.f0 (add64 p0.f1 1)))) (
      some ((x2.tmod p1), (S_trustquorummake_Tape.mk p0.f0 (add64 p0.f1 1)))))
theorem sim_make_Tape_N {p0 : S_trustquorummake_Tape} {p1 : Int} {r : (Int × S_trustquorummake_Tape)} (hB : B_make_Tape_N p0 p1 = some r) : R 8 [.ptr (.arg 0) 0 0, (i64 p1)] [.box 0 [(.pv (.sl p0.f0.length (ints p0.f0))), (i64 p0.f1)]] = some ((i64 r.1), [.box 0 [(.pv (.sl r.2.f0.length (ints r.2.f0))), (i64 r.2.f1)]], []) := by
  rw [R_eq _ _ _ fn_make_Tape_N]
  simp only [Code.fst, Code.snd, Tryz.f8, Option.getD_some]
  generalize hr1 : Code.region 1 _ _ = rr1
  generalize hr3 : Code.region 3 _ _ = rr3
  generalize hr4 : Code.region 4 _ _ = rr4
  generalize hr6 : Code.region 6 _ _ = rr6
  unfold B_make_Tape_N at hB
  rcases cnd_inv hB with ⟨c1, hB⟩ | ⟨c1, hB⟩
  · have pc1 := eq_true (of_decide_eq_true c1)
    have nc1 := c1
    try simp only [Lqf, Lqe, Iqe, Iqf, Nqa, Nat.reduceAdd, Int.reduceLT, Int.reduceLE, Int.reduceEq, eq_self, decide_true, decide_false, Bool.true_eq_false, Bool.false_eq_true] at nc1
    all_goals
      obtain rfl := Option.some.inj hB
      subst hr1
      simp -implicitDefEqProofs [-getElem?_pos, -Iqa, -Iqb, -Iqc, -Iqd, -Lqa, Lqb, Lqc, Lqd, c1, pc1, nc1]
      rw [drawK_ok _ _ _ (by kernel_rfl)]
      simp -implicitDefEqProofs [-getElem?_pos, -Iqa, -Iqb, -Iqc, -Iqd, -Lqa, Lqb, Lqc, Lqd, c1, pc1, nc1]
  · have pc1 := eq_false (of_decide_eq_false c1)
    have nc1 := c1
    try simp only [Lqf, Lqe, Iqe, Iqf, Nqa, Nat.reduceAdd, Int.reduceLT, Int.reduceLE, Int.reduceEq, eq_self, decide_true, decide_false, Bool.true_eq_false, Bool.false_eq_true] at nc1
    all_goals
      obtain ⟨x2, h3, hB⟩ := kb_inv hB
      obtain ⟨h3a, h3b, h3c, h3d⟩ := getI_inv h3
      try simp only [Int.toNat_natCast, Int.reduceToNat] at h3c
      try dsimp only at hB
      obtain ⟨_, n5, hB⟩ := kb_inv hB
      have n5a : ¬ _ := mustK_inv n5
      try dsimp only at hB
      rcases cnd_inv hB with ⟨c6, hB⟩ | ⟨c6, hB⟩
      · have pc6 := eq_true (of_decide_eq_true c6)
        obtain rfl := Option.some.inj hB
        subst hr1
        subst hr3
        subst hr4
        subst hr6
        simp -implicitDefEqProofs [-getElem?_pos, -Iqa, -Iqb, -Iqc, -Iqd, -Lqa, Lqb, Lqc, Lqd, c1, pc1, nc1, h3a, h3b, h3c, h3d, n5a, c6, pc6]
        rw [drawK_ok _ _ _ (by kernel_rfl)]
        simp -implicitDefEqProofs [-getElem?_pos, -Iqa, -Iqb, -Iqc, -Iqd, -Lqa, Lqb, Lqc, Lqd, c1, pc1, nc1, h3a, h3b, h3c, h3d, n5a, c6, pc6]
        rw [drawK_ok _ _ _ (by kernel_rfl)]
        simp -implicitDefEqProofs [-getElem?_pos, -Iqa, -Iqb, -Iqc, -Iqd, -Lqa, Lqb, Lqc, Lqd, c1, pc1, nc1, h3a, h3b, h3c, h3d, n5a, c6, pc6]
      · have pc6 := eq_false (of_decide_eq_false c6)
        obtain rfl := Option.some.inj hB
        subst hr1
        subst hr3
        subst hr4
        simp -implicitDefEqProofs [-getElem?_pos, -Iqa, -Iqb, -Iqc, -Iqd, -Lqa, Lqb, Lqc, Lqd, c1, pc1, nc1, h3a, h3b, h3c, h3d, n5a, c6, pc6]
        rw [drawK_ok _ _ _ (by kernel_rfl)]
        simp -implicitDefEqProofs [-getElem?_pos, -Iqa, -Iqb, -Iqc, -Iqd, -Lqa, Lqb, Lqc, Lqd, c1, pc1, nc1, h3a, h3b, h3c, h3d, n5a, c6, pc6]
        rw [drawK_ok _ _ _ (by kernel_rfl)]
        simp -implicitDefEqProofs [-getElem?_pos, -Iqa, -Iqb, -Iqc, -Iqd, -Lqa, Lqb, Lqc, Lqd, c1, pc1, nc1, h3a, h3b, h3c, h3d, n5a, c6, pc6]
theorem g_make_Tape_N {p0 : S_trustquorummake_Tape} {p1 : Int} {r : (Int × S_trustquorummake_Tape)} (hB : B_make_Tape_N p0 p1 = some r) : G_make_Tape_N p0 p1 = some r := dec_of (fun a b h => by rcases a with ⟨a0_, ⟨a1_0, a1_1⟩⟩; rcases b with ⟨b0_, ⟨b1_0, b1_1⟩⟩; simp at h; simp [*]) (sim_make_Tape_N hB)
end Go.Am
namespace Go.Am
open Go Go.Proofs
set_option maxRecDepth 4000
set_option maxHeartbeats 4000000
open Int renaming ofNat_lt → Iqa, ofNat_le → Iqb, natCast_eq_zero → Iqc, natCast_pos → Iqd, cast_ofNat_Int → Iqe, natCast_zero → Iqf
open List renaming length_eq_zero_iff → Lqa, getElem?_cons_zero → Lqb, getElem?_cons_succ → Lqc, getElem?_nil → Lqd, length_cons → Lqe, length_nil → Lqf, nil_append → Lqg, cons_append → Lqh
open Nat renaming zero_add → Nqa
open Tru renaming thr_mk → Tqa, nodes_mk → Tqb, inner_mk → Tqc
open Go.Am renaming es_api_Declaration_cons → Eqa, es_api_Declaration_nil → Eqb, es_api_Evidence_cons → Eqc, es_api_Evidence_nil → Eqd, ints_cons → Eqe, ints_nil → Eqf, encTs_cons → Eqg, encTs_nil → Eqh, es_str_cons → Eqi, es_str_nil → Eqj, es_u64_cons → Eqk, es_u64_nil → Eql, es_u8_cons → Eqm, es_u8_nil → Eqn
noncomputable def B_make_Tape_Range (p0 : S_trustquorummake_Tape) (p1 : Int) (p2 : Int) : Option (Int × S_trustquorummake_Tape) :=
  kb (G_make_Tape_N p0 (add64 (sub64 p2 p1) 1)) fun y1 =>
  some ((add64 p1 y1.1), y1.2)
theorem sim_make_Tape_Range {p0 : S_trustquorummake_Tape} {p1 : Int} {p2 : Int} {r : (Int × S_trustquorummake_Tape)} (hB : B_make_Tape_Range p0 p1 p2 = some r) : R 7 [.ptr (.arg 0) 0 0, (i64 p1), (i64 p2)] [.box 0 [(.pv (.sl p0.f0.length (ints p0.f0))), (i64 p0.f1)]] = some ((i64 r.1), [.box 0 [(.pv (.sl r.2.f0.length (ints r.2.f0))), (i64 r.2.f1)]], []) := by
  rw [R_eq _ _ _ fn_make_Tape_Range]
  simp only [Code.fst, Code.snd, Tryz.f7, Option.getD_some]
  generalize hr1 : Code.region 1 _ _ = rr1
  unfold B_make_Tape_Range at hB
  obtain ⟨y1, k2, hB⟩ := kb_inv hB
  replace k2 := run_make_Tape_N k2
  try simp only [Iqe, Iqf, Lqe, Lqf, Lqg, Lqh, Nqa, Nat.reduceAdd, Tqa, Tqb, Tqc, Eqe, Eqf, Eqg, Eqh, Eqa, Eqb, Eqc, Eqd, Eqi, Eqj, Eqk, Eql, Eqm, Eqn] at k2
  try dsimp only at hB
  obtain rfl := Option.some.inj hB
  subst hr1
  simp -implicitDefEqProofs [-getElem?_pos, -Iqa, -Iqb, -Iqc, -Iqd, -Lqa, Lqb, Lqc, Lqd, k2]
theorem g_make_Tape_Range {p0 : S_trustquorummake_Tape} {p1 : Int} {p2 : Int} {r : (Int × S_trustquorummake_Tape)} (hB : B_make_Tape_Range p0 p1 p2 = some r) : G_make_Tape_Range p0 p1 p2 = some r := dec_of (fun a b h => by rcases a with ⟨a0_, ⟨a1_0, a1_1⟩⟩; rcases b with ⟨b0_, ⟨b1_0, b1_1⟩⟩; simp at h; simp [*]) (sim_make_Tape_Range hB)
end Go.Am
namespace Go.Am
open Go Go.Proofs
set_option maxRecDepth 4000
set_option maxHeartbeats 4000000
open Int renaming ofNat_lt → Iqa, ofNat_le → Iqb, natCast_eq_zero → Iqc, natCast_pos → Iqd, cast_ofNat_Int → Iqe, natCast_zero → Iqf
open List renaming length_eq_zero_iff → Lqa, getElem?_cons_zero → Lqb, getElem?_cons_succ → Lqc, getElem?_nil → Lqd, length_cons → Lqe, length_nil → Lqf, nil_append → Lqg, cons_append → Lqh
open Nat renaming zero_add → Nqa
open Tru renaming thr_mk → Tqa, nodes_mk → Tqb, inner_mk → Tqc
open Go.Am renaming es_api_Declaration_cons → Eqa, es_api_Declaration_nil → Eqb, es_api_Evidence_cons → Eqc, es_api_Evidence_nil → Eqd, ints_cons → Eqe, ints_nil → Eqf, encTs_cons → Eqg, encTs_nil → Eqh, es_str_cons → Eqi, es_str_nil → Eqj, es_u64_cons → Eqk, es_u64_nil → Eql, es_u8_cons → Eqm, es_u8_nil → Eqn
noncomputable def B_make_Tape_Pick (p0 : S_trustquorummake_Tape) (p1 : (List Int)) : Option (Int × S_trustquorummake_Tape) :=
  kb (G_make_Tape_N p0 (p1.length : Int)) fun y1 =>
  kb (getI p1 y1.1) fun x3 =>
  some (x3, y1.2)
theorem sim_make_Tape_Pick {p0 : S_trustquorummake_Tape} {p1 : (List Int)} {r : (Int × S_trustquorummake_Tape)} (hB : B_make_Tape_Pick p0 p1 = some r) : R 50 [.ptr (.arg 0) 0 0, (.pv (.sl p1.length (ints p1)))] [.box 0 [(.pv (.sl p0.f0.length (ints p0.f0))), (i64 p0.f1)]] = some ((i64 r.1), [.box 0 [(.pv (.sl r.2.f0.length (ints r.2.f0))), (i64 r.2.f1)]], []) := by
  rw [R_eq _ _ _ fn_make_Tape_Pick]
  simp only [Code.fst, Code.snd, Tryz.f50, Option.getD_some]
  generalize hr1 : Code.region 1 _ _ = rr1
  unfold B_make_Tape_Pick at hB
  obtain ⟨y1, k2, hB⟩ := kb_inv hB
  replace k2 := run_make_Tape_N k2
  try simp only [Iqe, Iqf, Lqe, Lqf, Lqg, Lqh, Nqa, Nat.reduceAdd, Tqa, Tqb, Tqc, Eqe, Eqf, Eqg, Eqh, Eqa, Eqb, Eqc, Eqd, Eqi, Eqj, Eqk, Eql, Eqm, Eqn] at k2
  try dsimp only at hB
  obtain ⟨x3, h4, hB⟩ := kb_inv hB
  obtain ⟨h4a, h4b, h4c, h4d⟩ := getI_inv h4
  try simp only [Int.toNat_natCast, Int.reduceToNat] at h4c
  try dsimp only at hB
  obtain rfl := Option.some.inj hB
  subst hr1
  simp -implicitDefEqProofs [-getElem?_pos, -Iqa, -Iqb, -Iqc, -Iqd, -Lqa, Lqb, Lqc, Lqd, k2, h4a, h4b, h4c, h4d]
theorem g_make_Tape_Pick {p0 : S_trustquorummake_Tape} {p1 : (List Int)} {r : (Int × S_trustquorummake_Tape)} (hB : B_make_Tape_Pick p0 p1 = some r) : G_make_Tape_Pick p0 p1 = some r := dec_of (fun a b h => by rcases a with ⟨a0_, ⟨a1_0, a1_1⟩⟩; rcases b with ⟨b0_, ⟨b1_0, b1_1⟩⟩; simp at h; simp [*]) (sim_make_Tape_Pick hB)
end Go.Am
namespace Go.Am
open Go Go.Proofs
set_option maxRecDepth 4000
set_option maxHeartbeats 4000000
open Int renaming ofNat_lt → Iqa, ofNat_le → Iqb, natCast_eq_zero → Iqc, natCast_pos → Iqd, cast_ofNat_Int → Iqe, natCast_zero → Iqf
open List renaming length_eq_zero_iff → Lqa, getElem?_cons_zero → Lqb, getElem?_cons_succ → Lqc, getElem?_nil → Lqd, length_cons → Lqe, length_nil → Lqf, nil_append → Lqg, cons_append → Lqh
open Nat renaming zero_add → Nqa
open Tru renaming thr_mk → Tqa, nodes_mk → Tqb, inner_mk → Tqc
open Go.Am renaming es_api_Declaration_cons → Eqa, es_api_Declaration_nil → Eqb, es_api_Evidence_cons → Eqc, es_api_Evidence_nil → Eqd, ints_cons → Eqe, ints_nil → Eqf, encTs_cons → Eqg, encTs_nil → Eqh, es_str_cons → Eqi, es_str_nil → Eqj, es_u64_cons → Eqk, es_u64_nil → Eql, es_u8_cons → Eqm, es_u8_nil → Eqn
noncomputable def B_make_Tape_Order_0 (p0 : S_trustquorummake_Tape) (p1 : Int) (x5_0 : (List Int)) (x6_0 : Int) : Option (Stp ((List Int) × Int) Unit) :=
  cnd (decide (x6_0 < p1)) (
    kb (appK x5_0 ([x6_0] : List Int) 8) fun L2 =>
    some (.go (L2, (add64 x6_0 1)))) (
    some (.ex 0 (x5_0, x6_0)))
def I_make_Tape_Order_0 (p0 : S_trustquorummake_Tape) (p1 : Int) (x5_0 : (List Int)) (x6_0 : Int) (q : St) : Prop := q (.t 1) = (i64 p1) ∧ (∃ v : AV, q (.t 5) = v ∧ (ownAt q v (.site 5 3 0) false 1 x5_0.length (ints x5_0) ∨ (v = .nilsl ∧ x5_0 = []))) ∧ q (.t 6) = (i64 x6_0) ∧ (q (.t 0) = .ptr (.arg 0) 0 0 ∧ q (.i (.arg 0)) = .box 0 [(.pv (.sl p0.f0.length (ints p0.f0))), (i64 p0.f1)])
def Q_make_Tape_Order_0 (p0 : S_trustquorummake_Tape) (p1 : Int) (x5_0 : (List Int)) (x6_0 : Int) (q : St) : Prop := q (.t 1) = (i64 p1) ∧ (∃ v : AV, q (.t 5) = v ∧ (ownAt q v (.site 5 3 0) false 1 x5_0.length (ints x5_0) ∨ (v = .nilsl ∧ x5_0 = []))) ∧ (q (.t 0) = .ptr (.arg 0) 0 0 ∧ q (.i (.arg 0)) = .box 0 [(.pv (.sl p0.f0.length (ints p0.f0))), (i64 p0.f1)])
theorem Pb_make_Tape_Order_0 {p0 : S_trustquorummake_Tape} {p1 : Int} {x5_0 : (List Int)} {x6_0 : Int} {q : St} {r : (Stp ((List Int) × Int) Unit)} (hI : I_make_Tape_Order_0 p0 p1 x5_0 x6_0 q) (hB : B_make_Tape_Order_0 p0 p1 x5_0 x6_0 = some r) : Res (C Tryz.prog cf (Code.fst (Code.fst (Code.snd (Code.fst (Code.snd (Code.snd ((Tryz.f94.body).getD .skip))))))) q) (postB 0 (fun a q => I_make_Tape_Order_0 p0 p1 a.1 a.2 q) (fun a q => Q_make_Tape_Order_0 p0 p1 a.1 a.2 q) (fun _ _ => False) r) := by
  simp only [I_make_Tape_Order_0] at hI
  obtain ⟨q1, ⟨v2, q2, a2⟩, q3, ⟨q4, q5⟩⟩ := hI
  simp only [Code.fst, Code.snd, Tryz.f94, Option.getD_some]
  generalize hr5 : Code.region 5 _ _ = rr5
  unfold B_make_Tape_Order_0 at hB
  rcases a2 with ⟨ga2, rfl, oa2⟩ | ⟨rfl, ea2⟩
  · rcases cnd_inv hB with ⟨c1, hB⟩ | ⟨c1, hB⟩
    · have pc1 := eq_true (of_decide_eq_true c1)
      obtain ⟨L2, a3, hB⟩ := kb_inv hB
      obtain ⟨a3z, a3a, a3y⟩ := appK_inv a3
      try (simp only [Lqg] at a3z; subst a3z)
      have a3b := appK_len a3
      have a3c := ints_appK a3
      have a3d := appK_le a3
      try simp only [Iqe, Iqf, Lqe, Lqf, Lqg, Lqh, Nqa, Nat.reduceAdd, Tqa, Tqb, Tqc, Eqe, Eqf, Eqg, Eqh, Eqa, Eqb, Eqc, Eqd, Eqi, Eqj, Eqk, Eql, Eqm, Eqn] at a3a a3b a3c
      try replace a3b : _ = (1 : Nat) := a3b.symm
      try dsimp only at hB
      obtain rfl := Option.some.inj hB
      subst hr5
      try simp -implicitDefEqProofs [-getElem?_pos, -Iqa, -Iqb, -Iqc, -Iqd, -Lqa, Lqb, Lqc, Lqd, q1, q2, q3, q4, q5, oa2, c1, pc1, a3a, a3b, a3c, a3d]
      refine Res.bgo ?_
      simp -implicitDefEqProofs [-getElem?_pos, -Iqa, -Iqb, -Iqc, -Iqd, -Lqa, Lqb, Lqc, Lqd, and_assoc, I_make_Tape_Order_0, ownAt, q1, q2, q3, q4, q5, oa2, c1, pc1, a3a, a3b, a3c, a3d]
    · have pc1 := eq_false (of_decide_eq_false c1)
      obtain rfl := Option.some.inj hB
      try simp -implicitDefEqProofs [-getElem?_pos, -Iqa, -Iqb, -Iqc, -Iqd, -Lqa, Lqb, Lqc, Lqd, q1, q2, q3, q4, q5, oa2, c1, pc1]
      refine Res.bex ?_
      simp -implicitDefEqProofs [-getElem?_pos, -Iqa, -Iqb, -Iqc, -Iqd, -Lqa, Lqb, Lqc, Lqd, and_assoc, Q_make_Tape_Order_0, ownAt, q1, q2, q3, q4, q5, oa2, c1, pc1]
  · try subst ea2
    rcases cnd_inv hB with ⟨c1, hB⟩ | ⟨c1, hB⟩
    · have pc1 := eq_true (of_decide_eq_true c1)
      obtain ⟨L2, a3, hB⟩ := kb_inv hB
      obtain ⟨a3z, a3a, a3y⟩ := appK_inv a3
      simp only [Lqg] at a3z
      subst a3z
      try dsimp only at hB
      obtain rfl := Option.some.inj hB
      subst hr5
      try simp -implicitDefEqProofs [-getElem?_pos, -Iqa, -Iqb, -Iqc, -Iqd, -Lqa, Lqb, Lqc, Lqd, q1, q2, q3, q4, q5, c1, pc1]
      refine Res.bgo ?_
      simp -implicitDefEqProofs [-getElem?_pos, -Iqa, -Iqb, -Iqc, -Iqd, -Lqa, Lqb, Lqc, Lqd, and_assoc, I_make_Tape_Order_0, ownAt, q1, q2, q3, q4, q5, c1, pc1]; all_goals ((repeat' apply And.intro) <;> assumption)
    · have pc1 := eq_false (of_decide_eq_false c1)
      obtain rfl := Option.some.inj hB
      try simp -implicitDefEqProofs [-getElem?_pos, -Iqa, -Iqb, -Iqc, -Iqd, -Lqa, Lqb, Lqc, Lqd, q1, q2, q3, q4, q5, c1, pc1]
      refine Res.bex ?_
      simp -implicitDefEqProofs [-getElem?_pos, -Iqa, -Iqb, -Iqc, -Iqd, -Lqa, Lqb, Lqc, Lqd, and_assoc, Q_make_Tape_Order_0, ownAt, q1, q2, q3, q4, q5, c1, pc1]; all_goals ((repeat' apply And.intro) <;> assumption)
theorem P_make_Tape_Order_0 {p0 : S_trustquorummake_Tape} {p1 : Int} {x5_0 : (List Int)} {x6_0 : Int} {cc : Code} (hcc : cc = .block 0 (.loop (Code.fst (Code.fst (Code.snd (Code.fst (Code.snd (Code.snd ((Tryz.f94.body).getD .skip))))))))) {s : St} {z : Option (Ex × St)} (hz : C Tryz.prog cf cc s = z) {r : (Stp ((List Int) × Int) Unit)} (hI : I_make_Tape_Order_0 p0 p1 x5_0 x6_0 s) (hB : iterW (fun a => B_make_Tape_Order_0 p0 p1 a.1 a.2) (x5_0, x6_0) = some r) : Res z (postS (fun a q => Q_make_Tape_Order_0 p0 p1 a.1 a.2 q) (fun _ _ => False) r) := by
  subst hcc
  exact while_sim (I := fun a q => I_make_Tape_Order_0 p0 p1 a.1 a.2 q) (Q := (fun a q => Q_make_Tape_Order_0 p0 p1 a.1 a.2 q)) (QR := (fun _ _ => False)) (fun a q r h hB => Pb_make_Tape_Order_0 h hB) hI hz hB
noncomputable def B_make_Tape_Order_1 (xba0_0_1 : (List Int)) (xba0_1_1 : Int) (x5_1 : (List Int)) (x7_1 : Int) : Option (Stp ((List Int) × Int × (List Int) × Int) Unit) :=
  cnd (decide (0 < x7_1)) (
    kb (G_make_Tape_N (S_trustquorummake_Tape.mk xba0_0_1 xba0_1_1) (add64 x7_1 1)) fun y6 =>
    kb (getI x5_1 y6.1) fun x8 =>
    kb (getI x5_1 x7_1) fun x11 =>
    kb (setK x5_1 x7_1 x8) fun L14 =>
    kb (getI L14 y6.1) fun x16 =>
    kb (setK L14 y6.1 x11) fun L18 =>
    some (.go (y6.2.f0, y6.2.f1, L18, (sub64 x7_1 1)))) (
    some (.ex 2 (xba0_0_1, xba0_1_1, x5_1, x7_1)))
def I_make_Tape_Order_1 (xba0_0_1 : (List Int)) (xba0_1_1 : Int) (x5_1 : (List Int)) (x7_1 : Int) (q : St) : Prop := (∃ v : AV, q (.t 5) = v ∧ (ownAt q v (.site 5 3 0) false 1 x5_1.length (ints x5_1) ∨ (v = .nilsl ∧ x5_1 = []))) ∧ q (.t 7) = (i64 x7_1) ∧ (q (.t 0) = .ptr (.arg 0) 0 0 ∧ q (.i (.arg 0)) = .box 0 [(.pv (.sl xba0_0_1.length (ints xba0_0_1))), (i64 xba0_1_1)])
def Q_make_Tape_Order_1 (xba0_0_1 : (List Int)) (xba0_1_1 : Int) (x5_1 : (List Int)) (x7_1 : Int) (q : St) : Prop := (∃ v : AV, q (.t 5) = v ∧ (ownAt q v (.site 5 3 0) false 1 x5_1.length (ints x5_1) ∨ (v = .nilsl ∧ x5_1 = []))) ∧ (q (.i (.arg 0)) = .box 0 [(.pv (.sl xba0_0_1.length (ints xba0_0_1))), (i64 xba0_1_1)])
theorem Pb_make_Tape_Order_1 {xba0_0_1 : (List Int)} {xba0_1_1 : Int} {x5_1 : (List Int)} {x7_1 : Int} {q : St} {r : (Stp ((List Int) × Int × (List Int) × Int) Unit)} (hI : I_make_Tape_Order_1 xba0_0_1 xba0_1_1 x5_1 x7_1 q) (hB : B_make_Tape_Order_1 xba0_0_1 xba0_1_1 x5_1 x7_1 = some r) : Res (C Tryz.prog cf (Code.fst (Code.fst (Code.snd (Code.fst (Code.snd (Code.snd (Code.snd ((Tryz.f94.body).getD .skip)))))))) q) (postB 2 (fun a q => I_make_Tape_Order_1 a.1 a.2.1 a.2.2.1 a.2.2.2 q) (fun a q => Q_make_Tape_Order_1 a.1 a.2.1 a.2.2.1 a.2.2.2 q) (fun _ _ => False) r) := by
  simp only [I_make_Tape_Order_1] at hI
  obtain ⟨⟨v1, q1, a1⟩, q2, ⟨q3, q4⟩⟩ := hI
  simp only [Code.fst, Code.snd, Tryz.f94, Option.getD_some]
  generalize hr9 : Code.region 9 _ _ = rr9
  generalize hr10 : Code.region 10 _ _ = rr10
  unfold B_make_Tape_Order_1 at hB
  rcases a1 with ⟨ga1, rfl, oa1⟩ | ⟨rfl, ea1⟩
  · rcases cnd_inv hB with ⟨c5, hB⟩ | ⟨c5, hB⟩
    · have pc5 := eq_true (of_decide_eq_true c5)
      obtain ⟨y6, k7, hB⟩ := kb_inv hB
      replace k7 := run_make_Tape_N k7
      try simp only [Iqe, Iqf, Lqe, Lqf, Lqg, Lqh, Nqa, Nat.reduceAdd, Tqa, Tqb, Tqc, Eqe, Eqf, Eqg, Eqh, Eqa, Eqb, Eqc, Eqd, Eqi, Eqj, Eqk, Eql, Eqm, Eqn] at k7
      try dsimp only at hB
      obtain ⟨x8, h9, hB⟩ := kb_inv hB
      obtain ⟨h9a, h9b, h9c, h9d⟩ := getI_inv h9
      try simp only [Int.toNat_natCast, Int.reduceToNat] at h9c
      try dsimp only at hB
      obtain ⟨x11, h12, hB⟩ := kb_inv hB
      obtain ⟨h12a, h12b, h12c, h12d⟩ := getI_inv h12
      try simp only [Int.toNat_natCast, Int.reduceToNat] at h12c
      try dsimp only at hB
      obtain ⟨L14, s15, hB⟩ := kb_inv hB
      obtain ⟨s15a, s15b, s15c, s15d, s15e, s15g⟩ := ints_put s15
      try simp only [Iqe, Iqf, Lqe, Lqf, Lqg, Lqh, Nqa, Nat.reduceAdd, Tqa, Tqb, Tqc, Eqe, Eqf, Eqg, Eqh, Eqa, Eqb, Eqc, Eqd, Eqi, Eqj, Eqk, Eql, Eqm, Eqn] at s15d
      try dsimp only at hB
      obtain ⟨x16, h17, hB⟩ := kb_inv hB
      obtain ⟨h17a, h17b, h17c, h17d⟩ := getI_inv h17
      try simp only [Int.toNat_natCast, Int.reduceToNat] at h17c
      try simp only [s15e] at h17b
      try dsimp only at hB
      obtain ⟨L18, s19, hB⟩ := kb_inv hB
      obtain ⟨s19a, s19b, s19c, s19d, s19e, s19g⟩ := ints_put s19
      try simp only [Iqe, Iqf, Lqe, Lqf, Lqg, Lqh, Nqa, Nat.reduceAdd, Tqa, Tqb, Tqc, Eqe, Eqf, Eqg, Eqh, Eqa, Eqb, Eqc, Eqd, Eqi, Eqj, Eqk, Eql, Eqm, Eqn] at s19d
      try simp only [s15e] at s19a
      try simp only [s15e] at s19b
      try simp only [s15e] at s19c
      try simp only [s15e] at s19e
      try simp only [s15e] at s19g
      try dsimp only at hB
      obtain rfl := Option.some.inj hB
      subst hr9
      subst hr10
      try simp -implicitDefEqProofs [-getElem?_pos, -Iqa, -Iqb, -Iqc, -Iqd, -Lqa, Lqb, Lqc, Lqd, q1, q2, q3, q4, oa1, c5, pc5, k7, h9a, h9b, h9c, h9d, h12a, h12b, h12c, h12d, s15a, s15b, s15c, s15d, s15e, s15g, h17a, h17b, h17c, h17d, s19a, s19b, s19c, s19d, s19e, s19g]
      rw [drawK_ok _ _ _ (by kernel_rfl)]
      simp -implicitDefEqProofs [-getElem?_pos, -Iqa, -Iqb, -Iqc, -Iqd, -Lqa, Lqb, Lqc, Lqd, q1, q2, q3, q4, oa1, c5, pc5, k7, h9a, h9b, h9c, h9d, h12a, h12b, h12c, h12d, s15a, s15b, s15c, s15d, s15e, s15g, h17a, h17b, h17c, h17d, s19a, s19b, s19c, s19d, s19e, s19g]
      refine Res.bgo ?_
      simp -implicitDefEqProofs [-getElem?_pos, -Iqa, -Iqb, -Iqc, -Iqd, -Lqa, Lqb, Lqc, Lqd, and_assoc, I_make_Tape_Order_1, ownAt, q1, q2, q3, q4, oa1, c5, pc5, k7, h9a, h9b, h9c, h9d, h12a, h12b, h12c, h12d, s15a, s15b, s15c, s15d, s15e, s15g, h17a, h17b, h17c, h17d, s19a, s19b, s19c, s19d, s19e, s19g]
    · have pc5 := eq_false (of_decide_eq_false c5)
      obtain rfl := Option.some.inj hB
      try simp -implicitDefEqProofs [-getElem?_pos, -Iqa, -Iqb, -Iqc, -Iqd, -Lqa, Lqb, Lqc, Lqd, q1, q2, q3, q4, oa1, c5, pc5]
      refine Res.bex ?_
      simp -implicitDefEqProofs [-getElem?_pos, -Iqa, -Iqb, -Iqc, -Iqd, -Lqa, Lqb, Lqc, Lqd, and_assoc, Q_make_Tape_Order_1, ownAt, q1, q2, q3, q4, oa1, c5, pc5]
  · try subst ea1
    rcases cnd_inv hB with ⟨c5, hB⟩ | ⟨c5, hB⟩
    · have pc5 := eq_true (of_decide_eq_true c5)
      obtain ⟨y6, k7, hB⟩ := kb_inv hB
      replace k7 := run_make_Tape_N k7
      try simp only [Iqe, Iqf, Lqe, Lqf, Lqg, Lqh, Nqa, Nat.reduceAdd, Tqa, Tqb, Tqc, Eqe, Eqf, Eqg, Eqh, Eqa, Eqb, Eqc, Eqd, Eqi, Eqj, Eqk, Eql, Eqm, Eqn] at k7
      try dsimp only at hB
      obtain ⟨x8, h9, hB⟩ := kb_inv hB
      exact absurd h9 (by simp [getI])
    · have pc5 := eq_false (of_decide_eq_false c5)
      obtain rfl := Option.some.inj hB
      try simp -implicitDefEqProofs [-getElem?_pos, -Iqa, -Iqb, -Iqc, -Iqd, -Lqa, Lqb, Lqc, Lqd, q1, q2, q3, q4, c5, pc5]
      refine Res.bex ?_
      simp -implicitDefEqProofs [-getElem?_pos, -Iqa, -Iqb, -Iqc, -Iqd, -Lqa, Lqb, Lqc, Lqd, and_assoc, Q_make_Tape_Order_1, ownAt, q1, q2, q3, q4, c5, pc5]; all_goals ((repeat' apply And.intro) <;> assumption)
theorem P_make_Tape_Order_1 {xba0_0_1 : (List Int)} {xba0_1_1 : Int} {x5_1 : (List Int)} {x7_1 : Int} {cc : Code} (hcc : cc = .block 2 (.loop (Code.fst (Code.fst (Code.snd (Code.fst (Code.snd (Code.snd (Code.snd ((Tryz.f94.body).getD .skip)))))))))) {s : St} {z : Option (Ex × St)} (hz : C Tryz.prog cf cc s = z) {r : (Stp ((List Int) × Int × (List Int) × Int) Unit)} (hI : I_make_Tape_Order_1 xba0_0_1 xba0_1_1 x5_1 x7_1 s) (hB : iterW (fun a => B_make_Tape_Order_1 a.1 a.2.1 a.2.2.1 a.2.2.2) (xba0_0_1, xba0_1_1, x5_1, x7_1) = some r) : Res z (postS (fun a q => Q_make_Tape_Order_1 a.1 a.2.1 a.2.2.1 a.2.2.2 q) (fun _ _ => False) r) := by
  subst hcc
  exact while_sim (I := fun a q => I_make_Tape_Order_1 a.1 a.2.1 a.2.2.1 a.2.2.2 q) (Q := (fun a q => Q_make_Tape_Order_1 a.1 a.2.1 a.2.2.1 a.2.2.2 q)) (QR := (fun _ _ => False)) (fun a q r h hB => Pb_make_Tape_Order_1 h hB) hI hz hB
noncomputable def B_make_Tape_Order (p0 : S_trustquorummake_Tape) (p1 : Int) : Option ((List Int) × S_trustquorummake_Tape) :=
  kb (iterW (fun a => B_make_Tape_Order_0 p0 p1 a.1 a.2) (([] : (List Int)), 0)) fun o => stpK o (fun z4 =>
    kb (iterW (fun a => B_make_Tape_Order_1 a.1 a.2.1 a.2.2.1 a.2.2.2) (p0.f0, p0.f1, z4.1, (sub64 p1 1))) fun o => stpK o (fun z10 =>
      some (z10.2.2.1, (S_trustquorummake_Tape.mk z10.1 z10.2.1))) (fun z10r =>
      none)) (fun z4r =>
    none)
theorem sim_make_Tape_Order {p0 : S_trustquorummake_Tape} {p1 : Int} {r : ((List Int) × S_trustquorummake_Tape)} (hB : B_make_Tape_Order p0 p1 = some r) : R 94 [.ptr (.arg 0) 0 0, (i64 p1)] [.box 0 [(.pv (.sl p0.f0.length (ints p0.f0))), (i64 p0.f1)]] = some ((.pv (.sl r.1.length (ints r.1))), [.box 0 [(.pv (.sl r.2.f0.length (ints r.2.f0))), (i64 r.2.f1)]], []) := by
  rw [R_eq _ _ _ fn_make_Tape_Order]
  simp only [Code.fst, Code.snd, Tryz.f94, Option.getD_some]
  generalize hc0 : Code.block 0 _ = cc0
  generalize hc1 : Code.block 2 _ = cc1
  unfold B_make_Tape_Order at hB
  try simp -implicitDefEqProofs [-getElem?_pos, -Iqa, -Iqb, -Iqc, -Iqd, -Lqa, Lqb, Lqc, Lqd]
  generalize hz0 : C Tryz.prog cf cc0 _ = z0
  obtain ⟨o, hB1, hB⟩ := kb_inv hB
  have hJ := P_make_Tape_Order_0 (hc0.symm.trans (by kernel_rfl)) hz0 (by simp -implicitDefEqProofs [-getElem?_pos, -Iqa, -Iqb, -Iqc, -Iqd, -Lqa, Lqb, Lqc, Lqd, and_assoc, I_make_Tape_Order_0, ownAt]) hB1
  obtain ⟨e0, s0, rfl, hq⟩ := hJ.open
  clear hB1
  rcases o with z4 | ⟨_, _⟩ | z4r
  · simp only [stpK_go] at hB
    obtain ⟨rfl, hq⟩ := hq
    obtain ⟨u0_0, u0_1⟩ := z4
    dsimp only at hB hq
    simp only [Q_make_Tape_Order_0] at hq
    obtain ⟨q4_1, ⟨v4_2, q4_2, a4_2⟩, ⟨q4_3, q4_4⟩⟩ := hq
    rcases a4_2 with ⟨ga4_2, rfl, oa4_2⟩ | ⟨rfl, ea4_2⟩
    · try simp -implicitDefEqProofs [-getElem?_pos, -Iqa, -Iqb, -Iqc, -Iqd, -Lqa, Lqb, Lqc, Lqd, q4_1, q4_2, q4_3, q4_4, oa4_2]
      generalize hz1 : C Tryz.prog cf cc1 _ = z1
      obtain ⟨o, hB1, hB⟩ := kb_inv hB
      have hJ := P_make_Tape_Order_1 (hc1.symm.trans (by kernel_rfl)) hz1 (by simp -implicitDefEqProofs [-getElem?_pos, -Iqa, -Iqb, -Iqc, -Iqd, -Lqa, Lqb, Lqc, Lqd, and_assoc, I_make_Tape_Order_1, ownAt, q4_1, q4_2, q4_3, q4_4, oa4_2]) hB1
      obtain ⟨e1, s1, rfl, hq⟩ := hJ.open
      clear hB1
      rcases o with z10 | ⟨_, _⟩ | z10r
      · simp only [stpK_go] at hB
        obtain ⟨rfl, hq⟩ := hq
        obtain ⟨u1_0, u1_1, u1_2, u1_3⟩ := z10
        dsimp only at hB hq
        simp only [Q_make_Tape_Order_1] at hq
        obtain ⟨⟨v10_1, q10_1, a10_1⟩, q10_2⟩ := hq
        rcases a10_1 with ⟨ga10_1, rfl, oa10_1⟩ | ⟨rfl, ea10_1⟩
        · obtain rfl := Option.some.inj hB
          simp -implicitDefEqProofs [-getElem?_pos, -Iqa, -Iqb, -Iqc, -Iqd, -Lqa, Lqb, Lqc, Lqd, q10_1, q10_2, oa10_1]
        · try subst ea10_1
          obtain rfl := Option.some.inj hB
          simp -implicitDefEqProofs [-getElem?_pos, -Iqa, -Iqb, -Iqc, -Iqd, -Lqa, Lqb, Lqc, Lqd, q10_1, q10_2]
      · exact hq.elim
      · cases hB
    · try subst ea4_2
      try simp -implicitDefEqProofs [-getElem?_pos, -Iqa, -Iqb, -Iqc, -Iqd, -Lqa, Lqb, Lqc, Lqd, q4_1, q4_2, q4_3, q4_4]
      generalize hz1 : C Tryz.prog cf cc1 _ = z1
      obtain ⟨o, hB1, hB⟩ := kb_inv hB
      have hJ := P_make_Tape_Order_1 (hc1.symm.trans (by kernel_rfl)) hz1 (by simp -implicitDefEqProofs [-getElem?_pos, -Iqa, -Iqb, -Iqc, -Iqd, -Lqa, Lqb, Lqc, Lqd, and_assoc, I_make_Tape_Order_1, ownAt, q4_1, q4_2, q4_3, q4_4]; all_goals ((repeat' apply And.intro) <;> assumption)) hB1
      obtain ⟨e1, s1, rfl, hq⟩ := hJ.open
      clear hB1
      rcases o with z10 | ⟨_, _⟩ | z10r
      · simp only [stpK_go] at hB
        obtain ⟨rfl, hq⟩ := hq
        obtain ⟨u1_0, u1_1, u1_2, u1_3⟩ := z10
        dsimp only at hB hq
        simp only [Q_make_Tape_Order_1] at hq
        obtain ⟨⟨v10_1, q10_1, a10_1⟩, q10_2⟩ := hq
        rcases a10_1 with ⟨ga10_1, rfl, oa10_1⟩ | ⟨rfl, ea10_1⟩
        · obtain rfl := Option.some.inj hB
          simp -implicitDefEqProofs [-getElem?_pos, -Iqa, -Iqb, -Iqc, -Iqd, -Lqa, Lqb, Lqc, Lqd, q10_1, q10_2, oa10_1]
        · try subst ea10_1
          obtain rfl := Option.some.inj hB
          simp -implicitDefEqProofs [-getElem?_pos, -Iqa, -Iqb, -Iqc, -Iqd, -Lqa, Lqb, Lqc, Lqd, q10_1, q10_2]
      · exact hq.elim
      · cases hB
  · exact hq.elim
  · cases hB
theorem g_make_Tape_Order {p0 : S_trustquorummake_Tape} {p1 : Int} {r : ((List Int) × S_trustquorummake_Tape)} (hB : B_make_Tape_Order p0 p1 = some r) : G_make_Tape_Order p0 p1 = some r := dec_of (fun a b h => by rcases a with ⟨a0_, ⟨a1_0, a1_1⟩⟩; rcases b with ⟨b0_, ⟨b1_0, b1_1⟩⟩; simp at h; simp [*]) (sim_make_Tape_Order hB)
end Go.Am
/-
Plain laws: the tape, and what the functions on sets and the reference of trusts answer.
-/
namespace Go.Am
open Go
theorem s_ref01_Valid (s : Int) : G_ref01_Valid s = some (setB s) := by
  refine g_ref01_Valid ?_
  unfold B_ref01_Valid setB
  by_cases h : 0 ≤ s <;> simp [cnd, h]
theorem s_ref01_Has (s k : Int) : G_ref01_Has s k = some (hasS s k) := by
  refine g_ref01_Has ?_
  unfold B_ref01_Has hasS
  rw [s_ref01_Valid, kb_some]
  cases h : setB s
  · rfl
  · rw [setB_iff] at h
    simp only [cnd_true, Bool.true_and]
    by_cases h1 : 0 ≤ k
    · by_cases h2 : k < 10
      · simp only [h1, h2, decide_true, cnd_true, mustK_some (show ¬ k < 0 by omega), kb_some, and_self, Bool.true_and]
        obtain ⟨m, rfl⟩ := Int.eq_ofNat_of_zero_le h.1
        obtain ⟨j, rfl⟩ := Int.eq_ofNat_of_zero_le h1
        rw [has_shr (by omega) (by omega)]
        simp
      · simp [h1, h2, cnd]
    · simp [h1, cnd]
/-! ### the tape -/
abbrev Tape := S_trustquorummake_Tape
def Tp (t : Tape) : Prop := 0 ≤ t.f1 ∧ t.f1 ≤ 400 ∧ t.f0.length ≤ 400 ∧ ∀ x ∈ t.f0, in64 x
theorem s_New {l : List Int} (h : ∀ x ∈ l, in64 x) : ∃ t, G_make_New l = some t ∧ Tp t := by
  refine ⟨⟨l.take 400, 0⟩, g_make_New ?_, ?_⟩
  · unfold B_make_New
    have e : partK l 0 (if 400 < (l.length : Int) then 400 else (l.length : Int)) = some (l.take 400) := by
      unfold partK
      rw [if_pos ⟨by omega, by split <;> omega, by split <;> omega⟩]
      simp
      split
      · rfl
      · simp; omega
    rw [e, kb_some]
  · exact ⟨by simp, by simp, by simp; omega, fun x hx => h x (List.mem_of_mem_take hx)⟩
theorem s_N {t : Tape} {n : Int} (ht : Tp t) (h1 : 1 ≤ n) (h2 : n < 2 ^ 62) : ∃ v t', G_make_Tape_N t n = some (v, t') ∧ (0 ≤ v ∧ v < n) ∧ Tp t' := by
  obtain ⟨a, b, c, d⟩ := ht
  by_cases hc : (t.f0.length : Int) ≤ t.f1
  · exact ⟨0, t, g_make_Tape_N (by unfold B_make_Tape_N; simp [cnd, hc]), by omega, a, b, c, d⟩
  · have hlt : t.f1.toNat < t.f0.length := by omega
    have hg : getI t.f0 t.f1 = some t.f0[t.f1.toNat] := getI_of a (by simp [hlt])
    have hx : in64 t.f0[t.f1.toNat] := d _ (List.getElem_mem _)
    generalize t.f0[t.f1.toNat] = x at hg hx
    have e1 : add64 t.f1 1 = t.f1 + 1 := add64_of (by omega) (by omega)
    have hm1 : x.tmod n < n := Int.tmod_lt_of_pos _ (by omega)
    have hm2 : -n < x.tmod n := by
      have := Int.lt_tmod_of_pos x (b := n) (by omega)
      omega
    have ht' : Tp ⟨t.f0, t.f1 + 1⟩ := ⟨by show 0 ≤ t.f1 + 1; omega, by show t.f1 + 1 ≤ 400; omega, c, d⟩
    by_cases hn : x.tmod n < 0
    · refine ⟨x.tmod n + n, _, g_make_Tape_N ?_, by omega, ht'⟩
      unfold B_make_Tape_N
      simp only [hc, decide_false, cnd_false, hg, kb_some, mustK_some (show n ≠ 0 by omega), hn, decide_true, cnd_true, e1]
      rw [add64_of (by omega) (by omega)]
    · refine ⟨x.tmod n, _, g_make_Tape_N ?_, by omega, ht'⟩
      unfold B_make_Tape_N
      simp only [hc, decide_false, cnd_false, hg, kb_some, mustK_some (show n ≠ 0 by omega), hn, e1]
theorem s_Range {t : Tape} {a b : Int} (ht : Tp t) (h0 : -1000000 ≤ a) (h1 : a ≤ b) (h2 : b < 2 ^ 60) : ∃ v t', G_make_Tape_Range t a b = some (v, t') ∧ (a ≤ v ∧ v ≤ b) ∧ Tp t' := by
  have e : add64 (sub64 b a) 1 = b - a + 1 := by rw [sub64_of (by omega) (by omega), add64_of (by omega) (by omega)]
  obtain ⟨v, t', hg, hv, ht'⟩ := s_N ht (n := b - a + 1) (by omega) (by omega)
  refine ⟨a + v, t', g_make_Tape_Range ?_, by omega, ht'⟩
  unfold B_make_Tape_Range
  rw [e, hg, kb_some]
  simp only
  rw [add64_of (by omega) (by omega)]
theorem s_Pick {t : Tape} {l : List Int} (ht : Tp t) (h1 : 1 ≤ l.length) (h2 : l.length < 2 ^ 60) : ∃ v t', G_make_Tape_Pick t l = some (v, t') ∧ v ∈ l ∧ Tp t' := by
  obtain ⟨v, t', hg, hv, ht'⟩ := s_N ht (n := (l.length : Int)) (by omega) (by omega)
  have hlt : v.toNat < l.length := by omega
  refine ⟨l[v.toNat], t', g_make_Tape_Pick ?_, List.getElem_mem _, ht'⟩
  unfold B_make_Tape_Pick
  rw [hg, kb_some]
  simp only
  rw [getI_of hv.1 (x := l[v.toNat]) (by simp [hlt]), kb_some]
theorem setK_some {X : Type} {l : List X} {j : Int} {x : X} (h0 : 0 ≤ j) (h : j < (l.length : Int)) : setK l j x = some (l.set j.toNat x) := if_pos ⟨h0, h⟩
theorem getI_some {X : Type} {l : List X} {j : Int} (h0 : 0 ≤ j) (h : j.toNat < l.length) : getI l j = some l[j.toNat] := getI_of h0 (by simp [h])
/-- the numbers below n in some order: what is needed of them -/
theorem s_Order {t : Tape} {n : Int} (ht : Tp t) (h1 : 0 ≤ n) (h2 : n ≤ 1000) : ∃ l t', G_make_Tape_Order t n = some (l, t') ∧ (l.length = n.toNat ∧ ∀ x ∈ l, 0 ≤ x ∧ x < n) ∧ Tp t' := by
  have hA := iterW_spec (A := List Int × Int) (R := Unit) (f := fun a => B_make_Tape_Order_0 t n a.1 a.2)
    (fun k a => (0 ≤ a.2 ∧ a.2 ≤ n ∧ k = (n - a.2).toNat) ∧ a.1.length = a.2.toNat ∧ ∀ x ∈ a.1, 0 ≤ x ∧ x < n)
    (fun x => ∃ a : List Int × Int, x = .go a ∧ a.1.length = n.toNat ∧ ∀ x ∈ a.1, 0 ≤ x ∧ x < n)
    (by
      rintro k ⟨l, i⟩ ⟨⟨hi, hin, hk⟩, hl, hm⟩
      simp only at hi hin hk hl hm
      by_cases c : i < n
      · left
        refine ⟨(l ++ [i], i + 1), (n - (i + 1)).toNat, ?_, by omega, ⟨by show 0 ≤ i + 1; omega, by show i + 1 ≤ n; omega, rfl⟩, ?_, ?_⟩
        · simp only [B_make_Tape_Order_0, c, decide_true, cnd_true]
          rw [appK_some (by simp; omega), kb_some, add64_of (by omega) (by omega)]
        · simp; omega
        · intro x hx
          rcases List.mem_append.1 hx with hx | hx
          · exact hm x hx
          · obtain rfl := List.mem_singleton.1 hx; omega
      · right; left
        refine ⟨0, (l, i), ?_, (l, i), rfl, ?_, hm⟩
        · simp only [B_make_Tape_Order_0, c, decide_false, cnd_false]
        · show l.length = n.toNat
          omega) (n - 0).toNat ([], 0) ⟨⟨by simp, by simpa using h1, rfl⟩, by simp, by simp⟩
  obtain ⟨_, hA1, ⟨l0, i0⟩, rfl, hl0, hm0⟩ := hA
  simp only at hl0 hm0
  have hB := iterW_spec (A := List Int × Int × List Int × Int) (R := Unit) (f := fun a => B_make_Tape_Order_1 a.1 a.2.1 a.2.2.1 a.2.2.2)
    (fun k a => (-1 ≤ a.2.2.2 ∧ a.2.2.2 < n ∧ k = (a.2.2.2 + 1).toNat) ∧ (a.2.2.1.length = n.toNat ∧ ∀ x ∈ a.2.2.1, 0 ≤ x ∧ x < n) ∧ Tp ⟨a.1, a.2.1⟩)
    (fun x => ∃ a : List Int × Int × List Int × Int, x = .go a ∧ (a.2.2.1.length = n.toNat ∧ ∀ x ∈ a.2.2.1, 0 ≤ x ∧ x < n) ∧ Tp ⟨a.1, a.2.1⟩)
    (by
      rintro k ⟨tl, ta, l, i⟩ ⟨⟨hi, hin, hk⟩, ⟨hl, hm⟩, htp⟩
      simp only at hi hin hk hl hm htp
      by_cases c : 0 < i
      · left
        obtain ⟨v, t', hg, hv, ht'⟩ := s_N htp (n := i + 1) (by omega) (by omega)
        have e1 : add64 i 1 = i + 1 := add64_of (by omega) (by omega)
        have e2 : sub64 i 1 = i - 1 := sub64_of (by omega) (by omega)
        have g1 := getI_some (l := l) (j := v) hv.1 (by omega)
        have g2 := getI_some (l := l) (j := i) (by omega) (by omega)
        have m1 : l[v.toNat]'(by omega) ∈ l := List.getElem_mem _
        have m2 : l[i.toNat]'(by omega) ∈ l := List.getElem_mem _
        generalize l[v.toNat]'(by omega) = x at g1 m1
        generalize l[i.toNat]'(by omega) = y at g2 m2
        have s1 : setK l i x = some (l.set i.toNat x) := setK_some (by omega) (by omega)
        have g3 := getI_some (l := l.set i.toNat x) (j := v) hv.1 (by simp; omega)
        have s2 : setK (l.set i.toNat x) v y = some ((l.set i.toNat x).set v.toNat y) := setK_some hv.1 (by simp; omega)
        refine ⟨(t'.f0, t'.f1, (l.set i.toNat x).set v.toNat y, i - 1), i.toNat, ?_, by omega, ⟨by show -1 ≤ i - 1; omega, by show i - 1 < n; omega, by show i.toNat = (i - 1 + 1).toNat; omega⟩, ⟨by simp; omega, ?_⟩, ht'⟩
        · simp only [B_make_Tape_Order_1, c, decide_true, cnd_true, e1, hg, kb_some, g1, g2, s1, g3, s2, e2]
        · intro z hz
          rcases List.mem_or_eq_of_mem_set hz with hz | rfl
          · rcases List.mem_or_eq_of_mem_set hz with hz | rfl
            · exact hm z hz
            · exact hm _ m1
          · exact hm _ m2
      · right; left
        refine ⟨2, (tl, ta, l, i), ?_, (tl, ta, l, i), rfl, ⟨hl, hm⟩, htp⟩
        simp only [B_make_Tape_Order_1, c, decide_false, cnd_false]) (n - 1 + 1).toNat (t.f0, t.f1, l0, n - 1) ⟨⟨by show -1 ≤ n - 1; omega, by show n - 1 < n; omega, rfl⟩, ⟨hl0, hm0⟩, ht⟩
  obtain ⟨_, hB1, ⟨tl, ta, l, i⟩, rfl, hl, htp⟩ := hB
  refine ⟨l, ⟨tl, ta⟩, g_make_Tape_Order ?_, hl, htp⟩
  unfold B_make_Tape_Order
  rw [hA1, kb_some]
  simp only [stpK_go]
  rw [sub64_of (by omega) (by omega), hB1, kb_some]
  rfl
end Go.Am
/-
Plain laws: what the reference of trusts answers.
-/
namespace Go.Am
open Go
mutual
def dep : Tru → Nat
  | .mk _ _ i => deps i + 1
def deps : List Tru → Nat
  | [] => 0
  | x :: r => max (dep x) (deps r)
end
mutual
theorem dep_le : ∀ x : Tru, dep x ≤ x.size + 1
  | .mk t n i => by have := deps_le i; simp only [dep, Tru.size]; omega
theorem deps_le : ∀ l : List Tru, deps l ≤ l.length + sizes l
  | [] => by simp [deps]
  | x :: r => by have := dep_le x; have := deps_le r; simp only [deps, sizes, List.length_cons]; omega
end
theorem foldl_deps : ∀ (l : List Tru) (a : Nat), l.foldl (fun (a : Int) x => if a < (dep x : Int) then (dep x : Int) else a) (a : Int) = ((max a (deps l) : Nat) : Int)
  | [], a => by simp [deps]
  | x :: r, a => by
    rw [List.foldl_cons]
    have e : (if (a : Int) < (dep x : Int) then (dep x : Int) else (a : Int)) = ((max a (dep x) : Nat) : Int) := by split <;> omega
    rw [e, foldl_deps r]
    simp only [deps]
    congr 1
    omega
theorem s_ref02_Depth : ∀ x : Tru, x.Fine → G_ref02_Depth x = some (dep x : Int) := by
  refine tru_ind fun t n i ih h => g_ref02_Depth ?_
  have hl := Fine_len h
  simp only [Tru.nodes_mk, Tru.inner_mk] at hl
  unfold B_ref02_Depth
  simp only [Tru.inner_mk]
  rw [smallK_some (by omega), kb_some]
  have h1 := foldO_spec (f := fun j a x => B_ref02_Depth_0 (.mk t n i) j a x) (g := fun (a : Int) x => if a < (dep x : Int) then (dep x : Int) else a) (fun j a => True) i 0 0 (by
    intro j a x hj hp
    have hx : x ∈ i := List.mem_of_getElem? hj
    refine ⟨?_, trivial⟩
    simp only [B_ref02_Depth_0, ih x hx (Fine_inner h hx), kb_some]) trivial
  rw [h1.1, kb_some]
  have := foldl_deps i 0
  simp only [Int.natCast_zero, Nat.zero_max] at this
  rw [this]
  have hd := dep_le (.mk t n i)
  have hs := h.1
  simp only [dep] at hd ⊢
  rw [add64_of (by omega) (by omega)]
  simp
theorem foldl_sizes : ∀ (l : List Tru) (a : Int), l.foldl (fun (a : Int) x => a + (x.size : Int)) a = a + (sizes l : Int)
  | [], a => by simp [sizes]
  | x :: r, a => by rw [List.foldl_cons, foldl_sizes r]; simp only [sizes]; omega
theorem sizes_take : ∀ (l : List Tru) (j : Nat), sizes (l.take j) ≤ sizes l
  | [], j => by simp
  | x :: r, 0 => by simp [sizes]
  | x :: r, j + 1 => by simp only [List.take_succ_cons, sizes]; have := sizes_take r j; omega
theorem s_ref02_Size : ∀ x : Tru, x.Fine → G_ref02_Size x = some (x.size : Int) := by
  refine tru_ind fun t n i ih h => g_ref02_Size ?_
  have hl := Fine_len h
  have hs := h.1
  simp only [Tru.nodes_mk, Tru.inner_mk] at hl
  simp only [Tru.size] at hs
  unfold B_ref02_Size
  simp only [Tru.inner_mk, Tru.nodes_mk]
  rw [smallK_some (by omega), kb_some]
  have h1 := foldO_spec (f := fun j a x => B_ref02_Size_0 (.mk t n i) j a x) (g := fun (a : Int) x => a + (x.size : Int)) (fun j a => a = n.length + i.length + (sizes (i.take j) : Int)) i 0 (n.length + i.length) (by
    intro j a x hj hp
    have hx : x ∈ i := List.mem_of_getElem? hj
    have hb := sizes_take i (j + 1)
    have e : sizes (i.take (j + 1)) = sizes (i.take j) + x.size := by rw [List.take_add_one, hj, sizes_app]; simp [sizes]
    simp only [Nat.zero_add] at hp ⊢
    simp only [B_ref02_Size_0, ih x hx (Fine_inner h hx), kb_some]
    have := sizes_take i j
    exact ⟨by rw [add64_of (by omega) (by omega)], by omega⟩) (by simp [sizes])
  rw [add64_of (by omega) (by omega), h1.1, kb_some, foldl_sizes]
  simp only [Tru.size]
  congr 1
  omega
/-! ### errors -/
def badN (k : Int) : Bool := decide (k < 0) || decide (10 ≤ k)
/-- the set of some nodes, or what is wrong with them -/
def ofG (s k : Int) : Stp Int Int := if badN k = true then .ret 5 else if hasS s k = true then .ret 6 else .go (or64 s (shl64 1 k))
def ofR : Int → List Int → Stp Int Int
  | s, [] => .go s
  | s, k :: r => match ofG s k with
    | .go s' => ofR s' r
    | .ex _ s' => .go s'
    | .ret e => .ret e
theorem s_ref01_Of (l : List Int) (hl : l.length < 4611686018427387904) : G_ref01_Of l = some (match ofR 0 l with
    | .go s => (s, 0)
    | .ex _ s => (s, 0)
    | .ret e => (0, e)) := by
  refine g_ref01_Of ?_
  unfold B_ref01_Of
  rw [smallK_some hl, kb_some]
  have h1 := loopL_spec (f := fun i a x => B_ref01_Of_1 l i a x) ofG ofR (fun j a => True) (fun a => rfl) (fun a x r => by simp only [ofR]; cases ofG a x <;> rfl) l 0 0 (by
    intro j a x hj hp
    refine ⟨?_, fun _ _ => trivial⟩
    unfold B_ref01_Of_1 B_ref01_Of_0 ofG badN
    by_cases c1 : x < 0
    · simp [c1, cnd_true, kb_some]
    · by_cases c2 : 10 ≤ x
      · simp [c1, c2, cnd_true, cnd_false, kb_some]
      · simp only [c1, c2, decide_false, cnd_false, kb_some, s_ref01_Has, Bool.or_self, Bool.false_eq_true, if_false]
        cases hasS a x
        · simp only [cnd_false, not_false_eq_true, mustK_T, kb_some]; simp
        · simp [cnd_true]) trivial
  rw [h1, kb_some]
  have hne : ∀ (l : List Int) (a : Int) k s, ofR a l ≠ .ex k s := by
    intro l
    induction l with
    | nil => intro a k s h; cases h
    | cons x r ih =>
      intro a k s h
      unfold ofR ofG at h
      split at h
      · exact ih _ _ _ h
      · rename_i h2
        split at h2
        · cases h2
        · split at h2 <;> cases h2
      · cases h
  cases h : ofR 0 l with
  | go s => rfl
  | ex k s => exact absurd h (hne l 0 k s)
  | ret e => rfl
theorem ofR_ne : ∀ (l : List Int) (a : Int) k s, ofR a l ≠ .ex k s := by
  intro l
  induction l with
  | nil => intro a k s h; cases h
  | cons x r ih =>
    intro a k s h
    unfold ofR ofG at h
    split at h
    · exact ih _ _ _ h
    · rename_i h2
      split at h2
      · cases h2
      · split at h2 <;> cases h2
    · cases h
theorem ofR_ne0 : ∀ (l : List Int) (a u : Int), ofR a l = .ret u → u ≠ 0 := by
  intro l
  induction l with
  | nil => intro a u h; cases h
  | cons x r ih =>
    intro a u h
    unfold ofR ofG at h
    split at h
    · exact ih _ _ h
    · cases h
    · rename_i h2
      cases h
      split at h2
      · cases h2; omega
      · split at h2
        · cases h2; omega
        · cases h2
def badA (l : List Int) : Bool := l.any badN
theorem has_or {m : Nat} {k : Int} (hm : m < 1024) (hk : badN k = false) : ∃ m' : Nat, or64 (m : Int) (shl64 1 k) = (m' : Int) ∧ m' < 1024 ∧ ∀ j : Int, hasS (m' : Int) j = (hasS (m : Int) j || (decide (0 ≤ j ∧ j < 10) && decide (j = k))) := by
  simp [badN] at hk
  obtain ⟨n, rfl⟩ := Int.eq_ofNat_of_zero_le hk.1
  have hn : n < 10 := by omega
  have hp : 2 ^ n < 2 ^ 10 := Nat.pow_lt_pow_right (by omega) hn
  have hb : m ||| 2 ^ n < 1024 := Nat.or_lt_two_pow (n := 10) hm hp
  refine ⟨m ||| 2 ^ n, ?_, hb, ?_⟩
  · show or64 (m : Int) (shl64 1 (n : Int)) = _
    rw [shl64_one (by omega), or64_nat (by omega) (by omega)]
  · intro j
    unfold hasS
    have e1 : setB ((m ||| 2 ^ n : Nat) : Int) = true := by rw [setB_iff]; omega
    have e2 : setB ((m : Nat) : Int) = true := by rw [setB_iff]; omega
    rw [e1, e2]
    simp only [Bool.true_and, Int.toNat_natCast, Nat.testBit_or, Nat.testBit_two_pow]
    by_cases hj : 0 ≤ j ∧ j < 10
    · obtain ⟨i, rfl⟩ := Int.eq_ofNat_of_zero_le hj.1
      simp only [hj, and_self, decide_true, Bool.true_and, Int.toNat_natCast]
      congr 1
      simp only [decide_eq_decide, Int.ofNat_eq_natCast]
      omega
    · simp [hj]
theorem ofR_go : ∀ (l : List Int) (m : Nat), m < 1024 → badA l = false → ((∃ s, ofR (m : Int) l = .go s) ↔ (l.Nodup ∧ ∀ k ∈ l, hasS (m : Int) k = false))
  | [], m, hm, hb => by simp [ofR]
  | k :: r, m, hm, hb => by
    simp only [badA, List.any_cons, Bool.or_eq_false_iff] at hb
    simp only [ofR, ofG, hb.1, Bool.false_eq_true, if_false]
    obtain ⟨m', e, hm', hj⟩ := has_or hm hb.1
    cases h : hasS (m : Int) k
    · simp only [Bool.false_eq_true, if_false, e]
      rw [ofR_go r m' hm' hb.2]
      have hk : decide (0 ≤ k ∧ k < 10) = true := by have := hb.1; simp [badN] at this; simp; omega
      constructor
      · rintro ⟨h1, h2⟩
        refine ⟨List.nodup_cons.2 ⟨fun hkr => ?_, h1⟩, ?_⟩
        · have := h2 k hkr
          rw [hj, hk] at this
          simp at this
        · intro x hx
          cases hx with
          | head => exact h
          | tail _ hx =>
            have := h2 x hx
            rw [hj, Bool.or_eq_false_iff] at this
            exact this.1
      · rintro ⟨h1, h2⟩
        have h1' := List.nodup_cons.1 h1
        refine ⟨h1'.2, fun x hx => ?_⟩
        rw [hj, h2 x (List.mem_cons_of_mem _ hx)]
        have : x ≠ k := fun e => h1'.1 (e ▸ hx)
        simp [this]
    · simp only [if_true]
      constructor
      · rintro ⟨s, hs⟩; cases hs
      · rintro ⟨h1, h2⟩
        have := h2 k List.mem_cons_self
        rw [h] at this; cases this
theorem s_Of_ok {l : List Int} (hl : l.length < 4611686018427387904) (hb : badA l = false) : ∃ s e, G_ref01_Of l = some (s, e) ∧ (e = 0 ↔ l.Nodup) := by
  have h := ofR_go l 0 (by omega) hb
  have h0 : ∀ k, hasS 0 k = false := by intro k; simp [hasS]
  have e : ((0 : Nat) : Int) = 0 := rfl
  rw [e] at h
  rw [s_ref01_Of l hl]
  cases hr : ofR 0 l with
  | go s => exact ⟨s, 0, rfl, by rw [hr] at h; exact ⟨fun _ => (h.1 ⟨s, rfl⟩).1, fun _ => rfl⟩⟩
  | ex k s =>
    exact ⟨s, 0, rfl, ⟨fun _ => by
      exfalso
      exact ofR_ne l 0 k s hr, fun _ => rfl⟩⟩
  | ret u =>
    refine ⟨0, u, rfl, ⟨fun hu => ?_, fun hn => ?_⟩⟩
    · exfalso; exact ofR_ne0 l 0 u hr hu
    · exfalso
      obtain ⟨s, hs⟩ := h.2 ⟨hn, fun k _ => h0 k⟩
      rw [hr] at hs; cases hs
mutual
/-- a trust has no error, but for its size -/
def good : Tru → Bool
  | .mk t n i => (decide (1 ≤ t) && decide (t ≤ ((n.length + i.length : Nat) : Int))) && (!badA n && (decide n.Nodup && goods i))
def goods : List Tru → Bool
  | [] => true
  | x :: r => good x && goods r
end
theorem goods_eq : ∀ l, goods l = l.all good
  | [] => rfl
  | x :: r => by simp only [goods, goods_eq r, List.all_cons]
theorem s_ref02_check : ∀ x : Tru, x.Fine → ∃ e, G_ref02_check x = some e ∧ (e = 0 ↔ good x = true) := by
  refine tru_ind fun t n i ih h => ?_
  have hl := Fine_len h
  simp only [Tru.nodes_mk, Tru.inner_mk] at hl
  have h0 : B_ref02_check_0 (.mk t n i) = some (decide (t < 1) || decide (((n.length + i.length : Nat) : Int) < t)) := by
    unfold B_ref02_check_0
    simp only [Tru.thr_mk, Tru.nodes_mk, Tru.inner_mk]
    have e := add64_of (a := (n.length : Int)) (b := (i.length : Int)) (by omega) (by omega)
    simp only [e]
    by_cases c : t < 1
    · simp [c, cnd_true]
    · simp [c, cnd_false]
  have h1 : loopL (fun j a x => B_ref02_check_3 (.mk t n i) j x) 0 () n = some (if badA n = true then .ret () else .go ()) := by
    refine loopL_spec (fun a x => if badN x = true then .ret () else .go ()) (fun a l => if badA l = true then .ret () else .go ()) (fun j a => True) (fun a => by simp [badA]) (fun a x r => ?_) n 0 () (fun j a x hj hp => ⟨?_, fun _ _ => trivial⟩) trivial
    · by_cases c : badN x = true <;> simp [badA, c]
    · unfold B_ref02_check_3 B_ref02_check_1 badN
      by_cases c1 : x < 0
      · simp [c1, cnd_true, kb_some]
      · by_cases c2 : 10 ≤ x <;> simp [c1, c2, cnd_true, cnd_false, kb_some]
  have hB : ∃ e, B_ref02_check (.mk t n i) = some e ∧ (e = 0 ↔ good (.mk t n i) = true) := by
    unfold B_ref02_check
    rw [h0, kb_some]
    simp only [Tru.nodes_mk, Tru.inner_mk]
    by_cases c1 : t < 1
    · exact ⟨4, by simp [c1, cnd_true], by simp [good]; omega⟩
    by_cases c2 : ((n.length + i.length : Nat) : Int) < t
    · exact ⟨4, by simp only [c2, decide_true, Bool.or_true, cnd_true], by simp [good]; omega⟩
    simp only [c1, c2, decide_false, Bool.or_self, cnd_false]
    rw [smallK_some (by omega), kb_some, h1, kb_some]
    have hg1 : (decide (1 ≤ t) && decide (t ≤ ((n.length + i.length : Nat) : Int))) = true := by simp; omega
    cases hb : badA n
    case true => exact ⟨5, by simp [stpK_ret], by simp [good, hb]⟩
    obtain ⟨s, e, ho, he⟩ := s_Of_ok (l := n) (by omega) hb
    simp only [Bool.false_eq_true, if_false, stpK_go]
    rw [ho, kb_some]
    by_cases c3 : e = 0
    case neg =>
      refine ⟨e, by simp [c3, cnd_false], ?_⟩
      have : ¬ n.Nodup := fun hn => c3 (he.2 hn)
      simp [good, this, c3]
    have hn := he.1 c3
    simp only [c3, decide_true, cnd_true]
    rw [smallK_some (by omega), kb_some]
    have h2 : ∀ (l : List Tru) (j : Nat), (∀ x ∈ l, x ∈ i) → ∃ o, loopL (fun j a x => B_ref02_check_2 (.mk t n i) j x) j () l = some o ∧ ((goods l = true ∧ o = .go ()) ∨ (goods l = false ∧ ∃ e, e ≠ 0 ∧ o = .ret e)) := by
      intro l
      induction l with
      | nil => intro j _; exact ⟨.go (), rfl, .inl ⟨rfl, rfl⟩⟩
      | cons x r ihr =>
        intro j hx
        obtain ⟨e, he1, he2⟩ := ih x (hx x List.mem_cons_self) (Fine_inner h (hx x List.mem_cons_self))
        have e2 : B_ref02_check_2 (.mk t n i) j x = some (if e = 0 then .go () else .ret e) := by
          unfold B_ref02_check_2
          rw [he1, kb_some]
          by_cases c : e = 0 <;> simp [c, cnd_true, cnd_false]
        by_cases c : e = 0
        · obtain ⟨o, ho1, ho2⟩ := ihr (j + 1) (fun y hy => hx y (List.mem_cons_of_mem _ hy))
          refine ⟨o, ?_, ?_⟩
          · show kb (B_ref02_check_2 (.mk t n i) j x) _ = _
            rw [e2, kb_some, if_pos c]
            exact ho1
          · simp only [goods, he2.1 c, Bool.true_and]; exact ho2
        · refine ⟨.ret e, ?_, .inr ⟨?_, e, c, rfl⟩⟩
          · show kb (B_ref02_check_2 (.mk t n i) j x) _ = _
            rw [e2, kb_some, if_neg c]
          · have : good x = false := by cases hg : good x with
              | false => rfl
              | true => exact absurd (he2.2 hg) c
            simp [goods, this]
    obtain ⟨o, ho1, ho2⟩ := h2 i 0 (fun x hx => hx)
    rw [ho1, kb_some]
    rcases ho2 with ⟨hg, rfl⟩ | ⟨hg, e', hne, rfl⟩
    · refine ⟨0, rfl, ?_⟩
      simp only [good, hb, hn, hg, hg1]
      simp
    · refine ⟨e', rfl, ?_⟩
      simp only [good, hg]
      simp [hne]
  obtain ⟨e, h1, h2⟩ := hB
  exact ⟨e, g_ref02_check h1, h2⟩
/-- a trust is valid -/
def valB (x : Tru) : Bool := decide (dep x ≤ 4) && (decide (x.size ≤ 200) && good x)
theorem s_ref02_Valid {x : Tru} (h : x.Fine) : ∃ e, G_ref02_Valid x = some e ∧ (e = 0 ↔ valB x = true) := by
  obtain ⟨e, h1, h2⟩ := s_ref02_check x h
  have hB : ∃ e, B_ref02_Valid x = some e ∧ (e = 0 ↔ valB x = true) := by
    unfold B_ref02_Valid B_ref02_Valid_0
    rw [s_ref02_Depth x h, kb_some]
    by_cases c1 : (4 : Int) < (dep x : Int)
    · exact ⟨3, by simp only [c1, decide_true, cnd_true, kb_some], by simp [valB]; omega⟩
    · simp only [c1, decide_false, cnd_false]
      rw [s_ref02_Size x h, kb_some]
      by_cases c2 : (200 : Int) < (x.size : Int)
      · exact ⟨3, by simp only [c2, decide_true, cnd_true, kb_some], by simp [valB]; omega⟩
      · simp only [c2, decide_false, cnd_false, kb_some, h1]
        refine ⟨e, rfl, ?_⟩
        rw [h2]
        have e1 : dep x ≤ 4 := by omega
        have e2 : x.size ≤ 200 := by omega
        simp [valB, e1, e2]
  obtain ⟨e, h1, h2⟩ := hB
  exact ⟨e, g_ref02_Valid h1, h2⟩
end Go.Am
namespace Go.Am
open Go Go.Proofs
set_option maxRecDepth 4000
set_option maxHeartbeats 4000000
open Int renaming ofNat_lt → Iqa, ofNat_le → Iqb, natCast_eq_zero → Iqc, natCast_pos → Iqd
open List renaming length_eq_zero_iff → Lqa, getElem?_cons_zero → Lqb, getElem?_cons_succ → Lqc, getElem?_nil → Lqd
noncomputable def B_nodeset_below (p0 : Int) (p1 : Int) : Option Bool :=
  cnd (decide (0 ≤ p0)) (
    kb (mustK (¬ p1 < 0)) fun _ =>
    some (decide (p0 < (shl64 1 p1)))) (
    some false)
theorem sim_nodeset_below {p0 : Int} {p1 : Int} {r : Bool} (hB : B_nodeset_below p0 p1 = some r) : R 147 [(i64 p0), (i64 p1)] [] = some ((bl r), [], []) := by
  rw [R_eq _ _ _ fn_nodeset_below]
  simp only [Code.fst, Code.snd, Tryz.f147, Option.getD_some]
  generalize hr1 : Code.region 1 _ _ = rr1
  unfold B_nodeset_below at hB
  rcases cnd_inv hB with ⟨c1, hB⟩ | ⟨c1, hB⟩
  · have pc1 := eq_true (of_decide_eq_true c1)
    obtain ⟨_, n2, hB⟩ := kb_inv hB
    have n2a := mustK_inv n2
    try dsimp only at hB
    obtain rfl := Option.some.inj hB
    subst hr1
    simp -implicitDefEqProofs [-getElem?_pos, -Iqa, -Iqb, -Iqc, -Iqd, -Lqa, Lqb, Lqc, Lqd, c1, pc1, n2a]
  · have pc1 := eq_false (of_decide_eq_false c1)
    obtain rfl := Option.some.inj hB
    subst hr1
    simp -implicitDefEqProofs [-getElem?_pos, -Iqa, -Iqb, -Iqc, -Iqd, -Lqa, Lqb, Lqc, Lqd, c1, pc1]
theorem g_nodeset_below {p0 : Int} {p1 : Int} {r : Bool} (hB : B_nodeset_below p0 p1 = some r) : G_nodeset_below p0 p1 = some r := dec_of (fun a b h => by rcases a with a0_; rcases b with b0_; simp at h; simp [*]) (sim_nodeset_below hB)
end Go.Am
namespace Go.Am
open Go Go.Proofs
set_option maxRecDepth 4000
set_option maxHeartbeats 4000000
open Int renaming ofNat_lt → Iqa, ofNat_le → Iqb, natCast_eq_zero → Iqc, natCast_pos → Iqd, cast_ofNat_Int → Iqe, natCast_zero → Iqf
open List renaming length_eq_zero_iff → Lqa, getElem?_cons_zero → Lqb, getElem?_cons_succ → Lqc, getElem?_nil → Lqd, length_cons → Lqe, length_nil → Lqf, nil_append → Lqg, cons_append → Lqh
open Nat renaming zero_add → Nqa
open Tru renaming thr_mk → Tqa, nodes_mk → Tqb, inner_mk → Tqc
open Go.Am renaming es_api_Declaration_cons → Eqa, es_api_Declaration_nil → Eqb, es_api_Evidence_cons → Eqc, es_api_Evidence_nil → Eqd, ints_cons → Eqe, ints_nil → Eqf, encTs_cons → Eqg, encTs_nil → Eqh, es_str_cons → Eqi, es_str_nil → Eqj, es_u64_cons → Eqk, es_u64_nil → Eql, es_u8_cons → Eqm, es_u8_nil → Eqn
noncomputable def B_nodeset_Valid (p0 : Int) : Option Bool :=
  kb (G_nodeset_below p0 10) fun y1 =>
  some y1
theorem sim_nodeset_Valid {p0 : Int} {r : Bool} (hB : B_nodeset_Valid p0 = some r) : R 144 [(i64 p0)] [] = some ((bl r), [], []) := by
  rw [R_eq _ _ _ fn_nodeset_Valid]
  simp only [Code.fst, Code.snd, Tryz.f144, Option.getD_some]
  unfold B_nodeset_Valid at hB
  obtain ⟨y1, k2, hB⟩ := kb_inv hB
  replace k2 := run_nodeset_below k2
  try simp only [Iqe, Iqf, Lqe, Lqf, Lqg, Lqh, Nqa, Nat.reduceAdd, Tqa, Tqb, Tqc, Eqe, Eqf, Eqg, Eqh, Eqa, Eqb, Eqc, Eqd, Eqi, Eqj, Eqk, Eql, Eqm, Eqn] at k2
  try dsimp only at hB
  obtain rfl := Option.some.inj hB
  simp -implicitDefEqProofs [-getElem?_pos, -Iqa, -Iqb, -Iqc, -Iqd, -Lqa, Lqb, Lqc, Lqd, k2]
theorem g_nodeset_Valid {p0 : Int} {r : Bool} (hB : B_nodeset_Valid p0 = some r) : G_nodeset_Valid p0 = some r := dec_of (fun a b h => by rcases a with a0_; rcases b with b0_; simp at h; simp [*]) (sim_nodeset_Valid hB)
end Go.Am
namespace Go.Am
open Go Go.Proofs
set_option maxRecDepth 4000
set_option maxHeartbeats 4000000
open Int renaming ofNat_lt → Iqa, ofNat_le → Iqb, natCast_eq_zero → Iqc, natCast_pos → Iqd, cast_ofNat_Int → Iqe, natCast_zero → Iqf
open List renaming length_eq_zero_iff → Lqa, getElem?_cons_zero → Lqb, getElem?_cons_succ → Lqc, getElem?_nil → Lqd, length_cons → Lqe, length_nil → Lqf, nil_append → Lqg, cons_append → Lqh
open Nat renaming zero_add → Nqa
open Tru renaming thr_mk → Tqa, nodes_mk → Tqb, inner_mk → Tqc
open Go.Am renaming es_api_Declaration_cons → Eqa, es_api_Declaration_nil → Eqb, es_api_Evidence_cons → Eqc, es_api_Evidence_nil → Eqd, ints_cons → Eqe, ints_nil → Eqf, encTs_cons → Eqg, encTs_nil → Eqh, es_str_cons → Eqi, es_str_nil → Eqj, es_u64_cons → Eqk, es_u64_nil → Eql, es_u8_cons → Eqm, es_u8_nil → Eqn
noncomputable def B_nodeset_Has (p0 : Int) (p1 : Int) : Option Bool :=
  kb (G_nodeset_Valid p0) fun y1 =>
  cnd y1 (
    cnd (decide (0 ≤ p1)) (
      cnd (decide (p1 < 10)) (
        kb (mustK (¬ p1 < 0)) fun _ =>
        some (!(decide ((and64 p0 (shl64 1 p1)) = 0)))) (
        some false)) (
      some false)) (
    some false)
theorem sim_nodeset_Has {p0 : Int} {p1 : Int} {r : Bool} (hB : B_nodeset_Has p0 p1 = some r) : R 136 [(i64 p0), (i64 p1)] [] = some ((bl r), [], []) := by
  rw [R_eq _ _ _ fn_nodeset_Has]
  simp only [Code.fst, Code.snd, Tryz.f136, Option.getD_some]
  generalize hr1 : Code.region 1 _ _ = rr1
  unfold B_nodeset_Has at hB
  obtain ⟨y1, k2, hB⟩ := kb_inv hB
  replace k2 := run_nodeset_Valid k2
  try simp only [Iqe, Iqf, Lqe, Lqf, Lqg, Lqh, Nqa, Nat.reduceAdd, Tqa, Tqb, Tqc, Eqe, Eqf, Eqg, Eqh, Eqa, Eqb, Eqc, Eqd, Eqi, Eqj, Eqk, Eql, Eqm, Eqn] at k2
  try dsimp only at hB
  rcases cnd_inv hB with ⟨c3, hB⟩ | ⟨c3, hB⟩
  · rcases cnd_inv hB with ⟨c4, hB⟩ | ⟨c4, hB⟩
    · have pc4 := eq_true (of_decide_eq_true c4)
      rcases cnd_inv hB with ⟨c5, hB⟩ | ⟨c5, hB⟩
      · have pc5 := eq_true (of_decide_eq_true c5)
        obtain ⟨_, n6, hB⟩ := kb_inv hB
        have n6a := mustK_inv n6
        try dsimp only at hB
        obtain rfl := Option.some.inj hB
        subst hr1
        simp -implicitDefEqProofs [-getElem?_pos, -Iqa, -Iqb, -Iqc, -Iqd, -Lqa, Lqb, Lqc, Lqd, k2, c3, c4, pc4, c5, pc5, n6a]
      · have pc5 := eq_false (of_decide_eq_false c5)
        obtain rfl := Option.some.inj hB
        subst hr1
        simp -implicitDefEqProofs [-getElem?_pos, -Iqa, -Iqb, -Iqc, -Iqd, -Lqa, Lqb, Lqc, Lqd, k2, c3, c4, pc4, c5, pc5]
    · have pc4 := eq_false (of_decide_eq_false c4)
      obtain rfl := Option.some.inj hB
      subst hr1
      simp -implicitDefEqProofs [-getElem?_pos, -Iqa, -Iqb, -Iqc, -Iqd, -Lqa, Lqb, Lqc, Lqd, k2, c3, c4, pc4]
  · obtain rfl := Option.some.inj hB
    subst hr1
    simp -implicitDefEqProofs [-getElem?_pos, -Iqa, -Iqb, -Iqc, -Iqd, -Lqa, Lqb, Lqc, Lqd, k2, c3]
theorem g_nodeset_Has {p0 : Int} {p1 : Int} {r : Bool} (hB : B_nodeset_Has p0 p1 = some r) : G_nodeset_Has p0 p1 = some r := dec_of (fun a b h => by rcases a with a0_; rcases b with b0_; simp at h; simp [*]) (sim_nodeset_Has hB)
end Go.Am
namespace Go.Am
open Go Go.Proofs
set_option maxRecDepth 4000
set_option maxHeartbeats 4000000
open Int renaming ofNat_lt → Iqa, ofNat_le → Iqb, natCast_eq_zero → Iqc, natCast_pos → Iqd, cast_ofNat_Int → Iqe, natCast_zero → Iqf
open List renaming length_eq_zero_iff → Lqa, getElem?_cons_zero → Lqb, getElem?_cons_succ → Lqc, getElem?_nil → Lqd, length_cons → Lqe, length_nil → Lqf, nil_append → Lqg, cons_append → Lqh
open Nat renaming zero_add → Nqa
open Tru renaming thr_mk → Tqa, nodes_mk → Tqb, inner_mk → Tqc
open Go.Am renaming es_api_Declaration_cons → Eqa, es_api_Declaration_nil → Eqb, es_api_Evidence_cons → Eqc, es_api_Evidence_nil → Eqd, ints_cons → Eqe, ints_nil → Eqf, encTs_cons → Eqg, encTs_nil → Eqh, es_str_cons → Eqi, es_str_nil → Eqj, es_u64_cons → Eqk, es_u64_nil → Eql, es_u8_cons → Eqm, es_u8_nil → Eqn
noncomputable def B_make_trust_0 (y3 : (Int × S_trustquorummake_Tape)) (p1 : Int) (p2 : Int) (L5 : (List Int)) (i7 : Nat) (xb1_0_1_0 : (List Int)) (e8 : Int) : Option (List Int) :=
  kb (appK xb1_0_1_0 ([e8] : List Int) 8) fun L8 =>
  some L8
def I_make_trust_0 (y3 : (Int × S_trustquorummake_Tape)) (p1 : Int) (p2 : Int) (L5 : (List Int)) (i7 : Nat) (xb1_0_1_0 : (List Int)) (q : St) : Prop := q (.t 1) = (i64 p1) ∧ q (.t 2) = (i64 p2) ∧ q (.t 20) = (.pv (.sl L5.length (ints L5))) ∧ q (.t 21) = (i64 (L5.length : Int)) ∧ q (.t 22) = (i64 (i7 : Int)) ∧ (q (.t 0) = .ptr (.arg 0) 0 0 ∧ q (.i (.arg 0)) = .box 0 [(.pv (.sl y3.2.f0.length (ints y3.2.f0))), (i64 y3.2.f1)]) ∧ (∃ (g : Nat), q (.t 6) = .ptr (.site 0 0 0) g 0 ∧ q (.i (.site 0 0 0)) = .box g [(i64 0), .nilsl, .nilsl]) ∧ (∃ (g : Nat) (w0 : AV), q (.t 7) = .ptr (.site 1 0 0) g 0 ∧ q (.i (.site 1 0 0)) = .box g [(i64 0), w0, .nilsl] ∧ (ownAt q w0 (.site 6 4 0) false 1 xb1_0_1_0.length (ints xb1_0_1_0) ∨ (w0 = .nilsl ∧ xb1_0_1_0 = [])))
def Q_make_trust_0 (y3 : (Int × S_trustquorummake_Tape)) (p1 : Int) (p2 : Int) (L5 : (List Int)) (xb1_0_1_0 : (List Int)) (q : St) : Prop := q (.t 1) = (i64 p1) ∧ q (.t 2) = (i64 p2) ∧ (q (.t 0) = .ptr (.arg 0) 0 0 ∧ q (.i (.arg 0)) = .box 0 [(.pv (.sl y3.2.f0.length (ints y3.2.f0))), (i64 y3.2.f1)]) ∧ (∃ (g : Nat), q (.t 6) = .ptr (.site 0 0 0) g 0 ∧ q (.i (.site 0 0 0)) = .box g [(i64 0), .nilsl, .nilsl]) ∧ (∃ (g : Nat) (w0 : AV), q (.t 7) = .ptr (.site 1 0 0) g 0 ∧ q (.i (.site 1 0 0)) = .box g [(i64 0), w0, .nilsl] ∧ (ownAt q w0 (.site 6 4 0) false 1 xb1_0_1_0.length (ints xb1_0_1_0) ∨ (w0 = .nilsl ∧ xb1_0_1_0 = [])))
theorem Pb_make_trust_0 {y3 : (Int × S_trustquorummake_Tape)} {p1 : Int} {p2 : Int} {L5 : (List Int)} {i7 : Nat} {xb1_0_1_0 : (List Int)} {e8 : Int} {q : St} {r : (List Int)} (hx : L5[i7]? = some e8) (hi : i7 < L5.length) (hn : L5.length < 4611686018427387904) (hI : I_make_trust_0 y3 p1 p2 L5 i7 xb1_0_1_0 q) (hB : B_make_trust_0 y3 p1 p2 L5 i7 xb1_0_1_0 e8 = some r) : Res (C Tryz.prog cf (Code.fst (Code.fst (Code.snd (Code.fst (Code.snd (Code.snd (Code.snd ((Tryz.f66.body).getD .skip)))))))) q) (postG (fun a q => I_make_trust_0 y3 p1 p2 L5 (i7 + 1) a q) r) := by
  have hi3 : (i7 : Int) < (L5.length : Int) := by omega
  have hi2 := decide_eq_true hi3
  have hi4 := idx_step hi hn
  have hi5 := ne_of_get hx
  simp only [I_make_trust_0] at hI
  obtain ⟨q1, q2, q3, q4, q5, ⟨q6, q7⟩, ⟨g9, q8, q9⟩, ⟨g11, v11_w0, q10, q11, a11_w0⟩⟩ := hI
  simp only [Code.fst, Code.snd, Tryz.f66, Option.getD_some]
  generalize hr6 : Code.region 6 _ _ = rr6
  unfold B_make_trust_0 at hB
  rcases a11_w0 with ⟨ga11_w0, rfl, oa11_w0⟩ | ⟨rfl, ea11_w0⟩
  · obtain ⟨L8, a9, hB⟩ := kb_inv hB
    obtain ⟨a9z, a9a, a9y⟩ := appK_inv a9
    try (simp only [Lqg] at a9z; subst a9z)
    have a9b := appK_len a9
    have a9c := ints_appK a9
    have a9d := appK_le a9
    try simp only [Iqe, Iqf, Lqe, Lqf, Lqg, Lqh, Nqa, Nat.reduceAdd, Tqa, Tqb, Tqc, Eqe, Eqf, Eqg, Eqh, Eqa, Eqb, Eqc, Eqd, Eqi, Eqj, Eqk, Eql, Eqm, Eqn] at a9a a9b a9c
    try replace a9b : _ = (1 : Nat) := a9b.symm
    try dsimp only at hB
    obtain rfl := Option.some.inj hB
    subst hr6
    try simp -implicitDefEqProofs [-getElem?_pos, -Iqa, -Iqb, -Iqc, -Iqd, -Lqa, Lqb, Lqc, Lqd, q1, q2, q3, q4, q5, q6, q7, q8, q9, q10, q11, oa11_w0, hx, hi2, hi3, hi4, hi5, a9a, a9b, a9c, a9d]
    refine Res.g ?_
    simp -implicitDefEqProofs [-getElem?_pos, -Iqa, -Iqb, -Iqc, -Iqd, -Lqa, Lqb, Lqc, Lqd, and_assoc, I_make_trust_0, ownAt, q1, q2, q3, q4, q5, q6, q7, q8, q9, q10, q11, oa11_w0, hx, hi2, hi3, hi4, hi5, a9a, a9b, a9c, a9d]
  · try subst ea11_w0
    obtain ⟨L8, a9, hB⟩ := kb_inv hB
    obtain ⟨a9z, a9a, a9y⟩ := appK_inv a9
    simp only [Lqg] at a9z
    subst a9z
    try dsimp only at hB
    obtain rfl := Option.some.inj hB
    subst hr6
    try simp -implicitDefEqProofs [-getElem?_pos, -Iqa, -Iqb, -Iqc, -Iqd, -Lqa, Lqb, Lqc, Lqd, q1, q2, q3, q4, q5, q6, q7, q8, q9, q10, q11, hx, hi2, hi3, hi4, hi5]
    refine Res.g ?_
    simp -implicitDefEqProofs [-getElem?_pos, -Iqa, -Iqb, -Iqc, -Iqd, -Lqa, Lqb, Lqc, Lqd, and_assoc, I_make_trust_0, ownAt, q1, q2, q3, q4, q5, q6, q7, q8, q9, q10, q11, hx, hi2, hi3, hi4, hi5]; all_goals ((repeat' apply And.intro) <;> assumption)
theorem Pe_make_trust_0 {y3 : (Int × S_trustquorummake_Tape)} {p1 : Int} {p2 : Int} {L5 : (List Int)} {xb1_0_1_0 : (List Int)} {q : St} (hI : I_make_trust_0 y3 p1 p2 L5 L5.length xb1_0_1_0 q) : Res (C Tryz.prog cf (Code.fst (Code.fst (Code.snd (Code.fst (Code.snd (Code.snd (Code.snd ((Tryz.f66.body).getD .skip)))))))) q) fun e q' => e = .exit 0 ∧ Q_make_trust_0 y3 p1 p2 L5 xb1_0_1_0 q' := by
  simp only [I_make_trust_0] at hI
  obtain ⟨q1, q2, q3, q4, q5, ⟨q6, q7⟩, ⟨g9, q8, q9⟩, ⟨g11, v11_w0, q10, q11, a11_w0⟩⟩ := hI
  simp only [Code.fst, Code.snd, Tryz.f66, Option.getD_some]
  rcases a11_w0 with ⟨ga11_w0, rfl, oa11_w0⟩ | ⟨rfl, ea11_w0⟩
  · simp -implicitDefEqProofs [-getElem?_pos, -Iqa, -Iqb, -Iqc, -Iqd, -Lqa, Lqb, Lqc, Lqd, q1, q2, q3, q4, q5, q6, q7, q8, q9, q10, q11, oa11_w0]
    refine Res.x ?_
    simp -implicitDefEqProofs [-getElem?_pos, -Iqa, -Iqb, -Iqc, -Iqd, -Lqa, Lqb, Lqc, Lqd, and_assoc, Q_make_trust_0, ownAt, q1, q2, q3, q4, q5, q6, q7, q8, q9, q10, q11, oa11_w0]
  · try subst ea11_w0
    simp -implicitDefEqProofs [-getElem?_pos, -Iqa, -Iqb, -Iqc, -Iqd, -Lqa, Lqb, Lqc, Lqd, q1, q2, q3, q4, q5, q6, q7, q8, q9, q10, q11]
    refine Res.x ?_
    simp -implicitDefEqProofs [-getElem?_pos, -Iqa, -Iqb, -Iqc, -Iqd, -Lqa, Lqb, Lqc, Lqd, and_assoc, Q_make_trust_0, ownAt, q1, q2, q3, q4, q5, q6, q7, q8, q9, q10, q11]
theorem P_make_trust_0 {y3 : (Int × S_trustquorummake_Tape)} {p1 : Int} {p2 : Int} {L5 : (List Int)} {xb1_0_1_0 : (List Int)} {cc : Code} (hcc : cc = .block 0 (.loop (Code.fst (Code.fst (Code.snd (Code.fst (Code.snd (Code.snd (Code.snd ((Tryz.f66.body).getD .skip)))))))))) {s : St} {z : Option (Ex × St)} (hz : C Tryz.prog cf cc s = z) {r : (List Int)} (hn : L5.length < 4611686018427387904) (hI : I_make_trust_0 y3 p1 p2 L5 0 xb1_0_1_0 s) (hB : foldO (fun i a x => B_make_trust_0 y3 p1 p2 L5 i a x) 0 xb1_0_1_0 L5 = some r) : Res z (postG (fun a q => Q_make_trust_0 y3 p1 p2 L5 a q) r) := by
  subst hcc
  exact fold_sim (I := fun i a q => I_make_trust_0 y3 p1 p2 L5 i a q) (Q := (fun a q => Q_make_trust_0 y3 p1 p2 L5 a q)) (fun i x a q r hx hi h hB => Pb_make_trust_0 hx hi hn h hB) (fun a q h => Pe_make_trust_0 h) hI hz hB
noncomputable def B_make_trust_1 (pb1_0_1_1 : (List Int)) (p1 : Int) (p2 : Int) (xba0_0_1 : (List Int)) (xba0_1_1 : Int) (xb1_0_2_1 : (List Tru)) (x11_1 : Int) : Option (Stp ((List Int) × Int × (List Tru) × Int) Unit) :=
  cnd (decide (0 < x11_1)) (
    kb (G_make_trust (S_trustquorummake_Tape.mk xba0_0_1 xba0_1_1) p1 (sub64 p2 1)) fun y15 =>
    kb (appK xb1_0_2_1 ([y15.1] : List Tru) 56) fun L17 =>
    some (.go (y15.2.f0, y15.2.f1, L17, (sub64 x11_1 1)))) (
    some (.ex 2 (xba0_0_1, xba0_1_1, xb1_0_2_1, x11_1)))
def I_make_trust_1 (pb1_0_1_1 : (List Int)) (p1 : Int) (p2 : Int) (xba0_0_1 : (List Int)) (xba0_1_1 : Int) (xb1_0_2_1 : (List Tru)) (x11_1 : Int) (q : St) : Prop := q (.t 1) = (i64 p1) ∧ q (.t 11) = (i64 x11_1) ∧ q (.t 2) = (i64 p2) ∧ (q (.t 0) = .ptr (.arg 0) 0 0 ∧ q (.i (.arg 0)) = .box 0 [(.pv (.sl xba0_0_1.length (ints xba0_0_1))), (i64 xba0_1_1)]) ∧ (∃ (g : Nat), q (.t 6) = .ptr (.site 0 0 0) g 0 ∧ q (.i (.site 0 0 0)) = .box g [(i64 0), .nilsl, .nilsl]) ∧ (∃ (g : Nat) (w0 : AV) (w1 : AV), q (.t 7) = .ptr (.site 1 0 0) g 0 ∧ q (.i (.site 1 0 0)) = .box g [(i64 0), w0, w1] ∧ (ownAt q w0 (.site 6 4 0) false 1 pb1_0_1_1.length (ints pb1_0_1_1) ∨ (w0 = .nilsl ∧ pb1_0_1_1 = [])) ∧ (ownAt q w1 (.site 12 8 0) false 3 xb1_0_2_1.length (encTs xb1_0_2_1) ∨ (w1 = .nilsl ∧ xb1_0_2_1 = [])))
def Q_make_trust_1 (pb1_0_1_1 : (List Int)) (p1 : Int) (p2 : Int) (xba0_0_1 : (List Int)) (xba0_1_1 : Int) (xb1_0_2_1 : (List Tru)) (x11_1 : Int) (q : St) : Prop := (q (.t 0) = .ptr (.arg 0) 0 0 ∧ q (.i (.arg 0)) = .box 0 [(.pv (.sl xba0_0_1.length (ints xba0_0_1))), (i64 xba0_1_1)]) ∧ (∃ (g : Nat), q (.t 6) = .ptr (.site 0 0 0) g 0 ∧ q (.i (.site 0 0 0)) = .box g [(i64 0), .nilsl, .nilsl]) ∧ (∃ (g : Nat) (w0 : AV) (w1 : AV), q (.t 7) = .ptr (.site 1 0 0) g 0 ∧ q (.i (.site 1 0 0)) = .box g [(i64 0), w0, w1] ∧ (ownAt q w0 (.site 6 4 0) false 1 pb1_0_1_1.length (ints pb1_0_1_1) ∨ (w0 = .nilsl ∧ pb1_0_1_1 = [])) ∧ (ownAt q w1 (.site 12 8 0) false 3 xb1_0_2_1.length (encTs xb1_0_2_1) ∨ (w1 = .nilsl ∧ xb1_0_2_1 = [])))
theorem Pb_make_trust_1 {pb1_0_1_1 : (List Int)} {p1 : Int} {p2 : Int} {xba0_0_1 : (List Int)} {xba0_1_1 : Int} {xb1_0_2_1 : (List Tru)} {x11_1 : Int} {q : St} {r : (Stp ((List Int) × Int × (List Tru) × Int) Unit)} (hI : I_make_trust_1 pb1_0_1_1 p1 p2 xba0_0_1 xba0_1_1 xb1_0_2_1 x11_1 q) (hB : B_make_trust_1 pb1_0_1_1 p1 p2 xba0_0_1 xba0_1_1 xb1_0_2_1 x11_1 = some r) : Res (C Tryz.prog cf (Code.fst (Code.fst (Code.snd (Code.fst (Code.fst (Code.snd (Code.fst (Code.snd (Code.snd (Code.snd (Code.snd ((Tryz.f66.body).getD .skip)))))))))))) q) (postB 2 (fun a q => I_make_trust_1 pb1_0_1_1 p1 p2 a.1 a.2.1 a.2.2.1 a.2.2.2 q) (fun a q => Q_make_trust_1 pb1_0_1_1 p1 p2 a.1 a.2.1 a.2.2.1 a.2.2.2 q) (fun _ _ => False) r) := by
  simp only [I_make_trust_1] at hI
  obtain ⟨q1, q2, q3, ⟨q4, q5⟩, ⟨g7, q6, q7⟩, ⟨g9, v9_w0, v9_w1, q8, q9, a9_w0, a9_w1⟩⟩ := hI
  simp only [Code.fst, Code.snd, Tryz.f66, Option.getD_some]
  generalize hr12 : Code.region 12 _ _ = rr12
  unfold B_make_trust_1 at hB
  rcases a9_w0 with ⟨ga9_w0, rfl, oa9_w0⟩ | ⟨rfl, ea9_w0⟩
  · rcases a9_w1 with ⟨ga9_w1, rfl, oa9_w1⟩ | ⟨rfl, ea9_w1⟩
    · rcases cnd_inv hB with ⟨c14, hB⟩ | ⟨c14, hB⟩
      · have pc14 := eq_true (of_decide_eq_true c14)
        obtain ⟨y15, k16, hB⟩ := kb_inv hB
        replace k16 := run_make_trust k16
        try simp only [Iqe, Iqf, Lqe, Lqf, Lqg, Lqh, Nqa, Nat.reduceAdd, Tqa, Tqb, Tqc, Eqe, Eqf, Eqg, Eqh, Eqa, Eqb, Eqc, Eqd, Eqi, Eqj, Eqk, Eql, Eqm, Eqn] at k16
        try dsimp only at hB
        obtain ⟨L17, a18, hB⟩ := kb_inv hB
        obtain ⟨a18z, a18a, a18y⟩ := appK_inv a18
        try (simp only [Lqg] at a18z; subst a18z)
        have a18b := appK_len a18
        have a18c := encTs_appK a18
        have a18d := appK_le a18
        try simp only [Iqe, Iqf, Lqe, Lqf, Lqg, Lqh, Nqa, Nat.reduceAdd, Tqa, Tqb, Tqc, Eqe, Eqf, Eqg, Eqh, Eqa, Eqb, Eqc, Eqd, Eqi, Eqj, Eqk, Eql, Eqm, Eqn] at a18a a18b a18c
        try replace a18b : _ = (1 : Nat) := a18b.symm
        try dsimp only at hB
        obtain rfl := Option.some.inj hB
        subst hr12
        try simp -implicitDefEqProofs [-getElem?_pos, -Iqa, -Iqb, -Iqc, -Iqd, -Lqa, Lqb, Lqc, Lqd, q1, q2, q3, q4, q5, q6, q7, q8, q9, oa9_w0, oa9_w1, c14, pc14, k16, a18a, a18b, a18c, a18d]
        rw [drawK_ok _ _ _ (by kernel_rfl)]
        simp -implicitDefEqProofs [-getElem?_pos, -Iqa, -Iqb, -Iqc, -Iqd, -Lqa, Lqb, Lqc, Lqd, q1, q2, q3, q4, q5, q6, q7, q8, q9, oa9_w0, oa9_w1, c14, pc14, k16, a18a, a18b, a18c, a18d]
        refine Res.bgo ?_
        simp -implicitDefEqProofs [-getElem?_pos, -Iqa, -Iqb, -Iqc, -Iqd, -Lqa, Lqb, Lqc, Lqd, and_assoc, I_make_trust_1, ownAt, q1, q2, q3, q4, q5, q6, q7, q8, q9, oa9_w0, oa9_w1, c14, pc14, k16, a18a, a18b, a18c, a18d]
      · have pc14 := eq_false (of_decide_eq_false c14)
        obtain rfl := Option.some.inj hB
        try simp -implicitDefEqProofs [-getElem?_pos, -Iqa, -Iqb, -Iqc, -Iqd, -Lqa, Lqb, Lqc, Lqd, q1, q2, q3, q4, q5, q6, q7, q8, q9, oa9_w0, oa9_w1, c14, pc14]
        refine Res.bex ?_
        simp -implicitDefEqProofs [-getElem?_pos, -Iqa, -Iqb, -Iqc, -Iqd, -Lqa, Lqb, Lqc, Lqd, and_assoc, Q_make_trust_1, ownAt, q1, q2, q3, q4, q5, q6, q7, q8, q9, oa9_w0, oa9_w1, c14, pc14]
    · try subst ea9_w1
      rcases cnd_inv hB with ⟨c14, hB⟩ | ⟨c14, hB⟩
      · have pc14 := eq_true (of_decide_eq_true c14)
        obtain ⟨y15, k16, hB⟩ := kb_inv hB
        replace k16 := run_make_trust k16
        try simp only [Iqe, Iqf, Lqe, Lqf, Lqg, Lqh, Nqa, Nat.reduceAdd, Tqa, Tqb, Tqc, Eqe, Eqf, Eqg, Eqh, Eqa, Eqb, Eqc, Eqd, Eqi, Eqj, Eqk, Eql, Eqm, Eqn] at k16
        try dsimp only at hB
        obtain ⟨L17, a18, hB⟩ := kb_inv hB
        obtain ⟨a18z, a18a, a18y⟩ := appK_inv a18
        simp only [Lqg] at a18z
        subst a18z
        try dsimp only at hB
        obtain rfl := Option.some.inj hB
        subst hr12
        try simp -implicitDefEqProofs [-getElem?_pos, -Iqa, -Iqb, -Iqc, -Iqd, -Lqa, Lqb, Lqc, Lqd, q1, q2, q3, q4, q5, q6, q7, q8, q9, oa9_w0, c14, pc14, k16]
        rw [drawK_ok _ _ _ (by kernel_rfl)]
        simp -implicitDefEqProofs [-getElem?_pos, -Iqa, -Iqb, -Iqc, -Iqd, -Lqa, Lqb, Lqc, Lqd, q1, q2, q3, q4, q5, q6, q7, q8, q9, oa9_w0, c14, pc14, k16]
        refine Res.bgo ?_
        simp -implicitDefEqProofs [-getElem?_pos, -Iqa, -Iqb, -Iqc, -Iqd, -Lqa, Lqb, Lqc, Lqd, and_assoc, I_make_trust_1, ownAt, q1, q2, q3, q4, q5, q6, q7, q8, q9, oa9_w0, c14, pc14, k16]; all_goals ((repeat' apply And.intro) <;> assumption)
      · have pc14 := eq_false (of_decide_eq_false c14)
        obtain rfl := Option.some.inj hB
        try simp -implicitDefEqProofs [-getElem?_pos, -Iqa, -Iqb, -Iqc, -Iqd, -Lqa, Lqb, Lqc, Lqd, q1, q2, q3, q4, q5, q6, q7, q8, q9, oa9_w0, c14, pc14]
        refine Res.bex ?_
        simp -implicitDefEqProofs [-getElem?_pos, -Iqa, -Iqb, -Iqc, -Iqd, -Lqa, Lqb, Lqc, Lqd, and_assoc, Q_make_trust_1, ownAt, q1, q2, q3, q4, q5, q6, q7, q8, q9, oa9_w0, c14, pc14]; all_goals ((repeat' apply And.intro) <;> assumption)
  · try subst ea9_w0
    rcases a9_w1 with ⟨ga9_w1, rfl, oa9_w1⟩ | ⟨rfl, ea9_w1⟩
    · rcases cnd_inv hB with ⟨c14, hB⟩ | ⟨c14, hB⟩
      · have pc14 := eq_true (of_decide_eq_true c14)
        obtain ⟨y15, k16, hB⟩ := kb_inv hB
        replace k16 := run_make_trust k16
        try simp only [Iqe, Iqf, Lqe, Lqf, Lqg, Lqh, Nqa, Nat.reduceAdd, Tqa, Tqb, Tqc, Eqe, Eqf, Eqg, Eqh, Eqa, Eqb, Eqc, Eqd, Eqi, Eqj, Eqk, Eql, Eqm, Eqn] at k16
        try dsimp only at hB
        obtain ⟨L17, a18, hB⟩ := kb_inv hB
        obtain ⟨a18z, a18a, a18y⟩ := appK_inv a18
        try (simp only [Lqg] at a18z; subst a18z)
        have a18b := appK_len a18
        have a18c := encTs_appK a18
        have a18d := appK_le a18
        try simp only [Iqe, Iqf, Lqe, Lqf, Lqg, Lqh, Nqa, Nat.reduceAdd, Tqa, Tqb, Tqc, Eqe, Eqf, Eqg, Eqh, Eqa, Eqb, Eqc, Eqd, Eqi, Eqj, Eqk, Eql, Eqm, Eqn] at a18a a18b a18c
        try replace a18b : _ = (1 : Nat) := a18b.symm
        try dsimp only at hB
        obtain rfl := Option.some.inj hB
        subst hr12
        try simp -implicitDefEqProofs [-getElem?_pos, -Iqa, -Iqb, -Iqc, -Iqd, -Lqa, Lqb, Lqc, Lqd, q1, q2, q3, q4, q5, q6, q7, q8, q9, oa9_w1, c14, pc14, k16, a18a, a18b, a18c, a18d]
        rw [drawK_ok _ _ _ (by kernel_rfl)]
        simp -implicitDefEqProofs [-getElem?_pos, -Iqa, -Iqb, -Iqc, -Iqd, -Lqa, Lqb, Lqc, Lqd, q1, q2, q3, q4, q5, q6, q7, q8, q9, oa9_w1, c14, pc14, k16, a18a, a18b, a18c, a18d]
        refine Res.bgo ?_
        simp -implicitDefEqProofs [-getElem?_pos, -Iqa, -Iqb, -Iqc, -Iqd, -Lqa, Lqb, Lqc, Lqd, and_assoc, I_make_trust_1, ownAt, q1, q2, q3, q4, q5, q6, q7, q8, q9, oa9_w1, c14, pc14, k16, a18a, a18b, a18c, a18d]; all_goals ((repeat' apply And.intro) <;> assumption)
      · have pc14 := eq_false (of_decide_eq_false c14)
        obtain rfl := Option.some.inj hB
        try simp -implicitDefEqProofs [-getElem?_pos, -Iqa, -Iqb, -Iqc, -Iqd, -Lqa, Lqb, Lqc, Lqd, q1, q2, q3, q4, q5, q6, q7, q8, q9, oa9_w1, c14, pc14]
        refine Res.bex ?_
        simp -implicitDefEqProofs [-getElem?_pos, -Iqa, -Iqb, -Iqc, -Iqd, -Lqa, Lqb, Lqc, Lqd, and_assoc, Q_make_trust_1, ownAt, q1, q2, q3, q4, q5, q6, q7, q8, q9, oa9_w1, c14, pc14]; all_goals ((repeat' apply And.intro) <;> assumption)
    · try subst ea9_w1
      rcases cnd_inv hB with ⟨c14, hB⟩ | ⟨c14, hB⟩
      · have pc14 := eq_true (of_decide_eq_true c14)
        obtain ⟨y15, k16, hB⟩ := kb_inv hB
        replace k16 := run_make_trust k16
        try simp only [Iqe, Iqf, Lqe, Lqf, Lqg, Lqh, Nqa, Nat.reduceAdd, Tqa, Tqb, Tqc, Eqe, Eqf, Eqg, Eqh, Eqa, Eqb, Eqc, Eqd, Eqi, Eqj, Eqk, Eql, Eqm, Eqn] at k16
        try dsimp only at hB
        obtain ⟨L17, a18, hB⟩ := kb_inv hB
        obtain ⟨a18z, a18a, a18y⟩ := appK_inv a18
        simp only [Lqg] at a18z
        subst a18z
        try dsimp only at hB
        obtain rfl := Option.some.inj hB
        subst hr12
        try simp -implicitDefEqProofs [-getElem?_pos, -Iqa, -Iqb, -Iqc, -Iqd, -Lqa, Lqb, Lqc, Lqd, q1, q2, q3, q4, q5, q6, q7, q8, q9, c14, pc14, k16]
        rw [drawK_ok _ _ _ (by kernel_rfl)]
        simp -implicitDefEqProofs [-getElem?_pos, -Iqa, -Iqb, -Iqc, -Iqd, -Lqa, Lqb, Lqc, Lqd, q1, q2, q3, q4, q5, q6, q7, q8, q9, c14, pc14, k16]
        refine Res.bgo ?_
        simp -implicitDefEqProofs [-getElem?_pos, -Iqa, -Iqb, -Iqc, -Iqd, -Lqa, Lqb, Lqc, Lqd, and_assoc, I_make_trust_1, ownAt, q1, q2, q3, q4, q5, q6, q7, q8, q9, c14, pc14, k16]; all_goals ((repeat' apply And.intro) <;> assumption)
      · have pc14 := eq_false (of_decide_eq_false c14)
        obtain rfl := Option.some.inj hB
        try simp -implicitDefEqProofs [-getElem?_pos, -Iqa, -Iqb, -Iqc, -Iqd, -Lqa, Lqb, Lqc, Lqd, q1, q2, q3, q4, q5, q6, q7, q8, q9, c14, pc14]
        refine Res.bex ?_
        simp -implicitDefEqProofs [-getElem?_pos, -Iqa, -Iqb, -Iqc, -Iqd, -Lqa, Lqb, Lqc, Lqd, and_assoc, Q_make_trust_1, ownAt, q1, q2, q3, q4, q5, q6, q7, q8, q9, c14, pc14]; all_goals ((repeat' apply And.intro) <;> assumption)
theorem P_make_trust_1 {pb1_0_1_1 : (List Int)} {p1 : Int} {p2 : Int} {xba0_0_1 : (List Int)} {xba0_1_1 : Int} {xb1_0_2_1 : (List Tru)} {x11_1 : Int} {cc : Code} (hcc : cc = .block 2 (.loop (Code.fst (Code.fst (Code.snd (Code.fst (Code.fst (Code.snd (Code.fst (Code.snd (Code.snd (Code.snd (Code.snd ((Tryz.f66.body).getD .skip)))))))))))))) {s : St} {z : Option (Ex × St)} (hz : C Tryz.prog cf cc s = z) {r : (Stp ((List Int) × Int × (List Tru) × Int) Unit)} (hI : I_make_trust_1 pb1_0_1_1 p1 p2 xba0_0_1 xba0_1_1 xb1_0_2_1 x11_1 s) (hB : iterW (fun a => B_make_trust_1 pb1_0_1_1 p1 p2 a.1 a.2.1 a.2.2.1 a.2.2.2) (xba0_0_1, xba0_1_1, xb1_0_2_1, x11_1) = some r) : Res z (postS (fun a q => Q_make_trust_1 pb1_0_1_1 p1 p2 a.1 a.2.1 a.2.2.1 a.2.2.2 q) (fun _ _ => False) r) := by
  subst hcc
  exact while_sim (I := fun a q => I_make_trust_1 pb1_0_1_1 p1 p2 a.1 a.2.1 a.2.2.1 a.2.2.2 q) (Q := (fun a q => Q_make_trust_1 pb1_0_1_1 p1 p2 a.1 a.2.1 a.2.2.1 a.2.2.2 q)) (QR := (fun _ _ => False)) (fun a q r h hB => Pb_make_trust_1 h hB) hI hz hB
noncomputable def B_make_trust_2 (pba0_0_2 : (List Int)) (pba0_1_2 : Int) (pb1_0_1_2 : (List Int)) (pb1_0_2_2 : (List Tru)) : Option ((List Int) × Int × Bool) :=
  cnd (decide (0 < (pb1_0_2_2.length : Int))) (
    kb (G_make_Tape_N (S_trustquorummake_Tape.mk pba0_0_2 pba0_1_2) 3) fun y21 =>
    some (y21.2.f0, y21.2.f1, (decide (y21.1 = 0)))) (
    some (pba0_0_2, pba0_1_2, false))
def J_make_trust_2 (pba0_0_2 : (List Int)) (pba0_1_2 : Int) (pb1_0_1_2 : (List Int)) (pb1_0_2_2 : (List Tru)) (q : St) : Prop := (q (.t 0) = .ptr (.arg 0) 0 0 ∧ q (.i (.arg 0)) = .box 0 [(.pv (.sl pba0_0_2.length (ints pba0_0_2))), (i64 pba0_1_2)]) ∧ (∃ (g : Nat), q (.t 6) = .ptr (.site 0 0 0) g 0 ∧ q (.i (.site 0 0 0)) = .box g [(i64 0), .nilsl, .nilsl]) ∧ (∃ (g : Nat) (w0 : AV) (w1 : AV), q (.t 7) = .ptr (.site 1 0 0) g 0 ∧ q (.i (.site 1 0 0)) = .box g [(i64 0), w0, w1] ∧ (ownAt q w0 (.site 6 4 0) false 1 pb1_0_1_2.length (ints pb1_0_1_2) ∨ (w0 = .nilsl ∧ pb1_0_1_2 = [])) ∧ (ownAt q w1 (.site 12 8 0) false 3 pb1_0_2_2.length (encTs pb1_0_2_2) ∨ (w1 = .nilsl ∧ pb1_0_2_2 = [])))
def Q_make_trust_2 (pba0_0_2 : (List Int)) (pba0_1_2 : Int) (pb1_0_1_2 : (List Int)) (pb1_0_2_2 : (List Tru)) (oba0_0_2 : (List Int)) (oba0_1_2 : Int) (o60_2 : Bool) (q : St) : Prop := q (.t 60) = (bl o60_2) ∧ (q (.t 0) = .ptr (.arg 0) 0 0 ∧ q (.i (.arg 0)) = .box 0 [(.pv (.sl oba0_0_2.length (ints oba0_0_2))), (i64 oba0_1_2)]) ∧ (∃ (g : Nat), q (.t 6) = .ptr (.site 0 0 0) g 0 ∧ q (.i (.site 0 0 0)) = .box g [(i64 0), .nilsl, .nilsl]) ∧ (∃ (g : Nat) (w0 : AV) (w1 : AV), q (.t 7) = .ptr (.site 1 0 0) g 0 ∧ q (.i (.site 1 0 0)) = .box g [(i64 0), w0, w1] ∧ (ownAt q w0 (.site 6 4 0) false 1 pb1_0_1_2.length (ints pb1_0_1_2) ∨ (w0 = .nilsl ∧ pb1_0_1_2 = [])) ∧ (ownAt q w1 (.site 12 8 0) false 3 pb1_0_2_2.length (encTs pb1_0_2_2) ∨ (w1 = .nilsl ∧ pb1_0_2_2 = [])))
theorem P_make_trust_2 {pba0_0_2 : (List Int)} {pba0_1_2 : Int} {pb1_0_1_2 : (List Int)} {pb1_0_2_2 : (List Tru)} {cc : Code} (hcc : cc = (Code.fst (Code.snd (Code.fst (Code.snd (Code.fst (Code.snd (Code.snd (Code.snd (Code.snd ((Tryz.f66.body).getD .skip))))))))))) {s : St} {z : Option (Ex × St)} (hz : C Tryz.prog cf cc s = z) {r : ((List Int) × Int × Bool)} (hI : J_make_trust_2 pba0_0_2 pba0_1_2 pb1_0_1_2 pb1_0_2_2 s) (hB : B_make_trust_2 pba0_0_2 pba0_1_2 pb1_0_1_2 pb1_0_2_2 = some r) : Res z (postG (fun a q => Q_make_trust_2 pba0_0_2 pba0_1_2 pb1_0_1_2 pb1_0_2_2 a.1 a.2.1 a.2.2 q) r) := by
  subst hcc
  subst hz
  simp only [J_make_trust_2] at hI
  obtain ⟨⟨q1, q2⟩, ⟨g4, q3, q4⟩, ⟨g6, v6_w0, v6_w1, q5, q6, a6_w0, a6_w1⟩⟩ := hI
  simp only [Code.fst, Code.snd, Tryz.f66, Option.getD_some]
  unfold B_make_trust_2 at hB
  rcases a6_w0 with ⟨ga6_w0, rfl, oa6_w0⟩ | ⟨rfl, ea6_w0⟩
  · rcases a6_w1 with ⟨ga6_w1, rfl, oa6_w1⟩ | ⟨rfl, ea6_w1⟩
    · rcases cnd_inv hB with ⟨c20, hB⟩ | ⟨c20, hB⟩
      · have pc20 := eq_true (of_decide_eq_true c20)
        have nc20 := c20
        try simp only [Lqf, Lqe, Iqe, Iqf, Nqa, Nat.reduceAdd, Int.reduceLT, Int.reduceLE, Int.reduceEq, eq_self, decide_true, decide_false, Bool.true_eq_false, Bool.false_eq_true] at nc20
        all_goals
          obtain ⟨y21, k22, hB⟩ := kb_inv hB
          replace k22 := run_make_Tape_N k22
          try simp only [Iqe, Iqf, Lqe, Lqf, Lqg, Lqh, Nqa, Nat.reduceAdd, Tqa, Tqb, Tqc, Eqe, Eqf, Eqg, Eqh, Eqa, Eqb, Eqc, Eqd, Eqi, Eqj, Eqk, Eql, Eqm, Eqn] at k22
          try dsimp only at hB
          obtain rfl := Option.some.inj hB
          try simp -implicitDefEqProofs [-getElem?_pos, -Iqa, -Iqb, -Iqc, -Iqd, -Lqa, Lqb, Lqc, Lqd, q1, q2, q3, q4, q5, q6, oa6_w0, oa6_w1, c20, pc20, nc20, k22]
          refine Res.g ?_
          simp -implicitDefEqProofs [-getElem?_pos, -Iqa, -Iqb, -Iqc, -Iqd, -Lqa, Lqb, Lqc, Lqd, and_assoc, Q_make_trust_2, ownAt, q1, q2, q3, q4, q5, q6, oa6_w0, oa6_w1, c20, pc20, nc20, k22]
      · have pc20 := eq_false (of_decide_eq_false c20)
        have nc20 := c20
        try simp only [Lqf, Lqe, Iqe, Iqf, Nqa, Nat.reduceAdd, Int.reduceLT, Int.reduceLE, Int.reduceEq, eq_self, decide_true, decide_false, Bool.true_eq_false, Bool.false_eq_true] at nc20
        all_goals
          obtain rfl := Option.some.inj hB
          try simp -implicitDefEqProofs [-getElem?_pos, -Iqa, -Iqb, -Iqc, -Iqd, -Lqa, Lqb, Lqc, Lqd, q1, q2, q3, q4, q5, q6, oa6_w0, oa6_w1, c20, pc20, nc20]
          refine Res.g ?_
          simp -implicitDefEqProofs [-getElem?_pos, -Iqa, -Iqb, -Iqc, -Iqd, -Lqa, Lqb, Lqc, Lqd, and_assoc, Q_make_trust_2, ownAt, q1, q2, q3, q4, q5, q6, oa6_w0, oa6_w1, c20, pc20, nc20]
    · try subst ea6_w1
      rcases cnd_inv hB with ⟨c20, hB⟩ | ⟨c20, hB⟩
      · have pc20 := eq_true (of_decide_eq_true c20)
        have nc20 := c20
        try simp only [Lqf, Lqe, Iqe, Iqf, Nqa, Nat.reduceAdd, Int.reduceLT, Int.reduceLE, Int.reduceEq, eq_self, decide_true, decide_false, Bool.true_eq_false, Bool.false_eq_true] at nc20
        all_goals
          obtain ⟨y21, k22, hB⟩ := kb_inv hB
          replace k22 := run_make_Tape_N k22
          try simp only [Iqe, Iqf, Lqe, Lqf, Lqg, Lqh, Nqa, Nat.reduceAdd, Tqa, Tqb, Tqc, Eqe, Eqf, Eqg, Eqh, Eqa, Eqb, Eqc, Eqd, Eqi, Eqj, Eqk, Eql, Eqm, Eqn] at k22
          try dsimp only at hB
          obtain rfl := Option.some.inj hB
          try simp -implicitDefEqProofs [-getElem?_pos, -Iqa, -Iqb, -Iqc, -Iqd, -Lqa, Lqb, Lqc, Lqd, q1, q2, q3, q4, q5, q6, oa6_w0, c20, pc20, nc20, k22]
          refine Res.g ?_
          simp -implicitDefEqProofs [-getElem?_pos, -Iqa, -Iqb, -Iqc, -Iqd, -Lqa, Lqb, Lqc, Lqd, and_assoc, Q_make_trust_2, ownAt, q1, q2, q3, q4, q5, q6, oa6_w0, c20, pc20, nc20, k22]; all_goals ((repeat' apply And.intro) <;> assumption)
      · have pc20 := eq_false (of_decide_eq_false c20)
        have nc20 := c20
        try simp only [Lqf, Lqe, Iqe, Iqf, Nqa, Nat.reduceAdd, Int.reduceLT, Int.reduceLE, Int.reduceEq, eq_self, decide_true, decide_false, Bool.true_eq_false, Bool.false_eq_true] at nc20
        all_goals
          obtain rfl := Option.some.inj hB
          try simp -implicitDefEqProofs [-getElem?_pos, -Iqa, -Iqb, -Iqc, -Iqd, -Lqa, Lqb, Lqc, Lqd, q1, q2, q3, q4, q5, q6, oa6_w0, c20, pc20, nc20]
          refine Res.g ?_
          simp -implicitDefEqProofs [-getElem?_pos, -Iqa, -Iqb, -Iqc, -Iqd, -Lqa, Lqb, Lqc, Lqd, and_assoc, Q_make_trust_2, ownAt, q1, q2, q3, q4, q5, q6, oa6_w0, c20, pc20, nc20]; all_goals ((repeat' apply And.intro) <;> assumption)
  · try subst ea6_w0
    rcases a6_w1 with ⟨ga6_w1, rfl, oa6_w1⟩ | ⟨rfl, ea6_w1⟩
    · rcases cnd_inv hB with ⟨c20, hB⟩ | ⟨c20, hB⟩
      · have pc20 := eq_true (of_decide_eq_true c20)
        have nc20 := c20
        try simp only [Lqf, Lqe, Iqe, Iqf, Nqa, Nat.reduceAdd, Int.reduceLT, Int.reduceLE, Int.reduceEq, eq_self, decide_true, decide_false, Bool.true_eq_false, Bool.false_eq_true] at nc20
        all_goals
          obtain ⟨y21, k22, hB⟩ := kb_inv hB
          replace k22 := run_make_Tape_N k22
          try simp only [Iqe, Iqf, Lqe, Lqf, Lqg, Lqh, Nqa, Nat.reduceAdd, Tqa, Tqb, Tqc, Eqe, Eqf, Eqg, Eqh, Eqa, Eqb, Eqc, Eqd, Eqi, Eqj, Eqk, Eql, Eqm, Eqn] at k22
          try dsimp only at hB
          obtain rfl := Option.some.inj hB
          try simp -implicitDefEqProofs [-getElem?_pos, -Iqa, -Iqb, -Iqc, -Iqd, -Lqa, Lqb, Lqc, Lqd, q1, q2, q3, q4, q5, q6, oa6_w1, c20, pc20, nc20, k22]
          refine Res.g ?_
          simp -implicitDefEqProofs [-getElem?_pos, -Iqa, -Iqb, -Iqc, -Iqd, -Lqa, Lqb, Lqc, Lqd, and_assoc, Q_make_trust_2, ownAt, q1, q2, q3, q4, q5, q6, oa6_w1, c20, pc20, nc20, k22]; all_goals ((repeat' apply And.intro) <;> assumption)
      · have pc20 := eq_false (of_decide_eq_false c20)
        have nc20 := c20
        try simp only [Lqf, Lqe, Iqe, Iqf, Nqa, Nat.reduceAdd, Int.reduceLT, Int.reduceLE, Int.reduceEq, eq_self, decide_true, decide_false, Bool.true_eq_false, Bool.false_eq_true] at nc20
        all_goals
          obtain rfl := Option.some.inj hB
          try simp -implicitDefEqProofs [-getElem?_pos, -Iqa, -Iqb, -Iqc, -Iqd, -Lqa, Lqb, Lqc, Lqd, q1, q2, q3, q4, q5, q6, oa6_w1, c20, pc20, nc20]
          refine Res.g ?_
          simp -implicitDefEqProofs [-getElem?_pos, -Iqa, -Iqb, -Iqc, -Iqd, -Lqa, Lqb, Lqc, Lqd, and_assoc, Q_make_trust_2, ownAt, q1, q2, q3, q4, q5, q6, oa6_w1, c20, pc20, nc20]; all_goals ((repeat' apply And.intro) <;> assumption)
    · try subst ea6_w1
      rcases cnd_inv hB with ⟨c20, hB⟩ | ⟨c20, hB⟩
      · have pc20 := eq_true (of_decide_eq_true c20)
        have nc20 := c20
        try simp only [Lqf, Lqe, Iqe, Iqf, Nqa, Nat.reduceAdd, Int.reduceLT, Int.reduceLE, Int.reduceEq, eq_self, decide_true, decide_false, Bool.true_eq_false, Bool.false_eq_true] at nc20
        all_goals
          obtain ⟨y21, k22, hB⟩ := kb_inv hB
          replace k22 := run_make_Tape_N k22
          try simp only [Iqe, Iqf, Lqe, Lqf, Lqg, Lqh, Nqa, Nat.reduceAdd, Tqa, Tqb, Tqc, Eqe, Eqf, Eqg, Eqh, Eqa, Eqb, Eqc, Eqd, Eqi, Eqj, Eqk, Eql, Eqm, Eqn] at k22
          try dsimp only at hB
          obtain rfl := Option.some.inj hB
          try simp -implicitDefEqProofs [-getElem?_pos, -Iqa, -Iqb, -Iqc, -Iqd, -Lqa, Lqb, Lqc, Lqd, q1, q2, q3, q4, q5, q6, c20, pc20, nc20, k22]
          refine Res.g ?_
          simp -implicitDefEqProofs [-getElem?_pos, -Iqa, -Iqb, -Iqc, -Iqd, -Lqa, Lqb, Lqc, Lqd, and_assoc, Q_make_trust_2, ownAt, q1, q2, q3, q4, q5, q6, c20, pc20, nc20, k22]; all_goals ((repeat' apply And.intro) <;> assumption)
      · have pc20 := eq_false (of_decide_eq_false c20)
        have nc20 := c20
        try simp only [Lqf, Lqe, Iqe, Iqf, Nqa, Nat.reduceAdd, Int.reduceLT, Int.reduceLE, Int.reduceEq, eq_self, decide_true, decide_false, Bool.true_eq_false, Bool.false_eq_true] at nc20
        all_goals
          obtain rfl := Option.some.inj hB
          try simp -implicitDefEqProofs [-getElem?_pos, -Iqa, -Iqb, -Iqc, -Iqd, -Lqa, Lqb, Lqc, Lqd, q1, q2, q3, q4, q5, q6, c20, pc20, nc20]
          refine Res.g ?_
          simp -implicitDefEqProofs [-getElem?_pos, -Iqa, -Iqb, -Iqc, -Iqd, -Lqa, Lqb, Lqc, Lqd, and_assoc, Q_make_trust_2, ownAt, q1, q2, q3, q4, q5, q6, c20, pc20, nc20]; all_goals ((repeat' apply And.intro) <;> assumption)
noncomputable def B_make_trust (p0 : S_trustquorummake_Tape) (p1 : Int) (p2 : Int) : Option (Tru × S_trustquorummake_Tape) :=
  kb (G_make_Tape_Order p0 p1) fun y1 =>
  kb (G_make_Tape_Range y1.2 1 (if 5 < p1 then 5 else p1)) fun y3 =>
  kb (partK y1.1 0 y3.1) fun L5 =>
  kb (smallK L5) fun _ =>
  kb (foldO (fun i a x => B_make_trust_0 y3 p1 p2 L5 i a x) 0 ([] : (List Int)) L5) fun z10 =>
  cnd (decide (1 < p2)) (
    kb (G_make_Tape_Pick y3.2 ([0, 0, 1, 1, 2, 3] : List Int)) fun y12 =>
    kb (iterW (fun a => B_make_trust_1 z10 p1 p2 a.1 a.2.1 a.2.2.1 a.2.2.2) (y12.2.f0, y12.2.f1, ([] : (List Tru)), y12.1)) fun o => stpK o (fun z19 =>
      kb (B_make_trust_2 z19.1 z19.2.1 z10 z19.2.2.1) fun z23 =>
      cnd z23.2.2 (
        kb (G_make_Tape_Range (S_trustquorummake_Tape.mk z23.1 z23.2.1) 1 (add64 (([] : (List Int)).length : Int) (z19.2.2.1.length : Int))) fun y25 =>
        some ((Tru.mk y25.1 ([] : (List Int)) z19.2.2.1), y25.2)) (
        kb (G_make_Tape_Range (S_trustquorummake_Tape.mk z23.1 z23.2.1) 1 (add64 (z10.length : Int) (z19.2.2.1.length : Int))) fun y27 =>
        some ((Tru.mk y27.1 z10 z19.2.2.1), y27.2))) (fun z19r =>
      none)) (
    kb (G_make_Tape_Range y3.2 1 (add64 (z10.length : Int) (([] : (List Tru)).length : Int))) fun y29 =>
    some ((Tru.mk y29.1 z10 ([] : (List Tru))), y29.2))
theorem sim_make_trust {p0 : S_trustquorummake_Tape} {p1 : Int} {p2 : Int} {r : (Tru × S_trustquorummake_Tape)} (hB : B_make_trust p0 p1 p2 = some r) : R 66 [.ptr (.arg 0) 0 0, (i64 p1), (i64 p2)] [.box 0 [(.pv (.sl p0.f0.length (ints p0.f0))), (i64 p0.f1)]] = some ((.agg [(i64 r.1.thr), (.pv (.sl r.1.nodes.length (ints r.1.nodes))), (.pv (.sl r.1.inner.length (encTs r.1.inner)))]), [.box 0 [(.pv (.sl r.2.f0.length (ints r.2.f0))), (i64 r.2.f1)]], []) := by
  rw [R_eq _ _ _ fn_make_trust]
  simp only [Code.fst, Code.snd, Tryz.f66, Option.getD_some]
  generalize hc0 : Code.block 0 _ = cc0
  generalize hc1 : Code.block 2 _ = cc1
  generalize hc2 : Code.region 13 _ _ = cc2
  generalize hr2 : Code.region 2 _ _ = rr2
  generalize hr3 : Code.region 3 _ _ = rr3
  generalize hr9 : Code.region 9 _ _ = rr9
  generalize hr15 : Code.region 15 _ _ = rr15
  unfold B_make_trust at hB
  obtain ⟨y1, k2, hB⟩ := kb_inv hB
  replace k2 := run_make_Tape_Order k2
  try simp only [Iqe, Iqf, Lqe, Lqf, Lqg, Lqh, Nqa, Nat.reduceAdd, Tqa, Tqb, Tqc, Eqe, Eqf, Eqg, Eqh, Eqa, Eqb, Eqc, Eqd, Eqi, Eqj, Eqk, Eql, Eqm, Eqn] at k2
  try dsimp only at hB
  obtain ⟨y3, k4, hB⟩ := kb_inv hB
  replace k4 := run_make_Tape_Range k4
  try simp only [Iqe, Iqf, Lqe, Lqf, Lqg, Lqh, Nqa, Nat.reduceAdd, Tqa, Tqb, Tqc, Eqe, Eqf, Eqg, Eqh, Eqa, Eqb, Eqc, Eqd, Eqi, Eqj, Eqk, Eql, Eqm, Eqn] at k4
  try dsimp only at hB
  obtain ⟨L5, sq6, hB⟩ := kb_inv hB
  obtain ⟨sq6a, sq6b, sq6c, sq6d, sq6e, sq6f, sq6g⟩ := ints_part_h sq6
  try dsimp only at hB
  subst hr2
  subst hr3
  try simp -implicitDefEqProofs [-getElem?_pos, -Iqa, -Iqb, -Iqc, -Iqd, -Lqa, Lqb, Lqc, Lqd, k2, k4, sq6a, sq6b, sq6c, sq6d, sq6e, sq6f, sq6g]
  generalize hz0 : C Tryz.prog cf cc0 _ = z0
  obtain ⟨_, hsm, hB⟩ := kb_inv hB
  obtain ⟨z10, hB1, hB⟩ := kb_inv hB
  have hJ := P_make_trust_0 (hc0.symm.trans (by kernel_rfl)) hz0 (smallK_inv hsm) (by simp -implicitDefEqProofs [-getElem?_pos, -Iqa, -Iqb, -Iqc, -Iqd, -Lqa, Lqb, Lqc, Lqd, and_assoc, I_make_trust_0, ownAt, k2, k4, sq6a, sq6b, sq6c, sq6d, sq6e, sq6f, sq6g]) hB1
  obtain ⟨e0, s0, rfl, hq⟩ := hJ.open
  clear hB1
  obtain ⟨rfl, hq⟩ := hq
  simp only [Q_make_trust_0] at hq
  obtain ⟨q10_1, q10_2, ⟨q10_3, q10_4⟩, ⟨g10_6, q10_5, q10_6⟩, ⟨g10_8, v10_8_w0, q10_7, q10_8, a10_8_w0⟩⟩ := hq
  rcases a10_8_w0 with ⟨ga10_8_w0, rfl, oa10_8_w0⟩ | ⟨rfl, ea10_8_w0⟩
  · rcases cnd_inv hB with ⟨c11, hB⟩ | ⟨c11, hB⟩
    · have pc11 := eq_true (of_decide_eq_true c11)
      obtain ⟨y12, k13, hB⟩ := kb_inv hB
      replace k13 := run_make_Tape_Pick k13
      try simp only [Iqe, Iqf, Lqe, Lqf, Lqg, Lqh, Nqa, Nat.reduceAdd, Tqa, Tqb, Tqc, Eqe, Eqf, Eqg, Eqh, Eqa, Eqb, Eqc, Eqd, Eqi, Eqj, Eqk, Eql, Eqm, Eqn] at k13
      try dsimp only at hB
      subst hr9
      try simp -implicitDefEqProofs [-getElem?_pos, -Iqa, -Iqb, -Iqc, -Iqd, -Lqa, Lqb, Lqc, Lqd, q10_1, q10_2, q10_3, q10_4, q10_5, q10_6, q10_7, q10_8, oa10_8_w0, k2, k4, sq6a, sq6b, sq6c, sq6d, sq6e, sq6f, sq6g, c11, pc11, k13]
      generalize hz1 : C Tryz.prog cf cc1 _ = z1
      obtain ⟨o, hB1, hB⟩ := kb_inv hB
      have hJ := P_make_trust_1 (hc1.symm.trans (by kernel_rfl)) hz1 (by simp -implicitDefEqProofs [-getElem?_pos, -Iqa, -Iqb, -Iqc, -Iqd, -Lqa, Lqb, Lqc, Lqd, and_assoc, I_make_trust_1, ownAt, q10_1, q10_2, q10_3, q10_4, q10_5, q10_6, q10_7, q10_8, oa10_8_w0, k2, k4, sq6a, sq6b, sq6c, sq6d, sq6e, sq6f, sq6g, c11, pc11, k13]) hB1
      obtain ⟨e1, s1, rfl, hq⟩ := hJ.open
      clear hB1
      rcases o with z19 | ⟨_, _⟩ | z19r
      · simp only [stpK_go] at hB
        obtain ⟨rfl, hq⟩ := hq
        obtain ⟨u1_0, u1_1, u1_2, u1_3⟩ := z19
        dsimp only at hB hq
        simp only [Q_make_trust_1] at hq
        obtain ⟨⟨q19_1, q19_2⟩, ⟨g19_4, q19_3, q19_4⟩, ⟨g19_6, v19_6_w0, v19_6_w1, q19_5, q19_6, a19_6_w0, a19_6_w1⟩⟩ := hq
        rcases a19_6_w0 with ⟨ga19_6_w0, rfl, oa19_6_w0⟩ | ⟨rfl, ea19_6_w0⟩
        · rcases a19_6_w1 with ⟨ga19_6_w1, rfl, oa19_6_w1⟩ | ⟨rfl, ea19_6_w1⟩
          · try simp -implicitDefEqProofs [-getElem?_pos, -Iqa, -Iqb, -Iqc, -Iqd, -Lqa, Lqb, Lqc, Lqd, q19_1, q19_2, q19_3, q19_4, q19_5, q19_6, oa19_6_w0, oa19_6_w1, k2, k4, sq6a, sq6b, sq6c, sq6d, sq6e, sq6f, sq6g, c11, pc11, k13]
            generalize hz2 : C Tryz.prog cf cc2 _ = z2
            obtain ⟨z23, hB1, hB⟩ := kb_inv hB
            have hJ := P_make_trust_2 (hc2.symm.trans (by kernel_rfl)) hz2 (by simp -implicitDefEqProofs [-getElem?_pos, -Iqa, -Iqb, -Iqc, -Iqd, -Lqa, Lqb, Lqc, Lqd, and_assoc, J_make_trust_2, ownAt, q19_1, q19_2, q19_3, q19_4, q19_5, q19_6, oa19_6_w0, oa19_6_w1, k2, k4, sq6a, sq6b, sq6c, sq6d, sq6e, sq6f, sq6g, c11, pc11, k13]) hB1
            obtain ⟨e2, s2, rfl, hq⟩ := hJ.open
            clear hB1
            obtain ⟨rfl, hq⟩ := hq
            obtain ⟨u2_0, u2_1, u2_2⟩ := z23
            dsimp only at hB hq
            simp only [Q_make_trust_2] at hq
            obtain ⟨q23_1, ⟨q23_2, q23_3⟩, ⟨g23_5, q23_4, q23_5⟩, ⟨g23_7, v23_7_w0, v23_7_w1, q23_6, q23_7, a23_7_w0, a23_7_w1⟩⟩ := hq
            rcases a23_7_w0 with ⟨ga23_7_w0, rfl, oa23_7_w0⟩ | ⟨rfl, ea23_7_w0⟩
            · rcases a23_7_w1 with ⟨ga23_7_w1, rfl, oa23_7_w1⟩ | ⟨rfl, ea23_7_w1⟩
              · rcases cnd_inv hB with ⟨c24, hB⟩ | ⟨c24, hB⟩
                · obtain ⟨y25, k26, hB⟩ := kb_inv hB
                  replace k26 := run_make_Tape_Range k26
                  try simp only [Iqe, Iqf, Lqe, Lqf, Lqg, Lqh, Nqa, Nat.reduceAdd, Tqa, Tqb, Tqc, Eqe, Eqf, Eqg, Eqh, Eqa, Eqb, Eqc, Eqd, Eqi, Eqj, Eqk, Eql, Eqm, Eqn, c24] at k26
                  try dsimp only at hB
                  obtain rfl := Option.some.inj hB
                  subst hr15
                  simp -implicitDefEqProofs [-getElem?_pos, -Iqa, -Iqb, -Iqc, -Iqd, -Lqa, Lqb, Lqc, Lqd, q23_1, q23_2, q23_3, q23_4, q23_5, q23_6, q23_7, oa23_7_w0, oa23_7_w1, k2, k4, sq6a, sq6b, sq6c, sq6d, sq6e, sq6f, sq6g, c11, pc11, k13, c24, k26]
                · obtain ⟨y27, k28, hB⟩ := kb_inv hB
                  replace k28 := run_make_Tape_Range k28
                  try simp only [Iqe, Iqf, Lqe, Lqf, Lqg, Lqh, Nqa, Nat.reduceAdd, Tqa, Tqb, Tqc, Eqe, Eqf, Eqg, Eqh, Eqa, Eqb, Eqc, Eqd, Eqi, Eqj, Eqk, Eql, Eqm, Eqn, c24] at k28
                  try dsimp only at hB
                  obtain rfl := Option.some.inj hB
                  subst hr15
                  simp -implicitDefEqProofs [-getElem?_pos, -Iqa, -Iqb, -Iqc, -Iqd, -Lqa, Lqb, Lqc, Lqd, q23_1, q23_2, q23_3, q23_4, q23_5, q23_6, q23_7, oa23_7_w0, oa23_7_w1, k2, k4, sq6a, sq6b, sq6c, sq6d, sq6e, sq6f, sq6g, c11, pc11, k13, c24, k28]
              · try subst ea23_7_w1
                rcases cnd_inv hB with ⟨c24, hB⟩ | ⟨c24, hB⟩
                · obtain ⟨y25, k26, hB⟩ := kb_inv hB
                  replace k26 := run_make_Tape_Range k26
                  try simp only [Iqe, Iqf, Lqe, Lqf, Lqg, Lqh, Nqa, Nat.reduceAdd, Tqa, Tqb, Tqc, Eqe, Eqf, Eqg, Eqh, Eqa, Eqb, Eqc, Eqd, Eqi, Eqj, Eqk, Eql, Eqm, Eqn, c24] at k26
                  try dsimp only at hB
                  obtain rfl := Option.some.inj hB
                  subst hr15
                  simp -implicitDefEqProofs [-getElem?_pos, -Iqa, -Iqb, -Iqc, -Iqd, -Lqa, Lqb, Lqc, Lqd, q23_1, q23_2, q23_3, q23_4, q23_5, q23_6, q23_7, oa23_7_w0, k2, k4, sq6a, sq6b, sq6c, sq6d, sq6e, sq6f, sq6g, c11, pc11, k13, c24, k26]
                · obtain ⟨y27, k28, hB⟩ := kb_inv hB
                  replace k28 := run_make_Tape_Range k28
                  try simp only [Iqe, Iqf, Lqe, Lqf, Lqg, Lqh, Nqa, Nat.reduceAdd, Tqa, Tqb, Tqc, Eqe, Eqf, Eqg, Eqh, Eqa, Eqb, Eqc, Eqd, Eqi, Eqj, Eqk, Eql, Eqm, Eqn, c24] at k28
                  try dsimp only at hB
                  obtain rfl := Option.some.inj hB
                  subst hr15
                  simp -implicitDefEqProofs [-getElem?_pos, -Iqa, -Iqb, -Iqc, -Iqd, -Lqa, Lqb, Lqc, Lqd, q23_1, q23_2, q23_3, q23_4, q23_5, q23_6, q23_7, oa23_7_w0, k2, k4, sq6a, sq6b, sq6c, sq6d, sq6e, sq6f, sq6g, c11, pc11, k13, c24, k28]
            · try subst ea23_7_w0
              rcases a23_7_w1 with ⟨ga23_7_w1, rfl, oa23_7_w1⟩ | ⟨rfl, ea23_7_w1⟩
              · rcases cnd_inv hB with ⟨c24, hB⟩ | ⟨c24, hB⟩
                · obtain ⟨y25, k26, hB⟩ := kb_inv hB
                  replace k26 := run_make_Tape_Range k26
                  try simp only [Iqe, Iqf, Lqe, Lqf, Lqg, Lqh, Nqa, Nat.reduceAdd, Tqa, Tqb, Tqc, Eqe, Eqf, Eqg, Eqh, Eqa, Eqb, Eqc, Eqd, Eqi, Eqj, Eqk, Eql, Eqm, Eqn, c24] at k26
                  try dsimp only at hB
                  obtain rfl := Option.some.inj hB
                  subst hr15
                  simp -implicitDefEqProofs [-getElem?_pos, -Iqa, -Iqb, -Iqc, -Iqd, -Lqa, Lqb, Lqc, Lqd, q23_1, q23_2, q23_3, q23_4, q23_5, q23_6, q23_7, oa23_7_w1, k2, k4, sq6a, sq6b, sq6c, sq6d, sq6e, sq6f, sq6g, c11, pc11, k13, c24, k26]
                · obtain ⟨y27, k28, hB⟩ := kb_inv hB
                  replace k28 := run_make_Tape_Range k28
                  try simp only [Iqe, Iqf, Lqe, Lqf, Lqg, Lqh, Nqa, Nat.reduceAdd, Tqa, Tqb, Tqc, Eqe, Eqf, Eqg, Eqh, Eqa, Eqb, Eqc, Eqd, Eqi, Eqj, Eqk, Eql, Eqm, Eqn, c24] at k28
                  try dsimp only at hB
                  obtain rfl := Option.some.inj hB
                  subst hr15
                  simp -implicitDefEqProofs [-getElem?_pos, -Iqa, -Iqb, -Iqc, -Iqd, -Lqa, Lqb, Lqc, Lqd, q23_1, q23_2, q23_3, q23_4, q23_5, q23_6, q23_7, oa23_7_w1, k2, k4, sq6a, sq6b, sq6c, sq6d, sq6e, sq6f, sq6g, c11, pc11, k13, c24, k28]
              · try subst ea23_7_w1
                rcases cnd_inv hB with ⟨c24, hB⟩ | ⟨c24, hB⟩
                · obtain ⟨y25, k26, hB⟩ := kb_inv hB
                  replace k26 := run_make_Tape_Range k26
                  try simp only [Iqe, Iqf, Lqe, Lqf, Lqg, Lqh, Nqa, Nat.reduceAdd, Tqa, Tqb, Tqc, Eqe, Eqf, Eqg, Eqh, Eqa, Eqb, Eqc, Eqd, Eqi, Eqj, Eqk, Eql, Eqm, Eqn, c24] at k26
                  try dsimp only at hB
                  obtain rfl := Option.some.inj hB
                  subst hr15
                  simp -implicitDefEqProofs [-getElem?_pos, -Iqa, -Iqb, -Iqc, -Iqd, -Lqa, Lqb, Lqc, Lqd, q23_1, q23_2, q23_3, q23_4, q23_5, q23_6, q23_7, k2, k4, sq6a, sq6b, sq6c, sq6d, sq6e, sq6f, sq6g, c11, pc11, k13, c24, k26]
                · obtain ⟨y27, k28, hB⟩ := kb_inv hB
                  replace k28 := run_make_Tape_Range k28
                  try simp only [Iqe, Iqf, Lqe, Lqf, Lqg, Lqh, Nqa, Nat.reduceAdd, Tqa, Tqb, Tqc, Eqe, Eqf, Eqg, Eqh, Eqa, Eqb, Eqc, Eqd, Eqi, Eqj, Eqk, Eql, Eqm, Eqn, c24] at k28
                  try dsimp only at hB
                  obtain rfl := Option.some.inj hB
                  subst hr15
                  simp -implicitDefEqProofs [-getElem?_pos, -Iqa, -Iqb, -Iqc, -Iqd, -Lqa, Lqb, Lqc, Lqd, q23_1, q23_2, q23_3, q23_4, q23_5, q23_6, q23_7, k2, k4, sq6a, sq6b, sq6c, sq6d, sq6e, sq6f, sq6g, c11, pc11, k13, c24, k28]
          · try subst ea19_6_w1
            try simp -implicitDefEqProofs [-getElem?_pos, -Iqa, -Iqb, -Iqc, -Iqd, -Lqa, Lqb, Lqc, Lqd, q19_1, q19_2, q19_3, q19_4, q19_5, q19_6, oa19_6_w0, k2, k4, sq6a, sq6b, sq6c, sq6d, sq6e, sq6f, sq6g, c11, pc11, k13]
            generalize hz2 : C Tryz.prog cf cc2 _ = z2
            obtain ⟨z23, hB1, hB⟩ := kb_inv hB
            have hJ := P_make_trust_2 (hc2.symm.trans (by kernel_rfl)) hz2 (by simp -implicitDefEqProofs [-getElem?_pos, -Iqa, -Iqb, -Iqc, -Iqd, -Lqa, Lqb, Lqc, Lqd, and_assoc, J_make_trust_2, ownAt, q19_1, q19_2, q19_3, q19_4, q19_5, q19_6, oa19_6_w0, k2, k4, sq6a, sq6b, sq6c, sq6d, sq6e, sq6f, sq6g, c11, pc11, k13]; all_goals ((repeat' apply And.intro) <;> assumption)) hB1
            obtain ⟨e2, s2, rfl, hq⟩ := hJ.open
            clear hB1
            obtain ⟨rfl, hq⟩ := hq
            obtain ⟨u2_0, u2_1, u2_2⟩ := z23
            dsimp only at hB hq
            simp only [Q_make_trust_2] at hq
            obtain ⟨q23_1, ⟨q23_2, q23_3⟩, ⟨g23_5, q23_4, q23_5⟩, ⟨g23_7, v23_7_w0, v23_7_w1, q23_6, q23_7, a23_7_w0, a23_7_w1⟩⟩ := hq
            rcases a23_7_w0 with ⟨ga23_7_w0, rfl, oa23_7_w0⟩ | ⟨rfl, ea23_7_w0⟩
            · rcases a23_7_w1 with ⟨ga23_7_w1, rfl, oa23_7_w1⟩ | ⟨rfl, ea23_7_w1⟩
              · rcases cnd_inv hB with ⟨c24, hB⟩ | ⟨c24, hB⟩
                · obtain ⟨y25, k26, hB⟩ := kb_inv hB
                  replace k26 := run_make_Tape_Range k26
                  try simp only [Iqe, Iqf, Lqe, Lqf, Lqg, Lqh, Nqa, Nat.reduceAdd, Tqa, Tqb, Tqc, Eqe, Eqf, Eqg, Eqh, Eqa, Eqb, Eqc, Eqd, Eqi, Eqj, Eqk, Eql, Eqm, Eqn, c24] at k26
                  try dsimp only at hB
                  obtain rfl := Option.some.inj hB
                  subst hr15
                  simp -implicitDefEqProofs [-getElem?_pos, -Iqa, -Iqb, -Iqc, -Iqd, -Lqa, Lqb, Lqc, Lqd, q23_1, q23_2, q23_3, q23_4, q23_5, q23_6, q23_7, oa23_7_w0, oa23_7_w1, k2, k4, sq6a, sq6b, sq6c, sq6d, sq6e, sq6f, sq6g, c11, pc11, k13, c24, k26]
                · obtain ⟨y27, k28, hB⟩ := kb_inv hB
                  replace k28 := run_make_Tape_Range k28
                  try simp only [Iqe, Iqf, Lqe, Lqf, Lqg, Lqh, Nqa, Nat.reduceAdd, Tqa, Tqb, Tqc, Eqe, Eqf, Eqg, Eqh, Eqa, Eqb, Eqc, Eqd, Eqi, Eqj, Eqk, Eql, Eqm, Eqn, c24] at k28
                  try dsimp only at hB
                  obtain rfl := Option.some.inj hB
                  subst hr15
                  simp -implicitDefEqProofs [-getElem?_pos, -Iqa, -Iqb, -Iqc, -Iqd, -Lqa, Lqb, Lqc, Lqd, q23_1, q23_2, q23_3, q23_4, q23_5, q23_6, q23_7, oa23_7_w0, oa23_7_w1, k2, k4, sq6a, sq6b, sq6c, sq6d, sq6e, sq6f, sq6g, c11, pc11, k13, c24, k28]
              · try subst ea23_7_w1
                rcases cnd_inv hB with ⟨c24, hB⟩ | ⟨c24, hB⟩
                · obtain ⟨y25, k26, hB⟩ := kb_inv hB
                  replace k26 := run_make_Tape_Range k26
                  try simp only [Iqe, Iqf, Lqe, Lqf, Lqg, Lqh, Nqa, Nat.reduceAdd, Tqa, Tqb, Tqc, Eqe, Eqf, Eqg, Eqh, Eqa, Eqb, Eqc, Eqd, Eqi, Eqj, Eqk, Eql, Eqm, Eqn, c24] at k26
                  try dsimp only at hB
                  obtain rfl := Option.some.inj hB
                  subst hr15
                  simp -implicitDefEqProofs [-getElem?_pos, -Iqa, -Iqb, -Iqc, -Iqd, -Lqa, Lqb, Lqc, Lqd, q23_1, q23_2, q23_3, q23_4, q23_5, q23_6, q23_7, oa23_7_w0, k2, k4, sq6a, sq6b, sq6c, sq6d, sq6e, sq6f, sq6g, c11, pc11, k13, c24, k26]
                · obtain ⟨y27, k28, hB⟩ := kb_inv hB
                  replace k28 := run_make_Tape_Range k28
                  try simp only [Iqe, Iqf, Lqe, Lqf, Lqg, Lqh, Nqa, Nat.reduceAdd, Tqa, Tqb, Tqc, Eqe, Eqf, Eqg, Eqh, Eqa, Eqb, Eqc, Eqd, Eqi, Eqj, Eqk, Eql, Eqm, Eqn, c24] at k28
                  try dsimp only at hB
                  obtain rfl := Option.some.inj hB
                  subst hr15
                  simp -implicitDefEqProofs [-getElem?_pos, -Iqa, -Iqb, -Iqc, -Iqd, -Lqa, Lqb, Lqc, Lqd, q23_1, q23_2, q23_3, q23_4, q23_5, q23_6, q23_7, oa23_7_w0, k2, k4, sq6a, sq6b, sq6c, sq6d, sq6e, sq6f, sq6g, c11, pc11, k13, c24, k28]
            · try subst ea23_7_w0
              rcases a23_7_w1 with ⟨ga23_7_w1, rfl, oa23_7_w1⟩ | ⟨rfl, ea23_7_w1⟩
              · rcases cnd_inv hB with ⟨c24, hB⟩ | ⟨c24, hB⟩
                · obtain ⟨y25, k26, hB⟩ := kb_inv hB
                  replace k26 := run_make_Tape_Range k26
                  try simp only [Iqe, Iqf, Lqe, Lqf, Lqg, Lqh, Nqa, Nat.reduceAdd, Tqa, Tqb, Tqc, Eqe, Eqf, Eqg, Eqh, Eqa, Eqb, Eqc, Eqd, Eqi, Eqj, Eqk, Eql, Eqm, Eqn, c24] at k26
                  try dsimp only at hB
                  obtain rfl := Option.some.inj hB
                  subst hr15
                  simp -implicitDefEqProofs [-getElem?_pos, -Iqa, -Iqb, -Iqc, -Iqd, -Lqa, Lqb, Lqc, Lqd, q23_1, q23_2, q23_3, q23_4, q23_5, q23_6, q23_7, oa23_7_w1, k2, k4, sq6a, sq6b, sq6c, sq6d, sq6e, sq6f, sq6g, c11, pc11, k13, c24, k26]
                · obtain ⟨y27, k28, hB⟩ := kb_inv hB
                  replace k28 := run_make_Tape_Range k28
                  try simp only [Iqe, Iqf, Lqe, Lqf, Lqg, Lqh, Nqa, Nat.reduceAdd, Tqa, Tqb, Tqc, Eqe, Eqf, Eqg, Eqh, Eqa, Eqb, Eqc, Eqd, Eqi, Eqj, Eqk, Eql, Eqm, Eqn, c24] at k28
                  try dsimp only at hB
                  obtain rfl := Option.some.inj hB
                  subst hr15
                  simp -implicitDefEqProofs [-getElem?_pos, -Iqa, -Iqb, -Iqc, -Iqd, -Lqa, Lqb, Lqc, Lqd, q23_1, q23_2, q23_3, q23_4, q23_5, q23_6, q23_7, oa23_7_w1, k2, k4, sq6a, sq6b, sq6c, sq6d, sq6e, sq6f, sq6g, c11, pc11, k13, c24, k28]
              · try subst ea23_7_w1
                rcases cnd_inv hB with ⟨c24, hB⟩ | ⟨c24, hB⟩
                · obtain ⟨y25, k26, hB⟩ := kb_inv hB
                  replace k26 := run_make_Tape_Range k26
                  try simp only [Iqe, Iqf, Lqe, Lqf, Lqg, Lqh, Nqa, Nat.reduceAdd, Tqa, Tqb, Tqc, Eqe, Eqf, Eqg, Eqh, Eqa, Eqb, Eqc, Eqd, Eqi, Eqj, Eqk, Eql, Eqm, Eqn, c24] at k26
                  try dsimp only at hB
                  obtain rfl := Option.some.inj hB
                  subst hr15
                  simp -implicitDefEqProofs [-getElem?_pos, -Iqa, -Iqb, -Iqc, -Iqd, -Lqa, Lqb, Lqc, Lqd, q23_1, q23_2, q23_3, q23_4, q23_5, q23_6, q23_7, k2, k4, sq6a, sq6b, sq6c, sq6d, sq6e, sq6f, sq6g, c11, pc11, k13, c24, k26]
                · obtain ⟨y27, k28, hB⟩ := kb_inv hB
                  replace k28 := run_make_Tape_Range k28
                  try simp only [Iqe, Iqf, Lqe, Lqf, Lqg, Lqh, Nqa, Nat.reduceAdd, Tqa, Tqb, Tqc, Eqe, Eqf, Eqg, Eqh, Eqa, Eqb, Eqc, Eqd, Eqi, Eqj, Eqk, Eql, Eqm, Eqn, c24] at k28
                  try dsimp only at hB
                  obtain rfl := Option.some.inj hB
                  subst hr15
                  simp -implicitDefEqProofs [-getElem?_pos, -Iqa, -Iqb, -Iqc, -Iqd, -Lqa, Lqb, Lqc, Lqd, q23_1, q23_2, q23_3, q23_4, q23_5, q23_6, q23_7, k2, k4, sq6a, sq6b, sq6c, sq6d, sq6e, sq6f, sq6g, c11, pc11, k13, c24, k28]
        · try subst ea19_6_w0
          rcases a19_6_w1 with ⟨ga19_6_w1, rfl, oa19_6_w1⟩ | ⟨rfl, ea19_6_w1⟩
          · try simp -implicitDefEqProofs [-getElem?_pos, -Iqa, -Iqb, -Iqc, -Iqd, -Lqa, Lqb, Lqc, Lqd, q19_1, q19_2, q19_3, q19_4, q19_5, q19_6, oa19_6_w1, k2, k4, sq6a, sq6b, sq6c, sq6d, sq6e, sq6f, sq6g, c11, pc11, k13]
            generalize hz2 : C Tryz.prog cf cc2 _ = z2
            obtain ⟨z23, hB1, hB⟩ := kb_inv hB
            have hJ := P_make_trust_2 (hc2.symm.trans (by kernel_rfl)) hz2 (by simp -implicitDefEqProofs [-getElem?_pos, -Iqa, -Iqb, -Iqc, -Iqd, -Lqa, Lqb, Lqc, Lqd, and_assoc, J_make_trust_2, ownAt, q19_1, q19_2, q19_3, q19_4, q19_5, q19_6, oa19_6_w1, k2, k4, sq6a, sq6b, sq6c, sq6d, sq6e, sq6f, sq6g, c11, pc11, k13]; all_goals ((repeat' apply And.intro) <;> assumption)) hB1
            obtain ⟨e2, s2, rfl, hq⟩ := hJ.open
            clear hB1
            obtain ⟨rfl, hq⟩ := hq
            obtain ⟨u2_0, u2_1, u2_2⟩ := z23
            dsimp only at hB hq
            simp only [Q_make_trust_2] at hq
            obtain ⟨q23_1, ⟨q23_2, q23_3⟩, ⟨g23_5, q23_4, q23_5⟩, ⟨g23_7, v23_7_w0, v23_7_w1, q23_6, q23_7, a23_7_w0, a23_7_w1⟩⟩ := hq
            rcases a23_7_w0 with ⟨ga23_7_w0, rfl, oa23_7_w0⟩ | ⟨rfl, ea23_7_w0⟩
            · rcases a23_7_w1 with ⟨ga23_7_w1, rfl, oa23_7_w1⟩ | ⟨rfl, ea23_7_w1⟩
              · rcases cnd_inv hB with ⟨c24, hB⟩ | ⟨c24, hB⟩
                · obtain ⟨y25, k26, hB⟩ := kb_inv hB
                  replace k26 := run_make_Tape_Range k26
                  try simp only [Iqe, Iqf, Lqe, Lqf, Lqg, Lqh, Nqa, Nat.reduceAdd, Tqa, Tqb, Tqc, Eqe, Eqf, Eqg, Eqh, Eqa, Eqb, Eqc, Eqd, Eqi, Eqj, Eqk, Eql, Eqm, Eqn, c24] at k26
                  try dsimp only at hB
                  obtain rfl := Option.some.inj hB
                  subst hr15
                  simp -implicitDefEqProofs [-getElem?_pos, -Iqa, -Iqb, -Iqc, -Iqd, -Lqa, Lqb, Lqc, Lqd, q23_1, q23_2, q23_3, q23_4, q23_5, q23_6, q23_7, oa23_7_w0, oa23_7_w1, k2, k4, sq6a, sq6b, sq6c, sq6d, sq6e, sq6f, sq6g, c11, pc11, k13, c24, k26]
                · obtain ⟨y27, k28, hB⟩ := kb_inv hB
                  replace k28 := run_make_Tape_Range k28
                  try simp only [Iqe, Iqf, Lqe, Lqf, Lqg, Lqh, Nqa, Nat.reduceAdd, Tqa, Tqb, Tqc, Eqe, Eqf, Eqg, Eqh, Eqa, Eqb, Eqc, Eqd, Eqi, Eqj, Eqk, Eql, Eqm, Eqn, c24] at k28
                  try dsimp only at hB
                  obtain rfl := Option.some.inj hB
                  subst hr15
                  simp -implicitDefEqProofs [-getElem?_pos, -Iqa, -Iqb, -Iqc, -Iqd, -Lqa, Lqb, Lqc, Lqd, q23_1, q23_2, q23_3, q23_4, q23_5, q23_6, q23_7, oa23_7_w0, oa23_7_w1, k2, k4, sq6a, sq6b, sq6c, sq6d, sq6e, sq6f, sq6g, c11, pc11, k13, c24, k28]
              · try subst ea23_7_w1
                rcases cnd_inv hB with ⟨c24, hB⟩ | ⟨c24, hB⟩
                · obtain ⟨y25, k26, hB⟩ := kb_inv hB
                  replace k26 := run_make_Tape_Range k26
                  try simp only [Iqe, Iqf, Lqe, Lqf, Lqg, Lqh, Nqa, Nat.reduceAdd, Tqa, Tqb, Tqc, Eqe, Eqf, Eqg, Eqh, Eqa, Eqb, Eqc, Eqd, Eqi, Eqj, Eqk, Eql, Eqm, Eqn, c24] at k26
                  try dsimp only at hB
                  obtain rfl := Option.some.inj hB
                  subst hr15
                  simp -implicitDefEqProofs [-getElem?_pos, -Iqa, -Iqb, -Iqc, -Iqd, -Lqa, Lqb, Lqc, Lqd, q23_1, q23_2, q23_3, q23_4, q23_5, q23_6, q23_7, oa23_7_w0, k2, k4, sq6a, sq6b, sq6c, sq6d, sq6e, sq6f, sq6g, c11, pc11, k13, c24, k26]
                · obtain ⟨y27, k28, hB⟩ := kb_inv hB
                  replace k28 := run_make_Tape_Range k28
                  try simp only [Iqe, Iqf, Lqe, Lqf, Lqg, Lqh, Nqa, Nat.reduceAdd, Tqa, Tqb, Tqc, Eqe, Eqf, Eqg, Eqh, Eqa, Eqb, Eqc, Eqd, Eqi, Eqj, Eqk, Eql, Eqm, Eqn, c24] at k28
                  try dsimp only at hB
                  obtain rfl := Option.some.inj hB
                  subst hr15
                  simp -implicitDefEqProofs [-getElem?_pos, -Iqa, -Iqb, -Iqc, -Iqd, -Lqa, Lqb, Lqc, Lqd, q23_1, q23_2, q23_3, q23_4, q23_5, q23_6, q23_7, oa23_7_w0, k2, k4, sq6a, sq6b, sq6c, sq6d, sq6e, sq6f, sq6g, c11, pc11, k13, c24, k28]
            · try subst ea23_7_w0
              rcases a23_7_w1 with ⟨ga23_7_w1, rfl, oa23_7_w1⟩ | ⟨rfl, ea23_7_w1⟩
              · rcases cnd_inv hB with ⟨c24, hB⟩ | ⟨c24, hB⟩
                · obtain ⟨y25, k26, hB⟩ := kb_inv hB
                  replace k26 := run_make_Tape_Range k26
                  try simp only [Iqe, Iqf, Lqe, Lqf, Lqg, Lqh, Nqa, Nat.reduceAdd, Tqa, Tqb, Tqc, Eqe, Eqf, Eqg, Eqh, Eqa, Eqb, Eqc, Eqd, Eqi, Eqj, Eqk, Eql, Eqm, Eqn, c24] at k26
                  try dsimp only at hB
                  obtain rfl := Option.some.inj hB
                  subst hr15
                  simp -implicitDefEqProofs [-getElem?_pos, -Iqa, -Iqb, -Iqc, -Iqd, -Lqa, Lqb, Lqc, Lqd, q23_1, q23_2, q23_3, q23_4, q23_5, q23_6, q23_7, oa23_7_w1, k2, k4, sq6a, sq6b, sq6c, sq6d, sq6e, sq6f, sq6g, c11, pc11, k13, c24, k26]
                · obtain ⟨y27, k28, hB⟩ := kb_inv hB
                  replace k28 := run_make_Tape_Range k28
                  try simp only [Iqe, Iqf, Lqe, Lqf, Lqg, Lqh, Nqa, Nat.reduceAdd, Tqa, Tqb, Tqc, Eqe, Eqf, Eqg, Eqh, Eqa, Eqb, Eqc, Eqd, Eqi, Eqj, Eqk, Eql, Eqm, Eqn, c24] at k28
                  try dsimp only at hB
                  obtain rfl := Option.some.inj hB
                  subst hr15
                  simp -implicitDefEqProofs [-getElem?_pos, -Iqa, -Iqb, -Iqc, -Iqd, -Lqa, Lqb, Lqc, Lqd, q23_1, q23_2, q23_3, q23_4, q23_5, q23_6, q23_7, oa23_7_w1, k2, k4, sq6a, sq6b, sq6c, sq6d, sq6e, sq6f, sq6g, c11, pc11, k13, c24, k28]
              · try subst ea23_7_w1
                rcases cnd_inv hB with ⟨c24, hB⟩ | ⟨c24, hB⟩
                · obtain ⟨y25, k26, hB⟩ := kb_inv hB
                  replace k26 := run_make_Tape_Range k26
                  try simp only [Iqe, Iqf, Lqe, Lqf, Lqg, Lqh, Nqa, Nat.reduceAdd, Tqa, Tqb, Tqc, Eqe, Eqf, Eqg, Eqh, Eqa, Eqb, Eqc, Eqd, Eqi, Eqj, Eqk, Eql, Eqm, Eqn, c24] at k26
                  try dsimp only at hB
                  obtain rfl := Option.some.inj hB
                  subst hr15
                  simp -implicitDefEqProofs [-getElem?_pos, -Iqa, -Iqb, -Iqc, -Iqd, -Lqa, Lqb, Lqc, Lqd, q23_1, q23_2, q23_3, q23_4, q23_5, q23_6, q23_7, k2, k4, sq6a, sq6b, sq6c, sq6d, sq6e, sq6f, sq6g, c11, pc11, k13, c24, k26]
                · obtain ⟨y27, k28, hB⟩ := kb_inv hB
                  replace k28 := run_make_Tape_Range k28
                  try simp only [Iqe, Iqf, Lqe, Lqf, Lqg, Lqh, Nqa, Nat.reduceAdd, Tqa, Tqb, Tqc, Eqe, Eqf, Eqg, Eqh, Eqa, Eqb, Eqc, Eqd, Eqi, Eqj, Eqk, Eql, Eqm, Eqn, c24] at k28
                  try dsimp only at hB
                  obtain rfl := Option.some.inj hB
                  subst hr15
                  simp -implicitDefEqProofs [-getElem?_pos, -Iqa, -Iqb, -Iqc, -Iqd, -Lqa, Lqb, Lqc, Lqd, q23_1, q23_2, q23_3, q23_4, q23_5, q23_6, q23_7, k2, k4, sq6a, sq6b, sq6c, sq6d, sq6e, sq6f, sq6g, c11, pc11, k13, c24, k28]
          · try subst ea19_6_w1
            try simp -implicitDefEqProofs [-getElem?_pos, -Iqa, -Iqb, -Iqc, -Iqd, -Lqa, Lqb, Lqc, Lqd, q19_1, q19_2, q19_3, q19_4, q19_5, q19_6, k2, k4, sq6a, sq6b, sq6c, sq6d, sq6e, sq6f, sq6g, c11, pc11, k13]
            generalize hz2 : C Tryz.prog cf cc2 _ = z2
            obtain ⟨z23, hB1, hB⟩ := kb_inv hB
            have hJ := P_make_trust_2 (hc2.symm.trans (by kernel_rfl)) hz2 (by simp -implicitDefEqProofs [-getElem?_pos, -Iqa, -Iqb, -Iqc, -Iqd, -Lqa, Lqb, Lqc, Lqd, and_assoc, J_make_trust_2, ownAt, q19_1, q19_2, q19_3, q19_4, q19_5, q19_6, k2, k4, sq6a, sq6b, sq6c, sq6d, sq6e, sq6f, sq6g, c11, pc11, k13]; all_goals ((repeat' apply And.intro) <;> assumption)) hB1
            obtain ⟨e2, s2, rfl, hq⟩ := hJ.open
            clear hB1
            obtain ⟨rfl, hq⟩ := hq
            obtain ⟨u2_0, u2_1, u2_2⟩ := z23
            dsimp only at hB hq
            simp only [Q_make_trust_2] at hq
            obtain ⟨q23_1, ⟨q23_2, q23_3⟩, ⟨g23_5, q23_4, q23_5⟩, ⟨g23_7, v23_7_w0, v23_7_w1, q23_6, q23_7, a23_7_w0, a23_7_w1⟩⟩ := hq
            rcases a23_7_w0 with ⟨ga23_7_w0, rfl, oa23_7_w0⟩ | ⟨rfl, ea23_7_w0⟩
            · rcases a23_7_w1 with ⟨ga23_7_w1, rfl, oa23_7_w1⟩ | ⟨rfl, ea23_7_w1⟩
              · rcases cnd_inv hB with ⟨c24, hB⟩ | ⟨c24, hB⟩
                · obtain ⟨y25, k26, hB⟩ := kb_inv hB
                  replace k26 := run_make_Tape_Range k26
                  try simp only [Iqe, Iqf, Lqe, Lqf, Lqg, Lqh, Nqa, Nat.reduceAdd, Tqa, Tqb, Tqc, Eqe, Eqf, Eqg, Eqh, Eqa, Eqb, Eqc, Eqd, Eqi, Eqj, Eqk, Eql, Eqm, Eqn, c24] at k26
                  try dsimp only at hB
                  obtain rfl := Option.some.inj hB
                  subst hr15
                  simp -implicitDefEqProofs [-getElem?_pos, -Iqa, -Iqb, -Iqc, -Iqd, -Lqa, Lqb, Lqc, Lqd, q23_1, q23_2, q23_3, q23_4, q23_5, q23_6, q23_7, oa23_7_w0, oa23_7_w1, k2, k4, sq6a, sq6b, sq6c, sq6d, sq6e, sq6f, sq6g, c11, pc11, k13, c24, k26]
                · obtain ⟨y27, k28, hB⟩ := kb_inv hB
                  replace k28 := run_make_Tape_Range k28
                  try simp only [Iqe, Iqf, Lqe, Lqf, Lqg, Lqh, Nqa, Nat.reduceAdd, Tqa, Tqb, Tqc, Eqe, Eqf, Eqg, Eqh, Eqa, Eqb, Eqc, Eqd, Eqi, Eqj, Eqk, Eql, Eqm, Eqn, c24] at k28
                  try dsimp only at hB
                  obtain rfl := Option.some.inj hB
                  subst hr15
                  simp -implicitDefEqProofs [-getElem?_pos, -Iqa, -Iqb, -Iqc, -Iqd, -Lqa, Lqb, Lqc, Lqd, q23_1, q23_2, q23_3, q23_4, q23_5, q23_6, q23_7, oa23_7_w0, oa23_7_w1, k2, k4, sq6a, sq6b, sq6c, sq6d, sq6e, sq6f, sq6g, c11, pc11, k13, c24, k28]
              · try subst ea23_7_w1
                rcases cnd_inv hB with ⟨c24, hB⟩ | ⟨c24, hB⟩
                · obtain ⟨y25, k26, hB⟩ := kb_inv hB
                  replace k26 := run_make_Tape_Range k26
                  try simp only [Iqe, Iqf, Lqe, Lqf, Lqg, Lqh, Nqa, Nat.reduceAdd, Tqa, Tqb, Tqc, Eqe, Eqf, Eqg, Eqh, Eqa, Eqb, Eqc, Eqd, Eqi, Eqj, Eqk, Eql, Eqm, Eqn, c24] at k26
                  try dsimp only at hB
                  obtain rfl := Option.some.inj hB
                  subst hr15
                  simp -implicitDefEqProofs [-getElem?_pos, -Iqa, -Iqb, -Iqc, -Iqd, -Lqa, Lqb, Lqc, Lqd, q23_1, q23_2, q23_3, q23_4, q23_5, q23_6, q23_7, oa23_7_w0, k2, k4, sq6a, sq6b, sq6c, sq6d, sq6e, sq6f, sq6g, c11, pc11, k13, c24, k26]
                · obtain ⟨y27, k28, hB⟩ := kb_inv hB
                  replace k28 := run_make_Tape_Range k28
                  try simp only [Iqe, Iqf, Lqe, Lqf, Lqg, Lqh, Nqa, Nat.reduceAdd, Tqa, Tqb, Tqc, Eqe, Eqf, Eqg, Eqh, Eqa, Eqb, Eqc, Eqd, Eqi, Eqj, Eqk, Eql, Eqm, Eqn, c24] at k28
                  try dsimp only at hB
                  obtain rfl := Option.some.inj hB
                  subst hr15
                  simp -implicitDefEqProofs [-getElem?_pos, -Iqa, -Iqb, -Iqc, -Iqd, -Lqa, Lqb, Lqc, Lqd, q23_1, q23_2, q23_3, q23_4, q23_5, q23_6, q23_7, oa23_7_w0, k2, k4, sq6a, sq6b, sq6c, sq6d, sq6e, sq6f, sq6g, c11, pc11, k13, c24, k28]
            · try subst ea23_7_w0
              rcases a23_7_w1 with ⟨ga23_7_w1, rfl, oa23_7_w1⟩ | ⟨rfl, ea23_7_w1⟩
              · rcases cnd_inv hB with ⟨c24, hB⟩ | ⟨c24, hB⟩
                · obtain ⟨y25, k26, hB⟩ := kb_inv hB
                  replace k26 := run_make_Tape_Range k26
                  try simp only [Iqe, Iqf, Lqe, Lqf, Lqg, Lqh, Nqa, Nat.reduceAdd, Tqa, Tqb, Tqc, Eqe, Eqf, Eqg, Eqh, Eqa, Eqb, Eqc, Eqd, Eqi, Eqj, Eqk, Eql, Eqm, Eqn, c24] at k26
                  try dsimp only at hB
                  obtain rfl := Option.some.inj hB
                  subst hr15
                  simp -implicitDefEqProofs [-getElem?_pos, -Iqa, -Iqb, -Iqc, -Iqd, -Lqa, Lqb, Lqc, Lqd, q23_1, q23_2, q23_3, q23_4, q23_5, q23_6, q23_7, oa23_7_w1, k2, k4, sq6a, sq6b, sq6c, sq6d, sq6e, sq6f, sq6g, c11, pc11, k13, c24, k26]
                · obtain ⟨y27, k28, hB⟩ := kb_inv hB
                  replace k28 := run_make_Tape_Range k28
                  try simp only [Iqe, Iqf, Lqe, Lqf, Lqg, Lqh, Nqa, Nat.reduceAdd, Tqa, Tqb, Tqc, Eqe, Eqf, Eqg, Eqh, Eqa, Eqb, Eqc, Eqd, Eqi, Eqj, Eqk, Eql, Eqm, Eqn, c24] at k28
                  try dsimp only at hB
                  obtain rfl := Option.some.inj hB
                  subst hr15
                  simp -implicitDefEqProofs [-getElem?_pos, -Iqa, -Iqb, -Iqc, -Iqd, -Lqa, Lqb, Lqc, Lqd, q23_1, q23_2, q23_3, q23_4, q23_5, q23_6, q23_7, oa23_7_w1, k2, k4, sq6a, sq6b, sq6c, sq6d, sq6e, sq6f, sq6g, c11, pc11, k13, c24, k28]
              · try subst ea23_7_w1
                rcases cnd_inv hB with ⟨c24, hB⟩ | ⟨c24, hB⟩
                · obtain ⟨y25, k26, hB⟩ := kb_inv hB
                  replace k26 := run_make_Tape_Range k26
                  try simp only [Iqe, Iqf, Lqe, Lqf, Lqg, Lqh, Nqa, Nat.reduceAdd, Tqa, Tqb, Tqc, Eqe, Eqf, Eqg, Eqh, Eqa, Eqb, Eqc, Eqd, Eqi, Eqj, Eqk, Eql, Eqm, Eqn, c24] at k26
                  try dsimp only at hB
                  obtain rfl := Option.some.inj hB
                  subst hr15
                  simp -implicitDefEqProofs [-getElem?_pos, -Iqa, -Iqb, -Iqc, -Iqd, -Lqa, Lqb, Lqc, Lqd, q23_1, q23_2, q23_3, q23_4, q23_5, q23_6, q23_7, k2, k4, sq6a, sq6b, sq6c, sq6d, sq6e, sq6f, sq6g, c11, pc11, k13, c24, k26]
                · obtain ⟨y27, k28, hB⟩ := kb_inv hB
                  replace k28 := run_make_Tape_Range k28
                  try simp only [Iqe, Iqf, Lqe, Lqf, Lqg, Lqh, Nqa, Nat.reduceAdd, Tqa, Tqb, Tqc, Eqe, Eqf, Eqg, Eqh, Eqa, Eqb, Eqc, Eqd, Eqi, Eqj, Eqk, Eql, Eqm, Eqn, c24] at k28
                  try dsimp only at hB
                  obtain rfl := Option.some.inj hB
                  subst hr15
                  simp -implicitDefEqProofs [-getElem?_pos, -Iqa, -Iqb, -Iqc, -Iqd, -Lqa, Lqb, Lqc, Lqd, q23_1, q23_2, q23_3, q23_4, q23_5, q23_6, q23_7, k2, k4, sq6a, sq6b, sq6c, sq6d, sq6e, sq6f, sq6g, c11, pc11, k13, c24, k28]
      · exact hq.elim
      · cases hB
    · have pc11 := eq_false (of_decide_eq_false c11)
      obtain ⟨y29, k30, hB⟩ := kb_inv hB
      replace k30 := run_make_Tape_Range k30
      try simp only [Iqe, Iqf, Lqe, Lqf, Lqg, Lqh, Nqa, Nat.reduceAdd, Tqa, Tqb, Tqc, Eqe, Eqf, Eqg, Eqh, Eqa, Eqb, Eqc, Eqd, Eqi, Eqj, Eqk, Eql, Eqm, Eqn] at k30
      try dsimp only at hB
      obtain rfl := Option.some.inj hB
      subst hr15
      simp -implicitDefEqProofs [-getElem?_pos, -Iqa, -Iqb, -Iqc, -Iqd, -Lqa, Lqb, Lqc, Lqd, q10_1, q10_2, q10_3, q10_4, q10_5, q10_6, q10_7, q10_8, oa10_8_w0, k2, k4, sq6a, sq6b, sq6c, sq6d, sq6e, sq6f, sq6g, c11, pc11, k30]
  · try subst ea10_8_w0
    rcases cnd_inv hB with ⟨c11, hB⟩ | ⟨c11, hB⟩
    · have pc11 := eq_true (of_decide_eq_true c11)
      obtain ⟨y12, k13, hB⟩ := kb_inv hB
      replace k13 := run_make_Tape_Pick k13
      try simp only [Iqe, Iqf, Lqe, Lqf, Lqg, Lqh, Nqa, Nat.reduceAdd, Tqa, Tqb, Tqc, Eqe, Eqf, Eqg, Eqh, Eqa, Eqb, Eqc, Eqd, Eqi, Eqj, Eqk, Eql, Eqm, Eqn] at k13
      try dsimp only at hB
      subst hr9
      try simp -implicitDefEqProofs [-getElem?_pos, -Iqa, -Iqb, -Iqc, -Iqd, -Lqa, Lqb, Lqc, Lqd, q10_1, q10_2, q10_3, q10_4, q10_5, q10_6, q10_7, q10_8, k2, k4, sq6a, sq6b, sq6c, sq6d, sq6e, sq6f, sq6g, c11, pc11, k13]
      generalize hz1 : C Tryz.prog cf cc1 _ = z1
      obtain ⟨o, hB1, hB⟩ := kb_inv hB
      have hJ := P_make_trust_1 (hc1.symm.trans (by kernel_rfl)) hz1 (by simp -implicitDefEqProofs [-getElem?_pos, -Iqa, -Iqb, -Iqc, -Iqd, -Lqa, Lqb, Lqc, Lqd, and_assoc, I_make_trust_1, ownAt, q10_1, q10_2, q10_3, q10_4, q10_5, q10_6, q10_7, q10_8, k2, k4, sq6a, sq6b, sq6c, sq6d, sq6e, sq6f, sq6g, c11, pc11, k13]; all_goals ((repeat' apply And.intro) <;> assumption)) hB1
      obtain ⟨e1, s1, rfl, hq⟩ := hJ.open
      clear hB1
      rcases o with z19 | ⟨_, _⟩ | z19r
      · simp only [stpK_go] at hB
        obtain ⟨rfl, hq⟩ := hq
        obtain ⟨u1_0, u1_1, u1_2, u1_3⟩ := z19
        dsimp only at hB hq
        simp only [Q_make_trust_1] at hq
        obtain ⟨⟨q19_1, q19_2⟩, ⟨g19_4, q19_3, q19_4⟩, ⟨g19_6, v19_6_w0, v19_6_w1, q19_5, q19_6, a19_6_w0, a19_6_w1⟩⟩ := hq
        rcases a19_6_w0 with ⟨ga19_6_w0, rfl, oa19_6_w0⟩ | ⟨rfl, ea19_6_w0⟩
        · rcases a19_6_w1 with ⟨ga19_6_w1, rfl, oa19_6_w1⟩ | ⟨rfl, ea19_6_w1⟩
          · try simp -implicitDefEqProofs [-getElem?_pos, -Iqa, -Iqb, -Iqc, -Iqd, -Lqa, Lqb, Lqc, Lqd, q19_1, q19_2, q19_3, q19_4, q19_5, q19_6, oa19_6_w0, oa19_6_w1, k2, k4, sq6a, sq6b, sq6c, sq6d, sq6e, sq6f, sq6g, c11, pc11, k13]
            generalize hz2 : C Tryz.prog cf cc2 _ = z2
            obtain ⟨z23, hB1, hB⟩ := kb_inv hB
            have hJ := P_make_trust_2 (hc2.symm.trans (by kernel_rfl)) hz2 (by simp -implicitDefEqProofs [-getElem?_pos, -Iqa, -Iqb, -Iqc, -Iqd, -Lqa, Lqb, Lqc, Lqd, and_assoc, J_make_trust_2, ownAt, q19_1, q19_2, q19_3, q19_4, q19_5, q19_6, oa19_6_w0, oa19_6_w1, k2, k4, sq6a, sq6b, sq6c, sq6d, sq6e, sq6f, sq6g, c11, pc11, k13]; all_goals ((repeat' apply And.intro) <;> assumption)) hB1
            obtain ⟨e2, s2, rfl, hq⟩ := hJ.open
            clear hB1
            obtain ⟨rfl, hq⟩ := hq
            obtain ⟨u2_0, u2_1, u2_2⟩ := z23
            dsimp only at hB hq
            simp only [Q_make_trust_2] at hq
            obtain ⟨q23_1, ⟨q23_2, q23_3⟩, ⟨g23_5, q23_4, q23_5⟩, ⟨g23_7, v23_7_w0, v23_7_w1, q23_6, q23_7, a23_7_w0, a23_7_w1⟩⟩ := hq
            rcases a23_7_w0 with ⟨ga23_7_w0, rfl, oa23_7_w0⟩ | ⟨rfl, ea23_7_w0⟩
            · rcases a23_7_w1 with ⟨ga23_7_w1, rfl, oa23_7_w1⟩ | ⟨rfl, ea23_7_w1⟩
              · rcases cnd_inv hB with ⟨c24, hB⟩ | ⟨c24, hB⟩
                · obtain ⟨y25, k26, hB⟩ := kb_inv hB
                  replace k26 := run_make_Tape_Range k26
                  try simp only [Iqe, Iqf, Lqe, Lqf, Lqg, Lqh, Nqa, Nat.reduceAdd, Tqa, Tqb, Tqc, Eqe, Eqf, Eqg, Eqh, Eqa, Eqb, Eqc, Eqd, Eqi, Eqj, Eqk, Eql, Eqm, Eqn, c24] at k26
                  try dsimp only at hB
                  obtain rfl := Option.some.inj hB
                  subst hr15
                  simp -implicitDefEqProofs [-getElem?_pos, -Iqa, -Iqb, -Iqc, -Iqd, -Lqa, Lqb, Lqc, Lqd, q23_1, q23_2, q23_3, q23_4, q23_5, q23_6, q23_7, oa23_7_w0, oa23_7_w1, k2, k4, sq6a, sq6b, sq6c, sq6d, sq6e, sq6f, sq6g, c11, pc11, k13, c24, k26]
                · obtain ⟨y27, k28, hB⟩ := kb_inv hB
                  replace k28 := run_make_Tape_Range k28
                  try simp only [Iqe, Iqf, Lqe, Lqf, Lqg, Lqh, Nqa, Nat.reduceAdd, Tqa, Tqb, Tqc, Eqe, Eqf, Eqg, Eqh, Eqa, Eqb, Eqc, Eqd, Eqi, Eqj, Eqk, Eql, Eqm, Eqn, c24] at k28
                  try dsimp only at hB
                  obtain rfl := Option.some.inj hB
                  subst hr15
                  simp -implicitDefEqProofs [-getElem?_pos, -Iqa, -Iqb, -Iqc, -Iqd, -Lqa, Lqb, Lqc, Lqd, q23_1, q23_2, q23_3, q23_4, q23_5, q23_6, q23_7, oa23_7_w0, oa23_7_w1, k2, k4, sq6a, sq6b, sq6c, sq6d, sq6e, sq6f, sq6g, c11, pc11, k13, c24, k28]
              · try subst ea23_7_w1
                rcases cnd_inv hB with ⟨c24, hB⟩ | ⟨c24, hB⟩
                · obtain ⟨y25, k26, hB⟩ := kb_inv hB
                  replace k26 := run_make_Tape_Range k26
                  try simp only [Iqe, Iqf, Lqe, Lqf, Lqg, Lqh, Nqa, Nat.reduceAdd, Tqa, Tqb, Tqc, Eqe, Eqf, Eqg, Eqh, Eqa, Eqb, Eqc, Eqd, Eqi, Eqj, Eqk, Eql, Eqm, Eqn, c24] at k26
                  try dsimp only at hB
                  obtain rfl := Option.some.inj hB
                  subst hr15
                  simp -implicitDefEqProofs [-getElem?_pos, -Iqa, -Iqb, -Iqc, -Iqd, -Lqa, Lqb, Lqc, Lqd, q23_1, q23_2, q23_3, q23_4, q23_5, q23_6, q23_7, oa23_7_w0, k2, k4, sq6a, sq6b, sq6c, sq6d, sq6e, sq6f, sq6g, c11, pc11, k13, c24, k26]
                · obtain ⟨y27, k28, hB⟩ := kb_inv hB
                  replace k28 := run_make_Tape_Range k28
                  try simp only [Iqe, Iqf, Lqe, Lqf, Lqg, Lqh, Nqa, Nat.reduceAdd, Tqa, Tqb, Tqc, Eqe, Eqf, Eqg, Eqh, Eqa, Eqb, Eqc, Eqd, Eqi, Eqj, Eqk, Eql, Eqm, Eqn, c24] at k28
                  try dsimp only at hB
                  obtain rfl := Option.some.inj hB
                  subst hr15
                  simp -implicitDefEqProofs [-getElem?_pos, -Iqa, -Iqb, -Iqc, -Iqd, -Lqa, Lqb, Lqc, Lqd, q23_1, q23_2, q23_3, q23_4, q23_5, q23_6, q23_7, oa23_7_w0, k2, k4, sq6a, sq6b, sq6c, sq6d, sq6e, sq6f, sq6g, c11, pc11, k13, c24, k28]
            · try subst ea23_7_w0
              rcases a23_7_w1 with ⟨ga23_7_w1, rfl, oa23_7_w1⟩ | ⟨rfl, ea23_7_w1⟩
              · rcases cnd_inv hB with ⟨c24, hB⟩ | ⟨c24, hB⟩
                · obtain ⟨y25, k26, hB⟩ := kb_inv hB
                  replace k26 := run_make_Tape_Range k26
                  try simp only [Iqe, Iqf, Lqe, Lqf, Lqg, Lqh, Nqa, Nat.reduceAdd, Tqa, Tqb, Tqc, Eqe, Eqf, Eqg, Eqh, Eqa, Eqb, Eqc, Eqd, Eqi, Eqj, Eqk, Eql, Eqm, Eqn, c24] at k26
                  try dsimp only at hB
                  obtain rfl := Option.some.inj hB
                  subst hr15
                  simp -implicitDefEqProofs [-getElem?_pos, -Iqa, -Iqb, -Iqc, -Iqd, -Lqa, Lqb, Lqc, Lqd, q23_1, q23_2, q23_3, q23_4, q23_5, q23_6, q23_7, oa23_7_w1, k2, k4, sq6a, sq6b, sq6c, sq6d, sq6e, sq6f, sq6g, c11, pc11, k13, c24, k26]
                · obtain ⟨y27, k28, hB⟩ := kb_inv hB
                  replace k28 := run_make_Tape_Range k28
                  try simp only [Iqe, Iqf, Lqe, Lqf, Lqg, Lqh, Nqa, Nat.reduceAdd, Tqa, Tqb, Tqc, Eqe, Eqf, Eqg, Eqh, Eqa, Eqb, Eqc, Eqd, Eqi, Eqj, Eqk, Eql, Eqm, Eqn, c24] at k28
                  try dsimp only at hB
                  obtain rfl := Option.some.inj hB
                  subst hr15
                  simp -implicitDefEqProofs [-getElem?_pos, -Iqa, -Iqb, -Iqc, -Iqd, -Lqa, Lqb, Lqc, Lqd, q23_1, q23_2, q23_3, q23_4, q23_5, q23_6, q23_7, oa23_7_w1, k2, k4, sq6a, sq6b, sq6c, sq6d, sq6e, sq6f, sq6g, c11, pc11, k13, c24, k28]
              · try subst ea23_7_w1
                rcases cnd_inv hB with ⟨c24, hB⟩ | ⟨c24, hB⟩
                · obtain ⟨y25, k26, hB⟩ := kb_inv hB
                  replace k26 := run_make_Tape_Range k26
                  try simp only [Iqe, Iqf, Lqe, Lqf, Lqg, Lqh, Nqa, Nat.reduceAdd, Tqa, Tqb, Tqc, Eqe, Eqf, Eqg, Eqh, Eqa, Eqb, Eqc, Eqd, Eqi, Eqj, Eqk, Eql, Eqm, Eqn, c24] at k26
                  try dsimp only at hB
                  obtain rfl := Option.some.inj hB
                  subst hr15
                  simp -implicitDefEqProofs [-getElem?_pos, -Iqa, -Iqb, -Iqc, -Iqd, -Lqa, Lqb, Lqc, Lqd, q23_1, q23_2, q23_3, q23_4, q23_5, q23_6, q23_7, k2, k4, sq6a, sq6b, sq6c, sq6d, sq6e, sq6f, sq6g, c11, pc11, k13, c24, k26]
                · obtain ⟨y27, k28, hB⟩ := kb_inv hB
                  replace k28 := run_make_Tape_Range k28
                  try simp only [Iqe, Iqf, Lqe, Lqf, Lqg, Lqh, Nqa, Nat.reduceAdd, Tqa, Tqb, Tqc, Eqe, Eqf, Eqg, Eqh, Eqa, Eqb, Eqc, Eqd, Eqi, Eqj, Eqk, Eql, Eqm, Eqn, c24] at k28
                  try dsimp only at hB
                  obtain rfl := Option.some.inj hB
                  subst hr15
                  simp -implicitDefEqProofs [-getElem?_pos, -Iqa, -Iqb, -Iqc, -Iqd, -Lqa, Lqb, Lqc, Lqd, q23_1, q23_2, q23_3, q23_4, q23_5, q23_6, q23_7, k2, k4, sq6a, sq6b, sq6c, sq6d, sq6e, sq6f, sq6g, c11, pc11, k13, c24, k28]
          · try subst ea19_6_w1
            try simp -implicitDefEqProofs [-getElem?_pos, -Iqa, -Iqb, -Iqc, -Iqd, -Lqa, Lqb, Lqc, Lqd, q19_1, q19_2, q19_3, q19_4, q19_5, q19_6, oa19_6_w0, k2, k4, sq6a, sq6b, sq6c, sq6d, sq6e, sq6f, sq6g, c11, pc11, k13]
            generalize hz2 : C Tryz.prog cf cc2 _ = z2
            obtain ⟨z23, hB1, hB⟩ := kb_inv hB
            have hJ := P_make_trust_2 (hc2.symm.trans (by kernel_rfl)) hz2 (by simp -implicitDefEqProofs [-getElem?_pos, -Iqa, -Iqb, -Iqc, -Iqd, -Lqa, Lqb, Lqc, Lqd, and_assoc, J_make_trust_2, ownAt, q19_1, q19_2, q19_3, q19_4, q19_5, q19_6, oa19_6_w0, k2, k4, sq6a, sq6b, sq6c, sq6d, sq6e, sq6f, sq6g, c11, pc11, k13]; all_goals ((repeat' apply And.intro) <;> assumption)) hB1
            obtain ⟨e2, s2, rfl, hq⟩ := hJ.open
            clear hB1
            obtain ⟨rfl, hq⟩ := hq
            obtain ⟨u2_0, u2_1, u2_2⟩ := z23
            dsimp only at hB hq
            simp only [Q_make_trust_2] at hq
            obtain ⟨q23_1, ⟨q23_2, q23_3⟩, ⟨g23_5, q23_4, q23_5⟩, ⟨g23_7, v23_7_w0, v23_7_w1, q23_6, q23_7, a23_7_w0, a23_7_w1⟩⟩ := hq
            rcases a23_7_w0 with ⟨ga23_7_w0, rfl, oa23_7_w0⟩ | ⟨rfl, ea23_7_w0⟩
            · rcases a23_7_w1 with ⟨ga23_7_w1, rfl, oa23_7_w1⟩ | ⟨rfl, ea23_7_w1⟩
              · rcases cnd_inv hB with ⟨c24, hB⟩ | ⟨c24, hB⟩
                · obtain ⟨y25, k26, hB⟩ := kb_inv hB
                  replace k26 := run_make_Tape_Range k26
                  try simp only [Iqe, Iqf, Lqe, Lqf, Lqg, Lqh, Nqa, Nat.reduceAdd, Tqa, Tqb, Tqc, Eqe, Eqf, Eqg, Eqh, Eqa, Eqb, Eqc, Eqd, Eqi, Eqj, Eqk, Eql, Eqm, Eqn, c24] at k26
                  try dsimp only at hB
                  obtain rfl := Option.some.inj hB
                  subst hr15
                  simp -implicitDefEqProofs [-getElem?_pos, -Iqa, -Iqb, -Iqc, -Iqd, -Lqa, Lqb, Lqc, Lqd, q23_1, q23_2, q23_3, q23_4, q23_5, q23_6, q23_7, oa23_7_w0, oa23_7_w1, k2, k4, sq6a, sq6b, sq6c, sq6d, sq6e, sq6f, sq6g, c11, pc11, k13, c24, k26]
                · obtain ⟨y27, k28, hB⟩ := kb_inv hB
                  replace k28 := run_make_Tape_Range k28
                  try simp only [Iqe, Iqf, Lqe, Lqf, Lqg, Lqh, Nqa, Nat.reduceAdd, Tqa, Tqb, Tqc, Eqe, Eqf, Eqg, Eqh, Eqa, Eqb, Eqc, Eqd, Eqi, Eqj, Eqk, Eql, Eqm, Eqn, c24] at k28
                  try dsimp only at hB
                  obtain rfl := Option.some.inj hB
                  subst hr15
                  simp -implicitDefEqProofs [-getElem?_pos, -Iqa, -Iqb, -Iqc, -Iqd, -Lqa, Lqb, Lqc, Lqd, q23_1, q23_2, q23_3, q23_4, q23_5, q23_6, q23_7, oa23_7_w0, oa23_7_w1, k2, k4, sq6a, sq6b, sq6c, sq6d, sq6e, sq6f, sq6g, c11, pc11, k13, c24, k28]
              · try subst ea23_7_w1
                rcases cnd_inv hB with ⟨c24, hB⟩ | ⟨c24, hB⟩
                · obtain ⟨y25, k26, hB⟩ := kb_inv hB
                  replace k26 := run_make_Tape_Range k26
                  try simp only [Iqe, Iqf, Lqe, Lqf, Lqg, Lqh, Nqa, Nat.reduceAdd, Tqa, Tqb, Tqc, Eqe, Eqf, Eqg, Eqh, Eqa, Eqb, Eqc, Eqd, Eqi, Eqj, Eqk, Eql, Eqm, Eqn, c24] at k26
                  try dsimp only at hB
                  obtain rfl := Option.some.inj hB
                  subst hr15
                  simp -implicitDefEqProofs [-getElem?_pos, -Iqa, -Iqb, -Iqc, -Iqd, -Lqa, Lqb, Lqc, Lqd, q23_1, q23_2, q23_3, q23_4, q23_5, q23_6, q23_7, oa23_7_w0, k2, k4, sq6a, sq6b, sq6c, sq6d, sq6e, sq6f, sq6g, c11, pc11, k13, c24, k26]
                · obtain ⟨y27, k28, hB⟩ := kb_inv hB
                  replace k28 := run_make_Tape_Range k28
                  try simp only [Iqe, Iqf, Lqe, Lqf, Lqg, Lqh, Nqa, Nat.reduceAdd, Tqa, Tqb, Tqc, Eqe, Eqf, Eqg, Eqh, Eqa, Eqb, Eqc, Eqd, Eqi, Eqj, Eqk, Eql, Eqm, Eqn, c24] at k28
                  try dsimp only at hB
                  obtain rfl := Option.some.inj hB
                  subst hr15
                  simp -implicitDefEqProofs [-getElem?_pos, -Iqa, -Iqb, -Iqc, -Iqd, -Lqa, Lqb, Lqc, Lqd, q23_1, q23_2, q23_3, q23_4, q23_5, q23_6, q23_7, oa23_7_w0, k2, k4, sq6a, sq6b, sq6c, sq6d, sq6e, sq6f, sq6g, c11, pc11, k13, c24, k28]
            · try subst ea23_7_w0
              rcases a23_7_w1 with ⟨ga23_7_w1, rfl, oa23_7_w1⟩ | ⟨rfl, ea23_7_w1⟩
              · rcases cnd_inv hB with ⟨c24, hB⟩ | ⟨c24, hB⟩
                · obtain ⟨y25, k26, hB⟩ := kb_inv hB
                  replace k26 := run_make_Tape_Range k26
                  try simp only [Iqe, Iqf, Lqe, Lqf, Lqg, Lqh, Nqa, Nat.reduceAdd, Tqa, Tqb, Tqc, Eqe, Eqf, Eqg, Eqh, Eqa, Eqb, Eqc, Eqd, Eqi, Eqj, Eqk, Eql, Eqm, Eqn, c24] at k26
                  try dsimp only at hB
                  obtain rfl := Option.some.inj hB
                  subst hr15
                  simp -implicitDefEqProofs [-getElem?_pos, -Iqa, -Iqb, -Iqc, -Iqd, -Lqa, Lqb, Lqc, Lqd, q23_1, q23_2, q23_3, q23_4, q23_5, q23_6, q23_7, oa23_7_w1, k2, k4, sq6a, sq6b, sq6c, sq6d, sq6e, sq6f, sq6g, c11, pc11, k13, c24, k26]
                · obtain ⟨y27, k28, hB⟩ := kb_inv hB
                  replace k28 := run_make_Tape_Range k28
                  try simp only [Iqe, Iqf, Lqe, Lqf, Lqg, Lqh, Nqa, Nat.reduceAdd, Tqa, Tqb, Tqc, Eqe, Eqf, Eqg, Eqh, Eqa, Eqb, Eqc, Eqd, Eqi, Eqj, Eqk, Eql, Eqm, Eqn, c24] at k28
                  try dsimp only at hB
                  obtain rfl := Option.some.inj hB
                  subst hr15
                  simp -implicitDefEqProofs [-getElem?_pos, -Iqa, -Iqb, -Iqc, -Iqd, -Lqa, Lqb, Lqc, Lqd, q23_1, q23_2, q23_3, q23_4, q23_5, q23_6, q23_7, oa23_7_w1, k2, k4, sq6a, sq6b, sq6c, sq6d, sq6e, sq6f, sq6g, c11, pc11, k13, c24, k28]
              · try subst ea23_7_w1
                rcases cnd_inv hB with ⟨c24, hB⟩ | ⟨c24, hB⟩
                · obtain ⟨y25, k26, hB⟩ := kb_inv hB
                  replace k26 := run_make_Tape_Range k26
                  try simp only [Iqe, Iqf, Lqe, Lqf, Lqg, Lqh, Nqa, Nat.reduceAdd, Tqa, Tqb, Tqc, Eqe, Eqf, Eqg, Eqh, Eqa, Eqb, Eqc, Eqd, Eqi, Eqj, Eqk, Eql, Eqm, Eqn, c24] at k26
                  try dsimp only at hB
                  obtain rfl := Option.some.inj hB
                  subst hr15
                  simp -implicitDefEqProofs [-getElem?_pos, -Iqa, -Iqb, -Iqc, -Iqd, -Lqa, Lqb, Lqc, Lqd, q23_1, q23_2, q23_3, q23_4, q23_5, q23_6, q23_7, k2, k4, sq6a, sq6b, sq6c, sq6d, sq6e, sq6f, sq6g, c11, pc11, k13, c24, k26]
                · obtain ⟨y27, k28, hB⟩ := kb_inv hB
                  replace k28 := run_make_Tape_Range k28
                  try simp only [Iqe, Iqf, Lqe, Lqf, Lqg, Lqh, Nqa, Nat.reduceAdd, Tqa, Tqb, Tqc, Eqe, Eqf, Eqg, Eqh, Eqa, Eqb, Eqc, Eqd, Eqi, Eqj, Eqk, Eql, Eqm, Eqn, c24] at k28
                  try dsimp only at hB
                  obtain rfl := Option.some.inj hB
                  subst hr15
                  simp -implicitDefEqProofs [-getElem?_pos, -Iqa, -Iqb, -Iqc, -Iqd, -Lqa, Lqb, Lqc, Lqd, q23_1, q23_2, q23_3, q23_4, q23_5, q23_6, q23_7, k2, k4, sq6a, sq6b, sq6c, sq6d, sq6e, sq6f, sq6g, c11, pc11, k13, c24, k28]
        · try subst ea19_6_w0
          rcases a19_6_w1 with ⟨ga19_6_w1, rfl, oa19_6_w1⟩ | ⟨rfl, ea19_6_w1⟩
          · try simp -implicitDefEqProofs [-getElem?_pos, -Iqa, -Iqb, -Iqc, -Iqd, -Lqa, Lqb, Lqc, Lqd, q19_1, q19_2, q19_3, q19_4, q19_5, q19_6, oa19_6_w1, k2, k4, sq6a, sq6b, sq6c, sq6d, sq6e, sq6f, sq6g, c11, pc11, k13]
            generalize hz2 : C Tryz.prog cf cc2 _ = z2
            obtain ⟨z23, hB1, hB⟩ := kb_inv hB
            have hJ := P_make_trust_2 (hc2.symm.trans (by kernel_rfl)) hz2 (by simp -implicitDefEqProofs [-getElem?_pos, -Iqa, -Iqb, -Iqc, -Iqd, -Lqa, Lqb, Lqc, Lqd, and_assoc, J_make_trust_2, ownAt, q19_1, q19_2, q19_3, q19_4, q19_5, q19_6, oa19_6_w1, k2, k4, sq6a, sq6b, sq6c, sq6d, sq6e, sq6f, sq6g, c11, pc11, k13]; all_goals ((repeat' apply And.intro) <;> assumption)) hB1
            obtain ⟨e2, s2, rfl, hq⟩ := hJ.open
            clear hB1
            obtain ⟨rfl, hq⟩ := hq
            obtain ⟨u2_0, u2_1, u2_2⟩ := z23
            dsimp only at hB hq
            simp only [Q_make_trust_2] at hq
            obtain ⟨q23_1, ⟨q23_2, q23_3⟩, ⟨g23_5, q23_4, q23_5⟩, ⟨g23_7, v23_7_w0, v23_7_w1, q23_6, q23_7, a23_7_w0, a23_7_w1⟩⟩ := hq
            rcases a23_7_w0 with ⟨ga23_7_w0, rfl, oa23_7_w0⟩ | ⟨rfl, ea23_7_w0⟩
            · rcases a23_7_w1 with ⟨ga23_7_w1, rfl, oa23_7_w1⟩ | ⟨rfl, ea23_7_w1⟩
              · rcases cnd_inv hB with ⟨c24, hB⟩ | ⟨c24, hB⟩
                · obtain ⟨y25, k26, hB⟩ := kb_inv hB
                  replace k26 := run_make_Tape_Range k26
                  try simp only [Iqe, Iqf, Lqe, Lqf, Lqg, Lqh, Nqa, Nat.reduceAdd, Tqa, Tqb, Tqc, Eqe, Eqf, Eqg, Eqh, Eqa, Eqb, Eqc, Eqd, Eqi, Eqj, Eqk, Eql, Eqm, Eqn, c24] at k26
                  try dsimp only at hB
                  obtain rfl := Option.some.inj hB
                  subst hr15
                  simp -implicitDefEqProofs [-getElem?_pos, -Iqa, -Iqb, -Iqc, -Iqd, -Lqa, Lqb, Lqc, Lqd, q23_1, q23_2, q23_3, q23_4, q23_5, q23_6, q23_7, oa23_7_w0, oa23_7_w1, k2, k4, sq6a, sq6b, sq6c, sq6d, sq6e, sq6f, sq6g, c11, pc11, k13, c24, k26]
                · obtain ⟨y27, k28, hB⟩ := kb_inv hB
                  replace k28 := run_make_Tape_Range k28
                  try simp only [Iqe, Iqf, Lqe, Lqf, Lqg, Lqh, Nqa, Nat.reduceAdd, Tqa, Tqb, Tqc, Eqe, Eqf, Eqg, Eqh, Eqa, Eqb, Eqc, Eqd, Eqi, Eqj, Eqk, Eql, Eqm, Eqn, c24] at k28
                  try dsimp only at hB
                  obtain rfl := Option.some.inj hB
                  subst hr15
                  simp -implicitDefEqProofs [-getElem?_pos, -Iqa, -Iqb, -Iqc, -Iqd, -Lqa, Lqb, Lqc, Lqd, q23_1, q23_2, q23_3, q23_4, q23_5, q23_6, q23_7, oa23_7_w0, oa23_7_w1, k2, k4, sq6a, sq6b, sq6c, sq6d, sq6e, sq6f, sq6g, c11, pc11, k13, c24, k28]
              · try subst ea23_7_w1
                rcases cnd_inv hB with ⟨c24, hB⟩ | ⟨c24, hB⟩
                · obtain ⟨y25, k26, hB⟩ := kb_inv hB
                  replace k26 := run_make_Tape_Range k26
                  try simp only [Iqe, Iqf, Lqe, Lqf, Lqg, Lqh, Nqa, Nat.reduceAdd, Tqa, Tqb, Tqc, Eqe, Eqf, Eqg, Eqh, Eqa, Eqb, Eqc, Eqd, Eqi, Eqj, Eqk, Eql, Eqm, Eqn, c24] at k26
                  try dsimp only at hB
                  obtain rfl := Option.some.inj hB
                  subst hr15
                  simp -implicitDefEqProofs [-getElem?_pos, -Iqa, -Iqb, -Iqc, -Iqd, -Lqa, Lqb, Lqc, Lqd, q23_1, q23_2, q23_3, q23_4, q23_5, q23_6, q23_7, oa23_7_w0, k2, k4, sq6a, sq6b, sq6c, sq6d, sq6e, sq6f, sq6g, c11, pc11, k13, c24, k26]
                · obtain ⟨y27, k28, hB⟩ := kb_inv hB
                  replace k28 := run_make_Tape_Range k28
                  try simp only [Iqe, Iqf, Lqe, Lqf, Lqg, Lqh, Nqa, Nat.reduceAdd, Tqa, Tqb, Tqc, Eqe, Eqf, Eqg, Eqh, Eqa, Eqb, Eqc, Eqd, Eqi, Eqj, Eqk, Eql, Eqm, Eqn, c24] at k28
                  try dsimp only at hB
                  obtain rfl := Option.some.inj hB
                  subst hr15
                  simp -implicitDefEqProofs [-getElem?_pos, -Iqa, -Iqb, -Iqc, -Iqd, -Lqa, Lqb, Lqc, Lqd, q23_1, q23_2, q23_3, q23_4, q23_5, q23_6, q23_7, oa23_7_w0, k2, k4, sq6a, sq6b, sq6c, sq6d, sq6e, sq6f, sq6g, c11, pc11, k13, c24, k28]
            · try subst ea23_7_w0
              rcases a23_7_w1 with ⟨ga23_7_w1, rfl, oa23_7_w1⟩ | ⟨rfl, ea23_7_w1⟩
              · rcases cnd_inv hB with ⟨c24, hB⟩ | ⟨c24, hB⟩
                · obtain ⟨y25, k26, hB⟩ := kb_inv hB
                  replace k26 := run_make_Tape_Range k26
                  try simp only [Iqe, Iqf, Lqe, Lqf, Lqg, Lqh, Nqa, Nat.reduceAdd, Tqa, Tqb, Tqc, Eqe, Eqf, Eqg, Eqh, Eqa, Eqb, Eqc, Eqd, Eqi, Eqj, Eqk, Eql, Eqm, Eqn, c24] at k26
                  try dsimp only at hB
                  obtain rfl := Option.some.inj hB
                  subst hr15
                  simp -implicitDefEqProofs [-getElem?_pos, -Iqa, -Iqb, -Iqc, -Iqd, -Lqa, Lqb, Lqc, Lqd, q23_1, q23_2, q23_3, q23_4, q23_5, q23_6, q23_7, oa23_7_w1, k2, k4, sq6a, sq6b, sq6c, sq6d, sq6e, sq6f, sq6g, c11, pc11, k13, c24, k26]
                · obtain ⟨y27, k28, hB⟩ := kb_inv hB
                  replace k28 := run_make_Tape_Range k28
                  try simp only [Iqe, Iqf, Lqe, Lqf, Lqg, Lqh, Nqa, Nat.reduceAdd, Tqa, Tqb, Tqc, Eqe, Eqf, Eqg, Eqh, Eqa, Eqb, Eqc, Eqd, Eqi, Eqj, Eqk, Eql, Eqm, Eqn, c24] at k28
                  try dsimp only at hB
                  obtain rfl := Option.some.inj hB
                  subst hr15
                  simp -implicitDefEqProofs [-getElem?_pos, -Iqa, -Iqb, -Iqc, -Iqd, -Lqa, Lqb, Lqc, Lqd, q23_1, q23_2, q23_3, q23_4, q23_5, q23_6, q23_7, oa23_7_w1, k2, k4, sq6a, sq6b, sq6c, sq6d, sq6e, sq6f, sq6g, c11, pc11, k13, c24, k28]
              · try subst ea23_7_w1
                rcases cnd_inv hB with ⟨c24, hB⟩ | ⟨c24, hB⟩
                · obtain ⟨y25, k26, hB⟩ := kb_inv hB
                  replace k26 := run_make_Tape_Range k26
                  try simp only [Iqe, Iqf, Lqe, Lqf, Lqg, Lqh, Nqa, Nat.reduceAdd, Tqa, Tqb, Tqc, Eqe, Eqf, Eqg, Eqh, Eqa, Eqb, Eqc, Eqd, Eqi, Eqj, Eqk, Eql, Eqm, Eqn, c24] at k26
                  try dsimp only at hB
                  obtain rfl := Option.some.inj hB
                  subst hr15
                  simp -implicitDefEqProofs [-getElem?_pos, -Iqa, -Iqb, -Iqc, -Iqd, -Lqa, Lqb, Lqc, Lqd, q23_1, q23_2, q23_3, q23_4, q23_5, q23_6, q23_7, k2, k4, sq6a, sq6b, sq6c, sq6d, sq6e, sq6f, sq6g, c11, pc11, k13, c24, k26]
                · obtain ⟨y27, k28, hB⟩ := kb_inv hB
                  replace k28 := run_make_Tape_Range k28
                  try simp only [Iqe, Iqf, Lqe, Lqf, Lqg, Lqh, Nqa, Nat.reduceAdd, Tqa, Tqb, Tqc, Eqe, Eqf, Eqg, Eqh, Eqa, Eqb, Eqc, Eqd, Eqi, Eqj, Eqk, Eql, Eqm, Eqn, c24] at k28
                  try dsimp only at hB
                  obtain rfl := Option.some.inj hB
                  subst hr15
                  simp -implicitDefEqProofs [-getElem?_pos, -Iqa, -Iqb, -Iqc, -Iqd, -Lqa, Lqb, Lqc, Lqd, q23_1, q23_2, q23_3, q23_4, q23_5, q23_6, q23_7, k2, k4, sq6a, sq6b, sq6c, sq6d, sq6e, sq6f, sq6g, c11, pc11, k13, c24, k28]
          · try subst ea19_6_w1
            try simp -implicitDefEqProofs [-getElem?_pos, -Iqa, -Iqb, -Iqc, -Iqd, -Lqa, Lqb, Lqc, Lqd, q19_1, q19_2, q19_3, q19_4, q19_5, q19_6, k2, k4, sq6a, sq6b, sq6c, sq6d, sq6e, sq6f, sq6g, c11, pc11, k13]
            generalize hz2 : C Tryz.prog cf cc2 _ = z2
            obtain ⟨z23, hB1, hB⟩ := kb_inv hB
            have hJ := P_make_trust_2 (hc2.symm.trans (by kernel_rfl)) hz2 (by simp -implicitDefEqProofs [-getElem?_pos, -Iqa, -Iqb, -Iqc, -Iqd, -Lqa, Lqb, Lqc, Lqd, and_assoc, J_make_trust_2, ownAt, q19_1, q19_2, q19_3, q19_4, q19_5, q19_6, k2, k4, sq6a, sq6b, sq6c, sq6d, sq6e, sq6f, sq6g, c11, pc11, k13]; all_goals ((repeat' apply And.intro) <;> assumption)) hB1
            obtain ⟨e2, s2, rfl, hq⟩ := hJ.open
            clear hB1
            obtain ⟨rfl, hq⟩ := hq
            obtain ⟨u2_0, u2_1, u2_2⟩ := z23
            dsimp only at hB hq
            simp only [Q_make_trust_2] at hq
            obtain ⟨q23_1, ⟨q23_2, q23_3⟩, ⟨g23_5, q23_4, q23_5⟩, ⟨g23_7, v23_7_w0, v23_7_w1, q23_6, q23_7, a23_7_w0, a23_7_w1⟩⟩ := hq
            rcases a23_7_w0 with ⟨ga23_7_w0, rfl, oa23_7_w0⟩ | ⟨rfl, ea23_7_w0⟩
            · rcases a23_7_w1 with ⟨ga23_7_w1, rfl, oa23_7_w1⟩ | ⟨rfl, ea23_7_w1⟩
              · rcases cnd_inv hB with ⟨c24, hB⟩ | ⟨c24, hB⟩
                · obtain ⟨y25, k26, hB⟩ := kb_inv hB
                  replace k26 := run_make_Tape_Range k26
                  try simp only [Iqe, Iqf, Lqe, Lqf, Lqg, Lqh, Nqa, Nat.reduceAdd, Tqa, Tqb, Tqc, Eqe, Eqf, Eqg, Eqh, Eqa, Eqb, Eqc, Eqd, Eqi, Eqj, Eqk, Eql, Eqm, Eqn, c24] at k26
                  try dsimp only at hB
                  obtain rfl := Option.some.inj hB
                  subst hr15
                  simp -implicitDefEqProofs [-getElem?_pos, -Iqa, -Iqb, -Iqc, -Iqd, -Lqa, Lqb, Lqc, Lqd, q23_1, q23_2, q23_3, q23_4, q23_5, q23_6, q23_7, oa23_7_w0, oa23_7_w1, k2, k4, sq6a, sq6b, sq6c, sq6d, sq6e, sq6f, sq6g, c11, pc11, k13, c24, k26]
                · obtain ⟨y27, k28, hB⟩ := kb_inv hB
                  replace k28 := run_make_Tape_Range k28
                  try simp only [Iqe, Iqf, Lqe, Lqf, Lqg, Lqh, Nqa, Nat.reduceAdd, Tqa, Tqb, Tqc, Eqe, Eqf, Eqg, Eqh, Eqa, Eqb, Eqc, Eqd, Eqi, Eqj, Eqk, Eql, Eqm, Eqn, c24] at k28
                  try dsimp only at hB
                  obtain rfl := Option.some.inj hB
                  subst hr15
                  simp -implicitDefEqProofs [-getElem?_pos, -Iqa, -Iqb, -Iqc, -Iqd, -Lqa, Lqb, Lqc, Lqd, q23_1, q23_2, q23_3, q23_4, q23_5, q23_6, q23_7, oa23_7_w0, oa23_7_w1, k2, k4, sq6a, sq6b, sq6c, sq6d, sq6e, sq6f, sq6g, c11, pc11, k13, c24, k28]
              · try subst ea23_7_w1
                rcases cnd_inv hB with ⟨c24, hB⟩ | ⟨c24, hB⟩
                · obtain ⟨y25, k26, hB⟩ := kb_inv hB
                  replace k26 := run_make_Tape_Range k26
                  try simp only [Iqe, Iqf, Lqe, Lqf, Lqg, Lqh, Nqa, Nat.reduceAdd, Tqa, Tqb, Tqc, Eqe, Eqf, Eqg, Eqh, Eqa, Eqb, Eqc, Eqd, Eqi, Eqj, Eqk, Eql, Eqm, Eqn, c24] at k26
                  try dsimp only at hB
                  obtain rfl := Option.some.inj hB
                  subst hr15
                  simp -implicitDefEqProofs [-getElem?_pos, -Iqa, -Iqb, -Iqc, -Iqd, -Lqa, Lqb, Lqc, Lqd, q23_1, q23_2, q23_3, q23_4, q23_5, q23_6, q23_7, oa23_7_w0, k2, k4, sq6a, sq6b, sq6c, sq6d, sq6e, sq6f, sq6g, c11, pc11, k13, c24, k26]
                · obtain ⟨y27, k28, hB⟩ := kb_inv hB
                  replace k28 := run_make_Tape_Range k28
                  try simp only [Iqe, Iqf, Lqe, Lqf, Lqg, Lqh, Nqa, Nat.reduceAdd, Tqa, Tqb, Tqc, Eqe, Eqf, Eqg, Eqh, Eqa, Eqb, Eqc, Eqd, Eqi, Eqj, Eqk, Eql, Eqm, Eqn, c24] at k28
                  try dsimp only at hB
                  obtain rfl := Option.some.inj hB
                  subst hr15
                  simp -implicitDefEqProofs [-getElem?_pos, -Iqa, -Iqb, -Iqc, -Iqd, -Lqa, Lqb, Lqc, Lqd, q23_1, q23_2, q23_3, q23_4, q23_5, q23_6, q23_7, oa23_7_w0, k2, k4, sq6a, sq6b, sq6c, sq6d, sq6e, sq6f, sq6g, c11, pc11, k13, c24, k28]
            · try subst ea23_7_w0
              rcases a23_7_w1 with ⟨ga23_7_w1, rfl, oa23_7_w1⟩ | ⟨rfl, ea23_7_w1⟩
              · rcases cnd_inv hB with ⟨c24, hB⟩ | ⟨c24, hB⟩
                · obtain ⟨y25, k26, hB⟩ := kb_inv hB
                  replace k26 := run_make_Tape_Range k26
                  try simp only [Iqe, Iqf, Lqe, Lqf, Lqg, Lqh, Nqa, Nat.reduceAdd, Tqa, Tqb, Tqc, Eqe, Eqf, Eqg, Eqh, Eqa, Eqb, Eqc, Eqd, Eqi, Eqj, Eqk, Eql, Eqm, Eqn, c24] at k26
                  try dsimp only at hB
                  obtain rfl := Option.some.inj hB
                  subst hr15
                  simp -implicitDefEqProofs [-getElem?_pos, -Iqa, -Iqb, -Iqc, -Iqd, -Lqa, Lqb, Lqc, Lqd, q23_1, q23_2, q23_3, q23_4, q23_5, q23_6, q23_7, oa23_7_w1, k2, k4, sq6a, sq6b, sq6c, sq6d, sq6e, sq6f, sq6g, c11, pc11, k13, c24, k26]
                · obtain ⟨y27, k28, hB⟩ := kb_inv hB
                  replace k28 := run_make_Tape_Range k28
                  try simp only [Iqe, Iqf, Lqe, Lqf, Lqg, Lqh, Nqa, Nat.reduceAdd, Tqa, Tqb, Tqc, Eqe, Eqf, Eqg, Eqh, Eqa, Eqb, Eqc, Eqd, Eqi, Eqj, Eqk, Eql, Eqm, Eqn, c24] at k28
                  try dsimp only at hB
                  obtain rfl := Option.some.inj hB
                  subst hr15
                  simp -implicitDefEqProofs [-getElem?_pos, -Iqa, -Iqb, -Iqc, -Iqd, -Lqa, Lqb, Lqc, Lqd, q23_1, q23_2, q23_3, q23_4, q23_5, q23_6, q23_7, oa23_7_w1, k2, k4, sq6a, sq6b, sq6c, sq6d, sq6e, sq6f, sq6g, c11, pc11, k13, c24, k28]
              · try subst ea23_7_w1
                rcases cnd_inv hB with ⟨c24, hB⟩ | ⟨c24, hB⟩
                · obtain ⟨y25, k26, hB⟩ := kb_inv hB
                  replace k26 := run_make_Tape_Range k26
                  try simp only [Iqe, Iqf, Lqe, Lqf, Lqg, Lqh, Nqa, Nat.reduceAdd, Tqa, Tqb, Tqc, Eqe, Eqf, Eqg, Eqh, Eqa, Eqb, Eqc, Eqd, Eqi, Eqj, Eqk, Eql, Eqm, Eqn, c24] at k26
                  try dsimp only at hB
                  obtain rfl := Option.some.inj hB
                  subst hr15
                  simp -implicitDefEqProofs [-getElem?_pos, -Iqa, -Iqb, -Iqc, -Iqd, -Lqa, Lqb, Lqc, Lqd, q23_1, q23_2, q23_3, q23_4, q23_5, q23_6, q23_7, k2, k4, sq6a, sq6b, sq6c, sq6d, sq6e, sq6f, sq6g, c11, pc11, k13, c24, k26]
                · obtain ⟨y27, k28, hB⟩ := kb_inv hB
                  replace k28 := run_make_Tape_Range k28
                  try simp only [Iqe, Iqf, Lqe, Lqf, Lqg, Lqh, Nqa, Nat.reduceAdd, Tqa, Tqb, Tqc, Eqe, Eqf, Eqg, Eqh, Eqa, Eqb, Eqc, Eqd, Eqi, Eqj, Eqk, Eql, Eqm, Eqn, c24] at k28
                  try dsimp only at hB
                  obtain rfl := Option.some.inj hB
                  subst hr15
                  simp -implicitDefEqProofs [-getElem?_pos, -Iqa, -Iqb, -Iqc, -Iqd, -Lqa, Lqb, Lqc, Lqd, q23_1, q23_2, q23_3, q23_4, q23_5, q23_6, q23_7, k2, k4, sq6a, sq6b, sq6c, sq6d, sq6e, sq6f, sq6g, c11, pc11, k13, c24, k28]
      · exact hq.elim
      · cases hB
    · have pc11 := eq_false (of_decide_eq_false c11)
      obtain ⟨y29, k30, hB⟩ := kb_inv hB
      replace k30 := run_make_Tape_Range k30
      try simp only [Iqe, Iqf, Lqe, Lqf, Lqg, Lqh, Nqa, Nat.reduceAdd, Tqa, Tqb, Tqc, Eqe, Eqf, Eqg, Eqh, Eqa, Eqb, Eqc, Eqd, Eqi, Eqj, Eqk, Eql, Eqm, Eqn] at k30
      try dsimp only at hB
      obtain rfl := Option.some.inj hB
      subst hr15
      simp -implicitDefEqProofs [-getElem?_pos, -Iqa, -Iqb, -Iqc, -Iqd, -Lqa, Lqb, Lqc, Lqd, q10_1, q10_2, q10_3, q10_4, q10_5, q10_6, q10_7, q10_8, k2, k4, sq6a, sq6b, sq6c, sq6d, sq6e, sq6f, sq6g, c11, pc11, k30]
theorem g_make_trust {p0 : S_trustquorummake_Tape} {p1 : Int} {p2 : Int} {r : (Tru × S_trustquorummake_Tape)} (hB : B_make_trust p0 p1 p2 = some r) : G_make_trust p0 p1 p2 = some r := dec_of (fun a b h => by rcases a with ⟨⟨a0_0, a0_1, a0_2⟩, ⟨a1_0, a1_1⟩⟩; rcases b with ⟨⟨b0_0, b0_1, b0_2⟩, ⟨b1_0, b1_1⟩⟩; simp at h; simp [*]) (sim_make_trust hB)
end Go.Am
namespace Go.Am
open Go Go.Proofs
set_option maxRecDepth 4000
set_option maxHeartbeats 4000000
open Int renaming ofNat_lt → Iqa, ofNat_le → Iqb, natCast_eq_zero → Iqc, natCast_pos → Iqd, cast_ofNat_Int → Iqe, natCast_zero → Iqf
open List renaming length_eq_zero_iff → Lqa, getElem?_cons_zero → Lqb, getElem?_cons_succ → Lqc, getElem?_nil → Lqd, length_cons → Lqe, length_nil → Lqf, nil_append → Lqg, cons_append → Lqh
open Nat renaming zero_add → Nqa
open Tru renaming thr_mk → Tqa, nodes_mk → Tqb, inner_mk → Tqc
open Go.Am renaming es_api_Declaration_cons → Eqa, es_api_Declaration_nil → Eqb, es_api_Evidence_cons → Eqc, es_api_Evidence_nil → Eqd, ints_cons → Eqe, ints_nil → Eqf, encTs_cons → Eqg, encTs_nil → Eqh, es_str_cons → Eqi, es_str_nil → Eqj, es_u64_cons → Eqk, es_u64_nil → Eql, es_u8_cons → Eqm, es_u8_nil → Eqn
noncomputable def B_make_Trust (p0 : S_trustquorummake_Tape) (p1 : Int) (p2 : Int) : Option (Tru × S_trustquorummake_Tape) :=
  kb (G_make_trust p0 p1 p2) fun y1 =>
  kb (G_ref02_Valid y1.1) fun y3 =>
  cnd (decide (y3 = 0)) (
    some (y1.1, y1.2)) (
    kb (G_make_Tape_N y1.2 p1) fun y6 =>
    some ((Tru.mk 1 ([y6.1] : List Int) ([] : (List Tru))), y6.2))
theorem sim_make_Trust {p0 : S_trustquorummake_Tape} {p1 : Int} {p2 : Int} {r : (Tru × S_trustquorummake_Tape)} (hB : B_make_Trust p0 p1 p2 = some r) : R 37 [.ptr (.arg 0) 0 0, (i64 p1), (i64 p2)] [.box 0 [(.pv (.sl p0.f0.length (ints p0.f0))), (i64 p0.f1)]] = some ((.agg [(i64 r.1.thr), (.pv (.sl r.1.nodes.length (ints r.1.nodes))), (.pv (.sl r.1.inner.length (encTs r.1.inner)))]), [.box 0 [(.pv (.sl r.2.f0.length (ints r.2.f0))), (i64 r.2.f1)]], []) := by
  rw [R_eq _ _ _ fn_make_Trust]
  simp only [Code.fst, Code.snd, Tryz.f37, Option.getD_some]
  generalize hr1 : Code.region 1 _ _ = rr1
  generalize hr3 : Code.region 3 _ _ = rr3
  unfold B_make_Trust at hB
  obtain ⟨y1, k2, hB⟩ := kb_inv hB
  replace k2 := run_make_trust k2
  try simp only [Iqe, Iqf, Lqe, Lqf, Lqg, Lqh, Nqa, Nat.reduceAdd, Tqa, Tqb, Tqc, Eqe, Eqf, Eqg, Eqh, Eqa, Eqb, Eqc, Eqd, Eqi, Eqj, Eqk, Eql, Eqm, Eqn] at k2
  try dsimp only at hB
  obtain ⟨y3, k4, hB⟩ := kb_inv hB
  replace k4 := run_ref02_Valid k4
  try simp only [Iqe, Iqf, Lqe, Lqf, Lqg, Lqh, Nqa, Nat.reduceAdd, Tqa, Tqb, Tqc, Eqe, Eqf, Eqg, Eqh, Eqa, Eqb, Eqc, Eqd, Eqi, Eqj, Eqk, Eql, Eqm, Eqn] at k4
  try dsimp only at hB
  rcases cnd_inv hB with ⟨c5, hB⟩ | ⟨c5, hB⟩
  · have pc5 := eq_true (of_decide_eq_true c5)
    obtain rfl := Option.some.inj hB
    subst hr1
    simp -implicitDefEqProofs [-getElem?_pos, -Iqa, -Iqb, -Iqc, -Iqd, -Lqa, Lqb, Lqc, Lqd, k2, k4, c5, pc5]
  · have pc5 := eq_false (of_decide_eq_false c5)
    obtain ⟨y6, k7, hB⟩ := kb_inv hB
    replace k7 := run_make_Tape_N k7
    try simp only [Iqe, Iqf, Lqe, Lqf, Lqg, Lqh, Nqa, Nat.reduceAdd, Tqa, Tqb, Tqc, Eqe, Eqf, Eqg, Eqh, Eqa, Eqb, Eqc, Eqd, Eqi, Eqj, Eqk, Eql, Eqm, Eqn] at k7
    try dsimp only at hB
    obtain rfl := Option.some.inj hB
    subst hr1
    subst hr3
    simp -implicitDefEqProofs [-getElem?_pos, -Iqa, -Iqb, -Iqc, -Iqd, -Lqa, Lqb, Lqc, Lqd, k2, k4, c5, pc5, k7]
theorem g_make_Trust {p0 : S_trustquorummake_Tape} {p1 : Int} {p2 : Int} {r : (Tru × S_trustquorummake_Tape)} (hB : B_make_Trust p0 p1 p2 = some r) : G_make_Trust p0 p1 p2 = some r := dec_of (fun a b h => by rcases a with ⟨⟨a0_0, a0_1, a0_2⟩, ⟨a1_0, a1_1⟩⟩; rcases b with ⟨⟨b0_0, b0_1, b0_2⟩, ⟨b1_0, b1_1⟩⟩; simp at h; simp [*]) (sim_make_Trust hB)
end Go.Am
