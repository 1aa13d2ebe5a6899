/-
A signed declaration is accepted with its key, has the fields that were asked for, and comes back from its text, whatever the input.
-/
import Derived.Test.YthkahljlmncdiaaGreatDoorSg5
import Derived.Test.YthkahljlmncdiaaGreatDoorRows
import Derived.Test.YthkahljlmncdiaaGreatDoorCards
import Derived.Test.YthkahljlmncdiaaGreatDoorTie
import Derived.ProofKit
import Derived.LaidMore
import Derived.OpenShut
import Derived.ChangeOld
import Derived.Carry
import Derived.ChangeSlices
import Derived.Stop.Joined
import Derived.SevenTiedAt
import Derived.LaidSub
import Derived.Lib.LaidTab
set_option linter.unusedVariables false
set_option linter.unusedSimpArgs false
/-
What the row of DeclarationSigns asks, from what its function answers under the abstract machine.
-/
namespace Go.Proofs.YthkahljlmncdiaaGreatDoor.DeclarationSigns
open Go Go.ChangeShapes Go.WideShapes Go.ChangeAt Go.WideMaps Go.WideElems Go.RowKit
/-- what is to be shown of the function: it answers true -/
def Law : Prop := ∀ (l : List Int), (∀ k ∈ l, Am.in64 k) →
  Am.R 3 [.pv (.sl l.length (Am.ints l))] [] = some (Am.bl true, [], [])
theorem own : ownKnob Tryz.prog.godebug = none := by kernel_rfl
theorem laidOut : laidOutB Tryz.prog = true := by kernel_rfl
theorem mixed : Tryz.prog.follows .mixedOrders = true := by kernel_rfl
abbrev laid0 : List (String × DataW Unit) := Rows.declarationSignsRow.laid
theorem door_met (os : Os) (args : Array Value) : laidMetH Tryz.prog laid0 ((World.doorLaid Tryz.prog 400 os).forCall (fun _ _ => 0) ⟨#[], args, []⟩).memory :=
  laidMetH_of_parts3 (fuel := 8) (laidMet_of_run' 8 (by kernel_rfl) (by kernel_rfl)) (by kernel_rfl) (by kernel_rfl)
/-- the table of powers, as the row's condition says it -/
theorem tabAt {W : World} (h : laidMetH Tryz.prog laid0 W) : Am.TabAt W := by
  intro g hg
  have h1 := (laidMetH_iff.1 (h.filter fun x => x.1 == "internal/strconv.uint64pow10")).1
  have e : ((laid0.filter fun x => x.1 == "internal/strconv.uint64pow10").filter fun x => x.2.handleName?.isNone) = [("internal/strconv.uint64pow10", Lib.tabData .u64 Lib.pow10Tab)] := by kernel_rfl
  rw [e] at h1
  have h2 := Lib.tabIs_of_head (P := Tryz.prog) (g := 3) (t := 149) (e := 33) (n := 20) (by kernel_rfl) (by kernel_rfl) (by kernel_rfl) (by kernel_rfl) (by kernel_rfl) (by kernel_rfl) h1
  rcases hg with hg | (hg | hg) | hg
  · obtain rfl : 3 = g := Option.some.inj hg
    exact Am.tab_start (P := Tryz.prog) (by kernel_rfl) h2 (by rintro (h | h) <;> cases h) (by intro h; cases h)
  · obtain rfl : 1 = g := Option.some.inj hg
    have k1 := (laidMetH_iff.1 (h.filter fun x => x.1 == "strconv.ErrSyntax")).1
    have ke : ((laid0.filter fun x => x.1 == "strconv.ErrSyntax").filter fun x => x.2.handleName?.isNone) = [("strconv.ErrSyntax", .iface "*errors.errorString" (.ptr (.agg [.lit (.string [105, 110, 118, 97, 108, 105, 100, 32, 115, 121, 110, 116, 97, 120])])))] := by kernel_rfl
    rw [ke] at k1
    obtain ⟨t, p, hv⟩ := Am.iface_laid (P := Tryz.prog) (g := 1) (t := 71) (by kernel_rfl) (by kernel_rfl) Tryz.underlying71 k1
    exact Am.err_start (P := Tryz.prog) (by kernel_rfl) hv (by intro h; cases h) (by intro h; cases h)
  · obtain rfl : 2 = g := Option.some.inj hg
    have k1 := (laidMetH_iff.1 (h.filter fun x => x.1 == "strconv.ErrRange")).1
    have ke : ((laid0.filter fun x => x.1 == "strconv.ErrRange").filter fun x => x.2.handleName?.isNone) = [("strconv.ErrRange", .iface "*errors.errorString" (.ptr (.agg [.lit (.string [118, 97, 108, 117, 101, 32, 111, 117, 116, 32, 111, 102, 32, 114, 97, 110, 103, 101])])))] := by kernel_rfl
    rw [ke] at k1
    obtain ⟨t, p, hv⟩ := Am.iface_laid (P := Tryz.prog) (g := 2) (t := 71) (by kernel_rfl) (by kernel_rfl) Tryz.underlying71 k1
    exact Am.err_start (P := Tryz.prog) (by kernel_rfl) hv (by intro h; cases h) (by intro h; cases h)
  · obtain rfl : 5 = g := Option.some.inj hg
    have k1 := (laidMetH_iff.1 (h.filter fun x => x.1 == "math/bits.deBruijn64tab")).1
    have ke : ((laid0.filter fun x => x.1 == "math/bits.deBruijn64tab").filter fun x => x.2.handleName?.isNone) = [("math/bits.deBruijn64tab", Lib.tabData .u8 Am.bruL)] := by kernel_rfl
    rw [ke] at k1
    have k2 := Lib.tabIs_of_head (P := Tryz.prog) (g := 5) (t := 163) (e := 5) (n := 64) (by kernel_rfl) (by kernel_rfl) (by kernel_rfl) (by kernel_rfl) (by kernel_rfl) (by kernel_rfl) k1
    exact Am.bru_start (P := Tryz.prog) (by kernel_rfl) k2 (by intro h; cases h) (by rintro (h | h) <;> cases h)
set_option maxRecDepth 100000 in
theorem lifted (law : Law) (os : Os) (started : os.Started) (H : Type) (enc : TypeId × Value → H) :
    ReturnsInHanded {} Tryz.checked os 3 .any (fun w args => (Rows.declarationSignsSpec.pre enc Tryz.prog Tryz.f3 [] false w args ∧ laidMetH Tryz.prog laid0 w) ∧ sizedMet enc Tryz.prog Tryz.f3 (OpenSpec.ofChange Rows.declarationSignsSpec) false w args)
      (Rows.declarationSignsSpec.post enc Tryz.prog Tryz.f3 false true false false) := by
  refine returnsInHanded_of_change_and (C := Tryz.checked) (X := fun w _ => laidMetH Tryz.prog laid0 w) (fun _ _ _ hh h => h.of_heap hh) own started (by kernel_rfl) Tryz.func3
    (ChangeSpec.witness_shaped (enc := enc) (C := Tryz.checked) (os := os) (X := fun w _ => laidMetH Tryz.prog laid0 w) false (World.doorLaid Tryz.prog 400 os) #[.slice none 0 0] 8 rfl (World.shaped_of_RefB (by kernel_rfl) (by kernel_rfl)) (by kernel_rfl) (by kernel_rfl) (by kernel_rfl) (door_met os _)) ?_
  intro W base args ds gs before hval0 hW _ hsz0 hL _
  have hval : ∀ (j : Nat) t v, Tryz.f3.params[j]? = some t → args[j]? = some v → Value.okWide Tryz.prog W .any base t v := hval0
  have hW' := hW
  obtain ⟨p, q, hA0, hV, rfl, hfz, hnd⟩ := hW
  have hA : DataW.TrodAll enc Tryz.prog W 0 (fun _ => true) true Tryz.f3.params.toList args.toList ds p := hA0
  have hsz : (DataW.weightsEach Tryz.prog (Tryz.f3.params.toList ++ Rows.declarationSignsSpec.plain.varTypes Tryz.prog) (ds ++ gs)).all (· ≤ reachBytes) = true := hsz0
  rw [Tryz.params3] at hA hval hsz
  clear hA0 hval0 hsz0
  obtain ⟨v0, r0, d0, e0, p0, q0, hargs, rfl, rfl, h0, hA⟩ := trodAll_cons hA
  obtain ⟨rfl, rfl, rfl⟩ := trodAll_nil hA
  obtain rfl : args = #[v0] := by cases args; simp_all
  obtain ⟨rfl, rfl⟩ := trodVars_none hV
  have lite := Am.lite_each (fun n hn => of_decide_eq_true (List.all_eq_true.1 hsz n hn))
  obtain ⟨l, H0, R0⟩ := Am.arg_intl (hval 0 22 v0 rfl rfl) h0 (lite 0 _ _ rfl rfl)
  refine (Am.run_law mixed Am.cf_sound (law l H0) rfl W (tabAt hL) #[v0] ⟨R0, trivial⟩).mono fun e W' ⟨he, bel⟩ => ?_
  subst he
  have keep : ∀ {t : TypeId} {v : Value} {d : DataW H} {ps : List MemPlace}, Tryz.prog.readableRec t = true → t < Tryz.prog.types.size → DataW.Trod enc Tryz.prog W 0 (fun _ => true) true t v d ps → DataW.Trod enc Tryz.prog W' 0 (fun b => decide (b < W.heap.size)) true t v d ps :=
    fun hr ht h => Below.trod laidOut hr ht h bel (Am.trod_in h)
  exact ⟨_, rfl, _, _, _, [], _, [], hW', trodAll_mk1 (shut_bool Tryz.underlying4 _),
    (trodAll_cons_mk (keep (by kernel_rfl) (of_decide_eq_true (by kernel_rfl)) h0) trodAll_mk0), rfl, bel.frame _, fun h => by cases h⟩
theorem over (law : Law) : Rows.DeclarationSignsSaid :=
  OpenClaim.holds_of_wide 3 Tryz.f3 rfl rfl rfl rfl rfl rfl rfl ⟨rfl, rfl, rfl, rfl, rfl⟩ rfl rfl rfl rfl rfl (by kernel_rfl) Tryz.func3 (by kernel_rfl)
    (of_decide_eq_true (by kernel_rfl)) (by unfold Func.isWrapper; first | (rw [if_pos (by decide +kernel)]; kernel_rfl) | (rw [if_neg (by decide +kernel)]; exact ⟨rfl, rfl⟩))
    (fun os started H enc _ => lifted law os started H enc)
theorem card (law : Law) : Rows.DeclarationSignsCardSaid :=
  Claim7.holds_tied_plain_at .later [] [.data, .data, .data, .sentinel, .sentinel] true Rows.declarationSignsCard.stood.harness Rows.declarationSignsCard.stood.looks
    (over law) (fun _ h => by cases h) (by kernel_rfl) (fun _ h => by cases h) declarationSigns_row_tie rfl ⟨rfl, rfl⟩ (by kernel_rfl) rfl
    (fun f fn hf hfn => by
      obtain rfl : f = 3 := Option.some.inj ((show Tryz.prog.funcNamed "trustquorum/trustquorumlaw07.DeclarationSigns" = some 3 by kernel_rfl).symm.trans hf) |>.symm
      obtain rfl : fn = Tryz.f3 := (Option.some.inj (Tryz.func3.symm.trans hfn)).symm
      exact ⟨by kernel_rfl, fun j t ht => by
        rw [Tryz.params3] at ht
        have hm : t ∈ [22] := by simpa using Array.mem_of_getElem? ht
        have hall : ([22].all fun u => !Tryz.prog.wantsStandIn u) = true := by kernel_rfl
        exact (show Tryz.prog.wantsStandIn t = false by simpa using List.all_eq_true.1 hall t hm)⟩)
    (by kernel_rfl)
theorem law : Law := fun l H0 => Am.sim_law07_DeclarationSigns (Am.law_DeclarationSigns l H0)
/-- the statement -/
theorem said : Rows.DeclarationSignsCardSaid := card law
end Go.Proofs.YthkahljlmncdiaaGreatDoor.DeclarationSigns
