/-
Proves DeclarationOrdersCardSaid: the law DeclarationOrders answers true at every list of numbers. No condition beyond the statement's own.
-/
import Derived.Test.YthkahljlmncdiaaDoorOr4
import Derived.Test.YthkahljlmncdiaaDoorRows
import Derived.Test.YthkahljlmncdiaaDoorCards
import Derived.Test.YthkahljlmncdiaaDoorTie
import Derived.ProofKit
import Derived.LaidMore
import Derived.OpenShut
import Derived.ChangeOld
import Derived.Carry
import Derived.ChangeSlices
import Derived.Stop.Joined
import Derived.SevenTiedAt
/-
What the row of DeclarationOrders asks, from what its function answers under the abstract machine.
-/
namespace Go.Proofs.YthkahljlmncdiaaDoor.DeclarationOrders
open Go Go.ChangeShapes Go.WideShapes Go.ChangeAt Go.WideMaps Go.WideElems Go.RowKit
set_option linter.unusedVariables false

/-- what is to be shown of the function: it answers true -/
def Law : Prop := ∀ (l : List Int), (∀ k ∈ l, Am.in64 k) → 
  Am.R 5 [.pv (.sl l.length (Am.ints l))] [] = some (Am.bl true, [], [])

theorem own : ownKnob Tryd.prog.godebug = none := by kernel_rfl
theorem laidOut : laidOutB Tryd.prog = true := by kernel_rfl
theorem mixed : Tryd.prog.follows .mixedOrders = true := by kernel_rfl
abbrev laid0 : List (String × DataW Unit) := Rows.declarationOrdersRow.laid
theorem door_met (os : Os) (args : Array Value) : laidMetH Tryd.prog laid0 ((World.doorLaid Tryd.prog 400 os).forCall (fun _ _ => 0) ⟨#[], args, []⟩).memory :=
  laidMetH_of_parts3 (fuel := 8) (laidMet_of_run' 8 (by kernel_rfl) (by kernel_rfl)) (by kernel_rfl) (by kernel_rfl)

set_option maxRecDepth 100000 in
theorem lifted (law : Law) (os : Os) (started : os.Started) (H : Type) (enc : TypeId × Value → H) :
    ReturnsInHanded {} Tryd.checked os 5 .any (fun w args => (Rows.declarationOrdersSpec.pre enc Tryd.prog Tryd.f5 [] false w args ∧ laidMetH Tryd.prog laid0 w) ∧ sizedMet enc Tryd.prog Tryd.f5 (OpenSpec.ofChange Rows.declarationOrdersSpec) false w args)
      (Rows.declarationOrdersSpec.post enc Tryd.prog Tryd.f5 false true false false) := by
  refine returnsInHanded_of_change_and (C := Tryd.checked) (X := fun w _ => laidMetH Tryd.prog laid0 w) (fun _ _ _ hh h => h.of_heap hh) own started (by kernel_rfl) Tryd.func5
    (ChangeSpec.witness_shaped (enc := enc) (C := Tryd.checked) (os := os) (X := fun w _ => laidMetH Tryd.prog laid0 w) false (World.doorLaid Tryd.prog 400 os) #[.slice none 0 0] 8 rfl (World.shaped_of_RefB (by kernel_rfl) (by kernel_rfl)) (by kernel_rfl) (by kernel_rfl) (by kernel_rfl) (door_met os _)) ?_
  intro W base args ds gs before hval0 hW _ hsz0 _ _
  have hval : ∀ (j : Nat) t v, Tryd.f5.params[j]? = some t → args[j]? = some v → Value.okWide Tryd.prog W .any base t v := hval0
  have hW' := hW
  obtain ⟨p, q, hA0, hV, rfl, hfz, hnd⟩ := hW
  have hA : DataW.TrodAll enc Tryd.prog W 0 (fun _ => true) true Tryd.f5.params.toList args.toList ds p := hA0
  have hsz : (DataW.weightsEach Tryd.prog (Tryd.f5.params.toList ++ Rows.declarationOrdersSpec.plain.varTypes Tryd.prog) (ds ++ gs)).all (· ≤ reachBytes) = true := hsz0
  rw [Tryd.params5] at hA hval hsz
  clear hA0 hval0 hsz0
  obtain ⟨v0, r0, d0, e0, p0, q0, hargs, rfl, rfl, h0, hA⟩ := trodAll_cons hA
  obtain ⟨rfl, rfl, rfl⟩ := trodAll_nil hA
  obtain rfl : args = #[v0] := by cases args; simp_all
  obtain ⟨rfl, rfl⟩ := trodVars_none hV
  have lite := Am.lite_each (fun n hn => of_decide_eq_true (List.all_eq_true.1 hsz n hn))
  obtain ⟨l, H0, R0⟩ := Am.arg_intl (hval 0 22 v0 rfl rfl) h0 (lite 0 _ _ rfl rfl)
  refine (Am.run_law mixed Am.cf_sound (law l H0) rfl W #[v0] ⟨R0, trivial⟩).mono fun e W' ⟨he, bel⟩ => ?_
  subst he
  have keep : ∀ {t : TypeId} {v : Value} {d : DataW H} {ps : List MemPlace}, Tryd.prog.readableRec t = true → t < Tryd.prog.types.size → DataW.Trod enc Tryd.prog W 0 (fun _ => true) true t v d ps → DataW.Trod enc Tryd.prog W' 0 (fun b => decide (b < W.heap.size)) true t v d ps :=
    fun hr ht h => Below.trod laidOut hr ht h bel (Am.trod_in h)
  exact ⟨_, rfl, _, _, _, [], _, [], hW', trodAll_mk1 (shut_bool Tryd.underlying4 _),
    (trodAll_cons_mk (keep (by kernel_rfl) (of_decide_eq_true (by kernel_rfl)) h0) trodAll_mk0), rfl, bel.frame _, fun h => by cases h⟩

theorem over (law : Law) : Rows.DeclarationOrdersSaid :=
  OpenClaim.holds_of_wide 5 Tryd.f5 rfl rfl rfl rfl rfl rfl rfl ⟨rfl, rfl, rfl, rfl, rfl⟩ rfl rfl rfl rfl rfl (by kernel_rfl) Tryd.func5 (by kernel_rfl)
    (of_decide_eq_true (by kernel_rfl)) (by unfold Func.isWrapper; first | (rw [if_pos (by decide +kernel)]; kernel_rfl) | (rw [if_neg (by decide +kernel)]; exact ⟨rfl, rfl⟩))
    (fun os started H enc _ => lifted law os started H enc)
theorem card (law : Law) : Rows.DeclarationOrdersCardSaid :=
  Claim7.holds_tied_plain_at .later [] [.data, .data, .data] true Rows.declarationOrdersCard.stood.harness false
    (over law) (fun _ h => by cases h) (by kernel_rfl) (fun _ h => by cases h) declarationOrders_row_tie rfl ⟨rfl, rfl⟩ (by kernel_rfl) rfl
    (fun f fn hf hfn => by
      obtain rfl : f = 5 := Option.some.inj ((show Tryd.prog.funcNamed "trustquorum/trustquorumlaw07.DeclarationOrders" = some 5 by kernel_rfl).symm.trans hf) |>.symm
      obtain rfl : fn = Tryd.f5 := (Option.some.inj (Tryd.func5.symm.trans hfn)).symm
      exact ⟨by kernel_rfl, fun j t ht => by
        rw [Tryd.params5] at ht
        have hm : t ∈ [22] := by simpa using Array.mem_of_getElem? ht
        have hall : ([22].all fun u => !Tryd.prog.wantsStandIn u) = true := by kernel_rfl
        exact (show Tryd.prog.wantsStandIn t = false by simpa using List.all_eq_true.1 hall t hm)⟩)
    (by kernel_rfl)
theorem law : Law := fun l H0 => Am.sim_law07_DeclarationOrders (Am.law_DeclarationOrders l H0)
/-- the statement -/
theorem said : Rows.DeclarationOrdersCardSaid := card law
end Go.Proofs.YthkahljlmncdiaaDoor.DeclarationOrders
