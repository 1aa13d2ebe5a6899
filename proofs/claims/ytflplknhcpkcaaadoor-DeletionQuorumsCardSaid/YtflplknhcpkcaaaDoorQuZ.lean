/-
Proves DeletionQuorumsCardSaid: the law DeletionQuorums answers true at every list of numbers. No condition beyond the statement's own.
-/
import Derived.Test.YtflplknhcpkcaaaDoorQu5
import Derived.Test.YtflplknhcpkcaaaDoorRows
import Derived.Test.YtflplknhcpkcaaaDoorCards
import Derived.Test.YtflplknhcpkcaaaDoorTie
import Derived.ProofKit
import Derived.LaidMore
import Derived.OpenShut
import Derived.ChangeOld
import Derived.Carry
import Derived.ChangeSlices
import Derived.Stop.Joined
import Derived.SevenTiedAt
/-
What the row of DeletionQuorums asks, from what its function answers under the abstract machine.
-/
namespace Go.Proofs.YtflplknhcpkcaaaDoor.DeletionQuorums
open Go Go.ChangeShapes Go.WideShapes Go.ChangeAt Go.WideMaps Go.WideElems Go.RowKit
set_option linter.unusedVariables false

theorem _root_.Go.Am.in64_wf {k : Int} (h : (Lit.int .i64 k).wf = true) : Am.in64 k := by
  simp [Lit.wf, IntKind.min, IntKind.max, IntKind.signed, IntKind.bits] at h
  unfold Am.in64
  omega
/-- what is to be shown of the function: it answers true -/
def Law : Prop := ∀ l : List Int, (∀ k ∈ l, Am.in64 k) → l.length ≤ maxLen → Am.R 7 [.pv (.sl l.length (Am.ints l))] [] = some (Am.bl true, [], [])

theorem own : ownKnob Tryd.prog.godebug = none := by kernel_rfl
theorem laidOut : laidOutB Tryd.prog = true := by kernel_rfl
theorem mixed : Tryd.prog.follows .mixedOrders = true := by kernel_rfl
abbrev laid0 : List (String × DataW Unit) := Rows.deletionQuorumsRow.laid
theorem door_met (os : Os) (args : Array Value) : laidMetH Tryd.prog laid0 ((World.doorLaid Tryd.prog 400 os).forCall (fun _ _ => 0) ⟨#[], args, []⟩).memory :=
  laidMetH_of_parts3 (fuel := 8) (laidMet_of_run' 8 (by kernel_rfl) (by kernel_rfl)) (by kernel_rfl) (by kernel_rfl)

set_option maxRecDepth 100000 in
theorem lifted (law : Law) (os : Os) (started : os.Started) (H : Type) (enc : TypeId × Value → H) :
    ReturnsInHanded {} Tryd.checked os 7 .any (fun w args => (Rows.deletionQuorumsSpec.pre enc Tryd.prog Tryd.f7 [] false w args ∧ laidMetH Tryd.prog laid0 w) ∧ sizedMet enc Tryd.prog Tryd.f7 (OpenSpec.ofChange Rows.deletionQuorumsSpec) false w args)
      (Rows.deletionQuorumsSpec.post enc Tryd.prog Tryd.f7 false true false false) := by
  refine returnsInHanded_of_change_and (C := Tryd.checked) (X := fun w _ => laidMetH Tryd.prog laid0 w) (fun _ _ _ hh h => h.of_heap hh) own started (by kernel_rfl) Tryd.func7
    (ChangeSpec.witness_shaped (enc := enc) (C := Tryd.checked) (os := os) (X := fun w _ => laidMetH Tryd.prog laid0 w) false (World.doorLaid Tryd.prog 400 os) #[.slice none 0 0] 8 rfl (World.shaped_of_RefB (by kernel_rfl) (by kernel_rfl)) (by kernel_rfl) (by kernel_rfl) (by kernel_rfl) (door_met os _)) ?_
  intro W base args ds gs before hval0 hW _ _ _ _
  have hval : ∀ (j : Nat) t v, Tryd.f7.params[j]? = some t → args[j]? = some v → Value.okWide Tryd.prog W .any base t v := hval0
  have hW' := hW
  obtain ⟨p, q, hA0, hV, rfl, hfz, hnd⟩ := hW
  have hA : DataW.TrodAll enc Tryd.prog W 0 (fun _ => true) true Tryd.f7.params.toList args.toList ds p := hA0
  rw [Tryd.params7] at hA hval
  obtain ⟨v0, d0, hargs, rfl, h0⟩ := trodAll_one hA
  obtain rfl : args = #[v0] := by cases args; simp_all
  obtain ⟨rfl, rfl⟩ := trodVars_none hV
  obtain ⟨a0, len0, cap0, rfl⟩ := okWide_slice Tryd.underlying22 (hval 0 22 v0 rfl rfl)
  have k0 := h0
  have lt0 : ∀ x ∈ p, x.block < W.heap.size := by obtain ⟨m, hm⟩ := k0; exact DataW.trod_lt m _ _ _ hm
  obtain ⟨l, hl, hlen, hrep⟩ : ∃ l : List Int, (∀ k ∈ l, Am.in64 k) ∧ l.length ≤ maxLen ∧ Am.RepP W.heap (Am.I0 W) (.sl l.length (Am.ints l)) (.slice a0 len0 cap0) := by
    obtain ⟨fuel, hf⟩ := h0
    rcases open_ints Tryd.underlying22 Tryd.underlying3 (by kernel_rfl) hf with ⟨hcs, _⟩ | ⟨x, l, c, zs, hcs, _, hl, hm, hz, _, hcell, hwz⟩
    · simp [Value.cells] at hcs
      obtain ⟨rfl, rfl, rfl⟩ := hcs
      exact ⟨[], fun k h => (by cases h), by decide, Am.rep_nil W⟩
    · simp [Value.cells] at hcs
      obtain ⟨rfl, rfl, rfl⟩ := hcs
      have hz' : zs.length = cap0 := by simpa using hz
      have hr := Am.rep_ints hl hz' hcell
      have e : (zs.take len0).length = len0 := by simp; omega
      refine ⟨zs.take len0, fun k hk => ?_, by rw [e]; omega, ?_⟩
      · have := hwz k (List.mem_of_mem_take hk)
        exact Am.in64_wf this
      · rw [e]; exact hr
  clear hA0 hval0
  refine (Am.run_law mixed (fun f sm h => by cases h) (law l hl hlen) rfl W #[.slice a0 len0 cap0] ⟨hrep, trivial⟩).mono fun e W' ⟨he, bel⟩ => ?_
  subst he
  exact ⟨_, rfl, _, _, _, [], _, [], hW', trodAll_mk1 (shut_bool Tryd.underlying4 _), (trodAll_cons_mk (Below.trod laidOut (by kernel_rfl) (of_decide_eq_true (by kernel_rfl)) k0 bel lt0) trodAll_mk0), rfl, bel.frame _, fun h => by cases h⟩

theorem over (law : Law) : Rows.DeletionQuorumsSaid :=
  OpenClaim.holds_of_wide 7 Tryd.f7 rfl rfl rfl rfl rfl rfl rfl ⟨rfl, rfl, rfl, rfl, rfl⟩ rfl rfl rfl rfl rfl (by kernel_rfl) Tryd.func7 (by kernel_rfl)
    (of_decide_eq_true (by kernel_rfl)) (by unfold Func.isWrapper; first | (rw [if_pos (by decide +kernel)]; kernel_rfl) | (rw [if_neg (by decide +kernel)]; exact ⟨rfl, rfl⟩))
    (fun os started H enc _ => lifted law os started H enc)
theorem card (law : Law) : Rows.DeletionQuorumsCardSaid :=
  Claim7.holds_tied_plain_at .later [] [.data, .data, .data] true Rows.deletionQuorumsCard.stood.harness false
    (over law) (fun _ h => by cases h) (by kernel_rfl) (fun _ h => by cases h) deletionQuorums_row_tie rfl ⟨rfl, rfl⟩ (by kernel_rfl) rfl
    (fun f fn hf hfn => by
      obtain rfl : f = 7 := Option.some.inj ((show Tryd.prog.funcNamed "trustquorum/trustquorumlaw13.DeletionQuorums" = some 7 by kernel_rfl).symm.trans hf) |>.symm
      obtain rfl : fn = Tryd.f7 := (Option.some.inj (Tryd.func7.symm.trans hfn)).symm
      exact ⟨by kernel_rfl, fun j t ht => by
        rw [Tryd.params7] at ht
        have hm : t ∈ [22] := by simpa using Array.mem_of_getElem? ht
        have hall : ([22].all fun u => !Tryd.prog.wantsStandIn u) = true := by kernel_rfl
        exact (show Tryd.prog.wantsStandIn t = false by simpa using List.all_eq_true.1 hall t hm)⟩)
    (by kernel_rfl)
theorem law : Law := fun l h hl => Am.sim_law13_DeletionQuorums (Am.law_DeletionQuorums l h)
/-- the statement -/
theorem said : Rows.DeletionQuorumsCardSaid := card law
end Go.Proofs.YtflplknhcpkcaaaDoor.DeletionQuorums
