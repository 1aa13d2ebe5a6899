/-
Proves DeletionAnswersCardSaid: the law DeletionAnswers answers true at every list of numbers, trust, configuration, node and set. No condition beyond the statement's own.
-/
import Derived.Test.YtflplknhcpkcaaaDoorAn5
import Derived.Test.YtflplknhcpkcaaaDoorRows
import Derived.Test.YtflplknhcpkcaaaDoorCards
import Derived.Test.YtflplknhcpkcaaaDoorTie
import Derived.ProofKit
import Derived.LaidMore
import Derived.OpenShut
import Derived.ChangeOld
import Derived.Carry
import Derived.ChangeSlices
import Derived.Stop.Joined
import Derived.SevenTiedAt
/-
What the row of DeletionAnswers asks, from what its function answers under the abstract machine.
-/
namespace Go.Proofs.YtflplknhcpkcaaaDoor.DeletionAnswers
open Go Go.ChangeShapes Go.WideShapes Go.ChangeAt Go.WideMaps Go.WideElems Go.RowKit
set_option linter.unusedVariables false

/-- what is to be shown of the function: it answers true -/
def Law : Prop := ∀ (l : List Int) (x : Am.Tru) (c : Am.S_api_Config) (node s : Int), (∀ k ∈ l, Am.in64 k) → (x.Ok ∧ x.Slim) → (∀ m ∈ c.f0, m.f1.Ok ∧ m.f1.Slim) → Am.in64 node → Am.in64 s →
  Am.R 5 [.pv (.sl l.length (Am.ints l)), .agg [Am.i64 x.thr, .pv (.sl x.nodes.length (Am.ints x.nodes)), .pv (.sl x.inner.length (Am.encTs x.inner))], .agg [.pv (.sl c.f0.length (Am.es_api_Member c.f0))], Am.i64 node, Am.i64 s] [] = some (Am.bl true, [], [])

theorem own : ownKnob Tryd.prog.godebug = none := by kernel_rfl
theorem laidOut : laidOutB Tryd.prog = true := by kernel_rfl
theorem mixed : Tryd.prog.follows .mixedOrders = true := by kernel_rfl
abbrev laid0 : List (String × DataW Unit) := Rows.deletionAnswersRow.laid
theorem door_met (os : Os) (args : Array Value) : laidMetH Tryd.prog laid0 ((World.doorLaid Tryd.prog 400 os).forCall (fun _ _ => 0) ⟨#[], args, []⟩).memory :=
  laidMetH_of_parts3 (fuel := 8) (laidMet_of_run' 8 (by kernel_rfl) (by kernel_rfl)) (by kernel_rfl) (by kernel_rfl)

set_option maxRecDepth 100000 in
theorem lifted (law : Law) (os : Os) (started : os.Started) (H : Type) (enc : TypeId × Value → H) :
    ReturnsInHanded {} Tryd.checked os 5 .any (fun w args => (Rows.deletionAnswersSpec.pre enc Tryd.prog Tryd.f5 [] false w args ∧ laidMetH Tryd.prog laid0 w) ∧ sizedMet enc Tryd.prog Tryd.f5 (OpenSpec.ofChange Rows.deletionAnswersSpec) false w args)
      (Rows.deletionAnswersSpec.post enc Tryd.prog Tryd.f5 false true false false) := by
  refine returnsInHanded_of_change_and (C := Tryd.checked) (X := fun w _ => laidMetH Tryd.prog laid0 w) (fun _ _ _ hh h => h.of_heap hh) own started (by kernel_rfl) Tryd.func5
    (ChangeSpec.witness_shaped (enc := enc) (C := Tryd.checked) (os := os) (X := fun w _ => laidMetH Tryd.prog laid0 w) false (World.doorLaid Tryd.prog 400 os) #[.slice none 0 0, .agg #[.int .i64 0, .slice none 0 0, .slice none 0 0], .agg #[.slice none 0 0], .int .i64 0, .int .i64 0] 8 rfl (World.shaped_of_RefB (by kernel_rfl) (by kernel_rfl)) (by kernel_rfl) (by kernel_rfl) (by kernel_rfl) (door_met os _)) ?_
  intro W base args ds gs before hval0 hW _ hsz0 _ _
  have hval : ∀ (j : Nat) t v, Tryd.f5.params[j]? = some t → args[j]? = some v → Value.okWide Tryd.prog W .any base t v := hval0
  have hW' := hW
  obtain ⟨p, q, hA0, hV, rfl, hfz, hnd⟩ := hW
  have hA : DataW.TrodAll enc Tryd.prog W 0 (fun _ => true) true Tryd.f5.params.toList args.toList ds p := hA0
  have hsz : (DataW.weightsEach Tryd.prog (Tryd.f5.params.toList ++ Rows.deletionAnswersSpec.plain.varTypes Tryd.prog) (ds ++ gs)).all (· ≤ reachBytes) = true := hsz0
  rw [Tryd.params5] at hA hval hsz
  clear hA0 hval0 hsz0
  obtain ⟨v0, r0, d0, e0, p0, q0, hargs, rfl, rfl, h0, hA⟩ := trodAll_cons hA
  obtain ⟨v1, r1, d1, e1, p1, q1, rfl, rfl, rfl, h1, hA⟩ := trodAll_cons hA
  obtain ⟨v2, r2, d2, e2, p2, q2, rfl, rfl, rfl, h2, hA⟩ := trodAll_cons hA
  obtain ⟨v3, r3, d3, e3, p3, q3, rfl, rfl, rfl, h3, hA⟩ := trodAll_cons hA
  obtain ⟨v4, r4, d4, e4, p4, q4, rfl, rfl, rfl, h4, hA⟩ := trodAll_cons hA
  obtain ⟨rfl, rfl, rfl⟩ := trodAll_nil hA
  obtain rfl : args = #[v0, v1, v2, v3, v4] := by cases args; simp_all
  obtain ⟨rfl, rfl⟩ := trodVars_none hV
  have lite := Am.lite_each (fun n hn => of_decide_eq_true (List.all_eq_true.1 hsz n hn))
  obtain ⟨l, hl, R0⟩ := Am.arg_intl (hval 0 22 v0 rfl rfl) h0 (lite 0 _ _ rfl rfl)
  obtain ⟨x, hx, R1⟩ := Am.arg_tru (hval 1 28 v1 rfl rfl) h1 (lite 1 _ _ rfl rfl)
  obtain ⟨c, hc, R2⟩ := Am.arg_conf (hval 2 40 v2 rfl rfl) h2 (lite 2 _ _ rfl rfl)
  obtain ⟨node, hn, R3⟩ := Am.arg_int (hval 3 3 v3 rfl rfl) h3
  obtain ⟨s, hs, R4⟩ := Am.arg_int (hval 4 3 v4 rfl rfl) h4
  refine (Am.run_law mixed (fun f sm h => by cases h) (law l x c node s hl hx hc hn hs) rfl W #[v0, v1, v2, v3, v4] ⟨R0, R1, R2, R3, R4, trivial⟩).mono fun e W' ⟨he, bel⟩ => ?_
  subst he
  have keep : ∀ {t : TypeId} {v : Value} {d : DataW H} {ps : List MemPlace}, Tryd.prog.readableRec t = true → t < Tryd.prog.types.size → DataW.Trod enc Tryd.prog W 0 (fun _ => true) true t v d ps → DataW.Trod enc Tryd.prog W' 0 (fun b => decide (b < W.heap.size)) true t v d ps :=
    fun hr ht h => Below.trod laidOut hr ht h bel (Am.trod_in h)
  exact ⟨_, rfl, _, _, _, [], _, [], hW', trodAll_mk1 (shut_bool Tryd.underlying4 _),
    trodAll_cons_mk (keep (by kernel_rfl) (of_decide_eq_true (by kernel_rfl)) h0) (trodAll_cons_mk (keep (by kernel_rfl) (of_decide_eq_true (by kernel_rfl)) h1) (trodAll_cons_mk (keep (by kernel_rfl) (of_decide_eq_true (by kernel_rfl)) h2) (trodAll_cons_mk (keep (by kernel_rfl) (of_decide_eq_true (by kernel_rfl)) h3) (trodAll_cons_mk (keep (by kernel_rfl) (of_decide_eq_true (by kernel_rfl)) h4) trodAll_mk0)))), rfl, bel.frame _, fun h => by cases h⟩

theorem over (law : Law) : Rows.DeletionAnswersSaid :=
  OpenClaim.holds_of_wide 5 Tryd.f5 rfl rfl rfl rfl rfl rfl rfl ⟨rfl, rfl, rfl, rfl, rfl⟩ rfl rfl rfl rfl rfl (by kernel_rfl) Tryd.func5 (by kernel_rfl)
    (of_decide_eq_true (by kernel_rfl)) (by unfold Func.isWrapper; first | (rw [if_pos (by decide +kernel)]; kernel_rfl) | (rw [if_neg (by decide +kernel)]; exact ⟨rfl, rfl⟩))
    (fun os started H enc _ => lifted law os started H enc)
theorem card (law : Law) : Rows.DeletionAnswersCardSaid :=
  Claim7.holds_tied_plain_at .later [] [.data, .data, .data] true Rows.deletionAnswersCard.stood.harness false
    (over law) (fun _ h => by cases h) (by kernel_rfl) (fun _ h => by cases h) deletionAnswers_row_tie rfl ⟨rfl, rfl⟩ (by kernel_rfl) rfl
    (fun f fn hf hfn => by
      obtain rfl : f = 5 := Option.some.inj ((show Tryd.prog.funcNamed "trustquorum/trustquorumlaw13.DeletionAnswers" = some 5 by kernel_rfl).symm.trans hf) |>.symm
      obtain rfl : fn = Tryd.f5 := (Option.some.inj (Tryd.func5.symm.trans hfn)).symm
      exact ⟨by kernel_rfl, fun j t ht => by
        rw [Tryd.params5] at ht
        have hm : t ∈ [22, 28, 40, 3, 3] := by simpa using Array.mem_of_getElem? ht
        have hall : ([22, 28, 40, 3, 3].all fun u => !Tryd.prog.wantsStandIn u) = true := by kernel_rfl
        exact (show Tryd.prog.wantsStandIn t = false by simpa using List.all_eq_true.1 hall t hm)⟩)
    (by kernel_rfl)
theorem law : Law := fun l x c node s hl hx hc hn hs => Am.sim_law13_DeletionAnswers (Am.law_DeletionAnswers l hl x hx.1 hx.2 c (fun m hm => (hc m hm).1) (fun m hm => (hc m hm).2) node s hn hs)
/-- the statement -/
theorem said : Rows.DeletionAnswersCardSaid := card law
end Go.Proofs.YtflplknhcpkcaaaDoor.DeletionAnswers
