/-
Part 1 of the road to the statement: AmReg, AmReg2, AmCode, AmRun, AmFast, AmDraw, AmB, AmLink, AmExtA, Shelf, AmExtRepeat, AmExtTrimPrefix, AmExtLastIndexByte, AmPu16, AmExtParseUint, AmExtItoa, AmExtAtoiAll, AmExtIndexByte, AmExtJoin, AmExtIndexOne, AmExtTz16, Ga.
-/
import Derived.Test.YthkahljlmncdiaaGreatDoorSg0
import Derived.LoopN
import Derived.KernelRfl
import Derived.Below
import Derived.Shelf.Strings.Builder1
import Derived.Shelf.Strings.Builder2
import Derived.Shelf.Strings.OnBuilder
import Derived.Shelf.Small.Strs
import Derived.Shelf.Small.Wraps
import Derived.Shelf.Strings.BuilderF
import Derived.Shelf.Strconv.Atoi
import Derived.Shelf.Strconv.Itoa0
import Derived.Shelf.Strconv.Itoa1
import Derived.Shelf.LaysM
import Derived.Shelf.Strconv.Itoa2
import Derived.Shelf.Strconv.Itoa3
import Derived.Shelf.Strconv.AtoiErrFast
import Derived.Shelf.Strconv.ParseIntEmpty
import Derived.Shelf.Strconv.AtoiFail
import Derived.Shelf.Strconv.Clone
import Derived.Shelf.Strconv.SyntaxError
import Derived.Shelf.LaysC
import Derived.Shelf.Strconv.ToError
import Derived.Shelf.Strconv.Lower
import Derived.Shelf.Strconv.ParseUint10
import Derived.Shelf.Strconv.ParseUint10Empty
import Derived.Shelf.Strconv.ParseUint10Any
import Derived.Shelf.Strconv.ParseInt10
import Derived.Shelf.Strconv.AtoiLong
import Derived.Shelf.Strconv.AtoiInnerAll
import Derived.Shelf.Strconv.RangeError
import Derived.Shelf.Strconv.ToErrorRange
import Derived.Shelf.Strconv.AtoiAll
import Derived.Shelf.Strconv.ErrVarAll
import Derived.Ground.MpProg
import Derived.Shelf.Pu.ParseUintPublic10
import Derived.Shelf.Strings.Search1
import Derived.Shelf.Strings.Search2
import Derived.Shelf.Strings.Cut
import Derived.Shelf.Strings.Shaped
import Derived.Shelf.Strings.LastIndex
import Derived.Shelf.Strings.Prefix
import Derived.Shelf.Bits.Mul64
import Derived.Shelf.Strings.Repeat
import Derived.Ground.Names2Prog
import Derived.Shelf.Slices.SearchI
import Derived.Test.YthkahljlmncdiaaGreatDoorProg
import Derived.Lib.Repeat
import Derived.Shelf.Pu.ToError
import Derived.Shelf.Pu.ToErrorRange
import Derived.Shelf.Pu.Lower
import Derived.Shelf.Pu.ParseUintEmpty
import Derived.Lib.Walk
import Derived.Lib.ConvBytes
import Derived.Lib.AtoiAllMem
import Derived.Lib.AtoiErrMem
import Derived.Lib.ParseIntBMem
import Derived.Lib.Hide
import Derived.Laws.Strings3
import Derived.Laws.Closers25
import Derived.Laws.Closers25b
import Derived.WalkKit
import Derived.BigCall
import Derived.BigGuard
import Derived.Lib.ItoaNum
import Derived.Lib.AppendIntMem
import Derived.Lib.AtoiAll
import Derived.Lib.Bytealg
import Derived.Lib.Join
set_option linter.unusedVariables false
set_option linter.unusedSimpArgs false
/-
Regions: in the order of the text, and in whatever order.
-/
namespace Go.Am
open Go
structure Rel (F : Nat → Prop) (n : Nat) (w : World) (μ : Mu) (s : St) (a : Act) : Prop where
  srel : SRel w.heap F μ s
  arel : ARel F w μ s a
  size : a.tmps.size = n
  defers : a.defers = []
theorem app_i (s : St) (dst : Option Tmp) (e : Eff) (id : Id) : app s dst e (.i id) = upds s e.wr (.i id) := by
  cases dst with
  | none => rfl
  | some d => exact upd_t_i _ _ _ _
theorem rel_put {F : Nat → Prop} {n : Nat} {w w' : World} {μ μ' : Mu} {s : St} {a : Act} {e : Eff} {v : Value} {dst : Option Tmp} (R : Rel F n w μ s a) (hp : Post F w μ s e v μ' w')
    (hd : ∀ d, dst = some d → d < n) : Rel F n w' μ' (app s dst e) (a.put dst v) ∧ TrW w μ s w' μ' (app s dst e) := by
  have hi := app_i s dst e
  have T := hp.tr.tr.congr (fun _ => rfl) hi
  refine ⟨⟨hp.rel.congr hi, fun t => ?_, ?_, ?_⟩, T, hp.tr.io⟩
  · have keep : RV F w' μ' (app s dst e) (s (.t t)) (a.tmps.getD t undef) := RepV.mono (T.mono F) T.monoG _ _ (R.arel t)
    cases dst with
    | none =>
      show RV F w' μ' (app s none e) (upds s e.wr (.t t)) (a.tmps.getD t undef)
      rw [hp.tmp t]
      exact keep
    | some d =>
      by_cases ht : t = d
      · subst ht
        have e1 : app s (some t) e (.t t) = e.v := upd_self _ _ _
        have e2 : (a.put (some t) v).tmps.getD t undef = v := by
          have : t < a.tmps.size := by rw [R.size]; exact hd t rfl
          simp [Act.put, this]
        rw [e1, e2]
        have := hp.val
        rw [← imm_congr hi, ← gs_congr hi] at this
        exact this
      · have e1 : app s (some d) e (.t t) = s (.t t) := by
          show upd _ _ _ _ = _
          rw [upd_ne _ _ (fun h => ht (by injection h)), hp.tmp t]
        have e2 : (a.put (some d) v).tmps.getD t undef = a.tmps.getD t undef := by
          simp only [Act.put, Array.getD_eq_getD_getElem?]
          rw [Array.getElem?_setIfInBounds_ne (fun h => ht h.symm)]
        rw [e1, e2]
        exact keep
  · cases dst with
    | none => exact R.size
    | some d => show (a.tmps.setIfInBounds d v).size = n; rw [Array.size_setIfInBounds]; exact R.size
  · cases dst with
    | none => exact R.defers
    | some d => exact R.defers
theorem wantedA_sound {F : Nat → Prop} {n : Nat} {w : World} {μ : Mu} {s : St} {a : Act} (R : Rel F n w μ s a) {ops : Array Oper} {o : Oper} {b : Bool} {l : List Loc} (h : wantedA ops.toList o s = some (b, l)) :
    Region.wanted o (yielded ops a.tmps) = b := by
  unfold wantedA at h
  unfold Region.wanted
  cases hg : o.guard with
  | none =>
    rw [hg] at h
    obtain ⟨rfl, _⟩ := pure_inv h
    rfl
  | some gw =>
    obtain ⟨g, want⟩ := gw
    rw [hg] at h
    simp only at h ⊢
    unfold yielded
    have hd : (ops.toList[g]?).bind (·.dst) = (ops[g]?).bind (·.dst) := by simp
    rw [hd] at h
    cases ht : (ops[g]?).bind (·.dst) with
    | none =>
      rw [ht] at h
      obtain ⟨rfl, _⟩ := pure_inv h
      rfl
    | some t =>
      rw [ht] at h
      obtain ⟨v, _, _, h1, h, _⟩ := bind_inv h
      obtain ⟨rfl, _⟩ := rd_inv h1
      have A := R.arel t
      simp only [Option.bind_some]
      cases hv : s (.t t) with
      | pv p =>
        rw [hv] at h A
        cases p with
        | bool c =>
          obtain ⟨rfl, _⟩ := pure_inv h
          have A : a.tmps.getD t undef = .bool c := A
          rw [Array.getD_eq_getD_getElem?] at A
          cases hx : a.tmps[t]? with
          | none => rw [hx] at A; cases A
          | some u =>
            rw [hx] at A
            have A : u = .bool c := A
            subst A
            cases c <;> cases want <;> rfl
        | _ => exact (fail_inv h).elim
      | tup vs =>
        rw [hv] at h A
        obtain ⟨rfl, _⟩ := pure_inv h
        obtain ⟨u, A, _⟩ := A
        rw [Array.getD_eq_getD_getElem?] at A
        cases hx : a.tmps[t]? with
        | none => rfl
        | some u' =>
          rw [hx] at A
          have A : u' = .tuple u := A
          subst A
          rfl
      | _ => rw [hv] at h; exact (fail_inv h).elim
theorem stepA_sound {P : Program} {F : Nat → Prop} {n : Nat} {w : World} {μ : Mu} {s : St} {a : Act} (R : Rel F n w μ s a) {call : Fs} (hc : ∀ f, SoundF P f (call f)) {ops : Array Oper} {r j : Nat} {o : Oper} {e : Eff} {l : List Loc}
    (hj : ops[j]? = some o) (hd : ∀ d, o.dst = some d → d < n) (h : stepA P call ops.toList r j o s = some (e, l)) {K : Act → World → Prop} {Q : Exit → Act → World → Prop}
    (H : ∀ a' w' μ', Rel F n w' μ' (app s o.dst e) a' → TrW w μ s w' μ' (app s o.dst e) → K a' w') : wpOp P ops Q j K a w := by
  obtain ⟨b, _, _, h1, h, _⟩ := bind_inv h
  have hw := wantedA_sound R h1
  unfold wpOp
  simp only [hj, hw]
  cases b with
  | true =>
    simp only [if_true] at h ⊢
    exact .inl (opA_sound R.srel hc R.arel h K Q fun v μ' w' hp => by
      obtain ⟨R', T'⟩ := rel_put R hp hd
      exact H _ _ μ' R' T')
  | false =>
    simp only [Bool.false_eq_true, if_false] at h ⊢
    obtain ⟨rfl, _⟩ := ret_inv h
    obtain ⟨R', T'⟩ := rel_put R (post_ret (a := .tup []) (v := undef) R.srel rfl ⟨#[], rfl, trivial⟩) hd
    exact H _ _ μ R' T'
/-! ### in the order of the text -/
theorem evOps_sound {P : Program} {F : Nat → Prop} {n : Nat} {call : Fs} (hc : ∀ f, SoundF P f (call f)) {ops : Array Oper} (hd : ∀ o ∈ ops.toList, ∀ d, o.dst = some d → d < n) {r : Nat} {Q : Exit → Act → World → Prop} :
    ∀ (os : List Oper) (j : Nat) (s s' : St) (w : World) (μ : Mu) (a : Act), ops.toList.drop j = os → evOps P call ops.toList r j os s = some s' → Rel F n w μ s a →
      (∀ a' w' μ', Rel F n w' μ' s' a' → TrW w μ s w' μ' s' → Q .normal a' w') → wpOps P ops Q (List.range' j os.length) a w
  | [], j, s, s', w, μ, a, ho, h, R, H => by
    cases h
    exact H a w μ R (.refl _ _ _)
  | o :: os, j, s, s', w, μ, a, ho, h, R, H => by
    unfold evOps at h
    split at h
    · cases h
    · rename_i e l he
      have hj : ops[j]? = some o := by
        have : (ops.toList.drop j)[0]? = some o := by rw [ho]; rfl
        rw [List.getElem?_drop, Nat.add_zero] at this
        simpa using this
      have hmem : o ∈ ops.toList := List.mem_of_mem_drop (i := j) (by rw [ho]; simp)
      rw [List.length_cons, List.range'_succ, wpOps_cons]
      refine stepA_sound R hc hj (hd o hmem) he fun a' w' μ' R' T' => ?_
      refine evOps_sound hc hd os (j + 1) _ s' w' μ' a' ?_ h R' fun a'' w'' μ'' R'' T'' => H a'' w'' μ'' R'' (T'.trans T'')
      have : ops.toList.drop (j + 1) = (ops.toList.drop j).drop 1 := by rw [List.drop_drop]
      rw [this, ho]
      rfl
/-! ### whatever order -/
def patch (dst : Option Tmp) (e : Eff) : List (Loc × AV) := e.wr ++ (match dst with
  | some d => [(.t d, e.v)]
  | none => [])
theorem app_patch (s : St) (dst : Option Tmp) (e : Eff) : app s dst e = upds s (patch dst e) := by
  cases dst with
  | none => simp [app, patch]
  | some d => show upd _ _ _ = upds s (e.wr ++ [(.t d, e.v)]); rw [lookup_upds_i]
theorem patch_wrote (dst : Option Tmp) (e : Eff) : (patch dst e).map (·.1) = wrote dst e := by
  cases dst <;> simp [patch, wrote]
/-- the patches of those that have come up, in the order of the text -/
def ov (L : Nat → Bool) : Nat → List (List (Loc × AV)) → St → St
  | _, [], s => s
  | j, p :: ps, s => ov L (j + 1) ps (if L j = true then upds s p else s)
theorem upds_congr {s s' : St} {x : Loc} : ∀ {p : List (Loc × AV)}, s x = s' x → upds s p x = upds s' p x := by
  intro p
  induction p generalizing s s' with
  | nil => exact id
  | cons q p ih =>
    intro h
    refine ih ?_
    by_cases hx : x = q.1
    · subst hx; rw [upd_self, upd_self]
    · rw [upd_ne _ _ hx, upd_ne _ _ hx]; exact h
theorem upds_dom {s s' : St} {x : Loc} : ∀ {p : List (Loc × AV)}, x ∈ p.map (·.1) → upds s p x = upds s' p x := by
  intro p
  induction p generalizing s s' with
  | nil => intro h; cases h
  | cons q p ih =>
    intro h
    by_cases hx : x = q.1
    · subst hx
      exact upds_congr (p := p) (s := upd s q.1 q.2) (s' := upd s' q.1 q.2) (by rw [upd_self, upd_self])
    · exact ih (by
        rcases List.mem_cons.1 h with h | h
        · exact (hx h).elim
        · exact h)
theorem ov_congr {L L' : Nat → Bool} {x : Loc} : ∀ {ps : List (List (Loc × AV))} {j : Nat} {s s' : St}, s x = s' x → (∀ (k : Nat) p, ps[k]? = some p → x ∈ p.map (·.1) → L (j + k) = L' (j + k)) → ov L j ps s x = ov L' j ps s' x := by
  intro ps
  induction ps with
  | nil => intro j s s' h _; exact h
  | cons p ps ih =>
    intro j s s' h H
    refine ih ?_ fun k q hq hx => by
      have := H (k + 1) q (by rw [List.getElem?_cons_succ]; exact hq) hx
      rwa [show j + 1 + k = j + (k + 1) by omega]
    by_cases hx : x ∈ p.map (·.1)
    · have := H 0 p rfl hx
      rw [Nat.add_zero] at this
      rw [this]
      split
      · exact upds_congr h
      · exact h
    · have none : ∀ s : St, upds s p x = s x := fun s => upds_not fun q hq he => hx (List.mem_map.2 ⟨q, hq, he⟩)
      have both : ∀ (b : Bool) (s : St), (if b = true then upds s p else s) x = s x := fun b s => by
        cases b
        · rfl
        · exact none s
      rw [both, both]
      exact h
/-- one more -/
theorem ov_one {L : Nat → Bool} {i : Nat} {x : Loc} : ∀ {ps : List (List (Loc × AV))} {j : Nat} {s : St} {p : List (Loc × AV)}, ps[i - j]? = some p → j ≤ i → L i = false → (∀ (k : Nat) q, ps[k]? = some q → i < j + k → L (j + k) = true → x ∈ p.map (·.1) → x ∉ q.map (·.1)) →
    ov (fun k => if k = i then true else L k) j ps s x = upds (ov L j ps s) p x := by
  intro ps
  induction ps with
  | nil => intro j s p h; simp at h
  | cons q ps ih =>
    intro j s p h hj hL H
    by_cases hji : j = i
    · subst hji
      simp only [Nat.sub_self, List.getElem?_cons_zero, Option.some.injEq] at h
      subst h
      simp only [ov, if_true, hL, Bool.false_eq_true, if_false]
      by_cases hx : x ∈ q.map (·.1)
      · -- nobody behind writes it
        have e1 : ov (fun k => if k = j then true else L k) (j + 1) ps (upds s q) x = ov (fun _ => false) (j + 1) ps (upds s q) x := by
          refine ov_congr rfl fun k p hp hxp => ?_
          by_cases hl : L (j + 1 + k) = true
          · exact (H (k + 1) p (by rw [List.getElem?_cons_succ]; exact hp) (by omega) (by rw [show j + (k + 1) = j + 1 + k by omega]; exact hl) hx hxp).elim
          · simp only [show ¬ (j + 1 + k = j) by omega, if_false]
            simpa using hl
        have e2 : ∀ {ps : List (List (Loc × AV))} {j : Nat} {s : St}, ov (fun _ => false) j ps s = s := by
          intro ps
          induction ps with
          | nil => intro j s; rfl
          | cons p ps ih => intro j s; simp only [ov, Bool.false_eq_true, if_false]; exact ih
        rw [e1, e2]
        exact upds_dom hx
      · have none : ∀ s : St, upds s q x = s x := fun s => upds_not fun q' hq he => hx (List.mem_map.2 ⟨q', hq, he⟩)
        rw [none]
        refine ov_congr (none s) fun k p hp hxp => ?_
        simp only [show ¬ (j + 1 + k = j) by omega, if_false]
    · have hlt : j < i := by omega
      have h' : ps[i - (j + 1)]? = some p := by
        rw [show i - j = (i - (j + 1)) + 1 by omega, List.getElem?_cons_succ] at h
        exact h
      simp only [ov, if_neg hji]
      refine ih h' (by omega) hL fun k p' hp' hk hl hx => ?_
      exact H (k + 1) p' (by rw [List.getElem?_cons_succ]; exact hp') (by omega) (by rw [show j + (k + 1) = j + 1 + k by omega]; exact hl) hx
/-- a run in the order of the text -/
def RunsT (P : Program) (call : Fs) (all : List Oper) (r : Nat) : Nat → List Oper → St → List (Eff × List Loc) → Prop
  | _, [], _, [] => True
  | j, o :: os, s, (e, l) :: es => stepA P call all r j o s = some (e, l) ∧ RunsT P call all r (j + 1) os (app s o.dst e) es
  | _, _, _, _ => False
def patches : List Oper → List (Eff × List Loc) → List (List (Loc × AV))
  | o :: os, (e, _) :: es => patch o.dst e :: patches os es
  | _, _ => []
def foots : List Oper → List (Eff × List Loc) → List (List Loc × List Loc)
  | o :: os, (e, l) :: es => (l, wrote o.dst e) :: foots os es
  | _, _ => []
theorem evOpsD_inv {P : Program} {call : Fs} {all : List Oper} {r : Nat} : ∀ {os : List Oper} {j : Nat} {s s' : St} {fs : List (List Loc × List Loc)}, evOpsD P call all r j os s = some (s', fs) →
    ∃ es, RunsT P call all r j os s es ∧ fs = foots os es ∧ s' = ov (fun _ => true) j (patches os es) s
  | [], j, s, s', fs, h => by cases h; exact ⟨[], trivial, rfl, rfl⟩
  | o :: os, j, s, s', fs, h => by
    unfold evOpsD at h
    split at h
    · cases h
    · rename_i e l he
      split at h
      · cases h
      · rename_i s1 fs1 h1
        cases h
        obtain ⟨es, k1, k2, k3⟩ := evOpsD_inv h1
        refine ⟨(e, l) :: es, ⟨he, k1⟩, by rw [k2]; rfl, ?_⟩
        rw [k3, app_patch]
        rfl
theorem runs_at {P : Program} {call : Fs} {all : List Oper} {r : Nat} : ∀ {os : List Oper} {j : Nat} {s : St} {es : List (Eff × List Loc)}, RunsT P call all r j os s es → ∀ (i : Nat) o, os[i]? = some o →
    ∃ e l, (patches os es)[i]? = some (patch o.dst e) ∧ (foots os es)[i]? = some (l, wrote o.dst e) ∧ stepA P call all r (j + i) o (ov (fun k => decide (k < j + i)) j (patches os es) s) = some (e, l)
  | [], j, s, es, _, i, o, h => by simp at h
  | o' :: os, j, s, [], hr, _, _, _ => hr.elim
  | o' :: os, j, s, (e, l) :: es, hr, i, o, h => by
    have stop : ∀ {ps : List (List (Loc × AV))} {j m : Nat} {s : St}, m ≤ j → ov (fun k => decide (k < m)) j ps s = s := by
      intro ps
      induction ps with
      | nil => intro j m s _; rfl
      | cons p ps ih =>
        intro j m s hm
        simp only [ov, show ¬ j < m by omega, decide_false, Bool.false_eq_true, if_false]
        exact ih (by omega)
    cases i with
    | zero =>
      simp only [List.getElem?_cons_zero, Option.some.injEq] at h
      subst h
      refine ⟨e, l, rfl, rfl, ?_⟩
      rw [Nat.add_zero, stop (Nat.le_refl _)]
      exact hr.1
    | succ i =>
      rw [List.getElem?_cons_succ] at h
      obtain ⟨e1, l1, k1, k2, k3⟩ := runs_at hr.2 i o h
      refine ⟨e1, l1, by simp only [patches, List.getElem?_cons_succ]; exact k1, by simp only [foots, List.getElem?_cons_succ]; exact k2, ?_⟩
      rw [show j + (i + 1) = j + 1 + i by omega]
      simp only [patches, ov, show j < j + 1 + i by omega, decide_true, if_true]
      rw [← app_patch]
      exact k3
theorem foots_patches : ∀ {os : List Oper} {es : List (Eff × List Loc)} (i : Nat) p, (patches os es)[i]? = some p → ∃ l, (foots os es)[i]? = some (l, p.map (·.1))
  | [], es, i, p, h => by simp [patches] at h
  | o :: os, [], i, p, h => by simp [patches] at h
  | o :: os, (e, l) :: es, i, p, h => by
    cases i with
    | zero =>
      simp only [patches, List.getElem?_cons_zero, Option.some.injEq] at h
      subst h
      exact ⟨l, by simp only [foots, List.getElem?_cons_zero, patch_wrote]⟩
    | succ i =>
      simp only [patches, List.getElem?_cons_succ] at h
      obtain ⟨l', h'⟩ := foots_patches i p h
      exact ⟨l', by simp only [foots, List.getElem?_cons_succ]; exact h'⟩
/-! ### who waits for whom -/
theorem depsAll_ext : ∀ (os : List Oper) (acc : List (List Nat)), ∃ r, depsAll acc os = acc ++ r ∧ r.length = os.length
  | [], acc => ⟨[], by simp [depsAll], rfl⟩
  | o :: os, acc => by
    obtain ⟨r, h1, h2⟩ := depsAll_ext os (acc ++ [depsOf acc o])
    exact ⟨depsOf acc o :: r, by simp only [depsAll, h1, List.append_assoc, List.singleton_append], by simp [h2]⟩
theorem depsAll_at : ∀ (os : List Oper) (acc : List (List Nat)) (j : Nat) o, os[j]? = some o →
    (depsAll acc os)[acc.length + j]? = some (depsOf ((depsAll acc os).take (acc.length + j)) o)
  | [], _, j, o, h => by simp at h
  | o' :: os, acc, j, o, h => by
    cases j with
    | zero =>
      simp only [List.getElem?_cons_zero, Option.some.injEq] at h
      subst h
      obtain ⟨r, h1, h2⟩ := depsAll_ext os (acc ++ [depsOf acc o'])
      simp only [depsAll, h1, Nat.add_zero, List.append_assoc]
      rw [List.take_left, List.getElem?_append_right (Nat.le_refl _)]
      simp
    | succ j =>
      rw [List.getElem?_cons_succ] at h
      have := depsAll_at os (acc ++ [depsOf acc o']) j o h
      simp only [List.length_append, List.length_singleton] at this
      rw [show acc.length + (j + 1) = acc.length + 1 + j by omega]
      exact this
theorem dep_step {ops : List Oper} {j d : Nat} {o : Oper} (hj : ops[j]? = some o) (h : d ∈ (depsAll [] ops).getD j []) : ∃ e ∈ o.after.toList, Region.binds .any e = true ∧ (d = e.on ∨ d ∈ (depsAll [] ops).getD e.on []) := by
  have := depsAll_at ops [] j o hj
  simp only [List.length_nil, Nat.zero_add] at this
  rw [getD_get this] at h
  unfold depsOf at h
  obtain ⟨e, he, h⟩ := List.mem_flatMap.1 h
  split at h
  · rename_i hb
    refine ⟨e, he, hb, ?_⟩
    rcases List.mem_cons.1 h with h | h
    · exact .inl h
    · right
      cases ht : ((depsAll [] ops).take j)[e.on]? with
      | none => rw [getD_not ht] at h; cases h
      | some l =>
        rw [getD_get ht] at h
        rw [List.getElem?_take] at ht
        split at ht
        · rw [getD_get ht]; exact h
        · cases ht
  · cases h
theorem okAt_spec {deps : List Nat} {y : List Loc × List Loc} : ∀ {fs : List (List Loc × List Loc)} {i : Nat}, okAt deps y i fs = true → ∀ (k : Nat) x, fs[k]? = some x → i + k ∈ deps ∨ clash x y = false
  | [], _, _, k, x, h => by simp at h
  | z :: fs, i, h, k, x, hk => by
    simp only [okAt, Bool.and_eq_true, Bool.or_eq_true, Bool.not_eq_true'] at h
    cases k with
    | zero =>
      simp only [List.getElem?_cons_zero, Option.some.injEq] at hk
      subst hk
      rcases h.1 with h | h
      · exact .inl (by simpa using h)
      · exact .inr h
    | succ k =>
      rw [List.getElem?_cons_succ] at hk
      have := okAt_spec h.2 k x hk
      rwa [show i + 1 + k = i + (k + 1) by omega] at this
theorem okFrom_spec {deps : List (List Nat)} : ∀ {fs done : List (List Loc × List Loc)}, okFrom deps done done.length fs = true → ∀ (i j : Nat) x y, i < done.length + j → (done ++ fs)[i]? = some x → fs[j]? = some y → i ∈ deps.getD (done.length + j) [] ∨ clash x y = false
  | [], done, _, i, j, x, y, _, _, h => by simp at h
  | z :: fs, done, h, i, j, x, y, hij, hx, hy => by
    simp only [okFrom, Bool.and_eq_true] at h
    cases j with
    | zero =>
      simp only [List.getElem?_cons_zero, Option.some.injEq] at hy
      subst hy
      rw [List.getElem?_append_left (by omega)] at hx
      have := okAt_spec h.1 i x hx
      rwa [Nat.zero_add] at this
    | succ j =>
      rw [List.getElem?_cons_succ] at hy
      have h2 := h.2
      have hl : (done ++ [z]).length = done.length + 1 := by simp
      rw [← hl] at h2
      have := okFrom_spec h2 i j x y (by rw [hl]; omega) (by rw [List.append_assoc]; exact hx) hy
      rw [hl] at this
      rwa [show done.length + 1 + j = done.length + (j + 1) by omega] at this
theorem meets_of {a b : List Loc} {x : Loc} (h1 : x ∈ a) (h2 : x ∈ b) : meets a b = true :=
  List.any_eq_true.2 ⟨x, h1, List.contains_iff_mem.2 h2⟩
end Go.Am
/-
Regions, second part: whatever order, and both together.
-/
namespace Go.Am
open Go
section
variable {P : Program} {F : Nat → Prop} {n : Nat} {call : Fs} (hc : ∀ f, SoundF P f (call f)) {ops : Array Oper} (hd : ∀ o ∈ ops.toList, ∀ d, o.dst = some d → d < n) {r : Nat} {Q : Exit → Act → World → Prop}
  {s0 : St} {es : List (Eff × List Loc)} (hr : RunsT P call ops.toList r 0 ops.toList s0 es) (hok : okReg ops.toList (foots ops.toList es) = true)
  {h0 : World} {μ0 : Mu} (H : ∀ a' w' μ', Rel F n w' μ' (ov (fun _ => true) 0 (patches ops.toList es) s0) a' → TrW h0 μ0 s0 w' μ' (ov (fun _ => true) 0 (patches ops.toList es) s0) → Q .normal a' w')
include hc hd hr hok H
theorem wpAny_sound' : ∀ (fuel : Nat) (listed : Array Bool) (a : Act) (w : World) (μ : Mu), listed.size = ops.size → listed.toList.count false = fuel →
    (∀ j, listed.getD j false = true → ∀ d ∈ (depsAll [] ops.toList).getD j [], listed.getD d false = true) →
    Rel F n w μ (ov (fun k => listed.getD k false) 0 (patches ops.toList es) s0) a → TrW h0 μ0 s0 w μ (ov (fun k => listed.getD k false) 0 (patches ops.toList es) s0) →
    wpAny P .any ops Q fuel listed a w := by
  have hback : ∀ (j : Nat) o, ops[j]? = some o → ∀ e ∈ o.after, Region.binds .any e = true → e.on < j := fun j o ho e he hb => by
    have h1 : backOk ops.toList = true := by
      simp only [okReg, Bool.and_eq_true] at hok
      exact hok.1
    unfold backOk at h1
    rw [List.all_eq_true] at h1
    have hm : (o, j) ∈ ops.toList.zipIdx := by
      rw [List.mem_zipIdx_iff_getElem?]
      simpa using ho
    have := h1 _ hm
    simp only [List.all_eq_true] at this
    have := this e (by simpa using he)
    simp only [Bool.or_eq_true, Bool.not_eq_true', decide_eq_true_eq] at this
    rcases this with h | h
    · rw [hb] at h; cases h
    · exact h
  have hclash : ∀ (i j : Nat) x y, i < j → (foots ops.toList es)[i]? = some x → (foots ops.toList es)[j]? = some y → i ∈ (depsAll [] ops.toList).getD j [] ∨ clash x y = false := fun i j x y hij hx hy => by
    have h1 : okFrom (depsAll [] ops.toList) [] 0 (foots ops.toList es) = true := by
      simp only [okReg, Bool.and_eq_true] at hok
      exact hok.2
    have := okFrom_spec (done := []) h1 i j x y (by simpa using hij) (by simpa using hx) hy
    simpa using this
  have notNone : ∀ (listed : Array Bool), listed.size = ops.size → Region.ready .any ops listed = [] → ∀ j, j < ops.size → listed.getD j false = true := fun listed hs hrd => by
    intro j
    induction j using Nat.strongRecOn with
    | _ j ih =>
      intro hj
      cases hl : listed.getD j false with
      | true => rfl
      | false =>
        have hjs : j < listed.size := by omega
        have hl' : listed.getD j true = false := by
          simp [hjs] at hl ⊢
          exact hl
        have : j ∈ Region.ready .any ops listed := by
          rw [mem_ready]
          refine ⟨hl', ops[j], by simp [hj], fun e he hb => ?_⟩
          have := hback j ops[j] (by simp [hj]) e he hb
          exact ih e.on this (by omega)
        rw [hrd] at this
        cases this
  have final : ∀ (listed : Array Bool), (∀ j, j < ops.size → listed.getD j false = true) → ov (fun k => listed.getD k false) 0 (patches ops.toList es) s0 = ov (fun _ => true) 0 (patches ops.toList es) s0 := fun listed hl => by
    funext x
    refine ov_congr rfl fun k p hp hx => ?_
    obtain ⟨l, hf⟩ := foots_patches k p hp
    rw [Nat.zero_add]
    refine hl k ?_
    have : ∀ {os : List Oper} {es : List (Eff × List Loc)}, (patches os es).length ≤ os.length := by
      intro os
      induction os with
      | nil => intro es; simp [patches]
      | cons o os ih => intro es; cases es with
        | nil => simp [patches]
        | cons e es => simp only [patches, List.length_cons]; exact Nat.succ_le_succ ih
    have h1 := (List.getElem?_eq_some_iff.1 hp).1
    have h2 := this (os := ops.toList) (es := es)
    simp only [Array.length_toList] at h2
    omega
  intro fuel
  induction fuel with
  | zero =>
    intro listed a w μ hs hcnt hdown R T
    have all : ∀ j, j < ops.size → listed.getD j false = true := fun j hj => by
      cases hl : listed.getD j false with
      | true => rfl
      | false =>
        have hjs : j < listed.size := by omega
        have hm : false ∈ listed.toList := by
          have : listed[j] = false := by simpa [hjs] using hl
          rw [← this]
          simp
        have := List.count_pos_iff.2 hm
        omega
    refine ⟨?_, ?_⟩
    · cases hrd : Region.ready .any ops listed with
      | nil => rfl
      | cons i _ =>
        have hi : i ∈ Region.ready .any ops listed := by rw [hrd]; simp
        obtain ⟨h1, o, ho, _⟩ := mem_ready.1 hi
        have hio : i < ops.size := (Array.getElem?_eq_some_iff.1 ho).1
        have := all i hio
        have his : i < listed.size := by omega
        simp [his] at h1 this
        rw [h1] at this
        cases this
    · rw [final listed all] at R T
      exact H a w μ R T
  | succ fuel ih =>
    intro listed a w μ hs hcnt hdown R T
    refine ⟨fun hrd => ?_, fun i hi => ?_⟩
    · have all := notNone listed hs hrd
      rw [final listed all] at R T
      exact H a w μ R T
    · obtain ⟨hun, o, ho, hafter⟩ := mem_ready.1 hi
      have hio : i < ops.size := (Array.getElem?_eq_some_iff.1 ho).1
      have his : i < listed.size := by omega
      have hLi : listed.getD i false = false := by simp [his] at hun ⊢; exact hun
      have ho' : ops.toList[i]? = some o := by simpa using ho
      obtain ⟨e, l, k1, k2, k3⟩ := runs_at hr i o ho'
      rw [Nat.zero_add] at k3
      have hdeps : ∀ d ∈ (depsAll [] ops.toList).getD i [], listed.getD d false = true := fun d hd => by
        obtain ⟨ed, he, hb, hd⟩ := dep_step ho' hd
        have hl := hafter ed (by simpa using he) hb
        rcases hd with rfl | hd
        · exact hl
        · exact hdown _ hl _ hd
      -- who writes what this one looks at or writes
      have key : ∀ (k : Nat) p x, (patches ops.toList es)[k]? = some p → x ∈ p.map (·.1) → (x ∈ l ∨ x ∈ wrote o.dst e) → k ≠ i → listed.getD k false = decide (k < i) := fun k p x hp hx hxi hki => by
        obtain ⟨lk, hf⟩ := foots_patches k p hp
        rcases Nat.lt_trichotomy k i with hlt | heq | hgt
        · have hcl : clash (lk, p.map (·.1)) (l, wrote o.dst e) = true := by
            simp only [clash, Bool.or_eq_true]
            rcases hxi with h | h
            · exact .inl (meets_of hx h)
            · exact .inr (.inl (meets_of hx h))
          rcases hclash k i _ _ hlt hf k2 with h | h
          · rw [hdeps k h]; simp [hlt]
          · rw [hcl] at h; cases h
        · exact (hki heq).elim
        · have hcl : clash (l, wrote o.dst e) (lk, p.map (·.1)) = true := by
            simp only [clash, Bool.or_eq_true]
            rcases hxi with h | h
            · exact .inr (.inr (meets_of hx h))
            · exact .inr (.inl (meets_of h hx))
          rcases hclash i k _ _ hgt k2 hf with h | h
          · cases hlk : listed.getD k false with
            | false => simp; omega
            | true =>
              have := hdown k hlk i h
              rw [hLi] at this
              cases this
          · rw [hcl] at h; cases h
      have agree : ∀ x ∈ l, ov (fun k => listed.getD k false) 0 (patches ops.toList es) s0 x = ov (fun k => decide (k < i)) 0 (patches ops.toList es) s0 x := fun x hx => by
        refine ov_congr rfl fun k p hp hxp => ?_
        rw [Nat.zero_add]
        by_cases hki : k = i
        · subst hki
          rw [hLi]
          simp
        · exact key k p x hp hxp (.inl hx) hki
      have hstep := Lcl.stepA P call ops.toList r i o _ _ _ _ k3 agree
      have hmem : o ∈ ops.toList := List.mem_of_getElem? ho'
      refine stepA_sound R hc ho (hd o hmem) hstep fun a' w' μ' R' T' => ?_
      have hnext : app (ov (fun k => listed.getD k false) 0 (patches ops.toList es) s0) o.dst e = ov (fun k => (listed.setIfInBounds i true).getD k false) 0 (patches ops.toList es) s0 := by
        rw [app_patch]
        have hL : (fun k => (listed.setIfInBounds i true).getD k false) = (fun k => if k = i then true else listed.getD k false) := by
          funext k
          by_cases hk : k = i
          · subst hk
            simp [his]
          · rw [getD_set_ne false (fun h => hk h.symm)]
            simp [hk]
        rw [hL]
        funext x
        refine (ov_one (i := i) (by simpa using k1) (Nat.zero_le _) hLi fun k q hq hk hl hx hxq => ?_).symm
        rw [Nat.zero_add] at hk hl
        rw [patch_wrote] at hx
        have := key k q x hq hxq (.inr hx) (by omega)
        rw [hl] at this
        simp at this
        omega
      rw [hnext] at R' T'
      refine ih (listed.setIfInBounds i true) a' w' μ' (by rw [Array.size_setIfInBounds]; exact hs) ?_ ?_ R' (T.trans T')
      · rw [Array.toList_setIfInBounds, List.count_set (by simpa using his)]
        have : listed.toList[i] = false := by simp [his] at hun; simpa using hun
        rw [this]
        have hcnt' : Array.count false listed = fuel + 1 := by simpa using hcnt
        simp
        omega
      · intro j hj d hdj
        by_cases hji : j = i
        · subst hji
          exact getD_set_true (hdeps d hdj)
        · rw [getD_set_ne false (fun h => hji h.symm)] at hj
          exact getD_set_true (hdown j hj d hdj)
end
theorem evR_sound {P : Program} (hm : P.follows .mixedOrders = true) {F : Nat → Prop} {n : Nat} {call : Fs} (hc : ∀ f, SoundF P f (call f)) {id : Nat} {ops : Array Oper} {draw : Bool}
    (hd : ∀ o ∈ ops.toList, ∀ d, o.dst = some d → d < n) {s s' : St} {w : World} {μ : Mu} {a : Act} {Q : Exit → Act → World → Prop} (h : evR P call id ops.toList draw s = some s') (R : Rel F n w μ s a)
    (H : ∀ a' w' μ', Rel F n w' μ' s' a' → TrW w μ s w' μ' s' → Q .normal a' w') : (Code.region id ops draw).wp P Q a w := by
  cases draw with
  | false =>
    simp only [evR, Bool.false_eq_true, if_false] at h
    refine wp_region ?_
    rw [List.range_eq_range', ← Array.length_toList]
    exact evOps_sound hc hd ops.toList 0 s s' w μ a (by simp) h R H
  | true =>
    simp only [evR, if_true] at h
    split at h
    · cases h
    · rename_i s1 fs h1
      split at h
      · rename_i hok
        cases h
        obtain ⟨es, k1, rfl, rfl⟩ := evOpsD_inv h1
        refine wp_region_any hm ?_
        have none : ∀ {ps : List (List (Loc × AV))} {j : Nat} {s : St}, ov (fun k => (Array.replicate ops.size false).getD k false) j ps s = s := by
          intro ps
          induction ps with
          | nil => intro j s; rfl
          | cons p ps ih =>
            intro j s
            have : (Array.replicate ops.size false).getD j false = false := by
              by_cases hj : j < ops.size <;> simp [hj]
            simp only [ov, this, Bool.false_eq_true, if_false]
            exact ih
        refine wpAny_sound' hc hd k1 hok H ops.size (Array.replicate ops.size false) a _ μ (by simp) (by simp) (fun j hj => ?_) ?_ ?_
        · by_cases hjs : j < ops.size <;> simp [hjs] at hj
        · rw [none]
          exact ⟨R.srel, R.arel, R.size, R.defers⟩
        · rw [none]
          exact ⟨.refl _ _ _, ⟨rfl, rfl, rfl⟩⟩
      · cases h
end Go.Am
/-
Code, returns, functions: the evaluator is right.
-/
namespace Go.Am
open Go
def exitOf : Ex → Exit
  | .normal => .normal
  | .exit id => .exit id
  | .ret => .ret
theorem dstOk_region {n id : Nat} {ops : Array Oper} {draw : Bool} (h : dstOk n (.region id ops draw) = true) : ∀ o ∈ ops.toList, ∀ d, o.dst = some d → d < n := fun o ho d hd => by
  unfold dstOk at h
  have := List.all_eq_true.1 h o ho
  rw [hd] at this
  exact of_decide_eq_true this
theorem evC_sound {P : Program} (hm : P.follows .mixedOrders = true) {call : Fs} (hc : ∀ f, SoundF P f (call f)) {F : Nat → Prop} {n : Nat} : ∀ (k : Nat),
    (∀ (c : Code) (s s' : St) (e : Ex) (w : World) (μ : Mu) (a : Act) (Q : Exit → Act → World → Prop), evC P call k c s = some (e, s') → dstOk n c = true → Rel F n w μ s a →
      (∀ a' w' μ', Rel F n w' μ' s' a' → TrW w μ s w' μ' s' → Q (exitOf e) a' w') → c.wp P Q a w) ∧
    (∀ (b : Code) (s s' : St) (e : Ex) (w : World) (μ : Mu) (a : Act) (Q : Exit → Act → World → Prop), evC P call k (.loop b) s = some (e, s') → dstOk n b = true → Rel F n w μ s a →
      (∀ a' w' μ', Rel F n w' μ' s' a' → TrW w μ s w' μ' s' → Q (exitOf e) a' w') → Code.rounds P b Q k a w)
  | 0 => ⟨fun c s s' e w μ a Q h => (by cases h), fun b s s' e w μ a Q h => (by cases h)⟩
  | k + 1 => by
    obtain ⟨ih1, ih2⟩ := evC_sound hm hc (F := F) (n := n) k
    have rounds : ∀ (b : Code) (s s' : St) (e : Ex) (w : World) (μ : Mu) (a : Act) (Q : Exit → Act → World → Prop), evC P call (k + 1) (.loop b) s = some (e, s') → dstOk n b = true → Rel F n w μ s a →
        (∀ a' w' μ', Rel F n w' μ' s' a' → TrW w μ s w' μ' s' → Q (exitOf e) a' w') → Code.rounds P b Q (k + 1) a w := by
      intro b s s' e w μ a Q h hd R H
      rw [rounds_succ]
      unfold evC at h
      cases hb : evC P call k b s with
      | none => simp only [hb] at h; cases h
      | some q =>
        obtain ⟨e1, s1⟩ := q
        refine ih1 b s s1 e1 w μ a _ hb hd R fun a' w' μ' R' T' => ?_
        cases e1 with
        | normal =>
          simp only [hb] at h
          exact ih2 b s1 s' e w' μ' a' Q h hd R' fun a'' w'' μ'' R'' T'' => H a'' w'' μ'' R'' (T'.trans T'')
        | exit id =>
          simp only [hb] at h
          cases h
          exact H a' w' μ' R' T'
        | ret =>
          simp only [hb] at h
          cases h
          exact H a' w' μ' R' T'
    refine ⟨fun c s s' e w μ a Q h hd R H => ?_, rounds⟩
    cases c with
    | skip => cases h; exact wp_skip (H a w μ R (.refl _ _ _))
    | region id ops draw =>
      unfold evC at h
      simp only at h
      cases hr : evR P call id ops.toList draw s with
      | none => rw [hr] at h; cases h
      | some s1 =>
        rw [hr] at h
        cases h
        exact evR_sound hm hc (dstOk_region hd) hr R H
    | seq x y =>
      simp only [dstOk, Bool.and_eq_true] at hd
      unfold evC at h
      simp only at h
      cases hx : evC P call k x s with
      | none => rw [hx] at h; cases h
      | some q =>
        obtain ⟨e1, s1⟩ := q
        rw [hx] at h
        refine wp_seq (ih1 x s s1 e1 w μ a _ hx hd.1 R fun a' w' μ' R' T' => ?_)
        cases e1 with
        | normal => exact ih1 y s1 s' e w' μ' a' Q h hd.2 R' fun a'' w'' μ'' R'' T'' => H a'' w'' μ'' R'' (T'.trans T'')
        | exit id => cases h; exact H a' w' μ' R' T'
        | ret => cases h; exact H a' w' μ' R' T'
    | cond co x y =>
      simp only [dstOk, Bool.and_eq_true] at hd
      unfold evC at h
      simp only at h
      cases hv : evO co s with
      | none => rw [hv] at h; cases h
      | some q =>
        obtain ⟨v, l⟩ := q
        rw [hv] at h
        have Rv := evO_sound R.arel hv
        cases v with
        | pv p =>
          cases p with
          | bool t =>
            refine wp_cond (t := t) Rv ?_
            cases t with
            | true => exact ih1 x s s' e w μ a Q h hd.1 R H
            | false => exact ih1 y s s' e w μ a Q h hd.2 R H
          | _ => cases h
        | _ => cases h
    | block id b =>
      unfold evC at h
      simp only at h
      cases hb : evC P call k b s with
      | none => rw [hb] at h; cases h
      | some q =>
        obtain ⟨e1, s1⟩ := q
        rw [hb] at h
        refine wp_block (ih1 b s s1 e1 w μ a _ hb hd R fun a' w' μ' R' T' => ?_)
        cases e1 with
        | normal => cases h; exact H a' w' μ' R' T'
        | exit id' =>
          simp only at h
          show (if id' = id then Q .normal a' w' else Q (.exit id') a' w')
          split at h
          · rename_i hid
            rw [if_pos hid]
            cases h
            exact H a' w' μ' R' T'
          · rename_i hid
            rw [if_neg hid]
            cases h
            exact H a' w' μ' R' T'
        | ret => cases h; exact H a' w' μ' R' T'
    | loop b => exact wp_loop_rounds (k + 1) (rounds b s s' e w μ a Q h hd R H)
    | exit id => cases h; exact wp_exit (H a w μ R (.refl _ _ _))
    | ret => cases h; exact wp_ret (H a w μ R (.refl _ _ _))
    | _ => cases h
/-! ### the return -/
theorem resA_sound {P : Program} {F : Nat → Prop} {n : Nat} {w : World} {μ : Mu} {s : St} {a : Act} (R : Rel F n w μ s a) : ∀ {rs : List ResultVar} {vs : List AV} {l : List Loc}, resA P rs s = some (vs, l) →
    ∃ cvs : List Value, (rs.mapM (fun (x : ResultVar) => match x with
      | .tmp t => (pure (a.tmps.getD t undef) : Sem Value)
      | .cell x t => do loadVar t (← asAddr (a.tmps.getD x undef)))).run P w = .ok cvs w ∧ RL F w μ s vs cvs
  | [], vs, l, h => by obtain ⟨rfl, _⟩ := pure_inv h; exact ⟨[], rfl, trivial⟩
  | .tmp t :: rs, vs, l, h => by
    obtain ⟨v, _, _, h1, h, _⟩ := bind_inv h
    obtain ⟨rfl, _⟩ := rd_inv h1
    obtain ⟨ws, _, _, h2, h, _⟩ := bind_inv h
    obtain ⟨rfl, _⟩ := pure_inv h
    obtain ⟨cvs, c1, c2⟩ := resA_sound R h2
    refine ⟨a.tmps.getD t undef :: cvs, ?_, R.arel t, c2⟩
    simp only [List.mapM_cons, Sem.run_bind, Sem.run_pure, Result.andThen_ok, c1]
  | .cell x t :: rs, vs, l, h => by
    obtain ⟨p, _, _, h1, h, _⟩ := bind_inv h
    obtain ⟨rfl, _⟩ := rd_inv h1
    obtain ⟨v, _, _, h2, h, _⟩ := bind_inv h
    obtain ⟨ws, _, _, h3, h, _⟩ := bind_inv h
    obtain ⟨rfl, _⟩ := pure_inv h
    obtain ⟨cvs, c1, c2⟩ := resA_sound R h3
    obtain ⟨ad, u, u1, u2, u3⟩ := loadA_sound (P := P) R.srel h2 (R.arel x)
    refine ⟨u :: cvs, ?_, u3, c2⟩
    have ha : (asAddr (a.tmps.getD x undef)).run P w = .ok ad w := by rw [u1]; rfl
    simp only [List.mapM_cons, Sem.run_bind, Sem.run_pure, Result.andThen_ok, c1, ha, u2]
theorem argIds_get : ∀ (n j k : Nat), k < n → (argIds n j)[k]? = some (.arg (j + k))
  | 0, _, _, h => by omega
  | n + 1, j, k, h => by
    cases k with
    | zero => rfl
    | succ k =>
      simp only [argIds, List.getElem?_cons_succ]
      rw [argIds_get n (j + 1) k (by omega)]
      congr 2
      omega
theorem argIds_length : ∀ (n j : Nat), (argIds n j).length = n
  | 0, _ => rfl
  | n + 1, j => by simp [argIds, argIds_length n (j + 1)]
theorem ren_ent {m : Ren} {e : AV} (h : isEnt e = true) : renV m e = setGen (gen e) (renV m e) := by
  cases e with
  | box => unfold renV; rfl
  | row => unfold renV; rfl
  | _ => simp [isEnt] at h
theorem outA_sound {P : Program} {F : Nat → Prop} {n : Nat} {h0 : Heap} {μ0 : Mu} {w : World} {μ : Mu} {args bs0 : List AV} {s : St} {a : Act} (R : Rel F n w μ s a) (T : Tr h0 μ0 (enterA args bs0) w.heap μ s) {own : Bool} {fn : Func} {v : AV} {bs' news : List AV} {l : List Loc}
    (h : outA P own bs0.length fn.results.toList s = some ((v, bs', news), l)) :
    ∃ cv μ', (results fn a.tmps).run P w = .ok cv w ∧ SRel w.heap F μ' (outSt bs' news) ∧ RV F w μ' (outSt bs' news) v cv ∧ Tr h0 μ0 (enterA args bs0) w.heap μ' (outSt bs' news) := by
  obtain ⟨vs, _, _, h1, h, _⟩ := bind_inv h
  obtain ⟨cvs, c1, c2⟩ := resA_sound R h1
  obtain ⟨⟨ws, wr⟩, _, _, h2, h, _⟩ := bind_inv h
  -- what is given up for reading
  have hpub : SRel w.heap F μ (upds s wr) ∧ Tr w.heap μ s w.heap μ (upds s wr) ∧ RL F w μ (upds s wr) ws cvs := by
    cases own with
    | true =>
      simp only [if_true] at h2
      obtain ⟨h2, _⟩ := pure_inv h2
      cases h2
      exact ⟨R.srel, .refl _ _ _, c2⟩
    | false =>
      simp only [Bool.false_eq_true, if_false] at h2
      obtain ⟨S1, T1, D1, _, _⟩ := pub_state R.srel (pubs_w h2)
      exact ⟨S1, T1, pubs_val R.srel T1 h2 D1 c2⟩
  obtain ⟨S1, T1, R1⟩ := hpub
  obtain ⟨bs, _, _, h3, h, _⟩ := bind_inv h
  obtain ⟨hbs, hbe⟩ := entries_inv h3
  obtain ⟨ids, _, _, h4, h, _⟩ := bind_inv h
  obtain ⟨_, _, _, h5, h, _⟩ := bind_inv h
  have hnd := nodupB_spec (need_inv h5).1
  obtain ⟨es, _, _, h6, h, _⟩ := bind_inv h
  obtain ⟨hes, hee⟩ := entries_inv h6
  obtain ⟨h, _⟩ := pure_inv h
  have T := T.trans T1
  generalize upds s wr = s1 at *
  generalize hl : ids.filter isSite = l at *
  have lsite : ∀ x ∈ l, isSite x = true := fun x hx => by rw [← hl] at hx; exact (List.mem_filter.1 hx).2
  have esget : ∀ (k : Nat) x, l[k]? = some x → es[k]? = some (s1 (.i x)) := fun k x hx => by rw [hes, List.getElem?_map, hx]; rfl
  have bsget : ∀ k, k < bs0.length → bs[k]? = some (s1 (.i (.arg k))) := fun k hk => by
    rw [hbs, List.getElem?_map, argIds_get _ _ _ hk, Nat.zero_add]; rfl
  have bslen : bs.length = bs0.length := by rw [hbs, List.length_map, argIds_length]
  obtain ⟨m, hm⟩ : ∃ m, m = renOut bs l es := ⟨_, rfl⟩
  rw [← hm] at h
  obtain ⟨rfl, rfl, rfl⟩ : v = renV m (oneOf ws) ∧ bs' = renL m bs ∧ news = (renL m es).map (setGen 1) := by
    simp only [Prod.mk.injEq] at h
    exact ⟨h.1, h.2.1, h.2.2⟩
  have outarg : ∀ k, k < bs0.length → outSt (renL m bs) ((renL m es).map (setGen 1)) (.i (.arg k)) = renV m (s1 (.i (.arg k))) := fun k hk => by
    simp only [outSt]
    refine getD_get ?_
    rw [renL_map, List.getElem?_map, bsget k hk]
    rfl
  have outargn : ∀ k, ¬ k < bs0.length → outSt (renL m bs) ((renL m es).map (setGen 1)) (.i (.arg k)) = .tup [] := fun k hk => by
    simp only [outSt]
    refine getD_not ?_
    rw [renL_map, List.getElem?_map, List.getElem?_eq_none (by omega)]
    rfl
  have outret : ∀ (k : Nat) x, l[k]? = some x → outSt (renL m bs) ((renL m es).map (setGen 1)) (.i (.ret k)) = setGen 1 (renV m (s1 (.i x))) := fun k x hx => by
    simp only [outSt]
    refine getD_get ?_
    rw [renL_map, List.map_map, List.getElem?_map, esget k x hx]
    rfl
  have outretn : ∀ (k : Nat), l[k]? = none → outSt (renL m bs) ((renL m es).map (setGen 1)) (.i (.ret k)) = .tup [] := fun k hk => by
    simp only [outSt]
    refine getD_not ?_
    rw [renL_map, List.map_map, List.getElem?_map, hes, List.getElem?_map, hk]
    rfl
  have argent : ∀ k, k < bs0.length → isEnt (s1 (.i (.arg k))) = true := fun k hk => hbe (.arg k) (by
    have := argIds_get bs0.length 0 k hk
    rw [Nat.zero_add] at this
    exact List.mem_of_getElem? this)
  generalize hout : outSt (renL m bs) ((renL m es).map (setGen 1)) = out at *
  have outsite : ∀ x y z, out (.i (.site x y z)) = .tup [] := fun x y z => by rw [← hout]; rfl
  let μ' : Mu := fun id => match id with
    | .arg k => if k < bs0.length then μ (.arg k) else μ0 (.arg k)
    | .ret k => match l[k]? with
      | some x => μ x
      | none => μ0 (.ret k)
    | id => μ0 id
  have μarg : ∀ k, k < bs0.length → μ' (.arg k) = μ (.arg k) := fun k hk => if_pos hk
  have μret : ∀ (k : Nat) x, l[k]? = some x → μ' (.ret k) = μ x := fun k x hx => by simp only [μ', hx]
  have mutout : ∀ {id : Id}, isMut (out (.i id)) = true → ∃ id1, μ' id = μ id1 ∧ isMut (s1 (.i id1)) = true ∧ ((∃ k, id = .arg k ∧ id1 = .arg k) ∨ (∃ k, id = .ret k ∧ l[k]? = some id1)) := fun {id} hmu => by
    cases id with
    | arg k =>
      by_cases hk : k < bs0.length
      · rw [outarg k hk, ren_ent (argent k hk), isMut_ren] at hmu
        exact ⟨.arg k, μarg k hk, hmu, .inl ⟨k, rfl, rfl⟩⟩
      · rw [outargn k hk] at hmu; cases hmu
    | ret k =>
      cases hx : l[k]? with
      | none => rw [outretn k hx] at hmu; cases hmu
      | some x =>
        rw [outret k x hx, isMut_ren] at hmu
        exact ⟨x, μret k x hx, hmu, .inr ⟨k, rfl, hx⟩⟩
    | site x y z => rw [outsite] at hmu; cases hmu
  have mutB : ∀ {b}, MutB μ' out b → MutB μ s1 b := fun {b} ⟨id, c, e1, e2⟩ => by
    obtain ⟨id1, k1, k2, _⟩ := mutout e2
    exact ⟨id1, c, by rw [← k1]; exact e1, k2⟩
  have imm : ∀ b, Imm w.heap F μ s1 b → Imm w.heap F μ' out b := fun b ⟨q1, q2, q3⟩ => ⟨q1, q2, fun hb => q3 (mutB hb)⟩
  have M : RenOk m (Gs s1) μ (Gs out) μ' := ⟨fun id id' cur new hh => by
    rw [hm] at hh
    cases id with
    | arg k =>
      simp only [renOut] at hh
      split at hh
      · rename_i b hb
        cases hh
        have hk : k < bs0.length := by
          have := (List.getElem?_eq_some_iff.1 hb).1
          omega
        rw [bsget k hk] at hb
        cases hb
        refine ⟨rfl, ?_, μarg k hk⟩
        simp only [Gs, outarg k hk]
        rw [ren_ent (argent k hk), gen_ren (argent k hk)]
      · cases hh
    | ret k =>
      simp only [renOut] at hh
      split at hh
      · rename_i j hj
        have := lsite _ (List.mem_of_getElem? (idx?_some hj))
        cases this
      · cases hh
    | site x y z =>
      simp only [renOut] at hh
      split at hh
      · rename_i j hj
        have hj := idx?_some hj
        rw [esget j _ hj] at hh
        cases hh
        refine ⟨rfl, ?_, μret j _ hj⟩
        simp only [Gs, outret j _ hj, gen_ren (hee _ (List.mem_of_getElem? hj))]
      · cases hh⟩
  have SO : SRel w.heap F μ' out := by
    refine ⟨S1.low, fun id => ?_, fun id id' b c c' e1 e2 m1 m2 => ?_, S1.tab.same fun b hb => mutB hb⟩
    · cases id with
      | arg k =>
        by_cases hk : k < bs0.length
        · rw [outarg k hk, μarg k hk, ren_ent (argent k hk)]
          exact EntOk.ren M imm (fun b c _ _ hb => hb) (S1.ent _)
        · rw [outargn k hk]; trivial
      | ret k =>
        cases hx : l[k]? with
        | none => rw [outretn k hx]; trivial
        | some x =>
          rw [outret k x hx, μret k x hx]
          exact EntOk.ren M imm (fun b c _ _ hb => hb) (S1.ent _)
      | site x y z => rw [outsite]; trivial
    · obtain ⟨i1, a1, a2, a3⟩ := mutout m1
      obtain ⟨i2, b1, b2, b3⟩ := mutout m2
      rw [a1] at e1
      rw [b1] at e2
      have := S1.inj i1 i2 b c c' e1 e2 a2 b2
      subst this
      rcases a3 with ⟨k, rfl, rfl⟩ | ⟨k, rfl, hk⟩
      · rcases b3 with ⟨k', rfl, e⟩ | ⟨k', rfl, hk'⟩
        · cases e; rfl
        · have := lsite _ (List.mem_of_getElem? hk')
          cases this
      · rcases b3 with ⟨k', rfl, rfl⟩ | ⟨k', rfl, hk'⟩
        · have := lsite _ (List.mem_of_getElem? hk)
          cases this
        · rw [get_inj hnd hk hk']
  refine ⟨(if h : cvs.length = 1 then cvs[0] else .tuple cvs.toArray), μ', ?_, SO, ?_, ?_⟩
  · -- the results
    have hres : results fn a.tmps = (do
        let vs ← fn.results.mapM (fun (x : ResultVar) => match x with
          | .tmp t => (pure (a.tmps.getD t undef) : Sem Value)
          | .cell x t => do loadVar t (← asAddr (a.tmps.getD x undef)))
        pure (if h : vs.size = 1 then vs[0] else .tuple vs)) := rfl
    rw [hres]
    have hp := c1
    rw [← Array.toList_mapM] at hp
    simp only [Sem.run_map] at hp
    cases hq : (fn.results.mapM (fun (x : ResultVar) => match x with
      | .tmp t => (pure (a.tmps.getD t undef) : Sem Value)
      | .cell x t => do loadVar t (← asAddr (a.tmps.getD x undef)))).run P w with
    | halt x y => rw [hq] at hp; cases hp
    | ok pa w2 =>
      rw [hq] at hp
      simp only [Result.andThen_ok, Result.ok.injEq] at hp
      obtain ⟨rfl, rfl⟩ := hp
      simp only [Sem.run_bind, hq, Result.andThen_ok, Sem.run_pure, Array.length_toList]
      congr 1
  · have RF := renL_rep M _ _ R1
    have RF := RepL.mono ⟨imm, fun _ _ => rfl⟩ ⟨fun _ => Nat.le_refl _, fun _ _ => rfl⟩ _ _ RF
    have hlen := R1.length
    have tup : RV F w μ' out (renV m (.tup ws)) (.tuple cvs.toArray) := ⟨_, rfl, RF⟩
    rcases ws with _ | ⟨x, _ | ⟨y, ws⟩⟩
    · rw [dif_neg (by rw [← hlen]; simp)]
      exact tup
    · rcases cvs with _ | ⟨cx, _ | ⟨cy, cvs⟩⟩
      · simp at hlen
      · exact RF.1
      · simp at hlen
    · rw [dif_neg (by rw [← hlen]; simp)]
      exact tup
  · refine ⟨T.size, T.keep, fun b hb => T.mt b (mutB hb), fun id => ?_, fun id he => ?_⟩
    · cases id with
      | arg k =>
        by_cases hk : k < bs0.length
        · have := T.gen (.arg k)
          simp only [Gs, outarg k hk]
          rw [ren_ent (argent k hk), gen_ren (argent k hk)]
          exact this
        · simp only [Gs, enterA, getD_not (List.getElem?_eq_none (Nat.le_of_not_lt hk)), gen]
          exact Nat.zero_le _
      | ret k => exact Nat.zero_le _
      | site x y z => exact Nat.zero_le _
    · cases id with
      | arg k =>
        by_cases hk : k < bs0.length
        · rw [μarg k hk]
          refine T.addr (.arg k) ?_
          simp only [Gs, outarg k hk] at he
          rw [ren_ent (argent k hk), gen_ren (argent k hk)] at he
          exact he
        · exact if_neg hk
      | ret k =>
        cases hx : l[k]? with
        | none => simp only [μ', hx]
        | some x =>
          simp only [Gs, outret k x hx, gen_ren (hee _ (List.mem_of_getElem? hx)), enterA] at he
          exact absurd he (by simp [gen])
      | site x y z => rfl
theorem fnA_inv {P : Program} {f : FuncId} {fa : FnA} (h : fnA P f = some fa) : P.funcs[f]? = some fa.fn ∧ (fa.fn.name == "runtime.NumGoroutine") = false ∧ fa.fn.body = some fa.code ∧ dstOk fa.fn.ntmps fa.code = true := by
  unfold fnA at h
  split at h
  · cases h
  · rename_i fn hf
    split at h
    · cases h
    · rename_i hn
      split at h
      · cases h
      · rename_i c hb
        split at h
        · rename_i hd
          cases h
          exact ⟨hf, by simpa using hn, hb, hd⟩
        · cases h
theorem dstOk_mono {n m : Nat} (h : n ≤ m) : ∀ {c : Code}, dstOk n c = true → dstOk m c = true
  | .region _ ops _, hc => by
    unfold dstOk at hc ⊢
    rw [List.all_eq_true] at hc ⊢
    intro o ho
    have := hc o ho
    cases hd : o.dst with
    | none => rfl
    | some d =>
      rw [hd] at this
      have h2 : d < n := of_decide_eq_true this
      exact decide_eq_true (Nat.lt_of_lt_of_le h2 h)
  | .seq a b, hc => by
    simp only [dstOk, Bool.and_eq_true] at hc ⊢
    exact ⟨dstOk_mono h hc.1, dstOk_mono h hc.2⟩
  | .cond _ a b, hc => by
    simp only [dstOk, Bool.and_eq_true] at hc ⊢
    exact ⟨dstOk_mono h hc.1, dstOk_mono h hc.2⟩
  | .block _ b, hc => by
    simp only [dstOk] at hc ⊢
    exact dstOk_mono h hc
  | .loop b, hc => by
    simp only [dstOk] at hc ⊢
    exact dstOk_mono h hc
  | .skip, _ => rfl
  | .rangeFunc _ _ _ _, _ => rfl
  | .exit _, _ => rfl
  | .scope _, _ => rfl
  | .label _, _ => rfl
  | .goto _, _ => rfl
  | .ret, _ => rfl
  | .refuse _, _ => rfl
/-- THE EVALUATOR IS RIGHT -/
theorem evF_sound {P : Program} (hm : P.follows .mixedOrders = true) {cfg : Cfg} (hext : ∀ f sm, cfg.ext f = some sm → SoundF P f sm) : ∀ (k : Nat) (f : FuncId), SoundF P f (evF P cfg k f)
  | 0, f => fun args bs v bs' news h => by cases h
  | k + 1, f => fun args bs v bs' news h => by
    have hc := evF_sound hm hext k
    unfold evF at h
    cases he : cfg.ext f with
    | some sm =>
      rw [he] at h
      exact hext f sm he args bs v bs' news h
    | none =>
      rw [he] at h
      simp only at h
      cases hf : fnA P f with
      | none => rw [hf] at h; cases h
      | some fa =>
        rw [hf] at h
        simp only at h
        obtain ⟨k1, k2, k3, k4⟩ := fnA_inv hf
        refine ⟨⟨fa.fn, fa.code, k1, k2, k3⟩, fun F w μ cargs S R => ?_⟩
        have hout : ∃ e s, evC P (evF P cfg k) k fa.code (enterA args bs) = some (e, s) ∧ (e = .normal ∨ e = .ret) ∧ ∃ l, outA P (cfg.own f) bs.length fa.fn.results.toList s = some ((v, bs', news), l) := by
          cases hev : evC P (evF P cfg k) k fa.code (enterA args bs) with
          | none => rw [hev] at h; cases h
          | some q =>
            obtain ⟨e, s⟩ := q
            rw [hev] at h
            cases e with
            | normal =>
              obtain ⟨⟨x, l⟩, h1, h2⟩ := Option.map_eq_some_iff.1 h
              exact ⟨.normal, s, rfl, .inl rfl, l, by rw [h1, ← h2]⟩
            | ret =>
              obtain ⟨⟨x, l⟩, h1, h2⟩ := Option.map_eq_some_iff.1 h
              exact ⟨.ret, s, rfl, .inr rfl, l, by rw [h1, ← h2]⟩
            | exit id => cases h
        obtain ⟨e, s, hev, hee, l, hol⟩ := hout
        refine calls_of_wp k1 k3 ?_
        have hsize : (cargs ++ Array.replicate (fa.fn.ntmps - cargs.size) undef).size = cargs.size + (fa.fn.ntmps - cargs.size) := by simp
        have R0 : Rel F (cargs.size + (fa.fn.ntmps - cargs.size)) w μ (enterA args bs) { tmps := cargs ++ Array.replicate (fa.fn.ntmps - cargs.size) undef, defers := [] } := by
          refine ⟨S, fun t => ?_, hsize, rfl⟩
          show RV F w μ (enterA args bs) (args.getD t (.tup [])) ((cargs ++ Array.replicate (fa.fn.ntmps - cargs.size) undef).getD t undef)
          rw [Array.getD_eq_getD_getElem?]
          cases ha : args[t]? with
          | some x =>
            obtain ⟨cx, c1, c2⟩ := R.get t x ha
            have hlt : t < cargs.size := by
              have := (List.getElem?_eq_some_iff.1 c1).1
              simpa using this
            rw [getD_get ha, Array.getElem?_append_left hlt]
            have c1 : cargs[t]? = some cx := by simpa using c1
            rw [c1]
            exact c2
          | none =>
            rw [getD_not ha]
            have hge : ¬ t < cargs.size := fun hlt => by
              have hl : args.length = cargs.size := by rw [R.length]; simp
              have h1 := List.getElem?_eq_none_iff.1 ha
              omega
            rw [Array.getElem?_append_right (Nat.le_of_not_lt hge)]
            have : ((Array.replicate (fa.fn.ntmps - cargs.size) undef)[t - cargs.size]?).getD undef = undef := by
              rw [Array.getElem?_replicate]
              split <;> rfl
            rw [this]
            exact ⟨#[], rfl, trivial⟩
        refine (evC_sound hm hc k).1 fa.code (enterA args bs) s e w μ _ _ hev (dstOk_mono (by omega) k4) R0 fun a' w' μ' R' T' => ?_
        obtain ⟨cv, μ2, o1, o2, o3, o4⟩ := outA_sound R' T'.tr hol
        have : a'.defers = [] ∧ ∃ v, (results fa.fn a'.tmps).run P w' = .ok v w' ∧ (∃ cv μ', Ending.returned v = .returned cv ∧ SRel w'.heap F μ' (outSt bs' news) ∧ RV F w' μ' (outSt bs' news) (_ : AV) cv ∧ TrW w μ (enterA args bs) w' μ' (outSt bs' news)) :=
          ⟨R'.defers, cv, o1, cv, μ2, rfl, o2, o3, ⟨o4, T'.io⟩⟩
        rcases hee with rfl | rfl
        · exact this
        · exact this
end Go.Am
/-
The abstract machine without fuel: what it answers with fuel enough.
-/
namespace Go.Am
open Go
/-- the answer with fuel enough -/
noncomputable def lim {α : Type} (f : Nat → Option α) : Option α :=
  open Classical in if h : ∃ k, (f k).isSome = true then f h.choose else none
def MonoN {α : Type} (f : Nat → Option α) : Prop := ∀ k k' x, k ≤ k' → f k = some x → f k' = some x
theorem lim_iff {α : Type} {f : Nat → Option α} (hf : MonoN f) (x : α) : lim f = some x ↔ ∃ k, f k = some x := by
  unfold lim
  constructor
  · intro h
    split at h
    · exact ⟨_, h⟩
    · cases h
  · rintro ⟨k, hk⟩
    have he : ∃ k, (f k).isSome = true := ⟨k, by rw [hk]; rfl⟩
    rw [dif_pos he]
    have h1 := he.choose_spec
    generalize he.choose = j at h1 ⊢
    cases hj : f j with
    | none => rw [hj] at h1; cases h1
    | some y =>
      rcases Nat.le_total j k with h | h
      · have := hf _ _ _ h hj; rw [hk] at this; exact this.symm
      · have := hf _ _ _ h hk; rw [hj] at this; exact this
theorem opt_ext {α : Type} {a b : Option α} (h : ∀ x, a = some x ↔ b = some x) : a = b := by
  cases a with
  | none => cases b with
    | none => rfl
    | some y => have := (h y).2 rfl; cases this
  | some x => exact ((h x).1 rfl).symm
variable {P : Program}
section
variable (P : Program) (cfg : Cfg)
noncomputable def W : Fs := fun g a b => lim fun k => evF P cfg k g a b
noncomputable def C (c : Code) (s : St) : Option (Ex × St) := lim fun k => evC P (W P cfg) k c s
end
variable {cfg : Cfg}
theorem W_iff (g : FuncId) (a b : List AV) (x : AV × List AV × List AV) : W P cfg g a b = some x ↔ ∃ k, evF P cfg k g a b = some x :=
  lim_iff (fun k k' x h hx => evF_mono cfg h _ _ _ _ hx) x
theorem leW (k : Nat) : LeF (evF P cfg k) (W P cfg) := fun g a b x h => (W_iff g a b x).2 ⟨k, h⟩
theorem LeF.refl (c : Fs) : LeF c c := fun _ _ _ _ h => h
theorem C_iff (c : Code) (s : St) (x : Ex × St) : C P cfg c s = some x ↔ ∃ k, evC P (W P cfg) k c s = some x :=
  lim_iff (fun k k' x h hx => evC_mono (LeF.refl _) h _ _ _ hx) x
theorem W_sound (hP : P.follows .mixedOrders = true) (hx : ∀ f sm, cfg.ext f = some sm → SoundF P f sm) (f : FuncId) : SoundF P f (W P cfg f) := by
  intro args bs v bs' news h
  obtain ⟨k, hk⟩ := (W_iff _ _ _ _).1 h
  exact evF_sound hP hx k f args bs v bs' news hk
/-! ### the equations of code -/
theorem C_skip (s : St) : C P cfg .skip s = some (.normal, s) := (C_iff _ _ _).2 ⟨1, rfl⟩
theorem C_exit (id : Nat) (s : St) : C P cfg (.exit id) s = some (.exit id, s) := (C_iff _ _ _).2 ⟨1, rfl⟩
theorem C_ret (s : St) : C P cfg .ret s = some (.ret, s) := (C_iff _ _ _).2 ⟨1, rfl⟩
theorem C_region (r : Nat) (ops : Array Oper) (d : Bool) (s : St) : C P cfg (.region r ops d) s = match evR P (W P cfg) r ops.toList d s with
    | some s' => some (.normal, s')
    | none => none := by
  apply opt_ext
  intro x
  rw [C_iff]
  constructor
  · rintro ⟨k, h⟩
    cases k with
    | zero => cases h
    | succ k => exact h
  · intro h
    exact ⟨1, h⟩
theorem C_seq (a b : Code) (s : St) : C P cfg (.seq a b) s = match C P cfg a s with
    | some (.normal, s') => C P cfg b s'
    | some (e, s') => some (e, s')
    | none => none := by
  apply opt_ext
  intro x
  rw [C_iff]
  constructor
  · rintro ⟨k, h⟩
    cases k with
    | zero => cases h
    | succ k =>
      unfold evC at h
      simp only at h
      cases ha : evC P (W P cfg) k a s with
      | none => rw [ha] at h; cases h
      | some q =>
        rw [ha] at h
        rw [(C_iff a s q).2 ⟨k, ha⟩]
        obtain ⟨e, s1⟩ := q
        cases e with
        | normal => exact (C_iff _ _ _).2 ⟨k, h⟩
        | _ => exact h
  · intro h
    cases ha : C P cfg a s with
    | none => rw [ha] at h; cases h
    | some q =>
      rw [ha] at h
      obtain ⟨k, hk⟩ := (C_iff _ _ _).1 ha
      obtain ⟨e, s1⟩ := q
      cases e with
      | normal =>
        obtain ⟨j, hj⟩ := (C_iff _ _ _).1 h
        refine ⟨k + j + 1, ?_⟩
        unfold evC
        simp only
        rw [evC_mono (LeF.refl _) (by omega : k ≤ k + j) _ _ _ hk]
        exact evC_mono (LeF.refl _) (by omega : j ≤ k + j) _ _ _ hj
      | _ =>
        refine ⟨k + 1, ?_⟩
        unfold evC
        simp only
        rw [hk]
        exact h
theorem C_cond (c : Operand) (a b : Code) (s : St) : C P cfg (.cond c a b) s = match evO c s with
    | some (.pv (.bool t), _) => C P cfg (if t = true then a else b) s
    | _ => none := by
  apply opt_ext
  intro x
  rw [C_iff]
  constructor
  · rintro ⟨k, h⟩
    cases k with
    | zero => cases h
    | succ k =>
      unfold evC at h
      simp only at h
      cases ht : evO c s with
      | none => rw [ht] at h; cases h
      | some q =>
        rw [ht] at h
        obtain ⟨v, l⟩ := q
        cases v with
        | pv p =>
          cases p with
          | bool u => exact (C_iff _ _ _).2 ⟨k, h⟩
          | _ => cases h
        | _ => cases h
  · intro h
    cases ht : evO c s with
    | none => rw [ht] at h; cases h
    | some q =>
      rw [ht] at h
      obtain ⟨v, l⟩ := q
      cases v with
      | pv p =>
        cases p with
        | bool u =>
          obtain ⟨k, hk⟩ := (C_iff _ _ _).1 h
          refine ⟨k + 1, ?_⟩
          unfold evC
          simp only
          rw [ht]
          exact hk
        | _ => cases h
      | _ => cases h
theorem C_block (id : Nat) (b : Code) (s : St) : C P cfg (.block id b) s = match C P cfg b s with
    | some (.exit id', s') => if id' = id then some (.normal, s') else some (.exit id', s')
    | x => x := by
  apply opt_ext
  intro x
  rw [C_iff]
  constructor
  · rintro ⟨k, h⟩
    cases k with
    | zero => cases h
    | succ k =>
      unfold evC at h
      simp only at h
      cases ha : evC P (W P cfg) k b s with
      | none => rw [ha] at h; cases h
      | some q => rw [ha] at h; rw [(C_iff b s q).2 ⟨k, ha⟩]; exact h
  · intro h
    cases ha : C P cfg b s with
    | none => rw [ha] at h; cases h
    | some q =>
      rw [ha] at h
      obtain ⟨k, hk⟩ := (C_iff _ _ _).1 ha
      refine ⟨k + 1, ?_⟩
      unfold evC
      simp only
      rw [hk]
      exact h
theorem C_loop (b : Code) (s : St) : C P cfg (.loop b) s = match C P cfg b s with
    | some (.normal, s') => C P cfg (.loop b) s'
    | x => x := by
  apply opt_ext
  intro x
  rw [C_iff]
  constructor
  · rintro ⟨k, h⟩
    cases k with
    | zero => cases h
    | succ k =>
      unfold evC at h
      simp only at h
      cases ha : evC P (W P cfg) k b s with
      | none => rw [ha] at h; cases h
      | some q =>
        rw [ha] at h
        rw [(C_iff b s q).2 ⟨k, ha⟩]
        obtain ⟨e, s1⟩ := q
        cases e with
        | normal => exact (C_iff _ _ _).2 ⟨k, h⟩
        | _ => exact h
  · intro h
    cases ha : C P cfg b s with
    | none => rw [ha] at h; cases h
    | some q =>
      rw [ha] at h
      obtain ⟨k, hk⟩ := (C_iff _ _ _).1 ha
      obtain ⟨e, s1⟩ := q
      cases e with
      | normal =>
        obtain ⟨j, hj⟩ := (C_iff _ _ _).1 h
        refine ⟨k + j + 1, ?_⟩
        unfold evC
        simp only
        rw [evC_mono (LeF.refl _) (by omega : k ≤ k + j) _ _ _ hk]
        exact evC_mono (LeF.refl _) (by omega : j ≤ k + j) _ _ _ hj
      | _ =>
        refine ⟨k + 1, ?_⟩
        unfold evC
        simp only
        rw [hk]
        exact h
/-! ### a run calls finitely often -/
theorem bind_fin {α β : Type} {m : RM α} {f : α → RM β} {f' : Nat → α → RM β} {s : St} {x : β × List Loc}
    (hf : ∀ a y, f a s = some y → ∃ n, f' n a s = some y) (h : (m >>= f) s = some x) : ∃ n, (m >>= f' n) s = some x := by
  obtain ⟨a, l, b, l', h1, h2, rfl⟩ := bind_eq h
  obtain ⟨n, hn⟩ := hf _ _ h2
  exact ⟨n, bind_mk h1 hn⟩
theorem callA_fin {g : FuncId} {r o : Nat} {vals : List AV} {s : St} {x : Eff × List Loc}
    (h : callA (W P cfg g) r o vals s = some x) : ∃ k, callA (evF P cfg k g) r o vals s = some x := by
  unfold callA at h ⊢
  refine bind_fin (f' := fun n q => _) (fun q y h => ?_) h
  refine bind_fin (f' := fun n q => _) (fun q y h => ?_) h
  refine bind_fin (f' := fun n q => _) (fun q y h => ?_) h
  refine bind_fin (f' := fun n q => _) (fun q y h => ?_) h
  obtain ⟨a, l, b, l', h1, h2, rfl⟩ := bind_eq h
  revert h1
  generalize ha : W P cfg g _ _ = ra
  intro h1
  cases ra with
  | none => cases h1
  | some q' =>
    obtain ⟨k, hk⟩ := (W_iff _ _ _ _).1 ha
    refine ⟨k, bind_mk (a := a) (l := l) ?_ h2⟩
    rw [hk]
    exact h1
theorem callOpA_fin {r j : Nat} {k : Call} {s : St} {x : Eff × List Loc}
    (h : callOpA P (W P cfg) r j k s = some x) : ∃ n, callOpA P (evF P cfg n) r j k s = some x := by
  obtain ⟨callee, args, ts⟩ := k
  cases callee with
  | builtin b => exact ⟨0, h⟩
  | value f =>
    unfold callOpA at h ⊢
    refine bind_fin (f' := fun n q => _) (fun q y h => ?_) h
    refine bind_fin (f' := fun n q => _) (fun q' y h => ?_) h
    cases q with
    | fn g first cap => exact callA_fin h
    | _ => exact ⟨0, h⟩
  | invoke _ _ => exact ⟨0, h⟩
theorem opA_fin {r j : Nat} {o : Op} {s : St} {x : Eff × List Loc}
    (h : opA P (W P cfg) r j o s = some x) : ∃ n, opA P (evF P cfg n) r j o s = some x := by
  cases o with
  | call k => exact callOpA_fin h
  | slice t x lo hi mx => cases mx <;> exact ⟨0, h⟩
  | _ => exact ⟨0, h⟩
theorem stepA_fin {all : List Oper} {r j : Nat} {o : Oper} {s : St} {x : Eff × List Loc}
    (h : stepA P (W P cfg) all r j o s = some x) : ∃ n, stepA P (evF P cfg n) all r j o s = some x := by
  unfold stepA at h ⊢
  obtain ⟨a1, l1, b1, m1, h1, h, e1⟩ := bind_eq h
  subst e1
  cases a1
  · exact ⟨0, bind_mk h1 h⟩
  · obtain ⟨n, hn⟩ := opA_fin h
    exact ⟨n, bind_mk h1 hn⟩
theorem evOps_fin {all : List Oper} {r : Nat} : ∀ (os : List Oper) (j : Nat) (s x : St),
    evOps P (W P cfg) all r j os s = some x → ∃ n, evOps P (evF P cfg n) all r j os s = some x
  | [], _, _, _, h => ⟨0, h⟩
  | o :: os, j, s, x, h => by
    unfold evOps at h ⊢
    cases hs : stepA P (W P cfg) all r j o s with
    | none => rw [hs] at h; cases h
    | some q =>
      rw [hs] at h
      obtain ⟨n, hn⟩ := stepA_fin hs
      obtain ⟨m, hm⟩ := evOps_fin os _ _ _ h
      refine ⟨n + m, ?_⟩
      rw [stepA_mono (evF_mono cfg (by omega : n ≤ n + m)) hn]
      exact evOps_mono (evF_mono cfg (by omega : m ≤ n + m)) _ _ _ _ hm
theorem evOpsD_fin {all : List Oper} {r : Nat} : ∀ (os : List Oper) (j : Nat) (s : St) (x : St × List (List Loc × List Loc)),
    evOpsD P (W P cfg) all r j os s = some x → ∃ n, evOpsD P (evF P cfg n) all r j os s = some x
  | [], _, _, _, h => ⟨0, h⟩
  | o :: os, j, s, x, h => by
    unfold evOpsD at h ⊢
    cases hs : stepA P (W P cfg) all r j o s with
    | none => rw [hs] at h; cases h
    | some q =>
      rw [hs] at h
      simp only at h
      cases hr : evOpsD P (W P cfg) all r (j + 1) os (app s o.dst q.1) with
      | none => rw [hr] at h; cases h
      | some q' =>
        rw [hr] at h
        obtain ⟨n, hn⟩ := stepA_fin hs
        obtain ⟨m, hm⟩ := evOpsD_fin os _ _ _ hr
        refine ⟨n + m, ?_⟩
        rw [stepA_mono (evF_mono cfg (by omega : n ≤ n + m)) hn]
        simp only
        rw [evOpsD_mono (evF_mono cfg (by omega : m ≤ n + m)) _ _ _ _ hm]
        exact h
theorem evR_fin {r : Nat} {ops : List Oper} {d : Bool} {s x : St}
    (h : evR P (W P cfg) r ops d s = some x) : ∃ n, evR P (evF P cfg n) r ops d s = some x := by
  unfold evR at h ⊢
  cases d
  · exact evOps_fin _ _ _ _ h
  · simp only [if_true] at h ⊢
    cases hr : evOpsD P (W P cfg) ops r 0 ops s with
    | none => rw [hr] at h; cases h
    | some q' =>
      rw [hr] at h
      obtain ⟨n, hn⟩ := evOpsD_fin _ _ _ _ hr
      exact ⟨n, by rw [hn]; exact h⟩
theorem evC_fin : ∀ {k : Nat} (b : Code) (s : St) (x : Ex × St),
    evC P (W P cfg) k b s = some x → ∃ n, evC P (evF P cfg n) k b s = some x
  | 0, _, _, _, h => by cases h
  | k + 1, b, s, x, h => by
    have ih := @evC_fin k
    cases b with
    | region r ops d =>
      unfold evC at h ⊢
      simp only at h ⊢
      cases hr : evR P (W P cfg) r ops.toList d s with
      | none => rw [hr] at h; cases h
      | some q => rw [hr] at h; obtain ⟨n, hn⟩ := evR_fin hr; exact ⟨n, by rw [hn]; exact h⟩
    | seq a b =>
      unfold evC at h ⊢
      simp only at h ⊢
      cases ha : evC P (W P cfg) k a s with
      | none => rw [ha] at h; cases h
      | some q =>
        rw [ha] at h
        obtain ⟨n, hn⟩ := ih _ _ _ ha
        obtain ⟨e, s1⟩ := q
        cases e with
        | normal =>
          obtain ⟨m, hm⟩ := ih _ _ _ h
          refine ⟨n + m, ?_⟩
          rw [evC_mono (evF_mono cfg (by omega : n ≤ n + m)) (Nat.le_refl k) _ _ _ hn]
          exact evC_mono (evF_mono cfg (by omega : m ≤ n + m)) (Nat.le_refl k) _ _ _ hm
        | _ => exact ⟨n, by rw [hn]; exact h⟩
    | cond t a b =>
      unfold evC at h ⊢
      simp only at h ⊢
      cases ht : evO t s with
      | none => rw [ht] at h; cases h
      | some q =>
        rw [ht] at h
        obtain ⟨v, l⟩ := q
        cases v with
        | pv p =>
          cases p with
          | bool u => exact ih _ _ _ h
          | _ => cases h
        | _ => cases h
    | block id b =>
      unfold evC at h ⊢
      simp only at h ⊢
      cases ha : evC P (W P cfg) k b s with
      | none => rw [ha] at h; cases h
      | some q => rw [ha] at h; obtain ⟨n, hn⟩ := ih _ _ _ ha; exact ⟨n, by rw [hn]; exact h⟩
    | loop b =>
      unfold evC at h ⊢
      simp only at h ⊢
      cases ha : evC P (W P cfg) k b s with
      | none => rw [ha] at h; cases h
      | some q =>
        rw [ha] at h
        obtain ⟨n, hn⟩ := ih _ _ _ ha
        obtain ⟨e, s1⟩ := q
        cases e with
        | normal =>
          obtain ⟨m, hm⟩ := ih _ _ _ h
          refine ⟨n + m, ?_⟩
          rw [evC_mono (evF_mono cfg (by omega : n ≤ n + m)) (Nat.le_refl k) _ _ _ hn]
          exact evC_mono (evF_mono cfg (by omega : m ≤ n + m)) (Nat.le_refl k) _ _ _ hm
        | _ => exact ⟨n, by rw [hn]; exact h⟩
    | _ => exact ⟨0, h⟩
/-- what is told at a function's end -/
def outF (P : Program) (cfg : Cfg) (f : FuncId) (fn : FnA) (bs : List AV) : Option (Ex × St) → Option (AV × List AV × List AV)
  | some (.normal, s) => (outA P (cfg.own f) bs.length fn.fn.results.toList s).map (·.1)
  | some (.ret, s) => (outA P (cfg.own f) bs.length fn.fn.results.toList s).map (·.1)
  | _ => none
theorem evF_out (k : Nat) (f : FuncId) (a b : List AV) (he : cfg.ext f = none) {fn : FnA} (hf : fnA P f = some fn) :
    evF P cfg (k + 1) f a b = outF P cfg f fn b (evC P (evF P cfg k) k fn.code (enterA a b)) := by
  unfold evF
  rw [he]
  simp only
  rw [hf]
  simp only
  unfold outF
  rfl
theorem W_eq (f : FuncId) (a b : List AV) (he : cfg.ext f = none) {fn : FnA} (hf : fnA P f = some fn) :
    W P cfg f a b = outF P cfg f fn b (C P cfg fn.code (enterA a b)) := by
  apply opt_ext
  intro x
  rw [W_iff]
  constructor
  · rintro ⟨k, h⟩
    cases k with
    | zero => cases h
    | succ k =>
      rw [evF_out k f a b he hf] at h
      cases hc : evC P (evF P cfg k) k fn.code (enterA a b) with
      | none => rw [hc] at h; cases h
      | some q =>
        rw [hc] at h
        rw [(C_iff _ _ q).2 ⟨k, evC_mono (leW k) (Nat.le_refl k) _ _ _ hc⟩]
        exact h
  · intro h
    cases hc : C P cfg fn.code (enterA a b) with
    | none => rw [hc] at h; cases h
    | some q =>
      rw [hc] at h
      obtain ⟨k, hk⟩ := (C_iff _ _ _).1 hc
      obtain ⟨n, hn⟩ := evC_fin _ _ _ hk
      refine ⟨n + k + 1, ?_⟩
      rw [evF_out _ f a b he hf, evC_mono (evF_mono cfg (by omega : n ≤ n + k)) (by omega : k ≤ n + k) _ _ _ hn]
      exact h
end Go.Am
/-
Sealed copies of the abstract machine's functions: the kernel does not run them; they turn by their equations alone.
-/
namespace Go.Am
open Go
theorem updX : ∃ f : St → Loc → AV → St, f = upd := ⟨_, rfl⟩
noncomputable def up : St → Loc → AV → St := updX.choose
theorem up_is : up = upd := updX.choose_spec
theorem evOpsX : ∃ f : Program → Fs → List Oper → Nat → Nat → List Oper → St → Option St, f = evOps := ⟨_, rfl⟩
noncomputable def ops1 : Program → Fs → List Oper → Nat → Nat → List Oper → St → Option St := evOpsX.choose
theorem ops1_is : ops1 = evOps := evOpsX.choose_spec
theorem evOpsDX : ∃ f : Program → Fs → List Oper → Nat → Nat → List Oper → St → Option (St × List (List Loc × List Loc)), f = evOpsD := ⟨_, rfl⟩
noncomputable def opsD1 : Program → Fs → List Oper → Nat → Nat → List Oper → St → Option (St × List (List Loc × List Loc)) := evOpsDX.choose
theorem opsD1_is : opsD1 = evOpsD := evOpsDX.choose_spec
theorem opAX : ∃ f : Program → Fs → Nat → Nat → Op → RM Eff, f = opA := ⟨_, rfl⟩
noncomputable def op1 : Program → Fs → Nat → Nat → Op → RM Eff := opAX.choose
theorem op1_is : op1 = opA := opAX.choose_spec
theorem stepAX : ∃ f : Program → Fs → List Oper → Nat → Nat → Oper → RM Eff, f = stepA := ⟨_, rfl⟩
noncomputable def st1 : Program → Fs → List Oper → Nat → Nat → Oper → RM Eff := stepAX.choose
theorem st1_is : st1 = stepA := stepAX.choose_spec
variable {P : Program} {cfg : Cfg}
/-! ### answers without the log -/
def kb {α β : Type} (x : Option α) (f : α → Option β) : Option β :=
  match x with
  | some a => f a
  | none => none
theorem kb_some {α β : Type} (a : α) (f : α → Option β) : kb (some a) f = f a := rfl
theorem kb_none {α β : Type} (f : α → Option β) : kb none f = none := rfl
theorem kb_ite {α β : Type} (c : Prop) [Decidable c] (x y : Option α) (f : α → Option β) : kb (if c then x else y) f = if c then kb x f else kb y f := by split <;> rfl
theorem vRX : ∃ f : (α : Type) → RM α → St → Option α, f = fun _ m s => (m s).map (·.1) := ⟨_, rfl⟩
noncomputable def vR {α : Type} (m : RM α) (s : St) : Option α := vRX.choose α m s
theorem vR_is {α : Type} (m : RM α) (s : St) : vR m s = (m s).map (·.1) := by unfold vR; rw [vRX.choose_spec]
theorem vR_bind {α β : Type} (m : RM α) (f : α → RM β) (s : St) : vR (m >>= f) s = kb (vR m s) fun a => vR (f a) s := by
  rw [vR_is, vR_is]
  show (RM.bind m f s).map _ = _
  unfold RM.bind
  cases m s with
  | none => rfl
  | some q =>
    obtain ⟨a, l⟩ := q
    simp only [Option.map_some, kb_some, vR_is]
    cases f a s <;> rfl
theorem vR_pure {α : Type} (a : α) (s : St) : vR (RM.pure a) s = some a := by rw [vR_is]; rfl
theorem vR_rd (x : Loc) (s : St) : vR (rd x) s = some (s x) := by rw [vR_is]; rfl
theorem vR_fail {α : Type} (s : St) : vR (RM.fail : RM α) s = none := by rw [vR_is]; rfl
theorem vR_lift {α : Type} (o : Option α) (s : St) : vR (lift o) s = o := by rw [vR_is]; cases o <;> rfl
theorem vR_need (b : Bool) (s : St) : vR (need b) s = if b = true then some () else none := by rw [vR_is]; cases b <;> rfl
theorem vR_ret (v : AV) (s : St) : vR (ret v) s = some { v := v, wr := [] } := by rw [vR_is]; rfl
theorem vR_ite {α : Type} (c : Prop) [Decidable c] (m n : RM α) (s : St) : vR (if c then m else n) s = if c then vR m s else vR n s := by split <;> rfl
theorem up_app (s : St) (x : Loc) (v : AV) (y : Loc) : up s x v y = if y = x then v else s y := by rw [up_is]; rfl
theorem up_tt (s : St) (n m : Nat) (v : AV) : up s (.t n) v (.t m) = if m = n then v else s (.t m) := by
  rw [up_app]
  by_cases h : m = n
  · rw [if_pos h, if_pos (by rw [h])]
  · rw [if_neg h, if_neg (fun e => h (by cases e; rfl))]
theorem up_ti (s : St) (n : Nat) (x : Id) (v : AV) : up s (.t n) v (.i x) = s (.i x) := by
  rw [up_app, if_neg (by intro e; cases e)]
theorem up_it (s : St) (n : Nat) (x : Id) (v : AV) : up s (.i x) v (.t n) = s (.t n) := by
  rw [up_app, if_neg (by intro e; cases e)]
theorem up_ii (s : St) (x y : Id) (v : AV) : up s (.i x) v (.i y) = if y = x then v else s (.i y) := by
  rw [up_app]
  by_cases h : y = x
  · rw [if_pos h, if_pos (by rw [h])]
  · rw [if_neg h, if_neg (fun e => h (by cases e; rfl))]
/-! ### operations -/
theorem ops1_nil (call : Fs) (all : List Oper) (r j : Nat) (s : St) : ops1 P call all r j [] s = some s := by rw [ops1_is]; rfl
theorem ops1_gen (call : Fs) (all : List Oper) (r j : Nat) (o : Oper) (os : List Oper) (s : St) : ops1 P call all r j (o :: os) s =
    kb (vR (st1 P call all r j o) s) fun e => ops1 P call all r (j + 1) os (app s o.dst e) := by
  rw [ops1_is, st1_is, vR_is]
  show (match stepA P call all r j o s with
    | none => none
    | some (e, _) => evOps P call all r (j + 1) os (app s o.dst e)) = _
  cases stepA P call all r j o s <;> rfl
theorem st1_none (call : Fs) (all : List Oper) (r j : Nat) (o : Oper) (h : o.guard = none) (s : St) : vR (st1 P call all r j o) s = vR (op1 P call r j o.op) s := by
  rw [st1_is, op1_is]
  unfold stepA wantedA
  rw [h, vR_bind, vR_pure]
  rfl
theorem st1_some (call : Fs) (all : List Oper) (r j : Nat) (o : Oper) {g : Nat} {w : Bool} (h : o.guard = some (g, w)) (s : St) : vR (st1 P call all r j o) s =
    kb (vR (wantedA all o) s) fun b => if b = true then vR (op1 P call r j o.op) s else some { v := .tup [], wr := [] } := by
  rw [st1_is, op1_is]
  unfold stepA
  rw [vR_bind]
  congr 1
  funext b
  cases b
  · exact vR_ret _ _
  · rfl
theorem app_some' (s : St) (d : Tmp) (v : AV) (w : List (Loc × AV)) : app s (some d) { v := v, wr := w } = up (upds s w) (.t d) v := by rw [up_is]; rfl
theorem app_none' (s : St) (v : AV) (w : List (Loc × AV)) : app s none { v := v, wr := w } = upds s w := rfl
theorem ops1_move (call : Fs) (all : List Oper) (r j : Nat) (os : List Oper) (s : St) (d t : Tmp) (ty : TypeId) (p : String) (a : Array Edge) :
    ops1 P call all r j (⟨some d, .move (.tmp t), ty, p, a, none⟩ :: os) s = ops1 P call all r (j + 1) os (up s (.t d) (s (.t t))) := by
  rw [ops1_gen, st1_none _ _ _ _ _ rfl, op1_is]
  show kb (vR (rd (.t t) >>= fun v => ret v) s) _ = _
  rw [vR_bind, vR_rd, kb_some, vR_ret, kb_some, app_some']
  rfl
theorem ops1_assign (call : Fs) (all : List Oper) (r j : Nat) (os : List Oper) (s : St) (d t : Tmp) (ty : TypeId) (p : String) (a : Array Edge) :
    ops1 P call all r j (⟨some d, .assign (.tmp t), ty, p, a, none⟩ :: os) s = ops1 P call all r (j + 1) os (up s (.t d) (s (.t t))) := by
  rw [ops1_gen, st1_none _ _ _ _ _ rfl, op1_is]
  show kb (vR (rd (.t t) >>= fun v => ret v) s) _ = _
  rw [vR_bind, vR_rd, kb_some, vR_ret, kb_some, app_some']
  rfl
theorem ops1_dst (call : Fs) (all : List Oper) (r j : Nat) (os : List Oper) (s : St) (op : Op) (d : Tmp) (ty : TypeId) (p : String) (a : Array Edge) :
    ops1 P call all r j (⟨some d, op, ty, p, a, none⟩ :: os) s = kb (vR (op1 P call r j op) s) fun e => ops1 P call all r (j + 1) os (up (upds s e.wr) (.t d) e.v) := by
  rw [ops1_gen, st1_none _ _ _ _ _ rfl]
  congr 1
  funext e
  rw [up_is]
  rfl
theorem ops1_nodst (call : Fs) (all : List Oper) (r j : Nat) (os : List Oper) (s : St) (op : Op) (ty : TypeId) (p : String) (a : Array Edge) :
    ops1 P call all r j (⟨none, op, ty, p, a, none⟩ :: os) s = kb (vR (op1 P call r j op) s) fun e => ops1 P call all r (j + 1) os (upds s e.wr) := by
  rw [ops1_gen, st1_none _ _ _ _ _ rfl]
  rfl
/-- what a guard says -/
def gB (v : AV) (want : Bool) : Option Bool :=
  match v with
  | .pv (.bool b) => some (b == want)
  | .tup _ => some false
  | _ => none
theorem gB_bool (b want : Bool) : gB (.pv (.bool b)) want = some (b == want) := rfl
theorem gB_tup (l : List AV) (want : Bool) : gB (.tup l) want = some false := rfl
def gT (t : Option Tmp) (s : St) (want : Bool) : Option Bool :=
  match t with
  | none => some false
  | some t => gB (s (.t t)) want
theorem gT_some (t : Tmp) (s : St) (want : Bool) : gT (some t) s want = gB (s (.t t)) want := rfl
theorem ops1_guard (call : Fs) (all : List Oper) (r j : Nat) (os : List Oper) (s : St) (op : Op) (d : Tmp) (ty : TypeId) (p : String) (a : Array Edge) (g : Nat) (w : Bool) :
    ops1 P call all r j (⟨some d, op, ty, p, a, some (g, w)⟩ :: os) s = kb (gT ((all[g]?).bind (·.dst)) s w) fun b =>
      if b = true then kb (vR (op1 P call r j op) s) fun e => ops1 P call all r (j + 1) os (up (upds s e.wr) (.t d) e.v)
      else ops1 P call all r (j + 1) os (up s (.t d) (.tup [])) := by
  rw [ops1_gen, st1_some _ _ _ _ _ rfl]
  have hw : vR (wantedA all ⟨some d, op, ty, p, a, some (g, w)⟩) s = gT ((all[g]?).bind (·.dst)) s w := by
    unfold wantedA
    simp only
    cases (all[g]?).bind (·.dst) with
    | none => exact vR_pure _ _
    | some t =>
      simp only
      rw [vR_bind, vR_rd, kb_some]
      show _ = gB (s (.t t)) w
      generalize s (.t t) = v
      cases v with
      | pv q => cases q <;> first | exact vR_pure _ _ | exact vR_fail _
      | tup _ => exact vR_pure _ _
      | _ => exact vR_fail _
  rw [hw]
  cases gT ((all[g]?).bind (·.dst)) s w with
  | none => rfl
  | some b =>
    simp only [kb_some]
    cases b
    · simp only [Bool.false_eq_true, if_false, kb_some]
      rw [app_some']
      rfl
    · simp only [if_true]
      congr 1
      funext e
      rw [up_is]
      rfl
theorem opsD1_nil (call : Fs) (all : List Oper) (r j : Nat) (s : St) : opsD1 P call all r j [] s = some (s, []) := by rw [opsD1_is]; rfl
theorem opsD1_cons (call : Fs) (all : List Oper) (r j : Nat) (o : Oper) (os : List Oper) (s : St) : opsD1 P call all r j (o :: os) s =
    match st1 P call all r j o s with
    | none => none
    | some (e, l) => match opsD1 P call all r (j + 1) os (app s o.dst e) with
      | none => none
      | some (s', fs) => some (s', (l, wrote o.dst e) :: fs) := by rw [opsD1_is, st1_is]; rfl
theorem evR_true (call : Fs) (r : Nat) (ops : List Oper) (s : St) : evR P call r ops true s = match opsD1 P call ops r 0 ops s with
    | none => none
    | some (s', fs) => if okReg ops fs = true then some s' else none := by rw [opsD1_is]; rfl
theorem evR_false (call : Fs) (r : Nat) (ops : List Oper) (s : St) : evR P call r ops false s = ops1 P call ops r 0 ops s := by rw [ops1_is]; rfl
theorem upds_nil (s : St) : upds s [] = s := rfl
theorem upds_cons (s : St) (x : Loc) (v : AV) (r : List (Loc × AV)) : upds s ((x, v) :: r) = upds (up s x v) r := by rw [up_is]; rfl
/-! ### each operation -/
theorem e_tmp (t : Tmp) (s : St) : vR (evO (.tmp t)) s = some (s (.t t)) := vR_rd _ _
theorem e_const (c : Value) (s : St) : vR (evO (.const c)) s = constOf c := vR_lift _ _
theorem e_func (f : FuncId) (s : St) : vR (evO (.func f)) s = some (.fn f [] []) := vR_pure _ _
theorem e_nil (s : St) : vR (evOs []) s = some [] := vR_pure _ _
theorem e_cons (o : Operand) (os : List Operand) (s : St) : vR (evOs (o :: os)) s = kb (vR (evO o) s) fun v => kb (vR (evOs os) s) fun vs => some (v :: vs) := by
  show vR (evO o >>= fun v => evOs os >>= fun vs => RM.pure (v :: vs)) s = _
  simp only [vR_bind, vR_pure]
theorem o_move (call : Fs) (r j : Nat) (x : Operand) (s : St) : vR (op1 P call r j (.move x)) s = kb (vR (evO x) s) fun v => some ⟨v, []⟩ := by
  rw [op1_is]; show vR (evO x >>= fun v => ret v) s = _; simp only [vR_bind, vR_ret]
theorem o_assign (call : Fs) (r j : Nat) (x : Operand) (s : St) : vR (op1 P call r j (.assign x)) s = kb (vR (evO x) s) fun v => some ⟨v, []⟩ := by
  rw [op1_is]; show vR (evO x >>= fun v => ret v) s = _; simp only [vR_bind, vR_ret]
def pickK (c : AV) (x y : Option Eff) : Option Eff :=
  match c with
  | .pv (.bool b) => if b = true then x else y
  | _ => none
theorem pickK_bool (b : Bool) (x y : Option Eff) : pickK (.pv (.bool b)) x y = if b = true then x else y := rfl
theorem o_pick (call : Fs) (r j : Nat) (c a b : Operand) (s : St) : vR (op1 P call r j (.pick c a b)) s =
    kb (vR (evO c) s) fun cv => pickK cv (kb (vR (evO a) s) fun v => some ⟨v, []⟩) (kb (vR (evO b) s) fun v => some ⟨v, []⟩) := by
  rw [op1_is]
  unfold opA
  simp only [vR_bind]
  congr 1
  funext cv
  cases cv with
  | pv p => cases p with
    | bool b => cases b <;> simp only [vR_bind, vR_ret, pickK, if_true, if_false, Bool.false_eq_true]
    | _ => exact vR_fail _
  | _ => exact vR_fail _
def optK (o : Option PV) : Option Eff :=
  match o with
  | some p => some ⟨.pv p, []⟩
  | none => none
theorem binNil_int (op : BinOp) (t : TypeId) (x y : Operand) (k k' : IntKind) (a b : Int) : binNil P op t x y (.pv (.int k a)) (.pv (.int k' b)) =
    (match op with
    | .shl | .shr => shiftA op k a b
    | _ => if k = k' then binInt op k a b else none) := rfl
theorem binNil_str (op : BinOp) (t : TypeId) (x y : Operand) (a b : List UInt8) : binNil P op t x y (.pv (.str a)) (.pv (.str b)) = binStr op a b := rfl
theorem binNil_bool (op : BinOp) (t : TypeId) (x y : Operand) (a b : Bool) : binNil P op t x y (.pv (.bool a)) (.pv (.bool b)) = match tyA P t with
    | some ty => (match ty.d with
      | .bool => eqSame op (a == b)
      | _ => none)
    | none => none := rfl
theorem flat_agg (l : List AV) : flat (.agg l) = l := rfl
theorem flat_pv (p : PV) : flat (.pv p) = [.pv p] := rfl
theorem flat_nilsl : flat .nilsl = [.nilsl] := rfl
theorem flat_ptr (x : Id) (g o : Nat) : flat (.ptr x g o) = [.ptr x g o] := rfl
theorem flat_osl (x : Id) (g o : Nat) : flat (.osl x g o) = [.osl x g o] := rfl
theorem flat_fn (f : FuncId) (a b : List AV) : flat (.fn f a b) = [.fn f a b] := rfl
theorem flat_rptr (c : List PV) (o : Nat) : flat (.rptr c o) = [.rptr c o] := rfl
theorem isCell_pv (p : PV) : isCell (.pv p) = true := rfl
theorem isCell_nilsl : isCell .nilsl = true := rfl
theorem isCell_ptr (x : Id) (g o : Nat) : isCell (.ptr x g o) = true := rfl
theorem isCell_osl (x : Id) (g o : Nat) : isCell (.osl x g o) = true := rfl
theorem isCell_fn (f : FuncId) (a b : List AV) : isCell (.fn f a b) = true := rfl
theorem isCell_rptr (c : List PV) (o : Nat) : isCell (.rptr c o) = true := rfl
theorem gen_box (g : Nat) (c : List AV) : gen (.box g c) = g := rfl
theorem gen_row (g sz : Nat) (b : Bool) (c : List PV) : gen (.row g sz b c) = g := rfl
theorem gen_tup (l : List AV) : gen (.tup l) = 0 := rfl
theorem optK_some (p : PV) : optK (some p) = some ⟨.pv p, []⟩ := rfl
theorem optK_ite (c : Prop) [Decidable c] (x y : Option PV) : optK (if c then x else y) = if c then optK x else optK y := by split <;> rfl
theorem o_bin (call : Fs) (r j : Nat) (op : BinOp) (t u : TypeId) (x y : Operand) (s : St) : vR (op1 P call r j (.binOp op t x y u)) s =
    kb (vR (evO x) s) fun a => kb (vR (evO y) s) fun b => optK (binNil P op t x y a b) := by
  rw [op1_is]
  unfold opA
  simp only [vR_bind]
  congr 1; funext a; congr 1; funext b
  cases binNil P op t x y a b with
  | none => exact vR_fail _
  | some p => exact vR_ret _ _
theorem o_un (call : Fs) (r j : Nat) (op : UnOp) (t : TypeId) (x : Operand) (s : St) : vR (op1 P call r j (.unOp op t x)) s =
    kb (vR (evO x) s) fun a => optK (unA op a) := by
  rw [op1_is]
  unfold opA
  simp only [vR_bind]
  congr 1; funext a
  cases unA op a with
  | none => exact vR_fail _
  | some p => exact vR_ret _ _
theorem o_load (call : Fs) (r j : Nat) (t : TypeId) (x : Operand) (s : St) : vR (op1 P call r j (.load t x)) s =
    kb (vR (evO x) s) fun p => kb (vR (loadA P t p) s) fun v => some ⟨v, []⟩ := by
  rw [op1_is]
  unfold opA
  simp only [vR_bind, vR_ret]
theorem o_store (call : Fs) (r j : Nat) (t : TypeId) (a x : Operand) (s : St) : vR (op1 P call r j (.store t a x)) s =
    kb (vR (evO a) s) fun p => kb (vR (evO x) s) fun v => vR (storeA P t p v) s := by
  rw [op1_is]
  unfold opA
  simp only [vR_bind]
theorem o_bi (call : Fs) (r j : Nat) (b : Builtin) (args : Array Operand) (ts : Array TypeId) (s : St) : vR (op1 P call r j (.call ⟨.builtin b, args, ts⟩)) s =
    kb (vR (evOs args.toList) s) fun vs => vR (builtinA P r j b ts.toList vs) s := by
  rw [op1_is]
  show vR (evOs args.toList >>= fun vs => builtinA P r j b ts.toList vs) s = _
  simp only [vR_bind]
theorem o_alloc (call : Fs) (r j : Nat) (e : TypeId) (s : St) : vR (op1 P call r j (.alloc e)) s = kb (tyA P e) fun ty => kb ty.zero fun z => vR (newBox r j z) s := by
  rw [op1_is]; unfold opA; simp only [vR_bind, vR_lift, zeroOf]
theorem o_box (call : Fs) (r j : Nat) (t : TypeId) (x : Operand) (s : St) : vR (op1 P call r j (.box t x)) s = kb (vR (evO x) s) fun v => vR (newBox r j (flat v)) s := by
  rw [op1_is]; unfold opA; simp only [vR_bind]
theorem o_build (call : Fs) (r j : Nat) (t : TypeId) (ps : Array (Nat × Operand)) (s : St) : vR (op1 P call r j (.build t ps)) s = kb (vR (evParts ps.toList) s) fun ps => vR (buildA P t ps) s := by
  rw [op1_is]; unfold opA; simp only [vR_bind]
theorem o_buildSlice (call : Fs) (r j : Nat) (t : TypeId) (n : Nat) (ps : Array (Nat × Operand)) (s : St) : vR (op1 P call r j (.buildSlice t n ps)) s = kb (vR (evParts ps.toList) s) fun ps => vR (buildSliceA P r j t n ps) s := by
  rw [op1_is]; unfold opA; simp only [vR_bind]
def nilK (v : AV) : Option Eff :=
  match v with
  | .ptr id g off => some ⟨.ptr id g off, []⟩
  | .rptr c off => some ⟨.rptr c off, []⟩
  | _ => none
theorem nilK_ptr (x : Id) (g o : Nat) : nilK (.ptr x g o) = some ⟨.ptr x g o, []⟩ := rfl
theorem nilK_rptr (c : List PV) (o : Nat) : nilK (.rptr c o) = some ⟨.rptr c o, []⟩ := rfl
theorem o_nilCheck (call : Fs) (r j : Nat) (x : Operand) (s : St) : vR (op1 P call r j (.nilCheck x)) s = kb (vR (evO x) s) nilK := by
  rw [op1_is]; unfold opA; simp only [vR_bind]
  congr 1; funext v
  cases v <;> first | exact vR_ret _ _ | exact vR_fail _
theorem o_convert (call : Fs) (r j : Nat) (a b : TypeId) (x : Operand) (s : St) : vR (op1 P call r j (.convert a b x)) s = kb (vR (evO x) s) fun v => vR (convA P a b v) s := by
  rw [op1_is]; unfold opA; simp only [vR_bind]
theorem o_makeSlice (call : Fs) (r j : Nat) (t : TypeId) (l c : Operand) (s : St) : vR (op1 P call r j (.makeSlice t l c)) s = kb (vR (evO l) s) fun a => kb (vR (evO c) s) fun b => vR (makeSliceA P r j t a b) s := by
  rw [op1_is]; unfold opA; simp only [vR_bind]
theorem o_slice (call : Fs) (r j : Nat) (t : TypeId) (x : Operand) (lo hi : Option Operand) (s : St) : vR (op1 P call r j (.slice t x lo hi none)) s = kb (vR (evO x) s) fun v => kb (vR (evOpt lo) s) fun l => kb (vR (evOpt hi) s) fun h => vR (sliceA P t v l h) s := by
  rw [op1_is]; unfold opA; simp only [vR_bind]
theorem o_fieldAddr (call : Fs) (r j : Nat) (t : TypeId) (x : Operand) (f : Nat) (s : St) : vR (op1 P call r j (.fieldAddr t x f)) s = kb (vR (evO x) s) fun v => vR (fieldAddrA P t v f) s := by
  rw [op1_is]; unfold opA; simp only [vR_bind]
theorem o_field (call : Fs) (r j : Nat) (t : TypeId) (x : Operand) (f : Nat) (s : St) : vR (op1 P call r j (.field t x f)) s = kb (vR (evO x) s) fun v => vR (fieldA P t v f) s := by
  rw [op1_is]; unfold opA; simp only [vR_bind]
theorem o_indexAddr (call : Fs) (r j : Nat) (t : TypeId) (x i : Operand) (s : St) : vR (op1 P call r j (.indexAddr t x i)) s = kb (vR (evO x) s) fun v => kb (vR (evO i) s) fun n => vR (indexAddrA P t v n) s := by
  rw [op1_is]; unfold opA; simp only [vR_bind]
theorem o_index (call : Fs) (r j : Nat) (t : TypeId) (x i : Operand) (s : St) : vR (op1 P call r j (.index t x i)) s = kb (vR (evO x) s) fun v => kb (vR (evO i) s) fun n => vR (indexA P t v n) s := by
  rw [op1_is]; unfold opA; simp only [vR_bind]
def tupK (v : AV) (i : Nat) : Option Eff :=
  match v with
  | .tup l => (l[i]?).map fun u => ⟨u, []⟩
  | _ => none
theorem tupK_tup (l : List AV) (i : Nat) : tupK (.tup l) i = (l[i]?).map fun u => ⟨u, []⟩ := rfl
theorem o_extract (call : Fs) (r j : Nat) (t : Operand) (i : Nat) (s : St) : vR (op1 P call r j (.extract t i)) s = kb (vR (evO t) s) fun v => tupK v i := by
  rw [op1_is]; unfold opA; simp only [vR_bind]
  congr 1; funext v
  unfold tupK
  cases v with
  | tup l => simp only; cases l[i]? with
    | none => exact vR_fail _
    | some u => exact vR_ret _ _
  | _ => exact vR_fail _
theorem enterA_t (a b : List AV) (n : Nat) : enterA a b (.t n) = a.getD n (.tup []) := rfl
theorem enterA_arg (a b : List AV) (n : Nat) : enterA a b (.i (.arg n)) = b.getD n (.tup []) := rfl
theorem enterA_site (a b : List AV) (r o j : Nat) : enterA a b (.i (.site r o j)) = .tup [] := rfl
theorem const_int (k : IntKind) (n : Int) : constOf (.int k n) = some (.pv (.int k n)) := rfl
theorem const_bool (b : Bool) : constOf (.bool b) = some (.pv (.bool b)) := rfl
theorem const_str (l : Array UInt8) : constOf (.string ⟨l⟩) = some (.pv (.str l.toList)) := rfl
theorem const_nilsl : constOf (.slice none 0 0) = some .nilsl := rfl
theorem const_nilptr : constOf (.pointer none) = some (.pv .nilptr) := rfl
theorem const_nilif : constOf .nilIface = some (.pv .nilif) := rfl
theorem const_agg (cs : Array Value) : constOf (.agg cs) = kb (cellsOf cs.toList) fun l => some (.agg l) := by
  show (match cellsOf cs.toList with
    | some l => some (AV.agg l)
    | none => none) = _
  cases cellsOf cs.toList <;> rfl
theorem const_tup0 : constOf (.tuple #[]) = some (.tup []) := rfl
theorem cell_int (k : IntKind) (n : Int) : cellOf (.int k n) = some (.pv (.int k n)) := rfl
theorem cell_bool (b : Bool) : cellOf (.bool b) = some (.pv (.bool b)) := rfl
theorem cell_str (l : Array UInt8) : cellOf (.string ⟨l⟩) = some (.pv (.str l.toList)) := rfl
theorem cell_nilsl : cellOf (.slice none 0 0) = some .nilsl := rfl
theorem cells_nil : cellsOf [] = some [] := rfl
theorem cells_cons (v : Value) (vs : List Value) : cellsOf (v :: vs) = kb (cellOf v) fun a => kb (cellsOf vs) fun l => some (a :: l) := by
  show (match cellOf v with
    | none => none
    | some a => match cellsOf vs with
      | none => none
      | some l => some (a :: l)) = _
  cases cellOf v with
  | none => rfl
  | some a => cases cellsOf vs <;> rfl
theorem pure_nil : pureCells [] = some [] := rfl
theorem pure_pv (p : PV) (r : List AV) : pureCells (.pv p :: r) = kb (pureCells r) fun l => some (p :: l) := by
  show (match pureCells r with
    | some l => some (p :: l)
    | none => none) = _
  cases pureCells r <;> rfl
theorem zc_pv (p : PV) : zeroCell (.pv p) = some p := rfl
theorem zc_nilsl : zeroCell .nilsl = some (.sl 0 []) := rfl
theorem zcs_nil : zeroCells [] = some [] := rfl
theorem zcs_cons (a : AV) (l : List AV) : zeroCells (a :: l) = kb (zeroCell a) fun p => kb (zeroCells l) fun ps => some (p :: ps) := by
  show (match zeroCell a, zeroCells l with
    | some p, some ps => some (p :: ps)
    | _, _ => none) = _
  cases zeroCell a with
  | none => rfl
  | some p => cases zeroCells l <;> rfl
theorem ids_pv (p : PV) : idsV (.pv p) = [] := rfl
theorem ids_nilsl : idsV .nilsl = [] := rfl
theorem ids_rptr (c : List PV) (o : Nat) : idsV (.rptr c o) = [] := rfl
theorem ids_ptr (x : Id) (g o : Nat) : idsV (.ptr x g o) = [x] := rfl
theorem ids_osl (x : Id) (g o : Nat) : idsV (.osl x g o) = [x] := rfl
theorem ids_fn (f : FuncId) (a b : List AV) : idsV (.fn f a b) = idsL a ++ idsL b := rfl
theorem ids_agg (l : List AV) : idsV (.agg l) = idsL l := rfl
theorem ids_tup (l : List AV) : idsV (.tup l) = idsL l := rfl
theorem ids_box (g : Nat) (l : List AV) : idsV (.box g l) = idsL l := rfl
theorem ids_row (g sz : Nat) (b : Bool) (l : List PV) : idsV (.row g sz b l) = [] := rfl
theorem idsL_nil : idsL [] = [] := rfl
theorem idsL_cons (v : AV) (vs : List AV) : idsL (v :: vs) = idsV v ++ idsL vs := rfl
theorem setGen_box (n g : Nat) (l : List AV) : setGen n (.box g l) = .box n l := rfl
theorem setGen_row (n g sz : Nat) (b : Bool) (l : List PV) : setGen n (.row g sz b l) = .row n sz b l := rfl
theorem isEnt_box (g : Nat) (l : List AV) : isEnt (.box g l) = true := rfl
theorem isEnt_row (g sz : Nat) (b : Bool) (l : List PV) : isEnt (.row g sz b l) = true := rfl
theorem lookW_nil (x : Loc) : lookW [] x = none := rfl
theorem rdW_nil (x : Loc) (s : St) : vR (rdW [] x) s = some (s x) := by
  unfold rdW; rw [vR_bind, vR_rd, kb_some, vR_pure]; rfl
theorem one_one (x : AV) : oneOf [x] = x := rfl
theorem one_two (x y : AV) (l : List AV) : oneOf (x :: y :: l) = .tup (x :: y :: l) := rfl
theorem ts_toList (c : Call) : typesOf c = c.argTypes.toList := rfl
/-- a whole element of a row -/
def ldK (cells : List PV) (off sz : Nat) : Option AV := (sub? cells off sz).map fun l => .agg (l.map .pv)
theorem loadP_one (sz b : Nat) (d : TD) (z : Option (List AV)) (cells : List PV) (off : Nat) : loadP ⟨sz, b, false, d, z⟩ cells off = (cells[off]?).map .pv := rfl
theorem loadP_agg (sz b : Nat) (d : TD) (z : Option (List AV)) (cells : List PV) (off : Nat) : loadP ⟨sz, b, true, d, z⟩ cells off = ldK cells off sz := rfl
/-! ### calls -/
mutual
theorem renV_none (m : Ren) : ∀ v : AV, idsV v = [] → renV m v = v
  | .pv _, _ => rfl
  | .nilsl, _ => rfl
  | .ptr _ _ _, h => by simp [idsV] at h
  | .osl _ _ _, h => by simp [idsV] at h
  | .rptr _ _, _ => rfl
  | .fn f a b, h => by
    simp only [idsV, List.append_eq_nil_iff] at h
    simp only [renV, renL_none m a h.1, renL_none m b h.2]
  | .agg l, h => by simp only [idsV] at h; simp only [renV, renL_none m l h]
  | .tup l, h => by simp only [idsV] at h; simp only [renV, renL_none m l h]
  | .any, _ => rfl
  | .box g l, h => by simp only [idsV] at h; simp only [renV, renL_none m l h]
  | .row _ _ _ _, _ => rfl
theorem renL_none (m : Ren) : ∀ l : List AV, idsL l = [] → renL m l = l
  | [], _ => rfl
  | v :: vs, h => by
    simp only [idsL, List.append_eq_nil_iff] at h
    simp only [renL, renV_none m v h.1, renL_none m vs h.2]
end
/-- what is given to a function, published -/
noncomputable def giveK (sm : Sm) (r o : Nat) (vs : List AV) (w : List (Loc × AV)) (s : St) : Option Eff := vR (do
  let l ← reach w (dedup [] (idsL vs))
  need (nodupB l)
  let es ← entries w l
  let q ← lift (sm (renL (renTo l es Id.arg) vs) ((renL (renTo l es Id.arg) es).map (setGen 0)))
  need (decide (q.2.1.length = es.length) && (q.2.1.all isEnt && q.2.2.all fun b => isEnt b && decide (0 < gen b)))
  need (q.2.2.isEmpty || noSite r o l)
  let gl ← gens r o q.2.2.length 0
  RM.pure ({ v := renV (renBack r o l es q.2.1 q.2.2 fun j => gl.getD j 0) q.1, wr := w ++ (backW (renBack r o l es q.2.1 q.2.2 fun j => gl.getD j 0) l es q.2.1 ++ newsW (renBack r o l es q.2.1 q.2.2 fun j => gl.getD j 0) r o (fun j => gl.getD j 0) 0 q.2.2) } : Eff)) s
theorem o_call (call : Fs) (r j : Nat) (f : FuncId) (args : Array Operand) (ts : Array TypeId) (s : St) : vR (op1 P call r j (.call ⟨.value (.func f), args, ts⟩)) s =
    kb (vR (evOs args.toList) s) fun vs => kb (vR (pubs vs) s) fun q => giveK (call f) r j q.1 q.2 s := by
  rw [op1_is]
  show vR (RM.pure (AV.fn f [] []) >>= fun fv => evOs args.toList >>= fun vs => match fv with
    | .fn g first cap => callA (call g) r j (first ++ (vs ++ cap))
    | _ => RM.fail) s = _
  simp only [vR_bind, vR_pure, kb_some, List.nil_append, List.append_nil]
  congr 1
  funext vs
  show vR (pubs vs >>= _) s = _
  rw [vR_bind]
  rfl
noncomputable def callV (call : Fs) (r j : Nat) (fv : AV) (vs : List AV) (s : St) : Option Eff := vR (match fv with
    | .fn g first cap => callA (call g) r j (first ++ (vs ++ cap))
    | _ => RM.fail) s
theorem callV_fn (call : Fs) (r j : Nat) (f : FuncId) (vs : List AV) (s : St) : callV call r j (.fn f [] []) vs s = kb (vR (pubs vs) s) fun q => giveK (call f) r j q.1 q.2 s := by
  unfold callV
  simp only [List.nil_append, List.append_nil]
  show vR (pubs vs >>= _) s = _
  rw [vR_bind]
  rfl
theorem o_callt (call : Fs) (r j : Nat) (t : Tmp) (args : Array Operand) (ts : Array TypeId) (s : St) : vR (op1 P call r j (.call ⟨.value (.tmp t), args, ts⟩)) s =
    kb (vR (evOs args.toList) s) fun vs => callV call r j (s (.t t)) vs s := by
  rw [op1_is]
  show vR (rd (.t t) >>= fun fv => evOs args.toList >>= fun vs => match fv with
    | .fn g first cap => callA (call g) r j (first ++ (vs ++ cap))
    | _ => RM.fail) s = _
  simp only [vR_bind, vR_rd, kb_some]
  rfl
/-- behind a call to which nothing in memory was given -/
noncomputable def doneK (r o : Nat) (x : Option (AV × List AV × List AV)) (w : List (Loc × AV)) (s : St) : Option Eff :=
  kb x fun q => if q.2.1 = [] ∧ (q.2.2.all fun b => isEnt b && decide (0 < gen b)) = true then
    kb (vR (gens r o q.2.2.length 0) s) fun gl => some ({ v := renV (renBack r o [] [] [] q.2.2 fun j => gl.getD j 0) q.1, wr := w ++ newsW (renBack r o [] [] [] q.2.2 fun j => gl.getD j 0) r o (fun j => gl.getD j 0) 0 q.2.2 } : Eff)
  else none
theorem doneK_some (r o : Nat) (v : AV) (w : List (Loc × AV)) (s : St) (h : idsV v = []) : doneK r o (some (v, [], [])) w s = some ⟨v, w⟩ := by
  have hv' : ∀ m, renV m v = v := fun m => renV_none m v h
  unfold doneK
  simp [kb_some, gens, vR_pure, newsW, hv']
theorem doneK_none (r o : Nat) (w : List (Loc × AV)) (s : St) : doneK r o none w s = none := rfl
theorem doneK_ite (r o : Nat) (c : Prop) [Decidable c] (x y : Option (AV × List AV × List AV)) (w : List (Loc × AV)) (s : St) : doneK r o (if c then x else y) w s = if c then doneK r o x w s else doneK r o y w s := by split <;> rfl
theorem giveK_plain (sm : Sm) (r o : Nat) (vs : List AV) (w : List (Loc × AV)) (s : St) (h : idsL vs = []) :
    giveK sm r o vs w s = doneK r o (sm vs []) w s := by
  unfold giveK
  rw [h]
  simp only [vR_bind]
  rw [show vR (reach w (dedup [] [])) s = some [] by rw [vR_is]; rfl]
  simp only [kb_some, nodupB, vR_need, if_true, entries, vR_pure]
  rw [show renL (renTo [] [] Id.arg) vs = vs from renL_none _ vs h]
  rw [show List.map (setGen 0) (renL (renTo [] [] Id.arg) []) = [] from rfl]
  simp only [vR_lift]
  unfold doneK
  congr 1
  funext q
  by_cases h1 : q.2.1 = []
  · by_cases h2 : (q.2.2.all fun b => isEnt b && decide (0 < gen b)) = true
    · simp only [h1, h2]
      simp [backW, kb_some, noSite]
    · simp only [h1, h2]
      simp [kb_none]
  · have h3 : q.2.1.length ≠ 0 := fun e => h1 (List.eq_nil_of_length_eq_zero e)
    simp [h1, kb_none]
theorem b_nil (s : St) : vR (pubs []) s = some ([], []) := vR_pure _ _
theorem b_cons (v : AV) (vs : List AV) (s : St) : vR (pubs (v :: vs)) s = kb (vR (pubV v) s) fun a => kb (vR (pubs vs) s) fun b => some (a.1 :: b.1, a.2 ++ b.2) := by
  show vR (pubV v >>= fun a => pubs vs >>= fun b => RM.pure (a.1 :: b.1, a.2 ++ b.2)) s = _
  simp only [vR_bind, vR_pure]
theorem b_pv (p : PV) (s : St) : vR (pubV (.pv p)) s = some (.pv p, []) := vR_pure _ _
theorem b_nilsl (s : St) : vR (pubV .nilsl) s = some (.pv (.sl 0 []), []) := vR_pure _ _
theorem b_ptr (x : Id) (g o : Nat) (s : St) : vR (pubV (.ptr x g o)) s = some (.ptr x g o, []) := vR_pure _ _
theorem b_rptr (c : List PV) (o : Nat) (s : St) : vR (pubV (.rptr c o)) s = some (.rptr c o, []) := vR_pure _ _
theorem b_fn (f : FuncId) (a b : List AV) (s : St) : vR (pubV (.fn f a b)) s = some (.fn f a b, []) := vR_pure _ _
theorem b_tup (l : List AV) (s : St) : vR (pubV (.tup l)) s = some (.tup l, []) := vR_pure _ _
theorem b_osl (x : Id) (g n : Nat) (s : St) : vR (pubV (.osl x g n)) s = vR (pub1 (.osl x g n)) s := rfl
theorem b_agg (l : List AV) (s : St) : vR (pubV (.agg l)) s = kb (vR (pub1s l) s) fun a => some (.agg a.1, a.2) := by
  show vR (pub1s l >>= fun a => RM.pure (AV.agg a.1, a.2)) s = _
  simp only [vR_bind, vR_pure]
theorem b1_nil (s : St) : vR (pub1s []) s = some ([], []) := vR_pure _ _
theorem b1_cons (v : AV) (vs : List AV) (s : St) : vR (pub1s (v :: vs)) s = kb (vR (pub1 v) s) fun a => kb (vR (pub1s vs) s) fun b => some (a.1 :: b.1, a.2 ++ b.2) := by
  show vR (pub1 v >>= fun a => pub1s vs >>= fun b => RM.pure (a.1 :: b.1, a.2 ++ b.2)) s = _
  simp only [vR_bind, vR_pure]
theorem b1_pv (p : PV) (s : St) : vR (pub1 (.pv p)) s = some (.pv p, []) := vR_pure _ _
theorem b1_nilsl (s : St) : vR (pub1 .nilsl) s = some (.pv (.sl 0 []), []) := vR_pure _ _
theorem b1_ptr (x : Id) (g o : Nat) (s : St) : vR (pub1 (.ptr x g o)) s = some (.ptr x g o, []) := vR_pure _ _
theorem b1_rptr (c : List PV) (o : Nat) (s : St) : vR (pub1 (.rptr c o)) s = some (.rptr c o, []) := vR_pure _ _
theorem b1_fn (f : FuncId) (a b : List AV) (s : St) : vR (pub1 (.fn f a b)) s = some (.fn f a b, []) := vR_pure _ _
def rowK (e : AV) (x : Id) (g n : Nat) : Option (AV × List (Loc × AV)) :=
  match e with
  | .row g' sz _ cells => if g' = g then some (.pv (.sl n (cells.take (n * sz))), [(.i x, .row g' sz true cells)]) else none
  | _ => none
theorem rowK_row (g' sz : Nat) (b : Bool) (cells : List PV) (x : Id) (g n : Nat) : rowK (.row g' sz b cells) x g n = if g' = g then some (.pv (.sl n (cells.take (n * sz))), [(.i x, .row g' sz true cells)]) else none := rfl
theorem b1_osl (x : Id) (g n : Nat) (s : St) : vR (pub1 (.osl x g n)) s = rowK (s (.i x)) x g n := by
  unfold pub1
  rw [vR_bind, vR_rd, kb_some]
  generalize s (.i x) = e
  unfold rowK
  cases e with
  | row g' sz b cells =>
    simp only
    by_cases h : g' = g
    · rw [if_pos h, if_pos h]; exact vR_pure _ _
    · rw [if_neg h, if_neg h]; exact vR_fail _
  | _ => exact vR_fail _
theorem bp_nil (s : St) : vR (pubParts []) s = some ([], []) := vR_pure _ _
theorem bp_cons (i : Nat) (v : AV) (vs : List (Nat × AV)) (s : St) : vR (pubParts ((i, v) :: vs)) s = kb (vR (pubV v) s) fun a => kb (vR (pubParts vs) s) fun b => some ((i, a.1) :: b.1, a.2 ++ b.2) := by
  show vR (pubV v >>= fun a => pubParts vs >>= fun b => RM.pure ((i, a.1) :: b.1, a.2 ++ b.2)) s = _
  simp only [vR_bind, vR_pure]
attribute [simp] bp_nil bp_cons
/-! ### a function's end -/
theorem outF_ret (f : FuncId) (fn : FnA) (bs : List AV) (s : St) : outF P cfg f fn bs (some (.ret, s)) = vR (outA P (cfg.own f) bs.length fn.fn.results.toList) s := by rw [vR_is]; rfl
theorem outF_normal (f : FuncId) (fn : FnA) (bs : List AV) (s : St) : outF P cfg f fn bs (some (.normal, s)) = vR (outA P (cfg.own f) bs.length fn.fn.results.toList) s := by rw [vR_is]; rfl
theorem outF_ite (f : FuncId) (fn : FnA) (bs : List AV) (c : Prop) [Decidable c] (x y : Option (Ex × St)) : outF P cfg f fn bs (if c then x else y) = if c then outF P cfg f fn bs x else outF P cfg f fn bs y := by split <;> rfl
theorem r_nil (s : St) : vR (resA P []) s = some [] := vR_pure _ _
theorem r_tmp (t : Tmp) (r : List ResultVar) (s : St) : vR (resA P (.tmp t :: r)) s = kb (vR (resA P r) s) fun vs => some (s (.t t) :: vs) := by
  show vR (rd (.t t) >>= fun v => resA P r >>= fun vs => RM.pure (v :: vs)) s = _
  simp only [vR_bind, vR_pure, vR_rd, kb_some]
theorem r_cell (a : Tmp) (t : TypeId) (r : List ResultVar) (s : St) : vR (resA P (.cell a t :: r)) s = kb (vR (loadA P t (s (.t a))) s) fun v => kb (vR (resA P r) s) fun vs => some (v :: vs) := by
  show vR (rd (.t a) >>= fun p => loadA P t p >>= fun v => resA P r >>= fun vs => RM.pure (v :: vs)) s = _
  simp only [vR_bind, vR_pure, vR_rd, kb_some]
/-- a function's end: what it gives back, published -/
noncomputable def endK (nb : Nat) (ws : List AV) (w : List (Loc × AV)) (s : St) : Option (AV × List AV × List AV) := vR (do
  let bs ← entries w (argIds nb 0)
  let l ← reach w ((dedup [] (idsL ws ++ idsL bs)).filter isSite)
  need (nodupB (l.filter isSite))
  let es ← entries w (l.filter isSite)
  RM.pure (renV (renOut bs (l.filter isSite) es) (oneOf ws), renL (renOut bs (l.filter isSite) es) bs, (renL (renOut bs (l.filter isSite) es) es).map (setGen 1))) s
theorem outA_false (nb : Nat) (rs : List ResultVar) (s : St) : vR (outA P false nb rs) s = kb (vR (resA P rs) s) fun vs => kb (vR (pubs vs) s) fun q => endK nb q.1 q.2 s := by
  unfold outA
  rw [vR_bind]
  congr 1
  funext vs
  simp only [Bool.false_eq_true, if_false]
  rw [vR_bind]
  rfl
theorem endK_plain (ws : List AV) (w : List (Loc × AV)) (s : St) (h : idsL ws = []) : endK 0 ws w s = some (oneOf ws, [], []) := by
  unfold endK
  simp only [vR_bind, argIds, entries, vR_pure, kb_some, h, idsL, List.append_nil]
  rw [show vR (reach w (List.filter isSite (dedup [] []))) s = some [] by rw [vR_is]; rfl]
  simp only [kb_some, List.filter_nil, nodupB, vR_need, if_true, entries, vR_pure]
  have h1 : idsV (oneOf ws) = [] := by
    unfold oneOf
    split
    · simpa [idsL] using h
    · simpa [idsV] using h
  rw [renV_none _ _ h1]
  rfl
abbrev i64 (n : Int) : AV := .pv (.int .i64 n)
abbrev bl (b : Bool) : AV := .pv (.bool b)
/-! ### code -/
def thenC (x : Option (Ex × St)) (f : St → Option (Ex × St)) : Option (Ex × St) :=
  match x with
  | some (.normal, s) => f s
  | x => x
def blockC (id : Nat) (x : Option (Ex × St)) : Option (Ex × St) :=
  match x with
  | some (.exit id', s') => if id' = id then some (.normal, s') else some (.exit id', s')
  | x => x
def condC (v : Option AV) (a b : Option (Ex × St)) : Option (Ex × St) :=
  match v with
  | some (.pv (.bool t)) => if t = true then a else b
  | _ => none
def normC (x : Option St) : Option (Ex × St) :=
  match x with
  | some s' => some (.normal, s')
  | none => none
theorem thenC_normal (s : St) (f : St → Option (Ex × St)) : thenC (some (.normal, s)) f = f s := rfl
theorem thenC_exit (i : Nat) (s : St) (f : St → Option (Ex × St)) : thenC (some (.exit i, s)) f = some (.exit i, s) := rfl
theorem thenC_ret (s : St) (f : St → Option (Ex × St)) : thenC (some (.ret, s)) f = some (.ret, s) := rfl
theorem thenC_none (f : St → Option (Ex × St)) : thenC none f = none := rfl
theorem thenC_ite (c : Prop) [Decidable c] (a b : Option (Ex × St)) (f : St → Option (Ex × St)) : thenC (if c then a else b) f = if c then thenC a f else thenC b f := by split <;> rfl
theorem blockC_normal (i : Nat) (s : St) : blockC i (some (.normal, s)) = some (.normal, s) := rfl
theorem blockC_exit (i j : Nat) (s : St) : blockC i (some (.exit j, s)) = if j = i then some (.normal, s) else some (.exit j, s) := rfl
theorem blockC_ret (i : Nat) (s : St) : blockC i (some (.ret, s)) = some (.ret, s) := rfl
theorem blockC_none (i : Nat) : blockC i none = none := rfl
theorem blockC_ite (c : Prop) [Decidable c] (a b : Option (Ex × St)) (i : Nat) : blockC i (if c then a else b) = if c then blockC i a else blockC i b := by split <;> rfl
theorem condC_bool (t : Bool) (a b : Option (Ex × St)) : condC (some (.pv (.bool t))) a b = if t = true then a else b := rfl
theorem normC_some (s : St) : normC (some s) = some (.normal, s) := rfl
theorem C_seq' (a b : Code) (s : St) : C P cfg (.seq a b) s = thenC (C P cfg a s) (fun s' => C P cfg b s') := by
  rw [C_seq]
  cases C P cfg a s with
  | none => rfl
  | some q => obtain ⟨e, s'⟩ := q; cases e <;> rfl
theorem C_block' (i : Nat) (b : Code) (s : St) : C P cfg (.block i b) s = blockC i (C P cfg b s) := by
  rw [C_block]
  cases C P cfg b s with
  | none => rfl
  | some q => obtain ⟨e, s'⟩ := q; cases e <;> rfl
theorem C_cond' (c : Operand) (a b : Code) (s : St) : C P cfg (.cond c a b) s = condC (vR (evO c) s) (C P cfg a s) (C P cfg b s) := by
  rw [C_cond, vR_is]
  cases evO c s with
  | none => rfl
  | some q =>
    obtain ⟨v, l⟩ := q
    cases v with
    | pv p =>
      cases p with
      | bool t => cases t <;> rfl
      | _ => rfl
    | _ => rfl
theorem C_region' (r : Nat) (ops : Array Oper) (d : Bool) (s : St) : C P cfg (.region r ops d) s = normC (evR P (W P cfg) r ops.toList d s) := by
  rw [C_region]
  rfl
/-- what a round of a loop comes to: on to the next number, or out -/
def Out (I : St → Prop) (Q : Ex → St → Prop) (z : Option (Ex × St)) : Prop :=
  match z with
  | some (.normal, s) => I s
  | some (e, s) => Q e s
  | none => False
theorem Out_cg {I : St → Prop} {Q : Ex → St → Prop} {z z' : Option (Ex × St)} (h : z = z') : Out I Q z = Out I Q z' := by rw [h]
attribute [congr] Out_cg
theorem Out.n {I : St → Prop} {Q : Ex → St → Prop} {s : St} (h : I s) : Out I Q (some (.normal, s)) := h
theorem Out.x {I : St → Prop} {Q : Ex → St → Prop} {s : St} {i : Nat} (h : Q (.exit i) s) : Out I Q (some (.exit i, s)) := h
theorem Out.r {I : St → Prop} {Q : Ex → St → Prop} {s : St} (h : Q .ret s) : Out I Q (some (.ret, s)) := h
/-! ### whole numbers of 64 bits -/
def wr64 (n : Int) : Int := IntKind.wrap .i64 n
def add64 (a b : Int) : Int := wr64 (a + b)
def sub64 (a b : Int) : Int := wr64 (a - b)
def mul64 (a b : Int) : Int := wr64 (a * b)
def and64 (a b : Int) : Int := wr64 (BitVec.ofInt 64 a &&& BitVec.ofInt 64 b).toNat
def or64 (a b : Int) : Int := wr64 (BitVec.ofInt 64 a ||| BitVec.ofInt 64 b).toNat
def xor64 (a b : Int) : Int := wr64 (BitVec.ofInt 64 a ^^^ BitVec.ofInt 64 b).toNat
def andn64 (a b : Int) : Int := wr64 (BitVec.ofInt 64 a &&& ~~~ BitVec.ofInt 64 b).toNat
def shl64 (a b : Int) : Int := wr64 (a * 2 ^ (min b.toNat 64))
def shr64 (a b : Int) : Int := a.fdiv (2 ^ (min b.toNat 64))
theorem wr64_of {n : Int} (h : -9223372036854775808 ≤ n) (h' : n ≤ 9223372036854775807) : wr64 n = n := by
  unfold wr64 IntKind.wrap
  simp [IntKind.bits, IntKind.signed]
  omega
theorem bi_add (a b : Int) : binInt .add .i64 a b = some (.int .i64 (add64 a b)) := rfl
theorem bi_sub (a b : Int) : binInt .sub .i64 a b = some (.int .i64 (sub64 a b)) := rfl
theorem bi_mul (a b : Int) : binInt .mul .i64 a b = some (.int .i64 (mul64 a b)) := rfl
theorem bi_and (a b : Int) : binInt .and .i64 a b = some (.int .i64 (and64 a b)) := rfl
theorem bi_or (a b : Int) : binInt .or .i64 a b = some (.int .i64 (or64 a b)) := rfl
theorem bi_xor (a b : Int) : binInt .xor .i64 a b = some (.int .i64 (xor64 a b)) := rfl
theorem bi_andn (a b : Int) : binInt .andNot .i64 a b = some (.int .i64 (andn64 a b)) := rfl
theorem bi_quo (k : IntKind) (a b : Int) : binInt .quo k a b = if b = 0 then none else some (.int k (k.wrap (a.tdiv b))) := rfl
theorem bi_rem (k : IntKind) (a b : Int) : binInt .rem k a b = if b = 0 then none else some (.int k (a.tmod b)) := rfl
theorem bi_eql (k : IntKind) (a b : Int) : binInt .eql k a b = some (.bool (decide (a = b))) := rfl
theorem bi_neq (k : IntKind) (a b : Int) : binInt .neq k a b = some (.bool (decide (a ≠ b))) := rfl
theorem bi_lss (k : IntKind) (a b : Int) : binInt .lss k a b = some (.bool (decide (a < b))) := rfl
theorem bi_leq (k : IntKind) (a b : Int) : binInt .leq k a b = some (.bool (decide (a ≤ b))) := rfl
theorem bi_gtr (k : IntKind) (a b : Int) : binInt .gtr k a b = some (.bool (decide (b < a))) := rfl
theorem bi_geq (k : IntKind) (a b : Int) : binInt .geq k a b = some (.bool (decide (b ≤ a))) := rfl
theorem sh_shl {a b : Int} : shiftA .shl .i64 a b = if b < 0 then none else some (.int .i64 (shl64 a b)) := rfl
theorem sh_shr {a b : Int} : shiftA .shr .i64 a b = if b < 0 then none else some (.int .i64 (shr64 a b)) := rfl
/-! ### whole numbers of other kinds -/
def addK (k : IntKind) (a b : Int) : Int := k.wrap (a + b)
def subK (k : IntKind) (a b : Int) : Int := k.wrap (a - b)
def mulK (k : IntKind) (a b : Int) : Int := k.wrap (a * b)
def andK (k : IntKind) (a b : Int) : Int := k.wrap (BitVec.ofInt k.bits a &&& BitVec.ofInt k.bits b).toNat
def orK (k : IntKind) (a b : Int) : Int := k.wrap (BitVec.ofInt k.bits a ||| BitVec.ofInt k.bits b).toNat
def xorK (k : IntKind) (a b : Int) : Int := k.wrap (BitVec.ofInt k.bits a ^^^ BitVec.ofInt k.bits b).toNat
def andnK (k : IntKind) (a b : Int) : Int := k.wrap (BitVec.ofInt k.bits a &&& ~~~ BitVec.ofInt k.bits b).toNat
def shlK (k : IntKind) (a b : Int) : Int := k.wrap (a * 2 ^ (min b.toNat k.bits))
def shrK (k : IntKind) (a b : Int) : Int := a.fdiv (2 ^ (min b.toNat k.bits))
theorem bi_add_u8 (a b : Int) : binInt .add .u8 a b = some (.int .u8 (addK .u8 a b)) := rfl
theorem bi_sub_u8 (a b : Int) : binInt .sub .u8 a b = some (.int .u8 (subK .u8 a b)) := rfl
theorem bi_mul_u8 (a b : Int) : binInt .mul .u8 a b = some (.int .u8 (mulK .u8 a b)) := rfl
theorem bi_and_u8 (a b : Int) : binInt .and .u8 a b = some (.int .u8 (andK .u8 a b)) := rfl
theorem bi_or_u8 (a b : Int) : binInt .or .u8 a b = some (.int .u8 (orK .u8 a b)) := rfl
theorem bi_xor_u8 (a b : Int) : binInt .xor .u8 a b = some (.int .u8 (xorK .u8 a b)) := rfl
theorem bi_andNot_u8 (a b : Int) : binInt .andNot .u8 a b = some (.int .u8 (andnK .u8 a b)) := rfl
theorem sh_shl_u8 {a b : Int} : shiftA .shl .u8 a b = if b < 0 then none else some (.int .u8 (shlK .u8 a b)) := rfl
theorem sh_shr_u8 {a b : Int} : shiftA .shr .u8 a b = if b < 0 then none else some (.int .u8 (shrK .u8 a b)) := rfl
theorem bi_add_u16 (a b : Int) : binInt .add .u16 a b = some (.int .u16 (addK .u16 a b)) := rfl
theorem bi_sub_u16 (a b : Int) : binInt .sub .u16 a b = some (.int .u16 (subK .u16 a b)) := rfl
theorem bi_mul_u16 (a b : Int) : binInt .mul .u16 a b = some (.int .u16 (mulK .u16 a b)) := rfl
theorem bi_and_u16 (a b : Int) : binInt .and .u16 a b = some (.int .u16 (andK .u16 a b)) := rfl
theorem bi_or_u16 (a b : Int) : binInt .or .u16 a b = some (.int .u16 (orK .u16 a b)) := rfl
theorem bi_xor_u16 (a b : Int) : binInt .xor .u16 a b = some (.int .u16 (xorK .u16 a b)) := rfl
theorem bi_andNot_u16 (a b : Int) : binInt .andNot .u16 a b = some (.int .u16 (andnK .u16 a b)) := rfl
theorem sh_shl_u16 {a b : Int} : shiftA .shl .u16 a b = if b < 0 then none else some (.int .u16 (shlK .u16 a b)) := rfl
theorem sh_shr_u16 {a b : Int} : shiftA .shr .u16 a b = if b < 0 then none else some (.int .u16 (shrK .u16 a b)) := rfl
theorem bi_add_u32 (a b : Int) : binInt .add .u32 a b = some (.int .u32 (addK .u32 a b)) := rfl
theorem bi_sub_u32 (a b : Int) : binInt .sub .u32 a b = some (.int .u32 (subK .u32 a b)) := rfl
theorem bi_mul_u32 (a b : Int) : binInt .mul .u32 a b = some (.int .u32 (mulK .u32 a b)) := rfl
theorem bi_and_u32 (a b : Int) : binInt .and .u32 a b = some (.int .u32 (andK .u32 a b)) := rfl
theorem bi_or_u32 (a b : Int) : binInt .or .u32 a b = some (.int .u32 (orK .u32 a b)) := rfl
theorem bi_xor_u32 (a b : Int) : binInt .xor .u32 a b = some (.int .u32 (xorK .u32 a b)) := rfl
theorem bi_andNot_u32 (a b : Int) : binInt .andNot .u32 a b = some (.int .u32 (andnK .u32 a b)) := rfl
theorem sh_shl_u32 {a b : Int} : shiftA .shl .u32 a b = if b < 0 then none else some (.int .u32 (shlK .u32 a b)) := rfl
theorem sh_shr_u32 {a b : Int} : shiftA .shr .u32 a b = if b < 0 then none else some (.int .u32 (shrK .u32 a b)) := rfl
theorem bi_add_u64 (a b : Int) : binInt .add .u64 a b = some (.int .u64 (addK .u64 a b)) := rfl
theorem bi_sub_u64 (a b : Int) : binInt .sub .u64 a b = some (.int .u64 (subK .u64 a b)) := rfl
theorem bi_mul_u64 (a b : Int) : binInt .mul .u64 a b = some (.int .u64 (mulK .u64 a b)) := rfl
theorem bi_and_u64 (a b : Int) : binInt .and .u64 a b = some (.int .u64 (andK .u64 a b)) := rfl
theorem bi_or_u64 (a b : Int) : binInt .or .u64 a b = some (.int .u64 (orK .u64 a b)) := rfl
theorem bi_xor_u64 (a b : Int) : binInt .xor .u64 a b = some (.int .u64 (xorK .u64 a b)) := rfl
theorem bi_andNot_u64 (a b : Int) : binInt .andNot .u64 a b = some (.int .u64 (andnK .u64 a b)) := rfl
theorem sh_shl_u64 {a b : Int} : shiftA .shl .u64 a b = if b < 0 then none else some (.int .u64 (shlK .u64 a b)) := rfl
theorem sh_shr_u64 {a b : Int} : shiftA .shr .u64 a b = if b < 0 then none else some (.int .u64 (shrK .u64 a b)) := rfl
theorem bi_add_i32 (a b : Int) : binInt .add .i32 a b = some (.int .i32 (addK .i32 a b)) := rfl
theorem bi_sub_i32 (a b : Int) : binInt .sub .i32 a b = some (.int .i32 (subK .i32 a b)) := rfl
theorem bi_mul_i32 (a b : Int) : binInt .mul .i32 a b = some (.int .i32 (mulK .i32 a b)) := rfl
theorem bi_and_i32 (a b : Int) : binInt .and .i32 a b = some (.int .i32 (andK .i32 a b)) := rfl
theorem bi_or_i32 (a b : Int) : binInt .or .i32 a b = some (.int .i32 (orK .i32 a b)) := rfl
theorem bi_xor_i32 (a b : Int) : binInt .xor .i32 a b = some (.int .i32 (xorK .i32 a b)) := rfl
theorem bi_andNot_i32 (a b : Int) : binInt .andNot .i32 a b = some (.int .i32 (andnK .i32 a b)) := rfl
theorem sh_shl_i32 {a b : Int} : shiftA .shl .i32 a b = if b < 0 then none else some (.int .i32 (shlK .i32 a b)) := rfl
theorem sh_shr_i32 {a b : Int} : shiftA .shr .i32 a b = if b < 0 then none else some (.int .i32 (shrK .i32 a b)) := rfl
theorem outF_cg {f : FuncId} {fn : FnA} {bs : List AV} {x x' : Option (Ex × St)} (h : x = x') : outF P cfg f fn bs x = outF P cfg f fn bs x' := by rw [h]
attribute [congr] outF_cg
theorem kb_cg {α β : Type} {x x' : Option α} {f : α → Option β} (h : x = x') : kb x f = kb x' f := by rw [h]
theorem thenC_cg {x x' : Option (Ex × St)} {f : St → Option (Ex × St)} (h : x = x') : thenC x f = thenC x' f := by rw [h]
theorem condC_cg {v v' : Option AV} {a b : Option (Ex × St)} (h : v = v') : condC v a b = condC v' a b := by rw [h]
theorem pickK_cg {v v' : AV} {a b : Option Eff} (h : v = v') : pickK v a b = pickK v' a b := by rw [h]
attribute [congr] kb_cg thenC_cg condC_cg pickK_cg
attribute [simp] up_tt up_ti up_it up_ii kb_some kb_none kb_ite vR_bind vR_pure vR_rd vR_fail vR_lift vR_need vR_ret vR_ite
attribute [simp] thenC_normal thenC_exit thenC_ret thenC_none thenC_ite blockC_normal blockC_exit blockC_ret blockC_none blockC_ite condC_bool normC_some
attribute [simp] C_skip C_exit C_ret C_region' C_seq' C_cond' C_block'
attribute [simp] bi_add_u8 bi_sub_u8 bi_mul_u8 bi_and_u8 bi_or_u8 bi_xor_u8 bi_andNot_u8 sh_shl_u8 sh_shr_u8 bi_add_u16 bi_sub_u16 bi_mul_u16 bi_and_u16 bi_or_u16 bi_xor_u16 bi_andNot_u16 sh_shl_u16 sh_shr_u16 bi_add_u32 bi_sub_u32 bi_mul_u32 bi_and_u32 bi_or_u32 bi_xor_u32 bi_andNot_u32 sh_shl_u32 sh_shr_u32 bi_add_u64 bi_sub_u64 bi_mul_u64 bi_and_u64 bi_or_u64 bi_xor_u64 bi_andNot_u64 sh_shl_u64 sh_shr_u64 bi_add_i32 bi_sub_i32 bi_mul_i32 bi_and_i32 bi_or_i32 bi_xor_i32 bi_andNot_i32 sh_shl_i32 sh_shr_i32 bi_add bi_sub bi_mul bi_and bi_or bi_xor bi_andn bi_quo bi_rem bi_eql bi_neq bi_lss bi_leq bi_gtr bi_geq sh_shl sh_shr
attribute [simp] evR_false ops1_nil ops1_move ops1_assign ops1_dst ops1_nodst ops1_guard gB_bool gB_tup gT_some app_some' app_none' upds_nil upds_cons
attribute [simp] e_tmp e_const e_func e_nil e_cons o_move o_assign o_pick pickK_bool optK_some optK_ite o_bin o_un o_load o_store o_bi o_call o_callt callV_fn doneK_some doneK_none doneK_ite giveK_plain outA_false endK_plain
attribute [simp] b_nil b_cons b_pv b_nilsl b_ptr b_rptr b_fn b_tup b_osl b_agg b1_nil b1_cons b1_pv b1_nilsl b1_ptr b1_rptr b1_fn b1_osl rowK_row
attribute [simp] outF_ret outF_normal outF_ite r_nil r_tmp r_cell
attribute [simp] binNil_int binNil_str binNil_bool flat_agg flat_pv flat_nilsl flat_ptr flat_osl flat_fn flat_rptr isCell_pv isCell_nilsl isCell_ptr isCell_osl isCell_fn isCell_rptr gen_box gen_row gen_tup
attribute [simp] o_alloc o_box o_build o_buildSlice o_nilCheck nilK_ptr nilK_rptr o_convert o_makeSlice o_slice o_fieldAddr o_field o_indexAddr o_index tupK_tup o_extract
attribute [simp] enterA_t enterA_arg enterA_site const_int const_bool const_str const_nilsl const_nilptr const_nilif const_agg const_tup0 cell_int cell_bool cell_str cell_nilsl cells_nil cells_cons pure_nil pure_pv zc_pv zc_nilsl zcs_nil zcs_cons
attribute [simp] ids_pv ids_nilsl ids_rptr ids_ptr ids_osl ids_fn ids_agg ids_tup ids_box ids_row idsL_nil idsL_cons setGen_box setGen_row isEnt_box isEnt_row lookW_nil rdW_nil one_one one_two ts_toList
attribute [simp] evParts evOpt loadA loadP_one loadP_agg loadC storeA newBox newRowA zeroOf fillA placesA buildA repeatA sliceElem zeroP buildSliceA intOfA makeSliceA
attribute [simp] binStr eqSame unA rowOf convA rowStrA convStrA boundA sliceA sliceArrA unPvs noHi isU8 isStr fieldOffA fieldAddrA fieldA indexAddrA indexA lenA appendA min2A max2A foldA builtinA sub? put?
end Go.Am
/-
The rows for regions whose order is drawn: answers with the log of what was read.
-/
namespace Go.Am
open Go
variable {P : Program} {cfg : Cfg}
theorem lRX : ∃ f : (α : Type) → RM α → St → Option (α × List Loc), f = fun _ m s => m s := ⟨_, rfl⟩
noncomputable def lR {α : Type} (m : RM α) (s : St) : Option (α × List Loc) := lRX.choose α m s
theorem lR_is {α : Type} (m : RM α) (s : St) : lR m s = m s := by unfold lR; rw [lRX.choose_spec]
def la {α : Type} (l : List Loc) (x : Option (α × List Loc)) : Option (α × List Loc) :=
  match x with
  | some (b, l') => some (b, l ++ l')
  | none => none
def lb {α β : Type} (x : Option (α × List Loc)) (f : α → Option (β × List Loc)) : Option (β × List Loc) :=
  match x with
  | some (a, l) => la l (f a)
  | none => none
theorem la_some {α : Type} (l l' : List Loc) (b : α) : la l (some (b, l')) = some (b, l ++ l') := rfl
theorem la_none {α : Type} (l : List Loc) : la l (none : Option (α × List Loc)) = none := rfl
theorem lb_some {α β : Type} (a : α) (l : List Loc) (f : α → Option (β × List Loc)) : lb (some (a, l)) f = la l (f a) := rfl
theorem lb_none {α β : Type} (f : α → Option (β × List Loc)) : lb none f = none := rfl
theorem la_cg {α : Type} {l : List Loc} {x x' : Option (α × List Loc)} (h : x = x') : la l x = la l x' := by rw [h]
theorem lb_cg {α β : Type} {x x' : Option (α × List Loc)} {f : α → Option (β × List Loc)} (h : x = x') : lb x f = lb x' f := by rw [h]
attribute [congr] la_cg lb_cg
theorem lR_bind {α β : Type} (m : RM α) (f : α → RM β) (s : St) : lR (m >>= f) s = lb (lR m s) fun a => lR (f a) s := by
  rw [lR_is, lR_is]
  show RM.bind m f s = _
  unfold RM.bind
  cases m s with
  | none => rfl
  | some q =>
    obtain ⟨a, l⟩ := q
    simp only [lb_some, lR_is]
    cases f a s <;> rfl
theorem lR_pure {α : Type} (a : α) (s : St) : lR (RM.pure a) s = some (a, []) := by rw [lR_is]; rfl
theorem lR_rd (x : Loc) (s : St) : lR (rd x) s = some (s x, [x]) := by rw [lR_is]; rfl
theorem lR_fail {α : Type} (s : St) : lR (RM.fail : RM α) s = none := by rw [lR_is]; rfl
theorem lR_lift {α : Type} (o : Option α) (s : St) : lR (lift o) s = o.map fun a => (a, []) := by rw [lR_is]; cases o <;> rfl
theorem lR_need (b : Bool) (s : St) : lR (need b) s = if b = true then some ((), []) else none := by rw [lR_is]; cases b <;> rfl
theorem lR_ret (v : AV) (s : St) : lR (ret v) s = some ({ v := v, wr := [] }, []) := by rw [lR_is]; rfl
theorem lR_ite {α : Type} (c : Prop) [Decidable c] (m n : RM α) (s : St) : lR (if c then m else n) s = if c then lR m s else lR n s := by split <;> rfl
theorem st1_none_l (call : Fs) (all : List Oper) (r j : Nat) (op : Op) (d : Option Tmp) (ty : TypeId) (p : String) (a : Array Edge) (s : St) : lR (st1 P call all r j ⟨d, op, ty, p, a, none⟩) s = lR (opA P call r j op) s := by
  rw [st1_is]
  unfold stepA wantedA
  rw [lR_bind, lR_pure]
  show la [] (lR (opA P call r j op) s) = _
  cases lR (opA P call r j op) s <;> rfl
theorem st1_some_l (call : Fs) (all : List Oper) (r j : Nat) (op : Op) (d : Option Tmp) (ty : TypeId) (p : String) (a : Array Edge) (g : Nat) (w : Bool) (s : St) : lR (st1 P call all r j ⟨d, op, ty, p, a, some (g, w)⟩) s =
    lb (lR (wantedA all ⟨d, op, ty, p, a, some (g, w)⟩) s) fun b => if b = true then lR (opA P call r j op) s else some ({ v := .tup [], wr := [] }, []) := by
  rw [st1_is]
  unfold stepA
  rw [lR_bind]
  congr 1
  funext b
  cases b
  · exact lR_ret _ _
  · rfl
theorem opsD1_step (call : Fs) (all : List Oper) (r j : Nat) (o : Oper) (os : List Oper) (s : St) : opsD1 P call all r j (o :: os) s =
    kb (lR (st1 P call all r j o) s) fun q => kb (opsD1 P call all r (j + 1) os (app s o.dst q.1)) fun y => some (y.1, (q.2, wrote o.dst q.1) :: y.2) := by
  rw [opsD1_cons, lR_is]
  cases st1 P call all r j o s with
  | none => rfl
  | some q =>
    obtain ⟨e, l⟩ := q
    simp only [kb_some]
    cases opsD1 P call all r (j + 1) os (app s o.dst e) <;> rfl
/-- behind a drawn region -/
def drawK (ops : List Oper) (x : Option (St × List (List Loc × List Loc))) : Option St :=
  match x with
  | some (s', fs) => if okReg ops fs = true then some s' else none
  | none => none
theorem drawK_cg {ops : List Oper} {x x' : Option (St × List (List Loc × List Loc))} (h : x = x') : drawK ops x = drawK ops x' := by rw [h]
attribute [congr] drawK_cg
theorem drawK_ok (ops : List Oper) (s : St) (fs : List (List Loc × List Loc)) (h : okReg ops fs = true) : drawK ops (some (s, fs)) = some s := if_pos h
theorem evR_draw (call : Fs) (r : Nat) (ops : List Oper) (s : St) : evR P call r ops true s = drawK ops (opsD1 P call ops r 0 ops s) := by
  rw [evR_true]
  cases opsD1 P call ops r 0 ops s <;> rfl
theorem evO_tmp (t : Tmp) : evO (.tmp t) = rd (.t t) := rfl
theorem evO_const (c : Value) : evO (.const c) = lift (constOf c) := rfl
theorem evO_func (f : FuncId) : evO (.func f) = RM.pure (.fn f [] []) := rfl
theorem q_pv (p : PV) : pubV (.pv p) = RM.pure (.pv p, []) := rfl
theorem q_nilsl : pubV .nilsl = RM.pure (.pv (.sl 0 []), []) := rfl
theorem q_ptr (x : Id) (g o : Nat) : pubV (.ptr x g o) = RM.pure (.ptr x g o, []) := rfl
theorem q_rptr (c : List PV) (o : Nat) : pubV (.rptr c o) = RM.pure (.rptr c o, []) := rfl
theorem q_fn (f : FuncId) (a b : List AV) : pubV (.fn f a b) = RM.pure (.fn f a b, []) := rfl
theorem q_osl (x : Id) (g n : Nat) : pubV (.osl x g n) = pub1 (.osl x g n) := rfl
theorem q1_pv (p : PV) : pub1 (.pv p) = RM.pure (.pv p, []) := rfl
theorem q1_nilsl : pub1 .nilsl = RM.pure (.pv (.sl 0 []), []) := rfl
theorem q1_ptr (x : Id) (g o : Nat) : pub1 (.ptr x g o) = RM.pure (.ptr x g o, []) := rfl
theorem q1_rptr (c : List PV) (o : Nat) : pub1 (.rptr c o) = RM.pure (.rptr c o, []) := rfl
theorem q_agg (l : List AV) (s : St) : lR (pubV (.agg l)) s = lb (lR (pub1s l) s) fun a => some ((.agg a.1, a.2), []) := by
  show lR (pub1s l >>= fun a => RM.pure (AV.agg a.1, a.2)) s = _
  simp only [lR_bind, lR_pure]
theorem q_nil (s : St) : lR (pubs []) s = some (([], []), []) := lR_pure _ _
theorem q_cons (v : AV) (vs : List AV) (s : St) : lR (pubs (v :: vs)) s = lb (lR (pubV v) s) fun a => lb (lR (pubs vs) s) fun b => some ((a.1 :: b.1, a.2 ++ b.2), []) := by
  show lR (pubV v >>= fun a => pubs vs >>= fun b => RM.pure (a.1 :: b.1, a.2 ++ b.2)) s = _
  simp only [lR_bind, lR_pure]
theorem q1s_nil (s : St) : lR (pub1s []) s = some (([], []), []) := lR_pure _ _
theorem q1s_cons (v : AV) (vs : List AV) (s : St) : lR (pub1s (v :: vs)) s = lb (lR (pub1 v) s) fun a => lb (lR (pub1s vs) s) fun b => some ((a.1 :: b.1, a.2 ++ b.2), []) := by
  show lR (pub1 v >>= fun a => pub1s vs >>= fun b => RM.pure (a.1 :: b.1, a.2 ++ b.2)) s = _
  simp only [lR_bind, lR_pure]
attribute [simp] la_some la_none lb_some lb_none lR_bind lR_pure lR_rd lR_fail lR_lift lR_need lR_ret lR_ite st1_none_l opsD1_nil opsD1_step evR_draw
attribute [simp] evO_tmp evO_const evO_func q_pv q_nilsl q_ptr q_rptr q_fn q_osl q1_pv q1_nilsl q1_ptr q1_rptr q_agg q_nil q_cons q1s_nil q1s_cons
theorem p_move (call : Fs) (r j : Nat) (x : Operand) : opA P call r j (.move x) = (evO x >>= fun v => ret v) := rfl
theorem p_assign (call : Fs) (r j : Nat) (x : Operand) : opA P call r j (.assign x) = (evO x >>= fun v => ret v) := rfl
theorem p_alloc (call : Fs) (r j : Nat) (e : TypeId) : opA P call r j (.alloc e) = (lift (tyA P e) >>= fun ty => zeroOf ty >>= fun z => newBox r j z) := rfl
theorem p_build (call : Fs) (r j : Nat) (t : TypeId) (ps : Array (Nat × Operand)) : opA P call r j (.build t ps) = (evParts ps.toList >>= fun q => buildA P t q) := rfl
theorem p_buildSlice (call : Fs) (r j : Nat) (t : TypeId) (n : Nat) (ps : Array (Nat × Operand)) : opA P call r j (.buildSlice t n ps) = (evParts ps.toList >>= fun q => buildSliceA P r j t n q) := rfl
theorem p_load (call : Fs) (r j : Nat) (t : TypeId) (x : Operand) : opA P call r j (.load t x) = (evO x >>= fun p => loadA P t p >>= fun v => ret v) := rfl
theorem p_store (call : Fs) (r j : Nat) (t : TypeId) (a x : Operand) : opA P call r j (.store t a x) = (evO a >>= fun p => evO x >>= fun v => storeA P t p v) := rfl
theorem p_fieldAddr (call : Fs) (r j : Nat) (t : TypeId) (x : Operand) (f : Nat) : opA P call r j (.fieldAddr t x f) = (evO x >>= fun v => fieldAddrA P t v f) := rfl
theorem p_indexAddr (call : Fs) (r j : Nat) (t : TypeId) (x i : Operand) : opA P call r j (.indexAddr t x i) = (evO x >>= fun v => evO i >>= fun n => indexAddrA P t v n) := rfl
theorem p_bi (call : Fs) (r j : Nat) (b : Builtin) (args : Array Operand) (ts : Array TypeId) : opA P call r j (.call ⟨.builtin b, args, ts⟩) = (evOs args.toList >>= fun vs => builtinA P r j b ts.toList vs) := rfl
theorem p_nilCheck_l (call : Fs) (r j : Nat) (x : Operand) (s : St) : lR (opA P call r j (.nilCheck x)) s = lb (lR (evO x) s) fun v => (nilK v).map fun e => (e, []) := by
  unfold opA; simp only [lR_bind]
  congr 1; funext v
  cases v <;> first | exact lR_ret _ _ | exact lR_fail _
theorem p_bin_l (call : Fs) (r j : Nat) (op : BinOp) (t u : TypeId) (x y : Operand) (s : St) : lR (opA P call r j (.binOp op t x y u)) s =
    lb (lR (evO x) s) fun a => lb (lR (evO y) s) fun b => (optK (binNil P op t x y a b)).map fun e => (e, []) := by
  unfold opA
  simp only [lR_bind]
  congr 1; funext a; congr 1; funext b
  cases binNil P op t x y a b with
  | none => exact lR_fail _
  | some p => exact lR_ret _ _
theorem os_nil : evOs [] = RM.pure [] := rfl
theorem os_cons (o : Operand) (os : List Operand) : evOs (o :: os) = (evO o >>= fun v => evOs os >>= fun vs => RM.pure (v :: vs)) := rfl
/-- what is given to a function, with the log -/
noncomputable def giveL (sm : Sm) (r o : Nat) (vs : List AV) (w : List (Loc × AV)) (s : St) : Option (Eff × List Loc) := lR (do
  let l ← reach w (dedup [] (idsL vs))
  need (nodupB l)
  let es ← entries w l
  let q ← lift (sm (renL (renTo l es Id.arg) vs) ((renL (renTo l es Id.arg) es).map (setGen 0)))
  need (decide (q.2.1.length = es.length) && (q.2.1.all isEnt && q.2.2.all fun b => isEnt b && decide (0 < gen b)))
  need (q.2.2.isEmpty || noSite r o l)
  let gl ← gens r o q.2.2.length 0
  RM.pure ({ v := renV (renBack r o l es q.2.1 q.2.2 fun j => gl.getD j 0) q.1, wr := w ++ (backW (renBack r o l es q.2.1 q.2.2 fun j => gl.getD j 0) l es q.2.1 ++ newsW (renBack r o l es q.2.1 q.2.2 fun j => gl.getD j 0) r o (fun j => gl.getD j 0) 0 q.2.2) } : Eff)) s
theorem p_call_l (call : Fs) (r j : Nat) (f : FuncId) (args : Array Operand) (ts : Array TypeId) (s : St) : lR (opA P call r j (.call ⟨.value (.func f), args, ts⟩)) s =
    lb (lR (evOs args.toList) s) fun vs => lb (lR (pubs vs) s) fun q => giveL (call f) r j q.1 q.2 s := by
  show lR (RM.pure (AV.fn f [] []) >>= fun fv => evOs args.toList >>= fun vs => match fv with
    | .fn g first cap => callA (call g) r j (first ++ (vs ++ cap))
    | _ => RM.fail) s = _
  rw [lR_bind, lR_pure, lb_some]
  simp only [lR_bind, List.nil_append, List.append_nil]
  rw [show ∀ x : Option (Eff × List Loc), la [] x = x from fun x => by cases x <;> rfl]
  congr 1
  funext vs
  show lR (pubs vs >>= _) s = _
  rw [lR_bind]
  rfl
/-- behind a call to which nothing in memory was given, and that makes nothing -/
noncomputable def doneL (r o : Nat) (x : Option (AV × List AV × List AV)) (w : List (Loc × AV)) (s : St) : Option (Eff × List Loc) :=
  match x with
  | some q => if q.2.1 = [] ∧ (q.2.2.all fun b => isEnt b && decide (0 < gen b)) = true then
    lb (lR (gens r o q.2.2.length 0) s) fun gl => some (({ v := renV (renBack r o [] [] [] q.2.2 fun j => gl.getD j 0) q.1, wr := w ++ newsW (renBack r o [] [] [] q.2.2 fun j => gl.getD j 0) r o (fun j => gl.getD j 0) 0 q.2.2 } : Eff), [])
    else none
  | none => none
theorem doneL_some (r o : Nat) (v : AV) (w : List (Loc × AV)) (s : St) (h : idsV v = []) : doneL r o (some (v, [], [])) w s = some (⟨v, w⟩, []) := by
  have hv' : ∀ m, renV m v = v := fun m => renV_none m v h
  unfold doneL
  simp [lb_some, la_some, gens, lR_pure, newsW, hv']
theorem giveL_plain (sm : Sm) (r o : Nat) (vs : List AV) (w : List (Loc × AV)) (s : St) (h : idsL vs = []) :
    giveL sm r o vs w s = doneL r o (sm vs []) w s := by
  have la0 : ∀ {α : Type} (x : Option (α × List Loc)), la [] x = x := fun x => by cases x <;> rfl
  unfold giveL
  rw [h]
  simp only [lR_bind]
  rw [show lR (reach w (dedup [] [])) s = some ([], []) by rw [lR_is]; rfl]
  simp only [lb_some, la0, nodupB, lR_need, if_true, entries, lR_pure]
  rw [show renL (renTo [] [] Id.arg) vs = vs from renL_none _ vs h]
  rw [show List.map (setGen 0) (renL (renTo [] [] Id.arg) []) = [] from rfl]
  simp only [lR_lift]
  unfold doneL
  cases sm vs [] with
  | none => rfl
  | some q =>
    simp only [Option.map_some, lb_some, la0]
    by_cases h1 : q.2.1 = []
    · by_cases h2 : (q.2.2.all fun b => isEnt b && decide (0 < gen b)) = true
      · simp only [h1, h2]
        simp [backW, lb_some, la0, noSite]
      · simp only [h1, h2]
        simp [lb_none]
    · have h3 : q.2.1.length ≠ 0 := fun e => h1 (List.eq_nil_of_length_eq_zero e)
      simp [h1, lb_none]
attribute [simp] p_call_l doneL_some giveL_plain
attribute [simp] p_move p_assign p_alloc p_build p_buildSlice p_load p_store p_fieldAddr p_indexAddr p_bi p_nilCheck_l p_bin_l os_nil os_cons wrote
end Go.Am
/-
Pure functions that may fail, and how code of the abstract machine comes to them: conditions, loops, calls with a pointer.
-/
namespace Go.Am
open Go
variable {P : Program} {cfg : Cfg}
theorem kb_inv {α β : Type} {x : Option α} {f : α → Option β} {r : β} (h : kb x f = some r) : ∃ a, x = some a ∧ f a = some r := by
  cases x with
  | none => cases h
  | some a => exact ⟨a, rfl, h⟩
def cnd {α : Type} (b : Bool) (x y : Option α) : Option α := if b = true then x else y
theorem cnd_inv {α : Type} {b : Bool} {x y : Option α} {r : α} (h : cnd b x y = some r) : (b = true ∧ x = some r) ∨ (b = false ∧ y = some r) := by
  cases b with
  | true => exact .inl ⟨rfl, h⟩
  | false => exact .inr ⟨rfl, h⟩
theorem cnd_true {α : Type} (x y : Option α) : cnd true x y = x := rfl
theorem cnd_false {α : Type} (x y : Option α) : cnd false x y = y := rfl
/-- what a piece of code comes to: on, out of a block, or back -/
inductive Stp (A R : Type) where
  | go (a : A)
  | ex (k : Nat) (a : A)
  | ret (r : R)
def stpK {A R β : Type} (x : Stp A R) (f : A → Option β) (h : R → Option β) : Option β :=
  match x with
  | .go a => f a
  | .ex _ _ => none
  | .ret r => h r
theorem stpK_go {A R β : Type} (a : A) (f : A → Option β) (h : R → Option β) : stpK (.go a) f h = f a := rfl
theorem stpK_ret {A R β : Type} (r : R) (f : A → Option β) (h : R → Option β) : stpK (.ret r) f h = h r := rfl
def Res (z : Option (Ex × St)) (Q : Ex → St → Prop) : Prop :=
  match z with
  | some (e, s) => Q e s
  | none => False
theorem Res_cg {z z' : Option (Ex × St)} {Q : Ex → St → Prop} (h : z = z') : Res z Q = Res z' Q := by rw [h]
attribute [congr] Res_cg
theorem Res.mk {e : Ex} {s : St} {Q : Ex → St → Prop} (h : Q e s) : Res (some (e, s)) Q := h
theorem Res.open {z : Option (Ex × St)} {Q : Ex → St → Prop} (h : Res z Q) : ∃ e s, z = some (e, s) ∧ Q e s := by
  cases z with
  | none => exact h.elim
  | some q => exact ⟨q.1, q.2, rfl, h⟩
theorem Res.mono {z : Option (Ex × St)} {Q Q' : Ex → St → Prop} (h : Res z Q) (i : ∀ e s, Q e s → Q' e s) : Res z Q' := by
  cases z with
  | none => exact h.elim
  | some q => exact i _ _ h
def postG {A : Type} (Q : A → St → Prop) (a : A) (e : Ex) (s : St) : Prop := e = .normal ∧ Q a s
def postS {A R : Type} (Q : A → St → Prop) (QR : R → St → Prop) (r : Stp A R) (e : Ex) (s : St) : Prop :=
  match r with
  | .go a => e = .normal ∧ Q a s
  | .ex _ _ => False
  | .ret r => e = .ret ∧ QR r s
/-- behind a round of a loop -/
def postB {A R : Type} (own : Nat) (I : A → St → Prop) (Q : A → St → Prop) (QR : R → St → Prop) (r : Stp A R) (e : Ex) (s : St) : Prop :=
  match r with
  | .go a => e = .normal ∧ I a s
  | .ex k a => k = own ∧ (e = .exit own ∧ Q a s)
  | .ret r => e = .ret ∧ QR r s
theorem Res.g {A : Type} {Q : A → St → Prop} {a : A} {s : St} (h : Q a s) : Res (some (.normal, s)) (postG Q a) := ⟨rfl, h⟩
theorem Res.sgo {A R : Type} {Q : A → St → Prop} {QR : R → St → Prop} {a : A} {s : St} (h : Q a s) : Res (some (.normal, s)) (postS Q QR (.go a)) := ⟨rfl, h⟩
theorem Res.sret {A R : Type} {Q : A → St → Prop} {QR : R → St → Prop} {r : R} {s : St} (h : QR r s) : Res (some (.ret, s)) (postS Q QR (.ret r)) := ⟨rfl, h⟩
theorem Res.bgo {A R : Type} {own : Nat} {I Q : A → St → Prop} {QR : R → St → Prop} {a : A} {s : St} (h : I a s) : Res (some (.normal, s)) (postB own I Q QR (.go a)) := ⟨rfl, h⟩
theorem Res.bex {A R : Type} {own : Nat} {I Q : A → St → Prop} {QR : R → St → Prop} {a : A} {s : St} (h : Q a s) : Res (some (.exit own, s)) (postB own I Q QR (.ex own a)) := ⟨rfl, rfl, h⟩
theorem Res.bret {A R : Type} {own : Nat} {I Q : A → St → Prop} {QR : R → St → Prop} {r : R} {s : St} (h : QR r s) : Res (some (.ret, s)) (postB own I Q QR (.ret r)) := ⟨rfl, h⟩
theorem Res.x {k : Nat} {Q : St → Prop} {s : St} (h : Q s) : Res (some (.exit k, s)) (fun e q => e = .exit k ∧ Q q) := ⟨rfl, h⟩
def foldO {A X : Type} (f : Nat → A → X → Option A) : Nat → A → List X → Option A
  | _, a, [] => some a
  | i, a, x :: r => kb (f i a x) fun a' => foldO f (i + 1) a' r
def loopL {A X R : Type} (f : Nat → A → X → Option (Stp A R)) : Nat → A → List X → Option (Stp A R)
  | _, a, [] => some (.go a)
  | i, a, x :: r => kb (f i a x) fun y => match y with
    | .go a' => loopL f (i + 1) a' r
    | .ex _ a' => some (.go a')
    | .ret r => some (.ret r)
def iterN {A R : Type} (f : A → Option (Stp A R)) : Nat → A → Option (Stp A R)
  | 0, _ => none
  | k + 1, a => kb (f a) fun y => match y with
    | .go a' => iterN f k a'
    | .ex _ a' => some (.go a')
    | .ret r => some (.ret r)
noncomputable def iterW {A R : Type} (f : A → Option (Stp A R)) (a : A) : Option (Stp A R) := lim fun k => iterN f k a
theorem iterN_succ {A R : Type} (f : A → Option (Stp A R)) : ∀ (k : Nat) (a : A) (x : Stp A R), iterN f k a = some x → iterN f (k + 1) a = some x
  | 0, a, x, h => by cases h
  | k + 1, a, x, h => by
    unfold iterN at h ⊢
    cases hf : f a with
    | none => rw [hf] at h; cases h
    | some y =>
      rw [hf] at h
      simp only [kb_some] at h ⊢
      cases y with
      | go a' => exact iterN_succ f k a' x h
      | ex _ _ => exact h
      | ret _ => exact h
theorem iterN_mono {A R : Type} (f : A → Option (Stp A R)) (a : A) : MonoN fun k => iterN f k a := by
  intro k k' x hk h
  induction hk with
  | refl => exact h
  | step _ ih => exact iterN_succ f _ a x ih
theorem iterW_iff {A R : Type} (f : A → Option (Stp A R)) (a : A) (x : Stp A R) : iterW f a = some x ↔ ∃ k, iterN f k a = some x := lim_iff (iterN_mono f a) x
theorem iterW_go {A R : Type} {f : A → Option (Stp A R)} {a a' : A} (h : f a = some (.go a')) : iterW f a = iterW f a' := by
  apply opt_ext
  intro x
  rw [iterW_iff, iterW_iff]
  constructor
  · rintro ⟨k, hk⟩
    cases k with
    | zero => cases hk
    | succ k => exact ⟨k, by unfold iterN at hk; rw [h] at hk; exact hk⟩
  · rintro ⟨k, hk⟩
    exact ⟨k + 1, by unfold iterN; rw [h]; exact hk⟩
theorem iterW_ex {A R : Type} {f : A → Option (Stp A R)} {a a' : A} {k : Nat} (h : f a = some (.ex k a')) : iterW f a = some (.go a') :=
  (iterW_iff _ _ _).2 ⟨1, by unfold iterN; rw [h]; rfl⟩
theorem iterW_ret {A R : Type} {f : A → Option (Stp A R)} {a : A} {r : R} (h : f a = some (.ret r)) : iterW f a = some (.ret r) :=
  (iterW_iff _ _ _).2 ⟨1, by unfold iterN; rw [h]; rfl⟩
/-! ### loops -/
theorem C_loop_step {b : Code} {s s' : St} (h : C P cfg b s = some (.normal, s')) : C P cfg (.loop b) s = C P cfg (.loop b) s' := by
  rw [C_loop, h]
theorem C_loop_out {b : Code} {s s' : St} {e : Ex} (h : C P cfg b s = some (e, s')) (he : e ≠ .normal) : C P cfg (.loop b) s = some (e, s') := by
  rw [C_loop, h]
  cases e with
  | normal => exact absurd rfl he
  | _ => rfl
theorem fold_sim {b : Code} {own : Nat} {X A : Type} {l : List X} {f : Nat → A → X → Option A} {I : Nat → A → St → Prop} {Q : A → St → Prop}
    (hs : ∀ i x a q r, l[i]? = some x → i < l.length → I i a q → f i a x = some r → Res (C P cfg b q) (postG (I (i + 1)) r))
    (hn : ∀ a q, I l.length a q → Res (C P cfg b q) fun e q' => e = .exit own ∧ Q a q')
    {a r : A} {s : St} {z : Option (Ex × St)} (h0 : I 0 a s) (hz : C P cfg (.block own (.loop b)) s = z) (hB : foldO f 0 a l = some r) : Res z (postG Q r) := by
  subst hz
  have hx : ∀ (d i : Nat) (a : A) (s : St), i + d = l.length → I i a s → foldO f i a (l.drop i) = some r → Res (C P cfg (.block own (.loop b)) s) (postG Q r) := by
    intro d
    induction d with
    | zero =>
      intro i a s hi h hB
      obtain rfl : i = l.length := by omega
      rw [List.drop_length] at hB
      obtain rfl : a = r := Option.some.inj hB
      obtain ⟨e, s', hc, rfl, hq⟩ := (hn a s h).open
      rw [C_block', C_loop_out hc (by intro e; cases e), blockC_exit, if_pos rfl]
      exact ⟨rfl, hq⟩
    | succ d ih =>
      intro i a s hi h hB
      have hi' : i < l.length := by omega
      rw [List.drop_eq_getElem_cons hi'] at hB
      obtain ⟨a', h1, h2⟩ := kb_inv hB
      obtain ⟨e, s', hc, rfl, hq⟩ := (hs i l[i] a s a' (by simp [hi']) hi' h h1).open
      rw [C_block', C_loop_step hc, ← C_block']
      exact ih (i + 1) a' s' (by omega) hq h2
  exact hx l.length 0 a s (by omega) h0 hB
theorem loopL_sim {b : Code} {own : Nat} {X A R : Type} {l : List X} {f : Nat → A → X → Option (Stp A R)} {I : Nat → A → St → Prop} {Q : A → St → Prop} {QR : R → St → Prop}
    (hs : ∀ i x a q r, l[i]? = some x → i < l.length → I i a q → f i a x = some r → Res (C P cfg b q) (postB own (I (i + 1)) Q QR r))
    (hn : ∀ a q, I l.length a q → Res (C P cfg b q) fun e q' => e = .exit own ∧ Q a q')
    {a : A} {r : Stp A R} {s : St} {z : Option (Ex × St)} (h0 : I 0 a s) (hz : C P cfg (.block own (.loop b)) s = z) (hB : loopL f 0 a l = some r) : Res z (postS Q QR r) := by
  subst hz
  have hx : ∀ (d i : Nat) (a : A) (s : St), i + d = l.length → I i a s → loopL f i a (l.drop i) = some r → Res (C P cfg (.block own (.loop b)) s) (postS Q QR r) := by
    intro d
    induction d with
    | zero =>
      intro i a s hi h hB
      obtain rfl : i = l.length := by omega
      rw [List.drop_length] at hB
      obtain rfl : Stp.go a = r := Option.some.inj hB
      obtain ⟨e, s', hc, rfl, hq⟩ := (hn a s h).open
      rw [C_block', C_loop_out hc (by intro e; cases e), blockC_exit, if_pos rfl]
      exact ⟨rfl, hq⟩
    | succ d ih =>
      intro i a s hi h hB
      have hi' : i < l.length := by omega
      rw [List.drop_eq_getElem_cons hi'] at hB
      obtain ⟨y, h1, h2⟩ := kb_inv hB
      obtain ⟨e, s', hc, hq⟩ := (hs i l[i] a s y (by simp [hi']) hi' h h1).open
      cases y with
      | go a' =>
        obtain ⟨rfl, hq⟩ := hq
        rw [C_block', C_loop_step hc, ← C_block']
        exact ih (i + 1) a' s' (by omega) hq h2
      | ex k a' =>
        obtain ⟨rfl, rfl, hq⟩ := hq
        obtain rfl : Stp.go a' = r := Option.some.inj h2
        rw [C_block', C_loop_out hc (by intro e; cases e), blockC_exit, if_pos rfl]
        exact ⟨rfl, hq⟩
      | ret u =>
        obtain ⟨rfl, hq⟩ := hq
        obtain rfl : Stp.ret u = r := Option.some.inj h2
        rw [C_block', C_loop_out hc (by intro e; cases e), blockC_ret]
        exact ⟨rfl, hq⟩
  exact hx l.length 0 a s (by omega) h0 hB
theorem while_sim {b : Code} {own : Nat} {A R : Type} {f : A → Option (Stp A R)} {I : A → St → Prop} {Q : A → St → Prop} {QR : R → St → Prop}
    (hs : ∀ a q r, I a q → f a = some r → Res (C P cfg b q) (postB own I Q QR r))
    {a : A} {r : Stp A R} {s : St} {z : Option (Ex × St)} (h0 : I a s) (hz : C P cfg (.block own (.loop b)) s = z) (hB : iterW f a = some r) : Res z (postS Q QR r) := by
  subst hz
  obtain ⟨k, hk⟩ := (iterW_iff _ _ _).1 hB
  clear hB
  induction k generalizing a s with
  | zero => cases hk
  | succ k ih =>
    obtain ⟨y, h1, h2⟩ := kb_inv hk
    obtain ⟨e, s', hc, hq⟩ := (hs a s y h0 h1).open
    cases y with
    | go a' =>
      obtain ⟨rfl, hq⟩ := hq
      rw [C_block', C_loop_step hc, ← C_block']
      exact ih hq h2
    | ex k a' =>
      obtain ⟨rfl, rfl, hq⟩ := hq
      obtain rfl : Stp.go a' = r := Option.some.inj h2
      rw [C_block', C_loop_out hc (by intro e; cases e), blockC_exit, if_pos rfl]
      exact ⟨rfl, hq⟩
    | ret u =>
      obtain ⟨rfl, hq⟩ := hq
      obtain rfl : Stp.ret u = r := Option.some.inj h2
      rw [C_block', C_loop_out hc (by intro e; cases e), blockC_ret]
      exact ⟨rfl, hq⟩
/-! ### parts of code -/
def Code.fst : Code → Code
  | .seq a _ => a
  | .cond _ a _ => a
  | .block _ b => b
  | .loop b => b
  | c => c
def Code.snd : Code → Code
  | .seq _ b => b
  | .cond _ _ b => b
  | c => c
/-! ### what a function answers, decoded -/
noncomputable def dec {T : Type} (x : Option (AV × List AV × List AV)) (enc : T → AV × List AV × List AV) : Option T :=
  open Classical in if h : ∃ t, x = some (enc t) then some h.choose else none
theorem dec_run {T : Type} {x : Option (AV × List AV × List AV)} {enc : T → AV × List AV × List AV} {t : T} (h : dec x enc = some t) : x = some (enc t) := by
  unfold dec at h
  split at h
  · rename_i hx
    obtain rfl := Option.some.inj h
    exact hx.choose_spec
  · cases h
theorem dec_of {T : Type} {x : Option (AV × List AV × List AV)} {enc : T → AV × List AV × List AV} {t : T} (inj : ∀ a b, enc a = enc b → a = b) (h : x = some (enc t)) : dec x enc = some t := by
  unfold dec
  have hx : ∃ t, x = some (enc t) := ⟨t, h⟩
  rw [dif_pos hx]
  have e : t = hx.choose := inj _ _ (Option.some.inj (h.symm.trans hx.choose_spec))
  rw [← e]
/-! ### rows, indices -/
def appK {X : Type} (l new : List X) (b : Nat) : Option (List X) := if (l.length + new.length) * b ≤ 70368744177664 then some (l ++ new) else none
theorem appK_inv {X : Type} {l new l' : List X} {b : Nat} (h : appK l new b = some l') : l' = l ++ new ∧ (l.length + new.length) * b ≤ 70368744177664 ∧ new.length * b ≤ 70368744177664 := by
  unfold appK at h
  split at h
  · rename_i hc
    exact ⟨(Option.some.inj h).symm, hc, Nat.le_trans (Nat.mul_le_mul_right _ (by omega)) hc⟩
  · cases h
theorem appK_some {X : Type} {l new : List X} {b : Nat} (h : (l.length + new.length) * b ≤ 70368744177664) : appK l new b = some (l ++ new) := if_pos h
theorem appK_len {X : Type} {l new l' : List X} {b : Nat} (h : appK l new b = some l') : l.length + new.length = l'.length := by
  obtain ⟨rfl, _⟩ := appK_inv h
  rw [List.length_append]
theorem appK_le {X : Type} {l new l' : List X} {b : Nat} (h : appK l new b = some l') : l'.length * b ≤ 70368744177664 := by
  rw [← appK_len h]; exact (appK_inv h).2.1
theorem appK_cases {X : Type} {l new l' : List X} {b : Nat} (h : appK l new b = some l') : new.length = 0 ∨ ¬ new.length = 0 := Decidable.em _
/-- an element of a row, anew -/
def setK {X : Type} (l : List X) (j : Int) (x : X) : Option (List X) := if 0 ≤ j ∧ j < (l.length : Int) then some (l.set j.toNat x) else none
theorem setK_inv {X : Type} {l l' : List X} {j : Int} {x : X} (h : setK l j x = some l') : (0 ≤ j ∧ j < (l.length : Int)) ∧ l' = l.set j.toNat x := by
  unfold setK at h
  split at h
  · rename_i hc; exact ⟨hc, (Option.some.inj h).symm⟩
  · cases h
/-- a row of equal elements -/
def makeK {X : Type} (z : X) (n : Int) (b : Nat) : Option (List X) := if 0 ≤ n ∧ b * n ≤ 140737488355328 ∧ n < 9223372036854775808 then some (List.replicate n.toNat z) else none
def getI {X : Type} (l : List X) (j : Int) : Option X := if 0 ≤ j then l[j.toNat]? else none
theorem getI_inv {X : Type} {l : List X} {j : Int} {x : X} (h : getI l j = some x) : 0 ≤ j ∧ j < (l.length : Int) ∧ l[j.toNat]? = some x ∧ l.isEmpty = false := by
  unfold getI at h
  split at h
  · rename_i hj
    have h1 := (List.getElem?_eq_some_iff.1 h).1
    refine ⟨hj, by omega, h, ?_⟩
    cases l with
    | nil => simp at h1
    | cons _ _ => rfl
  · cases h
theorem getI_nat {X : Type} (l : List X) (i : Nat) : getI l (i : Int) = l[i]? := by
  unfold getI
  rw [if_pos (by omega)]
  simp
theorem getI_of {X : Type} {l : List X} {j : Int} {x : X} (h0 : 0 ≤ j) (h : l[j.toNat]? = some x) : getI l j = some x := by unfold getI; rw [if_pos h0, h]
theorem ne_of_get {X : Type} {l : List X} {i : Nat} {x : X} (h : l[i]? = some x) : l.isEmpty = false := by
  cases l with
  | nil => simp at h
  | cons _ _ => rfl
def smallK {X : Type} (l : List X) : Option Unit := if l.length < 4611686018427387904 then some () else none
theorem smallK_inv {X : Type} {l : List X} {u : Unit} (h : smallK l = some u) : l.length < 4611686018427387904 := by
  unfold smallK at h
  split at h
  · assumption
  · cases h
theorem smallK_some {X : Type} {l : List X} (h : l.length < 4611686018427387904) : smallK l = some () := if_pos h
theorem idx_step {i n : Nat} (h : i < n) (hn : n < 4611686018427387904) : add64 (i : Int) 1 = ((i + 1 : Nat) : Int) := by
  unfold add64; rw [wr64_of (by omega) (by omega)]; omega
/-- one text behind another -/
def catK (x y : List UInt8) : Option (List UInt8) := if x.length + y.length < 4611686018427387904 then some (x ++ y) else none
theorem catK_inv {x y S : List UInt8} (h : catK x y = some S) : x.length + y.length < 4611686018427387904 ∧ x ++ y = S := by
  unfold catK at h
  split at h
  · cases h; exact ⟨by assumption, rfl⟩
  · cases h
theorem catK_some {x y : List UInt8} (h : x.length + y.length < 4611686018427387904) : catK x y = some (x ++ y) := if_pos h
/-- a condition that must hold -/
def mustK (p : Prop) [Decidable p] : Option Unit := if p then some () else none
theorem mustK_inv {p : Prop} [Decidable p] {u : Unit} (h : mustK p = some u) : p := by
  unfold mustK at h
  split at h
  · assumption
  · cases h
theorem mustK_some {p : Prop} [Decidable p] (h : p) : mustK p = some () := if_pos h
/-- a part of a list -/
def partK {X : Type} (l : List X) (lo hi : Int) : Option (List X) := if 0 ≤ lo ∧ lo ≤ hi ∧ hi ≤ (l.length : Int) then some ((l.drop lo.toNat).take (hi.toNat - lo.toNat)) else none
theorem partK_inv {X : Type} {l l' : List X} {lo hi : Int} (h : partK l lo hi = some l') : (0 ≤ lo ∧ lo ≤ hi ∧ hi ≤ (l.length : Int)) ∧ l' = (l.drop lo.toNat).take (hi.toNat - lo.toNat) ∧ hi.toNat - lo.toNat = l'.length := by
  unfold partK at h
  split at h
  · rename_i hc
    obtain rfl := Option.some.inj h
    refine ⟨hc, rfl, ?_⟩
    simp
    omega
  · cases h
theorem partK_h_str {X : Type} {l l' : List X} {hi : Int} (h : partK l 0 hi = some l') : (0 ≤ hi ∧ hi ≤ (l.length : Int) ∧ hi.toNat ≤ l.length) ∧ l.take hi.toNat = l' := by
  obtain ⟨⟨h1, h2, h3⟩, h4, h5⟩ := partK_inv h
  simp only [Int.toNat_zero, List.drop_zero, Nat.sub_zero] at h4 h5
  exact ⟨⟨h2, h3, by omega⟩, h4.symm⟩
theorem partK_l_str {X : Type} {l l' : List X} {lo : Int} (h : partK l lo (l.length : Int) = some l') : (0 ≤ lo ∧ lo ≤ (l.length : Int) ∧ lo.toNat ≤ l.length) ∧ ((l.drop lo.toNat).take (l.length - lo.toNat) = l' ∧ l.drop lo.toNat = l' ∧ l'.take (l.length - lo.toNat) = l') := by
  obtain ⟨⟨h1, h2, h3⟩, h4, h5⟩ := partK_inv h
  simp only [Int.toNat_natCast] at h4 h5
  refine ⟨⟨h1, h2, by omega⟩, h4.symm, ?_, ?_⟩
  · rw [h4, List.take_of_length_le]
    rw [List.length_drop]
    exact Nat.le_refl _
  · rw [h5, List.take_length]
/-- a slice that a function builds: nothing yet, or a row of its own -/
def ownAt (s : St) (v : AV) (id : Id) (pub : Bool) (sz n : Nat) (cells : List PV) : Prop := ∃ g, v = .osl id g n ∧ s (.i id) = .row g sz pub cells
/-! ### calls with a pointer to a block -/
def boxC : AV → List AV
  | .box _ c => c
  | _ => []
theorem boxC_box (g : Nat) (c : List AV) : boxC (.box g c) = c := rfl
def boxG : AV → Nat
  | .box g _ => g
  | _ => 0
theorem boxG_box (g : Nat) (c : List AV) : boxG (.box g c) = g := rfl
noncomputable def ptrK (r o : Nat) (x : Id) (g : Nat) (w : List (Loc × AV)) (c : List AV) (res : Option (AV × List AV × List AV)) (s : St) : Option Eff :=
  kb res fun q => vR (do
    need (decide (q.2.1.length = 1) && (q.2.1.all isEnt && q.2.2.all fun b => isEnt b && decide (0 < gen b)))
    need (q.2.2.isEmpty || noSite r o [x])
    let gl ← gens r o q.2.2.length 0
    RM.pure ({ v := renV (renBack r o [x] [.box g c] q.2.1 q.2.2 fun j => gl.getD j 0) q.1, wr := w ++ (backW (renBack r o [x] [.box g c] q.2.1 q.2.2 fun j => gl.getD j 0) [x] [.box g c] q.2.1 ++ newsW (renBack r o [x] [.box g c] q.2.1 q.2.2 fun j => gl.getD j 0) r o (fun j => gl.getD j 0) 0 q.2.2) } : Eff)) s
theorem ptrK_some (r o : Nat) (x : Id) (g g' : Nat) (w : List (Loc × AV)) (c c' : List AV) (v : AV) (s : St) (hv : idsV v = []) (hc : idsL c' = []) : ptrK r o x g w c (some (v, [.box g' c'], [])) s = some ⟨v, w ++ [(.i x, .box (g + g') c')]⟩ := by
  have hv' : ∀ m, renV m v = v := fun m => renV_none m v hv
  have hc' : ∀ m, renL m c' = c' := fun m => renL_none m c' hc
  unfold ptrK
  simp [kb_some, gens, vR_pure, newsW, hv', backW, renV, hc', setGen, gen, isEnt]
theorem ptrK_none (r o : Nat) (x : Id) (g : Nat) (w : List (Loc × AV)) (c : List AV) (s : St) : ptrK r o x g w c none s = none := rfl
theorem reach_one (w : List (Loc × AV)) (x : Id) (s : St) (g : Nat) (c : List AV) (hw : lookW w (.i x) = none) (hx : s (.i x) = .box g c) (hc : idsL c = []) : vR (reach w [x]) s = some [x] ∧ vR (entries w [x]) s = some [.box g c] := by
  have he : vR (entries w [x]) s = some [.box g c] := by
    unfold entries rdW
    simp [vR_bind, vR_rd, kb_some, vR_pure, hw, hx, isEnt, vR_need, entries]
  refine ⟨?_, he⟩
  unfold reach
  rw [vR_bind, he, kb_some]
  simp [idsL, idsV, hc, dedup, vR_pure]
theorem giveK_ptr (sm : Sm) (r o : Nat) (x : Id) (g off : Nat) (vs : List AV) (w : List (Loc × AV)) (s : St) (hv : idsL vs = []) (hw : lookW w (.i x) = none)
    (hx : s (.i x) = .box g (boxC (s (.i x)))) (hc : idsL (boxC (s (.i x))) = []) :
    giveK sm r o (.ptr x g off :: vs) w s = ptrK r o x g w (boxC (s (.i x))) (sm (.ptr (.arg 0) 0 off :: vs) [.box 0 (boxC (s (.i x)))]) s := by
  generalize hcc : boxC (s (.i x)) = c at *
  obtain ⟨h1, h2⟩ := reach_one w x s g c hw hx hc
  unfold giveK
  have hd : dedup [] (idsL (.ptr x g off :: vs)) = [x] := by simp [idsL, idsV, hv, dedup]
  rw [hd]
  simp only [vR_bind, h1, h2, kb_some]
  have hr1 : renL (renTo [x] [.box g c] Id.arg) (.ptr x g off :: vs) = .ptr (.arg 0) 0 off :: vs := by
    show renV _ (.ptr x g off) :: renL _ vs = _
    rw [renL_none _ vs hv]
    simp [renV, renTo, idx?, gen]
  have hr2 : (renL (renTo [x] [.box g c] Id.arg) [.box g c]).map (setGen 0) = [.box 0 c] := by
    simp [renL, renV, renL_none _ c hc, setGen]
  rw [hr1, hr2]
  simp only [vR_lift, nodupB, vR_need]
  unfold ptrK
  simp [vR_bind, kb_some, vR_need]
/-- the same, with the log -/
theorem lR_one (w : List (Loc × AV)) (x : Id) (s : St) (g : Nat) (c : List AV) (hw : lookW w (.i x) = none) (hx : s (.i x) = .box g c) (hc : idsL c = []) : lR (reach w [x]) s = some ([x], [.i x]) ∧ lR (entries w [x]) s = some ([.box g c], [.i x]) := by
  have he : lR (entries w [x]) s = some ([.box g c], [.i x]) := by
    unfold entries rdW
    simp [lR_bind, lR_rd, lR_pure, hw, hx, isEnt, lR_need, entries]
  refine ⟨?_, he⟩
  unfold reach
  rw [lR_bind, he, lb_some]
  simp [idsL, idsV, hc, dedup, lR_pure]
noncomputable def ptrL (r o : Nat) (x : Id) (g : Nat) (w : List (Loc × AV)) (c : List AV) (res : Option (AV × List AV × List AV)) (s : St) : Option (Eff × List Loc) :=
  la [.i x] (la [.i x] (lb (res.map fun q => (q, [])) fun q => lR (do
    need (decide (q.2.1.length = 1) && (q.2.1.all isEnt && q.2.2.all fun b => isEnt b && decide (0 < gen b)))
    need (q.2.2.isEmpty || noSite r o [x])
    let gl ← gens r o q.2.2.length 0
    RM.pure ({ v := renV (renBack r o [x] [.box g c] q.2.1 q.2.2 fun j => gl.getD j 0) q.1, wr := w ++ (backW (renBack r o [x] [.box g c] q.2.1 q.2.2 fun j => gl.getD j 0) [x] [.box g c] q.2.1 ++ newsW (renBack r o [x] [.box g c] q.2.1 q.2.2 fun j => gl.getD j 0) r o (fun j => gl.getD j 0) 0 q.2.2) } : Eff)) s))
theorem ptrL_some (r o : Nat) (x : Id) (g g' : Nat) (w : List (Loc × AV)) (c c' : List AV) (v : AV) (s : St) (hv : idsV v = []) (hc : idsL c' = []) : ptrL r o x g w c (some (v, [.box g' c'], [])) s = some (⟨v, w ++ [(.i x, .box (g + g') c')]⟩, [.i x, .i x]) := by
  have hv' : ∀ m, renV m v = v := fun m => renV_none m v hv
  have hc' : ∀ m, renL m c' = c' := fun m => renL_none m c' hc
  unfold ptrL
  simp [gens, newsW, hv', backW, renV, hc', setGen, gen, isEnt]
theorem giveL_ptr (sm : Sm) (r o : Nat) (x : Id) (g off : Nat) (vs : List AV) (w : List (Loc × AV)) (s : St) (hv : idsL vs = []) (hw : lookW w (.i x) = none)
    (hx : s (.i x) = .box g (boxC (s (.i x)))) (hc : idsL (boxC (s (.i x))) = []) :
    giveL sm r o (.ptr x g off :: vs) w s = ptrL r o x g w (boxC (s (.i x))) (sm (.ptr (.arg 0) 0 off :: vs) [.box 0 (boxC (s (.i x)))]) s := by
  generalize hcc : boxC (s (.i x)) = c at *
  obtain ⟨h1, h2⟩ := lR_one w x s g c hw hx hc
  have la0 : ∀ {α : Type} (x : Option (α × List Loc)), la [] x = x := fun x => by cases x <;> rfl
  unfold giveL
  have hd : dedup [] (idsL (.ptr x g off :: vs)) = [x] := by simp [idsL, idsV, hv, dedup]
  rw [hd]
  rw [lR_bind, h1, lb_some]
  rw [lR_bind, lR_need]
  simp only [nodupB, List.contains_nil, Bool.not_false, Bool.and_self, if_true, lb_some, la0]
  rw [lR_bind, h2, lb_some]
  have hr1 : renL (renTo [x] [.box g c] Id.arg) (.ptr x g off :: vs) = .ptr (.arg 0) 0 off :: vs := by
    show renV _ (.ptr x g off) :: renL _ vs = _
    rw [renL_none _ vs hv]
    simp [renV, renTo, idx?, gen]
  have hr2 : (renL (renTo [x] [.box g c] Id.arg) [.box g c]).map (setGen 0) = [.box 0 c] := by
    simp [renL, renV, renL_none _ c hc, setGen]
  rw [hr1, hr2, lR_bind, lR_lift]
  rfl
/-- a call that makes one block and hands out a pointer to it -/
theorem doneK_new1 (r o : Nat) (g : Nat) (c : List AV) (w : List (Loc × AV)) (s : St) (hg : 0 < g) (hc : idsL c = []) : doneK r o (some (.ptr (.ret 0) g 0, [], [.box g c])) w s =
    some ⟨.ptr (.site r o 0) (gen (s (.i (.site r o 0))) + g) 0, w ++ [(.i (.site r o 0), .box (gen (s (.i (.site r o 0))) + g) c)]⟩ := by
  have hc' : ∀ m, renL m c = c := fun m => renL_none m c hc
  unfold doneK
  simp [kb_some, gens, vR_bind, vR_rd, vR_pure, newsW, renV, renBack, hc', setGen, gen, isEnt, hg]
/-- the end of a function with a pointer to a block -/
theorem endK_ptr (ws : List AV) (w : List (Loc × AV)) (s : St) (h : idsL ws = []) (hw : lookW w (.i (.arg 0)) = none) (hx : s (.i (.arg 0)) = .box (boxG (s (.i (.arg 0)))) (boxC (s (.i (.arg 0))))) (hc : idsL (boxC (s (.i (.arg 0)))) = []) :
    endK 1 ws w s = some (oneOf ws, [.box (boxG (s (.i (.arg 0)))) (boxC (s (.i (.arg 0))))], []) := by
  generalize hgg : boxG (s (.i (.arg 0))) = g at *
  generalize hcc : boxC (s (.i (.arg 0))) = c at *
  unfold endK
  have h2 : vR (entries w (argIds 1 0)) s = some [.box g c] := (reach_one w (.arg 0) s g c hw hx hc).2
  simp only [vR_bind, h2, kb_some, h, idsL, idsV, hc, List.append_nil]
  rw [show vR (reach w (List.filter isSite (dedup [] []))) s = some [] by rw [vR_is]; rfl]
  simp only [kb_some, List.filter_nil, nodupB, vR_need, if_true, entries, vR_pure]
  have h1 : idsV (oneOf ws) = [] := by
    unfold oneOf
    split
    · simpa [idsL] using h
    · simpa [idsV] using h
  rw [renV_none _ _ h1]
  simp [renL, renV, renL_none _ c hc]
/-- the end of a function that hands out a pointer to a block of its own -/
theorem endK_new1 (r o g : Nat) (w : List (Loc × AV)) (s : St) (hw : lookW w (.i (.site r o 0)) = none) (hx : s (.i (.site r o 0)) = .box g (boxC (s (.i (.site r o 0))))) (hc : idsL (boxC (s (.i (.site r o 0)))) = []) :
    endK 0 [.ptr (.site r o 0) g 0] w s = some (.ptr (.ret 0) 1 0, [], [.box 1 (boxC (s (.i (.site r o 0))))]) := by
  generalize hcc : boxC (s (.i (.site r o 0))) = c at *
  obtain ⟨h1, h2⟩ := reach_one w (.site r o 0) s g c hw hx hc
  unfold endK
  simp only [vR_bind, argIds, entries, vR_pure, kb_some]
  rw [show List.filter isSite (dedup [] (idsL [.ptr (.site r o 0) g 0] ++ idsL [])) = [.site r o 0] by simp [idsL, idsV, dedup, isSite]]
  simp only [h1, kb_some]
  rw [show List.filter isSite [Id.site r o 0] = [.site r o 0] by simp [isSite]]
  simp only [h2, kb_some, vR_need, nodupB]
  simp [renV, renL, renOut, idx?, gen, setGen, oneOf, renL_none _ c hc, kb_some]
/-- what a guard says, with the log -/
def gL (t : Option Tmp) (s : St) (want : Bool) : Option (Bool × List Loc) :=
  match t with
  | none => some (false, [])
  | some t => (gB (s (.t t)) want).map fun b => (b, [.t t])
theorem gL_some (t : Tmp) (s : St) (want : Bool) : gL (some t) s want = (gB (s (.t t)) want).map fun b => (b, [.t t]) := rfl
theorem wanted_l (all : List Oper) (op : Op) (d : Option Tmp) (ty : TypeId) (p : String) (a : Array Edge) (g : Nat) (w : Bool) (s : St) : lR (wantedA all ⟨d, op, ty, p, a, some (g, w)⟩) s = gL ((all[g]?).bind (·.dst)) s w := by
  unfold wantedA
  simp only
  cases (all[g]?).bind (·.dst) with
  | none => exact lR_pure _ _
  | some t =>
    simp only
    rw [lR_bind, lR_rd, lb_some]
    show _ = (gB (s (.t t)) w).map _
    generalize s (.t t) = v
    cases v with
    | pv q => cases q <;> first | (rw [lR_pure]; rfl) | (rw [lR_fail]; rfl)
    | tup _ => rw [lR_pure]; rfl
    | _ => rw [lR_fail]; rfl
theorem p_pick_l (call : Fs) (r j : Nat) (c a b : Operand) (s : St) : lR (opA P call r j (.pick c a b)) s =
    lb (lR (evO c) s) fun cv => match cv with
      | .pv (.bool true) => lb (lR (evO a) s) fun v => some (⟨v, []⟩, [])
      | .pv (.bool false) => lb (lR (evO b) s) fun v => some (⟨v, []⟩, [])
      | _ => none := by
  unfold opA
  simp only [lR_bind]
  congr 1; funext cv
  cases cv with
  | pv p => cases p with
    | bool t => cases t <;> simp only [lR_bind, lR_ret]
    | _ => exact lR_fail _
  | _ => exact lR_fail _
theorem p_un_l (call : Fs) (r j : Nat) (op : UnOp) (t : TypeId) (x : Operand) (s : St) : lR (opA P call r j (.unOp op t x)) s =
    lb (lR (evO x) s) fun a => (optK (unA op a)).map fun e => (e, []) := by
  unfold opA
  simp only [lR_bind]
  congr 1; funext a
  cases unA op a with
  | none => exact lR_fail _
  | some p => exact lR_ret _ _
theorem p_box_l (call : Fs) (r j : Nat) (t : TypeId) (x : Operand) : opA P call r j (.box t x) = (evO x >>= fun v => newBox r j (flat v)) := rfl
theorem p_convert_l (call : Fs) (r j : Nat) (a b : TypeId) (x : Operand) : opA P call r j (.convert a b x) = (evO x >>= fun v => convA P a b v) := rfl
theorem p_slice_l (call : Fs) (r j : Nat) (t : TypeId) (x : Operand) (lo hi : Option Operand) : opA P call r j (.slice t x lo hi none) = (evO x >>= fun v => evOpt lo >>= fun l => evOpt hi >>= fun h => sliceA P t v l h) := rfl
theorem p_field_l (call : Fs) (r j : Nat) (t : TypeId) (x : Operand) (f : Nat) : opA P call r j (.field t x f) = (evO x >>= fun v => fieldA P t v f) := rfl
theorem p_index_l (call : Fs) (r j : Nat) (t : TypeId) (x i : Operand) : opA P call r j (.index t x i) = (evO x >>= fun v => evO i >>= fun n => indexA P t v n) := rfl
theorem p_makeSlice_l (call : Fs) (r j : Nat) (t : TypeId) (x i : Operand) : opA P call r j (.makeSlice t x i) = (evO x >>= fun v => evO i >>= fun n => makeSliceA P r j t v n) := rfl
theorem p_extract_l (call : Fs) (r j : Nat) (t : Operand) (i : Nat) (s : St) : lR (opA P call r j (.extract t i)) s = lb (lR (evO t) s) fun v => (tupK v i).map fun e => (e, []) := by
  unfold opA
  simp only [lR_bind]
  congr 1; funext v
  unfold tupK
  cases v with
  | tup l => simp only; cases l[i]? with
    | none => exact lR_fail _
    | some u => exact lR_ret _ _
  | _ => exact lR_fail _
attribute [simp] st1_some_l wanted_l gL_some p_pick_l p_un_l p_box_l p_convert_l p_slice_l p_field_l p_index_l p_makeSlice_l p_extract_l
theorem lookW_cons (y x : Loc) (v : AV) (r : List (Loc × AV)) (h : x ≠ y) : lookW ((y, v) :: r) x = lookW r x := by
  show (match lookW r x with
    | some u => some u
    | none => if x = y then some v else none) = _
  rw [if_neg h]
  cases lookW r x <;> rfl
attribute [simp] lookW_cons
/-! ### parts, with the log -/
theorem bpl_nil (s : St) : lR (pubParts []) s = some (([], []), []) := lR_pure _ _
theorem bpl_cons (i : Nat) (v : AV) (vs : List (Nat × AV)) (s : St) : lR (pubParts ((i, v) :: vs)) s = lb (lR (pubV v) s) fun a => lb (lR (pubParts vs) s) fun b => some (((i, a.1) :: b.1, a.2 ++ b.2), []) := by
  show lR (pubV v >>= fun a => pubParts vs >>= fun b => RM.pure ((i, a.1) :: b.1, a.2 ++ b.2)) s = _
  simp only [lR_bind, lR_pure]
theorem q1_osl (x : Id) (g n : Nat) (s : St) : lR (pub1 (.osl x g n)) s = (rowK (s (.i x)) x g n).map fun y => (y, [.i x]) := by
  unfold pub1
  rw [lR_bind, lR_rd, lb_some]
  generalize s (.i x) = e
  unfold rowK
  cases e with
  | row g' sz b cells =>
    simp only
    by_cases h : g' = g
    · rw [if_pos h, if_pos h, lR_pure]; rfl
    · rw [if_neg h, if_neg h, lR_fail]; rfl
  | _ => rw [lR_fail]; rfl
attribute [simp] bpl_nil bpl_cons q1_osl
attribute [simp] endK_ptr endK_new1
attribute [simp] giveK_ptr ptrK_some ptrK_none giveL_ptr ptrL_some boxC_box boxG_box doneK_new1
@[simp] theorem oneOf_nil : oneOf [] = .tup [] := rfl
@[simp] theorem binNil_any_nil (P : Program) (op : BinOp) (t : TypeId) (x y : Operand) : binNil P op t x y (.pv .anyif) (.pv .nilif) = (match tyA P t with
    | some ty => (match ty.d with
      | .iface => eqSame op false
      | _ => none)
    | none => none) := rfl
@[simp] theorem binNil_nil_nil (P : Program) (op : BinOp) (t : TypeId) (x y : Operand) : binNil P op t x y (.pv .nilif) (.pv .nilif) = (if isConstO x || isConstO y then
      (match tyA P t with
      | some ty => (match ty.d with
        | .iface => eqSame op true
        | _ => none)
      | none => none)
    else none) := rfl
@[simp] theorem isConstO_const (v : Value) : isConstO (.const v) = true := rfl
@[simp] theorem isConstO_tmp (t : Nat) : isConstO (.tmp t) = false := rfl
end Go.Am
/-
From the abstract machine to what a row asks of a call.
-/
namespace Go.Am
open Go Go.RowKit
/-- what is there at the start, and never changes -/
def I0 (w : World) (b : Nat) : Prop := b < w.heap.size
abbrev G0 : Gn := fun _ => 0
abbrev M0 : Mu := fun _ => none
/-- the table holds what it holds -/
def TabAt (w : World) : Prop := ∀ g, isTab g → ∃ cs e r, w.heap[g]? = some (.cells cs e r) ∧ okT g cs
theorem start_rel (w : World) (hT : TabAt w) (args : List AV) : SRel w.heap (fun _ => False) M0 (enterA args []) where
  low b h := h.elim
  tab g hg := ⟨fun ⟨id, c, e, _⟩ => (by cases e), hT g hg⟩
  ent id := by
    cases id with
    | arg j => show EntOk _ _ _ _ _ none (([] : List AV).getD j (.tup [])); rw [List.getD_nil]; trivial
    | ret j => exact trivial
    | site r o j => exact trivial
  inj id id' b c c' h := by cases h
theorem start_imm (w : World) (args : List AV) (b : Nat) (h : I0 w b) : Imm w.heap (fun _ => False) M0 (enterA args []) b :=
  ⟨h, fun h => h, fun ⟨id, c, e, _⟩ => by cases e⟩
theorem start_gs (args : List AV) : Gs (enterA args []) = G0 := by
  funext id
  cases id with
  | arg j => show gen (([] : List AV).getD j (.tup [])) = 0; rw [List.getD_nil]; rfl
  | ret j => rfl
  | site r o j => rfl
/-- a call whose answer the abstract machine tells: it answers so, and what was there before is as it was -/
theorem run_law {P : Program} {cfg : Cfg} (hP : P.follows .mixedOrders = true) (hx : ∀ f sm, cfg.ext f = some sm → SoundF P f sm) {f : FuncId} {args : List AV} {v : AV} (h : W P cfg f args [] = some (v, [], []))
    {b : Bool} (hv : v = .pv (.bool b)) (w : World) (hT : TabAt w) (cargs : Array Value) (R : RepL w.heap (I0 w) G0 M0 args cargs.toList) :
    Calls P f cargs w fun e w' => e = .returned (.bool b) ∧ Below w.heap.size w w' := by
  subst hv
  obtain ⟨_, hr⟩ := W_sound hP hx f args [] (.pv (.bool b)) [] [] h
  refine (hr (fun _ => False) w M0 cargs (start_rel w hT args) ?_).mono ?_
  · show RepL _ _ (Gs (enterA args [])) _ _ _
    rw [start_gs]
    exact RepL.mono ⟨start_imm w args, fun _ _ => rfl⟩ ⟨fun _ => Nat.le_refl _, fun _ _ => rfl⟩ _ _ R
  · rintro e w' ⟨cv, μ', rfl, S, rv, T⟩
    have : cv = .bool b := rv
    subst this
    exact ⟨rfl, T.io.os, T.io.tape, T.io.output, T.tr.size, fun k hk => T.tr.keep k hk fun ⟨id, c, e, _⟩ => by cases e⟩
theorem cell_block {w : World} {x : Addr} {v : Value} (h : w.cell? x = some v) : x.block < w.heap.size ∧ x.spot = none := by
  unfold World.cell? at h
  split at h
  · rename_i c _ _ hh
    refine ⟨(Array.getElem?_eq_some_iff.1 hh).1, ?_⟩
    split at h
    · cases h
    · rename_i hs; cases hx : x.spot with
      | none => rfl
      | some _ => rw [hx] at hs; exact absurd rfl hs
  · cases h
end Go.Am
/-
Functions of Go's library that the abstract machine does not step through: what is known of them is told of them.
-/
namespace Go.Am
open Go Go.RowKit
theorem W_ext {P : Program} {cfg : Cfg} {f : FuncId} {sm : Sm} (he : cfg.ext f = some sm) (a b : List AV) : W P cfg f a b = sm a b := by
  apply opt_ext
  intro x
  rw [W_iff]
  constructor
  · rintro ⟨k, h⟩
    cases k with
    | zero => cases h
    | succ k => unfold evF at h; rw [he] at h; exact h
  · intro h
    exact ⟨1, by unfold evF; rw [he]; exact h⟩
theorem outSt_nil (id : Id) : outSt [] [] (.i id) = .tup [] := by
  cases id with
  | arg j => show ([] : List AV).getD j (.tup []) = _; rw [List.getD_nil]
  | ret j => show ([] : List AV).getD j (.tup []) = _; rw [List.getD_nil]
  | site r o j => rfl
theorem enterA_nil (args : List AV) (id : Id) : enterA args [] (.i id) = .tup [] := by
  cases id with
  | arg j => show ([] : List AV).getD j (.tup []) = _; rw [List.getD_nil]
  | ret j => rfl
  | site r o j => rfl
/-- a function that takes and gives values alone -/
theorem soundF_vals {P : Program} {f : FuncId} (hc : Callable P f) {sm : Sm}
    (h : ∀ args bs v bs' news, sm args bs = some (v, bs', news) → (bs = [] ∧ (bs' = [] ∧ news = [])) ∧
      ∀ (w : World) (I M : Nat → Prop) (G : Gn) (μ : Mu) (cargs : Array Value), Tabs w.heap M → (∀ b, I b → b < w.heap.size) → RepL w.heap I G μ args cargs.toList →
        Calls P f cargs w fun e w' => (∃ cv, e = .returned cv ∧ ∀ (h' : Heap) (J : Nat → Prop) (G' : Gn) (μ' : Mu), RepV h' J G' μ' v cv) ∧ Below w.heap.size w w') : SoundF P f sm := by
  intro args bs v bs' news hs
  obtain ⟨⟨rfl, rfl, rfl⟩, hp⟩ := h args bs v bs' news hs
  refine ⟨hc, fun F w μ cargs S R => ?_⟩
  refine (hp w _ _ _ μ cargs S.tab (fun b hb => hb.1) R).mono fun e w' ⟨⟨cv, he, hv⟩, bel⟩ => ⟨cv, μ, he, ⟨fun b hb => Nat.lt_of_lt_of_le (S.low b hb) bel.size, fun id => ?_, fun id id' b c c' _ _ m => ?_, ?_⟩, hv _ _ _ _, ⟨⟨bel.size, fun b hb _ => bel.block b hb, fun b m => ?_, fun id => ?_, fun _ _ => rfl⟩, ⟨bel.os, bel.tape, bel.output⟩⟩⟩
  · rw [outSt_nil]; trivial
  · rw [outSt_nil] at m; cases m
  · exact S.tab.next (fun b hb _ => bel.block b hb) fun b ⟨id, c, _, m⟩ => by rw [outSt_nil] at m; cases m
  · obtain ⟨id, c, _, m⟩ := m
    rw [outSt_nil] at m; cases m
  · simp only [Gs, outSt_nil, enterA_nil]
    exact Nat.le_refl _
theorem soundF_pure {P : Program} {f : FuncId} (hc : Callable P f) {sm : Sm}
    (h : ∀ args bs v bs' news, sm args bs = some (v, bs', news) → (bs = [] ∧ (bs' = [] ∧ news = [])) ∧ ∃ p, v = .pv p ∧
      ∀ (w : World) (I M : Nat → Prop) (G : Gn) (μ : Mu) (cargs : Array Value), Tabs w.heap M → (∀ b, I b → b < w.heap.size) → RepL w.heap I G μ args cargs.toList →
        Calls P f cargs w fun e w' => (∃ cv, e = .returned cv ∧ ∀ (h' : Heap) (J : Nat → Prop), RepP h' J p cv) ∧ Below w.heap.size w w') : SoundF P f sm :=
  soundF_vals hc fun args bs v bs' news hs => by
    obtain ⟨h1, p, rfl, hp⟩ := h args bs v bs' news hs
    exact ⟨h1, fun w I M G μ cargs hT hI R => (hp w I M G μ cargs hT hI R).mono fun e w' ⟨⟨cv, he, hv⟩, bel⟩ => ⟨⟨cv, he, fun h' J _ _ => hv h' J⟩, bel⟩⟩
theorem rowGet {h : Heap} {I : Nat → Prop} {b : Nat} : ∀ {off : Nat} {l : List PV}, RepRow h I b off l → ∀ (j : Nat) p, l[j]? = some p → ∃ v, cellAt h b (off + j) = some v ∧ RepP h I p v
  | off, [], _, j, p, e => by simp at e
  | off, x :: r, R, 0, p, e => by
    simp at e; subst e
    exact R.1
  | off, x :: r, R, j + 1, p, e => by
    have := rowGet R.2 j p (by simpa using e)
    rw [show off + (j + 1) = off + 1 + j by omega]
    exact this
def ifP (b : Bool) : PV := if b then .nilif else .anyif
@[simp] theorem ifP_true : ifP true = .nilif := rfl
@[simp] theorem ifP_false : ifP false = .anyif := rfl
@[simp] theorem ifP_inj {a b : Bool} : ifP a = ifP b ↔ a = b := by cases a <;> cases b <;> simp [ifP]
end Go.Am
/-
  DERIVED: THE SHELF's CONTRACTS AT THIS DUMP, IN PLAIN WORDS (tools/lay-plain.mjs out of 'YthkahljlmncdiaaGreatDoorShelf.lean', which tools/lay-shelf.mjs wrote): THE SAME DECLARATIONS UNDER THE SAME NAMES: 'import', 'namespace', 'open', 'def', 'theorem' AND NOTHING ELSE: no command of the shelf's: FOR A HAND-IN. Each laying: the table of numbers ('.._ren') and one theorem, a field a fact of the dump's own or the kernel's comparison; each contract: ONE APPLICATION.
-/
namespace Go.Proofs
open Go.Shelf
def Tryz.lays156_ren : Go.Shelf.Ren := ⟨fun | 156 => 121 | 165 => 79 | 166 => 80 | 169 => 82 | 240 => 113 | 241 => 114 | 276 => 133 | 277 => 134 | n => n, fun | 31 => 57 | 9 => 9 | 3 => 3 | 4 => 4 | 0 => 0 | 20 => 20 | 72 => 110 | 76 => 95 | 70 => 108 | 37 => 91 | 75 => 71 | 127 => 137 | 164 => 152 | 5 => 5 | 80 => 113 | n => n, fun | n => n⟩
theorem Tryz.lays156 : Go.Proofs.Lays.n156 Tryz.prog Tryz.lays156_ren := {
  mixed := by kernel_rfl
  f156 := Tryz.func121.trans (congrArg some (by kernel_rfl))
  f165 := Tryz.func79.trans (congrArg some (by kernel_rfl))
  f166 := Tryz.func80.trans (congrArg some (by kernel_rfl))
  f169 := Tryz.func82.trans (congrArg some (by kernel_rfl))
  f240 := Tryz.func113.trans (congrArg some (by kernel_rfl))
  f241 := Tryz.func114.trans (congrArg some (by kernel_rfl))
  f276 := Tryz.func133.trans (congrArg some (by kernel_rfl))
  f277 := Tryz.func134.trans (congrArg some (by kernel_rfl))
  t0 := Tryz.underlying0
  a0 := Tryz.isAgg0
  z0 := Tryz.sizeOf0
  v0 := Tryz.zeroValue0
  t3 := Tryz.underlying3
  a3 := Tryz.isAgg3
  z3 := Tryz.sizeOf3
  v3 := Tryz.zeroValue3
  t4 := Tryz.underlying4
  a4 := Tryz.isAgg4
  z4 := Tryz.sizeOf4
  v4 := Tryz.zeroValue4
  t9 := Tryz.underlying9
  a9 := Tryz.isAgg9
  z9 := Tryz.sizeOf9
  v9 := Tryz.zeroValue9
  t20 := Tryz.underlying20
  a20 := Tryz.isAgg20
  z20 := Tryz.sizeOf20
  v20 := Tryz.zeroValue20
  t31 := Tryz.underlying57
  a31 := Tryz.isAgg57
  z31 := Tryz.sizeOf57
  v31 := Tryz.zeroValue57
  t37 := Tryz.underlying91
  a37 := Tryz.isAgg91
  z37 := Tryz.sizeOf91
  v37 := Tryz.zeroValue91
  t70 := Tryz.underlying108
  a70 := Tryz.isAgg108
  z70 := Tryz.sizeOf108
  v70 := Tryz.zeroValue108
  t72 := Tryz.underlying110
  a72 := Tryz.isAgg110
  z72 := Tryz.sizeOf110
  v72 := Tryz.zeroValue110
  t75 := Tryz.underlying71
  a75 := Tryz.isAgg71
  z75 := Tryz.sizeOf71
  v75 := Tryz.zeroValue71
  t76 := Tryz.underlying95
  a76 := Tryz.isAgg95
  z76 := Tryz.sizeOf95
  v76 := Tryz.zeroValue95
  t127 := Tryz.underlying137
  a127 := Tryz.isAgg137
  z127 := Tryz.sizeOf137
  v127 := Tryz.zeroValue137
  t164 := Tryz.underlying152
  a164 := Tryz.isAgg152
  z164 := Tryz.sizeOf152
  v164 := Tryz.zeroValue152 }
theorem Tryz.Builder_Extra_156 : Builder.Extra Tryz.prog Tryz.lays156_ren := {
  sizeBuilder := by kernel_rfl
  liesBuilder := by kernel_rfl
  t5 := Tryz.underlying5
  a5 := Tryz.isAgg5
  z5 := Tryz.sizeOf5
  v5 := Tryz.zeroValue5
  infoByte := by kernel_rfl
  cellsByte := by kernel_rfl
  sizeByte := by kernel_rfl
  neB5 := by decide }
open Go.RowKit in
/-- No element: the empty string; the world is as it was. (Whatever the slice's address and capacity: a nil slice too.) (LAID: no walk: one application.) -/
theorem Tryz.strings_Join_none (a : Option Addr) (c : Nat) (sep : ByteArray) (w : World) :
    Calls Tryz.prog 121 #[.slice a 0 c, .string sep] w fun e w' => e = .returned (.string ⟨#[]⟩) ∧ w' = w := Any.strings_Join_none Tryz.lays156 Tryz.Builder_Extra_156 a c sep w
open Go.RowKit in
/-- strings.Join: "Join concatenates the elements of its first argument to create a single string. The separator string sep is placed between elements in the resulting string.": HOWEVER MANY ELEMENTS. Below the heap's end the world is as it was. (LAID: no walk: one application.) -/
theorem Tryz.strings_Join (bk o c : Nat) (xs : List ByteArray) (sep : ByteArray) (w : World) (hcells : ∀ (j : Nat) x, xs[j]? = some x → w.cell? ⟨bk, o + j, none⟩ = some (.string x)) (hbk : bk < w.heap.size) (hN : xs.length ≤ 140737488355328) (hcap : xs.length ≤ c) (hlen : (Lib.join (xs.map (·.data.toList)) sep.data.toList).length ≤ 140737488355328) :
    Calls Tryz.prog 121 #[.slice (some ⟨bk, o, none⟩) xs.length c, .string sep] w fun e w' => e = .returned (.string ⟨(Lib.join (xs.map (·.data.toList)) sep.data.toList).toArray⟩) ∧ Below w.heap.size w w' := Any.strings_Join Tryz.lays156 Tryz.Builder_Extra_156 bk o c xs sep w hcells hbk hN hcap hlen
def Tryz.lays137_ren : Go.Shelf.Ren := ⟨fun | 137 => 104 | 217 => 127 | 266 => 141 | n => n, fun | 9 => 9 | 5 => 5 | 3 => 3 | n => n, fun | n => n⟩
theorem Tryz.lays137 : Go.Proofs.Lays.n137 Tryz.prog Tryz.lays137_ren := {
  mixed := by kernel_rfl
  f137 := Tryz.func104.trans (congrArg some (by kernel_rfl))
  f217 := Tryz.func127.trans (congrArg some (by kernel_rfl))
  f266 := Tryz.func141.trans (congrArg some (by kernel_rfl))
  t3 := Tryz.underlying3
  a3 := Tryz.isAgg3
  z3 := Tryz.sizeOf3
  v3 := Tryz.zeroValue3
  t5 := Tryz.underlying5
  a5 := Tryz.isAgg5
  z5 := Tryz.sizeOf5
  v5 := Tryz.zeroValue5
  t9 := Tryz.underlying9
  a9 := Tryz.isAgg9
  z9 := Tryz.sizeOf9
  v9 := Tryz.zeroValue9 }
open Go.RowKit in
/-- strings.IndexByte: "IndexByte returns the index of the first instance of c in s, or -1 if c is not present in s.": IT RETURNS 'Lib.indexByte s c'; the world is as it was. (LAID: no walk: one application.) -/
theorem Tryz.strings_IndexByte (s : ByteArray) (c : Int) (w : World) :
    Calls Tryz.prog 104 #[.string s, .int .u8 c] w fun e w' => e = .returned (.int .i64 (Lib.indexByte s.data.toList c.toNat.toUInt8)) ∧ w' = w := Any.strings_IndexByte Tryz.lays137 s c w
def Tryz.laysM171_ren : Go.Shelf.Ren := ⟨fun | 171 => 56 | 243 => 86 | 246 => 120 | 283 => 107 | 284 => 108 | 285 => 109 | 286 => 110 | 129 => 129 | 317 => 128 | 318 => 130 | 319 => 131 | 320 => 132 | 337 => 142 | 338 => 143 | n => n, fun | 3 => 3 | 9 => 9 | 2 => 2 | 4 => 4 | 171 => 127 | 0 => 0 | 53 => 33 | 37 => 91 | 5 => 5 | 173 => 130 | 212 => 149 | 51 => 132 | 20 => 20 | 213 => 150 | 46 => 90 | 232 => 162 | 233 => 163 | n => n, fun | 17 => 3 | 18 => 4 | 19 => 5 | n => n⟩
theorem Tryz.laysM171 : Go.Proofs.LaysM.n171 Tryz.prog Tryz.laysM171_ren := {
  mixed := by kernel_rfl
  f129 := Tryz.func129.trans (congrArg some (by kernel_rfl))
  f171 := Tryz.func56.trans (congrArg some (by kernel_rfl))
  f243 := Tryz.func86.trans (congrArg some (by kernel_rfl))
  f246 := Tryz.func120.trans (congrArg some (by kernel_rfl))
  f283 := Tryz.func107.trans (congrArg some (by kernel_rfl))
  f284 := Tryz.func108.trans (congrArg some (by kernel_rfl))
  f285 := Tryz.func109.trans (congrArg some (by kernel_rfl))
  f286 := Tryz.func110.trans (congrArg some (by kernel_rfl))
  f317 := Tryz.func128.trans (congrArg some (by kernel_rfl))
  f318 := Tryz.func130.trans (congrArg some (by kernel_rfl))
  f319 := Tryz.func131.trans (congrArg some (by kernel_rfl))
  f320 := Tryz.func132.trans (congrArg some (by kernel_rfl))
  f337 := Tryz.func142.trans (congrArg some (by kernel_rfl))
  f338 := Tryz.func143.trans (congrArg some (by kernel_rfl))
  t0 := Tryz.underlying0
  a0 := Tryz.isAgg0
  z0 := Tryz.sizeOf0
  v0 := Tryz.zeroValue0
  t2 := Tryz.underlying2
  a2 := Tryz.isAgg2
  z2 := Tryz.sizeOf2
  v2 := Tryz.zeroValue2
  t3 := Tryz.underlying3
  a3 := Tryz.isAgg3
  z3 := Tryz.sizeOf3
  v3 := Tryz.zeroValue3
  t4 := Tryz.underlying4
  a4 := Tryz.isAgg4
  z4 := Tryz.sizeOf4
  v4 := Tryz.zeroValue4
  t5 := Tryz.underlying5
  a5 := Tryz.isAgg5
  z5 := Tryz.sizeOf5
  v5 := Tryz.zeroValue5
  t9 := Tryz.underlying9
  a9 := Tryz.isAgg9
  z9 := Tryz.sizeOf9
  v9 := Tryz.zeroValue9
  t20 := Tryz.underlying20
  a20 := Tryz.isAgg20
  z20 := Tryz.sizeOf20
  v20 := Tryz.zeroValue20
  t37 := Tryz.underlying91
  a37 := Tryz.isAgg91
  z37 := Tryz.sizeOf91
  v37 := Tryz.zeroValue91
  t46 := Tryz.underlying90
  a46 := Tryz.isAgg90
  z46 := Tryz.sizeOf90
  v46 := Tryz.zeroValue90
  t51 := Tryz.underlying132
  a51 := Tryz.isAgg132
  z51 := Tryz.sizeOf132
  v51 := Tryz.zeroValue132
  t53 := Tryz.underlying33
  a53 := Tryz.isAgg33
  z53 := Tryz.sizeOf33
  v53 := Tryz.zeroValue33
  t171 := Tryz.underlying127
  a171 := Tryz.isAgg127
  z171 := Tryz.sizeOf127
  v171 := Tryz.zeroValue127
  t173 := Tryz.underlying130
  a173 := Tryz.isAgg130
  z173 := Tryz.sizeOf130
  v173 := Tryz.zeroValue130
  t212 := Tryz.underlying149
  a212 := Tryz.isAgg149
  z212 := Tryz.sizeOf149
  v212 := Tryz.zeroValue149
  t213 := Tryz.underlying150
  a213 := Tryz.isAgg150
  z213 := Tryz.sizeOf150
  t232 := Tryz.underlying162
  a232 := Tryz.isAgg162
  z232 := Tryz.sizeOf162
  v232 := Tryz.zeroValue162
  t233 := Tryz.underlying163
  a233 := Tryz.isAgg163
  z233 := Tryz.sizeOf163
  v233 := Tryz.zeroValue163
  g17 := by kernel_rfl
  g18 := by kernel_rfl
  g19 := by kernel_rfl
  i0 := by kernel_rfl
  i2 := by kernel_rfl
  i3 := by kernel_rfl
  i4 := by kernel_rfl
  i5 := by kernel_rfl
  i9 := by kernel_rfl
  i20 := by kernel_rfl
  i37 := by kernel_rfl
  i46 := by kernel_rfl
  i51 := by kernel_rfl
  i53 := by kernel_rfl
  i171 := by kernel_rfl
  i173 := by kernel_rfl
  i212 := by kernel_rfl
  i232 := by kernel_rfl
  i233 := by kernel_rfl
  m17 := by kernel_rfl
  m18 := by kernel_rfl
  m19 := by kernel_rfl }
open Go.RowKit Go.Sort Go.Lib in
/-- strconv.Itoa: "Itoa is equivalent to FormatInt(int64(i), 10).": i's DECIMAL NUMERAL ('Lib.itoa': a '-' where i is negative, then the digits), FOR EVERY int. The world behind the call: the world before it, new blocks behind the heap (the library's 'var a [24]byte'), draws. (LAID: no walk: one application.) -/
theorem Tryz.strconv_Itoa (n : Int) (h0 : -9223372036854775808 ≤ n) (h1 : n ≤ 9223372036854775807) (w : World) (htab : Lib.TabIs Tryz.prog w "internal/strconv.uint64pow10" .u64 Lib.pow10Tab) :
    Calls Tryz.prog 56 #[.int .i64 n] w fun e w' => e = .returned (.string ⟨(Lib.itoa n).toArray⟩) ∧ ∃ k os, w' = grow (w.drewN k) os := Any.strconv_Itoa Tryz.laysM171 n h0 h1 w htab
def Tryz.laysC172_ren : Go.Shelf.Ren := ⟨fun | 172 => 69 | 244 => 97 | 245 => 72 | 247 => 124 | 279 => 100 | 280 => 101 | 281 => 102 | 282 => 103 | 287 => 71 | 316 => 125 | 171 => 56 | 205 => 126 | 321 => 98 | 322 => 99 | 243 => 86 | 246 => 120 | 283 => 107 | 284 => 108 | 285 => 109 | 286 => 110 | 129 => 129 | 317 => 128 | 318 => 130 | 319 => 131 | 320 => 132 | 337 => 142 | 338 => 143 | n => n, fun | 9 => 9 | 3 => 3 | 75 => 71 | 76 => 95 | 4 => 4 | 5 => 5 | 167 => 121 | 37 => 91 | 0 => 0 | 85 => 143 | 2 => 2 | 168 => 123 | 53 => 33 | 175 => 72 | 46 => 90 | 210 => 147 | 127 => 137 | 145 => 159 | 143 => 157 | 21 => 21 | 171 => 127 | 173 => 130 | 212 => 149 | 51 => 132 | 20 => 20 | 213 => 150 | 232 => 162 | 233 => 163 | 80 => 113 | n => n, fun | 15 => 1 | 16 => 2 | 17 => 3 | 18 => 4 | 19 => 5 | n => n⟩
theorem Tryz.laysC172 : Go.Proofs.LaysC.n172 Tryz.prog Tryz.laysC172_ren := {
  mixed := by kernel_rfl
  f129 := Tryz.func129.trans (congrArg some (by kernel_rfl))
  f171 := Tryz.func56.trans (congrArg some (by kernel_rfl))
  f172 := Tryz.func69.trans (congrArg some (by kernel_rfl))
  f205 := Tryz.func126.trans (congrArg some (by kernel_rfl))
  f243 := Tryz.func86.trans (congrArg some (by kernel_rfl))
  f244 := Tryz.func97.trans (congrArg some (by kernel_rfl))
  f245 := Tryz.func72.trans (congrArg some (by kernel_rfl))
  f246 := Tryz.func120.trans (congrArg some (by kernel_rfl))
  f247 := Tryz.func124.trans (congrArg some (by kernel_rfl))
  f279 := Tryz.func100.trans (congrArg some (by kernel_rfl))
  f280 := Tryz.func101.trans (congrArg some (by kernel_rfl))
  f281 := Tryz.func102.trans (congrArg some (by kernel_rfl))
  f282 := Tryz.func103.trans (congrArg some (by kernel_rfl))
  f283 := Tryz.func107.trans (congrArg some (by kernel_rfl))
  f284 := Tryz.func108.trans (congrArg some (by kernel_rfl))
  f285 := Tryz.func109.trans (congrArg some (by kernel_rfl))
  f286 := Tryz.func110.trans (congrArg some (by kernel_rfl))
  f287 := Tryz.func71.trans (congrArg some (by kernel_rfl))
  f316 := Tryz.func125.trans (congrArg some (by kernel_rfl))
  f317 := Tryz.func128.trans (congrArg some (by kernel_rfl))
  f318 := Tryz.func130.trans (congrArg some (by kernel_rfl))
  f319 := Tryz.func131.trans (congrArg some (by kernel_rfl))
  f320 := Tryz.func132.trans (congrArg some (by kernel_rfl))
  f321 := Tryz.func98.trans (congrArg some (by kernel_rfl))
  f322 := Tryz.func99.trans (congrArg some (by kernel_rfl))
  f337 := Tryz.func142.trans (congrArg some (by kernel_rfl))
  f338 := Tryz.func143.trans (congrArg some (by kernel_rfl))
  t0 := Tryz.underlying0
  a0 := Tryz.isAgg0
  z0 := Tryz.sizeOf0
  v0 := Tryz.zeroValue0
  t2 := Tryz.underlying2
  a2 := Tryz.isAgg2
  z2 := Tryz.sizeOf2
  v2 := Tryz.zeroValue2
  t3 := Tryz.underlying3
  a3 := Tryz.isAgg3
  z3 := Tryz.sizeOf3
  v3 := Tryz.zeroValue3
  t4 := Tryz.underlying4
  a4 := Tryz.isAgg4
  z4 := Tryz.sizeOf4
  v4 := Tryz.zeroValue4
  t5 := Tryz.underlying5
  a5 := Tryz.isAgg5
  z5 := Tryz.sizeOf5
  v5 := Tryz.zeroValue5
  t9 := Tryz.underlying9
  a9 := Tryz.isAgg9
  z9 := Tryz.sizeOf9
  v9 := Tryz.zeroValue9
  t20 := Tryz.underlying20
  a20 := Tryz.isAgg20
  z20 := Tryz.sizeOf20
  v20 := Tryz.zeroValue20
  t21 := Tryz.underlying21
  a21 := Tryz.isAgg21
  z21 := Tryz.sizeOf21
  v21 := Tryz.zeroValue21
  t37 := Tryz.underlying91
  a37 := Tryz.isAgg91
  z37 := Tryz.sizeOf91
  v37 := Tryz.zeroValue91
  t46 := Tryz.underlying90
  a46 := Tryz.isAgg90
  z46 := Tryz.sizeOf90
  v46 := Tryz.zeroValue90
  t51 := Tryz.underlying132
  a51 := Tryz.isAgg132
  z51 := Tryz.sizeOf132
  v51 := Tryz.zeroValue132
  t53 := Tryz.underlying33
  a53 := Tryz.isAgg33
  z53 := Tryz.sizeOf33
  v53 := Tryz.zeroValue33
  t75 := Tryz.underlying71
  a75 := Tryz.isAgg71
  z75 := Tryz.sizeOf71
  v75 := Tryz.zeroValue71
  t76 := Tryz.underlying95
  a76 := Tryz.isAgg95
  z76 := Tryz.sizeOf95
  v76 := Tryz.zeroValue95
  t85 := Tryz.underlying143
  a85 := Tryz.isAgg143
  z85 := Tryz.sizeOf143
  v85 := Tryz.zeroValue143
  t127 := Tryz.underlying137
  a127 := Tryz.isAgg137
  z127 := Tryz.sizeOf137
  v127 := Tryz.zeroValue137
  t143 := Tryz.underlying157
  a143 := Tryz.isAgg157
  z143 := Tryz.sizeOf157
  v143 := Tryz.zeroValue157
  t145 := Tryz.underlying159
  a145 := Tryz.isAgg159
  z145 := Tryz.sizeOf159
  v145 := Tryz.zeroValue159
  t167 := Tryz.underlying121
  a167 := Tryz.isAgg121
  z167 := Tryz.sizeOf121
  v167 := Tryz.zeroValue121
  t168 := Tryz.underlying123
  a168 := Tryz.isAgg123
  z168 := Tryz.sizeOf123
  v168 := Tryz.zeroValue123
  t171 := Tryz.underlying127
  a171 := Tryz.isAgg127
  z171 := Tryz.sizeOf127
  v171 := Tryz.zeroValue127
  t173 := Tryz.underlying130
  a173 := Tryz.isAgg130
  z173 := Tryz.sizeOf130
  v173 := Tryz.zeroValue130
  t175 := Tryz.underlying72
  a175 := Tryz.isAgg72
  z175 := Tryz.sizeOf72
  v175 := Tryz.zeroValue72
  t210 := Tryz.underlying147
  a210 := Tryz.isAgg147
  z210 := Tryz.sizeOf147
  v210 := Tryz.zeroValue147
  t212 := Tryz.underlying149
  a212 := Tryz.isAgg149
  z212 := Tryz.sizeOf149
  v212 := Tryz.zeroValue149
  t213 := Tryz.underlying150
  a213 := Tryz.isAgg150
  z213 := Tryz.sizeOf150
  t232 := Tryz.underlying162
  a232 := Tryz.isAgg162
  z232 := Tryz.sizeOf162
  v232 := Tryz.zeroValue162
  t233 := Tryz.underlying163
  a233 := Tryz.isAgg163
  z233 := Tryz.sizeOf163
  v233 := Tryz.zeroValue163
  g15 := by kernel_rfl
  g16 := by kernel_rfl
  g17 := by kernel_rfl
  g18 := by kernel_rfl
  g19 := by kernel_rfl
  t80 := Tryz.underlying113
  a80 := Tryz.isAgg113
  z80 := Tryz.sizeOf113
  v80 := Tryz.zeroValue113
  i0 := by kernel_rfl
  i2 := by kernel_rfl
  i3 := by kernel_rfl
  i4 := by kernel_rfl
  i5 := by kernel_rfl
  i9 := by kernel_rfl
  i20 := by kernel_rfl
  i21 := by kernel_rfl
  i37 := by kernel_rfl
  i46 := by kernel_rfl
  i51 := by kernel_rfl
  i53 := by kernel_rfl
  i75 := by kernel_rfl
  i76 := by kernel_rfl
  i80 := by kernel_rfl
  i85 := by kernel_rfl
  i127 := by kernel_rfl
  i143 := by kernel_rfl
  i145 := by kernel_rfl
  i167 := by kernel_rfl
  i168 := by kernel_rfl
  i171 := by kernel_rfl
  i173 := by kernel_rfl
  i175 := by kernel_rfl
  i210 := by kernel_rfl
  i212 := by kernel_rfl
  i232 := by kernel_rfl
  i233 := by kernel_rfl
  m15 := by kernel_rfl
  m16 := by kernel_rfl
  m17 := by kernel_rfl
  m18 := by kernel_rfl
  m19 := by kernel_rfl
  c0 := by kernel_rfl
  c2 := by kernel_rfl
  c3 := by kernel_rfl
  c4 := by kernel_rfl
  c5 := by kernel_rfl
  c9 := by kernel_rfl
  c20 := by kernel_rfl
  c21 := by kernel_rfl
  c37 := by kernel_rfl
  c46 := by kernel_rfl
  c51 := by kernel_rfl
  c53 := by kernel_rfl
  c75 := by kernel_rfl
  c76 := by kernel_rfl
  c80 := by kernel_rfl
  c85 := by kernel_rfl
  c127 := by kernel_rfl
  c143 := by kernel_rfl
  c145 := by kernel_rfl
  c167 := by kernel_rfl
  c168 := by kernel_rfl
  c171 := by kernel_rfl
  c173 := by kernel_rfl
  c175 := by kernel_rfl
  c210 := by kernel_rfl
  c212 := by kernel_rfl
  c213 := by kernel_rfl
  c232 := by kernel_rfl
  c233 := by kernel_rfl }
open Go.RowKit in
/-- strconv.Atoi, AT EVERY STRING THAT SPELLS AN int ('Lib.atoiAll .. = .ok v'; of whatever length: leading zeros count): v, AND NO ERROR. The world: as it was, or with the one new row that '[]byte(..)' lays. (LAID: no walk: one application.) -/
theorem Tryz.strconv_Atoi_ok (s : ByteArray) (hmax : s.size ≤ 9223372036854775806) (v : Int) (h : Lib.atoiAll s.data.toList = .ok v) (w : World) :
    Calls Tryz.prog 69 #[.string s] w fun e w' => e = .returned (.tuple #[.int .i64 v, .nilIface]) ∧ (w' = w ∨ ∃ t, w' = Lib.bytesWorld w 5 t) := Any.strconv_Atoi_ok Tryz.laysC172 s hmax v h w
open Go.RowKit in
theorem Tryz.strconv_Atoi_syntax_var (s : ByteArray) (hlim : s.size ≤ 281474976710656) (h : Lib.atoiAll s.data.toList = Lib.NumEnd.syntax) (tp : TypeId) (p : Value) (w : World) (hvar : w.var? Tryz.prog "strconv.ErrSyntax" = some #[.iface tp p]) :
    Calls Tryz.prog 69 #[.string s] w fun e w' => ∃ N, e = .returned (.tuple #[.int .i64 0, .iface 123 (.pointer (some ⟨N, 0, none⟩))]) ∧ w.heap.size ≤ N ∧ w'.heap[N]? = some (.cells #[.string ⟨#[65, 116, 111, 105]⟩, .string s, .iface tp p] 147 (0, 0)) ∧ Below w.heap.size w w' := Any.strconv_Atoi_syntax_var Tryz.laysC172 s hlim h tp p w hvar
open Go.RowKit in
theorem Tryz.strconv_Atoi_range_var (s : ByteArray) (hlim : s.size ≤ 281474976710656) (h : Lib.atoiAll s.data.toList = .range) (tp : TypeId) (p : Value) (w : World) (hvar : w.var? Tryz.prog "strconv.ErrRange" = some #[.iface tp p]) :
    Calls Tryz.prog 69 #[.string s] w fun e w' => ∃ N, e = .returned (.tuple #[.int .i64 (Lib.atoiSat s.data.toList), .iface 123 (.pointer (some ⟨N, 0, none⟩))]) ∧ w.heap.size ≤ N ∧ w'.heap[N]? = some (.cells #[.string ⟨#[65, 116, 111, 105]⟩, .string s, .iface tp p] 147 (0, 0)) ∧ Below w.heap.size w w' := Any.strconv_Atoi_range_var Tryz.laysC172 s hlim h tp p w hvar
def Tryz.laysPu14_ren : Go.Shelf.Ren := ⟨fun | 14 => 44 | 16 => 71 | 17 => 72 | 19 => 98 | 20 => 99 | 21 => 100 | 22 => 101 | 23 => 102 | 24 => 103 | 25 => 125 | 27 => 56 | 26 => 126 | 28 => 86 | 29 => 120 | 30 => 107 | 31 => 108 | 32 => 109 | 33 => 110 | 35 => 129 | 34 => 128 | 36 => 130 | 37 => 131 | 38 => 132 | 39 => 142 | 40 => 143 | n => n, fun | 9 => 9 | 3 => 3 | 22 => 33 | 24 => 71 | 25 => 72 | 4 => 4 | 34 => 121 | 5 => 5 | 36 => 90 | 37 => 91 | 0 => 0 | 39 => 123 | 21 => 21 | 44 => 147 | 47 => 137 | 50 => 159 | 48 => 157 | 2 => 2 | 52 => 127 | 55 => 130 | 59 => 149 | 60 => 132 | 20 => 20 | 61 => 150 | 65 => 162 | 66 => 163 | 67 => 113 | n => n, fun | 0 => 1 | 1 => 2 | 2 => 3 | 3 => 4 | 4 => 5 | n => n⟩
theorem Tryz.laysPu14 : Go.Proofs.LaysPu.n14 Tryz.prog Tryz.laysPu14_ren := {
  mixed := by kernel_rfl
  f14 := Tryz.func44.trans (congrArg some (by kernel_rfl))
  f16 := Tryz.func71.trans (congrArg some (by kernel_rfl))
  f17 := Tryz.func72.trans (congrArg some (by kernel_rfl))
  f19 := Tryz.func98.trans (congrArg some (by kernel_rfl))
  f20 := Tryz.func99.trans (congrArg some (by kernel_rfl))
  f21 := Tryz.func100.trans (congrArg some (by kernel_rfl))
  f22 := Tryz.func101.trans (congrArg some (by kernel_rfl))
  f23 := Tryz.func102.trans (congrArg some (by kernel_rfl))
  f24 := Tryz.func103.trans (congrArg some (by kernel_rfl))
  f25 := Tryz.func125.trans (congrArg some (by kernel_rfl))
  f26 := Tryz.func126.trans (congrArg some (by kernel_rfl))
  f27 := Tryz.func56.trans (congrArg some (by kernel_rfl))
  f28 := Tryz.func86.trans (congrArg some (by kernel_rfl))
  f29 := Tryz.func120.trans (congrArg some (by kernel_rfl))
  f30 := Tryz.func107.trans (congrArg some (by kernel_rfl))
  f31 := Tryz.func108.trans (congrArg some (by kernel_rfl))
  f32 := Tryz.func109.trans (congrArg some (by kernel_rfl))
  f33 := Tryz.func110.trans (congrArg some (by kernel_rfl))
  f34 := Tryz.func128.trans (congrArg some (by kernel_rfl))
  f35 := Tryz.func129.trans (congrArg some (by kernel_rfl))
  f36 := Tryz.func130.trans (congrArg some (by kernel_rfl))
  f37 := Tryz.func131.trans (congrArg some (by kernel_rfl))
  f38 := Tryz.func132.trans (congrArg some (by kernel_rfl))
  f39 := Tryz.func142.trans (congrArg some (by kernel_rfl))
  f40 := Tryz.func143.trans (congrArg some (by kernel_rfl))
  t0 := Tryz.underlying0
  a0 := Tryz.isAgg0
  z0 := Tryz.sizeOf0
  v0 := Tryz.zeroValue0
  i0 := by kernel_rfl
  t2 := Tryz.underlying2
  a2 := Tryz.isAgg2
  z2 := Tryz.sizeOf2
  v2 := Tryz.zeroValue2
  i2 := by kernel_rfl
  t3 := Tryz.underlying3
  a3 := Tryz.isAgg3
  z3 := Tryz.sizeOf3
  v3 := Tryz.zeroValue3
  i3 := by kernel_rfl
  t4 := Tryz.underlying4
  a4 := Tryz.isAgg4
  z4 := Tryz.sizeOf4
  v4 := Tryz.zeroValue4
  i4 := by kernel_rfl
  t5 := Tryz.underlying5
  a5 := Tryz.isAgg5
  z5 := Tryz.sizeOf5
  v5 := Tryz.zeroValue5
  i5 := by kernel_rfl
  t9 := Tryz.underlying9
  a9 := Tryz.isAgg9
  z9 := Tryz.sizeOf9
  v9 := Tryz.zeroValue9
  i9 := by kernel_rfl
  t20 := Tryz.underlying20
  a20 := Tryz.isAgg20
  z20 := Tryz.sizeOf20
  v20 := Tryz.zeroValue20
  i20 := by kernel_rfl
  t21 := Tryz.underlying21
  a21 := Tryz.isAgg21
  z21 := Tryz.sizeOf21
  v21 := Tryz.zeroValue21
  i21 := by kernel_rfl
  t22 := Tryz.underlying33
  a22 := Tryz.isAgg33
  z22 := Tryz.sizeOf33
  v22 := Tryz.zeroValue33
  i22 := by kernel_rfl
  t24 := Tryz.underlying71
  a24 := Tryz.isAgg71
  z24 := Tryz.sizeOf71
  v24 := Tryz.zeroValue71
  i24 := by kernel_rfl
  t25 := Tryz.underlying72
  a25 := Tryz.isAgg72
  z25 := Tryz.sizeOf72
  v25 := Tryz.zeroValue72
  i25 := by kernel_rfl
  t34 := Tryz.underlying121
  a34 := Tryz.isAgg121
  z34 := Tryz.sizeOf121
  v34 := Tryz.zeroValue121
  i34 := by kernel_rfl
  c34 := by kernel_rfl
  t36 := Tryz.underlying90
  a36 := Tryz.isAgg90
  z36 := Tryz.sizeOf90
  v36 := Tryz.zeroValue90
  i36 := by kernel_rfl
  t37 := Tryz.underlying91
  a37 := Tryz.isAgg91
  z37 := Tryz.sizeOf91
  v37 := Tryz.zeroValue91
  i37 := by kernel_rfl
  t39 := Tryz.underlying123
  a39 := Tryz.isAgg123
  z39 := Tryz.sizeOf123
  v39 := Tryz.zeroValue123
  i39 := by kernel_rfl
  t44 := Tryz.underlying147
  a44 := Tryz.isAgg147
  z44 := Tryz.sizeOf147
  v44 := Tryz.zeroValue147
  i44 := by kernel_rfl
  t47 := Tryz.underlying137
  a47 := Tryz.isAgg137
  z47 := Tryz.sizeOf137
  v47 := Tryz.zeroValue137
  i47 := by kernel_rfl
  t48 := Tryz.underlying157
  a48 := Tryz.isAgg157
  z48 := Tryz.sizeOf157
  v48 := Tryz.zeroValue157
  i48 := by kernel_rfl
  t50 := Tryz.underlying159
  a50 := Tryz.isAgg159
  z50 := Tryz.sizeOf159
  v50 := Tryz.zeroValue159
  i50 := by kernel_rfl
  t52 := Tryz.underlying127
  a52 := Tryz.isAgg127
  z52 := Tryz.sizeOf127
  v52 := Tryz.zeroValue127
  i52 := by kernel_rfl
  t55 := Tryz.underlying130
  a55 := Tryz.isAgg130
  z55 := Tryz.sizeOf130
  v55 := Tryz.zeroValue130
  i55 := by kernel_rfl
  t59 := Tryz.underlying149
  a59 := Tryz.isAgg149
  z59 := Tryz.sizeOf149
  v59 := Tryz.zeroValue149
  i59 := by kernel_rfl
  t60 := Tryz.underlying132
  a60 := Tryz.isAgg132
  z60 := Tryz.sizeOf132
  v60 := Tryz.zeroValue132
  i60 := by kernel_rfl
  t61 := Tryz.underlying150
  a61 := Tryz.isAgg150
  z61 := Tryz.sizeOf150
  t65 := Tryz.underlying162
  a65 := Tryz.isAgg162
  z65 := Tryz.sizeOf162
  v65 := Tryz.zeroValue162
  i65 := by kernel_rfl
  t66 := Tryz.underlying163
  a66 := Tryz.isAgg163
  z66 := Tryz.sizeOf163
  v66 := Tryz.zeroValue163
  i66 := by kernel_rfl
  t67 := Tryz.underlying113
  a67 := Tryz.isAgg113
  z67 := Tryz.sizeOf113
  v67 := Tryz.zeroValue113
  i67 := by kernel_rfl
  g0 := by kernel_rfl
  m0 := by kernel_rfl
  g1 := by kernel_rfl
  m1 := by kernel_rfl
  g2 := by kernel_rfl
  m2 := by kernel_rfl
  g3 := by kernel_rfl
  m3 := by kernel_rfl
  g4 := by kernel_rfl
  m4 := by kernel_rfl }
open Go.RowKit in
/-- strconv.ParseUint(s, 10, 64), AT EVERY STRING THAT SPELLS A uint64 ('Lib.parseUintB 64 s.data.toList = .ok u'): u, AND NO ERROR. (LAID: no walk: one application.) -/
theorem Tryz.strconv_ParseUint_10_at64_ok (s : ByteArray) (hmax : s.size ≤ 9223372036854775806) (u : Nat) (h : Lib.parseUintB 64 s.data.toList = .ok u) (w : World) :
    Calls Tryz.prog 44 #[.string s, .int .i64 10, .int .i64 64] w fun e w' => e = .returned (.tuple #[.int .u64 u, .nilIface]) ∧ (w' = w ∨ w' = Lib.bytesWorld w 5 s) := Any.strconv_ParseUint_10_at64_ok Tryz.laysPu14 s hmax u h w
def Tryz.lays219_ren : Go.Shelf.Ren := ⟨fun | 219 => 123 | 217 => 127 | 225 => 138 | 224 => 139 | 267 => 140 | 266 => 141 | 314 => 146 | n => n, fun | 9 => 9 | 3 => 3 | 4 => 4 | 5 => 5 | 46 => 90 | 146 => 133 | 51 => 132 | n => n, fun | 1 => 0 | n => n⟩
theorem Tryz.lays219 : Go.Proofs.Lays.n219 Tryz.prog Tryz.lays219_ren := {
  mixed := by kernel_rfl
  f217 := Tryz.func127.trans (congrArg some (by kernel_rfl))
  f219 := Tryz.func123.trans (congrArg some (by kernel_rfl))
  f224 := Tryz.func139.trans (congrArg some (by kernel_rfl))
  f225 := Tryz.func138.trans (congrArg some (by kernel_rfl))
  f266 := Tryz.func141.trans (congrArg some (by kernel_rfl))
  f267 := Tryz.func140.trans (congrArg some (by kernel_rfl))
  f314 := Tryz.func146.trans (congrArg some (by kernel_rfl))
  t3 := Tryz.underlying3
  a3 := Tryz.isAgg3
  z3 := Tryz.sizeOf3
  v3 := Tryz.zeroValue3
  t4 := Tryz.underlying4
  a4 := Tryz.isAgg4
  z4 := Tryz.sizeOf4
  v4 := Tryz.zeroValue4
  t5 := Tryz.underlying5
  a5 := Tryz.isAgg5
  z5 := Tryz.sizeOf5
  v5 := Tryz.zeroValue5
  t9 := Tryz.underlying9
  a9 := Tryz.isAgg9
  z9 := Tryz.sizeOf9
  v9 := Tryz.zeroValue9
  t46 := Tryz.underlying90
  a46 := Tryz.isAgg90
  z46 := Tryz.sizeOf90
  v46 := Tryz.zeroValue90
  t51 := Tryz.underlying132
  a51 := Tryz.isAgg132
  z51 := Tryz.sizeOf132
  v51 := Tryz.zeroValue132
  t146 := Tryz.underlying133
  a146 := Tryz.isAgg133
  z146 := Tryz.sizeOf133
  v146 := Tryz.zeroValue133
  g1 := by kernel_rfl }
open Go.RowKit Go.Lib in
/-- internal/stringslite.Index (what strings.Index calls) AT A substr OF ONE BYTE c: IT RETURNS 'Lib.indexByte s c'; the world is as it was. (LAID: no walk: one application.) -/
theorem Tryz.stringslite_Index_one (s : ByteArray) (c : UInt8) (w : World) :
    Calls Tryz.prog 123 #[.string s, .string ⟨#[c]⟩] w fun e w' => e = .returned (.int .i64 (Lib.indexByte s.data.toList c)) ∧ w' = w := Any.stringslite_Index_one Tryz.lays219 s c w
def Tryz.lays149_ren : Go.Shelf.Ren := ⟨fun | 149 => 43 | 222 => 70 | n => n, fun | 9 => 9 | 5 => 5 | 3 => 3 | 4 => 4 | n => n, fun | n => n⟩
theorem Tryz.lays149 : Go.Proofs.Lays.n149 Tryz.prog Tryz.lays149_ren := {
  mixed := by kernel_rfl
  f149 := Tryz.func43.trans (congrArg some (by kernel_rfl))
  f222 := Tryz.func70.trans (congrArg some (by kernel_rfl))
  t3 := Tryz.underlying3
  a3 := Tryz.isAgg3
  z3 := Tryz.sizeOf3
  v3 := Tryz.zeroValue3
  t4 := Tryz.underlying4
  a4 := Tryz.isAgg4
  z4 := Tryz.sizeOf4
  v4 := Tryz.zeroValue4
  t5 := Tryz.underlying5
  a5 := Tryz.isAgg5
  z5 := Tryz.sizeOf5
  v5 := Tryz.zeroValue5
  t9 := Tryz.underlying9
  a9 := Tryz.isAgg9
  z9 := Tryz.sizeOf9
  v9 := Tryz.zeroValue9 }
open Go.RowKit Go.Lib in
/-- strings.LastIndexByte: "LastIndexByte returns the index of the last instance of c in s, or -1 if c is not present in s." (LAID: no walk: one application.) -/
theorem Tryz.strings_LastIndexByte (s : ByteArray) (c : Int) (hs : s.size < 4611686018427387904) (w : World) :
    Calls Tryz.prog 43 #[.string s, .int .u8 c] w fun e w' => e = .returned (.int .i64 (Lib.lastIndexByte s c)) ∧ w' = w := Any.strings_LastIndexByte Tryz.lays149 s c hs w
def Tryz.lays101_ren : Go.Shelf.Ren := ⟨fun | 101 => 41 | 208 => 67 | 206 => 95 | n => n, fun | 9 => 9 | 4 => 4 | 3 => 3 | n => n, fun | n => n⟩
theorem Tryz.lays101 : Go.Proofs.Lays.n101 Tryz.prog Tryz.lays101_ren := {
  mixed := by kernel_rfl
  f101 := Tryz.func41.trans (congrArg some (by kernel_rfl))
  f206 := Tryz.func95.trans (congrArg some (by kernel_rfl))
  f208 := Tryz.func67.trans (congrArg some (by kernel_rfl))
  t3 := Tryz.underlying3
  a3 := Tryz.isAgg3
  z3 := Tryz.sizeOf3
  v3 := Tryz.zeroValue3
  t4 := Tryz.underlying4
  a4 := Tryz.isAgg4
  z4 := Tryz.sizeOf4
  v4 := Tryz.zeroValue4
  t9 := Tryz.underlying9
  a9 := Tryz.isAgg9
  z9 := Tryz.sizeOf9
  v9 := Tryz.zeroValue9 }
open Go.RowKit Go.Lib in
/-- strings.TrimPrefix: "TrimPrefix returns s without the provided leading prefix string. If s doesn't start with prefix, s is returned unchanged.": IT RETURNS 'Lib.trimPrefix s prefix'; the world is as it was. (LAID: no walk: one application.) -/
theorem Tryz.strings_TrimPrefix (s p : ByteArray) (w : World) :
    Calls Tryz.prog 41 #[.string s, .string p] w fun e w' => e = .returned (.string ⟨(Lib.trimPrefix s.data.toList p.data.toList).toArray⟩) ∧ w' = w := Any.strings_TrimPrefix Tryz.lays101 s p w
def Tryz.lays105_ren : Go.Shelf.Ren := ⟨fun | 105 => 47 | 212 => 77 | 99 => 78 | 165 => 79 | 166 => 80 | 170 => 81 | 169 => 82 | 263 => 111 | 264 => 112 | 206 => 95 | 240 => 113 | 241 => 114 | 276 => 133 | 277 => 134 | n => n, fun | 9 => 9 | 3 => 3 | 4 => 4 | 20 => 20 | 0 => 0 | 46 => 90 | 109 => 105 | 5 => 5 | 72 => 110 | 76 => 95 | 51 => 132 | 146 => 133 | 53 => 33 | 148 => 135 | 70 => 108 | 37 => 91 | 75 => 71 | 127 => 137 | 164 => 152 | 80 => 113 | n => n, fun | n => n⟩
theorem Tryz.lays105 : Go.Proofs.Lays.n105 Tryz.prog Tryz.lays105_ren := {
  mixed := by kernel_rfl
  f99 := Tryz.func78.trans (congrArg some (by kernel_rfl))
  f105 := Tryz.func47.trans (congrArg some (by kernel_rfl))
  f165 := Tryz.func79.trans (congrArg some (by kernel_rfl))
  f166 := Tryz.func80.trans (congrArg some (by kernel_rfl))
  f169 := Tryz.func82.trans (congrArg some (by kernel_rfl))
  f170 := Tryz.func81.trans (congrArg some (by kernel_rfl))
  f206 := Tryz.func95.trans (congrArg some (by kernel_rfl))
  f212 := Tryz.func77.trans (congrArg some (by kernel_rfl))
  f240 := Tryz.func113.trans (congrArg some (by kernel_rfl))
  f241 := Tryz.func114.trans (congrArg some (by kernel_rfl))
  f263 := Tryz.func111.trans (congrArg some (by kernel_rfl))
  f264 := Tryz.func112.trans (congrArg some (by kernel_rfl))
  f276 := Tryz.func133.trans (congrArg some (by kernel_rfl))
  f277 := Tryz.func134.trans (congrArg some (by kernel_rfl))
  t0 := Tryz.underlying0
  a0 := Tryz.isAgg0
  z0 := Tryz.sizeOf0
  v0 := Tryz.zeroValue0
  t3 := Tryz.underlying3
  a3 := Tryz.isAgg3
  z3 := Tryz.sizeOf3
  v3 := Tryz.zeroValue3
  t4 := Tryz.underlying4
  a4 := Tryz.isAgg4
  z4 := Tryz.sizeOf4
  v4 := Tryz.zeroValue4
  t5 := Tryz.underlying5
  a5 := Tryz.isAgg5
  z5 := Tryz.sizeOf5
  v5 := Tryz.zeroValue5
  t9 := Tryz.underlying9
  a9 := Tryz.isAgg9
  z9 := Tryz.sizeOf9
  v9 := Tryz.zeroValue9
  t20 := Tryz.underlying20
  a20 := Tryz.isAgg20
  z20 := Tryz.sizeOf20
  v20 := Tryz.zeroValue20
  t37 := Tryz.underlying91
  a37 := Tryz.isAgg91
  z37 := Tryz.sizeOf91
  v37 := Tryz.zeroValue91
  t46 := Tryz.underlying90
  a46 := Tryz.isAgg90
  z46 := Tryz.sizeOf90
  v46 := Tryz.zeroValue90
  t51 := Tryz.underlying132
  a51 := Tryz.isAgg132
  z51 := Tryz.sizeOf132
  v51 := Tryz.zeroValue132
  t53 := Tryz.underlying33
  a53 := Tryz.isAgg33
  z53 := Tryz.sizeOf33
  v53 := Tryz.zeroValue33
  t70 := Tryz.underlying108
  a70 := Tryz.isAgg108
  z70 := Tryz.sizeOf108
  v70 := Tryz.zeroValue108
  t72 := Tryz.underlying110
  a72 := Tryz.isAgg110
  z72 := Tryz.sizeOf110
  v72 := Tryz.zeroValue110
  t75 := Tryz.underlying71
  a75 := Tryz.isAgg71
  z75 := Tryz.sizeOf71
  v75 := Tryz.zeroValue71
  t76 := Tryz.underlying95
  a76 := Tryz.isAgg95
  z76 := Tryz.sizeOf95
  v76 := Tryz.zeroValue95
  t109 := Tryz.underlying105
  a109 := Tryz.isAgg105
  z109 := Tryz.sizeOf105
  v109 := Tryz.zeroValue105
  t127 := Tryz.underlying137
  a127 := Tryz.isAgg137
  z127 := Tryz.sizeOf137
  v127 := Tryz.zeroValue137
  t146 := Tryz.underlying133
  a146 := Tryz.isAgg133
  z146 := Tryz.sizeOf133
  v146 := Tryz.zeroValue133
  t148 := Tryz.underlying135
  a148 := Tryz.isAgg135
  z148 := Tryz.sizeOf135
  v148 := Tryz.zeroValue135
  t164 := Tryz.underlying152
  a164 := Tryz.isAgg152
  z164 := Tryz.sizeOf152
  v164 := Tryz.zeroValue152 }
theorem Tryz.Builder_Extra_105 : Builder.Extra Tryz.prog Tryz.lays105_ren := {
  sizeBuilder := by kernel_rfl
  liesBuilder := by kernel_rfl
  t5 := Tryz.underlying5
  a5 := Tryz.isAgg5
  z5 := Tryz.sizeOf5
  v5 := Tryz.zeroValue5
  infoByte := by kernel_rfl
  cellsByte := by kernel_rfl
  sizeByte := by kernel_rfl
  neB5 := by decide }
open Go.RowKit Go.Lib in
/-- **strings.Repeat: count ≥ 0, the result within one allocation: count copies of s.** (LAID: no walk: one application.) -/
theorem Tryz.strings_Repeat (s : ByteArray) (c : Nat) (w : World) (hc : c ≤ 9223372036854775807) (hlen : s.size * c ≤ 140737488355328) :
    Calls Tryz.prog 47 #[.string s, .int .i64 c] w fun e w' => e = .returned (.string ⟨(Lib.repeatL s.data.toList c).toArray⟩) ∧ Below w.heap.size w w' := Any.strings_Repeat Tryz.lays105 Tryz.Builder_Extra_105 s c w hc hlen
end Go.Proofs
/-
strings.Repeat, told.
-/
namespace Go.Am
open Go Go.RowKit Go.Proofs
def repeatK (l : List UInt8) (c : Int) : Option (List UInt8) := if 0 ≤ c ∧ c ≤ 1000 ∧ l.length ≤ 1000 then some (Lib.repeatL l c.toNat) else none
def repeatSm : Sm := fun args bs => match args, bs with
  | [.pv (.str l), .pv (.int .i64 c)], [] => match repeatK l c with
    | some v => some (.pv (.str v), [], [])
    | none => none
  | _, _ => none
theorem repeatSm_sound : SoundF Tryz.prog 47 repeatSm := by
  refine soundF_pure ⟨_, _, Tryz.func47, by kernel_rfl, rfl⟩ fun args bs v bs' news hs => ?_
  unfold repeatSm at hs
  split at hs
  · rename_i l c
    split at hs
    · rename_i v hl
      cases hs
      unfold repeatK at hl
      split at hl
      · rename_i hn
        cases hl
        refine ⟨⟨rfl, rfl, rfl⟩, _, rfl, fun w I M G μ cargs _ _ R => ?_⟩
        obtain ⟨i, rfl⟩ := Int.eq_ofNat_of_zero_le hn.1
        obtain ⟨cl⟩ := cargs
        match cl, R with
        | [c0, c1], ⟨r0, r1, _⟩ =>
          cases r0
          cases r1
          have hm : l.length * i ≤ 1000 * 1000 := Nat.mul_le_mul hn.2.2 (by omega)
          exact (Tryz.strings_Repeat ⟨l.toArray⟩ i w (by omega) (by simp [ByteArray.size]; omega)).mono fun e w' ⟨he, hw⟩ => ⟨⟨_, he, fun _ _ => rfl⟩, hw⟩
      · cases hl
    · cases hs
  · cases hs
end Go.Am
/-
strings.TrimPrefix, told.
-/
namespace Go.Am
open Go Go.RowKit Go.Proofs
def trimPrefixK (l p : List UInt8) : Option (List UInt8) := some (Lib.trimPrefix l p)
def trimPrefixSm : Sm := fun args bs => match args, bs with
  | [.pv (.str l), .pv (.str p)], [] => match trimPrefixK l p with
    | some v => some (.pv (.str v), [], [])
    | none => none
  | _, _ => none
theorem trimPrefixSm_sound : SoundF Tryz.prog 41 trimPrefixSm := by
  refine soundF_pure ⟨_, _, Tryz.func41, by kernel_rfl, rfl⟩ fun args bs v bs' news hs => ?_
  unfold trimPrefixSm at hs
  split at hs
  · rename_i l p
    unfold trimPrefixK at hs
    cases hs
    refine ⟨⟨rfl, rfl, rfl⟩, _, rfl, fun w I M G μ cargs _ _ R => ?_⟩
    obtain ⟨cl⟩ := cargs
    match cl, R with
    | [c0, c1], ⟨r0, r1, _⟩ =>
      cases r0
      cases r1
      exact (Tryz.strings_TrimPrefix ⟨l.toArray⟩ ⟨p.toArray⟩ w).mono fun e w' ⟨he, hw⟩ => ⟨⟨_, he, fun _ _ => rfl⟩, hw ▸ Below.refl _ _⟩
  · cases hs
end Go.Am
/-
strings.LastIndexByte, told.
-/
namespace Go.Am
open Go Go.RowKit Go.Proofs
def lastIndexByteK (l : List UInt8) (c : Int) : Option Int := if l.length < 4611686018427387904 then some (Lib.lastIndexByte ⟨l.toArray⟩ c) else none
def lastIndexByteSm : Sm := fun args bs => match args, bs with
  | [.pv (.str l), .pv (.int .u8 c)], [] => match lastIndexByteK l c with
    | some v => some (.pv (.int .i64 v), [], [])
    | none => none
  | _, _ => none
theorem lastIndexByteSm_sound : SoundF Tryz.prog 43 lastIndexByteSm := by
  refine soundF_pure ⟨_, _, Tryz.func43, by kernel_rfl, rfl⟩ fun args bs v bs' news hs => ?_
  unfold lastIndexByteSm at hs
  split at hs
  · rename_i l c
    unfold lastIndexByteK at hs
    split at hs
    · rename_i v hv
      split at hv
      · rename_i hn
        cases hs
        cases hv
        refine ⟨⟨rfl, rfl, rfl⟩, _, rfl, fun w I M G μ cargs _ _ R => ?_⟩
        obtain ⟨cl⟩ := cargs
        match cl, R with
        | [c0, c1], ⟨r0, r1, _⟩ =>
          cases r0
          cases r1
          exact (Tryz.strings_LastIndexByte ⟨l.toArray⟩ c (by simpa [ByteArray.size] using hn) w).mono fun e w' ⟨he, hw⟩ => ⟨⟨_, he, fun _ _ => rfl⟩, hw ▸ Below.refl _ _⟩
      · cases hv
    · cases hs
  · cases hs
end Go.Am
/-
strconv.ParseUint with base 16 and 64 bits, walked: what it answers at any bytes.
-/
namespace Go.Am
open Go Go.Proofs Go.Shelf Go.RowKit
/-- a letter, made small -/
def lowC (c : UInt8) : Int := bits .or .u8 (c.toNat : Int) 32
/-- the value of a digit to the base 16 -/
def dig16 (c : UInt8) : Option Nat :=
  if 48 ≤ c.toNat ∧ c.toNat ≤ 57 then some (c.toNat - 48) else if 97 ≤ lowC c ∧ lowC c ≤ 102 then some (lowC c - 87).toNat else none
/-- what is read behind a number -/
def pu16 (acc : Nat) : List UInt8 → Lib.NumEnd Nat
  | [] => .ok acc
  | c :: r => match dig16 c with
    | none => Lib.NumEnd.syntax
    | some d => if 1152921504606846976 ≤ acc then .range else pu16 (acc * 16 + d) r
def pu16All (l : List UInt8) : Lib.NumEnd Nat := if l = [] then Lib.NumEnd.syntax else pu16 0 l
variable {P : Program} {ρ : Shelf.Ren}
set_option maxHeartbeats 32000000 in
set_option maxRecDepth 100000 in
theorem walk_pu16 (L : LaysPu.n16 P ρ) (t : ByteArray) (hne : t.size ≠ 0) (hmax : t.size ≤ 9223372036854775806) (w : World) :
    Calls P (ρ.f 16) #[.string t, .int .i64 16, .int .i64 64] w fun e w' => e = .returned (Lib.uintTuple (ρ.t 34) (pu16 0 t.data.toList)) ∧ w' = Lib.bytesWorld w (ρ.t 5) t := by
  have mixed := L.mixed
  have t9 := L.t9; have a9 := L.a9; have z9 := L.z9; have v9 := L.v9
  have t3 := L.t3; have a3 := L.a3; have z3 := L.z3; have v3 := L.v3
  have t22 := L.t22; have a22 := L.a22; have z22 := L.z22; have v22 := L.v22
  have t24 := L.t24; have a24 := L.a24; have z24 := L.z24; have v24 := L.v24
  have t4 := L.t4; have a4 := L.a4; have z4 := L.z4; have v4 := L.v4
  have t34 := L.t34; have a34 := L.a34; have z34 := L.z34; have v34 := L.v34
  have t5 := L.t5; have a5 := L.a5; have z5 := L.z5; have v5 := L.v5
  have t36 := L.t36; have a36 := L.a36; have z36 := L.z36; have v36 := L.v36
  have t37 := L.t37; have a37 := L.a37; have z37 := L.z37; have v37 := L.v37
  have t0 := L.t0; have a0 := L.a0; have z0 := L.z0; have v0 := L.v0
  have e19 : ∀ args w, (callFunc (ρ.f 19) args).run P w = .ok (.enter (ρ.f 19) args) w := enters_of L.f19 (by kernel_rfl) rfl
  have hemp : t.toList.isEmpty = false := by
    rw [← decide_eq_emptyBytes]
    exact decide_eq_false (fun h => hne (by rw [h]; rfl))
  have hcv := Lib.run_convert_string_bytes (P := P) w (ρ.t 9) (ρ.t 37) (ρ.t 5) t (u := .string) L.t9 L.t37 L.t5
  have hB : ∀ j, j < t.size → (Lib.bytesWorld w (ρ.t 5) t).cell? ⟨w.heap.size, j, none⟩ = some (.int .u8 (t.data.toList.getD j 0).toNat) := fun j hj => Lib.bytesWorld_cell w (ρ.t 5) t j hj
  obtain ⟨W1, hW1⟩ : ∃ W1, W1 = Lib.bytesWorld w (ρ.t 5) t := ⟨_, rfl⟩
  rw [← hW1] at hcv hB ⊢
  clear hW1
  obtain ⟨bs, hL⟩ : ∃ bs, bs = t.data.toList := ⟨_, rfl⟩
  have hLn : bs.length = t.size := by rw [hL, Lib.size_eq]
  rw [← hL] at hB ⊢
  clear hL
  have hmv : IntKind.u64.wrap (IntKind.u64.wrap 18446744073709551616 - 1) = 18446744073709551615 := by
    rw [IntKind.wrap_u64, IntKind.wrap_u64]
    decide
  go_enter L.f16, BodyPu.n16_ntmps ρ
  go_wp2
  go_loop [12, 13, 101] (fun vu vn vi => ∃ (k acc : Nat) (a : Int), vu = .bool false ∧ vn = .int .u64 a ∧ vi = .int .i64 k ∧ k ≤ t.size ∧ Hid (a = (acc : Int) ∧ acc < 18446744073709551616 ∧ pu16 0 bs = pu16 acc (bs.drop k)))
    (fun _ _ vi => t.size - (intOf vi).toNat)
  case atStart => exact ⟨0, 0, 0, rfl, rfl, rfl, by omega, rfl, by omega, rfl⟩
  case round =>
    obtain ⟨k, acc, a, rfl, rfl, rfl, hk, hh⟩ := hrel
    obtain ⟨ha, hacc, hdec⟩ := hh.out
    clear hh
    have p0 : 0 ≤ a := by omega
    have p1 : a < 18446744073709551616 := by omega
    by_cases hkn : k < t.size
    · have hc := hB k hkn
      have hdrop : bs.drop k = bs[k]'(by omega) :: bs.drop (k + 1) := List.drop_eq_getElem_cons (by omega)
      have hget : bs.getD k 0 = bs[k]'(by omega) := by simp [List.getD, List.getElem?_eq_getElem (show k < bs.length by omega)]
      rw [hdrop] at hdec
      rw [hget] at hc
      generalize bs[k]'(by omega) = c at hc hdec
      have hc256 : c.toNat < 256 := c.toNat_lt
      clear hB hdrop hget
      by_cases hdig : 48 ≤ c.toNat ∧ c.toNat ≤ 57
      · obtain ⟨hd0, hd1⟩ := hdig
        have hq : dig16 c = some (c.toNat - 48) := if_pos ⟨hd0, hd1⟩
        by_cases hcut : 1152921504606846976 ≤ acc
        · have hF : pu16 acc (c :: bs.drop (k + 1)) = .range := by simp [pu16, hq, hcut]
          rw [hF] at hdec
          have icut : 1152921504606846976 ≤ a := by omega
          clear hcut hacc hF ha hq
          go_wp2
          go_ret2
          exact ⟨rfl, rfl⟩
        · have hF : pu16 acc (c :: bs.drop (k + 1)) = pu16 (acc * 16 + (c.toNat - 48)) (bs.drop (k + 1)) := by simp [pu16, hq, hcut]
          have HN : Hid (a * 16 + ((c.toNat : Int) - 48) = ((acc * 16 + (c.toNat - 48) : Nat) : Int) ∧ acc * 16 + (c.toNat - 48) < 18446744073709551616 ∧ pu16 0 bs = pu16 (acc * 16 + (c.toNat - 48)) (bs.drop (k + 1))) := Lib.hid ⟨by omega, by omega, by rw [hdec, hF]⟩
          have icut : a < 1152921504606846976 := by omega
          have iov : a * 16 + ((c.toNat : Int) - 48) < 18446744073709551616 := by omega
          clear hcut hacc hF hdec ha hq
          go_wp2
          refine ⟨⟨k + 1, acc * 16 + (c.toNat - 48), a * 16 + ((c.toNat : Int) - 48), rfl, (by first | rfl | (congr 1; omega)), (by first | rfl | (congr 1; omega)), by omega, HN⟩, by simp [intOf]; omega⟩
      · have hv0 : 0 ≤ bits .or .u8 (c.toNat : Int) 32 := bits_lo_u8 .or (c.toNat : Int) 32
        have hv1 : bits .or .u8 (c.toNat : Int) 32 ≤ 255 := bits_hi_u8 .or (c.toNat : Int) 32
        by_cases h95 : c.toNat = 95
        · have hq : dig16 c = none := by
            have : c = 95 := UInt8.toNat_inj.1 h95
            subst this
            decide
          have hF : pu16 acc (c :: bs.drop (k + 1)) = Lib.NumEnd.syntax := by simp [pu16, hq]
          rw [hF] at hdec
          have hb95 : bits .or .u8 95 32 = 127 := by decide
          clear hacc hF ha hq hv0 hv1
          rw [h95] at hc
          go_wp2_with (go_at_fn (ρ.f 19); refine (AnyPu.internal_strconv_lower { L with } _ _).mono ?_; rintro e w' ⟨rfl, rfl⟩)
          all_goals go_ret2
          all_goals first | exact ⟨rfl, rfl⟩ | exact ⟨by rw [hdec]; rfl, rfl⟩
        · obtain ⟨v, hv⟩ : ∃ v, v = bits .or .u8 (c.toNat : Int) 32 := ⟨_, rfl⟩
          have hlow : lowC c = v := hv.symm
          rw [← hv] at hv0 hv1
          by_cases hlet : 97 ≤ v ∧ v ≤ 102
          · have hq : dig16 c = some (v - 87).toNat := by
              unfold dig16
              rw [if_neg hdig, hlow, if_pos hlet]
            by_cases hcut : 1152921504606846976 ≤ acc
            · have hF : pu16 acc (c :: bs.drop (k + 1)) = .range := by simp [pu16, hq, hcut]
              rw [hF] at hdec
              have icut : 1152921504606846976 ≤ a := by omega
              clear hcut hacc hF ha hq
              go_wp2_with (go_at_fn (ρ.f 19); refine (AnyPu.internal_strconv_lower { L with } _ _).mono ?_; rw [← hv]; rintro e w' ⟨rfl, rfl⟩)
              all_goals go_ret2
              all_goals first | exact ⟨rfl, rfl⟩ | exact ⟨by rw [hdec]; rfl, rfl⟩
            · have hF : pu16 acc (c :: bs.drop (k + 1)) = pu16 (acc * 16 + (v - 87).toNat) (bs.drop (k + 1)) := by simp [pu16, hq, hcut]
              have HN : Hid (a * 16 + (v - 87) = ((acc * 16 + (v - 87).toNat : Nat) : Int) ∧ acc * 16 + (v - 87).toNat < 18446744073709551616 ∧ pu16 0 bs = pu16 (acc * 16 + (v - 87).toNat) (bs.drop (k + 1))) := Lib.hid ⟨by omega, by omega, by rw [hdec, hF]⟩
              have icut : a < 1152921504606846976 := by omega
              have iov : a * 16 + (v - 87) < 18446744073709551616 := by omega
              clear hcut hacc hF hdec ha hq
              go_wp2_with (go_at_fn (ρ.f 19); refine (AnyPu.internal_strconv_lower { L with } _ _).mono ?_; rw [← hv]; rintro e w' ⟨rfl, rfl⟩)
              all_goals refine ⟨⟨k + 1, acc * 16 + (v - 87).toNat, a * 16 + (v - 87), rfl, (by first | rfl | (congr 1; omega)), (by first | rfl | (congr 1; omega)), by omega, HN⟩, by simp [intOf]; omega⟩
          · have hq : dig16 c = none := by
              unfold dig16
              rw [if_neg hdig, hlow, if_neg hlet]
            have hF : pu16 acc (c :: bs.drop (k + 1)) = Lib.NumEnd.syntax := by simp [pu16, hq]
            rw [hF] at hdec
            clear hacc hF ha hq
            go_wp2_with (go_at_fn (ρ.f 19); refine (AnyPu.internal_strconv_lower { L with } _ _).mono ?_; rw [← hv]; rintro e w' ⟨rfl, rfl⟩)
            all_goals go_ret2
            all_goals first | exact ⟨rfl, rfl⟩ | exact ⟨by rw [hdec]; rfl, rfl⟩
    · have hkk : k = t.size := by omega
      subst hkk
      have hF : pu16 acc (bs.drop t.size) = .ok acc := by rw [List.drop_eq_nil_of_le (by omega)]; rfl
      rw [hF] at hdec
      subst ha
      clear hacc hF p0 p1
      go_wp2
      go_ret2
      exact ⟨rfl, rfl⟩
/-- the answer of the inner function, the empty text too -/
theorem walk_pu16All (L : LaysPu.n16 P ρ) (t : ByteArray) (hmax : t.size ≤ 9223372036854775806) (w : World) :
    Calls P (ρ.f 16) #[.string t, .int .i64 16, .int .i64 64] w fun e w' => e = .returned (Lib.uintTuple (ρ.t 34) (pu16All t.data.toList)) ∧ Below w.heap.size w w' := by
  by_cases h0 : t.size = 0
  · have ht : t = ⟨#[]⟩ := by
      apply ByteArray.ext
      exact Array.eq_empty_of_size_eq_zero h0
    subst ht
    exact (AnyPu.internal_strconv_ParseUint_empty { L with } 16 64 w).mono fun e w' ⟨he, hw⟩ => ⟨he, hw ▸ Below.refl _ _⟩
  · have hne : t.data.toList ≠ [] := fun h => h0 (by rw [Lib.size_eq, h]; rfl)
    exact (walk_pu16 L t h0 hmax w).mono fun e w' ⟨he, hw⟩ => ⟨by rw [he, pu16All, if_neg hne], hw ▸ Lib.bytesWorld_below _ _ _⟩
/-- what the outer function answers -/
def PuAns : Lib.NumEnd Nat → Value → Prop
  | .ok u, v => v = .tuple #[.int .u64 u, .nilIface]
  | Lib.NumEnd.syntax, v => ∃ a b, v = .tuple #[.int .u64 0, .iface a b]
  | .range, v => ∃ a b, v = .tuple #[.int .u64 18446744073709551615, .iface a b]
set_option maxHeartbeats 4000000 in
set_option maxRecDepth 100000 in
theorem walk_PU16 (L : LaysPu.n14 P ρ) (s : ByteArray) (hlim : s.size ≤ 281474976710656) (w : World) (evS evR : Value) (hS : w.cell? ⟨(ρ.g 0), 0, none⟩ = some evS) (hR : w.cell? ⟨(ρ.g 1), 0, none⟩ = some evR)
    (hSi : evS = .nilIface ∨ ∃ te pe, evS = .iface te pe) (hRi : evR = .nilIface ∨ ∃ te pe, evR = .iface te pe) :
    Calls P (ρ.f 14) #[.string s, .int .i64 16, .int .i64 64] w fun e w' => (∃ v, e = .returned v ∧ PuAns (pu16All s.data.toList) v) ∧ Below w.heap.size w w' := by
  have mixed := L.mixed
  have t9 := L.t9; have a9 := L.a9; have z9 := L.z9; have v9 := L.v9
  have t3 := L.t3; have a3 := L.a3; have z3 := L.z3; have v3 := L.v3
  have t22 := L.t22; have a22 := L.a22; have z22 := L.z22; have v22 := L.v22
  have t24 := L.t24; have a24 := L.a24; have z24 := L.z24; have v24 := L.v24
  have t25 := L.t25; have a25 := L.a25; have z25 := L.z25; have v25 := L.v25
  have t4 := L.t4; have a4 := L.a4; have z4 := L.z4; have v4 := L.v4
  have e16 : ∀ args w, (callFunc (ρ.f 16) args).run P w = .ok (.enter (ρ.f 16) args) w := enters_of L.f16 (by kernel_rfl) rfl
  have e17 : ∀ args w, (callFunc (ρ.f 17) args).run P w = .ok (.enter (ρ.f 17) args) w := enters_of L.f17 (by kernel_rfl) rfl
  have gS : (ρ.g 0) < w.heap.size := Lib.lt_of_cell hS
  have gR : (ρ.g 1) < w.heap.size := Lib.lt_of_cell hR
  have hI := walk_pu16All { L with } s (by omega) w
  rcases hk : pu16All s.data.toList with u | _ | _
  ·
    rw [hk] at hI
    have hI : Calls P (ρ.f 16) #[.string s, .int .i64 16, .int .i64 64] w fun e w' => e = .returned (.tuple #[.int .u64 u, .nilIface]) ∧ Below w.heap.size w w' := hI
    clear hk
    go_enter L.f14, BodyPu.n14_ntmps ρ
    go_wp2_with (go_at_fn (ρ.f 16); refine hI.mono ?_; rintro e W1 ⟨rfl, hW⟩)
    go_wp2
    go_ret2
    exact ⟨⟨_, rfl, rfl⟩, hW⟩
  ·
    rw [hk] at hI
    have hI : Calls P (ρ.f 16) #[.string s, .int .i64 16, .int .i64 64] w fun e w' => e = .returned (.tuple #[.int .u64 0, .iface (ρ.t 34) (.int .i64 2)]) ∧ Below w.heap.size w w' := hI
    clear hk
    go_enter L.f14, BodyPu.n14_ntmps ρ
    go_wp2_with (go_at_fn (ρ.f 16); refine hI.mono ?_)
    rintro e W1 ⟨rfl, hb1⟩
    have hv1 : W1.cell? ⟨(ρ.g 0), 0, none⟩ = some evS := (hb1.cell (show (⟨(ρ.g 0), 0, none⟩ : Addr).block < w.heap.size from gS)).trans hS
    go_wp2_with (go_at_fn (ρ.f 17); refine (AnyPu.strconv_toError_syntax { L with } ⟨#[80, 97, 114, 115, 101, 85, 105, 110, 116]⟩ s 16 64 evS _ hlim ?_ hSi).mono ?_)
    · exact hv1
    rintro e W2 ⟨N, rfl, h1, h2, h3⟩
    go_wp2
    go_ret2
    exact ⟨⟨_, rfl, _, _, rfl⟩, hb1.trans (h3.mono hb1.size)⟩
  ·
    rw [hk] at hI
    have hI : Calls P (ρ.f 16) #[.string s, .int .i64 16, .int .i64 64] w fun e w' => e = .returned (.tuple #[.int .u64 18446744073709551615, .iface (ρ.t 34) (.int .i64 1)]) ∧ Below w.heap.size w w' := hI
    clear hk
    go_enter L.f14, BodyPu.n14_ntmps ρ
    go_wp2_with (go_at_fn (ρ.f 16); refine hI.mono ?_)
    rintro e W1 ⟨rfl, hb1⟩
    have hv1 : W1.cell? ⟨(ρ.g 1), 0, none⟩ = some evR := (hb1.cell (show (⟨(ρ.g 1), 0, none⟩ : Addr).block < w.heap.size from gR)).trans hR
    go_wp2_with (go_at_fn (ρ.f 17); refine (AnyPu.strconv_toError_range { L with } ⟨#[80, 97, 114, 115, 101, 85, 105, 110, 116]⟩ s 16 64 evR _ hlim ?_ hRi).mono ?_)
    · exact hv1
    rintro e W2 ⟨N, rfl, h1, h2, h3⟩
    go_wp2
    go_ret2
    exact ⟨⟨_, rfl, _, _, rfl⟩, hb1.trans (h3.mono hb1.size)⟩
end Go.Am
/-
strconv.ParseUint with base 16 and 64 bits, told.
-/
namespace Go.Am
open Go Go.RowKit Go.Proofs
def parseUintK (l : List UInt8) (base bits : Int) : Option (Int × Bool) := if base = 16 ∧ bits = 64 ∧ l.length ≤ 281474976710656 then (match pu16All l with
  | .ok n => some ((n : Int), true)
  | Lib.NumEnd.syntax => some (0, false)
  | .range => some (18446744073709551615, false)) else none
def parseUintSm : Sm := fun args bs => match args, bs with
  | [.pv (.str l), .pv (.int .i64 base), .pv (.int .i64 bits)], [] => match parseUintK l base bits with
    | some (n, b) => some (.tup [.pv (.int .u64 n), .pv (ifP b)], [], [])
    | none => none
  | _, _ => none
theorem parseUintSm_sound : SoundF Tryz.prog 44 parseUintSm := by
  refine soundF_vals ⟨_, _, Tryz.func44, by kernel_rfl, rfl⟩ fun args bs v bs' news hs => ?_
  unfold parseUintSm at hs
  split at hs
  · rename_i l base bits
    split at hs
    · rename_i n b hl
      cases hs
      unfold parseUintK at hl
      split at hl
      · rename_i hn
        obtain ⟨rfl, rfl, hn⟩ := hn
        refine ⟨⟨rfl, rfl, rfl⟩, fun w I M G μ cargs hT _ R => ?_⟩
        obtain ⟨cl⟩ := cargs
        match cl, R with
        | [c0, c1, c2], ⟨r0, r1, r2, _⟩ =>
          cases r0
          cases r1
          cases r2
          obtain ⟨t, p, hv⟩ := hT.errVar (P := Tryz.prog) (name := "strconv.ErrSyntax") (g := 1) (by kernel_rfl) (.inl rfl)
          obtain ⟨t', p', hv'⟩ := hT.errVar (P := Tryz.prog) (name := "strconv.ErrRange") (g := 2) (by kernel_rfl) (.inr rfl)
          have k1 := World.var?_cell (show Tryz.prog.globalNamed "strconv.ErrSyntax" = some 1 by kernel_rfl) hv 0
          have k2 := World.var?_cell (show Tryz.prog.globalNamed "strconv.ErrRange" = some 2 by kernel_rfl) hv' 0
          have k1' : w.cell? ⟨1, 0, none⟩ = some (.iface t p) := by simpa using k1
          have k2' : w.cell? ⟨2, 0, none⟩ = some (.iface t' p') := by simpa using k2
          refine (walk_PU16 Tryz.laysPu14 ⟨l.toArray⟩ (by simpa [ByteArray.size] using hn) w (.iface t p) (.iface t' p') k1' k2' (.inr ⟨_, _, rfl⟩) (.inr ⟨_, _, rfl⟩)).mono fun e w' ⟨⟨v, he, hq⟩, hb⟩ => ⟨⟨v, he, fun _ _ _ _ => ?_⟩, hb⟩
          change PuAns (pu16All l) v at hq
          split at hl
          · rename_i n' hk
            cases hl
            rw [hk] at hq
            exact ⟨_, hq, rfl, rfl, trivial⟩
          · rename_i hk
            cases hl
            rw [hk] at hq
            obtain ⟨a, b, hq⟩ := hq
            exact ⟨_, hq, rfl, ⟨_, _, rfl⟩, trivial⟩
          · rename_i hk
            cases hl
            rw [hk] at hq
            obtain ⟨a, b, hq⟩ := hq
            exact ⟨_, hq, rfl, ⟨_, _, rfl⟩, trivial⟩
      · cases hl
    · cases hs
  · cases hs
end Go.Am
/-
strconv.Itoa from 0 to 999, told.
-/
namespace Go.Am
open Go Go.RowKit Go.Proofs
/-! ### numbers below 1000 -/
def itoaN (n : Nat) : List UInt8 := if n < 10 then [UInt8.ofNat (48 + n)] else if n < 100 then [UInt8.ofNat (48 + n / 10), UInt8.ofNat (48 + n % 10)] else [UInt8.ofNat (48 + n / 100), UInt8.ofNat (48 + n / 10 % 10), UInt8.ofNat (48 + n % 10)]
theorem itoaN_is {n : Nat} (h : n < 1000) : Lib.decDigits n = itoaN n := by
  rw [Lib.decDigits]
  unfold itoaN
  split
  · rfl
  · rw [Lib.decDigits]
    split
    · rw [if_pos (by omega)]; rfl
    · rw [if_neg (by omega), Lib.decDigits, dif_pos (by omega), Nat.div_div_eq_div_mul]
      rfl
def itoaK (n : Int) : Option (List UInt8) := if 0 ≤ n ∧ n < 1000 then some (itoaN n.toNat) else none
def itoaSm : Sm := fun args bs => match args, bs with
  | [.pv (.int .i64 n)], [] => match itoaK n with
    | some l => some (.pv (.str l), [], [])
    | none => none
  | _, _ => none
theorem itoaSm_sound : SoundF Tryz.prog 56 itoaSm := by
  refine soundF_pure ⟨_, _, Tryz.func56, by kernel_rfl, rfl⟩ fun args bs v bs' news hs => ?_
  unfold itoaSm at hs
  split at hs
  · rename_i n
    split at hs
    · rename_i l hl
      cases hs
      unfold itoaK at hl
      split at hl
      · rename_i hn
        cases hl
        refine ⟨⟨rfl, rfl, rfl⟩, _, rfl, fun w I M G μ cargs hT _ R => ?_⟩
        obtain ⟨i, rfl⟩ := Int.eq_ofNat_of_zero_le hn.1
        obtain ⟨cl⟩ := cargs
        match cl, R with
        | [c0], ⟨r0, _⟩ =>
          cases r0
          refine (Tryz.strconv_Itoa (i : Int) (by omega) (by omega) w (hT.tabIs (g := 3) (by kernel_rfl) rfl)).mono fun e w' ⟨he, k, os, hw⟩ => ⟨⟨_, he, fun _ _ => ?_⟩, hw ▸ Lib.below_grow _ _ (Nat.le_refl _) _ _⟩
          have : Lib.itoa (i : Int) = itoaN i := by
            unfold Lib.itoa
            rw [if_neg (by omega), Int.toNat_natCast, itoaN_is (by omega)]
          rw [this]
          rfl
      · cases hl
    · cases hs
  · cases hs
end Go.Am
/-
strconv.Atoi of any bytes, told.
-/
namespace Go.Am
open Go Go.RowKit Go.Proofs
def atoiK (l : List UInt8) : Option (Int × Bool) := if l.length ≤ 281474976710656 then (match Lib.atoiAll l with
  | .ok n => some (n, true)
  | Lib.NumEnd.syntax => some (0, false)
  | .range => some (Lib.atoiSat l, false)) else none
def atoiSm : Sm := fun args bs => match args, bs with
  | [.pv (.str l)], [] => match atoiK l with
    | some (n, b) => some (.tup [.pv (.int .i64 n), .pv (ifP b)], [], [])
    | none => none
  | _, _ => none
theorem atoiSm_sound : SoundF Tryz.prog 69 atoiSm := by
  refine soundF_vals ⟨_, _, Tryz.func69, by kernel_rfl, rfl⟩ fun args bs v bs' news hs => ?_
  unfold atoiSm at hs
  split at hs
  · rename_i l
    split at hs
    · rename_i n b hl
      cases hs
      unfold atoiK at hl
      split at hl
      · rename_i hn
        refine ⟨⟨rfl, rfl, rfl⟩, fun w I M G μ cargs hT _ R => ?_⟩
        obtain ⟨cl⟩ := cargs
        match cl, R with
        | [c0], ⟨r0, _⟩ =>
          cases r0
          split at hl
          · rename_i n' hk
            cases hl
            refine (Tryz.strconv_Atoi_ok ⟨l.toArray⟩ (by simp [ByteArray.size]; omega) n hk w).mono fun e w' ⟨he, hw⟩ => ⟨⟨_, he, fun _ _ _ _ => ⟨_, rfl, rfl, rfl, trivial⟩⟩, ?_⟩
            rcases hw with rfl | ⟨t, rfl⟩
            · exact Below.refl _ _
            · exact Lib.bytesWorld_below _ _ _
          · rename_i hk
            cases hl
            obtain ⟨t, p, hv⟩ := hT.errVar (P := Tryz.prog) (name := "strconv.ErrSyntax") (g := 1) (by kernel_rfl) (.inl rfl)
            exact (Tryz.strconv_Atoi_syntax_var ⟨l.toArray⟩ (by simpa [ByteArray.size] using hn) hk t p w hv).mono fun e w' ⟨N, he, _, _, hb⟩ => ⟨⟨_, he, fun _ _ _ _ => ⟨_, rfl, rfl, ⟨_, _, rfl⟩, trivial⟩⟩, hb⟩
          · rename_i hk
            cases hl
            obtain ⟨t, p, hv⟩ := hT.errVar (P := Tryz.prog) (name := "strconv.ErrRange") (g := 2) (by kernel_rfl) (.inr rfl)
            exact (Tryz.strconv_Atoi_range_var ⟨l.toArray⟩ (by simpa [ByteArray.size] using hn) hk t p w hv).mono fun e w' ⟨N, he, _, _, hb⟩ => ⟨⟨_, he, fun _ _ _ _ => ⟨_, rfl, rfl, ⟨_, _, rfl⟩, trivial⟩⟩, hb⟩
      · cases hl
    · cases hs
  · cases hs
end Go.Am
/-
strings.IndexByte, told.
-/
namespace Go.Am
open Go Go.RowKit Go.Proofs
def indexByteK (l : List UInt8) (c : Int) : Option Int := some (Lib.indexByte l c.toNat.toUInt8)
def indexByteSm : Sm := fun args bs => match args, bs with
  | [.pv (.str l), .pv (.int .u8 c)], [] => match indexByteK l c with
    | some v => some (.pv (.int .i64 v), [], [])
    | none => none
  | _, _ => none
theorem indexByteSm_sound : SoundF Tryz.prog 104 indexByteSm := by
  refine soundF_pure ⟨_, _, Tryz.func104, by kernel_rfl, rfl⟩ fun args bs v bs' news hs => ?_
  unfold indexByteSm at hs
  split at hs
  · rename_i l c
    unfold indexByteK at hs
    cases hs
    refine ⟨⟨rfl, rfl, rfl⟩, _, rfl, fun w I M G μ cargs _ _ R => ?_⟩
    obtain ⟨cl⟩ := cargs
    match cl, R with
    | [c0, c1], ⟨r0, r1, _⟩ =>
      cases r0
      cases r1
      exact (Tryz.strings_IndexByte ⟨l.toArray⟩ c w).mono fun e w' ⟨he, hw⟩ => ⟨⟨_, he, fun _ _ => rfl⟩, hw ▸ Below.refl _ _⟩
  · cases hs
end Go.Am
/-
strings.Join, told.
-/
namespace Go.Am
open Go Go.RowKit Go.Proofs
/-! ### texts one behind the other -/
def joinL : List (List UInt8) → List UInt8 → List UInt8
  | [], _ => []
  | [x], _ => x
  | x :: y :: r, sep => x ++ (sep ++ joinL (y :: r) sep)
theorem joinL_is (sep : List UInt8) : ∀ xs, Lib.join xs sep = joinL xs sep
  | [] => rfl
  | [x] => Lib.join_one x sep
  | x :: y :: r => by
    rw [joinL, ← joinL_is sep (y :: r)]
    simp [Lib.join, List.intercalate]
def strsP (xs : List (List UInt8)) : List PV := xs.map .str
def unStrs : List PV → Option (List (List UInt8))
  | [] => some []
  | .str x :: r => match unStrs r with
    | some q => some (x :: q)
    | none => none
  | _ => none
theorem unStrs_some : ∀ {l : List PV} {xs}, unStrs l = some xs → l = strsP xs
  | [], xs, h => by cases h; rfl
  | a :: r, xs, h => by
    unfold unStrs at h
    split at h
    · rename_i e; cases e
    · rename_i x r' e
      cases e
      split at h
      · rename_i q hq
        cases h
        rw [unStrs_some hq]; rfl
      · cases h
    · cases h
theorem unStrs_strsP : ∀ xs, unStrs (strsP xs) = some xs
  | [] => rfl
  | x :: r => by
    show (match unStrs (strsP r) with | some q => some (x :: q) | none => none) = _
    rw [unStrs_strsP r]
def joinK (xs : List (List UInt8)) (sep : List UInt8) : Option (List UInt8) :=
  if xs.length ≤ 140737488355328 ∧ (joinL xs sep).length ≤ 140737488355328 then some (joinL xs sep) else none
def joinSm : Sm := fun args bs => match args, bs with
  | [.pv (.sl n cells), .pv (.str sep)], [] => match unStrs cells with
    | some xs => if n = xs.length then (match joinK xs sep with
      | some l => some (.pv (.str l), [], [])
      | none => none) else none
    | none => none
  | _, _ => none
theorem map_data (xs : List (List UInt8)) : (xs.map fun x => (⟨x.toArray⟩ : ByteArray)).map (·.data.toList) = xs := by
  rw [List.map_map]
  conv => rhs; rw [← List.map_id xs]
  exact List.map_congr_left fun x _ => rfl
theorem joinSm_sound : SoundF Tryz.prog 121 joinSm := by
  refine soundF_pure ⟨_, _, Tryz.func121, by kernel_rfl, rfl⟩ fun args bs v bs' news hs => ?_
  unfold joinSm at hs
  split at hs
  · rename_i n cells sep
    split at hs
    · rename_i xs hx
      obtain rfl := unStrs_some hx
      split at hs
      · rename_i hn
        split at hs
        · rename_i l hl
          cases hs
          unfold joinK at hl
          split at hl
          · rename_i hb
            cases hl
            refine ⟨⟨rfl, rfl, rfl⟩, _, rfl, fun w I M G μ cargs _ hI R => ?_⟩
            obtain ⟨cl⟩ := cargs
            match cl, R with
            | [c0, c1], ⟨r0, r1, _⟩ =>
              cases r1
              obtain ⟨a, cap, rfl, hcap, r0⟩ := r0
              by_cases h0 : xs = []
              · subst h0
                subst hn
                refine (Tryz.strings_Join_none a cap ⟨sep.toArray⟩ w).mono fun e w' ⟨he, hw⟩ => ⟨⟨_, he, fun _ _ => rfl⟩, hw ▸ Below.refl _ _⟩
              · rcases r0 with r0 | ⟨b, off, rfl, hb2, row⟩
                · exfalso
                  apply h0
                  simpa [strsP] using r0
                · subst hn
                  have hlen : (xs.map fun x => (⟨x.toArray⟩ : ByteArray)).length = xs.length := by simp
                  have key := Tryz.strings_Join b off cap (xs.map fun x => (⟨x.toArray⟩ : ByteArray)) ⟨sep.toArray⟩ w (by
                    intro j x hj
                    rw [List.getElem?_map, Option.map_eq_some_iff] at hj
                    obtain ⟨y, hy, rfl⟩ := hj
                    obtain ⟨v, hv, hr⟩ := rowGet row j (.str y) (by rw [strsP, List.getElem?_map, hy]; rfl)
                    cases hr
                    rw [cell?_eq]
                    exact hv) (hI b hb2) (by rw [hlen]; exact hb.1) (by rw [hlen]; exact hcap) (by rw [map_data, joinL_is]; exact hb.2)
                  rw [hlen, map_data, joinL_is] at key
                  exact key.mono fun e w' ⟨he, hw⟩ => ⟨⟨_, he, fun _ _ => rfl⟩, hw⟩
          · cases hl
        · cases hs
      · cases hs
    · cases hs
  · cases hs
end Go.Am
/-
internal/stringslite.Index of one byte, told.
-/
namespace Go.Am
open Go Go.RowKit Go.Proofs
def indexOneK (l p : List UInt8) : Option Int := match p with
  | [c] => some (Lib.indexByte l c)
  | _ => none
def indexOneSm : Sm := fun args bs => match args, bs with
  | [.pv (.str l), .pv (.str p)], [] => match indexOneK l p with
    | some v => some (.pv (.int .i64 v), [], [])
    | none => none
  | _, _ => none
theorem indexOneSm_sound : SoundF Tryz.prog 123 indexOneSm := by
  refine soundF_pure ⟨_, _, Tryz.func123, by kernel_rfl, rfl⟩ fun args bs v bs' news hs => ?_
  unfold indexOneSm at hs
  split at hs
  · rename_i l p
    unfold indexOneK at hs
    split at hs
    · rename_i v hv
      split at hv
      · rename_i c
        cases hs
        cases hv
        refine ⟨⟨rfl, rfl, rfl⟩, _, rfl, fun w I M G μ cargs _ _ R => ?_⟩
        obtain ⟨cl⟩ := cargs
        match cl, R with
        | [c0, c1], ⟨r0, r1, _⟩ =>
          cases r0
          cases r1
          exact (Tryz.stringslite_Index_one ⟨l.toArray⟩ c w).mono fun e w' ⟨he, hw⟩ => ⟨⟨_, he, fun _ _ => rfl⟩, hw ▸ Below.refl _ _⟩
      · cases hv
    · cases hs
  · cases hs
end Go.Am
/-
math/bits.TrailingZeros64 of 16, walked.
-/
namespace Go.Am
open Go Go.RowKit Go.Proofs
theorem walk_tz16 (w : World) (hc : w.cell? ⟨5, 15, none⟩ = some (.int .u8 4)) :
    Calls Tryz.prog 143 #[.int .u64 16] w fun e w' => e = .returned (.int .i64 4) ∧ w' = w := by
  have hx : IntKind.u64.wrap (bits BinOp.and IntKind.u64 16 (IntKind.u64.wrap (-16)) * 285870213051353865) / 288230376151711744 = 15 := by decide
  go_enter Tryz.func143, Tryz.ntmps143
  go_wp2
  go_ret
  exact ⟨rfl, rfl⟩
def tz16K (n : Int) : Option Int := if n = 16 then some 4 else none
def tz16Sm : Sm := fun args bs => match args, bs with
  | [.pv (.int .u64 n)], [] => match tz16K n with
    | some v => some (.pv (.int .i64 v), [], [])
    | none => none
  | _, _ => none
theorem tz16Sm_sound : SoundF Tryz.prog 143 tz16Sm := by
  refine soundF_pure ⟨_, _, Tryz.func143, by kernel_rfl, rfl⟩ fun args bs v bs' news hs => ?_
  unfold tz16Sm at hs
  split at hs
  · rename_i n
    split at hs
    · rename_i v hl
      cases hs
      unfold tz16K at hl
      split at hl
      · rename_i hn
        subst hn
        cases hl
        refine ⟨⟨rfl, rfl, rfl⟩, _, rfl, fun w I M G μ cargs hT _ R => ?_⟩
        obtain ⟨cl⟩ := cargs
        match cl, R with
        | [c0], ⟨r0, _⟩ =>
          cases r0
          exact (walk_tz16 w (hT.bru (g := 5) rfl 15 (by decide))).mono fun e w' ⟨he, hw⟩ => ⟨⟨_, he, fun _ _ => rfl⟩, hw ▸ Below.refl _ _⟩
      · cases hl
    · cases hs
  · cases hs
end Go.Am
/-
The types of this seat's program under the abstract machine: pure values and their rows of cells.
-/
namespace Go.Am
open Go Go.Proofs
def cf : Cfg := ⟨fun f => if f = 47 then some repeatSm else if f = 41 then some trimPrefixSm else if f = 43 then some lastIndexByteSm else if f = 44 then some parseUintSm else if f = 56 then some itoaSm else if f = 69 then some atoiSm else if f = 104 then some indexByteSm else if f = 121 then some joinSm else if f = 123 then some indexOneSm else if f = 143 then some tz16Sm else none, fun _ => false⟩
theorem cf_own (f : FuncId) : cf.own f = false := rfl
attribute [simp] cf_own
/-- what a function answers -/
noncomputable abbrev R : Fs := W Tryz.prog cf
theorem R_eq (f : FuncId) (a b : List AV) {fn : FnA} (hf : fnA Tryz.prog f = some fn) (he : cf.ext f = none := by rfl) : R f a b = outF Tryz.prog cf f fn b (C Tryz.prog cf fn.code (enterA a b)) := W_eq f a b he hf
theorem cf_sound : ∀ f sm, cf.ext f = some sm → SoundF Tryz.prog f sm := by
  intro f sm h
  unfold cf at h
  simp only at h
  split at h
  · rename_i e; subst e; cases h; exact repeatSm_sound
  split at h
  · rename_i e; subst e; cases h; exact trimPrefixSm_sound
  split at h
  · rename_i e; subst e; cases h; exact lastIndexByteSm_sound
  split at h
  · rename_i e; subst e; cases h; exact parseUintSm_sound
  split at h
  · rename_i e; subst e; cases h; exact itoaSm_sound
  split at h
  · rename_i e; subst e; cases h; exact atoiSm_sound
  split at h
  · rename_i e; subst e; cases h; exact indexByteSm_sound
  split at h
  · rename_i e; subst e; cases h; exact joinSm_sound
  split at h
  · rename_i e; subst e; cases h; exact indexOneSm_sound
  split at h
  · rename_i e; subst e; cases h; exact tz16Sm_sound
  cases h
theorem ty_3 : tyA Tryz.prog 3 = some ⟨1, 8, false, .int .i64, some [.pv (.int .i64 0)]⟩ := by kernel_rfl
theorem ty_4 : tyA Tryz.prog 4 = some ⟨1, 1, false, .bool, some [bl false]⟩ := by kernel_rfl
theorem ty_5 : tyA Tryz.prog 5 = some ⟨1, 1, false, .int .u8, some [.pv (.int .u8 0)]⟩ := by kernel_rfl
theorem ty_9 : tyA Tryz.prog 9 = some ⟨1, 16, false, .str, some [.pv (.str [])]⟩ := by kernel_rfl
theorem ty_22 : tyA Tryz.prog 22 = some ⟨1, 24, false, .slice 3, some [.nilsl]⟩ := by kernel_rfl
theorem ty_23 : tyA Tryz.prog 23 = some ⟨1, 8, false, .ptr 62, some [.pv .nilptr]⟩ := by kernel_rfl
theorem ty_25 : tyA Tryz.prog 25 = some ⟨1, 24, false, .slice 33, some [.nilsl]⟩ := by kernel_rfl
theorem ty_29 : tyA Tryz.prog 29 = some ⟨1, 24, false, .slice 31, some [.nilsl]⟩ := by kernel_rfl
theorem ty_31 : tyA Tryz.prog 31 = some ⟨3, 56, true, .struct [(3, 0), (22, 1), (29, 2)], some [.pv (.int .i64 0), .nilsl, .nilsl]⟩ := by kernel_rfl
theorem ty_33 : tyA Tryz.prog 33 = some ⟨1, 8, false, .int .u64, some [.pv (.int .u64 0)]⟩ := by kernel_rfl
theorem ty_35 : tyA Tryz.prog 35 = some ⟨6, 80, true, .struct [(3, 0), (3, 1), (31, 2), (33, 5)], some [.pv (.int .i64 0), .pv (.int .i64 0), .pv (.int .i64 0), .nilsl, .nilsl, .pv (.int .u64 0)]⟩ := by kernel_rfl
theorem ty_36 : tyA Tryz.prog 36 = some ⟨1, 8, false, .int .i64, some [.pv (.int .i64 0)]⟩ := by kernel_rfl
theorem ty_49 : tyA Tryz.prog 49 = some ⟨1, 24, false, .slice 35, some [.nilsl]⟩ := by kernel_rfl
theorem ty_53 : tyA Tryz.prog 53 = some ⟨12, 160, true, .struct [(35, 0), (35, 6)], some [.pv (.int .i64 0), .pv (.int .i64 0), .pv (.int .i64 0), .nilsl, .nilsl, .pv (.int .u64 0), .pv (.int .i64 0), .pv (.int .i64 0), .pv (.int .i64 0), .nilsl, .nilsl, .pv (.int .u64 0)]⟩ := by kernel_rfl
theorem ty_54 : tyA Tryz.prog 54 = some ⟨1, 24, false, .slice 53, some [.nilsl]⟩ := by kernel_rfl
theorem ty_57 : tyA Tryz.prog 57 = some ⟨1, 24, false, .slice 9, some [.nilsl]⟩ := by kernel_rfl
theorem ty_62 : tyA Tryz.prog 62 = some ⟨2, 32, true, .struct [(22, 0), (3, 1)], some [.nilsl, .pv (.int .i64 0)]⟩ := by kernel_rfl
theorem ty_71 : tyA Tryz.prog 71 = some ⟨1, 16, false, .iface, some [.pv .nilif]⟩ := by kernel_rfl
theorem ty_90 : tyA Tryz.prog 90 = some ⟨1, 8, false, .int .u64, some [.pv (.int .u64 0)]⟩ := by kernel_rfl
theorem ty_91 : tyA Tryz.prog 91 = some ⟨1, 24, false, .slice 5, some [.nilsl]⟩ := by kernel_rfl
theorem ty_92 : tyA Tryz.prog 92 = some ⟨8, 8, true, .array 8 5, some [.pv (.int .u8 0), .pv (.int .u8 0), .pv (.int .u8 0), .pv (.int .u8 0), .pv (.int .u8 0), .pv (.int .u8 0), .pv (.int .u8 0), .pv (.int .u8 0)]⟩ := by kernel_rfl
theorem ty_98 : tyA Tryz.prog 98 = some ⟨1, 8, false, .ptr 100, some [.pv .nilptr]⟩ := by kernel_rfl
theorem ty_100 : tyA Tryz.prog 100 = some ⟨3, 40, true, .struct [(9, 0), (9, 1), (3, 2)], some [.pv (.str []), .pv (.str []), .pv (.int .i64 0)]⟩ := by kernel_rfl
theorem ty_115 : tyA Tryz.prog 115 = some ⟨1, 8, false, .func, some [.pv .nilfn]⟩ := by kernel_rfl
theorem ty_117 : tyA Tryz.prog 117 = some ⟨1, 8, false, .ptr 119, some [.pv .nilptr]⟩ := by kernel_rfl
theorem ty_119 : tyA Tryz.prog 119 = some ⟨2, 24, true, .struct [(9, 0), (3, 1)], some [.pv (.str []), .pv (.int .i64 0)]⟩ := by kernel_rfl
theorem ty_127 : tyA Tryz.prog 127 = some ⟨24, 24, true, .array 24 5, some [.pv (.int .u8 0), .pv (.int .u8 0), .pv (.int .u8 0), .pv (.int .u8 0), .pv (.int .u8 0), .pv (.int .u8 0), .pv (.int .u8 0), .pv (.int .u8 0), .pv (.int .u8 0), .pv (.int .u8 0), .pv (.int .u8 0), .pv (.int .u8 0), .pv (.int .u8 0), .pv (.int .u8 0), .pv (.int .u8 0), .pv (.int .u8 0), .pv (.int .u8 0), .pv (.int .u8 0), .pv (.int .u8 0), .pv (.int .u8 0), .pv (.int .u8 0), .pv (.int .u8 0), .pv (.int .u8 0), .pv (.int .u8 0)]⟩ := by kernel_rfl
theorem ty_132 : tyA Tryz.prog 132 = some ⟨1, 4, false, .int .u32, some [.pv (.int .u32 0)]⟩ := by kernel_rfl
theorem ty_149 : tyA Tryz.prog 149 = some ⟨20, 160, true, .array 20 33, some [.pv (.int .u64 0), .pv (.int .u64 0), .pv (.int .u64 0), .pv (.int .u64 0), .pv (.int .u64 0), .pv (.int .u64 0), .pv (.int .u64 0), .pv (.int .u64 0), .pv (.int .u64 0), .pv (.int .u64 0), .pv (.int .u64 0), .pv (.int .u64 0), .pv (.int .u64 0), .pv (.int .u64 0), .pv (.int .u64 0), .pv (.int .u64 0), .pv (.int .u64 0), .pv (.int .u64 0), .pv (.int .u64 0), .pv (.int .u64 0)]⟩ := by kernel_rfl
theorem ty_150 : tyA Tryz.prog 150 = some ⟨65, 65, true, .array 65 5, some [.pv (.int .u8 0), .pv (.int .u8 0), .pv (.int .u8 0), .pv (.int .u8 0), .pv (.int .u8 0), .pv (.int .u8 0), .pv (.int .u8 0), .pv (.int .u8 0), .pv (.int .u8 0), .pv (.int .u8 0), .pv (.int .u8 0), .pv (.int .u8 0), .pv (.int .u8 0), .pv (.int .u8 0), .pv (.int .u8 0), .pv (.int .u8 0), .pv (.int .u8 0), .pv (.int .u8 0), .pv (.int .u8 0), .pv (.int .u8 0), .pv (.int .u8 0), .pv (.int .u8 0), .pv (.int .u8 0), .pv (.int .u8 0), .pv (.int .u8 0), .pv (.int .u8 0), .pv (.int .u8 0), .pv (.int .u8 0), .pv (.int .u8 0), .pv (.int .u8 0), .pv (.int .u8 0), .pv (.int .u8 0), .pv (.int .u8 0), .pv (.int .u8 0), .pv (.int .u8 0), .pv (.int .u8 0), .pv (.int .u8 0), .pv (.int .u8 0), .pv (.int .u8 0), .pv (.int .u8 0), .pv (.int .u8 0), .pv (.int .u8 0), .pv (.int .u8 0), .pv (.int .u8 0), .pv (.int .u8 0), .pv (.int .u8 0), .pv (.int .u8 0), .pv (.int .u8 0), .pv (.int .u8 0), .pv (.int .u8 0), .pv (.int .u8 0), .pv (.int .u8 0), .pv (.int .u8 0), .pv (.int .u8 0), .pv (.int .u8 0), .pv (.int .u8 0), .pv (.int .u8 0), .pv (.int .u8 0), .pv (.int .u8 0), .pv (.int .u8 0), .pv (.int .u8 0), .pv (.int .u8 0), .pv (.int .u8 0), .pv (.int .u8 0), .pv (.int .u8 0)]⟩ := by kernel_rfl
theorem ty_162 : tyA Tryz.prog 162 = some ⟨32, 32, true, .array 32 5, some [.pv (.int .u8 0), .pv (.int .u8 0), .pv (.int .u8 0), .pv (.int .u8 0), .pv (.int .u8 0), .pv (.int .u8 0), .pv (.int .u8 0), .pv (.int .u8 0), .pv (.int .u8 0), .pv (.int .u8 0), .pv (.int .u8 0), .pv (.int .u8 0), .pv (.int .u8 0), .pv (.int .u8 0), .pv (.int .u8 0), .pv (.int .u8 0), .pv (.int .u8 0), .pv (.int .u8 0), .pv (.int .u8 0), .pv (.int .u8 0), .pv (.int .u8 0), .pv (.int .u8 0), .pv (.int .u8 0), .pv (.int .u8 0), .pv (.int .u8 0), .pv (.int .u8 0), .pv (.int .u8 0), .pv (.int .u8 0), .pv (.int .u8 0), .pv (.int .u8 0), .pv (.int .u8 0), .pv (.int .u8 0)]⟩ := by kernel_rfl
attribute [simp] ty_3 ty_4 ty_5 ty_9 ty_22 ty_23 ty_25 ty_29 ty_31 ty_33 ty_35 ty_36 ty_49 ty_53 ty_54 ty_57 ty_62 ty_71 ty_90 ty_91 ty_92 ty_98 ty_100 ty_115 ty_117 ty_119 ty_127 ty_132 ty_149 ty_150 ty_162
def ints (l : List Int) : List PV := l.map fun x => .int .i64 x
theorem ints_get (l : List Int) (i : Nat) : (ints l)[i]? = (l[i]?).map fun x => .int .i64 x := by simp [ints]
theorem ints_len (l : List Int) : (ints l).length = l.length := by simp [ints]
theorem ints_empty (l : List Int) : (ints l).isEmpty = l.isEmpty := by simp [ints]
theorem ints_nil : ints [] = [] := rfl
theorem ints_cons (x : Int) (l : List Int) : ints (x :: l) = .int .i64 x :: ints l := rfl
theorem ints_app (a b : List Int) : ints (a ++ b) = ints a ++ ints b := by simp [ints]
theorem ints_take (l : List Int) : (ints l).take l.length = ints l := by rw [← ints_len l, List.take_length]
theorem ints_inj : ∀ {a b : List Int}, ints a = ints b ↔ a = b
  | [], [] => by simp [ints]
  | [], _ :: _ => by simp [ints]
  | _ :: _, [] => by simp [ints]
  | x :: a, y :: b => by rw [ints_cons, ints_cons, List.cons.injEq, List.cons.injEq, ints_inj]; simp
theorem ints_appK {l new l' : List Int} {b : Nat} (h : appK l new b = some l') : ints l ++ ints new = ints l' := by obtain ⟨rfl, _⟩ := appK_inv h; rw [ints_app]
theorem ints_part_h {l l' : List Int} {hi : Int} (h : partK l 0 hi = some l') : 0 ≤ hi ∧ hi ≤ (l.length : Int) ∧ hi.toNat ≤ l.length ∧ (ints l).take hi.toNat = ints l' ∧ hi.toNat = l'.length ∧ (ints l).take l'.length = ints l' ∧ l'.length ≤ l.length := by
  obtain ⟨⟨_, h2, h3⟩, h4, h5⟩ := partK_inv h
  simp at h4 h5
  have e : (ints l).take hi.toNat = ints l' := by rw [h4]; simp [ints]
  exact ⟨h2, h3, by omega, e, h5, by rw [← h5]; exact e, by omega⟩
theorem ints_put {l l' : List Int} {j : Int} {x : Int} (h : setK l j x = some l') : (0 ≤ j ∧ j < (l.length : Int)) ∧ (j.toNat + 1 ≤ l.length) ∧ (j.toNat < l.length) ∧ (ints l).take j.toNat ++ (.int .i64 x :: (ints l).drop (j.toNat + 1)) = ints l' ∧ l'.length = l.length ∧ (ints l').take l.length = ints l' := by
  obtain ⟨⟨h1, h2⟩, rfl⟩ := setK_inv h
  have hj : j.toNat < l.length := by omega
  refine ⟨⟨h1, h2⟩, by omega, hj, ?_, by simp, by have := ints_take (l.set j.toNat x); rwa [List.length_set] at this⟩
  unfold ints
  rw [List.set_eq_take_append_cons_drop, if_pos hj]
  simp
attribute [simp] ints_get ints_len ints_empty ints_nil ints_cons ints_take ints_inj
/-! ### trusts -/
inductive Tru where
  | mk (thr : Int) (nodes : List Int) (inner : List Tru)
namespace Tru
def thr : Tru → Int | .mk t _ _ => t
def nodes : Tru → List Int | .mk _ n _ => n
def inner : Tru → List Tru | .mk _ _ i => i
theorem thr_mk (t : Int) (n : List Int) (i : List Tru) : (mk t n i).thr = t := rfl
theorem nodes_mk (t : Int) (n : List Int) (i : List Tru) : (mk t n i).nodes = n := rfl
theorem inner_mk (t : Int) (n : List Int) (i : List Tru) : (mk t n i).inner = i := rfl
theorem eta (x : Tru) : mk x.thr x.nodes x.inner = x := by cases x; rfl
theorem ext' {a b : Tru} (h1 : a.thr = b.thr) (h2 : a.nodes = b.nodes) (h3 : a.inner = b.inner) : a = b := by cases a; cases b; simp_all [thr, nodes, inner]
attribute [simp] thr_mk nodes_mk inner_mk
end Tru
mutual
def encT : Tru → List PV
  | .mk t n i => [.int .i64 t, .sl n.length (ints n), .sl i.length (encTs i)]
def encTs : List Tru → List PV
  | [] => []
  | x :: r => encT x ++ encTs r
end
mutual
theorem encT_inj : ∀ (a b : Tru), encT a = encT b → a = b
  | .mk t n i, .mk u m j, h => by
    simp only [encT, List.cons.injEq, PV.int.injEq, PV.sl.injEq, true_and, and_true, ints_inj] at h
    obtain ⟨rfl, ⟨_, rfl⟩, _, h⟩ := h
    rw [encTs_injA i j h]
theorem encTs_injA : ∀ (a b : List Tru), encTs a = encTs b → a = b
  | [], [], _ => rfl
  | [], .mk _ _ _ :: _, h => by simp [encTs, encT] at h
  | .mk _ _ _ :: _, [], h => by simp [encTs, encT] at h
  | x :: a, y :: b, h => by
    obtain ⟨t, n, i⟩ := x
    obtain ⟨u, m, j⟩ := y
    simp only [encTs, encT, List.cons_append, List.nil_append, List.cons.injEq] at h
    have h1 := encT_inj (.mk t n i) (.mk u m j) (by simp only [encT, List.cons.injEq]; exact ⟨h.1, h.2.1, h.2.2.1, trivial⟩)
    have h2 := encTs_injA a b h.2.2.2
    rw [h1, h2]
end
theorem encTs_cons (x : Tru) (l : List Tru) : encTs (x :: l) = [.int .i64 x.thr, .sl x.nodes.length (ints x.nodes), .sl x.inner.length (encTs x.inner)] ++ encTs l := by rw [encTs]; cases x; rfl
theorem encTs_nil : encTs [] = [] := rfl
theorem encTs_len : ∀ l : List Tru, (encTs l).length = l.length * 3
  | [] => by rw [encTs_nil]; rfl
  | x :: r => by rw [encTs_cons, List.length_append, encTs_len r]; simp only [List.length_cons, List.length_nil]; omega
theorem encTs_app (a b : List Tru) : encTs (a ++ b) = encTs a ++ encTs b := by
  induction a with
  | nil => rw [encTs_nil]; rfl
  | cons x r ih => rw [List.cons_append, encTs_cons, encTs_cons, ih, List.append_assoc]
theorem encTs_empty (l : List Tru) : (encTs l).isEmpty = l.isEmpty := by
  cases l with
  | nil => rw [encTs_nil]; rfl
  | cons x r => rw [encTs_cons]; rfl
theorem encTs_take (l : List Tru) : (encTs l).take (l.length * 3) = encTs l := by rw [← encTs_len l, List.take_length]
theorem encTs_drop : ∀ (l : List Tru) (i : Nat), (encTs l).drop (i * 3) = encTs (l.drop i)
  | l, 0 => by simp
  | [], i + 1 => by simp [encTs_nil]
  | x :: r, i + 1 => by
    have h := encTs_drop r i
    rw [show (i + 1) * 3 = 3 + i * 3 by omega, ← List.drop_drop, List.drop_succ_cons, ← h, encTs_cons]
    rfl
theorem encTs_takeN : ∀ (l : List Tru) (i : Nat), (encTs l).take (i * 3) = encTs (l.take i)
  | l, 0 => by simp [encTs_nil]
  | [], i + 1 => by simp [encTs_nil]
  | x :: r, i + 1 => by
    have h := encTs_takeN r i
    rw [show (i + 1) * 3 = i * 3 + 1 + 1 + 1 by omega, List.take_succ_cons, encTs_cons, encTs_cons, ← h]
    rfl
theorem encTs_sub {l : List Tru} {i : Nat} {x : Tru} (h : l[i]? = some x) : i * 3 + 3 ≤ (encTs l).length ∧ (encTs l).drop (i * 3) = [.int .i64 x.thr, .sl x.nodes.length (ints x.nodes), .sl x.inner.length (encTs x.inner)] ++ encTs (l.drop (i + 1)) := by
  obtain ⟨hi, hx⟩ := List.getElem?_eq_some_iff.1 h
  refine ⟨by rw [encTs_len]; omega, ?_⟩
  rw [encTs_drop, List.drop_eq_getElem_cons hi, hx, encTs_cons]
theorem encTs_ld {l : List Tru} {i : Nat} {x : Tru} (h : l[i]? = some x) : ldK (encTs l) (i * 3) 3 = some (.agg [(i64 x.thr), (.pv (.sl x.nodes.length (ints x.nodes))), (.pv (.sl x.inner.length (encTs x.inner)))]) := by
  obtain ⟨h1, h2⟩ := encTs_sub h
  unfold ldK sub?
  rw [if_pos h1, h2]
  rfl
theorem encTs_appK {l new l' : List Tru} {b : Nat} (h : appK l new b = some l') : encTs l ++ encTs new = encTs l' := by obtain ⟨rfl, _⟩ := appK_inv h; rw [encTs_app]
theorem encTs_inj {a b : List Tru} : encTs a = encTs b ↔ a = b := ⟨encTs_injA a b, fun h => by rw [h]⟩
attribute [simp] encTs_len encTs_empty encTs_nil encTs_cons encTs_take encTs_inj
structure S_api_Declaration where
  f0 : Int
  f1 : Int
  f2 : Tru
  f3 : Int
structure S_api_Evidence where
  f0 : S_api_Declaration
  f1 : S_api_Declaration
structure S_trustquorummake_Tape where
  f0 : (List Int)
  f1 : Int
structure S_notation_reader where
  f0 : (List UInt8)
  f1 : (List UInt8)
  f2 : Int
structure S_trustquorumref03_reader where
  f0 : (List UInt8)
  f1 : Int
def es_api_Declaration : List S_api_Declaration → List PV
  | [] => []
  | x :: r => [.int .i64 x.f0, .int .i64 x.f1, .int .i64 x.f2.thr, .sl x.f2.nodes.length (ints x.f2.nodes), .sl x.f2.inner.length (encTs x.f2.inner), .int .u64 x.f3] ++ es_api_Declaration r
theorem es_api_Declaration_cons (x : S_api_Declaration) (l : List S_api_Declaration) : es_api_Declaration (x :: l) = [.int .i64 x.f0, .int .i64 x.f1, .int .i64 x.f2.thr, .sl x.f2.nodes.length (ints x.f2.nodes), .sl x.f2.inner.length (encTs x.f2.inner), .int .u64 x.f3] ++ es_api_Declaration l := by rfl
theorem es_api_Declaration_nil : es_api_Declaration [] = [] := rfl
theorem es_api_Declaration_len : ∀ l : List S_api_Declaration, (es_api_Declaration l).length = l.length * 6
  | [] => by rw [es_api_Declaration_nil]; rfl
  | x :: r => by rw [es_api_Declaration_cons, List.length_append, es_api_Declaration_len r]; simp only [List.length_cons, List.length_nil]; omega
theorem es_api_Declaration_empty (l : List S_api_Declaration) : (es_api_Declaration l).isEmpty = l.isEmpty := by
  cases l with
  | nil => rw [es_api_Declaration_nil]; rfl
  | cons x r => rw [es_api_Declaration_cons]; rfl
theorem es_api_Declaration_take (l : List S_api_Declaration) : (es_api_Declaration l).take (l.length * 6) = es_api_Declaration l := by rw [← es_api_Declaration_len l, List.take_length]
theorem es_api_Declaration_drop : ∀ (l : List S_api_Declaration) (i : Nat), (es_api_Declaration l).drop (i * 6) = es_api_Declaration (l.drop i)
  | l, 0 => by simp
  | [], i + 1 => by simp [es_api_Declaration_nil]
  | x :: r, i + 1 => by
    have h := es_api_Declaration_drop r i
    rw [show (i + 1) * 6 = 6 + i * 6 by omega, ← List.drop_drop, List.drop_succ_cons, ← h, es_api_Declaration_cons]
    rfl
theorem es_api_Declaration_takeN : ∀ (l : List S_api_Declaration) (i : Nat), (es_api_Declaration l).take (i * 6) = es_api_Declaration (l.take i)
  | l, 0 => by simp [es_api_Declaration_nil]
  | [], i + 1 => by simp [es_api_Declaration_nil]
  | x :: r, i + 1 => by
    have h := es_api_Declaration_takeN r i
    rw [show (i + 1) * 6 = i * 6 + 1 + 1 + 1 + 1 + 1 + 1 by omega, List.take_succ_cons, es_api_Declaration_cons, es_api_Declaration_cons, ← h]
    rfl
theorem es_api_Declaration_inj : ∀ {a b : List S_api_Declaration}, es_api_Declaration a = es_api_Declaration b ↔ a = b
  | [], [] => by simp [es_api_Declaration_nil]
  | [], y :: b => by simp [es_api_Declaration_nil, es_api_Declaration_cons]
  | x :: a, [] => by simp [es_api_Declaration_nil, es_api_Declaration_cons]
  | x :: a, y :: b => by
    rw [es_api_Declaration_cons, es_api_Declaration_cons]
    constructor
    · intro h
      simp only [List.cons_append, List.nil_append, List.cons.injEq, PV.int.injEq, PV.bool.injEq, PV.str.injEq, PV.sl.injEq, true_and, and_true] at h
      rcases x with ⟨x0, x1, ⟨x20, x21, x22⟩, x3⟩
      rcases y with ⟨y0, y1, ⟨y20, y21, y22⟩, y3⟩
      have := es_api_Declaration_inj.1 h.2.2.2.2.2.2
      simp_all
    · rintro h
      simp_all
attribute [simp] es_api_Declaration_len es_api_Declaration_empty es_api_Declaration_nil es_api_Declaration_cons es_api_Declaration_take es_api_Declaration_inj
def es_api_Evidence : List S_api_Evidence → List PV
  | [] => []
  | x :: r => [.int .i64 x.f0.f0, .int .i64 x.f0.f1, .int .i64 x.f0.f2.thr, .sl x.f0.f2.nodes.length (ints x.f0.f2.nodes), .sl x.f0.f2.inner.length (encTs x.f0.f2.inner), .int .u64 x.f0.f3, .int .i64 x.f1.f0, .int .i64 x.f1.f1, .int .i64 x.f1.f2.thr, .sl x.f1.f2.nodes.length (ints x.f1.f2.nodes), .sl x.f1.f2.inner.length (encTs x.f1.f2.inner), .int .u64 x.f1.f3] ++ es_api_Evidence r
theorem es_api_Evidence_cons (x : S_api_Evidence) (l : List S_api_Evidence) : es_api_Evidence (x :: l) = [.int .i64 x.f0.f0, .int .i64 x.f0.f1, .int .i64 x.f0.f2.thr, .sl x.f0.f2.nodes.length (ints x.f0.f2.nodes), .sl x.f0.f2.inner.length (encTs x.f0.f2.inner), .int .u64 x.f0.f3, .int .i64 x.f1.f0, .int .i64 x.f1.f1, .int .i64 x.f1.f2.thr, .sl x.f1.f2.nodes.length (ints x.f1.f2.nodes), .sl x.f1.f2.inner.length (encTs x.f1.f2.inner), .int .u64 x.f1.f3] ++ es_api_Evidence l := by rfl
theorem es_api_Evidence_nil : es_api_Evidence [] = [] := rfl
theorem es_api_Evidence_len : ∀ l : List S_api_Evidence, (es_api_Evidence l).length = l.length * 12
  | [] => by rw [es_api_Evidence_nil]; rfl
  | x :: r => by rw [es_api_Evidence_cons, List.length_append, es_api_Evidence_len r]; simp only [List.length_cons, List.length_nil]; omega
theorem es_api_Evidence_empty (l : List S_api_Evidence) : (es_api_Evidence l).isEmpty = l.isEmpty := by
  cases l with
  | nil => rw [es_api_Evidence_nil]; rfl
  | cons x r => rw [es_api_Evidence_cons]; rfl
theorem es_api_Evidence_take (l : List S_api_Evidence) : (es_api_Evidence l).take (l.length * 12) = es_api_Evidence l := by rw [← es_api_Evidence_len l, List.take_length]
theorem es_api_Evidence_drop : ∀ (l : List S_api_Evidence) (i : Nat), (es_api_Evidence l).drop (i * 12) = es_api_Evidence (l.drop i)
  | l, 0 => by simp
  | [], i + 1 => by simp [es_api_Evidence_nil]
  | x :: r, i + 1 => by
    have h := es_api_Evidence_drop r i
    rw [show (i + 1) * 12 = 12 + i * 12 by omega, ← List.drop_drop, List.drop_succ_cons, ← h, es_api_Evidence_cons]
    rfl
theorem es_api_Evidence_takeN : ∀ (l : List S_api_Evidence) (i : Nat), (es_api_Evidence l).take (i * 12) = es_api_Evidence (l.take i)
  | l, 0 => by simp [es_api_Evidence_nil]
  | [], i + 1 => by simp [es_api_Evidence_nil]
  | x :: r, i + 1 => by
    have h := es_api_Evidence_takeN r i
    rw [show (i + 1) * 12 = i * 12 + 1 + 1 + 1 + 1 + 1 + 1 + 1 + 1 + 1 + 1 + 1 + 1 by omega, List.take_succ_cons, es_api_Evidence_cons, es_api_Evidence_cons, ← h]
    rfl
theorem es_api_Evidence_inj : ∀ {a b : List S_api_Evidence}, es_api_Evidence a = es_api_Evidence b ↔ a = b
  | [], [] => by simp [es_api_Evidence_nil]
  | [], y :: b => by simp [es_api_Evidence_nil, es_api_Evidence_cons]
  | x :: a, [] => by simp [es_api_Evidence_nil, es_api_Evidence_cons]
  | x :: a, y :: b => by
    rw [es_api_Evidence_cons, es_api_Evidence_cons]
    constructor
    · intro h
      simp only [List.cons_append, List.nil_append, List.cons.injEq, PV.int.injEq, PV.bool.injEq, PV.str.injEq, PV.sl.injEq, true_and, and_true] at h
      rcases x with ⟨⟨x00, x01, ⟨x020, x021, x022⟩, x03⟩, ⟨x10, x11, ⟨x120, x121, x122⟩, x13⟩⟩
      rcases y with ⟨⟨y00, y01, ⟨y020, y021, y022⟩, y03⟩, ⟨y10, y11, ⟨y120, y121, y122⟩, y13⟩⟩
      have := es_api_Evidence_inj.1 h.2.2.2.2.2.2.2.2.2.2.2.2
      simp_all
    · rintro h
      simp_all
attribute [simp] es_api_Evidence_len es_api_Evidence_empty es_api_Evidence_nil es_api_Evidence_cons es_api_Evidence_take es_api_Evidence_inj
def es_str (l : List (List UInt8)) : List PV := l.map fun x => .str x
theorem es_str_get (l : List (List UInt8)) (i : Nat) : (es_str l)[i]? = (l[i]?).map fun x => .str x := by simp [es_str]
theorem es_str_len (l : List (List UInt8)) : (es_str l).length = l.length := by simp [es_str]
theorem es_str_empty (l : List (List UInt8)) : (es_str l).isEmpty = l.isEmpty := by simp [es_str]
theorem es_str_nil : es_str [] = [] := rfl
theorem es_str_cons (x : (List UInt8)) (l : List (List UInt8)) : es_str (x :: l) = .str x :: es_str l := rfl
theorem es_str_app (a b : List (List UInt8)) : es_str (a ++ b) = es_str a ++ es_str b := by simp [es_str]
theorem es_str_take (l : List (List UInt8)) : (es_str l).take l.length = es_str l := by rw [← es_str_len l, List.take_length]
theorem es_str_inj : ∀ {a b : List (List UInt8)}, es_str a = es_str b ↔ a = b
  | [], [] => by simp [es_str]
  | [], _ :: _ => by simp [es_str]
  | _ :: _, [] => by simp [es_str]
  | x :: a, y :: b => by rw [es_str_cons, es_str_cons, List.cons.injEq, List.cons.injEq, es_str_inj]; simp
theorem es_str_appK {l new l' : List (List UInt8)} {b : Nat} (h : appK l new b = some l') : es_str l ++ es_str new = es_str l' := by obtain ⟨rfl, _⟩ := appK_inv h; rw [es_str_app]
attribute [simp] es_str_get es_str_len es_str_empty es_str_nil es_str_cons es_str_take es_str_inj
def es_u64 (l : List Int) : List PV := l.map fun x => .int .u64 x
theorem es_u64_get (l : List Int) (i : Nat) : (es_u64 l)[i]? = (l[i]?).map fun x => .int .u64 x := by simp [es_u64]
theorem es_u64_len (l : List Int) : (es_u64 l).length = l.length := by simp [es_u64]
theorem es_u64_empty (l : List Int) : (es_u64 l).isEmpty = l.isEmpty := by simp [es_u64]
theorem es_u64_nil : es_u64 [] = [] := rfl
theorem es_u64_cons (x : Int) (l : List Int) : es_u64 (x :: l) = .int .u64 x :: es_u64 l := rfl
theorem es_u64_app (a b : List Int) : es_u64 (a ++ b) = es_u64 a ++ es_u64 b := by simp [es_u64]
theorem es_u64_take (l : List Int) : (es_u64 l).take l.length = es_u64 l := by rw [← es_u64_len l, List.take_length]
theorem es_u64_inj : ∀ {a b : List Int}, es_u64 a = es_u64 b ↔ a = b
  | [], [] => by simp [es_u64]
  | [], _ :: _ => by simp [es_u64]
  | _ :: _, [] => by simp [es_u64]
  | x :: a, y :: b => by rw [es_u64_cons, es_u64_cons, List.cons.injEq, List.cons.injEq, es_u64_inj]; simp
theorem es_u64_appK {l new l' : List Int} {b : Nat} (h : appK l new b = some l') : es_u64 l ++ es_u64 new = es_u64 l' := by obtain ⟨rfl, _⟩ := appK_inv h; rw [es_u64_app]
attribute [simp] es_u64_get es_u64_len es_u64_empty es_u64_nil es_u64_cons es_u64_take es_u64_inj
def es_u8 (l : List Int) : List PV := l.map fun x => .int .u8 x
theorem es_u8_get (l : List Int) (i : Nat) : (es_u8 l)[i]? = (l[i]?).map fun x => .int .u8 x := by simp [es_u8]
theorem es_u8_len (l : List Int) : (es_u8 l).length = l.length := by simp [es_u8]
theorem es_u8_empty (l : List Int) : (es_u8 l).isEmpty = l.isEmpty := by simp [es_u8]
theorem es_u8_nil : es_u8 [] = [] := rfl
theorem es_u8_cons (x : Int) (l : List Int) : es_u8 (x :: l) = .int .u8 x :: es_u8 l := rfl
theorem es_u8_app (a b : List Int) : es_u8 (a ++ b) = es_u8 a ++ es_u8 b := by simp [es_u8]
theorem es_u8_take (l : List Int) : (es_u8 l).take l.length = es_u8 l := by rw [← es_u8_len l, List.take_length]
theorem es_u8_inj : ∀ {a b : List Int}, es_u8 a = es_u8 b ↔ a = b
  | [], [] => by simp [es_u8]
  | [], _ :: _ => by simp [es_u8]
  | _ :: _, [] => by simp [es_u8]
  | x :: a, y :: b => by rw [es_u8_cons, es_u8_cons, List.cons.injEq, List.cons.injEq, es_u8_inj]; simp
theorem es_u8_appK {l new l' : List Int} {b : Nat} (h : appK l new b = some l') : es_u8 l ++ es_u8 new = es_u8 l' := by obtain ⟨rfl, _⟩ := appK_inv h; rw [es_u8_app]
attribute [simp] es_u8_get es_u8_len es_u8_empty es_u8_nil es_u8_cons es_u8_take es_u8_inj
def u8s (l : List UInt8) : List Int := l.map fun b => (b.toNat : Int)
def toU8 (l : List Int) : List UInt8 := l.map fun n => UInt8.ofNat n.toNat
theorem u8s_len (l : List UInt8) : (u8s l).length = l.length := by simp [u8s]
def u8K (l : List UInt8) : Option (List Int) := some (u8s l)
theorem bytesOf_u8s (l : List UInt8) : bytesOf l = es_u8 (u8s l) := by simp [bytesOf, es_u8, u8s]
theorem unbytes_u8 : ∀ L : List Int, unbytes (es_u8 L) = some (toU8 L)
  | [] => rfl
  | x :: r => by
    rw [es_u8_cons]
    unfold unbytes
    rw [unbytes_u8 r]
    rfl
theorem u8K_inv {l : List UInt8} {L : List Int} (h : u8K l = some L) : l.length = L.length ∧ bytesOf l = es_u8 L := by cases h; exact ⟨(u8s_len l).symm, bytesOf_u8s l⟩
def toU8K (L : List Int) : Option (List UInt8) := some (toU8 L)
theorem toU8K_inv {L : List Int} {l : List UInt8} (h : toU8K L = some l) : unbytes (es_u8 L) = some l := by cases h; exact unbytes_u8 L
theorem es_strs (l : List (List UInt8)) : es_str l = strsP l := rfl
theorem strsP_len (l : List (List UInt8)) : (strsP l).length = l.length := by simp [strsP]
end Go.Am
