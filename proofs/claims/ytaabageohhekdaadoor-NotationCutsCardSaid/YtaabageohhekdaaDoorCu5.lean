/-
Part 5 of the road to the statement: OpnA, OpnU16.
-/
import Derived.Test.YtaabageohhekdaaDoorCu4
import Derived.ChangeSlices
import Derived.Handed
/-
Arguments of a call, opened: trusts and configurations that lie in memory, as pure values.
-/
namespace Go.Am
open Go Go.Proofs
set_option linter.unusedVariables false
set_option maxRecDepth 100000

section
variable {H : Type} {enc : TypeId × Value → H} {P : Program} {w : World} {spare : Nat → Bool} {held : Bool}

/-- cells in memory that stand for pure ones -/
def Reps (w : World) (ps : List PV) (cs : List Value) : Prop := ps.length = cs.length ∧ ∀ (j : Nat) p v, ps[j]? = some p → cs[j]? = some v → RepP w.heap (I0 w) p v

theorem RepRow_append {h : Heap} {I : Nat → Prop} {b : Nat} : ∀ {off : Nat} {p q : List PV}, RepRow h I b off p → RepRow h I b (off + p.length) q → RepRow h I b off (p ++ q)
  | off, [], q, _, h2 => by simpa using h2
  | off, x :: p, q, h1, h2 => ⟨h1.1, RepRow_append h1.2 (by rw [show off + 1 + p.length = off + (x :: p).length by simp; omega]; exact h2)⟩

theorem addr_zero (a : Addr) : a.add 0 = a := by simp [Addr.add]
theorem addr_none (b o j : Nat) : Addr.add ⟨b, o, none⟩ j = ⟨b, o + j, none⟩ := by
  unfold Addr.add
  split
  · rename_i h; subst h; rfl
  · rfl

/-- no list in it is longer than memory -/
def Lite (P : Program) (t : TypeId) (d : DataW H) : Prop := ∀ n ∈ d.weights P t, n ≤ reachBytes
theorem lite_all {e : TypeId} : ∀ {l : List (DataW H)}, (∀ n ∈ DataW.weightsAll P e l, n ≤ reachBytes) → ∀ d ∈ l, Lite P e d
  | [], _, d, hd => by cases hd
  | x :: r, h, d, hd => by
    unfold DataW.weightsAll at h
    cases hd with
    | head => exact fun n hn => h n (List.mem_append.2 (.inl hn))
    | tail _ hd => exact lite_all (fun n hn => h n (List.mem_append.2 (.inr hn))) d hd
theorem lite_each : ∀ {ts : List TypeId} {ds : List (DataW H)}, (∀ n ∈ DataW.weightsEach P ts ds, n ≤ reachBytes) → ∀ (i : Nat) t d, ts[i]? = some t → ds[i]? = some d → Lite P t d
  | [], ds, h, i, t, d, ht, hd => by simp at ht
  | _ :: _, [], h, i, t, d, ht, hd => by simp at hd
  | t' :: ts, d' :: ds, h, i, t, d, ht, hd => by
    unfold DataW.weightsEach at h
    cases i with
    | zero =>
      simp at ht hd; subst ht; subst hd
      exact fun n hn => h n (List.mem_append.2 (.inl hn))
    | succ i => exact lite_each (fun n hn => h n (List.mem_append.2 (.inr hn))) i t d (by simpa using ht) (by simpa using hd)
theorem lite_slice {t e : TypeId} (ht : P.underlying t = some (.slice e)) {a b : List (DataW H)} (h : Lite P t (.slice a b)) : a.length * P.bytesOf e ≤ reachBytes ∧ ∀ d ∈ a, Lite P e d := by
  unfold Lite at h
  unfold DataW.weights at h
  rw [ht] at h
  simp only [List.mem_cons, List.mem_append] at h
  refine ⟨Nat.le_trans (Nat.mul_le_mul_right _ (Nat.le_add_right _ _)) (h _ (.inl rfl)), lite_all fun n hn => h n (.inr (.inl hn))⟩
theorem lite_struct {t : TypeId} {fs : Array Field} (ht : P.underlying t = some (.struct fs)) {a : List (DataW H)} (h : Lite P t (.agg a)) : ∀ (i : Nat) u d, (fs.toList.map (·.type))[i]? = some u → a[i]? = some d → Lite P u d := by
  unfold Lite at h
  unfold DataW.weights at h
  rw [ht] at h
  exact lite_each h
theorem open_slice {X : Type} (E : List X → List PV) (cell : X → List PV) {z : Nat} (hz : 0 < z) (h0 : E [] = []) (h1 : ∀ x l, E (x :: l) = cell x ++ E l) (hc : ∀ x, (cell x).length = z) (Ok : X → Prop) {t e : TypeId} {fuel : Nat} {v : Value} {x : DataW H × List MemPlace}
    (ht : P.underlying t = some (.slice e)) (hsz : P.cellsOf e = z)
    (he : ∀ n cs y, n < fuel → DataW.trod enc P w 0 spare held n e cs = some y → Lite P e y.1 → ∃ q : X, Ok q ∧ Reps w (cell q) cs)
    (h : DataW.trod enc P w 0 spare held fuel t [v] = some x) (hL : Lite P t x.1) : ∃ l : List X, ((∀ q ∈ l, Ok q) ∧ l.length * P.bytesOf e ≤ reachBytes) ∧ RepP w.heap (I0 w) (.sl l.length (E l)) v := by
  rcases DataW.trod_slice ht h with ⟨hcs, _⟩ | ⟨a, len, cap, elems, rest, n, hf, hcs, hxe, hb, hl, hm, hlen, hel, _⟩
  · obtain rfl : v = .slice none 0 0 := by simpa using hcs
    exact ⟨[], ⟨by simp, by simp⟩, none, 0, rfl, Nat.le_refl _, .inl h0⟩
  · obtain rfl : v = .slice (some a) len cap := by simpa using hcs
    rw [hsz] at hel
    rw [hxe] at hL
    obtain ⟨hL1, hL2⟩ := lite_slice ht hL
    rw [List.length_map, hlen] at hL1
    have each : ∀ i, i < len → ∃ q : X, Ok q ∧ ∀ j p, (cell q)[j]? = some p → ∃ u, w.cell? ((a.add (i * z)).add j) = some u ∧ RepP w.heap (I0 w) p u := by
      intro i hi
      have h2 := hel i hi
      rw [List.getElem?_eq_getElem (by omega), Option.bind_eq_some_iff] at h2
      obtain ⟨cs, hc1, hc2⟩ := h2
      obtain ⟨_, hcl, hcc⟩ := World.cells?_some hc1
      obtain ⟨q, hq, hr⟩ := he n cs _ (by omega) hc2 (hL2 _ (List.mem_map_of_mem (List.getElem_mem _)))
      refine ⟨q, hq, fun j p hp => ?_⟩
      have hj : j < z := by rw [← hc q]; exact (List.getElem?_eq_some_iff.1 hp).1
      have hj2 : j < cs.length := by omega
      refine ⟨cs[j], ?_, hr.2 j p _ hp (by simp [hj2])⟩
      rw [hcc j hj]
      simp [hj2]
    by_cases hlen0 : len = 0
    · subst hlen0
      exact ⟨[], ⟨by simp, by simp⟩, some a, cap, rfl, hl, .inl h0⟩
    · obtain ⟨q0, _, hq0⟩ := each 0 (by omega)
      have hcell : 0 < (cell q0).length := by rw [hc]; exact hz
      obtain ⟨u0, hu0, _⟩ := hq0 0 (cell q0)[0] (by simp [hcell])
      rw [Nat.zero_mul, addr_zero, addr_zero] at hu0
      obtain ⟨hblk, hspot⟩ := cell_block hu0
      obtain ⟨b, o, s⟩ := a
      simp only at hspot hblk
      subst hspot
      have hd : ∀ d k, k + d = len → ∃ l : List X, l.length = d ∧ (∀ q ∈ l, Ok q) ∧ RepRow w.heap (I0 w) b (o + k * z) (E l) := by
        intro d
        induction d with
        | zero => intro k _; exact ⟨[], rfl, by simp, by rw [h0]; trivial⟩
        | succ d ih =>
          intro k hk
          obtain ⟨l, hll, hlo, hlr⟩ := ih (k + 1) (by omega)
          obtain ⟨q, hq, hqr⟩ := each k (by omega)
          refine ⟨q :: l, by simp [hll], fun y hy => ?_, ?_⟩
          · cases hy with
            | head => exact hq
            | tail _ hy => exact hlo y hy
          · rw [h1]
            refine RepRow_append (.of_get fun j p hp => ?_) ?_
            · obtain ⟨u, hu, hr⟩ := hqr j p hp
              rw [addr_none, addr_none, cell?_eq] at hu
              exact ⟨u, hu, hr⟩
            · rw [hc, show o + k * z + z = o + (k + 1) * z by rw [Nat.add_mul]; omega]
              exact hlr
      obtain ⟨l, hll, hlo, hlr⟩ := hd len 0 (by omega)
      rw [Nat.zero_mul, Nat.add_zero] at hlr
      refine ⟨l, ⟨hlo, by rw [hll]; exact hL1⟩, ?_⟩
      rw [hll]
      exact ⟨some ⟨b, o, none⟩, cap, rfl, hl, .inr ⟨b, o, rfl, hblk, hlr⟩⟩
end

section
variable {H : Type} {enc : TypeId × Value → H} {w : World} {spare : Nat → Bool} {held : Bool}
theorem wf_in64 {k : Int} (h : (Lit.int .i64 k).wf = true) : in64 k := by
  simp [Lit.wf, IntKind.min, IntKind.max, IntKind.signed, IntKind.bits] at h
  unfold in64
  omega
theorem reps_one {p : PV} {v : Value} (h : RepP w.heap (I0 w) p v) : Reps w [p] [v] := by
  refine ⟨rfl, fun j q u hq hu => ?_⟩
  cases j with
  | zero => simp at hq hu; subst hq; subst hu; exact h
  | succ j => simp at hq
theorem open_intl {fuel : Nat} {v : Value} {x : DataW H × List MemPlace} (h : DataW.trod enc Tryd.prog w 0 spare held fuel 22 [v] = some x) (hL : Lite Tryd.prog 22 x.1) : ∃ l : List Int, ((∀ k ∈ l, in64 k) ∧ l.length * Tryd.prog.bytesOf 3 ≤ reachBytes) ∧ RepP w.heap (I0 w) (.sl l.length (ints l)) v :=
  open_slice ints (fun k => [.int .i64 k]) (z := 1) (by omega) rfl (fun _ _ => rfl) (fun _ => rfl) in64 Tryd.underlying22 (by kernel_rfl)
    (fun n cs y _ hy _ => by
      obtain ⟨m, rfl, _, hw⟩ := DataW.trod_int Tryd.underlying3 hy
      exact ⟨m, wf_in64 hw, reps_one rfl⟩) h hL
theorem take_one {α : Type} {l : List α} {a b c : α} (h : l.length = 3) : ∃ a b c, l = [a, b, c] := by
  match l, h with
  | [a, b, c], _ => exact ⟨a, b, c, rfl⟩
/-- a struct as an argument -/
theorem repV_agg {ps : List PV} {u : Array Value} (h : Reps w ps u.toList) : RepV w.heap (I0 w) G0 M0 (.agg (ps.map .pv)) (.agg u) :=
  ⟨u, rfl, RepL.of_get (by simpa using h.1) fun j a v ha hv => by
    simp only [List.getElem?_map, Option.map_eq_some_iff] at ha
    obtain ⟨p, hp, rfl⟩ := ha
    exact h.2 j p v hp hv⟩
/-! ### arguments -/
theorem trod_in {P : Program} {t : TypeId} {v : Value} {d : DataW H} {ps : List MemPlace} (h : DataW.Trod enc P w 0 spare held t v d ps) : ∀ x ∈ ps, x.block < w.heap.size := by
  obtain ⟨m, hm⟩ := h
  exact DataW.trod_lt m _ _ _ hm
theorem arg_intl {r : Reach} {b0 : Nat} {v : Value} {d : DataW H} {ps : List MemPlace} (hv : Value.okWide Tryd.prog w r b0 22 v) (hd : DataW.Trod enc Tryd.prog w 0 spare held 22 v d ps) (hL : Lite Tryd.prog 22 d) :
    ∃ l : List Int, (∀ k ∈ l, in64 k) ∧ RepV w.heap (I0 w) G0 M0 (.pv (.sl l.length (ints l))) v := by
  obtain ⟨a, n, c, rfl⟩ := WideShapes.okWide_slice Tryd.underlying22 hv
  obtain ⟨fuel, hf⟩ := hd
  obtain ⟨l, ⟨h1, _⟩, h2⟩ := open_intl hf hL
  exact ⟨l, h1, h2⟩
theorem arg_int {r : Reach} {b0 : Nat} {v : Value} {d : DataW H} {ps : List MemPlace} (hv : Value.okWide Tryd.prog w r b0 3 v) (hd : DataW.Trod enc Tryd.prog w 0 spare held 3 v d ps) :
    ∃ k : Int, in64 k ∧ RepV w.heap (I0 w) G0 M0 (i64 k) v := by
  obtain ⟨k, rfl⟩ := WideShapes.okWide_int Tryd.underlying3 hv
  obtain ⟨fuel, hf⟩ := hd
  obtain ⟨n, h1, _, h2⟩ := DataW.trod_int Tryd.underlying3 hf
  simp [Value.cells] at h1
  subst h1
  exact ⟨_, wf_in64 h2, rfl⟩
theorem arg_u64 {r : Reach} {b0 : Nat} {v : Value} {d : DataW H} {ps : List MemPlace} (hv : Value.okWide Tryd.prog w r b0 94 v) (hd : DataW.Trod enc Tryd.prog w 0 spare held 94 v d ps) :
    ∃ k : Int, (0 ≤ k ∧ k ≤ 18446744073709551615) ∧ RepV w.heap (I0 w) G0 M0 (.pv (.int .u64 k)) v := by
  obtain ⟨k, rfl⟩ := WideShapes.okWide_int Tryd.underlying94 hv
  obtain ⟨fuel, hf⟩ := hd
  obtain ⟨n, h1, _, h2⟩ := DataW.trod_int Tryd.underlying94 hf
  simp [Value.cells] at h1
  subst h1
  simp [Lit.wf, IntKind.min, IntKind.max, IntKind.signed, IntKind.bits] at h2
  exact ⟨_, by omega, rfl⟩
end
end Go.Am

/-
Arguments of a call, opened: small numbers.
-/
namespace Go.Am
open Go Go.Proofs
set_option linter.unusedVariables false
set_option maxRecDepth 100000

section
variable {H : Type} {enc : TypeId × Value → H} {P : Program} {w : World} {spare : Nat → Bool} {held : Bool}
theorem arg_u16 {r : Reach} {b0 : Nat} {v : Value} {d : DataW H} {ps : List MemPlace} (hv : Value.okWide Tryd.prog w r b0 44 v) (hd : DataW.Trod enc Tryd.prog w 0 spare held 44 v d ps) :
    ∃ k : Int, (0 ≤ k ∧ k ≤ 65535) ∧ RepV w.heap (I0 w) G0 M0 (.pv (.int .u16 k)) v := by
  obtain ⟨k, rfl⟩ := WideShapes.okWide_int Tryd.underlying44 hv
  obtain ⟨fuel, hf⟩ := hd
  obtain ⟨n, h1, _, h2⟩ := DataW.trod_int Tryd.underlying44 hf
  simp [Value.cells] at h1
  subst h1
  simp [Lit.wf, IntKind.min, IntKind.max, IntKind.signed, IntKind.bits] at h2
  exact ⟨_, by omega, rfl⟩
end
end Go.Am
