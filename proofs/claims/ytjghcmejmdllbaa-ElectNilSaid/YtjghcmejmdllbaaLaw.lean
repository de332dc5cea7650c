/-
  The frame round a law: what a walk that returns true and writes nothing that was there gives of its row; the readings of arguments, opened. No condition.
-/
import Derived.Test.YtjghcmejmdllbaaRows
import Derived.Test.YtjghcmejmdllbaaBase
import Derived.ShutString
import Derived.ChangeOld
import Derived.Deep.Slices
import Derived.Deep.Fields
namespace Go.Proofs.Ytjghcmejmdllbaa
open Go.ChangeShapes Go.WideShapes Go.ChangeAt Go.RowKit Go.Deep
set_option linter.unusedVariables false
section
variable {H : Type} {enc : TypeId × Value → H} {P : Program}
theorem trodAll_lt {W : World} : ∀ (ts : List TypeId) (vs : List Value) (ds : List (DataW H)) (p : List MemPlace), DataW.TrodAll enc P W 0 (fun _ => true) true ts vs ds p → ∀ x ∈ p, x.block < W.heap.size
  | [], vs, ds, p, h => by
    cases vs with
    | nil => obtain ⟨_, _, rfl⟩ := trodAll_nil h; simp
    | cons v vs => simp [DataW.TrodAll] at h
  | t :: ts, vs, ds, p, h => by
    obtain ⟨v0, vs0, d0, ds0, p0, q0, _, rfl, rfl, h0, r0⟩ := trodAll_cons h
    intro x hx
    rcases List.mem_append.1 hx with hx | hx
    · obtain ⟨m, hm⟩ := h0; exact DataW.trod_lt m _ _ _ hm x hx
    · exact trodAll_lt ts _ _ _ r0 x hx
theorem trodAll_stays (hl : laidOutB P = true) {W W' : World} (hb : Below W.heap.size W W') : ∀ (ts : List TypeId) (vs : List Value) (ds : List (DataW H)) (p : List MemPlace),
    (ts.all fun t => P.readableRec t && decide (t < P.types.size)) = true → DataW.TrodAll enc P W 0 (fun _ => true) true ts vs ds p → DataW.TrodAll enc P W' 0 (fun b => decide (b < W.heap.size)) true ts vs ds p
  | [], vs, ds, p, _, h => by
    cases vs with
    | nil => obtain ⟨_, rfl, rfl⟩ := trodAll_nil h; exact trodAll_mk0
    | cons v vs => simp [DataW.TrodAll] at h
  | t :: ts, vs, ds, p, hr, h => by
    obtain ⟨v0, vs0, d0, ds0, p0, q0, hv, rfl, rfl, h0, r0⟩ := trodAll_cons h
    subst hv
    simp only [List.all_cons, Bool.and_eq_true, decide_eq_true_eq] at hr
    have hlt : ∀ x ∈ p0, x.block < W.heap.size := by obtain ⟨m, hm⟩ := h0; exact DataW.trod_lt m _ _ _ hm
    exact trodAll_cons_mk (Below.trod hl hr.1.1 hr.1.2 h0 hb hlt) (trodAll_stays hl hb ts _ _ _ (by simpa using hr.2) r0)
theorem trodAll_len {W : World} : ∀ (ts : List TypeId) (vs : List Value) (ds : List (DataW H)) (p : List MemPlace), DataW.TrodAll enc P W 0 (fun _ => true) true ts vs ds p → ds.length = ts.length
  | [], vs, ds, p, h => by
    cases vs with
    | nil => obtain ⟨_, rfl, _⟩ := trodAll_nil h; rfl
    | cons v vs => simp [DataW.TrodAll] at h
  | t :: ts, vs, ds, p, h => by
    obtain ⟨v0, vs0, d0, ds0, p0, q0, hv, rfl, rfl, h0, r0⟩ := trodAll_cons h
    simp [trodAll_len ts _ _ _ r0]
end
/-- THE ROW's STEP of a law: its walk returns true, and nothing that was there has turned. -/
theorem law_lifted {H : Type} {enc : TypeId × Value → H} {C : Checked} {os : Os} {f : FuncId} {fn : Func} {s : ChangeSpec} {tb : TypeId} (own : ownKnob C.prog.godebug = none) (started : os.Started) (noInit : C.prog.inits.idxOf? f = none) (hfn : C.prog.funcs[f]? = some fn)
    (hl : laidOutB C.prog = true) (hres : fn.resultTypes = #[tb]) (hb : C.prog.underlying tb = some .bool) (hvars : s.vars = []) (hread : (fn.params.toList.all fun t => C.prog.readableRec t && decide (t < C.prog.types.size)) = true)
    (hs : ∀ ds : List (DataW H), ds.length = fn.params.toList.length → (s.fn H ds).results = [.lit (.bool true)] ∧ (s.fn H ds).args = ds ∧ (s.fn H ds).vars = [])
    (witness : ∃ (w : World) (tape : Tape) (i : Input), w.os = os ∧ (w.forCall tape i).Shaped C.prog ∧ i.vars = [] ∧ Input.okWide C.prog (w.forCall tape i) .any w.heap.size f i ∧
      s.pre6 enc C.prog fn [] false (w.forCall tape i).memory i.args ∧ ({} : Assume).holds C.prog (lone (Frame.enter C.prog f i.args .normal) [] (w.forCall tape i)))
    (walk : ∀ (W : World) (base : Nat) (args : Array Value) (ds : List (DataW H)) (p : List MemPlace), (∀ (j : Nat) t v, fn.params[j]? = some t → args[j]? = some v → Value.okWide C.prog W .any base t v) →
      DataW.TrodAll enc C.prog W 0 (fun _ => true) true fn.params.toList args.toList ds p → Calls C.prog f args W (Ret fun v w' => v = .bool true ∧ Below W.heap.size W w')) :
    ReturnsInHanded {} C os f .any (s.pre6 enc C.prog fn [] false) (s.post enc C.prog fn false true false false) := by
  refine returnsInHanded_of_change (C := C) own started noInit hfn witness ?_
  intro W base args ds gs before hval hW _ _
  have hW' := hW
  obtain ⟨p, q, hA0, hV, rfl, hfz, hnd⟩ := hW
  have hA : DataW.TrodAll enc C.prog W 0 (fun _ => true) true fn.params.toList args.toList ds p := hA0
  have hg : gs = [] ∧ q = [] := by
    rw [hvars] at hV; obtain ⟨rfl, rfl⟩ := trodVars_none hV; exact ⟨rfl, rfl⟩
  obtain ⟨rfl, rfl⟩ := hg
  obtain ⟨e1, e2, e3⟩ := hs ds (trodAll_len _ _ _ _ hA)
  refine (walk W base args ds p hval hA).mono fun e W' hr => ?_
  obtain ⟨v, rfl, rfl, bel⟩ := hr
  refine ⟨_, rfl, _, _, _, [], p, [], hW', ?_, ?_, ?_, bel.frame _, fun h => by cases h⟩
  · simp only [List.append_nil]
    rw [e1, hres]
    exact trodAll_mk1 (shut_bool hb _)
  · simp only [List.append_nil]
    rw [e2]
    exact trodAll_stays hl bel _ _ _ _ hread hA
  · simp only [List.append_nil]
    rw [e3, hvars]
    rfl

/-! ### Arguments, opened -/
section
variable {H : Type} {enc : TypeId × Value → H} {P : Program}
theorem add_none (b off n : Nat) : (⟨b, off, none⟩ : Addr).add n = ⟨b, off + n, none⟩ := by unfold Addr.add; split <;> simp_all
/-- A slice that came in: how many elements, and each one's cells and reading. -/
theorem open_sl {t e : TypeId} {size : Nat} {W : World} {base : Nat} {v : Value} {d : DataW H} {p : List MemPlace} (ht : P.underlying t = some (.slice e)) (hC : P.cellsOf e = size) (hpos : 0 < size)
    (hv : Value.okWide P W .any base t v) (h : DataW.Trod enc P W 0 (fun _ => true) true t v d p) :
    ∃ (n : Nat) (E : Nat → Array Value), Sl W size n v E ∧ ∀ i, i < n → (E i).size = size ∧ ∃ (fuel : Nat) (y : DataW H × List MemPlace), DataW.trod enc P W 0 (fun _ => true) true fuel e (E i).toList = some y := by
  obtain ⟨a0, len0, cap0, rfl⟩ := okWide_slice ht hv
  obtain ⟨fuel, hf⟩ := h
  rcases open_slice ht hf with ⟨hcs, _⟩ | ⟨a, len, cap, m, n, D, Pl, hcs, _, hl, hm, hmm, _, hi⟩
  · simp [Value.cells] at hcs
    obtain ⟨rfl, rfl, rfl⟩ := hcs
    exact ⟨0, fun _ => #[], ⟨_, _, rfl, by simp [maxLen], fun h => absurd h (Nat.lt_irrefl _)⟩, fun i h => absurd h (Nat.not_lt_zero _)⟩
  · simp [Value.cells] at hcs
    obtain ⟨rfl, rfl, rfl⟩ := hcs
    have hlm : len0 ≤ m := by rw [hmm]; simp; omega
    have hex : ∀ i, ∃ cs' : List Value, i < len0 → W.cells? 0 (a.add (i * size)) size = some cs' ∧ DataW.trod enc P W 0 (fun _ => true) true n e cs' = some (D i, Pl i) := fun i => by
      by_cases hlt : i < len0
      · obtain ⟨cs', h1, h2⟩ := hi i (by omega)
        rw [hC] at h1
        exact ⟨cs', fun _ => ⟨h1, h2⟩⟩
      · exact ⟨[], fun hn => absurd hn hlt⟩
    obtain ⟨F, hF⟩ := Classical.axiomOfChoice hex
    refine ⟨len0, fun i => (F i).toArray, ⟨_, _, rfl, by omega, fun h0 => ?_⟩, fun i hlt => ?_⟩
    · obtain ⟨b, off, spot⟩ := a
      obtain ⟨h1, _⟩ := hF 0 h0
      obtain ⟨_, hcl, hat⟩ := World.cells?_some h1
      have h2 := hat 0 hpos
      rw [List.getElem?_eq_getElem (by omega)] at h2
      have hspot : spot = none := by
        have := World.cell?_spot h2
        simpa [Addr.add] using this
      subst hspot
      have hb : b < W.heap.size := by
        have := World.block_lt_of_cell? W _ h2
        simpa [add_none] using this
      refine ⟨b, off, rfl, hb, fun i hlt j hj => ?_⟩
      obtain ⟨h3, _⟩ := hF i hlt
      obtain ⟨_, _, hat'⟩ := World.cells?_some h3
      have := hat' j hj
      rw [add_none, add_none] at this
      rw [this]; simp
    · obtain ⟨h3, h4⟩ := hF i hlt
      obtain ⟨_, hcl, _⟩ := World.cells?_some h3
      exact ⟨by simpa using hcl, n, _, h4⟩
end
end Go.Proofs.Ytjghcmejmdllbaa
