/- The frame round a law: what a walk that returns true and writes nothing that was there gives of its row; the readings of arguments, opened. No condition. Bytes that came in, and bytes of the call's own, as one reads them; the bounds on lengths stand in each. Short forms' bounds; a slice's reading from some place on; no condition. My logic of owned memory, third part: slices whose elements have several cells; no condition. A slice that is only read: its address, an element's cells; loads of what is known now. No condition. A map of the call's own as a resource: its pairs in the order in which they came; look-up, store, len; no condition. My logic of owned memory: a slice of the call's own, read and written in place; maps in regions that draw their order; no condition. Processes: may one be; some in memory; when two are one; reading while one writes elsewhere. No condition. The contract of bytes.Clone, of any bytes, none too; the bound stands in it. Regions that draw their order and end in a store: a condition on the world that must hold up to operation k alone; no condition. -/
import Derived.Test.YtmokecicjmjkbaaRows
import Derived.ShutString
import Derived.ChangeOld
import Derived.Deep.Slices
import Derived.Deep.Fields
import Derived.Maps.Keyed
import Derived.MapKept
import Derived.DeepKeys4
import Derived.Carry
import Derived.Laws.StructEq
import Derived.Test.YtmokecicjmjkbaaGy1
import Derived.Test.YtmokecicjmjkbaaGy2
namespace Go.Proofs.Ytmokecicjmjkbaa
open Go.ChangeShapes Go.WideShapes Go.ChangeAt Go.RowKit Go.Deep
set_option linter.unusedVariables false
section
variable {H : Type} {enc : TypeId × Value → H} {P : Program}
theorem trodAll_stays (hl : laidOutB P = true) {W W' : World} (hb : Below W.heap.size W W') : ∀ (ts : List TypeId) (vs : List Value) (ds : List (DataW H)) (p : List MemPlace),
    (ts.all fun t => P.readableRec t && decide (t < P.types.size)) = true → DataW.TrodAll enc P W 0 (fun _ => true) true ts vs ds p → DataW.TrodAll enc P W' 0 (fun b => decide (b < W.heap.size)) true ts vs ds p
  | [], vs, ds, p, _, h => by
    cases vs with
    | nil => obtain ⟨_, rfl, rfl⟩ := trodAll_nil h; exact trodAll_mk0
    | cons v vs => simp [DataW.TrodAll] at h
  | t :: ts, vs, ds, p, hr, h => by
    obtain ⟨v0, vs0, d0, ds0, p0, q0, hv, rfl, rfl, h0, r0⟩ := trodAll_cons h
    subst hv
    simp only [List.all_cons, Bool.and_eq_true, decide_eq_true_eq] at hr
    have hlt : ∀ x ∈ p0, x.block < W.heap.size := by obtain ⟨m, hm⟩ := h0; exact DataW.trod_lt m _ _ _ hm
    exact trodAll_cons_mk (Below.trod hl hr.1.1 hr.1.2 h0 hb hlt) (trodAll_stays hl hb ts _ _ _ (by simpa using hr.2) r0)
theorem trodAll_len {W : World} : ∀ (ts : List TypeId) (vs : List Value) (ds : List (DataW H)) (p : List MemPlace), DataW.TrodAll enc P W 0 (fun _ => true) true ts vs ds p → ds.length = ts.length
  | [], vs, ds, p, h => by
    cases vs with
    | nil => obtain ⟨_, rfl, _⟩ := trodAll_nil h; rfl
    | cons v vs => simp [DataW.TrodAll] at h
  | t :: ts, vs, ds, p, h => by
    obtain ⟨v0, vs0, d0, ds0, p0, q0, hv, rfl, rfl, h0, r0⟩ := trodAll_cons h
    simp [trodAll_len ts _ _ _ r0]
end
/-- THE ROW's STEP of a law: its walk returns true, and nothing that was there has turned. -/
theorem law_lifted {H : Type} {enc : TypeId × Value → H} {C : Checked} {os : Os} {f : FuncId} {fn : Func} {s : ChangeSpec} {tb : TypeId} (own : ownKnob C.prog.godebug = none) (started : os.Started) (noInit : C.prog.inits.idxOf? f = none) (hfn : C.prog.funcs[f]? = some fn)
    (hl : laidOutB C.prog = true) (hres : fn.resultTypes = #[tb]) (hb : C.prog.underlying tb = some .bool) (hvars : s.vars = []) (hread : (fn.params.toList.all fun t => C.prog.readableRec t && decide (t < C.prog.types.size)) = true)
    (hs : ∀ ds : List (DataW H), ds.length = fn.params.toList.length → (s.fn H ds).results = [.lit (.bool true)] ∧ (s.fn H ds).args = ds ∧ (s.fn H ds).vars = [])
    (witness : ∃ (w : World) (tape : Tape) (i : Input), w.os = os ∧ (w.forCall tape i).Shaped C.prog ∧ i.vars = [] ∧ Input.okWide C.prog (w.forCall tape i) .any w.heap.size f i ∧
      s.pre6 enc C.prog fn [] false (w.forCall tape i).memory i.args ∧ ({} : Assume).holds C.prog (lone (Frame.enter C.prog f i.args .normal) [] (w.forCall tape i)))
    (walk : ∀ (W : World) (base : Nat) (args : Array Value) (ds : List (DataW H)) (p : List MemPlace), (∀ (j : Nat) t v, fn.params[j]? = some t → args[j]? = some v → Value.okWide C.prog W .any base t v) →
      DataW.TrodAll enc C.prog W 0 (fun _ => true) true fn.params.toList args.toList ds p → Calls C.prog f args W (Ret fun v w' => v = .bool true ∧ Below W.heap.size W w')) :
    ReturnsInHanded {} C os f .any (s.pre6 enc C.prog fn [] false) (s.post enc C.prog fn false true false false) := by
  refine returnsInHanded_of_change (C := C) own started noInit hfn witness ?_
  intro W base args ds gs before hval hW _ _
  have hW' := hW
  obtain ⟨p, q, hA0, hV, rfl, hfz, hnd⟩ := hW
  have hA : DataW.TrodAll enc C.prog W 0 (fun _ => true) true fn.params.toList args.toList ds p := hA0
  have hg : gs = [] ∧ q = [] := by
    rw [hvars] at hV; obtain ⟨rfl, rfl⟩ := trodVars_none hV; exact ⟨rfl, rfl⟩
  obtain ⟨rfl, rfl⟩ := hg
  obtain ⟨e1, e2, e3⟩ := hs ds (trodAll_len _ _ _ _ hA)
  refine (walk W base args ds p hval hA).mono fun e W' hr => ?_
  obtain ⟨v, rfl, rfl, bel⟩ := hr
  refine ⟨_, rfl, _, _, _, [], p, [], hW', ?_, ?_, ?_, bel.frame _, fun h => by cases h⟩
  · simp only [List.append_nil]
    rw [e1, hres]
    exact trodAll_mk1 (shut_bool hb _)
  · simp only [List.append_nil]
    rw [e2]
    exact trodAll_stays hl bel _ _ _ _ hread hA
  · simp only [List.append_nil]
    rw [e3, hvars]
    rfl

section
variable {H : Type} {enc : TypeId × Value → H} {P : Program}
theorem add_none (b off n : Nat) : (⟨b, off, none⟩ : Addr).add n = ⟨b, off + n, none⟩ := by unfold Addr.add; split <;> simp_all
/-- A slice that came in: how many elements, and each one's cells and reading. -/
theorem open_sl {t e : TypeId} {size : Nat} {W : World} {base : Nat} {v : Value} {d : DataW H} {p : List MemPlace} (ht : P.underlying t = some (.slice e)) (hC : P.cellsOf e = size) (hpos : 0 < size)
    (hv : Value.okWide P W .any base t v) (h : DataW.Trod enc P W 0 (fun _ => true) true t v d p) :
    ∃ (n : Nat) (E : Nat → Array Value), Sl W size n v E ∧ ∀ i, i < n → (E i).size = size ∧ ∃ (fuel : Nat) (y : DataW H × List MemPlace), DataW.trod enc P W 0 (fun _ => true) true fuel e (E i).toList = some y := by
  obtain ⟨a0, len0, cap0, rfl⟩ := okWide_slice ht hv
  obtain ⟨fuel, hf⟩ := h
  rcases open_slice ht hf with ⟨hcs, _⟩ | ⟨a, len, cap, m, n, D, Pl, hcs, _, hl, hm, hmm, _, hi⟩
  · simp [Value.cells] at hcs
    obtain ⟨rfl, rfl, rfl⟩ := hcs
    exact ⟨0, fun _ => #[], ⟨_, _, rfl, by simp [maxLen], fun h => absurd h (Nat.lt_irrefl _)⟩, fun i h => absurd h (Nat.not_lt_zero _)⟩
  · simp [Value.cells] at hcs
    obtain ⟨rfl, rfl, rfl⟩ := hcs
    have hlm : len0 ≤ m := by rw [hmm]; simp; omega
    have hex : ∀ i, ∃ cs' : List Value, i < len0 → W.cells? 0 (a.add (i * size)) size = some cs' ∧ DataW.trod enc P W 0 (fun _ => true) true n e cs' = some (D i, Pl i) := fun i => by
      by_cases hlt : i < len0
      · obtain ⟨cs', h1, h2⟩ := hi i (by omega)
        rw [hC] at h1
        exact ⟨cs', fun _ => ⟨h1, h2⟩⟩
      · exact ⟨[], fun hn => absurd hn hlt⟩
    obtain ⟨F, hF⟩ := Classical.axiomOfChoice hex
    refine ⟨len0, fun i => (F i).toArray, ⟨_, _, rfl, by omega, fun h0 => ?_⟩, fun i hlt => ?_⟩
    · obtain ⟨b, off, spot⟩ := a
      obtain ⟨h1, _⟩ := hF 0 h0
      obtain ⟨_, hcl, hat⟩ := World.cells?_some h1
      have h2 := hat 0 hpos
      rw [List.getElem?_eq_getElem (by omega)] at h2
      have hspot : spot = none := by
        have := World.cell?_spot h2
        simpa [Addr.add] using this
      subst hspot
      have hb : b < W.heap.size := by
        have := World.block_lt_of_cell? W _ h2
        simpa [add_none] using this
      refine ⟨b, off, rfl, hb, fun i hlt j hj => ?_⟩
      obtain ⟨h3, _⟩ := hF i hlt
      obtain ⟨_, _, hat'⟩ := World.cells?_some h3
      have := hat' j hj
      rw [add_none, add_none] at this
      rw [this]; simp
    · obtain ⟨h3, h4⟩ := hF i hlt
      obtain ⟨_, hcl, _⟩ := World.cells?_some h3
      exact ⟨by simpa using hcl, n, _, h4⟩
end
end Go.Proofs.Ytmokecicjmjkbaa
namespace Go.Proofs.Ytmokecicjmjkbaa
open Go.ChangeShapes Go.WideShapes Go.ChangeAt Go.RowKit Go.Deep
set_option linter.unusedVariables false
set_option linter.unusedSimpArgs false
theorem own_sl {w : World} {b : Nat} {v : Value} {l : List Nat} (h : w.ownsRow b 5 1 v l.length (bv l)) (hm : l.length ≤ 1000000) : Sl w 1 l.length v (elB l) :=
  Sl.of_own h (fun i hi => by simp [bv, elB, List.getD, hi]) (by unfold maxLen; omega)
theorem own_slk {w : World} {b m : Nat} {v : Value} {l : List Nat} (h : w.ownsRow b 5 1 v m (bv l)) (hm : m = l.length) (hl : l.length ≤ 1000000) : Sl w 1 l.length v (elB l) := by
  subst hm; exact own_sl h hl
theorem own_src {w : World} {b m c : Nat} {A : Option Addr} {xs : List Value} (h : w.ownsRow b 5 1 (.slice A m c) m xs) : 0 < m → ∃ ad, A = some ad ∧ ∀ j u, xs[j]? = some u → w.cell? (ad.add j) = some u := fun h0 => by
  have h' := h
  rcases h'.2 with ⟨_, e1⟩ | ⟨g, cap, cur, e1, _⟩
  · omega
  · cases e1
    exact ⟨_, rfl, h.cells (g := g) rfl⟩
theorem take_sl {w : World} {a : Option Addr} {c : Nat} {l : List Nat} (W : Nat) (h : Sl w 1 l.length (.slice a l.length c) (elB l)) (hW : W ≤ l.length) : Sl w 1 (l.take W).length (.slice a (l.take W).length c) (elB (l.take W)) := by
  have hm : (l.take W).length = W := by rw [List.length_take]; exact Nat.min_eq_left hW
  obtain ⟨a', c', e, hml, hc⟩ := h
  injection e with e1 e2 e3
  subst e1
  refine ⟨a, c, rfl, by rw [hm]; exact Nat.le_trans hW hml, fun h0 => ?_⟩
  rw [hm] at h0
  obtain ⟨b, off, rfl, hb, hcell⟩ := hc (by omega)
  refine ⟨b, off, rfl, hb, fun i hi j hj => ?_⟩
  rw [hm] at hi
  rw [hcell i (by omega) j hj]
  simp [elB, List.getD, List.getElem?_take, hi]
end Go.Proofs.Ytmokecicjmjkbaa
namespace Go.Proofs.Ytmokecicjmjkbaa
open Go.ChangeShapes Go.WideShapes Go.ChangeAt Go.RowKit
set_option linter.unusedVariables false
set_option linter.unusedSimpArgs false
theorem sl_dropG {w : World} {b off c : Nat} {l : List Nat} (k c' : Nat) (h : Sl w 1 l.length (.slice (some ⟨b, off, none⟩) l.length c) (elB l)) (hk : k ≤ l.length) : Sl w 1 (l.drop k).length (.slice (some ⟨b, off + k, none⟩) (l.length - k) c') (elB (l.drop k)) := by
  have hm : (l.drop k).length = l.length - k := List.length_drop
  obtain ⟨a', c0, e, hml, hc⟩ := h
  injection e with e1 e2 e3
  subst e1
  rw [hm]
  refine ⟨_, c', rfl, Nat.le_trans (Nat.sub_le _ _) hml, fun h0 => ?_⟩
  obtain ⟨b', off', e, hb, hcell⟩ := hc (by omega)
  cases e
  refine ⟨b, off + k, rfl, hb, fun i hi j hj => ?_⟩
  have := hcell (k + i) (by omega) j hj
  rw [Nat.mul_one] at this ⊢
  rw [show off + k + i + j = off + (k + i) + j by omega, this]
  simp [elB, List.getD, List.getElem?_drop]
theorem gs_le (l : List Nat) : ∀ (f i n a b c : Nat), gs l f i n = (a, b, c) → (c ≠ 0 → a = 0 ∧ b = 0) ∧ (c = 0 → i < b ∧ b ≤ l.length)
  | 0, i, n, a, b, c, h => by
    simp only [gs, Prod.mk.injEq] at h
    obtain ⟨rfl, rfl, rfl⟩ := h
    exact ⟨fun _ => ⟨rfl, rfl⟩, fun h => absurd h (by omega)⟩
  | f + 1, i, n, a, b, c, h => by
    by_cases h1 : l.length ≤ i
    · rw [gs, if_pos h1] at h
      simp only [Prod.mk.injEq] at h
      obtain ⟨rfl, rfl, rfl⟩ := h
      exact ⟨fun _ => ⟨rfl, rfl⟩, fun h => absurd h (by omega)⟩
    · rw [gs, if_neg h1] at h
      by_cases h2 : i = 9 ∧ 1 < l.getD i 0
      · rw [if_pos h2] at h
        simp only [Prod.mk.injEq] at h
        obtain ⟨rfl, rfl, rfl⟩ := h
        exact ⟨fun _ => ⟨rfl, rfl⟩, fun h => absurd h (by omega)⟩
      · rw [if_neg h2] at h
        by_cases h3 : l.getD i 0 < 128
        · rw [if_pos h3] at h
          by_cases h4 : l.getD i 0 = 0 ∧ 0 < i
          · rw [if_pos h4] at h
            simp only [Prod.mk.injEq] at h
            obtain ⟨rfl, rfl, rfl⟩ := h
            exact ⟨fun _ => ⟨rfl, rfl⟩, fun h => absurd h (by omega)⟩
          · rw [if_neg h4] at h
            simp only [Prod.mk.injEq] at h
            obtain ⟨_, rfl, rfl⟩ := h
            exact ⟨fun h => absurd rfl h, fun _ => ⟨by omega, by omega⟩⟩
        · rw [if_neg h3] at h
          have := gs_le l f (i + 1) _ a b c h
          exact ⟨this.1, fun h => ⟨by have := (this.2 h).1; omega, (this.2 h).2⟩⟩
theorem gs_lt (l : List Nat) (hx : ∀ x ∈ l, x < 256) : ∀ (f i n a b c : Nat), i + f = 10 → n < 2 ^ (7 * i) → gs l f i n = (a, b, c) → a < 18446744073709551616
  | 0, i, n, a, b, c, _, _, h => by
    simp only [gs, Prod.mk.injEq] at h
    omega
  | f + 1, i, n, a, b, c, hi, hn, h => by
    by_cases h1 : l.length ≤ i
    · rw [gs, if_pos h1] at h
      simp only [Prod.mk.injEq] at h
      omega
    · rw [gs, if_neg h1] at h
      by_cases h2 : i = 9 ∧ 1 < l.getD i 0
      · rw [if_pos h2] at h
        simp only [Prod.mk.injEq] at h
        omega
      · rw [if_neg h2] at h
        have hy := Nat.mod_lt (l.getD i 0) (show 0 < 128 by omega)
        have hm : i = 9 → l.getD i 0 % 128 ≤ 1 := fun e => by
          have : ¬ 1 < l.getD i 0 := fun h => h2 ⟨e, h⟩
          exact Nat.le_trans (Nat.mod_le _ _) (by omega)
        have hs := sh_small n (l.getD i 0 % 128) i (by omega) hn hy hm
        by_cases h3 : l.getD i 0 < 128
        · rw [if_pos h3] at h
          by_cases h4 : l.getD i 0 = 0 ∧ 0 < i
          · rw [if_pos h4] at h
            simp only [Prod.mk.injEq] at h
            omega
          · rw [if_neg h4] at h
            simp only [Prod.mk.injEq] at h
            obtain ⟨rfl, _, _⟩ := h
            exact hs.2
        · rw [if_neg h3] at h
          exact gs_lt l hx f (i + 1) _ a b c (by omega) hs.1 h
theorem sl_from {w : World} {a A : Option Addr} {n c : Nat} {l : List Nat} (k : Nat) (h : Sl w 1 l.length (.slice a n c) (elB l)) (hl : l.length = n) (hk : k ≤ n) (hc : n ≤ c) (hA : A = (if c = k then a else a.map (·.add k))) : Sl w 1 (l.drop k).length (.slice A (n - k) (c - k)) (elB (l.drop k)) := by
  subst hl
  have hm : (l.drop k).length = l.length - k := List.length_drop
  rcases Nat.lt_or_ge k l.length with hlt | hge
  · obtain ⟨b, off, rfl, hb, _⟩ := h.byte hlt
    rw [if_neg (by omega)] at hA
    subst hA
    have := sl_dropG k (c - k) h hk
    have e : (Option.map (·.add k) (some (⟨b, off, none⟩ : Addr))) = some ⟨b, off + k, none⟩ := by
      simp [Addr.add]
    rw [e]
    exact this
  · rw [hm, show l.length - k = 0 by omega]
    exact ⟨_, _, rfl, by simp [maxLen], fun h => absurd h (Nat.lt_irrefl _)⟩
theorem lens {l : List Nat} (hx : ∀ x ∈ l, x < 256) (k : Nat) : ∀ x ∈ l.drop k, x < 256 := fun x h => hx x (List.mem_of_mem_drop h)
end Go.Proofs.Ytmokecicjmjkbaa
namespace Go.Proofs.Ytmokecicjmjkbaa
open Go.ChangeShapes Go.WideShapes Go.ChangeAt Go.RowKit
set_option linter.unusedVariables false
set_option linter.unusedSimpArgs false
theorem Sl.of_ownN {w : World} {b : Nat} {e : TypeId} {size : Nat} {v : Value} {n : Nat} {xs : List Value} {E : Nat → Array Value} (h : w.ownsRow b e size v n xs) (hE : ∀ i, i < n → ∀ j, j < size → xs[i * size + j]? = (E i)[j]?) (hm : n ≤ maxLen) : Sl w size n v E := by
  rcases h.2 with ⟨rfl, rfl⟩ | ⟨g, cap, cur, rfl, hbg, hgc, hnc, hcm, hcs, htake⟩
  · exact ⟨_, _, rfl, by simp [maxLen], fun h => absurd h (Nat.lt_irrefl _)⟩
  · refine Sl.of_row (rowAt_of hgc) hm (fun i hi j hj => ?_)
    rw [← hE i hi j hj, ← htake, List.getElem?_take]
    have : i * size + j < n * size := by
      have h1 : (i + 1) * size ≤ n * size := Nat.mul_le_mul_right _ hi
      rw [Nat.add_mul] at h1
      omega
    simp [this]
theorem St.swap {B : Nat} {w0 w : World} {L : List Res} {r s : Res} (H : St B w0 w (r :: s :: L)) : St B w0 w (s :: r :: L) := H.perm (.swap s r L)
/-- A region is left in a known state, and then the rest. -/
theorem cut {P : Program} {c : Code} {Q : Exit → Act → World → Prop} {a : Act} {w : World} (F : Act → Act → World → Prop) (h : c.wp P (fun e a' w' => e = .normal ∧ F a a' w') a w) (hq : ∀ a' w', F a a' w' → Q .normal a' w') : c.wp P Q a w :=
  Code.wp_mono (fun e a' w' he => by obtain ⟨rfl, hf⟩ := he; exact hq a' w' hf) h
theorem St.gr {B : Nat} {w0 w : World} {L : List Res} {g : Nat} {cs : Array Value} (t : TypeId) (H : St B w0 w L) (h : row t g cs ∈ L := by repeat (first | exact List.mem_cons_self | apply List.mem_cons_of_mem)) : rowAt w g = some cs := H.getRow h
theorem newN {w : World} {g : Nat} {cs : Array Value} (h : rowAt w g = some cs) : ∀ j u, cs.toList[j]? = some u → w.cell? ((⟨g, 0, none⟩ : Addr).add j) = some u := fun j u hu => by
  have : (⟨g, 0, none⟩ : Addr).add j = ⟨g, j, none⟩ := by unfold Addr.add; split <;> simp_all
  rw [this, cell_of_rowAt h]; simpa using hu
section
variable {P : Program} {ops : Array Oper} {Q : Exit → Act → World → Prop} {S : World → Prop} {a : Act} {w : World}
theorem rg_all {l : List Oper} {rs : List Nat} {fuel : Nat} {listed : Array Bool} (hr : Region.ready .any l.toArray listed = rs) (hne : rs ≠ []) (h : AllReadyH P .any l.toArray (NoPanic Q) S fuel listed a w rs) : wpAnyH P .any l.toArray (NoPanic Q) S (fuel + 1) listed a w :=
  wpAnyH_ready hr hne h
theorem rg_cons {l : List Oper} {i : Nat} {o : Oper} {fuel : Nat} {listed : Array Bool} {rs : List Nat} (ho : l[i]? = some o) (hw : Region.wanted o (yielded l.toArray a.tmps) = true)
    (h : ∀ K : Act → World → Prop, Shut (∀ a w, S w → wpAnyH P .any l.toArray (NoPanic Q) S fuel (listed.setIfInBounds i true) a w → K a w) → Oper.wp P o a w K (NoPanic Q)) (hs : AllReadyH P .any l.toArray (NoPanic Q) S fuel listed a w rs) : AllReadyH P .any l.toArray (NoPanic Q) S fuel listed a w (i :: rs) :=
  AllReadyH.cons (by simpa using ho) (fun K hK => by rw [if_pos hw]; exact h K (fun a w hS hW => hK.out a w hS (fun _ => hW))) hs
end
end Go.Proofs.Ytmokecicjmjkbaa
namespace Go.Proofs.Ytmokecicjmjkbaa
open Go.ChangeShapes Go.WideShapes Go.ChangeAt Go.RowKit
set_option linter.unusedVariables false
set_option linter.unusedSimpArgs false
theorem Sl.cell {w : World} {size n b off c : Nat} {E : Nat → Array Value} (h : Sl w size n (.slice (some ⟨b, off, none⟩) n c) E) {i : Nat} (hi : i < n) : ∀ j, j < size → w.cell? ⟨b, off + i * size + j, none⟩ = (E i)[j]? := by
  obtain ⟨a, c', e, hm, hE⟩ := h
  injection e with e1 e2 e3
  obtain ⟨b', off', e4, hb, hc⟩ := hE (by omega)
  rw [← e1] at e4
  cases e4
  exact fun j hj => hc i hi j hj
theorem Sl.addr {w : World} {size n c : Nat} {a : Option Addr} {E : Nat → Array Value} (h : Sl w size n (.slice a n c) E) (hn : 0 < n) : ∃ b off, a = some ⟨b, off, none⟩ ∧ b < w.heap.size := by
  obtain ⟨a', c', e, hm, hE⟩ := h
  injection e with e1 e2 e3
  obtain ⟨b', off', e4, hb, hc⟩ := hE hn
  exact ⟨b', off', e1.trans e4, hb⟩
section
variable {P : Program} {ops : Array Oper} {a : Act} {w : World} {o : Oper} {N : Act → World → Prop}
/-- A struct loaded whose cells are known now. -/
theorem Stp.ldq {ty : TypeId} {x : Operand} {b off n : Nat} {cs : Array Value} (ho : o.op = .load ty x) (hagg : ∀ W : World, (isAgg ty).run P W = .ok true W) (hs : ∀ W : World, (sizeOf ty).run P W = .ok n W) (hx : a.eval x = .pointer (some ⟨b, off, none⟩))
    (hc : ∀ j, j < n → w.cell? ⟨b, off + j, none⟩ = cs[j]?) (hn : cs.size = n) (h : N (a.put o.dst (.agg cs)) w) : Stp P o a w N := by
  refine ⟨w, .inl ⟨_, ?_, h⟩⟩
  subst hn
  unfold execOp; simp only [ho, hx, Instr.loadAt, Instr.sureAddr]
  simp [run_load_range hc hagg hs]
end
end Go.Proofs.Ytmokecicjmjkbaa
namespace Go.Proofs.Ytmokecicjmjkbaa
open Go.ChangeShapes Go.WideShapes Go.ChangeAt Go.RowKit Go.Maps
set_option linter.unusedVariables false
set_option linter.unusedSimpArgs false
set_option linter.unusedSectionVars false
section
variable {α β : Type} [DecidableEq α]
/-- A pair laid into a map's pairs. -/
def mput (M : List (α × β)) (a : α) (v : β) : List (α × β) := if M.any (fun p => decide (p.1 = a)) = true then M.map (fun p => if p.1 = a then (a, v) else p) else M ++ [(a, v)]
def mget (M : List (α × β)) (a : α) : Option β := (M.find? fun p => decide (p.1 = a)).map (·.2)
theorem mget_nil (a : α) : mget ([] : List (α × β)) a = none := rfl
theorem mget_none {M : List (α × β)} {a : α} : mget M a = none ↔ ∀ p ∈ M, p.1 ≠ a := by
  unfold mget
  simp [List.find?_eq_none]
theorem mget_put_same (M : List (α × β)) (a : α) (v : β) : mget (mput M a v) a = some v := by
  unfold mput mget
  split
  · rename_i h
    induction M with
    | nil => simp at h
    | cons p M ih =>
      by_cases hp : p.1 = a
      · simp [List.find?_cons, hp]
      · simp only [List.any_cons, hp, decide_false, Bool.false_or] at h
        simp only [List.map_cons, hp, if_false, List.find?_cons, decide_false]
        exact ih h
  · rename_i h
    have hn : M.find? (fun p => decide (p.1 = a)) = none := by
      rw [List.find?_eq_none]
      intro p hp hc
      exact h (List.any_eq_true.2 ⟨p, hp, hc⟩)
    rw [List.find?_append, hn]
    simp
theorem mget_put_other (M : List (α × β)) (a b : α) (v : β) (hb : b ≠ a) : mget (mput M a v) b = mget M b := by
  unfold mput mget
  split
  · rename_i h
    clear h
    induction M with
    | nil => rfl
    | cons p M ih =>
      by_cases hp : p.1 = a
      · have h1 : p.1 ≠ b := fun e => hb (e.symm.trans hp)
        simp only [List.map_cons, hp, if_true, List.find?_cons]
        rw [decide_eq_false (fun e => hb e.symm)]
        exact ih
      · simp only [List.map_cons, hp, if_false, List.find?_cons]
        by_cases hq : p.1 = b
        · simp [hq]
        · rw [decide_eq_false hq]
          exact ih
  · rw [List.find?_append]
    cases M.find? (fun p => decide (p.1 = b)) with
    | some p => rfl
    | none => simp [Ne.symm hb]
theorem mget_put (M : List (α × β)) (a b : α) (v : β) : mget (mput M a v) b = if b = a then some v else mget M b := by
  by_cases h : b = a
  · subst h; rw [if_pos rfl, mget_put_same]
  · rw [if_neg h, mget_put_other _ _ _ _ h]
end
section
variable {α β : Type} [DecidableEq α] {P : Program} {k e t : TypeId} {ek : α → Value} {ev : β → Value} {w : World} {b : Nat} {M : List (α × β)}
/-- Block b is a map of the pairs M, in the order in which they came. -/
def MapAt (P : Program) (k : TypeId) (ek : α → Value) (ev : β → Value) (b : Nat) (M : List (α × β)) (w : World) : Prop :=
  ∃ es clock, w.heap[b]? = some (.map es clock) ∧ MapKept.Stamped es clock ∧ es.toList.map (fun x => (x.key, x.val)) = M.map (fun p => (ek p.1, ev p.2)) ∧ ∀ p ∈ M, ∃ l, keyOf P k (ek p.1) = some l
def mapr (P : Program) (k : TypeId) (ek : α → Value) (ev : β → Value) (b : Nat) (M : List (α × β)) : Res := (fun g => some b = some g, MapAt P k ek ev b M)
theorem mapr_loc (P : Program) (k : TypeId) (ek : α → Value) (ev : β → Value) (b : Nat) (M : List (α × β)) : Loc (mapr P k ek ev b M) := fun _ _ hb ⟨es, clock, h, h2⟩ => ⟨es, clock, (hb b rfl).trans h, h2⟩
theorem mapr_sound (h : MapAt P k ek ev b M w) : Sound (mapr P k ek ev b M) w :=
  ⟨h, fun g hg => by cases hg; obtain ⟨es, clock, h, _⟩ := h; exact (Array.getElem?_eq_some_iff.1 h).1, mapr_loc _ _ _ _ _ _⟩
theorem MapAt.nodup (hi : ∀ x y, ek x = ek y → x = y) (h : MapAt P k ek ev b M w) : M.Pairwise fun p q => p.1 ≠ q.1 := by
  obtain ⟨es, clock, _, hs, he, _⟩ := h
  have h3 := ((MapKept.stamped_iff es clock).1 hs).2.2
  have h4 : (es.toList.map fun x => (x.key, x.val)).Pairwise fun p q => p.1 ≠ q.1 := by rw [List.pairwise_map]; exact h3
  rw [he, List.pairwise_map] at h4
  exact h4.imp fun {p q} hne e => hne (by rw [e])
theorem mget_of_mem {M : List (α × β)} (hn : M.Pairwise fun p q => p.1 ≠ q.1) {p : α × β} (hp : p ∈ M) : mget M p.1 = some p.2 := by
  induction M with
  | nil => cases hp
  | cons q M ih =>
    obtain ⟨h1, h2⟩ := List.pairwise_cons.1 hn
    unfold mget
    rcases List.mem_cons.1 hp with rfl | hp
    · simp [List.find?_cons]
    · have := h1 p hp
      rw [List.find?_cons, decide_eq_false this]
      exact ih h2 hp
/-- Where a key stands, or that it stands nowhere. -/
theorem MapAt.find (K : Keyed P k) (hi : ∀ x y, ek x = ek y → x = y) {es : Array MapEntry} {clock : Nat} (hs : MapKept.Stamped es clock) (he : es.toList.map (fun x => (x.key, x.val)) = M.map (fun p => (ek p.1, ev p.2)))
    (hk : ∀ p ∈ M, ∃ l, keyOf P k (ek p.1) = some l) (hM : M.Pairwise fun p q => p.1 ≠ q.1) (w : World) {a : α} {l : Lit} (ha : keyOf P k (ek a) = some l) :
    (mget M a = none ∧ (Instr.findKey k (ek a) es.toList).run P w = .ok none w ∧ ∀ x ∈ es.toList, x.key ≠ ek a) ∨
    ∃ j v x, mget M a = some v ∧ (Instr.findKey k (ek a) es.toList).run P w = .ok (some (j, ev v)) w ∧ es.toList[j]? = some x ∧ x.key = ek a ∧ x.val = ev v ∧ M[j]? = some (a, v) := by
  have hkeys : ∀ x ∈ es.toList, ∃ l, keyOf P k x.key = some l := fun x hx => by
    have : (x.key, x.val) ∈ M.map (fun p => (ek p.1, ev p.2)) := by rw [← he]; exact List.mem_map.2 ⟨x, hx, rfl⟩
    obtain ⟨p, hp, e⟩ := List.mem_map.1 this
    obtain ⟨l, hl⟩ := hk p hp
    refine ⟨l, ?_⟩
    rw [← hl]
    injection e with e1 _
    rw [e1]
  rcases K.find w ha es.toList hkeys with ⟨h1, h2⟩ | ⟨j, x, h1, h2, h3⟩
  · refine .inl ⟨?_, h1, h2⟩
    rw [mget_none]
    intro p hp hpa
    have : (ek p.1, ev p.2) ∈ es.toList.map (fun x => (x.key, x.val)) := by rw [he]; exact List.mem_map.2 ⟨p, hp, rfl⟩
    obtain ⟨x, hx, e⟩ := List.mem_map.1 this
    injection e with e1 _
    exact h2 x hx (by rw [e1, hpa])
  · have hj : (es.toList.map fun x => (x.key, x.val))[j]? = some (x.key, x.val) := by rw [List.getElem?_map, h2]; rfl
    rw [he, List.getElem?_map] at hj
    obtain ⟨p, hp, e⟩ := Option.map_eq_some_iff.1 hj
    injection e with e1 e2
    have hpa : p.1 = a := hi _ _ (by rw [e1, h3])
    have hg := mget_of_mem hM (List.mem_of_getElem? hp)
    rw [hpa] at hg
    refine .inr ⟨j, p.2, x, hg, ?_, h2, h3, e2.symm, ?_⟩
    · rw [h1, e2]
    · rw [hp, ← hpa]
theorem run_look (c : Bool) (K : Keyed P k) (hi : ∀ x y, ek x = ek y → x = y) (ht : P.underlying t = some (.map k e)) {z : Value} (hz : (zeroValue e).run P w = .ok z w) (h : MapAt P k ek ev b M w) {a : α} {l : Lit} (ha : keyOf P k (ek a) = some l) :
    (Instr.lookup t (.map (some b)) (ek a) c).run P w = .ok (if c then .tuple #[((mget M a).map ev).getD z, .bool (mget M a).isSome] else ((mget M a).map ev).getD z) w := by
  have hM := h.nodup hi
  obtain ⟨es, clock, hb, hs, he, hk⟩ := h
  rcases MapAt.find K hi hs he hk hM w ha with ⟨hg, h1, _⟩ | ⟨j, v, x, hg, h1, _⟩
  · rw [hg]
    simp [Instr.lookup, run_underlying ht, MapKept.run_getObj_map hb, K.check w _ ha, h1, hz, Result.andThen]
  · rw [hg]
    simp [Instr.lookup, run_underlying ht, MapKept.run_getObj_map hb, K.check w _ ha, h1, Result.andThen]
theorem map_modify {γ δ : Type} (f : γ → δ) (es : Array γ) (j : Nat) (g : γ → γ) (x : γ) (hx : es.toList[j]? = some x) : (es.modify j g).toList.map f = (es.toList.map f).set j (f (g x)) := by
  apply List.ext_getElem?
  intro i
  rw [List.getElem?_map, Array.getElem?_toList, Array.getElem?_modify, List.getElem?_set]
  by_cases hij : j = i
  · subst hij
    have hlt : j < es.toList.length := (List.getElem?_eq_some_iff.1 hx).1
    have hx' : es[j]? = some x := by simpa using hx
    have hl2 : j < es.size := by simpa using hlt
    have e : es[j] = x := by
      rw [Array.getElem?_eq_getElem hl2] at hx'; exact Option.some.inj hx'
    simp [hl2, e]
  · simp [hij]
theorem map_put {M : List (α × β)} (hM : M.Pairwise fun p q => p.1 ≠ q.1) {a : α} {v u : β} {j : Nat} (hj : M[j]? = some (a, u)) : M.map (fun p => if p.1 = a then (a, v) else p) = M.set j (a, v) := by
  induction M generalizing j with
  | nil => cases hj
  | cons p M ih =>
    obtain ⟨h1, h2⟩ := List.pairwise_cons.1 hM
    cases j with
    | zero =>
      simp only [List.getElem?_cons_zero, Option.some.injEq] at hj
      subst hj
      simp only [List.map_cons, if_true, List.set_cons_zero, List.cons.injEq, true_and]
      conv => rhs; rw [← List.map_id M]
      apply List.map_congr_left
      intro q hq
      rw [if_neg (fun e => h1 q hq e.symm)]
      rfl
    | succ j =>
      rw [List.getElem?_cons_succ] at hj
      have : p.1 ≠ a := h1 _ (List.mem_of_getElem? hj)
      rw [List.map_cons, if_neg this, List.set_cons_succ, ih h2 hj]
theorem mput_set {M : List (α × β)} (hM : M.Pairwise fun p q => p.1 ≠ q.1) {a : α} {v u : β} {j : Nat} (hj : M[j]? = some (a, u)) : mput M a v = M.set j (a, v) := by
  unfold mput
  rw [if_pos (List.any_eq_true.2 ⟨_, List.mem_of_getElem? hj, by simp⟩), map_put hM hj]
theorem mput_new {M : List (α × β)} {a : α} {v : β} (h : mget M a = none) : mput M a v = M ++ [(a, v)] := by
  unfold mput
  rw [if_neg]
  intro hc
  obtain ⟨p, hp, e⟩ := List.any_eq_true.1 hc
  exact mget_none.1 h p hp (by simpa using e)
theorem keys_put {M : List (α × β)} {a : α} {v : β} {l : Lit} (hk : ∀ p ∈ M, ∃ l, keyOf P k (ek p.1) = some l) (ha : keyOf P k (ek a) = some l) : ∀ p ∈ mput M a v, ∃ l, keyOf P k (ek p.1) = some l := by
  intro p hp
  unfold mput at hp
  split at hp
  · obtain ⟨q, hq, rfl⟩ := List.mem_map.1 hp
    split
    · exact ⟨l, ha⟩
    · exact hk q hq
  · rcases List.mem_append.1 hp with h | h
    · exact hk p h
    · rw [List.mem_singleton] at h
      subst h
      exact ⟨l, ha⟩
theorem run_put (K : Keyed P k) (hi : ∀ x y, ek x = ek y → x = y) (ht : P.underlying t = some (.map k e)) (h : MapAt P k ek ev b M w) {a : α} {v : β} {l : Lit} (ha : keyOf P k (ek a) = some l) :
    ∃ w', (Instr.mapUpdate t (.map (some b)) (ek a) (ev v)).run P w = .ok () w' ∧ Grew (fun g => some b = some g) w w' ∧ MapAt P k ek ev b (mput M a v) w' := by
  have hM := h.nodup hi
  obtain ⟨es, clock, hb, hs, he, hk⟩ := h
  have hg : ∀ o, Grew (fun g => some b = some g) w (Go.ChangeMaps.setBlock w b o) := fun o => ⟨rfl, rfl, rfl, by simp [Go.ChangeMaps.setBlock], fun g hlt hne => (MapKept.heap_set hb).2 g (fun e => hne (by rw [e]))⟩
  rcases MapAt.find K hi hs he hk hM w ha with ⟨hgt, h1, h2⟩ | ⟨j, u, x, hgt, h1, h2, h3, h4, h5⟩
  · refine ⟨Go.ChangeMaps.setBlock w b (.map (es.push ⟨ek a, ev v, clock⟩) (clock + 1)), ?_, hg _, _, _, (MapKept.heap_set hb).1, MapKept.stamped_push hs h2, ?_, keys_put hk ha⟩
    · simp [Instr.mapUpdate, run_underlying ht, MapKept.run_getObj_map hb, K.check w false ha, h1, MapKept.run_setObj_map _ hb, Result.andThen, Go.ChangeMaps.setBlock]
    · rw [mput_new hgt]
      simp [he]
  · have hj : es[j]? = some x := by simpa using h2
    refine ⟨Go.ChangeMaps.setBlock w b (.map (es.modify j (fun e' => { e' with key := ek a, val := ev v })) clock), ?_, hg _, _, _, (MapKept.heap_set hb).1, MapKept.stamped_modify hs _ _ (fun _ _ => rfl) (fun e' _ he' => ?_), ?_, keys_put hk ha⟩
    · simp [Instr.mapUpdate, run_underlying ht, MapKept.run_getObj_map hb, K.check w false ha, h1, hj, h3, K.stays w ha, MapKept.run_setObj_map _ hb, Result.andThen, Go.ChangeMaps.setBlock]
    · rw [hj] at he'; cases he'; exact h3.symm
    · rw [map_modify _ _ _ _ x h2, he, mput_set hM h5, List.map_set]
end
section
variable {α β : Type} [DecidableEq α] {P : Program} {k e t : TypeId} {ek : α → Value} {ev : β → Value} {a : Act} {w : World} {o : Oper} {N : Act → World → Prop} {B : Nat} {w0 : World} {L : List Res} {M : List (α × β)} {b : Nat} {x y : Operand} {q : α} {l : Lit}
theorem Stp.mkmap (k : TypeId) (ek : α → Value) (ev : β → Value) (d : Tmp) (hd : o.dst = some d) (ho : o.op = .makeMap t none) (H : St B w0 w L)
    (h : ∀ g w', St B w0 w' (mapr P k ek ev g [] :: L) → N (a.put (some d) (.map (some g))) w') : Stp P o a w N := by
  rw [← hd] at h
  refine ⟨_, .inl ⟨_, ?_, h w.heap.size (w.alloc (.map #[] 0)) (H.new ((Below.refl _ _).alloc (Nat.le_refl _) _) (mapr_sound ⟨#[], 0, heap_alloc_new w _, MapKept.stamped_empty 0, rfl, by simp⟩) (fun g hg => by cases hg; exact Nat.le_refl _))⟩⟩
  unfold execOp; simp only [ho]; simp [run_makeMap]
theorem Stp.look (ho : o.op = .lookup t x y false) (K : Keyed P k) (hi : ∀ x y, ek x = ek y → x = y) (ht : P.underlying t = some (.map k e)) {z : Value} (hz : ∀ W : World, (zeroValue e).run P W = .ok z W) (hx : a.eval x = .map (some b)) (hy : a.eval y = ek q) (ha : keyOf P k (ek q) = some l) (H : St B w0 w L)
    (hm : mapr P k ek ev b M ∈ L) (h : N (a.put o.dst (((mget M q).map ev).getD z)) w) : Stp P o a w N := by
  refine ⟨w, .inl ⟨_, ?_, h⟩⟩
  unfold execOp; simp only [ho, hx, hy]
  simp [run_look false K hi ht (hz w) (H.get hm) ha]
theorem Stp.lookok (ho : o.op = .lookup t x y true) (K : Keyed P k) (hi : ∀ x y, ek x = ek y → x = y) (ht : P.underlying t = some (.map k e)) {z : Value} (hz : ∀ W : World, (zeroValue e).run P W = .ok z W) (hx : a.eval x = .map (some b)) (hy : a.eval y = ek q) (ha : keyOf P k (ek q) = some l) (H : St B w0 w L)
    (hm : mapr P k ek ev b M ∈ L) (h : N (a.put o.dst (.tuple #[((mget M q).map ev).getD z, .bool (mget M q).isSome])) w) : Stp P o a w N := by
  refine ⟨w, .inl ⟨_, ?_, h⟩⟩
  unfold execOp; simp only [ho, hx, hy]
  simp [run_look true K hi ht (hz w) (H.get hm) ha]
theorem Stp.mapup {L' : List Res} {ux : Operand} {v : β} (ho : o.op = .mapUpdate t x y ux) (K : Keyed P k) (hi : ∀ x y, ek x = ek y → x = y) (ht : P.underlying t = some (.map k e)) (hx : a.eval x = .map (some b)) (hy : a.eval y = ek q) (hv : a.eval ux = ev v) (ha : keyOf P k (ek q) = some l) (H : St B w0 w L)
    (hu : Upd L (mapr P k ek ev b M) (mapr P k ek ev b (mput M q v)) L') (h : ∀ w', St B w0 w' L' → N (a.put o.dst undef) w') : Stp P o a w N := by
  obtain ⟨w', hr, hg, hm⟩ := run_put K hi ht (H.get hu.mem) (v := v) ha
  refine ⟨w', .inr ⟨?_, h w' (H.upd hu hg (mapr_sound hm) (fun g hg => .inl hg))⟩⟩
  unfold execOp; simp only [ho, hx, hy, hv]
  simp [hr]
end
end Go.Proofs.Ytmokecicjmjkbaa
namespace Go.Proofs.Ytmokecicjmjkbaa
open Go.ChangeShapes Go.WideShapes Go.ChangeAt Go.RowKit Go.Maps
set_option linter.unusedVariables false
set_option linter.unusedSimpArgs false
section
variable {B : Nat} {w0 w : World} {L : List Res} {e : TypeId} {size n c g : Nat} {a : Option Addr} {xs : List Value}
theorem newL {w : World} {g : Nat} {l : List Value} (h : rowAt w g = some l.toArray) : ∀ j u, l[j]? = some u → w.cell? ((⟨g, 0, none⟩ : Addr).add j) = some u := fun j u hu => by
  have : (⟨g, 0, none⟩ : Addr).add j = ⟨g, j, none⟩ := by unfold Addr.add; split <;> simp_all
  rw [this, cell_of_rowAt h]; simpa using hu
end
section
variable {P : Program} {ops : Array Oper} {a : Act} {w : World} {o : Oper} {N : Act → World → Prop} {B : Nat} {w0 : World} {L : List Res} {ty e : TypeId} {x y : Operand} {g off size n c k : Nat} {xs : List Value}
end
section
variable {P : Program} {a : Act} {w : World} {o : Oper} {N : Act → World → Prop}
theorem Stp.bsl0N {B : Nat} {w0 : World} {L : List Res} {ty e : TypeId} {size : Nat} {parts : Array (Nat × Operand)} (d : Tmp) (hd : o.dst = some d) (ho : o.op = .buildSlice ty 0 parts)
    (hv : ∀ W : World, (Instr.buildSlice ty 0 (parts.map fun (i, x) => (i, a.eval x))).run P W = .ok (.slice (some ⟨W.heap.size, 0, none⟩) 0 0) (W.alloc (.cells #[] e))) (H : St B w0 w L)
    (h : ∀ ap cp w', St B w0 w' (slc e size (.slice ap 0 cp) 0 [] :: L) → N (a.put (some d) (.slice ap 0 cp)) w') : Stp P o a w N := by
  rw [← hd] at h
  refine ⟨w.alloc (.cells #[] e), .inl ⟨_, ?_, h (some ⟨w.heap.size, 0, none⟩) 0 _ ?_⟩⟩
  · unfold execOp; simp only [ho]
    simp [hv]
  · exact H.new ((Below.refl _ _).alloc (Nat.le_refl _) _) (slc_sound (b := 0) ⟨by simp, .inr ⟨w.heap.size, 0, #[], rfl, Nat.zero_le _, heap_alloc_new w _, Nat.le_refl _, Nat.zero_le _, by simp, by simp⟩⟩) (fun g hg => by cases hg; exact Nat.le_refl _)
end
section
variable {α β : Type} [DecidableEq α] {P : Program} {ops : Array Oper} {k e t : TypeId} {ek : α → Value} {ev : β → Value} {a : Act} {o : Oper} {B : Nat} {w0 : World} {L : List Res} {M : List (α × β)} {b : Nat} {x y : Operand} {q : α} {l : Lit}
theorem Yld.look (hw : Region.wanted o (yielded ops a.tmps) = true) (ho : o.op = .lookup t x y false) (K : Keyed P k) (hi : ∀ x y, ek x = ek y → x = y) (ht : P.underlying t = some (.map k e)) {z : Value} (hz : ∀ W : World, (zeroValue e).run P W = .ok z W) (hx : a.eval x = .map (some b)) (hy : a.eval y = ek q) (ha : keyOf P k (ek q) = some l)
    (hm : mapr P k ek ev b M ∈ L) : YieldsIf P ops (fun W => St B w0 W L) o (((mget M q).map ev).getD z) a :=
  .inl ⟨hw, fun W H => by
    unfold execOp; simp only [ho, hx, hy]
    simp [run_look false K hi ht (hz W) (H.get hm) ha]⟩
theorem Yld.lookok (hw : Region.wanted o (yielded ops a.tmps) = true) (ho : o.op = .lookup t x y true) (K : Keyed P k) (hi : ∀ x y, ek x = ek y → x = y) (ht : P.underlying t = some (.map k e)) {z : Value} (hz : ∀ W : World, (zeroValue e).run P W = .ok z W) (hx : a.eval x = .map (some b)) (hy : a.eval y = ek q) (ha : keyOf P k (ek q) = some l)
    (hm : mapr P k ek ev b M ∈ L) : YieldsIf P ops (fun W => St B w0 W L) o (.tuple #[((mget M q).map ev).getD z, .bool (mget M q).isSome]) a :=
  .inl ⟨hw, fun W H => by
    unfold execOp; simp only [ho, hx, hy]
    simp [run_look true K hi ht (hz W) (H.get hm) ha]⟩
end
end Go.Proofs.Ytmokecicjmjkbaa
namespace Go.Proofs.Ytmokecicjmjkbaa
open Go.ChangeShapes Go.WideShapes Go.ChangeAt Go.RowKit
set_option linter.unusedVariables false
set_option linter.unusedSimpArgs false
theorem own_sla {w : World} {b : Nat} {v : Value} {l : List Nat} (h : w.ownsRow b 5 1 v l.length (bv l)) (hl : l.length ≤ 1000000) : Sl w 1 l.length v (elB l) := own_sl h hl
theorem nil_bs (a : Option Addr) (n c : Nat) (w : World) : (binOp .eql 22 (.slice a n c) (.slice none 0 0)).run Try.prog w = .ok (.bool a.isNone) w := Lib.run_eql_slice_nil w 22 5 a n c 0 0 Try.underlying22
/-- May it be a process? -/
def may (i c : Nat) : Bool := decide (i < 16) && !(c == 0)
theorem may_ok (i c : Nat) (w : World) : Calls Try.prog 80 #[.agg #[.int .u16 (i : Int), .int .u32 (c : Int)]] w (Ret fun v w' => v = .bool (may i c) ∧ Below w.heap.size w w') := by
  have H := St.init w
  by_cases h : i < 16
  · have hi : (i : Int) < 16 := by omega
    go_enter Try.func80, Try.ntmps80
    go_wp2_with (first | (with_reducible refine wpl rfl (dQ 1 rfl ?_); with_reducible refine (Stp.box 1 rfl rfl rfl H ?_); clear H; intro g1 w1 H; simp only [pS]; simp only [pE, nC, pS] at H) | (with_reducible refine wpl rfl (ldQ (ty := 27) rfl ?_); first | (with_reducible refine (Stp.ldo rfl agg27 rfl H (by assumption) (by assumption) ?_); simp only [pS]) | (with_reducible refine (Stp.ldc rfl agg27 rfl H mR cE ?_); simp only [pS])) | (with_reducible refine wpl rfl (ldQ (ty := 28) rfl ?_); first | (with_reducible refine (Stp.ldo rfl agg28 rfl H (by assumption) (by assumption) ?_); simp only [pS]) | (with_reducible refine (Stp.ldc rfl agg28 rfl H mR cE ?_); simp only [pS])))
    go_ret
    exact ⟨_, rfl, congrArg Value.bool (show ((c : Int) != 0) = may i c by rw [Bool.eq_iff_iff]; simp [may, h]), H.below⟩
  · have hd : decide ((i : Int) < 16) = false := by simp; omega
    go_enter Try.func80, Try.ntmps80
    go_wp2_with (first | (with_reducible refine wpl rfl (dQ 1 rfl ?_); with_reducible refine (Stp.box 1 rfl rfl rfl H ?_); clear H; intro g1 w1 H; simp only [pS]; simp only [pE, nC, pS] at H) | (with_reducible refine wpl rfl (ldQ (ty := 27) rfl ?_); first | (with_reducible refine (Stp.ldo rfl agg27 rfl H (by assumption) (by assumption) ?_); simp only [pS]) | (with_reducible refine (Stp.ldc rfl agg27 rfl H mR cE ?_); simp only [pS])) | (with_reducible refine wpl rfl (ldQ (ty := 28) rfl ?_); first | (with_reducible refine (Stp.ldo rfl agg28 rfl H (by assumption) (by assumption) ?_); simp only [pS]) | (with_reducible refine (Stp.ldc rfl agg28 rfl H mR cE ?_); simp only [pS])))
    go_ret
    exact ⟨_, rfl, by simp [may, h], H.below⟩
theorem rmay_ok (i c : Nat) (w : World) : Calls Try.prog 24 #[.agg #[.int .u16 (i : Int), .int .u32 (c : Int)]] w (Ret fun v w' => v = .bool (may i c) ∧ Below w.heap.size w w') := by
  have H := St.init w
  by_cases h : i < 16
  · have hi : (i : Int) < 16 := by omega
    go_enter Try.func24, Try.ntmps24
    go_wp2_with (first | (with_reducible refine wpl rfl (dQ 1 rfl ?_); with_reducible refine (Stp.box 1 rfl rfl rfl H ?_); clear H; intro g1 w1 H; simp only [pS]; simp only [pE, nC, pS] at H) | (with_reducible refine wpl rfl (ldQ (ty := 27) rfl ?_); first | (with_reducible refine (Stp.ldo rfl agg27 rfl H (by assumption) (by assumption) ?_); simp only [pS]) | (with_reducible refine (Stp.ldc rfl agg27 rfl H mR cE ?_); simp only [pS])) | (with_reducible refine wpl rfl (ldQ (ty := 28) rfl ?_); first | (with_reducible refine (Stp.ldo rfl agg28 rfl H (by assumption) (by assumption) ?_); simp only [pS]) | (with_reducible refine (Stp.ldc rfl agg28 rfl H mR cE ?_); simp only [pS])))
    go_ret
    exact ⟨_, rfl, congrArg Value.bool (show decide (0 < c) = may i c by rw [Bool.eq_iff_iff]; simp [may, h]; omega), H.below⟩
  · have hd : decide ((i : Int) < 16) = false := by simp; omega
    go_enter Try.func24, Try.ntmps24
    go_wp2_with (first | (with_reducible refine wpl rfl (dQ 1 rfl ?_); with_reducible refine (Stp.box 1 rfl rfl rfl H ?_); clear H; intro g1 w1 H; simp only [pS]; simp only [pE, nC, pS] at H) | (with_reducible refine wpl rfl (ldQ (ty := 27) rfl ?_); first | (with_reducible refine (Stp.ldo rfl agg27 rfl H (by assumption) (by assumption) ?_); simp only [pS]) | (with_reducible refine (Stp.ldc rfl agg27 rfl H mR cE ?_); simp only [pS])) | (with_reducible refine wpl rfl (ldQ (ty := 28) rfl ?_); first | (with_reducible refine (Stp.ldo rfl agg28 rfl H (by assumption) (by assumption) ?_); simp only [pS]) | (with_reducible refine (Stp.ldc rfl agg28 rfl H mR cE ?_); simp only [pS])))
    go_ret
    exact ⟨_, rfl, by simp [may, h], H.below⟩
/-- What holds as long as nothing below B and nothing of L is turned. -/
def Rd (B : Nat) (w0 : World) (L : List Res) (F : World → Prop) : Prop := ∀ W : World, Below B w0 W → (∀ r ∈ L, r.2 W) → F W
theorem Rd.at {B : Nat} {w0 w : World} {L L0 : List Res} {F : World → Prop} (h : Rd B w0 L F) (H : St B w0 w L0) (hl : L.Sublist L0) : F w := h w H.below fun r hr => H.get (hl.subset hr)
theorem Rd.of_old {w0 : World} {L : List Res} {size n : Nat} {v : Value} {E : Nat → Array Value} (h : Sl w0 size n v E) : Rd w0.heap.size w0 L fun W => Sl W size n v E := fun W hb _ => h.grow hb
theorem Rd.mono {B : Nat} {w0 : World} {L L' : List Res} {F : World → Prop} (h : Rd B w0 L F) (hl : ∀ r ∈ L, r ∈ L') : Rd B w0 L' F := fun W hb hr => h W hb fun r h1 => hr r (hl r h1)
/-- Processes, as values. -/
def elQ (ps : List (Nat × Nat)) (i : Nat) : Array Value := #[.int .u16 (((ps.getD i (0, 0)).1 : Nat) : Int), .int .u32 (((ps.getD i (0, 0)).2 : Nat) : Int)]
def okPids (ps : List (Nat × Nat)) : Prop := ∀ p ∈ ps, p.1 < 65536 ∧ p.2 < 4294967296
theorem okPids_at {ps : List (Nat × Nat)} (h : okPids ps) (k : Nat) (hk : k < ps.length) : (ps.getD k (0, 0)).1 < 65536 ∧ (ps.getD k (0, 0)).2 < 4294967296 := by
  have : ps.getD k (0, 0) = ps[k] := by simp [List.getD, hk]
  rw [this]; exact h _ (List.getElem_mem hk)
theorem eqPD (a b c d : Int) (w : World) : (Op.equalIn 10000 30 (.agg #[.int .u16 a, .int .u32 b]) (.agg #[.int .u16 c, .int .u32 d])).run Try.prog w = .ok (a == c && b == d) w := by
  have u1 := Try.underlying27
  have u2 := Try.underlying28
  have hS : Try.prog.underlying 30 = some (.struct (Try.prog.fieldsOf 30)) := by kernel_rfl
  rw [show (10000 : Nat) = 9999 + 1 from rfl, run_equalIn_struct w 9999 30 _ _ hS (by kernel_rfl)]
  simp only [Program.fieldsOf, Try.underlying30]
  go_simp
  by_cases h1 : a = c <;> by_cases h2 : b = d <;> simp [h1, h2]
theorem eqPD_self (a b : Int) (w : World) : (Op.equalIn 10000 30 (.agg #[.int .u16 a, .int .u32 b]) (.agg #[.int .u16 a, .int .u32 b])).run Try.prog w = .ok true w := by rw [eqPD]; simp
/-- Processes, as values. -/
def pv (ps : List (Nat × Nat)) : List Value := ps.flatMap fun p => [.int .u16 (p.1 : Int), .int .u32 (p.2 : Int)]
theorem pv_len (ps : List (Nat × Nat)) : (pv ps).length = ps.length * 2 := by
  induction ps with
  | nil => rfl
  | cons p ps ih => simp [pv] at ih ⊢; omega
theorem pv_get (ps : List (Nat × Nat)) : ∀ i, i < ps.length → ∀ j, j < 2 → (pv ps)[i * 2 + j]? = (elQ ps i)[j]? := by
  induction ps with
  | nil => intro i h; exact absurd h (Nat.not_lt_zero _)
  | cons p l ih =>
    intro i h j hj
    have hc : pv (p :: l) = .int .u16 (p.1 : Int) :: .int .u32 (p.2 : Int) :: pv l := by simp [pv]
    cases i with
    | zero =>
      rw [hc]
      match j, hj with
      | 0, _ => rfl
      | 1, _ => rfl
    | succ i =>
      rw [hc, show (i + 1) * 2 + j = (i * 2 + j) + 1 + 1 by omega, List.getElem?_cons_succ, List.getElem?_cons_succ, ih i (by simpa using h) j hj]
      simp [elQ]
end Go.Proofs.Ytmokecicjmjkbaa
namespace Go.Proofs.Ytmokecicjmjkbaa
open Go.ChangeShapes Go.WideShapes Go.ChangeAt Go.RowKit
set_option linter.unusedVariables false
set_option linter.unusedSimpArgs false
attribute [local go_sem] nil_bs
set_option maxRecDepth 100000 in
theorem clone_any (v : Value) (l : List Nat) (m : Nat) (hm : l.length = m) (hl : m ≤ 100000) (w : World) (hs : Sl w 1 l.length v (elB l)) :
    Calls Try.prog 84 #[v] w (Ret fun v' w' => (∃ ap cp, v' = .slice ap m cp) ∧ w'.ownsRow w.heap.size 5 1 v' m (bv l) ∧ Below w.heap.size w w') := by
  have hs' := hs
  obtain ⟨A, c, rfl, hm'⟩ := hs'.len
  subst hm
  cases A with
  | none =>
    have h0 : l = [] := by
      cases l with
      | nil => rfl
      | cons x t => obtain ⟨b, off, e, _⟩ := hs.byte (k := 0) (by simp); cases e
    subst h0
    have H := St.init w
    go_enter Try.func84, Try.ntmps84
    go_wp2_with fail
    go_ret
    exact ⟨_, rfl, ⟨_, _, rfl⟩, World.ownsRow_nil _ _ _ _, H.below⟩
  | some a =>
    obtain ⟨b, o, sp⟩ := a
    have hsp : l.length = 0 ∨ sp = none := by
      rcases Nat.eq_zero_or_pos l.length with h | h
      · exact .inl h
      · obtain ⟨b', off, e, _⟩ := hs.byte (k := 0) h
        cases e; exact .inr rfl
    have H := St.init w
    go_enter Try.func84, Try.ntmps84
    go_wp2_with (first | (with_reducible refine wpl rfl (dQ 5 rfl ?_); with_reducible refine (Stp.bsl0 (e := 5) 5 rfl rfl (fun W => by kernel_rfl) H ?_); clear H; intro a5 c5 w1 H; simp only [pS]; (try simp only [Nat.zero_add, List.nil_append] at H ⊢)) | (with_reducible refine wpl rfl (dQ 7 rfl ?_); with_reducible refine (Stp.apps 7 rfl rfl Try.underlying22 info5 rfl (by decide) rfl rfl H (fun _ => uP) (by rw [bv_len, Nat.mul_one]) (hs.grow H.below).src (bv_one l) (by unfold maxLen; omega) (by omega) ?_); clear H; intro a7 c7 w1 H; simp only [pS]; (try simp only [Nat.zero_add, List.nil_append] at H ⊢)))
    go_ret
    exact ⟨_, rfl, ⟨_, _, rfl⟩, H.getSlc mE, H.below⟩
end Go.Proofs.Ytmokecicjmjkbaa
namespace Go.Proofs.Ytmokecicjmjkbaa
open Go.ChangeShapes Go.WideShapes Go.ChangeAt Go.RowKit
set_option linter.unusedVariables false
set_option linter.unusedSimpArgs false
section
variable {P : Program} {ops : Array Oper} {Q : Exit → Act → World → Prop} {S : World → Prop} {k : Nat} {a : Act} {w : World}
/-- Whatever order is picked, and S holds as long as number k has not come up. -/
def Kept (P : Program) (ops : Array Oper) (Q : Exit → Act → World → Prop) (S : World → Prop) (k : Nat) : Nat → Array Bool → Act → World → Prop
  | 0, l, a, w => Region.ready .any ops l = [] ∧ Q .normal a w
  | n + 1, l, a, w => (Region.ready .any ops l = [] → Q .normal a w) ∧
      ∀ i ∈ Region.ready .any ops l, wpOp P ops Q i (fun a' w' => ((l.setIfInBounds i true).getD k true = false → S w') ∧ Kept P ops Q S k n (l.setIfInBounds i true) a' w') a w
theorem Kept.any : ∀ (n : Nat) (l : Array Bool) (a : Act) (w : World), Kept P ops Q S k n l a w → wpAny P .any ops Q n l a w
  | 0, _, _, _, h => h
  | n + 1, _, _, _, h => ⟨h.1, fun i hi => wpOp_mono (fun _ _ h' => Kept.any n _ _ _ h'.2) (h.2 i hi)⟩
/-- What T says of i's value: T is S, and i comes ahead of k; or T asks nothing. -/
theorem Kept.first {T : World → Prop} {J : Array Bool → Prop} {i : Nat} {oi : Oper} {v : Value} (hi : ops[i]? = some oi) (hik : i ≠ k) (hsel : ∀ (j : Nat) (o : Oper) cs b, ops[j]? = some o → o.op ≠ .select cs b)
    (hQ : ∀ c a w, Q (.panic c) (a.put oi.dst v) w → Q (.panic c) a w)
    (hT : ∀ (l : Array Bool) (w : World), J l → (l.getD k true = false → S w) → T w) (hJ : ∀ (l : Array Bool) (j : Nat), J l → i ∈ Region.ready .any ops l → j ∈ Region.ready .any ops l → j ≠ i → J (l.setIfInBounds j true)) :
    ∀ (n : Nat) (l : Array Bool) (a : Act) (w : World),
      (∀ j oj, ops[j]? = some oj → j ≠ i → l.getD j true = false → (∀ e ∈ oj.after, Region.binds .any e = true → e.on ≠ i) → oi.apart ops oj = true) →
      i ∈ Region.ready .any ops l → J l → YieldsIf P ops T oi v a → (l.getD k true = false → S w) →
      Kept P ops Q S k n (l.setIfInBounds i true) (a.put oi.dst v) w → Kept P ops Q S k (n + 1) l a w := by
  have self : ∀ (n : Nat) (l : Array Bool) (a : Act) (w : World), J l → YieldsIf P ops T oi v a → (l.getD k true = false → S w) → Kept P ops Q S k n (l.setIfInBounds i true) (a.put oi.dst v) w →
      wpOp P ops Q i (fun a' w' => ((l.setIfInBounds i true).getD k true = false → S w') ∧ Kept P ops Q S k n (l.setIfInBounds i true) a' w') a w := by
    intro n l a w hj0 hy hS H
    refine hy.wpOp hi (hT l w hj0 hS) ⟨fun h => hS ?_, H⟩
    rw [getD_set_ne true hik] at h; exact h
  intro n
  induction n with
  | zero =>
    intro l a w _ hr hj0 hy hS H
    refine ⟨fun h => (by rw [h] at hr; cases hr), fun j hj => ?_⟩
    by_cases hji : j = i
    · subst hji; exact self 0 l a w hj0 hy hS H
    · have := ready_mono hj hji
      rw [H.1] at this
      cases this
  | succ n ih =>
    intro l a w hfree hr hj0 hy hS H
    refine ⟨fun h => (by rw [h] at hr; cases hr), fun j hj => ?_⟩
    by_cases hji : j = i
    · subst hji; exact self (n + 1) l a w hj0 hy hS H
    · obtain ⟨hun, oj, hoj, hall⟩ := mem_ready.1 hj
      have hnot : ∀ e ∈ oj.after, Region.binds .any e = true → e.on ≠ i := fun e he hb heq => by
        have h1 := hall e he hb
        have h0 := (mem_ready.1 hr).1
        rw [heq] at h1
        rcases Nat.lt_or_ge i l.size with h' | h'
        · simp [h'] at h0 h1; rw [h0] at h1; cases h1
        · simp [Array.getElem?_eq_none h'] at h1
      have step := wpOp_putIf hoj (hfree j oj hoj hji hun hnot) (fun cs b => hsel i oi cs b hi) (fun cs b => hsel j oj cs b hoj) hQ hy (H.2 j (ready_mono hj hji))
      refine wpOp_mono (fun a' w' hp => ?_) step
      obtain ⟨hy', hS', hK⟩ := hp
      have hS2 : (l.setIfInBounds j true).getD k true = false → S w' := fun h => hS' (by
        rw [Array.setIfInBounds_comm _ _ (Ne.symm hji), getD_set_ne true hik]; exact h)
      refine ⟨hS2, ih _ a' w' (fun m om hm hmi hmun hno => hfree m om hm hmi ?_ hno) (ready_mono hr (Ne.symm hji)) (hJ l j hj0 hr hj hji) hy' hS2 ?_⟩
      · by_cases hjm : j = m
        · subst hjm; exact hun
        · rw [getD_set_ne true hjm] at hmun; exact hmun
      · rw [Array.setIfInBounds_comm _ _ hji]
        exact hK
/-- A condition that ends with k, for the walk: S holds if k has not come up. -/
theorem rk_begin {id : Nat} (k n : Nat) (S : World → Prop) (hn : ops.size = n) (hm : P.follows .mixedOrders = true) (h : Kept P ops (NoPanic Q) S k n (Array.replicate n false) a w.drew) : (Code.region id ops true).wp P Q a w := by
  subst hn; exact wp_region_noPanic (wp_region_any hm (Kept.any _ _ _ _ h))
variable {l : List Oper} {i : Nat} {oi o : Oper} {v : Value} {fuel : Nat} {listed : Array Bool}
/-- Number i's value hangs on S, and i comes ahead of k. -/
theorem rk_take (hi : l[i]? = some oi) (hs : Region.noSelect l.toArray = true) (hf : Region.free .any l.toArray listed i = true) (hr : (Region.ready .any l.toArray listed).contains i = true)
    (hk : (l[k]?.map fun o => o.after.any fun e => Region.binds .any e && e.on == i) = some true) (hki : (k == i) = false) (hl : listed.getD k true = false)
    (hy : YieldsIf P l.toArray S oi v a) (hS : S w) (h : Kept P l.toArray (NoPanic Q) S k fuel (listed.setIfInBounds i true) (a.put oi.dst v) w) : Kept P l.toArray (NoPanic Q) S k (fuel + 1) listed a w := by
  have hik : i ≠ k := fun e => by subst e; simp at hki
  refine Kept.first (T := S) (J := fun l => l.getD k true = false) (by simpa using hi) hik (Region.noSelect_spec hs) (fun _ _ _ h => h) (fun l' w' hj hS' => hS' hj) (fun l' j hj hri hrj hji => ?_) fuel listed a w (Region.free_spec (by simpa using hi) hf) (by simpa using hr) hl hy (fun _ => hS) h
  have hjk : j ≠ k := by
    rintro rfl
    obtain ⟨_, ok, hok, hall⟩ := mem_ready.1 hrj
    have hok' : l[j]? = some ok := by simpa using hok
    rw [hok'] at hk
    simp only [Option.map_some, Option.some.injEq, List.any_eq_true, Array.any_eq_true', Bool.and_eq_true, beq_iff_eq] at hk
    obtain ⟨e, he, hb, hon⟩ := hk
    have h1 := hall e he hb
    have h0 := (mem_ready.1 hri).1
    rw [hon] at h1
    rcases Nat.lt_or_ge i l'.size with h' | h'
    · simp [h'] at h0 h1; rw [h0] at h1; cases h1
    · simp [Array.getElem?_eq_none h'] at h1
  rw [getD_set_ne true hjk]; exact hj
/-- Number i's value hangs on nothing. -/
theorem rk_free (hi : l[i]? = some oi) (hs : Region.noSelect l.toArray = true) (hf : Region.free .any l.toArray listed i = true) (hr : (Region.ready .any l.toArray listed).contains i = true) (hki : (k == i) = false)
    (hy : YieldsIf P l.toArray (fun _ => True) oi v a) (hS : listed.getD k true = false → S w) (h : Kept P l.toArray (NoPanic Q) S k fuel (listed.setIfInBounds i true) (a.put oi.dst v) w) : Kept P l.toArray (NoPanic Q) S k (fuel + 1) listed a w := by
  have hik : i ≠ k := fun e => by subst e; simp at hki
  exact Kept.first (T := fun _ => True) (J := fun _ => True) (by simpa using hi) hik (Region.noSelect_spec hs) (fun _ _ _ h => h) (fun _ _ _ _ => trivial) (fun _ _ _ _ _ _ => trivial) fuel listed a w (Region.free_spec (by simpa using hi) hf) (by simpa using hr) trivial hy hS h
theorem rk_one (hr : Region.ready .any l.toArray listed = [i]) (ho : l[i]? = some o) (hw : Region.wanted o (yielded l.toArray a.tmps) = true)
    (h : ∀ K : Act → World → Prop, Shut (∀ a w, ((listed.setIfInBounds i true).getD k true = false → S w) → Kept P l.toArray (NoPanic Q) S k fuel (listed.setIfInBounds i true) a w → K a w) → Oper.wp P o a w K (NoPanic Q)) : Kept P l.toArray (NoPanic Q) S k (fuel + 1) listed a w := by
  unfold Kept
  refine ⟨fun h0 => (by rw [hr] at h0; cases h0), fun j hj => ?_⟩
  rw [hr] at hj
  obtain rfl := List.mem_singleton.1 hj
  unfold wpOp
  have ho' : l.toArray[j]? = some o := by simpa using ho
  rw [ho']
  simp only [hw, if_true]
  exact .inl (h _ (fun a w hS hK => ⟨hS, hK⟩))
theorem rk_done (hr : Region.ready .any ops listed = []) (h : Q .normal a w) : Kept P ops (NoPanic Q) S k fuel listed a w := by
  cases fuel with
  | zero => exact ⟨hr, NoPanic.normal h⟩
  | succ n => exact ⟨fun _ => NoPanic.normal h, by rw [hr]; simp⟩
end
end Go.Proofs.Ytmokecicjmjkbaa
