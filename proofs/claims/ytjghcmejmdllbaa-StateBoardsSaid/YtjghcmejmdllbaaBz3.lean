/- Bytes that came in, and bytes of the call's own, as one reads them; the bounds on lengths stand in each. My logic of owned memory, fifth part: a struct's field that is a struct, a slice's rest; no condition. My logic of owned memory, third part: slices whose elements have several cells; no condition. A slice that is only read: its address, an element's cells; loads of what is known now. No condition. A map of the call's own as a resource: its pairs in the order in which they came; look-up, store, len; no condition. My logic of owned memory: a slice of the call's own, read and written in place; maps in regions that draw their order; no condition. Processes: may one be; some in memory; when two are one; reading while one writes elsewhere. No condition. -/
import Derived.Test.YtjghcmejmdllbaaBz2
import Derived.Test.YtjghcmejmdllbaaBz1
import Derived.Maps.Keyed
import Derived.MapKept
import Derived.DeepKeys4
import Derived.Carry
import Derived.Laws.StructEq
namespace Go.Proofs.Ytjghcmejmdllbaa
open Go.ChangeShapes Go.WideShapes Go.ChangeAt Go.RowKit Go.Deep
set_option linter.unusedVariables false
set_option linter.unusedSimpArgs false
theorem own_sl {w : World} {b : Nat} {v : Value} {l : List Nat} (h : w.ownsRow b 5 1 v l.length (bv l)) (hm : l.length ≤ 1000000) : Sl w 1 l.length v (elB l) :=
  Sl.of_own h (fun i hi => by simp [bv, elB, List.getD, hi]) (by unfold maxLen; omega)
theorem row_sl {w : World} {g c : Nat} {l : List Nat} (h : rowAt w g = some (bv l).toArray) (hm : l.length ≤ 1000000) : Sl w 1 l.length (.slice (some ⟨g, 0, none⟩) l.length c) (elB l) :=
  Sl.of_row h (by unfold maxLen; omega) (fun i hi j hj => by
    obtain rfl : j = 0 := by omega
    simp [bv, elB, List.getD, hi])
theorem own_slk {w : World} {b m : Nat} {v : Value} {l : List Nat} (h : w.ownsRow b 5 1 v m (bv l)) (hm : m = l.length) (hl : l.length ≤ 1000000) : Sl w 1 l.length v (elB l) := by
  subst hm; exact own_sl h hl
theorem own_src {w : World} {b m c : Nat} {A : Option Addr} {xs : List Value} (h : w.ownsRow b 5 1 (.slice A m c) m xs) : 0 < m → ∃ ad, A = some ad ∧ ∀ j u, xs[j]? = some u → w.cell? (ad.add j) = some u := fun h0 => by
  have h' := h
  rcases h'.2 with ⟨_, e1⟩ | ⟨g, cap, cur, e1, _⟩
  · omega
  · cases e1
    exact ⟨_, rfl, h.cells (g := g) rfl⟩
theorem lent_sl {w : World} {g : Nat} {l : List Nat} (h : rowAt w g = some (bv (lent l)).toArray) (hl : l.length ≤ 1000000) : Sl w 1 l.length (.slice (some ⟨g, 0, none⟩) l.length (l.length + 8)) (elB l) :=
  Sl.of_row h (by unfold maxLen; omega) (fun i hi j hj => by
    obtain rfl : j = 0 := by omega
    have := lent_lt l i hi
    rw [Nat.mul_one, Nat.add_zero]
    simp only [elB, bv, List.getElem?_toArray, List.getElem?_map]
    rw [List.getElem?_eq_getElem (by rw [lent_len]; omega)]
    rw [← this]
    simp [List.getD, lent, hi]
    rw [List.getElem?_append_left hi]; simp [hi])
set_option maxRecDepth 100000 in
/-- Bytes that came in. -/
theorem open_bs {H : Type} {enc : TypeId × Value → H} {W : World} {base : Nat} {v : Value} {d : DataW H} {p : List MemPlace} (hv : Value.okWide Try.prog W .any base 37 v) (h : DataW.Trod enc Try.prog W 0 (fun _ => true) true 37 v d p) :
    ∃ l : List Nat, (∀ x ∈ l, x < 256) ∧ Sl W 1 l.length v (elB l) := by
  obtain ⟨n, E, hS, hel⟩ := open_sl (size := 1) Try.underlying37 (by kernel_rfl) (by omega) hv h
  have hex : ∀ i, ∃ q : Nat, i < n → E i = #[.int .u8 (q : Int)] ∧ q < 256 := fun i => by
    by_cases hi : i < n
    · obtain ⟨hs, fuel, y, ht⟩ := hel i hi
      obtain ⟨k, e0, _, w0⟩ := DataW.trod_int Try.underlying5 ht
      have hb := bounds_u8 w0
      refine ⟨k.toNat, fun _ => ⟨?_, by omega⟩⟩
      rw [show ((k.toNat : Nat) : Int) = k by omega]
      exact Array.toList_inj.1 e0
    · exact ⟨0, fun hn => absurd hn hi⟩
  refine ⟨(List.range n).map fun i => Classical.choose (hex i), ?_, ?_⟩
  · intro q hq
    obtain ⟨i, hi, rfl⟩ := List.mem_map.1 hq
    exact ((Classical.choose_spec (hex i)) (by simpa using hi)).2
  · have hlen : ((List.range n).map fun i => Classical.choose (hex i)).length = n := by simp
    rw [hlen]
    obtain ⟨a, c, rfl, hm, hc⟩ := hS
    refine ⟨a, c, rfl, hm, fun h0 => ?_⟩
    obtain ⟨b, off, rfl, hb, hcell⟩ := hc h0
    refine ⟨b, off, rfl, hb, fun i hi j hj => ?_⟩
    rw [hcell i hi j hj, (Classical.choose_spec (hex i) hi).1]
    simp [elB, List.getD, hi]
theorem nat_u64 {n : Int} (h : (Lit.int .u64 n).wf = true) : ∃ k : Nat, n = k ∧ k < 18446744073709551616 := ⟨n.toNat, by have := bounds_u64 h; omega, by have := bounds_u64 h; omega⟩
theorem cap_in {H : Type} {enc : TypeId × Value → H} {P : Program} {W : World} {base : Nat} {t e : TypeId} {v : Value} {d : DataW H} {p : List MemPlace} (ht : P.underlying t = some (.slice e)) (hv : Value.okWide P W .any base t v) (h : DataW.Trod enc P W 0 (fun _ => true) true t v d p) :
    ∀ (a : Option Addr) (n c : Nat), v = .slice a n c → n ≤ c := by
  intro a n c e0
  subst e0
  obtain ⟨fuel, hf⟩ := h
  rcases open_slice ht hf with ⟨hcs, _⟩ | ⟨a, len, cap, m, n, D, Pl, hcs, _, hl, hm, hmm, _, hi⟩
  · simp [Value.cells] at hcs
    omega
  · simp [Value.cells] at hcs
    omega
theorem take_sl {w : World} {a : Option Addr} {c : Nat} {l : List Nat} (W : Nat) (h : Sl w 1 l.length (.slice a l.length c) (elB l)) (hW : W ≤ l.length) : Sl w 1 (l.take W).length (.slice a (l.take W).length c) (elB (l.take W)) := by
  have hm : (l.take W).length = W := by rw [List.length_take]; exact Nat.min_eq_left hW
  obtain ⟨a', c', e, hml, hc⟩ := h
  injection e with e1 e2 e3
  subst e1
  refine ⟨a, c, rfl, by rw [hm]; exact Nat.le_trans hW hml, fun h0 => ?_⟩
  rw [hm] at h0
  obtain ⟨b, off, rfl, hb, hcell⟩ := hc (by omega)
  refine ⟨b, off, rfl, hb, fun i hi j hj => ?_⟩
  rw [hm] at hi
  rw [hcell i (by omega) j hj]
  simp [elB, List.getD, List.getElem?_take, hi]
end Go.Proofs.Ytjghcmejmdllbaa

namespace Go.Proofs.Ytjghcmejmdllbaa
open Go.ChangeShapes Go.WideShapes Go.ChangeAt Go.RowKit
set_option linter.unusedVariables false
set_option linter.unusedSimpArgs false
theorem cut_get (l : List Value) (off n j : Nat) (hj : j < n) : l.toArray[off + j]? = ((l.drop off).take n).toArray[j]? := by
  simp [List.getElem?_take, hj]
section
variable {P : Program} {ops : Array Oper} {a : Act} {w : World} {o : Oper} {N : Act → World → Prop}
/-- Some cells of a row that is written out, loaded as a struct. -/
theorem Stp.ldl {tg : TypeId} {B : Nat} {w0 : World} {L : List Res} {ty : TypeId} {x : Operand} {g off n : Nat} {l : List Value} (ho : o.op = .load ty x) (hagg : ∀ W : World, (isAgg ty).run P W = .ok true W) (hs : ∀ W : World, (sizeOf ty).run P W = .ok n W) (hx : a.eval x = .pointer (some ⟨g, off, none⟩)) (H : St B w0 w L)
    (hm : row tg g l.toArray ∈ L) (hn : ((l.drop off).take n).toArray.size = n) (h : N (a.put o.dst (.agg ((l.drop off).take n).toArray)) w) : Stp P o a w N :=
  Stp.ldx ho hagg hs hx H hm (cut_get l off n) hn h
theorem Yld.ldl {tg : TypeId} {B : Nat} {w0 : World} {L : List Res} {ty : TypeId} {x : Operand} {g off n : Nat} {l : List Value} (hw : Region.wanted o (yielded ops a.tmps) = true) (ho : o.op = .load ty x) (hagg : ∀ W : World, (isAgg ty).run P W = .ok true W) (hs : ∀ W : World, (sizeOf ty).run P W = .ok n W) (hx : a.eval x = .pointer (some ⟨g, off, none⟩))
    (hm : row tg g l.toArray ∈ L) (hn : ((l.drop off).take n).toArray.size = n) : YieldsIf P ops (fun W => St B w0 W L) o (.agg ((l.drop off).take n).toArray) a :=
  .inl ⟨hw, fun W H => by
    have hc' : ∀ j, j < ((l.drop off).take n).toArray.size → W.cell? ⟨g, off + j, none⟩ = ((l.drop off).take n).toArray[j]? := fun j hj => (cell_of_rowAt (H.getRow hm) (off + j)).trans (cut_get l off n j (by rw [hn] at hj; exact hj))
    have hs' : ∀ W : World, (sizeOf ty).run P W = .ok ((l.drop off).take n).toArray.size W := by rw [hn]; exact hs
    unfold execOp; simp only [ho, hx, Instr.loadAt, Instr.sureAddr]
    simp [run_load_range hc' hagg hs']⟩
/-- Some cells of a row that is written out, stored anew. -/
theorem Stp.stl {tg : TypeId} {B : Nat} {w0 : World} {L L' : List Res} {ty : TypeId} {x y : Operand} {g off n : Nat} {l m : List Value} (ho : o.op = .store ty x y) (hs : ∀ W : World, (sizeOf ty).run P W = .ok n W) (hx : a.eval x = .pointer (some ⟨g, off, none⟩)) (hy : a.eval y = .agg m.toArray) (h1 : m.all (·.oneCell') = true) (hm : m.length = n) (H : St B w0 w L)
    (hu : Upd L (row tg g l.toArray) (row tg g (l.take off ++ m ++ l.drop (off + n)).toArray) L') (hin : off + n ≤ l.length) (h : ∀ w', St B w0 w' L' → N (a.put o.dst undef) w') : Stp P o a w N := by
  have ht := H.getHeap hu.mem
  have hst : (storeCells ⟨g, off, none⟩ m).run P w = .ok () (w.setRow g (l.take off ++ m ++ l.drop (off + n)).toArray) := by
    have := run_storeCells_at (P := P) g off tg m 0 l.toArray w ht (by simp; omega) (fun v hv => (List.all_eq_true.1 h1) v hv)
    simpa [hm] using this
  refine ⟨w.setRow g (l.take off ++ m ++ l.drop (off + n)).toArray, .inr ⟨?_, h _ ?_⟩⟩
  · unfold execOp; simp only [ho, hx, hy, Instr.storeAt, Instr.sureAddr]
    simp [storeVar, hs, Value.cells, hm, hst]
  · exact H.upd hu (grownBy_setRow w g _) (row_sound (setRow_heap w g _ _ tg _ ht)) (fun k hk => .inl hk)
/-- x[k:] of a slice with elements of one cell. -/
theorem run_from {ty e : TypeId} {A : Option Addr} {n c k : Nat} {kd : IntKind} (ht : P.underlying ty = some (.slice e)) (hs : ∀ W : World, (sizeOf e).run P W = .ok 1 W) (hk : k ≤ n) (W : World) :
    (Instr.slice ty (.slice A n c) (some (.int kd (k : Int))) none none).run P W = .ok (.slice (if c = k then A else A.map (·.add k)) (n - k) (c - k)) W := by
  simp [Instr.slice, Instr.sliceBounds, Instr.sliceBound, asIntOf, run_underlying ht, hs, hk]
theorem Stp.slfrom {ty e : TypeId} {x y : Operand} {A : Option Addr} {n c k : Nat} {kd : IntKind} {z : Int} (d : Tmp) (hd : o.dst = some d) (ho : o.op = .slice ty x (some y) none none) (ht : P.underlying ty = some (.slice e)) (hs : ∀ W : World, (sizeOf e).run P W = .ok 1 W)
    (hx : a.eval x = .slice A n c) (hy : a.eval y = .int kd z) (hz : z = (k : Int)) (hk : k ≤ n) (h : ∀ A', A' = (if c = k then A else A.map (·.add k)) → N (a.put (some d) (.slice A' (n - k) (c - k))) w) : Stp P o a w N := by
  rw [← hd] at h
  subst hz
  refine ⟨w, .inl ⟨_, ?_, h _ rfl⟩⟩
  unfold execOp; simp only [ho]
  simp [hx, hy, Instr.sliceAt, run_underlying ht, run_from ht hs hk]
theorem Yld.slfrom {S : World → Prop} {ty e : TypeId} {x y : Operand} {A A' : Option Addr} {n c k : Nat} {kd : IntKind} {z : Int} (hw : Region.wanted o (yielded ops a.tmps) = true) (ho : o.op = .slice ty x (some y) none none) (ht : P.underlying ty = some (.slice e)) (hs : ∀ W : World, (sizeOf e).run P W = .ok 1 W)
    (hx : a.eval x = .slice A n c) (hy : a.eval y = .int kd z) (hz : z = (k : Int)) (hk : k ≤ n) (hA : A' = (if c = k then A else A.map (·.add k))) : YieldsIf P ops S o (.slice A' (n - k) (c - k)) a := by
  subst hz hA
  refine .inl ⟨hw, fun W _ => ?_⟩
  unfold execOp; simp only [ho]
  simp [hx, hy, Instr.sliceAt, run_underlying ht, run_from ht hs hk]
theorem post_row2 {fn : Func} {R : Ending → World → Prop} {p x : Tmp} {ty : TypeId} {B : Nat} {w0 : World} {L : List Res} {tg : TypeId} {g : Nat} {cs : Array Value} {n : Nat} (hr : fn.results = #[.cell p ty, .tmp x])
    (hagg : ∀ W : World, (isAgg ty).run P W = .ok true W) (hs : ∀ W : World, (sizeOf ty).run P W = .ok n W) (hp : a.tmps.getD p undef = .pointer (some ⟨g, 0, none⟩)) (H : St B w0 w L) (hm : row tg g cs ∈ L) (hn : cs.size = n)
    (hd : a.defers = []) (hR : R (.returned (.tuple #[.agg cs, a.tmps.getD x undef])) w) : bodyPost P fn R .ret a w := by
  refine bodyPost_ret ?_ hd hR
  have hp' : a.tmps[p]?.getD undef = .pointer (some ⟨g, 0, none⟩) := by simpa using hp
  simp [results, hr, hp', asAddr, run_load_row (H.getRow hm) hagg (by rw [hn]; exact hs)]
theorem post_row3 {fn : Func} {R : Ending → World → Prop} {p x y : Tmp} {ty : TypeId} {B : Nat} {w0 : World} {L : List Res} {tg : TypeId} {g : Nat} {cs : Array Value} {n : Nat} (hr : fn.results = #[.cell p ty, .tmp x, .tmp y])
    (hagg : ∀ W : World, (isAgg ty).run P W = .ok true W) (hs : ∀ W : World, (sizeOf ty).run P W = .ok n W) (hp : a.tmps.getD p undef = .pointer (some ⟨g, 0, none⟩)) (H : St B w0 w L) (hm : row tg g cs ∈ L) (hn : cs.size = n)
    (hd : a.defers = []) (hR : R (.returned (.tuple #[.agg cs, a.tmps.getD x undef, a.tmps.getD y undef])) w) : bodyPost P fn R .ret a w := by
  refine bodyPost_ret ?_ hd hR
  have hp' : a.tmps[p]?.getD undef = .pointer (some ⟨g, 0, none⟩) := by simpa using hp
  simp [results, hr, hp', asAddr, run_load_row (H.getRow hm) hagg (by rw [hn]; exact hs)]
end
end Go.Proofs.Ytjghcmejmdllbaa

namespace Go.Proofs.Ytjghcmejmdllbaa
open Go.ChangeShapes Go.WideShapes Go.ChangeAt Go.RowKit
set_option linter.unusedVariables false
set_option linter.unusedSimpArgs false
theorem Sl.of_ownN {w : World} {b : Nat} {e : TypeId} {size : Nat} {v : Value} {n : Nat} {xs : List Value} {E : Nat → Array Value} (h : w.ownsRow b e size v n xs) (hE : ∀ i, i < n → ∀ j, j < size → xs[i * size + j]? = (E i)[j]?) (hm : n ≤ maxLen) : Sl w size n v E := by
  rcases h.2 with ⟨rfl, rfl⟩ | ⟨g, cap, cur, rfl, hbg, hgc, hnc, hcm, hcs, htake⟩
  · exact ⟨_, _, rfl, by simp [maxLen], fun h => absurd h (Nat.lt_irrefl _)⟩
  · refine Sl.of_row (rowAt_of hgc) hm (fun i hi j hj => ?_)
    rw [← hE i hi j hj, ← htake, List.getElem?_take]
    have : i * size + j < n * size := by
      have h1 : (i + 1) * size ≤ n * size := Nat.mul_le_mul_right _ hi
      rw [Nat.add_mul] at h1
      omega
    simp [this]
theorem St.swap {B : Nat} {w0 w : World} {L : List Res} {r s : Res} (H : St B w0 w (r :: s :: L)) : St B w0 w (s :: r :: L) := H.perm (.swap s r L)
/-- What an act is behind a value laid: one rule made of several. -/
theorem putS : (∀ (a : Act) (d : Tmp) (v : Value), a.put (some d) v = { a with tmps := a.tmps.setIfInBounds d v }) ∧ (∀ (l : List Value) (i : Nat) (x : Value), l.toArray.setIfInBounds i x = (l.set i x).toArray) ∧ (∀ (x y : Value) (l : List Value), (y :: l).set 0 x = x :: l) ∧ (∀ (x y : Value) (l : List Value) (n : Nat), (y :: l).set (n + 1) x = y :: l.set n x) :=
  ⟨fun _ _ _ => rfl, fun l i x => by simp, fun _ _ _ => rfl, fun _ _ _ _ => rfl⟩
theorem putE : (∀ (a : Act) (d : Tmp) (v : Value), a.put (some d) v = { a with tmps := a.tmps.setIfInBounds d v }) ∧ (∀ (l : List Value) (i : Nat) (x : Value), l.toArray.setIfInBounds i x = (l.set i x).toArray) ∧ (∀ (x y : Value) (l : List Value), (y :: l).set 0 x = x :: l) ∧ (∀ (x y : Value) (l : List Value) (n : Nat), (y :: l).set (n + 1) x = y :: l.set n x) ∧ (∀ (a : Act) (t : Tmp), a.eval (.tmp t) = a.tmps.getD t undef) ∧ (∀ (a : Act) (v : Value), a.eval (.const v) = v) ∧ (∀ (v : Value) (l : List Value) (d : Value), (List.toArray (v :: l)).getD 0 d = v) ∧ (∀ (v : Value) (l : List Value) (n : Nat) (d : Value), (List.toArray (v :: l)).getD (n + 1) d = (List.toArray l).getD n d) ∧ (∀ (x y : Value), (if (true : Bool) = true then x else y) = x) :=
  ⟨putS.1, putS.2.1, putS.2.2.1, putS.2.2.2, fun _ _ => rfl, fun _ _ => rfl, fun _ _ _ => rfl, fun _ _ _ _ => by simp, fun _ _ => rfl⟩
/-- A region is left in a known state, and then the rest. -/
theorem cut {P : Program} {c : Code} {Q : Exit → Act → World → Prop} {a : Act} {w : World} (F : Act → Act → World → Prop) (h : c.wp P (fun e a' w' => e = .normal ∧ F a a' w') a w) (hq : ∀ a' w', F a a' w' → Q .normal a' w') : c.wp P Q a w :=
  Code.wp_mono (fun e a' w' he => by obtain ⟨rfl, hf⟩ := he; exact hq a' w' hf) h
theorem St.gr {B : Nat} {w0 w : World} {L : List Res} {g : Nat} {cs : Array Value} (t : TypeId) (H : St B w0 w L) (h : row t g cs ∈ L := by repeat (first | exact List.mem_cons_self | apply List.mem_cons_of_mem)) : rowAt w g = some cs := H.getRow h
theorem newN {w : World} {g : Nat} {cs : Array Value} (h : rowAt w g = some cs) : ∀ j u, cs.toList[j]? = some u → w.cell? ((⟨g, 0, none⟩ : Addr).add j) = some u := fun j u hu => by
  have : (⟨g, 0, none⟩ : Addr).add j = ⟨g, j, none⟩ := by unfold Addr.add; split <;> simp_all
  rw [this, cell_of_rowAt h]; simpa using hu
section
variable {P : Program} {ops : Array Oper} {Q : Exit → Act → World → Prop} {S : World → Prop} {a : Act} {w : World}
theorem ra {l : List Oper} (rs : List Nat) {fuel : Nat} {listed : Array Bool} (h : AllReadyH P .any l.toArray (NoPanic Q) S fuel listed a w rs) (hr : Region.ready .any l.toArray listed = rs := by kernel_rfl) (hne : rs ≠ [] := by simp) : wpAnyH P .any l.toArray (NoPanic Q) S (fuel + 1) listed a w :=
  wpAnyH_ready hr hne h
theorem rc {l : List Oper} (i : Nat) {o : Oper} {fuel : Nat} {listed : Array Bool} {rs : List Nat} (ho : l[i]? = some o)
    (h : ∀ K : Act → World → Prop, Shut (∀ a w, S w → wpAnyH P .any l.toArray (NoPanic Q) S fuel (listed.setIfInBounds i true) a w → K a w) → Oper.wp P o a w K (NoPanic Q)) (hs : AllReadyH P .any l.toArray (NoPanic Q) S fuel listed a w rs) (hw : Region.wanted o (yielded l.toArray a.tmps) = true := by rfl) : AllReadyH P .any l.toArray (NoPanic Q) S fuel listed a w (i :: rs) :=
  AllReadyH.cons (by simpa using ho) (fun K hK => by rw [if_pos hw]; exact h K (fun a w hS hW => hK.out a w hS (fun _ => hW))) hs
theorem rt {l : List Oper} {oi : Oper} {v : Value} {fuel : Nat} {listed : Array Bool} (i : Nat) (hi : l[i]? = some oi) (hy : YieldsIf P l.toArray S oi v a) (hS : S w) (h : wpAnyH P .any l.toArray (NoPanic Q) S fuel (listed.setIfInBounds i true) (a.put oi.dst v) w)
    (hs : Region.noSelect l.toArray = true := by kernel_rfl) (hf : Region.free .any l.toArray listed i = true := by kernel_rfl) (hr : (Region.ready .any l.toArray listed).contains i = true := by kernel_rfl) : wpAnyH P .any l.toArray (NoPanic Q) S (fuel + 1) listed a w :=
  rg_take hi hs hf hr hy hS h
theorem rg_all {l : List Oper} {rs : List Nat} {fuel : Nat} {listed : Array Bool} (hr : Region.ready .any l.toArray listed = rs) (hne : rs ≠ []) (h : AllReadyH P .any l.toArray (NoPanic Q) S fuel listed a w rs) : wpAnyH P .any l.toArray (NoPanic Q) S (fuel + 1) listed a w :=
  wpAnyH_ready hr hne h
theorem rg_cons {l : List Oper} {i : Nat} {o : Oper} {fuel : Nat} {listed : Array Bool} {rs : List Nat} (ho : l[i]? = some o) (hw : Region.wanted o (yielded l.toArray a.tmps) = true)
    (h : ∀ K : Act → World → Prop, Shut (∀ a w, S w → wpAnyH P .any l.toArray (NoPanic Q) S fuel (listed.setIfInBounds i true) a w → K a w) → Oper.wp P o a w K (NoPanic Q)) (hs : AllReadyH P .any l.toArray (NoPanic Q) S fuel listed a w rs) : AllReadyH P .any l.toArray (NoPanic Q) S fuel listed a w (i :: rs) :=
  AllReadyH.cons (by simpa using ho) (fun K hK => by rw [if_pos hw]; exact h K (fun a w hS hW => hK.out a w hS (fun _ => hW))) hs
end
end Go.Proofs.Ytjghcmejmdllbaa

namespace Go.Proofs.Ytjghcmejmdllbaa
open Go.ChangeShapes Go.WideShapes Go.ChangeAt Go.RowKit
set_option linter.unusedVariables false
set_option linter.unusedSimpArgs false
theorem Sl.cell {w : World} {size n b off c : Nat} {E : Nat → Array Value} (h : Sl w size n (.slice (some ⟨b, off, none⟩) n c) E) {i : Nat} (hi : i < n) : ∀ j, j < size → w.cell? ⟨b, off + i * size + j, none⟩ = (E i)[j]? := by
  obtain ⟨a, c', e, hm, hE⟩ := h
  injection e with e1 e2 e3
  obtain ⟨b', off', e4, hb, hc⟩ := hE (by omega)
  rw [← e1] at e4
  cases e4
  exact fun j hj => hc i hi j hj
theorem Sl.addr {w : World} {size n c : Nat} {a : Option Addr} {E : Nat → Array Value} (h : Sl w size n (.slice a n c) E) (hn : 0 < n) : ∃ b off, a = some ⟨b, off, none⟩ ∧ b < w.heap.size := by
  obtain ⟨a', c', e, hm, hE⟩ := h
  injection e with e1 e2 e3
  obtain ⟨b', off', e4, hb, hc⟩ := hE hn
  exact ⟨b', off', e1.trans e4, hb⟩
section
variable {P : Program} {ops : Array Oper} {a : Act} {w : World} {o : Oper} {N : Act → World → Prop}
/-- A struct loaded whose cells are known now. -/
theorem Stp.ldq {ty : TypeId} {x : Operand} {b off n : Nat} {cs : Array Value} (ho : o.op = .load ty x) (hagg : ∀ W : World, (isAgg ty).run P W = .ok true W) (hs : ∀ W : World, (sizeOf ty).run P W = .ok n W) (hx : a.eval x = .pointer (some ⟨b, off, none⟩))
    (hc : ∀ j, j < n → w.cell? ⟨b, off + j, none⟩ = cs[j]?) (hn : cs.size = n) (h : N (a.put o.dst (.agg cs)) w) : Stp P o a w N := by
  refine ⟨w, .inl ⟨_, ?_, h⟩⟩
  subst hn
  unfold execOp; simp only [ho, hx, Instr.loadAt, Instr.sureAddr]
  simp [run_load_range hc hagg hs]
/-- A cell loaded that is known now. -/
theorem Stp.ldq1 {ty : TypeId} {x : Operand} {b off : Nat} {v : Value} (ho : o.op = .load ty x) (hagg : ∀ W : World, (isAgg ty).run P W = .ok false W) (hx : a.eval x = .pointer (some ⟨b, off, none⟩)) (hc : w.cell? ⟨b, off, none⟩ = some v) (h : N (a.put o.dst v) w) : Stp P o a w N := by
  refine ⟨w, .inl ⟨v, ?_, h⟩⟩
  unfold execOp; simp only [ho, hx, Instr.loadAt, Instr.sureAddr]
  simp [loadVar, hagg, hc]
end
end Go.Proofs.Ytjghcmejmdllbaa

namespace Go.Proofs.Ytjghcmejmdllbaa
open Go.ChangeShapes Go.WideShapes Go.ChangeAt Go.RowKit Go.Maps
set_option linter.unusedVariables false
set_option linter.unusedSimpArgs false
set_option linter.unusedSectionVars false
section
variable {α β : Type} [DecidableEq α]
/-- A pair laid into a map's pairs. -/
def mput (M : List (α × β)) (a : α) (v : β) : List (α × β) := if M.any (fun p => decide (p.1 = a)) = true then M.map (fun p => if p.1 = a then (a, v) else p) else M ++ [(a, v)]
def mget (M : List (α × β)) (a : α) : Option β := (M.find? fun p => decide (p.1 = a)).map (·.2)
theorem mget_nil (a : α) : mget ([] : List (α × β)) a = none := rfl
theorem mget_none {M : List (α × β)} {a : α} : mget M a = none ↔ ∀ p ∈ M, p.1 ≠ a := by
  unfold mget
  simp [List.find?_eq_none]
theorem mget_mem {M : List (α × β)} {a : α} {v : β} (h : mget M a = some v) : (a, v) ∈ M := by
  unfold mget at h
  obtain ⟨p, hp, rfl⟩ := Option.map_eq_some_iff.1 h
  have h1 := List.find?_some hp
  have h2 := List.mem_of_find?_eq_some hp
  have h3 : p.1 = a := by simpa using h1
  subst h3
  exact h2
theorem mget_put_same (M : List (α × β)) (a : α) (v : β) : mget (mput M a v) a = some v := by
  unfold mput mget
  split
  · rename_i h
    induction M with
    | nil => simp at h
    | cons p M ih =>
      by_cases hp : p.1 = a
      · simp [List.find?_cons, hp]
      · simp only [List.any_cons, hp, decide_false, Bool.false_or] at h
        simp only [List.map_cons, hp, if_false, List.find?_cons, decide_false]
        exact ih h
  · rename_i h
    have hn : M.find? (fun p => decide (p.1 = a)) = none := by
      rw [List.find?_eq_none]
      intro p hp hc
      exact h (List.any_eq_true.2 ⟨p, hp, hc⟩)
    rw [List.find?_append, hn]
    simp
theorem mget_put_other (M : List (α × β)) (a b : α) (v : β) (hb : b ≠ a) : mget (mput M a v) b = mget M b := by
  unfold mput mget
  split
  · rename_i h
    clear h
    induction M with
    | nil => rfl
    | cons p M ih =>
      by_cases hp : p.1 = a
      · have h1 : p.1 ≠ b := fun e => hb (e.symm.trans hp)
        simp only [List.map_cons, hp, if_true, List.find?_cons]
        rw [decide_eq_false (fun e => hb e.symm)]
        exact ih
      · simp only [List.map_cons, hp, if_false, List.find?_cons]
        by_cases hq : p.1 = b
        · simp [hq]
        · rw [decide_eq_false hq]
          exact ih
  · rw [List.find?_append]
    cases M.find? (fun p => decide (p.1 = b)) with
    | some p => rfl
    | none => simp [Ne.symm hb]
theorem mget_put (M : List (α × β)) (a b : α) (v : β) : mget (mput M a v) b = if b = a then some v else mget M b := by
  by_cases h : b = a
  · subst h; rw [if_pos rfl, mget_put_same]
  · rw [if_neg h, mget_put_other _ _ _ _ h]
theorem mput_len (M : List (α × β)) (a : α) (v : β) : (mput M a v).length = if (mget M a).isSome then M.length else M.length + 1 := by
  unfold mput mget
  by_cases h : M.any (fun p => decide (p.1 = a)) = true
  · rw [if_pos h, List.length_map]
    obtain ⟨p, hp, hc⟩ := List.any_eq_true.1 h
    cases hf : M.find? (fun p => decide (p.1 = a)) with
    | none => exact absurd hc (by simpa using List.find?_eq_none.1 hf p hp)
    | some q => simp
  · rw [if_neg h]
    have hn : M.find? (fun p => decide (p.1 = a)) = none := by
      rw [List.find?_eq_none]
      intro p hp hc
      exact h (List.any_eq_true.2 ⟨p, hp, hc⟩)
    rw [hn]
    simp
theorem mput_keys (M : List (α × β)) (a : α) (v : β) : (mput M a v).map (·.1) = if (mget M a).isSome then M.map (·.1) else M.map (·.1) ++ [a] := by
  unfold mput mget
  by_cases h : M.any (fun p => decide (p.1 = a)) = true
  · rw [if_pos h]
    obtain ⟨p, hp, hc⟩ := List.any_eq_true.1 h
    cases hf : M.find? (fun p => decide (p.1 = a)) with
    | none => exact absurd hc (by simpa using List.find?_eq_none.1 hf p hp)
    | some q =>
      simp only [Option.map_some, Option.isSome_some, if_true, List.map_map]
      apply List.map_congr_left
      intro x hx
      by_cases hxa : x.1 = a
      · simp [hxa]
      · simp [hxa]
  · rw [if_neg h]
    have hn : M.find? (fun p => decide (p.1 = a)) = none := by
      rw [List.find?_eq_none]
      intro p hp hc
      exact h (List.any_eq_true.2 ⟨p, hp, hc⟩)
    rw [hn]
    simp
end
section
variable {α β : Type} [DecidableEq α] {P : Program} {k e t : TypeId} {ek : α → Value} {ev : β → Value} {w : World} {b : Nat} {M : List (α × β)}
/-- Block b is a map of the pairs M, in the order in which they came. -/
def MapAt (P : Program) (k : TypeId) (ek : α → Value) (ev : β → Value) (b : Nat) (M : List (α × β)) (w : World) : Prop :=
  ∃ es clock, w.heap[b]? = some (.map es clock) ∧ MapKept.Stamped es clock ∧ es.toList.map (fun x => (x.key, x.val)) = M.map (fun p => (ek p.1, ev p.2)) ∧ ∀ p ∈ M, ∃ l, keyOf P k (ek p.1) = some l
def mapr (P : Program) (k : TypeId) (ek : α → Value) (ev : β → Value) (b : Nat) (M : List (α × β)) : Res := (fun g => some b = some g, MapAt P k ek ev b M)
theorem mapr_loc (P : Program) (k : TypeId) (ek : α → Value) (ev : β → Value) (b : Nat) (M : List (α × β)) : Loc (mapr P k ek ev b M) := fun _ _ hb ⟨es, clock, h, h2⟩ => ⟨es, clock, (hb b rfl).trans h, h2⟩
theorem mapr_sound (h : MapAt P k ek ev b M w) : Sound (mapr P k ek ev b M) w :=
  ⟨h, fun g hg => by cases hg; obtain ⟨es, clock, h, _⟩ := h; exact (Array.getElem?_eq_some_iff.1 h).1, mapr_loc _ _ _ _ _ _⟩
theorem MapAt.nodup (hi : ∀ x y, ek x = ek y → x = y) (h : MapAt P k ek ev b M w) : M.Pairwise fun p q => p.1 ≠ q.1 := by
  obtain ⟨es, clock, _, hs, he, _⟩ := h
  have h3 := ((MapKept.stamped_iff es clock).1 hs).2.2
  have h4 : (es.toList.map fun x => (x.key, x.val)).Pairwise fun p q => p.1 ≠ q.1 := by rw [List.pairwise_map]; exact h3
  rw [he, List.pairwise_map] at h4
  exact h4.imp fun {p q} hne e => hne (by rw [e])
theorem mget_of_mem {M : List (α × β)} (hn : M.Pairwise fun p q => p.1 ≠ q.1) {p : α × β} (hp : p ∈ M) : mget M p.1 = some p.2 := by
  induction M with
  | nil => cases hp
  | cons q M ih =>
    obtain ⟨h1, h2⟩ := List.pairwise_cons.1 hn
    unfold mget
    rcases List.mem_cons.1 hp with rfl | hp
    · simp [List.find?_cons]
    · have := h1 p hp
      rw [List.find?_cons, decide_eq_false this]
      exact ih h2 hp
/-- Where a key stands, or that it stands nowhere. -/
theorem MapAt.find (K : Keyed P k) (hi : ∀ x y, ek x = ek y → x = y) {es : Array MapEntry} {clock : Nat} (hs : MapKept.Stamped es clock) (he : es.toList.map (fun x => (x.key, x.val)) = M.map (fun p => (ek p.1, ev p.2)))
    (hk : ∀ p ∈ M, ∃ l, keyOf P k (ek p.1) = some l) (hM : M.Pairwise fun p q => p.1 ≠ q.1) (w : World) {a : α} {l : Lit} (ha : keyOf P k (ek a) = some l) :
    (mget M a = none ∧ (Instr.findKey k (ek a) es.toList).run P w = .ok none w ∧ ∀ x ∈ es.toList, x.key ≠ ek a) ∨
    ∃ j v x, mget M a = some v ∧ (Instr.findKey k (ek a) es.toList).run P w = .ok (some (j, ev v)) w ∧ es.toList[j]? = some x ∧ x.key = ek a ∧ x.val = ev v ∧ M[j]? = some (a, v) := by
  have hkeys : ∀ x ∈ es.toList, ∃ l, keyOf P k x.key = some l := fun x hx => by
    have : (x.key, x.val) ∈ M.map (fun p => (ek p.1, ev p.2)) := by rw [← he]; exact List.mem_map.2 ⟨x, hx, rfl⟩
    obtain ⟨p, hp, e⟩ := List.mem_map.1 this
    obtain ⟨l, hl⟩ := hk p hp
    refine ⟨l, ?_⟩
    rw [← hl]
    injection e with e1 _
    rw [e1]
  rcases K.find w ha es.toList hkeys with ⟨h1, h2⟩ | ⟨j, x, h1, h2, h3⟩
  · refine .inl ⟨?_, h1, h2⟩
    rw [mget_none]
    intro p hp hpa
    have : (ek p.1, ev p.2) ∈ es.toList.map (fun x => (x.key, x.val)) := by rw [he]; exact List.mem_map.2 ⟨p, hp, rfl⟩
    obtain ⟨x, hx, e⟩ := List.mem_map.1 this
    injection e with e1 _
    exact h2 x hx (by rw [e1, hpa])
  · have hj : (es.toList.map fun x => (x.key, x.val))[j]? = some (x.key, x.val) := by rw [List.getElem?_map, h2]; rfl
    rw [he, List.getElem?_map] at hj
    obtain ⟨p, hp, e⟩ := Option.map_eq_some_iff.1 hj
    injection e with e1 e2
    have hpa : p.1 = a := hi _ _ (by rw [e1, h3])
    have hg := mget_of_mem hM (List.mem_of_getElem? hp)
    rw [hpa] at hg
    refine .inr ⟨j, p.2, x, hg, ?_, h2, h3, e2.symm, ?_⟩
    · rw [h1, e2]
    · rw [hp, ← hpa]
theorem run_look (c : Bool) (K : Keyed P k) (hi : ∀ x y, ek x = ek y → x = y) (ht : P.underlying t = some (.map k e)) {z : Value} (hz : (zeroValue e).run P w = .ok z w) (h : MapAt P k ek ev b M w) {a : α} {l : Lit} (ha : keyOf P k (ek a) = some l) :
    (Instr.lookup t (.map (some b)) (ek a) c).run P w = .ok (if c then .tuple #[((mget M a).map ev).getD z, .bool (mget M a).isSome] else ((mget M a).map ev).getD z) w := by
  have hM := h.nodup hi
  obtain ⟨es, clock, hb, hs, he, hk⟩ := h
  rcases MapAt.find K hi hs he hk hM w ha with ⟨hg, h1, _⟩ | ⟨j, v, x, hg, h1, _⟩
  · rw [hg]
    simp [Instr.lookup, run_underlying ht, MapKept.run_getObj_map hb, K.check w _ ha, h1, hz, Result.andThen]
  · rw [hg]
    simp [Instr.lookup, run_underlying ht, MapKept.run_getObj_map hb, K.check w _ ha, h1, Result.andThen]
theorem map_modify {γ δ : Type} (f : γ → δ) (es : Array γ) (j : Nat) (g : γ → γ) (x : γ) (hx : es.toList[j]? = some x) : (es.modify j g).toList.map f = (es.toList.map f).set j (f (g x)) := by
  apply List.ext_getElem?
  intro i
  rw [List.getElem?_map, Array.getElem?_toList, Array.getElem?_modify, List.getElem?_set]
  by_cases hij : j = i
  · subst hij
    have hlt : j < es.toList.length := (List.getElem?_eq_some_iff.1 hx).1
    have hx' : es[j]? = some x := by simpa using hx
    have hl2 : j < es.size := by simpa using hlt
    have e : es[j] = x := by
      rw [Array.getElem?_eq_getElem hl2] at hx'; exact Option.some.inj hx'
    simp [hl2, e]
  · simp [hij]
theorem map_put {M : List (α × β)} (hM : M.Pairwise fun p q => p.1 ≠ q.1) {a : α} {v u : β} {j : Nat} (hj : M[j]? = some (a, u)) : M.map (fun p => if p.1 = a then (a, v) else p) = M.set j (a, v) := by
  induction M generalizing j with
  | nil => cases hj
  | cons p M ih =>
    obtain ⟨h1, h2⟩ := List.pairwise_cons.1 hM
    cases j with
    | zero =>
      simp only [List.getElem?_cons_zero, Option.some.injEq] at hj
      subst hj
      simp only [List.map_cons, if_true, List.set_cons_zero, List.cons.injEq, true_and]
      conv => rhs; rw [← List.map_id M]
      apply List.map_congr_left
      intro q hq
      rw [if_neg (fun e => h1 q hq e.symm)]
      rfl
    | succ j =>
      rw [List.getElem?_cons_succ] at hj
      have : p.1 ≠ a := h1 _ (List.mem_of_getElem? hj)
      rw [List.map_cons, if_neg this, List.set_cons_succ, ih h2 hj]
theorem mput_set {M : List (α × β)} (hM : M.Pairwise fun p q => p.1 ≠ q.1) {a : α} {v u : β} {j : Nat} (hj : M[j]? = some (a, u)) : mput M a v = M.set j (a, v) := by
  unfold mput
  rw [if_pos (List.any_eq_true.2 ⟨_, List.mem_of_getElem? hj, by simp⟩), map_put hM hj]
theorem mput_new {M : List (α × β)} {a : α} {v : β} (h : mget M a = none) : mput M a v = M ++ [(a, v)] := by
  unfold mput
  rw [if_neg]
  intro hc
  obtain ⟨p, hp, e⟩ := List.any_eq_true.1 hc
  exact mget_none.1 h p hp (by simpa using e)
theorem keys_put {M : List (α × β)} {a : α} {v : β} {l : Lit} (hk : ∀ p ∈ M, ∃ l, keyOf P k (ek p.1) = some l) (ha : keyOf P k (ek a) = some l) : ∀ p ∈ mput M a v, ∃ l, keyOf P k (ek p.1) = some l := by
  intro p hp
  unfold mput at hp
  split at hp
  · obtain ⟨q, hq, rfl⟩ := List.mem_map.1 hp
    split
    · exact ⟨l, ha⟩
    · exact hk q hq
  · rcases List.mem_append.1 hp with h | h
    · exact hk p h
    · rw [List.mem_singleton] at h
      subst h
      exact ⟨l, ha⟩
theorem run_put (K : Keyed P k) (hi : ∀ x y, ek x = ek y → x = y) (ht : P.underlying t = some (.map k e)) (h : MapAt P k ek ev b M w) {a : α} {v : β} {l : Lit} (ha : keyOf P k (ek a) = some l) :
    ∃ w', (Instr.mapUpdate t (.map (some b)) (ek a) (ev v)).run P w = .ok () w' ∧ Grew (fun g => some b = some g) w w' ∧ MapAt P k ek ev b (mput M a v) w' := by
  have hM := h.nodup hi
  obtain ⟨es, clock, hb, hs, he, hk⟩ := h
  have hg : ∀ o, Grew (fun g => some b = some g) w (Go.ChangeMaps.setBlock w b o) := fun o => ⟨rfl, rfl, rfl, by simp [Go.ChangeMaps.setBlock], fun g hlt hne => (MapKept.heap_set hb).2 g (fun e => hne (by rw [e]))⟩
  rcases MapAt.find K hi hs he hk hM w ha with ⟨hgt, h1, h2⟩ | ⟨j, u, x, hgt, h1, h2, h3, h4, h5⟩
  · refine ⟨Go.ChangeMaps.setBlock w b (.map (es.push ⟨ek a, ev v, clock⟩) (clock + 1)), ?_, hg _, _, _, (MapKept.heap_set hb).1, MapKept.stamped_push hs h2, ?_, keys_put hk ha⟩
    · simp [Instr.mapUpdate, run_underlying ht, MapKept.run_getObj_map hb, K.check w false ha, h1, MapKept.run_setObj_map _ hb, Result.andThen, Go.ChangeMaps.setBlock]
    · rw [mput_new hgt]
      simp [he]
  · have hj : es[j]? = some x := by simpa using h2
    refine ⟨Go.ChangeMaps.setBlock w b (.map (es.modify j (fun e' => { e' with key := ek a, val := ev v })) clock), ?_, hg _, _, _, (MapKept.heap_set hb).1, MapKept.stamped_modify hs _ _ (fun _ _ => rfl) (fun e' _ he' => ?_), ?_, keys_put hk ha⟩
    · simp [Instr.mapUpdate, run_underlying ht, MapKept.run_getObj_map hb, K.check w false ha, h1, hj, h3, K.stays w ha, MapKept.run_setObj_map _ hb, Result.andThen, Go.ChangeMaps.setBlock]
    · rw [hj] at he'; cases he'; exact h3.symm
    · rw [map_modify _ _ _ _ x h2, he, mput_set hM h5, List.map_set]
end
section
variable {α β : Type} [DecidableEq α] {P : Program} {k e t : TypeId} {ek : α → Value} {ev : β → Value} {a : Act} {w : World} {o : Oper} {N : Act → World → Prop} {B : Nat} {w0 : World} {L : List Res} {M : List (α × β)} {b : Nat} {x y : Operand} {q : α} {l : Lit}
theorem Stp.mkmap (k : TypeId) (ek : α → Value) (ev : β → Value) (d : Tmp) (hd : o.dst = some d) (ho : o.op = .makeMap t none) (H : St B w0 w L)
    (h : ∀ g w', St B w0 w' (mapr P k ek ev g [] :: L) → N (a.put (some d) (.map (some g))) w') : Stp P o a w N := by
  rw [← hd] at h
  refine ⟨_, .inl ⟨_, ?_, h w.heap.size (w.alloc (.map #[] 0)) (H.new ((Below.refl _ _).alloc (Nat.le_refl _) _) (mapr_sound ⟨#[], 0, heap_alloc_new w _, MapKept.stamped_empty 0, rfl, by simp⟩) (fun g hg => by cases hg; exact Nat.le_refl _))⟩⟩
  unfold execOp; simp only [ho]; simp [run_makeMap]
theorem Stp.look (ho : o.op = .lookup t x y false) (K : Keyed P k) (hi : ∀ x y, ek x = ek y → x = y) (ht : P.underlying t = some (.map k e)) {z : Value} (hz : ∀ W : World, (zeroValue e).run P W = .ok z W) (hx : a.eval x = .map (some b)) (hy : a.eval y = ek q) (ha : keyOf P k (ek q) = some l) (H : St B w0 w L)
    (hm : mapr P k ek ev b M ∈ L) (h : N (a.put o.dst (((mget M q).map ev).getD z)) w) : Stp P o a w N := by
  refine ⟨w, .inl ⟨_, ?_, h⟩⟩
  unfold execOp; simp only [ho, hx, hy]
  simp [run_look false K hi ht (hz w) (H.get hm) ha]
theorem Stp.lookok (ho : o.op = .lookup t x y true) (K : Keyed P k) (hi : ∀ x y, ek x = ek y → x = y) (ht : P.underlying t = some (.map k e)) {z : Value} (hz : ∀ W : World, (zeroValue e).run P W = .ok z W) (hx : a.eval x = .map (some b)) (hy : a.eval y = ek q) (ha : keyOf P k (ek q) = some l) (H : St B w0 w L)
    (hm : mapr P k ek ev b M ∈ L) (h : N (a.put o.dst (.tuple #[((mget M q).map ev).getD z, .bool (mget M q).isSome])) w) : Stp P o a w N := by
  refine ⟨w, .inl ⟨_, ?_, h⟩⟩
  unfold execOp; simp only [ho, hx, hy]
  simp [run_look true K hi ht (hz w) (H.get hm) ha]
theorem Stp.mapup {L' : List Res} {ux : Operand} {v : β} (ho : o.op = .mapUpdate t x y ux) (K : Keyed P k) (hi : ∀ x y, ek x = ek y → x = y) (ht : P.underlying t = some (.map k e)) (hx : a.eval x = .map (some b)) (hy : a.eval y = ek q) (hv : a.eval ux = ev v) (ha : keyOf P k (ek q) = some l) (H : St B w0 w L)
    (hu : Upd L (mapr P k ek ev b M) (mapr P k ek ev b (mput M q v)) L') (h : ∀ w', St B w0 w' L' → N (a.put o.dst undef) w') : Stp P o a w N := by
  obtain ⟨w', hr, hg, hm⟩ := run_put K hi ht (H.get hu.mem) (v := v) ha
  refine ⟨w', .inr ⟨?_, h w' (H.upd hu hg (mapr_sound hm) (fun g hg => .inl hg))⟩⟩
  unfold execOp; simp only [ho, hx, hy, hv]
  simp [hr]
end
end Go.Proofs.Ytjghcmejmdllbaa

namespace Go.Proofs.Ytjghcmejmdllbaa
open Go.ChangeShapes Go.WideShapes Go.ChangeAt Go.RowKit Go.Maps
set_option linter.unusedVariables false
set_option linter.unusedSimpArgs false
section
variable {B : Nat} {w0 w : World} {L : List Res} {e : TypeId} {size n c g : Nat} {a : Option Addr} {xs : List Value}
theorem St.own_addr (H : St B w0 w L) (hm : slc e size (.slice a n c) n xs ∈ L) (hn : 0 < n) : ∃ g, a = some ⟨g, 0, none⟩ := by
  rcases (H.getSlc hm).2 with ⟨_, h0⟩ | ⟨g, cap, cur, hv, _⟩
  · omega
  · injection hv with e1 _ _
    exact ⟨g, e1⟩
theorem newL {w : World} {g : Nat} {l : List Value} (h : rowAt w g = some l.toArray) : ∀ j u, l[j]? = some u → w.cell? ((⟨g, 0, none⟩ : Addr).add j) = some u := fun j u hu => by
  have : (⟨g, 0, none⟩ : Addr).add j = ⟨g, j, none⟩ := by unfold Addr.add; split <;> simp_all
  rw [this, cell_of_rowAt h]; simpa using hu
theorem St.own_cell (H : St B w0 w L) (hm : slc e size (.slice (some ⟨g, 0, none⟩) n c) n xs ∈ L) {j : Nat} {u : Value} (hj : xs[j]? = some u) : w.cell? ⟨g, j, none⟩ = some u := by
  have h := (H.getSlc hm).cells (g := g) rfl j u hj
  have hadd : (⟨g, 0, none⟩ : Addr).add j = ⟨g, j, none⟩ := by unfold Addr.add; split <;> simp_all
  rwa [hadd] at h
theorem St.own_len (H : St B w0 w L) (hm : slc e size (.slice a n c) n xs ∈ L) : xs.length = n * size := (H.getSlc hm).1
theorem St.own_max (H : St B w0 w L) (hm : slc e size (.slice a n c) n xs ∈ L) : n ≤ maxLen := by
  rcases (H.getSlc hm).2 with ⟨_, h0⟩ | ⟨g, cap, cur, hv, _, _, h1, h2, _⟩
  · omega
  · omega
end
section
variable {P : Program} {ops : Array Oper} {a : Act} {w : World} {o : Oper} {N : Act → World → Prop} {B : Nat} {w0 : World} {L : List Res} {ty e : TypeId} {x y : Operand} {g off size n c k : Nat} {xs : List Value}
/-- A cell of a slice of the call's own. -/
theorem Stp.lsc {v : Value} (ho : o.op = .load ty x) (hagg : ∀ W : World, (isAgg ty).run P W = .ok false W) (hx : a.eval x = .pointer (some ⟨g, off, none⟩)) (H : St B w0 w L)
    (hm : slc e size (.slice (some ⟨g, 0, none⟩) n c) n xs ∈ L) (hc : xs[off]? = some v) (h : N (a.put o.dst v) w) : Stp P o a w N := by
  refine ⟨w, .inl ⟨v, ?_, h⟩⟩
  have hc' := H.own_cell hm hc
  unfold execOp; simp only [ho, hx, Instr.loadAt, Instr.sureAddr]
  simp [loadVar, hagg, hc']
/-- Some cells of it, as a struct. -/
theorem Stp.lsa {cs : Array Value} (ho : o.op = .load ty x) (hagg : ∀ W : World, (isAgg ty).run P W = .ok true W) (hs : ∀ W : World, (sizeOf ty).run P W = .ok k W) (hx : a.eval x = .pointer (some ⟨g, off, none⟩)) (H : St B w0 w L)
    (hm : slc e size (.slice (some ⟨g, 0, none⟩) n c) n xs ∈ L) (hc : ∀ j, j < k → xs[off + j]? = cs[j]?) (hk : cs.size = k) (h : N (a.put o.dst (.agg cs)) w) : Stp P o a w N := by
  refine ⟨w, .inl ⟨_, ?_, h⟩⟩
  subst hk
  have hc' : ∀ j, j < cs.size → w.cell? ⟨g, off + j, none⟩ = cs[j]? := fun j hj => by
    rw [Array.getElem?_eq_getElem hj]
    exact H.own_cell hm (by rw [hc j hj, Array.getElem?_eq_getElem hj])
  unfold execOp; simp only [ho, hx, Instr.loadAt, Instr.sureAddr]
  simp [run_load_range hc' hagg hs]
theorem Yld.lsc {v : Value} (hw : Region.wanted o (yielded ops a.tmps) = true) (ho : o.op = .load ty x) (hagg : ∀ W : World, (isAgg ty).run P W = .ok false W) (hx : a.eval x = .pointer (some ⟨g, off, none⟩))
    (hm : slc e size (.slice (some ⟨g, 0, none⟩) n c) n xs ∈ L) (hc : xs[off]? = some v) : YieldsIf P ops (fun W => St B w0 W L) o v a :=
  .inl ⟨hw, fun W H => by
    have hc' := H.own_cell hm hc
    unfold execOp; simp only [ho, hx, Instr.loadAt, Instr.sureAddr]
    simp [loadVar, hagg, hc']⟩
theorem Yld.lsa {cs : Array Value} (hw : Region.wanted o (yielded ops a.tmps) = true) (ho : o.op = .load ty x) (hagg : ∀ W : World, (isAgg ty).run P W = .ok true W) (hs : ∀ W : World, (sizeOf ty).run P W = .ok k W) (hx : a.eval x = .pointer (some ⟨g, off, none⟩))
    (hm : slc e size (.slice (some ⟨g, 0, none⟩) n c) n xs ∈ L) (hc : ∀ j, j < k → xs[off + j]? = cs[j]?) (hk : cs.size = k) : YieldsIf P ops (fun W => St B w0 W L) o (.agg cs) a :=
  .inl ⟨hw, fun W H => by
    subst hk
    have hc' : ∀ j, j < cs.size → W.cell? ⟨g, off + j, none⟩ = cs[j]? := fun j hj => by
      rw [Array.getElem?_eq_getElem hj]
      exact H.own_cell hm (by rw [hc j hj, Array.getElem?_eq_getElem hj])
    unfold execOp; simp only [ho, hx, Instr.loadAt, Instr.sureAddr]
    simp [run_load_range hc' hagg hs]⟩
theorem slc_put {g n c size off : Nat} {e : TypeId} {cur : Array Value} {xs m : List Value} (hin : off + m.length ≤ n * size) (hcs : cur.size = c * size) (hnc : n ≤ c) (ht : cur.toList.take (n * size) = xs) :
    (cur.toList.take off ++ m ++ cur.toList.drop (off + m.length)).take (n * size) = xs.take off ++ m ++ xs.drop (off + m.length) ∧ (cur.toList.take off ++ m ++ cur.toList.drop (off + m.length)).length = c * size := by
  have hle : n * size ≤ c * size := Nat.mul_le_mul_right _ hnc
  have hl : cur.toList.length = c * size := by simpa using hcs
  subst ht
  constructor
  · apply List.ext_getElem?
    intro i
    simp only [List.getElem?_append, List.getElem?_take, List.getElem?_drop, List.length_append, List.length_take, List.length_drop, hl]
    split <;> split <;> (try split) <;> (try split) <;> (try split) <;> (try split) <;> (try split) <;> first | rfl | omega | (congr 1; omega) | (rw [eq_comm, List.getElem?_eq_none]; simp; omega) | (rw [List.getElem?_eq_none]; simp; omega) | skip
  · simp only [List.length_append, List.length_take, List.length_drop, hl]
    omega
/-- Some cells of it, stored anew. -/
theorem Stp.ssl {L' : List Res} {v : Value} {m : List Value} (ho : o.op = .store ty x y) (hs : ∀ W : World, (sizeOf ty).run P W = .ok k W) (hx : a.eval x = .pointer (some ⟨g, off, none⟩)) (hy : a.eval y = v) (hv : v.cells.toList = m) (hk : m.length = k) (h1 : m.all (·.oneCell') = true) (H : St B w0 w L)
    (hu : Upd L (slc e size (.slice (some ⟨g, 0, none⟩) n c) n xs) (slc e size (.slice (some ⟨g, 0, none⟩) n c) n (xs.take off ++ m ++ xs.drop (off + k))) L') (hin : off + k ≤ n * size) (h : ∀ w', St B w0 w' L' → N (a.put o.dst undef) w') : Stp P o a w N := by
  have hown := H.getSlc hu.mem
  subst hk
  rcases hown.2 with ⟨hv', _⟩ | ⟨g', cap, cur, hv', hbg, hgc, hnc, hcm, hcs, htk⟩
  · cases hv'
  injection hv' with e1 _ e3
  injection e1 with e1
  injection e1 with e1
  subst e1 e3
  obtain ⟨t1, t2⟩ := slc_put (g := g) (e := e) hin hcs hnc htk
  have hle : n * size ≤ c * size := Nat.mul_le_mul_right _ hnc
  have hst : (storeCells ⟨g, off, none⟩ m).run P w = .ok () (w.setRow g (cur.toList.take off ++ m ++ cur.toList.drop (off + m.length)).toArray) := by
    have := run_storeCells_at (P := P) g off e m 0 cur w hgc (by simp; omega) (fun v hv => (List.all_eq_true.1 h1) v hv)
    simpa using this
  refine ⟨w.setRow g (cur.toList.take off ++ m ++ cur.toList.drop (off + m.length)).toArray, .inr ⟨?_, h _ ?_⟩⟩
  · unfold execOp; simp only [ho, hx, hy, Instr.storeAt, Instr.sureAddr]
    have hsz : v.cells.size = m.length := by rw [← hv]; simp
    simp [storeVar, hs, hsz, hv, hst]
  · exact H.upd hu (grownBy_setRow w g _) (slc_sound (b := B) ⟨by rw [← t1, List.length_take, t2]; exact Nat.min_eq_left hle, .inr ⟨g, c, _, rfl, hbg, setRow_heap w g cur _ e _ hgc, hnc, hcm, by simpa using t2, by simpa using t1⟩⟩) (fun k hk => .inl hk)
/-- One cell of it, stored anew. -/
theorem Stp.ssc {L' : List Res} {v : Value} (ho : o.op = .store ty x y) (hs : ∀ W : World, (sizeOf ty).run P W = .ok 1 W) (hx : a.eval x = .pointer (some ⟨g, off, none⟩)) (hy : a.eval y = v) (hv : v.oneCell' = true) (hv1 : v.cells = #[v]) (H : St B w0 w L)
    (hu : Upd L (slc e size (.slice (some ⟨g, 0, none⟩) n c) n xs) (slc e size (.slice (some ⟨g, 0, none⟩) n c) n (xs.set off v)) L') (hin : off < n * size) (h : ∀ w', St B w0 w' L' → N (a.put o.dst undef) w') : Stp P o a w N := by
  have hl := H.own_len hu.mem
  have e1 : xs.set off v = xs.take off ++ [v] ++ xs.drop (off + 1) := by rw [List.set_eq_take_append_cons_drop, if_pos (by omega)]; simp
  rw [e1] at hu
  exact Stp.ssl ho hs hx hy (by rw [hv1]) rfl (by simp [hv]) H hu hin h
end
section
variable {P : Program} {a : Act} {w : World} {o : Oper} {N : Act → World → Prop}
theorem Stp.bsl0N {B : Nat} {w0 : World} {L : List Res} {ty e : TypeId} {size : Nat} {parts : Array (Nat × Operand)} (d : Tmp) (hd : o.dst = some d) (ho : o.op = .buildSlice ty 0 parts)
    (hv : ∀ W : World, (Instr.buildSlice ty 0 (parts.map fun (i, x) => (i, a.eval x))).run P W = .ok (.slice (some ⟨W.heap.size, 0, none⟩) 0 0) (W.alloc (.cells #[] e))) (H : St B w0 w L)
    (h : ∀ ap cp w', St B w0 w' (slc e size (.slice ap 0 cp) 0 [] :: L) → N (a.put (some d) (.slice ap 0 cp)) w') : Stp P o a w N := by
  rw [← hd] at h
  refine ⟨w.alloc (.cells #[] e), .inl ⟨_, ?_, h (some ⟨w.heap.size, 0, none⟩) 0 _ ?_⟩⟩
  · unfold execOp; simp only [ho]
    simp [hv]
  · exact H.new ((Below.refl _ _).alloc (Nat.le_refl _) _) (slc_sound (b := 0) ⟨by simp, .inr ⟨w.heap.size, 0, #[], rfl, Nat.zero_le _, heap_alloc_new w _, Nat.le_refl _, Nat.zero_le _, by simp, by simp⟩⟩) (fun g hg => by cases hg; exact Nat.le_refl _)
end
section
variable {α β : Type} [DecidableEq α] {P : Program} {ops : Array Oper} {k e t : TypeId} {ek : α → Value} {ev : β → Value} {a : Act} {o : Oper} {B : Nat} {w0 : World} {L : List Res} {M : List (α × β)} {b : Nat} {x y : Operand} {q : α} {l : Lit}
theorem Yld.look (hw : Region.wanted o (yielded ops a.tmps) = true) (ho : o.op = .lookup t x y false) (K : Keyed P k) (hi : ∀ x y, ek x = ek y → x = y) (ht : P.underlying t = some (.map k e)) {z : Value} (hz : ∀ W : World, (zeroValue e).run P W = .ok z W) (hx : a.eval x = .map (some b)) (hy : a.eval y = ek q) (ha : keyOf P k (ek q) = some l)
    (hm : mapr P k ek ev b M ∈ L) : YieldsIf P ops (fun W => St B w0 W L) o (((mget M q).map ev).getD z) a :=
  .inl ⟨hw, fun W H => by
    unfold execOp; simp only [ho, hx, hy]
    simp [run_look false K hi ht (hz W) (H.get hm) ha]⟩
theorem Yld.lookok (hw : Region.wanted o (yielded ops a.tmps) = true) (ho : o.op = .lookup t x y true) (K : Keyed P k) (hi : ∀ x y, ek x = ek y → x = y) (ht : P.underlying t = some (.map k e)) {z : Value} (hz : ∀ W : World, (zeroValue e).run P W = .ok z W) (hx : a.eval x = .map (some b)) (hy : a.eval y = ek q) (ha : keyOf P k (ek q) = some l)
    (hm : mapr P k ek ev b M ∈ L) : YieldsIf P ops (fun W => St B w0 W L) o (.tuple #[((mget M q).map ev).getD z, .bool (mget M q).isSome]) a :=
  .inl ⟨hw, fun W H => by
    unfold execOp; simp only [ho, hx, hy]
    simp [run_look true K hi ht (hz W) (H.get hm) ha]⟩
end
end Go.Proofs.Ytjghcmejmdllbaa

namespace Go.Proofs.Ytjghcmejmdllbaa
open Go.ChangeShapes Go.WideShapes Go.ChangeAt Go.RowKit
set_option linter.unusedVariables false
set_option linter.unusedSimpArgs false
theorem own_sla {w : World} {b : Nat} {v : Value} {l : List Nat} (h : w.ownsRow b 5 1 v l.length (bv l)) (hl : l.length ≤ 1000000) : Sl w 1 l.length v (elB l) := own_sl h hl
theorem nil_bs (a : Option Addr) (n c : Nat) (w : World) : (binOp .eql 37 (.slice a n c) (.slice none 0 0)).run Try.prog w = .ok (.bool a.isNone) w := Lib.run_eql_slice_nil w 37 5 a n c 0 0 Try.underlying37
/-- May it be a process? -/
def may (i c : Nat) : Bool := decide (i < 16) && !(c == 0)
theorem may_ok (i c : Nat) (w : World) : Calls Try.prog 99 #[.agg #[.int .u16 (i : Int), .int .u32 (c : Int)]] w (Ret fun v w' => v = .bool (may i c) ∧ Below w.heap.size w w') := by
  have H := St.init w
  by_cases h : i < 16
  · have hi : (i : Int) < 16 := by omega
    go_enter Try.func99, Try.ntmps99
    go_wp2_with (first | (with_reducible refine wpl rfl (dQ 1 rfl ?_); with_reducible refine (Stp.box 1 rfl rfl rfl H ?_); clear H; intro g1 w1 H; simp only [pS]; simp only [pE, nC, pS] at H) | (with_reducible refine wpl rfl (ldQ (ty := 33) rfl ?_); first | (with_reducible refine (Stp.ldo rfl agg33 rfl H (by assumption) (by assumption) ?_); simp only [pS]) | (with_reducible refine (Stp.ldc rfl agg33 rfl H mR cE ?_); simp only [pS])) | (with_reducible refine wpl rfl (ldQ (ty := 34) rfl ?_); first | (with_reducible refine (Stp.ldo rfl agg34 rfl H (by assumption) (by assumption) ?_); simp only [pS]) | (with_reducible refine (Stp.ldc rfl agg34 rfl H mR cE ?_); simp only [pS])))
    go_ret
    exact ⟨_, rfl, congrArg Value.bool (show ((c : Int) != 0) = may i c by rw [Bool.eq_iff_iff]; simp [may, h]), H.below⟩
  · have hd : decide ((i : Int) < 16) = false := by simp; omega
    go_enter Try.func99, Try.ntmps99
    go_wp2_with (first | (with_reducible refine wpl rfl (dQ 1 rfl ?_); with_reducible refine (Stp.box 1 rfl rfl rfl H ?_); clear H; intro g1 w1 H; simp only [pS]; simp only [pE, nC, pS] at H) | (with_reducible refine wpl rfl (ldQ (ty := 33) rfl ?_); first | (with_reducible refine (Stp.ldo rfl agg33 rfl H (by assumption) (by assumption) ?_); simp only [pS]) | (with_reducible refine (Stp.ldc rfl agg33 rfl H mR cE ?_); simp only [pS])) | (with_reducible refine wpl rfl (ldQ (ty := 34) rfl ?_); first | (with_reducible refine (Stp.ldo rfl agg34 rfl H (by assumption) (by assumption) ?_); simp only [pS]) | (with_reducible refine (Stp.ldc rfl agg34 rfl H mR cE ?_); simp only [pS])))
    go_ret
    exact ⟨_, rfl, by simp [may, h], H.below⟩
theorem rmay_ok (i c : Nat) (w : World) : Calls Try.prog 103 #[.agg #[.int .u16 (i : Int), .int .u32 (c : Int)]] w (Ret fun v w' => v = .bool (may i c) ∧ Below w.heap.size w w') := by
  have H := St.init w
  by_cases h : i < 16
  · have hi : (i : Int) < 16 := by omega
    go_enter Try.func103, Try.ntmps103
    go_wp2_with (first | (with_reducible refine wpl rfl (dQ 1 rfl ?_); with_reducible refine (Stp.box 1 rfl rfl rfl H ?_); clear H; intro g1 w1 H; simp only [pS]; simp only [pE, nC, pS] at H) | (with_reducible refine wpl rfl (ldQ (ty := 33) rfl ?_); first | (with_reducible refine (Stp.ldo rfl agg33 rfl H (by assumption) (by assumption) ?_); simp only [pS]) | (with_reducible refine (Stp.ldc rfl agg33 rfl H mR cE ?_); simp only [pS])) | (with_reducible refine wpl rfl (ldQ (ty := 34) rfl ?_); first | (with_reducible refine (Stp.ldo rfl agg34 rfl H (by assumption) (by assumption) ?_); simp only [pS]) | (with_reducible refine (Stp.ldc rfl agg34 rfl H mR cE ?_); simp only [pS])))
    go_ret
    exact ⟨_, rfl, congrArg Value.bool (show decide (0 < c) = may i c by rw [Bool.eq_iff_iff]; simp [may, h]; omega), H.below⟩
  · have hd : decide ((i : Int) < 16) = false := by simp; omega
    go_enter Try.func103, Try.ntmps103
    go_wp2_with (first | (with_reducible refine wpl rfl (dQ 1 rfl ?_); with_reducible refine (Stp.box 1 rfl rfl rfl H ?_); clear H; intro g1 w1 H; simp only [pS]; simp only [pE, nC, pS] at H) | (with_reducible refine wpl rfl (ldQ (ty := 33) rfl ?_); first | (with_reducible refine (Stp.ldo rfl agg33 rfl H (by assumption) (by assumption) ?_); simp only [pS]) | (with_reducible refine (Stp.ldc rfl agg33 rfl H mR cE ?_); simp only [pS])) | (with_reducible refine wpl rfl (ldQ (ty := 34) rfl ?_); first | (with_reducible refine (Stp.ldo rfl agg34 rfl H (by assumption) (by assumption) ?_); simp only [pS]) | (with_reducible refine (Stp.ldc rfl agg34 rfl H mR cE ?_); simp only [pS])))
    go_ret
    exact ⟨_, rfl, by simp [may, h], H.below⟩
/-- What holds as long as nothing below B and nothing of L is turned. -/
def Rd (B : Nat) (w0 : World) (L : List Res) (F : World → Prop) : Prop := ∀ W : World, Below B w0 W → (∀ r ∈ L, r.2 W) → F W
theorem Rd.at {B : Nat} {w0 w : World} {L L0 : List Res} {F : World → Prop} (h : Rd B w0 L F) (H : St B w0 w L0) (hl : L.Sublist L0) : F w := h w H.below fun r hr => H.get (hl.subset hr)
theorem Rd.of_old {w0 : World} {L : List Res} {size n : Nat} {v : Value} {E : Nat → Array Value} (h : Sl w0 size n v E) : Rd w0.heap.size w0 L fun W => Sl W size n v E := fun W hb _ => h.grow hb
theorem Rd.mono {B : Nat} {w0 : World} {L L' : List Res} {F : World → Prop} (h : Rd B w0 L F) (hl : ∀ r ∈ L, r ∈ L') : Rd B w0 L' F := fun W hb hr => h W hb fun r h1 => hr r (hl r h1)
/-- Processes, as values. -/
def elQ (ps : List (Nat × Nat)) (i : Nat) : Array Value := #[.int .u16 (((ps.getD i (0, 0)).1 : Nat) : Int), .int .u32 (((ps.getD i (0, 0)).2 : Nat) : Int)]
def okPids (ps : List (Nat × Nat)) : Prop := ∀ p ∈ ps, p.1 < 65536 ∧ p.2 < 4294967296
theorem okPids_at {ps : List (Nat × Nat)} (h : okPids ps) (k : Nat) (hk : k < ps.length) : (ps.getD k (0, 0)).1 < 65536 ∧ (ps.getD k (0, 0)).2 < 4294967296 := by
  have : ps.getD k (0, 0) = ps[k] := by simp [List.getD, hk]
  rw [this]; exact h _ (List.getElem_mem hk)
/-- One of some processes. -/
theorem Sl.pid {w : World} {v : Value} {ps : List (Nat × Nat)} {k : Nat} (h : Sl w 2 ps.length v (elQ ps)) (hk : k < ps.length) : ∃ b off c, v = .slice (some ⟨b, off, none⟩) ps.length c ∧ b < w.heap.size ∧
    ∀ j, j < 2 → w.cell? ⟨b, off + k * 2 + j, none⟩ = (elQ ps k)[j]? := by
  obtain ⟨a, c, rfl, hm, hE⟩ := h
  obtain ⟨b, off, rfl, hb, hc⟩ := hE (by omega)
  exact ⟨b, off, c, rfl, hb, fun j hj => hc k hk j hj⟩
theorem eqPD (a b c d : Int) (w : World) : (Op.equalIn 10000 36 (.agg #[.int .u16 a, .int .u32 b]) (.agg #[.int .u16 c, .int .u32 d])).run Try.prog w = .ok (a == c && b == d) w := by
  have u1 := Try.underlying33
  have u2 := Try.underlying34
  have hS : Try.prog.underlying 36 = some (.struct (Try.prog.fieldsOf 36)) := by kernel_rfl
  rw [show (10000 : Nat) = 9999 + 1 from rfl, run_equalIn_struct w 9999 36 _ _ hS (by kernel_rfl)]
  simp only [Program.fieldsOf, Try.underlying36]
  go_simp
  by_cases h1 : a = c <;> by_cases h2 : b = d <;> simp [h1, h2]
theorem eqPD_self (a b : Int) (w : World) : (Op.equalIn 10000 36 (.agg #[.int .u16 a, .int .u32 b]) (.agg #[.int .u16 a, .int .u32 b])).run Try.prog w = .ok true w := by rw [eqPD]; simp
/-- Processes, as values. -/
def pv (ps : List (Nat × Nat)) : List Value := ps.flatMap fun p => [.int .u16 (p.1 : Int), .int .u32 (p.2 : Int)]
theorem pv_len (ps : List (Nat × Nat)) : (pv ps).length = ps.length * 2 := by
  induction ps with
  | nil => rfl
  | cons p ps ih => simp [pv] at ih ⊢; omega
theorem pv_snoc (ps : List (Nat × Nat)) (k : Nat) (h : k < ps.length) : pv (ps.take (k + 1)) = pv (ps.take k) ++ [.int .u16 (((ps.getD k (0, 0)).1 : Nat) : Int), .int .u32 (((ps.getD k (0, 0)).2 : Nat) : Int)] := by
  unfold pv
  rw [List.take_succ_eq_append_getElem h, List.flatMap_append]
  simp [List.getD, h]
theorem pv_get (ps : List (Nat × Nat)) : ∀ i, i < ps.length → ∀ j, j < 2 → (pv ps)[i * 2 + j]? = (elQ ps i)[j]? := by
  induction ps with
  | nil => intro i h; exact absurd h (Nat.not_lt_zero _)
  | cons p l ih =>
    intro i h j hj
    have hc : pv (p :: l) = .int .u16 (p.1 : Int) :: .int .u32 (p.2 : Int) :: pv l := by simp [pv]
    cases i with
    | zero =>
      rw [hc]
      match j, hj with
      | 0, _ => rfl
      | 1, _ => rfl
    | succ i =>
      rw [hc, show (i + 1) * 2 + j = (i * 2 + j) + 1 + 1 by omega, List.getElem?_cons_succ, List.getElem?_cons_succ, ih i (by simpa using h) j hj]
      simp [elQ]
theorem own_pv {w : World} {b : Nat} {v : Value} {ps : List (Nat × Nat)} (h : w.ownsRow b 36 2 v ps.length (pv ps)) (hl : ps.length ≤ 100000) : Sl w 2 ps.length v (elQ ps) :=
  Sl.of_ownN h (fun i hi j hj => pv_get ps i hi j hj) (by unfold maxLen; omega)
end Go.Proofs.Ytjghcmejmdllbaa
