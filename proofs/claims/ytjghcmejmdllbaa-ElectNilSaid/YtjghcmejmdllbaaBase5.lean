/- My logic of owned memory, fifth part: a struct's field that is a struct, a slice's rest; no condition. -/
import Derived.Test.YtjghcmejmdllbaaBase
namespace Go.Proofs.Ytjghcmejmdllbaa
open Go.ChangeShapes Go.WideShapes Go.ChangeAt Go.RowKit
set_option linter.unusedVariables false
set_option linter.unusedSimpArgs false
theorem cut_get (l : List Value) (off n j : Nat) (hj : j < n) : l.toArray[off + j]? = ((l.drop off).take n).toArray[j]? := by
  simp [List.getElem?_take, hj]
section
variable {P : Program} {ops : Array Oper} {a : Act} {w : World} {o : Oper} {N : Act → World → Prop}
/-- Some cells of a row that is written out, loaded as a struct. -/
theorem Stp.ldl {tg : TypeId} {B : Nat} {w0 : World} {L : List Res} {ty : TypeId} {x : Operand} {g off n : Nat} {l : List Value} (ho : o.op = .load ty x) (hagg : ∀ W : World, (isAgg ty).run P W = .ok true W) (hs : ∀ W : World, (sizeOf ty).run P W = .ok n W) (hx : a.eval x = .pointer (some ⟨g, off, none⟩)) (H : St B w0 w L)
    (hm : row tg g l.toArray ∈ L) (hn : ((l.drop off).take n).toArray.size = n) (h : N (a.put o.dst (.agg ((l.drop off).take n).toArray)) w) : Stp P o a w N :=
  Stp.ldx ho hagg hs hx H hm (cut_get l off n) hn h
theorem Yld.ldl {tg : TypeId} {B : Nat} {w0 : World} {L : List Res} {ty : TypeId} {x : Operand} {g off n : Nat} {l : List Value} (hw : Region.wanted o (yielded ops a.tmps) = true) (ho : o.op = .load ty x) (hagg : ∀ W : World, (isAgg ty).run P W = .ok true W) (hs : ∀ W : World, (sizeOf ty).run P W = .ok n W) (hx : a.eval x = .pointer (some ⟨g, off, none⟩))
    (hm : row tg g l.toArray ∈ L) (hn : ((l.drop off).take n).toArray.size = n) : YieldsIf P ops (fun W => St B w0 W L) o (.agg ((l.drop off).take n).toArray) a :=
  .inl ⟨hw, fun W H => by
    have hc' : ∀ j, j < ((l.drop off).take n).toArray.size → W.cell? ⟨g, off + j, none⟩ = ((l.drop off).take n).toArray[j]? := fun j hj => (cell_of_rowAt (H.getRow hm) (off + j)).trans (cut_get l off n j (by rw [hn] at hj; exact hj))
    have hs' : ∀ W : World, (sizeOf ty).run P W = .ok ((l.drop off).take n).toArray.size W := by rw [hn]; exact hs
    unfold execOp; simp only [ho, hx, Instr.loadAt, Instr.sureAddr]
    simp [run_load_range hc' hagg hs']⟩
/-- Some cells of a row that is written out, stored anew. -/
theorem Stp.stl {tg : TypeId} {B : Nat} {w0 : World} {L L' : List Res} {ty : TypeId} {x y : Operand} {g off n : Nat} {l m : List Value} (ho : o.op = .store ty x y) (hs : ∀ W : World, (sizeOf ty).run P W = .ok n W) (hx : a.eval x = .pointer (some ⟨g, off, none⟩)) (hy : a.eval y = .agg m.toArray) (h1 : m.all (·.oneCell') = true) (hm : m.length = n) (H : St B w0 w L)
    (hu : Upd L (row tg g l.toArray) (row tg g (l.take off ++ m ++ l.drop (off + n)).toArray) L') (hin : off + n ≤ l.length) (h : ∀ w', St B w0 w' L' → N (a.put o.dst undef) w') : Stp P o a w N := by
  have ht := H.getHeap hu.mem
  have hst : (storeCells ⟨g, off, none⟩ m).run P w = .ok () (w.setRow g (l.take off ++ m ++ l.drop (off + n)).toArray) := by
    have := run_storeCells_at (P := P) g off tg m 0 l.toArray w ht (by simp; omega) (fun v hv => (List.all_eq_true.1 h1) v hv)
    simpa [hm] using this
  refine ⟨w.setRow g (l.take off ++ m ++ l.drop (off + n)).toArray, .inr ⟨?_, h _ ?_⟩⟩
  · unfold execOp; simp only [ho, hx, hy, Instr.storeAt, Instr.sureAddr]
    simp [storeVar, hs, Value.cells, hm, hst]
  · exact H.upd hu (grownBy_setRow w g _) (row_sound (setRow_heap w g _ _ tg _ ht)) (fun k hk => .inl hk)
/-- x[k:] of a slice with elements of one cell. -/
theorem run_from {ty e : TypeId} {A : Option Addr} {n c k : Nat} {kd : IntKind} (ht : P.underlying ty = some (.slice e)) (hs : ∀ W : World, (sizeOf e).run P W = .ok 1 W) (hk : k ≤ n) (W : World) :
    (Instr.slice ty (.slice A n c) (some (.int kd (k : Int))) none none).run P W = .ok (.slice (if c = k then A else A.map (·.add k)) (n - k) (c - k)) W := by
  simp [Instr.slice, Instr.sliceBounds, Instr.sliceBound, asIntOf, run_underlying ht, hs, hk]
theorem Stp.slfrom {ty e : TypeId} {x y : Operand} {A : Option Addr} {n c k : Nat} {kd : IntKind} {z : Int} (d : Tmp) (hd : o.dst = some d) (ho : o.op = .slice ty x (some y) none none) (ht : P.underlying ty = some (.slice e)) (hs : ∀ W : World, (sizeOf e).run P W = .ok 1 W)
    (hx : a.eval x = .slice A n c) (hy : a.eval y = .int kd z) (hz : z = (k : Int)) (hk : k ≤ n) (h : ∀ A', A' = (if c = k then A else A.map (·.add k)) → N (a.put (some d) (.slice A' (n - k) (c - k))) w) : Stp P o a w N := by
  rw [← hd] at h
  subst hz
  refine ⟨w, .inl ⟨_, ?_, h _ rfl⟩⟩
  unfold execOp; simp only [ho]
  simp [hx, hy, Instr.sliceAt, run_underlying ht, run_from ht hs hk]
theorem Yld.slfrom {S : World → Prop} {ty e : TypeId} {x y : Operand} {A A' : Option Addr} {n c k : Nat} {kd : IntKind} {z : Int} (hw : Region.wanted o (yielded ops a.tmps) = true) (ho : o.op = .slice ty x (some y) none none) (ht : P.underlying ty = some (.slice e)) (hs : ∀ W : World, (sizeOf e).run P W = .ok 1 W)
    (hx : a.eval x = .slice A n c) (hy : a.eval y = .int kd z) (hz : z = (k : Int)) (hk : k ≤ n) (hA : A' = (if c = k then A else A.map (·.add k))) : YieldsIf P ops S o (.slice A' (n - k) (c - k)) a := by
  subst hz hA
  refine .inl ⟨hw, fun W _ => ?_⟩
  unfold execOp; simp only [ho]
  simp [hx, hy, Instr.sliceAt, run_underlying ht, run_from ht hs hk]
theorem post_row2 {fn : Func} {R : Ending → World → Prop} {p x : Tmp} {ty : TypeId} {B : Nat} {w0 : World} {L : List Res} {tg : TypeId} {g : Nat} {cs : Array Value} {n : Nat} (hr : fn.results = #[.cell p ty, .tmp x])
    (hagg : ∀ W : World, (isAgg ty).run P W = .ok true W) (hs : ∀ W : World, (sizeOf ty).run P W = .ok n W) (hp : a.tmps.getD p undef = .pointer (some ⟨g, 0, none⟩)) (H : St B w0 w L) (hm : row tg g cs ∈ L) (hn : cs.size = n)
    (hd : a.defers = []) (hR : R (.returned (.tuple #[.agg cs, a.tmps.getD x undef])) w) : bodyPost P fn R .ret a w := by
  refine bodyPost_ret ?_ hd hR
  have hp' : a.tmps[p]?.getD undef = .pointer (some ⟨g, 0, none⟩) := by simpa using hp
  simp [results, hr, hp', asAddr, run_load_row (H.getRow hm) hagg (by rw [hn]; exact hs)]
theorem post_row3 {fn : Func} {R : Ending → World → Prop} {p x y : Tmp} {ty : TypeId} {B : Nat} {w0 : World} {L : List Res} {tg : TypeId} {g : Nat} {cs : Array Value} {n : Nat} (hr : fn.results = #[.cell p ty, .tmp x, .tmp y])
    (hagg : ∀ W : World, (isAgg ty).run P W = .ok true W) (hs : ∀ W : World, (sizeOf ty).run P W = .ok n W) (hp : a.tmps.getD p undef = .pointer (some ⟨g, 0, none⟩)) (H : St B w0 w L) (hm : row tg g cs ∈ L) (hn : cs.size = n)
    (hd : a.defers = []) (hR : R (.returned (.tuple #[.agg cs, a.tmps.getD x undef, a.tmps.getD y undef])) w) : bodyPost P fn R .ret a w := by
  refine bodyPost_ret ?_ hd hR
  have hp' : a.tmps[p]?.getD undef = .pointer (some ⟨g, 0, none⟩) := by simpa using hp
  simp [results, hr, hp', asAddr, run_load_row (H.getRow hm) hagg (by rw [hn]; exact hs)]
end
end Go.Proofs.Ytjghcmejmdllbaa
