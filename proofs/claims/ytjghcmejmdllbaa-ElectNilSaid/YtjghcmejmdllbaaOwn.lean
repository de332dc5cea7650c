/- My logic of owned memory: a slice of the call's own, read and written in place; maps in regions that draw their order; no condition. -/
import Derived.Test.YtjghcmejmdllbaaBase5
import Derived.Test.YtjghcmejmdllbaaBase3
import Derived.Test.YtjghcmejmdllbaaSlAt
import Derived.Test.YtjghcmejmdllbaaMapR
namespace Go.Proofs.Ytjghcmejmdllbaa
open Go.ChangeShapes Go.WideShapes Go.ChangeAt Go.RowKit Go.Maps
set_option linter.unusedVariables false
set_option linter.unusedSimpArgs false
section
variable {B : Nat} {w0 w : World} {L : List Res} {e : TypeId} {size n c g : Nat} {a : Option Addr} {xs : List Value}
theorem St.own_addr (H : St B w0 w L) (hm : slc e size (.slice a n c) n xs ∈ L) (hn : 0 < n) : ∃ g, a = some ⟨g, 0, none⟩ := by
  rcases (H.getSlc hm).2 with ⟨_, h0⟩ | ⟨g, cap, cur, hv, _⟩
  · omega
  · injection hv with e1 _ _
    exact ⟨g, e1⟩
theorem newL {w : World} {g : Nat} {l : List Value} (h : rowAt w g = some l.toArray) : ∀ j u, l[j]? = some u → w.cell? ((⟨g, 0, none⟩ : Addr).add j) = some u := fun j u hu => by
  have : (⟨g, 0, none⟩ : Addr).add j = ⟨g, j, none⟩ := by unfold Addr.add; split <;> simp_all
  rw [this, cell_of_rowAt h]; simpa using hu
theorem St.own_cell (H : St B w0 w L) (hm : slc e size (.slice (some ⟨g, 0, none⟩) n c) n xs ∈ L) {j : Nat} {u : Value} (hj : xs[j]? = some u) : w.cell? ⟨g, j, none⟩ = some u := by
  have h := (H.getSlc hm).cells (g := g) rfl j u hj
  have hadd : (⟨g, 0, none⟩ : Addr).add j = ⟨g, j, none⟩ := by unfold Addr.add; split <;> simp_all
  rwa [hadd] at h
theorem St.own_len (H : St B w0 w L) (hm : slc e size (.slice a n c) n xs ∈ L) : xs.length = n * size := (H.getSlc hm).1
theorem St.own_max (H : St B w0 w L) (hm : slc e size (.slice a n c) n xs ∈ L) : n ≤ maxLen := by
  rcases (H.getSlc hm).2 with ⟨_, h0⟩ | ⟨g, cap, cur, hv, _, _, h1, h2, _⟩
  · omega
  · omega
end
section
variable {P : Program} {ops : Array Oper} {a : Act} {w : World} {o : Oper} {N : Act → World → Prop} {B : Nat} {w0 : World} {L : List Res} {ty e : TypeId} {x y : Operand} {g off size n c k : Nat} {xs : List Value}
/-- A cell of a slice of the call's own. -/
theorem Stp.lsc {v : Value} (ho : o.op = .load ty x) (hagg : ∀ W : World, (isAgg ty).run P W = .ok false W) (hx : a.eval x = .pointer (some ⟨g, off, none⟩)) (H : St B w0 w L)
    (hm : slc e size (.slice (some ⟨g, 0, none⟩) n c) n xs ∈ L) (hc : xs[off]? = some v) (h : N (a.put o.dst v) w) : Stp P o a w N := by
  refine ⟨w, .inl ⟨v, ?_, h⟩⟩
  have hc' := H.own_cell hm hc
  unfold execOp; simp only [ho, hx, Instr.loadAt, Instr.sureAddr]
  simp [loadVar, hagg, hc']
/-- Some cells of it, as a struct. -/
theorem Stp.lsa {cs : Array Value} (ho : o.op = .load ty x) (hagg : ∀ W : World, (isAgg ty).run P W = .ok true W) (hs : ∀ W : World, (sizeOf ty).run P W = .ok k W) (hx : a.eval x = .pointer (some ⟨g, off, none⟩)) (H : St B w0 w L)
    (hm : slc e size (.slice (some ⟨g, 0, none⟩) n c) n xs ∈ L) (hc : ∀ j, j < k → xs[off + j]? = cs[j]?) (hk : cs.size = k) (h : N (a.put o.dst (.agg cs)) w) : Stp P o a w N := by
  refine ⟨w, .inl ⟨_, ?_, h⟩⟩
  subst hk
  have hc' : ∀ j, j < cs.size → w.cell? ⟨g, off + j, none⟩ = cs[j]? := fun j hj => by
    rw [Array.getElem?_eq_getElem hj]
    exact H.own_cell hm (by rw [hc j hj, Array.getElem?_eq_getElem hj])
  unfold execOp; simp only [ho, hx, Instr.loadAt, Instr.sureAddr]
  simp [run_load_range hc' hagg hs]
theorem Yld.lsc {v : Value} (hw : Region.wanted o (yielded ops a.tmps) = true) (ho : o.op = .load ty x) (hagg : ∀ W : World, (isAgg ty).run P W = .ok false W) (hx : a.eval x = .pointer (some ⟨g, off, none⟩))
    (hm : slc e size (.slice (some ⟨g, 0, none⟩) n c) n xs ∈ L) (hc : xs[off]? = some v) : YieldsIf P ops (fun W => St B w0 W L) o v a :=
  .inl ⟨hw, fun W H => by
    have hc' := H.own_cell hm hc
    unfold execOp; simp only [ho, hx, Instr.loadAt, Instr.sureAddr]
    simp [loadVar, hagg, hc']⟩
theorem Yld.lsa {cs : Array Value} (hw : Region.wanted o (yielded ops a.tmps) = true) (ho : o.op = .load ty x) (hagg : ∀ W : World, (isAgg ty).run P W = .ok true W) (hs : ∀ W : World, (sizeOf ty).run P W = .ok k W) (hx : a.eval x = .pointer (some ⟨g, off, none⟩))
    (hm : slc e size (.slice (some ⟨g, 0, none⟩) n c) n xs ∈ L) (hc : ∀ j, j < k → xs[off + j]? = cs[j]?) (hk : cs.size = k) : YieldsIf P ops (fun W => St B w0 W L) o (.agg cs) a :=
  .inl ⟨hw, fun W H => by
    subst hk
    have hc' : ∀ j, j < cs.size → W.cell? ⟨g, off + j, none⟩ = cs[j]? := fun j hj => by
      rw [Array.getElem?_eq_getElem hj]
      exact H.own_cell hm (by rw [hc j hj, Array.getElem?_eq_getElem hj])
    unfold execOp; simp only [ho, hx, Instr.loadAt, Instr.sureAddr]
    simp [run_load_range hc' hagg hs]⟩
theorem slc_put {g n c size off : Nat} {e : TypeId} {cur : Array Value} {xs m : List Value} (hin : off + m.length ≤ n * size) (hcs : cur.size = c * size) (hnc : n ≤ c) (ht : cur.toList.take (n * size) = xs) :
    (cur.toList.take off ++ m ++ cur.toList.drop (off + m.length)).take (n * size) = xs.take off ++ m ++ xs.drop (off + m.length) ∧ (cur.toList.take off ++ m ++ cur.toList.drop (off + m.length)).length = c * size := by
  have hle : n * size ≤ c * size := Nat.mul_le_mul_right _ hnc
  have hl : cur.toList.length = c * size := by simpa using hcs
  subst ht
  constructor
  · apply List.ext_getElem?
    intro i
    simp only [List.getElem?_append, List.getElem?_take, List.getElem?_drop, List.length_append, List.length_take, List.length_drop, hl]
    split <;> split <;> (try split) <;> (try split) <;> (try split) <;> (try split) <;> (try split) <;> first | rfl | omega | (congr 1; omega) | (rw [eq_comm, List.getElem?_eq_none]; simp; omega) | (rw [List.getElem?_eq_none]; simp; omega) | skip
  · simp only [List.length_append, List.length_take, List.length_drop, hl]
    omega
/-- Some cells of it, stored anew. -/
theorem Stp.ssl {L' : List Res} {v : Value} {m : List Value} (ho : o.op = .store ty x y) (hs : ∀ W : World, (sizeOf ty).run P W = .ok k W) (hx : a.eval x = .pointer (some ⟨g, off, none⟩)) (hy : a.eval y = v) (hv : v.cells.toList = m) (hk : m.length = k) (h1 : m.all (·.oneCell') = true) (H : St B w0 w L)
    (hu : Upd L (slc e size (.slice (some ⟨g, 0, none⟩) n c) n xs) (slc e size (.slice (some ⟨g, 0, none⟩) n c) n (xs.take off ++ m ++ xs.drop (off + k))) L') (hin : off + k ≤ n * size) (h : ∀ w', St B w0 w' L' → N (a.put o.dst undef) w') : Stp P o a w N := by
  have hown := H.getSlc hu.mem
  subst hk
  rcases hown.2 with ⟨hv', _⟩ | ⟨g', cap, cur, hv', hbg, hgc, hnc, hcm, hcs, htk⟩
  · cases hv'
  injection hv' with e1 _ e3
  injection e1 with e1
  injection e1 with e1
  subst e1 e3
  obtain ⟨t1, t2⟩ := slc_put (g := g) (e := e) hin hcs hnc htk
  have hle : n * size ≤ c * size := Nat.mul_le_mul_right _ hnc
  have hst : (storeCells ⟨g, off, none⟩ m).run P w = .ok () (w.setRow g (cur.toList.take off ++ m ++ cur.toList.drop (off + m.length)).toArray) := by
    have := run_storeCells_at (P := P) g off e m 0 cur w hgc (by simp; omega) (fun v hv => (List.all_eq_true.1 h1) v hv)
    simpa using this
  refine ⟨w.setRow g (cur.toList.take off ++ m ++ cur.toList.drop (off + m.length)).toArray, .inr ⟨?_, h _ ?_⟩⟩
  · unfold execOp; simp only [ho, hx, hy, Instr.storeAt, Instr.sureAddr]
    have hsz : v.cells.size = m.length := by rw [← hv]; simp
    simp [storeVar, hs, hsz, hv, hst]
  · exact H.upd hu (grownBy_setRow w g _) (slc_sound (b := B) ⟨by rw [← t1, List.length_take, t2]; exact Nat.min_eq_left hle, .inr ⟨g, c, _, rfl, hbg, setRow_heap w g cur _ e _ hgc, hnc, hcm, by simpa using t2, by simpa using t1⟩⟩) (fun k hk => .inl hk)
/-- One cell of it, stored anew. -/
theorem Stp.ssc {L' : List Res} {v : Value} (ho : o.op = .store ty x y) (hs : ∀ W : World, (sizeOf ty).run P W = .ok 1 W) (hx : a.eval x = .pointer (some ⟨g, off, none⟩)) (hy : a.eval y = v) (hv : v.oneCell' = true) (hv1 : v.cells = #[v]) (H : St B w0 w L)
    (hu : Upd L (slc e size (.slice (some ⟨g, 0, none⟩) n c) n xs) (slc e size (.slice (some ⟨g, 0, none⟩) n c) n (xs.set off v)) L') (hin : off < n * size) (h : ∀ w', St B w0 w' L' → N (a.put o.dst undef) w') : Stp P o a w N := by
  have hl := H.own_len hu.mem
  have e1 : xs.set off v = xs.take off ++ [v] ++ xs.drop (off + 1) := by rw [List.set_eq_take_append_cons_drop, if_pos (by omega)]; simp
  rw [e1] at hu
  exact Stp.ssl ho hs hx hy (by rw [hv1]) rfl (by simp [hv]) H hu hin h
end
section
variable {P : Program} {a : Act} {w : World} {o : Oper} {N : Act → World → Prop}
theorem Stp.bsl0N {B : Nat} {w0 : World} {L : List Res} {ty e : TypeId} {size : Nat} {parts : Array (Nat × Operand)} (d : Tmp) (hd : o.dst = some d) (ho : o.op = .buildSlice ty 0 parts)
    (hv : ∀ W : World, (Instr.buildSlice ty 0 (parts.map fun (i, x) => (i, a.eval x))).run P W = .ok (.slice (some ⟨W.heap.size, 0, none⟩) 0 0) (W.alloc (.cells #[] e))) (H : St B w0 w L)
    (h : ∀ ap cp w', St B w0 w' (slc e size (.slice ap 0 cp) 0 [] :: L) → N (a.put (some d) (.slice ap 0 cp)) w') : Stp P o a w N := by
  rw [← hd] at h
  refine ⟨w.alloc (.cells #[] e), .inl ⟨_, ?_, h (some ⟨w.heap.size, 0, none⟩) 0 _ ?_⟩⟩
  · unfold execOp; simp only [ho]
    simp [hv]
  · exact H.new ((Below.refl _ _).alloc (Nat.le_refl _) _) (slc_sound (b := 0) ⟨by simp, .inr ⟨w.heap.size, 0, #[], rfl, Nat.zero_le _, heap_alloc_new w _, Nat.le_refl _, Nat.zero_le _, by simp, by simp⟩⟩) (fun g hg => by cases hg; exact Nat.le_refl _)
end
section
variable {α β : Type} [DecidableEq α] {P : Program} {ops : Array Oper} {k e t : TypeId} {ek : α → Value} {ev : β → Value} {a : Act} {o : Oper} {B : Nat} {w0 : World} {L : List Res} {M : List (α × β)} {b : Nat} {x y : Operand} {q : α} {l : Lit}
theorem Yld.look (hw : Region.wanted o (yielded ops a.tmps) = true) (ho : o.op = .lookup t x y false) (K : Keyed P k) (hi : ∀ x y, ek x = ek y → x = y) (ht : P.underlying t = some (.map k e)) {z : Value} (hz : ∀ W : World, (zeroValue e).run P W = .ok z W) (hx : a.eval x = .map (some b)) (hy : a.eval y = ek q) (ha : keyOf P k (ek q) = some l)
    (hm : mapr P k ek ev b M ∈ L) : YieldsIf P ops (fun W => St B w0 W L) o (((mget M q).map ev).getD z) a :=
  .inl ⟨hw, fun W H => by
    unfold execOp; simp only [ho, hx, hy]
    simp [run_look false K hi ht (hz W) (H.get hm) ha]⟩
theorem Yld.lookok (hw : Region.wanted o (yielded ops a.tmps) = true) (ho : o.op = .lookup t x y true) (K : Keyed P k) (hi : ∀ x y, ek x = ek y → x = y) (ht : P.underlying t = some (.map k e)) {z : Value} (hz : ∀ W : World, (zeroValue e).run P W = .ok z W) (hx : a.eval x = .map (some b)) (hy : a.eval y = ek q) (ha : keyOf P k (ek q) = some l)
    (hm : mapr P k ek ev b M ∈ L) : YieldsIf P ops (fun W => St B w0 W L) o (.tuple #[((mget M q).map ev).getD z, .bool (mget M q).isSome]) a :=
  .inl ⟨hw, fun W H => by
    unfold execOp; simp only [ho, hx, hy]
    simp [run_look true K hi ht (hz W) (H.get hm) ha]⟩
end
end Go.Proofs.Ytjghcmejmdllbaa
