/- My logic of owned memory: a slice of the call's own that begins anywhere in its row: read, cut ahead, appended to; no condition. -/
import Derived.Test.YtmokecicjmjkbaaOwn
import Derived.Test.YtmokecicjmjkbaaBase2
namespace Go.Proofs.Ytmokecicjmjkbaa
open Go.ChangeShapes Go.WideShapes Go.ChangeAt Go.RowKit
set_option linter.unusedVariables false
set_option linter.unusedSimpArgs false
/-- The slice v of n elements is nil, or lies in a row of which nobody else knows, from some place on. -/
def OwnsOff (w : World) (e : TypeId) (size : Nat) (v : Value) (n : Nat) (xs : List Value) : Prop :=
  xs.length = n * size ∧ ((v = .slice none 0 0 ∧ n = 0) ∨ ∃ g off cap cur, v = .slice (some ⟨g, off, none⟩) n cap ∧ w.heap[g]? = some (.cells cur e (0, 0)) ∧ n ≤ cap ∧ cap ≤ maxLen ∧ off + cap * size ≤ cur.size ∧ (cur.toList.drop off).take (n * size) = xs)
def slo (e : TypeId) (size : Nat) (v : Value) (n : Nat) (xs : List Value) : Res := (fun k => v.ownBlock = some k, fun w => OwnsOff w e size v n xs)
theorem slo_loc (e : TypeId) (size : Nat) (v : Value) (n : Nat) (xs : List Value) : Loc (slo e size v n xs) := fun w1 w2 hb h => by
  refine ⟨h.1, ?_⟩
  rcases h.2 with h2 | ⟨g, off, cap, cur, rfl, h3, r⟩
  · exact .inl h2
  · exact .inr ⟨g, off, cap, cur, rfl, (hb g rfl).trans h3, r⟩
theorem slo_sound {w : World} {e : TypeId} {size : Nat} {v : Value} {n : Nat} {xs : List Value} (h : OwnsOff w e size v n xs) : Sound (slo e size v n xs) w :=
  ⟨h, fun k hk => by
    rcases h.2 with ⟨rfl, _⟩ | ⟨g, off, cap, cur, rfl, h3, _⟩
    · cases hk
    · cases hk; exact rowAt_lt (rowAt_of h3), slo_loc _ _ _ _ _⟩
theorem OwnsOff.of_own {w : World} {b : Nat} {e : TypeId} {size : Nat} {v : Value} {n : Nat} {xs : List Value} (h : w.ownsRow b e size v n xs) : OwnsOff w e size v n xs := by
  refine ⟨h.1, ?_⟩
  rcases h.2 with h2 | ⟨g, cap, cur, rfl, _, h3, h4, h5, h6, h7⟩
  · exact .inl h2
  · exact .inr ⟨g, 0, cap, cur, rfl, h3, h4, h5, by omega, by simpa using h7⟩
section
variable {B : Nat} {w0 w : World} {L : List Res} {e : TypeId} {size n c g off : Nat} {a : Option Addr} {xs : List Value}
theorem St.nilo (e : TypeId) (size : Nat) (H : St B w0 w L) : St B w0 w (slo e size (.slice none 0 0) 0 [] :: L) :=
  H.new (Below.refl _ _) (slo_sound ⟨by simp, .inl ⟨rfl, rfl⟩⟩) (fun g hg => by cases hg)
theorem St.slo_addr (H : St B w0 w L) (hm : slo e size (.slice a n c) n xs ∈ L) (hn : 0 < n) : ∃ g off, a = some ⟨g, off, none⟩ := by
  rcases (H.get hm).2 with ⟨_, h0⟩ | ⟨g, off, cap, cur, hv, _⟩
  · omega
  · injection hv with e1 _ _
    exact ⟨g, off, e1⟩
theorem St.slo_cap (H : St B w0 w L) (hm : slo e size (.slice a n c) n xs ∈ L) : n ≤ c := by
  rcases (H.get hm).2 with ⟨_, h0⟩ | ⟨g, off, cap, cur, hv, _, h, _⟩
  · omega
  · injection hv with _ _ e1; omega
theorem St.slo_len (H : St B w0 w L) (hm : slo e size (.slice a n c) n xs ∈ L) : xs.length = n * size := (H.get hm).1
theorem St.slo_cell (H : St B w0 w L) (hm : slo e size (.slice (some ⟨g, off, none⟩) n c) n xs ∈ L) {j : Nat} {u : Value} (hj : xs[j]? = some u) : w.cell? ⟨g, off + j, none⟩ = some u := by
  have h := H.get hm
  rcases h.2 with ⟨hv, _⟩ | ⟨g', off', cap, cur, hv, h3, _, _, _, h7⟩
  · cases hv
  · injection hv with e1 _ _
    injection e1 with e1
    injection e1 with e1 e2
    subst e1 e2
    rw [cell_of_rowAt (rowAt_of h3)]
    have hl : j < n * size := by
      have h1 : xs.length = n * size := h.1
      rw [← h1]; exact (List.getElem?_eq_some_iff.1 hj).1
    rw [← h7, List.getElem?_take, if_pos hl, List.getElem?_drop] at hj
    simpa using hj
/-- v[k:]. -/
theorem OwnsOff.drop {w : World} {e : TypeId} {size n c k : Nat} {a a' : Option Addr} {xs : List Value} (h : OwnsOff w e size (.slice a n c) n xs) (hk : k ≤ n) (ha : a' = if c = k then a else a.map (·.add (k * size))) : OwnsOff w e size (.slice a' (n - k) (c - k)) (n - k) (xs.drop (k * size)) := by
  refine ⟨by rw [List.length_drop, h.1, Nat.sub_mul], ?_⟩
  rcases h.2 with ⟨hv, h0⟩ | ⟨g, off, cap, cur, hv, h3, h4, h5, h6, h7⟩
  · injection hv with e1 e2 e3
    obtain rfl : k = 0 := by omega
    subst e1 e3
    refine .inl ⟨?_, by omega⟩
    rw [ha, h0]; simp
  · injection hv with e1 e2 e3
    subst e1 e3
    have hks : k * size ≤ n * size := Nat.mul_le_mul_right _ hk
    have hcs : n * size ≤ c * size := Nat.mul_le_mul_right _ h4
    by_cases hc : c = k
    · rw [if_pos hc] at ha
      refine .inr ⟨g, off, c - k, cur, by rw [ha], h3, by omega, by omega, ?_, ?_⟩
      · have : (c - k) * size ≤ c * size := Nat.mul_le_mul_right _ (Nat.sub_le _ _)
        omega
      · have : n - k = 0 := by omega
        have h1 : xs.length = n * size := h.1
        rw [this, Nat.zero_mul, List.take_zero, List.drop_eq_nil_of_le (by rw [h1]; exact Nat.mul_le_mul_right _ (by omega))]
    · rw [if_neg hc] at ha
      refine .inr ⟨g, off + k * size, c - k, cur, ?_, h3, by omega, by omega, ?_, ?_⟩
      · rw [ha]
        simp only [Option.map_some]
        congr 2
        unfold Addr.add; split <;> simp_all
      · have : (c - k) * size = c * size - k * size := Nat.sub_mul _ _ _
        omega
      · rw [← h7, List.drop_take, List.drop_drop, Nat.sub_mul]
theorem St.slo_drop {L' : List Res} {k : Nat} {a' : Option Addr} (H : St B w0 w L) (hu : Upd L (slo e size (.slice a n c) n xs) (slo e size (.slice a' (n - k) (c - k)) (n - k) (xs.drop (k * size))) L') (hk : k ≤ n) (ha : a' = if c = k then a else a.map (·.add (k * size))) : St B w0 w L' :=
  H.upd hu ⟨rfl, rfl, rfl, Nat.le_refl _, fun _ _ _ => rfl⟩ (slo_sound ((H.get hu.mem).drop hk ha)) (fun g hg => by
    refine .inl ?_
    show (Value.slice a n c).ownBlock = some g
    have hg' : (Value.slice a' (n - k) (c - k)).ownBlock = some g := hg
    rw [ha] at hg'
    split at hg'
    · cases a with
      | none => cases hg'
      | some x => exact hg'
    · cases a with
      | none => cases hg'
      | some x =>
        have : (x.add (k * size)).block = x.block := by unfold Addr.add; split <;> rfl
        simp only [Option.map_some, Value.ownBlock, this] at hg' ⊢
        exact hg')
end
section
variable {P : Program} {ops : Array Oper} {a : Act} {w : World} {o : Oper} {N : Act → World → Prop} {B : Nat} {w0 : World} {L : List Res} {ty e : TypeId} {x y : Operand} {g off d size n c k : Nat} {xs : List Value}
/-- Some cells of it, as a struct. -/
theorem Stp.loa {cs : Array Value} (ho : o.op = .load ty x) (hagg : ∀ W : World, (isAgg ty).run P W = .ok true W) (hs : ∀ W : World, (sizeOf ty).run P W = .ok k W) (hx : a.eval x = .pointer (some ⟨g, off + d, none⟩)) (H : St B w0 w L)
    (hm : slo e size (.slice (some ⟨g, off, none⟩) n c) n xs ∈ L) (hc : ∀ j, j < k → xs[d + j]? = cs[j]?) (hk : cs.size = k) (h : N (a.put o.dst (.agg cs)) w) : Stp P o a w N := by
  refine ⟨w, .inl ⟨_, ?_, h⟩⟩
  subst hk
  have hc' : ∀ j, j < cs.size → w.cell? ⟨g, off + d + j, none⟩ = cs[j]? := fun j hj => by
    rw [Array.getElem?_eq_getElem hj, Nat.add_assoc]
    exact H.slo_cell hm (by rw [hc j hj, Array.getElem?_eq_getElem hj])
  unfold execOp; simp only [ho, hx, Instr.loadAt, Instr.sureAddr]
  simp [run_load_range hc' hagg hs]
theorem Yld.loa {cs : Array Value} (hw : Region.wanted o (yielded ops a.tmps) = true) (ho : o.op = .load ty x) (hagg : ∀ W : World, (isAgg ty).run P W = .ok true W) (hs : ∀ W : World, (sizeOf ty).run P W = .ok k W) (hx : a.eval x = .pointer (some ⟨g, off + d, none⟩))
    (hm : slo e size (.slice (some ⟨g, off, none⟩) n c) n xs ∈ L) (hc : ∀ j, j < k → xs[d + j]? = cs[j]?) (hk : cs.size = k) : YieldsIf P ops (fun W => St B w0 W L) o (.agg cs) a :=
  .inl ⟨hw, fun W H => by
    subst hk
    have hc' : ∀ j, j < cs.size → W.cell? ⟨g, off + d + j, none⟩ = cs[j]? := fun j hj => by
      rw [Array.getElem?_eq_getElem hj, Nat.add_assoc]
      exact H.slo_cell hm (by rw [hc j hj, Array.getElem?_eq_getElem hj])
    unfold execOp; simp only [ho, hx, Instr.loadAt, Instr.sureAddr]
    simp [run_load_range hc' hagg hs]⟩
/-- v[k:], of elements of any size. -/
theorem run_fromN {A : Option Addr} {kd : IntKind} (ht : P.underlying ty = some (.slice e)) (hs : ∀ W : World, (sizeOf e).run P W = .ok size W) (hk : k ≤ n) (W : World) :
    (Instr.slice ty (.slice A n c) (some (.int kd (k : Int))) none none).run P W = .ok (.slice (if c = k then A else A.map (·.add (k * size))) (n - k) (c - k)) W := by
  simp [Instr.slice, Instr.sliceBounds, Instr.sliceBound, asIntOf, run_underlying ht, hs, hk]
theorem Stp.slfromN {A : Option Addr} {kd : IntKind} {z : Int} (d : Tmp) (hd : o.dst = some d) (ho : o.op = .slice ty x (some y) none none) (ht : P.underlying ty = some (.slice e)) (hs : ∀ W : World, (sizeOf e).run P W = .ok size W)
    (hx : a.eval x = .slice A n c) (hy : a.eval y = .int kd z) (hz : z = (k : Int)) (hk : k ≤ n) (h : ∀ A', A' = (if c = k then A else A.map (·.add (k * size))) → N (a.put (some d) (.slice A' (n - k) (c - k))) w) : Stp P o a w N := by
  rw [← hd] at h
  subst hz
  refine ⟨w, .inl ⟨_, ?_, h _ rfl⟩⟩
  unfold execOp; simp only [ho]
  simp [hx, hy, Instr.sliceAt, run_underlying ht, run_fromN ht hs hk]
theorem slo_put {cap : Nat} {cur : Array Value} {news : List Value} {m : Nat} (hl : news.length = m * size) (hfit : off + cap * size ≤ cur.size) (hroom : n + m ≤ cap) (ht : (cur.toList.drop off).take (n * size) = xs) :
    ((cur.toList.take (off + n * size) ++ news ++ cur.toList.drop (off + n * size + news.length)).drop off).take ((n + m) * size) = xs ++ news := by
  have hcl : cur.toList.length = cur.size := by simp
  have hle : (n + m) * size ≤ cap * size := Nat.mul_le_mul_right _ hroom
  have hadd : (n + m) * size = n * size + m * size := Nat.add_mul _ _ _
  rw [List.append_assoc, List.drop_append, List.drop_take, Nat.add_sub_cancel_left, List.length_take, hcl]
  rw [show off - min (off + n * size) cur.size = 0 by omega, List.drop_zero, ht, hadd]
  have hxl : xs.length = n * size := by rw [← ht, List.length_take, List.length_drop, hcl]; omega
  rw [List.take_append, List.take_of_length_le (by omega), hxl, Nat.add_sub_cancel_left, List.take_append, List.take_of_length_le (by omega), hl, Nat.sub_self, List.take_zero, List.append_nil]
theorem run_append_off {t e : TypeId} {i : TypeInfo} (ht : P.underlying t = some (.slice e)) (hi : P.info? e = some i) (g off sLen sCap : Nat) (cur : Array Value) (hg : w.heap[g]? = some (.cells cur e (0, 0)))
    (ad : Addr) (m c : Nat) (news : List Value) (hl : news.length = m * i.size) (hnews : ∀ j u, news[j]? = some u → w.cell? (ad.add j) = some u) (h1 : ∀ u ∈ news, u.oneCell' = true)
    (hroom : sLen + m ≤ sCap) (hfit : off + sLen * i.size + news.length ≤ cur.size) :
    (Builtin.append_ #[t, t] ty #[.slice (some ⟨g, off, none⟩) sLen sCap, .slice (some ad) m c]).run P w =
      .ok (.slice (some ⟨g, off, none⟩) (sLen + m) sCap) (w.setRow g (cur.toList.take (off + sLen * i.size) ++ news ++ cur.toList.drop (off + sLen * i.size + news.length)).toArray) := by
  have hf := run_firstCells_some (P := P) w i.size m ad m c news hl hnews
  have hst := run_storeCells_at P g (off + sLen * i.size) e news 0 cur w hg (by simpa using hfit) h1
  simp only [Nat.add_zero] at hst
  simp [Builtin.append_, run_underlying ht, sizeOf, typeInfo, hi, Builtin.lenOf, hroom, hf, Addr.add_lit, hst]
/-- append of m elements onto it. -/
theorem Stp.appo {L' : Value → List Res} {z : Value} {bytes : Nat} {s : Operand} {va : Option Addr} {vc : Nat} {ad : Addr} {m : Nat} {news : List Value} (d : Tmp) (hd : o.dst = some d)
    (ho : o.op = .call { callee := .builtin .append, args := #[s, x], argTypes := #[ty, ty] }) (ht : P.underlying ty = some (.slice e)) (hi : (P.info? e).map (fun i => (i.zero, i.size, i.bytes)) = some (some z, size, bytes)) (hzs : z.cells.size = size) (hsz : 0 < size)
    (hs : a.eval s = .slice va n vc) (hx : a.eval x = .slice (some ad) m c) (H : St B w0 w L) (hu : ∀ v', Upd L (slo e size (.slice va n vc) n xs) (slo e size v' (n + m) (xs ++ news)) (L' v')) (hl : news.length = m * size) (hm0 : 0 < m) (hnews : ∀ j u, news[j]? = some u → w.cell? (ad.add j) = some u) (h1 : ∀ u ∈ news, u.oneCell' = true)
    (h63 : n + m ≤ maxLen) (hbytes : (n + m) * bytes ≤ 140737488355328)
    (h : ∀ ap cp w', St B w0 w' (L' (.slice ap (n + m) cp)) → N (a.put (some d) (.slice ap (n + m) cp)) w') : Stp P o a w N := by
  rw [← hd] at h
  obtain ⟨i, hi1, hi2, hi3, hi4⟩ := info_parts hi
  subst hi3 hi4
  have hown : OwnsOff w e i.size (.slice va n vc) n xs := H.get (hu (.slice va n vc)).mem
  have hsmall : n + m ≤ 9223372036854775807 := by simp only [maxLen] at h63; omega
  have hxn : (xs ++ news).length = (n + m) * i.size := by rw [List.length_append, hown.1, hl, Nat.add_mul]
  have fin : ∀ ap cp w', (Builtin.append_ #[ty, ty] o.type #[.slice va n vc, .slice (some ad) m c]).run P w = .ok (.slice ap (n + m) cp) w' → Grew (fun k => (Value.slice va n vc).ownBlock = some k) w w' → OwnsOff w' e i.size (.slice ap (n + m) cp) (n + m) (xs ++ news) → (∀ g, (Value.slice ap (n + m) cp).ownBlock = some g → (Value.slice va n vc).ownBlock = some g ∨ w.heap.size ≤ g) → Stp P o a w N := by
    intro ap cp w' hr hg hO hb
    refine ⟨w', .inl ⟨_, ?_, h ap cp w' (H.upd (hu _) hg (slo_sound hO) hb)⟩⟩
    unfold execOp
    simp only [ho, resolve, invoke, builtin, Sem.run_bind, Sem.run_pure, Result.andThen_ok, List.map_toArray, List.map_cons, List.map_nil, hs, hx, hr]
  have hgd : ∀ (cs : Array Value), Grew (fun k => (Value.slice va n vc).ownBlock = some k) w (w.drew.alloc (.cells cs e)) := fun cs => Grew.of_below (((Below.refl _ _).drew).alloc (by simp) _)
  rcases hown.2 with ⟨hv, h0⟩ | ⟨g, off, cap, cur, hv, h3, h4, h5, h6, h7⟩
  · injection hv with e1 _ e3
    subst e1 e3 h0
    have hxs : xs = [] := List.eq_nil_of_length_eq_zero (by simpa using hown.1)
    subst hxs
    have hr := run_append_nil (P := P) w ty o.type e i z ht hi1 hi2 ad m c news hl hnews (by omega) (by omega) (by simp only [Nat.zero_add] at hbytes; omega)
    have hge := grownCap_ge w m 0 e
    rw [Nat.zero_add] at *
    refine fin _ _ _ hr (hgd _) ⟨hxn, .inr ⟨w.heap.size, 0, _, _, rfl, heap_alloc_new _ _, hge, grownCap_le_maxLen w m 0 e (by omega), ?_, ?_⟩⟩ (fun g hg => .inr (by cases hg; exact Nat.le_refl _))
    · simp only [Array.size_append, size_zeroCells, hzs, List.size_toArray, hl]
      rw [Nat.zero_add, ← Nat.add_mul]
      exact Nat.mul_le_mul_right _ (by omega)
    · simp [hl]
  · injection hv with e1 _ e3
    subst e1 e3
    by_cases hroom : n + m ≤ vc
    · have hfit : off + n * i.size + news.length ≤ cur.size := by
        have := Nat.mul_le_mul_right i.size hroom
        rw [Nat.add_mul] at this
        omega
      have hr := run_append_off (P := P) (ty := o.type) ht hi1 g off n vc cur h3 ad m c news hl hnews h1 hroom hfit
      refine fin _ _ _ hr (grownBy_setRow w g _) ⟨hxn, .inr ⟨g, off, vc, _, rfl, setRow_heap w g cur _ e _ h3, hroom, h5, ?_, slo_put hl h6 hroom h7⟩⟩ (fun g hg => .inl hg)
      simp only [List.size_toArray, List.length_append, List.length_take, List.length_drop, Array.length_toList]
      omega
    · have holds : ∀ j u, xs[j]? = some u → w.cell? ((⟨g, off, none⟩ : Addr).add j) = some u := fun j u hj => by
        have hadd : (⟨g, off, none⟩ : Addr).add j = ⟨g, off + j, none⟩ := by unfold Addr.add; split <;> simp_all
        rw [hadd]
        exact H.slo_cell (hu (.slice (some ⟨g, off, none⟩) n vc)).mem hj
      have hr := run_append_grow (P := P) w ty o.type e i z ht hi1 hi2 ⟨g, off, none⟩ n vc xs hown.1 holds ad m c news hl hnews (by omega) (by omega) (growslice_fits (by omega) hbytes)
      have hge := grownCap_ge w (n + m) vc e
      refine fin _ _ _ hr (hgd _) ⟨hxn, .inr ⟨w.heap.size, 0, _, _, rfl, heap_alloc_new _ _, hge, grownCap_le_maxLen w (n + m) vc e h63, ?_, ?_⟩⟩ (fun g hg => .inr (by cases hg; exact Nat.le_refl _))
      · simp only [Array.size_append, size_zeroCells, hzs, List.size_toArray, hl, hown.1]
        rw [Nat.zero_add, ← Nat.add_mul, ← Nat.add_mul]
        exact Nat.mul_le_mul_right _ (by omega)
      · simp only [List.drop_zero, Array.toList_append, List.toList_toArray]
        rw [List.take_append_of_le_length (by rw [hxn]; exact Nat.le_refl _), List.take_of_length_le (by rw [hxn]; exact Nat.le_refl _)]
end
end Go.Proofs.Ytmokecicjmjkbaa
