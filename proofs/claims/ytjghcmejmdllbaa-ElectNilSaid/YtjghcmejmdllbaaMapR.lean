/-
  A map of the call's own as a resource: its pairs in the order in which they came; look-up, store, len; no condition.
-/
import Derived.Test.YtjghcmejmdllbaaBase
import Derived.Maps.Keyed
import Derived.MapKept
import Derived.DeepKeys4
import Derived.Carry
namespace Go.Proofs.Ytjghcmejmdllbaa
open Go.ChangeShapes Go.WideShapes Go.ChangeAt Go.RowKit Go.Maps
set_option linter.unusedVariables false
set_option linter.unusedSimpArgs false
set_option linter.unusedSectionVars false
section
variable {α β : Type} [DecidableEq α]
/-- A pair laid into a map's pairs. -/
def mput (M : List (α × β)) (a : α) (v : β) : List (α × β) := if M.any (fun p => decide (p.1 = a)) = true then M.map (fun p => if p.1 = a then (a, v) else p) else M ++ [(a, v)]
def mget (M : List (α × β)) (a : α) : Option β := (M.find? fun p => decide (p.1 = a)).map (·.2)
theorem mget_nil (a : α) : mget ([] : List (α × β)) a = none := rfl
theorem mget_none {M : List (α × β)} {a : α} : mget M a = none ↔ ∀ p ∈ M, p.1 ≠ a := by
  unfold mget
  simp [List.find?_eq_none]
theorem mget_mem {M : List (α × β)} {a : α} {v : β} (h : mget M a = some v) : (a, v) ∈ M := by
  unfold mget at h
  obtain ⟨p, hp, rfl⟩ := Option.map_eq_some_iff.1 h
  have h1 := List.find?_some hp
  have h2 := List.mem_of_find?_eq_some hp
  have h3 : p.1 = a := by simpa using h1
  subst h3
  exact h2
theorem mget_put_same (M : List (α × β)) (a : α) (v : β) : mget (mput M a v) a = some v := by
  unfold mput mget
  split
  · rename_i h
    induction M with
    | nil => simp at h
    | cons p M ih =>
      by_cases hp : p.1 = a
      · simp [List.find?_cons, hp]
      · simp only [List.any_cons, hp, decide_false, Bool.false_or] at h
        simp only [List.map_cons, hp, if_false, List.find?_cons, decide_false]
        exact ih h
  · rename_i h
    have hn : M.find? (fun p => decide (p.1 = a)) = none := by
      rw [List.find?_eq_none]
      intro p hp hc
      exact h (List.any_eq_true.2 ⟨p, hp, hc⟩)
    rw [List.find?_append, hn]
    simp
theorem mget_put_other (M : List (α × β)) (a b : α) (v : β) (hb : b ≠ a) : mget (mput M a v) b = mget M b := by
  unfold mput mget
  split
  · rename_i h
    clear h
    induction M with
    | nil => rfl
    | cons p M ih =>
      by_cases hp : p.1 = a
      · have h1 : p.1 ≠ b := fun e => hb (e.symm.trans hp)
        simp only [List.map_cons, hp, if_true, List.find?_cons]
        rw [decide_eq_false (fun e => hb e.symm)]
        exact ih
      · simp only [List.map_cons, hp, if_false, List.find?_cons]
        by_cases hq : p.1 = b
        · simp [hq]
        · rw [decide_eq_false hq]
          exact ih
  · rw [List.find?_append]
    cases M.find? (fun p => decide (p.1 = b)) with
    | some p => rfl
    | none => simp [Ne.symm hb]
theorem mget_put (M : List (α × β)) (a b : α) (v : β) : mget (mput M a v) b = if b = a then some v else mget M b := by
  by_cases h : b = a
  · subst h; rw [if_pos rfl, mget_put_same]
  · rw [if_neg h, mget_put_other _ _ _ _ h]
theorem mput_len (M : List (α × β)) (a : α) (v : β) : (mput M a v).length = if (mget M a).isSome then M.length else M.length + 1 := by
  unfold mput mget
  by_cases h : M.any (fun p => decide (p.1 = a)) = true
  · rw [if_pos h, List.length_map]
    obtain ⟨p, hp, hc⟩ := List.any_eq_true.1 h
    cases hf : M.find? (fun p => decide (p.1 = a)) with
    | none => exact absurd hc (by simpa using List.find?_eq_none.1 hf p hp)
    | some q => simp
  · rw [if_neg h]
    have hn : M.find? (fun p => decide (p.1 = a)) = none := by
      rw [List.find?_eq_none]
      intro p hp hc
      exact h (List.any_eq_true.2 ⟨p, hp, hc⟩)
    rw [hn]
    simp
theorem mput_keys (M : List (α × β)) (a : α) (v : β) : (mput M a v).map (·.1) = if (mget M a).isSome then M.map (·.1) else M.map (·.1) ++ [a] := by
  unfold mput mget
  by_cases h : M.any (fun p => decide (p.1 = a)) = true
  · rw [if_pos h]
    obtain ⟨p, hp, hc⟩ := List.any_eq_true.1 h
    cases hf : M.find? (fun p => decide (p.1 = a)) with
    | none => exact absurd hc (by simpa using List.find?_eq_none.1 hf p hp)
    | some q =>
      simp only [Option.map_some, Option.isSome_some, if_true, List.map_map]
      apply List.map_congr_left
      intro x hx
      by_cases hxa : x.1 = a
      · simp [hxa]
      · simp [hxa]
  · rw [if_neg h]
    have hn : M.find? (fun p => decide (p.1 = a)) = none := by
      rw [List.find?_eq_none]
      intro p hp hc
      exact h (List.any_eq_true.2 ⟨p, hp, hc⟩)
    rw [hn]
    simp
end
section
variable {α β : Type} [DecidableEq α] {P : Program} {k e t : TypeId} {ek : α → Value} {ev : β → Value} {w : World} {b : Nat} {M : List (α × β)}
/-- Block b is a map of the pairs M, in the order in which they came. -/
def MapAt (P : Program) (k : TypeId) (ek : α → Value) (ev : β → Value) (b : Nat) (M : List (α × β)) (w : World) : Prop :=
  ∃ es clock, w.heap[b]? = some (.map es clock) ∧ MapKept.Stamped es clock ∧ es.toList.map (fun x => (x.key, x.val)) = M.map (fun p => (ek p.1, ev p.2)) ∧ ∀ p ∈ M, ∃ l, keyOf P k (ek p.1) = some l
def mapr (P : Program) (k : TypeId) (ek : α → Value) (ev : β → Value) (b : Nat) (M : List (α × β)) : Res := (fun g => some b = some g, MapAt P k ek ev b M)
theorem mapr_loc (P : Program) (k : TypeId) (ek : α → Value) (ev : β → Value) (b : Nat) (M : List (α × β)) : Loc (mapr P k ek ev b M) := fun _ _ hb ⟨es, clock, h, h2⟩ => ⟨es, clock, (hb b rfl).trans h, h2⟩
theorem mapr_sound (h : MapAt P k ek ev b M w) : Sound (mapr P k ek ev b M) w :=
  ⟨h, fun g hg => by cases hg; obtain ⟨es, clock, h, _⟩ := h; exact (Array.getElem?_eq_some_iff.1 h).1, mapr_loc _ _ _ _ _ _⟩
theorem MapAt.nodup (hi : ∀ x y, ek x = ek y → x = y) (h : MapAt P k ek ev b M w) : M.Pairwise fun p q => p.1 ≠ q.1 := by
  obtain ⟨es, clock, _, hs, he, _⟩ := h
  have h3 := ((MapKept.stamped_iff es clock).1 hs).2.2
  have h4 : (es.toList.map fun x => (x.key, x.val)).Pairwise fun p q => p.1 ≠ q.1 := by rw [List.pairwise_map]; exact h3
  rw [he, List.pairwise_map] at h4
  exact h4.imp fun {p q} hne e => hne (by rw [e])
theorem mget_of_mem {M : List (α × β)} (hn : M.Pairwise fun p q => p.1 ≠ q.1) {p : α × β} (hp : p ∈ M) : mget M p.1 = some p.2 := by
  induction M with
  | nil => cases hp
  | cons q M ih =>
    obtain ⟨h1, h2⟩ := List.pairwise_cons.1 hn
    unfold mget
    rcases List.mem_cons.1 hp with rfl | hp
    · simp [List.find?_cons]
    · have := h1 p hp
      rw [List.find?_cons, decide_eq_false this]
      exact ih h2 hp
/-- Where a key stands, or that it stands nowhere. -/
theorem MapAt.find (K : Keyed P k) (hi : ∀ x y, ek x = ek y → x = y) {es : Array MapEntry} {clock : Nat} (hs : MapKept.Stamped es clock) (he : es.toList.map (fun x => (x.key, x.val)) = M.map (fun p => (ek p.1, ev p.2)))
    (hk : ∀ p ∈ M, ∃ l, keyOf P k (ek p.1) = some l) (hM : M.Pairwise fun p q => p.1 ≠ q.1) (w : World) {a : α} {l : Lit} (ha : keyOf P k (ek a) = some l) :
    (mget M a = none ∧ (Instr.findKey k (ek a) es.toList).run P w = .ok none w ∧ ∀ x ∈ es.toList, x.key ≠ ek a) ∨
    ∃ j v x, mget M a = some v ∧ (Instr.findKey k (ek a) es.toList).run P w = .ok (some (j, ev v)) w ∧ es.toList[j]? = some x ∧ x.key = ek a ∧ x.val = ev v ∧ M[j]? = some (a, v) := by
  have hkeys : ∀ x ∈ es.toList, ∃ l, keyOf P k x.key = some l := fun x hx => by
    have : (x.key, x.val) ∈ M.map (fun p => (ek p.1, ev p.2)) := by rw [← he]; exact List.mem_map.2 ⟨x, hx, rfl⟩
    obtain ⟨p, hp, e⟩ := List.mem_map.1 this
    obtain ⟨l, hl⟩ := hk p hp
    refine ⟨l, ?_⟩
    rw [← hl]
    injection e with e1 _
    rw [e1]
  rcases K.find w ha es.toList hkeys with ⟨h1, h2⟩ | ⟨j, x, h1, h2, h3⟩
  · refine .inl ⟨?_, h1, h2⟩
    rw [mget_none]
    intro p hp hpa
    have : (ek p.1, ev p.2) ∈ es.toList.map (fun x => (x.key, x.val)) := by rw [he]; exact List.mem_map.2 ⟨p, hp, rfl⟩
    obtain ⟨x, hx, e⟩ := List.mem_map.1 this
    injection e with e1 _
    exact h2 x hx (by rw [e1, hpa])
  · have hj : (es.toList.map fun x => (x.key, x.val))[j]? = some (x.key, x.val) := by rw [List.getElem?_map, h2]; rfl
    rw [he, List.getElem?_map] at hj
    obtain ⟨p, hp, e⟩ := Option.map_eq_some_iff.1 hj
    injection e with e1 e2
    have hpa : p.1 = a := hi _ _ (by rw [e1, h3])
    have hg := mget_of_mem hM (List.mem_of_getElem? hp)
    rw [hpa] at hg
    refine .inr ⟨j, p.2, x, hg, ?_, h2, h3, e2.symm, ?_⟩
    · rw [h1, e2]
    · rw [hp, ← hpa]
theorem run_look (c : Bool) (K : Keyed P k) (hi : ∀ x y, ek x = ek y → x = y) (ht : P.underlying t = some (.map k e)) {z : Value} (hz : (zeroValue e).run P w = .ok z w) (h : MapAt P k ek ev b M w) {a : α} {l : Lit} (ha : keyOf P k (ek a) = some l) :
    (Instr.lookup t (.map (some b)) (ek a) c).run P w = .ok (if c then .tuple #[((mget M a).map ev).getD z, .bool (mget M a).isSome] else ((mget M a).map ev).getD z) w := by
  have hM := h.nodup hi
  obtain ⟨es, clock, hb, hs, he, hk⟩ := h
  rcases MapAt.find K hi hs he hk hM w ha with ⟨hg, h1, _⟩ | ⟨j, v, x, hg, h1, _⟩
  · rw [hg]
    simp [Instr.lookup, run_underlying ht, MapKept.run_getObj_map hb, K.check w _ ha, h1, hz, Result.andThen]
  · rw [hg]
    simp [Instr.lookup, run_underlying ht, MapKept.run_getObj_map hb, K.check w _ ha, h1, Result.andThen]
theorem map_modify {γ δ : Type} (f : γ → δ) (es : Array γ) (j : Nat) (g : γ → γ) (x : γ) (hx : es.toList[j]? = some x) : (es.modify j g).toList.map f = (es.toList.map f).set j (f (g x)) := by
  apply List.ext_getElem?
  intro i
  rw [List.getElem?_map, Array.getElem?_toList, Array.getElem?_modify, List.getElem?_set]
  by_cases hij : j = i
  · subst hij
    have hlt : j < es.toList.length := (List.getElem?_eq_some_iff.1 hx).1
    have hx' : es[j]? = some x := by simpa using hx
    have hl2 : j < es.size := by simpa using hlt
    have e : es[j] = x := by
      rw [Array.getElem?_eq_getElem hl2] at hx'; exact Option.some.inj hx'
    simp [hl2, e]
  · simp [hij]
theorem map_put {M : List (α × β)} (hM : M.Pairwise fun p q => p.1 ≠ q.1) {a : α} {v u : β} {j : Nat} (hj : M[j]? = some (a, u)) : M.map (fun p => if p.1 = a then (a, v) else p) = M.set j (a, v) := by
  induction M generalizing j with
  | nil => cases hj
  | cons p M ih =>
    obtain ⟨h1, h2⟩ := List.pairwise_cons.1 hM
    cases j with
    | zero =>
      simp only [List.getElem?_cons_zero, Option.some.injEq] at hj
      subst hj
      simp only [List.map_cons, if_true, List.set_cons_zero, List.cons.injEq, true_and]
      conv => rhs; rw [← List.map_id M]
      apply List.map_congr_left
      intro q hq
      rw [if_neg (fun e => h1 q hq e.symm)]
      rfl
    | succ j =>
      rw [List.getElem?_cons_succ] at hj
      have : p.1 ≠ a := h1 _ (List.mem_of_getElem? hj)
      rw [List.map_cons, if_neg this, List.set_cons_succ, ih h2 hj]
theorem mput_set {M : List (α × β)} (hM : M.Pairwise fun p q => p.1 ≠ q.1) {a : α} {v u : β} {j : Nat} (hj : M[j]? = some (a, u)) : mput M a v = M.set j (a, v) := by
  unfold mput
  rw [if_pos (List.any_eq_true.2 ⟨_, List.mem_of_getElem? hj, by simp⟩), map_put hM hj]
theorem mput_new {M : List (α × β)} {a : α} {v : β} (h : mget M a = none) : mput M a v = M ++ [(a, v)] := by
  unfold mput
  rw [if_neg]
  intro hc
  obtain ⟨p, hp, e⟩ := List.any_eq_true.1 hc
  exact mget_none.1 h p hp (by simpa using e)
theorem keys_put {M : List (α × β)} {a : α} {v : β} {l : Lit} (hk : ∀ p ∈ M, ∃ l, keyOf P k (ek p.1) = some l) (ha : keyOf P k (ek a) = some l) : ∀ p ∈ mput M a v, ∃ l, keyOf P k (ek p.1) = some l := by
  intro p hp
  unfold mput at hp
  split at hp
  · obtain ⟨q, hq, rfl⟩ := List.mem_map.1 hp
    split
    · exact ⟨l, ha⟩
    · exact hk q hq
  · rcases List.mem_append.1 hp with h | h
    · exact hk p h
    · rw [List.mem_singleton] at h
      subst h
      exact ⟨l, ha⟩
theorem run_put (K : Keyed P k) (hi : ∀ x y, ek x = ek y → x = y) (ht : P.underlying t = some (.map k e)) (h : MapAt P k ek ev b M w) {a : α} {v : β} {l : Lit} (ha : keyOf P k (ek a) = some l) :
    ∃ w', (Instr.mapUpdate t (.map (some b)) (ek a) (ev v)).run P w = .ok () w' ∧ Grew (fun g => some b = some g) w w' ∧ MapAt P k ek ev b (mput M a v) w' := by
  have hM := h.nodup hi
  obtain ⟨es, clock, hb, hs, he, hk⟩ := h
  have hg : ∀ o, Grew (fun g => some b = some g) w (Go.ChangeMaps.setBlock w b o) := fun o => ⟨rfl, rfl, rfl, by simp [Go.ChangeMaps.setBlock], fun g hlt hne => (MapKept.heap_set hb).2 g (fun e => hne (by rw [e]))⟩
  rcases MapAt.find K hi hs he hk hM w ha with ⟨hgt, h1, h2⟩ | ⟨j, u, x, hgt, h1, h2, h3, h4, h5⟩
  · refine ⟨Go.ChangeMaps.setBlock w b (.map (es.push ⟨ek a, ev v, clock⟩) (clock + 1)), ?_, hg _, _, _, (MapKept.heap_set hb).1, MapKept.stamped_push hs h2, ?_, keys_put hk ha⟩
    · simp [Instr.mapUpdate, run_underlying ht, MapKept.run_getObj_map hb, K.check w false ha, h1, MapKept.run_setObj_map _ hb, Result.andThen, Go.ChangeMaps.setBlock]
    · rw [mput_new hgt]
      simp [he]
  · have hj : es[j]? = some x := by simpa using h2
    refine ⟨Go.ChangeMaps.setBlock w b (.map (es.modify j (fun e' => { e' with key := ek a, val := ev v })) clock), ?_, hg _, _, _, (MapKept.heap_set hb).1, MapKept.stamped_modify hs _ _ (fun _ _ => rfl) (fun e' _ he' => ?_), ?_, keys_put hk ha⟩
    · simp [Instr.mapUpdate, run_underlying ht, MapKept.run_getObj_map hb, K.check w false ha, h1, hj, h3, K.stays w ha, MapKept.run_setObj_map _ hb, Result.andThen, Go.ChangeMaps.setBlock]
    · rw [hj] at he'; cases he'; exact h3.symm
    · rw [map_modify _ _ _ _ x h2, he, mput_set hM h5, List.map_set]
end
section
variable {α β : Type} [DecidableEq α] {P : Program} {k e t : TypeId} {ek : α → Value} {ev : β → Value} {a : Act} {w : World} {o : Oper} {N : Act → World → Prop} {B : Nat} {w0 : World} {L : List Res} {M : List (α × β)} {b : Nat} {x y : Operand} {q : α} {l : Lit}
theorem Stp.mkmap (k : TypeId) (ek : α → Value) (ev : β → Value) (d : Tmp) (hd : o.dst = some d) (ho : o.op = .makeMap t none) (H : St B w0 w L)
    (h : ∀ g w', St B w0 w' (mapr P k ek ev g [] :: L) → N (a.put (some d) (.map (some g))) w') : Stp P o a w N := by
  rw [← hd] at h
  refine ⟨_, .inl ⟨_, ?_, h w.heap.size (w.alloc (.map #[] 0)) (H.new ((Below.refl _ _).alloc (Nat.le_refl _) _) (mapr_sound ⟨#[], 0, heap_alloc_new w _, MapKept.stamped_empty 0, rfl, by simp⟩) (fun g hg => by cases hg; exact Nat.le_refl _))⟩⟩
  unfold execOp; simp only [ho]; simp [run_makeMap]
theorem Stp.look (ho : o.op = .lookup t x y false) (K : Keyed P k) (hi : ∀ x y, ek x = ek y → x = y) (ht : P.underlying t = some (.map k e)) {z : Value} (hz : ∀ W : World, (zeroValue e).run P W = .ok z W) (hx : a.eval x = .map (some b)) (hy : a.eval y = ek q) (ha : keyOf P k (ek q) = some l) (H : St B w0 w L)
    (hm : mapr P k ek ev b M ∈ L) (h : N (a.put o.dst (((mget M q).map ev).getD z)) w) : Stp P o a w N := by
  refine ⟨w, .inl ⟨_, ?_, h⟩⟩
  unfold execOp; simp only [ho, hx, hy]
  simp [run_look false K hi ht (hz w) (H.get hm) ha]
theorem Stp.lookok (ho : o.op = .lookup t x y true) (K : Keyed P k) (hi : ∀ x y, ek x = ek y → x = y) (ht : P.underlying t = some (.map k e)) {z : Value} (hz : ∀ W : World, (zeroValue e).run P W = .ok z W) (hx : a.eval x = .map (some b)) (hy : a.eval y = ek q) (ha : keyOf P k (ek q) = some l) (H : St B w0 w L)
    (hm : mapr P k ek ev b M ∈ L) (h : N (a.put o.dst (.tuple #[((mget M q).map ev).getD z, .bool (mget M q).isSome])) w) : Stp P o a w N := by
  refine ⟨w, .inl ⟨_, ?_, h⟩⟩
  unfold execOp; simp only [ho, hx, hy]
  simp [run_look true K hi ht (hz w) (H.get hm) ha]
theorem Stp.mapup {L' : List Res} {ux : Operand} {v : β} (ho : o.op = .mapUpdate t x y ux) (K : Keyed P k) (hi : ∀ x y, ek x = ek y → x = y) (ht : P.underlying t = some (.map k e)) (hx : a.eval x = .map (some b)) (hy : a.eval y = ek q) (hv : a.eval ux = ev v) (ha : keyOf P k (ek q) = some l) (H : St B w0 w L)
    (hu : Upd L (mapr P k ek ev b M) (mapr P k ek ev b (mput M q v)) L') (h : ∀ w', St B w0 w' L' → N (a.put o.dst undef) w') : Stp P o a w N := by
  obtain ⟨w', hr, hg, hm⟩ := run_put K hi ht (H.get hu.mem) (v := v) ha
  refine ⟨w', .inr ⟨?_, h w' (H.upd hu hg (mapr_sound hm) (fun g hg => .inl hg))⟩⟩
  unfold execOp; simp only [ho, hx, hy, hv]
  simp [hr]
end
end Go.Proofs.Ytjghcmejmdllbaa
