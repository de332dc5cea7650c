/- A map's entry that is taken and stored anew (m[k] op= v, m[k] = append(m[k], v)): two rules; no condition. -/
import Derived.Test.YtbepaafgcbgmfaaFz3
namespace Go.Proofs.Ytbepaafgcbgmfaa
open Go.ChangeShapes Go.WideShapes Go.ChangeAt Go.RowKit Go.Maps
set_option linter.unusedVariables false
set_option linter.unusedSimpArgs false
set_option linter.unusedSectionVars false
theorem find_born {es : Array MapEntry} {clock j : Nat} {x : MapEntry} (hs : MapKept.Stamped es clock) (hj : es[j]? = some x) : es.findIdx? (fun e => (e.born : Int) == (x.born : Int)) = some j := by
  have hjl : j < es.size := (Array.getElem?_eq_some_iff.1 hj).1
  have hx : es[j] = x := by rw [Array.getElem?_eq_getElem hjl] at hj; exact Option.some.inj hj
  rw [Array.findIdx?_eq_some_iff_getElem]
  refine ⟨hjl, by rw [hx]; simp, fun i hi hp => ?_⟩
  have hil : i < es.size := Nat.lt_trans hi hjl
  have hn := List.pairwise_iff_getElem.1 hs.2.1 i j (by simpa using hil) (by simpa using hjl) hi
  apply hn
  have e : (es[i]).born = x.born := by have := hp; simp at this; omega
  simp [e, hx]
section
variable {α β : Type} [DecidableEq α] {P : Program} {k e t : TypeId} {ek : α → Value} {ev : β → Value} {w : World} {b : Nat} {M : List (α × β)}
/-- As MapAt, and the entry that bears a stamp is a key's. -/
def MapEn (P : Program) (k : TypeId) (ek : α → Value) (ev : β → Value) (b : Nat) (M : List (α × β)) (q : α) (st : Nat) (w : World) : Prop :=
  ∃ es clock, w.heap[b]? = some (.map es clock) ∧ MapKept.Stamped es clock ∧ es.toList.map (fun x => (x.key, x.val)) = M.map (fun p => (ek p.1, ev p.2)) ∧ (∀ p ∈ M, ∃ l, keyOf P k (ek p.1) = some l) ∧ (M.Pairwise fun p q => p.1 ≠ q.1) ∧ ∃ (j : Nat) (x : MapEntry) (v : β), es[j]? = some x ∧ x.born = st ∧ M[j]? = some (q, v)
def mape (P : Program) (k : TypeId) (ek : α → Value) (ev : β → Value) (b : Nat) (M : List (α × β)) (q : α) (st : Nat) : Res := (fun g => some b = some g, MapEn P k ek ev b M q st)
theorem mape_loc (P : Program) (k : TypeId) (ek : α → Value) (ev : β → Value) (b : Nat) (M : List (α × β)) (q : α) (st : Nat) : Loc (mape P k ek ev b M q st) := fun _ _ hb ⟨es, clock, h, h2⟩ => ⟨es, clock, (hb b rfl).trans h, h2⟩
theorem mape_sound {q : α} {st : Nat} (h : MapEn P k ek ev b M q st w) : Sound (mape P k ek ev b M q st) w :=
  ⟨h, fun g hg => by cases hg; obtain ⟨es, clock, h, _⟩ := h; exact (Array.getElem?_eq_some_iff.1 h).1, mape_loc _ _ _ _ _ _ _ _⟩
def ment (M : List (α × β)) (q : α) (z : β) : List (α × β) := if (mget M q).isSome then M else M ++ [(q, z)]
theorem mput_ment (M : List (α × β)) (q : α) (z v : β) : mput (ment M q z) q v = mput M q v := by
  unfold ment
  cases h : mget M q with
  | some u => rfl
  | none =>
    rw [if_neg (by simp), mput_new h]
    unfold mput
    rw [if_pos (by simp)]
    rw [List.map_append]
    congr 1
    · conv => rhs; rw [← List.map_id M]
      apply List.map_congr_left
      intro p hp
      rw [if_neg (mget_none.1 h p hp)]; rfl
    · simp
theorem run_ent (K : Keyed P k) (hi : ∀ x y, ek x = ek y → x = y) (ht : P.underlying t = some (.map k e)) {z : β} (hz : ∀ W : World, (zeroValue e).run P W = .ok (ev z) W) (h : MapAt P k ek ev b M w) {a : α} {l : Lit} (ha : keyOf P k (ek a) = some l) :
    ∃ (st : Nat) (w' : World), (Instr.mapEntry t (.map (some b)) (ek a)).run P w = .ok (.tuple #[((mget M a).map ev).getD (ev z), goInt (st : Int)]) w' ∧ Grew (fun g => some b = some g) w w' ∧ MapEn P k ek ev b (ment M a z) a st w' := by
  have hM := h.nodup hi
  obtain ⟨es, clock, hb, hs, he, hk⟩ := h
  have hg : ∀ o, Grew (fun g => some b = some g) w (Go.ChangeMaps.setBlock w b o) := fun o => ⟨rfl, rfl, rfl, by simp [Go.ChangeMaps.setBlock], fun g hlt hne => (MapKept.heap_set hb).2 g (fun e => hne (by rw [e]))⟩
  have hsz : es.size = M.length := by have := congrArg List.length he; simpa using this
  rcases MapAt.find K hi hs he hk hM w ha with ⟨hgt, h1, h2⟩ | ⟨j, u, x, hgt, h1, h2, h3, h4, h5⟩
  · refine ⟨clock, Go.ChangeMaps.setBlock w b (.map (es.push ⟨ek a, ev z, clock⟩) (clock + 1)), ?_, hg _, _, _, (MapKept.heap_set hb).1, MapKept.stamped_push hs h2, ?_, ?_, ?_, es.size, ⟨ek a, ev z, clock⟩, z, by simp, rfl, ?_⟩
    · rw [hgt]
      simp [Instr.mapEntry, run_underlying ht, MapKept.run_getObj_map hb, K.check w false ha, h1, MapKept.run_setObj_map _ hb, hz w, Result.andThen, Go.ChangeMaps.setBlock]
    · unfold ment; rw [hgt]; simp [he]
    · unfold ment; rw [hgt]; intro p hp
      rw [if_neg (by simp)] at hp
      rcases List.mem_append.1 hp with h | h
      · exact hk p h
      · obtain rfl := List.mem_singleton.1 h; exact ⟨l, ha⟩
    · unfold ment; rw [hgt, if_neg (by simp)]
      refine List.pairwise_append.2 ⟨hM, by simp, fun p hp q hq => ?_⟩
      obtain rfl := List.mem_singleton.1 hq
      exact mget_none.1 hgt p hp
    · unfold ment; rw [hgt, if_neg (by simp), hsz]; simp
  · have hj : es[j]? = some x := by simpa using h2
    refine ⟨x.born, Go.ChangeMaps.setBlock w b (.map (es.modify j (fun e' => { e' with key := ek a })) clock), ?_, hg _, _, _, (MapKept.heap_set hb).1, MapKept.stamped_modify hs _ _ (fun _ _ => rfl) (fun e' _ he' => ?_), ?_, ?_, ?_, j, { x with key := ek a }, u, ?_, rfl, ?_⟩
    · rw [hgt]
      simp [Instr.mapEntry, run_underlying ht, MapKept.run_getObj_map hb, K.check w false ha, h1, hj, h3, K.stays w ha, MapKept.run_setObj_map _ hb, Result.andThen, Go.ChangeMaps.setBlock]
    · rw [hj] at he'; cases he'; exact h3.symm
    · rw [map_modify _ _ _ _ x h2]
      unfold ment; rw [hgt, if_pos (by simp), he]
      apply List.ext_getElem?
      intro i
      rw [List.getElem?_set]
      split
      · rename_i hij; subst hij
        have hjl : j < M.length := by have := (List.getElem?_eq_some_iff.1 h5).1; exact this
        rw [if_pos (by simpa using hjl), List.getElem?_map, h5]
        simp [h4]
      · rfl
    · unfold ment; rw [hgt, if_pos (by simp)]; exact hk
    · unfold ment; rw [hgt, if_pos (by simp)]; exact hM
    · rw [Array.getElem?_modify, if_pos rfl, hj]; rfl
    · unfold ment; rw [hgt, if_pos (by simp)]; exact h5
theorem run_est {q : α} {st : Nat} {v : β} (h : MapEn P k ek ev b M q st w) :
    ∃ w', (Instr.entryStore t (.map (some b)) (goInt (st : Int)) (ev v)).run P w = .ok () w' ∧ Grew (fun g => some b = some g) w w' ∧ MapAt P k ek ev b (mput M q v) w' := by
  obtain ⟨es, clock, hb, hs, he, hk, hM, j, x, u, hj, hst, hq⟩ := h
  have hg : ∀ o, Grew (fun g => some b = some g) w (Go.ChangeMaps.setBlock w b o) := fun o => ⟨rfl, rfl, rfl, by simp [Go.ChangeMaps.setBlock], fun g hlt hne => (MapKept.heap_set hb).2 g (fun e => hne (by rw [e]))⟩
  have hf := find_born hs hj
  rw [hst] at hf
  have hkx : (x.key, x.val) = (ek q, ev u) := by
    have h2 : (es.toList.map fun x => (x.key, x.val))[j]? = some (x.key, x.val) := by rw [List.getElem?_map, Array.getElem?_toList, hj]; rfl
    rw [he, List.getElem?_map, hq] at h2
    exact (Option.some.inj h2).symm
  refine ⟨Go.ChangeMaps.setBlock w b (.map (es.modify j (fun e' => { e' with val := ev v })) clock), ?_, hg _, _, _, (MapKept.heap_set hb).1, MapKept.stamped_modify hs _ _ (fun _ _ => rfl) (fun e' _ he' => rfl), ?_, ?_⟩
  · simp [Instr.entryStore, MapKept.run_getObj_map hb, goInt, asInt, asIntOf, hf, MapKept.run_setObj_map _ hb, Result.andThen, Go.ChangeMaps.setBlock]
  · rw [map_modify _ _ _ _ x (by simpa using hj), he, mput_set hM hq, List.map_set]
    injection hkx with e1 e2
    simp [e1]
  · obtain ⟨l, hl⟩ := hk _ (List.mem_of_getElem? hq)
    exact keys_put hk hl
end
section
variable {α β : Type} [DecidableEq α] {P : Program} {k e t : TypeId} {ek : α → Value} {ev : β → Value} {a : Act} {w : World} {o : Oper} {N : Act → World → Prop} {B : Nat} {w0 : World} {L : List Res} {M : List (α × β)} {b : Nat} {x y u : Operand} {q : α} {l : Lit}
theorem Stp.ent {L' : Nat → List Res} (d : Tmp) (hd : o.dst = some d) (ho : o.op = .mapEntry t x y) (K : Keyed P k) (hi : ∀ x y, ek x = ek y → x = y) (ht : P.underlying t = some (.map k e)) {z : β} (hz : ∀ W : World, (zeroValue e).run P W = .ok (ev z) W) (hx : a.eval x = .map (some b)) (hy : a.eval y = ek q) (ha : keyOf P k (ek q) = some l) (H : St B w0 w L)
    (hu : ∀ st : Nat, Upd L (mapr P k ek ev b M) (mape P k ek ev b (ment M q z) q st) (L' st)) (h : ∀ (st : Nat) w', St B w0 w' (L' st) → N (a.put (some d) (.tuple #[((mget M q).map ev).getD (ev z), goInt (st : Int)])) w') : Stp P o a w N := by
  rw [← hd] at h
  obtain ⟨st, w', hr, hg, hm⟩ := run_ent K hi ht hz (H.get (hu 0).mem) ha
  refine ⟨w', .inl ⟨_, ?_, h st w' (H.upd (hu st) hg (mape_sound hm) (fun g hg => .inl hg))⟩⟩
  unfold execOp; simp only [ho, hx, hy]
  simp [hr]
theorem Stp.est {L' : List Res} {v : β} {st : Nat} (ho : o.op = .entryStore t x y u) (hx : a.eval x = .map (some b)) (hy : a.eval y = goInt (st : Int)) (hv : a.eval u = ev v) (H : St B w0 w L)
    (hu : Upd L (mape P k ek ev b M q st) (mapr P k ek ev b (mput M q v)) L') (h : ∀ w', St B w0 w' L' → N (a.put o.dst undef) w') : Stp P o a w N := by
  obtain ⟨w', hr, hg, hm⟩ := run_est (t := t) (H.get hu.mem) (v := v)
  refine ⟨w', .inr ⟨?_, h w' (H.upd hu hg (mapr_sound hm) (fun g hg => .inl hg))⟩⟩
  unfold execOp; simp only [ho, hx, hy, hv]
  simp [hr]
end
end Go.Proofs.Ytbepaafgcbgmfaa
