/- My logic of owned memory: a map that is ranged over, in whatever order: range, next, entry; no condition. -/
import Derived.Test.YtjghcmejmdllbaaMapR
import Derived.Test.YtjghcmejmdllbaaVw6
import Derived.Maps.RangeRun
import Derived.Maps.Range
namespace Go.Proofs.Ytjghcmejmdllbaa
open Go.ChangeShapes Go.WideShapes Go.ChangeAt Go.RowKit Go.Maps
set_option linter.unusedVariables false
set_option linter.unusedSimpArgs false
set_option linter.unusedSectionVars false
/-- Block r goes over block b. -/
def itr (r b since : Nat) (seen : Array Nat) (c0 : Nat) : Res := (fun g => some r = some g, fun w => w.heap[r]? = some (.mapIter (some b) since seen c0))
theorem itr_loc (r b since : Nat) (seen : Array Nat) (c0 : Nat) : Loc (itr r b since seen c0) := fun _ _ hb h1 => (hb r rfl).trans h1
theorem itr_sound {w : World} {r b since : Nat} {seen : Array Nat} {c0 : Nat} (h : w.heap[r]? = some (.mapIter (some b) since seen c0)) : Sound (itr r b since seen c0) w :=
  ⟨h, fun k hk => by cases hk; exact (Array.getElem?_eq_some_iff.1 h).1, itr_loc _ _ _ _ _⟩
/-- How much is still to come. -/
def leftIn (es : Array MapEntry) (r : Nat) (w : World) : Nat := match w.heap[r]? with | some (.mapIter _ _ seen _) => (leftOf es seen).size | _ => 0
theorem leftIn_eq {es : Array MapEntry} {r b since c0 : Nat} {seen : Array Nat} {w : World} (h : w.heap[r]? = some (.mapIter (some b) since seen c0)) : leftIn es r w = (leftOf es seen).size := by unfold leftIn; rw [h]
section
variable {P : Program} {a : Act} {w w0 : World} {o : Oper} {N : Act → World → Prop} {B : Nat} {L : List Res} {es : Array MapEntry} {clock b : Nat}
theorem Stp.range {t k e : TypeId} {m : Operand} (d : Tmp) (hd : o.dst = some d) (ho : o.op = .range t m) (ht : P.underlying t = some (.map k e)) (hm : a.eval m = .map (some b)) (hb : w.heap[b]? = some (.map es clock)) (H : St B w0 w L)
    (h : ∀ r w', St B w0 w' (itr r b clock #[] clock :: L) → N (a.put (some d) (.pointer (some ⟨r, 0, none⟩))) w') : Stp P o a w N := by
  rw [← hd] at h
  refine ⟨w.alloc (.mapIter (some b) clock #[] clock), .inl ⟨_, ?_, h w.heap.size _ (H.new ((Below.refl _ _).alloc (Nat.le_refl _) _) (itr_sound (heap_alloc_new w _)) (fun g hg => by cases hg; exact Nat.le_refl _))⟩⟩
  unfold execOp; simp only [ho, hm]
  simp [run_range_map w t k e b es clock ht hb]
/-- The next one: nothing is left, or one that is left. -/
theorem Stp.next {L' : Nat → List Res} {it : Operand} {r c0 : Nat} {seen : Array Nat} (d : Tmp) (hd : o.dst = some d) (ho : o.op = .next it false) (hit : a.eval it = .pointer (some ⟨r, 0, none⟩)) (hb : w.heap[b]? = some (.map es clock)) (hs : MapKept.Stamped es clock) (hsc : clock ≤ c0) (H : St B w0 w L)
    (hu : ∀ x, Upd L (itr r b clock seen c0) (itr r b clock (seen.push x) clock) (L' x)) (h0 : (leftOf es seen).size = 0 → N (a.put (some d) (.tuple #[.bool false])) w)
    (h1 : ∀ e ∈ (leftOf es seen).toList, ∀ w', St B w0 w' (L' e.born) → N (a.put (some d) (.tuple #[.bool true, e.key, e.val])) w') : Stp P o a w N := by
  rw [← hd] at h0 h1
  have hr := H.get (hu 0).mem
  rcases run_next_at (P := P) w o.type r b clock c0 seen es clock hr hb hs.1 hsc with ⟨hz, hrun⟩ | ⟨e, he, w1, hal, hrun⟩
  · refine ⟨w, .inl ⟨_, ?_, h0 hz⟩⟩
    unfold execOp; simp only [ho, hit]
    simp [hrun]
  · have hr1 : w1.heap[r]? = some (.mapIter (some b) clock seen c0) := by rcases hal with rfl | rfl <;> exact hr
    have hset := Go.MapKept.heap_set (o' := .mapIter (some b) clock (seen.push e.born) clock) hr1
    refine ⟨_, .inl ⟨_, ?_, h1 e he _ (H.upd (hu e.born) (w' := Go.ChangeMaps.setBlock w1 r (.mapIter (some b) clock (seen.push e.born) clock)) ?_ (itr_sound hset.1) (fun g hg => .inl hg))⟩⟩
    · unfold execOp; simp only [ho, hit]
      simp [hrun]
    · rcases hal with rfl | rfl <;> exact ⟨rfl, rfl, rfl, by simp [Go.ChangeMaps.setBlock], fun i _ hi => hset.2 i (fun e1 => hi (by rw [e1]; rfl))⟩
theorem Stp.entry {it : Operand} {r : Nat} {seen : Array Nat} {e : MapEntry} (ho : o.op = .entry it) (hit : a.eval it = .pointer (some ⟨r, 0, none⟩)) (hb : w.heap[b]? = some (.map es clock)) (hs : MapKept.Stamped es clock) (he : e ∈ es.toList) (H : St B w0 w L)
    (hm : itr r b clock (seen.push e.born) clock ∈ L) (h : N (a.put o.dst (.tuple #[e.key, e.val])) w) : Stp P o a w N := by
  refine ⟨w, .inl ⟨_, ?_, h⟩⟩
  unfold execOp; simp only [ho, hit]
  simp [run_entry_at (P := P) w r b clock seen es clock e (H.get hm) hb he hs.2.1]
end
/-- An entry that is there is a pair of the map's. -/
theorem entry_pair {α β : Type} {ek : α → Value} {ev : β → Value} {M : List (α × β)} {es : Array MapEntry} (he : es.toList.map (fun x => (x.key, x.val)) = M.map (fun p => (ek p.1, ev p.2))) {e : MapEntry} (h : e ∈ es.toList) : ∃ p ∈ M, e.key = ek p.1 ∧ e.val = ev p.2 := by
  have h1 : (e.key, e.val) ∈ M.map (fun p => (ek p.1, ev p.2)) := by rw [← he]; exact List.mem_map.2 ⟨e, h, rfl⟩
  obtain ⟨p, hp, e1⟩ := List.mem_map.1 h1
  injection e1 with e2 e3
  exact ⟨p, hp, e2.symm, e3.symm⟩
end Go.Proofs.Ytjghcmejmdllbaa
