/- My logic of owned memory, fourth part: a row that is only read any more ([]byte of a constant text); no condition. -/
import Derived.Test.YtcjbippgjhgoiaaBase
namespace Go.Proofs.Ytcjbippgjhgoiaa
open Go.ChangeShapes Go.WideShapes Go.ChangeAt Go.RowKit
set_option linter.unusedVariables false
set_option linter.unusedSimpArgs false
/-- Block g holds the cells cs, whatever mark it has. -/
def rdo (t : TypeId) (g : Nat) (cs : Array Value) : Res := (fun k => some g = some k, fun w => ∃ f, w.heap[g]? = some (.cells cs t f))
theorem rdo_sound {w : World} {t : TypeId} {g : Nat} {cs : Array Value} {f : Nat × Nat} (h : w.heap[g]? = some (.cells cs t f)) : Sound (rdo t g cs) w :=
  ⟨⟨f, h⟩, fun k hk => by cases hk; exact (Array.getElem?_eq_some_iff.1 h).1, fun _ _ hb h1 => by obtain ⟨f, h1⟩ := h1; exact ⟨f, (hb g rfl).trans h1⟩⟩
theorem St.getRdo {B : Nat} {w0 w : World} {L : List Res} {t : TypeId} {g : Nat} {cs : Array Value} (H : St B w0 w L) (h : rdo t g cs ∈ L) : ∃ f, w.heap[g]? = some (.cells cs t f) := H.get h
theorem Sl.of_rdo {w : World} {g c size n : Nat} {t : TypeId} {cs : Array Value} {E : Nat → Array Value} (h : ∃ f, w.heap[g]? = some (.cells cs t f)) (hm : n ≤ maxLen) (hE : ∀ i, i < n → ∀ j, j < size → cs[i * size + j]? = (E i)[j]?) : Sl w size n (.slice (some ⟨g, 0, none⟩) n c) E := by
  obtain ⟨f, h⟩ := h
  refine ⟨_, _, rfl, hm, fun _ => ⟨g, 0, rfl, (Array.getElem?_eq_some_iff.1 h).1, fun i hi j hj => ?_⟩⟩
  rw [Nat.zero_add, ← hE i hi j hj]
  simp [World.cell?, h]
theorem freeze_heap {w : World} {g k : Nat} {t : TypeId} {cs : Array Value} (h : w.heap[g]? = some (.cells cs t (0, 0))) : (w.freeze ⟨g, k, none⟩ 1).heap[g]? = some (.cells cs t (k, k + 1)) := by
  unfold World.freeze
  rw [if_neg (by decide)]
  simp [Array.getElem?_modify, h]
theorem freeze_grown (w : World) (g k : Nat) : Grew (fun j => some g = some j) w (w.freeze ⟨g, k, none⟩ 1) := by
  unfold World.freeze
  rw [if_neg (by decide)]
  exact ⟨rfl, rfl, rfl, by simp, fun j _ hj => by
    have : g ≠ j := fun e => hj (by rw [e])
    simp [Array.getElem?_modify, this]⟩
theorem run_conv {P : Program} {w : World} {t e : TypeId} {g n c : Nat} {cs : Array Value} (ht : P.underlying t = some (.slice e)) (he : P.underlying e = some (.int .u8)) (h : w.heap[g]? = some (.cells cs e (0, 0))) :
    (convert t t (.slice (some ⟨g, 0, none⟩) n c)).run P w = .ok (.slice (some ⟨g, 0, none⟩) n c) (w.freeze ⟨g, cs.size, none⟩ 1) := by
  have hsh : w.shape? g = some (e, cs.size) := by unfold World.shape?; rw [h]
  simp [convert, run_underlying ht, run_underlying he, markStringish, hsh]
theorem Stp.conv {P : Program} {a : Act} {w : World} {o : Oper} {N : Act → World → Prop} {B : Nat} {w0 : World} {L L' : List Res} {t e : TypeId} {x : Operand} {g n c : Nat} {cs : Array Value} (d : Tmp) (hd : o.dst = some d) (ho : o.op = .convert t t x)
    (ht : P.underlying t = some (.slice e)) (he : P.underlying e = some (.int .u8)) (hx : a.eval x = .slice (some ⟨g, 0, none⟩) n c) (H : St B w0 w L) (hu : Upd L (row e g cs) (rdo e g cs) L')
    (h : ∀ w', St B w0 w' L' → N (a.put (some d) (.slice (some ⟨g, 0, none⟩) n c)) w') : Stp P o a w N := by
  rw [← hd] at h
  have hh := H.getHeap hu.mem
  refine ⟨w.freeze ⟨g, cs.size, none⟩ 1, .inl ⟨_, ?_, h _ ?_⟩⟩
  · unfold execOp; simp only [ho]
    simp [hx, run_conv ht he hh]
  · exact H.upd hu (freeze_grown w g cs.size) (rdo_sound (freeze_heap hh)) (fun k hk => .inl hk)
end Go.Proofs.Ytcjbippgjhgoiaa
