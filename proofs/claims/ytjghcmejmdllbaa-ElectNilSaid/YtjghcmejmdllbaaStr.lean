/- Bytes as a string: what string(b) is, and when two such are one; the bytes are below 256. -/
import Derived.Test.YtjghcmejmdllbaaBits1
import Derived.Laws.BytesString
import Derived.Laws.StructEq
namespace Go.Proofs.Ytjghcmejmdllbaa
open Go.ChangeShapes Go.WideShapes Go.ChangeAt Go.RowKit
set_option linter.unusedVariables false
set_option linter.unusedSimpArgs false
/-- The string of some bytes. -/
def strOf (l : List Nat) : ByteArray := ⟨(l.map UInt8.ofNat).toArray⟩
theorem foldl_push : ∀ (l : List Nat) (s : ByteArray), (l.map fun (x : Nat) => (x : Int)).foldl (fun r n => r.push (UInt8.ofNat n.toNat)) s = ⟨s.data ++ (l.map UInt8.ofNat).toArray⟩
  | [], s => by simp
  | x :: l, s => by
    simp only [List.map_cons, List.foldl_cons]
    rw [foldl_push l]
    simp [ByteArray.push]
theorem strOf_inj {a b : List Nat} (ha : ∀ x ∈ a, x < 256) (hb : ∀ x ∈ b, x < 256) : ((strOf a).toList == (strOf b).toList) = (a == b) := by
  rw [ByteArray.toList_eq, ByteArray.toList_eq, Bool.eq_iff_iff]
  simp only [beq_iff_eq]
  refine ⟨fun h => ?_, fun h => by rw [h]⟩
  have h1 : a.map UInt8.ofNat = b.map UInt8.ofNat := by
    simpa [strOf] using h
  have key : ∀ l : List Nat, (∀ x ∈ l, x < 256) → (l.map UInt8.ofNat).map UInt8.toNat = l := fun l hl => by
    rw [List.map_map]
    conv => rhs; rw [← List.map_id l]
    exact List.map_congr_left fun x hx => by
      have := hl x hx
      simp only [Function.comp, id]
      exact Nat.mod_eq_of_lt this
  rw [← key a ha, ← key b hb, h1]
theorem run_b2s {w : World} {v : Value} {l : List Nat} (hs : Sl w 1 l.length v (elB l)) : (convert 37 9 v).run Try.prog w = .ok (.string (strOf l)) w := by
  obtain ⟨a, c, rfl, hm, h⟩ := hs
  rw [run_convert_bytes_string w 37 9 5 a l.length c Try.underlying37 Try.underlying5 Try.underlying9]
  cases a with
  | none =>
    have h0 : l = [] := by
      cases l with
      | nil => rfl
      | cons x t => obtain ⟨b, off, e, _⟩ := h (by simp); cases e
    subst h0
    rfl
  | some a =>
    have hl : (loadCells a l.length).run Try.prog w = .ok ((l.map fun (x : Nat) => (x : Int)).map (Value.int .u8)).toArray w := by
      have := run_loadCells_list (P := Try.prog) w a ((l.map fun (x : Nat) => (x : Int)).map (Value.int .u8)) (fun j u hu => by
        have hj : j < l.length := by
          rcases Nat.lt_or_ge j l.length with h | h
          · exact h
          · rw [List.getElem?_eq_none (by simpa using h)] at hu; cases hu
        obtain ⟨b, off, e, hb, hc⟩ := h (by omega)
        cases e
        have hadd : (⟨b, off, none⟩ : Addr).add j = ⟨b, off + j, none⟩ := by unfold Addr.add; split <;> simp_all
        have := hc j hj 0 (by omega)
        rw [Nat.mul_one, Nat.add_zero] at this
        rw [hadd, this, ← hu]
        simp [elB, List.getD, hj])
      simpa using this
    rw [run_bytesToString w a l.length c _ hl, foldl_push]
    have : ByteArray.empty.data ++ (List.map UInt8.ofNat l).toArray = (List.map UInt8.ofNat l).toArray := by
      show #[] ++ _ = _
      simp
    rw [this]; rfl
section
variable {P : Program} {ops : Array Oper} {a : Act} {w : World} {o : Oper} {N : Act → World → Prop}
theorem Stp.b2s {x : Operand} {v : Value} {l : List Nat} (d : Tmp) (hd : o.dst = some d) (ho : o.op = .convert 37 9 x) (hx : a.eval x = v) (hs : Sl w 1 l.length v (elB l)) (h : N (a.put (some d) (.string (strOf l))) w) : Stp Try.prog o a w N := by
  rw [← hd] at h
  refine ⟨w, .inl ⟨_, ?_, h⟩⟩
  unfold execOp; simp only [ho]
  simp [hx, run_b2s hs]
end
attribute [local irreducible] strOf
set_option maxRecDepth 100000 in
theorem bequal_ok (va vb : Value) (la lb : List Nat) (hxa : ∀ x ∈ la, x < 256) (hxb : ∀ x ∈ lb, x < 256) (w : World) (ha : Sl w 1 la.length va (elB la)) (hb : Sl w 1 lb.length vb (elB lb)) :
    Calls Try.prog 129 #[va, vb] w (Ret fun v w' => v = .bool (la == lb) ∧ Below w.heap.size w w') := by
  have H := St.init w
  have he := strOf_inj hxa hxb
  have ca := run_b2s ha
  have cb := run_b2s hb
  clear hxa hxb
  go_enter Try.func129, Try.ntmps129
  go_wp2
  go_ret
  exact ⟨_, rfl, rfl, H.below⟩
end Go.Proofs.Ytjghcmejmdllbaa
