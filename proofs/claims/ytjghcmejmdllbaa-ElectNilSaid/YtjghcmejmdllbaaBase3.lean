/- My logic of owned memory, third part: slices whose elements have several cells; no condition. -/
import Derived.Test.YtjghcmejmdllbaaBase
namespace Go.Proofs.Ytjghcmejmdllbaa
open Go.ChangeShapes Go.WideShapes Go.ChangeAt Go.RowKit
set_option linter.unusedVariables false
set_option linter.unusedSimpArgs false
theorem Sl.of_ownN {w : World} {b : Nat} {e : TypeId} {size : Nat} {v : Value} {n : Nat} {xs : List Value} {E : Nat → Array Value} (h : w.ownsRow b e size v n xs) (hE : ∀ i, i < n → ∀ j, j < size → xs[i * size + j]? = (E i)[j]?) (hm : n ≤ maxLen) : Sl w size n v E := by
  rcases h.2 with ⟨rfl, rfl⟩ | ⟨g, cap, cur, rfl, hbg, hgc, hnc, hcm, hcs, htake⟩
  · exact ⟨_, _, rfl, by simp [maxLen], fun h => absurd h (Nat.lt_irrefl _)⟩
  · refine Sl.of_row (rowAt_of hgc) hm (fun i hi j hj => ?_)
    rw [← hE i hi j hj, ← htake, List.getElem?_take]
    have : i * size + j < n * size := by
      have h1 : (i + 1) * size ≤ n * size := Nat.mul_le_mul_right _ hi
      rw [Nat.add_mul] at h1
      omega
    simp [this]
theorem St.swap {B : Nat} {w0 w : World} {L : List Res} {r s : Res} (H : St B w0 w (r :: s :: L)) : St B w0 w (s :: r :: L) := H.perm (.swap s r L)
/-- What an act is behind a value laid: one rule made of several. -/
theorem putS : (∀ (a : Act) (d : Tmp) (v : Value), a.put (some d) v = { a with tmps := a.tmps.setIfInBounds d v }) ∧ (∀ (l : List Value) (i : Nat) (x : Value), l.toArray.setIfInBounds i x = (l.set i x).toArray) ∧ (∀ (x y : Value) (l : List Value), (y :: l).set 0 x = x :: l) ∧ (∀ (x y : Value) (l : List Value) (n : Nat), (y :: l).set (n + 1) x = y :: l.set n x) :=
  ⟨fun _ _ _ => rfl, fun l i x => by simp, fun _ _ _ => rfl, fun _ _ _ _ => rfl⟩
theorem putE : (∀ (a : Act) (d : Tmp) (v : Value), a.put (some d) v = { a with tmps := a.tmps.setIfInBounds d v }) ∧ (∀ (l : List Value) (i : Nat) (x : Value), l.toArray.setIfInBounds i x = (l.set i x).toArray) ∧ (∀ (x y : Value) (l : List Value), (y :: l).set 0 x = x :: l) ∧ (∀ (x y : Value) (l : List Value) (n : Nat), (y :: l).set (n + 1) x = y :: l.set n x) ∧ (∀ (a : Act) (t : Tmp), a.eval (.tmp t) = a.tmps.getD t undef) ∧ (∀ (a : Act) (v : Value), a.eval (.const v) = v) ∧ (∀ (v : Value) (l : List Value) (d : Value), (List.toArray (v :: l)).getD 0 d = v) ∧ (∀ (v : Value) (l : List Value) (n : Nat) (d : Value), (List.toArray (v :: l)).getD (n + 1) d = (List.toArray l).getD n d) ∧ (∀ (x y : Value), (if (true : Bool) = true then x else y) = x) :=
  ⟨putS.1, putS.2.1, putS.2.2.1, putS.2.2.2, fun _ _ => rfl, fun _ _ => rfl, fun _ _ _ => rfl, fun _ _ _ _ => by simp, fun _ _ => rfl⟩
/-- A region is left in a known state, and then the rest. -/
theorem cut {P : Program} {c : Code} {Q : Exit → Act → World → Prop} {a : Act} {w : World} (F : Act → Act → World → Prop) (h : c.wp P (fun e a' w' => e = .normal ∧ F a a' w') a w) (hq : ∀ a' w', F a a' w' → Q .normal a' w') : c.wp P Q a w :=
  Code.wp_mono (fun e a' w' he => by obtain ⟨rfl, hf⟩ := he; exact hq a' w' hf) h
theorem St.gr {B : Nat} {w0 w : World} {L : List Res} {g : Nat} {cs : Array Value} (t : TypeId) (H : St B w0 w L) (h : row t g cs ∈ L := by repeat (first | exact List.mem_cons_self | apply List.mem_cons_of_mem)) : rowAt w g = some cs := H.getRow h
theorem newN {w : World} {g : Nat} {cs : Array Value} (h : rowAt w g = some cs) : ∀ j u, cs.toList[j]? = some u → w.cell? ((⟨g, 0, none⟩ : Addr).add j) = some u := fun j u hu => by
  have : (⟨g, 0, none⟩ : Addr).add j = ⟨g, j, none⟩ := by unfold Addr.add; split <;> simp_all
  rw [this, cell_of_rowAt h]; simpa using hu
section
variable {P : Program} {ops : Array Oper} {Q : Exit → Act → World → Prop} {S : World → Prop} {a : Act} {w : World}
theorem ra {l : List Oper} (rs : List Nat) {fuel : Nat} {listed : Array Bool} (h : AllReadyH P .any l.toArray (NoPanic Q) S fuel listed a w rs) (hr : Region.ready .any l.toArray listed = rs := by kernel_rfl) (hne : rs ≠ [] := by simp) : wpAnyH P .any l.toArray (NoPanic Q) S (fuel + 1) listed a w :=
  wpAnyH_ready hr hne h
theorem rc {l : List Oper} (i : Nat) {o : Oper} {fuel : Nat} {listed : Array Bool} {rs : List Nat} (ho : l[i]? = some o)
    (h : ∀ K : Act → World → Prop, Shut (∀ a w, S w → wpAnyH P .any l.toArray (NoPanic Q) S fuel (listed.setIfInBounds i true) a w → K a w) → Oper.wp P o a w K (NoPanic Q)) (hs : AllReadyH P .any l.toArray (NoPanic Q) S fuel listed a w rs) (hw : Region.wanted o (yielded l.toArray a.tmps) = true := by rfl) : AllReadyH P .any l.toArray (NoPanic Q) S fuel listed a w (i :: rs) :=
  AllReadyH.cons (by simpa using ho) (fun K hK => by rw [if_pos hw]; exact h K (fun a w hS hW => hK.out a w hS (fun _ => hW))) hs
theorem rt {l : List Oper} {oi : Oper} {v : Value} {fuel : Nat} {listed : Array Bool} (i : Nat) (hi : l[i]? = some oi) (hy : YieldsIf P l.toArray S oi v a) (hS : S w) (h : wpAnyH P .any l.toArray (NoPanic Q) S fuel (listed.setIfInBounds i true) (a.put oi.dst v) w)
    (hs : Region.noSelect l.toArray = true := by kernel_rfl) (hf : Region.free .any l.toArray listed i = true := by kernel_rfl) (hr : (Region.ready .any l.toArray listed).contains i = true := by kernel_rfl) : wpAnyH P .any l.toArray (NoPanic Q) S (fuel + 1) listed a w :=
  rg_take hi hs hf hr hy hS h
theorem rg_all {l : List Oper} {rs : List Nat} {fuel : Nat} {listed : Array Bool} (hr : Region.ready .any l.toArray listed = rs) (hne : rs ≠ []) (h : AllReadyH P .any l.toArray (NoPanic Q) S fuel listed a w rs) : wpAnyH P .any l.toArray (NoPanic Q) S (fuel + 1) listed a w :=
  wpAnyH_ready hr hne h
theorem rg_cons {l : List Oper} {i : Nat} {o : Oper} {fuel : Nat} {listed : Array Bool} {rs : List Nat} (ho : l[i]? = some o) (hw : Region.wanted o (yielded l.toArray a.tmps) = true)
    (h : ∀ K : Act → World → Prop, Shut (∀ a w, S w → wpAnyH P .any l.toArray (NoPanic Q) S fuel (listed.setIfInBounds i true) a w → K a w) → Oper.wp P o a w K (NoPanic Q)) (hs : AllReadyH P .any l.toArray (NoPanic Q) S fuel listed a w rs) : AllReadyH P .any l.toArray (NoPanic Q) S fuel listed a w (i :: rs) :=
  AllReadyH.cons (by simpa using ho) (fun K hK => by rw [if_pos hw]; exact h K (fun a w hS hW => hK.out a w hS (fun _ => hW))) hs
end
end Go.Proofs.Ytjghcmejmdllbaa
