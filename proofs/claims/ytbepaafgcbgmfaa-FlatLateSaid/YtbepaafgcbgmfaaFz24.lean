/- Layer 29's reference: the stays of all who live (Stays); the bounds stand in it. -/
import Derived.Test.YtbepaafgcbgmfaaFz22
import Derived.Deep.Cut
import Derived.Deep.CutRange
namespace Go.Proofs.Ytbepaafgcbgmfaa
open Go.ChangeShapes Go.WideShapes Go.ChangeAt Go.RowKit Go.Maps Go.Deep
set_option linter.unusedVariables false
set_option linter.unusedSimpArgs false
set_option linter.unusedSectionVars false
set_option maxRecDepth 100000
set_option maxHeartbeats 8000000
/-- A stay as the reference lays it. -/
structure Ry where
  y : Sy
  b2 : Bool
  n3 : Nat
def ry0 : Ry := ⟨sy0, false, 0⟩
def ryc (r : Ry) : Array Value := #[.int .u16 (r.y.p.1 : Int), .int .u32 (r.y.p.2 : Int), .int .u64 (r.y.e.1.x.id : Int), .slice r.y.e.2.ma r.y.e.1.x.mem.length r.y.e.2.mc, .slice r.y.e.2.la r.y.e.1.x.lvs.length r.y.e.2.lc, .slice r.y.e.2.da r.y.e.1.x.ldr.length r.y.e.2.dc, .slice r.y.aa r.y.all.length r.y.ac, .slice r.y.ta r.y.told.length r.y.tc, .bool r.y.fol, .bool r.b2, .int .u64 (r.n3 : Int)]
theorem ryc_size (r : Ry) : (ryc r).size = 11 := rfl
def elR (l : List Ry) (i : Nat) : Array Value := ryc (l.getD i ry0)
theorem elR_at {l : List Ry} {k : Nat} (h : k < l.length) : elR l k = ryc l[k] := by unfold elR; rw [getD_at h]
theorem ryc_one (u0 u1 : Int) (V : Vw) (h : Hd) (aa ta : Option Addr) (le ac tl tc : Nat) (n3 : Int) {b1 b2 : Bool} : ∀ u ∈ (#[.int .u16 u0, .int .u32 u1, .int .u64 (V.id : Int), .slice h.ma V.mem.length h.mc, .slice h.la V.lvs.length h.lc, .slice h.da V.ldr.length h.dc, .slice aa le ac, .slice ta tl tc, .bool b1, .bool b2, .int .u64 n3] : Array Value).toList, u.oneCell' = true := by
  intro u hu
  simp only [List.mem_cons, List.not_mem_nil, or_false] at hu
  rcases hu with rfl | rfl | rfl | rfl | rfl | rfl | rfl | rfl | rfl | rfl | rfl <;> rfl
/-- Stays that are no longer written. -/
def rdR (G : Nat → Prop) (R : List Ry) : Res := (G, fun w => ∀ r ∈ R, InR G w ⟨r.y.all, r.y.aa, r.y.ac⟩ ∧ InR G w ⟨r.y.told, r.y.ta, r.y.tc⟩)
theorem rdR_loc (G : Nat → Prop) (R : List Ry) : Loc (rdR G R) := fun _ _ hb h x hx => ⟨(h x hx).1.loc hb, (h x hx).2.loc hb⟩
theorem St.rdR0 {B : Nat} {w0 w : World} {L : List Res} (H : St B w0 w L) : St B w0 w (rdR (fun _ => False) [] :: L) :=
  St.emp (p := (rdR (fun _ => False) []).2) (fun W x hx => absurd hx List.not_mem_nil) H
theorem St.shutR {B : Nat} {w0 w : World} {L : List Res} {G : Nat → Prop} {R : List Ry} (r : Ry) (hl : r.y.all.length ≤ 1000000) (ht : r.y.told.length ≤ 1000000)
    (H : St B w0 w (slc 62 9 (.slice r.y.aa r.y.all.length r.y.ac) r.y.all.length (fv evc r.y.all) :: slc 62 9 (.slice r.y.ta r.y.told.length r.y.tc) r.y.told.length (fv evc r.y.told) :: rdR G R :: L)) :
    ∃ G' : Nat → Prop, St B w0 w (rdR G' (R ++ [r]) :: L) := by
  have H1 := (H.perm (.swap _ _ _)).perm ((List.Perm.swap _ _ _).cons _)
  refine ⟨fun g => (Value.slice r.y.aa r.y.all.length r.y.ac).ownBlock = some g ∨ (Value.slice r.y.ta r.y.told.length r.y.tc).ownBlock = some g ∨ G g, ?_⟩
  have H2 := (H.perm (List.Perm.refl _))
  have H3 : St B w0 w (slc 62 9 (.slice r.y.aa r.y.all.length r.y.ac) r.y.all.length (fv evc r.y.all) :: star (slc 62 9 (.slice r.y.ta r.y.told.length r.y.tc) r.y.told.length (fv evc r.y.told)) (rdR G R) :: L) := by
    have h4 : St B w0 w (star (slc 62 9 (.slice r.y.ta r.y.told.length r.y.tc) r.y.told.length (fv evc r.y.told)) (rdR G R) :: slc 62 9 (.slice r.y.aa r.y.all.length r.y.ac) r.y.all.length (fv evc r.y.all) :: L) :=
      St.join (H.perm ((List.Perm.swap _ _ _).trans ((List.Perm.swap _ _ _).cons _)))
    exact h4.perm (.swap _ _ _)
  exact H3.join.conv (r' := rdR (fun g => (Value.slice r.y.aa r.y.all.length r.y.ac).ownBlock = some g ∨ (Value.slice r.y.ta r.y.told.length r.y.tc).ownBlock = some g ∨ G g) (R ++ [r])) (fun g h => h) (fun hs => ⟨fun z hz => by
    rcases List.mem_append.1 hz with h1 | h1
    · exact ⟨(hs.here.2.2 z h1).1.mono (fun g hg => .inr (.inr hg)), (hs.here.2.2 z h1).2.mono (fun g hg => .inr (.inr hg))⟩
    · obtain rfl := List.mem_singleton.1 h1
      exact ⟨(own_InR (x := ⟨z.y.all, z.y.aa, z.y.ac⟩) hs.here.1 hl).mono (fun g hg => .inl hg), (own_InR (x := ⟨z.y.told, z.y.ta, z.y.tc⟩) hs.here.2.1 ht).mono (fun g hg => .inr (.inl hg))⟩, hs.lt, rdR_loc _ _⟩)
/-! ### What they are -/
abbrev Sq := Pr × Eh × List Eh × List Eh
def ryd (r : Ry) : Sq := (r.y.p, r.y.e, r.y.all, r.y.told)
def life4 (p : Pr) (l : List Eh) : List Sq := (staysH l).map fun es => (p, es.headD eh0, es, tlE es)
def all4 (ls : List Lv) : List Sq := ls.flatMap fun x => life4 x.p x.l
theorem all4_snoc {ls : List Lv} {k : Nat} {x : Lv} (h : ls.take (k + 1) = ls.take k ++ [x]) : all4 (ls.take (k + 1)) = all4 (ls.take k) ++ life4 x.p x.l := by
  unfold all4; rw [h, List.flatMap_append, List.flatMap_singleton]
/-- What a walk through a life has laid: the stays ahead, and the last one. -/
structure Op4 (pre : List Sq) (p : Pr) (l : List Eh) (R : List Ry) (e : Eh) (all told : List Eh) : Prop where
  ex : ∃ S, staysH l = S ++ [all] ∧ R.map ryd = pre ++ S.map fun es => (p, es.headD eh0, es, tlE es)
  e : all.headD eh0 = e
  t : told = tlE all
theorem Op4.out {pre : List Sq} {p : Pr} {l : List Eh} {R : List Ry} {e : Eh} {all told : List Eh} (h : Op4 pre p l R e all told) (r : Ry) (hp : r.y.p = p) (he : r.y.e = e) (ha : r.y.all = all) (ht : r.y.told = told) : (R ++ [r]).map ryd = pre ++ life4 p l := by
  obtain ⟨S, h1, h2⟩ := h.ex
  unfold life4
  rw [h1, List.map_append, List.map_append, h2, List.append_assoc]
  simp only [List.map_cons, List.map_nil, ryd, hp, he, ha, ht]
  rw [h.e, h.t]
theorem op4_new0 {pre : List Sq} {p : Pr} {l : List Eh} {R : List Ry} (h0 : staysH l = []) (hR : R.map ryd = pre) {e : Eh} (hk : e.1.kd = 1) : Op4 pre p (l ++ [e]) R e [e] [] :=
  ⟨⟨[], by rw [staysH_snoc, h0, stA_new hk], by rw [hR]; simp⟩, rfl, by unfold tlE; simp [hk]⟩
theorem op4_new1 {pre : List Sq} {p : Pr} {l : List Eh} {R : List Ry} {e0 : Eh} {all told : List Eh} (h : Op4 pre p l R e0 all told) (r : Ry) (hp : r.y.p = p) (he : r.y.e = e0) (ha : r.y.all = all) (ht : r.y.told = told) {e : Eh} (hk : e.1.kd = 1) : Op4 pre p (l ++ [e]) (R ++ [r]) e [e] [] := by
  obtain ⟨S, h1, h2⟩ := h.ex
  refine ⟨⟨S ++ [all], by rw [staysH_snoc, h1, stA_new hk], ?_⟩, rfl, by unfold tlE; simp [hk]⟩
  rw [h.out r hp he ha ht]
  unfold life4; rw [h1]
theorem op4_add {pre : List Sq} {p : Pr} {l : List Eh} {R : List Ry} {e0 : Eh} {all told : List Eh} (h : Op4 pre p l R e0 all told) {e : Eh} (hk : e.1.kd ≠ 1) (h2 : e.1.kd ≠ 2) : Op4 pre p (l ++ [e]) R e0 (all ++ [e]) told := by
  obtain ⟨S, h1, h3⟩ := h.ex
  obtain ⟨a, r, rfl⟩ := staysH_head l all (by rw [h1]; simp)
  exact ⟨⟨S, by rw [staysH_snoc, h1, stA_add hk], h3⟩, h.e, by rw [h.t, tlE_snoc, if_neg h2, List.append_nil]⟩
theorem op4_add2 {pre : List Sq} {p : Pr} {l : List Eh} {R : List Ry} {e0 : Eh} {all told : List Eh} (h : Op4 pre p l R e0 all told) {e : Eh} (h2 : e.1.kd = 2) : Op4 pre p (l ++ [e]) R e0 (all ++ [e]) (told ++ [e]) := by
  obtain ⟨S, h1, h3⟩ := h.ex
  obtain ⟨a, r, rfl⟩ := staysH_head l all (by rw [h1]; simp)
  exact ⟨⟨S, by rw [staysH_snoc, h1, stA_add (by rw [h2]; decide)], h3⟩, h.e, by rw [h.t, tlE_snoc, if_pos h2]⟩
/-! ### The last stay's cells -/
theorem fvr_len (R : List Ry) : (fv ryc R).length = R.length * 11 := fv_len ryc_size R
theorem fvr_get {R : List Ry} {m : Nat} (hm : R.length = m) (r : Ry) {j : Nat} (hj : j < 11) {v : Value} (hv : (ryc r)[j]? = some v) : (fv ryc (R ++ [r]))[m * 11 + j]? = some v := by
  subst hm
  rw [fv_get ryc_size (R ++ [r]) R.length r (by simp) j hj, hv]
theorem fvr_set {R : List Ry} {m : Nat} (hm : R.length = m) (r r' : Ry) {j : Nat} (hj : j < 11) {v : Value} (hv : (ryc r).toList.set j v = (ryc r').toList) : (fv ryc (R ++ [r])).set (m * 11 + j) v = fv ryc (R ++ [r']) := by
  subst hm
  rw [fv_app, fv_app, fv_one, fv_one, List.set_append, if_neg (by rw [fvr_len]; omega), fvr_len, show R.length * 11 + j - R.length * 11 = j by omega, hv]
end Go.Proofs.Ytbepaafgcbgmfaa
