/- The contract of layer 9's Copy (cmd): what is copied lies on new blocks; the bounds stand in it. -/
import Derived.Test.YtjghcmejmdllbaaVw4
namespace Go.Proofs.Ytjghcmejmdllbaa
open Go.ChangeShapes Go.WideShapes Go.ChangeAt Go.RowKit Go.Maps
set_option linter.unusedVariables false
set_option linter.unusedSimpArgs false
/-- A view, a command of the call's own, that is no longer written. -/
def vwr (G : Nat → Prop) (va vl vd : Value) (x : Vw) : Res := (fun g => G g, fun w => VwG G w va vl vd x)
def cmr (G : Nat → Prop) (vb va vl vd : Value) (c : Cm) : Res := (fun g => G g, fun w => CmG G w vb va vl vd c)
theorem vwr_sound {G : Nat → Prop} {va vl vd : Value} {x : Vw} {n : Nat} {w : World} (hG : ∀ g, G g → n ≤ g ∧ g < w.heap.size) (h : VwG G w va vl vd x) : Sound (vwr G va vl vd x) w :=
  ⟨h, fun g hg => (hG g hg).2, fun _ _ hb h1 => h1.loc hb⟩
theorem cmr_sound {G : Nat → Prop} {vb va vl vd : Value} {c : Cm} {n : Nat} {w : World} (hG : ∀ g, G g → n ≤ g ∧ g < w.heap.size) (h : CmG G w vb va vl vd c) : Sound (cmr G vb va vl vd c) w :=
  ⟨h, fun g hg => (hG g hg).2, fun _ _ hb h1 => h1.loc hb⟩
/-- How great a view, a command may be that is copied. -/
structure smV (x : Vw) : Prop where
  mem : x.mem.length ≤ 1000
  lvs : x.lvs.length ≤ 1000
  each : ∀ l ∈ x.lvs, l.length ≤ 1000
  ldr : x.ldr.length ≤ 1000
structure smC (c : Cm) : Prop where
  data : c.data.length ≤ 1000
  v : smV c.v
theorem SlG.of_bv {w : World} {b : Nat} {v : Value} {l : List Nat} (h : w.ownsRow b 5 1 v l.length (bv l)) (hl : l.length ≤ 100000) : SlG (fun g => v.ownBlock = some g) w 1 l.length v (elB l) :=
  SlG.of_own h (fun i hi j hj => by
    obtain rfl : j = 0 := by omega
    simp [bv, elB, List.getD, hi]) (by unfold maxLen; omega)
set_option maxRecDepth 100000 in
set_option maxHeartbeats 2000000 in
theorem ccopy_ok {G1 : Nat → Prop} (c : Cm) (ba ma la da : Option Addr) (bc mc lc dc : Nat) (hm : smC c) (w : World)
    (hx : CmG G1 w (.slice ba c.data.length bc) (.slice ma c.v.mem.length mc) (.slice la c.v.lvs.length lc) (.slice da c.v.ldr.length dc) c) :
    Calls Try.prog 83 #[.agg (cmC c ba ma la da bc mc lc dc)] w (Ret fun v w' => ∃ (G : Nat → Prop) (ab am al ad : Option Addr) (cb cm cl cd : Nat), v = .agg (cmC c ab am al ad cb cm cl cd) ∧ (∀ g, G g → w.heap.size ≤ g ∧ g < w'.heap.size) ∧ CmG G w' (.slice ab c.data.length cb) (.slice am c.v.mem.length cm) (.slice al c.v.lvs.length cl) (.slice ad c.v.ldr.length cd) c ∧ Below w.heap.size w w') := by
  have H := St.init w
  obtain ⟨hx1, hx2⟩ := hx
  have hb0 := hm.data
  have hb1 := hm.v.mem
  have hb2 := hm.v.lvs
  have HB3 := Lib.hid hm.v.each
  have hb4 := hm.v.ldr
  clear hm
  go_enter Try.func83, Try.ntmps83
  simp only [cmC]
  go_wp2_with (first | (go_at_call 61; (with_reducible refine (clone_any _ c.data c.data.length rfl (by omega) _ (hx1.sl.grow H.below)).mono ?_); rintro e w1 ⟨v, rfl, hr⟩; obtain ⟨⟨ba2, bc2, rfl⟩, ho, hb1⟩ := hr; replace H := H.new hb1 (slc_sound ho) (fun g hg => (ho.lt g hg).1); clear hb1 ho) | (go_at_call 59; (with_reducible refine (vcopy_ok c.v _ _ _ _ _ _ hb1 hb2 HB3.out hb4 _ (hx2.grow H.below)).mono ?_); rintro e w1 ⟨v, rfl, hr⟩; obtain ⟨G, am, al, ad, cm, cl, cd, rfl, hG, hv, hbw⟩ := hr; replace H := H.new hbw (vwr_sound hG hv) (fun g hg => (hG g hg).1); clear hbw hG hv) | (with_reducible refine wpl rfl (Stp.box 1 rfl rfl rfl H ?_); clear H; intro g1 w1 H; simp only [pS]; simp only [pE, nC, pS] at H) | (with_reducible refine wpl rfl (Stp.alloc 2 rfl rfl zero43 H ?_); clear H; intro g2 w1 H; simp only [pS]; simp only [nC] at H) | (with_reducible refine wpl rfl (Stp.ldc rfl agg37 rfl H mR cE ?_); simp only [pS]) | (with_reducible refine wpl rfl (Stp.ldo rfl agg37 rfl H (by assumption) (by assumption) ?_); simp only [pS]) | (with_reducible refine wpl rfl (Stp.stc rfl size37 rfl rfl rfl rfl H uP (by first | omega | (simp; done) | (simp; omega)) ?_); clear H; intro w1 H; simp only [pS]; simp only [pE, nC, pS] at H) | (with_reducible refine wpl rfl (Stp.ldr rfl agg26 size26 rfl H mR sZ ?_); simp only [pS]) | (with_reducible refine wpl rfl (Stp.ldl rfl agg26 size26 rfl H mR (by simp) ?_); simp only [pS]; simp only [List.drop_succ_cons, List.drop_zero, List.take_succ_cons, List.take_zero]) | (with_reducible refine wpl rfl (Stp.ldor rfl agg26 size26 rfl H (by assumption) sZ (by assumption) ?_); simp only [pS]) | (with_reducible refine wpl rfl (Stp.str rfl size26 rfl rfl (by first | rfl | (simp [Value.oneCell']; done) | assumption) H uP sZ sZ ?_); clear H; intro w1 H; simp only [pS]) | (with_reducible refine wpl rfl (Stp.stl rfl size26 rfl rfl rfl rfl H uP (by simp) ?_); clear H; intro w1 H; simp only [pS]; simp only [List.drop_succ_cons, List.drop_zero, List.take_succ_cons, List.take_zero, List.nil_append, List.cons_append, Nat.reduceAdd] at H) | (with_reducible refine wpl rfl (Stp.ldr rfl agg43 size43 rfl H mR sZ ?_); simp only [pS]) | (with_reducible refine wpl rfl (Stp.ldl rfl agg43 size43 rfl H mR (by simp) ?_); simp only [pS]; simp only [List.drop_succ_cons, List.drop_zero, List.take_succ_cons, List.take_zero]) | (with_reducible refine wpl rfl (Stp.ldor rfl agg43 size43 rfl H (by assumption) sZ (by assumption) ?_); simp only [pS]) | (with_reducible refine wpl rfl (Stp.str rfl size43 rfl rfl (by first | rfl | (simp [Value.oneCell']; done) | assumption) H uP sZ sZ ?_); clear H; intro w1 H; simp only [pS]) | (with_reducible refine wpl rfl (Stp.stl rfl size43 rfl rfl rfl rfl H uP (by simp) ?_); clear H; intro w1 H; simp only [pS]; simp only [List.drop_succ_cons, List.drop_zero, List.take_succ_cons, List.take_zero, List.nil_append, List.cons_append, Nat.reduceAdd] at H))
  refine post_row rfl agg43 size43 rfl H mE rfl rfl ⟨_, rfl, fun g => (Value.slice ba2 c.data.length bc2).ownBlock = some g ∨ G g, ba2, am, al, ad, bc2, cm, cl, cd, rfl, ?_, ⟨?_, ?_⟩, H.below⟩
  · intro g hg
    rcases hg with hg | hg
    · exact ⟨H.base (slc 5 1 (.slice ba2 c.data.length bc2) c.data.length (bv c.data)) mE g hg, (H.sound (slc 5 1 (.slice ba2 c.data.length bc2) c.data.length (bv c.data)) mE).lt g hg⟩
    · exact ⟨H.base (vwr G _ _ _ c.v) mE g hg, (H.sound (vwr G _ _ _ c.v) mE).lt g hg⟩
  · exact (SlG.of_bv (H.getSlc mE) (by omega)).mono (fun g h => .inl h)
  · exact VwG.mono (fun g h => .inr h) (H.get (r := vwr G _ _ _ c.v) mE)
end Go.Proofs.Ytjghcmejmdllbaa
