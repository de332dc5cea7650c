/- Contracts of slices.Clone over processes, and of layers 8's and 9's Copy (view, cmd): what is copied lies on new blocks; the bounds stand in each. The contract of layer 9's Copy (cmd): what is copied lies on new blocks; the bounds stand in it. Processes and their ids as keys of maps; which stand first, which rise; no condition. -/
import Derived.Test.YtmokecicjmjkbaaGy3
import Derived.Test.YtmokecicjmjkbaaGy8
namespace Go.Proofs.Ytmokecicjmjkbaa
open Go.ChangeShapes Go.WideShapes Go.ChangeAt Go.RowKit Go.Maps
set_option linter.unusedVariables false
set_option linter.unusedSimpArgs false
/-- What a resource says, said otherwise. -/
theorem St.conv {B : Nat} {w0 w : World} {L : List Res} {r r' : Res} (H : St B w0 w (r :: L)) (hb : ∀ g, r'.1 g → r.1 g) (hs : Sound r w → Sound r' w) : St B w0 w (r' :: L) := by
  obtain ⟨ha, hp⟩ := List.pairwise_cons.1 H.apart
  refine ⟨H.below, H.size, ?_, ?_, List.pairwise_cons.2 ⟨fun s hs g hg => ha s hs g (hb g hg), hp⟩⟩
  · intro x hx
    rcases List.mem_cons.1 hx with rfl | hx
    · exact hs (H.sound r List.mem_cons_self)
    · exact H.sound x (List.mem_cons_of_mem _ hx)
  · intro x hx g hg
    rcases List.mem_cons.1 hx with rfl | hx
    · exact H.base r List.mem_cons_self g (hb g hg)
    · exact H.base x (List.mem_cons_of_mem _ hx) g hg
theorem nil_ps (a : Option Addr) (n c : Nat) (w : World) : (binOp .eql 31 (.slice a n c) (.slice none 0 0)).run Try.prog w = .ok (.bool a.isNone) w := Lib.run_eql_slice_nil w 31 30 a n c 0 0 Try.underlying31
theorem SlG.of_pv {w : World} {b : Nat} {v : Value} {l : List Pr} (h : w.ownsRow b 30 2 v l.length (pv l)) (hl : l.length ≤ 100000) : SlG (fun g => v.ownBlock = some g) w 2 l.length v (elQ l) :=
  SlG.of_own h (fun i hi j hj => pv_get l i hi j hj) (by unfold maxLen; omega)
theorem Sl.srcN {w : World} {size n : Nat} {a : Option Addr} {c : Nat} {E : Nat → Array Value} {xs : List Value} (h : Sl w size n (.slice a n c) E) (hx : ∀ i, i < n → ∀ j, j < size → xs[i * size + j]? = (E i)[j]?) (hl : xs.length = n * size) (hs : 0 < size) : 0 < n → ∃ ad, a = some ad ∧ ∀ j u, xs[j]? = some u → w.cell? (ad.add j) = some u := fun h0 => by
  obtain ⟨a', c', e, hm, hE⟩ := h
  obtain ⟨b, off, e2, hb, hc⟩ := hE h0
  injection e with e _ _
  refine ⟨_, e.trans e2, fun j u hj => ?_⟩
  have hjl : j < n * size := by
    rcases Nat.lt_or_ge j (n * size) with h | h
    · exact h
    · rw [List.getElem?_eq_none (by omega)] at hj; cases hj
  have hq : j / size < n := Nat.div_lt_of_lt_mul (by rw [Nat.mul_comm]; exact hjl)
  have hr := Nat.mod_lt j hs
  have hd : j / size * size + j % size = j := by rw [Nat.mul_comm]; exact Nat.div_add_mod j size
  have h1 := hc (j / size) hq (j % size) hr
  have h2 := hx (j / size) hq (j % size) hr
  rw [hd] at h2
  rw [show off + j / size * size + j % size = off + j by omega] at h1
  have hadd : (⟨b, off, none⟩ : Addr).add j = ⟨b, off + j, none⟩ := by unfold Addr.add; split <;> simp_all
  rw [hadd, h1, ← h2, hj]
theorem pv_one (l : List Pr) : ∀ u ∈ pv l, u.oneCell' = true := by
  intro u hu
  unfold pv at hu
  obtain ⟨p, _, hu⟩ := List.mem_flatMap.1 hu
  simp only [List.mem_cons, List.not_mem_nil, or_false] at hu
  rcases hu with rfl | rfl <;> rfl
section
attribute [local go_sem] nil_ps
set_option maxRecDepth 100000 in
theorem pclone_ok (v : Value) (l : List Pr) (hl : l.length ≤ 100000) (w : World) (hs : Sl w 2 l.length v (elQ l)) :
    Calls Try.prog 117 #[v] w (Ret fun v' w' => ∃ ap cp, v' = .slice ap l.length cp ∧ w'.ownsRow w.heap.size 30 2 (.slice ap l.length cp) l.length (pv l) ∧ Below w.heap.size w w') := by
  have hs' := hs
  obtain ⟨A, c, rfl, hm, hE⟩ := hs'
  cases A with
  | none =>
    have h0 : l = [] := by
      cases l with
      | nil => rfl
      | cons x t => obtain ⟨b, off, e, _⟩ := hE (by simp); cases e
    subst h0
    have H := St.init w
    clear hE hs
    go_enter Try.func117, Try.ntmps117
    go_wp2_with fail
    go_ret
    exact ⟨_, rfl, none, 0, rfl, World.ownsRow_nil _ _ _ _, H.below⟩
  | some ad =>
    have H := St.init w
    clear hE
    go_enter Try.func117, Try.ntmps117
    go_wp2_with (first | (with_reducible refine wpl rfl (dQ 5 rfl ?_); with_reducible refine (Stp.bsl0N (e := 30) (size := 2) 5 rfl rfl (fun W => by kernel_rfl) H ?_); clear H; intro a5 c5 w1 H; simp only [pS]) | (with_reducible refine wpl rfl (dQ 7 rfl ?_); with_reducible refine (Stp.apps 7 rfl rfl Try.underlying31 info30 rfl (by decide) rfl rfl H (fun _ => uP) (pv_len l) ((hs.grow H.below).srcN (fun i hi j hj => pv_get l i hi j hj) (pv_len l) (by omega)) (pv_one l) (by unfold maxLen; omega) (by omega) ?_); clear H; intro a7 c7 w1 H; simp only [pS]; simp only [Nat.zero_add, List.nil_append] at H ⊢))
    go_ret
    exact ⟨_, rfl, _, _, rfl, H.getSlc mE, H.below⟩
end
/-- Copies of the first k leaves. -/
def lvr (G : Nat → Prop) (hd : Nat → Value) (ls : List (List Pr)) (k : Nat) : Res := (fun g => G g, fun w => ∀ i, i < k → SlG G w 2 (ls.getD i []).length (hd i) (elQ (ls.getD i [])))
theorem lvr_loc (G : Nat → Prop) (hd : Nat → Value) (ls : List (List Pr)) (k : Nat) : Loc (lvr G hd ls k) := fun _ _ hb h i hi => (h i hi).loc hb
/-- The leaves' headers. -/
def hdv (hd : Nat → Value) (k : Nat) : List Value := (List.range k).map hd
theorem hdv_get (hd : Nat → Value) (k i : Nat) (h : i < k) : (hdv hd k)[i]? = some (hd i) := by simp [hdv, h]
theorem hdv_snoc (hd : Nat → Value) (k : Nat) (v : Value) : hdv hd k ++ [v] = hdv (fun i => if i = k then v else hd i) (k + 1) := by
  unfold hdv
  rw [List.range_succ, List.map_append]
  congr 1
  · apply List.map_congr_left
    intro i hi
    have : i < k := by simpa using hi
    rw [if_neg (by omega)]
  · simp
/-- One leaf more is copied. -/
theorem St.leaf {B : Nat} {w0 w : World} {L : List Res} {G : Nat → Prop} {hd : Nat → Value} {ls : List (List Pr)} {k : Nat} {a : Option Addr} {c : Nat} {l : List Pr} (H : St B w0 w (slc 30 2 (.slice a l.length c) l.length (pv l) :: lvr G hd ls k :: L)) (hl : ls.getD k [] = l) (hm : l.length ≤ 100000) :
    ∃ G', St B w0 w (lvr G' (fun i => if i = k then .slice a l.length c else hd i) ls (k + 1) :: L) := by
  refine ⟨fun g => (Value.slice a l.length c).ownBlock = some g ∨ G g, H.join.conv (fun g h => h) (fun hS => ⟨?_, hS.lt, lvr_loc _ _ _ _⟩)⟩
  intro i hi
  obtain ⟨h1, h2⟩ := hS.here
  by_cases hk : i = k
  · subst hk
    simp only [if_true]
    rw [hl]
    exact (SlG.of_pv (b := 0) h1 hm).mono (fun g h => .inl h)
  · show SlG _ w 2 _ (if i = k then _ else hd i) _
    rw [if_neg hk]
    exact (h2 i (by omega)).mono (fun g h => .inr h)
theorem VwG.lvs {G : Nat → Prop} {w : World} {va vl vd : Value} {x : Vw} (h : VwG G w va vl vd x) : LvG G w vl x.lvs := h.2.1
set_option maxRecDepth 100000 in
set_option maxHeartbeats 2000000 in
theorem vcopy_ok {G1 : Nat → Prop} (x : Vw) (ma la da : Option Addr) (mc lc dc : Nat) (hb1 : x.mem.length ≤ 1000) (hb2 : x.lvs.length ≤ 1000) (hb3 : ∀ l ∈ x.lvs, l.length ≤ 1000) (hb4 : x.ldr.length ≤ 1000) (w : World)
    (hx : VwG G1 w (.slice ma x.mem.length mc) (.slice la x.lvs.length lc) (.slice da x.ldr.length dc) x) :
    Calls Try.prog 85 #[.agg (vwC x ma la da mc lc dc)] w (Ret fun v w' => ∃ (G : Nat → Prop) (am al ad : Option Addr) (cm cl cd : Nat), v = .agg (vwC x am al ad cm cl cd) ∧ (∀ g, G g → w.heap.size ≤ g ∧ g < w'.heap.size) ∧ VwG G w' (.slice am x.mem.length cm) (.slice al x.lvs.length cl) (.slice ad x.ldr.length cd) x ∧ Below w.heap.size w w') := by
  have H := St.init w
  obtain ⟨hx1, hx2, hx3⟩ := hx
  have HB3 := Lib.hid hb3
  clear hb3
  go_enter Try.func85, Try.ntmps85
  simp only [vwC]
  go_wp2_with (first | (with_reducible refine wpl rfl (dQ 1 rfl ?_); with_reducible refine (Stp.box 1 rfl rfl rfl H ?_); clear H; intro g1 w1 H; simp only [pS]; simp only [pE, nC, pS] at H) | (with_reducible refine wpl rfl (dQ 2 rfl ?_); with_reducible refine (Stp.alloc 2 rfl rfl zero34 H ?_); clear H; intro g2 w1 H; simp only [pS]; simp only [nC] at H) | (with_reducible refine wpl rfl (ldQ (ty := 32) rfl ?_); first | (with_reducible refine (Stp.ldo rfl agg32 rfl H (by assumption) (by assumption) ?_); simp only [pS]) | (with_reducible refine (Stp.ldc rfl agg32 rfl H mR cE ?_); simp only [pS])) | (with_reducible refine wpl rfl (ldQ (ty := 31) rfl ?_); first | (with_reducible refine (Stp.ldo rfl agg31 rfl H (by assumption) (by assumption) ?_); simp only [pS]) | (with_reducible refine (Stp.ldc rfl agg31 rfl H mR cE ?_); simp only [pS])) | (with_reducible refine wpl rfl (ldQ (ty := 34) rfl ?_); first | (with_reducible refine (Stp.ldor rfl agg34 size34 rfl H (by assumption) sZ (by assumption) ?_); simp only [pS]) | (with_reducible refine (Stp.ldr rfl agg34 size34 rfl H mR sZ ?_); simp only [pS]) | (with_reducible refine (Stp.ldl rfl agg34 size34 rfl H mR (by simp) ?_); simp only [pS]; simp only [List.drop_succ_cons, List.drop_zero, List.take_succ_cons, List.take_zero])) | (with_reducible refine wpl rfl (stQ (ty := 34) rfl ?_); first | (with_reducible refine (Stp.str rfl size34 rfl rfl (by first | rfl | (simp [Value.oneCell']; done) | assumption) H uP sZ sZ ?_); clear H; intro w1 H; simp only [pS]) | (with_reducible refine (Stp.stl rfl size34 rfl rfl rfl rfl H uP (by simp) ?_); clear H; intro w1 H; simp only [pS]; simp only [List.drop_succ_cons, List.drop_zero, List.take_succ_cons, List.take_zero, List.nil_append, List.cons_append, Nat.reduceAdd] at H)))
  refine cut (fun a0 a' w' => ∃ (g3 : Nat) (am al : Option Addr) (cm cl : Nat) (u4 u5 u6 u7 u8 u9 u10 u11 u12 u13 u14 u15 u16 u17 u18 u19 u20 u21 u22 u23 u24 u25 u26 u27 u28 u29 u30 : Value), a' = { tmps := #[.agg (vwC x ma la da mc lc dc), .pointer (some ⟨g1, 0, none⟩), .pointer (some ⟨g2, 0, none⟩), .pointer (some ⟨g3, 0, none⟩), u4, u5, u6, u7, u8, u9, u10, u11, u12, u13, u14, u15, u16, u17, u18, u19, u20, u21, u22, u23, u24, u25, u26, u27, u28, u29, u30], defers := [] } ∧ St w.heap.size w w' [slc 30 2 (.slice al x.ldr.length cl) x.ldr.length (pv x.ldr), slc 30 2 (.slice am x.mem.length cm) x.mem.length (pv x.mem), row 34 g3 #[.int .u64 (x.id : Int), .slice am x.mem.length cm, .slice none 0 0, .slice al x.ldr.length cl], row 34 g2 #[.int .u64 0, .slice none 0 0, .slice none 0 0, .slice none 0 0], row 34 g1 (vwC x ma la da mc lc dc)]) ?_ ?_
  · refine rg_begin 11 rfl (S := fun W => St _ _ W [row 34 g1 #[.int .u64 (x.id : Int), .slice ma x.mem.length mc, .slice la x.lvs.length lc, .slice da x.ldr.length dc]]) (by kernel_rfl) (H.drew.sub sU) ?_
    replace H := H.drew
    have HS := H
    refine rg_take (i := 0) rfl kR kR kR (Yld.o rfl) (H.sub sU) ?_; simp only [pS]
    first | (refine rg_take (i := 1) rfl kR kR kR (Yld.ldo rfl rfl agg26 rfl (by assumption) (by assumption)) (H.sub sU) ?_; simp only [pS]) | (refine rg_take (i := 1) rfl kR kR kR (Yld.ldc rfl rfl agg26 rfl mR cE) (H.sub sU) ?_; simp only [pS])
    refine rg_take (i := 2) rfl kR kR kR (Yld.o rfl) (H.sub sU) ?_; simp only [pS]
    first | (refine rg_take (i := 3) rfl kR kR kR (Yld.ldo rfl rfl agg31 rfl (by assumption) (by assumption)) (H.sub sU) ?_; simp only [pS]) | (refine rg_take (i := 3) rfl kR kR kR (Yld.ldc rfl rfl agg31 rfl mR cE) (H.sub sU) ?_; simp only [pS])
    refine rg_take (i := 5) rfl kR kR kR (Yld.o rfl) (H.sub sU) ?_; simp only [pS]
    first | (refine rg_take (i := 6) rfl kR kR kR (Yld.ldo rfl rfl agg31 rfl (by assumption) (by assumption)) (H.sub sU) ?_; simp only [pS]) | (refine rg_take (i := 6) rfl kR kR kR (Yld.ldc rfl rfl agg31 rfl mR cE) (H.sub sU) ?_; simp only [pS])
    refine rg_all (rs := [4, 9]) (by kernel_rfl) (by simp) ?_
    refine rg_cons (i := 4) rfl rfl (fun K hK => ?_) ?_
    · -- 4
      refine wp_callf rfl ent117 (pclone_ok _ x.mem (by omega) _ (hx1.sl.grow H.below)) rfl (fun v w1 hr => ?_)
      obtain ⟨am, cm, rfl, ho, hb1⟩ := hr
      replace H := H.new hb1 (slc_sound ho) (fun g hg => (ho.lt g hg).1)
      clear hb1 ho
      clear HS
      have HS := H
      refine hK.out _ _ (H.sub sU) ?_
      clear hK K
      simp only [pS]
      refine rg_all (rs := [7, 9]) (by kernel_rfl) (by simp) ?_
      refine rg_cons (i := 7) rfl rfl (fun K hK => ?_) ?_
      · -- 7
        refine wp_callf rfl ent117 (pclone_ok _ x.ldr (by omega) _ (hx3.sl.grow H.below)) rfl (fun v w1 hr => ?_)
        obtain ⟨al, cl, rfl, ho, hb1⟩ := hr
        replace H := H.new hb1 (slc_sound ho) (fun g hg => (ho.lt g hg).1)
        clear hb1 ho
        clear HS
        have HS := H
        refine hK.out _ _ (H.sub sU) ?_
        clear hK K
        simp only [pS]
        refine rg_take (i := 8) rfl kR kR kR (Yld.of (v := .agg #[.int .u64 (x.id : Int), .slice am x.mem.length cm, .slice none 0 0, .slice al x.ldr.length cl]) rfl (fun W _ => by kernel_rfl)) (H.sub sU) ?_; simp only [pS, pE]
        refine rg_one (i := 9) (by kernel_rfl) rfl rfl (fun K hK => ?_)
        refine Stp.wp (Stp.alloc 3 rfl rfl zero34 H ?_)
        clear H
        intro g3 w1 H
        simp only [cells_agg] at H
        clear HS
        have HS := H
        refine hK.out _ _ (H.sub sU) ?_
        clear hK K
        simp only [pS]
        refine rg_one (i := 10) (by kernel_rfl) rfl rfl (fun K hK => ?_)
        refine Stp.wp (Stp.str (ds := #[.int .u64 (x.id : Int), .slice am x.mem.length cm, .slice none 0 0, .slice al x.ldr.length cl]) rfl size34 rfl rfl (by simp [Value.oneCell']) H uP rfl rfl ?_)
        clear H
        intro w1 H
        clear HS
        have HS := H
        refine hK.out _ _ (H.sub sU) ?_
        clear hK K
        simp only [pS]
        refine rg_done (by kernel_rfl) ?_
        exact ⟨rfl, g3, am, al, cm, cl, _, _, _, _, _, _, _, _, _, _, _, _, _, _, _, _, _, _, _, _, _, _, _, _, _, _, _, rfl, (((H.pull (r := row 34 g3 _) pU).pull (r := slc 30 2 (.slice am _ cm) _ _) pU).pull (r := slc 30 2 (.slice al _ cl) _ _) pU)⟩
      refine rg_cons (i := 9) rfl rfl (fun K hK => ?_) ?_
      · -- 9
        refine Stp.wp (Stp.alloc 3 rfl rfl zero34 H ?_)
        clear H
        intro g3 w1 H
        simp only [cells_agg] at H
        clear HS
        have HS := H
        refine hK.out _ _ (H.sub sU) ?_
        clear hK K
        simp only [pS]
        refine rg_one (i := 7) (by kernel_rfl) rfl rfl (fun K hK => ?_)
        refine wp_callf rfl ent117 (pclone_ok _ x.ldr (by omega) _ (hx3.sl.grow H.below)) rfl (fun v w1 hr => ?_)
        obtain ⟨al, cl, rfl, ho, hb1⟩ := hr
        replace H := H.new hb1 (slc_sound ho) (fun g hg => (ho.lt g hg).1)
        clear hb1 ho
        clear HS
        have HS := H
        refine hK.out _ _ (H.sub sU) ?_
        clear hK K
        simp only [pS]
        refine rg_take (i := 8) rfl kR kR kR (Yld.of (v := .agg #[.int .u64 (x.id : Int), .slice am x.mem.length cm, .slice none 0 0, .slice al x.ldr.length cl]) rfl (fun W _ => by kernel_rfl)) (H.sub sU) ?_; simp only [pS, pE]
        refine rg_one (i := 10) (by kernel_rfl) rfl rfl (fun K hK => ?_)
        refine Stp.wp (Stp.str (ds := #[.int .u64 (x.id : Int), .slice am x.mem.length cm, .slice none 0 0, .slice al x.ldr.length cl]) rfl size34 rfl rfl (by simp [Value.oneCell']) H uP rfl rfl ?_)
        clear H
        intro w1 H
        clear HS
        have HS := H
        refine hK.out _ _ (H.sub sU) ?_
        clear hK K
        simp only [pS]
        refine rg_done (by kernel_rfl) ?_
        exact ⟨rfl, g3, am, al, cm, cl, _, _, _, _, _, _, _, _, _, _, _, _, _, _, _, _, _, _, _, _, _, _, _, _, _, _, _, rfl, (((H.pull (r := row 34 g3 _) pU).pull (r := slc 30 2 (.slice am _ cm) _ _) pU).pull (r := slc 30 2 (.slice al _ cl) _ _) pU)⟩
      exact AllReadyH.nil
    refine rg_cons (i := 9) rfl rfl (fun K hK => ?_) ?_
    · -- 9
      refine Stp.wp (Stp.alloc 3 rfl rfl zero34 H ?_)
      clear H
      intro g3 w1 H
      simp only [cells_agg] at H
      clear HS
      have HS := H
      refine hK.out _ _ (H.sub sU) ?_
      clear hK K
      simp only [pS]
      refine rg_one (i := 4) (by kernel_rfl) rfl rfl (fun K hK => ?_)
      refine wp_callf rfl ent117 (pclone_ok _ x.mem (by omega) _ (hx1.sl.grow H.below)) rfl (fun v w1 hr => ?_)
      obtain ⟨am, cm, rfl, ho, hb1⟩ := hr
      replace H := H.new hb1 (slc_sound ho) (fun g hg => (ho.lt g hg).1)
      clear hb1 ho
      clear HS
      have HS := H
      refine hK.out _ _ (H.sub sU) ?_
      clear hK K
      simp only [pS]
      refine rg_one (i := 7) (by kernel_rfl) rfl rfl (fun K hK => ?_)
      refine wp_callf rfl ent117 (pclone_ok _ x.ldr (by omega) _ (hx3.sl.grow H.below)) rfl (fun v w1 hr => ?_)
      obtain ⟨al, cl, rfl, ho, hb1⟩ := hr
      replace H := H.new hb1 (slc_sound ho) (fun g hg => (ho.lt g hg).1)
      clear hb1 ho
      clear HS
      have HS := H
      refine hK.out _ _ (H.sub sU) ?_
      clear hK K
      simp only [pS]
      refine rg_take (i := 8) rfl kR kR kR (Yld.of (v := .agg #[.int .u64 (x.id : Int), .slice am x.mem.length cm, .slice none 0 0, .slice al x.ldr.length cl]) rfl (fun W _ => by kernel_rfl)) (H.sub sU) ?_; simp only [pS, pE]
      refine rg_one (i := 10) (by kernel_rfl) rfl rfl (fun K hK => ?_)
      refine Stp.wp (Stp.str (ds := #[.int .u64 (x.id : Int), .slice am x.mem.length cm, .slice none 0 0, .slice al x.ldr.length cl]) rfl size34 rfl rfl (by simp [Value.oneCell']) H uP rfl rfl ?_)
      clear H
      intro w1 H
      clear HS
      have HS := H
      refine hK.out _ _ (H.sub sU) ?_
      clear hK K
      simp only [pS]
      refine rg_done (by kernel_rfl) ?_
      exact ⟨rfl, g3, am, al, cm, cl, _, _, _, _, _, _, _, _, _, _, _, _, _, _, _, _, _, _, _, _, _, _, _, _, _, _, _, rfl, (((H.pull (r := row 34 g3 _) pU).pull (r := slc 30 2 (.slice am _ cm) _ _) pU).pull (r := slc 30 2 (.slice al _ cl) _ _) pU)⟩
    exact AllReadyH.nil
  · rintro a' w' ⟨g3, am, al, cm, cl, u4, u5, u6, u7, u8, u9, u10, u11, u12, u13, u14, u15, u16, u17, u18, u19, u20, u21, u22, u23, u24, u25, u26, u27, u28, u29, u30, rfl, H2⟩
    clear H
    have H := H2
    clear H2
    simp only [vwC] at H ⊢
    replace H : St w.heap.size w w' (slc 31 1 (.slice none 0 0) 0 (hdv (fun _ => undef) 0) :: lvr (fun _ => False) (fun _ => undef) x.lvs 0 :: _) := (St.emp (p := (lvr (fun _ => False) (fun _ => undef) x.lvs 0).2) (fun _ i hi => absurd hi (Nat.not_lt_zero _)) H).nil 31 1
    obtain ⟨n, hn⟩ : ∃ n, x.lvs.length = n := ⟨_, rfl⟩
    rw [hn] at hb2
    have HN := Lib.hid hn
    rw [hn] at H
    simp only [hn]
    clear hn
    go_wp2_with (first | (with_reducible refine wpl rfl (dQ 1 rfl ?_); with_reducible refine (Stp.box 1 rfl rfl rfl H ?_); clear H; intro g1 w1 H; simp only [pS]; simp only [pE, nC, pS] at H) | (with_reducible refine wpl rfl (dQ 2 rfl ?_); with_reducible refine (Stp.alloc 2 rfl rfl zero34 H ?_); clear H; intro g2 w1 H; simp only [pS]; simp only [nC] at H) | (with_reducible refine wpl rfl (ldQ (ty := 32) rfl ?_); first | (with_reducible refine (Stp.ldo rfl agg32 rfl H (by assumption) (by assumption) ?_); simp only [pS]) | (with_reducible refine (Stp.ldc rfl agg32 rfl H mR cE ?_); simp only [pS])) | (with_reducible refine wpl rfl (ldQ (ty := 31) rfl ?_); first | (with_reducible refine (Stp.ldo rfl agg31 rfl H (by assumption) (by assumption) ?_); simp only [pS]) | (with_reducible refine (Stp.ldc rfl agg31 rfl H mR cE ?_); simp only [pS])) | (with_reducible refine wpl rfl (ldQ (ty := 34) rfl ?_); first | (with_reducible refine (Stp.ldor rfl agg34 size34 rfl H (by assumption) sZ (by assumption) ?_); simp only [pS]) | (with_reducible refine (Stp.ldr rfl agg34 size34 rfl H mR sZ ?_); simp only [pS]) | (with_reducible refine (Stp.ldl rfl agg34 size34 rfl H mR (by simp) ?_); simp only [pS]; simp only [List.drop_succ_cons, List.drop_zero, List.take_succ_cons, List.take_zero])) | (with_reducible refine wpl rfl (stQ (ty := 34) rfl ?_); first | (with_reducible refine (Stp.str rfl size34 rfl rfl (by first | rfl | (simp [Value.oneCell']; done) | assumption) H uP sZ sZ ?_); clear H; intro w1 H; simp only [pS]) | (with_reducible refine (Stp.stl rfl size34 rfl rfl rfl rfl H uP (by simp) ?_); clear H; intro w1 H; simp only [pS]; simp only [List.drop_succ_cons, List.drop_zero, List.take_succ_cons, List.take_zero, List.nil_append, List.cons_append, Nat.reduceAdd] at H)))
    go_loopw [18] (fun i wr => ∃ (k : Nat) (av : Option Addr) (cv : Nat) (G : Nat → Prop) (hd : Nat → Value), k ≤ n ∧ i = .int .i64 (k : Int) ∧ St w.heap.size w wr [row 34 g3 #[.int .u64 (x.id : Int), .slice am x.mem.length cm, .slice av k cv, .slice al x.ldr.length cl], slc 31 1 (.slice av k cv) k (hdv hd k), lvr G hd x.lvs k, slc 30 2 (.slice al x.ldr.length cl) x.ldr.length (pv x.ldr), slc 30 2 (.slice am x.mem.length cm) x.mem.length (pv x.mem), row 34 g2 #[.int .u64 0, .slice none 0 0, .slice none 0 0, .slice none 0 0], row 34 g1 #[.int .u64 (x.id : Int), .slice ma x.mem.length mc, .slice la n lc, .slice da x.ldr.length dc]]) (fun i _ => n - (intOf i).toNat)
    case atStart => exact ⟨0, none, 0, _, _, Nat.zero_le _, rfl, (((((((H.pull (r := row 34 g1 _) pU).pull (r := row 34 g2 _) pU).pull (r := slc 30 2 (.slice am _ cm) _ _) pU).pull (r := slc 30 2 (.slice al _ cl) _ _) pU).pull (r := lvr (fun _ => False) (fun _ => undef) x.lvs 0) pU).pull (r := slc 31 1 (.slice none 0 0) 0 (hdv (fun _ => undef) 0)) pU).pull (r := row 34 g3 _) pU)⟩
    case round =>
      clear H
      obtain ⟨k, av, cv, G, hd, hk, rfl, H⟩ := hrel
      by_cases hlt : k < n
      · have hl1 : k < x.lvs.length := by rw [HN.out]; exact hlt
        obtain ⟨b1, o1, ak, ck, rfl, hbl, hc1, hs1⟩ := hx2.at rfl hl1
        have hgl : x.lvs.getD k [] = x.lvs[k] := getD_at hl1
        have hmm : x.lvs[k] ∈ x.lvs := List.getElem_mem hl1
        obtain ⟨l, hl⟩ : ∃ l, x.lvs[k] = l := ⟨_, rfl⟩
        rw [hl] at hc1 hs1 hgl hmm
        have hlb := HB3.out l hmm
        have HG := Lib.hid hgl
        have kli : (k : Int) < (n : Int) := by omega
        clear hgl hmm hl
        go_wp2_with (first | (with_reducible refine wpl rfl (dQ 1 rfl ?_); with_reducible refine (Stp.box 1 rfl rfl rfl H ?_); clear H; intro g1 w1 H; simp only [pS]; simp only [pE, nC, pS] at H) | (with_reducible refine wpl rfl (dQ 2 rfl ?_); with_reducible refine (Stp.alloc 2 rfl rfl zero34 H ?_); clear H; intro g2 w1 H; simp only [pS]; simp only [nC] at H) | (with_reducible refine wpl rfl (ldQ (ty := 32) rfl ?_); first | (with_reducible refine (Stp.ldo rfl agg32 rfl H (by assumption) (by assumption) ?_); simp only [pS]) | (with_reducible refine (Stp.ldc rfl agg32 rfl H mR cE ?_); simp only [pS])) | (with_reducible refine wpl rfl (ldQ (ty := 31) rfl ?_); first | (with_reducible refine (Stp.ldo rfl agg31 rfl H (by assumption) (by assumption) ?_); simp only [pS]) | (with_reducible refine (Stp.ldc rfl agg31 rfl H mR cE ?_); simp only [pS])) | (with_reducible refine wpl rfl (ldQ (ty := 34) rfl ?_); first | (with_reducible refine (Stp.ldor rfl agg34 size34 rfl H (by assumption) sZ (by assumption) ?_); simp only [pS]) | (with_reducible refine (Stp.ldr rfl agg34 size34 rfl H mR sZ ?_); simp only [pS]) | (with_reducible refine (Stp.ldl rfl agg34 size34 rfl H mR (by simp) ?_); simp only [pS]; simp only [List.drop_succ_cons, List.drop_zero, List.take_succ_cons, List.take_zero])) | (with_reducible refine wpl rfl (stQ (ty := 34) rfl ?_); first | (with_reducible refine (Stp.str rfl size34 rfl rfl (by first | rfl | (simp [Value.oneCell']; done) | assumption) H uP sZ sZ ?_); clear H; intro w1 H; simp only [pS]) | (with_reducible refine (Stp.stl rfl size34 rfl rfl rfl rfl H uP (by simp) ?_); clear H; intro w1 H; simp only [pS]; simp only [List.drop_succ_cons, List.drop_zero, List.take_succ_cons, List.take_zero, List.nil_append, List.cons_append, Nat.reduceAdd] at H)))
        refine rk_begin 7 8 (fun W => St w.heap.size w W [row 34 g3 #[.int .u64 (x.id : Int), .slice am x.mem.length cm, .slice av k cv, .slice al x.ldr.length cl]]) rfl (by kernel_rfl) ?_
        replace H := H.drew
        have HS := H
        refine rk_free (i := 0) rfl kR kR kR kR (Yld.o rfl) (fun _ => (H.sub sU)) ?_; simp only [pS]
        first | (refine rk_take (i := 1) rfl kR kR kR kR kR kR (Yld.ldc rfl rfl agg32 rfl mR cE) (H.sub sU) ?_; simp only [pS]) | (refine rk_take (i := 1) rfl kR kR kR kR kR kR (Yld.ldo rfl rfl agg32 rfl (by assumption) (by assumption)) (H.sub sU) ?_; simp only [pS])
        refine rk_free (i := 2) rfl kR kR kR kR (Yld.move rfl rfl) (fun _ => (H.sub sU)) ?_; simp only [pS, pE]
        refine rk_one (i := 3) (by kernel_rfl) rfl rfl (fun K hK => ?_)
        refine wp_callf rfl ent117 (pclone_ok _ l (by omega) _ (hs1.sl.grow H.below)) rfl (fun v w1 hr => ?_)
        obtain ⟨ac, cc, rfl, ho, hb1⟩ := hr
        replace H := H.new hb1 (slc_sound ho) (fun g hg => (ho.lt g hg).1)
        clear hb1 ho
        clear HS
        have HS := H
        refine hK.out _ _ (fun _ => (H.sub sU)) ?_
        clear hK K
        simp only [pS]
        refine rk_one (i := 4) (by kernel_rfl) rfl rfl (fun K hK => ?_)
        refine Stp.wp (Stp.bsl (e := 31) (cs := #[.slice ac l.length cc]) 26 rfl rfl (fun W => by kernel_rfl) H ?_)
        clear H
        intro g26 w1 H
        clear HS
        have HS := H
        refine hK.out _ _ (fun _ => (H.sub sU)) ?_
        clear hK K
        simp only [pS]
        refine rk_one (i := 5) (by kernel_rfl) rfl rfl (fun K hK => ?_)
        refine Stp.wp (Stp.apps 27 rfl rfl Try.underlying32 info31 rfl (by decide) rfl rfl H (fun _ => uP) (show ([.slice ac l.length cc] : List Value).length = 1 * 1 from rfl) (fun _ => ⟨_, rfl, newL (H.gr 31)⟩) (by simp [Value.oneCell']) (by unfold maxLen; omega) (by omega) ?_)
        clear H
        intro a27 c27 w1 H
        clear HS
        have HS := H
        refine hK.out _ _ (fun _ => (H.sub sU)) ?_
        clear hK K
        simp only [pS]
        refine rk_free (i := 6) rfl kR kR kR kR (Yld.o rfl) (fun _ => (H.sub sU)) ?_; simp only [pS]
        refine rk_one (i := 7) (by kernel_rfl) rfl rfl (fun K hK => ?_)
        refine Stp.wp (Stp.stc rfl size32 rfl rfl rfl rfl H uP (by simp) ?_)
        clear H
        intro w1 H
        simp only [pE, nC, pS] at H
        clear HS
        have HS := H
        refine hK.out _ _ (fun h => by cases (show true = false from h)) ?_
        clear hK K
        simp only [pS]
        refine rk_done (by kernel_rfl) ?_
        go_wp2_with (first | (with_reducible refine wpl rfl (dQ 1 rfl ?_); with_reducible refine (Stp.box 1 rfl rfl rfl H ?_); clear H; intro g1 w1 H; simp only [pS]; simp only [pE, nC, pS] at H) | (with_reducible refine wpl rfl (dQ 2 rfl ?_); with_reducible refine (Stp.alloc 2 rfl rfl zero34 H ?_); clear H; intro g2 w1 H; simp only [pS]; simp only [nC] at H) | (with_reducible refine wpl rfl (ldQ (ty := 32) rfl ?_); first | (with_reducible refine (Stp.ldo rfl agg32 rfl H (by assumption) (by assumption) ?_); simp only [pS]) | (with_reducible refine (Stp.ldc rfl agg32 rfl H mR cE ?_); simp only [pS])) | (with_reducible refine wpl rfl (ldQ (ty := 31) rfl ?_); first | (with_reducible refine (Stp.ldo rfl agg31 rfl H (by assumption) (by assumption) ?_); simp only [pS]) | (with_reducible refine (Stp.ldc rfl agg31 rfl H mR cE ?_); simp only [pS])) | (with_reducible refine wpl rfl (ldQ (ty := 34) rfl ?_); first | (with_reducible refine (Stp.ldor rfl agg34 size34 rfl H (by assumption) sZ (by assumption) ?_); simp only [pS]) | (with_reducible refine (Stp.ldr rfl agg34 size34 rfl H mR sZ ?_); simp only [pS]) | (with_reducible refine (Stp.ldl rfl agg34 size34 rfl H mR (by simp) ?_); simp only [pS]; simp only [List.drop_succ_cons, List.drop_zero, List.take_succ_cons, List.take_zero])) | (with_reducible refine wpl rfl (stQ (ty := 34) rfl ?_); first | (with_reducible refine (Stp.str rfl size34 rfl rfl (by first | rfl | (simp [Value.oneCell']; done) | assumption) H uP sZ sZ ?_); clear H; intro w1 H; simp only [pS]) | (with_reducible refine (Stp.stl rfl size34 rfl rfl rfl rfl H uP (by simp) ?_); clear H; intro w1 H; simp only [pS]; simp only [List.drop_succ_cons, List.drop_zero, List.take_succ_cons, List.take_zero, List.nil_append, List.cons_append, Nat.reduceAdd] at H)))
        obtain ⟨G', H2⟩ := St.leaf ((H.pull (r := lvr G hd x.lvs k) pU).pull (r := slc 30 2 (.slice ac l.length cc) _ _) pU) HG.out (by omega)
        clear H
        have H := H2
        clear H2
        rw [hdv_snoc] at H
        go_roundw
        case rel => exact ⟨k + 1, _, _, G', _, by omega, by go_num, (((((((H.pull (r := row 34 g1 _) pU).pull (r := row 34 g2 _) pU).pull (r := slc 30 2 (.slice am _ cm) _ _) pU).pull (r := slc 30 2 (.slice al _ cl) _ _) pU).pull (r := lvr G' _ x.lvs (k + 1)) pU).pull (r := slc 31 1 _ (k + 1) (hdv _ (k + 1))) pU).pull (r := row 34 g3 _) pU).sub sU⟩
        case measure => simp [intOf]; omega
      · obtain rfl : k = n := by omega
        go_wp2_with (first | (with_reducible refine wpl rfl (dQ 1 rfl ?_); with_reducible refine (Stp.box 1 rfl rfl rfl H ?_); clear H; intro g1 w1 H; simp only [pS]; simp only [pE, nC, pS] at H) | (with_reducible refine wpl rfl (dQ 2 rfl ?_); with_reducible refine (Stp.alloc 2 rfl rfl zero34 H ?_); clear H; intro g2 w1 H; simp only [pS]; simp only [nC] at H) | (with_reducible refine wpl rfl (ldQ (ty := 32) rfl ?_); first | (with_reducible refine (Stp.ldo rfl agg32 rfl H (by assumption) (by assumption) ?_); simp only [pS]) | (with_reducible refine (Stp.ldc rfl agg32 rfl H mR cE ?_); simp only [pS])) | (with_reducible refine wpl rfl (ldQ (ty := 31) rfl ?_); first | (with_reducible refine (Stp.ldo rfl agg31 rfl H (by assumption) (by assumption) ?_); simp only [pS]) | (with_reducible refine (Stp.ldc rfl agg31 rfl H mR cE ?_); simp only [pS])) | (with_reducible refine wpl rfl (ldQ (ty := 34) rfl ?_); first | (with_reducible refine (Stp.ldor rfl agg34 size34 rfl H (by assumption) sZ (by assumption) ?_); simp only [pS]) | (with_reducible refine (Stp.ldr rfl agg34 size34 rfl H mR sZ ?_); simp only [pS]) | (with_reducible refine (Stp.ldl rfl agg34 size34 rfl H mR (by simp) ?_); simp only [pS]; simp only [List.drop_succ_cons, List.drop_zero, List.take_succ_cons, List.take_zero])) | (with_reducible refine wpl rfl (stQ (ty := 34) rfl ?_); first | (with_reducible refine (Stp.str rfl size34 rfl rfl (by first | rfl | (simp [Value.oneCell']; done) | assumption) H uP sZ sZ ?_); clear H; intro w1 H; simp only [pS]) | (with_reducible refine (Stp.stl rfl size34 rfl rfl rfl rfl H uP (by simp) ?_); clear H; intro w1 H; simp only [pS]; simp only [List.drop_succ_cons, List.drop_zero, List.take_succ_cons, List.take_zero, List.nil_append, List.cons_append, Nat.reduceAdd] at H)))
        refine post_row rfl agg34 size34 rfl H (by repeat (first | exact List.mem_cons_self | apply List.mem_cons_of_mem)) rfl rfl ⟨_, rfl, fun g => (Value.slice am x.mem.length cm).ownBlock = some g ∨ (Value.slice av k cv).ownBlock = some g ∨ G g ∨ (Value.slice al x.ldr.length cl).ownBlock = some g, am, av, al, cm, cv, cl, by rw [HN.out], ?_, ⟨?_, ?_, ?_⟩, H.below⟩
        · intro g hg
          rcases hg with hg | hg | hg | hg
          · exact ⟨H.base (slc 30 2 (.slice am x.mem.length cm) x.mem.length (pv x.mem)) (by repeat (first | exact List.mem_cons_self | apply List.mem_cons_of_mem)) g hg, (H.sound (slc 30 2 (.slice am x.mem.length cm) x.mem.length (pv x.mem)) (by repeat (first | exact List.mem_cons_self | apply List.mem_cons_of_mem))).lt g hg⟩
          · exact ⟨H.base (slc 31 1 (.slice av k cv) k (hdv hd k)) (by repeat (first | exact List.mem_cons_self | apply List.mem_cons_of_mem)) g hg, (H.sound (slc 31 1 (.slice av k cv) k (hdv hd k)) (by repeat (first | exact List.mem_cons_self | apply List.mem_cons_of_mem))).lt g hg⟩
          · exact ⟨H.base (lvr G hd x.lvs k) (by repeat (first | exact List.mem_cons_self | apply List.mem_cons_of_mem)) g hg, (H.sound (lvr G hd x.lvs k) (by repeat (first | exact List.mem_cons_self | apply List.mem_cons_of_mem))).lt g hg⟩
          · exact ⟨H.base (slc 30 2 (.slice al x.ldr.length cl) x.ldr.length (pv x.ldr)) (by repeat (first | exact List.mem_cons_self | apply List.mem_cons_of_mem)) g hg, (H.sound (slc 30 2 (.slice al x.ldr.length cl) x.ldr.length (pv x.ldr)) (by repeat (first | exact List.mem_cons_self | apply List.mem_cons_of_mem))).lt g hg⟩
        · exact (SlG.of_pv (H.getSlc (by repeat (first | exact List.mem_cons_self | apply List.mem_cons_of_mem))) (by omega)).mono (fun g h => .inl h)
        · refine ⟨hd, ?_, fun i hi => ?_⟩
          · rw [HN.out]
            exact (SlG.of_own (H.getSlc (e := 31) (size := 1) (v := .slice av k cv) (n := k) (xs := hdv hd k) (by repeat (first | exact List.mem_cons_self | apply List.mem_cons_of_mem))) (fun i hi j hj => by
              obtain rfl : j = 0 := by omega
              rw [Nat.mul_one, Nat.add_zero, hdv_get hd k i hi]; rfl) (by unfold maxLen; omega)).mono (fun g h => .inr (.inl h))
          · rw [HN.out] at hi
            exact (H.get (r := lvr G hd x.lvs k) (by repeat (first | exact List.mem_cons_self | apply List.mem_cons_of_mem)) i hi).mono (fun g h => .inr (.inr (.inl h)))
        · exact (SlG.of_pv (H.getSlc (by repeat (first | exact List.mem_cons_self | apply List.mem_cons_of_mem))) (by omega)).mono (fun g h => .inr (.inr (.inr h)))
end Go.Proofs.Ytmokecicjmjkbaa
namespace Go.Proofs.Ytmokecicjmjkbaa
open Go.ChangeShapes Go.WideShapes Go.ChangeAt Go.RowKit Go.Maps
set_option linter.unusedVariables false
set_option linter.unusedSimpArgs false
/-- A view, a command of the call's own, that is no longer written. -/
def vwr (G : Nat → Prop) (va vl vd : Value) (x : Vw) : Res := (fun g => G g, fun w => VwG G w va vl vd x)
def cmr (G : Nat → Prop) (vb va vl vd : Value) (c : Cm) : Res := (fun g => G g, fun w => CmG G w vb va vl vd c)
theorem vwr_sound {G : Nat → Prop} {va vl vd : Value} {x : Vw} {n : Nat} {w : World} (hG : ∀ g, G g → n ≤ g ∧ g < w.heap.size) (h : VwG G w va vl vd x) : Sound (vwr G va vl vd x) w :=
  ⟨h, fun g hg => (hG g hg).2, fun _ _ hb h1 => h1.loc hb⟩
theorem cmr_sound {G : Nat → Prop} {vb va vl vd : Value} {c : Cm} {n : Nat} {w : World} (hG : ∀ g, G g → n ≤ g ∧ g < w.heap.size) (h : CmG G w vb va vl vd c) : Sound (cmr G vb va vl vd c) w :=
  ⟨h, fun g hg => (hG g hg).2, fun _ _ hb h1 => h1.loc hb⟩
/-- How great a view, a command may be that is copied. -/
structure smV (x : Vw) : Prop where
  mem : x.mem.length ≤ 1000
  lvs : x.lvs.length ≤ 1000
  each : ∀ l ∈ x.lvs, l.length ≤ 1000
  ldr : x.ldr.length ≤ 1000
structure smC (c : Cm) : Prop where
  data : c.data.length ≤ 1000
  v : smV c.v
theorem SlG.of_bv {w : World} {b : Nat} {v : Value} {l : List Nat} (h : w.ownsRow b 5 1 v l.length (bv l)) (hl : l.length ≤ 100000) : SlG (fun g => v.ownBlock = some g) w 1 l.length v (elB l) :=
  SlG.of_own h (fun i hi j hj => by
    obtain rfl : j = 0 := by omega
    simp [bv, elB, List.getD, hi]) (by unfold maxLen; omega)
set_option maxRecDepth 100000 in
set_option maxHeartbeats 2000000 in
theorem ccopy_ok {G1 : Nat → Prop} (c : Cm) (ba ma la da : Option Addr) (bc mc lc dc : Nat) (hm : smC c) (w : World)
    (hx : CmG G1 w (.slice ba c.data.length bc) (.slice ma c.v.mem.length mc) (.slice la c.v.lvs.length lc) (.slice da c.v.ldr.length dc) c) :
    Calls Try.prog 49 #[.agg (cmC c ba ma la da bc mc lc dc)] w (Ret fun v w' => ∃ (G : Nat → Prop) (ab am al ad : Option Addr) (cb cm cl cd : Nat), v = .agg (cmC c ab am al ad cb cm cl cd) ∧ (∀ g, G g → w.heap.size ≤ g ∧ g < w'.heap.size) ∧ CmG G w' (.slice ab c.data.length cb) (.slice am c.v.mem.length cm) (.slice al c.v.lvs.length cl) (.slice ad c.v.ldr.length cd) c ∧ Below w.heap.size w w') := by
  have H := St.init w
  obtain ⟨hx1, hx2⟩ := hx
  have hb0 := hm.data
  have hb1 := hm.v.mem
  have hb2 := hm.v.lvs
  have HB3 := Lib.hid hm.v.each
  have hb4 := hm.v.ldr
  clear hm
  go_enter Try.func49, Try.ntmps49
  simp only [cmC]
  go_wp2_with (first | (go_at_call 84; (with_reducible refine (clone_any _ c.data c.data.length rfl (by omega) _ (hx1.sl.grow H.below)).mono ?_); rintro e w1 ⟨v, rfl, hr⟩; obtain ⟨⟨ba2, bc2, rfl⟩, ho, hb1⟩ := hr; replace H := H.new hb1 (slc_sound ho) (fun g hg => (ho.lt g hg).1); clear hb1 ho) | (go_at_call 85; (with_reducible refine (vcopy_ok c.v _ _ _ _ _ _ hb1 hb2 HB3.out hb4 _ (hx2.grow H.below)).mono ?_); rintro e w1 ⟨v, rfl, hr⟩; obtain ⟨G, am, al, ad, cm, cl, cd, rfl, hG, hv, hbw⟩ := hr; replace H := H.new hbw (vwr_sound hG hv) (fun g hg => (hG g hg).1); clear hbw hG hv) | (with_reducible refine wpl rfl (dQ 1 rfl ?_); with_reducible refine (Stp.box 1 rfl rfl rfl H ?_); clear H; intro g1 w1 H; simp only [pS]; simp only [pE, nC, pS] at H) | (with_reducible refine wpl rfl (dQ 2 rfl ?_); with_reducible refine (Stp.alloc 2 rfl rfl zero36 H ?_); clear H; intro g2 w1 H; simp only [pS]; simp only [nC] at H) | (with_reducible refine wpl rfl (ldQ (ty := 22) rfl ?_); first | (with_reducible refine (Stp.ldo rfl agg22 rfl H (by assumption) (by assumption) ?_); simp only [pS]) | (with_reducible refine (Stp.ldc rfl agg22 rfl H mR cE ?_); simp only [pS])) | (with_reducible refine wpl rfl (stQ (ty := 22) rfl ?_); first | (with_reducible refine (Stp.stc rfl size22 rfl rfl rfl rfl H uP (by first | omega | (simp; done) | (simp; omega)) ?_); clear H; intro w1 H; simp only [pS]; simp only [pE, nC, pS] at H)) | (with_reducible refine wpl rfl (ldQ (ty := 34) rfl ?_); first | (with_reducible refine (Stp.ldor rfl agg34 size34 rfl H (by assumption) sZ (by assumption) ?_); simp only [pS]) | (with_reducible refine (Stp.ldr rfl agg34 size34 rfl H mR sZ ?_); simp only [pS]) | (with_reducible refine (Stp.ldl rfl agg34 size34 rfl H mR (by simp) ?_); simp only [pS]; simp only [List.drop_succ_cons, List.drop_zero, List.take_succ_cons, List.take_zero])) | (with_reducible refine wpl rfl (stQ (ty := 34) rfl ?_); first | (with_reducible refine (Stp.str rfl size34 rfl rfl (by first | rfl | (simp [Value.oneCell']; done) | assumption) H uP sZ sZ ?_); clear H; intro w1 H; simp only [pS]) | (with_reducible refine (Stp.stl rfl size34 rfl rfl rfl rfl H uP (by simp) ?_); clear H; intro w1 H; simp only [pS]; simp only [List.drop_succ_cons, List.drop_zero, List.take_succ_cons, List.take_zero, List.nil_append, List.cons_append, Nat.reduceAdd] at H)) | (with_reducible refine wpl rfl (ldQ (ty := 36) rfl ?_); first | (with_reducible refine (Stp.ldor rfl agg36 size36 rfl H (by assumption) sZ (by assumption) ?_); simp only [pS]) | (with_reducible refine (Stp.ldr rfl agg36 size36 rfl H mR sZ ?_); simp only [pS]) | (with_reducible refine (Stp.ldl rfl agg36 size36 rfl H mR (by simp) ?_); simp only [pS]; simp only [List.drop_succ_cons, List.drop_zero, List.take_succ_cons, List.take_zero])) | (with_reducible refine wpl rfl (stQ (ty := 36) rfl ?_); first | (with_reducible refine (Stp.str rfl size36 rfl rfl (by first | rfl | (simp [Value.oneCell']; done) | assumption) H uP sZ sZ ?_); clear H; intro w1 H; simp only [pS]) | (with_reducible refine (Stp.stl rfl size36 rfl rfl rfl rfl H uP (by simp) ?_); clear H; intro w1 H; simp only [pS]; simp only [List.drop_succ_cons, List.drop_zero, List.take_succ_cons, List.take_zero, List.nil_append, List.cons_append, Nat.reduceAdd] at H)))
  refine post_row rfl agg36 size36 rfl H mE rfl rfl ⟨_, rfl, fun g => (Value.slice ba2 c.data.length bc2).ownBlock = some g ∨ G g, ba2, am, al, ad, bc2, cm, cl, cd, rfl, ?_, ⟨?_, ?_⟩, H.below⟩
  · intro g hg
    rcases hg with hg | hg
    · exact ⟨H.base (slc 5 1 (.slice ba2 c.data.length bc2) c.data.length (bv c.data)) mE g hg, (H.sound (slc 5 1 (.slice ba2 c.data.length bc2) c.data.length (bv c.data)) mE).lt g hg⟩
    · exact ⟨H.base (vwr G _ _ _ c.v) mE g hg, (H.sound (vwr G _ _ _ c.v) mE).lt g hg⟩
  · exact (SlG.of_bv (H.getSlc mE) (by omega)).mono (fun g h => .inl h)
  · exact VwG.mono (fun g h => .inr h) (H.get (r := vwr G _ _ _ c.v) mE)
end Go.Proofs.Ytmokecicjmjkbaa
namespace Go.Proofs.Ytmokecicjmjkbaa
open Go.ChangeShapes Go.WideShapes Go.ChangeAt Go.RowKit Go.Maps
set_option linter.unusedVariables false
set_option linter.unusedSimpArgs false
theorem mz182 : ∀ W : World, (zeroValue 182).run Try.prog W = .ok (.agg #[]) W := fun _ => by kernel_rfl
theorem mz3 : ∀ W : World, (zeroValue 3).run Try.prog W = .ok (.int .i64 0) W := fun _ => by kernel_rfl
theorem own : ownKnob Try.prog.godebug = none := by kernel_rfl
theorem laidOut : laidOutB Try.prog = true := by kernel_rfl
abbrev ekP (p : Pr) : Value := .agg #[.int .u16 (p.1 : Int), .int .u32 (p.2 : Int)]
abbrev ekI (n : Nat) : Value := .int .u16 (n : Int)
abbrev evN (n : Nat) : Value := .int .i64 (n : Int)
abbrev evU (_ : Unit) : Value := .agg #[]
theorem ekP_inj : ∀ x y : Pr, ekP x = ekP y → x = y := by
  rintro ⟨a, b⟩ ⟨c, d⟩ h
  simp only [ekP, Value.agg.injEq, Array.mk.injEq, List.cons.injEq, Value.int.injEq, true_and, and_true] at h
  obtain ⟨h1, h2⟩ := h
  have e1 : a = c := by omega
  have e2 : b = d := by omega
  rw [e1, e2]
theorem ekI_inj : ∀ x y : Nat, ekI x = ekI y → x = y := by
  intro x y h
  simp only [ekI, Value.int.injEq, true_and] at h
  omega
theorem keyedP : Keyed Try.prog 30 := Keyed.of_law (deep_law_laid laidOut (m := 5) (by decide) (of_decide_eq_true (by kernel_rfl)) (by kernel_rfl) (by kernel_rfl))
theorem keyedI : Keyed Try.prog 27 := int_keyed Try.underlying27
theorem keyI (n : Nat) (h : n < 65536) : ∃ l, keyOf Try.prog 27 (ekI n) = some l := ⟨_, keyOf_int_mk Try.underlying27 (WalkArith.wf_u16 ⟨by omega, by omega⟩)⟩
theorem klU16 (d : Nat) (a : Nat) (h : a < 65536) : Try.prog.keyLits (d + 1) 27 [.int .u16 (a : Int)] = some [.int .u16 (a : Int)] := by
  have : (Lit.int .u16 (a : Int)).wf = true := WalkArith.wf_u16 ⟨by omega, by omega⟩
  unfold Program.keyLits
  simp only [Try.underlying27, this, and_self, if_true]
theorem klU32 (d : Nat) (a : Nat) (h : a < 4294967296) : Try.prog.keyLits (d + 1) 28 [.int .u32 (a : Int)] = some [.int .u32 (a : Int)] := by
  have : (Lit.int .u32 (a : Int)).wf = true := WalkArith.wf_u32 ⟨by omega, by omega⟩
  unfold Program.keyLits
  simp only [Try.underlying28, this, and_self, if_true]
theorem klP (d a b : Nat) (ha : a < 65536) (hb : b < 4294967296) : Try.prog.keyLits (d + 1 + 1) 30 [.int .u16 (a : Int), .int .u32 (b : Int)] = some [.int .u16 (a : Int), .int .u32 (b : Int)] := by
  have hc : Try.prog.cellsOf 30 = 2 := by kernel_rfl
  have hc1 : Try.prog.cellsOf 27 = 1 := by kernel_rfl
  have hc2 : Try.prog.cellsOf 28 = 1 := by kernel_rfl
  have h1 := klU16 d a ha
  have h2 := klU32 d b hb
  unfold Program.keyLits
  simp only [Try.underlying30, hc]
  rw [if_pos ⟨rfl, by kernel_rfl⟩]
  simp only [List.mapM_cons, List.mapM_nil, hc1, hc2, List.drop_zero, List.drop_succ_cons, List.take_succ_cons, List.take_zero, h1, h2]
  rfl
theorem keyP (p : Pr) (ha : p.1 < 65536) (hb : p.2 < 4294967296) : ∃ l, keyOf Try.prog 30 (ekP p) = some l := by
  have hk : Try.prog.keyType 30 = true := by kernel_rfl
  have hc : Try.prog.cellsOf 30 = 2 := by kernel_rfl
  obtain ⟨n, hn⟩ : ∃ n, Try.prog.types.size + 1 = n + 1 + 1 := ⟨Try.prog.types.size - 1, by kernel_rfl⟩
  have h1 := klP n p.1 p.2 ha hb
  refine ⟨.string (keyBytes [.int .u16 (p.1 : Int), .int .u32 (p.2 : Int)]), ?_⟩
  unfold keyOf
  simp only [Try.underlying30, hk, ekP, Value.formed, hc, Value.cells, hn, h1]
  rfl
/-- A map that was there stays. -/
theorem MapAt.grow {α β : Type} {P : Program} {k : TypeId} {ek : α → Value} {ev : β → Value} {w w' : World} {b : Nat} {M : List (α × β)} (h : MapAt P k ek ev b M w) (hb : Below w.heap.size w w') : MapAt P k ek ev b M w' := by
  obtain ⟨es, clock, h1, h2⟩ := h
  exact ⟨es, clock, (hb.block b (Array.getElem?_eq_some_iff.1 h1).1).trans h1, h2⟩
section
variable {α β : Type} [DecidableEq α] {P : Program} {ops : Array Oper} {k e t : TypeId} {ek : α → Value} {ev : β → Value} {a : Act} {w : World} {o : Oper} {N : Act → World → Prop} {M : List (α × β)} {b : Nat} {x y : Operand} {q : α} {l : Lit}
/-- A look-up in a map that is known now. -/
theorem Stp.lookokF (ho : o.op = .lookup t x y true) (K : Keyed P k) (hi : ∀ x y, ek x = ek y → x = y) (ht : P.underlying t = some (.map k e)) {z : Value} (hz : ∀ W : World, (zeroValue e).run P W = .ok z W) (hx : a.eval x = .map (some b)) (hy : a.eval y = ek q) (ha : keyOf P k (ek q) = some l)
    (hm : MapAt P k ek ev b M w) (h : N (a.put o.dst (.tuple #[((mget M q).map ev).getD z, .bool (mget M q).isSome])) w) : Stp P o a w N := by
  refine ⟨w, .inl ⟨_, ?_, h⟩⟩
  unfold execOp; simp only [ho, hx, hy]
  simp [run_look true K hi ht (hz w) hm ha]
end
def rank : List Pr → Pr → Option Nat
  | [], _ => none
  | x :: l, p => if x = p then some 0 else (rank l p).map (· + 1)
theorem rank_none {l : List Pr} {p : Pr} : rank l p = none ↔ p ∉ l := by
  induction l with
  | nil => simp [rank]
  | cons x l ih =>
    unfold rank
    by_cases h : x = p
    · simp [h]
    · rw [if_neg h, Option.map_eq_none_iff, ih, List.mem_cons, not_or]
      exact ⟨fun h1 => ⟨fun e => h e.symm, h1⟩, fun h1 => h1.2⟩
theorem rank_lt {l : List Pr} {p : Pr} {k : Nat} (h : rank l p = some k) : ∃ hk : k < l.length, l[k] = p := by
  induction l generalizing k with
  | nil => cases h
  | cons x l ih =>
    unfold rank at h
    by_cases hx : x = p
    · rw [if_pos hx] at h
      injection h with h
      subst h
      exact ⟨by simp, hx⟩
    · rw [if_neg hx] at h
      obtain ⟨j, hj, rfl⟩ := Option.map_eq_some_iff.1 h
      obtain ⟨h1, h2⟩ := ih hj
      exact ⟨by simpa using h1, by simpa using h2⟩
theorem rank_snoc (l : List Pr) (x p : Pr) : rank (l ++ [x]) p = match rank l p with | some k => some k | none => if x = p then some l.length else none := by
  induction l with
  | nil => simp [rank]
  | cons y l ih =>
    simp only [List.cons_append, rank]
    by_cases h : y = p
    · simp [h]
    · rw [if_neg h, if_neg h, ih]
      cases rank l p with
      | some k => rfl
      | none => by_cases h2 : x = p <;> simp [h2]
/-- Do the places rise, from one on? -/
def risA (m : List Pr) : Int → List Pr → Bool
  | _, [] => true
  | last, p :: r => match rank m p with
    | none => false
    | some k => decide (last < (k : Int)) && risA m k r
def risB (m l : List Pr) : Bool := risA m (-1) l
/-- May these be members? -/
def memOk (m : List Pr) : Bool := (m.all fun p => may p.1 p.2) && decide ((m.map (·.1)).Nodup) && decide (0 < m.length) && decide (m.length ≤ 24)
end Go.Proofs.Ytmokecicjmjkbaa
