/- Layer 29 (flat): a process's stays in memory (life); the bounds stand in it. -/
import Derived.Test.YtbepaafgcbgmfaaFz11
import Derived.Deep.Cut
namespace Go.Proofs.Ytbepaafgcbgmfaa
open Go.ChangeShapes Go.WideShapes Go.ChangeAt Go.RowKit Go.Maps Go.Deep
set_option linter.unusedVariables false
set_option linter.unusedSimpArgs false
set_option linter.unusedSectionVars false
set_option maxRecDepth 100000
set_option maxHeartbeats 4000000
/-- What somebody lived, and where it lies. -/
structure Lv where
  p : Pr
  l : List Eh
  a : Option Addr
  c : Nat
/-- A stay, and where it lies. -/
structure Sy where
  p : Pr
  e : Eh
  all : List Eh
  aa : Option Addr
  ac : Nat
  told : List Eh
  ta : Option Addr
  tc : Nat
  fol : Bool
def sy0 : Sy := ⟨(0, 0), eh0, [], none, 0, [], none, 0, false⟩
def syc (y : Sy) : Array Value := #[.int .u16 (y.p.1 : Int), .int .u32 (y.p.2 : Int), .int .u64 (y.e.1.x.id : Int), .slice y.e.2.ma y.e.1.x.mem.length y.e.2.mc, .slice y.e.2.la y.e.1.x.lvs.length y.e.2.lc, .slice y.e.2.da y.e.1.x.ldr.length y.e.2.dc, .slice y.aa y.all.length y.ac, .slice y.ta y.told.length y.tc, .bool y.fol]
theorem syc_size (y : Sy) : (syc y).size = 9 := rfl
def elS (l : List Sy) (i : Nat) : Array Value := syc (l.getD i sy0)
theorem elS_at {l : List Sy} {k : Nat} (h : k < l.length) : elS l k = syc l[k] := by unfold elS; rw [getD_at h]
theorem syc_one (V0 : Ev) (h0 : Hd) (p : Pr) (ia : Option Addr) (le ic : Nat) (ta : Option Addr) (tl tc : Nat) (ff : Bool) : ∀ u ∈ (#[.int .u16 (p.1 : Int), .int .u32 (p.2 : Int), .int .u64 (V0.x.id : Int), .slice h0.ma V0.x.mem.length h0.mc, .slice h0.la V0.x.lvs.length h0.lc, .slice h0.da V0.x.ldr.length h0.dc, .slice ia le ic, .slice ta tl tc, .bool ff] : Array Value).toList, u.oneCell' = true := by
  intro u hu
  simp only [List.mem_cons, List.not_mem_nil, or_false] at hu
  rcases hu with rfl | rfl | rfl | rfl | rfl | rfl | rfl | rfl | rfl <;> rfl
def InnG.res (G : Nat → Prop) (v : Value) (I : List Inn) : Res := (G, fun w => InnG G w v I)
theorem InnG.loc {G : Nat → Prop} {w w' : World} {v : Value} {I : List Inn} (hg : ∀ g, G g → w'.heap[g]? = w.heap[g]?) (h : InnG G w v I) : InnG G w' v I := ⟨h.1.loc hg, fun x hx => (h.2 x hx).loc hg⟩
theorem innr_sound {G : Nat → Prop} {w : World} {v : Value} {I : List Inn} {n : Nat} (hG : ∀ g, G g → n ≤ g ∧ g < w.heap.size) (h : InnG G w v I) : Sound (InnG.res G v I) w :=
  ⟨h, fun g hg => (hG g hg).2, fun _ _ hb h1 => h1.loc hb⟩
/-! ### What a life is -/
def tlE (es : List Eh) : List Eh := es.filter fun e => decide (e.1.kd = 2)
theorem tlE_snoc (es : List Eh) (e : Eh) : tlE (es ++ [e]) = tlE es ++ (if e.1.kd = 2 then [e] else []) := by
  unfold tlE; rw [List.filter_append]; by_cases h : e.1.kd = 2 <;> simp [h]
abbrev Sd := Pr × Eh × List Eh × List Eh × Bool
def syd (y : Sy) : Sd := (y.p, y.e, y.all, y.told, y.fol)
def lifeN (p : Pr) (n : Nat) : Nat → List (List Eh) → List Sd
  | _, [] => []
  | k, es :: T => (p, es.headD eh0, es, tlE es, decide (k + 1 < n)) :: lifeN p n (k + 1) T
theorem lifeN_snoc (p : Pr) (n : Nat) (es : List Eh) : ∀ (T : List (List Eh)) (k : Nat), lifeN p n k (T ++ [es]) = lifeN p n k T ++ [(p, es.headD eh0, es, tlE es, decide (k + T.length + 1 < n))]
  | [], k => by simp [lifeN]
  | x :: T, k => by
    show _ :: lifeN p n (k + 1) (T ++ [es]) = _
    rw [lifeN_snoc p n es T (k + 1)]
    have e : k + 1 + T.length + 1 = k + (x :: T).length + 1 := by rw [List.length_cons]; omega
    rw [e]; rfl
/-- The stays of somebody's life. -/
def lifeH (p : Pr) (l : List Eh) : List Sd := lifeN p (staysH l).length 0 (staysH l)
theorem staysH_head (l : List Eh) : ∀ es ∈ staysH l, ∃ e r, es = e :: r := by
  have : ∀ (l : List Eh) (S : List (List Eh)), (∀ es ∈ S, ∃ e r, es = e :: r) → ∀ es ∈ l.foldl stA S, ∃ e r, es = e :: r := by
    intro l
    induction l with
    | nil => intro S h; exact h
    | cons a l ih =>
      intro S h
      refine ih _ ?_
      unfold stA
      intro es hes
      split at hes
      · rcases List.mem_append.1 hes with h1 | h1
        · exact h es h1
        · obtain rfl := List.mem_singleton.1 h1; exact ⟨a, [], rfl⟩
      · split at hes
        · cases hes
        · rename_i x hx
          rcases List.mem_append.1 hes with h1 | h1
          · exact h es (List.dropLast_subset _ h1)
          · obtain rfl := List.mem_singleton.1 h1
            obtain ⟨e, r, rfl⟩ := h x (List.mem_of_getLast? hx)
            exact ⟨e, r ++ [a], rfl⟩
  exact this l [] (fun es h => absurd h List.not_mem_nil)
theorem staysH_sum (l : List Eh) : (staysH l).length ≤ l.length ∧ ∀ es ∈ staysH l, es.length ≤ l.length := by
  have : ∀ (l : List Eh) (S : List (List Eh)) (n : Nat), S.length ≤ n → (∀ es ∈ S, es.length ≤ n) → (l.foldl stA S).length ≤ n + l.length ∧ ∀ es ∈ l.foldl stA S, es.length ≤ n + l.length := by
    intro l
    induction l with
    | nil => intro S n h1 h2; exact ⟨h1, h2⟩
    | cons a l ih =>
      intro S n h1 h2
      have := ih (stA S a) (n + 1) ?_ ?_
      · rw [List.length_cons, ← Nat.add_assoc, Nat.add_right_comm]; exact this
      · unfold stA
        split
        · rw [List.length_append]; exact Nat.succ_le_succ h1
        · split
          · exact Nat.zero_le _
          · rename_i x hx
            rw [List.length_append, List.length_dropLast]
            have : 0 < S.length := List.length_pos_of_mem (List.mem_of_getLast? hx)
            simp; omega
      · unfold stA
        intro es hes
        split at hes
        · rcases List.mem_append.1 hes with h | h
          · exact Nat.le_succ_of_le (h2 es h)
          · obtain rfl := List.mem_singleton.1 h; simp
        · split at hes
          · cases hes
          · rename_i x hx
            rcases List.mem_append.1 hes with h | h
            · exact Nat.le_succ_of_le (h2 es (List.dropLast_subset _ h))
            · obtain rfl := List.mem_singleton.1 h
              rw [List.length_append]
              exact Nat.succ_le_succ (h2 x (List.mem_of_getLast? hx))
  have h := this l [] 0 (Nat.le_refl _) (fun es h => absurd h List.not_mem_nil)
  simpa [staysH] using h
/-- What was told in stays, read only. -/
def rdT (G : Nat → Prop) (ss : List Sy) : Res := (G, fun w => ∀ s ∈ ss, InR G w ⟨s.told, s.ta, s.tc⟩)
theorem rdT_loc (G : Nat → Prop) (ss : List Sy) : Loc (rdT G ss) := fun _ _ hb h x hx => (h x hx).loc hb
theorem St.rdT0 {B : Nat} {w0 w : World} {L : List Res} (H : St B w0 w L) : St B w0 w (rdT (fun _ => False) [] :: L) :=
  St.emp (p := (rdT (fun _ => False) []).2) (fun W x hx => absurd hx List.not_mem_nil) H
theorem St.shutT {B : Nat} {w0 w : World} {L : List Res} {G : Nat → Prop} {ss : List Sy} (y : Sy) (hl : y.told.length ≤ 1000000) (H : St B w0 w (slc 62 9 (.slice y.ta y.told.length y.tc) y.told.length (fv evc y.told) :: rdT G ss :: L)) :
    ∃ G' : Nat → Prop, St B w0 w (rdT G' (ss ++ [y]) :: L) :=
  ⟨fun g => (Value.slice y.ta y.told.length y.tc).ownBlock = some g ∨ G g, H.join.conv (r' := rdT (fun g => (Value.slice y.ta y.told.length y.tc).ownBlock = some g ∨ G g) (ss ++ [y])) (fun g h => h) (fun hs => ⟨fun z hz => by
    rcases List.mem_append.1 hz with h1 | h1
    · exact (hs.here.2 z h1).mono (fun g hg => .inr hg)
    · obtain rfl := List.mem_singleton.1 h1
      exact (own_InR (x := ⟨z.told, z.ta, z.tc⟩) hs.here.1 hl).mono (fun g hg => .inl hg), hs.lt, rdT_loc _ _⟩)⟩
/-- Stays in memory, read only. -/
def SysG (G : Nat → Prop) (w : World) (v : Value) (ss : List Sy) : Prop := SlG G w 9 ss.length v (elS ss) ∧ ∀ s ∈ ss, InR G w ⟨s.all, s.aa, s.ac⟩ ∧ InR G w ⟨s.told, s.ta, s.tc⟩
theorem SysG.loc {G : Nat → Prop} {w w' : World} {v : Value} {ss : List Sy} (hg : ∀ g, G g → w'.heap[g]? = w.heap[g]?) (h : SysG G w v ss) : SysG G w' v ss := ⟨h.1.loc hg, fun s hs => ⟨(h.2 s hs).1.loc hg, (h.2 s hs).2.loc hg⟩⟩
theorem SysG.grow {G : Nat → Prop} {w w' : World} {v : Value} {ss : List Sy} (h : SysG G w v ss) (hb : Below w.heap.size w w') : SysG G w' v ss := ⟨h.1.grow hb, fun s hs => ⟨(h.2 s hs).1.grow hb, (h.2 s hs).2.grow hb⟩⟩
theorem SysG.mono {G G' : Nat → Prop} {w : World} {v : Value} {ss : List Sy} (hg : ∀ g, G g → G' g) (h : SysG G w v ss) : SysG G' w v ss := ⟨h.1.mono hg, fun s hs => ⟨(h.2 s hs).1.mono hg, (h.2 s hs).2.mono hg⟩⟩
def LifeP (w0 w : World) (v : Value) (D : List Sd) : Prop := ∃ (ss : List Sy) (oa : Option Addr) (oc : Nat) (G : Nat → Prop), v = .slice oa ss.length oc ∧ ss.length ≤ oc ∧ ss.map syd = D ∧ (∀ g, G g → w0.heap.size ≤ g ∧ g < w.heap.size) ∧ SysG G w v ss
theorem St.outT {w0 w w' : World} {ss : List Sy} {G G0 : Nat → Prop} {oa : Option Addr} {oc n : Nat} (hn : ss.length = n) (hl : n ≤ 1000000) (D : List Sd) (hD : ss.map syd = D) (hG : ∀ g, G0 g → w0.heap.size ≤ g ∧ g < w.heap.size) (hw : w0.heap.size ≤ w.heap.size) (hI : ∀ s ∈ ss, InR G0 w ⟨s.all, s.aa, s.ac⟩)
    (H : St w.heap.size w w' (slc 78 9 (.slice oa n oc) n (fv syc ss) :: rdT G ss :: [])) : LifeP w0 w' (.slice oa n oc) D := by
  subst hn
  have h1 := H.sound _ List.mem_cons_self
  have h2 := H.sound _ (List.mem_cons_of_mem _ List.mem_cons_self)
  have b1 := H.base _ List.mem_cons_self
  have b2 := H.base _ (List.mem_cons_of_mem _ List.mem_cons_self)
  refine ⟨ss, oa, oc, fun g => (Value.slice oa ss.length oc).ownBlock = some g ∨ G g ∨ G0 g, rfl, own_cap h1.here, hD, fun g hg => ?_, ?_, fun s hs => ⟨((hI s hs).grow H.below).mono (fun g hg => .inr (.inr hg)), (h2.here s hs).mono (fun g hg => .inr (.inl hg))⟩⟩
  · rcases hg with hg | hg | hg
    · exact ⟨Nat.le_trans hw (b1 g hg), h1.lt g hg⟩
    · exact ⟨Nat.le_trans hw (b2 g hg), h2.lt g hg⟩
    · exact ⟨(hG g hg).1, Nat.lt_of_lt_of_le (hG g hg).2 H.below.size⟩
  · refine (SlG.of_own h1.here (fun i hi j hj => ?_) (by unfold maxLen; omega)).mono (fun g hg => .inl hg)
    rw [fv_get syc_size ss i ss[i] (List.getElem?_eq_getElem hi) j hj, elS_at hi]
attribute [local irreducible] lifeN staysH tlE
theorem life_ok (x : Lv) (w : World) (hs : Sl w 9 x.l.length (.slice x.a x.l.length x.c) (elE x.l)) (hl : x.l.length ≤ 1000) :
    Calls Try.prog 30 #[.agg #[.int .u16 (x.p.1 : Int), .int .u32 (x.p.2 : Int), .slice x.a x.l.length x.c]] w (Ret fun v w' => LifeP w w' v (lifeH x.p x.l) ∧ Below w.heap.size w w') := by
  have H := St.init w
  have HXL := Lib.hid hs
  have hxn := hl
  clear hs hl
  go_enter Try.func30, Try.ntmps30
  go_upto_region 2 with (first | (go_at_call 11; (with_reducible refine (stays_ok _ x.l _ (HXL.out.grow H.below) hxn).mono ?_); rintro e wS ⟨v, rfl, hr⟩; obtain ⟨⟨I, oa, oc, G, rfl, hI, hG, hIG⟩, hb1⟩ := hr; have HGF := Lib.hid (fun g hg => And.intro (Nat.le_trans H.below.size (hG g hg).1) (hG g hg).2); replace H := H.new hb1 (innr_sound hG hIG) (fun g hg => (hG g hg).1); have HI := Lib.hid hI; clear hb1 hI hG hIG) | (with_reducible refine wpl rfl (dQ 1 rfl ?_); with_reducible refine (Stp.box 1 rfl rfl rfl H ?_); clear H; intro g1 w1 H; simp only [pS]; simp only [pE, nC, pS] at H) | (with_reducible refine wpl rfl (ldQ (ty := 22) rfl ?_); first | (with_reducible refine (Stp.ldo rfl agg22 rfl H (by assumption) (by assumption) ?_); simp only [pS]) | (with_reducible refine (Stp.ldc rfl agg22 rfl H mR cE ?_); simp only [pS])) | (with_reducible refine wpl rfl (ldQ (ty := 62) rfl ?_); first | (with_reducible refine (Stp.ldor rfl agg62 size62 rfl H (by assumption) sZ (by assumption) ?_); simp only [pS]) | (with_reducible refine (Stp.ldr rfl agg62 size62 rfl H mR sZ ?_); simp only [pS]) | (with_reducible refine (Stp.ldl rfl agg62 size62 rfl H mR (by simp) ?_); simp only [pS]; simp only [List.drop_succ_cons, List.drop_zero, List.take_succ_cons, List.take_zero])) | (with_reducible refine wpl rfl (dQ 9 rfl ?_); with_reducible refine (Stp.alloc 9 rfl rfl zero62 H ?_); clear H; intro g9 w1 H; simp only [pS]; simp only [nC] at H) | (with_reducible refine wpl rfl (stQ (ty := 62) rfl ?_); first | (with_reducible refine (Stp.str rfl size62 rfl rfl (by first | rfl | (simp [Value.oneCell']; done) | assumption) H uP sZ sZ ?_); clear H; intro w1 H; simp only [pS]) | (with_reducible refine (Stp.stl rfl size62 rfl rfl rfl rfl H uP (by simp) ?_); clear H; intro w1 H; simp only [pS]; simp only [List.drop_succ_cons, List.drop_zero, List.take_succ_cons, List.take_zero, List.nil_append, List.cons_append, Nat.reduceAdd] at H)) | (with_reducible refine wpl rfl (ldQ (ty := 3) rfl ?_); first | (with_reducible refine (Stp.ldo rfl agg3 rfl H (by assumption) (by assumption) ?_); simp only [pS]) | (with_reducible refine (Stp.ldc rfl agg3 rfl H mR cE ?_); simp only [pS])) | (with_reducible refine wpl rfl (stQ (ty := 22) rfl ?_); first | (with_reducible refine (Stp.stc rfl size22 rfl rfl rfl rfl H uP (by first | omega | (simp; done) | (simp; omega)) ?_); clear H; intro w1 H; simp only [pS]; simp only [pE, nC, pS] at H)) | (with_reducible refine wpl rfl (ldQ (ty := 78) rfl ?_); first | (with_reducible refine (Stp.ldor rfl agg78 size78 rfl H (by assumption) sZ (by assumption) ?_); simp only [pS]) | (with_reducible refine (Stp.ldr rfl agg78 size78 rfl H mR sZ ?_); simp only [pS]) | (with_reducible refine (Stp.ldl rfl agg78 size78 rfl H mR (by simp) ?_); simp only [pS]; simp only [List.drop_succ_cons, List.drop_zero, List.take_succ_cons, List.take_zero])))
  have hp1 : ∀ j, j < 2 → wS.cell? ⟨g1, 0 + j, none⟩ = (#[.int .u16 (x.p.1 : Int), .int .u32 (x.p.2 : Int)] : Array Value)[j]? := fun j hj => by
    rw [cell_of_rowAt (H.getRow (t := 29) mE)]
    have hj' : j = 0 ∨ j = 1 := by omega
    rcases hj' with rfl | rfl <;> rfl
  have hg1 : g1 < wS.heap.size := rowAt_lt (H.getRow (t := 29) mE)
  obtain ⟨hI1, hI2⟩ : InnG G wS (.slice oa I.length oc) I := H.get (r := InnG.res G _ I) mE
  have hGf := HGF.out
  have hbS := H.below
  clear H
  have H := St.init wS
  obtain ⟨n, hn⟩ : ∃ n, I.length = n := ⟨_, rfl⟩
  have HN := Lib.hid hn
  have hT1 := staysH_sum x.l
  rw [← HI.out] at hT1
  have hnl : n ≤ 1000 := by have := hT1.1; rw [List.length_map, hn] at this; omega
  have HTL : Hid (∀ y ∈ I, y.es.length ≤ 1000) := Lib.hid (fun y hy => Nat.le_trans (hT1.2 y.es (List.mem_map.2 ⟨y, hy, rfl⟩)) hxn)
  have HTH : Hid (∀ y ∈ I, ∃ e r, y.es = e :: r) := Lib.hid (fun y hy => staysH_head x.l y.es (by rw [← HI.out]; exact List.mem_map.2 ⟨y, hy, rfl⟩))
  have HI2 := Lib.hid hI2
  have hI1' := hI1.sl
  rw [hn] at hI1' ⊢
  clear hn hT1 hI2 hI1
  go_wp2_with (first | (with_reducible refine wpl rfl (dQ 1 rfl ?_); with_reducible refine (Stp.box 1 rfl rfl rfl H ?_); clear H; intro g1 w1 H; simp only [pS]; simp only [pE, nC, pS] at H) | (with_reducible refine wpl rfl (ldQ (ty := 22) rfl ?_); first | (with_reducible refine (Stp.ldo rfl agg22 rfl H (by assumption) (by assumption) ?_); simp only [pS]) | (with_reducible refine (Stp.ldc rfl agg22 rfl H mR cE ?_); simp only [pS])) | (with_reducible refine wpl rfl (ldQ (ty := 62) rfl ?_); first | (with_reducible refine (Stp.ldor rfl agg62 size62 rfl H (by assumption) sZ (by assumption) ?_); simp only [pS]) | (with_reducible refine (Stp.ldr rfl agg62 size62 rfl H mR sZ ?_); simp only [pS]) | (with_reducible refine (Stp.ldl rfl agg62 size62 rfl H mR (by simp) ?_); simp only [pS]; simp only [List.drop_succ_cons, List.drop_zero, List.take_succ_cons, List.take_zero])) | (with_reducible refine wpl rfl (dQ 9 rfl ?_); with_reducible refine (Stp.alloc 9 rfl rfl zero62 H ?_); clear H; intro g9 w1 H; simp only [pS]; simp only [nC] at H) | (with_reducible refine wpl rfl (stQ (ty := 62) rfl ?_); first | (with_reducible refine (Stp.str rfl size62 rfl rfl (by first | rfl | (simp [Value.oneCell']; done) | assumption) H uP sZ sZ ?_); clear H; intro w1 H; simp only [pS]) | (with_reducible refine (Stp.stl rfl size62 rfl rfl rfl rfl H uP (by simp) ?_); clear H; intro w1 H; simp only [pS]; simp only [List.drop_succ_cons, List.drop_zero, List.take_succ_cons, List.take_zero, List.nil_append, List.cons_append, Nat.reduceAdd] at H)) | (with_reducible refine wpl rfl (ldQ (ty := 3) rfl ?_); first | (with_reducible refine (Stp.ldo rfl agg3 rfl H (by assumption) (by assumption) ?_); simp only [pS]) | (with_reducible refine (Stp.ldc rfl agg3 rfl H mR cE ?_); simp only [pS])) | (with_reducible refine wpl rfl (stQ (ty := 22) rfl ?_); first | (with_reducible refine (Stp.stc rfl size22 rfl rfl rfl rfl H uP (by first | omega | (simp; done) | (simp; omega)) ?_); clear H; intro w1 H; simp only [pS]; simp only [pE, nC, pS] at H)) | (with_reducible refine wpl rfl (ldQ (ty := 78) rfl ?_); first | (with_reducible refine (Stp.ldor rfl agg78 size78 rfl H (by assumption) sZ (by assumption) ?_); simp only [pS]) | (with_reducible refine (Stp.ldr rfl agg78 size78 rfl H mR sZ ?_); simp only [pS]) | (with_reducible refine (Stp.ldl rfl agg78 size78 rfl H mR (by simp) ?_); simp only [pS]; simp only [List.drop_succ_cons, List.drop_zero, List.take_succ_cons, List.take_zero])))
  replace H := (H.nil 78 9).rdT0.swap
  go_loopw [4, 15] (fun o i wr => ∃ (k : Nat) (ss : List Sy) (oa2 : Option Addr) (oc2 : Nat) (G2 : Nat → Prop), k ≤ n ∧ i = .int .i64 k ∧ o = .slice oa2 k oc2 ∧ Hid (ss.length = k) ∧ Hid (ss.map syd = lifeN x.p n 0 ((I.take k).map (·.es))) ∧ Hid (∀ s ∈ ss, InR G wS ⟨s.all, s.aa, s.ac⟩) ∧ St wS.heap.size wS wr [slc 78 9 (.slice oa2 k oc2) k (fv syc ss), rdT G2 ss]) (fun _ i _ => n - (intOf i).toNat)
  case atStart => exact ⟨0, [], none, 0, fun _ => False, Nat.zero_le _, rfl, rfl, Lib.hid rfl, Lib.hid (by simp [lifeN]), Lib.hid (fun s hs => absurd hs List.not_mem_nil), H⟩
  case round =>
    clear H
    obtain ⟨k, ss, oa2, oc2, G2, hk, rfl, rfl, HSL, HSD, HSI, H⟩ := hrel
    by_cases hlt : k < n
    · have hl1 : k < I.length := by rw [HN.out]; exact hlt
      obtain ⟨bI, oI, rfl, hbI⟩ := hI1'.addr (by omega)
      have hc1 := hI1'.cell hlt 0 (by omega)
      rw [getD_at hl1, Nat.mul_one, Nat.add_zero] at hc1
      have hmI := List.getElem_mem hl1
      have HTk := Lib.hid (List.take_succ_eq_append_getElem hl1)
      obtain ⟨⟨es, ia, ic⟩, hy⟩ : ∃ y, I[k] = y := ⟨_, rfl⟩
      rw [hy] at hc1 hmI HTk
      have HIN := Lib.hid (HI2.out _ hmI)
      obtain ⟨⟨V0, h0⟩, er, hee⟩ := HTH.out _ hmI
      simp only at hee
      have HEE := Lib.hid hee
      have hel : es.length ≤ 1000 := HTL.out _ hmI
      obtain ⟨le, hle⟩ : ∃ le, es.length = le := ⟨_, rfl⟩
      have hle0 : 0 < le := by rw [← hle, hee, List.length_cons]; omega
      have hSi : Sl wS 9 le (.slice ia le ic) (elE es) := by have := HIN.out.1.sl; simp only [hv, hle] at this; exact this
      have hc2 : wS.cell? ⟨bI, oI + k, none⟩ = some (.slice ia le ic) := by rw [hc1]; simp [hv, hle]
      have HLE := Lib.hid hle
      rw [hle] at hel
      obtain ⟨bi, oi, rfl, hbi⟩ := hSi.addr hle0
      have hv0 := hSi.cell (i := 0) hle0
      have hvw : ∀ j, j < 4 → wS.cell? ⟨bi, oi + 1 + j, none⟩ = (#[.int .u64 (V0.x.id : Int), .slice h0.ma V0.x.mem.length h0.mc, .slice h0.la V0.x.lvs.length h0.lc, .slice h0.da V0.x.ldr.length h0.dc] : Array Value)[j]? := fun j hj => by
        have := hv0 (1 + j) (by omega)
        rw [Nat.zero_mul, Nat.add_zero, ← Nat.add_assoc] at this
        rw [this, hee]
        have hj' : j = 0 ∨ j = 1 ∨ j = 2 ∨ j = 3 := by omega
        rcases hj' with rfl | rfl | rfl | rfl <;> rfl
      have kli : (k : Int) < (n : Int) := by omega
      have hlei : (0 : Int) < (le : Int) := by omega
      obtain ⟨ff, hff⟩ : ∃ ff, decide (k + 1 < n) = ff := ⟨_, rfl⟩
      have HFF0 := Lib.hid hff
      have HFF : Hid (decide (((k + 1 : Nat) : Int) < (n : Int)) = ff) := Lib.hid (by rw [← hff, decide_eq_decide]; omega)
      have HW : Hid (IntKind.i64.wrap ((k : Int) + 1) = ((k + 1 : Nat) : Int)) := Lib.hid (by rw [IntKind.wrap_i64]; omega)
      clear hc1 hmI hy hee hle hv0 hff hl1
      go_wp2_with (first | (with_reducible refine wpl rfl (dQ 1 rfl ?_); with_reducible refine (Stp.box 1 rfl rfl rfl H ?_); clear H; intro g1 w1 H; simp only [pS]; simp only [pE, nC, pS] at H) | (with_reducible refine wpl rfl (ldQ (ty := 22) rfl ?_); first | (with_reducible refine (Stp.ldo rfl agg22 rfl H (by assumption) (by assumption) ?_); simp only [pS]) | (with_reducible refine (Stp.ldc rfl agg22 rfl H mR cE ?_); simp only [pS])) | (with_reducible refine wpl rfl (ldQ (ty := 62) rfl ?_); first | (with_reducible refine (Stp.ldor rfl agg62 size62 rfl H (by assumption) sZ (by assumption) ?_); simp only [pS]) | (with_reducible refine (Stp.ldr rfl agg62 size62 rfl H mR sZ ?_); simp only [pS]) | (with_reducible refine (Stp.ldl rfl agg62 size62 rfl H mR (by simp) ?_); simp only [pS]; simp only [List.drop_succ_cons, List.drop_zero, List.take_succ_cons, List.take_zero])) | (with_reducible refine wpl rfl (dQ 9 rfl ?_); with_reducible refine (Stp.alloc 9 rfl rfl zero62 H ?_); clear H; intro g9 w1 H; simp only [pS]; simp only [nC] at H) | (with_reducible refine wpl rfl (stQ (ty := 62) rfl ?_); first | (with_reducible refine (Stp.str rfl size62 rfl rfl (by first | rfl | (simp [Value.oneCell']; done) | assumption) H uP sZ sZ ?_); clear H; intro w1 H; simp only [pS]) | (with_reducible refine (Stp.stl rfl size62 rfl rfl rfl rfl H uP (by simp) ?_); clear H; intro w1 H; simp only [pS]; simp only [List.drop_succ_cons, List.drop_zero, List.take_succ_cons, List.take_zero, List.nil_append, List.cons_append, Nat.reduceAdd] at H)) | (with_reducible refine wpl rfl (ldQ (ty := 3) rfl ?_); first | (with_reducible refine (Stp.ldo rfl agg3 rfl H (by assumption) (by assumption) ?_); simp only [pS]) | (with_reducible refine (Stp.ldc rfl agg3 rfl H mR cE ?_); simp only [pS])) | (with_reducible refine wpl rfl (stQ (ty := 22) rfl ?_); first | (with_reducible refine (Stp.stc rfl size22 rfl rfl rfl rfl H uP (by first | omega | (simp; done) | (simp; omega)) ?_); clear H; intro w1 H; simp only [pS]; simp only [pE, nC, pS] at H)) | (with_reducible refine wpl rfl (ldQ (ty := 78) rfl ?_); first | (with_reducible refine (Stp.ldor rfl agg78 size78 rfl H (by assumption) sZ (by assumption) ?_); simp only [pS]) | (with_reducible refine (Stp.ldr rfl agg78 size78 rfl H mR sZ ?_); simp only [pS]) | (with_reducible refine (Stp.ldl rfl agg78 size78 rfl H mR (by simp) ?_); simp only [pS]; simp only [List.drop_succ_cons, List.drop_zero, List.take_succ_cons, List.take_zero])))
      refine rg_begin 15 rfl (S := fun W => St _ _ W ([] : List Res)) (by kernel_rfl) (H.drew.sub sU) ?_
      replace H := H.drew
      have HS := H
      refine rg_take (i := 0) rfl kR kR kR (Yld.o rfl) (H.sub sU) ?_; simp only [pS]
      first | (refine rg_take (i := 1) rfl kR kR kR (Yld.ldor rfl rfl agg27 size27 rfl (by assumption) sZ (by assumption)) (H.sub sU) ?_; simp only [pS]) | (refine rg_take (i := 1) rfl kR kR kR (Yld.ldr rfl rfl agg27 size27 rfl mR sZ) (H.sub sU) ?_; simp only [pS]) | (refine rg_take (i := 1) rfl kR kR kR (Yld.ldl rfl rfl agg27 size27 rfl mR (by simp)) (H.sub sU) ?_; simp only [pS]; simp only [List.drop_succ_cons, List.drop_zero, List.take_succ_cons, List.take_zero])
      refine rg_take (i := 2) rfl kR kR kR (Yld.move rfl rfl) (H.sub sU) ?_; simp only [pS, pE]
      refine rg_take (i := 3) rfl kR kR kR (Yld.o rfl) (H.sub sU) ?_; simp only [pS]
      refine rg_take (i := 4) rfl kR kR kR (Yld.o rfl) (H.sub sU) ?_; simp only [pS]
      first | (refine rg_take (i := 5) rfl kR kR kR (Yld.ldor rfl rfl agg41 size41 rfl (by assumption) sZ (by assumption)) (H.sub sU) ?_; simp only [pS]) | (refine rg_take (i := 5) rfl kR kR kR (Yld.ldr rfl rfl agg41 size41 rfl mR sZ) (H.sub sU) ?_; simp only [pS]) | (refine rg_take (i := 5) rfl kR kR kR (Yld.ldl rfl rfl agg41 size41 rfl mR (by simp)) (H.sub sU) ?_; simp only [pS]; simp only [List.drop_succ_cons, List.drop_zero, List.take_succ_cons, List.take_zero])
      refine rg_take (i := 6) rfl kR kR kR (Yld.move rfl rfl) (H.sub sU) ?_; simp only [pS, pE]
      refine rg_take (i := 7) rfl kR kR kR (Yld.move rfl rfl) (H.sub sU) ?_; simp only [pS, pE]
      refine rg_take (i := 8) rfl kR kR kR (Yld.of (v := .int .i64 ((k + 1 : Nat) : Int)) rfl (fun W _ => by go_simp; first | done | exact HW.out | (rw [HW.out]) | (simpa using HW.out) | (have hq := HW.out; omega) | (have hq := HW.out; simp at hq ⊢; omega))) (H.sub sU) ?_; simp only [pS, pE]
      refine rg_take (i := 9) rfl kR kR kR (Yld.move rfl rfl) (H.sub sU) ?_; simp only [pS, pE]
      refine rg_take (i := 10) rfl kR kR kR (Yld.o rfl) (H.sub sU) ?_; simp only [pS]
      refine rg_take (i := 11) rfl kR kR kR (Yld.of (v := .bool ff) rfl (fun W _ => by go_simp; first | done | exact HFF.out | (rw [HFF.out]) | (simpa using HFF.out) | (have hq := HFF.out; omega) | (have hq := HFF.out; simp at hq ⊢; omega))) (H.sub sU) ?_; simp only [pS, pE]
      refine rg_take (i := 12) rfl kR kR kR (Yld.of (v := .agg #[.int .u16 (x.p.1 : Int), .int .u32 (x.p.2 : Int), .int .u64 (V0.x.id : Int), .slice h0.ma V0.x.mem.length h0.mc, .slice h0.la V0.x.lvs.length h0.lc, .slice h0.da V0.x.ldr.length h0.dc, .slice (some ⟨bi, oi, none⟩) le ic, .slice none 0 0, .bool ff]) rfl (fun W _ => by kernel_rfl)) (H.sub sU) ?_; simp only [pS, pE]
      refine rg_one (i := 13) (by kernel_rfl) rfl rfl (fun K hK => ?_)
      refine Stp.wp (Stp.alloc 7 rfl rfl zero78 H ?_)
      clear H
      intro g7 w1 H
      simp only [cells_agg] at H
      clear HS
      have HS := H
      refine hK.out _ _ (H.sub sU) ?_
      clear hK K
      simp only [pS]
      refine rg_one (i := 14) (by kernel_rfl) rfl rfl (fun K hK => ?_)
      refine Stp.wp (Stp.str (ds := #[.int .u16 (x.p.1 : Int), .int .u32 (x.p.2 : Int), .int .u64 (V0.x.id : Int), .slice h0.ma V0.x.mem.length h0.mc, .slice h0.la V0.x.lvs.length h0.lc, .slice h0.da V0.x.ldr.length h0.dc, .slice (some ⟨bi, oi, none⟩) le ic, .slice none 0 0, .bool ff]) rfl size78 rfl rfl (by simp [Value.oneCell']) H uP rfl rfl ?_)
      clear H
      intro w1 H
      clear HS
      have HS := H
      refine hK.out _ _ (H.sub sU) ?_
      clear hK K
      simp only [pS]
      refine rg_done (by kernel_rfl) ?_
      go_wp2_with (first | (with_reducible refine wpl rfl (dQ 1 rfl ?_); with_reducible refine (Stp.box 1 rfl rfl rfl H ?_); clear H; intro g1 w1 H; simp only [pS]; simp only [pE, nC, pS] at H) | (with_reducible refine wpl rfl (ldQ (ty := 22) rfl ?_); first | (with_reducible refine (Stp.ldo rfl agg22 rfl H (by assumption) (by assumption) ?_); simp only [pS]) | (with_reducible refine (Stp.ldc rfl agg22 rfl H mR cE ?_); simp only [pS])) | (with_reducible refine wpl rfl (ldQ (ty := 62) rfl ?_); first | (with_reducible refine (Stp.ldor rfl agg62 size62 rfl H (by assumption) sZ (by assumption) ?_); simp only [pS]) | (with_reducible refine (Stp.ldr rfl agg62 size62 rfl H mR sZ ?_); simp only [pS]) | (with_reducible refine (Stp.ldl rfl agg62 size62 rfl H mR (by simp) ?_); simp only [pS]; simp only [List.drop_succ_cons, List.drop_zero, List.take_succ_cons, List.take_zero])) | (with_reducible refine wpl rfl (dQ 9 rfl ?_); with_reducible refine (Stp.alloc 9 rfl rfl zero62 H ?_); clear H; intro g9 w1 H; simp only [pS]; simp only [nC] at H) | (with_reducible refine wpl rfl (stQ (ty := 62) rfl ?_); first | (with_reducible refine (Stp.str rfl size62 rfl rfl (by first | rfl | (simp [Value.oneCell']; done) | assumption) H uP sZ sZ ?_); clear H; intro w1 H; simp only [pS]) | (with_reducible refine (Stp.stl rfl size62 rfl rfl rfl rfl H uP (by simp) ?_); clear H; intro w1 H; simp only [pS]; simp only [List.drop_succ_cons, List.drop_zero, List.take_succ_cons, List.take_zero, List.nil_append, List.cons_append, Nat.reduceAdd] at H)) | (with_reducible refine wpl rfl (ldQ (ty := 3) rfl ?_); first | (with_reducible refine (Stp.ldo rfl agg3 rfl H (by assumption) (by assumption) ?_); simp only [pS]) | (with_reducible refine (Stp.ldc rfl agg3 rfl H mR cE ?_); simp only [pS])) | (with_reducible refine wpl rfl (stQ (ty := 22) rfl ?_); first | (with_reducible refine (Stp.stc rfl size22 rfl rfl rfl rfl H uP (by first | omega | (simp; done) | (simp; omega)) ?_); clear H; intro w1 H; simp only [pS]; simp only [pE, nC, pS] at H)) | (with_reducible refine wpl rfl (ldQ (ty := 78) rfl ?_); first | (with_reducible refine (Stp.ldor rfl agg78 size78 rfl H (by assumption) sZ (by assumption) ?_); simp only [pS]) | (with_reducible refine (Stp.ldr rfl agg78 size78 rfl H mR sZ ?_); simp only [pS]) | (with_reducible refine (Stp.ldl rfl agg78 size78 rfl H mR (by simp) ?_); simp only [pS]; simp only [List.drop_succ_cons, List.drop_zero, List.take_succ_cons, List.take_zero])))
      replace H := H.nil 62 9
      have H3 : ∃ L3, L3 = slc 78 9 (.slice oa2 k oc2) k (fv syc ss) :: rdT G2 ss :: [] ∧ St wS.heap.size wS _ (row 78 g7 #[.int .u16 (x.p.1 : Int), .int .u32 (x.p.2 : Int), .int .u64 (V0.x.id : Int), .slice h0.ma V0.x.mem.length h0.mc, .slice h0.la V0.x.lvs.length h0.lc, .slice h0.da V0.x.ldr.length h0.dc, .slice (some ⟨bi, oi, none⟩) le ic, .slice none 0 0, .bool ff] :: slc 62 9 (.slice none 0 0) 0 [] :: L3) := ⟨_, rfl, ((H.pull (r := slc 62 9 (.slice none 0 0) 0 []) pU).pull (r := row 78 g7 _) pU).sub sU⟩
      clear H
      obtain ⟨L3, HL3, H⟩ := H3
      go_loopw [35] (fun i wr => ∃ (j : Nat) (told : List Eh) (tl : Nat) (ta : Option Addr) (tc : Nat), j ≤ le ∧ i = .int .i64 j ∧ Hid (told.length = tl) ∧ tl ≤ j ∧ Hid (told = tlE (es.take j)) ∧ St wS.heap.size wS wr (row 78 g7 #[.int .u16 (x.p.1 : Int), .int .u32 (x.p.2 : Int), .int .u64 (V0.x.id : Int), .slice h0.ma V0.x.mem.length h0.mc, .slice h0.la V0.x.lvs.length h0.lc, .slice h0.da V0.x.ldr.length h0.dc, .slice (some ⟨bi, oi, none⟩) le ic, .slice ta tl tc, .bool ff] :: slc 62 9 (.slice ta tl tc) tl (fv evc told) :: L3)) (fun i _ => le - (intOf i).toNat)
      case atStart => exact ⟨0, [], 0, none, 0, Nat.zero_le _, rfl, Lib.hid rfl, Nat.le_refl _, Lib.hid (by simp [tlE]), H⟩
      case round =>
        clear H
        obtain ⟨j, told, tl, ta, tc, hj, rfl, HTL1, htj, HTD, H⟩ := hrel
        by_cases hjl : j < le
        · have hj1 : j < es.length := by rw [HLE.out]; exact hjl
          have hcj := hSi.cell hjl
          rw [elE_at hj1] at hcj
          have HTj := Lib.hid (List.take_succ_eq_append_getElem hj1)
          obtain ⟨⟨V, h⟩, hxj⟩ : ∃ x, es[j] = x := ⟨_, rfl⟩
          rw [hxj] at hcj HTj
          simp only at hcj
          have jli : (j : Int) < (le : Int) := by omega
          clear hxj hj1
          by_cases hkd : V.kd = 2
          · have hki : (V.kd == 2) = true := by simpa using hkd
            have HTD2 : Hid (told ++ [(V, h)] = tlE (es.take (j + 1))) := Lib.hid (by rw [HTj.out, tlE_snoc, HTD.out]; simp [hkd])
            have HTL2 : Hid ((told ++ [(V, h)]).length = tl + 1) := Lib.hid (by rw [List.length_append, HTL1.out]; rfl)
            have HF2 : Hid (fv evc told ++ (evA V h).toList = fv evc (told ++ [(V, h)])) := Lib.hid (by rw [fv_app, fv_one]; rfl)
            clear hkd
            go_wp2_with (first | (with_reducible refine wpl rfl (dQ 45 rfl ?_); with_reducible refine (Stp.bsl (e := 62) (cs := #[.int .i64 V.kd, .int .u64 (V.x.id : Int), .slice h.ma V.x.mem.length h.mc, .slice h.la V.x.lvs.length h.lc, .slice h.da V.x.ldr.length h.dc, .int .u16 (V.p.1 : Int), .int .u32 (V.p.2 : Int), .int .u64 (V.n : Int), .slice h.ba V.data.length h.bc]) 45 rfl rfl (fun W => by kernel_rfl) H ?_); clear H; intro g45 w1 H; simp only [pS]) | (with_reducible refine wpl rfl (dQ 46 rfl ?_); with_reducible refine (Stp.app 46 rfl rfl Try.underlying22 info62 rfl (by decide) rfl rfl H (fun _ => uP) (show (#[.int .i64 V.kd, .int .u64 (V.x.id : Int), .slice h.ma V.x.mem.length h.mc, .slice h.la V.x.lvs.length h.lc, .slice h.da V.x.ldr.length h.dc, .int .u16 (V.p.1 : Int), .int .u32 (V.p.2 : Int), .int .u64 (V.n : Int), .slice h.ba V.data.length h.bc].toList).length = 1 * 9 from rfl) (newN (H.gr 62)) (evc_one V h) (by unfold maxLen; omega) (by omega) ?_); clear H; intro a46 c46 w1 H; simp only [pS]) | (with_reducible refine wpl rfl (dQ 1 rfl ?_); with_reducible refine (Stp.box 1 rfl rfl rfl H ?_); clear H; intro g1 w1 H; simp only [pS]; simp only [pE, nC, pS] at H) | (with_reducible refine wpl rfl (ldQ (ty := 22) rfl ?_); first | (with_reducible refine (Stp.ldo rfl agg22 rfl H (by assumption) (by assumption) ?_); simp only [pS]) | (with_reducible refine (Stp.ldc rfl agg22 rfl H mR cE ?_); simp only [pS])) | (with_reducible refine wpl rfl (ldQ (ty := 62) rfl ?_); first | (with_reducible refine (Stp.ldor rfl agg62 size62 rfl H (by assumption) sZ (by assumption) ?_); simp only [pS]) | (with_reducible refine (Stp.ldr rfl agg62 size62 rfl H mR sZ ?_); simp only [pS]) | (with_reducible refine (Stp.ldl rfl agg62 size62 rfl H mR (by simp) ?_); simp only [pS]; simp only [List.drop_succ_cons, List.drop_zero, List.take_succ_cons, List.take_zero])) | (with_reducible refine wpl rfl (dQ 9 rfl ?_); with_reducible refine (Stp.alloc 9 rfl rfl zero62 H ?_); clear H; intro g9 w1 H; simp only [pS]; simp only [nC] at H) | (with_reducible refine wpl rfl (stQ (ty := 62) rfl ?_); first | (with_reducible refine (Stp.str rfl size62 rfl rfl (by first | rfl | (simp [Value.oneCell']; done) | assumption) H uP sZ sZ ?_); clear H; intro w1 H; simp only [pS]) | (with_reducible refine (Stp.stl rfl size62 rfl rfl rfl rfl H uP (by simp) ?_); clear H; intro w1 H; simp only [pS]; simp only [List.drop_succ_cons, List.drop_zero, List.take_succ_cons, List.take_zero, List.nil_append, List.cons_append, Nat.reduceAdd] at H)) | (with_reducible refine wpl rfl (ldQ (ty := 3) rfl ?_); first | (with_reducible refine (Stp.ldo rfl agg3 rfl H (by assumption) (by assumption) ?_); simp only [pS]) | (with_reducible refine (Stp.ldc rfl agg3 rfl H mR cE ?_); simp only [pS])) | (with_reducible refine wpl rfl (stQ (ty := 22) rfl ?_); first | (with_reducible refine (Stp.stc rfl size22 rfl rfl rfl rfl H uP (by first | omega | (simp; done) | (simp; omega)) ?_); clear H; intro w1 H; simp only [pS]; simp only [pE, nC, pS] at H)) | (with_reducible refine wpl rfl (ldQ (ty := 78) rfl ?_); first | (with_reducible refine (Stp.ldor rfl agg78 size78 rfl H (by assumption) sZ (by assumption) ?_); simp only [pS]) | (with_reducible refine (Stp.ldr rfl agg78 size78 rfl H mR sZ ?_); simp only [pS]) | (with_reducible refine (Stp.ldl rfl agg78 size78 rfl H mR (by simp) ?_); simp only [pS]; simp only [List.drop_succ_cons, List.drop_zero, List.take_succ_cons, List.take_zero])))
            go_roundw
            case rel =>
              have H4 := ((H.pull (r := slc 62 9 _ _ _) pU).pull (r := row 78 g7 _) pU).sub (L' := _ :: _ :: L3) sU
              rw [HF2.out] at H4
              exact ⟨j + 1, told ++ [(V, h)], tl + 1, a46, c46, by omega, by go_num, HTL2, by omega, HTD2, H4⟩
            case measure => simp [intOf]; omega
          · have hki : (V.kd == 2) = false := by simpa using hkd
            have HTD2 : Hid (told = tlE (es.take (j + 1))) := Lib.hid (by rw [HTj.out, tlE_snoc, HTD.out]; simp [hkd])
            clear hkd
            go_wp2_with (first | (with_reducible refine wpl rfl (dQ 1 rfl ?_); with_reducible refine (Stp.box 1 rfl rfl rfl H ?_); clear H; intro g1 w1 H; simp only [pS]; simp only [pE, nC, pS] at H) | (with_reducible refine wpl rfl (ldQ (ty := 22) rfl ?_); first | (with_reducible refine (Stp.ldo rfl agg22 rfl H (by assumption) (by assumption) ?_); simp only [pS]) | (with_reducible refine (Stp.ldc rfl agg22 rfl H mR cE ?_); simp only [pS])) | (with_reducible refine wpl rfl (ldQ (ty := 62) rfl ?_); first | (with_reducible refine (Stp.ldor rfl agg62 size62 rfl H (by assumption) sZ (by assumption) ?_); simp only [pS]) | (with_reducible refine (Stp.ldr rfl agg62 size62 rfl H mR sZ ?_); simp only [pS]) | (with_reducible refine (Stp.ldl rfl agg62 size62 rfl H mR (by simp) ?_); simp only [pS]; simp only [List.drop_succ_cons, List.drop_zero, List.take_succ_cons, List.take_zero])) | (with_reducible refine wpl rfl (dQ 9 rfl ?_); with_reducible refine (Stp.alloc 9 rfl rfl zero62 H ?_); clear H; intro g9 w1 H; simp only [pS]; simp only [nC] at H) | (with_reducible refine wpl rfl (stQ (ty := 62) rfl ?_); first | (with_reducible refine (Stp.str rfl size62 rfl rfl (by first | rfl | (simp [Value.oneCell']; done) | assumption) H uP sZ sZ ?_); clear H; intro w1 H; simp only [pS]) | (with_reducible refine (Stp.stl rfl size62 rfl rfl rfl rfl H uP (by simp) ?_); clear H; intro w1 H; simp only [pS]; simp only [List.drop_succ_cons, List.drop_zero, List.take_succ_cons, List.take_zero, List.nil_append, List.cons_append, Nat.reduceAdd] at H)) | (with_reducible refine wpl rfl (ldQ (ty := 3) rfl ?_); first | (with_reducible refine (Stp.ldo rfl agg3 rfl H (by assumption) (by assumption) ?_); simp only [pS]) | (with_reducible refine (Stp.ldc rfl agg3 rfl H mR cE ?_); simp only [pS])) | (with_reducible refine wpl rfl (stQ (ty := 22) rfl ?_); first | (with_reducible refine (Stp.stc rfl size22 rfl rfl rfl rfl H uP (by first | omega | (simp; done) | (simp; omega)) ?_); clear H; intro w1 H; simp only [pS]; simp only [pE, nC, pS] at H)) | (with_reducible refine wpl rfl (ldQ (ty := 78) rfl ?_); first | (with_reducible refine (Stp.ldor rfl agg78 size78 rfl H (by assumption) sZ (by assumption) ?_); simp only [pS]) | (with_reducible refine (Stp.ldr rfl agg78 size78 rfl H mR sZ ?_); simp only [pS]) | (with_reducible refine (Stp.ldl rfl agg78 size78 rfl H mR (by simp) ?_); simp only [pS]; simp only [List.drop_succ_cons, List.drop_zero, List.take_succ_cons, List.take_zero])))
            go_roundw
            case rel => exact ⟨j + 1, told, tl, ta, tc, by omega, by go_num, HTL1, by omega, HTD2, ((H.pull (r := slc 62 9 _ _ _) pU).pull (r := row 78 g7 _) pU).sub sU⟩
            case measure => simp [intOf]; omega
        · obtain rfl : le = j := by omega
          have HTE : Hid (told = tlE es) := Lib.hid (by rw [HTD.out, List.take_of_length_le (by rw [HLE.out]; omega)])
          have htl1 : told.length ≤ 1000000 := by rw [HTL1.out]; omega
          subst HL3
          go_wp2_with (first | (with_reducible refine wpl rfl (dQ 51 rfl ?_); with_reducible refine (Stp.bsl (e := 78) (cs := #[.int .u16 (x.p.1 : Int), .int .u32 (x.p.2 : Int), .int .u64 (V0.x.id : Int), .slice h0.ma V0.x.mem.length h0.mc, .slice h0.la V0.x.lvs.length h0.lc, .slice h0.da V0.x.ldr.length h0.dc, .slice (some ⟨bi, oi, none⟩) le ic, .slice ta tl tc, .bool ff]) 51 rfl rfl (fun W => by kernel_rfl) H ?_); clear H; intro g51 w1 H; simp only [pS]) | (with_reducible refine wpl rfl (dQ 52 rfl ?_); with_reducible refine (Stp.app 52 rfl rfl Try.underlying70 info78 rfl (by decide) rfl rfl H (fun _ => uP) (show (#[.int .u16 (x.p.1 : Int), .int .u32 (x.p.2 : Int), .int .u64 (V0.x.id : Int), .slice h0.ma V0.x.mem.length h0.mc, .slice h0.la V0.x.lvs.length h0.lc, .slice h0.da V0.x.ldr.length h0.dc, .slice (some ⟨bi, oi, none⟩) le ic, .slice ta tl tc, .bool ff].toList).length = 1 * 9 from rfl) (newN (H.gr 78)) (syc_one V0 h0 x.p _ le ic ta tl tc ff) (by unfold maxLen; omega) (by omega) ?_); clear H; intro a52 c52 w1 H; simp only [pS]) | (with_reducible refine wpl rfl (dQ 1 rfl ?_); with_reducible refine (Stp.box 1 rfl rfl rfl H ?_); clear H; intro g1 w1 H; simp only [pS]; simp only [pE, nC, pS] at H) | (with_reducible refine wpl rfl (ldQ (ty := 22) rfl ?_); first | (with_reducible refine (Stp.ldo rfl agg22 rfl H (by assumption) (by assumption) ?_); simp only [pS]) | (with_reducible refine (Stp.ldc rfl agg22 rfl H mR cE ?_); simp only [pS])) | (with_reducible refine wpl rfl (ldQ (ty := 62) rfl ?_); first | (with_reducible refine (Stp.ldor rfl agg62 size62 rfl H (by assumption) sZ (by assumption) ?_); simp only [pS]) | (with_reducible refine (Stp.ldr rfl agg62 size62 rfl H mR sZ ?_); simp only [pS]) | (with_reducible refine (Stp.ldl rfl agg62 size62 rfl H mR (by simp) ?_); simp only [pS]; simp only [List.drop_succ_cons, List.drop_zero, List.take_succ_cons, List.take_zero])) | (with_reducible refine wpl rfl (dQ 9 rfl ?_); with_reducible refine (Stp.alloc 9 rfl rfl zero62 H ?_); clear H; intro g9 w1 H; simp only [pS]; simp only [nC] at H) | (with_reducible refine wpl rfl (stQ (ty := 62) rfl ?_); first | (with_reducible refine (Stp.str rfl size62 rfl rfl (by first | rfl | (simp [Value.oneCell']; done) | assumption) H uP sZ sZ ?_); clear H; intro w1 H; simp only [pS]) | (with_reducible refine (Stp.stl rfl size62 rfl rfl rfl rfl H uP (by simp) ?_); clear H; intro w1 H; simp only [pS]; simp only [List.drop_succ_cons, List.drop_zero, List.take_succ_cons, List.take_zero, List.nil_append, List.cons_append, Nat.reduceAdd] at H)) | (with_reducible refine wpl rfl (ldQ (ty := 3) rfl ?_); first | (with_reducible refine (Stp.ldo rfl agg3 rfl H (by assumption) (by assumption) ?_); simp only [pS]) | (with_reducible refine (Stp.ldc rfl agg3 rfl H mR cE ?_); simp only [pS])) | (with_reducible refine wpl rfl (stQ (ty := 22) rfl ?_); first | (with_reducible refine (Stp.stc rfl size22 rfl rfl rfl rfl H uP (by first | omega | (simp; done) | (simp; omega)) ?_); clear H; intro w1 H; simp only [pS]; simp only [pE, nC, pS] at H)) | (with_reducible refine wpl rfl (ldQ (ty := 78) rfl ?_); first | (with_reducible refine (Stp.ldor rfl agg78 size78 rfl H (by assumption) sZ (by assumption) ?_); simp only [pS]) | (with_reducible refine (Stp.ldr rfl agg78 size78 rfl H mR sZ ?_); simp only [pS]) | (with_reducible refine (Stp.ldl rfl agg78 size78 rfl H mR (by simp) ?_); simp only [pS]; simp only [List.drop_succ_cons, List.drop_zero, List.take_succ_cons, List.take_zero])))
          go_roundw
          case rel =>
            have hSL := HSL.out
            have HSD2 : Hid ((ss ++ [(⟨x.p, (V0, h0), es, some ⟨bi, oi, none⟩, ic, told, ta, tc, ff⟩ : Sy)]).map syd = lifeN x.p n 0 ((I.take (k + 1)).map (·.es))) := Lib.hid (by
              rw [HTk.out, List.map_append, List.map_append, HSD.out]
              show _ = lifeN x.p n 0 (_ ++ [es])
              rw [lifeN_snoc]
              congr 1
              have e2 : 0 + ((I.take k).map (·.es)).length + 1 = k + 1 := by rw [List.length_map, List.length_take, HN.out, Nat.min_eq_left (by omega)]; omega
              rw [e2, HFF0.out, ← HTE.out]
              show [_] = [_]
              rw [show es.headD eh0 = (V0, h0) by rw [HEE.out]; rfl]
              rfl)
            have HL' := HLE.out
            have HT' := HTL1.out
            subst HL' HT'
            obtain ⟨G', H2⟩ := ((H.pull (r := rdT G2 ss) pU).pull (r := slc 62 9 _ _ _) pU).shutT ⟨x.p, (V0, h0), es, some ⟨bi, oi, none⟩, ic, told, ta, tc, ff⟩ htl1
            have H4 := (H2.pull (r := slc 78 9 _ _ _) pU).sub (L' := _ :: _ :: []) sU
            have hF : fv syc ss ++ (#[.int .u16 (x.p.1 : Int), .int .u32 (x.p.2 : Int), .int .u64 (V0.x.id : Int), .slice h0.ma V0.x.mem.length h0.mc, .slice h0.la V0.x.lvs.length h0.lc, .slice h0.da V0.x.ldr.length h0.dc, .slice (some ⟨bi, oi, none⟩) es.length ic, .slice ta told.length tc, .bool ff] : Array Value).toList = fv syc (ss ++ [⟨x.p, (V0, h0), es, some ⟨bi, oi, none⟩, ic, told, ta, tc, ff⟩]) := by rw [fv_app, fv_one]; rfl
            rw [hF] at H4
            refine ⟨k + 1, ss ++ [⟨x.p, (V0, h0), es, some ⟨bi, oi, none⟩, ic, told, ta, tc, ff⟩], a52, c52, G', by omega, by go_num, rfl, Lib.hid (by rw [List.length_append, hSL]; rfl), HSD2, Lib.hid (fun s hs => ?_), H4⟩
            rcases List.mem_append.1 hs with h1 | h1
            · exact HSI.out s h1
            · obtain rfl := List.mem_singleton.1 h1; exact HIN.out
          case measure => simp [intOf]; omega
    · obtain rfl : k = n := by omega
      have HT : Hid ((I.take k).map (·.es) = staysH x.l) := Lib.hid (by rw [List.take_of_length_le (by rw [HN.out]; omega), HI.out])
      have HK : Hid (lifeN x.p k 0 (staysH x.l) = lifeH x.p x.l) := Lib.hid (by unfold lifeH; rw [← HT.out, List.length_map, List.length_take, HN.out, Nat.min_self])
      go_wp2_with (first | (with_reducible refine wpl rfl (dQ 1 rfl ?_); with_reducible refine (Stp.box 1 rfl rfl rfl H ?_); clear H; intro g1 w1 H; simp only [pS]; simp only [pE, nC, pS] at H) | (with_reducible refine wpl rfl (ldQ (ty := 22) rfl ?_); first | (with_reducible refine (Stp.ldo rfl agg22 rfl H (by assumption) (by assumption) ?_); simp only [pS]) | (with_reducible refine (Stp.ldc rfl agg22 rfl H mR cE ?_); simp only [pS])) | (with_reducible refine wpl rfl (ldQ (ty := 62) rfl ?_); first | (with_reducible refine (Stp.ldor rfl agg62 size62 rfl H (by assumption) sZ (by assumption) ?_); simp only [pS]) | (with_reducible refine (Stp.ldr rfl agg62 size62 rfl H mR sZ ?_); simp only [pS]) | (with_reducible refine (Stp.ldl rfl agg62 size62 rfl H mR (by simp) ?_); simp only [pS]; simp only [List.drop_succ_cons, List.drop_zero, List.take_succ_cons, List.take_zero])) | (with_reducible refine wpl rfl (dQ 9 rfl ?_); with_reducible refine (Stp.alloc 9 rfl rfl zero62 H ?_); clear H; intro g9 w1 H; simp only [pS]; simp only [nC] at H) | (with_reducible refine wpl rfl (stQ (ty := 62) rfl ?_); first | (with_reducible refine (Stp.str rfl size62 rfl rfl (by first | rfl | (simp [Value.oneCell']; done) | assumption) H uP sZ sZ ?_); clear H; intro w1 H; simp only [pS]) | (with_reducible refine (Stp.stl rfl size62 rfl rfl rfl rfl H uP (by simp) ?_); clear H; intro w1 H; simp only [pS]; simp only [List.drop_succ_cons, List.drop_zero, List.take_succ_cons, List.take_zero, List.nil_append, List.cons_append, Nat.reduceAdd] at H)) | (with_reducible refine wpl rfl (ldQ (ty := 3) rfl ?_); first | (with_reducible refine (Stp.ldo rfl agg3 rfl H (by assumption) (by assumption) ?_); simp only [pS]) | (with_reducible refine (Stp.ldc rfl agg3 rfl H mR cE ?_); simp only [pS])) | (with_reducible refine wpl rfl (stQ (ty := 22) rfl ?_); first | (with_reducible refine (Stp.stc rfl size22 rfl rfl rfl rfl H uP (by first | omega | (simp; done) | (simp; omega)) ?_); clear H; intro w1 H; simp only [pS]; simp only [pE, nC, pS] at H)) | (with_reducible refine wpl rfl (ldQ (ty := 78) rfl ?_); first | (with_reducible refine (Stp.ldor rfl agg78 size78 rfl H (by assumption) sZ (by assumption) ?_); simp only [pS]) | (with_reducible refine (Stp.ldr rfl agg78 size78 rfl H mR sZ ?_); simp only [pS]) | (with_reducible refine (Stp.ldl rfl agg78 size78 rfl H mR (by simp) ?_); simp only [pS]; simp only [List.drop_succ_cons, List.drop_zero, List.take_succ_cons, List.take_zero])))
      go_ret
      exact ⟨_, rfl, St.outT HSL.out (by omega) _ (by rw [HSD.out, HT.out, HK.out]) (fun g hg => hGf g hg) hbS.size HSI.out H, hbS.trans (H.below.mono hbS.size)⟩
end Go.Proofs.Ytbepaafgcbgmfaa
