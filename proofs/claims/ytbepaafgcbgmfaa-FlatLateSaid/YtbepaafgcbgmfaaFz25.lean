/- Layer 29's reference: the stays of all who live (Stays): the walk; the bounds stand in it. -/
import Derived.Test.YtbepaafgcbgmfaaFz24
namespace Go.Proofs.Ytbepaafgcbgmfaa
open Go.ChangeShapes Go.WideShapes Go.ChangeAt Go.RowKit Go.Maps Go.Deep
set_option linter.unusedVariables false
set_option linter.unusedSimpArgs false
set_option linter.unusedSectionVars false
set_option maxRecDepth 100000
set_option maxHeartbeats 8000000
def RsG (G : Nat → Prop) (w : World) (v : Value) (R : List Ry) : Prop := SlG G w 11 R.length v (elR R) ∧ ∀ r ∈ R, InR G w ⟨r.y.all, r.y.aa, r.y.ac⟩ ∧ InR G w ⟨r.y.told, r.y.ta, r.y.tc⟩
theorem RsG.loc {G : Nat → Prop} {w w' : World} {v : Value} {R : List Ry} (hg : ∀ g, G g → w'.heap[g]? = w.heap[g]?) (h : RsG G w v R) : RsG G w' v R := ⟨h.1.loc hg, fun r hr => ⟨(h.2 r hr).1.loc hg, (h.2 r hr).2.loc hg⟩⟩
theorem RsG.grow {G : Nat → Prop} {w w' : World} {v : Value} {R : List Ry} (h : RsG G w v R) (hb : Below w.heap.size w w') : RsG G w' v R := ⟨h.1.grow hb, fun r hr => ⟨(h.2 r hr).1.grow hb, (h.2 r hr).2.grow hb⟩⟩
def rsr (G : Nat → Prop) (v : Value) (R : List Ry) : Res := (G, fun w => RsG G w v R)
theorem rsr_sound {G : Nat → Prop} {w : World} {v : Value} {R : List Ry} {n : Nat} (hG : ∀ g, G g → n ≤ g ∧ g < w.heap.size) (h : RsG G w v R) : Sound (rsr G v R) w :=
  ⟨h, fun g hg => (hG g hg).2, fun _ _ hb h1 => h1.loc hb⟩
def RsP (w0 w : World) (v : Value) (D : List Sq) : Prop := ∃ (R : List Ry) (oa : Option Addr) (oc : Nat) (G : Nat → Prop), v = .slice oa R.length oc ∧ R.map ryd = D ∧ (∀ g, G g → w0.heap.size ≤ g ∧ g < w.heap.size) ∧ RsG G w v R
theorem St.outR {w w' : World} {R : List Ry} {G : Nat → Prop} {oa : Option Addr} {oc n : Nat} (hn : R.length = n) (hl : n ≤ 100000000) (D : List Sq) (hD : R.map ryd = D) (H : St w.heap.size w w' (slc 43 11 (.slice oa n oc) n (fv ryc R) :: rdR G R :: [])) : RsP w w' (.slice oa n oc) D := by
  subst hn
  have h1 := H.sound _ List.mem_cons_self
  have h2 := H.sound _ (List.mem_cons_of_mem _ List.mem_cons_self)
  have b1 := H.base _ List.mem_cons_self
  have b2 := H.base _ (List.mem_cons_of_mem _ List.mem_cons_self)
  refine ⟨R, oa, oc, fun g => (Value.slice oa R.length oc).ownBlock = some g ∨ G g, rfl, hD, fun g hg => ?_, ?_, fun s hs => ⟨(h2.here s hs).1.mono (fun g hg => .inr hg), (h2.here s hs).2.mono (fun g hg => .inr hg)⟩⟩
  · rcases hg with hg | hg
    · exact ⟨b1 g hg, h1.lt g hg⟩
    · exact ⟨b2 g hg, h2.lt g hg⟩
  · refine (SlG.of_own h1.here (fun i hi j hj => ?_) (by unfold maxLen; omega)).mono (fun g hg => .inl hg)
    rw [fv_get ryc_size R i R[i] (List.getElem?_eq_getElem hi) j hj, elR_at hi]
attribute [local irreducible] staysH tlE
theorem stays29_ok (ls : List Lv) (la : Option Addr) (lc n : Nat) (hn : ls.length = n) (hnb : n ≤ 1000) (w : World) (hl : Sl w 3 n (.slice la n lc) (elL ls)) (hlw : ∀ x ∈ ls, LvO w x) (hle : ∀ x ∈ ls, x.l.length ≤ 1000) :
    Calls Try.prog 12 #[.slice la n lc] w (Ret fun v w' => RsP w w' v (all4 ls) ∧ Below w.heap.size w w') := by
  have H := St.init w
  have HN := Lib.hid hn
  have HLW := Lib.hid hlw
  have HLE := Lib.hid hle
  clear hn hlw hle
  go_enter Try.func12, Try.ntmps12
  go_wp2_with (first | (with_reducible refine wpl rfl (ldQ (ty := 22) rfl ?_); first | (with_reducible refine (Stp.ldo rfl agg22 rfl H (by assumption) (by assumption) ?_); simp only [pS]) | (with_reducible refine (Stp.ldc rfl agg22 rfl H mR cE ?_); simp only [pS])) | (with_reducible refine wpl rfl (ldQ (ty := 62) rfl ?_); first | (with_reducible refine (Stp.ldor rfl agg62 size62 rfl H (by assumption) sZ (by assumption) ?_); simp only [pS]) | (with_reducible refine (Stp.ldr rfl agg62 size62 rfl H mR sZ ?_); simp only [pS]) | (with_reducible refine (Stp.ldl rfl agg62 size62 rfl H mR (by simp) ?_); simp only [pS]; simp only [List.drop_succ_cons, List.drop_zero, List.take_succ_cons, List.take_zero])) | (with_reducible refine wpl rfl (dQ 7 rfl ?_); with_reducible refine (Stp.alloc 7 rfl rfl zero62 H ?_); clear H; intro g7 w1 H; simp only [pS]; simp only [nC] at H) | (with_reducible refine wpl rfl (stQ (ty := 62) rfl ?_); first | (with_reducible refine (Stp.str rfl size62 rfl rfl (by first | rfl | (simp [Value.oneCell']; done) | assumption) H uP sZ sZ ?_); clear H; intro w1 H; simp only [pS]) | (with_reducible refine (Stp.stl rfl size62 rfl rfl rfl rfl H uP (by simp) ?_); clear H; intro w1 H; simp only [pS]; simp only [List.drop_succ_cons, List.drop_zero, List.take_succ_cons, List.take_zero, List.nil_append, List.cons_append, Nat.reduceAdd] at H)) | (with_reducible refine wpl rfl (ldQ (ty := 3) rfl ?_); first | (with_reducible refine (Stp.ldo rfl agg3 rfl H (by assumption) (by assumption) ?_); simp only [pS]) | (with_reducible refine (Stp.ldc rfl agg3 rfl H mR cE ?_); simp only [pS])) | (with_reducible refine wpl rfl (stQ (ty := 4) rfl ?_); first | (with_reducible refine (Stp.stc rfl size4 rfl rfl rfl rfl H uP (by first | omega | (simp; done) | (simp; omega)) ?_); clear H; intro w1 H; simp only [pS]; simp only [pE, nC, pS] at H)) | (with_reducible refine wpl rfl (ldQ (ty := 37) rfl ?_); first | (with_reducible refine (Stp.ldo rfl agg37 rfl H (by assumption) (by assumption) ?_); simp only [pS]) | (with_reducible refine (Stp.ldc rfl agg37 rfl H mR cE ?_); simp only [pS])) | (with_reducible refine wpl rfl (stQ (ty := 37) rfl ?_); first | (with_reducible refine (Stp.stc rfl size37 rfl rfl rfl rfl H uP (by first | omega | (simp; done) | (simp; omega)) ?_); clear H; intro w1 H; simp only [pS]; simp only [pE, nC, pS] at H)) | (with_reducible refine wpl rfl (ldQ (ty := 43) rfl ?_); first | (with_reducible refine (Stp.ldor rfl agg43 size43 rfl H (by assumption) sZ (by assumption) ?_); simp only [pS]) | (with_reducible refine (Stp.ldr rfl agg43 size43 rfl H mR sZ ?_); simp only [pS]) | (with_reducible refine (Stp.ldl rfl agg43 size43 rfl H mR (by simp) ?_); simp only [pS]; simp only [List.drop_succ_cons, List.drop_zero, List.take_succ_cons, List.take_zero])))
  have H0 := (H.nil 43 11).rdR0.swap
  clear H
  go_loopw [3, 4] (fun o i wr => ∃ (q : Nat) (R : List Ry) (c0 : Nat) (oa : Option Addr) (oc : Nat) (G : Nat → Prop), q ≤ n ∧ i = .int .i64 q ∧ o = .slice oa c0 oc ∧ Hid (R.length = c0) ∧ Hid (R.map ryd = all4 (ls.take q)) ∧ c0 ≤ q * 1000 ∧ St w.heap.size w wr [slc 43 11 (.slice oa c0 oc) c0 (fv ryc R), rdR G R]) (fun _ i _ => n - (intOf i).toNat)
  case atStart => exact ⟨0, [], 0, none, 0, fun _ => False, Nat.zero_le _, rfl, rfl, Lib.hid rfl, Lib.hid (by rw [List.take_zero]; rfl), by omega, H0⟩
  case round =>
    clear H0
    obtain ⟨q, R, c0, oa, oc, G, hq, rfl, rfl, HRL, HRD, hc0, H⟩ := hrel
    by_cases hlt : q < n
    · have hl1 : q < ls.length := by rw [HN.out]; exact hlt
      obtain ⟨b1, o1, rfl, hb1⟩ := hl.addr (by omega)
      have hc1 := hl.cell hlt
      rw [elL_at hl1] at hc1
      have hme := List.getElem_mem hl1
      have HTk := Lib.hid (List.take_succ_eq_append_getElem hl1)
      obtain ⟨x, hx⟩ : ∃ x, ls[q] = x := ⟨_, rfl⟩
      rw [hx] at hc1 hme HTk
      have HXW := Lib.hid (HLW.out x hme)
      have qli : (q : Int) < (n : Int) := by omega
      obtain ⟨L, hL⟩ : ∃ L, x.l.length = L := ⟨_, rfl⟩
      have HL := Lib.hid hL
      have hLb : L ≤ 1000 := by rw [← hL]; exact HLE.out x hme
      have hxl := HXW.out.l
      have hcl : w.cell? ⟨b1, o1 + q * 3 + 2, none⟩ = some (.slice x.a L x.c) := by have := hc1 2 (by omega); rw [hL] at this; exact this
      have hcp : ∀ j, j < 2 → w.cell? ⟨b1, o1 + q * 3 + j, none⟩ = (#[.int .u16 (x.p.1 : Int), .int .u32 (x.p.2 : Int)] : Array Value)[j]? := fun j hj => by
        rw [hc1 j (by omega)]
        have hj' : j = 0 ∨ j = 1 := by omega
        rcases hj' with rfl | rfl <;> rfl
      rw [hL] at hxl
      obtain ⟨xa, hxa0⟩ : ∃ a, x.a = a := ⟨_, rfl⟩
      rw [hxa0] at hxl hcl
      clear hxa0
      clear hc1 hme hx hl1 hL
      go_wp2_with (first | (with_reducible refine wpl rfl (ldQ (ty := 22) rfl ?_); first | (with_reducible refine (Stp.ldo rfl agg22 rfl H (by assumption) (by assumption) ?_); simp only [pS]) | (with_reducible refine (Stp.ldc rfl agg22 rfl H mR cE ?_); simp only [pS])) | (with_reducible refine wpl rfl (ldQ (ty := 62) rfl ?_); first | (with_reducible refine (Stp.ldor rfl agg62 size62 rfl H (by assumption) sZ (by assumption) ?_); simp only [pS]) | (with_reducible refine (Stp.ldr rfl agg62 size62 rfl H mR sZ ?_); simp only [pS]) | (with_reducible refine (Stp.ldl rfl agg62 size62 rfl H mR (by simp) ?_); simp only [pS]; simp only [List.drop_succ_cons, List.drop_zero, List.take_succ_cons, List.take_zero])) | (with_reducible refine wpl rfl (dQ 7 rfl ?_); with_reducible refine (Stp.alloc 7 rfl rfl zero62 H ?_); clear H; intro g7 w1 H; simp only [pS]; simp only [nC] at H) | (with_reducible refine wpl rfl (stQ (ty := 62) rfl ?_); first | (with_reducible refine (Stp.str rfl size62 rfl rfl (by first | rfl | (simp [Value.oneCell']; done) | assumption) H uP sZ sZ ?_); clear H; intro w1 H; simp only [pS]) | (with_reducible refine (Stp.stl rfl size62 rfl rfl rfl rfl H uP (by simp) ?_); clear H; intro w1 H; simp only [pS]; simp only [List.drop_succ_cons, List.drop_zero, List.take_succ_cons, List.take_zero, List.nil_append, List.cons_append, Nat.reduceAdd] at H)) | (with_reducible refine wpl rfl (ldQ (ty := 3) rfl ?_); first | (with_reducible refine (Stp.ldo rfl agg3 rfl H (by assumption) (by assumption) ?_); simp only [pS]) | (with_reducible refine (Stp.ldc rfl agg3 rfl H mR cE ?_); simp only [pS])) | (with_reducible refine wpl rfl (stQ (ty := 4) rfl ?_); first | (with_reducible refine (Stp.stc rfl size4 rfl rfl rfl rfl H uP (by first | omega | (simp; done) | (simp; omega)) ?_); clear H; intro w1 H; simp only [pS]; simp only [pE, nC, pS] at H)) | (with_reducible refine wpl rfl (ldQ (ty := 37) rfl ?_); first | (with_reducible refine (Stp.ldo rfl agg37 rfl H (by assumption) (by assumption) ?_); simp only [pS]) | (with_reducible refine (Stp.ldc rfl agg37 rfl H mR cE ?_); simp only [pS])) | (with_reducible refine wpl rfl (stQ (ty := 37) rfl ?_); first | (with_reducible refine (Stp.stc rfl size37 rfl rfl rfl rfl H uP (by first | omega | (simp; done) | (simp; omega)) ?_); clear H; intro w1 H; simp only [pS]; simp only [pE, nC, pS] at H)) | (with_reducible refine wpl rfl (ldQ (ty := 43) rfl ?_); first | (with_reducible refine (Stp.ldor rfl agg43 size43 rfl H (by assumption) sZ (by assumption) ?_); simp only [pS]) | (with_reducible refine (Stp.ldr rfl agg43 size43 rfl H mR sZ ?_); simp only [pS]) | (with_reducible refine (Stp.ldl rfl agg43 size43 rfl H mR (by simp) ?_); simp only [pS]; simp only [List.drop_succ_cons, List.drop_zero, List.take_succ_cons, List.take_zero])))
      have H0 := H
      clear H
      go_loopw [3, 5, 6] (fun o a i wr => ∃ k : Nat, k ≤ L ∧ i = .int .i64 k ∧ ((Hid (staysH (x.l.take k) = []) ∧ a = .int .i64 (-1) ∧ o = .slice oa c0 oc ∧ St w.heap.size w wr [slc 43 11 (.slice oa c0 oc) c0 (fv ryc R), rdR G R]) ∨ (∃ (R1 : List Ry) (m : Nat) (V0 : Ev) (h0 : Hd) (all : List Eh) (aa : Option Addr) (ac le : Nat) (told : List Eh) (ta : Option Addr) (tc tl : Nat) (f1 f2 : Bool) (n3 : Nat) (oa1 : Option Addr) (oc1 : Nat) (G1 : Nat → Prop), Hid (R1.length = m) ∧ Hid (all.length = le) ∧ Hid (told.length = tl) ∧ a = .int .i64 m ∧ o = .slice oa1 (m + 1) oc1 ∧ le ≤ k ∧ tl ≤ k ∧ m + 1 ≤ c0 + k ∧ Hid (Op4 (all4 (ls.take q)) x.p (x.l.take k) R1 (V0, h0) all told) ∧ St w.heap.size w wr [slc 43 11 (.slice oa1 (m + 1) oc1) (m + 1) (fv ryc (R1 ++ [(⟨⟨x.p, (V0, h0), all, aa, ac, told, ta, tc, f1⟩, f2, n3⟩ : Ry)])), slc 62 9 (.slice aa le ac) le (fv evc all), slc 62 9 (.slice ta tl tc) tl (fv evc told), rdR G1 R1]))) (fun _ _ i _ => L - (intOf i).toNat)
      case atStart => exact ⟨0, Nat.zero_le _, rfl, .inl ⟨Lib.hid (by rw [List.take_zero]; with_unfolding_all rfl), rfl, rfl, H0⟩⟩
      case round =>
        clear H0
        obtain ⟨k, hk, rfl, hrel⟩ := hrel
        by_cases hlk : k < L
        · have hl2 : k < x.l.length := by rw [HL.out]; exact hlk
          obtain ⟨b2, o2, rfl, hb2⟩ := hxl.addr (by omega)
          have hc2 := hxl.cell hlk
          rw [elE_at hl2] at hc2
          have HTj := Lib.hid (List.take_succ_eq_append_getElem hl2)
          obtain ⟨⟨V, h⟩, hv⟩ : ∃ v, x.l[k] = v := ⟨_, rfl⟩
          rw [hv] at hc2 HTj
          simp only at hc2
          have kli : (k : Int) < (L : Int) := by omega
          have hc3 : ∀ j, j < 9 → w.cell? ⟨b2, o2 + k * 9 + j, none⟩ = (#[.int .i64 V.kd, .int .u64 (V.x.id : Int), .slice h.ma V.x.mem.length h.mc, .slice h.la V.x.lvs.length h.lc, .slice h.da V.x.ldr.length h.dc, .int .u16 (V.p.1 : Int), .int .u32 (V.p.2 : Int), .int .u64 (V.n : Int), .slice h.ba V.data.length h.bc] : Array Value)[j]? := hc2
          clear hc2 hv hl2
          by_cases hkd : V.kd = 1
          · have hki : (V.kd == 1) = true := by simpa using hkd
            have HK := Lib.hid hkd
            clear hkd
            rcases hrel with ⟨HS, rfl, rfl, H⟩ | ⟨R1, m, V0, h0, all, aa, ac, le, told, ta, tc, tl, f1, f2, n3, oa1, oc1, G1, HM, HLA, HLT, rfl, rfl, hle, htl, hmk, HO, H⟩
            · have HO2 : Hid (Op4 (all4 (ls.take q)) x.p (x.l.take (k + 1)) R (V, h) [(V, h)] []) := Lib.hid (by rw [HTj.out]; exact op4_new0 HS.out HRD.out HK.out)
              go_upto_region 11 with (first | (with_reducible refine wpl rfl (ldQ (ty := 22) rfl ?_); first | (with_reducible refine (Stp.ldo rfl agg22 rfl H (by assumption) (by assumption) ?_); simp only [pS]) | (with_reducible refine (Stp.ldc rfl agg22 rfl H mR cE ?_); simp only [pS])) | (with_reducible refine wpl rfl (ldQ (ty := 62) rfl ?_); first | (with_reducible refine (Stp.ldor rfl agg62 size62 rfl H (by assumption) sZ (by assumption) ?_); simp only [pS]) | (with_reducible refine (Stp.ldr rfl agg62 size62 rfl H mR sZ ?_); simp only [pS]) | (with_reducible refine (Stp.ldl rfl agg62 size62 rfl H mR (by simp) ?_); simp only [pS]; simp only [List.drop_succ_cons, List.drop_zero, List.take_succ_cons, List.take_zero])) | (with_reducible refine wpl rfl (dQ 7 rfl ?_); with_reducible refine (Stp.alloc 7 rfl rfl zero62 H ?_); clear H; intro g7 w1 H; simp only [pS]; simp only [nC] at H) | (with_reducible refine wpl rfl (stQ (ty := 62) rfl ?_); first | (with_reducible refine (Stp.str rfl size62 rfl rfl (by first | rfl | (simp [Value.oneCell']; done) | assumption) H uP sZ sZ ?_); clear H; intro w1 H; simp only [pS]) | (with_reducible refine (Stp.stl rfl size62 rfl rfl rfl rfl H uP (by simp) ?_); clear H; intro w1 H; simp only [pS]; simp only [List.drop_succ_cons, List.drop_zero, List.take_succ_cons, List.take_zero, List.nil_append, List.cons_append, Nat.reduceAdd] at H)) | (with_reducible refine wpl rfl (ldQ (ty := 3) rfl ?_); first | (with_reducible refine (Stp.ldo rfl agg3 rfl H (by assumption) (by assumption) ?_); simp only [pS]) | (with_reducible refine (Stp.ldc rfl agg3 rfl H mR cE ?_); simp only [pS])) | (with_reducible refine wpl rfl (stQ (ty := 4) rfl ?_); first | (with_reducible refine (Stp.stc rfl size4 rfl rfl rfl rfl H uP (by first | omega | (simp; done) | (simp; omega)) ?_); clear H; intro w1 H; simp only [pS]; simp only [pE, nC, pS] at H)) | (with_reducible refine wpl rfl (ldQ (ty := 37) rfl ?_); first | (with_reducible refine (Stp.ldo rfl agg37 rfl H (by assumption) (by assumption) ?_); simp only [pS]) | (with_reducible refine (Stp.ldc rfl agg37 rfl H mR cE ?_); simp only [pS])) | (with_reducible refine wpl rfl (stQ (ty := 37) rfl ?_); first | (with_reducible refine (Stp.stc rfl size37 rfl rfl rfl rfl H uP (by first | omega | (simp; done) | (simp; omega)) ?_); clear H; intro w1 H; simp only [pS]; simp only [pE, nC, pS] at H)) | (with_reducible refine wpl rfl (ldQ (ty := 43) rfl ?_); first | (with_reducible refine (Stp.ldor rfl agg43 size43 rfl H (by assumption) sZ (by assumption) ?_); simp only [pS]) | (with_reducible refine (Stp.ldr rfl agg43 size43 rfl H mR sZ ?_); simp only [pS]) | (with_reducible refine (Stp.ldl rfl agg43 size43 rfl H mR (by simp) ?_); simp only [pS]; simp only [List.drop_succ_cons, List.drop_zero, List.take_succ_cons, List.take_zero])))
              go_cut [8] from 15 to 95 (fun s8 w' => ∃ g8 g44, s8 = .pointer (some ⟨g8, 0, none⟩) ∧ St w.heap.size w w' (row 43 g8 #[.int .u16 (x.p.1 : Int), .int .u32 (x.p.2 : Int), .int .u64 (V.x.id : Int), .slice h.ma V.x.mem.length h.mc, .slice h.la V.x.lvs.length h.lc, .slice h.da V.x.ldr.length h.dc, .slice (some ⟨g44, 0, none⟩) 1 1, .slice none 0 0, .bool false, .bool true, .int .u64 0] :: row 62 g44 #[.int .i64 V.kd, .int .u64 (V.x.id : Int), .slice h.ma V.x.mem.length h.mc, .slice h.la V.x.lvs.length h.lc, .slice h.da V.x.ldr.length h.dc, .int .u16 (V.p.1 : Int), .int .u32 (V.p.2 : Int), .int .u64 (V.n : Int), .slice h.ba V.data.length h.bc] :: row 62 g7 #[.int .i64 V.kd, .int .u64 (V.x.id : Int), .slice h.ma V.x.mem.length h.mc, .slice h.la V.x.lvs.length h.lc, .slice h.da V.x.ldr.length h.dc, .int .u16 (V.p.1 : Int), .int .u32 (V.p.2 : Int), .int .u64 (V.n : Int), .slice h.ba V.data.length h.bc] :: slc 43 11 (.slice oa c0 oc) c0 (fv ryc R) :: rdR G R :: []))
              case first =>
                refine rg_begin 14 rfl (S := fun W => St _ _ W (row 62 g7 #[.int .i64 V.kd, .int .u64 (V.x.id : Int), .slice h.ma V.x.mem.length h.mc, .slice h.la V.x.lvs.length h.lc, .slice h.da V.x.ldr.length h.dc, .int .u16 (V.p.1 : Int), .int .u32 (V.p.2 : Int), .int .u64 (V.n : Int), .slice h.ba V.data.length h.bc] :: [])) (by kernel_rfl) (H.drew.sub sU) ?_
                replace H := H.drew
                have HS := H
                refine rg_take (i := 0) rfl kR kR kR (Yld.move rfl rfl) (H.sub sU) ?_; simp only [pS, pE]
                refine rg_take (i := 1) rfl kR kR kR (Yld.move rfl rfl) (H.sub sU) ?_; simp only [pS, pE]
                refine rg_take (i := 2) rfl kR kR kR (Yld.o rfl) (H.sub sU) ?_; simp only [pS]
                refine rg_take (i := 3) rfl kR kR kR (Yld.o rfl) (H.sub sU) ?_; simp only [pS]
                first | (refine rg_take (i := 4) rfl kR kR kR (Yld.ldor rfl rfl agg27 size27 rfl (by assumption) sZ (by assumption)) (H.sub sU) ?_; simp only [pS]) | (refine rg_take (i := 4) rfl kR kR kR (Yld.ldr rfl rfl agg27 size27 rfl mR sZ) (H.sub sU) ?_; simp only [pS]) | (refine rg_take (i := 4) rfl kR kR kR (Yld.ldl rfl rfl agg27 size27 rfl mR (by simp)) (H.sub sU) ?_; simp only [pS]; simp only [List.drop_succ_cons, List.drop_zero, List.take_succ_cons, List.take_zero])
                refine rg_take (i := 5) rfl kR kR kR (Yld.o rfl) (H.sub sU) ?_; simp only [pS]
                first | (refine rg_take (i := 6) rfl kR kR kR (Yld.ldor rfl rfl agg41 size41 rfl (by assumption) sZ (by assumption)) (H.sub sU) ?_; simp only [pS]) | (refine rg_take (i := 6) rfl kR kR kR (Yld.ldr rfl rfl agg41 size41 rfl mR sZ) (H.sub sU) ?_; simp only [pS]) | (refine rg_take (i := 6) rfl kR kR kR (Yld.ldl rfl rfl agg41 size41 rfl mR (by simp)) (H.sub sU) ?_; simp only [pS]; simp only [List.drop_succ_cons, List.drop_zero, List.take_succ_cons, List.take_zero])
                first | (refine rg_take (i := 7) rfl kR kR kR (Yld.ldor rfl rfl agg62 size62 rfl (by assumption) sZ (by assumption)) (H.sub sU) ?_; simp only [pS]) | (refine rg_take (i := 7) rfl kR kR kR (Yld.ldr rfl rfl agg62 size62 rfl mR sZ) (H.sub sU) ?_; simp only [pS]) | (refine rg_take (i := 7) rfl kR kR kR (Yld.ldl rfl rfl agg62 size62 rfl mR (by simp)) (H.sub sU) ?_; simp only [pS]; simp only [List.drop_succ_cons, List.drop_zero, List.take_succ_cons, List.take_zero])
                refine rg_take (i := 9) rfl kR kR kR (Yld.move rfl rfl) (H.sub sU) ?_; simp only [pS, pE]
                refine rg_take (i := 10) rfl kR kR kR (Yld.o rfl) (H.sub sU) ?_; simp only [pS]
                refine rg_all (rs := [8, 12]) (by kernel_rfl) (by simp) ?_
                refine rg_cons (i := 8) rfl rfl (fun K hK => ?_) ?_
                · -- 8
                  refine Stp.wp (Stp.bsl (e := 62) (cs := #[.int .i64 V.kd, .int .u64 (V.x.id : Int), .slice h.ma V.x.mem.length h.mc, .slice h.la V.x.lvs.length h.lc, .slice h.da V.x.ldr.length h.dc, .int .u16 (V.p.1 : Int), .int .u32 (V.p.2 : Int), .int .u64 (V.n : Int), .slice h.ba V.data.length h.bc]) 44 rfl rfl (fun W => by kernel_rfl) H ?_)
                  clear H
                  intro g44 w1 H
                  clear HS
                  have HS := H
                  refine hK.out _ _ (H.sub sU) ?_
                  clear hK K
                  simp only [pS]
                  refine rg_take (i := 11) rfl kR kR kR (Yld.of (v := .agg #[.int .u16 (x.p.1 : Int), .int .u32 (x.p.2 : Int), .int .u64 (V.x.id : Int), .slice h.ma V.x.mem.length h.mc, .slice h.la V.x.lvs.length h.lc, .slice h.da V.x.ldr.length h.dc, .slice (some ⟨g44, 0, none⟩) 1 1, .slice none 0 0, .bool false, .bool true, .int .u64 0]) rfl (fun W _ => by kernel_rfl)) (H.sub sU) ?_; simp only [pS, pE]
                  refine rg_one (i := 12) (by kernel_rfl) rfl rfl (fun K hK => ?_)
                  refine Stp.wp (Stp.alloc 8 rfl rfl zero43 H ?_)
                  clear H
                  intro g8 w1 H
                  simp only [cells_agg] at H
                  clear HS
                  have HS := H
                  refine hK.out _ _ (H.sub sU) ?_
                  clear hK K
                  simp only [pS]
                  refine rg_one (i := 13) (by kernel_rfl) rfl rfl (fun K hK => ?_)
                  refine Stp.wp (Stp.str (ds := #[.int .u16 (x.p.1 : Int), .int .u32 (x.p.2 : Int), .int .u64 (V.x.id : Int), .slice h.ma V.x.mem.length h.mc, .slice h.la V.x.lvs.length h.lc, .slice h.da V.x.ldr.length h.dc, .slice (some ⟨g44, 0, none⟩) 1 1, .slice none 0 0, .bool false, .bool true, .int .u64 0]) rfl size43 rfl rfl (by simp [Value.oneCell']) H uP rfl rfl ?_)
                  clear H
                  intro w1 H
                  clear HS
                  have HS := H
                  refine hK.out _ _ (H.sub sU) ?_
                  clear hK K
                  simp only [pS]
                  refine rg_done (by kernel_rfl) ?_
                  go_wp2_with fail
                  go_meet
                  exact ⟨g8, g44, rfl, ((H.pull (r := row 62 g7 #[.int .i64 V.kd, .int .u64 (V.x.id : Int), .slice h.ma V.x.mem.length h.mc, .slice h.la V.x.lvs.length h.lc, .slice h.da V.x.ldr.length h.dc, .int .u16 (V.p.1 : Int), .int .u32 (V.p.2 : Int), .int .u64 (V.n : Int), .slice h.ba V.data.length h.bc]) pU).pull (r := row 62 g44 #[.int .i64 V.kd, .int .u64 (V.x.id : Int), .slice h.ma V.x.mem.length h.mc, .slice h.la V.x.lvs.length h.lc, .slice h.da V.x.ldr.length h.dc, .int .u16 (V.p.1 : Int), .int .u32 (V.p.2 : Int), .int .u64 (V.n : Int), .slice h.ba V.data.length h.bc]) pU).pull (r := row 43 g8 #[.int .u16 (x.p.1 : Int), .int .u32 (x.p.2 : Int), .int .u64 (V.x.id : Int), .slice h.ma V.x.mem.length h.mc, .slice h.la V.x.lvs.length h.lc, .slice h.da V.x.ldr.length h.dc, .slice (some ⟨g44, 0, none⟩) 1 1, .slice none 0 0, .bool false, .bool true, .int .u64 0]) pU⟩
                refine rg_cons (i := 12) rfl rfl (fun K hK => ?_) ?_
                · -- 12
                  refine Stp.wp (Stp.alloc 8 rfl rfl zero43 H ?_)
                  clear H
                  intro g8 w1 H
                  simp only [cells_agg] at H
                  clear HS
                  have HS := H
                  refine hK.out _ _ (H.sub sU) ?_
                  clear hK K
                  simp only [pS]
                  refine rg_one (i := 8) (by kernel_rfl) rfl rfl (fun K hK => ?_)
                  refine Stp.wp (Stp.bsl (e := 62) (cs := #[.int .i64 V.kd, .int .u64 (V.x.id : Int), .slice h.ma V.x.mem.length h.mc, .slice h.la V.x.lvs.length h.lc, .slice h.da V.x.ldr.length h.dc, .int .u16 (V.p.1 : Int), .int .u32 (V.p.2 : Int), .int .u64 (V.n : Int), .slice h.ba V.data.length h.bc]) 44 rfl rfl (fun W => by kernel_rfl) H ?_)
                  clear H
                  intro g44 w1 H
                  clear HS
                  have HS := H
                  refine hK.out _ _ (H.sub sU) ?_
                  clear hK K
                  simp only [pS]
                  refine rg_take (i := 11) rfl kR kR kR (Yld.of (v := .agg #[.int .u16 (x.p.1 : Int), .int .u32 (x.p.2 : Int), .int .u64 (V.x.id : Int), .slice h.ma V.x.mem.length h.mc, .slice h.la V.x.lvs.length h.lc, .slice h.da V.x.ldr.length h.dc, .slice (some ⟨g44, 0, none⟩) 1 1, .slice none 0 0, .bool false, .bool true, .int .u64 0]) rfl (fun W _ => by kernel_rfl)) (H.sub sU) ?_; simp only [pS, pE]
                  refine rg_one (i := 13) (by kernel_rfl) rfl rfl (fun K hK => ?_)
                  refine Stp.wp (Stp.str (ds := #[.int .u16 (x.p.1 : Int), .int .u32 (x.p.2 : Int), .int .u64 (V.x.id : Int), .slice h.ma V.x.mem.length h.mc, .slice h.la V.x.lvs.length h.lc, .slice h.da V.x.ldr.length h.dc, .slice (some ⟨g44, 0, none⟩) 1 1, .slice none 0 0, .bool false, .bool true, .int .u64 0]) rfl size43 rfl rfl (by simp [Value.oneCell']) H uP rfl rfl ?_)
                  clear H
                  intro w1 H
                  clear HS
                  have HS := H
                  refine hK.out _ _ (H.sub sU) ?_
                  clear hK K
                  simp only [pS]
                  refine rg_done (by kernel_rfl) ?_
                  go_wp2_with fail
                  go_meet
                  exact ⟨g8, g44, rfl, ((H.pull (r := row 62 g7 #[.int .i64 V.kd, .int .u64 (V.x.id : Int), .slice h.ma V.x.mem.length h.mc, .slice h.la V.x.lvs.length h.lc, .slice h.da V.x.ldr.length h.dc, .int .u16 (V.p.1 : Int), .int .u32 (V.p.2 : Int), .int .u64 (V.n : Int), .slice h.ba V.data.length h.bc]) pU).pull (r := row 62 g44 #[.int .i64 V.kd, .int .u64 (V.x.id : Int), .slice h.ma V.x.mem.length h.mc, .slice h.la V.x.lvs.length h.lc, .slice h.da V.x.ldr.length h.dc, .int .u16 (V.p.1 : Int), .int .u32 (V.p.2 : Int), .int .u64 (V.n : Int), .slice h.ba V.data.length h.bc]) pU).pull (r := row 43 g8 #[.int .u16 (x.p.1 : Int), .int .u32 (x.p.2 : Int), .int .u64 (V.x.id : Int), .slice h.ma V.x.mem.length h.mc, .slice h.la V.x.lvs.length h.lc, .slice h.da V.x.ldr.length h.dc, .slice (some ⟨g44, 0, none⟩) 1 1, .slice none 0 0, .bool false, .bool true, .int .u64 0]) pU⟩
                exact AllReadyH.nil
              case rest =>
              obtain ⟨g8, g44, rfl, H2⟩ := hcut
              clear H
              have H := H2
              clear H2
              go_wp2_with (first | (with_reducible refine wpl rfl (dQ 65 rfl ?_); with_reducible refine (Stp.bsl (e := 43) (cs := #[.int .u16 (x.p.1 : Int), .int .u32 (x.p.2 : Int), .int .u64 (V.x.id : Int), .slice h.ma V.x.mem.length h.mc, .slice h.la V.x.lvs.length h.lc, .slice h.da V.x.ldr.length h.dc, .slice (some ⟨g44, 0, none⟩) 1 1, .slice none 0 0, .bool false, .bool true, .int .u64 0]) 65 rfl rfl (fun W => by kernel_rfl) H ?_); clear H; intro g65 w1 H; simp only [pS]) | (with_reducible refine wpl rfl (dQ 66 rfl ?_); with_reducible refine (Stp.app 66 rfl rfl Try.underlying34 info43 rfl (by decide) rfl rfl H (fun _ => uP) (show ((#[.int .u16 (x.p.1 : Int), .int .u32 (x.p.2 : Int), .int .u64 (V.x.id : Int), .slice h.ma V.x.mem.length h.mc, .slice h.la V.x.lvs.length h.lc, .slice h.da V.x.ldr.length h.dc, .slice (some ⟨g44, 0, none⟩) 1 1, .slice none 0 0, .bool false, .bool true, .int .u64 0] : Array Value).toList).length = 1 * 11 from rfl) (newN (H.gr 43)) (ryc_one _ _ _ _ _ _ _ _ _ _ _) (by unfold maxLen; omega) (by omega) ?_); clear H; intro a66 c66 w1 H; simp only [pS]) | (with_reducible refine wpl rfl (ldQ (ty := 22) rfl ?_); first | (with_reducible refine (Stp.ldo rfl agg22 rfl H (by assumption) (by assumption) ?_); simp only [pS]) | (with_reducible refine (Stp.ldc rfl agg22 rfl H mR cE ?_); simp only [pS])) | (with_reducible refine wpl rfl (ldQ (ty := 62) rfl ?_); first | (with_reducible refine (Stp.ldor rfl agg62 size62 rfl H (by assumption) sZ (by assumption) ?_); simp only [pS]) | (with_reducible refine (Stp.ldr rfl agg62 size62 rfl H mR sZ ?_); simp only [pS]) | (with_reducible refine (Stp.ldl rfl agg62 size62 rfl H mR (by simp) ?_); simp only [pS]; simp only [List.drop_succ_cons, List.drop_zero, List.take_succ_cons, List.take_zero])) | (with_reducible refine wpl rfl (dQ 7 rfl ?_); with_reducible refine (Stp.alloc 7 rfl rfl zero62 H ?_); clear H; intro g7 w1 H; simp only [pS]; simp only [nC] at H) | (with_reducible refine wpl rfl (stQ (ty := 62) rfl ?_); first | (with_reducible refine (Stp.str rfl size62 rfl rfl (by first | rfl | (simp [Value.oneCell']; done) | assumption) H uP sZ sZ ?_); clear H; intro w1 H; simp only [pS]) | (with_reducible refine (Stp.stl rfl size62 rfl rfl rfl rfl H uP (by simp) ?_); clear H; intro w1 H; simp only [pS]; simp only [List.drop_succ_cons, List.drop_zero, List.take_succ_cons, List.take_zero, List.nil_append, List.cons_append, Nat.reduceAdd] at H)) | (with_reducible refine wpl rfl (ldQ (ty := 3) rfl ?_); first | (with_reducible refine (Stp.ldo rfl agg3 rfl H (by assumption) (by assumption) ?_); simp only [pS]) | (with_reducible refine (Stp.ldc rfl agg3 rfl H mR cE ?_); simp only [pS])) | (with_reducible refine wpl rfl (stQ (ty := 4) rfl ?_); first | (with_reducible refine (Stp.stc rfl size4 rfl rfl rfl rfl H uP (by first | omega | (simp; done) | (simp; omega)) ?_); clear H; intro w1 H; simp only [pS]; simp only [pE, nC, pS] at H)) | (with_reducible refine wpl rfl (ldQ (ty := 37) rfl ?_); first | (with_reducible refine (Stp.ldo rfl agg37 rfl H (by assumption) (by assumption) ?_); simp only [pS]) | (with_reducible refine (Stp.ldc rfl agg37 rfl H mR cE ?_); simp only [pS])) | (with_reducible refine wpl rfl (stQ (ty := 37) rfl ?_); first | (with_reducible refine (Stp.stc rfl size37 rfl rfl rfl rfl H uP (by first | omega | (simp; done) | (simp; omega)) ?_); clear H; intro w1 H; simp only [pS]; simp only [pE, nC, pS] at H)) | (with_reducible refine wpl rfl (ldQ (ty := 43) rfl ?_); first | (with_reducible refine (Stp.ldor rfl agg43 size43 rfl H (by assumption) sZ (by assumption) ?_); simp only [pS]) | (with_reducible refine (Stp.ldr rfl agg43 size43 rfl H mR sZ ?_); simp only [pS]) | (with_reducible refine (Stp.ldl rfl agg43 size43 rfl H mR (by simp) ?_); simp only [pS]; simp only [List.drop_succ_cons, List.drop_zero, List.take_succ_cons, List.take_zero])))
              go_roundw
              case rel =>
                have H2 := ((H.pull (r := row 62 g44 #[.int .i64 V.kd, .int .u64 (V.x.id : Int), .slice h.ma V.x.mem.length h.mc, .slice h.la V.x.lvs.length h.lc, .slice h.da V.x.ldr.length h.dc, .int .u16 (V.p.1 : Int), .int .u32 (V.p.2 : Int), .int .u64 (V.n : Int), .slice h.ba V.data.length h.bc]) pU).own1.nil 62 9)
                have H4 := ((((H2.pull (r := rdR G R) pU).pull (r := slc 62 9 (.slice none 0 0) 0 []) pU).pull (r := slc 62 9 (.slice (some ⟨g44, 0, none⟩) 1 1) _ _) pU).pull (r := slc 43 11 (.slice a66 (c0 + 1) c66) _ _) pU).sub (L' := _ :: _ :: _ :: _ :: []) sU
                have e1 : fv ryc R ++ (#[.int .u16 (x.p.1 : Int), .int .u32 (x.p.2 : Int), .int .u64 (V.x.id : Int), .slice h.ma V.x.mem.length h.mc, .slice h.la V.x.lvs.length h.lc, .slice h.da V.x.ldr.length h.dc, .slice (some ⟨g44, 0, none⟩) 1 1, .slice none 0 0, .bool false, .bool true, .int .u64 0] : Array Value).toList = fv ryc (R ++ [(⟨⟨x.p, (V, h), [(V, h)], some ⟨g44, 0, none⟩, 1, [], none, 0, false⟩, true, 0⟩ : Ry)]) := by rw [fv_app, fv_one]; rfl
                rw [e1] at H4
                exact ⟨k + 1, by omega, by go_num, .inr ⟨R, c0, V, h, [(V, h)], some ⟨g44, 0, none⟩, 1, 1, [], none, 0, 0, false, true, 0, a66, c66, G, HRL, Lib.hid rfl, Lib.hid rfl, rfl, rfl, by omega, by omega, by omega, HO2, H4⟩⟩
              case measure => simp [intOf]; omega
            · have HO2 : Hid (Op4 (all4 (ls.take q)) x.p (x.l.take (k + 1)) (R1 ++ [(⟨⟨x.p, (V0, h0), all, aa, ac, told, ta, tc, true⟩, f2, n3⟩ : Ry)]) (V, h) [(V, h)] []) := Lib.hid (by rw [HTj.out]; exact op4_new1 HO.out _ rfl rfl rfl rfl HK.out)
              have HM2 : Hid ((R1 ++ [(⟨⟨x.p, (V0, h0), all, aa, ac, told, ta, tc, true⟩, f2, n3⟩ : Ry)]).length = m + 1) := Lib.hid (by rw [List.length_append, HM.out]; rfl)
              have HS8 : Hid ((fv ryc (R1 ++ [(⟨⟨x.p, (V0, h0), all, aa, ac, told, ta, tc, f1⟩, f2, n3⟩ : Ry)])).set (m * 11 + 8) (.bool true) = fv ryc (R1 ++ [(⟨⟨x.p, (V0, h0), all, aa, ac, told, ta, tc, true⟩, f2, n3⟩ : Ry)])) := Lib.hid (fvr_set HM.out _ _ (by omega) rfl)
              have HA2 : Hid ((fv ryc (R1 ++ [(⟨⟨x.p, (V0, h0), all, aa, ac, told, ta, tc, true⟩, f2, n3⟩ : Ry)]))[m * 11 + 2]? = some (.int .u64 (V0.x.id : Int))) := Lib.hid (fvr_get HM.out _ (by omega) rfl)
              have hmi : (m : Int) < ((m + 1 : Nat) : Int) := by omega
              have hmi2 : (m : Int) < (m : Int) + 1 := by omega
              have hm0 : ¬ (m : Int) < 0 := by omega
              have hm1 : (0 : Int) ≤ (m : Int) := by omega
              obtain ⟨go, rfl⟩ := H.own_addr (e := 43) mE (Nat.succ_pos m)
              go_upto_region 11 with (first | (with_reducible refine wpl rfl (ldQ (ty := 22) rfl ?_); first | (with_reducible refine (Stp.ldo rfl agg22 rfl H (by assumption) (by assumption) ?_); simp only [pS]) | (with_reducible refine (Stp.ldc rfl agg22 rfl H mR cE ?_); simp only [pS])) | (with_reducible refine wpl rfl (ldQ (ty := 62) rfl ?_); first | (with_reducible refine (Stp.ldor rfl agg62 size62 rfl H (by assumption) sZ (by assumption) ?_); simp only [pS]) | (with_reducible refine (Stp.ldr rfl agg62 size62 rfl H mR sZ ?_); simp only [pS]) | (with_reducible refine (Stp.ldl rfl agg62 size62 rfl H mR (by simp) ?_); simp only [pS]; simp only [List.drop_succ_cons, List.drop_zero, List.take_succ_cons, List.take_zero])) | (with_reducible refine wpl rfl (dQ 7 rfl ?_); with_reducible refine (Stp.alloc 7 rfl rfl zero62 H ?_); clear H; intro g7 w1 H; simp only [pS]; simp only [nC] at H) | (with_reducible refine wpl rfl (stQ (ty := 62) rfl ?_); first | (with_reducible refine (Stp.str rfl size62 rfl rfl (by first | rfl | (simp [Value.oneCell']; done) | assumption) H uP sZ sZ ?_); clear H; intro w1 H; simp only [pS]) | (with_reducible refine (Stp.stl rfl size62 rfl rfl rfl rfl H uP (by simp) ?_); clear H; intro w1 H; simp only [pS]; simp only [List.drop_succ_cons, List.drop_zero, List.take_succ_cons, List.take_zero, List.nil_append, List.cons_append, Nat.reduceAdd] at H)) | (with_reducible refine wpl rfl (ldQ (ty := 3) rfl ?_); first | (with_reducible refine (Stp.ldo rfl agg3 rfl H (by assumption) (by assumption) ?_); simp only [pS]) | (with_reducible refine (Stp.ldc rfl agg3 rfl H mR cE ?_); simp only [pS])) | (with_reducible refine wpl rfl (stQ (ty := 4) rfl ?_); first | (with_reducible refine (Stp.stc rfl size4 rfl rfl rfl rfl H uP (by first | omega | (simp; done) | (simp; omega)) ?_); clear H; intro w1 H; simp only [pS]; simp only [pE, nC, pS] at H)) | (with_reducible refine wpl rfl (ldQ (ty := 37) rfl ?_); first | (with_reducible refine (Stp.ldo rfl agg37 rfl H (by assumption) (by assumption) ?_); simp only [pS]) | (with_reducible refine (Stp.ldc rfl agg37 rfl H mR cE ?_); simp only [pS])) | (with_reducible refine wpl rfl (stQ (ty := 37) rfl ?_); first | (with_reducible refine (Stp.stc rfl size37 rfl rfl rfl rfl H uP (by first | omega | (simp; done) | (simp; omega)) ?_); clear H; intro w1 H; simp only [pS]; simp only [pE, nC, pS] at H)) | (with_reducible refine wpl rfl (ldQ (ty := 43) rfl ?_); first | (with_reducible refine (Stp.ldor rfl agg43 size43 rfl H (by assumption) sZ (by assumption) ?_); simp only [pS]) | (with_reducible refine (Stp.ldr rfl agg43 size43 rfl H mR sZ ?_); simp only [pS]) | (with_reducible refine (Stp.ldl rfl agg43 size43 rfl H mR (by simp) ?_); simp only [pS]; simp only [List.drop_succ_cons, List.drop_zero, List.take_succ_cons, List.take_zero])))
              go_cut [8] from 15 to 95 (fun s8 w' => ∃ g8 g44, s8 = .pointer (some ⟨g8, 0, none⟩) ∧ St w.heap.size w w' (row 43 g8 #[.int .u16 (x.p.1 : Int), .int .u32 (x.p.2 : Int), .int .u64 (V.x.id : Int), .slice h.ma V.x.mem.length h.mc, .slice h.la V.x.lvs.length h.lc, .slice h.da V.x.ldr.length h.dc, .slice (some ⟨g44, 0, none⟩) 1 1, .slice none 0 0, .bool false, .bool false, .int .u64 0] :: row 62 g44 #[.int .i64 V.kd, .int .u64 (V.x.id : Int), .slice h.ma V.x.mem.length h.mc, .slice h.la V.x.lvs.length h.lc, .slice h.da V.x.ldr.length h.dc, .int .u16 (V.p.1 : Int), .int .u32 (V.p.2 : Int), .int .u64 (V.n : Int), .slice h.ba V.data.length h.bc] :: row 62 g7 #[.int .i64 V.kd, .int .u64 (V.x.id : Int), .slice h.ma V.x.mem.length h.mc, .slice h.la V.x.lvs.length h.lc, .slice h.da V.x.ldr.length h.dc, .int .u16 (V.p.1 : Int), .int .u32 (V.p.2 : Int), .int .u64 (V.n : Int), .slice h.ba V.data.length h.bc] :: slc 43 11 (.slice (some ⟨go, 0, none⟩) (m + 1) oc1) (m + 1) (fv ryc (R1 ++ [(⟨⟨x.p, (V0, h0), all, aa, ac, told, ta, tc, f1⟩, f2, n3⟩ : Ry)])) :: slc 62 9 (.slice aa le ac) le (fv evc all) :: slc 62 9 (.slice ta tl tc) tl (fv evc told) :: rdR G1 R1 :: []))
              case first =>
                refine rg_begin 14 rfl (S := fun W => St _ _ W (row 62 g7 #[.int .i64 V.kd, .int .u64 (V.x.id : Int), .slice h.ma V.x.mem.length h.mc, .slice h.la V.x.lvs.length h.lc, .slice h.da V.x.ldr.length h.dc, .int .u16 (V.p.1 : Int), .int .u32 (V.p.2 : Int), .int .u64 (V.n : Int), .slice h.ba V.data.length h.bc] :: [])) (by kernel_rfl) (H.drew.sub sU) ?_
                replace H := H.drew
                have HS := H
                refine rg_take (i := 0) rfl kR kR kR (Yld.move rfl rfl) (H.sub sU) ?_; simp only [pS, pE]
                refine rg_take (i := 1) rfl kR kR kR (Yld.move rfl rfl) (H.sub sU) ?_; simp only [pS, pE]
                refine rg_take (i := 2) rfl kR kR kR (Yld.o rfl) (H.sub sU) ?_; simp only [pS]
                refine rg_take (i := 3) rfl kR kR kR (Yld.o rfl) (H.sub sU) ?_; simp only [pS]
                first | (refine rg_take (i := 4) rfl kR kR kR (Yld.ldor rfl rfl agg27 size27 rfl (by assumption) sZ (by assumption)) (H.sub sU) ?_; simp only [pS]) | (refine rg_take (i := 4) rfl kR kR kR (Yld.ldr rfl rfl agg27 size27 rfl mR sZ) (H.sub sU) ?_; simp only [pS]) | (refine rg_take (i := 4) rfl kR kR kR (Yld.ldl rfl rfl agg27 size27 rfl mR (by simp)) (H.sub sU) ?_; simp only [pS]; simp only [List.drop_succ_cons, List.drop_zero, List.take_succ_cons, List.take_zero])
                refine rg_take (i := 5) rfl kR kR kR (Yld.o rfl) (H.sub sU) ?_; simp only [pS]
                first | (refine rg_take (i := 6) rfl kR kR kR (Yld.ldor rfl rfl agg41 size41 rfl (by assumption) sZ (by assumption)) (H.sub sU) ?_; simp only [pS]) | (refine rg_take (i := 6) rfl kR kR kR (Yld.ldr rfl rfl agg41 size41 rfl mR sZ) (H.sub sU) ?_; simp only [pS]) | (refine rg_take (i := 6) rfl kR kR kR (Yld.ldl rfl rfl agg41 size41 rfl mR (by simp)) (H.sub sU) ?_; simp only [pS]; simp only [List.drop_succ_cons, List.drop_zero, List.take_succ_cons, List.take_zero])
                first | (refine rg_take (i := 7) rfl kR kR kR (Yld.ldor rfl rfl agg62 size62 rfl (by assumption) sZ (by assumption)) (H.sub sU) ?_; simp only [pS]) | (refine rg_take (i := 7) rfl kR kR kR (Yld.ldr rfl rfl agg62 size62 rfl mR sZ) (H.sub sU) ?_; simp only [pS]) | (refine rg_take (i := 7) rfl kR kR kR (Yld.ldl rfl rfl agg62 size62 rfl mR (by simp)) (H.sub sU) ?_; simp only [pS]; simp only [List.drop_succ_cons, List.drop_zero, List.take_succ_cons, List.take_zero])
                refine rg_take (i := 9) rfl kR kR kR (Yld.move rfl rfl) (H.sub sU) ?_; simp only [pS, pE]
                refine rg_take (i := 10) rfl kR kR kR (Yld.o rfl) (H.sub sU) ?_; simp only [pS]
                refine rg_all (rs := [8, 12]) (by kernel_rfl) (by simp) ?_
                refine rg_cons (i := 8) rfl rfl (fun K hK => ?_) ?_
                · -- 8
                  refine Stp.wp (Stp.bsl (e := 62) (cs := #[.int .i64 V.kd, .int .u64 (V.x.id : Int), .slice h.ma V.x.mem.length h.mc, .slice h.la V.x.lvs.length h.lc, .slice h.da V.x.ldr.length h.dc, .int .u16 (V.p.1 : Int), .int .u32 (V.p.2 : Int), .int .u64 (V.n : Int), .slice h.ba V.data.length h.bc]) 44 rfl rfl (fun W => by kernel_rfl) H ?_)
                  clear H
                  intro g44 w1 H
                  clear HS
                  have HS := H
                  refine hK.out _ _ (H.sub sU) ?_
                  clear hK K
                  simp only [pS]
                  refine rg_take (i := 11) rfl kR kR kR (Yld.of (v := .agg #[.int .u16 (x.p.1 : Int), .int .u32 (x.p.2 : Int), .int .u64 (V.x.id : Int), .slice h.ma V.x.mem.length h.mc, .slice h.la V.x.lvs.length h.lc, .slice h.da V.x.ldr.length h.dc, .slice (some ⟨g44, 0, none⟩) 1 1, .slice none 0 0, .bool false, .bool false, .int .u64 0]) rfl (fun W _ => by kernel_rfl)) (H.sub sU) ?_; simp only [pS, pE]
                  refine rg_one (i := 12) (by kernel_rfl) rfl rfl (fun K hK => ?_)
                  refine Stp.wp (Stp.alloc 8 rfl rfl zero43 H ?_)
                  clear H
                  intro g8 w1 H
                  simp only [cells_agg] at H
                  clear HS
                  have HS := H
                  refine hK.out _ _ (H.sub sU) ?_
                  clear hK K
                  simp only [pS]
                  refine rg_one (i := 13) (by kernel_rfl) rfl rfl (fun K hK => ?_)
                  refine Stp.wp (Stp.str (ds := #[.int .u16 (x.p.1 : Int), .int .u32 (x.p.2 : Int), .int .u64 (V.x.id : Int), .slice h.ma V.x.mem.length h.mc, .slice h.la V.x.lvs.length h.lc, .slice h.da V.x.ldr.length h.dc, .slice (some ⟨g44, 0, none⟩) 1 1, .slice none 0 0, .bool false, .bool false, .int .u64 0]) rfl size43 rfl rfl (by simp [Value.oneCell']) H uP rfl rfl ?_)
                  clear H
                  intro w1 H
                  clear HS
                  have HS := H
                  refine hK.out _ _ (H.sub sU) ?_
                  clear hK K
                  simp only [pS]
                  refine rg_done (by kernel_rfl) ?_
                  go_wp2_with fail
                  go_meet
                  exact ⟨g8, g44, rfl, ((H.pull (r := row 62 g7 #[.int .i64 V.kd, .int .u64 (V.x.id : Int), .slice h.ma V.x.mem.length h.mc, .slice h.la V.x.lvs.length h.lc, .slice h.da V.x.ldr.length h.dc, .int .u16 (V.p.1 : Int), .int .u32 (V.p.2 : Int), .int .u64 (V.n : Int), .slice h.ba V.data.length h.bc]) pU).pull (r := row 62 g44 #[.int .i64 V.kd, .int .u64 (V.x.id : Int), .slice h.ma V.x.mem.length h.mc, .slice h.la V.x.lvs.length h.lc, .slice h.da V.x.ldr.length h.dc, .int .u16 (V.p.1 : Int), .int .u32 (V.p.2 : Int), .int .u64 (V.n : Int), .slice h.ba V.data.length h.bc]) pU).pull (r := row 43 g8 #[.int .u16 (x.p.1 : Int), .int .u32 (x.p.2 : Int), .int .u64 (V.x.id : Int), .slice h.ma V.x.mem.length h.mc, .slice h.la V.x.lvs.length h.lc, .slice h.da V.x.ldr.length h.dc, .slice (some ⟨g44, 0, none⟩) 1 1, .slice none 0 0, .bool false, .bool false, .int .u64 0]) pU⟩
                refine rg_cons (i := 12) rfl rfl (fun K hK => ?_) ?_
                · -- 12
                  refine Stp.wp (Stp.alloc 8 rfl rfl zero43 H ?_)
                  clear H
                  intro g8 w1 H
                  simp only [cells_agg] at H
                  clear HS
                  have HS := H
                  refine hK.out _ _ (H.sub sU) ?_
                  clear hK K
                  simp only [pS]
                  refine rg_one (i := 8) (by kernel_rfl) rfl rfl (fun K hK => ?_)
                  refine Stp.wp (Stp.bsl (e := 62) (cs := #[.int .i64 V.kd, .int .u64 (V.x.id : Int), .slice h.ma V.x.mem.length h.mc, .slice h.la V.x.lvs.length h.lc, .slice h.da V.x.ldr.length h.dc, .int .u16 (V.p.1 : Int), .int .u32 (V.p.2 : Int), .int .u64 (V.n : Int), .slice h.ba V.data.length h.bc]) 44 rfl rfl (fun W => by kernel_rfl) H ?_)
                  clear H
                  intro g44 w1 H
                  clear HS
                  have HS := H
                  refine hK.out _ _ (H.sub sU) ?_
                  clear hK K
                  simp only [pS]
                  refine rg_take (i := 11) rfl kR kR kR (Yld.of (v := .agg #[.int .u16 (x.p.1 : Int), .int .u32 (x.p.2 : Int), .int .u64 (V.x.id : Int), .slice h.ma V.x.mem.length h.mc, .slice h.la V.x.lvs.length h.lc, .slice h.da V.x.ldr.length h.dc, .slice (some ⟨g44, 0, none⟩) 1 1, .slice none 0 0, .bool false, .bool false, .int .u64 0]) rfl (fun W _ => by kernel_rfl)) (H.sub sU) ?_; simp only [pS, pE]
                  refine rg_one (i := 13) (by kernel_rfl) rfl rfl (fun K hK => ?_)
                  refine Stp.wp (Stp.str (ds := #[.int .u16 (x.p.1 : Int), .int .u32 (x.p.2 : Int), .int .u64 (V.x.id : Int), .slice h.ma V.x.mem.length h.mc, .slice h.la V.x.lvs.length h.lc, .slice h.da V.x.ldr.length h.dc, .slice (some ⟨g44, 0, none⟩) 1 1, .slice none 0 0, .bool false, .bool false, .int .u64 0]) rfl size43 rfl rfl (by simp [Value.oneCell']) H uP rfl rfl ?_)
                  clear H
                  intro w1 H
                  clear HS
                  have HS := H
                  refine hK.out _ _ (H.sub sU) ?_
                  clear hK K
                  simp only [pS]
                  refine rg_done (by kernel_rfl) ?_
                  go_wp2_with fail
                  go_meet
                  exact ⟨g8, g44, rfl, ((H.pull (r := row 62 g7 #[.int .i64 V.kd, .int .u64 (V.x.id : Int), .slice h.ma V.x.mem.length h.mc, .slice h.la V.x.lvs.length h.lc, .slice h.da V.x.ldr.length h.dc, .int .u16 (V.p.1 : Int), .int .u32 (V.p.2 : Int), .int .u64 (V.n : Int), .slice h.ba V.data.length h.bc]) pU).pull (r := row 62 g44 #[.int .i64 V.kd, .int .u64 (V.x.id : Int), .slice h.ma V.x.mem.length h.mc, .slice h.la V.x.lvs.length h.lc, .slice h.da V.x.ldr.length h.dc, .int .u16 (V.p.1 : Int), .int .u32 (V.p.2 : Int), .int .u64 (V.n : Int), .slice h.ba V.data.length h.bc]) pU).pull (r := row 43 g8 #[.int .u16 (x.p.1 : Int), .int .u32 (x.p.2 : Int), .int .u64 (V.x.id : Int), .slice h.ma V.x.mem.length h.mc, .slice h.la V.x.lvs.length h.lc, .slice h.da V.x.ldr.length h.dc, .slice (some ⟨g44, 0, none⟩) 1 1, .slice none 0 0, .bool false, .bool false, .int .u64 0]) pU⟩
                exact AllReadyH.nil
              case rest =>
              obtain ⟨g8, g44, rfl, H2⟩ := hcut
              clear H
              have H := H2
              clear H2
              go_wp2_with (first | (with_reducible refine wpl rfl (stQ (ty := 4) rfl ?_); first | (with_reducible refine (Stp.ssc (v := .bool true) rfl size4 rfl rfl rfl rfl H uP (by omega) ?_); clear H; intro w1 H; rw [HS8.out] at H; simp only [pS]) | (with_reducible refine (Stp.stc rfl size4 rfl rfl rfl rfl H uP (by first | omega | (simp; done) | (simp; omega)) ?_); clear H; intro w1 H; simp only [pS]; simp only [pE, nC, pS] at H)) | (with_reducible refine wpl rfl (ldQ (ty := 37) rfl ?_); first | (with_reducible refine (Stp.lsc rfl agg37 rfl H mE HA2.out ?_); simp only [pS]) | (with_reducible refine (Stp.ldo rfl agg37 rfl H (by assumption) (by assumption) ?_); simp only [pS]) | (with_reducible refine (Stp.ldc rfl agg37 rfl H mR cE ?_); simp only [pS])) | (with_reducible refine wpl rfl (dQ 65 rfl ?_); with_reducible refine (Stp.bsl (e := 43) (cs := #[.int .u16 (x.p.1 : Int), .int .u32 (x.p.2 : Int), .int .u64 (V.x.id : Int), .slice h.ma V.x.mem.length h.mc, .slice h.la V.x.lvs.length h.lc, .slice h.da V.x.ldr.length h.dc, .slice (some ⟨g44, 0, none⟩) 1 1, .slice none 0 0, .bool false, .bool false, .int .u64 (V0.x.id : Int)]) 65 rfl rfl (fun W => by kernel_rfl) H ?_); clear H; intro g65 w1 H; simp only [pS]) | (with_reducible refine wpl rfl (dQ 66 rfl ?_); with_reducible refine (Stp.app 66 rfl rfl Try.underlying34 info43 rfl (by decide) rfl rfl H (fun _ => uP) (show ((#[.int .u16 (x.p.1 : Int), .int .u32 (x.p.2 : Int), .int .u64 (V.x.id : Int), .slice h.ma V.x.mem.length h.mc, .slice h.la V.x.lvs.length h.lc, .slice h.da V.x.ldr.length h.dc, .slice (some ⟨g44, 0, none⟩) 1 1, .slice none 0 0, .bool false, .bool false, .int .u64 (V0.x.id : Int)] : Array Value).toList).length = 1 * 11 from rfl) (newN (H.gr 43)) (ryc_one _ _ _ _ _ _ _ _ _ _ _) (by unfold maxLen; omega) (by omega) ?_); clear H; intro a66 c66 w1 H; simp only [pS]) | (with_reducible refine wpl rfl (ldQ (ty := 22) rfl ?_); first | (with_reducible refine (Stp.ldo rfl agg22 rfl H (by assumption) (by assumption) ?_); simp only [pS]) | (with_reducible refine (Stp.ldc rfl agg22 rfl H mR cE ?_); simp only [pS])) | (with_reducible refine wpl rfl (ldQ (ty := 62) rfl ?_); first | (with_reducible refine (Stp.ldor rfl agg62 size62 rfl H (by assumption) sZ (by assumption) ?_); simp only [pS]) | (with_reducible refine (Stp.ldr rfl agg62 size62 rfl H mR sZ ?_); simp only [pS]) | (with_reducible refine (Stp.ldl rfl agg62 size62 rfl H mR (by simp) ?_); simp only [pS]; simp only [List.drop_succ_cons, List.drop_zero, List.take_succ_cons, List.take_zero])) | (with_reducible refine wpl rfl (dQ 7 rfl ?_); with_reducible refine (Stp.alloc 7 rfl rfl zero62 H ?_); clear H; intro g7 w1 H; simp only [pS]; simp only [nC] at H) | (with_reducible refine wpl rfl (stQ (ty := 62) rfl ?_); first | (with_reducible refine (Stp.str rfl size62 rfl rfl (by first | rfl | (simp [Value.oneCell']; done) | assumption) H uP sZ sZ ?_); clear H; intro w1 H; simp only [pS]) | (with_reducible refine (Stp.stl rfl size62 rfl rfl rfl rfl H uP (by simp) ?_); clear H; intro w1 H; simp only [pS]; simp only [List.drop_succ_cons, List.drop_zero, List.take_succ_cons, List.take_zero, List.nil_append, List.cons_append, Nat.reduceAdd] at H)) | (with_reducible refine wpl rfl (ldQ (ty := 3) rfl ?_); first | (with_reducible refine (Stp.ldo rfl agg3 rfl H (by assumption) (by assumption) ?_); simp only [pS]) | (with_reducible refine (Stp.ldc rfl agg3 rfl H mR cE ?_); simp only [pS])) | (with_reducible refine wpl rfl (stQ (ty := 37) rfl ?_); first | (with_reducible refine (Stp.stc rfl size37 rfl rfl rfl rfl H uP (by first | omega | (simp; done) | (simp; omega)) ?_); clear H; intro w1 H; simp only [pS]; simp only [pE, nC, pS] at H)) | (with_reducible refine wpl rfl (ldQ (ty := 43) rfl ?_); first | (with_reducible refine (Stp.ldor rfl agg43 size43 rfl H (by assumption) sZ (by assumption) ?_); simp only [pS]) | (with_reducible refine (Stp.ldr rfl agg43 size43 rfl H mR sZ ?_); simp only [pS]) | (with_reducible refine (Stp.ldl rfl agg43 size43 rfl H mR (by simp) ?_); simp only [pS]; simp only [List.drop_succ_cons, List.drop_zero, List.take_succ_cons, List.take_zero])))
              go_roundw
              case rel =>
                have e2 := HLA.out
                have e3 := HLT.out
                subst e2 e3
                obtain ⟨G', H1⟩ := ((((H.pull (r := rdR G1 R1) pU).pull (r := slc 62 9 (.slice ta _ tc) _ _) pU).pull (r := slc 62 9 (.slice aa _ ac) _ _) pU)).shutR (⟨⟨x.p, (V0, h0), all, aa, ac, told, ta, tc, true⟩, f2, n3⟩ : Ry) (by show all.length ≤ _; omega) (by show told.length ≤ _; omega)
                have H2 := ((H1.pull (r := row 62 g44 #[.int .i64 V.kd, .int .u64 (V.x.id : Int), .slice h.ma V.x.mem.length h.mc, .slice h.la V.x.lvs.length h.lc, .slice h.da V.x.ldr.length h.dc, .int .u16 (V.p.1 : Int), .int .u32 (V.p.2 : Int), .int .u64 (V.n : Int), .slice h.ba V.data.length h.bc]) pU).own1.nil 62 9)
                have H4 := ((((H2.pull (r := rdR G' _) pU).pull (r := slc 62 9 (.slice none 0 0) 0 []) pU).pull (r := slc 62 9 (.slice (some ⟨g44, 0, none⟩) 1 1) _ _) pU).pull (r := slc 43 11 (.slice a66 (m + 1 + 1) c66) _ _) pU).sub (L' := _ :: _ :: _ :: _ :: []) sU
                have e1 : fv ryc (R1 ++ [(⟨⟨x.p, (V0, h0), all, aa, ac, told, ta, tc, true⟩, f2, n3⟩ : Ry)]) ++ (#[.int .u16 (x.p.1 : Int), .int .u32 (x.p.2 : Int), .int .u64 (V.x.id : Int), .slice h.ma V.x.mem.length h.mc, .slice h.la V.x.lvs.length h.lc, .slice h.da V.x.ldr.length h.dc, .slice (some ⟨g44, 0, none⟩) 1 1, .slice none 0 0, .bool false, .bool false, .int .u64 (V0.x.id : Int)] : Array Value).toList = fv ryc ((R1 ++ [(⟨⟨x.p, (V0, h0), all, aa, ac, told, ta, tc, true⟩, f2, n3⟩ : Ry)]) ++ [(⟨⟨x.p, (V, h), [(V, h)], some ⟨g44, 0, none⟩, 1, [], none, 0, false⟩, false, V0.x.id⟩ : Ry)]) := by rw [fv_app (R1 ++ _), fv_one]; rfl
                rw [e1] at H4
                exact ⟨k + 1, by omega, by go_num, .inr ⟨_, m + 1, V, h, [(V, h)], some ⟨g44, 0, none⟩, 1, 1, [], none, 0, 0, false, false, V0.x.id, a66, c66, G', HM2, Lib.hid rfl, Lib.hid rfl, rfl, rfl, by omega, by omega, by omega, HO2, H4⟩⟩
              case measure => simp [intOf]; omega
          · have hki : (V.kd == 1) = false := by simpa using hkd
            have HK := Lib.hid hkd
            clear hkd
            rcases hrel with ⟨HS, rfl, rfl, H⟩ | ⟨R1, m, V0, h0, all, aa, ac, le, told, ta, tc, tl, f1, f2, n3, oa1, oc1, G1, HM, HLA, HLT, rfl, rfl, hle, htl, hmk, HO, H⟩
            · have HS2 : Hid (staysH (x.l.take (k + 1)) = []) := Lib.hid (by rw [HTj.out, staysH_snoc, HS.out, stA_nil HK.out])
              go_wp2_with (first | (with_reducible refine wpl rfl (ldQ (ty := 22) rfl ?_); first | (with_reducible refine (Stp.ldo rfl agg22 rfl H (by assumption) (by assumption) ?_); simp only [pS]) | (with_reducible refine (Stp.ldc rfl agg22 rfl H mR cE ?_); simp only [pS])) | (with_reducible refine wpl rfl (ldQ (ty := 62) rfl ?_); first | (with_reducible refine (Stp.ldor rfl agg62 size62 rfl H (by assumption) sZ (by assumption) ?_); simp only [pS]) | (with_reducible refine (Stp.ldr rfl agg62 size62 rfl H mR sZ ?_); simp only [pS]) | (with_reducible refine (Stp.ldl rfl agg62 size62 rfl H mR (by simp) ?_); simp only [pS]; simp only [List.drop_succ_cons, List.drop_zero, List.take_succ_cons, List.take_zero])) | (with_reducible refine wpl rfl (dQ 7 rfl ?_); with_reducible refine (Stp.alloc 7 rfl rfl zero62 H ?_); clear H; intro g7 w1 H; simp only [pS]; simp only [nC] at H) | (with_reducible refine wpl rfl (stQ (ty := 62) rfl ?_); first | (with_reducible refine (Stp.str rfl size62 rfl rfl (by first | rfl | (simp [Value.oneCell']; done) | assumption) H uP sZ sZ ?_); clear H; intro w1 H; simp only [pS]) | (with_reducible refine (Stp.stl rfl size62 rfl rfl rfl rfl H uP (by simp) ?_); clear H; intro w1 H; simp only [pS]; simp only [List.drop_succ_cons, List.drop_zero, List.take_succ_cons, List.take_zero, List.nil_append, List.cons_append, Nat.reduceAdd] at H)) | (with_reducible refine wpl rfl (ldQ (ty := 3) rfl ?_); first | (with_reducible refine (Stp.ldo rfl agg3 rfl H (by assumption) (by assumption) ?_); simp only [pS]) | (with_reducible refine (Stp.ldc rfl agg3 rfl H mR cE ?_); simp only [pS])) | (with_reducible refine wpl rfl (stQ (ty := 4) rfl ?_); first | (with_reducible refine (Stp.stc rfl size4 rfl rfl rfl rfl H uP (by first | omega | (simp; done) | (simp; omega)) ?_); clear H; intro w1 H; simp only [pS]; simp only [pE, nC, pS] at H)) | (with_reducible refine wpl rfl (ldQ (ty := 37) rfl ?_); first | (with_reducible refine (Stp.ldo rfl agg37 rfl H (by assumption) (by assumption) ?_); simp only [pS]) | (with_reducible refine (Stp.ldc rfl agg37 rfl H mR cE ?_); simp only [pS])) | (with_reducible refine wpl rfl (stQ (ty := 37) rfl ?_); first | (with_reducible refine (Stp.stc rfl size37 rfl rfl rfl rfl H uP (by first | omega | (simp; done) | (simp; omega)) ?_); clear H; intro w1 H; simp only [pS]; simp only [pE, nC, pS] at H)) | (with_reducible refine wpl rfl (ldQ (ty := 43) rfl ?_); first | (with_reducible refine (Stp.ldor rfl agg43 size43 rfl H (by assumption) sZ (by assumption) ?_); simp only [pS]) | (with_reducible refine (Stp.ldr rfl agg43 size43 rfl H mR sZ ?_); simp only [pS]) | (with_reducible refine (Stp.ldl rfl agg43 size43 rfl H mR (by simp) ?_); simp only [pS]; simp only [List.drop_succ_cons, List.drop_zero, List.take_succ_cons, List.take_zero])))
              go_roundw
              case rel => exact ⟨k + 1, by omega, by go_num, .inl ⟨HS2, rfl, rfl, H.sub sU⟩⟩
              case measure => simp [intOf]; omega
            · have HA6 : Hid ((fv ryc (R1 ++ [(⟨⟨x.p, (V0, h0), all, aa, ac, told, ta, tc, f1⟩, f2, n3⟩ : Ry)]))[m * 11 + 6]? = some (.slice aa le ac)) := Lib.hid (by rw [← HLA.out]; exact fvr_get HM.out _ (by omega) rfl)
              have HS6 : Hid (∀ (a : Option Addr) (c : Nat), (fv ryc (R1 ++ [(⟨⟨x.p, (V0, h0), all, aa, ac, told, ta, tc, f1⟩, f2, n3⟩ : Ry)])).set (m * 11 + 6) (.slice a (le + 1) c) = fv ryc (R1 ++ [(⟨⟨x.p, (V0, h0), (all ++ [(V, h)]), a, c, told, ta, tc, f1⟩, f2, n3⟩ : Ry)])) := Lib.hid (fun a c => by
                rw [← HLA.out]
                exact fvr_set HM.out _ _ (by omega) (by simp [ryc]))
              have HLA2 : Hid ((all ++ [(V, h)]).length = le + 1) := Lib.hid (by rw [List.length_append, HLA.out]; rfl)
              have HF2 : Hid (fv evc all ++ (evA V h).toList = fv evc (all ++ [(V, h)])) := Lib.hid (by rw [fv_app, fv_one]; rfl)
              have hmi : (m : Int) < ((m + 1 : Nat) : Int) := by omega
              have hmi2 : (m : Int) < (m : Int) + 1 := by omega
              have hm0 : ¬ (m : Int) < 0 := by omega
              have hm1 : (0 : Int) ≤ (m : Int) := by omega
              obtain ⟨go, rfl⟩ := H.own_addr (e := 43) mE (Nat.succ_pos m)
              by_cases hk2 : V.kd = 2
              · have hki2 : (V.kd == 2) = true := by simpa using hk2
                have HO2 : Hid (Op4 (all4 (ls.take q)) x.p (x.l.take (k + 1)) R1 (V0, h0) (all ++ [(V, h)]) (told ++ [(V, h)])) := Lib.hid (by rw [HTj.out]; exact op4_add2 HO.out hk2)
                have HA7 : Hid (∀ (a : Option Addr) (c : Nat), (fv ryc (R1 ++ [(⟨⟨x.p, (V0, h0), (all ++ [(V, h)]), a, c, told, ta, tc, f1⟩, f2, n3⟩ : Ry)]))[m * 11 + 7]? = some (.slice ta tl tc)) := Lib.hid (fun a c => by rw [← HLT.out]; exact fvr_get HM.out _ (by omega) rfl)
                have HS7 : Hid (∀ (a : Option Addr) (c : Nat) (a' : Option Addr) (c' : Nat), (fv ryc (R1 ++ [(⟨⟨x.p, (V0, h0), (all ++ [(V, h)]), a, c, told, ta, tc, f1⟩, f2, n3⟩ : Ry)])).set (m * 11 + 7) (.slice a' (tl + 1) c') = fv ryc (R1 ++ [(⟨⟨x.p, (V0, h0), (all ++ [(V, h)]), a, c, (told ++ [(V, h)]), a', c', f1⟩, f2, n3⟩ : Ry)])) := Lib.hid (fun a c a' c' => by
                  rw [← HLT.out]
                  exact fvr_set HM.out _ _ (by omega) (by simp [ryc]))
                have HLT2 : Hid ((told ++ [(V, h)]).length = tl + 1) := Lib.hid (by rw [List.length_append, HLT.out]; rfl)
                have HF3 : Hid (fv evc told ++ (evA V h).toList = fv evc (told ++ [(V, h)])) := Lib.hid (by rw [fv_app, fv_one]; rfl)
                clear hk2
                go_wp2_with (first | (with_reducible refine wpl rfl (ldQ (ty := 22) rfl ?_); first | (with_reducible refine (Stp.ldo rfl agg22 rfl H (by assumption) (by assumption) ?_); simp only [pS]) | (with_reducible refine (Stp.ldc rfl agg22 rfl H mR cE ?_); simp only [pS])) | (with_reducible refine wpl rfl (ldQ (ty := 62) rfl ?_); first | (with_reducible refine (Stp.ldor rfl agg62 size62 rfl H (by assumption) sZ (by assumption) ?_); simp only [pS]) | (with_reducible refine (Stp.ldr rfl agg62 size62 rfl H mR sZ ?_); simp only [pS]) | (with_reducible refine (Stp.ldl rfl agg62 size62 rfl H mR (by simp) ?_); simp only [pS]; simp only [List.drop_succ_cons, List.drop_zero, List.take_succ_cons, List.take_zero])) | (with_reducible refine wpl rfl (dQ 7 rfl ?_); with_reducible refine (Stp.alloc 7 rfl rfl zero62 H ?_); clear H; intro g7 w1 H; simp only [pS]; simp only [nC] at H) | (with_reducible refine wpl rfl (stQ (ty := 62) rfl ?_); first | (with_reducible refine (Stp.str rfl size62 rfl rfl (by first | rfl | (simp [Value.oneCell']; done) | assumption) H uP sZ sZ ?_); clear H; intro w1 H; simp only [pS]) | (with_reducible refine (Stp.stl rfl size62 rfl rfl rfl rfl H uP (by simp) ?_); clear H; intro w1 H; simp only [pS]; simp only [List.drop_succ_cons, List.drop_zero, List.take_succ_cons, List.take_zero, List.nil_append, List.cons_append, Nat.reduceAdd] at H)) | (with_reducible refine wpl rfl (ldQ (ty := 3) rfl ?_); first | (with_reducible refine (Stp.ldo rfl agg3 rfl H (by assumption) (by assumption) ?_); simp only [pS]) | (with_reducible refine (Stp.ldc rfl agg3 rfl H mR cE ?_); simp only [pS])) | (with_reducible refine wpl rfl (stQ (ty := 4) rfl ?_); first | (with_reducible refine (Stp.stc rfl size4 rfl rfl rfl rfl H uP (by first | omega | (simp; done) | (simp; omega)) ?_); clear H; intro w1 H; simp only [pS]; simp only [pE, nC, pS] at H)) | (with_reducible refine wpl rfl (ldQ (ty := 37) rfl ?_); first | (with_reducible refine (Stp.ldo rfl agg37 rfl H (by assumption) (by assumption) ?_); simp only [pS]) | (with_reducible refine (Stp.ldc rfl agg37 rfl H mR cE ?_); simp only [pS])) | (with_reducible refine wpl rfl (stQ (ty := 37) rfl ?_); first | (with_reducible refine (Stp.stc rfl size37 rfl rfl rfl rfl H uP (by first | omega | (simp; done) | (simp; omega)) ?_); clear H; intro w1 H; simp only [pS]; simp only [pE, nC, pS] at H)) | (with_reducible refine wpl rfl (ldQ (ty := 43) rfl ?_); first | (with_reducible refine (Stp.ldor rfl agg43 size43 rfl H (by assumption) sZ (by assumption) ?_); simp only [pS]) | (with_reducible refine (Stp.ldr rfl agg43 size43 rfl H mR sZ ?_); simp only [pS]) | (with_reducible refine (Stp.ldl rfl agg43 size43 rfl H mR (by simp) ?_); simp only [pS]; simp only [List.drop_succ_cons, List.drop_zero, List.take_succ_cons, List.take_zero])))
                refine rk_begin 12 13 (fun W => St w.heap.size w W (row 62 g7 #[.int .i64 V.kd, .int .u64 (V.x.id : Int), .slice h.ma V.x.mem.length h.mc, .slice h.la V.x.lvs.length h.lc, .slice h.da V.x.ldr.length h.dc, .int .u16 (V.p.1 : Int), .int .u32 (V.p.2 : Int), .int .u64 (V.n : Int), .slice h.ba V.data.length h.bc] :: slc 43 11 (.slice (some ⟨go, 0, none⟩) (m + 1) oc1) (m + 1) (fv ryc (R1 ++ [(⟨⟨x.p, (V0, h0), all, aa, ac, told, ta, tc, f1⟩, f2, n3⟩ : Ry)])) :: [])) rfl (by kernel_rfl) ?_
                replace H := H.drew
                have HS := H
                refine rk_free (i := 0) rfl kR kR kR kR (Yld.move rfl rfl) (fun _ => (H.sub sU)) ?_; simp only [pS, pE]
                refine rk_free (i := 1) rfl kR kR kR kR (Yld.move rfl rfl) (fun _ => (H.sub sU)) ?_; simp only [pS, pE]
                refine rk_free (i := 2) rfl kR kR kR kR (Yld.move rfl rfl) (fun _ => (H.sub sU)) ?_; simp only [pS, pE]
                refine rk_free (i := 3) rfl kR kR kR kR (Yld.move rfl rfl) (fun _ => (H.sub sU)) ?_; simp only [pS, pE]
                refine rk_free (i := 4) rfl kR kR kR kR (Yld.o rfl) (fun _ => (H.sub sU)) ?_; simp only [pS]
                refine rk_free (i := 5) rfl kR kR kR kR (Yld.o rfl) (fun _ => (H.sub sU)) ?_; simp only [pS]
                refine rk_take (i := 6) rfl kR kR kR kR kR kR (Yld.lsc rfl rfl agg22 rfl mE HA6.out) (H.sub sU) ?_; simp only [pS, pE]
                first | (refine rk_take (i := 7) rfl kR kR kR kR kR kR (Yld.ldr rfl rfl agg62 size62 rfl mR sZ) (H.sub sU) ?_; simp only [pS]) | (refine rk_take (i := 7) rfl kR kR kR kR kR kR (Yld.ldl rfl rfl agg62 size62 rfl mR (by simp)) (H.sub sU) ?_; simp only [pS]; simp only [List.drop_succ_cons, List.drop_zero, List.take_succ_cons, List.take_zero]) | (refine rk_take (i := 7) rfl kR kR kR kR kR kR (Yld.ldor rfl rfl agg62 size62 rfl (by assumption) sZ (by assumption)) (H.sub sU) ?_; simp only [pS])
                refine rk_one (i := 8) (by kernel_rfl) rfl rfl (fun K hK => ?_)
                refine Stp.wp (Stp.bsl (e := 62) (cs := #[.int .i64 V.kd, .int .u64 (V.x.id : Int), .slice h.ma V.x.mem.length h.mc, .slice h.la V.x.lvs.length h.lc, .slice h.da V.x.ldr.length h.dc, .int .u16 (V.p.1 : Int), .int .u32 (V.p.2 : Int), .int .u64 (V.n : Int), .slice h.ba V.data.length h.bc]) 77 rfl rfl (fun W => by kernel_rfl) H ?_)
                clear H
                intro g77 w1 H
                clear HS
                have HS := H
                refine hK.out _ _ (fun _ => (H.sub sU)) ?_
                clear hK K
                simp only [pS]
                refine rk_one (i := 9) (by kernel_rfl) rfl rfl (fun K hK => ?_)
                refine Stp.wp (Stp.app 78 rfl rfl Try.underlying22 info62 rfl (by decide) rfl rfl H (fun _ => uP) (show (#[.int .i64 V.kd, .int .u64 (V.x.id : Int), .slice h.ma V.x.mem.length h.mc, .slice h.la V.x.lvs.length h.lc, .slice h.da V.x.ldr.length h.dc, .int .u16 (V.p.1 : Int), .int .u32 (V.p.2 : Int), .int .u64 (V.n : Int), .slice h.ba V.data.length h.bc].toList).length = 1 * 9 from rfl) (newN (H.gr 62)) (evc_one V h) (by unfold maxLen; omega) (by omega) ?_)
                clear H
                intro a78 c78 w1 H
                clear HS
                have HS := H
                refine hK.out _ _ (fun _ => (H.sub sU)) ?_
                clear hK K
                simp only [pS]
                refine rk_free (i := 10) rfl kR kR kR kR (Yld.o rfl) (fun _ => (H.sub sU)) ?_; simp only [pS]
                refine rk_free (i := 11) rfl kR kR kR kR (Yld.o rfl) (fun _ => (H.sub sU)) ?_; simp only [pS]
                refine rk_one (i := 12) (by kernel_rfl) rfl rfl (fun K hK => ?_)
                refine Stp.wp (Stp.ssc (v := .slice a78 (le + 1) c78) rfl size22 rfl rfl rfl rfl H uP (by omega) ?_)
                clear H
                intro w1 H
                rw [HS6.out] at H
                clear HS
                have HS := H
                refine hK.out _ _ (fun h => by cases (show true = false from h)) ?_
                clear hK K
                simp only [pS]
                refine rk_done (by kernel_rfl) ?_
                go_wp2_with (first | (with_reducible refine wpl rfl (ldQ (ty := 22) rfl ?_); first | (with_reducible refine (Stp.ldo rfl agg22 rfl H (by assumption) (by assumption) ?_); simp only [pS]) | (with_reducible refine (Stp.ldc rfl agg22 rfl H mR cE ?_); simp only [pS])) | (with_reducible refine wpl rfl (ldQ (ty := 62) rfl ?_); first | (with_reducible refine (Stp.ldor rfl agg62 size62 rfl H (by assumption) sZ (by assumption) ?_); simp only [pS]) | (with_reducible refine (Stp.ldr rfl agg62 size62 rfl H mR sZ ?_); simp only [pS]) | (with_reducible refine (Stp.ldl rfl agg62 size62 rfl H mR (by simp) ?_); simp only [pS]; simp only [List.drop_succ_cons, List.drop_zero, List.take_succ_cons, List.take_zero])) | (with_reducible refine wpl rfl (dQ 7 rfl ?_); with_reducible refine (Stp.alloc 7 rfl rfl zero62 H ?_); clear H; intro g7 w1 H; simp only [pS]; simp only [nC] at H) | (with_reducible refine wpl rfl (stQ (ty := 62) rfl ?_); first | (with_reducible refine (Stp.str rfl size62 rfl rfl (by first | rfl | (simp [Value.oneCell']; done) | assumption) H uP sZ sZ ?_); clear H; intro w1 H; simp only [pS]) | (with_reducible refine (Stp.stl rfl size62 rfl rfl rfl rfl H uP (by simp) ?_); clear H; intro w1 H; simp only [pS]; simp only [List.drop_succ_cons, List.drop_zero, List.take_succ_cons, List.take_zero, List.nil_append, List.cons_append, Nat.reduceAdd] at H)) | (with_reducible refine wpl rfl (ldQ (ty := 3) rfl ?_); first | (with_reducible refine (Stp.ldo rfl agg3 rfl H (by assumption) (by assumption) ?_); simp only [pS]) | (with_reducible refine (Stp.ldc rfl agg3 rfl H mR cE ?_); simp only [pS])) | (with_reducible refine wpl rfl (stQ (ty := 4) rfl ?_); first | (with_reducible refine (Stp.stc rfl size4 rfl rfl rfl rfl H uP (by first | omega | (simp; done) | (simp; omega)) ?_); clear H; intro w1 H; simp only [pS]; simp only [pE, nC, pS] at H)) | (with_reducible refine wpl rfl (ldQ (ty := 37) rfl ?_); first | (with_reducible refine (Stp.ldo rfl agg37 rfl H (by assumption) (by assumption) ?_); simp only [pS]) | (with_reducible refine (Stp.ldc rfl agg37 rfl H mR cE ?_); simp only [pS])) | (with_reducible refine wpl rfl (stQ (ty := 37) rfl ?_); first | (with_reducible refine (Stp.stc rfl size37 rfl rfl rfl rfl H uP (by first | omega | (simp; done) | (simp; omega)) ?_); clear H; intro w1 H; simp only [pS]; simp only [pE, nC, pS] at H)) | (with_reducible refine wpl rfl (ldQ (ty := 43) rfl ?_); first | (with_reducible refine (Stp.ldor rfl agg43 size43 rfl H (by assumption) sZ (by assumption) ?_); simp only [pS]) | (with_reducible refine (Stp.ldr rfl agg43 size43 rfl H mR sZ ?_); simp only [pS]) | (with_reducible refine (Stp.ldl rfl agg43 size43 rfl H mR (by simp) ?_); simp only [pS]; simp only [List.drop_succ_cons, List.drop_zero, List.take_succ_cons, List.take_zero])))
                refine rk_begin 12 13 (fun W => St w.heap.size w W (row 62 g7 #[.int .i64 V.kd, .int .u64 (V.x.id : Int), .slice h.ma V.x.mem.length h.mc, .slice h.la V.x.lvs.length h.lc, .slice h.da V.x.ldr.length h.dc, .int .u16 (V.p.1 : Int), .int .u32 (V.p.2 : Int), .int .u64 (V.n : Int), .slice h.ba V.data.length h.bc] :: slc 43 11 (.slice (some ⟨go, 0, none⟩) (m + 1) oc1) (m + 1) (fv ryc (R1 ++ [(⟨⟨x.p, (V0, h0), (all ++ [(V, h)]), a78, c78, told, ta, tc, f1⟩, f2, n3⟩ : Ry)])) :: [])) rfl (by kernel_rfl) ?_
                replace H := H.drew
                have HS := H
                refine rk_free (i := 0) rfl kR kR kR kR (Yld.move rfl rfl) (fun _ => (H.sub sU)) ?_; simp only [pS, pE]
                refine rk_free (i := 1) rfl kR kR kR kR (Yld.move rfl rfl) (fun _ => (H.sub sU)) ?_; simp only [pS, pE]
                refine rk_free (i := 2) rfl kR kR kR kR (Yld.move rfl rfl) (fun _ => (H.sub sU)) ?_; simp only [pS, pE]
                refine rk_free (i := 3) rfl kR kR kR kR (Yld.move rfl rfl) (fun _ => (H.sub sU)) ?_; simp only [pS, pE]
                refine rk_free (i := 4) rfl kR kR kR kR (Yld.o rfl) (fun _ => (H.sub sU)) ?_; simp only [pS]
                refine rk_free (i := 5) rfl kR kR kR kR (Yld.o rfl) (fun _ => (H.sub sU)) ?_; simp only [pS]
                refine rk_take (i := 6) rfl kR kR kR kR kR kR (Yld.lsc rfl rfl agg22 rfl mE (HA7.out a78 c78)) (H.sub sU) ?_; simp only [pS, pE]
                first | (refine rk_take (i := 7) rfl kR kR kR kR kR kR (Yld.ldr rfl rfl agg62 size62 rfl mR sZ) (H.sub sU) ?_; simp only [pS]) | (refine rk_take (i := 7) rfl kR kR kR kR kR kR (Yld.ldl rfl rfl agg62 size62 rfl mR (by simp)) (H.sub sU) ?_; simp only [pS]; simp only [List.drop_succ_cons, List.drop_zero, List.take_succ_cons, List.take_zero]) | (refine rk_take (i := 7) rfl kR kR kR kR kR kR (Yld.ldor rfl rfl agg62 size62 rfl (by assumption) sZ (by assumption)) (H.sub sU) ?_; simp only [pS])
                refine rk_one (i := 8) (by kernel_rfl) rfl rfl (fun K hK => ?_)
                refine Stp.wp (Stp.bsl (e := 62) (cs := #[.int .i64 V.kd, .int .u64 (V.x.id : Int), .slice h.ma V.x.mem.length h.mc, .slice h.la V.x.lvs.length h.lc, .slice h.da V.x.ldr.length h.dc, .int .u16 (V.p.1 : Int), .int .u32 (V.p.2 : Int), .int .u64 (V.n : Int), .slice h.ba V.data.length h.bc]) 92 rfl rfl (fun W => by kernel_rfl) H ?_)
                clear H
                intro g92 w1 H
                clear HS
                have HS := H
                refine hK.out _ _ (fun _ => (H.sub sU)) ?_
                clear hK K
                simp only [pS]
                refine rk_one (i := 9) (by kernel_rfl) rfl rfl (fun K hK => ?_)
                refine Stp.wp (Stp.app 93 rfl rfl Try.underlying22 info62 rfl (by decide) rfl rfl H (fun _ => uP) (show (#[.int .i64 V.kd, .int .u64 (V.x.id : Int), .slice h.ma V.x.mem.length h.mc, .slice h.la V.x.lvs.length h.lc, .slice h.da V.x.ldr.length h.dc, .int .u16 (V.p.1 : Int), .int .u32 (V.p.2 : Int), .int .u64 (V.n : Int), .slice h.ba V.data.length h.bc].toList).length = 1 * 9 from rfl) (newN (H.gr 62)) (evc_one V h) (by unfold maxLen; omega) (by omega) ?_)
                clear H
                intro a93 c93 w1 H
                clear HS
                have HS := H
                refine hK.out _ _ (fun _ => (H.sub sU)) ?_
                clear hK K
                simp only [pS]
                refine rk_free (i := 10) rfl kR kR kR kR (Yld.o rfl) (fun _ => (H.sub sU)) ?_; simp only [pS]
                refine rk_free (i := 11) rfl kR kR kR kR (Yld.o rfl) (fun _ => (H.sub sU)) ?_; simp only [pS]
                refine rk_one (i := 12) (by kernel_rfl) rfl rfl (fun K hK => ?_)
                refine Stp.wp (Stp.ssc (v := .slice a93 (tl + 1) c93) rfl size22 rfl rfl rfl rfl H uP (by omega) ?_)
                clear H
                intro w1 H
                rw [HS7.out a78 c78] at H
                clear HS
                have HS := H
                refine hK.out _ _ (fun h => by cases (show true = false from h)) ?_
                clear hK K
                simp only [pS]
                refine rk_done (by kernel_rfl) ?_
                go_wp2_with (first | (with_reducible refine wpl rfl (ldQ (ty := 22) rfl ?_); first | (with_reducible refine (Stp.ldo rfl agg22 rfl H (by assumption) (by assumption) ?_); simp only [pS]) | (with_reducible refine (Stp.ldc rfl agg22 rfl H mR cE ?_); simp only [pS])) | (with_reducible refine wpl rfl (ldQ (ty := 62) rfl ?_); first | (with_reducible refine (Stp.ldor rfl agg62 size62 rfl H (by assumption) sZ (by assumption) ?_); simp only [pS]) | (with_reducible refine (Stp.ldr rfl agg62 size62 rfl H mR sZ ?_); simp only [pS]) | (with_reducible refine (Stp.ldl rfl agg62 size62 rfl H mR (by simp) ?_); simp only [pS]; simp only [List.drop_succ_cons, List.drop_zero, List.take_succ_cons, List.take_zero])) | (with_reducible refine wpl rfl (dQ 7 rfl ?_); with_reducible refine (Stp.alloc 7 rfl rfl zero62 H ?_); clear H; intro g7 w1 H; simp only [pS]; simp only [nC] at H) | (with_reducible refine wpl rfl (stQ (ty := 62) rfl ?_); first | (with_reducible refine (Stp.str rfl size62 rfl rfl (by first | rfl | (simp [Value.oneCell']; done) | assumption) H uP sZ sZ ?_); clear H; intro w1 H; simp only [pS]) | (with_reducible refine (Stp.stl rfl size62 rfl rfl rfl rfl H uP (by simp) ?_); clear H; intro w1 H; simp only [pS]; simp only [List.drop_succ_cons, List.drop_zero, List.take_succ_cons, List.take_zero, List.nil_append, List.cons_append, Nat.reduceAdd] at H)) | (with_reducible refine wpl rfl (ldQ (ty := 3) rfl ?_); first | (with_reducible refine (Stp.ldo rfl agg3 rfl H (by assumption) (by assumption) ?_); simp only [pS]) | (with_reducible refine (Stp.ldc rfl agg3 rfl H mR cE ?_); simp only [pS])) | (with_reducible refine wpl rfl (stQ (ty := 4) rfl ?_); first | (with_reducible refine (Stp.stc rfl size4 rfl rfl rfl rfl H uP (by first | omega | (simp; done) | (simp; omega)) ?_); clear H; intro w1 H; simp only [pS]; simp only [pE, nC, pS] at H)) | (with_reducible refine wpl rfl (ldQ (ty := 37) rfl ?_); first | (with_reducible refine (Stp.ldo rfl agg37 rfl H (by assumption) (by assumption) ?_); simp only [pS]) | (with_reducible refine (Stp.ldc rfl agg37 rfl H mR cE ?_); simp only [pS])) | (with_reducible refine wpl rfl (stQ (ty := 37) rfl ?_); first | (with_reducible refine (Stp.stc rfl size37 rfl rfl rfl rfl H uP (by first | omega | (simp; done) | (simp; omega)) ?_); clear H; intro w1 H; simp only [pS]; simp only [pE, nC, pS] at H)) | (with_reducible refine wpl rfl (ldQ (ty := 43) rfl ?_); first | (with_reducible refine (Stp.ldor rfl agg43 size43 rfl H (by assumption) sZ (by assumption) ?_); simp only [pS]) | (with_reducible refine (Stp.ldr rfl agg43 size43 rfl H mR sZ ?_); simp only [pS]) | (with_reducible refine (Stp.ldl rfl agg43 size43 rfl H mR (by simp) ?_); simp only [pS]; simp only [List.drop_succ_cons, List.drop_zero, List.take_succ_cons, List.take_zero])))
                go_roundw
                case rel =>
                  have H4 := ((((H.pull (r := rdR G1 R1) pU).pull (r := slc 62 9 (.slice a93 (tl + 1) c93) _ _) pU).pull (r := slc 62 9 (.slice a78 (le + 1) c78) _ _) pU).pull (r := slc 43 11 (.slice (some ⟨go, 0, none⟩) (m + 1) oc1) _ _) pU).sub (L' := _ :: _ :: _ :: _ :: []) sU
                  rw [HF2.out, HF3.out] at H4
                  exact ⟨k + 1, by omega, by go_num, .inr ⟨R1, m, V0, h0, all ++ [(V, h)], a78, c78, le + 1, told ++ [(V, h)], a93, c93, tl + 1, f1, f2, n3, some ⟨go, 0, none⟩, oc1, G1, HM, HLA2, HLT2, rfl, rfl, by omega, by omega, by omega, HO2, H4⟩⟩
                case measure => simp [intOf]; omega
              · have hki2 : (V.kd == 2) = false := by simpa using hk2
                have HO2 : Hid (Op4 (all4 (ls.take q)) x.p (x.l.take (k + 1)) R1 (V0, h0) (all ++ [(V, h)]) told) := Lib.hid (by rw [HTj.out]; exact op4_add HO.out HK.out hk2)
                clear hk2
                go_wp2_with (first | (with_reducible refine wpl rfl (ldQ (ty := 22) rfl ?_); first | (with_reducible refine (Stp.ldo rfl agg22 rfl H (by assumption) (by assumption) ?_); simp only [pS]) | (with_reducible refine (Stp.ldc rfl agg22 rfl H mR cE ?_); simp only [pS])) | (with_reducible refine wpl rfl (ldQ (ty := 62) rfl ?_); first | (with_reducible refine (Stp.ldor rfl agg62 size62 rfl H (by assumption) sZ (by assumption) ?_); simp only [pS]) | (with_reducible refine (Stp.ldr rfl agg62 size62 rfl H mR sZ ?_); simp only [pS]) | (with_reducible refine (Stp.ldl rfl agg62 size62 rfl H mR (by simp) ?_); simp only [pS]; simp only [List.drop_succ_cons, List.drop_zero, List.take_succ_cons, List.take_zero])) | (with_reducible refine wpl rfl (dQ 7 rfl ?_); with_reducible refine (Stp.alloc 7 rfl rfl zero62 H ?_); clear H; intro g7 w1 H; simp only [pS]; simp only [nC] at H) | (with_reducible refine wpl rfl (stQ (ty := 62) rfl ?_); first | (with_reducible refine (Stp.str rfl size62 rfl rfl (by first | rfl | (simp [Value.oneCell']; done) | assumption) H uP sZ sZ ?_); clear H; intro w1 H; simp only [pS]) | (with_reducible refine (Stp.stl rfl size62 rfl rfl rfl rfl H uP (by simp) ?_); clear H; intro w1 H; simp only [pS]; simp only [List.drop_succ_cons, List.drop_zero, List.take_succ_cons, List.take_zero, List.nil_append, List.cons_append, Nat.reduceAdd] at H)) | (with_reducible refine wpl rfl (ldQ (ty := 3) rfl ?_); first | (with_reducible refine (Stp.ldo rfl agg3 rfl H (by assumption) (by assumption) ?_); simp only [pS]) | (with_reducible refine (Stp.ldc rfl agg3 rfl H mR cE ?_); simp only [pS])) | (with_reducible refine wpl rfl (stQ (ty := 4) rfl ?_); first | (with_reducible refine (Stp.stc rfl size4 rfl rfl rfl rfl H uP (by first | omega | (simp; done) | (simp; omega)) ?_); clear H; intro w1 H; simp only [pS]; simp only [pE, nC, pS] at H)) | (with_reducible refine wpl rfl (ldQ (ty := 37) rfl ?_); first | (with_reducible refine (Stp.ldo rfl agg37 rfl H (by assumption) (by assumption) ?_); simp only [pS]) | (with_reducible refine (Stp.ldc rfl agg37 rfl H mR cE ?_); simp only [pS])) | (with_reducible refine wpl rfl (stQ (ty := 37) rfl ?_); first | (with_reducible refine (Stp.stc rfl size37 rfl rfl rfl rfl H uP (by first | omega | (simp; done) | (simp; omega)) ?_); clear H; intro w1 H; simp only [pS]; simp only [pE, nC, pS] at H)) | (with_reducible refine wpl rfl (ldQ (ty := 43) rfl ?_); first | (with_reducible refine (Stp.ldor rfl agg43 size43 rfl H (by assumption) sZ (by assumption) ?_); simp only [pS]) | (with_reducible refine (Stp.ldr rfl agg43 size43 rfl H mR sZ ?_); simp only [pS]) | (with_reducible refine (Stp.ldl rfl agg43 size43 rfl H mR (by simp) ?_); simp only [pS]; simp only [List.drop_succ_cons, List.drop_zero, List.take_succ_cons, List.take_zero])))
                refine rk_begin 12 13 (fun W => St w.heap.size w W (row 62 g7 #[.int .i64 V.kd, .int .u64 (V.x.id : Int), .slice h.ma V.x.mem.length h.mc, .slice h.la V.x.lvs.length h.lc, .slice h.da V.x.ldr.length h.dc, .int .u16 (V.p.1 : Int), .int .u32 (V.p.2 : Int), .int .u64 (V.n : Int), .slice h.ba V.data.length h.bc] :: slc 43 11 (.slice (some ⟨go, 0, none⟩) (m + 1) oc1) (m + 1) (fv ryc (R1 ++ [(⟨⟨x.p, (V0, h0), all, aa, ac, told, ta, tc, f1⟩, f2, n3⟩ : Ry)])) :: [])) rfl (by kernel_rfl) ?_
                replace H := H.drew
                have HS := H
                refine rk_free (i := 0) rfl kR kR kR kR (Yld.move rfl rfl) (fun _ => (H.sub sU)) ?_; simp only [pS, pE]
                refine rk_free (i := 1) rfl kR kR kR kR (Yld.move rfl rfl) (fun _ => (H.sub sU)) ?_; simp only [pS, pE]
                refine rk_free (i := 2) rfl kR kR kR kR (Yld.move rfl rfl) (fun _ => (H.sub sU)) ?_; simp only [pS, pE]
                refine rk_free (i := 3) rfl kR kR kR kR (Yld.move rfl rfl) (fun _ => (H.sub sU)) ?_; simp only [pS, pE]
                refine rk_free (i := 4) rfl kR kR kR kR (Yld.o rfl) (fun _ => (H.sub sU)) ?_; simp only [pS]
                refine rk_free (i := 5) rfl kR kR kR kR (Yld.o rfl) (fun _ => (H.sub sU)) ?_; simp only [pS]
                refine rk_take (i := 6) rfl kR kR kR kR kR kR (Yld.lsc rfl rfl agg22 rfl mE HA6.out) (H.sub sU) ?_; simp only [pS, pE]
                first | (refine rk_take (i := 7) rfl kR kR kR kR kR kR (Yld.ldr rfl rfl agg62 size62 rfl mR sZ) (H.sub sU) ?_; simp only [pS]) | (refine rk_take (i := 7) rfl kR kR kR kR kR kR (Yld.ldl rfl rfl agg62 size62 rfl mR (by simp)) (H.sub sU) ?_; simp only [pS]; simp only [List.drop_succ_cons, List.drop_zero, List.take_succ_cons, List.take_zero]) | (refine rk_take (i := 7) rfl kR kR kR kR kR kR (Yld.ldor rfl rfl agg62 size62 rfl (by assumption) sZ (by assumption)) (H.sub sU) ?_; simp only [pS])
                refine rk_one (i := 8) (by kernel_rfl) rfl rfl (fun K hK => ?_)
                refine Stp.wp (Stp.bsl (e := 62) (cs := #[.int .i64 V.kd, .int .u64 (V.x.id : Int), .slice h.ma V.x.mem.length h.mc, .slice h.la V.x.lvs.length h.lc, .slice h.da V.x.ldr.length h.dc, .int .u16 (V.p.1 : Int), .int .u32 (V.p.2 : Int), .int .u64 (V.n : Int), .slice h.ba V.data.length h.bc]) 77 rfl rfl (fun W => by kernel_rfl) H ?_)
                clear H
                intro g77 w1 H
                clear HS
                have HS := H
                refine hK.out _ _ (fun _ => (H.sub sU)) ?_
                clear hK K
                simp only [pS]
                refine rk_one (i := 9) (by kernel_rfl) rfl rfl (fun K hK => ?_)
                refine Stp.wp (Stp.app 78 rfl rfl Try.underlying22 info62 rfl (by decide) rfl rfl H (fun _ => uP) (show (#[.int .i64 V.kd, .int .u64 (V.x.id : Int), .slice h.ma V.x.mem.length h.mc, .slice h.la V.x.lvs.length h.lc, .slice h.da V.x.ldr.length h.dc, .int .u16 (V.p.1 : Int), .int .u32 (V.p.2 : Int), .int .u64 (V.n : Int), .slice h.ba V.data.length h.bc].toList).length = 1 * 9 from rfl) (newN (H.gr 62)) (evc_one V h) (by unfold maxLen; omega) (by omega) ?_)
                clear H
                intro a78 c78 w1 H
                clear HS
                have HS := H
                refine hK.out _ _ (fun _ => (H.sub sU)) ?_
                clear hK K
                simp only [pS]
                refine rk_free (i := 10) rfl kR kR kR kR (Yld.o rfl) (fun _ => (H.sub sU)) ?_; simp only [pS]
                refine rk_free (i := 11) rfl kR kR kR kR (Yld.o rfl) (fun _ => (H.sub sU)) ?_; simp only [pS]
                refine rk_one (i := 12) (by kernel_rfl) rfl rfl (fun K hK => ?_)
                refine Stp.wp (Stp.ssc (v := .slice a78 (le + 1) c78) rfl size22 rfl rfl rfl rfl H uP (by omega) ?_)
                clear H
                intro w1 H
                rw [HS6.out] at H
                clear HS
                have HS := H
                refine hK.out _ _ (fun h => by cases (show true = false from h)) ?_
                clear hK K
                simp only [pS]
                refine rk_done (by kernel_rfl) ?_
                go_wp2_with (first | (with_reducible refine wpl rfl (ldQ (ty := 22) rfl ?_); first | (with_reducible refine (Stp.ldo rfl agg22 rfl H (by assumption) (by assumption) ?_); simp only [pS]) | (with_reducible refine (Stp.ldc rfl agg22 rfl H mR cE ?_); simp only [pS])) | (with_reducible refine wpl rfl (ldQ (ty := 62) rfl ?_); first | (with_reducible refine (Stp.ldor rfl agg62 size62 rfl H (by assumption) sZ (by assumption) ?_); simp only [pS]) | (with_reducible refine (Stp.ldr rfl agg62 size62 rfl H mR sZ ?_); simp only [pS]) | (with_reducible refine (Stp.ldl rfl agg62 size62 rfl H mR (by simp) ?_); simp only [pS]; simp only [List.drop_succ_cons, List.drop_zero, List.take_succ_cons, List.take_zero])) | (with_reducible refine wpl rfl (dQ 7 rfl ?_); with_reducible refine (Stp.alloc 7 rfl rfl zero62 H ?_); clear H; intro g7 w1 H; simp only [pS]; simp only [nC] at H) | (with_reducible refine wpl rfl (stQ (ty := 62) rfl ?_); first | (with_reducible refine (Stp.str rfl size62 rfl rfl (by first | rfl | (simp [Value.oneCell']; done) | assumption) H uP sZ sZ ?_); clear H; intro w1 H; simp only [pS]) | (with_reducible refine (Stp.stl rfl size62 rfl rfl rfl rfl H uP (by simp) ?_); clear H; intro w1 H; simp only [pS]; simp only [List.drop_succ_cons, List.drop_zero, List.take_succ_cons, List.take_zero, List.nil_append, List.cons_append, Nat.reduceAdd] at H)) | (with_reducible refine wpl rfl (ldQ (ty := 3) rfl ?_); first | (with_reducible refine (Stp.ldo rfl agg3 rfl H (by assumption) (by assumption) ?_); simp only [pS]) | (with_reducible refine (Stp.ldc rfl agg3 rfl H mR cE ?_); simp only [pS])) | (with_reducible refine wpl rfl (stQ (ty := 4) rfl ?_); first | (with_reducible refine (Stp.stc rfl size4 rfl rfl rfl rfl H uP (by first | omega | (simp; done) | (simp; omega)) ?_); clear H; intro w1 H; simp only [pS]; simp only [pE, nC, pS] at H)) | (with_reducible refine wpl rfl (ldQ (ty := 37) rfl ?_); first | (with_reducible refine (Stp.ldo rfl agg37 rfl H (by assumption) (by assumption) ?_); simp only [pS]) | (with_reducible refine (Stp.ldc rfl agg37 rfl H mR cE ?_); simp only [pS])) | (with_reducible refine wpl rfl (stQ (ty := 37) rfl ?_); first | (with_reducible refine (Stp.stc rfl size37 rfl rfl rfl rfl H uP (by first | omega | (simp; done) | (simp; omega)) ?_); clear H; intro w1 H; simp only [pS]; simp only [pE, nC, pS] at H)) | (with_reducible refine wpl rfl (ldQ (ty := 43) rfl ?_); first | (with_reducible refine (Stp.ldor rfl agg43 size43 rfl H (by assumption) sZ (by assumption) ?_); simp only [pS]) | (with_reducible refine (Stp.ldr rfl agg43 size43 rfl H mR sZ ?_); simp only [pS]) | (with_reducible refine (Stp.ldl rfl agg43 size43 rfl H mR (by simp) ?_); simp only [pS]; simp only [List.drop_succ_cons, List.drop_zero, List.take_succ_cons, List.take_zero])))
                go_roundw
                case rel =>
                  have H4 := ((((H.pull (r := rdR G1 R1) pU).pull (r := slc 62 9 (.slice ta tl tc) _ _) pU).pull (r := slc 62 9 (.slice a78 (le + 1) c78) _ _) pU).pull (r := slc 43 11 (.slice (some ⟨go, 0, none⟩) (m + 1) oc1) _ _) pU).sub (L' := _ :: _ :: _ :: _ :: []) sU
                  rw [HF2.out] at H4
                  exact ⟨k + 1, by omega, by go_num, .inr ⟨R1, m, V0, h0, all ++ [(V, h)], a78, c78, le + 1, told, ta, tc, tl, f1, f2, n3, some ⟨go, 0, none⟩, oc1, G1, HM, HLA2, HLT, rfl, rfl, by omega, by omega, by omega, HO2, H4⟩⟩
                case measure => simp [intOf]; omega
        · obtain rfl : k = L := by omega
          have HXL : Hid (x.l.take k = x.l) := Lib.hid (List.take_of_length_le (by rw [HL.out]; omega))
          rcases hrel with ⟨HS, rfl, rfl, H⟩ | ⟨R1, m, V0, h0, all, aa, ac, le, told, ta, tc, tl, f1, f2, n3, oa1, oc1, G1, HM, HLA, HLT, rfl, rfl, hle, htl, hmk, HO, H⟩
          · have HR2 : Hid (R.map ryd = all4 (ls.take (q + 1))) := Lib.hid (by rw [all4_snoc HTk.out, HRD.out]; unfold life4; rw [← HXL.out, HS.out]; simp)
            go_wp2_with (first | (with_reducible refine wpl rfl (ldQ (ty := 22) rfl ?_); first | (with_reducible refine (Stp.ldo rfl agg22 rfl H (by assumption) (by assumption) ?_); simp only [pS]) | (with_reducible refine (Stp.ldc rfl agg22 rfl H mR cE ?_); simp only [pS])) | (with_reducible refine wpl rfl (ldQ (ty := 62) rfl ?_); first | (with_reducible refine (Stp.ldor rfl agg62 size62 rfl H (by assumption) sZ (by assumption) ?_); simp only [pS]) | (with_reducible refine (Stp.ldr rfl agg62 size62 rfl H mR sZ ?_); simp only [pS]) | (with_reducible refine (Stp.ldl rfl agg62 size62 rfl H mR (by simp) ?_); simp only [pS]; simp only [List.drop_succ_cons, List.drop_zero, List.take_succ_cons, List.take_zero])) | (with_reducible refine wpl rfl (dQ 7 rfl ?_); with_reducible refine (Stp.alloc 7 rfl rfl zero62 H ?_); clear H; intro g7 w1 H; simp only [pS]; simp only [nC] at H) | (with_reducible refine wpl rfl (stQ (ty := 62) rfl ?_); first | (with_reducible refine (Stp.str rfl size62 rfl rfl (by first | rfl | (simp [Value.oneCell']; done) | assumption) H uP sZ sZ ?_); clear H; intro w1 H; simp only [pS]) | (with_reducible refine (Stp.stl rfl size62 rfl rfl rfl rfl H uP (by simp) ?_); clear H; intro w1 H; simp only [pS]; simp only [List.drop_succ_cons, List.drop_zero, List.take_succ_cons, List.take_zero, List.nil_append, List.cons_append, Nat.reduceAdd] at H)) | (with_reducible refine wpl rfl (ldQ (ty := 3) rfl ?_); first | (with_reducible refine (Stp.ldo rfl agg3 rfl H (by assumption) (by assumption) ?_); simp only [pS]) | (with_reducible refine (Stp.ldc rfl agg3 rfl H mR cE ?_); simp only [pS])) | (with_reducible refine wpl rfl (stQ (ty := 4) rfl ?_); first | (with_reducible refine (Stp.stc rfl size4 rfl rfl rfl rfl H uP (by first | omega | (simp; done) | (simp; omega)) ?_); clear H; intro w1 H; simp only [pS]; simp only [pE, nC, pS] at H)) | (with_reducible refine wpl rfl (ldQ (ty := 37) rfl ?_); first | (with_reducible refine (Stp.ldo rfl agg37 rfl H (by assumption) (by assumption) ?_); simp only [pS]) | (with_reducible refine (Stp.ldc rfl agg37 rfl H mR cE ?_); simp only [pS])) | (with_reducible refine wpl rfl (stQ (ty := 37) rfl ?_); first | (with_reducible refine (Stp.stc rfl size37 rfl rfl rfl rfl H uP (by first | omega | (simp; done) | (simp; omega)) ?_); clear H; intro w1 H; simp only [pS]; simp only [pE, nC, pS] at H)) | (with_reducible refine wpl rfl (ldQ (ty := 43) rfl ?_); first | (with_reducible refine (Stp.ldor rfl agg43 size43 rfl H (by assumption) sZ (by assumption) ?_); simp only [pS]) | (with_reducible refine (Stp.ldr rfl agg43 size43 rfl H mR sZ ?_); simp only [pS]) | (with_reducible refine (Stp.ldl rfl agg43 size43 rfl H mR (by simp) ?_); simp only [pS]; simp only [List.drop_succ_cons, List.drop_zero, List.take_succ_cons, List.take_zero])))
            go_roundw
            case rel => exact ⟨q + 1, R, c0, oa, oc, G, by omega, by go_num, rfl, HRL, HR2, by omega, H⟩
            case measure => simp [intOf]; omega
          · have HR2 : Hid ((R1 ++ [(⟨⟨x.p, (V0, h0), all, aa, ac, told, ta, tc, f1⟩, f2, n3⟩ : Ry)]).map ryd = all4 (ls.take (q + 1))) := Lib.hid (by
              rw [all4_snoc HTk.out]
              have := HO.out
              rw [HXL.out] at this
              exact this.out _ rfl rfl rfl rfl)
            have HM2 : Hid ((R1 ++ [(⟨⟨x.p, (V0, h0), all, aa, ac, told, ta, tc, f1⟩, f2, n3⟩ : Ry)]).length = m + 1) := Lib.hid (by rw [List.length_append, HM.out]; rfl)
            go_wp2_with (first | (with_reducible refine wpl rfl (ldQ (ty := 22) rfl ?_); first | (with_reducible refine (Stp.ldo rfl agg22 rfl H (by assumption) (by assumption) ?_); simp only [pS]) | (with_reducible refine (Stp.ldc rfl agg22 rfl H mR cE ?_); simp only [pS])) | (with_reducible refine wpl rfl (ldQ (ty := 62) rfl ?_); first | (with_reducible refine (Stp.ldor rfl agg62 size62 rfl H (by assumption) sZ (by assumption) ?_); simp only [pS]) | (with_reducible refine (Stp.ldr rfl agg62 size62 rfl H mR sZ ?_); simp only [pS]) | (with_reducible refine (Stp.ldl rfl agg62 size62 rfl H mR (by simp) ?_); simp only [pS]; simp only [List.drop_succ_cons, List.drop_zero, List.take_succ_cons, List.take_zero])) | (with_reducible refine wpl rfl (dQ 7 rfl ?_); with_reducible refine (Stp.alloc 7 rfl rfl zero62 H ?_); clear H; intro g7 w1 H; simp only [pS]; simp only [nC] at H) | (with_reducible refine wpl rfl (stQ (ty := 62) rfl ?_); first | (with_reducible refine (Stp.str rfl size62 rfl rfl (by first | rfl | (simp [Value.oneCell']; done) | assumption) H uP sZ sZ ?_); clear H; intro w1 H; simp only [pS]) | (with_reducible refine (Stp.stl rfl size62 rfl rfl rfl rfl H uP (by simp) ?_); clear H; intro w1 H; simp only [pS]; simp only [List.drop_succ_cons, List.drop_zero, List.take_succ_cons, List.take_zero, List.nil_append, List.cons_append, Nat.reduceAdd] at H)) | (with_reducible refine wpl rfl (ldQ (ty := 3) rfl ?_); first | (with_reducible refine (Stp.ldo rfl agg3 rfl H (by assumption) (by assumption) ?_); simp only [pS]) | (with_reducible refine (Stp.ldc rfl agg3 rfl H mR cE ?_); simp only [pS])) | (with_reducible refine wpl rfl (stQ (ty := 4) rfl ?_); first | (with_reducible refine (Stp.stc rfl size4 rfl rfl rfl rfl H uP (by first | omega | (simp; done) | (simp; omega)) ?_); clear H; intro w1 H; simp only [pS]; simp only [pE, nC, pS] at H)) | (with_reducible refine wpl rfl (ldQ (ty := 37) rfl ?_); first | (with_reducible refine (Stp.ldo rfl agg37 rfl H (by assumption) (by assumption) ?_); simp only [pS]) | (with_reducible refine (Stp.ldc rfl agg37 rfl H mR cE ?_); simp only [pS])) | (with_reducible refine wpl rfl (stQ (ty := 37) rfl ?_); first | (with_reducible refine (Stp.stc rfl size37 rfl rfl rfl rfl H uP (by first | omega | (simp; done) | (simp; omega)) ?_); clear H; intro w1 H; simp only [pS]; simp only [pE, nC, pS] at H)) | (with_reducible refine wpl rfl (ldQ (ty := 43) rfl ?_); first | (with_reducible refine (Stp.ldor rfl agg43 size43 rfl H (by assumption) sZ (by assumption) ?_); simp only [pS]) | (with_reducible refine (Stp.ldr rfl agg43 size43 rfl H mR sZ ?_); simp only [pS]) | (with_reducible refine (Stp.ldl rfl agg43 size43 rfl H mR (by simp) ?_); simp only [pS]; simp only [List.drop_succ_cons, List.drop_zero, List.take_succ_cons, List.take_zero])))
            go_roundw
            case rel =>
              have e1 := HLA.out
              have e2 := HLT.out
              subst e1 e2
              obtain ⟨G', H2⟩ := ((((H.pull (r := rdR G1 R1) pU).pull (r := slc 62 9 (.slice ta _ tc) _ _) pU).pull (r := slc 62 9 (.slice aa _ ac) _ _) pU)).shutR (⟨⟨x.p, (V0, h0), all, aa, ac, told, ta, tc, f1⟩, f2, n3⟩ : Ry) (by show all.length ≤ _; omega) (by show told.length ≤ _; omega)
              exact ⟨q + 1, _, m + 1, oa1, oc1, G', by omega, by go_num, rfl, HM2, HR2, by omega, H2.swap.sub sU⟩
            case measure => simp [intOf]; omega
    · obtain rfl : q = n := by omega
      go_wp2_with (first | (with_reducible refine wpl rfl (ldQ (ty := 22) rfl ?_); first | (with_reducible refine (Stp.ldo rfl agg22 rfl H (by assumption) (by assumption) ?_); simp only [pS]) | (with_reducible refine (Stp.ldc rfl agg22 rfl H mR cE ?_); simp only [pS])) | (with_reducible refine wpl rfl (ldQ (ty := 62) rfl ?_); first | (with_reducible refine (Stp.ldor rfl agg62 size62 rfl H (by assumption) sZ (by assumption) ?_); simp only [pS]) | (with_reducible refine (Stp.ldr rfl agg62 size62 rfl H mR sZ ?_); simp only [pS]) | (with_reducible refine (Stp.ldl rfl agg62 size62 rfl H mR (by simp) ?_); simp only [pS]; simp only [List.drop_succ_cons, List.drop_zero, List.take_succ_cons, List.take_zero])) | (with_reducible refine wpl rfl (dQ 7 rfl ?_); with_reducible refine (Stp.alloc 7 rfl rfl zero62 H ?_); clear H; intro g7 w1 H; simp only [pS]; simp only [nC] at H) | (with_reducible refine wpl rfl (stQ (ty := 62) rfl ?_); first | (with_reducible refine (Stp.str rfl size62 rfl rfl (by first | rfl | (simp [Value.oneCell']; done) | assumption) H uP sZ sZ ?_); clear H; intro w1 H; simp only [pS]) | (with_reducible refine (Stp.stl rfl size62 rfl rfl rfl rfl H uP (by simp) ?_); clear H; intro w1 H; simp only [pS]; simp only [List.drop_succ_cons, List.drop_zero, List.take_succ_cons, List.take_zero, List.nil_append, List.cons_append, Nat.reduceAdd] at H)) | (with_reducible refine wpl rfl (ldQ (ty := 3) rfl ?_); first | (with_reducible refine (Stp.ldo rfl agg3 rfl H (by assumption) (by assumption) ?_); simp only [pS]) | (with_reducible refine (Stp.ldc rfl agg3 rfl H mR cE ?_); simp only [pS])) | (with_reducible refine wpl rfl (stQ (ty := 4) rfl ?_); first | (with_reducible refine (Stp.stc rfl size4 rfl rfl rfl rfl H uP (by first | omega | (simp; done) | (simp; omega)) ?_); clear H; intro w1 H; simp only [pS]; simp only [pE, nC, pS] at H)) | (with_reducible refine wpl rfl (ldQ (ty := 37) rfl ?_); first | (with_reducible refine (Stp.ldo rfl agg37 rfl H (by assumption) (by assumption) ?_); simp only [pS]) | (with_reducible refine (Stp.ldc rfl agg37 rfl H mR cE ?_); simp only [pS])) | (with_reducible refine wpl rfl (stQ (ty := 37) rfl ?_); first | (with_reducible refine (Stp.stc rfl size37 rfl rfl rfl rfl H uP (by first | omega | (simp; done) | (simp; omega)) ?_); clear H; intro w1 H; simp only [pS]; simp only [pE, nC, pS] at H)) | (with_reducible refine wpl rfl (ldQ (ty := 43) rfl ?_); first | (with_reducible refine (Stp.ldor rfl agg43 size43 rfl H (by assumption) sZ (by assumption) ?_); simp only [pS]) | (with_reducible refine (Stp.ldr rfl agg43 size43 rfl H mR sZ ?_); simp only [pS]) | (with_reducible refine (Stp.ldl rfl agg43 size43 rfl H mR (by simp) ?_); simp only [pS]; simp only [List.drop_succ_cons, List.drop_zero, List.take_succ_cons, List.take_zero])))
      go_ret
      refine ⟨_, rfl, ?_, H.below⟩
      exact St.outR HRL.out (by omega) _ (by rw [HRD.out, ← HN.out, List.take_length]) H
end Go.Proofs.Ytbepaafgcbgmfaa
