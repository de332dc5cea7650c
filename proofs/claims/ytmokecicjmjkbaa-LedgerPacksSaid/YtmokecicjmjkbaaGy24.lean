/- The contract of layer 18's Pack (ledger): its bytes; the bounds stand in it. Processes, leaves, views and commands that came in, opened by their cells; no condition. The statement LedgerNil of layer 18 (ledger), proved; no condition: a ledger that is none, the example, the law's walk, and the row round it. The statement LedgerReads of layer 18 (ledger): any bytes are read as the ledger whose bytes they are, or refused, as the reference says; the bounds stand in the walk. The reference's form of ranks and of a view (choragusref08), of a view that may be; the bounds stand in each. -/
import Derived.Test.YtmokecicjmjkbaaGy10
import Derived.Test.YtmokecicjmjkbaaGy16
import Derived.Test.YtmokecicjmjkbaaGy17
import Derived.Test.YtmokecicjmjkbaaGy18
import Derived.Test.YtmokecicjmjkbaaGy19
import Derived.Test.YtmokecicjmjkbaaGy20
import Derived.Test.YtmokecicjmjkbaaGy21
import Derived.Test.YtmokecicjmjkbaaGy22
import Derived.Test.YtmokecicjmjkbaaGy23
namespace Go.Proofs.Ytmokecicjmjkbaa
open Go.ChangeShapes Go.WideShapes Go.ChangeAt Go.RowKit Go.Maps
set_option linter.unusedVariables false
set_option linter.unusedSimpArgs false
set_option linter.unusedSectionVars false
set_option maxRecDepth 100000
set_option maxHeartbeats 4000000
/-- A ledger that lies in memory. -/
def LdW (w : World) (g0 ap : Nat) (ks : List (Cm × Hd)) : Prop := ∃ (ka : Option Addr) (kc : Nat) (G : Nat → Prop), w.heap[g0]? = some (.cells #[.int .u64 (ap : Int), .slice ka ks.length kc] 97 (0, 0)) ∧ ks.length ≤ kc ∧ (0 < ks.length → ∃ gk ok, ka = some ⟨gk, ok, none⟩ ∧ gk < w.heap.size ∧ ∀ d u, (kv ks)[d]? = some u → w.cell? ⟨gk, ok + d, none⟩ = some u) ∧ ∀ p ∈ ks, CmG G w (.slice p.2.ba p.1.data.length p.2.bc) (.slice p.2.ma p.1.v.mem.length p.2.mc) (.slice p.2.la p.1.v.lvs.length p.2.lc) (.slice p.2.da p.1.v.ldr.length p.2.dc) p.1
theorem St.ldw {B : Nat} {w0 w : World} {L : List Res} {g0 ap : Nat} {ks : List (Cm × Hd)} {ka : Option Addr} {kc : Nat} {G : Nat → Prop} (H : St B w0 w L) (h1 : row 97 g0 #[.int .u64 (ap : Int), .slice ka ks.length kc] ∈ L) (h2 : slo 36 10 (.slice ka ks.length kc) ks.length (kv ks) ∈ L) (h3 : cmsr G ks ∈ L) : LdW w g0 ap ks := by
  refine ⟨ka, kc, G, H.getHeap h1, H.slo_cap h2, fun h0 => ?_, H.getCms h3⟩
  obtain ⟨gk, ok, rfl⟩ := H.slo_addr h2 h0
  exact ⟨gk, ok, rfl, (H.sound _ h2).lt gk rfl, fun d u hd => H.slo_cell h2 hd⟩
theorem LdW.grow {w w' : World} {g0 ap : Nat} {ks : List (Cm × Hd)} (h : LdW w g0 ap ks) (hb : Below w.heap.size w w') : LdW w' g0 ap ks := by
  obtain ⟨ka, kc, G, h1, h4, h2, h3⟩ := h
  refine ⟨ka, kc, G, (hb.block g0 (rowAt_lt (rowAt_of h1))).trans h1, h4, fun h0 => ?_, fun p hp => (h3 p hp).grow hb⟩
  obtain ⟨gk, ok, e, hlt, hc⟩ := h2 h0
  exact ⟨gk, ok, e, Nat.lt_of_lt_of_le hlt hb.size, fun d u hd => (hb.cell (p := ⟨gk, ok + d, none⟩) hlt).trans (hc d u hd)⟩
attribute [local irreducible] cErr cmB
theorem lpack_ok (g0 ap : Nat) (ks : List (Cm × Hd)) (m : List Nat) (ha : ap < 18446744073709551616) (hn : ks.length ≤ 64) (hok : ∀ p ∈ ks, cErr p.1 = 0 ∧ smC p.1 ∧ wfC p.1) (hm : lgB ap (ks.map (·.1)) = m) (w : World) (hw : LdW w g0 ap ks) :
    Calls Try.prog 44 #[.pointer (some ⟨g0, 0, none⟩)] w (Ret fun v' w' => (∃ ap cp, v' = .slice ap m.length cp) ∧ w'.ownsRow w.heap.size 5 1 v' m.length (bv m) ∧ Below w.heap.size w w') := by
  obtain ⟨ka, kc, G, hrow, _, hel, hcm⟩ := hw
  have H := St.init w
  have hc0 : w.cell? ⟨g0, 0, none⟩ = some (.int .u64 (ap : Int)) := by rw [cell_of_rowAt (rowAt_of hrow)]; rfl
  have hc1 : w.cell? ⟨g0, 1, none⟩ = some (.slice ka ks.length kc) := by rw [cell_of_rowAt (rowAt_of hrow)]; rfl
  have hlt0 : g0 < w.heap.size := rowAt_lt (rowAt_of hrow)
  obtain ⟨cs, hcs⟩ : ∃ cs, ks.map (·.1) = cs := ⟨_, rfl⟩
  obtain ⟨n, hkn⟩ : ∃ n, ks.length = n := ⟨_, rfl⟩
  have hcn : cs.length = n := by rw [← hcs, List.length_map, hkn]
  obtain ⟨q1, hq1⟩ : ∃ q1, shortB ap = q1 := ⟨_, rfl⟩
  obtain ⟨q2, hq2⟩ : ∃ q2, q1 ++ shortB n = q2 := ⟨_, rfl⟩
  have hq3 : q2 ++ cs.flatMap cmB = m := by rw [← hm, ← hq2, ← hq1, hcs]; unfold lgB; rw [hcn]
  obtain ⟨z, hz⟩ : ∃ z : List Nat, z = [] := ⟨_, rfl⟩
  have l1 : q1.length ≤ 10 := by rw [← hq1]; exact shortB_len _
  have l2 : q2.length ≤ 20 := by rw [← hq2, List.length_append]; have := shortB_len n; omega
  have HQ1 : Hid (z ++ shortB ap = q1) := Lib.hid (by rw [hz]; exact hq1)
  have HQ2 := Lib.hid hq2
  have HQ3 := Lib.hid hq3
  have HZ := Lib.hid hz
  have HKN := Lib.hid hkn
  have HCN := Lib.hid hcn
  have HCS := Lib.hid hcs
  have HEL := Lib.hid hel
  have HCM := Lib.hid hcm
  have HOKS := Lib.hid hok
  rw [hkn] at hc1 hn
  have w1r : IntKind.u64.wrap (n : Int) = (n : Int) := wrap_u64_in _ (by omega) (by omega)
  clear hrow hcs hkn hcn hq1 hq2 hq3 hz hel hcm hok hm
  go_enter Try.func44, Try.ntmps44
  go_upto_region 4 with (first | (with_reducible refine wpl rfl (dQ 8 rfl ?_); with_reducible refine (Stp.build (v := (.agg #[.slice none 0 0])) 8 rfl rfl (fun W => by kernel_rfl) ?_); simp only [pS]) | (with_reducible refine wpl rfl (dQ 9 rfl ?_); with_reducible refine (Stp.box 9 rfl rfl rfl H ?_); clear H; intro g9 w1 H; simp only [pS]; simp only [pE, nC, pS] at H) | (with_reducible refine wpl rfl (ldQ (ty := 26) rfl ?_); first | (with_reducible refine (Stp.ldo rfl agg26 rfl H (by assumption) (by assumption) ?_); simp only [pS]) | (with_reducible refine (Stp.ldc rfl agg26 rfl H mR cE ?_); simp only [pS])) | (with_reducible refine wpl rfl (ldQ (ty := 93) rfl ?_); first | (with_reducible refine (Stp.ldo rfl agg93 rfl H (by assumption) (by assumption) ?_); simp only [pS]) | (with_reducible refine (Stp.ldc rfl agg93 rfl H mR cE ?_); simp only [pS])) | (with_reducible refine wpl rfl (ldQ (ty := 36) rfl ?_); first | (with_reducible refine (Stp.ldor rfl agg36 size36 rfl H (by assumption) sZ (by assumption) ?_); simp only [pS]) | (with_reducible refine (Stp.ldr rfl agg36 size36 rfl H mR sZ ?_); simp only [pS]) | (with_reducible refine (Stp.ldl rfl agg36 size36 rfl H mR (by simp) ?_); simp only [pS]; simp only [List.drop_succ_cons, List.drop_zero, List.take_succ_cons, List.take_zero])) | (with_reducible refine wpl rfl (dQ 5 rfl ?_); with_reducible refine (Stp.alloc 5 rfl rfl zero36 H ?_); clear H; intro g5 w1 H; simp only [pS]; simp only [nC] at H) | (with_reducible refine wpl rfl (stQ (ty := 36) rfl ?_); first | (with_reducible refine (Stp.str rfl size36 rfl rfl (by first | rfl | (simp [Value.oneCell']; done) | assumption) H uP sZ sZ ?_); clear H; intro w1 H; simp only [pS]) | (with_reducible refine (Stp.stl rfl size36 rfl rfl rfl rfl H uP (by simp) ?_); clear H; intro w1 H; simp only [pS]; simp only [List.drop_succ_cons, List.drop_zero, List.take_succ_cons, List.take_zero, List.nil_append, List.cons_append, Nat.reduceAdd] at H)))
  replace H : St w.heap.size w w1 (row 133 g9 #[.slice none z.length 0] :: slc 5 1 (.slice none z.length 0) z.length (bv z) :: []) := by
    rw [HZ.out]
    show St w.heap.size w w1 (row 133 g9 #[.slice none 0 0] :: slc 5 1 (.slice none 0 0) 0 [] :: [])
    exact ((H.nil 5 1).pull (r := row 133 g9 _) pU)
  go_upto_region 5 with (first | (go_at_call 75; (with_reducible refine (wnum_ok g9 z q1 ap (by rw [HZ.out]; decide) ha HQ1.out _ (WSt.of H pU pU (List.Sublist.refl _))).mono ?_); rintro e w1 ⟨v, rfl, hr⟩; obtain ⟨rfl, a1, c1, H1⟩ := hr; clear H; have H := H1; clear H1) | (with_reducible refine wpl rfl (dQ 9 rfl ?_); with_reducible refine (Stp.box 9 rfl rfl rfl H ?_); clear H; intro g9 w1 H; simp only [pS]; simp only [pE, nC, pS] at H) | (with_reducible refine wpl rfl (ldQ (ty := 26) rfl ?_); first | (with_reducible refine (Stp.ldo rfl agg26 rfl H (by assumption) (by assumption) ?_); simp only [pS]) | (with_reducible refine (Stp.ldc rfl agg26 rfl H mR cE ?_); simp only [pS])) | (with_reducible refine wpl rfl (ldQ (ty := 93) rfl ?_); first | (with_reducible refine (Stp.ldo rfl agg93 rfl H (by assumption) (by assumption) ?_); simp only [pS]) | (with_reducible refine (Stp.ldc rfl agg93 rfl H mR cE ?_); simp only [pS])) | (with_reducible refine wpl rfl (ldQ (ty := 36) rfl ?_); first | (with_reducible refine (Stp.ldor rfl agg36 size36 rfl H (by assumption) sZ (by assumption) ?_); simp only [pS]) | (with_reducible refine (Stp.ldr rfl agg36 size36 rfl H mR sZ ?_); simp only [pS]) | (with_reducible refine (Stp.ldl rfl agg36 size36 rfl H mR (by simp) ?_); simp only [pS]; simp only [List.drop_succ_cons, List.drop_zero, List.take_succ_cons, List.take_zero])) | (with_reducible refine wpl rfl (dQ 5 rfl ?_); with_reducible refine (Stp.alloc 5 rfl rfl zero36 H ?_); clear H; intro g5 w1 H; simp only [pS]; simp only [nC] at H) | (with_reducible refine wpl rfl (stQ (ty := 36) rfl ?_); first | (with_reducible refine (Stp.str rfl size36 rfl rfl (by first | rfl | (simp [Value.oneCell']; done) | assumption) H uP sZ sZ ?_); clear H; intro w1 H; simp only [pS]) | (with_reducible refine (Stp.stl rfl size36 rfl rfl rfl rfl H uP (by simp) ?_); clear H; intro w1 H; simp only [pS]; simp only [List.drop_succ_cons, List.drop_zero, List.take_succ_cons, List.take_zero, List.nil_append, List.cons_append, Nat.reduceAdd] at H)))
  go_upto_region 6 with (first | (go_at_call 75; (with_reducible refine (wnum_ok g9 q1 q2 n (by omega) (by omega) HQ2.out _ (WSt.of H pU pU (List.Sublist.refl _))).mono ?_); rintro e w1 ⟨v, rfl, hr⟩; obtain ⟨rfl, a1, c1, H1⟩ := hr; clear H; have H := H1; clear H1) | (with_reducible refine wpl rfl (dQ 9 rfl ?_); with_reducible refine (Stp.box 9 rfl rfl rfl H ?_); clear H; intro g9 w1 H; simp only [pS]; simp only [pE, nC, pS] at H) | (with_reducible refine wpl rfl (ldQ (ty := 26) rfl ?_); first | (with_reducible refine (Stp.ldo rfl agg26 rfl H (by assumption) (by assumption) ?_); simp only [pS]) | (with_reducible refine (Stp.ldc rfl agg26 rfl H mR cE ?_); simp only [pS])) | (with_reducible refine wpl rfl (ldQ (ty := 93) rfl ?_); first | (with_reducible refine (Stp.ldo rfl agg93 rfl H (by assumption) (by assumption) ?_); simp only [pS]) | (with_reducible refine (Stp.ldc rfl agg93 rfl H mR cE ?_); simp only [pS])) | (with_reducible refine wpl rfl (ldQ (ty := 36) rfl ?_); first | (with_reducible refine (Stp.ldor rfl agg36 size36 rfl H (by assumption) sZ (by assumption) ?_); simp only [pS]) | (with_reducible refine (Stp.ldr rfl agg36 size36 rfl H mR sZ ?_); simp only [pS]) | (with_reducible refine (Stp.ldl rfl agg36 size36 rfl H mR (by simp) ?_); simp only [pS]; simp only [List.drop_succ_cons, List.drop_zero, List.take_succ_cons, List.take_zero])) | (with_reducible refine wpl rfl (dQ 5 rfl ?_); with_reducible refine (Stp.alloc 5 rfl rfl zero36 H ?_); clear H; intro g5 w1 H; simp only [pS]; simp only [nC] at H) | (with_reducible refine wpl rfl (stQ (ty := 36) rfl ?_); first | (with_reducible refine (Stp.str rfl size36 rfl rfl (by first | rfl | (simp [Value.oneCell']; done) | assumption) H uP sZ sZ ?_); clear H; intro w1 H; simp only [pS]) | (with_reducible refine (Stp.stl rfl size36 rfl rfl rfl rfl H uP (by simp) ?_); clear H; intro w1 H; simp only [pS]; simp only [List.drop_succ_cons, List.drop_zero, List.take_succ_cons, List.take_zero, List.nil_append, List.cons_append, Nat.reduceAdd] at H)))
  go_upto_region 7 with (first | (with_reducible refine wpl rfl (dQ 9 rfl ?_); with_reducible refine (Stp.box 9 rfl rfl rfl H ?_); clear H; intro g9 w1 H; simp only [pS]; simp only [pE, nC, pS] at H) | (with_reducible refine wpl rfl (ldQ (ty := 26) rfl ?_); first | (with_reducible refine (Stp.ldo rfl agg26 rfl H (by assumption) (by assumption) ?_); simp only [pS]) | (with_reducible refine (Stp.ldc rfl agg26 rfl H mR cE ?_); simp only [pS])) | (with_reducible refine wpl rfl (ldQ (ty := 93) rfl ?_); first | (with_reducible refine (Stp.ldo rfl agg93 rfl H (by assumption) (by assumption) ?_); simp only [pS]) | (with_reducible refine (Stp.ldc rfl agg93 rfl H mR cE ?_); simp only [pS])) | (with_reducible refine wpl rfl (ldQ (ty := 36) rfl ?_); first | (with_reducible refine (Stp.ldor rfl agg36 size36 rfl H (by assumption) sZ (by assumption) ?_); simp only [pS]) | (with_reducible refine (Stp.ldr rfl agg36 size36 rfl H mR sZ ?_); simp only [pS]) | (with_reducible refine (Stp.ldl rfl agg36 size36 rfl H mR (by simp) ?_); simp only [pS]; simp only [List.drop_succ_cons, List.drop_zero, List.take_succ_cons, List.take_zero])) | (with_reducible refine wpl rfl (dQ 5 rfl ?_); with_reducible refine (Stp.alloc 5 rfl rfl zero36 H ?_); clear H; intro g5 w1 H; simp only [pS]; simp only [nC] at H) | (with_reducible refine wpl rfl (stQ (ty := 36) rfl ?_); first | (with_reducible refine (Stp.str rfl size36 rfl rfl (by first | rfl | (simp [Value.oneCell']; done) | assumption) H uP sZ sZ ?_); clear H; intro w1 H; simp only [pS]) | (with_reducible refine (Stp.stl rfl size36 rfl rfl rfl rfl H uP (by simp) ?_); clear H; intro w1 H; simp only [pS]; simp only [List.drop_succ_cons, List.drop_zero, List.take_succ_cons, List.take_zero, List.nil_append, List.cons_append, Nat.reduceAdd] at H)))
  clear HQ1 HQ2 HZ
  go_loopw [29] (fun i wr => ∃ (k : Nat) (a : Option Addr) (cc : Nat) (r : List Nat), k ≤ n ∧ i = .int .i64 (k : Int) ∧ Hid (q2 ++ (cs.take k).flatMap cmB = r) ∧ Hid (r.length ≤ 20 + 1270 * k) ∧ St w.heap.size w wr (row 133 g9 #[.slice a r.length cc] :: slc 5 1 (.slice a r.length cc) r.length (bv r) :: [])) (fun i _ => n - (intOf i).toNat)
  case atStart => exact ⟨0, _, _, q2, Nat.zero_le _, rfl, Lib.hid (by simp), Lib.hid (by omega), H⟩
  case round =>
    clear H
    obtain ⟨k, a2, c2, r, hk, rfl, HR, HRL, H⟩ := hrel
    by_cases hlt : k < n
    · have hkl : k < ks.length := by rw [HKN.out]; exact hlt
      have hkc : k < cs.length := by rw [HCN.out]; exact hlt
      obtain ⟨gk, ok, rfl, hgk, hcell⟩ := HEL.out (by omega)
      have hgk2 : ks[k]? = some ks[k] := List.getElem?_eq_getElem hkl
      have hmem : ks[k] ∈ ks := List.getElem_mem hkl
      have hck : cs[k] = ks[k].1 := by
        have := HCS.out
        subst this
        rw [List.getElem_map]
      have hsn := List.take_succ_eq_append_getElem hkc
      rw [hck] at hsn
      obtain ⟨p, hp⟩ : ∃ p, ks[k] = p := ⟨_, rfl⟩
      rw [hp] at hgk2 hmem hsn
      obtain ⟨c, h⟩ := p
      obtain ⟨ba, ma, la, da, bc, mc, lc, dc⟩ := h
      have hv := kv_get ks k _ hgk2
      have hcc : ∀ j, j < 10 → w.cell? ⟨gk, ok + k * 10 + j, none⟩ = (cmC c ba ma la da bc mc lc dc)[j]? := fun j hj => by
        have h1 := hv j hj
        have h2 : (cmC c ba ma la da bc mc lc dc)[j]? = some (cmC c ba ma la da bc mc lc dc)[j] := Array.getElem?_eq_getElem (show j < 10 from hj)
        rw [h2]
        have h3 := hcell (k * 10 + j) _ (h1.trans h2)
        rw [← Nat.add_assoc] at h3
        exact h3
      have HOK := Lib.hid (HOKS.out _ hmem)
      have HCX := Lib.hid (HCM.out _ hmem)
      have HSN := Lib.hid (cms_snoc cs hsn)
      obtain ⟨r2, hr2⟩ : ∃ r2, r ++ cmB c = r2 := ⟨_, rfl⟩
      have HR2 := Lib.hid hr2
      have HR3 : Hid (q2 ++ (cs.take (k + 1)).flatMap cmB = r2) := Lib.hid (by rw [HSN.out, ← List.append_assoc, HR.out, hr2])
      have hrl := HRL.out
      have HRL2 : Hid (r2.length ≤ 20 + 1270 * (k + 1)) := Lib.hid (by rw [← hr2, List.length_append]; have := cmB_len (c := c) HOK.out.1; omega)
      have kli : (k : Int) < (n : Int) := by omega
      simp only [cmC] at hcc
      clear hcell hgk2 hmem hck hsn hp hv hr2 hkl hkc
      go_wp2_with (first | (go_at_call 76; (with_reducible refine (cput_ok g9 r r2 c ba ma la da bc mc lc dc HOK.out.1 HOK.out.2.1 HOK.out.2.2 (by omega) HR2.out HCX.out _ (WSt.of H pU pU (List.Sublist.refl _))).mono ?_); rintro e w1 ⟨v, rfl, hr⟩; obtain ⟨rfl, a1, c1, H1⟩ := hr; clear H; have H := H1; clear H1) | (with_reducible refine wpl rfl (dQ 9 rfl ?_); with_reducible refine (Stp.box 9 rfl rfl rfl H ?_); clear H; intro g9 w1 H; simp only [pS]; simp only [pE, nC, pS] at H) | (with_reducible refine wpl rfl (ldQ (ty := 26) rfl ?_); first | (with_reducible refine (Stp.ldo rfl agg26 rfl H (by assumption) (by assumption) ?_); simp only [pS]) | (with_reducible refine (Stp.ldc rfl agg26 rfl H mR cE ?_); simp only [pS])) | (with_reducible refine wpl rfl (ldQ (ty := 93) rfl ?_); first | (with_reducible refine (Stp.ldo rfl agg93 rfl H (by assumption) (by assumption) ?_); simp only [pS]) | (with_reducible refine (Stp.ldc rfl agg93 rfl H mR cE ?_); simp only [pS])) | (with_reducible refine wpl rfl (ldQ (ty := 36) rfl ?_); first | (with_reducible refine (Stp.ldor rfl agg36 size36 rfl H (by assumption) sZ (by assumption) ?_); simp only [pS]) | (with_reducible refine (Stp.ldr rfl agg36 size36 rfl H mR sZ ?_); simp only [pS]) | (with_reducible refine (Stp.ldl rfl agg36 size36 rfl H mR (by simp) ?_); simp only [pS]; simp only [List.drop_succ_cons, List.drop_zero, List.take_succ_cons, List.take_zero])) | (with_reducible refine wpl rfl (dQ 5 rfl ?_); with_reducible refine (Stp.alloc 5 rfl rfl zero36 H ?_); clear H; intro g5 w1 H; simp only [pS]; simp only [nC] at H) | (with_reducible refine wpl rfl (stQ (ty := 36) rfl ?_); first | (with_reducible refine (Stp.str rfl size36 rfl rfl (by first | rfl | (simp [Value.oneCell']; done) | assumption) H uP sZ sZ ?_); clear H; intro w1 H; simp only [pS]) | (with_reducible refine (Stp.stl rfl size36 rfl rfl rfl rfl H uP (by simp) ?_); clear H; intro w1 H; simp only [pS]; simp only [List.drop_succ_cons, List.drop_zero, List.take_succ_cons, List.take_zero, List.nil_append, List.cons_append, Nat.reduceAdd] at H)))
      go_roundw
      case rel => exact ⟨k + 1, _, _, r2, by omega, by go_num, HR3, HRL2, H.sub sU⟩
      case measure => simp [intOf]; omega
    · obtain rfl : k = n := by omega
      have hr := HR.out
      rw [← HCN.out, List.take_length, HQ3.out] at hr
      have hrl := HRL.out
      subst hr
      go_wp2_with (first | (go_at_call 77; (with_reducible refine (wdone_ok g9 m (by omega) _ (WSt.of H pU pU (List.Sublist.refl _))).mono ?_); rintro e w1 ⟨v, rfl, hr⟩; obtain ⟨⟨am, cm, rfl⟩, ho, hb1⟩ := hr; replace H := H.new hb1 (slc_sound ho) (fun g hg => (ho.lt g hg).1); clear hb1 ho) | (with_reducible refine wpl rfl (dQ 9 rfl ?_); with_reducible refine (Stp.box 9 rfl rfl rfl H ?_); clear H; intro g9 w1 H; simp only [pS]; simp only [pE, nC, pS] at H) | (with_reducible refine wpl rfl (ldQ (ty := 26) rfl ?_); first | (with_reducible refine (Stp.ldo rfl agg26 rfl H (by assumption) (by assumption) ?_); simp only [pS]) | (with_reducible refine (Stp.ldc rfl agg26 rfl H mR cE ?_); simp only [pS])) | (with_reducible refine wpl rfl (ldQ (ty := 93) rfl ?_); first | (with_reducible refine (Stp.ldo rfl agg93 rfl H (by assumption) (by assumption) ?_); simp only [pS]) | (with_reducible refine (Stp.ldc rfl agg93 rfl H mR cE ?_); simp only [pS])) | (with_reducible refine wpl rfl (ldQ (ty := 36) rfl ?_); first | (with_reducible refine (Stp.ldor rfl agg36 size36 rfl H (by assumption) sZ (by assumption) ?_); simp only [pS]) | (with_reducible refine (Stp.ldr rfl agg36 size36 rfl H mR sZ ?_); simp only [pS]) | (with_reducible refine (Stp.ldl rfl agg36 size36 rfl H mR (by simp) ?_); simp only [pS]; simp only [List.drop_succ_cons, List.drop_zero, List.take_succ_cons, List.take_zero])) | (with_reducible refine wpl rfl (dQ 5 rfl ?_); with_reducible refine (Stp.alloc 5 rfl rfl zero36 H ?_); clear H; intro g5 w1 H; simp only [pS]; simp only [nC] at H) | (with_reducible refine wpl rfl (stQ (ty := 36) rfl ?_); first | (with_reducible refine (Stp.str rfl size36 rfl rfl (by first | rfl | (simp [Value.oneCell']; done) | assumption) H uP sZ sZ ?_); clear H; intro w1 H; simp only [pS]) | (with_reducible refine (Stp.stl rfl size36 rfl rfl rfl rfl H uP (by simp) ?_); clear H; intro w1 H; simp only [pS]; simp only [List.drop_succ_cons, List.drop_zero, List.take_succ_cons, List.take_zero, List.nil_append, List.cons_append, Nat.reduceAdd] at H)))
      go_ret
      exact ⟨_, rfl, ⟨_, _, rfl⟩, H.getSlc mE, H.below⟩
end Go.Proofs.Ytmokecicjmjkbaa
namespace Go.Proofs.Ytmokecicjmjkbaa
open Go.ChangeShapes Go.WideShapes Go.ChangeAt Go.RowKit Go.Deep
set_option linter.unusedVariables false
set_option linter.unusedSimpArgs false
set_option maxRecDepth 100000
/-- The blocks that were there. -/
abbrev Old (W : World) : Nat → Prop := fun b => b < W.heap.size
section
variable {H : Type} {enc : TypeId × Value → H}
theorem cells_ps {fuel : Nat} {W : World} {cs : List Value} {y : DataW H × List MemPlace} (hf : DataW.trod enc Try.prog W 0 (fun _ => true) true fuel 31 cs = some y) :
    ∃ (a : Option Addr) (c : Nat) (l : List Pr), cs = [.slice a l.length c] ∧ l.length ≤ c ∧ okPids l ∧ SlG (Old W) W 2 l.length (.slice a l.length c) (elQ l) := by
  obtain ⟨a, n, c, E, rfl, hc, hS, hel⟩ := cells_sl (size := 2) Try.underlying31 (by kernel_rfl) (by omega) hf
  have hex : ∀ i, ∃ q : Pr, i < n → E i = #[.int .u16 (q.1 : Int), .int .u32 (q.2 : Int)] ∧ q.1 < 65536 ∧ q.2 < 4294967296 := fun i => by
    by_cases hi : i < n
    · obtain ⟨hs, fuel, y, ht⟩ := hel i hi
      obtain ⟨p, q, e0, h1, h2⟩ := cells_pid ht
      exact ⟨(p, q), fun _ => ⟨Array.toList_inj.1 e0, h1, h2⟩⟩
    · exact ⟨(0, 0), fun hn => absurd hn hi⟩
  have hlen : ((List.range n).map fun i => Classical.choose (hex i)).length = n := by simp
  refine ⟨a, c, (List.range n).map fun i => Classical.choose (hex i), by rw [hlen], by rw [hlen]; exact hc, ?_, ?_⟩
  · intro q hq
    obtain ⟨i, hi, rfl⟩ := List.mem_map.1 hq
    exact ((Classical.choose_spec (hex i)) (by simpa using hi)).2
  · rw [hlen]
    refine SlG.of_sl ?_
    obtain ⟨a', c', e, hm, hc'⟩ := hS
    injection e with e1 e2 e3
    subst e1
    refine ⟨a, c, rfl, hm, fun h0 => ?_⟩
    obtain ⟨b, off, rfl, hb, hcell⟩ := hc' h0
    refine ⟨b, off, rfl, hb, fun i hi j hj => ?_⟩
    rw [hcell i hi j hj, (Classical.choose_spec (hex i) hi).1]
    simp [elQ, List.getD, hi]
theorem cells_lv {fuel : Nat} {W : World} {cs : List Value} {y : DataW H × List MemPlace} (hf : DataW.trod enc Try.prog W 0 (fun _ => true) true fuel 32 cs = some y) :
    ∃ (a : Option Addr) (c : Nat) (ls : List (List Pr)), cs = [.slice a ls.length c] ∧ ls.length ≤ c ∧ (∀ l ∈ ls, okPids l) ∧ LvG (Old W) W (.slice a ls.length c) ls := by
  obtain ⟨a, n, c, E, rfl, hc, hS, hel⟩ := cells_sl (size := 1) Try.underlying32 (by kernel_rfl) (by omega) hf
  have hex : ∀ i, ∃ q : Option Addr × Nat × List Pr, i < n → E i = #[.slice q.1 q.2.2.length q.2.1] ∧ okPids q.2.2 ∧ SlG (Old W) W 2 q.2.2.length (.slice q.1 q.2.2.length q.2.1) (elQ q.2.2) := fun i => by
    by_cases hi : i < n
    · obtain ⟨hs, fuel, y, ht⟩ := hel i hi
      obtain ⟨p, q, l, e0, _, h1, h2⟩ := cells_ps ht
      exact ⟨(p, q, l), fun _ => ⟨Array.toList_inj.1 e0, h1, h2⟩⟩
    · exact ⟨(none, 0, []), fun hn => absurd hn hi⟩
  have hlen : ((List.range n).map fun i => (Classical.choose (hex i)).2.2).length = n := by simp
  have hget : ∀ i, i < n → ((List.range n).map fun i => (Classical.choose (hex i)).2.2).getD i [] = (Classical.choose (hex i)).2.2 := fun i hi => by simp [List.getD, hi]
  refine ⟨a, c, (List.range n).map fun i => (Classical.choose (hex i)).2.2, by rw [hlen], by rw [hlen]; exact hc, ?_, ?_⟩
  · intro q hq
    obtain ⟨i, hi, rfl⟩ := List.mem_map.1 hq
    exact ((Classical.choose_spec (hex i)) (by simpa using hi)).2.1
  · refine ⟨fun i => .slice (Classical.choose (hex i)).1 (Classical.choose (hex i)).2.2.length (Classical.choose (hex i)).2.1, ?_, ?_⟩
    · rw [hlen]
      refine SlG.of_sl ?_
      obtain ⟨a', c', e, hm, hc'⟩ := hS
      injection e with e1 e2 e3
      subst e1
      refine ⟨a, c, rfl, hm, fun h0 => ?_⟩
      obtain ⟨b, off, rfl, hb, hcell⟩ := hc' h0
      refine ⟨b, off, rfl, hb, fun i hi j hj => ?_⟩
      rw [hcell i hi j hj, (Classical.choose_spec (hex i) hi).1]
    · intro i hi
      rw [hlen] at hi
      rw [hget i hi]
      exact ((Classical.choose_spec (hex i)) hi).2.2
theorem cells_vw {fuel : Nat} {W : World} {cs : List Value} {y : DataW H × List MemPlace} (hf : DataW.trod enc Try.prog W 0 (fun _ => true) true fuel 34 cs = some y) :
    ∃ (x : Vw) (ma la da : Option Addr) (mc lc dc : Nat), cs = (vwC x ma la da mc lc dc).toList ∧ wfV x ∧ VwG (Old W) W (.slice ma x.mem.length mc) (.slice la x.lvs.length lc) (.slice da x.ldr.length dc) x := by
  obtain ⟨xs, n, _, _, hl, hx, hfl⟩ := DataW.trod_struct Try.underlying34 hf
  have hC34 : Try.prog.cellsOf 34 = 4 := by kernel_rfl
  have hC26 : Try.prog.cellsOf 26 = 1 := by kernel_rfl
  have hC31 : Try.prog.cellsOf 31 = 1 := by kernel_rfl
  have hC32 : Try.prog.cellsOf 32 = 1 := by kernel_rfl
  rw [hC34] at hl
  match cs, hl with
  | [c0, c1, c2, c3], _ =>
    match xs, hx with
    | [x0, x1, x2, x3], _ =>
      have h0 := hfl 0 _ rfl
      have h1 := hfl 1 _ rfl
      have h2 := hfl 2 _ rfl
      have h3 := hfl 3 _ rfl
      simp only [List.getElem_toArray, List.getElem_cons_zero, List.getElem_cons_succ, hC26, hC31, hC32, List.drop_zero, List.drop_succ_cons, List.take_succ_cons, List.take_zero, List.getElem?_cons_zero, List.getElem?_cons_succ] at h0 h1 h2 h3
      obtain ⟨k0, e0, _, w0⟩ := DataW.trod_int Try.underlying26 h0
      obtain ⟨ma, mc, l1, e1, _, o1, s1⟩ := cells_ps h1
      obtain ⟨la, lc, l2, e2, _, o2, s2⟩ := cells_lv h2
      obtain ⟨da, dc, l3, e3, _, o3, s3⟩ := cells_ps h3
      have b0 := bounds_u64 w0
      simp only [List.cons.injEq, and_true] at e0 e1 e2 e3
      subst e0 e1 e2 e3
      refine ⟨⟨k0.toNat, l1, l2, l3⟩, ma, la, da, mc, lc, dc, ?_, ⟨by simp only; omega, o1, o2, o3⟩, s1, s2, s3⟩
      simp only [vwC]
      rw [show ((k0.toNat : Nat) : Int) = k0 by omega]
theorem cells_cm {fuel : Nat} {W : World} {cs : List Value} {y : DataW H × List MemPlace} (hf : DataW.trod enc Try.prog W 0 (fun _ => true) true fuel 36 cs = some y) :
    ∃ (c : Cm) (ba ma la da : Option Addr) (bc mc lc dc : Nat), cs = (cmC c ba ma la da bc mc lc dc).toList ∧ wfC c ∧ CmG (Old W) W (.slice ba c.data.length bc) (.slice ma c.v.mem.length mc) (.slice la c.v.lvs.length lc) (.slice da c.v.ldr.length dc) c := by
  obtain ⟨xs, n, _, _, hl, hx, hfl⟩ := DataW.trod_struct Try.underlying36 hf
  have hC36 : Try.prog.cellsOf 36 = 10 := by kernel_rfl
  have hC3 : Try.prog.cellsOf 3 = 1 := by kernel_rfl
  have hC26 : Try.prog.cellsOf 26 = 1 := by kernel_rfl
  have hC30 : Try.prog.cellsOf 30 = 2 := by kernel_rfl
  have hC22 : Try.prog.cellsOf 22 = 1 := by kernel_rfl
  have hC34 : Try.prog.cellsOf 34 = 4 := by kernel_rfl
  rw [hC36] at hl
  match cs, hl with
  | [c0, c1, c2, c3, c4, c5, c6, c7, c8, c9], _ =>
    match xs, hx with
    | [x0, x1, x2, x3, x4, x5], _ =>
      have h0 := hfl 0 _ rfl
      have h1 := hfl 1 _ rfl
      have h2 := hfl 2 _ rfl
      have h3 := hfl 3 _ rfl
      have h4 := hfl 4 _ rfl
      have h5 := hfl 5 _ rfl
      simp only [List.getElem_toArray, List.getElem_cons_zero, List.getElem_cons_succ, hC3, hC26, hC30, hC22, hC34, List.drop_zero, List.drop_succ_cons, List.take_succ_cons, List.take_zero, List.getElem?_cons_zero, List.getElem?_cons_succ] at h0 h1 h2 h3 h4 h5
      obtain ⟨k0, e0, _, w0⟩ := DataW.trod_int Try.underlying3 h0
      obtain ⟨p, q, e1, hp, hq⟩ := cells_pid h1
      obtain ⟨k2, e2, _, w2⟩ := DataW.trod_int Try.underlying26 h2
      obtain ⟨k3, e3, _, w3⟩ := DataW.trod_int Try.underlying26 h3
      obtain ⟨ba, bc, l, e4, _, hb, sb⟩ := cells_bs h4
      obtain ⟨v, ma, la, da, mc, lc, dc, e5, hv, sv⟩ := cells_vw h5
      have b2 := bounds_u64 w2
      have b3 := bounds_u64 w3
      simp only [vwC, List.toList_toArray, List.cons.injEq, and_true] at e0 e1 e2 e3 e4 e5
      obtain ⟨rfl, rfl⟩ := e1
      obtain ⟨rfl, rfl, rfl, rfl⟩ := e5
      subst e0 e2 e3 e4
      refine ⟨⟨k0, (p, q), k2.toNat, k3.toNat, l, v⟩, ba, ma, la, da, bc, mc, lc, dc, ?_, ⟨hp, hq, by simp only; omega, by simp only; omega, hb, hv⟩, SlG.of_sl sb, sv⟩
      simp only [cmC]
      rw [show ((k2.toNat : Nat) : Int) = k2 by omega, show ((k3.toNat : Nat) : Int) = k3 by omega]
end
end Go.Proofs.Ytmokecicjmjkbaa
namespace Go.Proofs.Ytmokecicjmjkbaa
open Go.ChangeShapes Go.WideShapes Go.ChangeAt Go.RowKit Go.Maps Go.Deep
set_option linter.unusedVariables false
set_option linter.unusedSimpArgs false
set_option maxRecDepth 100000
theorem awnew_ok {B : Nat} {w0 : World} {L : List Res} (w : World) (H : St B w0 w L) : Calls Try.prog 14 #[.int .u64 4] w (Ret fun v w' => ∃ g0, v = .pointer (some ⟨g0, 0, none⟩) ∧ LdSt B w0 w' g0 4 [] L) := lnew_ok 4 w H
def nopC : Cm := ⟨1, (0, 0), 0, 0, [], vw0⟩
theorem nop_err : cErr nopC = 0 := by
  have h1 : only nopC = nopC := rfl
  have h2 : cSame nopC nopC = true := cSame_iff.2 rfl
  unfold cErr kindOk
  rw [h1, h2]
  rfl
theorem nop_sm : smC nopC := ⟨by decide, ⟨by decide, by decide, (by intro l hl; cases hl), by decide⟩⟩
theorem nop_wf : wfC nopC := ⟨by decide, by decide, by decide, by decide, (by intro x hx; cases hx), ⟨by decide, (by intro p hp; cases hp), (by intro l hl; cases hl), (by intro p hp; cases hp)⟩⟩
theorem awadd_ok {B : Nat} {w0 : World} {L : List Res} (g0 : Nat) (w : World) (H : LdSt B w0 w g0 4 [] L) : Calls Try.prog 15 #[.pointer (some ⟨g0, 0, none⟩), .int .u64 5, .agg #[.int .i64 1, .int .u16 0, .int .u32 0, .int .u64 0, .int .u64 0, .slice none 0 0, .int .u64 0, .slice none 0 0, .slice none 0 0, .slice none 0 0]] w (Ret fun v w' => v = .int .i64 0 ∧ ∃ h, LdSt B w0 w' g0 5 [(nopC, h)] L) := by
  have := ladd_ok (G1 := fun _ => False) g0 4 5 [] nopC none none none none 0 0 0 0 (by decide) (by decide) (by decide) nop_sm nop_wf (fun W _ _ => CmG.nil _ W 1) w H
  have he : addE 4 ([] : List (Cm × Hd)).length 5 nopC = 0 := by unfold addE; rw [nop_err]; rfl
  rw [he] at this
  refine this.mono ?_
  rintro e w1 ⟨v, rfl, hv, h⟩
  rcases h with ⟨_, h, H1⟩ | ⟨hc, _⟩
  · exact ⟨_, rfl, hv, h, H1⟩
  · exact absurd rfl hc
theorem awfrom5_ok (g0 kc : Nat) (ka : Option Addr) (w : World) (hr : w.heap[g0]? = some (.cells #[.int .u64 5, .slice ka 1 kc] 97 (0, 0))) :
    Calls Try.prog 32 #[.pointer (some ⟨g0, 0, none⟩)] w (Ret fun v w' => v = .int .u64 5 ∧ Below w.heap.size w w') := lFrom_ok g0 5 1 kc ka (by decide) (by decide) (by decide) w hr
theorem awfrom6_ok (g0 kc : Nat) (ka : Option Addr) (w : World) (hr : w.heap[g0]? = some (.cells #[.int .u64 5, .slice ka 0 kc] 97 (0, 0))) :
    Calls Try.prog 32 #[.pointer (some ⟨g0, 0, none⟩)] w (Ret fun v w' => v = .int .u64 6 ∧ Below w.heap.size w w') := lFrom_ok g0 5 0 kc ka (by decide) (by decide) (by decide) w hr
theorem awapp_ok (g0 kc : Nat) (ka : Option Addr) (w : World) (hr : w.heap[g0]? = some (.cells #[.int .u64 5, .slice ka 1 kc] 97 (0, 0))) :
    Calls Try.prog 31 #[.pointer (some ⟨g0, 0, none⟩)] w (Ret fun v w' => v = .int .u64 5 ∧ Below w.heap.size w w') := lApplied_ok g0 5 1 kc ka w hr
theorem awcut_ok {B : Nat} {w0 : World} {L : List Res} (g0 : Nat) (h : Hd) (ka : Option Addr) (kc : Nat) (G : Nat → Prop) (w : World) (H : St B w0 w (row 97 g0 #[.int .u64 5, .slice ka 1 kc] :: slo 36 10 (.slice ka 1 kc) 1 (kv [(nopC, h)]) :: cmsr G [(nopC, h)] :: L)) : Calls Try.prog 35 #[.pointer (some ⟨g0, 0, none⟩), .int .u64 5] w (Ret fun v w' => v = .int .i64 1 ∧ LdSt B w0 w' g0 5 [] L) :=
  lcut_ok g0 5 5 [(nopC, h)] (by simp) (by decide) (by simp) (by decide) w ⟨ka, kc, G, H⟩
theorem awget_ok {B : Nat} {w0 : World} {L : List Res} (g0 : Nat) (w : World) (H : LdSt B w0 w g0 5 [] L) : Calls Try.prog 16 #[.pointer (some ⟨g0, 0, none⟩), .int .u64 5] w (Ret fun v w' => v = .tuple #[.agg #[.int .i64 0, .int .u16 0, .int .u32 0, .int .u64 0, .int .u64 0, .slice none 0 0, .int .u64 0, .slice none 0 0, .slice none 0 0, .slice none 0 0], .int .i64 8] ∧ LdSt B w0 w' g0 5 [] L) := by
  refine (lget_ok g0 5 5 [] (by decide) (by decide) (by decide) (by intro p hp; cases hp) w H).mono ?_
  rintro e w1 ⟨v, rfl, h⟩
  rcases h with ⟨_, hv, H1⟩ | ⟨k, p, G2, h, hp, hk, _⟩
  · exact ⟨_, rfl, hv, H1⟩
  · cases hk
theorem aw18_ok (w : World) : Calls Try.prog 13 #[] w (Ret fun v w' => v = .bool true ∧ Below w.heap.size w w') := by
  have H := St.init w
  go_enter Try.func13, Try.ntmps13
  go_wp2_with (first | (go_at_call 14; (with_reducible refine (awnew_ok _ H).mono ?_); rintro e w1 ⟨v, rfl, hr⟩; obtain ⟨g0, rfl, HL⟩ := hr; clear H) | (with_reducible refine wpl rfl (dQ 6 rfl ?_); with_reducible refine (Stp.alloc 6 rfl rfl zero36 H ?_); clear H; intro g6 w1 H; simp only [pS]; simp only [nC] at H) | (with_reducible refine wpl rfl (stQ (ty := 36) rfl ?_); first | (with_reducible refine (Stp.str rfl size36 rfl rfl (by first | rfl | (simp [Value.oneCell']; done) | assumption) H uP sZ sZ ?_); clear H; intro w1 H; simp only [pS]) | (with_reducible refine (Stp.stl rfl size36 rfl rfl rfl rfl H uP (by simp) ?_); clear H; intro w1 H; simp only [pS]; simp only [List.drop_succ_cons, List.drop_zero, List.take_succ_cons, List.take_zero, List.nil_append, List.cons_append, Nat.reduceAdd] at H)))
  go_wp2_with (first | (with_reducible refine wpl rfl (dQ 10 rfl ?_); with_reducible refine (Stp.build (v := (.agg #[.int .i64 1, .int .u16 0, .int .u32 0, .int .u64 0, .int .u64 0, .slice none 0 0, .int .u64 0, .slice none 0 0, .slice none 0 0, .slice none 0 0])) 10 rfl rfl (fun W => by kernel_rfl) ?_); simp only [pS]) | (go_at_call 15; (with_reducible refine (awadd_ok g0 _ HL).mono ?_); rintro e w1 ⟨v, rfl, hr⟩; obtain ⟨rfl, h, HL2⟩ := hr; clear HL; have HL := HL2; clear HL2) | (with_reducible refine wpl rfl (dQ 6 rfl ?_); with_reducible refine (Stp.alloc 6 rfl rfl zero36 H ?_); clear H; intro g6 w1 H; simp only [pS]; simp only [nC] at H) | (with_reducible refine wpl rfl (stQ (ty := 36) rfl ?_); first | (with_reducible refine (Stp.str rfl size36 rfl rfl (by first | rfl | (simp [Value.oneCell']; done) | assumption) H uP sZ sZ ?_); clear H; intro w1 H; simp only [pS]) | (with_reducible refine (Stp.stl rfl size36 rfl rfl rfl rfl H uP (by simp) ?_); clear H; intro w1 H; simp only [pS]; simp only [List.drop_succ_cons, List.drop_zero, List.take_succ_cons, List.take_zero, List.nil_append, List.cons_append, Nat.reduceAdd] at H)))
  obtain ⟨ka, kc, G, H⟩ := HL
  replace H : St _ _ _ (row 97 g0 #[.int .u64 5, .slice ka 1 kc] :: slo 36 10 (.slice ka 1 kc) 1 (kv [(nopC, h)]) :: cmsr G [(nopC, h)] :: []) := H
  go_wp2_with (first | (go_at_call 32; (with_reducible refine (awfrom5_ok g0 kc ka _ (H.getHeap mE)).mono ?_); rintro e w1 ⟨v, rfl, hr⟩; obtain ⟨rfl, hb1⟩ := hr; replace H := H.grow hb1; clear hb1) | (go_at_call 31; (with_reducible refine (awapp_ok g0 kc ka _ (H.getHeap mE)).mono ?_); rintro e w1 ⟨v, rfl, hr⟩; obtain ⟨rfl, hb1⟩ := hr; replace H := H.grow hb1; clear hb1) | (go_at_call 35; (with_reducible refine (awcut_ok g0 h ka kc G _ H).mono ?_); rintro e w1 ⟨v, rfl, hr⟩; obtain ⟨rfl, HL⟩ := hr; clear H) | (with_reducible refine wpl rfl (dQ 6 rfl ?_); with_reducible refine (Stp.alloc 6 rfl rfl zero36 H ?_); clear H; intro g6 w1 H; simp only [pS]; simp only [nC] at H) | (with_reducible refine wpl rfl (stQ (ty := 36) rfl ?_); first | (with_reducible refine (Stp.str rfl size36 rfl rfl (by first | rfl | (simp [Value.oneCell']; done) | assumption) H uP sZ sZ ?_); clear H; intro w1 H; simp only [pS]) | (with_reducible refine (Stp.stl rfl size36 rfl rfl rfl rfl H uP (by simp) ?_); clear H; intro w1 H; simp only [pS]; simp only [List.drop_succ_cons, List.drop_zero, List.take_succ_cons, List.take_zero, List.nil_append, List.cons_append, Nat.reduceAdd] at H)))
  go_wp2_with (first | (go_at_call 16; (with_reducible refine (awget_ok g0 _ HL).mono ?_); rintro e w1 ⟨v, rfl, hr⟩; obtain ⟨rfl, HL2⟩ := hr; clear HL; obtain ⟨kb, kd, G2, H⟩ := HL2; replace H : St _ _ _ (row 97 g0 #[.int .u64 5, .slice kb 0 kd] :: slo 36 10 (.slice kb 0 kd) 0 (kv []) :: cmsr G2 [] :: []) := H) | (with_reducible refine wpl rfl (dQ 6 rfl ?_); with_reducible refine (Stp.alloc 6 rfl rfl zero36 H ?_); clear H; intro g6 w1 H; simp only [pS]; simp only [nC] at H) | (with_reducible refine wpl rfl (stQ (ty := 36) rfl ?_); first | (with_reducible refine (Stp.str rfl size36 rfl rfl (by first | rfl | (simp [Value.oneCell']; done) | assumption) H uP sZ sZ ?_); clear H; intro w1 H; simp only [pS]) | (with_reducible refine (Stp.stl rfl size36 rfl rfl rfl rfl H uP (by simp) ?_); clear H; intro w1 H; simp only [pS]; simp only [List.drop_succ_cons, List.drop_zero, List.take_succ_cons, List.take_zero, List.nil_append, List.cons_append, Nat.reduceAdd] at H)))
  go_wp2_with (first | (go_at_call 32; (with_reducible refine (awfrom6_ok g0 kd kb _ (H.getHeap mE)).mono ?_); rintro e w1 ⟨v, rfl, hr⟩; obtain ⟨rfl, hb1⟩ := hr; replace H := H.grow hb1; clear hb1) | (with_reducible refine wpl rfl (dQ 6 rfl ?_); with_reducible refine (Stp.alloc 6 rfl rfl zero36 H ?_); clear H; intro g6 w1 H; simp only [pS]; simp only [nC] at H) | (with_reducible refine wpl rfl (stQ (ty := 36) rfl ?_); first | (with_reducible refine (Stp.str rfl size36 rfl rfl (by first | rfl | (simp [Value.oneCell']; done) | assumption) H uP sZ sZ ?_); clear H; intro w1 H; simp only [pS]) | (with_reducible refine (Stp.stl rfl size36 rfl rfl rfl rfl H uP (by simp) ?_); clear H; intro w1 H; simp only [pS]; simp only [List.drop_succ_cons, List.drop_zero, List.take_succ_cons, List.take_zero, List.nil_append, List.cons_append, Nat.reduceAdd] at H)))
  go_ret
  exact ⟨_, rfl, rfl, H.below⟩
end Go.Proofs.Ytmokecicjmjkbaa
namespace Go.Proofs.Ytmokecicjmjkbaa
open Go.ChangeShapes Go.WideShapes Go.ChangeAt Go.RowKit Go.Maps
set_option linter.unusedVariables false
set_option linter.unusedSimpArgs false
set_option linter.unusedSectionVars false
set_option maxRecDepth 100000
set_option maxHeartbeats 4000000
theorem lunpackY_ok {B : Nat} {w0 : World} {M : List Res} (v : Value) (l : List Nat) (hl : l.length ≤ 100000) (hx : ∀ x ∈ l, x < 256) (a : Nat) (cs : List Cm) (hf : lgF l = ((a, cs), 0)) (w : World) (hs : Sl w 1 l.length v (elB l)) (H : St B w0 w M) :
    Calls Try.prog 42 #[v] w (Ret fun v' w' => ∃ (ks : List (Cm × Hd)) (g0 : Nat), v' = .tuple #[.pointer (some ⟨g0, 0, none⟩), .int .i64 0] ∧ ks.map (·.1) = cs ∧ LdSt B w0 w' g0 a ks M) := by
  refine (lunpack_ok v l hl hx w hs H).mono ?_
  rintro e w1 ⟨v', rfl, ⟨f', h0, h1, rfl, H2⟩ | ⟨a', ks, g0, h1, rfl, H2⟩⟩
  · rw [hf] at h1
    exact absurd (Prod.mk.inj h1).2.symm h0
  · rw [hf] at h1
    obtain ⟨rfl, h2⟩ := Prod.mk.inj (Prod.mk.inj h1).1
    exact ⟨_, rfl, ks, g0, rfl, h2.symm, H2⟩
attribute [local irreducible] lgF lgB
end Go.Proofs.Ytmokecicjmjkbaa
namespace Go.Proofs.Ytmokecicjmjkbaa
open Go.ChangeShapes Go.WideShapes Go.ChangeAt Go.RowKit Go.Maps
set_option linter.unusedVariables false
set_option linter.unusedSimpArgs false
set_option linter.unusedSectionVars false
set_option maxRecDepth 100000
set_option maxHeartbeats 4000000
theorem atR_rk {m : List Pr} {p : Pr} (h : p ∈ m) : atR m p = (rkN m p : Int) := by
  unfold atR rkN
  cases hr : rank m p with
  | none => exact absurd h (rank_none.1 hr)
  | some k => rfl
attribute [local irreducible] rkN atR
theorem rranks_ok (mm ps : List Pr) (va vb : Value) (m : List Nat) (hmm : mm.length ≤ 1000) (hp : okPids ps) (hpl : ps.length ≤ 1000) (hin : ∀ p ∈ ps, p ∈ mm) (hm : rkB mm ps = m) (w : World) (ha : Sl w 2 mm.length va (elQ mm)) (hs : Sl w 2 ps.length vb (elQ ps)) :
    Calls Try.prog 135 #[va, vb] w (Ret fun v' w' => (∃ ap cp, v' = .slice ap m.length cp) ∧ w'.ownsRow w.heap.size 5 1 v' m.length (bv m) ∧ Below w.heap.size w w') := by
  have H := St.init w
  obtain ⟨ab, cb, rfl, hm9, _⟩ := id hs
  obtain ⟨aa, ca, rfl, hma9, _⟩ := id ha
  unfold maxLen at hm9
  obtain ⟨n, hn⟩ : ∃ n, ps.length = n := ⟨_, rfl⟩
  have w1r : IntKind.u64.wrap (n : Int) = (n : Int) := wrap_u64_in _ (by omega) (by omega)
  obtain ⟨q, hq⟩ : ∃ q, shortB n = q := ⟨_, rfl⟩
  have ql : q.length ≤ 10 := by rw [← hq]; exact shortB_len _
  have HR0 : Hid ((q ++ ps.flatMap fun p => shortB (rkN mm p)) = m) := Lib.hid (by rw [← hq, ← hm, ← hn]; rfl)
  have HQ := Lib.hid hq
  have HP := Lib.hid hp
  have HIN := Lib.hid hin
  have HN := Lib.hid hn
  simp only [hn] at hs hm9 hpl ⊢
  clear hq hp hin hn hm
  go_enter Try.func135, Try.ntmps135
  go_wp2_with (first | (go_at_call 78; (with_reducible refine (rnum_ok q n (by omega) HQ.out _).mono ?_); rintro e w1 ⟨v, rfl, hr⟩; obtain ⟨⟨aq, cq, rfl⟩, ho, hb1⟩ := hr; replace H := H.new hb1 (slc_sound ho) (fun g hg => (ho.lt g hg).1); clear hb1 ho))
  clear HQ
  go_loopw [6, 5] (fun i o wr => ∃ (k : Nat) (a : Option Addr) (c : Nat) (r : List Nat), k ≤ n ∧ i = .int .i64 (k : Int) ∧ o = .slice a r.length c ∧ Hid ((q ++ (ps.take k).flatMap fun p => shortB (rkN mm p)) = r) ∧ Hid (r.length ≤ 10 + 10 * k) ∧ St w.heap.size w wr [slc 5 1 (.slice a r.length c) r.length (bv r)]) (fun i _ _ => n - (intOf i).toNat)
  case atStart => exact ⟨0, _, _, q, Nat.zero_le _, rfl, rfl, Lib.hid (by simp), Lib.hid (by omega), H⟩
  case round =>
    clear H
    obtain ⟨k, a2, c2, r, hk, rfl, rfl, HR, HRL, H⟩ := hrel
    have rl := HRL.out
    by_cases hlt : k < n
    · obtain ⟨b, off, rfl, hbb⟩ := hs.addr (by omega)
      have hkl : k < ps.length := by rw [HN.out]; exact hlt
      obtain ⟨p1, p2⟩ := okPids_at HP.out k hkl
      have hsn := rkB_snoc mm ps k hkl
      have hmem : ps.getD k (0, 0) ∈ mm := HIN.out _ (by rw [getD_at hkl]; exact List.getElem_mem hkl)
      obtain ⟨x, hx⟩ : ∃ x, (ps.getD k (0, 0)).1 = x := ⟨_, rfl⟩
      obtain ⟨y, hy⟩ : ∃ y, (ps.getD k (0, 0)).2 = y := ⟨_, rfl⟩
      have hxy : ps.getD k (0, 0) = (x, y) := by rw [← hx, ← hy]
      have he : elQ ps k = #[.int .u16 (x : Int), .int .u32 (y : Int)] := by unfold elQ; rw [hx, hy]
      rw [hxy] at hsn hmem
      obtain ⟨j, hj⟩ : ∃ j, rkN mm (x, y) = j := ⟨_, rfl⟩
      have hj1 : j < 1001 := by rw [← hj]; exact rkN_lt hmm
      have hat := atR_rk hmem
      rw [hj] at hsn hat
      have HAT := Lib.hid hat
      have wj : IntKind.u64.wrap (j : Int) = (j : Int) := wrap_u64_in _ (by omega) (by omega)
      obtain ⟨z, hz⟩ : ∃ z, shortB j = z := ⟨_, rfl⟩
      have zl : z.length ≤ 10 := by rw [← hz]; exact shortB_len _
      obtain ⟨r2, hr2⟩ : ∃ r2, r ++ z = r2 := ⟨_, rfl⟩
      have HZ := Lib.hid hz
      have HL : Hid (r.length + z.length = r2.length) := Lib.hid (by rw [← hr2, List.length_append])
      have HR2 := Lib.hid hr2
      have HR3 : Hid ((q ++ (ps.take (k + 1)).flatMap fun p => shortB (rkN mm p)) = r2) := Lib.hid (by rw [hsn, hz, ← List.append_assoc, HR.out, hr2])
      have HRL2 : Hid (r2.length ≤ 10 + 10 * (k + 1)) := Lib.hid (by rw [← hr2, List.length_append]; omega)
      have HEL := Lib.hid he
      have kli : (k : Int) < (n : Int) := by omega
      clear hsn hx hy hr2 he hz hxy hj hat hmem
      go_wp2_with (first | (with_reducible refine wpl rfl (Stp.ldq (cs := #[.int .u16 (x : Int), .int .u32 (y : Int)]) rfl agg30 size30 rfl (by rw [← HEL.out]; exact (hs.grow H.below).cell hlt) rfl ?_); simp only [pS]) | (go_at_call 119; (with_reducible refine (rat_is _ mm (x, y) _ (ha.grow H.below)).mono ?_); rintro e w1 ⟨v, rfl, hr⟩; obtain ⟨rfl, hb1⟩ := hr; replace H := H.grow hb1; clear hb1; rw [HAT.out]) | (go_at_call 78; (with_reducible refine (rnum_ok z j (by omega) HZ.out _).mono ?_); rintro e w1 ⟨v, rfl, hr⟩; obtain ⟨⟨az, cz, rfl⟩, ho, hb1⟩ := hr; replace H := H.new hb1 (slc_sound ho) (fun g hg => (ho.lt g hg).1); clear hb1 ho) | (with_reducible refine wpl rfl (dQ 26 rfl ?_); with_reducible refine (Stp.apps 26 rfl rfl Try.underlying22 info5 rfl (by decide) rfl rfl H (fun _ => uP) (by rw [bv_len, Nat.mul_one]) (own_src (H.getSlc (xs := bv z) mE)) (bv_one z) (by unfold maxLen; omega) (by omega) ?_); clear H; intro a26 c26 w1 H; simp only [pS]; rw [bv_app, HR2.out, HL.out] at H; rw [HL.out]))
      go_roundw
      case rel => exact ⟨k + 1, _, _, r2, by omega, by go_num, rfl, HR3, HRL2, H.sub sU⟩
      case measure => simp [intOf]; omega
    · obtain rfl : k = n := by omega
      have hr := HR.out
      rw [← HN.out, List.take_length, HR0.out] at hr
      subst hr
      go_wp2_with fail
      go_ret
      exact ⟨_, rfl, ⟨_, _, rfl⟩, H.getSlc mE, H.below⟩
theorem rvcheckI_ok {G1 : Nat → Prop} (x : Vw) (ma la da : Option Addr) (mc lc dc n : Nat) (hn : x.lvs.length = n) (hm : smV x) {i : Bool} (hc : vOk x = i) (w : World) (hx : VwG G1 w (.slice ma x.mem.length mc) (.slice la x.lvs.length lc) (.slice da x.ldr.length dc) x) :
    Calls Try.prog 56 #[.agg #[.int .u64 (x.id : Int), .slice ma x.mem.length mc, .slice la n lc, .slice da x.ldr.length dc]] w (Ret fun v w' => v = .bool i ∧ Below w.heap.size w w') := by
  subst hc hn
  exact rvcheck_is x ma la da mc lc dc hm w _ rfl hx
attribute [local irreducible] vOk rkB pidsB
theorem rvform_ok {G1 : Nat → Prop} (m : List Nat) (x : Vw) (ma la da : Option Addr) (mc lc dc : Nat) (hv : vOk x = true) (hsm : smV x) (hw : wfV x) (hm : vwB x = m) (w : World)
    (hx : VwG G1 w (.slice ma x.mem.length mc) (.slice la x.lvs.length lc) (.slice da x.ldr.length dc) x) :
    Calls Try.prog 108 #[.agg (vwC x ma la da mc lc dc)] w (Ret fun v' w' => (∃ ap cp, v' = .slice ap m.length cp) ∧ w'.ownsRow w.heap.size 5 1 v' m.length (bv m) ∧ Below w.heap.size w w') := by
  have H := St.init w
  have hbv := vwB_len hv
  obtain ⟨_, h24, hl24, hd24, he24, hr24⟩ := vOk_each hv
  obtain ⟨n, hn⟩ : ∃ n, x.lvs.length = n := ⟨_, rfl⟩
  obtain ⟨z1, hz1⟩ : ∃ z, shortB x.id = z := ⟨_, rfl⟩
  obtain ⟨z2, hz2⟩ : ∃ z, shortB x.mem.length ++ pidsB x.mem = z := ⟨_, rfl⟩
  obtain ⟨q2, hq2⟩ : ∃ q2, z1 ++ z2 = q2 := ⟨_, rfl⟩
  obtain ⟨z3, hz3⟩ : ∃ z, shortB n = z := ⟨_, rfl⟩
  obtain ⟨q3, hq3⟩ : ∃ q3, q2 ++ z3 = q3 := ⟨_, rfl⟩
  obtain ⟨q4, hq4⟩ : ∃ q4, (q3 ++ x.lvs.flatMap fun l => rkB x.mem l) = q4 := ⟨_, rfl⟩
  obtain ⟨z5, hz5⟩ : ∃ z, rkB x.mem x.ldr = z := ⟨_, rfl⟩
  have hq5 : q4 ++ z5 = m := by
    rw [← hm, ← hz5, ← hq4, ← hq3, ← hq2, ← hz3, ← hz2, ← hz1, ← hn]
    unfold vwB
    simp only [List.append_assoc]
  have hml : m.length ≤ 1260 := by rw [← hm]; exact hbv
  have h5l : q4.length + z5.length = m.length := by rw [← hq5, List.length_append]
  have h4l : q3.length ≤ q4.length := by rw [← hq4, List.length_append]; omega
  have h3l : q2.length + z3.length = q3.length := by rw [← hq3, List.length_append]
  have h2l : z1.length + z2.length = q2.length := by rw [← hq2, List.length_append]
  have hm1 : x.mem.length ≤ 1000 := hsm.mem
  have HZ1 := Lib.hid hz1
  have HZ2 := Lib.hid hz2
  have HZ3 := Lib.hid hz3
  have HZ5 := Lib.hid hz5
  have HQ2 := Lib.hid hq2
  have HQ3 := Lib.hid hq3
  have HQ4 := Lib.hid hq4
  have HQ5 := Lib.hid hq5
  have HL2 := Lib.hid h2l
  have HL3 := Lib.hid h3l
  have HL5 := Lib.hid h5l
  have HV := Lib.hid hv
  have HSM := Lib.hid hsm
  have HW := Lib.hid hw
  have HN := Lib.hid hn
  have HE := Lib.hid he24
  have HD := Lib.hid hr24
  obtain ⟨hx1, hx2, hx3⟩ := id hx
  replace hx := Lib.hid hx
  rw [hn] at hl24
  simp only [vwC]
  rw [hn]
  rw [hn] at hx2
  have w1r : IntKind.u64.wrap (n : Int) = (n : Int) := wrap_u64_in _ (by omega) (by omega)
  clear hz1 hz2 hz3 hz5 hq2 hq3 hq4 hq5 hsm hw hv hm hn hbv he24 hr24
  go_enter Try.func108, Try.ntmps108
  go_upto_region 3 with (first | (go_at_call 56; (with_reducible refine (rvcheckI_ok x ma la da mc lc dc n HN.out HSM.out HV.out _ (VwG.grow hx.out H.below)).mono ?_); rintro e w1 ⟨v, rfl, hr⟩; obtain ⟨rfl, hb1⟩ := hr; replace H := H.grow hb1; clear hb1) | (with_reducible refine wpl rfl (dQ 1 rfl ?_); with_reducible refine (Stp.box 1 rfl rfl rfl H ?_); clear H; intro g1 w1 H; simp only [pS]; simp only [pE, nC, pS] at H) | (with_reducible refine wpl rfl (ldQ (ty := 34) rfl ?_); first | (with_reducible refine (Stp.ldor rfl agg34 size34 rfl H (by assumption) sZ (by assumption) ?_); simp only [pS]) | (with_reducible refine (Stp.ldr rfl agg34 size34 rfl H mR sZ ?_); simp only [pS]) | (with_reducible refine (Stp.ldl rfl agg34 size34 rfl H mR (by simp) ?_); simp only [pS]; simp only [List.drop_succ_cons, List.drop_zero, List.take_succ_cons, List.take_zero])))
  refine rg_begin 8 rfl (S := fun W => St _ _ W (row 34 g1 #[.int .u64 (x.id : Int), .slice ma x.mem.length mc, .slice la n lc, .slice da x.ldr.length dc] :: [])) (by kernel_rfl) (H.drew.sub sU) ?_
  replace H := H.drew
  have HS := H
  refine rg_take (i := 0) rfl kR kR kR (Yld.o rfl) (H.sub sU) ?_; simp only [pS]
  first | (refine rg_take (i := 1) rfl kR kR kR (Yld.ldo rfl rfl agg26 rfl (by assumption) (by assumption)) (H.sub sU) ?_; simp only [pS]) | (refine rg_take (i := 1) rfl kR kR kR (Yld.ldc rfl rfl agg26 rfl mR cE) (H.sub sU) ?_; simp only [pS])
  refine rg_take (i := 3) rfl kR kR kR (Yld.o rfl) (H.sub sU) ?_; simp only [pS]
  first | (refine rg_take (i := 4) rfl kR kR kR (Yld.ldo rfl rfl agg31 rfl (by assumption) (by assumption)) (H.sub sU) ?_; simp only [pS]) | (refine rg_take (i := 4) rfl kR kR kR (Yld.ldc rfl rfl agg31 rfl mR cE) (H.sub sU) ?_; simp only [pS])
  refine rg_one (i := 2) (by kernel_rfl) rfl rfl (fun K hK => ?_)
  refine wp_callf rfl ent78 (rnum_ok z1 x.id HW.out.id HZ1.out _) rfl (fun v w1 hr => ?_)
  obtain ⟨⟨ap, cp, rfl⟩, ho, hb1⟩ := hr
  replace H := H.new hb1 (slc_sound ho) (fun g hg => (ho.lt g hg).1)
  clear hb1 ho
  clear HS
  have HS := H
  refine hK.out _ _ (H.sub sU) ?_
  clear hK K
  simp only [pS]
  refine rg_one (i := 5) (by kernel_rfl) rfl rfl (fun K hK => ?_)
  refine wp_callf rfl ent134 (rpids_ok x.mem _ z2 HW.out.mem hm1 HZ2.out _ (hx1.sl.grow H.below)) rfl (fun v w1 hr => ?_)
  obtain ⟨⟨aq, cq, rfl⟩, ho, hb1⟩ := hr
  replace H := H.new hb1 (slc_sound ho) (fun g hg => (ho.lt g hg).1)
  clear hb1 ho
  clear HS
  have HS := H
  refine hK.out _ _ (H.sub sU) ?_
  clear hK K
  simp only [pS]
  refine rg_one (i := 6) (by kernel_rfl) rfl rfl (fun K hK => ?_)
  refine Stp.wp (Stp.apps 14 rfl rfl Try.underlying22 info5 rfl (by decide) rfl rfl H (fun _ => uP) (by rw [bv_len, Nat.mul_one]) (own_src (H.getSlc (xs := bv z2) mE)) (bv_one z2) (by unfold maxLen; omega) (by omega) ?_)
  clear H
  intro a14 c14 w1 H
  rw [bv_app, HQ2.out, HL2.out] at H
  rw [HL2.out]
  clear HS
  have HS := H
  refine hK.out _ _ (H.sub sU) ?_
  clear hK K
  simp only [pS]
  refine rg_take (i := 7) rfl kR kR kR (Yld.assign rfl rfl) (H.sub sU) ?_; simp only [pS, pE]
  refine rg_done (by kernel_rfl) ?_
  go_upto_region 5 with (first | (go_at_call 78; (with_reducible refine (rnum_ok z3 n (by omega) HZ3.out _).mono ?_); rintro e w1 ⟨v, rfl, hr⟩; obtain ⟨⟨ar, cr, rfl⟩, ho, hb1⟩ := hr; replace H := H.new hb1 (slc_sound ho) (fun g hg => (ho.lt g hg).1); clear hb1 ho) | (with_reducible refine wpl rfl (dQ 21 rfl ?_); with_reducible refine (Stp.apps 21 rfl rfl Try.underlying22 info5 rfl (by decide) rfl rfl H (fun _ => uP) (by rw [bv_len, Nat.mul_one]) (own_src (H.getSlc (xs := bv z3) mE)) (bv_one z3) (by unfold maxLen; omega) (by omega) ?_); clear H; intro a21 c21 w1 H; simp only [pS]; rw [bv_app, HQ3.out, HL3.out] at H; rw [HL3.out]) | (with_reducible refine wpl rfl (ldQ (ty := 32) rfl ?_); first | (with_reducible refine (Stp.ldo rfl agg32 rfl H (by assumption) (by assumption) ?_); simp only [pS]) | (with_reducible refine (Stp.ldc rfl agg32 rfl H mR cE ?_); simp only [pS])))
  replace H : St w.heap.size w _ (slc 5 1 (.slice a21 q3.length c21) q3.length (bv q3) :: row 34 g1 #[.int .u64 (x.id : Int), .slice ma x.mem.length mc, .slice la n lc, .slice da x.ldr.length dc] :: []) := ((H.pull (r := row 34 g1 #[.int .u64 (x.id : Int), .slice ma x.mem.length mc, .slice la n lc, .slice da x.ldr.length dc]) pU).pull (r := slc 5 1 (.slice a21 q3.length c21) q3.length (bv q3)) pU).sub sU
  go_wp2_with fail
  go_loopw [4, 3] (fun i o wr => ∃ (k : Nat) (a : Option Addr) (c : Nat) (r : List Nat), k ≤ n ∧ i = .int .i64 (k : Int) ∧ o = .slice a r.length c ∧ Hid ((q3 ++ (x.lvs.take k).flatMap fun l => rkB x.mem l) = r) ∧ St w.heap.size w wr (slc 5 1 (.slice a r.length c) r.length (bv r) :: row 34 g1 #[.int .u64 (x.id : Int), .slice ma x.mem.length mc, .slice la n lc, .slice da x.ldr.length dc] :: [])) (fun i _ _ => n - (intOf i).toNat)
  case atStart => exact ⟨0, _, _, q3, Nat.zero_le _, rfl, rfl, Lib.hid (by simp), H⟩
  case round =>
    clear H
    obtain ⟨k, a2, c2, r, hk, rfl, rfl, HRR, H⟩ := hrel
    have rl : r.length ≤ q4.length := by
      rw [← HRR.out, ← HQ4.out, List.length_append, List.length_append]
      have h9 : ((x.lvs.take k).flatMap fun l => rkB x.mem l).length ≤ (x.lvs.flatMap fun l => rkB x.mem l).length := by
        conv => rhs; rw [← List.take_append_drop k x.lvs, List.flatMap_append, List.length_append]
        omega
      omega
    by_cases hlt : k < n
    · have hl1 : k < x.lvs.length := by rw [HN.out]; exact hlt
      obtain ⟨b0, o0, ak, ck, rfl, hbl, hc1, hs1⟩ := hx2.at HN.out hl1
      have hmm : x.lvs[k] ∈ x.lvs := List.getElem_mem hl1
      have hsn := List.take_succ_eq_append_getElem hl1
      obtain ⟨u, hu⟩ : ∃ u, x.lvs[k] = u := ⟨_, rfl⟩
      rw [hu] at hc1 hs1 hmm hsn
      have hul : u.length ≤ 24 := (HE.out u hmm).1
      have hul2 : u.length ≤ 1000 := by omega
      have HUI := Lib.hid (HE.out u hmm).2
      have huw : okPids u := HW.out.lvs u hmm
      have HSN := Lib.hid (rks_snoc x.mem x.lvs hsn)
      obtain ⟨z, hz⟩ : ∃ z, rkB x.mem u = z := ⟨_, rfl⟩
      have zl : z.length ≤ 300 := by rw [← hz]; have := rkB_len x.mem u; omega
      obtain ⟨r2, hr2⟩ : ∃ r2, r ++ z = r2 := ⟨_, rfl⟩
      have HZ := Lib.hid hz
      have HR2 := Lib.hid hr2
      have HL : Hid (r.length + z.length = r2.length) := Lib.hid (by rw [← hr2, List.length_append])
      have HR3 : Hid ((q3 ++ (x.lvs.take (k + 1)).flatMap fun l => rkB x.mem l) = r2) := Lib.hid (by rw [HSN.out, ← List.append_assoc, HRR.out, hz, hr2])
      have hs2 := hs1.sl
      have kli : (k : Int) < (n : Int) := by omega
      clear hsn hmm hu hr2 hs1 hz
      go_wp2_with (first | (with_reducible refine wpl rfl (ldQ (ty := 32) rfl ?_); first | (with_reducible refine (Stp.ldo rfl agg32 rfl H (by assumption) (by assumption) ?_); simp only [pS]) | (with_reducible refine (Stp.ldc rfl agg32 rfl H mR cE ?_); simp only [pS])))
      refine rg_begin 11 rfl (S := fun W => St _ _ W (row 34 g1 #[.int .u64 (x.id : Int), .slice ma x.mem.length mc, .slice (some ⟨b0, o0, none⟩) n lc, .slice da x.ldr.length dc] :: [])) (by kernel_rfl) (H.drew.sub sU) ?_
      replace H := H.drew
      have HS := H
      refine rg_take (i := 0) rfl kR kR kR (Yld.move rfl rfl) (H.sub sU) ?_; simp only [pS, pE]
      refine rg_take (i := 1) rfl kR kR kR (Yld.o rfl) (H.sub sU) ?_; simp only [pS]
      first | (refine rg_take (i := 2) rfl kR kR kR (Yld.ldo rfl rfl agg31 rfl (by assumption) (by assumption)) (H.sub sU) ?_; simp only [pS]) | (refine rg_take (i := 2) rfl kR kR kR (Yld.ldc rfl rfl agg31 rfl mR cE) (H.sub sU) ?_; simp only [pS])
      refine rg_take (i := 3) rfl kR kR kR (Yld.o rfl) (H.sub sU) ?_; simp only [pS]
      first | (refine rg_take (i := 4) rfl kR kR kR (Yld.ldo rfl rfl agg32 rfl (by assumption) (by assumption)) (H.sub sU) ?_; simp only [pS]) | (refine rg_take (i := 4) rfl kR kR kR (Yld.ldc rfl rfl agg32 rfl mR cE) (H.sub sU) ?_; simp only [pS])
      refine rg_take (i := 5) rfl kR kR kR (Yld.move rfl rfl) (H.sub sU) ?_; simp only [pS, pE]
      refine rg_take (i := 6) rfl kR kR kR (Yld.o rfl) (H.sub sU) ?_; simp only [pS]
      first | (refine rg_take (i := 7) rfl kR kR kR (Yld.ldo rfl rfl agg31 rfl (by assumption) (by assumption)) (H.sub sU) ?_; simp only [pS]) | (refine rg_take (i := 7) rfl kR kR kR (Yld.ldc rfl rfl agg31 rfl mR cE) (H.sub sU) ?_; simp only [pS])
      refine rg_one (i := 8) (by kernel_rfl) rfl rfl (fun K hK => ?_)
      refine wp_callf rfl ent135 (rranks_ok x.mem u _ _ z hm1 huw hul2 HUI.out HZ.out _ (hx1.sl.grow H.below) (hs2.grow H.below)) rfl (fun v w1 hr => ?_)
      obtain ⟨⟨az, cz, rfl⟩, ho, hb1⟩ := hr
      replace H := H.new hb1 (slc_sound ho) (fun g hg => (ho.lt g hg).1)
      clear hb1 ho
      clear HS
      have HS := H
      refine hK.out _ _ (H.sub sU) ?_
      clear hK K
      simp only [pS]
      refine rg_one (i := 9) (by kernel_rfl) rfl rfl (fun K hK => ?_)
      refine Stp.wp (Stp.apps 38 rfl rfl Try.underlying22 info5 rfl (by decide) rfl rfl H (fun _ => uP) (by rw [bv_len, Nat.mul_one]) (own_src (H.getSlc (xs := bv z) mE)) (bv_one z) (by unfold maxLen; omega) (by omega) ?_)
      clear H
      intro a38 c38 w1 H
      rw [bv_app, HR2.out, HL.out] at H
      rw [HL.out]
      clear HS
      have HS := H
      refine hK.out _ _ (H.sub sU) ?_
      clear hK K
      simp only [pS]
      refine rg_take (i := 10) rfl kR kR kR (Yld.assign rfl rfl) (H.sub sU) ?_; simp only [pS, pE]
      refine rg_done (by kernel_rfl) ?_
      go_wp2_with fail
      go_roundw
      case rel => exact ⟨k + 1, _, _, r2, by omega, by go_num, rfl, HR3, ((H.pull (r := row 34 g1 #[.int .u64 (x.id : Int), .slice ma x.mem.length mc, .slice (some ⟨b0, o0, none⟩) n lc, .slice da x.ldr.length dc]) pU).pull (r := slc 5 1 (.slice a38 r2.length c38) r2.length (bv r2)) pU).sub sU⟩
      case measure => simp [intOf]; omega
    · obtain rfl : k = n := by omega
      have hr := HRR.out
      rw [← HN.out, List.take_length, HQ4.out] at hr
      subst hr
      have hs3 := hx3.sl
      have hdl2 : x.ldr.length ≤ 1000 := by omega
      go_wp2_with (first | (go_at_call 135; (with_reducible refine (rranks_ok x.mem x.ldr _ _ z5 hm1 HW.out.ldr hdl2 HD.out HZ5.out _ (hx1.sl.grow H.below) (hs3.grow H.below)).mono ?_); rintro e w1 ⟨v, rfl, hr⟩; obtain ⟨⟨ay, cy, rfl⟩, ho, hb1⟩ := hr; replace H := H.new hb1 (slc_sound ho) (fun g hg => (ho.lt g hg).1); clear hb1 ho) | (with_reducible refine wpl rfl (dQ 45 rfl ?_); with_reducible refine (Stp.apps 45 rfl rfl Try.underlying22 info5 rfl (by decide) rfl rfl H (fun _ => uP) (by rw [bv_len, Nat.mul_one]) (own_src (H.getSlc (xs := bv z5) mE)) (bv_one z5) (by unfold maxLen; omega) (by omega) ?_); clear H; intro a45 c45 w1 H; simp only [pS]; rw [bv_app, HQ5.out, HL5.out] at H; rw [HL5.out]) | (with_reducible refine wpl rfl (ldQ (ty := 32) rfl ?_); first | (with_reducible refine (Stp.ldo rfl agg32 rfl H (by assumption) (by assumption) ?_); simp only [pS]) | (with_reducible refine (Stp.ldc rfl agg32 rfl H mR cE ?_); simp only [pS])) | (with_reducible refine wpl rfl (ldQ (ty := 31) rfl ?_); first | (with_reducible refine (Stp.ldo rfl agg31 rfl H (by assumption) (by assumption) ?_); simp only [pS]) | (with_reducible refine (Stp.ldc rfl agg31 rfl H mR cE ?_); simp only [pS])))
      go_ret
      exact ⟨_, rfl, ⟨_, _, rfl⟩, H.getSlc mE, H.below⟩
end Go.Proofs.Ytmokecicjmjkbaa
