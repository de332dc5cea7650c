/- Contracts of layer 8's members, ranks, rising (view); no condition. Which are there, each once, in their order; no condition. -/
import Derived.Test.YtmokecicjmjkbaaGy3
import Derived.Test.YtmokecicjmjkbaaGy10
namespace Go.Proofs.Ytmokecicjmjkbaa
open Go.ChangeShapes Go.WideShapes Go.ChangeAt Go.RowKit Go.Maps
set_option linter.unusedVariables false
set_option linter.unusedSimpArgs false
theorem ids_none {l : List Pr} {i : Nat} : mget (l.map fun p => (p.1, ())) i = none ↔ i ∉ l.map (·.1) := by
  rw [mget_none]
  simp only [List.mem_map]
  constructor
  · rintro h ⟨p, hp, rfl⟩; exact h _ ⟨p, hp, rfl⟩ rfl
  · rintro h q ⟨p, hp, rfl⟩ e; exact h ⟨p, hp, e⟩
theorem ids_some {l : List Pr} {i : Nat} (h : i ∈ l.map (·.1)) : mget (l.map fun p => (p.1, ())) i = some () := by
  cases hg : mget (l.map fun p => (p.1, ())) i with
  | none => exact absurd h (ids_none.1 hg)
  | some u => rfl
theorem ids_put {l : List Pr} {p : Pr} (h : p.1 ∉ l.map (·.1)) : mput (l.map fun p => (p.1, ())) p.1 () = (l ++ [p]).map fun p => (p.1, ()) := by
  rw [mput_new (ids_none.2 h), List.map_append]; rfl
theorem mem_dup {m : List Pr} {k : Nat} {p : Pr} (hs : m.take (k + 1) = m.take k ++ [p]) (h : p.1 ∈ (m.take k).map (·.1)) : memOk m = false := by
  have hn : ¬ (m.map (·.1)).Nodup := by
    intro hn
    have e : m = m.take (k + 1) ++ m.drop (k + 1) := (List.take_append_drop _ _).symm
    rw [e, List.map_append, hs, List.map_append] at hn
    have h1 := (List.nodup_append.1 hn).1
    exact (List.nodup_append.1 h1).2.2 _ h _ (by simp) rfl
  unfold memOk
  simp [hn]
theorem mem_may {m : List Pr} {p : Pr} (h : p ∈ m) (hm : may p.1 p.2 = false) : memOk m = false := by
  have : (m.all fun p => may p.1 p.2) = false := by
    rw [List.all_eq_false]
    exact ⟨p, h, by simp [hm]⟩
  unfold memOk
  rw [this]; rfl
theorem mem_end {m : List Pr} (h1 : ∀ p ∈ m, may p.1 p.2 = true) (h2 : (m.map (·.1)).Nodup) : memOk m = (decide (0 < m.length) && decide (m.length ≤ 24)) := by
  have : (m.all fun p => may p.1 p.2) = true := List.all_eq_true.2 h1
  unfold memOk
  rw [this]; simp [h2]
attribute [local irreducible] may memOk risB risA rank
set_option maxRecDepth 100000 in
set_option maxHeartbeats 2000000 in
theorem members_ok (v : Value) (m : List Pr) (hw : okPids m) (w : World) (hs : Sl w 2 m.length v (elQ m)) :
    Calls Try.prog 109 #[v] w (Ret fun v' w' => v' = .bool (memOk m) ∧ Below w.heap.size w w') := by
  have H := St.init w
  have hs' := hs
  obtain ⟨ad, c0, rfl, hm, _⟩ := hs'
  unfold maxLen at hm
  have HW := Lib.hid hw
  clear hw
  go_enter Try.func109, Try.ntmps109
  go_wp2_with (first | (with_reducible refine wpl rfl (Stp.mkmap 27 ekI evU 8 rfl rfl H ?_); clear H; intro g8 w1 H; simp only [pS]) | (with_reducible refine wpl rfl (ldQ (ty := 30) rfl ?_); first | (with_reducible refine (Stp.ldor rfl agg30 size30 rfl H (by assumption) sZ (by assumption) ?_); simp only [pS]) | (with_reducible refine (Stp.ldr rfl agg30 size30 rfl H mR sZ ?_); simp only [pS]) | (with_reducible refine (Stp.ldl rfl agg30 size30 rfl H mR (by simp) ?_); simp only [pS]; simp only [List.drop_succ_cons, List.drop_zero, List.take_succ_cons, List.take_zero])) | (with_reducible refine wpl rfl (dQ 5 rfl ?_); with_reducible refine (Stp.alloc 5 rfl rfl zero30 H ?_); clear H; intro g5 w1 H; simp only [pS]; simp only [nC] at H) | (with_reducible refine wpl rfl (stQ (ty := 30) rfl ?_); first | (with_reducible refine (Stp.str rfl size30 rfl rfl (by first | rfl | (simp [Value.oneCell']; done) | assumption) H uP sZ sZ ?_); clear H; intro w1 H; simp only [pS]) | (with_reducible refine (Stp.stl rfl size30 rfl rfl rfl rfl H uP (by simp) ?_); clear H; intro w1 H; simp only [pS]; simp only [List.drop_succ_cons, List.drop_zero, List.take_succ_cons, List.take_zero, List.nil_append, List.cons_append, Nat.reduceAdd] at H)) | (with_reducible refine wpl rfl (ldQ (ty := 27) rfl ?_); first | (with_reducible refine (Stp.ldo rfl agg27 rfl H (by assumption) (by assumption) ?_); simp only [pS]) | (with_reducible refine (Stp.ldc rfl agg27 rfl H mR cE ?_); simp only [pS])) | (with_reducible refine wpl rfl (dQ 6 rfl ?_); with_reducible refine (Stp.alloc 6 rfl rfl zero182 H ?_); clear H; intro g6 w1 H; simp only [pS]; simp only [nC] at H) | (with_reducible refine wpl rfl (stQ (ty := 182) rfl ?_); first | (with_reducible refine (Stp.str rfl size182 rfl rfl (by first | rfl | (simp [Value.oneCell']; done) | assumption) H uP sZ sZ ?_); clear H; intro w1 H; simp only [pS]) | (with_reducible refine (Stp.stl rfl size182 rfl rfl rfl rfl H uP (by simp) ?_); clear H; intro w1 H; simp only [pS]; simp only [List.drop_succ_cons, List.drop_zero, List.take_succ_cons, List.take_zero, List.nil_append, List.cons_append, Nat.reduceAdd] at H)))
  go_loopw [11] (fun i wr => ∃ k : Nat, k ≤ m.length ∧ i = .int .i64 (k : Int) ∧ Hid (∀ p ∈ m.take k, may p.1 p.2 = true) ∧ Hid (((m.take k).map (·.1)).Nodup) ∧ St w.heap.size w wr [mapr Try.prog 27 ekI evU g8 ((m.take k).map fun p => (p.1, ()))]) (fun i _ => m.length - (intOf i).toNat)
  case atStart => exact ⟨0, Nat.zero_le _, rfl, Lib.hid (by simp), Lib.hid (by simp), H⟩
  case round =>
    clear H
    obtain ⟨k, hk, rfl, HA, HN, H⟩ := hrel
    by_cases hlt : k < m.length
    · obtain ⟨b1, o1, rfl, hb1⟩ := hs.addr (by omega)
      have hc1 := hs.cell hlt
      unfold elQ at hc1
      rw [getD_at hlt] at hc1
      have hmem : m[k] ∈ m := List.getElem_mem hlt
      have hsn := List.take_succ_eq_append_getElem hlt
      have hdr : m.drop k = m[k] :: m.drop (k + 1) := List.drop_eq_getElem_cons hlt
      obtain ⟨p, hp⟩ : ∃ p, m[k] = p := ⟨_, rfl⟩
      rw [hp] at hc1 hmem hsn hdr
      obtain ⟨p1, p2⟩ := HW.out p hmem
      have HC := Lib.hid hc1
      have HSN := Lib.hid hsn
      have HDR := Lib.hid hdr
      have kli : (k : Int) < (m.length : Int) := by omega
      clear hc1 hsn hdr hmem hp
      obtain ⟨kl, hkl⟩ := keyI p.1 p1
      have HK := Lib.hid hkl
      clear hkl
      obtain ⟨M, hM⟩ : ∃ M, (m.take k).map (fun p => (p.1, ())) = M := ⟨_, rfl⟩
      have HM := Lib.hid hM
      rw [hM] at H
      clear hM
      by_cases hin : p.1 ∈ (m.take k).map (·.1)
      · have HG : Hid (mget M p.1 = some ()) := Lib.hid (by rw [← HM.out]; exact ids_some hin)
        have HF := Lib.hid (mem_dup HSN.out hin)
        clear hin
        go_wp2_with (first | (with_reducible refine wpl rfl (Stp.ldq (cs := #[.int .u16 (p.1 : Int), .int .u32 (p.2 : Int)]) rfl agg30 size30 rfl (fun j hj => (H.below.cell hb1).trans (HC.out j hj)) rfl ?_); simp only [pS]) | (with_reducible refine wpl rfl (Stp.lookok (k := 27) (e := 182) (ek := ekI) (ev := evU) (M := M) (q := p.1) rfl keyedI ekI_inj Try.underlying181 mz182 rfl rfl HK.out H mE ?_); simp only [HG.out, Option.map_none, Option.map_some, Option.getD_none, Option.getD_some, Option.isSome_none, Option.isSome_some]; simp only [pS]) | (with_reducible refine wpl rfl (ldQ (ty := 30) rfl ?_); first | (with_reducible refine (Stp.ldor rfl agg30 size30 rfl H (by assumption) sZ (by assumption) ?_); simp only [pS]) | (with_reducible refine (Stp.ldr rfl agg30 size30 rfl H mR sZ ?_); simp only [pS]) | (with_reducible refine (Stp.ldl rfl agg30 size30 rfl H mR (by simp) ?_); simp only [pS]; simp only [List.drop_succ_cons, List.drop_zero, List.take_succ_cons, List.take_zero])) | (with_reducible refine wpl rfl (dQ 5 rfl ?_); with_reducible refine (Stp.alloc 5 rfl rfl zero30 H ?_); clear H; intro g5 w1 H; simp only [pS]; simp only [nC] at H) | (with_reducible refine wpl rfl (stQ (ty := 30) rfl ?_); first | (with_reducible refine (Stp.str rfl size30 rfl rfl (by first | rfl | (simp [Value.oneCell']; done) | assumption) H uP sZ sZ ?_); clear H; intro w1 H; simp only [pS]) | (with_reducible refine (Stp.stl rfl size30 rfl rfl rfl rfl H uP (by simp) ?_); clear H; intro w1 H; simp only [pS]; simp only [List.drop_succ_cons, List.drop_zero, List.take_succ_cons, List.take_zero, List.nil_append, List.cons_append, Nat.reduceAdd] at H)) | (with_reducible refine wpl rfl (ldQ (ty := 27) rfl ?_); first | (with_reducible refine (Stp.ldo rfl agg27 rfl H (by assumption) (by assumption) ?_); simp only [pS]) | (with_reducible refine (Stp.ldc rfl agg27 rfl H mR cE ?_); simp only [pS])) | (with_reducible refine wpl rfl (dQ 6 rfl ?_); with_reducible refine (Stp.alloc 6 rfl rfl zero182 H ?_); clear H; intro g6 w1 H; simp only [pS]; simp only [nC] at H) | (with_reducible refine wpl rfl (stQ (ty := 182) rfl ?_); first | (with_reducible refine (Stp.str rfl size182 rfl rfl (by first | rfl | (simp [Value.oneCell']; done) | assumption) H uP sZ sZ ?_); clear H; intro w1 H; simp only [pS]) | (with_reducible refine (Stp.stl rfl size182 rfl rfl rfl rfl H uP (by simp) ?_); clear H; intro w1 H; simp only [pS]; simp only [List.drop_succ_cons, List.drop_zero, List.take_succ_cons, List.take_zero, List.nil_append, List.cons_append, Nat.reduceAdd] at H)))
        go_ret
        exact ⟨_, rfl, by rw [HF.out]; rfl, H.below⟩
      · have HG : Hid (mget M p.1 = none) := Lib.hid (by rw [← HM.out]; exact ids_none.2 hin)
        have HP : Hid (mput M p.1 () = (m.take (k + 1)).map fun p => (p.1, ())) := Lib.hid (by rw [← HM.out, HSN.out]; exact ids_put hin)
        have HI := Lib.hid hin
        clear hin
        cases hmy : may p.1 p.2
        · have HF : Hid (memOk m = false) := Lib.hid (mem_may (List.mem_of_mem_take (by rw [HSN.out]; simp : p ∈ m.take (k + 1))) hmy)
          have HY := Lib.hid hmy
          clear hmy
          go_wp2_with (first | (with_reducible refine wpl rfl (Stp.ldq (cs := #[.int .u16 (p.1 : Int), .int .u32 (p.2 : Int)]) rfl agg30 size30 rfl (fun j hj => (H.below.cell hb1).trans (HC.out j hj)) rfl ?_); simp only [pS]) | (with_reducible refine wpl rfl (Stp.lookok (k := 27) (e := 182) (ek := ekI) (ev := evU) (M := M) (q := p.1) rfl keyedI ekI_inj Try.underlying181 mz182 rfl rfl HK.out H mE ?_); simp only [HG.out, Option.map_none, Option.map_some, Option.getD_none, Option.getD_some, Option.isSome_none, Option.isSome_some]; simp only [pS]) | (go_at_call 80; (with_reducible refine (may_ok p.1 p.2 _).mono ?_); rintro e w1 ⟨v, rfl, hr⟩; obtain ⟨rfl, hb1⟩ := hr; replace H := H.grow hb1; clear hb1; rw [HY.out]) | (with_reducible refine wpl rfl (ldQ (ty := 30) rfl ?_); first | (with_reducible refine (Stp.ldor rfl agg30 size30 rfl H (by assumption) sZ (by assumption) ?_); simp only [pS]) | (with_reducible refine (Stp.ldr rfl agg30 size30 rfl H mR sZ ?_); simp only [pS]) | (with_reducible refine (Stp.ldl rfl agg30 size30 rfl H mR (by simp) ?_); simp only [pS]; simp only [List.drop_succ_cons, List.drop_zero, List.take_succ_cons, List.take_zero])) | (with_reducible refine wpl rfl (dQ 5 rfl ?_); with_reducible refine (Stp.alloc 5 rfl rfl zero30 H ?_); clear H; intro g5 w1 H; simp only [pS]; simp only [nC] at H) | (with_reducible refine wpl rfl (stQ (ty := 30) rfl ?_); first | (with_reducible refine (Stp.str rfl size30 rfl rfl (by first | rfl | (simp [Value.oneCell']; done) | assumption) H uP sZ sZ ?_); clear H; intro w1 H; simp only [pS]) | (with_reducible refine (Stp.stl rfl size30 rfl rfl rfl rfl H uP (by simp) ?_); clear H; intro w1 H; simp only [pS]; simp only [List.drop_succ_cons, List.drop_zero, List.take_succ_cons, List.take_zero, List.nil_append, List.cons_append, Nat.reduceAdd] at H)) | (with_reducible refine wpl rfl (ldQ (ty := 27) rfl ?_); first | (with_reducible refine (Stp.ldo rfl agg27 rfl H (by assumption) (by assumption) ?_); simp only [pS]) | (with_reducible refine (Stp.ldc rfl agg27 rfl H mR cE ?_); simp only [pS])) | (with_reducible refine wpl rfl (dQ 6 rfl ?_); with_reducible refine (Stp.alloc 6 rfl rfl zero182 H ?_); clear H; intro g6 w1 H; simp only [pS]; simp only [nC] at H) | (with_reducible refine wpl rfl (stQ (ty := 182) rfl ?_); first | (with_reducible refine (Stp.str rfl size182 rfl rfl (by first | rfl | (simp [Value.oneCell']; done) | assumption) H uP sZ sZ ?_); clear H; intro w1 H; simp only [pS]) | (with_reducible refine (Stp.stl rfl size182 rfl rfl rfl rfl H uP (by simp) ?_); clear H; intro w1 H; simp only [pS]; simp only [List.drop_succ_cons, List.drop_zero, List.take_succ_cons, List.take_zero, List.nil_append, List.cons_append, Nat.reduceAdd] at H)))
          go_ret
          exact ⟨_, rfl, by rw [HF.out]; rfl, H.below⟩
        · have HY := Lib.hid hmy
          clear hmy
          go_wp2_with (first | (with_reducible refine wpl rfl (Stp.ldq (cs := #[.int .u16 (p.1 : Int), .int .u32 (p.2 : Int)]) rfl agg30 size30 rfl (fun j hj => (H.below.cell hb1).trans (HC.out j hj)) rfl ?_); simp only [pS]) | (with_reducible refine wpl rfl (Stp.lookok (k := 27) (e := 182) (ek := ekI) (ev := evU) (M := M) (q := p.1) rfl keyedI ekI_inj Try.underlying181 mz182 rfl rfl HK.out H mE ?_); simp only [HG.out, Option.map_none, Option.map_some, Option.getD_none, Option.getD_some, Option.isSome_none, Option.isSome_some]; simp only [pS]) | (with_reducible refine wpl rfl (Stp.mapup (k := 27) (e := 182) (ek := ekI) (ev := evU) (M := M) (q := p.1) (v := ()) rfl keyedI ekI_inj Try.underlying181 rfl rfl rfl HK.out H uP ?_); clear H; intro w1 H; simp only [pS]) | (go_at_call 80; (with_reducible refine (may_ok p.1 p.2 _).mono ?_); rintro e w1 ⟨v, rfl, hr⟩; obtain ⟨rfl, hb1⟩ := hr; replace H := H.grow hb1; clear hb1; rw [HY.out]) | (with_reducible refine wpl rfl (dQ 31 rfl ?_); with_reducible refine (Stp.build (v := (.agg #[])) 31 rfl rfl (fun W => by kernel_rfl) ?_); simp only [pS]) | (with_reducible refine wpl rfl (ldQ (ty := 30) rfl ?_); first | (with_reducible refine (Stp.ldor rfl agg30 size30 rfl H (by assumption) sZ (by assumption) ?_); simp only [pS]) | (with_reducible refine (Stp.ldr rfl agg30 size30 rfl H mR sZ ?_); simp only [pS]) | (with_reducible refine (Stp.ldl rfl agg30 size30 rfl H mR (by simp) ?_); simp only [pS]; simp only [List.drop_succ_cons, List.drop_zero, List.take_succ_cons, List.take_zero])) | (with_reducible refine wpl rfl (dQ 5 rfl ?_); with_reducible refine (Stp.alloc 5 rfl rfl zero30 H ?_); clear H; intro g5 w1 H; simp only [pS]; simp only [nC] at H) | (with_reducible refine wpl rfl (stQ (ty := 30) rfl ?_); first | (with_reducible refine (Stp.str rfl size30 rfl rfl (by first | rfl | (simp [Value.oneCell']; done) | assumption) H uP sZ sZ ?_); clear H; intro w1 H; simp only [pS]) | (with_reducible refine (Stp.stl rfl size30 rfl rfl rfl rfl H uP (by simp) ?_); clear H; intro w1 H; simp only [pS]; simp only [List.drop_succ_cons, List.drop_zero, List.take_succ_cons, List.take_zero, List.nil_append, List.cons_append, Nat.reduceAdd] at H)) | (with_reducible refine wpl rfl (ldQ (ty := 27) rfl ?_); first | (with_reducible refine (Stp.ldo rfl agg27 rfl H (by assumption) (by assumption) ?_); simp only [pS]) | (with_reducible refine (Stp.ldc rfl agg27 rfl H mR cE ?_); simp only [pS])) | (with_reducible refine wpl rfl (dQ 6 rfl ?_); with_reducible refine (Stp.alloc 6 rfl rfl zero182 H ?_); clear H; intro g6 w1 H; simp only [pS]; simp only [nC] at H) | (with_reducible refine wpl rfl (stQ (ty := 182) rfl ?_); first | (with_reducible refine (Stp.str rfl size182 rfl rfl (by first | rfl | (simp [Value.oneCell']; done) | assumption) H uP sZ sZ ?_); clear H; intro w1 H; simp only [pS]) | (with_reducible refine (Stp.stl rfl size182 rfl rfl rfl rfl H uP (by simp) ?_); clear H; intro w1 H; simp only [pS]; simp only [List.drop_succ_cons, List.drop_zero, List.take_succ_cons, List.take_zero, List.nil_append, List.cons_append, Nat.reduceAdd] at H)))
          go_roundw
          case rel =>
            refine ⟨k + 1, by omega, by go_num, Lib.hid (fun q hq => ?_), Lib.hid ?_, by rw [← HP.out]; exact H.sub sU⟩
            · rw [HSN.out] at hq
              rcases List.mem_append.1 hq with h | h
              · exact HA.out q h
              · rw [List.mem_singleton] at h; subst h; exact HY.out
            · rw [HSN.out, List.map_append, List.nodup_append]
              refine ⟨HN.out, by simp, fun a ha b hb e => ?_⟩
              simp only [List.map_cons, List.map_nil, List.mem_singleton] at hb
              subst hb; subst e
              exact HI.out ha
          case measure => simp [intOf]; omega
    · obtain rfl : k = m.length := by omega
      have ha := HA.out
      have hn := HN.out
      rw [List.take_length] at ha hn
      have HE := Lib.hid (mem_end ha hn)
      clear ha hn HA HN
      by_cases h0 : 0 < m.length
      · have h0i : (0 : Int) < (m.length : Int) := by omega
        by_cases h24 : m.length ≤ 24
        · have h24i : (m.length : Int) ≤ 24 := by omega
          go_wp2_with (first | (with_reducible refine wpl rfl (ldQ (ty := 30) rfl ?_); first | (with_reducible refine (Stp.ldor rfl agg30 size30 rfl H (by assumption) sZ (by assumption) ?_); simp only [pS]) | (with_reducible refine (Stp.ldr rfl agg30 size30 rfl H mR sZ ?_); simp only [pS]) | (with_reducible refine (Stp.ldl rfl agg30 size30 rfl H mR (by simp) ?_); simp only [pS]; simp only [List.drop_succ_cons, List.drop_zero, List.take_succ_cons, List.take_zero])) | (with_reducible refine wpl rfl (dQ 5 rfl ?_); with_reducible refine (Stp.alloc 5 rfl rfl zero30 H ?_); clear H; intro g5 w1 H; simp only [pS]; simp only [nC] at H) | (with_reducible refine wpl rfl (stQ (ty := 30) rfl ?_); first | (with_reducible refine (Stp.str rfl size30 rfl rfl (by first | rfl | (simp [Value.oneCell']; done) | assumption) H uP sZ sZ ?_); clear H; intro w1 H; simp only [pS]) | (with_reducible refine (Stp.stl rfl size30 rfl rfl rfl rfl H uP (by simp) ?_); clear H; intro w1 H; simp only [pS]; simp only [List.drop_succ_cons, List.drop_zero, List.take_succ_cons, List.take_zero, List.nil_append, List.cons_append, Nat.reduceAdd] at H)) | (with_reducible refine wpl rfl (ldQ (ty := 27) rfl ?_); first | (with_reducible refine (Stp.ldo rfl agg27 rfl H (by assumption) (by assumption) ?_); simp only [pS]) | (with_reducible refine (Stp.ldc rfl agg27 rfl H mR cE ?_); simp only [pS])) | (with_reducible refine wpl rfl (dQ 6 rfl ?_); with_reducible refine (Stp.alloc 6 rfl rfl zero182 H ?_); clear H; intro g6 w1 H; simp only [pS]; simp only [nC] at H) | (with_reducible refine wpl rfl (stQ (ty := 182) rfl ?_); first | (with_reducible refine (Stp.str rfl size182 rfl rfl (by first | rfl | (simp [Value.oneCell']; done) | assumption) H uP sZ sZ ?_); clear H; intro w1 H; simp only [pS]) | (with_reducible refine (Stp.stl rfl size182 rfl rfl rfl rfl H uP (by simp) ?_); clear H; intro w1 H; simp only [pS]; simp only [List.drop_succ_cons, List.drop_zero, List.take_succ_cons, List.take_zero, List.nil_append, List.cons_append, Nat.reduceAdd] at H)))
          go_ret
          exact ⟨_, rfl, by rw [HE.out, decide_eq_true h0, decide_eq_true h24]; rfl, H.below⟩
        · have h24i : ¬ (m.length : Int) ≤ 24 := by omega
          go_wp2_with (first | (with_reducible refine wpl rfl (ldQ (ty := 30) rfl ?_); first | (with_reducible refine (Stp.ldor rfl agg30 size30 rfl H (by assumption) sZ (by assumption) ?_); simp only [pS]) | (with_reducible refine (Stp.ldr rfl agg30 size30 rfl H mR sZ ?_); simp only [pS]) | (with_reducible refine (Stp.ldl rfl agg30 size30 rfl H mR (by simp) ?_); simp only [pS]; simp only [List.drop_succ_cons, List.drop_zero, List.take_succ_cons, List.take_zero])) | (with_reducible refine wpl rfl (dQ 5 rfl ?_); with_reducible refine (Stp.alloc 5 rfl rfl zero30 H ?_); clear H; intro g5 w1 H; simp only [pS]; simp only [nC] at H) | (with_reducible refine wpl rfl (stQ (ty := 30) rfl ?_); first | (with_reducible refine (Stp.str rfl size30 rfl rfl (by first | rfl | (simp [Value.oneCell']; done) | assumption) H uP sZ sZ ?_); clear H; intro w1 H; simp only [pS]) | (with_reducible refine (Stp.stl rfl size30 rfl rfl rfl rfl H uP (by simp) ?_); clear H; intro w1 H; simp only [pS]; simp only [List.drop_succ_cons, List.drop_zero, List.take_succ_cons, List.take_zero, List.nil_append, List.cons_append, Nat.reduceAdd] at H)) | (with_reducible refine wpl rfl (ldQ (ty := 27) rfl ?_); first | (with_reducible refine (Stp.ldo rfl agg27 rfl H (by assumption) (by assumption) ?_); simp only [pS]) | (with_reducible refine (Stp.ldc rfl agg27 rfl H mR cE ?_); simp only [pS])) | (with_reducible refine wpl rfl (dQ 6 rfl ?_); with_reducible refine (Stp.alloc 6 rfl rfl zero182 H ?_); clear H; intro g6 w1 H; simp only [pS]; simp only [nC] at H) | (with_reducible refine wpl rfl (stQ (ty := 182) rfl ?_); first | (with_reducible refine (Stp.str rfl size182 rfl rfl (by first | rfl | (simp [Value.oneCell']; done) | assumption) H uP sZ sZ ?_); clear H; intro w1 H; simp only [pS]) | (with_reducible refine (Stp.stl rfl size182 rfl rfl rfl rfl H uP (by simp) ?_); clear H; intro w1 H; simp only [pS]; simp only [List.drop_succ_cons, List.drop_zero, List.take_succ_cons, List.take_zero, List.nil_append, List.cons_append, Nat.reduceAdd] at H)))
          go_ret
          exact ⟨_, rfl, by rw [HE.out, decide_eq_true h0, decide_eq_false h24]; rfl, H.below⟩
      · have h0i : ¬ (0 : Int) < (m.length : Int) := by omega
        go_wp2_with (first | (with_reducible refine wpl rfl (ldQ (ty := 30) rfl ?_); first | (with_reducible refine (Stp.ldor rfl agg30 size30 rfl H (by assumption) sZ (by assumption) ?_); simp only [pS]) | (with_reducible refine (Stp.ldr rfl agg30 size30 rfl H mR sZ ?_); simp only [pS]) | (with_reducible refine (Stp.ldl rfl agg30 size30 rfl H mR (by simp) ?_); simp only [pS]; simp only [List.drop_succ_cons, List.drop_zero, List.take_succ_cons, List.take_zero])) | (with_reducible refine wpl rfl (dQ 5 rfl ?_); with_reducible refine (Stp.alloc 5 rfl rfl zero30 H ?_); clear H; intro g5 w1 H; simp only [pS]; simp only [nC] at H) | (with_reducible refine wpl rfl (stQ (ty := 30) rfl ?_); first | (with_reducible refine (Stp.str rfl size30 rfl rfl (by first | rfl | (simp [Value.oneCell']; done) | assumption) H uP sZ sZ ?_); clear H; intro w1 H; simp only [pS]) | (with_reducible refine (Stp.stl rfl size30 rfl rfl rfl rfl H uP (by simp) ?_); clear H; intro w1 H; simp only [pS]; simp only [List.drop_succ_cons, List.drop_zero, List.take_succ_cons, List.take_zero, List.nil_append, List.cons_append, Nat.reduceAdd] at H)) | (with_reducible refine wpl rfl (ldQ (ty := 27) rfl ?_); first | (with_reducible refine (Stp.ldo rfl agg27 rfl H (by assumption) (by assumption) ?_); simp only [pS]) | (with_reducible refine (Stp.ldc rfl agg27 rfl H mR cE ?_); simp only [pS])) | (with_reducible refine wpl rfl (dQ 6 rfl ?_); with_reducible refine (Stp.alloc 6 rfl rfl zero182 H ?_); clear H; intro g6 w1 H; simp only [pS]; simp only [nC] at H) | (with_reducible refine wpl rfl (stQ (ty := 182) rfl ?_); first | (with_reducible refine (Stp.str rfl size182 rfl rfl (by first | rfl | (simp [Value.oneCell']; done) | assumption) H uP sZ sZ ?_); clear H; intro w1 H; simp only [pS]) | (with_reducible refine (Stp.stl rfl size182 rfl rfl rfl rfl H uP (by simp) ?_); clear H; intro w1 H; simp only [pS]; simp only [List.drop_succ_cons, List.drop_zero, List.take_succ_cons, List.take_zero, List.nil_append, List.cons_append, Nat.reduceAdd] at H)))
        go_ret
        exact ⟨_, rfl, by rw [HE.out, decide_eq_false h0]; rfl, H.below⟩
attribute [local semireducible] rank risA risB
theorem ranks_put {m : List Pr} {k : Nat} {p : Pr} {M : List (Pr × Nat)} (hk : k < m.length) (hs : m.take (k + 1) = m.take k ++ [p]) (hM : ∀ q, mget M q = rank (m.take k) q) (hp : rank (m.take k) p = none) : ∀ q, mget (mput M p k) q = rank (m.take (k + 1)) q := by
  intro q
  have hl : (m.take k).length = k := by rw [List.length_take]; omega
  rw [hs, rank_snoc, mget_put, hl, hM]
  by_cases h : q = p
  · subst h; simp [hp]
  · rw [if_neg h]
    cases rank (m.take k) q with
    | some j => rfl
    | none => simp [Ne.symm h]
theorem ranks_old {m : List Pr} {k j : Nat} {p : Pr} (hs : m.take (k + 1) = m.take k ++ [p]) (hp : rank (m.take k) p = some j) : ∀ q, rank (m.take (k + 1)) q = rank (m.take k) q := by
  intro q
  rw [hs, rank_snoc]
  cases h : rank (m.take k) q with
  | some i => rfl
  | none =>
    have : p ≠ q := fun e => by subst e; rw [hp] at h; cases h
    simp [this]
theorem ris_none {r m : List Pr} {p : Pr} {last : Int} (h : rank r p = none) : risA r last (p :: m) = false := by unfold risA; rw [h]
theorem ris_some {r m : List Pr} {p : Pr} {last : Int} {k : Nat} (h : rank r p = some k) : risA r last (p :: m) = (decide (last < (k : Int)) && risA r k m) := by conv => lhs; unfold risA; rw [h]
attribute [local irreducible] rank risA risB
set_option maxRecDepth 100000 in
set_option maxHeartbeats 2000000 in
theorem ranks_ok (i : Nat) (ma : Option Addr) (mc : Nat) (vl vd : Value) (m : List Pr) (hw : okPids m) (w : World) (hs : Sl w 2 m.length (.slice ma m.length mc) (elQ m)) :
    Calls Try.prog 110 #[.agg #[.int .u64 (i : Int), .slice ma m.length mc, vl, vd]] w (Ret fun v' w' => ∃ gm M, v' = .map (some gm) ∧ MapAt Try.prog 30 ekP evN gm M w' ∧ (∀ p, mget M p = rank m p) ∧ w.heap.size ≤ gm ∧ Below w.heap.size w w') := by
  have H := St.init w
  have hs' := hs
  obtain ⟨ad, c0, e0, hm, _⟩ := hs'
  injection e0 with e0 _ e1
  subst e0 e1
  unfold maxLen at hm
  have HW := Lib.hid hw
  clear hw
  go_enter Try.func110, Try.ntmps110
  go_wp2_with (first | (with_reducible refine wpl rfl (Stp.mkmap 30 ekP evN 8 rfl rfl H ?_); clear H; intro g8 w1 H; simp only [pS]) | (with_reducible refine wpl rfl (dQ 1 rfl ?_); with_reducible refine (Stp.box 1 rfl rfl rfl H ?_); clear H; intro g1 w1 H; simp only [pS]; simp only [pE, nC, pS] at H) | (with_reducible refine wpl rfl (ldQ (ty := 31) rfl ?_); first | (with_reducible refine (Stp.ldo rfl agg31 rfl H (by assumption) (by assumption) ?_); simp only [pS]) | (with_reducible refine (Stp.ldc rfl agg31 rfl H mR cE ?_); simp only [pS])) | (with_reducible refine wpl rfl (ldQ (ty := 30) rfl ?_); first | (with_reducible refine (Stp.ldor rfl agg30 size30 rfl H (by assumption) sZ (by assumption) ?_); simp only [pS]) | (with_reducible refine (Stp.ldr rfl agg30 size30 rfl H mR sZ ?_); simp only [pS]) | (with_reducible refine (Stp.ldl rfl agg30 size30 rfl H mR (by simp) ?_); simp only [pS]; simp only [List.drop_succ_cons, List.drop_zero, List.take_succ_cons, List.take_zero])) | (with_reducible refine wpl rfl (dQ 5 rfl ?_); with_reducible refine (Stp.alloc 5 rfl rfl zero30 H ?_); clear H; intro g5 w1 H; simp only [pS]; simp only [nC] at H) | (with_reducible refine wpl rfl (stQ (ty := 30) rfl ?_); first | (with_reducible refine (Stp.str rfl size30 rfl rfl (by first | rfl | (simp [Value.oneCell']; done) | assumption) H uP sZ sZ ?_); clear H; intro w1 H; simp only [pS]) | (with_reducible refine (Stp.stl rfl size30 rfl rfl rfl rfl H uP (by simp) ?_); clear H; intro w1 H; simp only [pS]; simp only [List.drop_succ_cons, List.drop_zero, List.take_succ_cons, List.take_zero, List.nil_append, List.cons_append, Nat.reduceAdd] at H)))
  replace H := H.sub (L' := [mapr Try.prog 30 ekP evN g8 []]) sU
  go_loopw [12] (fun i wr => ∃ (k : Nat) (M : List (Pr × Nat)), k ≤ m.length ∧ i = .int .i64 (k : Int) ∧ Hid (∀ p, mget M p = rank (m.take k) p) ∧ St w.heap.size w wr [mapr Try.prog 30 ekP evN g8 M]) (fun i _ => m.length - (intOf i).toNat)
  case atStart => exact ⟨0, [], Nat.zero_le _, rfl, Lib.hid (fun p => by simp [mget_nil, rank_none.2]), H⟩
  case round =>
    clear H
    obtain ⟨k, M, hk, rfl, HM, H⟩ := hrel
    by_cases hlt : k < m.length
    · obtain ⟨b1, o1, rfl, hb1⟩ := hs.addr (by omega)
      have hc1 := hs.cell hlt
      unfold elQ at hc1
      rw [getD_at hlt] at hc1
      have hmem : m[k] ∈ m := List.getElem_mem hlt
      have hsn := List.take_succ_eq_append_getElem hlt
      have hdr : m.drop k = m[k] :: m.drop (k + 1) := List.drop_eq_getElem_cons hlt
      obtain ⟨p, hp⟩ : ∃ p, m[k] = p := ⟨_, rfl⟩
      rw [hp] at hc1 hmem hsn hdr
      obtain ⟨p1, p2⟩ := HW.out p hmem
      have HC := Lib.hid hc1
      have HSN := Lib.hid hsn
      have HDR := Lib.hid hdr
      have kli : (k : Int) < (m.length : Int) := by omega
      clear hc1 hsn hdr hmem hp
      obtain ⟨kl, hkl⟩ := keyP p p1 p2
      have HK := Lib.hid hkl
      clear hkl
      cases hrk : rank (m.take k) p with
      | some j =>
        have HG : Hid (mget M p = some j) := Lib.hid (by rw [HM.out, hrk])
        have HO := Lib.hid (ranks_old HSN.out hrk)
        clear hrk
        go_wp2_with (first | (with_reducible refine wpl rfl (Stp.ldq (cs := #[.int .u16 (p.1 : Int), .int .u32 (p.2 : Int)]) rfl agg30 size30 rfl (fun j hj => (H.below.cell hb1).trans (HC.out j hj)) rfl ?_); simp only [pS]) | (with_reducible refine wpl rfl (Stp.lookok (k := 30) (e := 3) (ek := ekP) (ev := evN) (M := M) (q := p) rfl keyedP ekP_inj Try.underlying159 mz3 rfl rfl HK.out H mE ?_); simp only [HG.out, Option.map_none, Option.map_some, Option.getD_none, Option.getD_some, Option.isSome_none, Option.isSome_some]; simp only [pS]) | (with_reducible refine wpl rfl (dQ 1 rfl ?_); with_reducible refine (Stp.box 1 rfl rfl rfl H ?_); clear H; intro g1 w1 H; simp only [pS]; simp only [pE, nC, pS] at H) | (with_reducible refine wpl rfl (ldQ (ty := 31) rfl ?_); first | (with_reducible refine (Stp.ldo rfl agg31 rfl H (by assumption) (by assumption) ?_); simp only [pS]) | (with_reducible refine (Stp.ldc rfl agg31 rfl H mR cE ?_); simp only [pS])) | (with_reducible refine wpl rfl (ldQ (ty := 30) rfl ?_); first | (with_reducible refine (Stp.ldor rfl agg30 size30 rfl H (by assumption) sZ (by assumption) ?_); simp only [pS]) | (with_reducible refine (Stp.ldr rfl agg30 size30 rfl H mR sZ ?_); simp only [pS]) | (with_reducible refine (Stp.ldl rfl agg30 size30 rfl H mR (by simp) ?_); simp only [pS]; simp only [List.drop_succ_cons, List.drop_zero, List.take_succ_cons, List.take_zero])) | (with_reducible refine wpl rfl (dQ 5 rfl ?_); with_reducible refine (Stp.alloc 5 rfl rfl zero30 H ?_); clear H; intro g5 w1 H; simp only [pS]; simp only [nC] at H) | (with_reducible refine wpl rfl (stQ (ty := 30) rfl ?_); first | (with_reducible refine (Stp.str rfl size30 rfl rfl (by first | rfl | (simp [Value.oneCell']; done) | assumption) H uP sZ sZ ?_); clear H; intro w1 H; simp only [pS]) | (with_reducible refine (Stp.stl rfl size30 rfl rfl rfl rfl H uP (by simp) ?_); clear H; intro w1 H; simp only [pS]; simp only [List.drop_succ_cons, List.drop_zero, List.take_succ_cons, List.take_zero, List.nil_append, List.cons_append, Nat.reduceAdd] at H)))
        go_roundw
        case rel => exact ⟨k + 1, M, by omega, by go_num, Lib.hid (fun q => by rw [HM.out, HO.out]), H.sub sU⟩
        case measure => simp [intOf]; omega
      | none =>
        have HG : Hid (mget M p = none) := Lib.hid (by rw [HM.out, hrk])
        have HO := Lib.hid (ranks_put hlt HSN.out HM.out hrk)
        clear hrk
        go_wp2_with (first | (with_reducible refine wpl rfl (Stp.ldq (cs := #[.int .u16 (p.1 : Int), .int .u32 (p.2 : Int)]) rfl agg30 size30 rfl (fun j hj => (H.below.cell hb1).trans (HC.out j hj)) rfl ?_); simp only [pS]) | (with_reducible refine wpl rfl (Stp.lookok (k := 30) (e := 3) (ek := ekP) (ev := evN) (M := M) (q := p) rfl keyedP ekP_inj Try.underlying159 mz3 rfl rfl HK.out H mE ?_); simp only [HG.out, Option.map_none, Option.map_some, Option.getD_none, Option.getD_some, Option.isSome_none, Option.isSome_some]; simp only [pS]) | (with_reducible refine wpl rfl (Stp.mapup (k := 30) (e := 3) (ek := ekP) (ev := evN) (M := M) (q := p) (v := k) rfl keyedP ekP_inj Try.underlying159 rfl rfl rfl HK.out H uP ?_); clear H; intro w1 H; simp only [pS]) | (with_reducible refine wpl rfl (dQ 1 rfl ?_); with_reducible refine (Stp.box 1 rfl rfl rfl H ?_); clear H; intro g1 w1 H; simp only [pS]; simp only [pE, nC, pS] at H) | (with_reducible refine wpl rfl (ldQ (ty := 31) rfl ?_); first | (with_reducible refine (Stp.ldo rfl agg31 rfl H (by assumption) (by assumption) ?_); simp only [pS]) | (with_reducible refine (Stp.ldc rfl agg31 rfl H mR cE ?_); simp only [pS])) | (with_reducible refine wpl rfl (ldQ (ty := 30) rfl ?_); first | (with_reducible refine (Stp.ldor rfl agg30 size30 rfl H (by assumption) sZ (by assumption) ?_); simp only [pS]) | (with_reducible refine (Stp.ldr rfl agg30 size30 rfl H mR sZ ?_); simp only [pS]) | (with_reducible refine (Stp.ldl rfl agg30 size30 rfl H mR (by simp) ?_); simp only [pS]; simp only [List.drop_succ_cons, List.drop_zero, List.take_succ_cons, List.take_zero])) | (with_reducible refine wpl rfl (dQ 5 rfl ?_); with_reducible refine (Stp.alloc 5 rfl rfl zero30 H ?_); clear H; intro g5 w1 H; simp only [pS]; simp only [nC] at H) | (with_reducible refine wpl rfl (stQ (ty := 30) rfl ?_); first | (with_reducible refine (Stp.str rfl size30 rfl rfl (by first | rfl | (simp [Value.oneCell']; done) | assumption) H uP sZ sZ ?_); clear H; intro w1 H; simp only [pS]) | (with_reducible refine (Stp.stl rfl size30 rfl rfl rfl rfl H uP (by simp) ?_); clear H; intro w1 H; simp only [pS]; simp only [List.drop_succ_cons, List.drop_zero, List.take_succ_cons, List.take_zero, List.nil_append, List.cons_append, Nat.reduceAdd] at H)))
        go_roundw
        case rel => exact ⟨k + 1, _, by omega, by go_num, HO, H.sub sU⟩
        case measure => simp [intOf]; omega
    · obtain rfl : k = m.length := by omega
      have hM := HM.out
      rw [List.take_length] at hM
      have HM' := Lib.hid hM
      clear HM hM
      go_wp2_with (first | (with_reducible refine wpl rfl (dQ 1 rfl ?_); with_reducible refine (Stp.box 1 rfl rfl rfl H ?_); clear H; intro g1 w1 H; simp only [pS]; simp only [pE, nC, pS] at H) | (with_reducible refine wpl rfl (ldQ (ty := 31) rfl ?_); first | (with_reducible refine (Stp.ldo rfl agg31 rfl H (by assumption) (by assumption) ?_); simp only [pS]) | (with_reducible refine (Stp.ldc rfl agg31 rfl H mR cE ?_); simp only [pS])) | (with_reducible refine wpl rfl (ldQ (ty := 30) rfl ?_); first | (with_reducible refine (Stp.ldor rfl agg30 size30 rfl H (by assumption) sZ (by assumption) ?_); simp only [pS]) | (with_reducible refine (Stp.ldr rfl agg30 size30 rfl H mR sZ ?_); simp only [pS]) | (with_reducible refine (Stp.ldl rfl agg30 size30 rfl H mR (by simp) ?_); simp only [pS]; simp only [List.drop_succ_cons, List.drop_zero, List.take_succ_cons, List.take_zero])) | (with_reducible refine wpl rfl (dQ 5 rfl ?_); with_reducible refine (Stp.alloc 5 rfl rfl zero30 H ?_); clear H; intro g5 w1 H; simp only [pS]; simp only [nC] at H) | (with_reducible refine wpl rfl (stQ (ty := 30) rfl ?_); first | (with_reducible refine (Stp.str rfl size30 rfl rfl (by first | rfl | (simp [Value.oneCell']; done) | assumption) H uP sZ sZ ?_); clear H; intro w1 H; simp only [pS]) | (with_reducible refine (Stp.stl rfl size30 rfl rfl rfl rfl H uP (by simp) ?_); clear H; intro w1 H; simp only [pS]; simp only [List.drop_succ_cons, List.drop_zero, List.take_succ_cons, List.take_zero, List.nil_append, List.cons_append, Nat.reduceAdd] at H)))
      go_ret
      exact ⟨_, rfl, g8, M, rfl, H.get (r := mapr Try.prog 30 ekP evN g8 M) mE, HM'.out, H.base (mapr Try.prog 30 ekP evN g8 M) mE g8 rfl, H.below⟩
set_option maxRecDepth 100000 in
set_option maxHeartbeats 2000000 in
theorem rising_ok (b : Nat) (M : List (Pr × Nat)) (r m : List Pr) (v : Value) (hw : okPids m) (hr : ∀ p, mget M p = rank r p) (w : World) (hM : MapAt Try.prog 30 ekP evN b M w) (hs : Sl w 2 m.length v (elQ m)) :
    Calls Try.prog 111 #[.map (some b), v] w (Ret fun v' w' => v' = .bool (risB r m) ∧ Below w.heap.size w w') := by
  have H := St.init w
  have hs' := hs
  obtain ⟨ad, c0, rfl, hm, _⟩ := hs'
  unfold maxLen at hm
  have HW := Lib.hid hw
  have HR := Lib.hid hr
  clear hw hr
  go_enter Try.func111, Try.ntmps111
  go_wp2_with (first | (with_reducible refine wpl rfl (ldQ (ty := 30) rfl ?_); first | (with_reducible refine (Stp.ldor rfl agg30 size30 rfl H (by assumption) sZ (by assumption) ?_); simp only [pS]) | (with_reducible refine (Stp.ldr rfl agg30 size30 rfl H mR sZ ?_); simp only [pS]) | (with_reducible refine (Stp.ldl rfl agg30 size30 rfl H mR (by simp) ?_); simp only [pS]; simp only [List.drop_succ_cons, List.drop_zero, List.take_succ_cons, List.take_zero])) | (with_reducible refine wpl rfl (dQ 7 rfl ?_); with_reducible refine (Stp.alloc 7 rfl rfl zero30 H ?_); clear H; intro g7 w1 H; simp only [pS]; simp only [nC] at H) | (with_reducible refine wpl rfl (stQ (ty := 30) rfl ?_); first | (with_reducible refine (Stp.str rfl size30 rfl rfl (by first | rfl | (simp [Value.oneCell']; done) | assumption) H uP sZ sZ ?_); clear H; intro w1 H; simp only [pS]) | (with_reducible refine (Stp.stl rfl size30 rfl rfl rfl rfl H uP (by simp) ?_); clear H; intro w1 H; simp only [pS]; simp only [List.drop_succ_cons, List.drop_zero, List.take_succ_cons, List.take_zero, List.nil_append, List.cons_append, Nat.reduceAdd] at H)))
  go_loopw [5, 12] (fun l i wr => ∃ (k : Nat) (last : Int), k ≤ m.length ∧ i = .int .i64 (k : Int) ∧ l = .int .i64 last ∧ Hid (risB r m = risA r last (m.drop k)) ∧ St w.heap.size w wr []) (fun _ i _ => m.length - (intOf i).toNat)
  case atStart => exact ⟨0, -1, Nat.zero_le _, rfl, rfl, Lib.hid (by unfold risB; rfl), H⟩
  case round =>
    clear H
    obtain ⟨k, last, hk, rfl, rfl, HD, H⟩ := hrel
    by_cases hlt : k < m.length
    · obtain ⟨b1, o1, rfl, hb1⟩ := hs.addr (by omega)
      have hc1 := hs.cell hlt
      unfold elQ at hc1
      rw [getD_at hlt] at hc1
      have hmem : m[k] ∈ m := List.getElem_mem hlt
      have hsn := List.take_succ_eq_append_getElem hlt
      have hdr : m.drop k = m[k] :: m.drop (k + 1) := List.drop_eq_getElem_cons hlt
      obtain ⟨p, hp⟩ : ∃ p, m[k] = p := ⟨_, rfl⟩
      rw [hp] at hc1 hmem hsn hdr
      obtain ⟨p1, p2⟩ := HW.out p hmem
      have HC := Lib.hid hc1
      have HSN := Lib.hid hsn
      have HDR := Lib.hid hdr
      have kli : (k : Int) < (m.length : Int) := by omega
      clear hc1 hsn hdr hmem hp
      obtain ⟨kl, hkl⟩ := keyP p p1 p2
      have HK := Lib.hid hkl
      clear hkl
      cases hrk : rank r p with
      | none =>
        have HG : Hid (mget M p = none) := Lib.hid (by rw [HR.out, hrk])
        have HF : Hid (risB r m = false) := Lib.hid (by rw [HD.out, HDR.out, ris_none hrk])
        clear hrk
        go_wp2_with (first | (with_reducible refine wpl rfl (Stp.ldq (cs := #[.int .u16 (p.1 : Int), .int .u32 (p.2 : Int)]) rfl agg30 size30 rfl (fun j hj => (H.below.cell hb1).trans (HC.out j hj)) rfl ?_); simp only [pS]) | (with_reducible refine wpl rfl (Stp.lookokF (k := 30) (e := 3) (ek := ekP) (ev := evN) (M := M) (q := p) rfl keyedP ekP_inj Try.underlying159 mz3 rfl rfl HK.out (hM.grow H.below) ?_); simp only [HG.out, Option.map_none, Option.map_some, Option.getD_none, Option.getD_some, Option.isSome_none, Option.isSome_some]; simp only [pS]) | (with_reducible refine wpl rfl (ldQ (ty := 30) rfl ?_); first | (with_reducible refine (Stp.ldor rfl agg30 size30 rfl H (by assumption) sZ (by assumption) ?_); simp only [pS]) | (with_reducible refine (Stp.ldr rfl agg30 size30 rfl H mR sZ ?_); simp only [pS]) | (with_reducible refine (Stp.ldl rfl agg30 size30 rfl H mR (by simp) ?_); simp only [pS]; simp only [List.drop_succ_cons, List.drop_zero, List.take_succ_cons, List.take_zero])) | (with_reducible refine wpl rfl (dQ 7 rfl ?_); with_reducible refine (Stp.alloc 7 rfl rfl zero30 H ?_); clear H; intro g7 w1 H; simp only [pS]; simp only [nC] at H) | (with_reducible refine wpl rfl (stQ (ty := 30) rfl ?_); first | (with_reducible refine (Stp.str rfl size30 rfl rfl (by first | rfl | (simp [Value.oneCell']; done) | assumption) H uP sZ sZ ?_); clear H; intro w1 H; simp only [pS]) | (with_reducible refine (Stp.stl rfl size30 rfl rfl rfl rfl H uP (by simp) ?_); clear H; intro w1 H; simp only [pS]; simp only [List.drop_succ_cons, List.drop_zero, List.take_succ_cons, List.take_zero, List.nil_append, List.cons_append, Nat.reduceAdd] at H)))
        go_ret
        exact ⟨_, rfl, by rw [HF.out]; rfl, H.below⟩
      | some j =>
        have HG : Hid (mget M p = some j) := Lib.hid (by rw [HR.out, hrk])
        by_cases hlj : last < (j : Int)
        · have HF : Hid (risB r m = risA r (j : Int) (m.drop (k + 1))) := Lib.hid (by rw [HD.out, HDR.out, ris_some hrk, decide_eq_true hlj]; rfl)
          have hji : ¬ (j : Int) ≤ last := by omega
          clear hrk hlj
          go_wp2_with (first | (with_reducible refine wpl rfl (Stp.ldq (cs := #[.int .u16 (p.1 : Int), .int .u32 (p.2 : Int)]) rfl agg30 size30 rfl (fun j hj => (H.below.cell hb1).trans (HC.out j hj)) rfl ?_); simp only [pS]) | (with_reducible refine wpl rfl (Stp.lookokF (k := 30) (e := 3) (ek := ekP) (ev := evN) (M := M) (q := p) rfl keyedP ekP_inj Try.underlying159 mz3 rfl rfl HK.out (hM.grow H.below) ?_); simp only [HG.out, Option.map_none, Option.map_some, Option.getD_none, Option.getD_some, Option.isSome_none, Option.isSome_some]; simp only [pS]) | (with_reducible refine wpl rfl (ldQ (ty := 30) rfl ?_); first | (with_reducible refine (Stp.ldor rfl agg30 size30 rfl H (by assumption) sZ (by assumption) ?_); simp only [pS]) | (with_reducible refine (Stp.ldr rfl agg30 size30 rfl H mR sZ ?_); simp only [pS]) | (with_reducible refine (Stp.ldl rfl agg30 size30 rfl H mR (by simp) ?_); simp only [pS]; simp only [List.drop_succ_cons, List.drop_zero, List.take_succ_cons, List.take_zero])) | (with_reducible refine wpl rfl (dQ 7 rfl ?_); with_reducible refine (Stp.alloc 7 rfl rfl zero30 H ?_); clear H; intro g7 w1 H; simp only [pS]; simp only [nC] at H) | (with_reducible refine wpl rfl (stQ (ty := 30) rfl ?_); first | (with_reducible refine (Stp.str rfl size30 rfl rfl (by first | rfl | (simp [Value.oneCell']; done) | assumption) H uP sZ sZ ?_); clear H; intro w1 H; simp only [pS]) | (with_reducible refine (Stp.stl rfl size30 rfl rfl rfl rfl H uP (by simp) ?_); clear H; intro w1 H; simp only [pS]; simp only [List.drop_succ_cons, List.drop_zero, List.take_succ_cons, List.take_zero, List.nil_append, List.cons_append, Nat.reduceAdd] at H)))
          go_roundw
          case rel => exact ⟨k + 1, _, by omega, by go_num, rfl, HF, H.sub sU⟩
          case measure => simp [intOf]; omega
        · have HF : Hid (risB r m = false) := Lib.hid (by rw [HD.out, HDR.out, ris_some hrk, decide_eq_false hlj]; rfl)
          have hji : (j : Int) ≤ last := by omega
          clear hrk hlj
          go_wp2_with (first | (with_reducible refine wpl rfl (Stp.ldq (cs := #[.int .u16 (p.1 : Int), .int .u32 (p.2 : Int)]) rfl agg30 size30 rfl (fun j hj => (H.below.cell hb1).trans (HC.out j hj)) rfl ?_); simp only [pS]) | (with_reducible refine wpl rfl (Stp.lookokF (k := 30) (e := 3) (ek := ekP) (ev := evN) (M := M) (q := p) rfl keyedP ekP_inj Try.underlying159 mz3 rfl rfl HK.out (hM.grow H.below) ?_); simp only [HG.out, Option.map_none, Option.map_some, Option.getD_none, Option.getD_some, Option.isSome_none, Option.isSome_some]; simp only [pS]) | (with_reducible refine wpl rfl (ldQ (ty := 30) rfl ?_); first | (with_reducible refine (Stp.ldor rfl agg30 size30 rfl H (by assumption) sZ (by assumption) ?_); simp only [pS]) | (with_reducible refine (Stp.ldr rfl agg30 size30 rfl H mR sZ ?_); simp only [pS]) | (with_reducible refine (Stp.ldl rfl agg30 size30 rfl H mR (by simp) ?_); simp only [pS]; simp only [List.drop_succ_cons, List.drop_zero, List.take_succ_cons, List.take_zero])) | (with_reducible refine wpl rfl (dQ 7 rfl ?_); with_reducible refine (Stp.alloc 7 rfl rfl zero30 H ?_); clear H; intro g7 w1 H; simp only [pS]; simp only [nC] at H) | (with_reducible refine wpl rfl (stQ (ty := 30) rfl ?_); first | (with_reducible refine (Stp.str rfl size30 rfl rfl (by first | rfl | (simp [Value.oneCell']; done) | assumption) H uP sZ sZ ?_); clear H; intro w1 H; simp only [pS]) | (with_reducible refine (Stp.stl rfl size30 rfl rfl rfl rfl H uP (by simp) ?_); clear H; intro w1 H; simp only [pS]; simp only [List.drop_succ_cons, List.drop_zero, List.take_succ_cons, List.take_zero, List.nil_append, List.cons_append, Nat.reduceAdd] at H)))
          go_ret
          exact ⟨_, rfl, by rw [HF.out]; rfl, H.below⟩
    · obtain rfl : k = m.length := by omega
      have HF : Hid (risB r m = true) := Lib.hid (by rw [HD.out, List.drop_length]; unfold risA; rfl)
      go_wp2_with (first | (with_reducible refine wpl rfl (ldQ (ty := 30) rfl ?_); first | (with_reducible refine (Stp.ldor rfl agg30 size30 rfl H (by assumption) sZ (by assumption) ?_); simp only [pS]) | (with_reducible refine (Stp.ldr rfl agg30 size30 rfl H mR sZ ?_); simp only [pS]) | (with_reducible refine (Stp.ldl rfl agg30 size30 rfl H mR (by simp) ?_); simp only [pS]; simp only [List.drop_succ_cons, List.drop_zero, List.take_succ_cons, List.take_zero])) | (with_reducible refine wpl rfl (dQ 7 rfl ?_); with_reducible refine (Stp.alloc 7 rfl rfl zero30 H ?_); clear H; intro g7 w1 H; simp only [pS]; simp only [nC] at H) | (with_reducible refine wpl rfl (stQ (ty := 30) rfl ?_); first | (with_reducible refine (Stp.str rfl size30 rfl rfl (by first | rfl | (simp [Value.oneCell']; done) | assumption) H uP sZ sZ ?_); clear H; intro w1 H; simp only [pS]) | (with_reducible refine (Stp.stl rfl size30 rfl rfl rfl rfl H uP (by simp) ?_); clear H; intro w1 H; simp only [pS]; simp only [List.drop_succ_cons, List.drop_zero, List.take_succ_cons, List.take_zero, List.nil_append, List.cons_append, Nat.reduceAdd] at H)))
      go_ret
      exact ⟨_, rfl, by rw [HF.out]; rfl, H.below⟩
end Go.Proofs.Ytmokecicjmjkbaa
namespace Go.Proofs.Ytmokecicjmjkbaa
open Go.ChangeShapes Go.WideShapes Go.ChangeAt Go.RowKit
set_option linter.unusedVariables false
set_option linter.unusedSimpArgs false
set_option linter.unusedSectionVars false
section
variable {α : Type} [DecidableEq α]
def ddA (acc l : List α) : List α := l.foldl (fun acc x => if x ∈ acc then acc else acc ++ [x]) acc
def dd (l : List α) : List α := ddA [] l
theorem dd_snoc (l : List α) (x : α) : dd (l ++ [x]) = if x ∈ dd l then dd l else dd l ++ [x] := by
  unfold dd ddA; rw [List.foldl_append]; rfl
theorem mem_ddA (l : List α) : ∀ (acc : List α) (x : α), x ∈ ddA acc l ↔ x ∈ acc ∨ x ∈ l := by
  induction l with
  | nil => intro acc x; simp [ddA]
  | cons y l ih =>
    intro acc x
    have : ddA acc (y :: l) = ddA (if y ∈ acc then acc else acc ++ [y]) l := rfl
    rw [this, ih]
    by_cases h : y ∈ acc
    · rw [if_pos h, List.mem_cons]
      constructor
      · rintro (h1 | h1)
        · exact .inl h1
        · exact .inr (.inr h1)
      · rintro (h1 | rfl | h1)
        · exact .inl h1
        · exact .inl h
        · exact .inr h1
    · rw [if_neg h]
      simp only [List.mem_append, List.mem_cons, List.not_mem_nil, or_false, or_assoc]
theorem mem_dd (l : List α) (x : α) : x ∈ dd l ↔ x ∈ l := by unfold dd; rw [mem_ddA]; simp
theorem dd_len (l : List α) : ∀ acc : List α, (ddA acc l).length ≤ acc.length + l.length := by
  induction l with
  | nil => intro acc; simp [ddA]
  | cons y l ih =>
    intro acc
    have : ddA acc (y :: l) = ddA (if y ∈ acc then acc else acc ++ [y]) l := rfl
    rw [this]
    by_cases hy : y ∈ acc
    · rw [if_pos hy, List.length_cons]
      have := ih acc
      omega
    · rw [if_neg hy, List.length_cons]
      have := ih (acc ++ [y])
      rw [List.length_append, List.length_singleton] at this
      omega
end
end Go.Proofs.Ytmokecicjmjkbaa
