/- Texts of the proof, one behind the other: X15, FlipsW. Conditions: each lemma's own. -/
import Derived.Test.YthiflcjcdhlmbaaGreatFA8

/- MeshFlips, walked: the square, its points, the program's mesh. Conditions: none. -/
namespace Go.Proofs.YthiflcjcdhlmbaaGreat
open Go.RowKit V Geo
set_option linter.unusedVariables false

def prV (a : Int × Int) : Value := .agg #[.int .i64 a.1, .int .i64 a.2]
abbrev iV : Int → Value := Value.int .i64
theorem map_get_i {l : List Int} {j : Nat} (h : j < l.length) : (l.map iV)[j]? = some (.int .i64 l[j]) := by simp [h]
theorem map_get_pr {l : List (Int × Int)} {j : Nat} (h : j < l.length) : (l.map prV)[j]? = some (prV l[j]) := by simp [h]
set_option maxRecDepth 20000 in
set_option maxHeartbeats 1000000 in
theorem cornerR6_c (t : Tr) (i : Nat) (hi : i < 6) (w : World) : Calls Tryz.prog 14 #[t.v, .int .i64 (i : Int)] w fun e w' => e = .returned (ptV (t.cor (i % 3))) ∧ Below w.heap.size w w' := by
  unfold Tr.v ptV
  have h6 : i = 0 ∨ i = 1 ∨ i = 2 ∨ i = 3 ∨ i = 4 ∨ i = 5 := by omega
  rcases h6 with rfl | rfl | rfl | rfl | rfl | rfl
  all_goals
    go_enter Tryz.func14, Tryz.ntmps14
    go_wp2_with fail
    first | rw [(idx3 _ _ _ _ _ _ _).1] | rw [(idx3 _ _ _ _ _ _ _).2.1] | rw [(idx3 _ _ _ _ _ _ _).2.2]
    go_wp2_with fail
    refine bodyPost_ret (v := .agg #[.int .i64 _, .int .i64 _]) ?_ rfl ⟨rfl, by go_grown⟩
    simp [results, Tryz.f14, go_sem, Tr.cor]
attribute [local irreducible] VR VJ VC decOk decBt
theorem v_cornerR6 (t : Tr) (i : Nat) (hi : i < 6) {a : Int} (ea : a = (i : Int)) (G : Gl) (Q : Po) (hQ : Q (vV (ptV (t.cor (i % 3)))) G) : VC Tryz.prog 14 [vV t.v, vI a] G Q := by
  subst ea
  exact VC.of_calls (vals := [t.v, .int .i64 (i : Int)]) (cornerR6_c t i hi) hQ
set_option maxRecDepth 20000 in
set_option maxHeartbeats 16000000 in
theorem v_meshFlips (s : Int) (ps : List Int) (acts : List (Int × Int)) (more : List Tr) (Q : Po) (hQ : Q (vB true) E0) : VC Tryz.prog 3 [vI s, vL 1 (ps.map iV), vL 2 (acts.map prV), vL 6 (more.map Tr.v)] E0 Q := by
  refine VC.of_body Tryz.func3 rfl rfl rfl fun W0 h0 x0 hG0 => ?_
  simp only [args0]
  repeat' (first | refine VJ.seq ?_ | refine VJ.region_k fun K hK => ?_ | (refine VR.done (hK _ ?_); clear hK K) | (first | refine VR.move rfl rfl ?_ | refine VR.assign rfl rfl ?_ | refine VR.int rfl rfl rfl rfl ?_ | (refine VR.pickB rfl rfl rfl rfl ?_ ?_ ?_; (first | exact trivial | (refine fun h => ?_; first | (rw [h]; rfl) | (rw [h, hg]; rfl) | (rw [hg, h]; rfl) | (simp [h, hg]; done))); (first | exact trivial | (refine fun h => ?_; first | (rw [h]; rfl) | (rw [h, hg]; rfl) | (rw [hg, h]; rfl) | (simp [h, hg]; done))))) | (refine' VR.spec (by rfl) (by rfl) (by rfl) ?_ ?_ ?_; rotate_left 1; (repeat (first | exact trivial | refine And.intro id ?_)); intro hg K1 hK1; (first | refine VR.move rfl rfl ?_ | refine VR.int rfl rfl rfl rfl ?_ | refine VR.len tok rfl rfl rfl rfl rfl ?_); exact VR.done hK1))
  refine VJ.cond rfl (fun hc => ?_) (fun hc => ?_)
  · repeat' (first | refine VJ.seq ?_ | refine VJ.region_k fun K hK => ?_ | (refine VR.done (hK _ ?_); clear hK K) | (first | refine VR.assign rfl rfl ?_ | (refine VR.callk (fun _ => false) [] fok6 rfl rfl rfl rfl (fun _ _ h => by cases h) ?_; refine v_awake _ ⟨(fun n h => rfl), .inl rfl, ?_⟩; rw [GM_false])))
    refine VJ.retF (r := vB true) tok (by rfl) (by rfl) hG0 (fun n o h => by cases h) (by rfl) hQ
  have hc : (bif (bif (bif (bif decide (s < 1) then true else decide (s > 30)) then true else decide (((ps.map iV).length : Int) > 15)) then true else decide (((acts.map prV).length : Int) > 40)) then true else decide (((more.map Tr.v).length : Int) > 10)) = false := hc
  rw [List.length_map, List.length_map, List.length_map] at hc
  have hg : 1 ≤ s ∧ s ≤ 30 ∧ ps.length ≤ 15 ∧ acts.length ≤ 40 ∧ more.length ≤ 10 := by
    by_cases c1 : s < 1
    · rw [decide_eq_true c1] at hc; cases hc
    by_cases c2 : s > 30
    · rw [decide_eq_true c2, decide_eq_false c1] at hc; cases hc
    by_cases c3 : (ps.length : Int) > 15
    · rw [decide_eq_true c3, decide_eq_false c1, decide_eq_false c2] at hc; cases hc
    by_cases c4 : (acts.length : Int) > 40
    · rw [decide_eq_true c4, decide_eq_false c1, decide_eq_false c2, decide_eq_false c3] at hc; cases hc
    by_cases c5 : (more.length : Int) > 10
    · rw [decide_eq_true c5, decide_eq_false c1, decide_eq_false c2, decide_eq_false c3, decide_eq_false c4] at hc; cases hc
    omega
  obtain ⟨hs1, hs2, hps, hac, hmo⟩ := hg
  clear hc
  obtain ⟨E1, hE1, hI1⟩ := sqA hs1 hs2
  repeat' (first | refine VJ.seq ?_ | refine VJ.skip ?_ | refine VJ.block ?_ | refine VJ.region_k fun K hK => ?_ | (refine VR.done (hK _ ?_); clear hK K) | (first | refine VR.move rfl rfl ?_ | refine VR.assign rfl rfl ?_ | (refine VR.call fok7 rfl rfl rfl rfl ?_; refine v_newCDT InvA keepsA s hs1 hs2 E1 hE1 hI1 _ (fun E2 W2 hI2 hW2 => ?_))))
  refine VJ.to 0 [(10, vI ((0 : Nat) : Int)), (9, vC), (3, vL 6 (more.map Tr.v)), (2, vL 2 (acts.map prV)), (1, vL 1 (ps.map iV)), (0, vI s)] [] ?_ rfl (by repeat' (first | exact trivial | refine And.intro rfl ?_)) trivial (by rfl)
  refine VJ.rec (fun p : Nat × LS × List Wl => ⟨0, [(10, vI p.1), (9, vC), (3, vL 6 (more.map Tr.v)), (2, vL 2 (acts.map prV)), (1, vL 1 (ps.map iV)), (0, vI s)], [], GC s s p.2.1 p.2.2 E0⟩) (fun p => ps.length - p.1) (fun p => p.1 ≤ ps.length ∧ InvA p.2.1 ∧ p.2.2.length ≤ 4 + 2 * p.1) (0, E2, W2) ⟨Nat.zero_le _, hI2, by show W2.length ≤ 4 + 2 * 0; omega⟩ ?_
  rintro ⟨j, E, W⟩ ⟨hj, hI, hW⟩ ih
  dsimp only at hj hI hW ih ⊢
  clear hI1 hE1 hI2 hW2
  repeat' (first | refine VJ.seq ?_ | refine VJ.region_k fun K hK => ?_ | (refine VR.done (hK _ ?_); clear hK K) | (first | refine VR.move rfl rfl ?_ | refine VR.int rfl rfl rfl rfl ?_ | refine VR.len tok rfl rfl rfl rfl rfl ?_))
  refine VJ.cond rfl (fun hb => ?_) (fun hb => ?_)
  · have hlt : j < ps.length := by simpa using hb
    have hget := map_get_i hlt
    generalize ps[j] = v at hget
    repeat' (first | refine VJ.seq ?_ | refine VJ.skip ?_ | refine VJ.block ?_ | refine VJ.inBlock ?_ | refine VJ.region_k fun K hK => ?_ | (refine VR.done (hK _ ?_); clear hK K) | (first | refine VR.move rfl rfl ?_ | refine VR.assign rfl rfl ?_ | (show onLd; refine VR.load tok rfl rfl rfl (by first | rfl | exact (ldp_el (by assumption)).trans (by rfl)) ?_) | (show onIx; refine VR.indexAddr tok rfl rfl rfl rfl rfl rfl rfl (elA_lst (by assumption)) ?_) | refine VR.int rfl rfl rfl rfl ?_ | (refine VR.call fok8 rfl rfl rfl rfl ?_; refine v_cdtAdd InvA keepsA s s E hI W (by omega) (spotP s v) (fun E h _ _ => addA (spot_inB v hs1 hs2) E h) E0 rfl _ (fun r E3 W3 hI3 hW3 => ?_))) | (refine VR.call fok9 rfl rfl rfl rfl ?_; refine (v_spot s v hs1 hs2 _ _ ?_)))
    exact VJ.to 0 [(10, vI ((j + 1 : Nat) : Int)), (9, vC), (3, vL 6 (more.map Tr.v)), (2, vL 2 (acts.map prV)), (1, vL 1 (ps.map iV)), (0, vI s)] [] (ih (j + 1, E3, W3) ⟨hlt, hI3, by show W3.length ≤ 4 + 2 * (j + 1); omega⟩ (show ps.length - (j + 1) < ps.length - j by omega)) rfl ⟨vI_succ (by omega), by rfl, by rfl, by rfl, by rfl, by rfl, trivial⟩ trivial (by rfl)
  clear ih hb
  obtain ⟨l, hsq⟩ := hI
  have hfew : l.length ≤ 1800 := by have := hsq.few; omega
  have few : E.length < 100000 := by rw [hsq.mo.len]; omega
  obtain ⟨L0, hL0⟩ : ∃ L0, trisR E = L0 := ⟨_, rfl⟩
  have hLp : L0.Perm l := by rw [← hL0]; exact (sortT_perm _).trans hsq.mo.trs
  obtain ⟨hnew, hpm⟩ := made_pm (hsq.mo.perm hLp.symm)
  have hlen0 : L0.length ≤ 1800 := by rw [hLp.length_eq]; exact hfew
  repeat' (first | refine VJ.seq ?_ | refine VJ.skip ?_ | refine VJ.block ?_ | refine VJ.exit rfl ?_ | refine VJ.cond_f rfl ?_ | refine VJ.region_k fun K hK => ?_ | (refine VR.done (hK _ ?_); clear hK K) | (first | refine VR.move rfl rfl ?_ | refine VR.assign rfl rfl ?_ | (show onLd; refine VR.load tok rfl rfl rfl (by first | rfl | exact (ldp_el (by assumption)).trans (by rfl)) ?_) | (show onFa; refine VR.fieldAddr tok rfl rfl rfl (by first | rfl | exact place_el (by assumption)) rfl rfl ?_) | refine VR.int rfl rfl rfl rfl ?_ | (refine VR.pickB rfl rfl rfl rfl ?_ ?_ ?_; (first | exact trivial | (refine fun h => ?_; first | (rw [h]; rfl) | (rw [h, hg]; rfl) | (rw [hg, h]; rfl) | (simp [h, hg]; done))); (first | exact trivial | (refine fun h => ?_; first | (rw [h]; rfl) | (rw [h, hg]; rfl) | (rw [hg, h]; rfl) | (simp [h, hg]; done)))) | refine VR.g_yes rfl rfl (by first | rfl | assumption) ?_ | refine VR.nilCheck rfl rfl rfl ?_ | refine VR.extract rfl rfl rfl ?_ | refine VR.eqNil rfl rfl rfl rfl (ptrOk (by rfl)) ?_ | (refine VR.call fok11 rfl rfl rfl rfl ?_; refine v_trisG E few _ ⟨rfl, ⟨none, rfl⟩⟩ _ ?_; rw [hL0]) | (refine VR.callk kp3 [] fok10 rfl rfl rfl rfl (fun n o hn h => by rcases kp3_yes hn with rfl | rfl | rfl <;> cases h) ?_; rw [GK3]; refine v_newM L0 (by omega) _ (fun h => absurd hnew h) (fun _ => ⟨(fun n h => GMz_no h _ _), .inl rfl, ?_⟩); rw [GM3L])))
  refine VJ.to 0 [(13, vI ((0 : Nat) : Int)), (11, vM), (9, vC), (3, vL 6 (more.map Tr.v)), (2, vL 2 (acts.map prV)), (1, vL 1 (ps.map iV)), (0, vI s)] [] ?_ rfl (by repeat' (first | exact trivial | refine And.intro rfl ?_)) trivial (by rfl)
  refine VJ.rec (fun p : Nat × TS × LS × LS => ⟨0, [(13, vI p.1), (11, vM), (9, vC), (3, vL 6 (more.map Tr.v)), (2, vL 2 (acts.map prV)), (1, vL 1 (ps.map iV)), (0, vI s)], [], GL p.2.1 p.2.2.1 p.2.2.2 W s⟩) (fun p => acts.length - p.1) (fun p => p.1 ≤ acts.length ∧ ∃ l, PM p.2.1 p.2.2.1 p.2.2.2 l ∧ l.length ≤ 1800 + 10 * p.1) (0, (meshOf L0).1, (meshOf L0).2, E) ⟨Nat.zero_le _, L0, hpm, by show L0.length ≤ 1800 + 10 * 0; omega⟩ ?_
  clear hpm hnew hLp hL0 hlen0 few hfew hsq hW hj
  rintro ⟨j, ts, le, E⟩ ⟨hj, l, hP, hl⟩ ih
  dsimp only at hj hP hl ih ⊢
  have hh0 : ∀ n, h0 n = none := fun n => hG0.1 n rfl
  repeat' (first | refine VJ.seq ?_ | refine VJ.region_k fun K hK => ?_ | (refine VR.done (hK _ ?_); clear hK K) | (first | refine VR.move rfl rfl ?_ | refine VR.int rfl rfl rfl rfl ?_ | refine VR.len tok rfl rfl rfl rfl rfl ?_))
  refine VJ.cond rfl (fun hb => ?_) (fun hb => ?_)
  rotate_left
  · clear ih
    repeat' (first | refine VJ.seq ?_ | refine VJ.exit rfl ?_ | refine VJ.region_k fun K hK => ?_ | (refine VR.done (hK _ ?_); clear hK K) | (first | refine VR.assign rfl rfl ?_ | (refine VR.callk (fun _ => false) [] fok6 rfl rfl rfl rfl (fun _ _ h => by cases h) ?_; refine v_awake _ ⟨(fun n h => rfl), .inl rfl, ?_⟩; rw [GM_false])))
    refine VJ.retF (r := vB true) tok (by rfl) (by rfl) hG0 (fun n o h => by cases h) (by rfl) hQ
  have hlt : j < acts.length := by simpa using hb
  have hgeta := map_get_pr hlt
  have few : E.length < 100000 := by rw [hP.mo.len]; omega
  obtain ⟨L, hL⟩ : ∃ L, trisR E = L := ⟨_, rfl⟩
  have hLp : L.Perm l := by rw [← hL]; exact hP.trisL
  have hGR := GL_ref ts le E W s
  have hGM := GL_mesh ts le E W s
  repeat' (first | refine VJ.seq ?_ | refine VJ.skip ?_ | refine VJ.block ?_ | refine VJ.region_k fun K hK => ?_ | (refine VR.done (hK _ ?_); clear hK K) | (first | refine VR.move rfl rfl ?_ | refine VR.assign rfl rfl ?_ | (show onLd; refine VR.load tok rfl rfl rfl (by first | rfl | exact (ldp_el (by assumption)).trans (by rfl)) ?_) | (show onFa; refine VR.fieldAddr tok rfl rfl rfl (by first | rfl | exact place_el (by assumption)) rfl rfl ?_) | refine VR.int rfl rfl rfl rfl ?_ | refine VR.nilCheck rfl rfl rfl ?_ | refine VR.len tok rfl rfl rfl rfl rfl ?_ | (refine VR.call fok11 rfl rfl rfl rfl ?_; refine v_trisG E few _ hGR _ ?_; rw [hL])))
  refine VJ.cond rfl (fun hc => ?_) (fun hc => ?_)
  · have hl0 : L = [] := by
      have : ((L.map Tr.v).length : Int) = 0 := by simpa using hc
      rw [List.length_map] at this
      exact List.eq_nil_of_length_eq_zero (by omega)
    have ht0 : ts.length = 0 := by rw [hP.tlen, ← hLp.length_eq, hl0]; rfl
    clear ih
    repeat' (first | refine VJ.seq ?_ | refine VJ.region_k fun K hK => ?_ | (refine VR.done (hK _ ?_); clear hK K) | (first | refine VR.move rfl rfl ?_ | refine VR.assign rfl rfl ?_ | refine VR.int rfl rfl rfl rfl ?_ | (refine VR.pickB rfl rfl rfl rfl ?_ ?_ ?_; (first | exact trivial | (refine fun h => ?_; first | (rw [h]; rfl) | (rw [h, hg]; rfl) | (rw [hg, h]; rfl) | (simp [h, hg]; done))); (first | exact trivial | (refine fun h => ?_; first | (rw [h]; rfl) | (rw [h, hg]; rfl) | (rw [hg, h]; rfl) | (simp [h, hg]; done)))) | refine VR.g_yes rfl rfl (by first | rfl | assumption) ?_ | (refine VR.call fok12 rfl rfl rfl rfl ?_; refine v_lenM ts le _ hGM _ ?_; rw [ht0]) | (refine VR.callk (fun _ => false) [] fok6 rfl rfl rfl rfl (fun _ _ h => by cases h) ?_; refine v_awake _ ⟨(fun n h => rfl), .inl rfl, ?_⟩; rw [GM_false])))
    refine VJ.retF (r := vB true) tok (by rfl) (by rfl) hG0 (fun n o h => by cases h) (by rfl) hQ
  have hn0 : ((L.map Tr.v).length : Int) ≠ 0 := by simpa using hc
  have hlen : 0 < (L.map Tr.v).length := by omega
  have hlt3 : (L.map Tr.v).length < 30000 := by rw [List.length_map, hLp.length_eq]; omega
  obtain ⟨r1, r2⟩ := rnd_in (acts[j]).1 ((L.map Tr.v).length : Int) (by omega) (by omega)
  obtain ⟨q, hq⟩ := Int.eq_ofNat_of_zero_le r1
  have hqL : q < L.length := by rw [hq] at r2; rw [List.length_map] at r2; omega
  have hgetL := map_get_t hqL
  have htl : L[q] ∈ l := hLp.mem_iff.1 (List.getElem_mem hqL)
  have hget0 : L[q] ∈ L := List.getElem_mem hqL
  generalize L[q] = t at hgetL htl hget0
  obtain ⟨a1, a2, ha12⟩ : ∃ a1 a2, acts[j] = (a1, a2) := ⟨_, _, rfl⟩
  rw [ha12] at hgeta hq
  clear r1 r2 ha12
  obtain ⟨r1, r2⟩ := rnd_in a2 7 (by decide) (by decide)
  obtain ⟨kk, hkk⟩ := Int.eq_ofNat_of_zero_le r1
  have hk7 : kk < 7 := by omega
  clear r1 r2
  repeat' (first | refine VJ.seq ?_ | refine VJ.skip ?_ | refine VJ.region_k fun K hK => ?_ | (refine VR.done (hK _ ?_); clear hK K) | (first | (refine VR.indexAddr tok rfl rfl rfl rfl rfl rfl hq (elA_lst hgetL) ?_) | refine VR.move rfl rfl ?_ | (show onLd; refine VR.load tok rfl rfl rfl (by first | rfl | exact (ldp_el (by assumption)).trans (by rfl)) ?_) | (show onIx; refine VR.indexAddr tok rfl rfl rfl rfl rfl rfl rfl (elA_lst (by assumption)) ?_) | (show onIx; refine VR.indexArr tok rfl (arrOk (by rfl)) rfl rfl (by first | rfl | exact place_el (by assumption)) rfl rfl (by decide) rfl ?_) | refine VR.alloc tok rfl rfl rfl ?_ | refine VR.store tok rfl rfl rfl rfl rfl rfl rfl (by first | (intro n e; cases e; done) | exact (fun _ _ q => all_glA (by rfl) q)) ?_ | refine VR.len tok rfl rfl rfl rfl rfl ?_) | (refine VR.call fok13 rfl rfl rfl rfl ?_; refine (v_round _ _ hn0 _ _ ?_)))
  refine VR.call fok13 rfl rfl rfl rfl ?_
  refine v_round a2 7 (by decide) _ _ ?_
  rw [hkk]
  repeat (first | refine VR.assign rfl rfl ?_)
  refine VR.done (hK _ ?_); clear hK K
  refine VJ.seq ?_
  refine VJ.to 1 [(16, vI kk), (15, .a (.ptr (.l 0) 0)), (14, vL 6 (L.map Tr.v)), (13, vI j), (11, vM), (9, vC), (3, vL 6 (more.map Tr.v)), (2, vL 2 (acts.map prV)), (1, vL 1 (ps.map iV)), (0, vI s)] [(0, bxT t)] ?_ rfl (by repeat' (first | exact trivial | refine And.intro rfl ?_)) (by repeat' (first | exact trivial | refine And.intro rfl ?_)) (by rfl)
  refine via1F (fun x : TS × LS × LS => ⟨0, [(13, vI j), (11, vM), (9, vC), (3, vL 6 (more.map Tr.v)), (2, vL 2 (acts.map prV)), (1, vL 1 (ps.map iV)), (0, vI s)], [], GL x.1 x.2.1 x.2.2 W s⟩) (fun x => ∃ l', PM x.1 x.2.1 x.2.2 l' ∧ l'.length ≤ 1800 + 10 * (j + 1)) (fun ki hrest => ?_) ?_
  rotate_left
  · rintro ⟨ts', le', E'⟩ ⟨l', hP', hl'⟩
    have ih' := ih (j + 1, ts', le', E') ⟨hlt, l', hP', hl'⟩ (show acts.length - (j + 1) < acts.length - j by omega)
    dsimp only at ih' ⊢
    clear ih
    repeat' (first | refine VJ.seq ?_ | refine VJ.skip ?_ | refine VJ.inBlock ?_ | refine VJ.cond_f rfl ?_ | refine VJ.region_k fun K hK => ?_ | (refine VR.done (hK _ ?_); clear hK K) | (first | refine VR.move rfl rfl ?_ | refine VR.assign rfl rfl ?_ | (show onLd; refine VR.load tok rfl rfl rfl (by first | rfl | exact (ldp_el (by assumption)).trans (by rfl)) ?_) | (show onFa; refine VR.fieldAddr tok rfl rfl rfl (by first | rfl | exact place_el (by assumption)) rfl rfl ?_) | refine VR.int rfl rfl rfl rfl ?_ | refine VR.not rfl rfl ?_ | refine VR.nilCheck rfl rfl rfl ?_) | (refine VR.call fok20 rfl rfl rfl rfl ?_; refine (v_showsL ts' le' E' (hP'.shown (by omega)) W s _ ?_)))
    exact VJ.to 0 [(13, vI ((j + 1 : Nat) : Int)), (11, vM), (9, vC), (3, vL 6 (more.map Tr.v)), (2, vL 2 (acts.map prV)), (1, vL 1 (ps.map iV)), (0, vI s)] [] ih' rfl ⟨vI_succ (by omega), by rfl, by rfl, by rfl, by rfl, by rfl, by rfl, trivial⟩ trivial (by rfl)
  clear ih
  repeat' (first | refine VJ.seq ?_ | refine VJ.block ?_ | refine VJ.region_k fun K hK => ?_ | (refine VR.done (hK _ ?_); clear hK K) | (first | refine VR.move rfl rfl ?_ | refine VR.assign rfl rfl ?_ | refine VR.int rfl rfl rfl rfl ?_))
  refine VJ.cond rfl (fun hk5 => ?_) (fun hk5 => ?_)
  · have hk5 : kk < 5 := by
      have : (kk : Int) < 5 := by simpa using hk5
      omega
    obtain ⟨pa, hpa⟩ : ∃ p, t.cor (kk % 3) = p := ⟨_, rfl⟩
    obtain ⟨pb, hpb⟩ : ∃ p, t.cor ((kk + 1) % 3) = p := ⟨_, rfl⟩
    refine VJ.seq ?_
    refine VJ.via ⟨3, [(17, .a (.ptr (.l 1) 0)), (18, .a (.ptr (.l 2) 0)), (16, vI kk), (15, .a (.ptr (.l 0) 0)), (14, vL 6 (L.map Tr.v)), (13, vI j), (11, vM), (9, vC), (3, vL 6 (more.map Tr.v)), (2, vL 2 (acts.map prV)), (1, vL 1 (ps.map iV)), (0, vI s)], [(1, bxP pa), (2, bxP pb), (0, bxT t)], GL ts le E W s⟩ (fun hr => ?_) ?_
    · clear hrest
      repeat' (first | (fail))
      apply VJ.draw12 7 8 [9, 10] [(0, 0), (1, 0), (2, 0), (3, 0), (4, 0), (5, 0), (6, 0), (7, 0), (8, 1), (9, 2), (10, 3), (0, 1), (0, 2), (1, 1), (1, 2), (2, 1), (2, 2), (3, 1), (3, 2), (3, 3), (4, 1), (4, 2), (4, 3), (5, 1), (5, 2), (5, 3), (6, 1), (6, 2)] [(0, 0), (1, 0), (2, 0), (3, 0), (4, 0), (5, 0), (6, 0), (8, 0), (7, 1), (9, 2), (10, 3), (0, 1), (0, 2), (1, 1), (1, 2), (2, 1), (2, 2), (3, 1), (3, 2), (3, 3), (4, 1), (4, 2), (4, 3), (5, 1), (5, 2), (5, 3), (6, 1), (6, 2)] [false, false, false, false, false, false, false, true, true, true, true] [[(15, none)], [(16, none)], [(158, some 0), (159, some 1)], [(15, none)], [(16, none)], [(162, some 4)], [(161, some 3), (163, some 5)], [], [], [(17, some 7), (160, some 2)], [(18, some 8), (164, some 6)]] [[(15, _)], [(16, _)], [(158, _), (159, _)], [(15, _)], [(16, _)], [(162, _)], [(161, _), (163, _)], [], [], [(17, _), (160, _)], [(18, _), (164, _)]] [[(15, _)], [(16, _)], [(158, _), (159, _)], [(15, _)], [(16, _)], [(162, _)], [(161, _), (163, _)], [], [], [(17, _), (160, _)], [(18, _), (164, _)]] [_, _, _, _, _, _, _, _, _, (.a .top), (.a .top)] [_, _, _, _, _, _, _, _, _, (.a .top), (.a .top)] [⟨_, _, _⟩, ⟨_, _, _⟩, ⟨_, _, _⟩, ⟨_, _, _⟩, ⟨_, _, _⟩] [⟨_, _, _⟩, ⟨_, _, _⟩, ⟨_, _, _⟩, ⟨_, _, _⟩, ⟨_, _, _⟩] (by kernel_rfl) ?hok rfl rfl rfl rfl rfl rfl ?hh1 ?hh2 ?hag rfl rfl rfl rfl ?hj1 ?hj2
      case hh1 =>
        refine ⟨?_, ?_, ?_, ?_, ?_, ?_, ?_, ?_, ?_, ?_, ?_, ?_, ?_, ?_, ?_, ?_, ?_, ?_, ?_, ?_, ?_, ?_, ?_, ?_, ?_, ?_, ?_, ?_, trivial⟩
        all_goals (intro rest K1 hK1; (repeat (first | exact VR.done hK1 | (first | refine VR.move rfl rfl ?_ | (show onLd; refine VR.load tok rfl rfl rfl (by first | rfl | exact (ldp_el (by assumption)).trans (by rfl)) ?_) | refine VR.int rfl rfl rfl rfl ?_ | refine VR.alloc tok rfl rfl rfl ?_ | refine VR.store tok rfl rfl rfl rfl rfl rfl rfl (by first | (intro n e; cases e; done) | exact (fun _ _ q => all_glA (by rfl) q)) ?_ | (refine VR.call fok14 rfl rfl rfl rfl ?_; refine v_cornerR6 t kk (by omega) rfl _ _ ?_; rw [hpa]) | (refine VR.call fok14 rfl rfl rfl rfl ?_; refine v_cornerR6 t (kk + 1) (by omega) (wrap_succ (by omega)) _ _ ?_; rw [hpb])))); try (first | exact VR.done hK1 | (refine VR.done ?_; dsimp only [S.set]; exact hK1)))
      case hh2 =>
        refine ⟨?_, ?_, ?_, ?_, ?_, ?_, ?_, ?_, ?_, ?_, ?_, ?_, ?_, ?_, ?_, ?_, ?_, ?_, ?_, ?_, ?_, ?_, ?_, ?_, ?_, ?_, ?_, ?_, trivial⟩
        all_goals (intro rest K1 hK1; (repeat (first | exact VR.done hK1 | (first | refine VR.move rfl rfl ?_ | (show onLd; refine VR.load tok rfl rfl rfl (by first | rfl | exact (ldp_el (by assumption)).trans (by rfl)) ?_) | refine VR.int rfl rfl rfl rfl ?_ | refine VR.alloc tok rfl rfl rfl ?_ | refine VR.store tok rfl rfl rfl rfl rfl rfl rfl (by first | (intro n e; cases e; done) | exact (fun _ _ q => all_glA (by rfl) q)) ?_ | (refine VR.call fok14 rfl rfl rfl rfl ?_; refine v_cornerR6 t kk (by omega) rfl _ _ ?_; rw [hpa]) | (refine VR.call fok14 rfl rfl rfl rfl ?_; refine v_cornerR6 t (kk + 1) (by omega) (wrap_succ (by omega)) _ _ ?_; rw [hpb])))); try (first | exact VR.done hK1 | (refine VR.done ?_; dsimp only [S.set]; exact hK1)))
      case hag => repeat' (first | exact trivial | refine And.intro rfl ?_)
      case hok => kernel_rfl
      case hj1 =>
        dsimp only [List.append, tla]
        exact VJ.to 3 _ _ hr rfl (by repeat' (first | exact trivial | refine And.intro rfl ?_)) (by repeat' (first | exact trivial | refine And.intro rfl ?_)) (by rfl)
      case hj2 =>
        dsimp only [List.append, tla]
        refine VJ.sw 1 2 (by rfl) (by rfl) ?_
        exact VJ.to 3 _ _ hr rfl (by repeat' (first | exact trivial | refine And.intro rfl ?_)) (by repeat' (first | exact trivial | refine And.intro rfl ?_)) (by rfl)
    refine VJ.seq ?_
    refine VJ.seq ?_
    refine VJ.region_k fun K hK => ?_
    repeat (first | refine VR.move rfl rfl ?_ | refine VR.int rfl rfl rfl rfl ?_)
    refine VR.done (hK _ ?_); clear hK K
    refine via1 ⟨3, [(17, .a (.ptr (.l 1) 0)), (18, .a (.ptr (.l 2) 0)), (16, vI kk), (15, .a (.ptr (.l 0) 0)), (14, vL 6 (L.map Tr.v)), (13, vI j), (11, vM), (9, vC), (3, vL 6 (more.map Tr.v)), (2, vL 2 (acts.map prV)), (1, vL 1 (ps.map iV)), (0, vI s)], [(1, bxP pa), (2, bxP (if decide ((kk : Int) > 2) = true then spotP s a1 else pb)), (0, bxT t)], GL ts le E W s⟩ (fun ki2 hr => ?_) ?_
    · clear hrest
      refine VJ.cond rfl (fun hk => ?_) (fun hk => ?_)
      · rw [if_pos hk] at hr
        repeat' (first | refine VJ.region_k fun K hK => ?_ | (refine VR.done (hK _ ?_); clear hK K) | (first | refine VR.move rfl rfl ?_ | (show onLd; refine VR.load tok rfl rfl rfl (by first | rfl | exact (ldp_el (by assumption)).trans (by rfl)) ?_) | (show onIx; refine VR.indexAddr tok rfl rfl rfl rfl rfl rfl rfl (elA_lst (by assumption)) ?_) | (show onIx; refine VR.indexArr tok rfl (arrOk (by rfl)) rfl rfl (by first | rfl | exact place_el (by assumption)) rfl rfl (by decide) rfl ?_) | refine VR.store tok rfl rfl rfl rfl rfl rfl rfl (by first | (intro n e; cases e; done) | exact (fun _ _ q => all_glA (by rfl) q)) ?_) | (refine VR.call fok9 rfl rfl rfl rfl ?_; refine (v_spot s a1 hs1 hs2 _ _ ?_)))
        exact VJ.to 3 _ _ hr rfl (by repeat' (first | exact trivial | refine And.intro rfl ?_)) (by repeat' (first | exact trivial | refine And.intro rfl ?_)) (by rfl)
      · rw [if_neg (by rw [hk]; simp)] at hr
        repeat' (first | refine VJ.skip ?_ | (fail))
        exact VJ.to 3 _ _ hr rfl (by repeat' (first | exact trivial | refine And.intro rfl ?_)) (by repeat' (first | exact trivial | refine And.intro rfl ?_)) (by rfl)
    generalize (if decide ((kk : Int) > 2) = true then spotP s a1 else pb) = pb2
    obtain ⟨hfe, hfl⟩ := flip_eq hP pa pb2
    by_cases hz : flipC E pa pb2 = 0
    · obtain ⟨l', hP', hl'⟩ := hfl hz
      have hz2 : flipE ts le pa pb2 = 0 := hfe.trans hz
      have hr := hrest (_, _, _) ⟨l', hP', by omega⟩
      dsimp only at hr
      clear hrest hfl
      repeat' (first | refine VJ.seq ?_ | (fail))
      apply VJ.draw3 [3, 10] [(0, 0), (1, 0), (2, 0), (3, 0), (4, 1), (5, 1), (6, 1), (7, 1), (8, 1), (9, 1), (10, 1), (11, 2), (4, 0), (4, 2), (5, 0), (5, 2), (6, 0), (6, 2), (7, 0), (8, 0), (9, 0)] [[(11, none)], [(17, none)], [(18, none)], [(174, some 0), (175, some 1), (176, some 2)], [(9, none)], [(178, some 4)], [(179, some 5)], [(180, some 6)], [(17, none)], [(18, none)], [(181, some 7), (182, some 8), (183, some 9)], [(177, some 3), (184, some 10)]] [[(11, _)], [(17, _)], [(18, _)], [(174, _), (175, _), (176, _)], [(9, _)], [(178, _)], [(179, _)], [(180, _)], [(17, _)], [(18, _)], [(181, _), (182, _), (183, _)], [(177, _), (184, _)]] [_, _, _, _, _, _, _, _, _, _, _, _] [⟨_, _, _⟩, ⟨_, _, _⟩, ⟨_, _, _⟩] (by kernel_rfl) ?hok rfl ?hh rfl rfl ?hj
      case hh =>
        refine ⟨?_, ?_, ?_, ?_, ?_, ?_, ?_, ?_, ?_, ?_, ?_, ?_, ?_, ?_, ?_, ?_, ?_, ?_, ?_, ?_, ?_, trivial⟩
        all_goals (intro rest K1 hK1; (repeat (first | exact VR.done hK1 | (first | refine VR.move rfl rfl ?_ | (show onLd; refine VR.load tok rfl rfl rfl (by first | rfl | exact (ldp_el (by assumption)).trans (by rfl)) ?_) | (show onFa; refine VR.fieldAddr tok rfl rfl rfl (by first | rfl | exact place_el (by assumption)) rfl rfl ?_) | refine VR.int rfl rfl rfl rfl ?_ | refine VR.nilCheck rfl rfl rfl ?_ | (refine VR.call fok15 rfl rfl rfl rfl ?_; refine v_flipL ts le E W s pa pb2 _ (fun h => absurd hz2 h) (fun _ => ?_)) | (refine VR.call fok16 rfl rfl rfl rfl ?_; refine v_flipRL _ _ E W s pa pb2 _ (fun h => absurd hz h) (fun _ => ?_))))); try (first | exact VR.done hK1 | (refine VR.done ?_; dsimp only [S.set]; exact hK1)))
      case hok => kernel_rfl
      case hj =>
        dsimp only [List.append, tla]
        repeat' (first | refine VJ.skip ?_ | refine VJ.inBlock ?_ | refine VJ.cond_f rfl ?_ | (fail))
        exact VJ.to 0 _ _ hr rfl (by repeat' (first | exact trivial | refine And.intro rfl ?_)) trivial (by rfl)
    · have hr := hrest (ts, le, E) ⟨l, hP, by omega⟩
      dsimp only at hr
      have hz2 : flipE ts le pa pb2 ≠ 0 := by rw [hfe]; exact hz
      clear hrest hfl
      repeat' (first | refine VJ.seq ?_ | (fail))
      apply VJ.draw3 [] [(0, 0), (1, 0), (2, 0), (3, 0), (4, 0), (5, 0), (6, 0), (7, 0), (8, 0), (9, 0), (10, 0), (11, 0)] [[(11, none)], [(17, none)], [(18, none)], [(174, some 0), (175, some 1), (176, some 2)], [(9, none)], [(178, some 4)], [(179, some 5)], [(180, some 6)], [(17, none)], [(18, none)], [(181, some 7), (182, some 8), (183, some 9)], [(177, some 3), (184, some 10)]] [[(11, _)], [(17, _)], [(18, _)], [(174, _), (175, _), (176, _)], [(9, _)], [(178, _)], [(179, _)], [(180, _)], [(17, _)], [(18, _)], [(181, _), (182, _), (183, _)], [(177, _), (184, _)]] [_, _, _, _, _, _, _, _, _, _, _, _] [⟨_, _, _⟩] (by kernel_rfl) ?hok rfl ?hh rfl rfl ?hj
      case hh =>
        refine ⟨?_, ?_, ?_, ?_, ?_, ?_, ?_, ?_, ?_, ?_, ?_, ?_, trivial⟩
        all_goals (intro rest K1 hK1; (repeat (first | exact VR.done hK1 | (first | (refine VR.bin rfl rfl rfl (neqI_self _ _ _ _) ?_) | refine VR.move rfl rfl ?_ | (show onLd; refine VR.load tok rfl rfl rfl (by first | rfl | exact (ldp_el (by assumption)).trans (by rfl)) ?_) | (show onFa; refine VR.fieldAddr tok rfl rfl rfl (by first | rfl | exact place_el (by assumption)) rfl rfl ?_) | refine VR.nilCheck rfl rfl rfl ?_ | (refine VR.call fok15 rfl rfl rfl rfl ?_; refine v_flipL ts le E W s pa pb2 _ (fun _ => ?_) (fun h => absurd h hz2); rw [hfe]) | (refine VR.call fok16 rfl rfl rfl rfl ?_; refine v_flipRL _ _ E W s pa pb2 _ (fun _ => ?_) (fun h => absurd h hz))))); try (first | exact VR.done hK1 | (refine VR.done ?_; dsimp only [S.set]; exact hK1)))
      case hok => kernel_rfl
      case hj =>
        dsimp only [List.append, tla]
        repeat' (first | refine VJ.skip ?_ | refine VJ.inBlock ?_ | refine VJ.cond_f rfl ?_ | (fail))
        exact VJ.to 0 _ _ hr rfl (by repeat' (first | exact trivial | refine And.intro rfl ?_)) trivial (by rfl)
  repeat' (first | refine VJ.seq ?_ | refine VJ.region_k fun K hK => ?_ | (refine VR.done (hK _ ?_); clear hK K) | (first | refine VR.move rfl rfl ?_ | refine VR.assign rfl rfl ?_ | refine VR.int rfl rfl rfl rfl ?_))
  refine VJ.cond rfl (fun hk6 => ?_) (fun hk6 => ?_)
  · obtain ⟨pc, hpc⟩ : ∃ p, spotP s (wr (a1.tdiv 3)) = p := ⟨_, rfl⟩
    obtain ⟨inn, hin⟩ : ∃ inn, cutR t pc = inn := ⟨_, rfl⟩
    have hi3 : inn.length ≤ 3 := by rw [← hin]; exact cutR_len t pc
    obtain ⟨hre, _⟩ := repl_eq hP [t] inn
    have hcD : ∀ D, D.Perm E → codeR D [t] inn = codeR E [t] inn := fun D hD => (repl_eq (hP.perm hD) [t] inn).1.symm.trans hre
    by_cases hz : codeR E [t] inn = 0
    · have hz2 : replE ts le [t] inn = 0 := hre.trans hz
      repeat' (first | refine VJ.seq ?_ | refine VJ.region_k fun K hK => ?_ | (refine VR.done (hK _ ?_); clear hK K) | (first | refine VR.move rfl rfl ?_ | refine VR.assign rfl rfl ?_ | (show onLd; refine VR.load tok rfl rfl rfl (by first | rfl | exact (ldp_el (by assumption)).trans (by rfl)) ?_) | (show onIx; refine VR.indexAddr tok rfl rfl rfl rfl rfl rfl rfl (elA_lst (by assumption)) ?_) | (show onIx; refine VR.indexArr tok rfl (arrOk (by rfl)) rfl rfl (by first | rfl | exact place_el (by assumption)) rfl rfl (by decide) rfl ?_) | refine VR.alloc tok rfl rfl rfl ?_ | refine VR.store tok rfl rfl rfl rfl rfl rfl rfl (by first | (intro n e; cases e; done) | exact (fun _ _ q => all_glA (by rfl) q)) ?_ | (refine VR.div rfl rfl rfl (by decide) rfl ?_) | (refine VR.call fok9 rfl rfl rfl rfl ?_; refine v_spot s _ hs1 hs2 _ _ ?_; rw [hpc]) | (refine VR.call fok17 rfl rfl rfl rfl ?_; refine v_cutR t pc _ _ ?_; rw [hin])))
      apply VJ.drawSuf3 [_, _, _, _, _, _, _, _, _, _, _, _] [_, _] 12 [4] [(0, 0), (1, 0), (2, 0), (3, 0), (4, 0), (5, 1), (6, 1), (7, 1), (8, 1), (9, 1), (10, 1), (11, 1), (1, 1), (5, 0), (6, 0), (7, 0), (8, 0), (9, 0), (10, 0), (11, 0)] [[(11, none)], [(15, none)], [(201, some 1)], [(20, none)], [(200, some 0), (202, some 2), (203, some 3)], [(9, none)], [(205, some 5)], [(206, some 6)], [(207, some 7)], [(15, none)], [(209, some 9)], [(20, none)], [(208, some 8), (210, some 10), (211, some 11)], [(204, some 4), (212, some 12)]] [[(11, _)], [(15, _)], [(201, _)], [(20, _)], [(200, _), (202, _), (203, _)], [(9, _)], [(205, _)], [(206, _)], [(207, _)], [(15, _)], [(209, _)], [(20, _)], [(208, _), (210, _), (211, _)], [(204, _), (212, _)]] [_, _, _, _, _, _, _, _, _, _, _, _] [(.a .top), (.a .top)] [⟨_, _, _⟩, ⟨_, _, _⟩] rfl rfl (by decide) rfl (by kernel_rfl) ?hok rfl ?hh rfl rfl ?hj
      case hh =>
        refine ⟨?_, ?_, ?_, ?_, ?_, ?_, ?_, ?_, ?_, ?_, ?_, ?_, ?_, ?_, ?_, ?_, ?_, ?_, ?_, ?_, trivial⟩
        all_goals (intro rest K1 hK1; (repeat (first | exact VR.done hK1 | (first | refine VR.move rfl rfl ?_ | (show onLd; refine VR.load tok rfl rfl rfl (by first | rfl | exact (ldp_el (by assumption)).trans (by rfl)) ?_) | (show onFa; refine VR.fieldAddr tok rfl rfl rfl (by first | rfl | exact place_el (by assumption)) rfl rfl ?_) | refine VR.nilCheck rfl rfl rfl ?_ | (refine VR.buildLst ([t].map Tr.v) tok (by rfl) (by rfl) (by rfl) (by rfl) (by rfl) (by rfl) (by rfl) (by rfl) (by rfl) (by rfl) (by rfl) ?_) | (refine VR.call fok18 rfl rfl rfl rfl ?_; refine v_replL ts le E W s [t] inn (by simp) (by omega) _ (fun h => absurd hz2 h) (fun _ => ?_))))); try (first | exact VR.done hK1 | (refine VR.done ?_; dsimp only [S.set]; exact hK1)))
      case hok => kernel_rfl
      case hj =>
        dsimp only [List.append, tla]
        refine VR.call fok19 rfl rfl rfl rfl ?_
        refine v_replRL _ _ E hP.mo.nd W s [t] inn (by simp) (by omega) _ (fun D hD h => absurd ((hcD D hD).trans hz) h) (fun D hD h0 => ?_)
        obtain ⟨l', hP', hl', _⟩ := (repl_eq (hP.perm hD) [t] inn).2 h0
        have hr := hrest (_, _, _) ⟨l', hP', by simp at hl'; omega⟩
        dsimp only at hr
        repeat (first | refine VR.int rfl rfl rfl rfl ?_)
        refine VR.done ?_
        refine VJ.to 0 ((213, vB false) :: [(13, vI j), (11, vM), (9, vC), (3, vL 6 (more.map Tr.v)), (2, vL 2 (acts.map prV)), (1, vL 1 (ps.map iV)), (0, vI s)]) [] ?_ rfl (by repeat' (first | exact trivial | refine And.intro rfl ?_)) trivial (by rfl)
        refine toGL _ _ E _ W s (hh0 4) (hh0 8) (by rfl) (by rfl) (by rfl) (by rfl) ?_
        repeat' (first | refine VJ.skip ?_ | refine VJ.inBlock ?_ | refine VJ.cond_f rfl ?_ | (fail))
        exact VJ.to 0 _ _ hr rfl (by repeat' (first | exact trivial | refine And.intro rfl ?_)) trivial (by rfl)
    · have hz2 : replE ts le [t] inn ≠ 0 := by rw [hre]; exact hz
      have hr := hrest (ts, le, E) ⟨l, hP, by omega⟩
      dsimp only at hr
      repeat' (first | refine VJ.seq ?_ | refine VJ.region_k fun K hK => ?_ | (refine VR.done (hK _ ?_); clear hK K) | (first | refine VR.move rfl rfl ?_ | refine VR.assign rfl rfl ?_ | (show onLd; refine VR.load tok rfl rfl rfl (by first | rfl | exact (ldp_el (by assumption)).trans (by rfl)) ?_) | (show onIx; refine VR.indexAddr tok rfl rfl rfl rfl rfl rfl rfl (elA_lst (by assumption)) ?_) | (show onIx; refine VR.indexArr tok rfl (arrOk (by rfl)) rfl rfl (by first | rfl | exact place_el (by assumption)) rfl rfl (by decide) rfl ?_) | refine VR.alloc tok rfl rfl rfl ?_ | refine VR.store tok rfl rfl rfl rfl rfl rfl rfl (by first | (intro n e; cases e; done) | exact (fun _ _ q => all_glA (by rfl) q)) ?_ | (refine VR.div rfl rfl rfl (by decide) rfl ?_) | (refine VR.call fok9 rfl rfl rfl rfl ?_; refine v_spot s _ hs1 hs2 _ _ ?_; rw [hpc]) | (refine VR.call fok17 rfl rfl rfl rfl ?_; refine v_cutR t pc _ _ ?_; rw [hin])))
      apply VJ.draw3 [] [(0, 0), (1, 0), (2, 0), (3, 0), (4, 0), (5, 0), (6, 0), (7, 0), (8, 0), (9, 0), (10, 0), (11, 0), (12, 0), (13, 0)] [[(11, none)], [(15, none)], [(201, some 1)], [(20, none)], [(200, some 0), (202, some 2), (203, some 3)], [(9, none)], [(205, some 5)], [(206, some 6)], [(207, some 7)], [(15, none)], [(209, some 9)], [(20, none)], [(208, some 8), (210, some 10), (211, some 11)], [(204, some 4), (212, some 12)]] [[(11, _)], [(15, _)], [(201, _)], [(20, _)], [(200, _), (202, _), (203, _)], [(9, _)], [(205, _)], [(206, _)], [(207, _)], [(15, _)], [(209, _)], [(20, _)], [(208, _), (210, _), (211, _)], [(204, _), (212, _)]] [_, _, _, _, _, _, _, _, _, _, _, _, _, _] [⟨_, _, _⟩] (by kernel_rfl) ?hok rfl ?hh rfl rfl ?hj
      case hh =>
        refine ⟨?_, ?_, ?_, ?_, ?_, ?_, ?_, ?_, ?_, ?_, ?_, ?_, ?_, ?_, trivial⟩
        all_goals (intro rest K1 hK1; (repeat (first | exact VR.done hK1 | (first | (refine VR.bin rfl rfl rfl (neqI_self _ _ _ _) ?_) | refine VR.move rfl rfl ?_ | (show onLd; refine VR.load tok rfl rfl rfl (by first | rfl | exact (ldp_el (by assumption)).trans (by rfl)) ?_) | (show onFa; refine VR.fieldAddr tok rfl rfl rfl (by first | rfl | exact place_el (by assumption)) rfl rfl ?_) | refine VR.nilCheck rfl rfl rfl ?_ | (refine VR.buildLst ([t].map Tr.v) tok (by rfl) (by rfl) (by rfl) (by rfl) (by rfl) (by rfl) (by rfl) (by rfl) (by rfl) (by rfl) (by rfl) ?_) | (refine VR.call fok18 rfl rfl rfl rfl ?_; refine v_replL ts le E W s [t] inn (by simp) (by omega) _ (fun _ => ?_) (fun h => absurd h hz2); rw [hre]) | (refine VR.call fok19 rfl rfl rfl rfl ?_; refine v_replRL ts le E hP.mo.nd W s [t] inn (by simp) (by omega) _ (fun D hD h => ?_) (fun D hD h => absurd ((hcD D hD).symm.trans h) hz); rw [hcD D hD])))); try (first | exact VR.done hK1 | (refine VR.done ?_; dsimp only [S.set]; exact hK1)))
      case hok => kernel_rfl
      case hj =>
        dsimp only [List.append, tla]
        repeat' (first | refine VJ.skip ?_ | refine VJ.inBlock ?_ | refine VJ.cond_f rfl ?_ | (fail))
        exact VJ.to 0 _ _ hr rfl (by repeat' (first | exact trivial | refine And.intro rfl ?_)) trivial (by rfl)
  obtain ⟨t0, ht0⟩ : ∃ t0 : Tr, (L.map Tr.v)[0]? = some t0.v := by
    have h : 0 < L.length := by rw [List.length_map] at hlen; exact hlen
    exact ⟨L[0], map_get_t h⟩
  refine VJ.seq ?_
  refine VJ.region_k fun K hK => ?_
  repeat (first | refine VR.assign rfl rfl ?_ | (show onLd; refine VR.load tok rfl rfl rfl (by first | rfl | exact (ldp_el (by assumption)).trans (by rfl)) ?_) | (refine VR.buildRow ([t].map Tr.v) tok (by rfl) (by rfl) (by rfl) (by rfl) (by rfl) (by rfl) (by rfl) (by rfl) (by rfl) (by rfl) (by rfl) ?_))
  refine VR.done (hK _ ?_); clear hK K
  refine VJ.to 2 [(21, .a (.own (.l 1))), (16, vI kk), (15, .a (.ptr (.l 0) 0)), (14, vL 6 (L.map Tr.v)), (13, vI j), (11, vM), (9, vC), (3, vL 6 (more.map Tr.v)), (2, vL 2 (acts.map prV)), (1, vL 1 (ps.map iV)), (0, vI s)] [(1, .row 43 6 ([t].map Tr.v)), (0, bxT t)] ?_ rfl (by repeat' (first | exact trivial | refine And.intro rfl ?_)) (by repeat' (first | exact trivial | refine And.intro rfl ?_)) (by rfl)
  refine VJ.seq ?_
  refine VJ.seq ?_
  refine VJ.region_k fun K hK => ?_
  repeat (first | refine VR.move rfl rfl ?_ | (show onLd; refine VR.load tok rfl rfl rfl (by first | rfl | exact (ldp_el (by assumption)).trans (by rfl)) ?_) | (show onIx; refine VR.indexAddr tok rfl rfl rfl rfl rfl rfl rfl (elA_lst (by assumption)) ?_) | (show onIx; refine VR.indexArr tok rfl (arrOk (by rfl)) rfl rfl (by first | rfl | exact place_el (by assumption)) rfl rfl (by decide) rfl ?_) | refine VR.int rfl rfl rfl rfl ?_ | (refine VR.div rfl rfl rfl (by decide) rfl ?_))
  refine VR.done (hK _ ?_); clear hK K
  refine via1 ⟨2, [(21, .a (.own (.l 1))), (16, vI kk), (15, .a (.ptr (.l 0) 0)), (14, vL 6 (L.map Tr.v)), (13, vI j), (11, vM), (9, vC), (3, vL 6 (more.map Tr.v)), (2, vL 2 (acts.map prV)), (1, vL 1 (ps.map iV)), (0, vI s)], [(1, .row 43 6 ((if (a2.tmod 2 == 0) = true then [t] ++ [t0] else [t]).map Tr.v)), (0, bxT t)], GL ts le E W s⟩ (fun ki2 hr => ?_) ?_
  · clear hrest
    refine VJ.cond rfl (fun hk => ?_) (fun hk => ?_)
    · rw [if_pos hk] at hr
      repeat' (first | refine VJ.region_k fun K hK => ?_ | (refine VR.done (hK _ ?_); clear hK K) | (first | refine VR.move rfl rfl ?_ | refine VR.assign rfl rfl ?_ | (show onLd; refine VR.load tok rfl rfl rfl (by first | rfl | exact (ldp_el (by assumption)).trans (by rfl)) ?_) | (show onIx; refine VR.indexAddr tok rfl rfl rfl rfl rfl rfl rfl (elA_lst (by assumption)) ?_) | (refine VR.buildLst ([t0].map Tr.v) tok (by rfl) (by rfl) (by rfl) (by rfl) (by rfl) (by rfl) (by rfl) (by rfl) (by rfl) (by rfl) (by rfl) ?_) | (refine VR.append tok (by rfl) (by rfl) (by rfl) (by rfl) (by rfl) (by rfl) (by rfl) (by rfl) (by rfl) (by rfl) (oneT [t0]) (by simp) (by simp [maxLen]) ?_)))
      exact VJ.to 2 _ _ hr rfl (by repeat' (first | exact trivial | refine And.intro rfl ?_)) ⟨by rw [List.map_append]; rfl, by rfl, trivial⟩ (by rfl)
    · rw [if_neg (by rw [hk]; simp)] at hr
      repeat' (first | refine VJ.skip ?_ | (fail))
      exact VJ.to 2 _ _ hr rfl (by repeat' (first | exact trivial | refine And.intro rfl ?_)) (by repeat' (first | exact trivial | refine And.intro rfl ?_)) (by rfl)
  obtain ⟨out, hout⟩ : ∃ out, (if (a2.tmod 2 == 0) = true then [t] ++ [t0] else [t]) = out := ⟨_, rfl⟩
  have ho2 : out.length ≤ 2 := by rw [← hout]; split <;> simp
  rw [hout]
  clear hout
  refine VJ.freeze 21 rfl rfl ?_
  refine VJ.to 1 [(21, vL 6 (out.map Tr.v)), (16, vI kk), (15, .a (.ptr (.l 0) 0)), (14, vL 6 (L.map Tr.v)), (13, vI j), (11, vM), (9, vC), (3, vL 6 (more.map Tr.v)), (2, vL 2 (acts.map prV)), (1, vL 1 (ps.map iV)), (0, vI s)] [(0, bxT t)] ?_ rfl (by repeat' (first | exact trivial | refine And.intro rfl ?_)) (by repeat' (first | exact trivial | refine And.intro rfl ?_)) (by rfl)
  obtain ⟨hre, _⟩ := repl_eq hP out more
  have hcD : ∀ D, D.Perm E → codeR D out more = codeR E out more := fun D hD => (repl_eq (hP.perm hD) out more).1.symm.trans hre
  refine VJ.seq ?_
  refine VJ.seq ?_
  refine via1F (fun x : TS × LS × LS => ⟨0, (139, vB false) :: [(13, vI j), (11, vM), (9, vC), (3, vL 6 (more.map Tr.v)), (2, vL 2 (acts.map prV)), (1, vL 1 (ps.map iV)), (0, vI s)], [], GL x.1 x.2.1 x.2.2 W s⟩) (fun x => ∃ l', PM x.1 x.2.1 x.2.2 l' ∧ l'.length ≤ 1800 + 10 * (j + 1)) (fun ki2 hr0 => ?_) ?_
  · clear hrest
    by_cases hz : codeR E out more = 0
    · have hz2 : replE ts le out more = 0 := hre.trans hz
      apply VJ.drawSuf3 [_, _, _, _, _, _, _, _, _, _] [_, _] 10 [3] [(0, 0), (1, 0), (2, 0), (3, 0), (4, 1), (5, 1), (6, 1), (7, 1), (8, 1), (9, 1), (4, 0), (5, 0), (6, 0), (7, 0), (8, 0), (9, 0)] [[(11, none)], [(21, none)], [(3, none)], [(128, some 0), (129, some 1), (130, some 2)], [(9, none)], [(132, some 4)], [(133, some 5)], [(134, some 6)], [(21, none)], [(3, none)], [(135, some 7), (136, some 8), (137, some 9)], [(131, some 3), (138, some 10)]] [[(11, _)], [(21, _)], [(3, _)], [(128, _), (129, _), (130, _)], [(9, _)], [(132, _)], [(133, _)], [(134, _)], [(21, _)], [(3, _)], [(135, _), (136, _), (137, _)], [(131, _), (138, _)]] [_, _, _, _, _, _, _, _, _, _] [(.a .top), (.a .top)] [⟨_, _, _⟩, ⟨_, _, _⟩] rfl rfl (by decide) rfl (by kernel_rfl) ?hok rfl ?hh rfl rfl ?hj
      case hh =>
        refine ⟨?_, ?_, ?_, ?_, ?_, ?_, ?_, ?_, ?_, ?_, ?_, ?_, ?_, ?_, ?_, ?_, trivial⟩
        all_goals (intro rest K1 hK1; (repeat (first | exact VR.done hK1 | (first | refine VR.move rfl rfl ?_ | (show onLd; refine VR.load tok rfl rfl rfl (by first | rfl | exact (ldp_el (by assumption)).trans (by rfl)) ?_) | (show onFa; refine VR.fieldAddr tok rfl rfl rfl (by first | rfl | exact place_el (by assumption)) rfl rfl ?_) | refine VR.nilCheck rfl rfl rfl ?_ | (refine VR.call fok18 rfl rfl rfl rfl ?_; refine v_replL ts le E W s out more (by omega) (by omega) _ (fun h => absurd hz2 h) (fun _ => ?_))))); try (first | exact VR.done hK1 | (refine VR.done ?_; dsimp only [S.set]; exact hK1)))
      case hok => kernel_rfl
      case hj =>
        dsimp only [List.append, tla]
        refine VR.call fok19 rfl rfl rfl rfl ?_
        refine v_replRL _ _ E hP.mo.nd W s out more (by omega) (by omega) _ (fun D hD h => absurd ((hcD D hD).trans hz) h) (fun D hD h0 => ?_)
        obtain ⟨l', hP', hl', _⟩ := (repl_eq (hP.perm hD) out more).2 h0
        have hr := hr0 (_, _, _) ⟨l', hP', by omega⟩
        dsimp only at hr
        repeat (first | refine VR.int rfl rfl rfl rfl ?_)
        refine VR.done ?_
        refine VJ.to 0 ((139, vB false) :: [(13, vI j), (11, vM), (9, vC), (3, vL 6 (more.map Tr.v)), (2, vL 2 (acts.map prV)), (1, vL 1 (ps.map iV)), (0, vI s)]) [] ?_ rfl (by repeat' (first | exact trivial | refine And.intro rfl ?_)) trivial (by rfl)
        refine toGL _ _ E _ W s (hh0 4) (hh0 8) (by rfl) (by rfl) (by rfl) (by rfl) ?_
        exact VJ.to 0 _ _ hr rfl (by repeat' (first | exact trivial | refine And.intro rfl ?_)) trivial (by rfl)
    · have hz2 : replE ts le out more ≠ 0 := by rw [hre]; exact hz
      have hr := hr0 (ts, le, E) ⟨l, hP, by omega⟩
      dsimp only at hr
      apply VJ.draw3 [] [(0, 0), (1, 0), (2, 0), (3, 0), (4, 0), (5, 0), (6, 0), (7, 0), (8, 0), (9, 0), (10, 0), (11, 0)] [[(11, none)], [(21, none)], [(3, none)], [(128, some 0), (129, some 1), (130, some 2)], [(9, none)], [(132, some 4)], [(133, some 5)], [(134, some 6)], [(21, none)], [(3, none)], [(135, some 7), (136, some 8), (137, some 9)], [(131, some 3), (138, some 10)]] [[(11, _)], [(21, _)], [(3, _)], [(128, _), (129, _), (130, _)], [(9, _)], [(132, _)], [(133, _)], [(134, _)], [(21, _)], [(3, _)], [(135, _), (136, _), (137, _)], [(131, _), (138, _)]] [_, _, _, _, _, _, _, _, _, _, _, _] [⟨_, _, _⟩] (by kernel_rfl) ?hok rfl ?hh rfl rfl ?hj
      case hh =>
        refine ⟨?_, ?_, ?_, ?_, ?_, ?_, ?_, ?_, ?_, ?_, ?_, ?_, trivial⟩
        all_goals (intro rest K1 hK1; (repeat (first | exact VR.done hK1 | (first | (refine VR.bin rfl rfl rfl (neqI_self _ _ _ _) ?_) | refine VR.move rfl rfl ?_ | (show onLd; refine VR.load tok rfl rfl rfl (by first | rfl | exact (ldp_el (by assumption)).trans (by rfl)) ?_) | (show onFa; refine VR.fieldAddr tok rfl rfl rfl (by first | rfl | exact place_el (by assumption)) rfl rfl ?_) | refine VR.nilCheck rfl rfl rfl ?_ | (refine VR.call fok18 rfl rfl rfl rfl ?_; refine v_replL ts le E W s out more (by omega) (by omega) _ (fun _ => ?_) (fun h => absurd h hz2); rw [hre]) | (refine VR.call fok19 rfl rfl rfl rfl ?_; refine v_replRL ts le E hP.mo.nd W s out more (by omega) (by omega) _ (fun D hD h => ?_) (fun D hD h => absurd ((hcD D hD).symm.trans h) hz); rw [hcD D hD])))); try (first | exact VR.done hK1 | (refine VR.done ?_; dsimp only [S.set]; exact hK1)))
      case hok => kernel_rfl
      case hj =>
        dsimp only [List.append, tla]
        exact VJ.to 0 _ _ hr rfl (by repeat' (first | exact trivial | refine And.intro rfl ?_)) trivial (by rfl)
  rintro ⟨ts', le', E'⟩ ⟨l', hP', hl'⟩
  dsimp only at hP' hl'
  have hr := hrest (ts', le', E') ⟨l', hP', hl'⟩
  dsimp only at hr ⊢
  clear hrest
  repeat' (first | refine VJ.seq ?_ | refine VJ.skip ?_ | refine VJ.cond_f rfl ?_ | refine VJ.region_k fun K hK => ?_ | (refine VR.done (hK _ ?_); clear hK K) | (first | refine VR.move rfl rfl ?_ | (show onLd; refine VR.load tok rfl rfl rfl (by first | rfl | exact (ldp_el (by assumption)).trans (by rfl)) ?_) | (show onFa; refine VR.fieldAddr tok rfl rfl rfl (by first | rfl | exact place_el (by assumption)) rfl rfl ?_) | refine VR.int rfl rfl rfl rfl ?_ | refine VR.nilCheck rfl rfl rfl ?_ | (refine VR.lenMap rfl rfl rfl (mapOk (by rfl)) ?_)))
  refine VJ.cond rfl (fun hk => ?_) (fun hk => ?_)
  · have hE0 : E'.length = 0 := by simpa using hk
    have ht0' : ts'.length = 0 := by
      have h1 := hP'.mo.len
      rw [hP'.tlen]; omega
    clear hr
    repeat' (first | refine VJ.seq ?_ | refine VJ.region_k fun K hK => ?_ | (refine VR.done (hK _ ?_); clear hK K) | (first | refine VR.move rfl rfl ?_ | refine VR.assign rfl rfl ?_ | refine VR.int rfl rfl rfl rfl ?_ | (refine VR.pickB rfl rfl rfl rfl ?_ ?_ ?_; (first | exact trivial | (refine fun h => ?_; first | (rw [h]; rfl) | (rw [h, hg]; rfl) | (rw [hg, h]; rfl) | (simp [h, hg]; done))); (first | exact trivial | (refine fun h => ?_; first | (rw [h]; rfl) | (rw [h, hg]; rfl) | (rw [hg, h]; rfl) | (simp [h, hg]; done)))) | refine VR.g_yes rfl rfl (by first | rfl | assumption) ?_ | (refine VR.call fok12 rfl rfl rfl rfl ?_; refine v_lenM ts' le' _ (GL_mesh ts' le' E' W s) _ ?_; rw [ht0']) | (refine VR.callk (fun _ => false) [] fok6 rfl rfl rfl rfl (fun _ _ h => by cases h) ?_; refine v_awake _ ⟨(fun n h => rfl), .inl rfl, ?_⟩; rw [GM_false])))
    refine VJ.retF (r := vB true) tok (by rfl) (by rfl) hG0 (fun n o h => by cases h) (by rfl) hQ
  repeat' (first | refine VJ.skip ?_ | refine VJ.inBlock ?_ | (fail))
  exact VJ.to 0 _ _ hr rfl (by repeat' (first | exact trivial | refine And.intro rfl ?_)) trivial (by rfl)
end Go.Proofs.YthiflcjcdhlmbaaGreat

/- The walk of MeshFlips: it returns true. Conditions: none. -/
namespace Go.Proofs.YthiflcjcdhlmbaaGreat
open Go.RowKit V Geo Go.ChangeShapes Go.WideShapes
set_option linter.unusedVariables false
theorem rt_of {W : World} {a : Option Addr} {len cap : Nat} {zs : List Int} (y : Flat.IsFlat 6 W a len cap zs) : ∃ l : List Tr, IsL (fun _ => none) W 6 (l.map Tr.v) (.slice a len cap) := by
  refine ⟨(List.range len).map fun i => ⟨⟨zs.getD (i * 6 + 0) 0, zs.getD (i * 6 + 1) 0⟩, ⟨zs.getD (i * 6 + 2) 0, zs.getD (i * 6 + 3) 0⟩, ⟨zs.getD (i * 6 + 4) 0, zs.getD (i * 6 + 5) 0⟩⟩, ?_⟩
  have := isl_rows (by decide) y
  rw [List.map_map]
  exact this
theorem rp_of {W : World} {a : Option Addr} {len cap : Nat} {zs : List Int} (y : Flat.IsFlat 2 W a len cap zs) : ∃ l : List (Int × Int), IsL (fun _ => none) W 2 (l.map prV) (.slice a len cap) := by
  refine ⟨(List.range len).map fun i => (zs.getD (i * 2 + 0) 0, zs.getD (i * 2 + 1) 0), ?_⟩
  have := isl_rows (by decide) y
  rw [List.map_map]
  exact this
theorem ri_of {W : World} {a : Option Addr} {len cap : Nat} {zs : List Int} (y : Flat.IsFlat 1 W a len cap zs) : ∃ l : List Int, IsL (fun _ => none) W 1 (l.map iV) (.slice a len cap) := by
  rcases Nat.eq_zero_or_pos len with rfl | hp
  · exact ⟨[], .inl ⟨rfl, a, cap, rfl⟩⟩
  · obtain ⟨b, o, rfl, hb, hc⟩ := Flat.cellsAt y (by omega)
    have hle : len ≤ cap := by
      rcases y with ⟨e, _⟩ | ⟨x, e, h1, _⟩
      · cases e
      · exact h1
    refine ⟨(List.range len).map fun i => zs.getD i 0, .inr ⟨b, o, cap, by simp, by simpa using hle, hb, none_mutb, ?_, ?_⟩⟩
    · intro x hx
      obtain ⟨q, _, rfl⟩ := List.mem_map.1 hx
      rfl
    · intro j c hj
      rw [cellsL_one _ (fun u hu => by obtain ⟨q, _, rfl⟩ := List.mem_map.1 hu; rfl), List.map_map] at hj
      have hlt : j < len := by
        have h1 := (List.getElem?_eq_some_iff.1 hj).1
        simpa using h1
      rw [List.getElem?_map, List.getElem?_range hlt] at hj
      simp only [Option.map_some, Function.comp_apply, Option.some.injEq] at hj
      subst hj
      exact (hc W (Below.refl _ W) j (by omega)).1
set_option maxRecDepth 100000 in
theorem meshFlips_w (W : World) (s : Int) (a1 : Option Addr) (len1 cap1 : Nat) (zs1 : List Int) (y1 : Flat.IsFlat 1 W a1 len1 cap1 zs1) (a2 : Option Addr) (len2 cap2 : Nat) (zs2 : List Int) (y2 : Flat.IsFlat 2 W a2 len2 cap2 zs2) (a3 : Option Addr) (len3 cap3 : Nat) (zs3 : List Int) (y3 : Flat.IsFlat 6 W a3 len3 cap3 zs3) :
    Calls Tryz.prog 3 #[.int .i64 s, .slice a1 len1 cap1, .slice a2 len2 cap2, .slice a3 len3 cap3] W fun e W' => e = .returned (.bool true) ∧ Below W.heap.size W W' := by
  obtain ⟨l1, h1⟩ := ri_of y1
  obtain ⟨l2, h2⟩ := rp_of y2
  obtain ⟨l3, h3⟩ := rt_of y3
  exact VC.calls (args := [vI s, vL 1 (l1.map iV), vL 2 (l2.map prV), vL 6 (l3.map Tr.v)]) (v_meshFlips s l1 l2 l3 _ rfl) (RVs.cons rfl (RVs.cons (by exact h1) (RVs.cons (by exact h2) (RVs.cons (by exact h3) RVs.nil))))
end Go.Proofs.YthiflcjcdhlmbaaGreat
