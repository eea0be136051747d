/- Texts of the proof, one behind the other: Y1, E4, E5, E6, E7, E8, RiW, CoversW. Conditions: each lemma's own. -/
import Derived.Test.YtnpnjhopgedhkaaGreatFC7
import Derived.Test.YtnpnjhopgedhkaaGreatFC8

/- The meshes side by side: what the laws call. Conditions: the meshes and the lists fit a machine. -/
namespace Go.Proofs.YtnpnjhopgedhkaaGreat
open Go.RowKit V Geo
set_option linter.unusedVariables false

/-- Both meshes, the walls, the CDT. -/
abbrev GL (ts : TS) (le E : LS) (W : List Wl) (s : Int) : Gl := gov [(0, bxM), (1, mT ts none), (2, mL le none), (3, bxN), (4, mL E none), (5, bxR W), (6, bxC s s)] E0
theorem GL_mesh (ts : TS) (le E : LS) (W : List Wl) (s : Int) : MeshG (GL ts le E W s) ts le := ⟨rfl, ⟨none, rfl⟩, ⟨none, rfl⟩⟩
theorem GL_free (ts : TS) (le E : LS) (W : List Wl) (s : Int) : Free 10 15 (GL ts le E W s) := by
  intro n h1 h2
  have h0 : n ≠ 0 := by omega
  have k1 : n ≠ 1 := by omega
  have k2 : n ≠ 2 := by omega
  have k3 : n ≠ 3 := by omega
  have k4 : n ≠ 4 := by omega
  have k5 : n ≠ 5 := by omega
  have k6 : n ≠ 6 := by omega
  simp [gov, lk, h0, k1, k2, k3, k4, k5, k6]
def kp3 (n : Nat) : Bool := Nat.ble n 2
theorem kp3_yes {n : Nat} (h : kp3 n = true) : n = 0 ∨ n = 1 ∨ n = 2 := by
  have := Nat.le_of_ble_eq_true h
  omega
theorem kp3_no {n : Nat} (h : kp3 n = false) : 3 ≤ n := by
  rcases Nat.lt_or_ge n 3 with h1 | h1
  · have : kp3 n = true := Nat.ble_eq_true_of_le (by omega)
    rw [h] at this; cases this
  · exact h1
theorem GK3 (E : LS) (W : List Wl) (s : Int) : GK kp3 (GC s s E W E0) = E0 := by
  funext n
  show (if kp3 n = true then GC s s E W E0 n else none) = none
  by_cases h : kp3 n = true
  · rw [if_pos h]
    rcases kp3_yes h with rfl | rfl | rfl <;> rfl
  · rw [if_neg h]
theorem GM3L (ts : TS) (le E : LS) (W : List Wl) (s : Int) : GM kp3 (GMz ts none le none) (GC s s E W E0) = GL ts le E W s := by
  funext n
  show (if kp3 n = true then GMz ts none le none n else GC s s E W E0 n) = _
  by_cases h : kp3 n = true
  · rw [if_pos h]
    rcases kp3_yes h with rfl | rfl | rfl <;> rfl
  · rw [if_neg h]
    have := kp3_no (by simpa using h)
    have h0 : n ≠ 0 := by omega
    have h1 : n ≠ 1 := by omega
    have h2 : n ≠ 2 := by omega
    by_cases h3 : n = 3
    · subst h3; rfl
    by_cases h4 : n = 4
    · subst h4; rfl
    by_cases h5 : n = 5
    · subst h5; rfl
    by_cases h6 : n = 6
    · subst h6; rfl
    simp [gov, lk, h0, h1, h2, h3, h4, h5, h6]
theorem GMz_no {n : Nat} (h : kp3 n = false) (ts : TS) (le : LS) : GMz ts none le none n = none := by
  have := kp3_no h
  have h0 : n ≠ 0 := by omega
  have h1 : n ≠ 1 := by omega
  have h2 : n ≠ 2 := by omega
  simp [gov, lk, h0, h1, h2]
attribute [local irreducible] VR VJ VC decOk decBt
end Go.Proofs.YtnpnjhopgedhkaaGreat

/- built: a square with points, and the program's mesh of its triangles; awake. Conditions: the side is from 1 to 40, no more than 25 points. -/
namespace Go.Proofs.YtnpnjhopgedhkaaGreat
open Go.RowKit V Geo
set_option linter.unusedVariables false

abbrev iV : Int → Value := Value.int .i64
theorem map_get_i {l : List Int} {j : Nat} (h : j < l.length) : (l.map iV)[j]? = some (.int .i64 l[j]) := by simp [h]
theorem eqI_of {a b : Int} (h : a = b) (T : TypeId) (x y : Operand) (w : World) : (do eqGuard .eql T x y (.int .i64 a) (.int .i64 b); binOp .eql T (.int .i64 a) (.int .i64 b) : Sem Value).run Tryz.prog w = .ok (.bool true) w := by
  subst h
  have := ib_run (P := Tryz.prog) (op := .eql) (k := .i64) (a := a) (b := a) rfl T x y w
  simpa using this
abbrev vM2 : AV := .tup [.ptr (.g 0) 0, .ptr (.g 6) 0]
attribute [local irreducible] VR VJ VC decOk decBt
set_option maxRecDepth 20000 in
set_option maxHeartbeats 8000000 in
theorem v_built (I : Nat → LS → Prop) (s : Int) (hs1 : 1 ≤ s) (hs2 : s ≤ 40) (KI : ∀ j W, Keeps W (I j)) (h0I : ∀ E1, newR [] (sqT s) = some E1 → I 0 E1) (ps : List Int) (few : ps.length ≤ 25)
    (hN : ∀ j (h : j < ps.length) E, I j E → atL E (spotP s ps[j]) = [] → I (j + 1) E) (hS : ∀ j (h : j < ps.length) E, I j E → starL E (spotP s ps[j]) ≠ [] → I (j + 1) E)
    (hA : ∀ j (h : j < ps.length) E, I j E → atL E (spotP s ps[j]) ≠ [] → starL E (spotP s ps[j]) = [] → I (j + 1) (addE E (spotP s ps[j]))) (Q : Po)
    (hQ : ∀ E W, I ps.length E → Q vM2 (GL (meshOf (trisR E)).1 (meshOf (trisR E)).2 E W s)) : VC Tryz.prog 9 [vI s, vL 1 (ps.map iV), vNS] E0 Q := by
  refine VC.of_body Tryz.func9 rfl rfl rfl fun W0 h0 x0 hG0 => ?_
  simp only [args0]
  obtain ⟨E1, hE1, _⟩ := sqTI hs1 hs2
  have hI1 := h0I E1 hE1
  repeat' (first | refine VJ.seq ?_ | refine VJ.skip ?_ | refine VJ.block ?_ | refine VJ.inBlock ?_ | refine VJ.exit rfl ?_ | refine VJ.cond_t rfl ?_ | refine VJ.cond_f rfl ?_ | refine VJ.region_k fun K hK => ?_ | (refine VR.done (hK _ ?_); clear hK K) | (first | refine VR.move rfl rfl ?_ | refine VR.assign rfl rfl ?_ | (show onLd; refine VR.load tok rfl rfl rfl (by first | rfl | exact (ldp_el (by assumption)).trans (by rfl)) ?_) | (show onFa; refine VR.fieldAddr tok rfl rfl rfl (by first | rfl | exact place_el (by assumption)) rfl rfl ?_) | (show onIx; refine VR.indexAddr tok rfl rfl rfl rfl rfl rfl rfl (elA_lst (by assumption)) ?_) | (show onIx; refine VR.indexArr tok rfl (arrOk (by rfl)) rfl rfl (by first | rfl | exact place_el (by assumption)) rfl rfl (by decide) rfl ?_) | refine VR.int rfl rfl rfl rfl ?_ | refine VR.nilCheck rfl rfl rfl ?_ | refine VR.extract rfl rfl rfl ?_ | refine VR.len tok rfl rfl rfl rfl rfl ?_ | (refine VR.call fok25 rfl rfl rfl rfl ?_; refine v_newCDT (I 0) (KI 0) s hs1 hs2 E1 hE1 hI1 _ (fun E2 W2 hI2 hW2 => ?_))))
  refine VJ.to 0 [(9, vI ((0 : Nat) : Int)), (8, vC), (2, vNS), (1, vL 1 (ps.map iV)), (0, vI s)] [] ?_ rfl (by repeat' (first | exact trivial | refine And.intro rfl ?_)) trivial (by rfl)
  refine VJ.rec (fun p : Nat × LS × List Wl => ⟨0, [(9, vI p.1), (8, vC), (2, vNS), (1, vL 1 (ps.map iV)), (0, vI s)], [], GC s s p.2.1 p.2.2 E0⟩) (fun p => ps.length - p.1) (fun p => p.1 ≤ ps.length ∧ I p.1 p.2.1 ∧ p.2.2.length ≤ 4 + 2 * p.1) (0, E2, W2) ⟨Nat.zero_le _, hI2, by show W2.length ≤ 4 + 2 * 0; omega⟩ ?_
  rintro ⟨j, E, W⟩ ⟨hj, hI, hW⟩ ih
  dsimp only at hj hI hW ih ⊢
  clear hI1 hE1 hI2 hW2
  repeat' (first | refine VJ.seq ?_ | refine VJ.skip ?_ | refine VJ.block ?_ | refine VJ.inBlock ?_ | refine VJ.exit rfl ?_ | refine VJ.cond_t rfl ?_ | refine VJ.cond_f rfl ?_ | refine VJ.region_k fun K hK => ?_ | (refine VR.done (hK _ ?_); clear hK K) | (first | refine VR.move rfl rfl ?_ | refine VR.assign rfl rfl ?_ | (show onLd; refine VR.load tok rfl rfl rfl (by first | rfl | exact (ldp_el (by assumption)).trans (by rfl)) ?_) | (show onFa; refine VR.fieldAddr tok rfl rfl rfl (by first | rfl | exact place_el (by assumption)) rfl rfl ?_) | (show onIx; refine VR.indexAddr tok rfl rfl rfl rfl rfl rfl rfl (elA_lst (by assumption)) ?_) | (show onIx; refine VR.indexArr tok rfl (arrOk (by rfl)) rfl rfl (by first | rfl | exact place_el (by assumption)) rfl rfl (by decide) rfl ?_) | refine VR.int rfl rfl rfl rfl ?_ | refine VR.nilCheck rfl rfl rfl ?_ | refine VR.extract rfl rfl rfl ?_ | refine VR.len tok rfl rfl rfl rfl rfl ?_))
  refine VJ.cond rfl (fun hb => ?_) (fun hb => ?_)
  · have hlt : j < ps.length := by simpa using hb
    have hget := map_get_i hlt
    have n1 := hN j hlt E hI
    have n2 := hS j hlt E hI
    have n3 := hA j hlt E hI
    generalize ps[j] = v at hget n1 n2 n3
    repeat' (first | refine VJ.seq ?_ | refine VJ.skip ?_ | refine VJ.block ?_ | refine VJ.inBlock ?_ | refine VJ.exit rfl ?_ | refine VJ.cond_t rfl ?_ | refine VJ.cond_f rfl ?_ | refine VJ.region_k fun K hK => ?_ | (refine VR.done (hK _ ?_); clear hK K) | (first | refine VR.move rfl rfl ?_ | refine VR.assign rfl rfl ?_ | (show onLd; refine VR.load tok rfl rfl rfl (by first | rfl | exact (ldp_el (by assumption)).trans (by rfl)) ?_) | (show onFa; refine VR.fieldAddr tok rfl rfl rfl (by first | rfl | exact place_el (by assumption)) rfl rfl ?_) | (show onIx; refine VR.indexAddr tok rfl rfl rfl rfl rfl rfl rfl (elA_lst (by assumption)) ?_) | (show onIx; refine VR.indexArr tok rfl (arrOk (by rfl)) rfl rfl (by first | rfl | exact place_el (by assumption)) rfl rfl (by decide) rfl ?_) | refine VR.int rfl rfl rfl rfl ?_ | refine VR.nilCheck rfl rfl rfl ?_ | refine VR.extract rfl rfl rfl ?_ | refine VR.len tok rfl rfl rfl rfl rfl ?_ | (refine VR.call fok26 rfl rfl rfl rfl ?_; refine v_cdtAdd (I j) (I (j + 1)) (KI j) (KI (j + 1)) s s E hI W (by omega) (spotP s v) n1 n2 n3 E0 rfl _ (fun r E3 W3 hI3 hW3 => ?_))) | (refine VR.call fok19 rfl rfl rfl rfl ?_; refine (v_spot s v hs1 hs2 _ _ ?_)))
    exact VJ.to 0 [(9, vI ((j + 1 : Nat) : Int)), (8, vC), (2, vNS), (1, vL 1 (ps.map iV)), (0, vI s)] [] (ih (j + 1, E3, W3) ⟨hlt, hI3, by show W3.length ≤ 4 + 2 * (j + 1); omega⟩ (show ps.length - (j + 1) < ps.length - j by omega)) rfl ⟨vI_succ (by omega), by rfl, by rfl, by rfl, by rfl, trivial⟩ trivial (by rfl)
  have hje : j = ps.length := by
    have : ¬ j < ps.length := by simpa using hb
    omega
  subst hje
  clear ih hb hN hS hA
  have hq := hQ E W hI
  obtain ⟨m, l, hm, hsq⟩ := (KI _ []).sq E hI
  have few : E.length < 100000 := (KI _ []).few hI
  have hL : MO E (trisR E) := hsq.mo.perm ((sortT_perm _).trans hsq.mo.trs).symm
  obtain ⟨hnew, hP⟩ := made_pm hL
  have hlen : (trisR E).length < 100000 := by
    have := hsq.mo.len
    have h2 := ((sortT_perm (trsOf E)).trans hsq.mo.trs).length_eq
    unfold trisR
    omega
  clear hQ hsq hm hI hL
  obtain ⟨L, hLe⟩ : ∃ L, trisR E = L := ⟨_, rfl⟩
  rw [hLe] at hq hnew hlen hP
  repeat' (first | refine VJ.seq ?_ | refine VJ.skip ?_ | refine VJ.block ?_ | refine VJ.inBlock ?_ | refine VJ.exit rfl ?_ | refine VJ.cond_t rfl ?_ | refine VJ.cond_f rfl ?_ | refine VJ.region_k fun K hK => ?_ | (refine VR.done (hK _ ?_); clear hK K) | (first | refine VR.move rfl rfl ?_ | refine VR.assign rfl rfl ?_ | (show onLd; refine VR.load tok rfl rfl rfl (by first | rfl | exact (ldp_el (by assumption)).trans (by rfl)) ?_) | (show onFa; refine VR.fieldAddr tok rfl rfl rfl (by first | rfl | exact place_el (by assumption)) rfl rfl ?_) | (show onIx; refine VR.indexAddr tok rfl rfl rfl rfl rfl rfl rfl (elA_lst (by assumption)) ?_) | (show onIx; refine VR.indexArr tok rfl (arrOk (by rfl)) rfl rfl (by first | rfl | exact place_el (by assumption)) rfl rfl (by decide) rfl ?_) | refine VR.int rfl rfl rfl rfl ?_ | refine VR.nilCheck rfl rfl rfl ?_ | refine VR.extract rfl rfl rfl ?_ | refine VR.len tok rfl rfl rfl rfl rfl ?_))
  refine VJ.to 0 [(10, vI ((0 : Nat) : Int)), (8, vC), (2, vNS)] [] ?_ rfl (by repeat' (first | exact trivial | refine And.intro rfl ?_)) trivial (by rfl)
  refine VJ.rec (fun _ : Nat => ⟨0, [(10, vI ((0 : Nat) : Int)), (8, vC), (2, vNS)], [], GC s s E W E0⟩) (fun _ => 0) (fun _ => True) 0 trivial ?_
  intro _ _ _
  repeat' (first | refine VJ.seq ?_ | refine VJ.skip ?_ | refine VJ.block ?_ | refine VJ.inBlock ?_ | refine VJ.exit rfl ?_ | refine VJ.cond_t rfl ?_ | refine VJ.cond_f rfl ?_ | refine VJ.region_k fun K hK => ?_ | (refine VR.done (hK _ ?_); clear hK K) | (first | refine VR.move rfl rfl ?_ | refine VR.assign rfl rfl ?_ | (show onLd; refine VR.load tok rfl rfl rfl (by first | rfl | exact (ldp_el (by assumption)).trans (by rfl)) ?_) | (show onFa; refine VR.fieldAddr tok rfl rfl rfl (by first | rfl | exact place_el (by assumption)) rfl rfl ?_) | (show onIx; refine VR.indexAddr tok rfl rfl rfl rfl rfl rfl rfl (elA_lst (by assumption)) ?_) | (show onIx; refine VR.indexArr tok rfl (arrOk (by rfl)) rfl rfl (by first | rfl | exact place_el (by assumption)) rfl rfl (by decide) rfl ?_) | refine VR.int rfl rfl rfl rfl ?_ | refine VR.nilCheck rfl rfl rfl ?_ | refine VR.extract rfl rfl rfl ?_ | refine VR.len tok rfl rfl rfl rfl rfl ?_ | (refine VR.call fok29 rfl rfl rfl rfl ?_; refine v_trisG E few _ ⟨rfl, ⟨none, rfl⟩⟩ _ ?_; rw [hLe]) | (refine VR.callk kp3 [] fok28 rfl rfl rfl rfl (fun n o hn h => by rcases kp3_yes hn with rfl | rfl | rfl <;> cases h) ?_; rw [GK3]; refine v_newM L (by omega) _ (fun h => absurd hnew h) (fun _ => ⟨(fun n h => GMz_no h _ _), .inl rfl, ?_⟩); rw [GM3L])))
  refine VJ.ret tok (by rfl) (by rfl) ?_
  exact hq
end Go.Proofs.YtnpnjhopgedhkaaGreat

/- awake: what the document fixes. Conditions: none. -/
namespace Go.Proofs.YtnpnjhopgedhkaaGreat
open Go.RowKit V Geo
set_option linter.unusedVariables false

attribute [local irreducible] VR VJ VC decOk decBt
theorem v_starNil (p : Pt) (Q : Po) (G : Gl) (hfr : Free 10 15 G) (hQ : Q vNS G) : VC Tryz.prog 13 [vNil, vV (ptV p)] G Q := by
  refine VC.of_body Tryz.func13 rfl rfl rfl fun W0 h0 x0 hG0 => ?_
  simp only [args0]
  refine VJ.seq ?_
  refine VJ.region_k fun K hK => ?_
  refine VR.boxG 13 (hfr 13 (by decide) (by decide)) rfl rfl rfl rfl ?_
  repeat' (first | refine VJ.seq ?_ | refine VJ.skip ?_ | refine VJ.cond_t rfl ?_ | refine VJ.cond_f rfl ?_ | refine VJ.region_k fun K hK => ?_ | (refine VR.done (hK _ ?_); clear hK K) | (first | refine VR.move rfl rfl ?_ | refine VR.assign rfl rfl ?_ | refine VR.box rfl rfl rfl ?_ | refine VR.makeFunc rfl rfl ?_) | (refine VR.call fok30 rfl rfl rfl rfl ?_; refine (v_those_nil 35 [.ptr (.g 13) 0] rfl _ _ ?_)))
  refine VJ.retF tok (by rfl) (by rfl) hG0 ?_ (by rfl) ?_
  · intro n o h
    have hn := hfr.ne h
    simp [hn 13 (by decide) (by decide), h]
  · exact hQ
theorem v_closedNil (p : Pt) (Q : Po) (G : Gl) (hfr : Free 10 15 G) (hQ : Q (vB false) G) : VC Tryz.prog 17 [vNil, vV (ptV p)] G Q := by
  refine VC.of_body Tryz.func17 rfl rfl rfl fun W0 h0 x0 hG0 => ?_
  simp only [args0]
  repeat' (first | refine VJ.seq ?_ | refine VJ.skip ?_ | refine VJ.block ?_ | refine VJ.inBlock ?_ | refine VJ.exit rfl ?_ | refine VJ.cond_t rfl ?_ | refine VJ.cond_f rfl ?_ | refine VJ.region_k fun K hK => ?_ | (refine VR.done (hK _ ?_); clear hK K) | (first | refine VR.move rfl rfl ?_ | refine VR.assign rfl rfl ?_ | (show onLd; refine VR.load tok rfl rfl rfl (by first | rfl | exact (ldp_el (by assumption)).trans (by rfl)) ?_) | (show onIx; refine VR.indexAddr tok rfl rfl rfl rfl rfl rfl rfl (elA_lst (by assumption)) ?_) | refine VR.int rfl rfl rfl rfl ?_ | (refine VR.pickB rfl rfl rfl rfl ?_ ?_ ?_; (first | exact trivial | (refine fun h => ?_; first | (rw [h]; rfl) | (rw [h, hg]; rfl) | (rw [hg, h]; rfl) | (simp [h, hg]; done))); (first | exact trivial | (refine fun h => ?_; first | (rw [h]; rfl) | (rw [h, hg]; rfl) | (rw [hg, h]; rfl) | (simp [h, hg]; done)))) | refine VR.pick rfl rfl rfl ?_ | refine VR.not rfl rfl ?_ | refine VR.g_yes rfl rfl (by first | rfl | assumption) ?_ | refine VR.g_no rfl rfl rfl (by first | rfl | assumption) ?_ | refine VR.box rfl rfl rfl ?_ | refine VR.alloc tok rfl rfl rfl ?_ | refine VR.store tok rfl rfl rfl rfl rfl rfl rfl (by first | (intro n e; cases e; done) | exact (fun _ _ q => all_glA (by rfl) q)) ?_ | refine VR.extract rfl rfl rfl ?_ | refine VR.len tok rfl rfl rfl rfl rfl ?_) | (refine' VR.spec (by rfl) (by rfl) (by rfl) ?_ ?_ ?_; rotate_left 1; (repeat (first | exact trivial | refine And.intro id ?_)); intro hg K1 hK1; (first | refine VR.move rfl rfl ?_ | (show onLd; refine VR.load tok rfl rfl rfl (by first | rfl | exact (ldp_el (by assumption)).trans (by rfl)) ?_) | refine VR.int rfl rfl rfl rfl ?_ | (refine VR.pickB rfl rfl rfl rfl ?_ ?_ ?_; (first | exact trivial | (refine fun h => ?_; first | (rw [h]; rfl) | (rw [h, hg]; rfl) | (rw [hg, h]; rfl) | (simp [h, hg]; done))); (first | exact trivial | (refine fun h => ?_; first | (rw [h]; rfl) | (rw [h, hg]; rfl) | (rw [hg, h]; rfl) | (simp [h, hg]; done)))) | refine VR.pick rfl rfl rfl ?_ | (refine VR.call fok13 rfl rfl rfl rfl ?_; refine (v_starNil p _ _ hfr ?_))); exact VR.done hK1) | (refine VR.call fok13 rfl rfl rfl rfl ?_; refine (v_starNil p _ _ hfr ?_)))
  refine VJ.to 0 [(18, vI ((0 : Nat) : Int)), (17, vI 0), (16, vNS), (5, vNS)] [] ?_ rfl (by repeat' (first | exact trivial | refine And.intro rfl ?_)) trivial (by rfl)
  refine VJ.rec (fun _ : Nat => ⟨0, [(18, vI ((0 : Nat) : Int)), (17, vI 0), (16, vNS), (5, vNS)], [], G⟩) (fun _ => 0) (fun _ => True) 0 trivial ?_
  intro _ _ _
  repeat' (first | refine VJ.seq ?_ | refine VJ.skip ?_ | refine VJ.block ?_ | refine VJ.inBlock ?_ | refine VJ.exit rfl ?_ | refine VJ.cond_t rfl ?_ | refine VJ.cond_f rfl ?_ | refine VJ.region_k fun K hK => ?_ | (refine VR.done (hK _ ?_); clear hK K) | (first | refine VR.move rfl rfl ?_ | refine VR.assign rfl rfl ?_ | (show onLd; refine VR.load tok rfl rfl rfl (by first | rfl | exact (ldp_el (by assumption)).trans (by rfl)) ?_) | (show onIx; refine VR.indexAddr tok rfl rfl rfl rfl rfl rfl rfl (elA_lst (by assumption)) ?_) | refine VR.int rfl rfl rfl rfl ?_ | (refine VR.pickB rfl rfl rfl rfl ?_ ?_ ?_; (first | exact trivial | (refine fun h => ?_; first | (rw [h]; rfl) | (rw [h, hg]; rfl) | (rw [hg, h]; rfl) | (simp [h, hg]; done))); (first | exact trivial | (refine fun h => ?_; first | (rw [h]; rfl) | (rw [h, hg]; rfl) | (rw [hg, h]; rfl) | (simp [h, hg]; done)))) | refine VR.pick rfl rfl rfl ?_ | refine VR.not rfl rfl ?_ | refine VR.g_yes rfl rfl (by first | rfl | assumption) ?_ | refine VR.g_no rfl rfl rfl (by first | rfl | assumption) ?_ | refine VR.box rfl rfl rfl ?_ | refine VR.alloc tok rfl rfl rfl ?_ | refine VR.store tok rfl rfl rfl rfl rfl rfl rfl (by first | (intro n e; cases e; done) | exact (fun _ _ q => all_glA (by rfl) q)) ?_ | refine VR.extract rfl rfl rfl ?_ | refine VR.len tok rfl rfl rfl rfl rfl ?_) | (refine' VR.spec (by rfl) (by rfl) (by rfl) ?_ ?_ ?_; rotate_left 1; (repeat (first | exact trivial | refine And.intro id ?_)); intro hg K1 hK1; (first | refine VR.move rfl rfl ?_ | (show onLd; refine VR.load tok rfl rfl rfl (by first | rfl | exact (ldp_el (by assumption)).trans (by rfl)) ?_) | refine VR.int rfl rfl rfl rfl ?_ | (refine VR.pickB rfl rfl rfl rfl ?_ ?_ ?_; (first | exact trivial | (refine fun h => ?_; first | (rw [h]; rfl) | (rw [h, hg]; rfl) | (rw [hg, h]; rfl) | (simp [h, hg]; done))); (first | exact trivial | (refine fun h => ?_; first | (rw [h]; rfl) | (rw [h, hg]; rfl) | (rw [hg, h]; rfl) | (simp [h, hg]; done)))) | refine VR.pick rfl rfl rfl ?_); exact VR.done hK1))
  refine VJ.ret tok (by rfl) (by rfl) ?_
  exact hQ
set_option maxRecDepth 20000 in
set_option maxHeartbeats 8000000 in
theorem v_awakeW (Q : Po) (hQ : Q (vB true) E0) : VC Tryz.prog 8 [] E0 Q := by
  refine VC.of_body Tryz.func8 rfl rfl rfl fun W0 h0 x0 hG0 => ?_
  simp only [args0]
  repeat' (first | refine VJ.seq ?_ | refine VJ.skip ?_ | refine VJ.cond_t rfl ?_ | refine VJ.cond_f rfl ?_ | refine VJ.region_k fun K hK => ?_ | (refine VR.done (hK _ ?_); clear hK K) | (first | refine VR.move rfl rfl ?_ | refine VR.assign rfl rfl ?_ | (show onLd; refine VR.load tok rfl rfl rfl (by first | rfl | exact (ldp_el (by assumption)).trans (by rfl)) ?_) | refine VR.int rfl rfl rfl rfl ?_ | (refine VR.pickB rfl rfl rfl rfl ?_ ?_ ?_; (first | exact trivial | (refine fun h => ?_; first | (rw [h]; rfl) | (rw [h, hg]; rfl) | (rw [hg, h]; rfl) | (simp [h, hg]; done))); (first | exact trivial | (refine fun h => ?_; first | (rw [h]; rfl) | (rw [h, hg]; rfl) | (rw [hg, h]; rfl) | (simp [h, hg]; done)))) | refine VR.pick rfl rfl rfl ?_ | refine VR.not rfl rfl ?_ | refine VR.g_yes rfl rfl (by first | rfl | assumption) ?_ | refine VR.g_no rfl rfl rfl (by first | rfl | assumption) ?_ | refine VR.alloc tok rfl rfl rfl ?_ | refine VR.store tok rfl rfl rfl rfl rfl rfl rfl (by first | (intro n e; cases e; done) | exact (fun _ _ q => all_glA (by rfl) q)) ?_ | refine VR.extract rfl rfl rfl ?_ | refine VR.buildL (n := 1) [_, _] tok rfl rfl rfl rfl rfl rfl rfl rfl ?_ | refine VR.len tok rfl rfl rfl rfl rfl ?_ | refine VR.eqNil rfl rfl rfl rfl (ptrOk (by rfl)) ?_ | refine VR.neNil rfl rfl rfl rfl (ptrOk (by rfl)) ?_ | (refine VR.buildLst ([(4 : Int)].map iV) tok (by rfl) (by rfl) (by rfl) (by rfl) (by rfl) (by rfl) (by rfl) (by rfl) (by rfl) (by rfl) (by rfl) ?_) | (refine VR.call fok9 rfl rfl rfl rfl ?_; refine v_built I4 2 (by decide) (by decide) keeps4 (fun E1 h => I4_new h) [4] (by decide) (fun j hj E hI h => ?_) (fun j hj E hI h => ?_) (fun j hj E hI h1 h2 => ?_) _ (fun E W hI => ?_))) | (refine' VR.spec (by rfl) (by rfl) (by rfl) ?_ ?_ ?_; rotate_left 1; (repeat (first | exact trivial | refine And.intro id ?_)); intro hg K1 hK1; (first | refine VR.move rfl rfl ?_ | (show onLd; refine VR.load tok rfl rfl rfl (by first | rfl | exact (ldp_el (by assumption)).trans (by rfl)) ?_) | refine VR.int rfl rfl rfl rfl ?_ | refine VR.not rfl rfl ?_ | refine VR.buildL (n := 1) [_, _] tok rfl rfl rfl rfl rfl rfl rfl rfl ?_ | refine VR.len tok rfl rfl rfl rfl rfl ?_ | (refine VR.buildLst ([(4 : Int)].map iV) tok (by rfl) (by rfl) (by rfl) (by rfl) (by rfl) (by rfl) (by rfl) (by rfl) (by rfl) (by rfl) (by rfl) ?_) | (refine VR.call fok9 rfl rfl rfl rfl ?_; refine v_built I4 2 (by decide) (by decide) keeps4 (fun E1 h => I4_new h) [4] (by decide) (fun j hj E hI h => ?_) (fun j hj E hI h => ?_) (fun j hj E hI h1 h2 => ?_) _ (fun E W hI => ?_))); exact VR.done hK1))
  · have : j = 0 := by simp at hj; exact hj
    subst this
    exact absurd (show atL E mid1 = [] by rw [← spot4]; exact h) (I4_at hI)
  · have : j = 0 := by simp at hj; exact hj
    subst this
    exact absurd (I4_star hI) (show starL E mid1 ≠ [] by rw [← spot4]; exact h)
  · have : j = 0 := by simp at hj; exact hj
    subst this
    have := I4_add hI (I4_star hI)
    rw [← spot4] at this
    exact this
  obtain ⟨l, hT, hp⟩ := hI
  have hLl : (trisR E).Perm l := (sortT_perm _).trans hT.mo.trs
  have hT := hT.perm hLl.symm
  have hp := hLl.trans hp
  obtain ⟨L, hL⟩ : ∃ L, trisR E = L := ⟨_, rfl⟩
  rw [hL] at hT hp ⊢
  obtain ⟨_, hP⟩ := made_pm hT.mo
  have hLM : trisM (meshOf L).1 = L := by rw [← hP.tris]; exact hL
  have hlen : L.length < 100 := by rw [hp.length_eq]; exact of_decide_eq_true (show decide (LB.length < 100) = true by kernel_rfl)
  generalize (meshOf L).1 = ts at hP hLM ⊢
  generalize (meshOf L).2 = le at hP ⊢
  have few : ts.length < 100000 := by rw [hP.tlen]; omega
  clear hL hLl hlen
  subst hLM
  have hp : (trisM ts).Perm LB := hp
  have m1 : ((((trisM ts).filter fun t => hasP t mid1).map Tr.v).length : Int) = 4 := by rw [List.length_map, (hp.filter _).length_eq, nB1]; rfl
  have m2 : ((((trisM ts).filter fun t => cornB t mid1).map Tr.v).length : Int) = 4 := by rw [List.length_map, (hp.filter _).length_eq, nB2]; rfl
  have m3 : ((((trisM ts).filter fun t => hasP t ⟨1, 0⟩).map Tr.v).length : Int) = 1 := by rw [List.length_map, (hp.filter _).length_eq, nB3]; rfl
  have m4 : ((((trisM ts).filter fun t => alongT t ⟨0, 0⟩ mid1).map Tr.v).length : Int) = 2 := by rw [List.length_map, (hp.filter _).length_eq, nB4]; rfl
  have m5 : ((((trisM ts).filter fun t => alongT t mid1 mid1).map Tr.v).length : Int) = 0 := by rw [along_self]; rfl
  have c1 : IsC (trisM ts) mid1 := cB1.perm hp.symm
  have c0 : IsC (trisM ts) ⟨0, 0⟩ := cB0.perm hp.symm
  have b1 : (!decide (rimP 2 mid1)) = true := by kernel_rfl
  have b0 : (!decide (rimP 2 ⟨0, 0⟩)) = false := by kernel_rfl
  have i0 : inB ⟨0, 0⟩ := by unfold inB; decide
  have i1 : inB mid1 := by unfold inB mid1; decide
  have hts := hT.box' (by decide)
  repeat' (first | refine VJ.seq ?_ | refine VJ.skip ?_ | refine VJ.cond_t rfl ?_ | refine VJ.cond_f rfl ?_ | refine VJ.region_k fun K hK => ?_ | (refine VR.done (hK _ ?_); clear hK K) | (first | (refine VR.bin rfl rfl rfl (eqI_of m1 _ _ _) ?_) | (refine VR.bin rfl rfl rfl (eqI_of m2 _ _ _) ?_) | (refine VR.bin rfl rfl rfl (eqI_of m3 _ _ _) ?_) | (refine VR.bin rfl rfl rfl (eqI_of m4 _ _ _) ?_) | (refine VR.bin rfl rfl rfl (eqI_of m5 _ _ _) ?_) | (refine VR.bin rfl rfl rfl (eqI_of (rfl : (0 : Int) = 0) _ _ _) ?_) | refine VR.move rfl rfl ?_ | refine VR.assign rfl rfl ?_ | (show onLd; refine VR.load tok rfl rfl rfl (by first | rfl | exact (ldp_el (by assumption)).trans (by rfl)) ?_) | refine VR.int rfl rfl rfl rfl ?_ | (refine VR.pickB rfl rfl rfl rfl ?_ ?_ ?_; (first | exact trivial | (refine fun h => ?_; first | (rw [h]; rfl) | (rw [h, hg]; rfl) | (rw [hg, h]; rfl) | (simp [h, hg]; done))); (first | exact trivial | (refine fun h => ?_; first | (rw [h]; rfl) | (rw [h, hg]; rfl) | (rw [hg, h]; rfl) | (simp [h, hg]; done)))) | refine VR.pick rfl rfl rfl ?_ | refine VR.not rfl rfl ?_ | refine VR.g_yes rfl rfl (by first | rfl | assumption) ?_ | refine VR.g_no rfl rfl rfl (by first | rfl | assumption) ?_ | refine VR.alloc tok rfl rfl rfl ?_ | refine VR.store tok rfl rfl rfl rfl rfl rfl rfl (by first | (intro n e; cases e; done) | exact (fun _ _ q => all_glA (by rfl) q)) ?_ | refine VR.extract rfl rfl rfl ?_ | refine VR.buildL (n := 1) [_, _] tok rfl rfl rfl rfl rfl rfl rfl rfl ?_ | refine VR.len tok rfl rfl rfl rfl rfl ?_ | refine VR.eqNil rfl rfl rfl rfl (ptrOk (by rfl)) ?_ | refine VR.neNil rfl rfl rfl rfl (ptrOk (by rfl)) ?_ | (refine VR.buildLst ([(4 : Int)].map iV) tok (by rfl) (by rfl) (by rfl) (by rfl) (by rfl) (by rfl) (by rfl) (by rfl) (by rfl) (by rfl) (by rfl) ?_) | (refine VR.call fok9 rfl rfl rfl rfl ?_; refine v_built I4 2 (by decide) (by decide) keeps4 (fun E1 h => I4_new h) [4] (by decide) (fun j hj E hI h => ?_) (fun j hj E hI h => ?_) (fun j hj E hI h1 h2 => ?_) _ (fun E W hI => ?_))) | (refine' VR.spec (by rfl) (by rfl) (by rfl) ?_ ?_ ?_; rotate_left 1; (repeat (first | exact trivial | refine And.intro id ?_)); intro hg K1 hK1; (first | refine VR.move rfl rfl ?_ | (show onLd; refine VR.load tok rfl rfl rfl (by first | rfl | exact (ldp_el (by assumption)).trans (by rfl)) ?_) | refine VR.int rfl rfl rfl rfl ?_ | refine VR.not rfl rfl ?_ | refine VR.buildL (n := 1) [_, _] tok rfl rfl rfl rfl rfl rfl rfl rfl ?_ | refine VR.len tok rfl rfl rfl rfl rfl ?_ | (refine VR.buildLst ([(4 : Int)].map iV) tok (by rfl) (by rfl) (by rfl) (by rfl) (by rfl) (by rfl) (by rfl) (by rfl) (by rfl) (by rfl) (by rfl) ?_) | (refine VR.call fok9 rfl rfl rfl rfl ?_; refine v_built I4 2 (by decide) (by decide) keeps4 (fun E1 h => I4_new h) [4] (by decide) (fun j hj E hI h => ?_) (fun j hj E hI h => ?_) (fun j hj E hI h1 h2 => ?_) _ (fun E W hI => ?_)) | (refine VR.call fok11 rfl rfl rfl rfl ?_; refine (v_atM ts few le mid1 _ (GL_mesh _ _ _ _ _) (GL_free _ _ _ _ _) _ ?_)) | (refine VR.call fok11 rfl rfl rfl rfl ?_; refine (v_atM ts few le ⟨1, 0⟩ _ (GL_mesh _ _ _ _ _) (GL_free _ _ _ _ _) _ ?_)) | (refine VR.call fok13 rfl rfl rfl rfl ?_; refine (v_starM ts few le mid1 _ (GL_mesh _ _ _ _ _) (GL_free _ _ _ _ _) _ ?_)) | (refine VR.call fok17 rfl rfl rfl rfl ?_; refine (v_closedT (by decide) (by decide) hT hP few mid1 c1 b1 _ (GL_mesh _ _ _ _ _) (GL_free _ _ _ _ _) _ ?_)) | (refine VR.call fok17 rfl rfl rfl rfl ?_; refine (v_closedT (by decide) (by decide) hT hP few ⟨0, 0⟩ c0 b0 _ (GL_mesh _ _ _ _ _) (GL_free _ _ _ _ _) _ ?_)) | (refine VR.call fok15 rfl rfl rfl rfl ?_; refine (v_trailM ts few le hts ⟨0, 0⟩ mid1 i0 i1 _ (GL_mesh _ _ _ _ _) (GL_free _ _ _ _ _) _ ?_)) | (refine VR.call fok15 rfl rfl rfl rfl ?_; refine (v_trailM ts few le hts mid1 mid1 i1 i1 _ (GL_mesh _ _ _ _ _) (GL_free _ _ _ _ _) _ ?_)) | (refine VR.call fok13 rfl rfl rfl rfl ?_; refine (v_starNil mid1 _ _ (GL_free _ _ _ _ _) ?_)) | (refine VR.call fok17 rfl rfl rfl rfl ?_; refine (v_closedNil mid1 _ _ (GL_free _ _ _ _ _) ?_))); exact VR.done hK1) | (refine VR.call fok11 rfl rfl rfl rfl ?_; refine (v_atM ts few le mid1 _ (GL_mesh _ _ _ _ _) (GL_free _ _ _ _ _) _ ?_)) | (refine VR.call fok11 rfl rfl rfl rfl ?_; refine (v_atM ts few le ⟨1, 0⟩ _ (GL_mesh _ _ _ _ _) (GL_free _ _ _ _ _) _ ?_)) | (refine VR.call fok13 rfl rfl rfl rfl ?_; refine (v_starM ts few le mid1 _ (GL_mesh _ _ _ _ _) (GL_free _ _ _ _ _) _ ?_)) | (refine VR.call fok17 rfl rfl rfl rfl ?_; refine (v_closedT (by decide) (by decide) hT hP few mid1 c1 b1 _ (GL_mesh _ _ _ _ _) (GL_free _ _ _ _ _) _ ?_)) | (refine VR.call fok17 rfl rfl rfl rfl ?_; refine (v_closedT (by decide) (by decide) hT hP few ⟨0, 0⟩ c0 b0 _ (GL_mesh _ _ _ _ _) (GL_free _ _ _ _ _) _ ?_)) | (refine VR.call fok15 rfl rfl rfl rfl ?_; refine (v_trailM ts few le hts ⟨0, 0⟩ mid1 i0 i1 _ (GL_mesh _ _ _ _ _) (GL_free _ _ _ _ _) _ ?_)) | (refine VR.call fok15 rfl rfl rfl rfl ?_; refine (v_trailM ts few le hts mid1 mid1 i1 i1 _ (GL_mesh _ _ _ _ _) (GL_free _ _ _ _ _) _ ?_)) | (refine VR.call fok13 rfl rfl rfl rfl ?_; refine (v_starNil mid1 _ _ (GL_free _ _ _ _ _) ?_)) | (refine VR.call fok17 rfl rfl rfl rfl ?_; refine (v_closedNil mid1 _ _ (GL_free _ _ _ _ _) ?_)))
  refine VJ.retF (r := vB true) tok (by rfl) (by rfl) hG0 (fun n o h => by cases h) (by rfl) hQ
end Go.Proofs.YtnpnjhopgedhkaaGreat

/- walkTrails, walked. Conditions: none. -/
namespace Go.Proofs.YtnpnjhopgedhkaaGreat
open Go.RowKit V Geo
set_option linter.unusedVariables false

def fewB (s : Int) (n : Nat) : Bool := decide (1 ≤ s ∧ s ≤ 40 ∧ n ≤ 25)
theorem few_eq (s : Int) (n : Nat) : (bif (bif (bif decide (s ≥ 1) then decide (s ≤ 40) else false) then decide ((n : Int) ≤ 25) else false) then decide ((0 : Int) ≤ 12) else false) = fewB s n := by
  unfold fewB
  by_cases h1 : s ≥ 1
  · by_cases h2 : s ≤ 40
    · by_cases h3 : (n : Int) ≤ 25
      · rw [decide_eq_true h1, decide_eq_true h2, decide_eq_true h3, decide_eq_true (show 1 ≤ s ∧ s ≤ 40 ∧ n ≤ 25 by omega)]; rfl
      · rw [decide_eq_true h1, decide_eq_true h2, decide_eq_false h3, decide_eq_false (show ¬ (1 ≤ s ∧ s ≤ 40 ∧ n ≤ 25) by omega)]; rfl
    · rw [decide_eq_true h1, decide_eq_false h2, decide_eq_false (show ¬ (1 ≤ s ∧ s ≤ 40 ∧ n ≤ 25) by omega)]; rfl
  · rw [decide_eq_false h1, decide_eq_false (show ¬ (1 ≤ s ∧ s ≤ 40 ∧ n ≤ 25) by omega)]; rfl
theorem fewB_yes {s : Int} {n : Nat} (h : fewB s n = true) : 1 ≤ s ∧ s ≤ 40 ∧ n ≤ 25 := of_decide_eq_true h
def psAt (s : Int) (ps : List Int) (j : Nat) : List Pt := (ps.take j).map (spotP s)
theorem psAt_succ (s : Int) (ps : List Int) {j : Nat} (h : j < ps.length) : psAt s ps (j + 1) = psAt s ps j ++ [spotP s ps[j]] := by
  unfold psAt
  rw [← List.take_append_getElem h, List.map_append]
  rfl
def I6 (s : Int) (ps : List Int) (j : Nat) (E : LS) : Prop := InvP s (psAt s ps j) E
attribute [local irreducible] VR VJ VC decOk decBt
theorem v_few (s : Int) (ps : List Int) (G : Gl) (Q : Po) (hQ : Q (vB (fewB s ps.length)) G) : VC Tryz.prog 7 [vI s, vL 1 (ps.map iV), vNS] G Q := by
  refine VC.of_body Tryz.func7 rfl rfl rfl fun W0 h0 x0 hG0 => ?_
  simp only [args0]
  rw [← few_eq, show ps.length = (ps.map iV).length from (List.length_map _).symm] at hQ
  repeat' (first | refine VJ.seq ?_ | refine VJ.region_k fun K hK => ?_ | (refine VR.done (hK _ ?_); clear hK K) | (first | refine VR.move rfl rfl ?_ | refine VR.assign rfl rfl ?_ | refine VR.int rfl rfl rfl rfl ?_ | (refine VR.pickB rfl rfl rfl rfl ?_ ?_ ?_; (first | exact trivial | (refine fun h => ?_; first | (rw [h]; rfl) | (rw [h, hg]; rfl) | (rw [hg, h]; rfl) | (simp [h, hg]; done))); (first | exact trivial | (refine fun h => ?_; first | (rw [h]; rfl) | (rw [h, hg]; rfl) | (rw [hg, h]; rfl) | (simp [h, hg]; done))))) | (refine' VR.spec (by rfl) (by rfl) (by rfl) ?_ ?_ ?_; rotate_left 1; (repeat (first | exact trivial | refine And.intro id ?_)); intro hg K1 hK1; (first | refine VR.move rfl rfl ?_ | refine VR.int rfl rfl rfl rfl ?_ | refine VR.len tok rfl rfl rfl rfl rfl ?_); exact VR.done hK1))
  refine VJ.ret tok (by rfl) (by rfl) ?_
  exact hQ
/-- The square with its points. -/
theorem v_builtP (s : Int) (ps : List Int) (hs1 : 1 ≤ s) (hs2 : s ≤ 40) (few : ps.length ≤ 25) (Q : Po)
    (hQ : ∀ ts le E W, TI s E (trisM ts) → PM ts le E (trisM ts) → ts.length ≤ 3200 → (∀ n ∈ ps, IsC (trisM ts) (spotP s n)) → Q vM2 (GL ts le E W s)) : VC Tryz.prog 9 [vI s, vL 1 (ps.map iV), vNS] E0 Q := by
  refine v_built (I6 s ps) s hs1 hs2 (fun j W => keepsP hs1 hs2 _ W) (fun E1 h => ?_) ps few (fun j hj E hI h => ?_) (fun j hj E hI h => ?_) (fun j hj E hI h1 h2 => ?_) Q (fun E W hI => ?_)
  · obtain ⟨E', k1, k2⟩ := sqTI hs1 hs2
    rw [k1] at h
    cases h
    exact InvP.new ⟨_, k2⟩
  · exact absurd h (InvP.at hs1 hs2 hI (spot_in s _ hs1 hs2))
  · unfold I6
    rw [psAt_succ s ps hj]
    exact InvP.star hI h
  · unfold I6
    rw [psAt_succ s ps hj]
    exact InvP.add hs2 hI (spot_in s _ hs1 hs2) h1 h2
  · obtain ⟨l, hT, hc⟩ := hI
    have hLl : (trisR E).Perm l := (sortT_perm _).trans hT.mo.trs
    have hfew : l.length ≤ 3200 := by have := (hT.sql hs1 hs2).few; omega
    have hT := hT.perm hLl.symm
    obtain ⟨_, hP⟩ := made_pm hT.mo
    have hLM : trisM (meshOf (trisR E)).1 = trisR E := hP.tris.symm
    refine hQ _ _ E W (by rw [hLM]; exact hT) (by rw [hLM]; exact hP) (by rw [hP.tlen, hLl.length_eq]; exact hfew) fun n hn => ?_
    rw [hLM]
    refine (hc (spotP s n) ?_).perm hLl.symm
    unfold psAt
    rw [List.take_length]
    exact List.mem_map_of_mem hn
theorem v_spotE (s n : Int) (h1 : 1 ≤ s) (h2 : s ≤ 40) {p : Pt} (e : spotP s n = p) (G : Gl) (Q : Po) (hQ : Q (vV (ptV p)) G) : VC Tryz.prog 19 [vI s, vI n] G Q := v_spot s n h1 h2 G Q (e ▸ hQ)
end Go.Proofs.YtnpnjhopgedhkaaGreat

/- walkStars, walked. Conditions: none. -/
namespace Go.Proofs.YtnpnjhopgedhkaaGreat
open Go.RowKit V Geo
set_option linter.unusedVariables false

theorem eqBB_of {p q r : Bool} (h : (p == q) = r) (a b : Operand) (w : World) : (do eqGuard .eql 4 a b (.bool p) (.bool q); binOp .eql 4 (.bool p) (.bool q) : Sem Value).run Tryz.prog w = .ok (.bool r) w := by
  subst h
  cases p <;> cases q <;> simp [eqGuard, go_sem]
theorem rim_eq (s : Int) (q : Pt) : (bif (bif (bif q.x == 0 then true else q.y == 0) then true else q.x == s) then true else q.y == s) = decide (rimP s q) := by
  have e : ∀ b1 b2 b3 b4 : Bool, (bif (bif (bif b1 then true else b2) then true else b3) then true else b4) = (b1 || (b2 || (b3 || b4))) := by decide
  rw [e, Bool.eq_iff_iff, decide_eq_true_iff]
  unfold rimP
  simp only [Bool.or_eq_true, beq_iff_eq]
attribute [local irreducible] VR VJ VC decOk decBt
end Go.Proofs.YtnpnjhopgedhkaaGreat

/- walkCovers, walked. Conditions: none. -/
namespace Go.Proofs.YtnpnjhopgedhkaaGreat
open Go.RowKit V Geo
set_option linter.unusedVariables false

theorem neqI_no {a b : Int} (h : a = b) (T : TypeId) (x y : Operand) (w : World) : (do eqGuard .neq T x y (.int .i64 a) (.int .i64 b); binOp .neq T (.int .i64 a) (.int .i64 b) : Sem Value).run Tryz.prog w = .ok (.bool false) w := by
  subst h
  have := ib_run (P := Tryz.prog) (op := .neq) (k := .i64) (a := a) (b := a) rfl T x y w
  simpa using this
theorem eqI_no {a b : Int} (h : a ≠ b) (T : TypeId) (x y : Operand) (w : World) : (do eqGuard .eql T x y (.int .i64 a) (.int .i64 b); binOp .eql T (.int .i64 a) (.int .i64 b) : Sem Value).run Tryz.prog w = .ok (.bool false) w := by
  have := ib_run (P := Tryz.prog) (op := .eql) (k := .i64) (a := a) (b := b) rfl T x y w
  rw [beq_eq_false_iff_ne.2 h] at this
  exact this
theorem outS_eq (s x y : Int) : (bif (bif (bif decide (x < 0) then true else decide (y < 0)) then true else decide (x > s)) then true else decide (y > s)) = !decide (inSq s ⟨x, y⟩) := by
  have e : ∀ b1 b2 b3 b4 : Bool, (bif (bif (bif b1 then true else b2) then true else b3) then true else b4) = (b1 || (b2 || (b3 || b4))) := by decide
  rw [e, Bool.eq_iff_iff]
  simp only [Bool.or_eq_true, decide_eq_true_iff, Bool.not_eq_true', decide_eq_false_iff_not]
  unfold inSq
  dsimp only
  omega
attribute [local irreducible] VR VJ VC decOk decBt
set_option maxRecDepth 20000 in
set_option maxHeartbeats 16000000 in
theorem v_walkCovers (s : Int) (ps : List Int) (n x y : Int) (Q : Po) (hQ : Q (vB true) E0) : VC Tryz.prog 5 [vI s, vL 1 (ps.map iV), vI n, vI x, vI y] E0 Q := by
  refine VC.of_body Tryz.func5 rfl rfl rfl fun W0 h0 x0 hG0 => ?_
  simp only [args0]
  repeat' (first | refine VJ.seq ?_ | refine VJ.region_k fun K hK => ?_ | (refine VR.done (hK _ ?_); clear hK K) | (first | refine VR.move rfl rfl ?_ | refine VR.assign rfl rfl ?_ | refine VR.not rfl rfl ?_) | (refine VR.call fok7 rfl rfl rfl rfl ?_; refine (v_few s ps _ _ ?_)))
  refine VJ.cond rfl (fun hc => ?_) (fun hc => ?_)
  · repeat' (first | refine VJ.seq ?_ | refine VJ.region_k fun K hK => ?_ | (refine VR.done (hK _ ?_); clear hK K) | (first | refine VR.assign rfl rfl ?_ | (refine VR.callk (fun _ => false) [] fok8 rfl rfl rfl rfl (fun _ _ h => by cases h) ?_; refine v_awakeW _ ⟨(fun n h => rfl), .inl rfl, ?_⟩; rw [GM_false])))
    refine VJ.retF (r := vB true) tok (by rfl) (by rfl) hG0 (fun n o h => by cases h) (by rfl) hQ
  have hc : (!fewB s ps.length) = false := hc
  obtain ⟨hs1, hs2, hps⟩ := fewB_yes (by simpa using hc)
  clear hc
  have iq : inSq s (spotP s n) := spot_in s n hs1 hs2
  obtain ⟨q, hq⟩ : ∃ q, spotP s n = q := ⟨_, rfl⟩
  rw [hq] at iq
  repeat' (first | refine VJ.seq ?_ | refine VJ.skip ?_ | refine VJ.cond_f rfl ?_ | refine VJ.region_k fun K hK => ?_ | (refine VR.done (hK _ ?_); clear hK K) | (first | refine VR.move rfl rfl ?_ | refine VR.assign rfl rfl ?_ | refine VR.alloc tok rfl rfl rfl ?_ | refine VR.store tok rfl rfl rfl rfl rfl rfl rfl (by first | (intro n e; cases e; done) | exact (fun _ _ q => all_glA (by rfl) q)) ?_ | refine VR.extract rfl rfl rfl ?_ | refine VR.eqNil rfl rfl rfl rfl (ptrOk (by rfl)) ?_ | (refine VR.call fok9 rfl rfl rfl rfl ?_; refine v_builtP s ps hs1 hs2 hps _ (fun ts le E W hT hP hlen hcor => ?_))) | (refine VR.call fok19 rfl rfl rfl rfl ?_; refine (v_spotE s n hs1 hs2 hq _ _ ?_)))
  have few : ts.length < 100000 := by omega
  clear hcor hq
  apply VJ.draw3 [] [(0, 0), (1, 0), (2, 0), (3, 0), (4, 0), (5, 0), (6, 0), (7, 0)] [[(11, none)], [(13, none)], [(35, some 0), (36, some 1)], [(11, none)], [(13, none)], [(38, some 3), (39, some 4)], [(37, some 2)], [(40, some 5)]] [[(11, _)], [(13, _)], [(35, _), (36, _)], [(11, _)], [(13, _)], [(38, _), (39, _)], [(37, _)], [(40, _)]] [_, _, _, _, _, _, _, _] [⟨_, _, _⟩] (by kernel_rfl) ?hok rfl ?hh rfl rfl ?hj
  case hh =>
    refine ⟨?_, ?_, ?_, ?_, ?_, ?_, ?_, ?_, trivial⟩
    all_goals (intro rest K1 hK1; (repeat (first | exact VR.done hK1 | (first | refine VR.move rfl rfl ?_ | refine VR.assign rfl rfl ?_ | (show onLd; refine VR.load tok rfl rfl rfl (by first | rfl | exact (ldp_el (by assumption)).trans (by rfl)) ?_)) | (refine VR.call fok11 rfl rfl rfl rfl ?_; refine (v_atM ts few le q _ (GL_mesh _ _ _ _ _) (GL_free _ _ _ _ _) _ ?_)) | (refine VR.call fok13 rfl rfl rfl rfl ?_; refine (v_starM ts few le q _ (GL_mesh _ _ _ _ _) (GL_free _ _ _ _ _) _ ?_)))); try (first | exact VR.done hK1 | (refine VR.done ?_; dsimp only [S.set]; exact hK1)))
  case hok => kernel_rfl
  case hj =>
    dsimp only [List.append, tla]
    refine VJ.seq ?_
    refine VJ.region_k fun K hK => ?_
    repeat (first | (first | refine VR.move rfl rfl ?_ | refine VR.assign rfl rfl ?_ | (show onLd; refine VR.load tok rfl rfl rfl (by first | rfl | exact (ldp_el (by assumption)).trans (by rfl)) ?_) | (show onFa; refine VR.fieldAddr tok rfl rfl rfl (by first | rfl | exact place_el (by assumption)) rfl rfl ?_) | refine VR.int rfl rfl rfl rfl ?_ | (refine VR.pickB rfl rfl rfl rfl ?_ ?_ ?_; (first | exact trivial | (refine fun h => ?_; first | (rw [h]; rfl) | (rw [h, hg]; rfl) | (rw [hg, h]; rfl) | (simp [h, hg]; done))); (first | exact trivial | (refine fun h => ?_; first | (rw [h]; rfl) | (rw [h, hg]; rfl) | (rw [hg, h]; rfl) | (simp [h, hg]; done))))) | (refine' VR.spec (by rfl) (by rfl) (by rfl) ?_ ?_ ?_; rotate_left 1; (repeat (first | exact trivial | refine And.intro id ?_)); intro hg K1 hK1; (first | refine VR.move rfl rfl ?_ | (show onLd; refine VR.load tok rfl rfl rfl (by first | rfl | exact (ldp_el (by assumption)).trans (by rfl)) ?_) | (show onFa; refine VR.fieldAddr tok rfl rfl rfl (by first | rfl | exact place_el (by assumption)) rfl rfl ?_) | refine VR.int rfl rfl rfl rfl ?_); exact VR.done hK1))
    refine VR.done (hK _ ?_); clear hK K
    refine VJ.seq ?_
    refine VJ.to 1 [(16, vB (decide (rimP s q))), (15, vL 6 (((trisM ts).filter fun t => cornB t q).map Tr.v)), (14, vL 6 (((trisM ts).filter fun t => hasP t q).map Tr.v)), (13, .a (.ptr (.l 0) 0)), (12, vC), (11, vM), (4, vI y), (3, vI x), (0, vI s)] [(0, bxP q)] ?_ rfl ⟨by rw [← rim_eq]; rfl, by rfl, by rfl, by rfl, by rfl, by rfl, by rfl, by rfl, by rfl, trivial⟩ (by repeat' (first | exact trivial | refine And.intro rfl ?_)) (by rfl)
    obtain ⟨r, hr⟩ : ∃ r, decide (rimP s q) = r := ⟨_, rfl⟩
    rw [hr]
    refine via1 ⟨1, [(12, vC), (11, vM), (4, vI y), (3, vI x), (0, vI s)], [(0, bxP q)], GL ts le E W s⟩ (fun kk hrest => ?_) ?_
    · by_cases hc : IsC (trisM ts) q
      · have hA := hT.at_star hs2 hc
        have hne := isC_star.1 hc
        have hcl : ∀ b, (!decide (rimP s q)) = b → (b == r) = false := fun b hb => by
          rw [← hb, hr]
          cases r <;> rfl
        have hSl := List.length_filter_le (fun t => cornB t q) (trisM ts)
        rw [trisM_len] at hSl
        rw [hA]
        generalize ((trisM ts).filter fun t => cornB t q) = S at hne hSl ⊢
        have hpos : decide (((S.map Tr.v).length : Int) > 0) = true := by
          have := List.length_pos_iff.2 hne
          rw [List.length_map]
          exact decide_eq_true (by omega)
        have hSS : decide (S = S) = true := decide_eq_true rfl
        repeat' (first | refine VJ.seq ?_ | refine VJ.block ?_ | refine VJ.region_k fun K hK => ?_ | (refine VR.done (hK _ ?_); clear hK K) | (first | refine VR.move rfl rfl ?_ | refine VR.assign rfl rfl ?_ | refine VR.int rfl rfl rfl rfl ?_ | refine VR.len tok rfl rfl rfl rfl rfl ?_))
        refine VJ.cond rfl (fun _ => ?_) (fun h => absurd (hpos.symm.trans h) (by simp))
        repeat' (first | refine VJ.seq ?_ | refine VJ.skip ?_ | refine VJ.inBlock ?_ | refine VJ.cond_f rfl ?_ | refine VJ.region_k fun K hK => ?_ | (refine VR.done (hK _ ?_); clear hK K) | (first | (refine VR.bin rfl rfl rfl (eqBB_of (hcl _ rfl) _ _) ?_) | refine VR.move rfl rfl ?_ | (show onLd; refine VR.load tok rfl rfl rfl (by first | rfl | exact (ldp_el (by assumption)).trans (by rfl)) ?_) | (refine VR.pickB rfl rfl rfl rfl ?_ ?_ ?_; (first | exact trivial | (refine fun h => ?_; first | (rw [h]; rfl) | (rw [h, hg]; rfl) | (rw [hg, h]; rfl) | (simp [h, hg]; done))); (first | exact trivial | (refine fun h => ?_; first | (rw [h]; rfl) | (rw [h, hg]; rfl) | (rw [hg, h]; rfl) | (simp [h, hg]; done)))) | refine VR.not rfl rfl ?_ | refine VR.g_yes rfl rfl (by first | rfl | assumption) ?_ | (refine VR.call fok10 rfl rfl rfl rfl ?_; refine v_alikeT S S (by omega) (by omega) _ _ ?_; rw [hSS]) | (refine VR.call fok17 rfl rfl rfl rfl ?_; refine v_closedT hs1 hs2 hT hP few q hc rfl _ (GL_mesh _ _ _ _ _) (GL_free _ _ _ _ _) _ ?_)))
        exact VJ.to 1 _ _ hrest rfl (by repeat' (first | exact trivial | refine And.intro rfl ?_)) (by repeat' (first | exact trivial | refine And.intro rfl ?_)) (by rfl)
      · have hnil : ((trisM ts).filter fun t => cornB t q) = [] := by
          by_cases e : ((trisM ts).filter fun t => cornB t q) = []
          · exact e
          · exact absurd (isC_star.2 e) hc
        rw [hnil]
        rcases hT.at_not hs1 hs2 iq hc with ⟨t, ht, hk⟩ | ⟨h2, hk⟩
        · rw [ht]
          have hno : (bif !insI t q then !r else false) = false := by
            rcases hk with h | h
            · rw [h]; rfl
            · rw [← hr, decide_eq_true h]; cases insI t q <;> rfl
          repeat' (first | refine VJ.seq ?_ | refine VJ.block ?_ | refine VJ.cond_t rfl ?_ | refine VJ.cond_f rfl ?_ | refine VJ.region_k fun K hK => ?_ | (refine VR.done (hK _ ?_); clear hK K) | (first | refine VR.move rfl rfl ?_ | refine VR.assign rfl rfl ?_ | refine VR.int rfl rfl rfl rfl ?_ | refine VR.len tok rfl rfl rfl rfl rfl ?_))
          apply VJ.draw3 [] [(0, 0), (1, 0), (2, 0), (3, 0), (4, 0), (5, 0), (6, 0), (7, 0), (8, 0), (9, 0)] [[(14, none)], [(86, some 0)], [(87, some 1)], [(13, none)], [(88, some 2), (89, some 3)], [(90, some 4)], [(91, some 5)], [(16, none), (92, some 6)], [(93, some 7), (92, some 6)], [(92, some 6), (94, some 8)]] [[(14, _)], [(86, _)], [(87, _)], [(13, _)], [(88, _), (89, _)], [(90, _)], [(91, _)], [(16, _), (92, _)], [(93, _), (92, _)], [(92, _), (94, _)]] [_, _, _, _, _, _, _, _, _, _] [⟨_, _, _⟩] (by kernel_rfl) ?hok rfl ?hh rfl rfl ?hj
          case hh =>
            refine ⟨?_, ?_, ?_, ?_, ?_, ?_, ?_, ?_, ?_, ?_, trivial⟩
            all_goals (intro rest K1 hK1; (repeat (first | exact VR.done hK1 | (first | refine VR.move rfl rfl ?_ | (show onLd; refine VR.load tok rfl rfl rfl (by first | rfl | exact (ldp_el (by assumption)).trans (by rfl)) ?_) | (refine VR.pickB rfl rfl rfl rfl ?_ ?_ ?_; (first | exact trivial | (refine fun h => ?_; first | (rw [h]; rfl) | (rw [h, hg]; rfl) | (rw [hg, h]; rfl) | (simp [h, hg]; done))); (first | exact trivial | (refine fun h => ?_; first | (rw [h]; rfl) | (rw [h, hg]; rfl) | (rw [hg, h]; rfl) | (simp [h, hg]; done)))) | refine VR.not rfl rfl ?_ | (refine VR.indexAddr (j := 0) tok rfl rfl rfl rfl rfl rfl rfl (elA_lst (show (([t] : List Tr).map Tr.v)[0]? = some t.v from rfl)) ?_)) | (refine VR.call fok22 rfl rfl rfl rfl ?_; refine (v_inside t q _ _ ?_)) | (refine' VR.spec (by rfl) (by rfl) (by rfl) ?_ ?_ ?_; rotate_left 1; (repeat (first | exact trivial | refine And.intro id ?_)); intro hg K1 hK1; (first | refine VR.move rfl rfl ?_ | refine VR.not rfl rfl ?_); exact VR.done hK1))); try (first | exact VR.done hK1 | (refine VR.done ?_; dsimp only [S.set]; exact hK1)))
          case hok => kernel_rfl
          case hj =>
            dsimp only [List.append, tla]
            repeat' (first | (fail))
            refine VJ.cond rfl (fun h => absurd (hno.symm.trans h) (by simp)) (fun _ => ?_)
            repeat' (first | refine VJ.skip ?_ | refine VJ.inBlock ?_ | (fail))
            exact VJ.to 1 _ _ hrest rfl (by repeat' (first | exact trivial | refine And.intro rfl ?_)) (by repeat' (first | exact trivial | refine And.intro rfl ?_)) (by rfl)
        · have hr0 : r = false := by rw [← hr, decide_eq_false hk]
          subst hr0
          generalize ((trisM ts).filter fun t => hasP t q) = A at h2 ⊢
          have n1 : ((A.map Tr.v).length : Int) ≠ 1 := by rw [List.length_map]; omega
          have n2 : ((A.map Tr.v).length : Int) = 2 := by rw [List.length_map]; omega
          repeat' (first | refine VJ.seq ?_ | refine VJ.skip ?_ | refine VJ.block ?_ | refine VJ.inBlock ?_ | refine VJ.cond_f rfl ?_ | refine VJ.region_k fun K hK => ?_ | (refine VR.done (hK _ ?_); clear hK K) | (first | (refine VR.bin rfl rfl rfl (eqI_no n1 _ _ _) ?_) | (refine VR.bin rfl rfl rfl (neqI_no n2 _ _ _) ?_) | refine VR.move rfl rfl ?_ | refine VR.assign rfl rfl ?_ | refine VR.int rfl rfl rfl rfl ?_ | (refine VR.pickB rfl rfl rfl rfl ?_ ?_ ?_; (first | exact trivial | (refine fun h => ?_; first | (rw [h]; rfl) | (rw [h, hg]; rfl) | (rw [hg, h]; rfl) | (simp [h, hg]; done))); (first | exact trivial | (refine fun h => ?_; first | (rw [h]; rfl) | (rw [h, hg]; rfl) | (rw [hg, h]; rfl) | (simp [h, hg]; done)))) | refine VR.g_yes rfl rfl (by first | rfl | assumption) ?_ | refine VR.len tok rfl rfl rfl rfl rfl ?_))
          exact VJ.to 1 _ _ hrest rfl (by repeat' (first | exact trivial | refine And.intro rfl ?_)) (by repeat' (first | exact trivial | refine And.intro rfl ?_)) (by rfl)
    clear hr
    have hlenM := trisM_len ts
    have hout := hT.at_out hs1 hs2 ⟨x, y⟩
    have hOl := List.length_filter_le (fun t => hasP t ⟨x, y⟩) (trisM ts)
    generalize hO : ((trisM ts).filter fun t => hasP t ⟨x, y⟩) = O at hout hOl
    have hoo : ((((O.map Tr.v).length : Int) == 0) == (bif (bif (bif decide (x < 0) then true else decide (y < 0)) then true else decide (x > s)) then true else decide (y > s))) = true := by
      rw [outS_eq, List.length_map]
      by_cases h : inSq s ⟨x, y⟩
      · have h0 : O.length ≠ 0 := fun e => (hout.1 e) h
        rw [decide_eq_true h, beq_eq_false_iff_ne.2 (show (O.length : Int) ≠ 0 by omega)]; rfl
      · have h0 : O.length = 0 := hout.2 h
        rw [decide_eq_false h, h0]; rfl
    have hE : (E.length : Int) = IntKind.i64.wrap (3 * (ts.length : Int)) := by
      rw [hP.mo.len, hlenM, Go.IntWalk.i64_in _ (by omega)]
      omega
    repeat' (first | refine VJ.seq ?_ | refine VJ.region_k fun K hK => ?_ | (refine VR.done (hK _ ?_); clear hK K) | (first | (refine VR.bin rfl rfl rfl (eqBB_of hoo _ _) ?_) | (refine VR.bin rfl rfl rfl (eqI_of hE _ _ _) ?_) | refine VR.move rfl rfl ?_ | refine VR.assign rfl rfl ?_ | (show onLd; refine VR.load tok rfl rfl rfl (by first | rfl | exact (ldp_el (by assumption)).trans (by rfl)) ?_) | (show onFa; refine VR.fieldAddr tok rfl rfl rfl (by first | rfl | exact place_el (by assumption)) rfl rfl ?_) | refine VR.int rfl rfl rfl rfl ?_ | (refine VR.pickB rfl rfl rfl rfl ?_ ?_ ?_; (first | exact trivial | (refine fun h => ?_; first | (rw [h]; rfl) | (rw [h, hg]; rfl) | (rw [hg, h]; rfl) | (simp [h, hg]; done))); (first | exact trivial | (refine fun h => ?_; first | (rw [h]; rfl) | (rw [h, hg]; rfl) | (rw [hg, h]; rfl) | (simp [h, hg]; done)))) | refine VR.g_yes rfl rfl (by first | rfl | assumption) ?_ | refine VR.alloc tok rfl rfl rfl ?_ | refine VR.store tok rfl rfl rfl rfl rfl rfl rfl (by first | (intro n e; cases e; done) | exact (fun _ _ q => all_glA (by rfl) q)) ?_ | refine VR.nilCheck rfl rfl rfl ?_ | refine VR.buildL (n := 1) [_, _] tok rfl rfl rfl rfl rfl rfl rfl rfl ?_ | refine VR.len tok rfl rfl rfl rfl rfl ?_ | (refine VR.lenMap rfl rfl rfl (mapOk (by rfl)) ?_) | (refine VR.call fok11 rfl rfl rfl rfl ?_; refine v_atM ts few le ⟨x, y⟩ _ (GL_mesh _ _ _ _ _) (GL_free _ _ _ _ _) _ ?_; rw [hO]) | (refine VR.call fok23 rfl rfl rfl rfl ?_; refine v_lenM ts le _ (GL_mesh _ _ _ _ _) _ ?_) | (refine VR.callk (fun _ => false) [] fok8 rfl rfl rfl rfl (fun _ _ h => by cases h) ?_; refine v_awakeW _ ⟨(fun n h => rfl), .inl rfl, ?_⟩; rw [GM_false])) | (refine' VR.spec (by rfl) (by rfl) (by rfl) ?_ ?_ ?_; rotate_left 1; (repeat (first | exact trivial | refine And.intro id ?_)); intro hg K1 hK1; (first | refine VR.move rfl rfl ?_ | refine VR.int rfl rfl rfl rfl ?_); exact VR.done hK1))
    refine VJ.retF (r := vB true) tok (by rfl) (by rfl) hG0 (fun n o h => by cases h) (by rfl) hQ
end Go.Proofs.YtnpnjhopgedhkaaGreat

/- Lists of numbers, as a law is given them. Conditions: none. -/
namespace Go.Proofs.YtnpnjhopgedhkaaGreat
open Go.RowKit V Geo Go.ChangeShapes Go.WideShapes
set_option linter.unusedVariables false
theorem ri_of {W : World} {a : Option Addr} {len cap : Nat} {zs : List Int} (y : Flat.IsFlat 1 W a len cap zs) : ∃ l : List Int, IsL (fun _ => none) W 1 (l.map iV) (.slice a len cap) := by
  rcases Nat.eq_zero_or_pos len with rfl | hp
  · exact ⟨[], .inl ⟨rfl, a, cap, rfl⟩⟩
  · obtain ⟨b, o, rfl, hb, hc⟩ := Flat.cellsAt y (by omega)
    have hle : len ≤ cap := by
      rcases y with ⟨e, _⟩ | ⟨x, e, h1, _⟩
      · cases e
      · exact h1
    refine ⟨(List.range len).map fun i => zs.getD i 0, .inr ⟨b, o, cap, by simp, by simpa using hle, hb, none_mutb, ?_, ?_⟩⟩
    · intro x hx
      obtain ⟨q, _, rfl⟩ := List.mem_map.1 hx
      rfl
    · intro j c hj
      rw [cellsL_one _ (fun u hu => by obtain ⟨q, _, rfl⟩ := List.mem_map.1 hu; rfl), List.map_map] at hj
      have hlt : j < len := by
        have h1 := (List.getElem?_eq_some_iff.1 hj).1
        simpa using h1
      rw [List.getElem?_map, List.getElem?_range hlt] at hj
      simp only [Option.map_some, Function.comp_apply, Option.some.injEq] at hj
      subst hj
      exact (hc W (Below.refl _ W) j (by omega)).1
end Go.Proofs.YtnpnjhopgedhkaaGreat

/- The walk of Covers: it returns true. Conditions: none. -/
namespace Go.Proofs.YtnpnjhopgedhkaaGreat
open Go.RowKit V Geo Go.ChangeShapes Go.WideShapes
set_option linter.unusedVariables false
set_option maxRecDepth 100000 in
theorem walkCovers_w (W : World) (s : Int) (a1 : Option Addr) (len1 cap1 : Nat) (zs1 : List Int) (y1 : Flat.IsFlat 1 W a1 len1 cap1 zs1) (n x y : Int) :
    Calls Tryz.prog 5 #[.int .i64 s, .slice a1 len1 cap1, .int .i64 n, .int .i64 x, .int .i64 y] W fun e W' => e = .returned (.bool true) ∧ Below W.heap.size W W' := by
  obtain ⟨l1, h1⟩ := ri_of y1
  exact VC.calls (args := [vI s, vL 1 (l1.map iV), vI n, vI x, vI y]) (v_walkCovers s l1 n x y _ rfl) (RVs.cons rfl (RVs.cons (by exact h1) (RVs.cons rfl (RVs.cons rfl (RVs.cons rfl RVs.nil)))))
end Go.Proofs.YtnpnjhopgedhkaaGreat
