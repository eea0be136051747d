/- Numbers and points compared. Conditions: none. -/
import Derived.Test.YtdkbmefidmljjaaTab
import Derived.Test.YtdkbmefidmljjaaGeo
import Derived.WalkKit
import Derived.Handy
import Derived.Deep.DeepCutAuto
import Derived.Deep.RegionHeld3
import Derived.BigQuiet
import Derived.Deep.QuietTactic
namespace Go.Proofs.Ytdkbmefidmljjaa
open Go.RowKit V Geo
set_option linter.unusedVariables false

def cmpI (a b : Int) : Int := if a < b then -1 else if b < a then 1 else 0
def orI : List Int → Int
  | [] => 0
  | z :: l => if z = 0 then orI l else z
theorem orI_drop (zs : List Int) (k : Nat) (hk : k < zs.length) : orI (zs.drop k) = if zs[k] = 0 then orI (zs.drop (k + 1)) else zs[k] := by
  rw [List.drop_eq_getElem_cons hk, orI]

theorem isNaN_c (a : Int) (w : World) : Calls Try.prog 59 #[.int .i64 a] w fun e w' => e = .returned (.bool false) ∧ w' = w := by
  go_enter Try.func59, Try.ntmps59
  go_wp2
  all_goals (go_ret; simp [*])
theorem compare_c (a b : Int) (w : World) : Calls Try.prog 48 #[.int .i64 a, .int .i64 b] w fun e w' => e = .returned (.int .i64 (cmpI a b)) ∧ w' = w := by
  go_enter Try.func48, Try.ntmps48
  rcases Int.lt_trichotomy a b with h | h | h
  · have h1 : decide (a < b) = true := by simp [h]
    have hs : cmpI a b = -1 := by simp [cmpI, h]
    rw [hs]; clear hs
    go_wp2_with (go_at_call 59; refine (isNaN_c _ _).mono ?_; rintro e w' ⟨rfl, rfl⟩)
    all_goals first | (exfalso; omega) | (go_ret; simp)
  · subst h
    have hs : cmpI a a = 0 := by simp [cmpI]
    rw [hs]; clear hs
    go_wp2_with (go_at_call 59; refine (isNaN_c _ _).mono ?_; rintro e w' ⟨rfl, rfl⟩)
    all_goals first | (exfalso; omega) | (go_ret; simp)
  · have hs : cmpI a b = 1 := by simp [cmpI]; omega
    rw [hs]; clear hs
    go_wp2_with (go_at_call 59; refine (isNaN_c _ _).mono ?_; rintro e w' ⟨rfl, rfl⟩)
    all_goals first | (exfalso; omega) | (go_ret; simp)

attribute [local irreducible] VR VJ VC
theorem v_compare (a b : Int) (G : Gl) (Q : Po) (hQ : Q (vI (cmpI a b)) G) : VC Try.prog 48 [vI a, vI b] G Q :=
  VC.of_calls (vals := [.int .i64 a, .int .i64 b]) (fun w => (compare_c a b w).mono fun e w' h => ⟨h.1, h.2 ▸ Below.refl _ _⟩) hQ

theorem v_or (zs : List Int) (hl : zs.length < 4611686018427387904) (G : Gl) (Q : Po) (hQ : Q (vI (orI zs)) G) : VC Try.prog 46 [vL 1 (zs.map (Value.int .i64))] G Q := by
  refine VC.of_body Try.func46 rfl rfl rfl fun W0 h0 x0 hG0 => ?_
  simp only [args0]
  repeat' (first | refine VJ.seq ?_ | refine VJ.skip ?_ | refine VJ.block ?_ | refine VJ.inBlock ?_ | refine VJ.exit rfl ?_ | refine VJ.cond_t rfl ?_ | refine VJ.cond_f rfl ?_ | refine VJ.region_k fun K hK => ?_ | (refine VR.done (hK _ ?_); clear hK K) | (first | refine VR.move rfl rfl ?_ | refine VR.assign rfl rfl ?_ | (show onLd; refine VR.load tok rfl rfl rfl (by first | rfl | exact (ldp_el (by assumption)).trans (by rfl)) ?_) | (show onIx; refine VR.indexAddr tok rfl rfl rfl rfl rfl rfl rfl (elA_lst (by assumption)) ?_) | refine VR.int rfl rfl rfl rfl ?_ | refine VR.len tok rfl rfl rfl rfl rfl ?_))
  refine VJ.to 0 [(8, vI ((0 : Nat) : Int)), (7, vI zs.length), (6, vL 1 (zs.map (Value.int .i64))), (3, vI 0)] [] ?_ rfl ⟨by rfl, by simp [lk], by rfl, by rfl, trivial⟩ trivial (by rfl)
  refine VJ.rec (fun j : Nat => ⟨0, [(8, vI j), (7, vI zs.length), (6, vL 1 (zs.map (Value.int .i64))), (3, vI 0)], [], _⟩) (fun j => zs.length - j) (fun j => j ≤ zs.length ∧ orI (zs.drop j) = orI zs) 0 ⟨Nat.zero_le _, rfl⟩ ?_
  rintro j ⟨hj, hd⟩ ih
  repeat' (first | refine VJ.seq ?_ | refine VJ.skip ?_ | refine VJ.block ?_ | refine VJ.inBlock ?_ | refine VJ.exit rfl ?_ | refine VJ.cond_t rfl ?_ | refine VJ.cond_f rfl ?_ | refine VJ.region_k fun K hK => ?_ | (refine VR.done (hK _ ?_); clear hK K) | (first | refine VR.move rfl rfl ?_ | refine VR.assign rfl rfl ?_ | (show onLd; refine VR.load tok rfl rfl rfl (by first | rfl | exact (ldp_el (by assumption)).trans (by rfl)) ?_) | (show onIx; refine VR.indexAddr tok rfl rfl rfl rfl rfl rfl rfl (elA_lst (by assumption)) ?_) | refine VR.int rfl rfl rfl rfl ?_ | refine VR.len tok rfl rfl rfl rfl rfl ?_))
  refine VJ.cond rfl (fun hb => ?_) (fun hb => ?_)
  · have hlt : j < zs.length := by simpa using hb
    have hget : (zs.map (Value.int .i64))[j]? = some (.int .i64 zs[j]) := by simp [hlt]
    rw [orI_drop zs j hlt] at hd
    repeat' (first | refine VJ.seq ?_ | refine VJ.skip ?_ | refine VJ.block ?_ | refine VJ.inBlock ?_ | refine VJ.exit rfl ?_ | refine VJ.cond_t rfl ?_ | refine VJ.cond_f rfl ?_ | refine VJ.region_k fun K hK => ?_ | (refine VR.done (hK _ ?_); clear hK K) | (first | refine VR.move rfl rfl ?_ | refine VR.assign rfl rfl ?_ | (show onLd; refine VR.load tok rfl rfl rfl (by first | rfl | exact (ldp_el (by assumption)).trans (by rfl)) ?_) | (show onIx; refine VR.indexAddr tok rfl rfl rfl rfl rfl rfl rfl (elA_lst (by assumption)) ?_) | refine VR.int rfl rfl rfl rfl ?_ | refine VR.len tok rfl rfl rfl rfl rfl ?_))
    refine VJ.cond rfl (fun hc => ?_) (fun hc => ?_)
    · rw [if_neg (by simpa using hc)] at hd
      repeat' (first | refine VJ.seq ?_ | refine VJ.skip ?_ | refine VJ.block ?_ | refine VJ.inBlock ?_ | refine VJ.exit rfl ?_ | refine VJ.cond_t rfl ?_ | refine VJ.cond_f rfl ?_ | refine VJ.region_k fun K hK => ?_ | (refine VR.done (hK _ ?_); clear hK K) | (first | refine VR.move rfl rfl ?_ | refine VR.assign rfl rfl ?_ | (show onLd; refine VR.load tok rfl rfl rfl (by first | rfl | exact (ldp_el (by assumption)).trans (by rfl)) ?_) | (show onIx; refine VR.indexAddr tok rfl rfl rfl rfl rfl rfl rfl (elA_lst (by assumption)) ?_) | refine VR.int rfl rfl rfl rfl ?_ | refine VR.len tok rfl rfl rfl rfl rfl ?_))
      refine VJ.ret tok (by rfl) (by rfl) ?_
      rw [hd]; exact hQ
    · rw [if_pos (by simpa using hc)] at hd
      repeat' (first | refine VJ.seq ?_ | refine VJ.skip ?_ | refine VJ.block ?_ | refine VJ.inBlock ?_ | refine VJ.exit rfl ?_ | refine VJ.cond_t rfl ?_ | refine VJ.cond_f rfl ?_ | refine VJ.region_k fun K hK => ?_ | (refine VR.done (hK _ ?_); clear hK K) | (first | refine VR.move rfl rfl ?_ | refine VR.assign rfl rfl ?_ | (show onLd; refine VR.load tok rfl rfl rfl (by first | rfl | exact (ldp_el (by assumption)).trans (by rfl)) ?_) | (show onIx; refine VR.indexAddr tok rfl rfl rfl rfl rfl rfl rfl (elA_lst (by assumption)) ?_) | refine VR.int rfl rfl rfl rfl ?_ | refine VR.len tok rfl rfl rfl rfl rfl ?_))
      exact VJ.to 0 [(8, vI ((j + 1 : Nat) : Int)), (7, vI zs.length), (6, vL 1 (zs.map (Value.int .i64))), (3, vI 0)] [] (ih (j + 1) ⟨hlt, hd⟩ (by omega)) rfl ⟨vI_succ (by omega), by rfl, by rfl, by rfl, trivial⟩ trivial (by rfl)
  · have hge : j = zs.length := by simp at hb; omega
    subst hge
    rw [List.drop_length] at hd
    repeat' (first | refine VJ.seq ?_ | refine VJ.skip ?_ | refine VJ.block ?_ | refine VJ.inBlock ?_ | refine VJ.exit rfl ?_ | refine VJ.cond_t rfl ?_ | refine VJ.cond_f rfl ?_ | refine VJ.region_k fun K hK => ?_ | (refine VR.done (hK _ ?_); clear hK K) | (first | refine VR.move rfl rfl ?_ | refine VR.assign rfl rfl ?_ | (show onLd; refine VR.load tok rfl rfl rfl (by first | rfl | exact (ldp_el (by assumption)).trans (by rfl)) ?_) | (show onIx; refine VR.indexAddr tok rfl rfl rfl rfl rfl rfl rfl (elA_lst (by assumption)) ?_) | refine VR.int rfl rfl rfl rfl ?_ | refine VR.len tok rfl rfl rfl rfl rfl ?_))
    refine VJ.ret tok (by rfl) (by rfl) ?_
    rw [← hd] at hQ
    exact hQ

def ptV (p : Pt) : Value := .agg #[.int .i64 p.x, .int .i64 p.y]
abbrev bxP (p : Pt) : VO := .box [.d (.v (.int .i64 p.x)), .d (.v (.int .i64 p.y))]
theorem ok_eq (p : Pt) : (bif (bif (bif decide (p.x ≥ 0) then decide (p.x < 16777216) else false) then decide (p.y ≥ 0) else false) then decide (p.y < 16777216) else false) = decide p.ok := by
  unfold Pt.ok
  by_cases h1 : p.x ≥ 0 <;> by_cases h2 : p.x < 16777216 <;> by_cases h3 : p.y ≥ 0 <;> by_cases h4 : p.y < 16777216 <;> simp [h1, h2, h3, h4] <;> omega
theorem v_valid (p : Pt) (G : Gl) (Q : Po) (hQ : Q (vB (decide p.ok)) G) : VC Try.prog 58 [vV (ptV p)] G Q := by
  refine VC.of_body Try.func58 rfl rfl rfl fun W0 h0 x0 hG0 => ?_
  simp only [args0]
  repeat' (first | refine VJ.seq ?_ | refine VJ.skip ?_ | refine VJ.cond_t rfl ?_ | refine VJ.cond_f rfl ?_ | refine VJ.region_k fun K hK => ?_ | (refine VR.done (hK _ ?_); clear hK K) | (first | refine VR.move rfl rfl ?_ | refine VR.assign rfl rfl ?_ | (show onLd; refine VR.load tok rfl rfl rfl (by first | rfl | exact (ldp_el (by assumption)).trans (by rfl)) ?_) | (show onFa; refine VR.fieldAddr tok rfl rfl rfl (by first | rfl | exact place_el (by assumption)) rfl rfl ?_) | refine VR.int rfl rfl rfl rfl ?_ | (refine VR.pickB rfl rfl rfl rfl ?_ ?_ ?_; (first | exact trivial | (refine fun h => ?_; first | (rw [h]; rfl) | (rw [h, hg]; rfl) | (rw [hg, h]; rfl) | (simp [h, hg]; done))); (first | exact trivial | (refine fun h => ?_; first | (rw [h]; rfl) | (rw [h, hg]; rfl) | (rw [hg, h]; rfl) | (simp [h, hg]; done)))) | refine VR.pick rfl rfl rfl ?_ | refine VR.g_yes rfl rfl (by first | rfl | assumption) ?_ | refine VR.g_no rfl rfl rfl (by first | rfl | assumption) ?_ | refine VR.box rfl rfl rfl ?_) | (refine' VR.spec (by rfl) (by rfl) (by rfl) ?_ ?_ ?_; rotate_left 1; (repeat (first | exact trivial | refine And.intro id ?_)); intro hg K1 hK1; (first | (show onLd; refine VR.load tok rfl rfl rfl (by first | rfl | exact (ldp_el (by assumption)).trans (by rfl)) ?_) | (show onFa; refine VR.fieldAddr tok rfl rfl rfl (by first | rfl | exact place_el (by assumption)) rfl rfl ?_) | refine VR.int rfl rfl rfl rfl ?_); exact VR.done hK1))
  refine VJ.ret tok (by rfl) (by rfl) ?_
  rw [← ok_eq] at hQ
  exact hQ
theorem v_valid2 (p : Pt) (G : Gl) (Q : Po) (hQ : Q (vB (decide p.ok)) G) : VC Try.prog 62 [vV (ptV p)] G Q := by
  refine VC.of_body Try.func62 rfl rfl rfl fun W0 h0 x0 hG0 => ?_
  simp only [args0]
  repeat' (first | refine VJ.seq ?_ | refine VJ.skip ?_ | refine VJ.cond_t rfl ?_ | refine VJ.cond_f rfl ?_ | refine VJ.region_k fun K hK => ?_ | (refine VR.done (hK _ ?_); clear hK K) | (first | refine VR.move rfl rfl ?_ | refine VR.assign rfl rfl ?_ | (show onLd; refine VR.load tok rfl rfl rfl (by first | rfl | exact (ldp_el (by assumption)).trans (by rfl)) ?_) | (show onFa; refine VR.fieldAddr tok rfl rfl rfl (by first | rfl | exact place_el (by assumption)) rfl rfl ?_) | refine VR.int rfl rfl rfl rfl ?_ | (refine VR.pickB rfl rfl rfl rfl ?_ ?_ ?_; (first | exact trivial | (refine fun h => ?_; first | (rw [h]; rfl) | (rw [h, hg]; rfl) | (rw [hg, h]; rfl) | (simp [h, hg]; done))); (first | exact trivial | (refine fun h => ?_; first | (rw [h]; rfl) | (rw [h, hg]; rfl) | (rw [hg, h]; rfl) | (simp [h, hg]; done)))) | refine VR.pick rfl rfl rfl ?_ | refine VR.g_yes rfl rfl (by first | rfl | assumption) ?_ | refine VR.g_no rfl rfl rfl (by first | rfl | assumption) ?_ | refine VR.box rfl rfl rfl ?_) | (refine' VR.spec (by rfl) (by rfl) (by rfl) ?_ ?_ ?_; rotate_left 1; (repeat (first | exact trivial | refine And.intro id ?_)); intro hg K1 hK1; (first | (show onLd; refine VR.load tok rfl rfl rfl (by first | rfl | exact (ldp_el (by assumption)).trans (by rfl)) ?_) | (show onFa; refine VR.fieldAddr tok rfl rfl rfl (by first | rfl | exact place_el (by assumption)) rfl rfl ?_) | refine VR.int rfl rfl rfl rfl ?_); exact VR.done hK1))
  refine VJ.ret tok (by rfl) (by rfl) ?_
  rw [← ok_eq] at hQ
  exact hQ

theorem v_all (l : List Pt) (hl : l.length < 4611686018427387904) (G : Gl) (Q : Po) (hQ : Q (vB (l.all fun p => decide p.ok)) G) : VC Try.prog 47 [vL 2 (l.map ptV)] G Q := by
  refine VC.of_body Try.func47 rfl rfl rfl fun W0 h0 x0 hG0 => ?_
  simp only [args0]
  repeat' (first | refine VJ.seq ?_ | refine VJ.skip ?_ | refine VJ.block ?_ | refine VJ.inBlock ?_ | refine VJ.exit rfl ?_ | refine VJ.cond_t rfl ?_ | refine VJ.cond_f rfl ?_ | refine VJ.region_k fun K hK => ?_ | (refine VR.done (hK _ ?_); clear hK K) | (first | refine VR.move rfl rfl ?_ | refine VR.assign rfl rfl ?_ | (show onLd; refine VR.load tok rfl rfl rfl (by first | rfl | exact (ldp_el (by assumption)).trans (by rfl)) ?_) | (show onIx; refine VR.indexAddr tok rfl rfl rfl rfl rfl rfl rfl (elA_lst (by assumption)) ?_) | refine VR.int rfl rfl rfl rfl ?_ | refine VR.not rfl rfl ?_ | refine VR.alloc tok rfl rfl rfl ?_ | refine VR.store tok rfl rfl rfl rfl rfl rfl rfl (by first | (intro n e; cases e; done) | exact (fun _ _ q => all_glA (by rfl) q)) ?_ | refine VR.len tok rfl rfl rfl rfl rfl ?_))
  refine VJ.to 0 [(7, vI ((0 : Nat) : Int)), (6, vI l.length), (5, vL 2 (l.map ptV))] [] ?_ rfl ⟨by rfl, by simp [lk], by rfl, trivial⟩ trivial (by rfl)
  refine VJ.rec (fun j : Nat => ⟨0, [(7, vI j), (6, vI l.length), (5, vL 2 (l.map ptV))], [], _⟩) (fun j => l.length - j) (fun j => j ≤ l.length ∧ (l.drop j).all (fun p => decide p.ok) = l.all fun p => decide p.ok) 0 ⟨Nat.zero_le _, rfl⟩ ?_
  rintro j ⟨hj, hd⟩ ih
  repeat' (first | refine VJ.seq ?_ | refine VJ.skip ?_ | refine VJ.block ?_ | refine VJ.inBlock ?_ | refine VJ.exit rfl ?_ | refine VJ.cond_t rfl ?_ | refine VJ.cond_f rfl ?_ | refine VJ.region_k fun K hK => ?_ | (refine VR.done (hK _ ?_); clear hK K) | (first | refine VR.move rfl rfl ?_ | refine VR.assign rfl rfl ?_ | (show onLd; refine VR.load tok rfl rfl rfl (by first | rfl | exact (ldp_el (by assumption)).trans (by rfl)) ?_) | (show onIx; refine VR.indexAddr tok rfl rfl rfl rfl rfl rfl rfl (elA_lst (by assumption)) ?_) | refine VR.int rfl rfl rfl rfl ?_ | refine VR.not rfl rfl ?_ | refine VR.alloc tok rfl rfl rfl ?_ | refine VR.store tok rfl rfl rfl rfl rfl rfl rfl (by first | (intro n e; cases e; done) | exact (fun _ _ q => all_glA (by rfl) q)) ?_ | refine VR.len tok rfl rfl rfl rfl rfl ?_))
  refine VJ.cond rfl (fun hb => ?_) (fun hb => ?_)
  · have hlt : j < l.length := by simpa using hb
    have hget : (l.map ptV)[j]? = some (ptV l[j]) := by simp [hlt]
    rw [List.drop_eq_getElem_cons hlt, List.all_cons] at hd
    repeat' (first | refine VJ.seq ?_ | refine VJ.skip ?_ | refine VJ.block ?_ | refine VJ.inBlock ?_ | refine VJ.exit rfl ?_ | refine VJ.cond_t rfl ?_ | refine VJ.cond_f rfl ?_ | refine VJ.region_k fun K hK => ?_ | (refine VR.done (hK _ ?_); clear hK K) | (first | refine VR.move rfl rfl ?_ | refine VR.assign rfl rfl ?_ | (show onLd; refine VR.load tok rfl rfl rfl (by first | rfl | exact (ldp_el (by assumption)).trans (by rfl)) ?_) | (show onIx; refine VR.indexAddr tok rfl rfl rfl rfl rfl rfl rfl (elA_lst (by assumption)) ?_) | refine VR.int rfl rfl rfl rfl ?_ | refine VR.not rfl rfl ?_ | refine VR.alloc tok rfl rfl rfl ?_ | refine VR.store tok rfl rfl rfl rfl rfl rfl rfl (by first | (intro n e; cases e; done) | exact (fun _ _ q => all_glA (by rfl) q)) ?_ | refine VR.len tok rfl rfl rfl rfl rfl ?_) | (refine VR.call fok58 rfl rfl rfl rfl ?_; refine (v_valid l[j] _ _ ?_)))
    refine VJ.cond rfl (fun hc => ?_) (fun hc => ?_)
    · repeat' (first | refine VJ.seq ?_ | refine VJ.skip ?_ | refine VJ.block ?_ | refine VJ.inBlock ?_ | refine VJ.exit rfl ?_ | refine VJ.cond_t rfl ?_ | refine VJ.cond_f rfl ?_ | refine VJ.region_k fun K hK => ?_ | (refine VR.done (hK _ ?_); clear hK K) | (first | refine VR.move rfl rfl ?_ | refine VR.assign rfl rfl ?_ | (show onLd; refine VR.load tok rfl rfl rfl (by first | rfl | exact (ldp_el (by assumption)).trans (by rfl)) ?_) | (show onIx; refine VR.indexAddr tok rfl rfl rfl rfl rfl rfl rfl (elA_lst (by assumption)) ?_) | refine VR.int rfl rfl rfl rfl ?_ | refine VR.not rfl rfl ?_ | refine VR.alloc tok rfl rfl rfl ?_ | refine VR.store tok rfl rfl rfl rfl rfl rfl rfl (by first | (intro n e; cases e; done) | exact (fun _ _ q => all_glA (by rfl) q)) ?_ | refine VR.len tok rfl rfl rfl rfl rfl ?_) | (refine VR.call fok58 rfl rfl rfl rfl ?_; refine (v_valid l[j] _ _ ?_)))
      refine VJ.ret tok (by rfl) (by rfl) ?_
      have hc : decide l[j].ok = false := by simpa using hc
      rw [← hd, hc] at hQ
      exact hQ
    · have hc : decide l[j].ok = true := by simpa using hc
      rw [hc, Bool.true_and] at hd
      repeat' (first | refine VJ.seq ?_ | refine VJ.skip ?_ | refine VJ.block ?_ | refine VJ.inBlock ?_ | refine VJ.exit rfl ?_ | refine VJ.cond_t rfl ?_ | refine VJ.cond_f rfl ?_ | refine VJ.region_k fun K hK => ?_ | (refine VR.done (hK _ ?_); clear hK K) | (first | refine VR.move rfl rfl ?_ | refine VR.assign rfl rfl ?_ | (show onLd; refine VR.load tok rfl rfl rfl (by first | rfl | exact (ldp_el (by assumption)).trans (by rfl)) ?_) | (show onIx; refine VR.indexAddr tok rfl rfl rfl rfl rfl rfl rfl (elA_lst (by assumption)) ?_) | refine VR.int rfl rfl rfl rfl ?_ | refine VR.not rfl rfl ?_ | refine VR.alloc tok rfl rfl rfl ?_ | refine VR.store tok rfl rfl rfl rfl rfl rfl rfl (by first | (intro n e; cases e; done) | exact (fun _ _ q => all_glA (by rfl) q)) ?_ | refine VR.len tok rfl rfl rfl rfl rfl ?_) | (refine VR.call fok58 rfl rfl rfl rfl ?_; refine (v_valid l[j] _ _ ?_)))
      exact VJ.to 0 [(7, vI ((j + 1 : Nat) : Int)), (6, vI l.length), (5, vL 2 (l.map ptV))] [] (ih (j + 1) ⟨hlt, hd⟩ (by omega)) rfl ⟨vI_succ (by omega), by rfl, by rfl, trivial⟩ trivial (by rfl)
  · have hge : j = l.length := by simp at hb; omega
    subst hge
    rw [List.drop_length] at hd
    repeat' (first | refine VJ.seq ?_ | refine VJ.skip ?_ | refine VJ.block ?_ | refine VJ.inBlock ?_ | refine VJ.exit rfl ?_ | refine VJ.cond_t rfl ?_ | refine VJ.cond_f rfl ?_ | refine VJ.region_k fun K hK => ?_ | (refine VR.done (hK _ ?_); clear hK K) | (first | refine VR.move rfl rfl ?_ | refine VR.assign rfl rfl ?_ | (show onLd; refine VR.load tok rfl rfl rfl (by first | rfl | exact (ldp_el (by assumption)).trans (by rfl)) ?_) | (show onIx; refine VR.indexAddr tok rfl rfl rfl rfl rfl rfl rfl (elA_lst (by assumption)) ?_) | refine VR.int rfl rfl rfl rfl ?_ | refine VR.not rfl rfl ?_ | refine VR.alloc tok rfl rfl rfl ?_ | refine VR.store tok rfl rfl rfl rfl rfl rfl rfl (by first | (intro n e; cases e; done) | exact (fun _ _ q => all_glA (by rfl) q)) ?_ | refine VR.len tok rfl rfl rfl rfl rfl ?_) | (refine VR.call fok58 rfl rfl rfl rfl ?_; refine (v_valid l[j] _ _ ?_)))
    refine VJ.ret tok (by rfl) (by rfl) ?_
    rw [← hd] at hQ
    exact hQ

theorem cp_or (p q : Pt) : orI [cmpI p.x q.x, cmpI p.y q.y] = cp p q := by
  unfold orI orI orI cmpI cp
  rcases Int.lt_trichotomy p.x q.x with h | h | h
  · simp [h]
  · have h1 : ¬ p.x < q.x := by omega
    have h2 : ¬ q.x < p.x := by omega
    simp only [h1, h2, if_false, if_true]
    rcases Int.lt_trichotomy p.y q.y with g | g | g
    · simp [g]
    · have g1 : ¬ p.y < q.y := by omega
      have g2 : ¬ q.y < p.y := by omega
      simp [g1, g2]
    · have g1 : ¬ p.y < q.y := by omega
      simp [g, g1]
  · have h1 : ¬ p.x < q.x := by omega
    simp [h, h1]
theorem v_cp (p q : Pt) (G : Gl) (Q : Po) (hQ : Q (vI (cp p q)) G) : VC Try.prog 35 [vV (ptV p), vV (ptV q)] G Q := by
  refine VC.of_body Try.func35 rfl rfl rfl fun W0 h0 x0 hG0 => ?_
  simp only [args0]
  repeat' (first | refine VJ.seq ?_ | refine VJ.skip ?_ | refine VJ.cond_t rfl ?_ | refine VJ.cond_f rfl ?_ | refine VJ.region_k fun K hK => ?_ | (refine VR.done (hK _ ?_); clear hK K) | (first | refine VR.assign rfl rfl ?_ | (show onLd; refine VR.load tok rfl rfl rfl (by first | rfl | exact (ldp_el (by assumption)).trans (by rfl)) ?_) | (show onFa; refine VR.fieldAddr tok rfl rfl rfl (by first | rfl | exact place_el (by assumption)) rfl rfl ?_) | refine VR.box rfl rfl rfl ?_ | (refine VR.buildRow [.int .i64 (cmpI p.x q.x), .int .i64 (cmpI p.y q.y)] tok (by rfl) (by rfl) (by rfl) (by rfl) (by rfl) (by rfl) (by rfl) (by rfl) (by rfl) (by rfl) (by rfl) ?_) | (refine VR.callk (fun _ => false) [2] fok46 rfl rfl rfl rfl (fun _ _ h => nomatch (show false = true from h)) ?_; refine v_or [cmpI p.x q.x, cmpI p.y q.y] (by simp) _ _ ⟨(fun _ _ => rfl), .inr ⟨rfl, fun n o h => nomatch (show (none : Option VO) = some o from h)⟩, ?_⟩)) | (refine VR.call fok48 rfl rfl rfl rfl ?_; refine (v_compare _ _ _ _ ?_)))
  apply VJ.draw3 [10] [(0, 0), (1, 0), (2, 0), (3, 0), (4, 0), (5, 0), (6, 0), (7, 0), (8, 0), (9, 0), (10, 0), (11, 1), (12, 1), (0, 1), (1, 1), (2, 1), (3, 1), (5, 1), (6, 1), (7, 1), (8, 1)] [[(2, none)], [(5, some 0)], [(3, none)], [(7, some 2)], [(6, some 1), (8, some 3)], [(2, none)], [(10, some 5)], [(3, none)], [(12, some 7)], [(11, some 6), (13, some 8)], [(9, some 4), (14, some 9)], [(15, some 10)], [(16, some 11)]] [[(2, _)], [(5, _)], [(3, _)], [(7, _)], [(6, _), (8, _)], [(2, _)], [(10, _)], [(3, _)], [(12, _)], [(11, _), (13, _)], [(9, _), (14, _)], [(15, _)], [(16, _)]] [_, _, _, _, _, _, _, _, _, _, _, _, _] [⟨_, _, _⟩, ⟨_, _, _⟩] (by kernel_rfl) ?hok rfl ?hh rfl rfl ?hj
  case hh =>
    refine ⟨?_, ?_, ?_, ?_, ?_, ?_, ?_, ?_, ?_, ?_, ?_, ?_, ?_, ?_, ?_, ?_, ?_, ?_, ?_, ?_, ?_, trivial⟩
    all_goals (intro rest K1 hK1; (repeat (first | exact VR.done hK1 | (first | refine VR.assign rfl rfl ?_ | (show onLd; refine VR.load tok rfl rfl rfl (by first | rfl | exact (ldp_el (by assumption)).trans (by rfl)) ?_) | (show onFa; refine VR.fieldAddr tok rfl rfl rfl (by first | rfl | exact place_el (by assumption)) rfl rfl ?_) | (refine VR.buildRow [.int .i64 (cmpI p.x q.x), .int .i64 (cmpI p.y q.y)] tok (by rfl) (by rfl) (by rfl) (by rfl) (by rfl) (by rfl) (by rfl) (by rfl) (by rfl) (by rfl) (by rfl) ?_) | (refine VR.callk (fun _ => false) [2] fok46 rfl rfl rfl rfl (fun _ _ h => nomatch (show false = true from h)) ?_; refine v_or [cmpI p.x q.x, cmpI p.y q.y] (by simp) _ _ ⟨(fun _ _ => rfl), .inr ⟨rfl, fun n o h => nomatch (show (none : Option VO) = some o from h)⟩, ?_⟩)) | (refine VR.call fok48 rfl rfl rfl rfl ?_; refine (v_compare _ _ _ _ ?_)))); try (first | exact VR.done hK1 | (refine VR.done ?_; dsimp only [S.set]; exact hK1)))
  case hok => kernel_rfl
  case hj =>
    dsimp only [tla]
    refine VJ.ret tok (by rfl) (by rfl) ?_
    rw [← cp_or] at hQ
    exact hQ
