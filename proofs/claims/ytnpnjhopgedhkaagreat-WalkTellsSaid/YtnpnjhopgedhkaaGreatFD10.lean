/- Texts of the proof, one behind the other: T9, T10, T11, RiW, TellsW. Conditions: each lemma's own. -/
import Derived.Test.YtnpnjhopgedhkaaGreatFD9
set_option linter.unusedVariables false
namespace Go.Proofs.YtnpnjhopgedhkaaGreat
open Go.RowKit V Geo
theorem alongT_U {t : Tr} {p q : Pt} : alongT t p q = (bif (bif (bif (bif !validT t then true else !decide p.ok) then true else !decide q.ok) then true else decide (p = q)) then false else alongU (standL t p q) (0, 1) (1, 1)) := by
 unfold alongT
 rw [alongU_eq (standL t p q) (0, 1) (1, 1) (by decide) (by decide) (by decide) (by decide) (by decide)]
theorem cmpI_lt (a b : Int) : decide (cmpI a b < 0) = decide (a < b) := by
 refine decide_eq_decide.2 ?_
 unfold cmpI
 split
 ·omega
 ·split <;> omega
theorem cmpI_gt (a b : Int) : decide (cmpI a b > 0) = decide (b < a) := by
 refine decide_eq_decide.2 ?_
 unfold cmpI
 split
 ·omega
 ·split <;> omega
attribute [local irreducible] VR VJ VC decOk decBt
theorem v_twiceE {a b c : Pt} {x : Int} (e : twI a b c = x) (G : Gl) (Q : Po) (hQ : Q (vI x) G) : VC Tryz.prog 63 [vV (ptV a), vV (ptV b), vV (ptV c)] G Q := v_twice a b c G Q (e ▸ hQ)
theorem v_wmulE (x y : Int) {a b : Int} (ea : a = x) (eb : b = y) (ha : 0 ≤ x ∧ x < 2147483648) (hb : 0 ≤ y ∧ y < 4294967296) (G : Gl) (Q : Po) (hQ : Q (vV (wdV 0 (x * y))) G) : VC Tryz.prog 65 [vI a, vI b] G Q := by
 subst ea; subst eb; exact v_wmulN _ _ ha hb G Q hQ
set_option maxRecDepth 20000 in
set_option maxHeartbeats 8000000 in
theorem v_alongR (t : Tr) (hi : inB t.a ∧ inB t.b ∧ inB t.c) (p q : Pt) (G : Gl) (Q : Po) (hQ : Q (vB (alongT t p q)) G) : VC Tryz.prog 38 [vV t.v, vV (ptV p), vV (ptV q)] G Q := by
 refine VC.of_body Tryz.func38 rfl rfl rfl fun W0 h0 x0 hG0 => ?_
 simp only [args0]
 rw [alongT_U] at hQ
 repeat' (first | refine VJ.seq ?_ | refine VJ.region_k fun K hK => ?_ | (refine VR.done (hK _ ?_); clear hK K) | (first | refine VR.move rfl rfl ?_ | refine VR.assign rfl rfl ?_ | (show onLd; refine VR.load tok rfl rfl rfl rfl ?_) | (refine VR.pickB rfl rfl rfl rfl ?_ ?_ ?_; iterate 2 (first | exact trivial | (refine fun h => ?_; first | (rw [h]; rfl) | (rw [h, hg]; rfl) | (rw [hg, h]; rfl) | (simp [h, hg]; done)))) | refine VR.not rfl rfl ?_ | refine VR.box rfl rfl rfl ?_) | (refine' VR.spec (by rfl) (by rfl) (by rfl) ?_ ?_ ?_; rotate_left 1; (repeat (first | exact trivial | refine And.intro id ?_)); intro hg K1 hK1; (first | (show onLd; refine VR.load tok rfl rfl rfl rfl ?_) | refine VR.not rfl rfl ?_ | (refine VR.bin rfl rfl rfl (eqP _ _ _ _) ?_) | (refine VR.call fok57 rfl rfl rfl rfl ?_; refine (v_valid2 p _ _ ?_)) | (refine VR.call fok57 rfl rfl rfl rfl ?_; refine (v_valid2 q _ _ ?_))); exact VR.done hK1) | (refine VR.call fok43 rfl rfl rfl rfl ?_; refine (v_validTR t _ _ ?_)))
 refine VJ.cond rfl (fun hc => ?_) (fun hc => ?_)
 ·have hc : (bif (bif (bif !validT t then true else !decide p.ok) then true else !decide q.ok) then true else decide (p = q)) = true := hc
  rw [hc] at hQ
  repeat' (first | refine VJ.seq ?_ | refine VJ.region_k fun K hK => ?_ | (refine VR.done (hK _ ?_); clear hK K) | (first | refine VR.assign rfl rfl ?_))
  refine VJ.ret tok (by rfl) (by rfl) ?_
  exact hQ
 have hc : (bif (bif (bif !validT t then true else !decide p.ok) then true else !decide q.ok) then true else decide (p = q)) = false := hc
 rw [hc] at hQ
 have hpk : p.ok ∧ q.ok := by
  cases h1 : validT t <;> by_cases h2 : p.ok <;> by_cases h3 : q.ok <;> simp [h1, h2, h3] at hc ⊢
 clear hc
 obtain ⟨r, hr⟩ : ∃ r, alongU (standL t p q) (0, 1) (1, 1) = r := ⟨_, rfl⟩
 have hQ : Q (vB r) G := by rw [← hr]; exact hQ
 repeat' (first | refine VJ.seq ?_ | refine VJ.skip ?_ | refine VJ.block ?_ | refine VJ.region_k fun K hK => ?_ | (refine VR.done (hK _ ?_); clear hK K) | (first | refine VR.assign rfl rfl ?_))
 refine VJ.to 3 [(11, vI ((0 : Nat) : Int)), (10, vI 1), (9, vI 1), (8, vI 1), (7, vI 0), (5, .a (.ptr (.l 2) 0)), (4, .a (.ptr (.l 1) 0)), (3, .a (.ptr (.l 0) 0))] [(0, bxT t), (1, bxP p), (2, bxP q)] ?_ rfl (by repeat' first | exact trivial | refine ⟨rfl, ?_⟩) (by repeat' first | exact trivial | refine ⟨rfl, ?_⟩) (by rfl)
 refine VJ.rec (fun a : Nat × (Int × Int) × (Int × Int) => ⟨3, [(11, vI a.1), (10, vI a.2.2.2), (9, vI a.2.2.1), (8, vI a.2.1.2), (7, vI a.2.1.1), (5, .a (.ptr (.l 2) 0)), (4, .a (.ptr (.l 1) 0)), (3, .a (.ptr (.l 0) 0))], [(0, bxT t), (1, bxP p), (2, bxP q)], G⟩) (fun a => 3 - a.1) (fun a => a.1 ≤ 3 ∧ parOk a.2.1 ∧ parOk a.2.2 ∧ alongU ((standL t p q).drop a.1) a.2.1 a.2.2 = r) (0, (0, 1), (1, 1)) ⟨by decide, by unfold parOk; decide, by unfold parOk; decide, hr⟩ ?_
 rintro ⟨i, ⟨f1, f2⟩, ⟨u1, u2⟩⟩ ⟨hi3, hf, hu, hal⟩ ih
 dsimp only at hi3 hal ih ⊢
 clear hr
 obtain ⟨f11, f12, f21, f22⟩ := id hf
 obtain ⟨u11, u12, u21, u22⟩ := id hu
 dsimp only at f11 f12 f21 f22 u11 u12 u21 u22
 by_cases hlt : i < 3
 ·have hb : decide ((i : Int) < 3) = true := decide_eq_true (by omega)
  rw [standL_drop t p q hlt] at hal
  have b1 := cor_inB hi i
  have b2 := cor_inB hi (i + 1)
  obtain ⟨x, ex⟩ : ∃ x, tw (t.cor i) (t.cor (i + 1)) p = x := ⟨_, rfl⟩
  obtain ⟨y, ey⟩ : ∃ y, tw (t.cor i) (t.cor (i + 1)) q = y := ⟨_, rfl⟩
  have dx := tw_bdB b1 b2 hpk.1
  have dy := tw_bdB b1 b2 hpk.2
  have ex2 := (tw_parts b1.ok b2.ok hpk.1).2.2
  have ey2 := (tw_parts b1.ok b2.ok hpk.2).2.2
  rw [ex] at hal dx ex2
  rw [ey] at hal dy ey2
  clear ex ey
  repeat' (first | refine VJ.seq ?_ | refine VJ.region_k fun K hK => ?_ | (refine VR.done (hK _ ?_); clear hK K) | (first | refine VR.move rfl rfl ?_ | refine VR.int rfl rfl rfl rfl ?_))
  refine VJ.cond rfl (fun _ => ?_) (fun h => absurd (hb.symm.trans h) (by simp))
  repeat' (first | refine VJ.seq ?_ | refine VJ.skip ?_ | refine VJ.block ?_ | (fail))
  apply VJ.draw3 [] [(0, 0), (1, 0), (2, 0), (3, 0), (4, 0), (5, 0), (6, 0), (7, 0), (8, 0), (9, 0), (10, 0), (11, 0), (12, 0), (13, 0), (14, 0), (15, 0), (16, 0), (17, 0), (18, 0), (19, 0)] [[(3, none)], [(11, none)], [(36, some 0), (37, some 1)], [(3, none)], [(11, none)], [(40, some 4)], [(39, some 3), (41, some 5)], [(4, none)], [(38, some 2), (42, some 6), (43, some 7)], [(3, none)], [(11, none)], [(45, some 9), (46, some 10)], [(3, none)], [(11, none)], [(49, some 13)], [(48, some 12), (50, some 14)], [(5, none)], [(47, some 11), (51, some 15), (52, some 16)], [(44, some 8)], [(53, some 17)]] [[(3, _)], [(11, _)], [(36, _), (37, _)], [(3, _)], [(11, _)], [(40, _)], [(39, _), (41, _)], [(4, _)], [(38, _), (42, _), (43, _)], [(3, _)], [(11, _)], [(45, _), (46, _)], [(3, _)], [(11, _)], [(49, _)], [(48, _), (50, _)], [(5, _)], [(47, _), (51, _), (52, _)], [(44, _)], [(53, _)]] [_, _, _, _, _, _, _, _, _, _, _, _, _, _, _, _, _, _, _, _] [⟨_, _, _⟩] (by kernel_rfl) ?hok rfl ?hh rfl rfl ?hj
  case hh =>
   refine ⟨?_, ?_, ?_, ?_, ?_, ?_, ?_, ?_, ?_, ?_, ?_, ?_, ?_, ?_, ?_, ?_, ?_, ?_, ?_, ?_, trivial⟩
   all_goals (intro rest K1 hK1; (repeat (first | exact VR.done hK1 | (first | refine VR.move rfl rfl ?_ | refine VR.assign rfl rfl ?_ | (show onLd; refine VR.load tok rfl rfl rfl rfl ?_) | refine VR.int rfl rfl rfl rfl ?_) | (refine VR.call fok21 rfl rfl rfl rfl ?_; refine (v_cornerE t i (by omega) rfl _ _ ?_)) | (refine VR.call fok21 rfl rfl rfl rfl ?_; refine (v_cornerE t (i + 1) (by omega) (wrap_succ (by omega)) _ _ ?_)) | (refine VR.call fok63 rfl rfl rfl rfl ?_; refine (v_twiceE ex2 _ _ ?_)) | (refine VR.call fok63 rfl rfl rfl rfl ?_; refine (v_twiceE ey2 _ _ ?_)))); try (first | exact VR.done hK1 | (refine VR.done ?_; dsimp only [S.set]; exact hK1)))
  case hok => kernel_rfl
  case hj =>
   dsimp only [List.append, tla]
   refine VJ.to 3 [(13, vI y), (12, vI x), (11, vI i), (10, vI u2), (9, vI u1), (8, vI f2), (7, vI f1), (5, .a (.ptr (.l 2) 0)), (4, .a (.ptr (.l 1) 0)), (3, .a (.ptr (.l 0) 0))] [(0, bxT t), (1, bxP p), (2, bxP q)] ?_ rfl (by repeat' first | exact trivial | refine ⟨rfl, ?_⟩) (by repeat' first | exact trivial | refine ⟨rfl, ?_⟩) (by rfl)
   by_cases hx : x < 0
   ·have gx : decide (x < 0) = true := decide_eq_true hx
    by_cases hy : y < 0
    ·have gy : decide (y < 0) = true := decide_eq_true hy
     rw [U_no _ _ _ ⟨hx, hy⟩] at hal
     subst hal
     have hz : (bif decide (x < 0) then decide (y < 0) else false) = true := by rw [gx, gy]; rfl
     repeat' (first | refine VJ.seq ?_ | refine VJ.region_k fun K hK => ?_ | (refine VR.done (hK _ ?_); clear hK K) | (first | refine VR.move rfl rfl ?_ | refine VR.int rfl rfl rfl rfl ?_ | (refine VR.pickB rfl rfl rfl rfl ?_ ?_ ?_; iterate 2 (first | exact trivial | (refine fun h => ?_; first | (rw [h]; rfl) | (rw [h, hg]; rfl) | (rw [hg, h]; rfl) | (simp [h, hg]; done)))) | refine VR.g_yes rfl rfl (by first | rfl | assumption) ?_))
     refine VJ.cond rfl (fun _ => ?_) (fun h => absurd (hz.symm.trans h) (by simp))
     repeat' (first | refine VJ.seq ?_ | refine VJ.region_k fun K hK => ?_ | (refine VR.done (hK _ ?_); clear hK K) | (first | refine VR.assign rfl rfl ?_))
     refine VJ.ret tok (by rfl) (by rfl) ?_
     exact hQ
    have gy : decide (y < 0) = false := decide_eq_false hy
    rw [U_in _ _ _ hx (by omega)] at hal
    have hz : (bif decide (x < 0) then decide (y < 0) else false) = false := by rw [gx, gy]; rfl
    have w1 : wr (0 - x) = -x := (wr_in (by omega) (by omega)).trans (by omega)
    have w2 : wr (y - x) = y - x := wr_in (by omega) (by omega)
    repeat' (first | refine VJ.seq ?_ | refine VJ.region_k fun K hK => ?_ | (refine VR.done (hK _ ?_); clear hK K) | (first | refine VR.move rfl rfl ?_ | refine VR.int rfl rfl rfl rfl ?_ | (refine VR.pickB rfl rfl rfl rfl ?_ ?_ ?_; iterate 2 (first | exact trivial | (refine fun h => ?_; first | (rw [h]; rfl) | (rw [h, hg]; rfl) | (rw [hg, h]; rfl) | (simp [h, hg]; done)))) | refine VR.g_yes rfl rfl (by first | rfl | assumption) ?_))
    refine VJ.cond rfl (fun h => absurd (hz.symm.trans h) (by simp)) (fun _ => ?_)
    clear hz
    repeat' (first | refine VJ.seq ?_ | refine VJ.skip ?_ | refine VJ.region_k fun K hK => ?_ | (refine VR.done (hK _ ?_); clear hK K) | (first | refine VR.move rfl rfl ?_ | refine VR.int rfl rfl rfl rfl ?_ | (refine VR.pickB rfl rfl rfl rfl ?_ ?_ ?_; iterate 2 (first | exact trivial | (refine fun h => ?_; first | (rw [h]; rfl) | (rw [h, hg]; rfl) | (rw [hg, h]; rfl) | (simp [h, hg]; done)))) | refine VR.neg rfl rfl ?_ | refine VR.g_yes rfl rfl (by first | rfl | assumption) ?_) | (refine VR.call fok65 rfl rfl rfl rfl ?_; refine (v_wmulE (-x) f2 w1 rfl (by omega) (by omega) _ _ ?_)) | (refine VR.call fok65 rfl rfl rfl rfl ?_; refine (v_wmulE f1 (y - x) rfl w2 (by omega) (by omega) _ _ ?_)) | (refine VR.call fok64 rfl rfl rfl rfl ?_; refine (v_cmpW _ _ _ _ ?_)))
    have hv : (bif decide (x < 0) then decide (cmpI (-x * f2) (f1 * (y - x)) > 0) else false) = decide (f1 * (y - x) < -x * f2) := by rw [gx, cmpI_gt]; rfl
    by_cases c : f1 * (y - x) < -x * f2
    ·rw [if_pos c] at hal
     have ih1 := ih (i + 1, (-x, y - x), (u1, u2)) ⟨hlt, by unfold parOk; dsimp only; omega, hu, hal⟩ (by show 3 - (i + 1) < 3 - i; omega)
     dsimp only at ih1
     rw [decide_eq_true c] at hv
     clear ih
     refine VJ.cond rfl (fun _ => ?_) (fun h => absurd (hv.symm.trans h) (by simp))
     repeat' (first | refine VJ.seq ?_ | refine VJ.skip ?_ | refine VJ.inBlock ?_ | refine VJ.cond_f rfl ?_ | refine VJ.region_k fun K hK => ?_ | (refine VR.done (hK _ ?_); clear hK K) | (first | (refine VR.pick_no rfl rfl (by assumption) rfl ?_) | refine VR.move rfl rfl ?_ | refine VR.assign rfl rfl ?_ | refine VR.int rfl rfl rfl rfl ?_ | refine VR.neg rfl rfl ?_ | refine VR.g_no rfl rfl rfl (by first | rfl | assumption) ?_))
     exact VJ.to 3 _ _ ih1 rfl ⟨vI_succ (by omega), by rfl, by rfl, congrArg (fun z => some (vI z)) w2, congrArg (fun z => some (vI z)) w1, by rfl, by rfl, by rfl, trivial⟩ (by repeat' first | exact trivial | refine ⟨rfl, ?_⟩) (by rfl)
    ·rw [if_neg c] at hal
     have ih1 := ih (i + 1, (f1, f2), (u1, u2)) ⟨hlt, hf, hu, hal⟩ (by show 3 - (i + 1) < 3 - i; omega)
     dsimp only at ih1
     rw [decide_eq_false c] at hv
     clear ih
     refine VJ.cond rfl (fun h => absurd (hv.symm.trans h) (by simp)) (fun _ => ?_)
     repeat' (first | refine VJ.seq ?_ | refine VJ.skip ?_ | refine VJ.inBlock ?_ | refine VJ.cond_f rfl ?_ | refine VJ.region_k fun K hK => ?_ | (refine VR.done (hK _ ?_); clear hK K) | (first | (refine VR.pick_no rfl rfl (by assumption) rfl ?_) | refine VR.move rfl rfl ?_ | refine VR.assign rfl rfl ?_ | refine VR.int rfl rfl rfl rfl ?_ | refine VR.g_no rfl rfl rfl (by first | rfl | assumption) ?_))
     exact VJ.to 3 _ _ ih1 rfl ⟨vI_succ (by omega), by rfl, by rfl, by rfl, by rfl, by rfl, by rfl, by rfl, trivial⟩ (by repeat' first | exact trivial | refine ⟨rfl, ?_⟩) (by rfl)
   have gx : decide (x < 0) = false := decide_eq_false hx
   by_cases hy : y < 0
   ·have gy : decide (y < 0) = true := decide_eq_true hy
    rw [U_out _ _ _ (by omega) hy] at hal
    have w2 : wr (x - y) = x - y := wr_in (by omega) (by omega)
    repeat' (first | refine VJ.seq ?_ | refine VJ.skip ?_ | refine VJ.cond_f rfl ?_ | refine VJ.region_k fun K hK => ?_ | (refine VR.done (hK _ ?_); clear hK K) | (first | (refine VR.pick_no rfl rfl (by assumption) rfl ?_) | refine VR.move rfl rfl ?_ | refine VR.int rfl rfl rfl rfl ?_ | (refine VR.pickB rfl rfl rfl rfl ?_ ?_ ?_; iterate 2 (first | exact trivial | (refine fun h => ?_; first | (rw [h]; rfl) | (rw [h, hg]; rfl) | (rw [hg, h]; rfl) | (simp [h, hg]; done)))) | refine VR.g_yes rfl rfl (by first | rfl | assumption) ?_ | refine VR.g_no rfl rfl rfl (by first | rfl | assumption) ?_) | (refine VR.call fok65 rfl rfl rfl rfl ?_; refine (v_wmulE x u2 rfl rfl (by omega) (by omega) _ _ ?_)) | (refine VR.call fok65 rfl rfl rfl rfl ?_; refine (v_wmulE u1 (x - y) rfl w2 (by omega) (by omega) _ _ ?_)) | (refine VR.call fok64 rfl rfl rfl rfl ?_; refine (v_cmpW _ _ _ _ ?_)))
    have hv : (bif decide (y < 0) then decide (cmpI (x * u2) (u1 * (x - y)) < 0) else false) = decide (x * u2 < u1 * (x - y)) := by rw [gy, cmpI_lt]; rfl
    by_cases c : x * u2 < u1 * (x - y)
    ·rw [if_pos c] at hal
     have ih1 := ih (i + 1, (f1, f2), (x, x - y)) ⟨hlt, hf, by unfold parOk; dsimp only; omega, hal⟩ (by show 3 - (i + 1) < 3 - i; omega)
     dsimp only at ih1
     rw [decide_eq_true c] at hv
     clear ih
     refine VJ.cond rfl (fun _ => ?_) (fun h => absurd (hv.symm.trans h) (by simp))
     repeat' (first | refine VJ.inBlock ?_ | refine VJ.region_k fun K hK => ?_ | (refine VR.done (hK _ ?_); clear hK K) | (first | refine VR.move rfl rfl ?_ | refine VR.assign rfl rfl ?_ | refine VR.int rfl rfl rfl rfl ?_))
     exact VJ.to 3 _ _ ih1 rfl ⟨vI_succ (by omega), congrArg (fun z => some (vI z)) w2, by rfl, by rfl, by rfl, by rfl, by rfl, by rfl, trivial⟩ (by repeat' first | exact trivial | refine ⟨rfl, ?_⟩) (by rfl)
    ·rw [if_neg c] at hal
     have ih1 := ih (i + 1, (f1, f2), (u1, u2)) ⟨hlt, hf, hu, hal⟩ (by show 3 - (i + 1) < 3 - i; omega)
     dsimp only at ih1
     rw [decide_eq_false c] at hv
     clear ih
     refine VJ.cond rfl (fun h => absurd (hv.symm.trans h) (by simp)) (fun _ => ?_)
     repeat' (first | refine VJ.skip ?_ | refine VJ.inBlock ?_ | refine VJ.region_k fun K hK => ?_ | (refine VR.done (hK _ ?_); clear hK K) | (first | refine VR.move rfl rfl ?_ | refine VR.assign rfl rfl ?_ | refine VR.int rfl rfl rfl rfl ?_))
     exact VJ.to 3 _ _ ih1 rfl ⟨vI_succ (by omega), by rfl, by rfl, by rfl, by rfl, by rfl, by rfl, by rfl, trivial⟩ (by repeat' first | exact trivial | refine ⟨rfl, ?_⟩) (by rfl)
   have gy : decide (y < 0) = false := decide_eq_false hy
   rw [U_all _ _ _ (by omega) (by omega)] at hal
   have ih1 := ih (i + 1, (f1, f2), (u1, u2)) ⟨hlt, hf, hu, hal⟩ (by show 3 - (i + 1) < 3 - i; omega)
   dsimp only at ih1
   clear ih
   repeat' (first | refine VJ.seq ?_ | refine VJ.skip ?_ | refine VJ.inBlock ?_ | refine VJ.cond_f rfl ?_ | refine VJ.region_k fun K hK => ?_ | (refine VR.done (hK _ ?_); clear hK K) | (first | (refine VR.pick_no rfl rfl (by assumption) rfl ?_) | refine VR.move rfl rfl ?_ | refine VR.assign rfl rfl ?_ | refine VR.int rfl rfl rfl rfl ?_ | refine VR.g_no rfl rfl rfl (by first | rfl | assumption) ?_))
   exact VJ.to 3 _ _ ih1 rfl ⟨vI_succ (by omega), by rfl, by rfl, by rfl, by rfl, by rfl, by rfl, by rfl, trivial⟩ (by repeat' first | exact trivial | refine ⟨rfl, ?_⟩) (by rfl)
 ·have e3 : i = 3 := by omega
  subst e3
  have hal : decide (f1 * u2 < u1 * f2) = r := hal
  subst hal
  rw [← cmpI_lt] at hQ
  clear ih
  repeat' (first | refine VJ.seq ?_ | refine VJ.exit rfl ?_ | refine VJ.cond_f rfl ?_ | refine VJ.region_k fun K hK => ?_ | (refine VR.done (hK _ ?_); clear hK K) | (first | refine VR.move rfl rfl ?_ | refine VR.assign rfl rfl ?_ | refine VR.int rfl rfl rfl rfl ?_) | (refine VR.call fok65 rfl rfl rfl rfl ?_; refine (v_wmulE f1 u2 rfl rfl (by omega) (by omega) _ _ ?_)) | (refine VR.call fok65 rfl rfl rfl rfl ?_; refine (v_wmulE u1 f2 rfl rfl (by omega) (by omega) _ _ ?_)) | (refine VR.call fok64 rfl rfl rfl rfl ?_; refine (v_cmpW _ _ _ _ ?_)))
  refine VJ.ret tok (by rfl) (by rfl) ?_
  exact hQ
end Go.Proofs.YtnpnjhopgedhkaaGreat
namespace Go.Proofs.YtnpnjhopgedhkaaGreat
open Go.RowKit V Geo
def trailF (p q : Pt) (e : En × Tr) : Bool := bif decide (e.1.a = e.2.a) then alongT e.2 p q else false
theorem trail_filter (E : LS) (p q : Pt) : colOf (trailF p q) E = (trsOf E).filter fun t => alongT t p q := by
 unfold colOf trsOf
 rw [List.filter_map, List.filter_filter]
 congr 1
 refine List.filter_congr fun e _ => ?_
 unfold trailF firstE
 dsimp only [Function.comp]
 cases decide (e.1.a = e.2.a) <;> simp
theorem sort_flt {X L : List Tr} {ts : TS} {f : Tr → Bool} (h : X.Perm ((trisM ts).filter f)) : sortT X = (trisM ts).filter f :=
 sorted_uniqueT ((sortT_perm X).trans h) (sortT_sorted X) ((show (trisM ts).Pairwise _ from sortT_sorted _).filter _)
theorem at_eqR {s : Int} {ts : TS} {E : LS} (h : TI s E (trisM ts)) (p : Pt) : sortT (colOf (atF p) E) = (trisM ts).filter fun t => hasP t p :=
 sort_flt (L := []) ((sortT_perm _).symm.trans (h.mo.at p))
theorem trail_eqR {s : Int} {ts : TS} {E : LS} (h : TI s E (trisM ts)) (p q : Pt) : sortT (colOf (trailF p q) E) = (trisM ts).filter fun t => alongT t p q := by
 refine sort_flt (L := []) ?_
 rw [trail_filter]
 exact h.mo.trs.filter _
theorem star_perm {E : LS} {l : List Tr} (h : MO E l) (p : Pt) : (colOf (starF p) E).Perm (l.filter fun t => cornB t p) := by
 have hget : ∀ q ∈ E, q.2 ∈ l ∧ q.1 ∈ around q.2 := fun q hq => (h.get q.1 q.2).1 (Mp.mem_get h.nd (show (q.1, q.2) ∈ E from hq))
 have hnd : (colOf (starF p) E).Nodup := by
  unfold colOf
  have hE : E.Nodup := (List.pairwise_map.1 h.nd).imp fun hne e => hne (congrArg Prod.fst e)
  refine (List.pairwise_map).2 ?_
  refine List.Pairwise.imp_of_mem ?_ (hE.filter _)
  intro q r hq hr hne e
  obtain ⟨q1, q2⟩ := List.mem_filter.1 hq
  obtain ⟨r1, r2⟩ := List.mem_filter.1 hr
  have eq : q.1.a = p := of_decide_eq_true q2
  have er : r.1.a = p := of_decide_eq_true r2
  obtain ⟨hl, hq3⟩ := hget q q1
  obtain ⟨_, hr3⟩ := hget r r1
  rw [← e] at hr3
  obtain ⟨n1, n2, n3⟩ := valid_ne (h.val _ hl)
  have e1 : q.1 = r.1 := by
   rw [mem_around] at hq3 hr3
   rcases hq3 with k | k | k <;> rcases hr3 with j | j | j <;> rw [k, j] <;> rw [k] at eq <;> rw [j] at er <;> dsimp only at eq er <;> first | rfl | (exfalso; first | exact n1 (eq.trans er.symm) | exact n2 (eq.trans er.symm) | exact n3 (eq.trans er.symm) | exact n1 (er.trans eq.symm) | exact n2 (er.trans eq.symm) | exact n3 (er.trans eq.symm))
  exact hne (Prod.ext e1 e)
 refine (List.perm_ext_iff_of_nodup hnd (h.one.filter _)).2 fun t => ?_
 rw [List.mem_filter]
 unfold colOf
 rw [List.mem_map]
 constructor
 ·rintro ⟨q, hq, rfl⟩
  obtain ⟨q1, q2⟩ := List.mem_filter.1 hq
  obtain ⟨hl, h3⟩ := hget q q1
  have eq : q.1.a = p := of_decide_eq_true q2
  refine ⟨hl, (cornB_iff _ _).2 ?_⟩
  rw [mem_around] at h3
  rcases h3 with k | k | k <;> rw [k] at eq <;> dsimp only at eq
  ·exact .inl eq.symm
  ·exact .inr (.inl eq.symm)
  ·exact .inr (.inr eq.symm)
 ·rintro ⟨hl, hc⟩
  have key : ∀ e, e ∈ around t → e.a = p → ∃ q ∈ E.filter (starF p), q.2 = t := fun e he ea => by
   have := Mp.get_mem ((h.get e t).2 ⟨hl, he⟩)
   exact ⟨(e, t), List.mem_filter.2 ⟨this, decide_eq_true ea⟩, rfl⟩
  rcases (cornB_iff t p).1 hc with k | k | k
  ·exact key ⟨t.a, t.b⟩ ((mem_around _ _).2 (.inl rfl)) k.symm
  ·exact key ⟨t.b, t.c⟩ ((mem_around _ _).2 (.inr (.inl rfl))) k.symm
  ·exact key ⟨t.c, t.a⟩ ((mem_around _ _).2 (.inr (.inr rfl))) k.symm
theorem star_eqR {s : Int} {ts : TS} {E : LS} (h : TI s E (trisM ts)) (p : Pt) : sortT (colOf (starF p) E) = (trisM ts).filter fun t => cornB t p := sort_flt (L := []) (star_perm h.mo p)
theorem entry_in {s : Int} {E : LS} {l : List Tr} (h : TI s E l) (hs : s ≤ 40) : ∀ q ∈ E, inB q.2.a ∧ inB q.2.b ∧ inB q.2.c := fun q hq => h.bx hs _ ((h.mo.get q.1 q.2).1 (Mp.mem_get h.mo.nd (show (q.1, q.2) ∈ E from hq))).1
def openR (E : LS) (p : Pt) (t : Tr) (i : Nat) : Bool := bif (bif decide (t.cor i = p) then true else decide (t.cor (i + 1) = p)) then !(leftOf E (t.cor (i + 1)) (t.cor i)).2 else false
theorem openR_eq {ts : TS} {le E : LS} {l : List Tr} (h : PM ts le E l) {t : Tr} (ht : t ∈ l) (p : Pt) (i : Nat) : openR E p t i = openE ts le p t i := by
 have e := across_mesh h ht i
 have e2 : (leftOf E (t.cor (i + 1)) (t.cor i)).2 = (Mp.get E ⟨t.cor (i + 1), t.cor i⟩).isSome := rfl
 unfold openR openE
 rw [e, e2]
 cases (Mp.get E ⟨t.cor (i + 1), t.cor i⟩).isSome <;> cases decide (t.cor i = p) <;> cases decide (t.cor (i + 1) = p) <;> rfl
abbrev bxA (t : Tr) : VO := .box [.d (.v (.int .i64 t.a.x)), .d (.v (.int .i64 t.a.y)), .d (.v (.int .i64 t.b.x)), .d (.v (.int .i64 t.b.y)), .d (.v (.int .i64 t.b.x)), .d (.v (.int .i64 t.b.y)), .d (.v (.int .i64 t.c.x)), .d (.v (.int .i64 t.c.y)), .d (.v (.int .i64 t.c.x)), .d (.v (.int .i64 t.c.y)), .d (.v (.int .i64 t.a.x)), .d (.v (.int .i64 t.a.y))]
attribute [local irreducible] VR VJ VC decOk decBt
set_option maxRecDepth 20000 in
set_option maxHeartbeats 4000000 in
theorem v_trailP (E : LS) (few : E.length < 100000) (hB : ∀ q ∈ E, inB q.2.a ∧ inB q.2.b ∧ inB q.2.c) (a b : Pt) (G : Gl) (hG : RefP G E) (Q : Po) (hQ : Q (vL 6 ((sortT (colOf (trailF a b) E)).map Tr.v)) G) : VC Tryz.prog 16 [vN, vV (ptV a), vV (ptV b)] G Q := by
 obtain ⟨z, hg⟩ := hG.ok
 rw [gov_self hg] at hQ ⊢
 refine VC.of_body Tryz.func16 rfl rfl rfl fun W0 h0 x0 hG0 => ?_
 simp only [args0]
 repeat' (first | refine VJ.seq ?_ | refine VJ.block ?_ | refine VJ.region_k fun K hK => ?_ | (refine VR.done (hK _ ?_); clear hK K) | (first | refine VR.move rfl rfl ?_ | refine VR.assign rfl rfl ?_ | (show onLd; refine VR.load tok rfl rfl rfl rfl ?_) | (show onFa; refine VR.fieldAddr tok rfl rfl rfl rfl rfl rfl ?_) | refine VR.box rfl rfl rfl ?_ | refine VR.nilCheck rfl rfl rfl ?_ | refine VR.range rfl rfl rfl (mapOk (by rfl)) ?_))
 refine VJ.promote 7 49 6 (by decide) rfl ?_
 refine VJ.to 4 [(14, .a (.ptr (.l 2) 0)), (7, .a (.own (.l 3))), (5, .a (.ptr (.l 1) 0)), (4, .a (.ptr (.l 0) 0))] [(0, bxP a), (1, bxP b), (2, .itr En.v Tr.v E E z none), (3, .row 49 6 ((colOf (trailF a b) []).map Tr.v))] ?_ rfl (by repeat' first | exact trivial | refine ⟨rfl, ?_⟩) (by repeat' first | exact trivial | refine ⟨rfl, ?_⟩) (by rfl)
 refine VJ.rec (fun p : LS × LS × Option Value => ⟨4, [(14, .a (.ptr (.l 2) 0)), (7, .a (.own (.l 3))), (5, .a (.ptr (.l 1) 0)), (4, .a (.ptr (.l 0) 0))], [(0, bxP a), (1, bxP b), (2, .itr En.v Tr.v E p.2.1 z p.2.2), (3, .row 49 6 ((colOf (trailF a b) p.1).map Tr.v))], gov [(3, bxN), (4, .map En.v Tr.v E (some z))] G⟩) (fun p => p.2.1.length) (fun p => (p.1 ++ p.2.1).Perm E) ([], E, none) (by simp) ?_
 rintro ⟨dn, left, cur⟩ hpm ih
 dsimp only at hpm ih ⊢
 repeat' (first | refine VJ.seq ?_ | refine VJ.region_k fun K hK => ?_ | (fail))
 refine VR.next (i := .g 4) rfl rfl rfl rfl ?_ ?_
 ·intro hl
  subst hl
  have hpt : sortT (colOf (trailF a b) dn) = sortT (colOf (trailF a b) E) := sortT_eq (colOf_perm _ (by simpa using hpm))
  have hfew : (colOf (trailF a b) dn).length < 1000000 := by
   have h1 := colOf_len (trailF a b) dn
   have h2 := hpm.length_eq
   simp at h2
   omega
  repeat' (first | fail)
  refine VR.extract rfl rfl rfl ?_
  refine VR.done (hK _ ?_); clear hK K
  repeat' (first | refine VJ.seq ?_ | refine VJ.skip ?_ | refine VJ.inBlock ?_ | refine VJ.exit rfl ?_ | refine VJ.cond_f rfl ?_)
  refine VJ.freeze 7 rfl rfl ?_
  repeat' (first | refine VJ.region_k fun K hK => ?_ | (refine VR.done (hK _ ?_); clear hK K) | (first | refine VR.move rfl rfl ?_ | refine VR.assign rfl rfl ?_ | (refine VR.call fok34 rfl rfl rfl rfl ?_; refine v_sortTR (colOf (trailF a b) dn) hfew _ _ ?_; rw [hpt])))
  refine VJ.ret tok (by rfl) (by rfl) ?_
  exact hQ
 ·intro x c y z' hl
  subst hl
  have hin := hB (x, c) (hpm.mem_iff.1 (by simp))
  dsimp only at hin
  have hpm' : ((dn ++ [(x, c)]) ++ (y ++ z')).Perm E := by
   refine List.Perm.trans ?_ hpm
   rw [List.append_assoc]
   refine List.Perm.append_left dn ?_
   simpa using (List.perm_middle (a := (x, c)) (l₁ := y) (l₂ := z')).symm
  have hfew : (colOf (trailF a b) dn).length < 1000000 := by
   have h1 := colOf_len (trailF a b) dn
   have h2 := hpm.length_eq
   simp at h2
   omega
  have hsn := colOf_snoc (trailF a b) dn (x, c)
  have ih' := ih (dn ++ [(x, c)], y ++ z', some (.tuple #[x.v, c.v])) hpm' (by simp)
  dsimp only at ih' hsn
  rw [hsn] at ih'
  repeat' (first | refine VJ.seq ?_ | refine VJ.skip ?_ | refine VJ.block ?_ | refine VJ.cond_t rfl ?_ | refine VJ.region_k fun K hK => ?_ | (refine VR.done (hK _ ?_); clear hK K) | (first | refine VR.move rfl rfl ?_ | (show onLd; refine VR.load tok rfl rfl rfl rfl ?_) | (show onFa; refine VR.fieldAddr tok rfl rfl rfl rfl rfl rfl ?_) | (refine VR.pickB rfl rfl rfl rfl ?_ ?_ ?_; iterate 2 (first | exact trivial | (refine fun h => ?_; first | (rw [h]; rfl) | (rw [h, hg]; rfl) | (rw [hg, h]; rfl) | (simp [h, hg]; done)))) | refine VR.alloc tok rfl rfl rfl ?_ | refine VR.store tok rfl rfl rfl rfl rfl rfl rfl (by first | (intro n e; cases e; done) | exact (fun _ _ q => all_glA (by rfl) q)) ?_ | refine VR.extract rfl rfl rfl ?_ | (refine VR.entry (i := .g 4) rfl rfl rfl rfl ?_) | (refine VR.bin rfl rfl rfl (eqP _ _ _ _) ?_)) | (refine' VR.spec (by rfl) (by rfl) (by rfl) ?_ ?_ ?_; rotate_left 1; (repeat (first | exact trivial | refine And.intro id ?_)); intro hg K1 hK1; (first | (show onLd; refine VR.load tok rfl rfl rfl rfl ?_) | (refine VR.call fok38 rfl rfl rfl rfl ?_; refine (v_alongR c hin a b _ _ ?_))); exact VR.done hK1))
  refine VJ.cond rfl (fun hc => ?_) (fun hc => ?_)
  ·have hc : trailF a b (x, c) = true := hc
   rw [if_pos hc] at ih'
   repeat' (first | refine VJ.inBlock ?_ | refine VJ.region_k fun K hK => ?_ | (refine VR.done (hK _ ?_); clear hK K) | (first | refine VR.move rfl rfl ?_ | refine VR.assign rfl rfl ?_ | (show onLd; refine VR.load tok rfl rfl rfl rfl ?_) | (refine VR.buildLst ([c].map Tr.v) tok (by rfl) (by rfl) (by rfl) (by rfl) (by rfl) (by rfl) (by rfl) (by rfl) (by rfl) (by rfl) (by rfl) ?_) | (refine VR.append tok (by rfl) (by rfl) (by rfl) (by rfl) (by rfl) (by rfl) (by rfl) (by rfl) (by rfl) (by rfl) (oneT [c]) (by simp; omega) (by simp [maxLen]; omega) ?_)))
   exact VJ.to 4 _ _ ih' rfl (by repeat' first | exact trivial | refine ⟨rfl, ?_⟩) ⟨by rfl, by rfl, by rfl, by rw [List.map_append]; rfl, trivial⟩ (by rfl)
  ·have hc : ¬ trailF a b (x, c) = true := by
    have hc : trailF a b (x, c) = false := hc
    rw [hc]; simp
   rw [if_neg hc] at ih'
   repeat' (first | refine VJ.skip ?_ | refine VJ.inBlock ?_ | (fail))
   exact VJ.to 4 _ _ ih' rfl (by repeat' first | exact trivial | refine ⟨rfl, ?_⟩) (by repeat' first | exact trivial | refine ⟨rfl, ?_⟩) (by rfl)
theorem v_trailRG (E : LS) (few : E.length < 100000) (hB : ∀ q ∈ E, inB q.2.a ∧ inB q.2.b ∧ inB q.2.c) (a b : Pt) (G : Gl) (hG : RefG G E) (Q : Po) (hQ : Q (vL 6 ((sortT (colOf (trailF a b) E)).map Tr.v)) G) : VC Tryz.prog 16 [vN, vV (ptV a), vV (ptV b)] G Q := by
 obtain ⟨z, g4⟩ := hG.2
 refine VC.pinned 4 g4 fun G' q e => ?_
 subst e
 exact v_trailP E few hB a b _ (hG.refP q) _ ⟨rfl, hQ⟩
set_option maxRecDepth 20000 in
set_option maxHeartbeats 8000000 in
theorem v_closedR (E : LS) (few : E.length < 100000) (p : Pt) (G : Gl) (hG : RefG G E) (Q : Po)
 (hQ1 : ∀ t ∈ sortT (colOf (starF p) E), ∀ i, i < 3 → openR E p t i = true → Q (vB false) G)
 (hQ2 : (∀ t ∈ sortT (colOf (starF p) E), ∀ i, i < 3 → openR E p t i = false) → Q (vB (decide (((sortT (colOf (starF p) E)).length : Int) > 0))) G) : VC Tryz.prog 18 [vN, vV (ptV p)] G Q := by
 refine VC.of_body Tryz.func18 rfl rfl rfl fun W0 h0 x0 hG0 => ?_
 simp only [args0]
 have hfl : (sortT (colOf (starF p) E)).length < 1000000 := by
  have h1 := colOf_len (starF p) E
  rw [(sortT_perm _).length_eq]
  omega
 repeat' (first | refine VJ.seq ?_ | refine VJ.block ?_ | refine VJ.region_k fun K hK => ?_ | (refine VR.done (hK _ ?_); clear hK K) | (first | refine VR.move rfl rfl ?_ | refine VR.assign rfl rfl ?_ | (show onLd; refine VR.load tok rfl rfl rfl rfl ?_) | refine VR.box rfl rfl rfl ?_ | (refine VR.call fok14 rfl rfl rfl rfl ?_; refine v_star E few p _ hG _ ?_)))
 generalize sortT (colOf (starF p) E) = l at hQ1 hQ2 hfl ⊢
 refine VJ.to 1 [(6, vI ((0 : Nat) : Int)), (5, vL 6 (l.map Tr.v)), (3, .a (.ptr (.l 0) 0)), (0, vN)] [(0, bxP p)] ?_ rfl (by repeat' first | exact trivial | refine ⟨rfl, ?_⟩) (by repeat' first | exact trivial | refine ⟨rfl, ?_⟩) (by rfl)
 refine VJ.rec (fun j : Nat => ⟨1, [(6, vI j), (5, vL 6 (l.map Tr.v)), (3, .a (.ptr (.l 0) 0)), (0, vN)], [(0, bxP p)], G⟩) (fun j => l.length - j) (fun j => j ≤ l.length ∧ ∀ k (h : k < l.length), k < j → ∀ i, i < 3 → openR E p l[k] i = false) 0 ⟨Nat.zero_le _, fun k h h2 => absurd h2 (by omega)⟩ ?_
 rintro j ⟨hj, hal⟩ ih
 repeat' (first | refine VJ.seq ?_ | refine VJ.region_k fun K hK => ?_ | (refine VR.done (hK _ ?_); clear hK K) | (first | refine VR.move rfl rfl ?_ | refine VR.int rfl rfl rfl rfl ?_ | refine VR.len tok rfl rfl rfl rfl rfl ?_))
 refine VJ.cond rfl (fun hb => ?_) (fun hb => ?_)
 ·have hlt : j < l.length := by simpa using hb
  have hget := map_get_f hlt
  have hq1 := hQ1 l[j] (List.getElem_mem hlt)
  have ih' : (∀ i, i < 3 → openR E p l[j] i = false) → _ := fun h => ih (j + 1) ⟨hlt, fun k hk hkj i hi => by
   by_cases e : k = j
   ·subst e; exact h i hi
   ·exact hal k hk (by omega) i hi⟩ (by omega)
  clear ih hal hQ2 hQ1
  generalize l[j] = t at hget hq1 ih'
  repeat' (first | refine VJ.seq ?_ | refine VJ.skip ?_ | refine VJ.block ?_ | refine VJ.region_k fun K hK => ?_ | (refine VR.done (hK _ ?_); clear hK K) | (first | refine VR.move rfl rfl ?_ | refine VR.assign rfl rfl ?_ | (show onLd; refine VR.load tok rfl rfl rfl (by first | rfl | exact (ldp_el (by assumption)).trans (by rfl)) ?_) | (show onIx; refine VR.indexAddr tok rfl rfl rfl rfl rfl rfl rfl (elA_lst (by assumption)) ?_) | refine VR.alloc tok rfl rfl rfl ?_ | refine VR.store tok rfl rfl rfl rfl rfl rfl rfl (by first | (intro n e; cases e; done) | exact (fun _ _ q => all_glA (by rfl) q)) ?_) | (refine VR.call fok41 rfl rfl rfl rfl ?_; refine (v_edges t _ _ ?_)))
  refine VJ.to 2 [(8, vI ((0 : Nat) : Int)), (7, .a (.ptr (.l 1) 0)), (6, vI j), (5, vL 6 (l.map Tr.v)), (3, .a (.ptr (.l 0) 0)), (0, vN)] [(0, bxP p), (1, bxA t)] ?_ rfl (by repeat' first | exact trivial | refine ⟨rfl, ?_⟩) (by repeat' first | exact trivial | refine ⟨rfl, ?_⟩) (by rfl)
  refine VJ.rec (fun i : Nat => ⟨2, [(8, vI i), (7, .a (.ptr (.l 1) 0)), (6, vI j), (5, vL 6 (l.map Tr.v)), (3, .a (.ptr (.l 0) 0)), (0, vN)], [(0, bxP p), (1, bxA t)], G⟩) (fun i => 3 - i) (fun i => i ≤ 3 ∧ ∀ k, k < i → openR E p t k = false) 0 ⟨by decide, fun k h => absurd h (by omega)⟩ ?_
  rintro i ⟨hi, hal⟩ ih2
  by_cases hi3 : i < 3
  ·have hstep : openR E p t i = false → _ := fun hc => ih2 (i + 1) ⟨hi3, fun k hk => by
    by_cases e : k = i
    ·subst e; exact hc
    ·exact hal k (by omega)⟩ (by omega)
   have hq := hq1 i hi3
   clear ih2 hq1 ih' hal hb hget
   have h3 : i = 0 ∨ i = 1 ∨ i = 2 := by omega
   rcases h3 with rfl | rfl | rfl
   ·repeat' (first | refine VJ.seq ?_ | refine VJ.skip ?_ | refine VJ.block ?_ | refine VJ.cond_t rfl ?_ | refine VJ.region_k fun K hK => ?_ | (refine VR.done (hK _ ?_); clear hK K) | (first | refine VR.move rfl rfl ?_ | refine VR.int rfl rfl rfl rfl ?_))
    apply VJ.draw3 [13, 14] [(0, 0), (1, 0), (2, 0), (3, 0), (4, 0), (5, 0), (6, 0), (7, 0), (8, 0), (9, 0), (10, 0), (11, 0), (12, 0), (13, 0), (14, 1), (15, 2), (0, 1), (1, 1), (2, 1), (3, 1), (4, 1), (5, 1), (6, 1), (7, 1), (8, 1), (9, 1), (10, 1), (11, 1), (12, 1), (12, 2)] [[(0, none)], [(8, none)], [(7, none), (31, some 1)], [(32, some 2)], [(33, some 3)], [(8, none)], [(7, none), (35, some 5)], [(36, some 6)], [(37, some 7)], [(30, some 0), (34, some 4), (38, some 8)], [(39, some 9)], [(29, some 10)], [(29, some 10)], [], [(9, some 13), (40, some 11)], [(41, some 12)]] [[(0, _)], [(8, _)], [(7, _), (31, _)], [(32, _)], [(33, _)], [(8, _)], [(7, _), (35, _)], [(36, _)], [(37, _)], [(30, _), (34, _), (38, _)], [(39, _)], [(29, _)], [(29, _)], [], [(9, _), (40, _)], [(41, _)]] [_, _, _, _, _, _, _, _, _, _, _, _, _, _, (.a .top), _] [⟨_, _, _⟩, ⟨_, _, _⟩, ⟨_, _, _⟩] (by kernel_rfl) ?hok rfl ?hh rfl rfl ?hj
    case hh =>
     refine ⟨?_, ?_, ?_, ?_, ?_, ?_, ?_, ?_, ?_, ?_, ?_, ?_, ?_, ?_, ?_, ?_, ?_, ?_, ?_, ?_, ?_, ?_, ?_, ?_, ?_, ?_, ?_, ?_, ?_, ?_, trivial⟩
     all_goals (intro rest K1 hK1; (repeat (first | exact VR.done hK1 | (first | refine VR.move rfl rfl ?_ | refine VR.assign rfl rfl ?_ | (show onLd; refine VR.load tok rfl rfl rfl (by first | rfl | exact (ldp_el (by assumption)).trans (by rfl)) ?_) | (show onFa; refine VR.fieldAddr tok rfl rfl rfl (by first | rfl | exact place_el (by assumption)) rfl rfl ?_) | (show onIx; refine VR.indexArr tok rfl (arrOk (by rfl)) rfl rfl (by first | rfl | exact place_el (by assumption)) rfl rfl (by decide) rfl ?_) | refine VR.alloc tok rfl rfl rfl ?_ | refine VR.store tok rfl rfl rfl rfl rfl rfl rfl (by first | (intro n e; cases e; done) | exact (fun _ _ q => all_glA (by rfl) q)) ?_ | refine VR.extract rfl rfl rfl ?_) | (refine VR.call fok42 rfl rfl rfl rfl ?_; refine (v_leftR E t.b t.a _ hG _ ?_)))); try (first | exact VR.done hK1 | (refine VR.done ?_; dsimp only [S.set]; exact hK1)))
    case hok => kernel_rfl
    case hj =>
     dsimp only [List.append, tla]
     repeat' (first | refine VJ.seq ?_ | (fail))
     apply VJ.draw3 [] [(0, 0), (1, 0), (2, 0), (3, 0), (4, 0), (5, 0), (6, 0), (7, 0), (8, 0), (9, 0), (10, 0), (11, 0), (12, 0), (13, 0), (14, 0), (15, 0), (16, 0), (17, 0)] [[(8, none)], [(7, none), (42, some 0)], [(43, some 1)], [(44, some 2)], [(3, none)], [(45, some 3), (46, some 4)], [(47, some 5)], [(8, none), (48, some 6)], [(7, none), (49, some 7), (48, some 6)], [(50, some 8), (48, some 6)], [(51, some 9), (48, some 6)], [(3, none), (48, some 6)], [(52, some 10), (53, some 11), (48, some 6)], [(48, some 6), (54, some 12)], [(55, some 13)], [(10, none), (56, some 14)], [(57, some 15), (56, some 14)], [(56, some 14), (58, some 16)]] [[(8, _)], [(7, _), (42, _)], [(43, _)], [(44, _)], [(3, _)], [(45, _), (46, _)], [(47, _)], [(8, _), (48, _)], [(7, _), (49, _), (48, _)], [(50, _), (48, _)], [(51, _), (48, _)], [(3, _), (48, _)], [(52, _), (53, _), (48, _)], [(48, _), (54, _)], [(55, _)], [(10, _), (56, _)], [(57, _), (56, _)], [(56, _), (58, _)]] [_, _, _, _, _, _, _, _, _, _, _, _, _, _, _, _, _, _] [⟨_, _, _⟩] (by kernel_rfl) ?hok rfl ?hh rfl rfl ?hj
     case hh =>
      refine ⟨?_, ?_, ?_, ?_, ?_, ?_, ?_, ?_, ?_, ?_, ?_, ?_, ?_, ?_, ?_, ?_, ?_, ?_, trivial⟩
      all_goals (intro rest K1 hK1; (repeat (first | exact VR.done hK1 | (first | refine VR.move rfl rfl ?_ | (show onLd; refine VR.load tok rfl rfl rfl (by first | rfl | exact (ldp_el (by assumption)).trans (by rfl)) ?_) | (show onFa; refine VR.fieldAddr tok rfl rfl rfl (by first | rfl | exact place_el (by assumption)) rfl rfl ?_) | (show onIx; refine VR.indexArr tok rfl (arrOk (by rfl)) rfl rfl (by first | rfl | exact place_el (by assumption)) rfl rfl (by decide) rfl ?_) | (refine VR.pickB rfl rfl rfl rfl ?_ ?_ ?_; iterate 2 (first | exact trivial | (refine fun h => ?_; first | (rw [h]; rfl) | (rw [h, hg]; rfl) | (rw [hg, h]; rfl) | (simp [h, hg]; done)))) | (refine VR.bin rfl rfl rfl (eqP _ _ t.a p) ?_)) | (refine' VR.spec (by rfl) (by rfl) (by rfl) ?_ ?_ ?_; rotate_left 1; (repeat (first | exact trivial | refine And.intro id ?_)); intro hg K1 hK1; (first | refine VR.move rfl rfl ?_ | (show onLd; refine VR.load tok rfl rfl rfl (by first | rfl | exact (ldp_el (by assumption)).trans (by rfl)) ?_) | (show onFa; refine VR.fieldAddr tok rfl rfl rfl (by first | rfl | exact place_el (by assumption)) rfl rfl ?_) | (show onIx; refine VR.indexArr tok rfl (arrOk (by rfl)) rfl rfl (by first | rfl | exact place_el (by assumption)) rfl rfl (by decide) rfl ?_) | refine VR.not rfl rfl ?_ | (refine VR.bin rfl rfl rfl (eqP _ _ t.b p) ?_)); exact VR.done hK1))); try (first | exact VR.done hK1 | (refine VR.done ?_; dsimp only [S.set]; exact hK1)))
     case hok => kernel_rfl
     case hj =>
      dsimp only [List.append, tla]
      refine VJ.cond rfl (fun hc => ?_) (fun hc => ?_)
      ·have hc : openR E p t 0 = true := hc
       have hq2 := hq hc
       repeat' (first | refine VJ.seq ?_ | refine VJ.region_k fun K hK => ?_ | (refine VR.done (hK _ ?_); clear hK K) | (first | refine VR.assign rfl rfl ?_))
       refine VJ.ret tok (by rfl) (by rfl) ?_
       exact hq2
      ·have hc : openR E p t 0 = false := hc
       have ih3 := hstep hc
       repeat' (first | refine VJ.skip ?_ | refine VJ.inBlock ?_ | refine VJ.region_k fun K hK => ?_ | (refine VR.done (hK _ ?_); clear hK K) | (first | refine VR.move rfl rfl ?_ | refine VR.assign rfl rfl ?_ | refine VR.int rfl rfl rfl rfl ?_))
       exact VJ.to 2 _ _ ih3 rfl ⟨vI_succ (by omega), by rfl, by rfl, by rfl, by rfl, by rfl, trivial⟩ (by repeat' first | exact trivial | refine ⟨rfl, ?_⟩) (by rfl)
   ·repeat' (first | refine VJ.seq ?_ | refine VJ.skip ?_ | refine VJ.block ?_ | refine VJ.cond_t rfl ?_ | refine VJ.region_k fun K hK => ?_ | (refine VR.done (hK _ ?_); clear hK K) | (first | refine VR.move rfl rfl ?_ | refine VR.int rfl rfl rfl rfl ?_))
    apply VJ.draw3 [13, 14] [(0, 0), (1, 0), (2, 0), (3, 0), (4, 0), (5, 0), (6, 0), (7, 0), (8, 0), (9, 0), (10, 0), (11, 0), (12, 0), (13, 0), (14, 1), (15, 2), (0, 1), (1, 1), (2, 1), (3, 1), (4, 1), (5, 1), (6, 1), (7, 1), (8, 1), (9, 1), (10, 1), (11, 1), (12, 1), (12, 2)] [[(0, none)], [(8, none)], [(7, none), (31, some 1)], [(32, some 2)], [(33, some 3)], [(8, none)], [(7, none), (35, some 5)], [(36, some 6)], [(37, some 7)], [(30, some 0), (34, some 4), (38, some 8)], [(39, some 9)], [(29, some 10)], [(29, some 10)], [], [(9, some 13), (40, some 11)], [(41, some 12)]] [[(0, _)], [(8, _)], [(7, _), (31, _)], [(32, _)], [(33, _)], [(8, _)], [(7, _), (35, _)], [(36, _)], [(37, _)], [(30, _), (34, _), (38, _)], [(39, _)], [(29, _)], [(29, _)], [], [(9, _), (40, _)], [(41, _)]] [_, _, _, _, _, _, _, _, _, _, _, _, _, _, (.a .top), _] [⟨_, _, _⟩, ⟨_, _, _⟩, ⟨_, _, _⟩] (by kernel_rfl) ?hok rfl ?hh rfl rfl ?hj
    case hh =>
     refine ⟨?_, ?_, ?_, ?_, ?_, ?_, ?_, ?_, ?_, ?_, ?_, ?_, ?_, ?_, ?_, ?_, ?_, ?_, ?_, ?_, ?_, ?_, ?_, ?_, ?_, ?_, ?_, ?_, ?_, ?_, trivial⟩
     all_goals (intro rest K1 hK1; (repeat (first | exact VR.done hK1 | (first | refine VR.move rfl rfl ?_ | refine VR.assign rfl rfl ?_ | (show onLd; refine VR.load tok rfl rfl rfl (by first | rfl | exact (ldp_el (by assumption)).trans (by rfl)) ?_) | (show onFa; refine VR.fieldAddr tok rfl rfl rfl (by first | rfl | exact place_el (by assumption)) rfl rfl ?_) | (show onIx; refine VR.indexArr tok rfl (arrOk (by rfl)) rfl rfl (by first | rfl | exact place_el (by assumption)) rfl rfl (by decide) rfl ?_) | refine VR.alloc tok rfl rfl rfl ?_ | refine VR.store tok rfl rfl rfl rfl rfl rfl rfl (by first | (intro n e; cases e; done) | exact (fun _ _ q => all_glA (by rfl) q)) ?_ | refine VR.extract rfl rfl rfl ?_) | (refine VR.call fok42 rfl rfl rfl rfl ?_; refine (v_leftR E t.c t.b _ hG _ ?_)))); try (first | exact VR.done hK1 | (refine VR.done ?_; dsimp only [S.set]; exact hK1)))
    case hok => kernel_rfl
    case hj =>
     dsimp only [List.append, tla]
     repeat' (first | refine VJ.seq ?_ | (fail))
     apply VJ.draw3 [] [(0, 0), (1, 0), (2, 0), (3, 0), (4, 0), (5, 0), (6, 0), (7, 0), (8, 0), (9, 0), (10, 0), (11, 0), (12, 0), (13, 0), (14, 0), (15, 0), (16, 0), (17, 0)] [[(8, none)], [(7, none), (42, some 0)], [(43, some 1)], [(44, some 2)], [(3, none)], [(45, some 3), (46, some 4)], [(47, some 5)], [(8, none), (48, some 6)], [(7, none), (49, some 7), (48, some 6)], [(50, some 8), (48, some 6)], [(51, some 9), (48, some 6)], [(3, none), (48, some 6)], [(52, some 10), (53, some 11), (48, some 6)], [(48, some 6), (54, some 12)], [(55, some 13)], [(10, none), (56, some 14)], [(57, some 15), (56, some 14)], [(56, some 14), (58, some 16)]] [[(8, _)], [(7, _), (42, _)], [(43, _)], [(44, _)], [(3, _)], [(45, _), (46, _)], [(47, _)], [(8, _), (48, _)], [(7, _), (49, _), (48, _)], [(50, _), (48, _)], [(51, _), (48, _)], [(3, _), (48, _)], [(52, _), (53, _), (48, _)], [(48, _), (54, _)], [(55, _)], [(10, _), (56, _)], [(57, _), (56, _)], [(56, _), (58, _)]] [_, _, _, _, _, _, _, _, _, _, _, _, _, _, _, _, _, _] [⟨_, _, _⟩] (by kernel_rfl) ?hok rfl ?hh rfl rfl ?hj
     case hh =>
      refine ⟨?_, ?_, ?_, ?_, ?_, ?_, ?_, ?_, ?_, ?_, ?_, ?_, ?_, ?_, ?_, ?_, ?_, ?_, trivial⟩
      all_goals (intro rest K1 hK1; (repeat (first | exact VR.done hK1 | (first | refine VR.move rfl rfl ?_ | (show onLd; refine VR.load tok rfl rfl rfl (by first | rfl | exact (ldp_el (by assumption)).trans (by rfl)) ?_) | (show onFa; refine VR.fieldAddr tok rfl rfl rfl (by first | rfl | exact place_el (by assumption)) rfl rfl ?_) | (show onIx; refine VR.indexArr tok rfl (arrOk (by rfl)) rfl rfl (by first | rfl | exact place_el (by assumption)) rfl rfl (by decide) rfl ?_) | (refine VR.pickB rfl rfl rfl rfl ?_ ?_ ?_; iterate 2 (first | exact trivial | (refine fun h => ?_; first | (rw [h]; rfl) | (rw [h, hg]; rfl) | (rw [hg, h]; rfl) | (simp [h, hg]; done)))) | (refine VR.bin rfl rfl rfl (eqP _ _ t.b p) ?_)) | (refine' VR.spec (by rfl) (by rfl) (by rfl) ?_ ?_ ?_; rotate_left 1; (repeat (first | exact trivial | refine And.intro id ?_)); intro hg K1 hK1; (first | refine VR.move rfl rfl ?_ | (show onLd; refine VR.load tok rfl rfl rfl (by first | rfl | exact (ldp_el (by assumption)).trans (by rfl)) ?_) | (show onFa; refine VR.fieldAddr tok rfl rfl rfl (by first | rfl | exact place_el (by assumption)) rfl rfl ?_) | (show onIx; refine VR.indexArr tok rfl (arrOk (by rfl)) rfl rfl (by first | rfl | exact place_el (by assumption)) rfl rfl (by decide) rfl ?_) | refine VR.not rfl rfl ?_ | (refine VR.bin rfl rfl rfl (eqP _ _ t.c p) ?_)); exact VR.done hK1))); try (first | exact VR.done hK1 | (refine VR.done ?_; dsimp only [S.set]; exact hK1)))
     case hok => kernel_rfl
     case hj =>
      dsimp only [List.append, tla]
      refine VJ.cond rfl (fun hc => ?_) (fun hc => ?_)
      ·have hc : openR E p t 1 = true := hc
       have hq2 := hq hc
       repeat' (first | refine VJ.seq ?_ | refine VJ.region_k fun K hK => ?_ | (refine VR.done (hK _ ?_); clear hK K) | (first | refine VR.assign rfl rfl ?_))
       refine VJ.ret tok (by rfl) (by rfl) ?_
       exact hq2
      ·have hc : openR E p t 1 = false := hc
       have ih3 := hstep hc
       repeat' (first | refine VJ.skip ?_ | refine VJ.inBlock ?_ | refine VJ.region_k fun K hK => ?_ | (refine VR.done (hK _ ?_); clear hK K) | (first | refine VR.move rfl rfl ?_ | refine VR.assign rfl rfl ?_ | refine VR.int rfl rfl rfl rfl ?_))
       exact VJ.to 2 _ _ ih3 rfl ⟨vI_succ (by omega), by rfl, by rfl, by rfl, by rfl, by rfl, trivial⟩ (by repeat' first | exact trivial | refine ⟨rfl, ?_⟩) (by rfl)
   ·repeat' (first | refine VJ.seq ?_ | refine VJ.skip ?_ | refine VJ.block ?_ | refine VJ.cond_t rfl ?_ | refine VJ.region_k fun K hK => ?_ | (refine VR.done (hK _ ?_); clear hK K) | (first | refine VR.move rfl rfl ?_ | refine VR.int rfl rfl rfl rfl ?_))
    apply VJ.draw3 [13, 14] [(0, 0), (1, 0), (2, 0), (3, 0), (4, 0), (5, 0), (6, 0), (7, 0), (8, 0), (9, 0), (10, 0), (11, 0), (12, 0), (13, 0), (14, 1), (15, 2), (0, 1), (1, 1), (2, 1), (3, 1), (4, 1), (5, 1), (6, 1), (7, 1), (8, 1), (9, 1), (10, 1), (11, 1), (12, 1), (12, 2)] [[(0, none)], [(8, none)], [(7, none), (31, some 1)], [(32, some 2)], [(33, some 3)], [(8, none)], [(7, none), (35, some 5)], [(36, some 6)], [(37, some 7)], [(30, some 0), (34, some 4), (38, some 8)], [(39, some 9)], [(29, some 10)], [(29, some 10)], [], [(9, some 13), (40, some 11)], [(41, some 12)]] [[(0, _)], [(8, _)], [(7, _), (31, _)], [(32, _)], [(33, _)], [(8, _)], [(7, _), (35, _)], [(36, _)], [(37, _)], [(30, _), (34, _), (38, _)], [(39, _)], [(29, _)], [(29, _)], [], [(9, _), (40, _)], [(41, _)]] [_, _, _, _, _, _, _, _, _, _, _, _, _, _, (.a .top), _] [⟨_, _, _⟩, ⟨_, _, _⟩, ⟨_, _, _⟩] (by kernel_rfl) ?hok rfl ?hh rfl rfl ?hj
    case hh =>
     refine ⟨?_, ?_, ?_, ?_, ?_, ?_, ?_, ?_, ?_, ?_, ?_, ?_, ?_, ?_, ?_, ?_, ?_, ?_, ?_, ?_, ?_, ?_, ?_, ?_, ?_, ?_, ?_, ?_, ?_, ?_, trivial⟩
     all_goals (intro rest K1 hK1; (repeat (first | exact VR.done hK1 | (first | refine VR.move rfl rfl ?_ | refine VR.assign rfl rfl ?_ | (show onLd; refine VR.load tok rfl rfl rfl (by first | rfl | exact (ldp_el (by assumption)).trans (by rfl)) ?_) | (show onFa; refine VR.fieldAddr tok rfl rfl rfl (by first | rfl | exact place_el (by assumption)) rfl rfl ?_) | (show onIx; refine VR.indexArr tok rfl (arrOk (by rfl)) rfl rfl (by first | rfl | exact place_el (by assumption)) rfl rfl (by decide) rfl ?_) | refine VR.alloc tok rfl rfl rfl ?_ | refine VR.store tok rfl rfl rfl rfl rfl rfl rfl (by first | (intro n e; cases e; done) | exact (fun _ _ q => all_glA (by rfl) q)) ?_ | refine VR.extract rfl rfl rfl ?_) | (refine VR.call fok42 rfl rfl rfl rfl ?_; refine (v_leftR E t.a t.c _ hG _ ?_)))); try (first | exact VR.done hK1 | (refine VR.done ?_; dsimp only [S.set]; exact hK1)))
    case hok => kernel_rfl
    case hj =>
     dsimp only [List.append, tla]
     repeat' (first | refine VJ.seq ?_ | (fail))
     apply VJ.draw3 [] [(0, 0), (1, 0), (2, 0), (3, 0), (4, 0), (5, 0), (6, 0), (7, 0), (8, 0), (9, 0), (10, 0), (11, 0), (12, 0), (13, 0), (14, 0), (15, 0), (16, 0), (17, 0)] [[(8, none)], [(7, none), (42, some 0)], [(43, some 1)], [(44, some 2)], [(3, none)], [(45, some 3), (46, some 4)], [(47, some 5)], [(8, none), (48, some 6)], [(7, none), (49, some 7), (48, some 6)], [(50, some 8), (48, some 6)], [(51, some 9), (48, some 6)], [(3, none), (48, some 6)], [(52, some 10), (53, some 11), (48, some 6)], [(48, some 6), (54, some 12)], [(55, some 13)], [(10, none), (56, some 14)], [(57, some 15), (56, some 14)], [(56, some 14), (58, some 16)]] [[(8, _)], [(7, _), (42, _)], [(43, _)], [(44, _)], [(3, _)], [(45, _), (46, _)], [(47, _)], [(8, _), (48, _)], [(7, _), (49, _), (48, _)], [(50, _), (48, _)], [(51, _), (48, _)], [(3, _), (48, _)], [(52, _), (53, _), (48, _)], [(48, _), (54, _)], [(55, _)], [(10, _), (56, _)], [(57, _), (56, _)], [(56, _), (58, _)]] [_, _, _, _, _, _, _, _, _, _, _, _, _, _, _, _, _, _] [⟨_, _, _⟩] (by kernel_rfl) ?hok rfl ?hh rfl rfl ?hj
     case hh =>
      refine ⟨?_, ?_, ?_, ?_, ?_, ?_, ?_, ?_, ?_, ?_, ?_, ?_, ?_, ?_, ?_, ?_, ?_, ?_, trivial⟩
      all_goals (intro rest K1 hK1; (repeat (first | exact VR.done hK1 | (first | refine VR.move rfl rfl ?_ | (show onLd; refine VR.load tok rfl rfl rfl (by first | rfl | exact (ldp_el (by assumption)).trans (by rfl)) ?_) | (show onFa; refine VR.fieldAddr tok rfl rfl rfl (by first | rfl | exact place_el (by assumption)) rfl rfl ?_) | (show onIx; refine VR.indexArr tok rfl (arrOk (by rfl)) rfl rfl (by first | rfl | exact place_el (by assumption)) rfl rfl (by decide) rfl ?_) | (refine VR.pickB rfl rfl rfl rfl ?_ ?_ ?_; iterate 2 (first | exact trivial | (refine fun h => ?_; first | (rw [h]; rfl) | (rw [h, hg]; rfl) | (rw [hg, h]; rfl) | (simp [h, hg]; done)))) | (refine VR.bin rfl rfl rfl (eqP _ _ t.c p) ?_)) | (refine' VR.spec (by rfl) (by rfl) (by rfl) ?_ ?_ ?_; rotate_left 1; (repeat (first | exact trivial | refine And.intro id ?_)); intro hg K1 hK1; (first | refine VR.move rfl rfl ?_ | (show onLd; refine VR.load tok rfl rfl rfl (by first | rfl | exact (ldp_el (by assumption)).trans (by rfl)) ?_) | (show onFa; refine VR.fieldAddr tok rfl rfl rfl (by first | rfl | exact place_el (by assumption)) rfl rfl ?_) | (show onIx; refine VR.indexArr tok rfl (arrOk (by rfl)) rfl rfl (by first | rfl | exact place_el (by assumption)) rfl rfl (by decide) rfl ?_) | refine VR.not rfl rfl ?_ | (refine VR.bin rfl rfl rfl (eqP _ _ t.a p) ?_)); exact VR.done hK1))); try (first | exact VR.done hK1 | (refine VR.done ?_; dsimp only [S.set]; exact hK1)))
     case hok => kernel_rfl
     case hj =>
      dsimp only [List.append, tla]
      refine VJ.cond rfl (fun hc => ?_) (fun hc => ?_)
      ·have hc : openR E p t 2 = true := hc
       have hq2 := hq hc
       repeat' (first | refine VJ.seq ?_ | refine VJ.region_k fun K hK => ?_ | (refine VR.done (hK _ ?_); clear hK K) | (first | refine VR.assign rfl rfl ?_))
       refine VJ.ret tok (by rfl) (by rfl) ?_
       exact hq2
      ·have hc : openR E p t 2 = false := hc
       have ih3 := hstep hc
       repeat' (first | refine VJ.skip ?_ | refine VJ.inBlock ?_ | refine VJ.region_k fun K hK => ?_ | (refine VR.done (hK _ ?_); clear hK K) | (first | refine VR.move rfl rfl ?_ | refine VR.assign rfl rfl ?_ | refine VR.int rfl rfl rfl rfl ?_))
       exact VJ.to 2 _ _ ih3 rfl ⟨vI_succ (by omega), by rfl, by rfl, by rfl, by rfl, by rfl, trivial⟩ (by repeat' first | exact trivial | refine ⟨rfl, ?_⟩) (by rfl)
  ·have e3 : i = 3 := by omega
   subst e3
   have ih3 := ih' fun i hi => hal i hi
   clear ih2
   repeat' (first | refine VJ.seq ?_ | refine VJ.inBlock ?_ | refine VJ.exit rfl ?_ | refine VJ.cond_f rfl ?_ | refine VJ.region_k fun K hK => ?_ | (refine VR.done (hK _ ?_); clear hK K) | (first | refine VR.move rfl rfl ?_ | refine VR.assign rfl rfl ?_ | refine VR.int rfl rfl rfl rfl ?_))
   exact VJ.to 1 _ _ ih3 rfl ⟨vI_succ (by omega), by rfl, by rfl, by rfl, trivial⟩ (by repeat' first | exact trivial | refine ⟨rfl, ?_⟩) (by rfl)
 ·have hge : j = l.length := by simp at hb; omega
  subst hge
  have hq := hQ2 fun t ht i hi => by
   obtain ⟨k, hk, rfl⟩ := List.mem_iff_getElem.1 ht
   exact hal k hk hk i hi
  clear ih hQ1 hQ2
  repeat' (first | refine VJ.seq ?_ | refine VJ.exit rfl ?_ | refine VJ.region_k fun K hK => ?_ | (refine VR.done (hK _ ?_); clear hK K) | (first | refine VR.move rfl rfl ?_ | refine VR.assign rfl rfl ?_ | refine VR.int rfl rfl rfl rfl ?_ | refine VR.len tok rfl rfl rfl rfl rfl ?_))
  refine VJ.ret tok (by rfl) (by rfl) ?_
  rw [List.length_map]
  exact hq
end Go.Proofs.YtnpnjhopgedhkaaGreat
namespace Go.Proofs.YtnpnjhopgedhkaaGreat
open Go.RowKit V Geo
def closedV (E : LS) (p : Pt) (l : List Tr) : Bool := (l.all fun t => !(openR E p t 0) && !(openR E p t 1) && !(openR E p t 2)) && decide ((l.length : Int) > 0)
theorem closedV_no {E : LS} {p : Pt} {l : List Tr} {t : Tr} (ht : t ∈ l) {i : Nat} (hi : i < 3) (h : openR E p t i = true) : closedV E p l = false := by
 have : (l.all fun t => !(openR E p t 0) && !(openR E p t 1) && !(openR E p t 2)) = false := by
  rw [List.all_eq_false]
  refine ⟨t, ht, ?_⟩
  have h3 : i = 0 ∨ i = 1 ∨ i = 2 := by omega
  rcases h3 with rfl | rfl | rfl <;> simp [h]
 unfold closedV
 rw [this]; rfl
theorem closedV_yes {E : LS} {p : Pt} {l : List Tr} (h : ∀ t ∈ l, ∀ i, i < 3 → openR E p t i = false) : closedV E p l = decide ((l.length : Int) > 0) := by
 have : (l.all fun t => !(openR E p t 0) && !(openR E p t 1) && !(openR E p t 2)) = true := by
  rw [List.all_eq_true]
  intro t ht
  rw [h t ht 0 (by decide), h t ht 1 (by decide), h t ht 2 (by decide)]; rfl
 unfold closedV
 rw [this]; rfl
attribute [local irreducible] VR VJ VC decOk decBt
theorem v_closedMV {ts : TS} {le E : LS} (hP : PM ts le E (trisM ts)) (few : ts.length < 100000) (p : Pt) (G : Gl) (hG : MeshG G ts le) (hfr : Free 10 15 G) (Q : Po) (hQ : Q (vB (closedV E p ((trisM ts).filter fun t => cornB t p))) G) : VC Tryz.prog 17 [vM, vV (ptV p)] G Q := by
 refine v_closedM ts few le p G hG hfr Q (fun t ht i hi ho => ?_) (fun ho => ?_)
 ·rw [← openR_eq hP (List.mem_filter.1 ht).1] at ho
  rw [closedV_no ht hi ho] at hQ
  exact hQ
 ·rw [closedV_yes fun t ht i hi => by rw [openR_eq hP (List.mem_filter.1 ht).1]; exact ho t ht i hi] at hQ
  exact hQ
theorem v_closedRV (E : LS) (few : E.length < 100000) (p : Pt) (G : Gl) (hG : RefG G E) (Q : Po) (hQ : Q (vB (closedV E p (sortT (colOf (starF p) E)))) G) : VC Tryz.prog 18 [vN, vV (ptV p)] G Q := by
 refine v_closedR E few p G hG Q (fun t ht i hi ho => ?_) (fun ho => ?_)
 ·rw [closedV_no ht hi ho] at hQ
  exact hQ
 ·rw [closedV_yes ho] at hQ
  exact hQ
def fewC (s : Int) (n m : Int) : Bool := bif (bif (bif decide (s ≥ 1) then decide (s ≤ 40) else false) then decide (n ≤ 25) else false) then decide (m ≤ 12) else false
theorem fewC_yes {s n m : Int} (h : fewC s n m = true) : 1 ≤ s ∧ s ≤ 40 ∧ n ≤ 25 ∧ m ≤ 12 := by
 unfold fewC at h
 by_cases h1 : s ≥ 1 <;> by_cases h2 : s ≤ 40 <;> by_cases h3 : n ≤ 25 <;> by_cases h4 : m ≤ 12 <;> simp [h1, h2, h3, h4] at h ⊢ <;> omega
theorem v_fewW (s : Int) (ps : List Int) (ws : List (Int × Int)) (G : Gl) (Q : Po) (hQ : Q (vB (fewC s ((ps.map iV).length) ((ws.map prV).length))) G) : VC Tryz.prog 7 [vI s, vL 1 (ps.map iV), vL 2 (ws.map prV)] G Q := by
 refine VC.of_body Tryz.func7 rfl rfl rfl fun W0 h0 x0 hG0 => ?_
 simp only [args0]
 repeat' (first | refine VJ.seq ?_ | refine VJ.region_k fun K hK => ?_ | (refine VR.done (hK _ ?_); clear hK K) | (first | refine VR.move rfl rfl ?_ | refine VR.assign rfl rfl ?_ | refine VR.int rfl rfl rfl rfl ?_ | (refine VR.pickB rfl rfl rfl rfl ?_ ?_ ?_; iterate 2 (first | exact trivial | (refine fun h => ?_; first | (rw [h]; rfl) | (rw [h, hg]; rfl) | (rw [hg, h]; rfl) | (simp [h, hg]; done))))) | (refine' VR.spec (by rfl) (by rfl) (by rfl) ?_ ?_ ?_; rotate_left 1; (repeat (first | exact trivial | refine And.intro id ?_)); intro hg K1 hK1; (first | refine VR.move rfl rfl ?_ | refine VR.int rfl rfl rfl rfl ?_ | refine VR.len tok rfl rfl rfl rfl rfl ?_); exact VR.done hK1))
 refine VJ.ret tok (by rfl) (by rfl) ?_
 exact hQ
set_option maxRecDepth 20000 in
set_option maxHeartbeats 16000000 in
theorem v_walkTells (s : Int) (ps : List Int) (ws : List (Int × Int)) (p q : Pt) (Q : Po) (hQ : Q (vB true) E0) : VC Tryz.prog 3 [vI s, vL 1 (ps.map iV), vL 2 (ws.map prV), vV (ptV p), vV (ptV q)] E0 Q := by
 refine VC.of_body Tryz.func3 rfl rfl rfl fun W0 h0 x0 hG0 => ?_
 simp only [args0]
 repeat' (first | refine VJ.seq ?_ | refine VJ.region_k fun K hK => ?_ | (refine VR.done (hK _ ?_); clear hK K) | (first | refine VR.move rfl rfl ?_ | refine VR.assign rfl rfl ?_ | refine VR.not rfl rfl ?_ | refine VR.box rfl rfl rfl ?_) | (refine VR.call fok7 rfl rfl rfl rfl ?_; refine (v_fewW s ps ws _ _ ?_)))
 refine VJ.cond rfl (fun hc => ?_) (fun hc => ?_)
 ·repeat' (first | refine VJ.seq ?_ | refine VJ.region_k fun K hK => ?_ | (refine VR.done (hK _ ?_); clear hK K) | (first | refine VR.assign rfl rfl ?_ | (refine VR.callk (fun _ => false) [] fok8 rfl rfl rfl rfl (fun _ _ h => by cases h) ?_; refine v_awakeW _ ⟨(fun n h => rfl), .inl rfl, ?_⟩; rw [GM_false])))
  refine VJ.retF (r := vB true) tok (by rfl) (by rfl) hG0 (fun n o h => by cases h) (by rfl) hQ
 have hc : (!fewC s ((ps.map iV).length) ((ws.map prV).length)) = false := hc
 obtain ⟨hs1, hs2, hps, hws⟩ := fewC_yes (by cases e : fewC s ((ps.map iV).length) ((ws.map prV).length) with
  | true => rfl
  | false => rw [e] at hc; cases hc)
 rw [List.length_map] at hps hws
 clear hc
 repeat' (first | refine VJ.seq ?_ | refine VJ.skip ?_ | refine VJ.cond_f rfl ?_ | refine VJ.region_k fun K hK => ?_ | (refine VR.done (hK _ ?_); clear hK K) | (first | refine VR.move rfl rfl ?_ | refine VR.assign rfl rfl ?_ | refine VR.extract rfl rfl rfl ?_ | refine VR.eqNil rfl rfl rfl rfl (ptrOk (by rfl)) ?_ | (refine VR.call fok9 rfl rfl rfl rfl ?_; refine v_builtW s hs1 hs2 ps (by omega) ws (by omega) _ (fun ts le E W hT hP hlen => ?_))))
 have few : ts.length < 100000 := by omega
 have hlenM := trisM_len ts
 have fewE : E.length < 100000 := by rw [hP.mo.len]; omega
 have hts := hT.box' hs2
 have hin := entry_in hT hs2
 have hRG := GL_ref ts le E W s
 have eA := at_eqR hT p
 have eS := star_eqR hT p
 have eT := trail_eqR hT p q
 have lA := List.length_filter_le (fun t => hasP t p) (trisM ts)
 have lS := List.length_filter_le (fun t => cornB t p) (trisM ts)
 have lT := List.length_filter_le (fun t => alongT t p q) (trisM ts)
 obtain ⟨A, hA⟩ : ∃ A, ((trisM ts).filter fun t => hasP t p) = A := ⟨_, rfl⟩
 obtain ⟨S, hS⟩ : ∃ S, ((trisM ts).filter fun t => cornB t p) = S := ⟨_, rfl⟩
 obtain ⟨T, hTT⟩ : ∃ T, ((trisM ts).filter fun t => alongT t p q) = T := ⟨_, rfl⟩
 rw [hA] at eA lA
 rw [hS] at eS lS
 rw [hTT] at eT lT
 have dA : decide (A = A) = true := decide_eq_true rfl
 have dS : decide (S = S) = true := decide_eq_true rfl
 have dT : decide (T = T) = true := decide_eq_true rfl
 have hbb : (closedV E p S == closedV E p S) = true := by cases closedV E p S <;> rfl
 apply VJ.draw3 [] [(0, 0), (1, 0), (2, 0), (3, 0), (4, 0), (5, 0), (6, 0), (7, 0), (8, 0), (9, 0), (10, 0), (11, 0), (12, 0), (13, 0), (14, 0), (15, 0), (16, 0), (17, 0), (18, 0), (19, 0), (20, 0), (21, 0), (22, 0), (23, 0), (24, 0), (25, 0), (26, 0), (27, 0), (28, 0), (29, 0), (30, 0), (31, 0), (32, 0), (33, 0), (34, 0), (35, 0), (36, 0), (37, 0), (38, 0), (39, 0), (40, 0), (41, 0), (42, 0), (43, 0), (44, 0), (45, 0), (46, 0), (47, 0), (48, 0), (49, 0), (50, 0), (51, 0)] [[(11, none)], [(8, none)], [(28, some 0), (29, some 1)], [(12, none)], [(31, some 3)], [(32, some 4)], [(33, some 5)], [(8, none)], [(34, some 6), (35, some 7)], [(30, some 2), (36, some 8)], [(37, some 9)], [(11, none), (38, some 10)], [(8, none), (38, some 10)], [(39, some 11), (40, some 12), (38, some 10)], [(12, none), (38, some 10)], [(42, some 14), (38, some 10)], [(43, some 15), (38, some 10)], [(44, some 16), (38, some 10)], [(8, none), (38, some 10)], [(45, some 17), (46, some 18), (38, some 10)], [(41, some 13), (47, some 19), (38, some 10)], [(38, some 10), (48, some 20)], [(49, some 21)], [(11, none), (50, some 22)], [(8, none), (50, some 22)], [(9, none), (50, some 22)], [(51, some 23), (52, some 24), (53, some 25), (50, some 22)], [(12, none), (50, some 22)], [(55, some 27), (50, some 22)], [(56, some 28), (50, some 22)], [(57, some 29), (50, some 22)], [(8, none), (50, some 22)], [(9, none), (50, some 22)], [(58, some 30), (59, some 31), (60, some 32), (50, some 22)], [(54, some 26), (61, some 33), (50, some 22)], [(50, some 22), (62, some 34)], [(63, some 35)], [(11, none), (64, some 36)], [(8, none), (64, some 36)], [(65, some 37), (66, some 38), (64, some 36)], [(12, none), (64, some 36)], [(68, some 40), (64, some 36)], [(69, some 41), (64, some 36)], [(70, some 42), (64, some 36)], [(8, none), (64, some 36)], [(71, some 43), (72, some 44), (64, some 36)], [(67, some 39), (73, some 45), (64, some 36)], [(64, some 36), (74, some 46)], [(75, some 47)], [(76, some 48)], [(76, some 48), (77, some 49)], [(78, some 50)]] [[(11, _)], [(8, _)], [(28, _), (29, _)], [(12, _)], [(31, _)], [(32, _)], [(33, _)], [(8, _)], [(34, _), (35, _)], [(30, _), (36, _)], [(37, _)], [(11, _), (38, _)], [(8, _), (38, _)], [(39, _), (40, _), (38, _)], [(12, _), (38, _)], [(42, _), (38, _)], [(43, _), (38, _)], [(44, _), (38, _)], [(8, _), (38, _)], [(45, _), (46, _), (38, _)], [(41, _), (47, _), (38, _)], [(38, _), (48, _)], [(49, _)], [(11, _), (50, _)], [(8, _), (50, _)], [(9, _), (50, _)], [(51, _), (52, _), (53, _), (50, _)], [(12, _), (50, _)], [(55, _), (50, _)], [(56, _), (50, _)], [(57, _), (50, _)], [(8, _), (50, _)], [(9, _), (50, _)], [(58, _), (59, _), (60, _), (50, _)], [(54, _), (61, _), (50, _)], [(50, _), (62, _)], [(63, _)], [(11, _), (64, _)], [(8, _), (64, _)], [(65, _), (66, _), (64, _)], [(12, _), (64, _)], [(68, _), (64, _)], [(69, _), (64, _)], [(70, _), (64, _)], [(8, _), (64, _)], [(71, _), (72, _), (64, _)], [(67, _), (73, _), (64, _)], [(64, _), (74, _)], [(75, _)], [(76, _)], [(76, _), (77, _)], [(78, _)]] [_, _, _, _, _, _, _, _, _, _, _, _, _, _, _, _, _, _, _, _, _, _, _, _, _, _, _, _, _, _, _, _, _, _, _, _, _, _, _, _, _, _, _, _, _, _, _, _, _, _, _, _] [⟨_, _, _⟩] (by kernel_rfl) ?hok rfl ?hh rfl rfl ?hj
 case hh =>
  refine ⟨?_, ?_, ?_, ?_, ?_, ?_, ?_, ?_, ?_, ?_, ?_, ?_, ?_, ?_, ?_, ?_, ?_, ?_, ?_, ?_, ?_, ?_, ?_, ?_, ?_, ?_, ?_, ?_, ?_, ?_, ?_, ?_, ?_, ?_, ?_, ?_, ?_, ?_, ?_, ?_, ?_, ?_, ?_, ?_, ?_, ?_, ?_, ?_, ?_, ?_, ?_, ?_, trivial⟩
  all_goals (intro rest K1 hK1; (repeat (first | exact VR.done hK1 | (first | (refine VR.bin rfl rfl rfl (eqBB_of hbb _ _) ?_) | refine VR.move rfl rfl ?_ | refine VR.assign rfl rfl ?_ | (show onLd; refine VR.load tok rfl rfl rfl rfl ?_) | (show onFa; refine VR.fieldAddr tok rfl rfl rfl rfl rfl rfl ?_) | (refine VR.pickB rfl rfl rfl rfl ?_ ?_ ?_; iterate 2 (first | exact trivial | (refine fun h => ?_; first | (rw [h]; rfl) | (rw [h, hg]; rfl) | (rw [hg, h]; rfl) | (simp [h, hg]; done)))) | refine VR.g_yes rfl rfl (by first | rfl | assumption) ?_ | refine VR.nilCheck rfl rfl rfl ?_ | (refine VR.call fok11 rfl rfl rfl rfl ?_; refine v_atM ts few le p _ (GL_mesh _ _ _ _ _) (GL_free _ _ _ _ _) _ ?_; rw [hA]) | (refine VR.call fok12 rfl rfl rfl rfl ?_; refine v_at E fewE p _ hRG _ ?_; rw [eA]) | (refine VR.call fok13 rfl rfl rfl rfl ?_; refine v_starM ts few le p _ (GL_mesh _ _ _ _ _) (GL_free _ _ _ _ _) _ ?_; rw [hS]) | (refine VR.call fok14 rfl rfl rfl rfl ?_; refine v_star E fewE p _ hRG _ ?_; rw [eS]) | (refine VR.call fok15 rfl rfl rfl rfl ?_; refine v_trailM ts few le hts p q _ (GL_mesh _ _ _ _ _) (GL_free _ _ _ _ _) _ ?_; rw [hTT]) | (refine VR.call fok16 rfl rfl rfl rfl ?_; refine v_trailRG E fewE hin p q _ hRG _ ?_; rw [eT]) | (refine VR.call fok17 rfl rfl rfl rfl ?_; refine v_closedMV hP few p _ (GL_mesh _ _ _ _ _) (GL_free _ _ _ _ _) _ ?_; rw [hS]) | (refine VR.call fok18 rfl rfl rfl rfl ?_; refine v_closedRV E fewE p _ hRG _ ?_; rw [eS]) | (refine VR.call fok10 rfl rfl rfl rfl ?_; refine v_alikeT A A (by omega) (by omega) _ _ ?_; rw [dA]) | (refine VR.call fok10 rfl rfl rfl rfl ?_; refine v_alikeT S S (by omega) (by omega) _ _ ?_; rw [dS]) | (refine VR.call fok10 rfl rfl rfl rfl ?_; refine v_alikeT T T (by omega) (by omega) _ _ ?_; rw [dT]) | (refine VR.callk (fun _ => false) [] fok8 rfl rfl rfl rfl (fun _ _ h => by cases h) ?_; refine v_awakeW _ ⟨(fun n h => rfl), .inl rfl, ?_⟩; rw [GM_false])))); try (first | exact VR.done hK1 | (refine VR.done ?_; dsimp only [S.set]; exact hK1)))
 case hok => kernel_rfl
 case hj =>
  dsimp only [List.append, tla]
  repeat' (first | (fail))
  refine VJ.retF (r := vB true) tok (by rfl) (by rfl) hG0 (fun n o h => by cases h) (by rfl) hQ
end Go.Proofs.YtnpnjhopgedhkaaGreat
namespace Go.Proofs.YtnpnjhopgedhkaaGreat
open Go.RowKit V Geo Go.ChangeShapes Go.WideShapes
theorem ri_of {W : World} {a : Option Addr} {len cap : Nat} {zs : List Int} (y : Flat.IsFlat 1 W a len cap zs) : ∃ l : List Int, IsL (fun _ => none) W 1 (l.map iV) (.slice a len cap) := by
 rcases Nat.eq_zero_or_pos len with rfl | hp
 ·exact ⟨[], .inl ⟨rfl, a, cap, rfl⟩⟩
 ·obtain ⟨b, o, rfl, hb, hc⟩ := Flat.cellsAt y (by omega)
  have hle : len ≤ cap := by
   rcases y with ⟨e, _⟩ | ⟨x, e, h1, _⟩
   ·cases e
   ·exact h1
  refine ⟨(List.range len).map fun i => zs.getD i 0, .inr ⟨b, o, cap, by simp, by simpa using hle, hb, none_mutb, ?_, ?_⟩⟩
  ·intro x hx
   obtain ⟨q, _, rfl⟩ := List.mem_map.1 hx
   rfl
  ·intro j c hj
   rw [cellsL_one _ (fun u hu => by obtain ⟨q, _, rfl⟩ := List.mem_map.1 hu; rfl), List.map_map] at hj
   have hlt : j < len := by
    have h1 := (List.getElem?_eq_some_iff.1 hj).1
    simpa using h1
   rw [List.getElem?_map, List.getElem?_range hlt] at hj
   simp only [Option.map_some, Function.comp_apply, Option.some.injEq] at hj
   subst hj
   exact (hc W (Below.refl _ W) j (by omega)).1
end Go.Proofs.YtnpnjhopgedhkaaGreat
namespace Go.Proofs.YtnpnjhopgedhkaaGreat
open Go.RowKit V Geo Go.ChangeShapes Go.WideShapes
theorem rp_of {W : World} {a : Option Addr} {len cap : Nat} {zs : List Int} (y : Flat.IsFlat 2 W a len cap zs) : ∃ l : List (Int × Int), IsL (fun _ => none) W 2 (l.map prV) (.slice a len cap) := by
 refine ⟨(List.range len).map fun i => (zs.getD (i * 2 + 0) 0, zs.getD (i * 2 + 1) 0), ?_⟩
 have := isl_rows (by decide) y
 rw [List.map_map]
 exact this
set_option maxRecDepth 100000 in
theorem walkTells_w (W : World) (s : Int) (a1 : Option Addr) (len1 cap1 : Nat) (zs1 : List Int) (y1 : Flat.IsFlat 1 W a1 len1 cap1 zs1) (a2 : Option Addr) (len2 cap2 : Nat) (zs2 : List Int) (y2 : Flat.IsFlat 2 W a2 len2 cap2 zs2) (c d e f : Int) :
 Calls Tryz.prog 3 #[.int .i64 s, .slice a1 len1 cap1, .slice a2 len2 cap2, .agg #[.int .i64 c, .int .i64 d], .agg #[.int .i64 e, .int .i64 f]] W fun e W' => e = .returned (.bool true) ∧ Below W.heap.size W W' := by
 obtain ⟨l1, h1⟩ := ri_of y1
 obtain ⟨l2, h2⟩ := rp_of y2
 exact VC.calls (args := [vI s, vL 1 (l1.map iV), vL 2 (l2.map prV), vV (ptV ⟨c, d⟩), vV (ptV ⟨e, f⟩)]) (v_walkTells s l1 l2 ⟨c, d⟩ ⟨e, f⟩ _ rfl) (RVs.cons rfl (RVs.cons (by exact h1) (RVs.cons (by exact h2) (RVs.cons rfl (RVs.cons rfl RVs.nil)))))
end Go.Proofs.YtnpnjhopgedhkaaGreat
