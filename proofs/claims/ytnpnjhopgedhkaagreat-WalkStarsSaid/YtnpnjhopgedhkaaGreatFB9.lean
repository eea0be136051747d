/- Texts of the proof, one behind the other: E2, E3, D3, D4, Y1, E4, E5, E6, E7, RiW, StarsW. Conditions: each lemma's own. -/
import Derived.Test.YtnpnjhopgedhkaaGreatFB8
import Derived.Test.YtnpnjhopgedhkaaGreatFB4
import Derived.Test.YtnpnjhopgedhkaaGreatFB5
import Derived.Test.YtnpnjhopgedhkaaGreatFB7

/- Whether a triangle and a way go along each other: reach.Along. Conditions: the corners and the points lie in a square of 64 by 64. -/
namespace Go.Proofs.YtnpnjhopgedhkaaGreat
open Go.RowKit V Geo
set_option linter.unusedVariables false

theorem alongS_cons (x y : Int) (l : List (Int × Int)) (f t : Int × Int) : alongS ((x, y) :: l) f t = if (x < 0 ∧ y ≤ 0) ∨ (x = 0 ∧ y < 0) then false
   else if x < 0 then alongS l (if f.1 * (y - x) < -x * f.2 then (-x, y - x) else f) t
   else if y < 0 then alongS l f (if x * t.2 < t.1 * (x - y) then (x, x - y) else t)
   else alongS l f t := rfl
theorem standL_drop (t : Tr) (p q : Pt) {i : Nat} (h : i < 3) : (standL t p q).drop i = (tw (t.cor i) (t.cor (i + 1)) p, tw (t.cor i) (t.cor (i + 1)) q) :: (standL t p q).drop (i + 1) := by
  have : i = 0 ∨ i = 1 ∨ i = 2 := by omega
  rcases this with rfl | rfl | rfl <;> rfl

theorem cor_inB {t : Tr} (h : inB t.a ∧ inB t.b ∧ inB t.c) : ∀ i, inB (t.cor i)
  | 0 => h.1
  | 1 => h.2.1
  | 2 => h.2.2
  | (_ + 3) => h.1

attribute [local irreducible] VR VJ VC decOk decBt
theorem v_sideE {a b p : Pt} {x : Int} (e : twI a b p = x) (G : Gl) (Q : Po) (hQ : Q (vI x) G) : VC Tryz.prog 61 [vV (ptV a), vV (ptV b), vV (ptV p)] G Q := v_side a b p G Q (e ▸ hQ)
theorem v_lessE (f t : Int × Int) {a b : Value} (ea : a = parV f) (eb : b = parV t) (hf : parOk f) (ht : parOk t) (G : Gl) (Q : Po) (hQ : Q (vB (decide (f.1 * t.2 < t.1 * f.2))) G) : VC Tryz.prog 62 [vV a, vV b] G Q := by
  subst ea; subst eb; exact v_less f t hf ht G Q hQ
set_option maxRecDepth 20000 in
set_option maxHeartbeats 4000000 in
theorem v_along (t : Tr) (hi : inB t.a ∧ inB t.b ∧ inB t.c) (p q : Pt) (hp : inB p) (hq : inB q) (G : Gl) (Q : Po) (hQ : Q (vB (alongT t p q)) G) : VC Tryz.prog 37 [vV t.v, vV (ptV p), vV (ptV q)] G Q := by
  refine VC.of_body Tryz.func37 rfl rfl rfl fun W0 h0 x0 hG0 => ?_
  simp only [args0]
  repeat' (first | refine VJ.seq ?_ | refine VJ.region_k fun K hK => ?_ | (refine VR.done (hK _ ?_); clear hK K) | (first | refine VR.move rfl rfl ?_ | refine VR.assign rfl rfl ?_ | (show onLd; refine VR.load tok rfl rfl rfl (by first | rfl | exact (ldp_el (by assumption)).trans (by rfl)) ?_) | (refine VR.pickB rfl rfl rfl rfl ?_ ?_ ?_; (first | exact trivial | (refine fun h => ?_; first | (rw [h]; rfl) | (rw [h, hg]; rfl) | (rw [hg, h]; rfl) | (simp [h, hg]; done))); (first | exact trivial | (refine fun h => ?_; first | (rw [h]; rfl) | (rw [h, hg]; rfl) | (rw [hg, h]; rfl) | (simp [h, hg]; done)))) | refine VR.not rfl rfl ?_ | refine VR.box rfl rfl rfl ?_) | (refine' VR.spec (by rfl) (by rfl) (by rfl) ?_ ?_ ?_; rotate_left 1; (repeat (first | exact trivial | refine And.intro id ?_)); intro hg K1 hK1; (first | (show onLd; refine VR.load tok rfl rfl rfl (by first | rfl | exact (ldp_el (by assumption)).trans (by rfl)) ?_) | refine VR.not rfl rfl ?_ | (refine VR.bin rfl rfl rfl (eqP _ _ _ _) ?_) | (refine VR.call fok60 rfl rfl rfl rfl ?_; refine (v_valid p _ _ ?_)) | (refine VR.call fok60 rfl rfl rfl rfl ?_; refine (v_valid q _ _ ?_))); exact VR.done hK1) | (refine VR.call fok59 rfl rfl rfl rfl ?_; refine (v_validT t _ _ ?_)))
  refine VJ.cond rfl (fun hc => ?_) (fun hc => ?_)
  · have hc : (bif (bif (bif !validT t then true else !decide p.ok) then true else !decide q.ok) then true else decide (p = q)) = true := hc
    have e : alongT t p q = false := by unfold alongT; rw [hc]; rfl
    rw [e] at hQ
    repeat' (first | refine VJ.seq ?_ | refine VJ.region_k fun K hK => ?_ | (refine VR.done (hK _ ?_); clear hK K) | (first | refine VR.assign rfl rfl ?_))
    refine VJ.ret tok (by rfl) (by rfl) ?_
    exact hQ
  · have hc : (bif (bif (bif !validT t then true else !decide p.ok) then true else !decide q.ok) then true else decide (p = q)) = false := hc
    have e : alongT t p q = alongS (standL t p q) (0, 1) (1, 1) := by unfold alongT; rw [hc]; rfl
    rw [e] at hQ
    clear e hc
    obtain ⟨r, hr⟩ : ∃ r, alongS (standL t p q) (0, 1) (1, 1) = r := ⟨_, rfl⟩
    rw [hr] at hQ
    repeat' (first | refine VJ.seq ?_ | refine VJ.skip ?_ | refine VJ.block ?_ | refine VJ.region_k fun K hK => ?_ | (refine VR.done (hK _ ?_); clear hK K) | (first | refine VR.move rfl rfl ?_ | refine VR.alloc tok rfl rfl rfl ?_ | refine VR.store tok rfl rfl rfl rfl rfl rfl rfl (by first | (intro n e; cases e; done) | exact (fun _ _ q => all_glA (by rfl) q)) ?_ | refine VR.buildL (n := 1) [_, _] tok rfl rfl rfl rfl rfl rfl rfl rfl ?_))
    refine VJ.to 5 [(36, vI ((0 : Nat) : Int)), (8, .a (.ptr (.l 4) 0)), (7, .a (.ptr (.l 3) 0)), (5, .a (.ptr (.l 2) 0)), (4, .a (.ptr (.l 1) 0)), (3, .a (.ptr (.l 0) 0))] [(0, bxT t), (1, bxP p), (2, bxP q), (3, bxPar (0, 1)), (4, bxPar (1, 1))] ?_ rfl (by repeat' (first | exact trivial | refine And.intro rfl ?_)) (by repeat' (first | exact trivial | refine And.intro rfl ?_)) (by rfl)
    refine VJ.rec (fun a : Nat × (Int × Int) × (Int × Int) => ⟨5, [(36, vI a.1), (8, .a (.ptr (.l 4) 0)), (7, .a (.ptr (.l 3) 0)), (5, .a (.ptr (.l 2) 0)), (4, .a (.ptr (.l 1) 0)), (3, .a (.ptr (.l 0) 0))], [(0, bxT t), (1, bxP p), (2, bxP q), (3, bxPar a.2.1), (4, bxPar a.2.2)], G⟩) (fun a => 3 - a.1) (fun a => a.1 ≤ 3 ∧ parOk a.2.1 ∧ parOk a.2.2 ∧ alongS ((standL t p q).drop a.1) a.2.1 a.2.2 = r) (0, (0, 1), (1, 1)) ⟨by decide, by unfold parOk; decide, by unfold parOk; decide, hr⟩ ?_
    rintro ⟨i, f, u⟩ ⟨hi3, hf, hu, hal⟩ ih
    dsimp only at hi3 hf hu hal ih ⊢
    clear hr
    by_cases hlt : i < 3
    · have hb : decide ((i : Int) < 3) = true := decide_eq_true (by omega)
      rw [standL_drop t p q hlt] at hal
      have b1 := cor_inB hi i
      have b2 := cor_inB hi (i + 1)
      obtain ⟨x, ex⟩ : ∃ x, tw (t.cor i) (t.cor (i + 1)) p = x := ⟨_, rfl⟩
      obtain ⟨y, ey⟩ : ∃ y, tw (t.cor i) (t.cor (i + 1)) q = y := ⟨_, rfl⟩
      have dx := tw_bd b1 b2 hp
      have dy := tw_bd b1 b2 hq
      have ex2 := (tw_parts b1.ok b2.ok hp.ok).2.2
      have ey2 := (tw_parts b1.ok b2.ok hq.ok).2.2
      rw [ex] at hal dx ex2
      rw [ey] at hal dy ey2
      rw [alongS_cons] at hal
      clear ex ey
      repeat' (first | refine VJ.seq ?_ | refine VJ.region_k fun K hK => ?_ | (refine VR.done (hK _ ?_); clear hK K) | (first | refine VR.int rfl rfl rfl rfl ?_))
      refine VJ.cond rfl (fun _ => ?_) (fun h => absurd (hb.symm.trans h) (by simp))
      repeat' (first | refine VJ.seq ?_ | refine VJ.skip ?_ | refine VJ.block ?_ | refine VJ.region_k fun K hK => ?_ | (refine VR.done (hK _ ?_); clear hK K) | (first | refine VR.move rfl rfl ?_ | refine VR.assign rfl rfl ?_ | (show onLd; refine VR.load tok rfl rfl rfl (by first | rfl | exact (ldp_el (by assumption)).trans (by rfl)) ?_) | refine VR.alloc tok rfl rfl rfl ?_ | refine VR.store tok rfl rfl rfl rfl rfl rfl rfl (by first | (intro n e; cases e; done) | exact (fun _ _ q => all_glA (by rfl) q)) ?_ | refine VR.extract rfl rfl rfl ?_) | (refine VR.call fok39 rfl rfl rfl rfl ?_; refine (v_edge t i hlt _ _ ?_)))
      apply VJ.draw3 [] [(0, 0), (1, 0), (2, 0), (3, 0), (4, 0), (5, 0), (6, 0), (7, 0), (8, 0), (9, 0)] [[(10, none)], [(11, none)], [(4, none)], [(45, some 0), (46, some 1), (47, some 2)], [(10, none)], [(11, none)], [(5, none)], [(49, some 4), (50, some 5), (51, some 6)], [(48, some 3)], [(52, some 7)]] [[(10, _)], [(11, _)], [(4, _)], [(45, _), (46, _), (47, _)], [(10, _)], [(11, _)], [(5, _)], [(49, _), (50, _), (51, _)], [(48, _)], [(52, _)]] [_, _, _, _, _, _, _, _, _, _] [⟨_, _, _⟩] (by kernel_rfl) ?hok rfl ?hh rfl rfl ?hj
      case hh =>
        refine ⟨?_, ?_, ?_, ?_, ?_, ?_, ?_, ?_, ?_, ?_, trivial⟩
        all_goals (intro rest K1 hK1; (repeat (first | exact VR.done hK1 | (first | refine VR.assign rfl rfl ?_ | (show onLd; refine VR.load tok rfl rfl rfl (by first | rfl | exact (ldp_el (by assumption)).trans (by rfl)) ?_)) | (refine VR.call fok61 rfl rfl rfl rfl ?_; refine (v_sideE ex2 _ _ ?_)) | (refine VR.call fok61 rfl rfl rfl rfl ?_; refine (v_sideE ey2 _ _ ?_)))); try (first | exact VR.done hK1 | (refine VR.done ?_; dsimp only [S.set]; exact hK1)))
      case hok => kernel_rfl
      case hj =>
        dsimp only [List.append, tla]
        repeat' (first | refine VJ.seq ?_ | refine VJ.block ?_ | refine VJ.region_k fun K hK => ?_ | (refine VR.done (hK _ ?_); clear hK K) | (first | refine VR.move rfl rfl ?_ | refine VR.assign rfl rfl ?_ | refine VR.int rfl rfl rfl rfl ?_ | (refine VR.pickB rfl rfl rfl rfl ?_ ?_ ?_; (first | exact trivial | (refine fun h => ?_; first | (rw [h]; rfl) | (rw [h, hg]; rfl) | (rw [hg, h]; rfl) | (simp [h, hg]; done))); (first | exact trivial | (refine fun h => ?_; first | (rw [h]; rfl) | (rw [h, hg]; rfl) | (rw [hg, h]; rfl) | (simp [h, hg]; done))))) | (refine' VR.spec (by rfl) (by rfl) (by rfl) ?_ ?_ ?_; rotate_left 1; (repeat (first | exact trivial | refine And.intro id ?_)); intro hg K1 hK1; (first | refine VR.move rfl rfl ?_ | refine VR.int rfl rfl rfl rfl ?_); exact VR.done hK1))
        refine VJ.cond rfl (fun h1 => ?_) (fun h1 => ?_)
        · have h1 : (bif decide (x < 0) then decide (y ≤ 0) else false) = true := h1
          have hxy : x < 0 ∧ y ≤ 0 := by by_cases k1 : x < 0 <;> by_cases k2 : y ≤ 0 <;> simp [k1, k2] at h1 ⊢
          rw [if_pos (.inl hxy)] at hal
          subst hal
          repeat' (first | refine VJ.skip ?_ | (fail))
          refine VJ.cond rfl (fun _ => ?_) (fun h => absurd (h1.symm.trans h) (by simp))
          repeat' (first | refine VJ.seq ?_ | refine VJ.region_k fun K hK => ?_ | (refine VR.done (hK _ ?_); clear hK K) | (first | refine VR.assign rfl rfl ?_))
          refine VJ.ret tok (by rfl) (by rfl) ?_
          exact hQ
        have h1 : (bif decide (x < 0) then decide (y ≤ 0) else false) = false := h1
        have n1 : ¬ (x < 0 ∧ y ≤ 0) := fun ⟨k1, k2⟩ => by rw [decide_eq_true k1, decide_eq_true k2] at h1; cases h1
        repeat' (first | refine VJ.region_k fun K hK => ?_ | (refine VR.done (hK _ ?_); clear hK K) | (first | refine VR.move rfl rfl ?_ | refine VR.assign rfl rfl ?_ | refine VR.int rfl rfl rfl rfl ?_ | (refine VR.pickB rfl rfl rfl rfl ?_ ?_ ?_; (first | exact trivial | (refine fun h => ?_; first | (rw [h]; rfl) | (rw [h, hg]; rfl) | (rw [hg, h]; rfl) | (simp [h, hg]; done))); (first | exact trivial | (refine fun h => ?_; first | (rw [h]; rfl) | (rw [h, hg]; rfl) | (rw [hg, h]; rfl) | (simp [h, hg]; done))))) | (refine' VR.spec (by rfl) (by rfl) (by rfl) ?_ ?_ ?_; rotate_left 1; (repeat (first | exact trivial | refine And.intro id ?_)); intro hg K1 hK1; (first | refine VR.move rfl rfl ?_ | refine VR.int rfl rfl rfl rfl ?_); exact VR.done hK1))
        refine VJ.cond rfl (fun h2 => ?_) (fun h2 => ?_)
        · have h2 : (bif decide (x = 0) then decide (y < 0) else false) = true := h2
          have hxy : x = 0 ∧ y < 0 := by by_cases k1 : x = 0 <;> by_cases k2 : y < 0 <;> simp [k1, k2] at h2 ⊢
          rw [if_pos (.inr hxy)] at hal
          subst hal
          repeat' (first | refine VJ.seq ?_ | refine VJ.region_k fun K hK => ?_ | (refine VR.done (hK _ ?_); clear hK K) | (first | refine VR.assign rfl rfl ?_))
          refine VJ.ret tok (by rfl) (by rfl) ?_
          exact hQ
        have h2 : (bif decide (x = 0) then decide (y < 0) else false) = false := h2
        have n2 : ¬ (x = 0 ∧ y < 0) := fun ⟨k1, k2⟩ => by rw [decide_eq_true k1, decide_eq_true k2] at h2; cases h2
        rw [if_neg (fun k => k.elim n1 n2)] at hal
        repeat' (first | refine VJ.seq ?_ | refine VJ.region_k fun K hK => ?_ | (refine VR.done (hK _ ?_); clear hK K) | (first | refine VR.move rfl rfl ?_ | refine VR.assign rfl rfl ?_ | refine VR.int rfl rfl rfl rfl ?_))
        refine VJ.cond rfl (fun h3 => ?_) (fun h3 => ?_)
        · have h3 : x < 0 := by simpa using h3
          have y0 : 0 < y := by omega
          rw [if_pos h3] at hal
          have w1 : wr (0 - x) = -x := (wr_in (by omega) (by omega)).trans (by omega)
          have w2 : wr (y - x) = y - x := wr_in (by omega) (by omega)
          have hnew : parOk (-x, y - x) := by unfold parOk; dsimp only; omega
          have eN : Value.agg #[.int .i64 (wr (0 - x)), .int .i64 (wr (y - x))] = parV (-x, y - x) := by unfold parV; rw [w1, w2]
          repeat' (first | refine VJ.seq ?_ | refine VJ.region_k fun K hK => ?_ | (refine VR.done (hK _ ?_); clear hK K) | (first | refine VR.move rfl rfl ?_ | (show onLd; refine VR.load tok rfl rfl rfl (by first | rfl | exact (ldp_el (by assumption)).trans (by rfl)) ?_) | refine VR.int rfl rfl rfl rfl ?_ | refine VR.neg rfl rfl ?_ | refine VR.alloc tok rfl rfl rfl ?_ | refine VR.store tok rfl rfl rfl rfl rfl rfl rfl (by first | (intro n e; cases e; done) | exact (fun _ _ q => all_glA (by rfl) q)) ?_ | refine VR.buildL (n := 1) [_, _] tok rfl rfl rfl rfl rfl rfl rfl rfl ?_) | (refine VR.call fok62 rfl rfl rfl rfl ?_; refine (v_lessE f (-x, y - x) rfl eN hf hnew _ _ ?_)))
          refine VJ.cond rfl (fun h4 => ?_) (fun h4 => ?_)
          · have h4 : f.1 * (y - x) < -x * f.2 := by simpa using h4
            rw [if_pos h4] at hal
            have ih' := ih (i + 1, (-x, y - x), u) ⟨hlt, hnew, hu, hal⟩ (by show 3 - (i + 1) < 3 - i; omega)
            repeat' (first | refine VJ.inBlock ?_ | refine VJ.region_k fun K hK => ?_ | (refine VR.done (hK _ ?_); clear hK K) | (first | refine VR.move rfl rfl ?_ | (show onLd; refine VR.load tok rfl rfl rfl (by first | rfl | exact (ldp_el (by assumption)).trans (by rfl)) ?_) | refine VR.int rfl rfl rfl rfl ?_ | refine VR.store tok rfl rfl rfl rfl rfl rfl rfl (by first | (intro n e; cases e; done) | exact (fun _ _ q => all_glA (by rfl) q)) ?_))
            exact VJ.to 5 [(36, vI ((i + 1 : Nat) : Int)), (8, .a (.ptr (.l 4) 0)), (7, .a (.ptr (.l 3) 0)), (5, .a (.ptr (.l 2) 0)), (4, .a (.ptr (.l 1) 0)), (3, .a (.ptr (.l 0) 0))] [(0, bxT t), (1, bxP p), (2, bxP q), (3, bxPar (-x, y - x)), (4, bxPar u)] ih' rfl ⟨vI_succ (by omega), by rfl, by rfl, by rfl, by rfl, by rfl, trivial⟩ ⟨by rfl, by rfl, by rfl, by rw [show bxPar (-x, y - x) = bxPar (wr (0 - x), wr (y - x)) by rw [w1, w2]]; rfl, by rfl, trivial⟩ (by rfl)
          · have h4 : ¬ f.1 * (y - x) < -x * f.2 := by simpa using h4
            rw [if_neg h4] at hal
            have ih' := ih (i + 1, f, u) ⟨hlt, hf, hu, hal⟩ (by show 3 - (i + 1) < 3 - i; omega)
            repeat' (first | refine VJ.skip ?_ | refine VJ.inBlock ?_ | refine VJ.region_k fun K hK => ?_ | (refine VR.done (hK _ ?_); clear hK K) | (first | refine VR.move rfl rfl ?_ | refine VR.int rfl rfl rfl rfl ?_))
            exact VJ.to 5 [(36, vI ((i + 1 : Nat) : Int)), (8, .a (.ptr (.l 4) 0)), (7, .a (.ptr (.l 3) 0)), (5, .a (.ptr (.l 2) 0)), (4, .a (.ptr (.l 1) 0)), (3, .a (.ptr (.l 0) 0))] [(0, bxT t), (1, bxP p), (2, bxP q), (3, bxPar f), (4, bxPar u)] ih' rfl ⟨vI_succ (by omega), by rfl, by rfl, by rfl, by rfl, by rfl, trivial⟩ (by repeat' (first | exact trivial | refine And.intro rfl ?_)) (by rfl)
        have h3 : ¬ x < 0 := by simpa using h3
        rw [if_neg h3] at hal
        repeat' (first | refine VJ.seq ?_ | refine VJ.region_k fun K hK => ?_ | (refine VR.done (hK _ ?_); clear hK K) | (first | refine VR.move rfl rfl ?_ | refine VR.assign rfl rfl ?_ | refine VR.int rfl rfl rfl rfl ?_))
        refine VJ.cond rfl (fun h5 => ?_) (fun h5 => ?_)
        · have h5 : y < 0 := by simpa using h5
          have x0 : 0 < x := by omega
          rw [if_pos h5] at hal
          have w2 : wr (x - y) = x - y := wr_in (by omega) (by omega)
          have hnew : parOk (x, x - y) := by unfold parOk; dsimp only; omega
          have eN : Value.agg #[.int .i64 x, .int .i64 (wr (x - y))] = parV (x, x - y) := by unfold parV; rw [w2]
          repeat' (first | refine VJ.seq ?_ | refine VJ.region_k fun K hK => ?_ | (refine VR.done (hK _ ?_); clear hK K) | (first | refine VR.move rfl rfl ?_ | (show onLd; refine VR.load tok rfl rfl rfl (by first | rfl | exact (ldp_el (by assumption)).trans (by rfl)) ?_) | refine VR.int rfl rfl rfl rfl ?_ | refine VR.alloc tok rfl rfl rfl ?_ | refine VR.store tok rfl rfl rfl rfl rfl rfl rfl (by first | (intro n e; cases e; done) | exact (fun _ _ q => all_glA (by rfl) q)) ?_ | refine VR.buildL (n := 1) [_, _] tok rfl rfl rfl rfl rfl rfl rfl rfl ?_) | (refine VR.call fok62 rfl rfl rfl rfl ?_; refine (v_lessE (x, x - y) u eN rfl hnew hu _ _ ?_)))
          refine VJ.cond rfl (fun h4 => ?_) (fun h4 => ?_)
          · have h4 : x * u.2 < u.1 * (x - y) := by simpa using h4
            rw [if_pos h4] at hal
            have ih' := ih (i + 1, f, (x, x - y)) ⟨hlt, hf, hnew, hal⟩ (by show 3 - (i + 1) < 3 - i; omega)
            repeat' (first | refine VJ.inBlock ?_ | refine VJ.region_k fun K hK => ?_ | (refine VR.done (hK _ ?_); clear hK K) | (first | refine VR.move rfl rfl ?_ | (show onLd; refine VR.load tok rfl rfl rfl (by first | rfl | exact (ldp_el (by assumption)).trans (by rfl)) ?_) | refine VR.int rfl rfl rfl rfl ?_ | refine VR.store tok rfl rfl rfl rfl rfl rfl rfl (by first | (intro n e; cases e; done) | exact (fun _ _ q => all_glA (by rfl) q)) ?_))
            exact VJ.to 5 [(36, vI ((i + 1 : Nat) : Int)), (8, .a (.ptr (.l 4) 0)), (7, .a (.ptr (.l 3) 0)), (5, .a (.ptr (.l 2) 0)), (4, .a (.ptr (.l 1) 0)), (3, .a (.ptr (.l 0) 0))] [(0, bxT t), (1, bxP p), (2, bxP q), (3, bxPar f), (4, bxPar (x, x - y))] ih' rfl ⟨vI_succ (by omega), by rfl, by rfl, by rfl, by rfl, by rfl, trivial⟩ ⟨by rfl, by rfl, by rfl, by rfl, by rw [show bxPar (x, x - y) = bxPar (x, wr (x - y)) by rw [w2]]; rfl, trivial⟩ (by rfl)
          · have h4 : ¬ x * u.2 < u.1 * (x - y) := by simpa using h4
            rw [if_neg h4] at hal
            have ih' := ih (i + 1, f, u) ⟨hlt, hf, hu, hal⟩ (by show 3 - (i + 1) < 3 - i; omega)
            repeat' (first | refine VJ.skip ?_ | refine VJ.inBlock ?_ | refine VJ.region_k fun K hK => ?_ | (refine VR.done (hK _ ?_); clear hK K) | (first | refine VR.move rfl rfl ?_ | refine VR.int rfl rfl rfl rfl ?_))
            exact VJ.to 5 [(36, vI ((i + 1 : Nat) : Int)), (8, .a (.ptr (.l 4) 0)), (7, .a (.ptr (.l 3) 0)), (5, .a (.ptr (.l 2) 0)), (4, .a (.ptr (.l 1) 0)), (3, .a (.ptr (.l 0) 0))] [(0, bxT t), (1, bxP p), (2, bxP q), (3, bxPar f), (4, bxPar u)] ih' rfl ⟨vI_succ (by omega), by rfl, by rfl, by rfl, by rfl, by rfl, trivial⟩ (by repeat' (first | exact trivial | refine And.intro rfl ?_)) (by rfl)
        have h5 : ¬ y < 0 := by simpa using h5
        rw [if_neg h5] at hal
        have ih' := ih (i + 1, f, u) ⟨hlt, hf, hu, hal⟩ (by show 3 - (i + 1) < 3 - i; omega)
        repeat' (first | refine VJ.skip ?_ | refine VJ.inBlock ?_ | refine VJ.region_k fun K hK => ?_ | (refine VR.done (hK _ ?_); clear hK K) | (first | refine VR.move rfl rfl ?_ | refine VR.int rfl rfl rfl rfl ?_))
        exact VJ.to 5 [(36, vI ((i + 1 : Nat) : Int)), (8, .a (.ptr (.l 4) 0)), (7, .a (.ptr (.l 3) 0)), (5, .a (.ptr (.l 2) 0)), (4, .a (.ptr (.l 1) 0)), (3, .a (.ptr (.l 0) 0))] [(0, bxT t), (1, bxP p), (2, bxP q), (3, bxPar f), (4, bxPar u)] ih' rfl ⟨vI_succ (by omega), by rfl, by rfl, by rfl, by rfl, by rfl, trivial⟩ (by repeat' (first | exact trivial | refine And.intro rfl ?_)) (by rfl)
    · have e3 : i = 3 := by omega
      subst e3
      have hal : decide (f.1 * u.2 < u.1 * f.2) = r := hal
      subst hal
      clear ih
      repeat' (first | refine VJ.seq ?_ | refine VJ.exit rfl ?_ | refine VJ.cond_f rfl ?_ | refine VJ.region_k fun K hK => ?_ | (refine VR.done (hK _ ?_); clear hK K) | (first | refine VR.assign rfl rfl ?_ | (show onLd; refine VR.load tok rfl rfl rfl (by first | rfl | exact (ldp_el (by assumption)).trans (by rfl)) ?_) | refine VR.int rfl rfl rfl rfl ?_) | (refine VR.call fok62 rfl rfl rfl rfl ?_; refine (v_lessE f u rfl rfl hf hu _ _ ?_)))
      refine VJ.ret tok (by rfl) (by rfl) ?_
      exact hQ
end Go.Proofs.YtnpnjhopgedhkaaGreat

/- tri.Has; those of a mesh's triangles that are so: At, Star, Trail; Closed. Conditions: the mesh fits a machine; each lemma's own. -/
namespace Go.Proofs.YtnpnjhopgedhkaaGreat
open Go.RowKit V Geo
set_option linter.unusedVariables false

theorem hasP_min (t : Tr) (p : Pt) : hasP t p = if (bif !validT t then true else !decide p.ok) = true then false else decide (minI [oriG t.b t.c p, oriG t.c t.a p] (oriG t.a t.b p) ≥ 0) := by
  unfold hasP
  have e : decide (minI [oriG t.b t.c p, oriG t.c t.a p] (oriG t.a t.b p) ≥ 0) = (bif (bif decide (oriG t.a t.b p ≥ 0) then decide (oriG t.b t.c p ≥ 0) else false) then decide (oriG t.c t.a p ≥ 0) else false) := by
    generalize oriG t.a t.b p = a
    generalize oriG t.b t.c p = b
    generalize oriG t.c t.a p = c
    unfold minI
    simp only [List.foldl_cons, List.foldl_nil]
    by_cases h1 : a ≥ 0 <;> by_cases h2 : b ≥ 0 <;> by_cases h3 : c ≥ 0 <;> simp only [h1, h2, h3, decide_true, decide_false, cond_true, cond_false] <;> (first | (apply decide_eq_true; split <;> split <;> omega) | (apply decide_eq_false; split <;> split <;> omega))
  rw [e]
  cases validT t <;> cases decide p.ok <;> rfl

attribute [local irreducible] VR VJ VC decOk decBt
set_option maxHeartbeats 1000000 in
theorem v_hasG (t : Tr) (p : Pt) (G : Gl) (Q : Po) (hQ : Q (vB (hasP t p)) G) : VC Tryz.prog 32 [vV t.v, vV (ptV p)] G Q := by
  have key : ∀ Q : Po, (∀ n : Int, decide (n ≥ 0) = hasP t p → Q (vI n) G) → VC Tryz.prog 56 [vV t.v, vV (ptV p)] G Q := fun Q hQ => by
    refine VC.of_body Tryz.func56 rfl rfl rfl fun W0 h0 x0 hG0 => ?_
    simp only [args0]
    rw [hasP_min] at hQ
    repeat' (first | refine VJ.seq ?_ | refine VJ.region_k fun K hK => ?_ | (refine VR.done (hK _ ?_); clear hK K) | (first | refine VR.move rfl rfl ?_ | refine VR.assign rfl rfl ?_ | (show onLd; refine VR.load tok rfl rfl rfl (by first | rfl | exact (ldp_el (by assumption)).trans (by rfl)) ?_) | (refine VR.pickB rfl rfl rfl rfl ?_ ?_ ?_; (first | exact trivial | (refine fun h => ?_; first | (rw [h]; rfl) | (rw [h, hg]; rfl) | (rw [hg, h]; rfl) | (simp [h, hg]; done))); (first | exact trivial | (refine fun h => ?_; first | (rw [h]; rfl) | (rw [h, hg]; rfl) | (rw [hg, h]; rfl) | (simp [h, hg]; done)))) | refine VR.not rfl rfl ?_ | refine VR.box rfl rfl rfl ?_) | (refine' VR.spec (by rfl) (by rfl) (by rfl) ?_ ?_ ?_; rotate_left 1; (repeat (first | exact trivial | refine And.intro id ?_)); intro hg K1 hK1; (first | (show onLd; refine VR.load tok rfl rfl rfl (by first | rfl | exact (ldp_el (by assumption)).trans (by rfl)) ?_) | refine VR.not rfl rfl ?_ | (refine VR.call fok60 rfl rfl rfl rfl ?_; refine (v_valid p _ _ ?_))); exact VR.done hK1) | (refine VR.call fok59 rfl rfl rfl rfl ?_; refine (v_validT t _ _ ?_)))
    refine VJ.cond rfl (fun hc => ?_) (fun hc => ?_)
    · have hc : (bif !validT t then true else !decide p.ok) = true := hc
      rw [if_pos hc] at hQ
      have hq := hQ (-1) rfl
      repeat' (first | refine VJ.seq ?_ | refine VJ.region_k fun K hK => ?_ | (refine VR.done (hK _ ?_); clear hK K) | (first | refine VR.assign rfl rfl ?_))
      refine VJ.ret tok (by rfl) (by rfl) ?_
      exact hq
    · have hc : (bif !validT t then true else !decide p.ok) = false := hc
      rw [if_neg (by rw [hc]; simp)] at hQ
      have hq := hQ _ rfl
      repeat' (first | refine VJ.seq ?_ | refine VJ.skip ?_ | (fail))
      apply VJ.draw3 [] [(0, 0), (1, 0), (2, 0), (3, 0), (4, 0), (5, 0), (6, 0), (7, 0), (8, 0), (9, 0), (10, 0), (11, 0), (12, 0), (13, 0), (14, 0), (15, 0), (16, 0), (17, 0), (18, 0), (19, 0)] [[(2, none)], [(13, some 0)], [(2, none)], [(15, some 2)], [(3, none)], [(14, some 1), (16, some 3), (17, some 4)], [(2, none)], [(19, some 6)], [(2, none)], [(21, some 8)], [(3, none)], [(20, some 7), (22, some 9), (23, some 10)], [(2, none)], [(25, some 12)], [(2, none)], [(27, some 14)], [(3, none)], [(26, some 13), (28, some 15), (29, some 16)], [(18, some 5), (24, some 11), (30, some 17)], [(31, some 18)]] [[(2, _)], [(13, _)], [(2, _)], [(15, _)], [(3, _)], [(14, _), (16, _), (17, _)], [(2, _)], [(19, _)], [(2, _)], [(21, _)], [(3, _)], [(20, _), (22, _), (23, _)], [(2, _)], [(25, _)], [(2, _)], [(27, _)], [(3, _)], [(26, _), (28, _), (29, _)], [(18, _), (24, _), (30, _)], [(31, _)]] [_, _, _, _, _, _, _, _, _, _, _, _, _, _, _, _, _, _, _, _] [⟨_, _, _⟩] (by kernel_rfl) ?hok rfl ?hh rfl rfl ?hj
      case hh =>
        refine ⟨?_, ?_, ?_, ?_, ?_, ?_, ?_, ?_, ?_, ?_, ?_, ?_, ?_, ?_, ?_, ?_, ?_, ?_, ?_, ?_, trivial⟩
        all_goals (intro rest K1 hK1; (repeat (first | exact VR.done hK1 | (first | refine VR.assign rfl rfl ?_ | (show onLd; refine VR.load tok rfl rfl rfl (by first | rfl | exact (ldp_el (by assumption)).trans (by rfl)) ?_) | (show onFa; refine VR.fieldAddr tok rfl rfl rfl (by first | rfl | exact place_el (by assumption)) rfl rfl ?_) | refine VR.min rfl rfl ?_) | (refine VR.call fok90 rfl rfl rfl rfl ?_; refine (v_orient _ _ _ _ _ ?_)))); try (first | exact VR.done hK1 | (refine VR.done ?_; dsimp only [S.set]; exact hK1)))
      case hok => kernel_rfl
      case hj =>
        dsimp only [List.append, tla]
        repeat' (first | (fail))
        refine VJ.ret tok (by rfl) (by rfl) ?_
        exact hq
  refine VC.of_body Tryz.func32 rfl rfl rfl fun W0 h0 x0 hG0 => ?_
  simp only [args0]
  repeat' (first | refine VJ.seq ?_ | refine VJ.region_k fun K hK => ?_ | (refine VR.done (hK _ ?_); clear hK K) | (first | refine VR.assign rfl rfl ?_ | (show onLd; refine VR.load tok rfl rfl rfl (by first | rfl | exact (ldp_el (by assumption)).trans (by rfl)) ?_) | refine VR.int rfl rfl rfl rfl ?_ | refine VR.box rfl rfl rfl ?_ | (refine VR.call fok56 rfl rfl rfl rfl ?_; refine key _ (fun n hn => ?_); rw [← hn] at hQ)))
  refine VJ.ret tok (by rfl) (by rfl) ?_
  exact hQ
theorem map_get_f {l : List Tr} {j : Nat} (h : j < l.length) : (l.map Tr.v)[j]? = some l[j].v := by simp [h]
def fltT (p : Tr → Bool) (l : List Tr) : List Tr := l.filter p
theorem fltT_snoc (p : Tr → Bool) (l : List Tr) {j : Nat} (h : j < l.length) : fltT p (l.take (j + 1)) = fltT p (l.take j) ++ if p l[j] = true then [l[j]] else [] := by
  unfold fltT
  rw [← List.take_append_getElem h, List.filter_append]
  congr 1
  cases e : p l[j] <;> simp [e]

set_option maxRecDepth 20000 in
set_option maxHeartbeats 1000000 in
theorem v_thoseM (ts : TS) (few : ts.length < 100000) (le : LS) (G : Gl) (hG : MeshG G ts le) (hfr : Free 10 12 G) (f : Nat) (caps : List A) (hf : FnOk Tryz.prog f) (hcap : caps.all glA = true) (p : Tr → Bool)
    (hp : ∀ c ∈ trisM ts, ∀ (Q : Po), Q (vB (p c)) G → VC Tryz.prog f (vV c.v :: caps.map AV.a) G Q) (Q : Po) (hQ : Q (vL 6 (((trisM ts).filter p).map Tr.v)) G) : VC Tryz.prog 30 [vM, .fn f caps] G Q := by
  have hcg : (caps.map AV.a).all glV = true := by rw [List.all_map]; exact hcap
  refine VC.of_body Tryz.func30 rfl rfl rfl fun W0 h0 x0 hG0 => ?_
  simp only [args0]
  have hlen := trisM_len ts
  repeat' (first | refine VJ.seq ?_ | refine VJ.block ?_ | refine VJ.region_k fun K hK => ?_ | (refine VR.done (hK _ ?_); clear hK K) | (first | refine VR.move rfl rfl ?_ | refine VR.assign rfl rfl ?_ | refine VR.len tok rfl rfl rfl rfl rfl ?_ | (refine VR.call fok55 rfl rfl rfl rfl ?_; refine v_trisM ts few le _ hG hfr _ ?_)))
  generalize trisM ts = l at hp hQ hlen ⊢
  refine VJ.promote 4 49 6 (by decide) rfl ?_
  refine VJ.to 1 [(10, vI ((0 : Nat) : Int)), (9, vI l.length), (8, vL 6 (l.map Tr.v)), (4, .a (.own (.l 0))), (1, .fn f caps)] [(0, .row 49 6 ((fltT p (l.take 0)).map Tr.v))] ?_ rfl ⟨by rfl, by simp [lk], by rfl, by rfl, by rfl, trivial⟩ (by repeat' (first | exact trivial | refine And.intro rfl ?_)) (by simp [okF, ltV, ltO, ltA, glA_ltA hcap])
  refine VJ.rec (fun j : Nat => ⟨1, [(10, vI j), (9, vI l.length), (8, vL 6 (l.map Tr.v)), (4, .a (.own (.l 0))), (1, .fn f caps)], [(0, .row 49 6 ((fltT p (l.take j)).map Tr.v))], G⟩) (fun j => l.length - j) (fun j => j ≤ l.length) 0 (Nat.zero_le _) ?_
  intro j hj ih
  repeat' (first | refine VJ.seq ?_ | refine VJ.region_k fun K hK => ?_ | (refine VR.done (hK _ ?_); clear hK K) | (first | refine VR.int rfl rfl rfl rfl ?_))
  refine VJ.cond rfl (fun hb => ?_) (fun hb => ?_)
  · have hlt : j < l.length := by simpa using hb
    have hget := map_get_f hlt
    have hsn := fltT_snoc p l hlt
    have hpj := hp l[j] (List.getElem_mem hlt)
    have ih' := ih (j + 1) hlt (by omega)
    rw [hsn] at ih'
    clear ih hsn
    have hfew : (fltT p (l.take j)).length < 100000 := by
      have := List.length_filter_le p (l.take j)
      unfold fltT
      rw [List.length_take] at this
      omega
    generalize l[j] = t at hget hpj ih'
    repeat' (first | refine VJ.seq ?_ | refine VJ.skip ?_ | refine VJ.block ?_ | refine VJ.region_k fun K hK => ?_ | (refine VR.done (hK _ ?_); clear hK K) | (first | refine VR.move rfl rfl ?_ | (show onLd; refine VR.load tok rfl rfl rfl (by first | rfl | exact (ldp_el (by assumption)).trans (by rfl)) ?_) | (show onIx; refine VR.indexAddr tok rfl rfl rfl rfl rfl rfl rfl (elA_lst (by assumption)) ?_) | refine VR.alloc tok rfl rfl rfl ?_ | refine VR.store tok rfl rfl rfl rfl rfl rfl rfl (by first | (intro n e; cases e; done) | exact (fun _ _ q => all_glA (by rfl) q)) ?_))
    refine VR.call hf rfl rfl rfl (by simpa [glV, glA] using hcg) (hpj _ ?_)
    repeat' (first | (refine VR.done (hK _ ?_); clear hK K) | (fail))
    refine VJ.cond rfl (fun hc => ?_) (fun hc => ?_)
    · have hc : p t = true := hc
      rw [if_pos hc] at ih'
      repeat' (first | refine VJ.inBlock ?_ | refine VJ.region_k fun K hK => ?_ | (refine VR.done (hK _ ?_); clear hK K) | (first | refine VR.move rfl rfl ?_ | refine VR.assign rfl rfl ?_ | (show onLd; refine VR.load tok rfl rfl rfl (by first | rfl | exact (ldp_el (by assumption)).trans (by rfl)) ?_) | refine VR.int rfl rfl rfl rfl ?_ | (refine VR.buildLst ([t].map Tr.v) tok (by rfl) (by rfl) (by rfl) (by rfl) (by rfl) (by rfl) (by rfl) (by rfl) (by rfl) (by rfl) (by rfl) ?_) | (refine VR.append tok (by rfl) (by rfl) (by rfl) (by rfl) (by rfl) (by rfl) (by rfl) (by rfl) (by rfl) (by rfl) (oneT [t]) (by simp; omega) (by simp [maxLen]; omega) ?_)))
      refine VJ.to 1 [(10, vI ((j + 1 : Nat) : Int)), (9, vI l.length), (8, vL 6 (l.map Tr.v)), (4, .a (.own (.l 0))), (1, .fn f caps)] [(0, .row 49 6 ((fltT p (l.take j) ++ [t]).map Tr.v))] ih' rfl ⟨vI_succ (by omega), by rfl, by rfl, by rfl, ?_, trivial⟩ ⟨by rw [List.map_append]; rfl, trivial⟩ (by simp [okF, ltV, ltO, ltA, glA_ltA hcap])
      show some (AV.fn f (caps.map (A.kill (.l 0)))) = _
      rw [kill_gl hcap]
    · have hc : p t = false := hc
      rw [if_neg (by rw [hc]; simp)] at ih'
      repeat' (first | refine VJ.skip ?_ | refine VJ.inBlock ?_ | refine VJ.region_k fun K hK => ?_ | (refine VR.done (hK _ ?_); clear hK K) | (first | refine VR.move rfl rfl ?_ | refine VR.int rfl rfl rfl rfl ?_))
      exact VJ.to 1 [(10, vI ((j + 1 : Nat) : Int)), (9, vI l.length), (8, vL 6 (l.map Tr.v)), (4, .a (.own (.l 0))), (1, .fn f caps)] [(0, .row 49 6 ((fltT p (l.take j) ++ []).map Tr.v))] ih' rfl ⟨vI_succ (by omega), by rfl, by rfl, by rfl, by rfl, trivial⟩ ⟨by rw [List.append_nil]; rfl, trivial⟩ (by simp [okF, ltV, ltO, ltA, glA_ltA hcap])
  · have hge : j = l.length := by simp at hb; omega
    subst hge
    rw [List.take_length]
    clear ih
    repeat' (first | refine VJ.seq ?_ | refine VJ.exit rfl ?_ | refine VJ.region_k fun K hK => ?_ | (refine VR.done (hK _ ?_); clear hK K) | (first | refine VR.move rfl rfl ?_ | refine VR.assign rfl rfl ?_))
    refine VJ.ret tok (by rfl) (by rfl) ?_
    exact hQ

theorem v_at1 (t : Tr) (p : Pt) (G : Gl) (h : govOk G [(13, bxP p)]) (Q : Po) (hQ : Q (vB (hasP t p)) G) : VC Tryz.prog 31 [vV t.v, .a (.ptr (.g 13) 0)] G Q := by
  rw [gov_self h] at hQ ⊢
  refine VC.of_body Tryz.func31 rfl rfl rfl fun W0 h0 x0 hG0 => ?_
  simp only [args0]
  repeat' (first | refine VJ.seq ?_ | refine VJ.region_k fun K hK => ?_ | (refine VR.done (hK _ ?_); clear hK K) | (first | refine VR.assign rfl rfl ?_ | (show onLd; refine VR.load tok rfl rfl rfl (by first | rfl | exact (ldp_el (by assumption)).trans (by rfl)) ?_) | refine VR.box rfl rfl rfl ?_) | (refine VR.call fok32 rfl rfl rfl rfl ?_; refine (v_hasG t p _ _ ?_)))
  refine VJ.ret tok (by rfl) (by rfl) ?_
  exact hQ
set_option maxRecDepth 20000 in
theorem v_star1 (t : Tr) (p : Pt) (G : Gl) (h : govOk G [(13, bxP p)]) (Q : Po) (hQ : Q (vB (cornB t p)) G) : VC Tryz.prog 35 [vV t.v, .a (.ptr (.g 13) 0)] G Q := by
  rw [gov_self h] at hQ ⊢
  refine VC.of_body Tryz.func35 rfl rfl rfl fun W0 h0 x0 hG0 => ?_
  simp only [args0]
  repeat' (first | refine VJ.seq ?_ | refine VJ.region_k fun K hK => ?_ | (refine VR.done (hK _ ?_); clear hK K) | (first | refine VR.move rfl rfl ?_ | refine VR.assign rfl rfl ?_ | (show onLd; refine VR.load tok rfl rfl rfl (by first | rfl | exact (ldp_el (by assumption)).trans (by rfl)) ?_) | (show onFa; refine VR.fieldAddr tok rfl rfl rfl (by first | rfl | exact place_el (by assumption)) rfl rfl ?_) | (refine VR.pickB rfl rfl rfl rfl ?_ ?_ ?_; (first | exact trivial | (refine fun h => ?_; first | (rw [h]; rfl) | (rw [h, hg]; rfl) | (rw [hg, h]; rfl) | (simp [h, hg]; done))); (first | exact trivial | (refine fun h => ?_; first | (rw [h]; rfl) | (rw [h, hg]; rfl) | (rw [hg, h]; rfl) | (simp [h, hg]; done)))) | refine VR.box rfl rfl rfl ?_ | (refine VR.bin rfl rfl rfl (eqP _ _ p t.a) ?_)) | (refine' VR.spec (by rfl) (by rfl) (by rfl) ?_ ?_ ?_; rotate_left 1; (repeat (first | exact trivial | refine And.intro id ?_)); intro hg K1 hK1; (first | (show onLd; refine VR.load tok rfl rfl rfl (by first | rfl | exact (ldp_el (by assumption)).trans (by rfl)) ?_) | (show onFa; refine VR.fieldAddr tok rfl rfl rfl (by first | rfl | exact place_el (by assumption)) rfl rfl ?_) | (refine VR.bin rfl rfl rfl (eqP _ _ p t.b) ?_) | (refine VR.bin rfl rfl rfl (eqP _ _ p t.c) ?_)); exact VR.done hK1))
  refine VJ.ret tok (by rfl) (by rfl) ?_
  exact hQ
theorem v_trail1 (t : Tr) (hi : inB t.a ∧ inB t.b ∧ inB t.c) (p q : Pt) (hp : inB p) (hq : inB q) (G : Gl) (h : govOk G [(13, bxP p), (14, bxP q)]) (Q : Po) (hQ : Q (vB (alongT t p q)) G) : VC Tryz.prog 36 [vV t.v, .a (.ptr (.g 13) 0), .a (.ptr (.g 14) 0)] G Q := by
  rw [gov_self h] at hQ ⊢
  refine VC.of_body Tryz.func36 rfl rfl rfl fun W0 h0 x0 hG0 => ?_
  simp only [args0]
  repeat' (first | refine VJ.seq ?_ | refine VJ.region_k fun K hK => ?_ | (refine VR.done (hK _ ?_); clear hK K) | (first | refine VR.assign rfl rfl ?_ | (show onLd; refine VR.load tok rfl rfl rfl (by first | rfl | exact (ldp_el (by assumption)).trans (by rfl)) ?_) | refine VR.box rfl rfl rfl ?_) | (refine VR.call fok37 rfl rfl rfl rfl ?_; refine (v_along t hi p q hp hq _ _ ?_)))
  refine VJ.ret tok (by rfl) (by rfl) ?_
  exact hQ
theorem MeshG.put {G : Gl} {ts : TS} {le : LS} (h : MeshG G ts le) (n : Nat) (hn : 3 ≤ n) (o : VO) : MeshG (fun m => if m = n then some o else G m) ts le := by
  obtain ⟨g0, ⟨z1, g1⟩, z2, g2⟩ := h
  exact ⟨(if_neg (by omega)).trans g0, ⟨z1, (if_neg (by omega)).trans g1⟩, z2, (if_neg (by omega)).trans g2⟩
theorem freePut {G : Gl} {a b : Nat} (h : Free a b G) (n : Nat) (hn : b ≤ n) (o : VO) : Free a b (fun m => if m = n then some o else G m) := fun m h1 h2 => (if_neg (by omega)).trans (h m h1 h2)
theorem v_atM (ts : TS) (few : ts.length < 100000) (le : LS) (p : Pt) (G : Gl) (hG : MeshG G ts le) (hfr : Free 10 15 G) (Q : Po) (hQ : Q (vL 6 (((trisM ts).filter fun t => hasP t p).map Tr.v)) G) : VC Tryz.prog 11 [vM, vV (ptV p)] G Q := by
  refine VC.of_body Tryz.func11 rfl rfl rfl fun W0 h0 x0 hG0 => ?_
  simp only [args0]
  refine VJ.seq ?_
  refine VJ.region_k fun K hK => ?_
  refine VR.boxG 13 (hfr 13 (by decide) (by decide)) rfl rfl rfl rfl ?_
  repeat' (first | refine VJ.seq ?_ | refine VJ.region_k fun K hK => ?_ | (refine VR.done (hK _ ?_); clear hK K) | (first | refine VR.move rfl rfl ?_ | refine VR.assign rfl rfl ?_ | refine VR.makeFunc rfl rfl ?_) | (refine VR.call fok30 rfl rfl rfl rfl ?_; refine (v_thoseM ts few le _ (hG.put 13 (by decide) _) (freePut (Free.sub (a' := 10) (b' := 12) hfr (by decide) (by decide)) 13 (by decide) _) 31 [.ptr (.g 13) 0] fok31 rfl (fun t => hasP t p) (fun c _ Q h => v_at1 c p _ (by exact ⟨rfl, trivial⟩) Q h) _ ?_)))
  refine VJ.retF tok (by rfl) (by rfl) hG0 ?_ (by rfl) ?_
  · intro n o h
    have hn := hfr.ne h
    simp [hn 13 (by decide) (by decide), h]
  · exact hQ
theorem v_starM (ts : TS) (few : ts.length < 100000) (le : LS) (p : Pt) (G : Gl) (hG : MeshG G ts le) (hfr : Free 10 15 G) (Q : Po) (hQ : Q (vL 6 (((trisM ts).filter fun t => cornB t p).map Tr.v)) G) : VC Tryz.prog 13 [vM, vV (ptV p)] G Q := by
  refine VC.of_body Tryz.func13 rfl rfl rfl fun W0 h0 x0 hG0 => ?_
  simp only [args0]
  refine VJ.seq ?_
  refine VJ.region_k fun K hK => ?_
  refine VR.boxG 13 (hfr 13 (by decide) (by decide)) rfl rfl rfl rfl ?_
  repeat' (first | refine VJ.seq ?_ | refine VJ.region_k fun K hK => ?_ | (refine VR.done (hK _ ?_); clear hK K) | (first | refine VR.move rfl rfl ?_ | refine VR.assign rfl rfl ?_ | refine VR.makeFunc rfl rfl ?_) | (refine VR.call fok30 rfl rfl rfl rfl ?_; refine (v_thoseM ts few le _ (hG.put 13 (by decide) _) (freePut (Free.sub (a' := 10) (b' := 12) hfr (by decide) (by decide)) 13 (by decide) _) 35 [.ptr (.g 13) 0] fok35 rfl (fun t => cornB t p) (fun c _ Q h => v_star1 c p _ (by exact ⟨rfl, trivial⟩) Q h) _ ?_)))
  refine VJ.retF tok (by rfl) (by rfl) hG0 ?_ (by rfl) ?_
  · intro n o h
    have hn := hfr.ne h
    simp [hn 13 (by decide) (by decide), h]
  · exact hQ
theorem v_trailM (ts : TS) (few : ts.length < 100000) (le : LS) (hts : ∀ t ∈ trisM ts, inB t.a ∧ inB t.b ∧ inB t.c) (p q : Pt) (hp : inB p) (hq : inB q) (G : Gl) (hG : MeshG G ts le) (hfr : Free 10 15 G) (Q : Po) (hQ : Q (vL 6 (((trisM ts).filter fun t => alongT t p q).map Tr.v)) G) : VC Tryz.prog 15 [vM, vV (ptV p), vV (ptV q)] G Q := by
  refine VC.of_body Tryz.func15 rfl rfl rfl fun W0 h0 x0 hG0 => ?_
  simp only [args0]
  refine VJ.seq ?_
  refine VJ.region_k fun K hK => ?_
  refine VR.boxG 13 (hfr 13 (by decide) (by decide)) rfl rfl rfl rfl ?_
  refine VR.boxG 14 ((if_neg (by decide)).trans (hfr 14 (by decide) (by decide))) rfl rfl rfl rfl ?_
  repeat' (first | refine VJ.seq ?_ | refine VJ.region_k fun K hK => ?_ | (refine VR.done (hK _ ?_); clear hK K) | (first | refine VR.move rfl rfl ?_ | refine VR.assign rfl rfl ?_ | refine VR.makeFunc rfl rfl ?_) | (refine VR.call fok30 rfl rfl rfl rfl ?_; refine (v_thoseM ts few le _ ((hG.put 13 (by decide) _).put 14 (by decide) _) (freePut (freePut (Free.sub (a' := 10) (b' := 12) hfr (by decide) (by decide)) 13 (by decide) _) 14 (by decide) _) 36 [.ptr (.g 13) 0, .ptr (.g 14) 0] fok36 rfl (fun t => alongT t p q) (fun c hc Q h => v_trail1 c (hts c hc) p q hp hq _ (by exact ⟨rfl, rfl, trivial⟩) Q h) _ ?_)))
  refine VJ.retF tok (by rfl) (by rfl) hG0 ?_ (by rfl) ?_
  · intro n o h
    have hn := hfr.ne h
    simp [hn 13 (by decide) (by decide), hn 14 (by decide) (by decide), h]
  · exact hQ
def openE (ts : TS) (le : LS) (p : Pt) (t : Tr) (i : Nat) : Bool := bif !(acrossOf ts le t i).2 then (bif decide (t.cor i = p) then true else decide (t.cor (i + 1) = p)) else false
set_option maxRecDepth 20000 in
set_option maxHeartbeats 2000000 in
theorem v_closedM (ts : TS) (few : ts.length < 100000) (le : LS) (p : Pt) (G : Gl) (hG : MeshG G ts le) (hfr : Free 10 15 G) (Q : Po)
    (hQ1 : ∀ t ∈ (trisM ts).filter (fun t => cornB t p), ∀ i, i < 3 → openE ts le p t i = true → Q (vB false) G)
    (hQ2 : (∀ t ∈ (trisM ts).filter (fun t => cornB t p), ∀ i, i < 3 → openE ts le p t i = false) → Q (vB (decide ((((trisM ts).filter fun t => cornB t p).length : Int) > 0))) G) : VC Tryz.prog 17 [vM, vV (ptV p)] G Q := by
  refine VC.of_body Tryz.func17 rfl rfl rfl fun W0 h0 x0 hG0 => ?_
  simp only [args0]
  have hfl : ((trisM ts).filter fun t => cornB t p).length < 1000000 := by
    have := List.length_filter_le (fun t => cornB t p) (trisM ts)
    rw [trisM_len] at this
    omega
  repeat' (first | refine VJ.seq ?_ | refine VJ.block ?_ | refine VJ.region_k fun K hK => ?_ | (refine VR.done (hK _ ?_); clear hK K) | (first | refine VR.move rfl rfl ?_ | refine VR.assign rfl rfl ?_ | (show onLd; refine VR.load tok rfl rfl rfl (by first | rfl | exact (ldp_el (by assumption)).trans (by rfl)) ?_) | refine VR.box rfl rfl rfl ?_ | refine VR.len tok rfl rfl rfl rfl rfl ?_ | (refine VR.call fok13 rfl rfl rfl rfl ?_; refine v_starM ts few le p _ hG hfr _ ?_)))
  generalize ((trisM ts).filter fun t => cornB t p) = l at hQ1 hQ2 hfl ⊢
  refine VJ.to 1 [(18, vI ((0 : Nat) : Int)), (17, vI l.length), (16, vL 6 (l.map Tr.v)), (5, vL 6 (l.map Tr.v)), (3, .a (.ptr (.l 0) 0)), (0, vM)] [(0, bxP p)] ?_ rfl ⟨by rfl, by simp [lk], by rfl, by rfl, by rfl, by rfl, trivial⟩ (by repeat' (first | exact trivial | refine And.intro rfl ?_)) (by rfl)
  refine VJ.rec (fun j : Nat => ⟨1, [(18, vI j), (17, vI l.length), (16, vL 6 (l.map Tr.v)), (5, vL 6 (l.map Tr.v)), (3, .a (.ptr (.l 0) 0)), (0, vM)], [(0, bxP p)], G⟩) (fun j => l.length - j) (fun j => j ≤ l.length ∧ ∀ k (h : k < l.length), k < j → ∀ i, i < 3 → openE ts le p l[k] i = false) 0 ⟨Nat.zero_le _, fun k h h2 => absurd h2 (by omega)⟩ ?_
  rintro j ⟨hj, hal⟩ ih
  repeat' (first | refine VJ.seq ?_ | refine VJ.region_k fun K hK => ?_ | (refine VR.done (hK _ ?_); clear hK K) | (first | refine VR.int rfl rfl rfl rfl ?_))
  refine VJ.cond rfl (fun hb => ?_) (fun hb => ?_)
  · have hlt : j < l.length := by simpa using hb
    have hget := map_get_f hlt
    have hq1 := hQ1 l[j] (List.getElem_mem hlt)
    have ih' : (∀ i, i < 3 → openE ts le p l[j] i = false) → _ := fun h => ih (j + 1) ⟨hlt, fun k hk hkj i hi => by
      by_cases e : k = j
      · subst e; exact h i hi
      · exact hal k hk (by omega) i hi⟩ (by omega)
    clear ih hal hQ2 hQ1
    generalize l[j] = t at hget hq1 ih'
    repeat' (first | refine VJ.seq ?_ | refine VJ.skip ?_ | refine VJ.block ?_ | refine VJ.region_k fun K hK => ?_ | (refine VR.done (hK _ ?_); clear hK K) | (first | refine VR.move rfl rfl ?_ | (show onLd; refine VR.load tok rfl rfl rfl (by first | rfl | exact (ldp_el (by assumption)).trans (by rfl)) ?_) | (show onIx; refine VR.indexAddr tok rfl rfl rfl rfl rfl rfl rfl (elA_lst (by assumption)) ?_) | refine VR.alloc tok rfl rfl rfl ?_ | refine VR.store tok rfl rfl rfl rfl rfl rfl rfl (by first | (intro n e; cases e; done) | exact (fun _ _ q => all_glA (by rfl) q)) ?_))
    refine VJ.to 2 [(22, vI ((0 : Nat) : Int)), (7, .a (.ptr (.l 1) 0)), (18, vI j), (17, vI l.length), (16, vL 6 (l.map Tr.v)), (5, vL 6 (l.map Tr.v)), (3, .a (.ptr (.l 0) 0)), (0, vM)] [(0, bxP p), (1, bxT t)] ?_ rfl (by repeat' (first | exact trivial | refine And.intro rfl ?_)) (by repeat' (first | exact trivial | refine And.intro rfl ?_)) (by rfl)
    refine VJ.rec (fun i : Nat => ⟨2, [(22, vI i), (7, .a (.ptr (.l 1) 0)), (18, vI j), (17, vI l.length), (16, vL 6 (l.map Tr.v)), (5, vL 6 (l.map Tr.v)), (3, .a (.ptr (.l 0) 0)), (0, vM)], [(0, bxP p), (1, bxT t)], G⟩) (fun i => 3 - i) (fun i => i ≤ 3 ∧ ∀ k, k < i → openE ts le p t k = false) 0 ⟨by decide, fun k h => absurd h (by omega)⟩ ?_
    rintro i ⟨hi, hal⟩ ih2
    by_cases hi3 : i < 3
    · have hb2 : decide ((i : Int) < 3) = true := decide_eq_true (by omega)
      repeat' (first | refine VJ.seq ?_ | refine VJ.region_k fun K hK => ?_ | (refine VR.done (hK _ ?_); clear hK K) | (first | refine VR.int rfl rfl rfl rfl ?_))
      refine VJ.cond rfl (fun _ => ?_) (fun h => absurd (hb2.symm.trans h) (by simp))
      repeat' (first | refine VJ.seq ?_ | refine VJ.skip ?_ | refine VJ.block ?_ | refine VJ.region_k fun K hK => ?_ | (refine VR.done (hK _ ?_); clear hK K) | (first | refine VR.move rfl rfl ?_ | refine VR.assign rfl rfl ?_ | (show onLd; refine VR.load tok rfl rfl rfl (by first | rfl | exact (ldp_el (by assumption)).trans (by rfl)) ?_) | (refine VR.pickB rfl rfl rfl rfl ?_ ?_ ?_; (first | exact trivial | (refine fun h => ?_; first | (rw [h]; rfl) | (rw [h, hg]; rfl) | (rw [hg, h]; rfl) | (simp [h, hg]; done))); (first | exact trivial | (refine fun h => ?_; first | (rw [h]; rfl) | (rw [h, hg]; rfl) | (rw [hg, h]; rfl) | (simp [h, hg]; done)))) | refine VR.not rfl rfl ?_ | refine VR.alloc tok rfl rfl rfl ?_ | refine VR.store tok rfl rfl rfl rfl rfl rfl rfl (by first | (intro n e; cases e; done) | exact (fun _ _ q => all_glA (by rfl) q)) ?_ | refine VR.extract rfl rfl rfl ?_) | (refine' VR.spec (by rfl) (by rfl) (by rfl) ?_ ?_ ?_; rotate_left 1; (repeat (first | exact trivial | refine And.intro id ?_)); intro hg K1 hK1; (first | refine VR.move rfl rfl ?_ | (show onLd; refine VR.load tok rfl rfl rfl (by first | rfl | exact (ldp_el (by assumption)).trans (by rfl)) ?_) | (refine VR.pickB rfl rfl rfl rfl ?_ ?_ ?_; (first | exact trivial | (refine fun h => ?_; first | (rw [h]; rfl) | (rw [h, hg]; rfl) | (rw [hg, h]; rfl) | (simp [h, hg]; done))); (first | exact trivial | (refine fun h => ?_; first | (rw [h]; rfl) | (rw [h, hg]; rfl) | (rw [hg, h]; rfl) | (simp [h, hg]; done)))) | (refine VR.bin rfl rfl rfl (eqP _ _ (t.cor i) p) ?_) | (refine VR.bin rfl rfl rfl (eqP _ _ (t.cor (i + 1)) p) ?_)); exact VR.done hK1) | (refine VR.call fok39 rfl rfl rfl rfl ?_; refine (v_edge t i hi3 _ _ ?_)) | (refine VR.call fok40 rfl rfl rfl rfl ?_; refine (v_across ts le t i hi3 _ hG _ ?_)))
      refine VJ.cond rfl (fun hc => ?_) (fun hc => ?_)
      · have hc : openE ts le p t i = true := hc
        have hq := hq1 i hi3 hc
        repeat' (first | refine VJ.seq ?_ | refine VJ.region_k fun K hK => ?_ | (refine VR.done (hK _ ?_); clear hK K) | (first | refine VR.assign rfl rfl ?_))
        refine VJ.ret tok (by rfl) (by rfl) ?_
        exact hq
      · have hc : openE ts le p t i = false := hc
        have ih3 := ih2 (i + 1) ⟨hi3, fun k hk => by
          by_cases e : k = i
          · subst e; exact hc
          · exact hal k (by omega)⟩ (by omega)
        clear ih2
        repeat' (first | refine VJ.skip ?_ | refine VJ.inBlock ?_ | refine VJ.region_k fun K hK => ?_ | (refine VR.done (hK _ ?_); clear hK K) | (first | refine VR.move rfl rfl ?_ | refine VR.int rfl rfl rfl rfl ?_))
        exact VJ.to 2 [(22, vI ((i + 1 : Nat) : Int)), (7, .a (.ptr (.l 1) 0)), (18, vI j), (17, vI l.length), (16, vL 6 (l.map Tr.v)), (5, vL 6 (l.map Tr.v)), (3, .a (.ptr (.l 0) 0)), (0, vM)] [(0, bxP p), (1, bxT t)] ih3 rfl ⟨vI_succ (by omega), by rfl, by rfl, by rfl, by rfl, by rfl, by rfl, by rfl, trivial⟩ (by repeat' (first | exact trivial | refine And.intro rfl ?_)) (by rfl)
    · have e3 : i = 3 := by omega
      subst e3
      have ih3 := ih' fun i hi => hal i hi
      clear ih2
      repeat' (first | refine VJ.seq ?_ | refine VJ.inBlock ?_ | refine VJ.exit rfl ?_ | refine VJ.cond_f rfl ?_ | refine VJ.region_k fun K hK => ?_ | (refine VR.done (hK _ ?_); clear hK K) | (first | refine VR.move rfl rfl ?_ | refine VR.int rfl rfl rfl rfl ?_))
      exact VJ.to 1 [(18, vI ((j + 1 : Nat) : Int)), (17, vI l.length), (16, vL 6 (l.map Tr.v)), (5, vL 6 (l.map Tr.v)), (3, .a (.ptr (.l 0) 0)), (0, vM)] [(0, bxP p)] ih3 rfl ⟨vI_succ (by omega), by rfl, by rfl, by rfl, by rfl, by rfl, trivial⟩ (by repeat' (first | exact trivial | refine And.intro rfl ?_)) (by rfl)
  · have hge : j = l.length := by simp at hb; omega
    subst hge
    have hq := hQ2 fun t ht i hi => by
      obtain ⟨k, hk, rfl⟩ := List.mem_iff_getElem.1 ht
      exact hal k hk hk i hi
    clear ih hQ1 hQ2
    repeat' (first | refine VJ.seq ?_ | refine VJ.exit rfl ?_ | refine VJ.region_k fun K hK => ?_ | (refine VR.done (hK _ ?_); clear hK K) | (first | refine VR.move rfl rfl ?_ | refine VR.assign rfl rfl ?_ | refine VR.int rfl rfl rfl rfl ?_ | refine VR.len tok rfl rfl rfl rfl rfl ?_))
    refine VJ.ret tok (by rfl) (by rfl) ?_
    rw [List.length_map]
    exact hq
abbrev vNS : AV := .a (.d (.v (.slice none 0 0)))
theorem v_those_nil (f : Nat) (caps : List A) (hcap : caps.all glA = true) (G : Gl) (Q : Po) (hQ : Q vNS G) : VC Tryz.prog 30 [vNil, .fn f caps] G Q := by
  have key : ∀ Q : Po, Q vNS G → VC Tryz.prog 55 [vNil] G Q := fun Q hQ => by
    refine VC.of_body Tryz.func55 rfl rfl rfl fun W0 h0 x0 hG0 => ?_
    simp only [args0]
    repeat' (first | refine VJ.seq ?_ | refine VJ.cond_t rfl ?_ | refine VJ.region_k fun K hK => ?_ | (refine VR.done (hK _ ?_); clear hK K) | (first | refine VR.move rfl rfl ?_ | refine VR.assign rfl rfl ?_ | refine VR.eqNil rfl rfl rfl rfl (ptrOk (by rfl)) ?_))
    refine VJ.ret tok (by rfl) (by rfl) ?_
    exact hQ
  refine VC.of_body Tryz.func30 rfl rfl rfl fun W0 h0 x0 hG0 => ?_
  simp only [args0]
  repeat' (first | refine VJ.seq ?_ | refine VJ.block ?_ | refine VJ.region_k fun K hK => ?_ | (refine VR.done (hK _ ?_); clear hK K) | (first | refine VR.move rfl rfl ?_ | refine VR.assign rfl rfl ?_ | refine VR.len tok rfl rfl rfl rfl rfl ?_) | (refine VR.call fok55 rfl rfl rfl rfl ?_; refine (key _ ?_)))
  refine VJ.to 0 [(10, vI ((0 : Nat) : Int)), (9, vI 0), (8, vNS), (4, vNS)] [] ?_ rfl (by repeat' (first | exact trivial | refine And.intro rfl ?_)) trivial (by rfl)
  refine VJ.rec (fun _ : Nat => ⟨0, [(10, vI ((0 : Nat) : Int)), (9, vI 0), (8, vNS), (4, vNS)], [], G⟩) (fun _ => 0) (fun _ => True) 0 trivial ?_
  intro _ _ _
  repeat' (first | refine VJ.seq ?_ | refine VJ.exit rfl ?_ | refine VJ.cond_f rfl ?_ | refine VJ.region_k fun K hK => ?_ | (refine VR.done (hK _ ?_); clear hK K) | (first | refine VR.move rfl rfl ?_ | refine VR.assign rfl rfl ?_ | refine VR.int rfl rfl rfl rfl ?_))
  refine VJ.ret tok (by rfl) (by rfl) ?_
  exact hQ
end Go.Proofs.YtnpnjhopgedhkaaGreat

/- Plain: what stands at a point, as the laws ask it. Conditions: the triangles tile a square of side 1 to 40. -/
namespace Go.Proofs.YtnpnjhopgedhkaaGreat
open Go.RowKit V Geo
set_option linter.unusedVariables false

theorem across_mesh {ts : TS} {le E : LS} {l : List Tr} (p : PM ts le E l) {t : Tr} (ht : t ∈ l) (i : Nat) : (acrossOf ts le t i).2 = (Mp.get E ⟨t.cor (i + 1), t.cor i⟩).isSome := by
  unfold acrossOf
  rw [p.has, decide_eq_true ht]
  show (leftOf le (t.cor (i + 1)) (t.cor i)).2 = _
  unfold leftOf
  rw [p.leq]
theorem side_rim {s : Int} {a b q : Pt} (h : sideE s a b) (hq : a = q ∨ b = q) : rimP s q := by
  unfold sideE at h
  unfold rimP
  rcases hq with rfl | rfl <;> omega
theorem openE_iff {ts : TS} {le E : LS} {l : List Tr} (p : PM ts le E l) {t : Tr} (ht : t ∈ l) (i : Nat) (q : Pt) : openE ts le q t i = true ↔ (Mp.get E ⟨t.cor (i + 1), t.cor i⟩).isSome = false ∧ (t.cor i = q ∨ t.cor (i + 1) = q) := by
  unfold openE
  rw [across_mesh p ht]
  cases (Mp.get E ⟨t.cor (i + 1), t.cor i⟩).isSome
  · by_cases h1 : t.cor i = q
    · simp [h1]
    · by_cases h2 : t.cor (i + 1) = q <;> simp [h1, h2]
  · simp
/-- Something open: it is on the rim. -/
theorem TI.rim_of {s : Int} {ts : TS} {le E : LS} {l : List Tr} (h : TI s E l) (p : PM ts le E l) {t : Tr} (ht : t ∈ l) {i : Nat} (hi : i < 3) {q : Pt} (ho : openE ts le q t i = true) : rimP s q := by
  obtain ⟨h1, h2⟩ := (openE_iff p ht i q).1 ho
  have he : (⟨t.cor i, t.cor (i + 1)⟩ : En) ∈ around t := List.mem_of_getElem? (around_get t hi)
  have hk : (Mp.get E ⟨t.cor i, t.cor (i + 1)⟩).isSome = true := by rw [(h.mo.get _ t).2 ⟨ht, he⟩]; rfl
  rcases h.clo _ _ hk with c | c
  · rw [h1] at c; cases c
  · exact side_rim c h2
/-- Nothing open: it is not on the rim. -/
theorem TI.in_of {s : Int} {ts : TS} {le E : LS} {l : List Tr} (h : TI s E l) (p : PM ts le E l) (h1 : 1 ≤ s) (hs : s ≤ 40) {q : Pt} (hc : IsC l q) (ho : ∀ t ∈ l, cornB t q = true → ∀ i, i < 3 → openE ts le q t i = false) : ¬ rimP s q := by
  intro hr
  obtain ⟨u, hu, hx⟩ := hc
  have hw : ∃ x y, Rot3 u q x y := by
    rcases hx with e | e | e
    · exact ⟨_, _, e ▸ rot_self u⟩
    · exact ⟨_, _, e ▸ (rot_self u).turn⟩
    · exact ⟨_, _, e ▸ (rot_self u).turn.turn⟩
  obtain ⟨x, y, hw⟩ := hw
  obtain ⟨t, ht, a, b, c, hab, hq, hk⟩ := h.open' h1 hs hu hw hr
  obtain ⟨i, hi, e1, e2⟩ := hab.cor
  have hcb : cornB t q = true := by
    refine (cornB_iff t q).2 ((hab.cors q).2 ?_)
    rcases hq with e | e
    · exact .inl e.symm
    · exact .inr (.inl e.symm)
  have h3 := ho t ht hcb i hi
  have h4 := (openE_iff p ht i q).2 ⟨by rw [e1, e2]; exact hk, by rw [e1, e2]; exact hq⟩
  rw [h4] at h3; cases h3
theorem isC_star {l : List Tr} {q : Pt} : IsC l q ↔ (l.filter fun t => cornB t q) ≠ [] := by
  constructor
  · rintro ⟨t, ht, hx⟩ e
    have := (List.mem_filter (p := fun t => cornB t q)).2 ⟨ht, (cornB_iff t q).2 hx⟩
    rw [e] at this; cases this
  · intro h
    obtain ⟨t, ht⟩ := List.exists_mem_of_ne_nil _ h
    obtain ⟨h1, h2⟩ := List.mem_filter.1 ht
    exact ⟨t, h1, (cornB_iff t q).1 h2⟩
theorem TI.box' {s : Int} {E : LS} {l : List Tr} (h : TI s E l) (hs : s ≤ 40) : ∀ t ∈ l, inB t.a ∧ inB t.b ∧ inB t.c := h.bx hs
/-- The way from a corner to another one: its ends. -/
theorem TI.ends {s : Int} {E : LS} {l : List Tr} (h : TI s E l) (h1 : 1 ≤ s) (hs : s ≤ 40) {p q : Pt} (hp : IsC l p) (hq : IsC l q) (hip : inSq s p) (hiq : inSq s q) (hne : p ≠ q) :
    (∃ t ∈ l.filter (fun t => alongT t p q), t.a = p ∨ t.b = p ∨ t.c = p) ∧ (∃ t ∈ l.filter (fun t => alongT t p q), t.a = q ∨ t.b = q ∨ t.c = q) := by
  obtain ⟨t, ht, k1, k2⟩ := h.first h1 hs hp hiq hne
  obtain ⟨u, hu, j1, j2⟩ := h.first h1 hs hq hip (Ne.symm hne)
  rw [alongT_back] at j1
  exact ⟨⟨t, List.mem_filter.2 ⟨ht, k1⟩, k2⟩, ⟨u, List.mem_filter.2 ⟨hu, j1⟩, j2⟩⟩
theorem along_self (l : List Tr) (p : Pt) : (l.filter fun t => alongT t p p) = [] := List.filter_eq_nil_iff.2 fun t _ => by rw [alongT_self]; simp
attribute [local irreducible] VR VJ VC decOk decBt
theorem v_closedT {s : Int} (h1 : 1 ≤ s) (hs : s ≤ 40) {ts : TS} {le E : LS} (hT : TI s E (trisM ts)) (hP : PM ts le E (trisM ts)) (few : ts.length < 100000) (q : Pt) (hc : IsC (trisM ts) q) {b : Bool} (hb : (!decide (rimP s q)) = b) (G : Gl) (hG : MeshG G ts le) (hfr : Free 10 15 G) (Q : Po) (hQ : Q (vB b) G) : VC Tryz.prog 17 [vM, vV (ptV q)] G Q := by
  refine v_closedM ts few le q G hG hfr Q (fun t ht i hi ho => ?_) (fun ho => ?_)
  · have := hT.rim_of hP (List.mem_filter.1 ht).1 hi ho
    rw [decide_eq_true this] at hb
    subst hb; exact hQ
  · have := hT.in_of hP h1 hs hc fun t ht hk i hi => ho t (List.mem_filter.2 ⟨ht, hk⟩) i hi
    rw [decide_eq_false this] at hb
    subst hb
    have hn : 0 < ((trisM ts).filter fun t => cornB t q).length := List.length_pos_iff.2 (isC_star.1 hc)
    rw [decide_eq_true (show (((trisM ts).filter fun t => cornB t q).length : Int) > 0 by omega)]
    exact hQ
end Go.Proofs.YtnpnjhopgedhkaaGreat

/- Plain: a square of side 2 with its middle: four triangles, no edge of which is bad; its points are corners as they come. Conditions: none. -/
namespace Go.Proofs.YtnpnjhopgedhkaaGreat
open Go.RowKit V Geo
set_option linter.unusedVariables false

def mid1 : Pt := ⟨1, 1⟩
/-- The square's triangles, cut at the middle. -/
def LB : List Tr := (sqT 2).flatMap fun u => if hasP u mid1 = true then (if cutOk u mid1 = true then cutN u mid1 3 else []) else [u]
def LX : Nat → List Tr
  | 0 => sqT 2
  | _ + 1 => LB
theorem LB_nd : LB.Nodup := of_decide_eq_true (by kernel_rfl)
/-- No edge's other corner lies within the circle. -/
def okL (L : List Tr) : Bool := L.all fun t => (around t).all fun e => L.all fun u => !decide ((⟨e.b, e.a⟩ : En) ∈ around u) || !(circR t.a t.b t.c (farR u e.a e.b) == 1)
theorem okL_0 : okL (LX 0) = true := by kernel_rfl
theorem okL_1 : okL LB = true := by kernel_rfl
theorem okL_all (j : Nat) : okL (LX j) = true := by
  cases j with
  | zero => exact okL_0
  | succ j => exact okL_1
theorem left_some {E : LS} {a b : Pt} (h : (leftOf E a b).2 = true) : Mp.get E ⟨a, b⟩ = some (leftOf E a b).1 := by
  unfold leftOf at h ⊢
  cases e : Mp.get E ⟨a, b⟩ with
  | none => rw [e] at h; cases h
  | some t => rfl
theorem no_bad {L : List Tr} (hk : okL L = true) {E : LS} {l : List Tr} (h : MO E l) (hp : l.Perm L) (W : List Wl) (a b : Pt) : badR E W a b = false := by
  cases hb : badR E W a b with
  | false => rfl
  | true =>
    exfalso
    unfold badR at hb
    simp only [Bool.and_eq_true] at hb
    obtain ⟨⟨⟨k1, k2⟩, _⟩, k4⟩ := hb
    obtain ⟨t1, t2⟩ := (h.get _ _).1 (left_some k1)
    obtain ⟨u1, u2⟩ := (h.get _ _).1 (left_some k2)
    have h1 := List.all_eq_true.1 hk _ (hp.mem_iff.1 t1)
    have h2 := List.all_eq_true.1 h1 _ t2
    have h3 := List.all_eq_true.1 h2 _ (hp.mem_iff.1 u1)
    dsimp only at h3
    rw [decide_eq_true u2, k4] at h3
    cases h3
def I4 (j : Nat) (E : LS) : Prop := ∃ l, TI 2 E l ∧ l.Perm (LX j)
theorem keeps4 (j : Nat) (W : List Wl) : Keeps W (I4 j) :=
  ⟨fun E ⟨l, h, _⟩ => ⟨3200, l, by decide, h.sql (by decide) (by decide)⟩, fun E a b ⟨l, h, hp⟩ hb _ => by
    have := no_bad (okL_all j) h.mo hp W a b
    rw [hb] at this; cases this⟩
theorem I4_new {E : LS} (h : newR [] (sqT 2) = some E) : I4 0 E := by
  obtain ⟨E', h1, h2⟩ := sqTI (s := 2) (by decide) (by decide)
  rw [h1] at h
  cases h
  exact ⟨_, h2, List.Perm.refl _⟩
theorem cutR_mem' (u : Tr) (p : Pt) (t : Tr) : t ∈ cutR u p ↔ t ∈ (if cutOk u p = true then cutN u p 3 else []) := (sortT_perm _).mem_iff
theorem I4_add {E : LS} (h : I4 0 E) (hst : starL E mid1 = []) : I4 1 (addE E mid1) := by
  obtain ⟨l, h, hp⟩ := h
  obtain ⟨l', h', _, hm⟩ := h.add (by decide) (p := mid1) (by unfold inSq mid1; decide) hst
  refine ⟨l', h', (List.perm_ext_iff_of_nodup h'.mo.one LB_nd).2 fun t => ?_⟩
  rw [hm]
  show _ ↔ t ∈ LB
  unfold LB
  rw [List.mem_flatMap]
  constructor
  · rintro (⟨u, hu, hc⟩ | ⟨ht, hh⟩)
    · obtain ⟨u1, u2⟩ := List.mem_filter.1 ((h.mo.at mid1).mem_iff.1 hu)
      exact ⟨u, hp.mem_iff.1 u1, by rw [if_pos u2]; exact (cutR_mem' u mid1 t).1 hc⟩
    · exact ⟨t, hp.mem_iff.1 ht, by rw [if_neg (by rw [hh]; simp)]; simp⟩
  · rintro ⟨u, hu, hc⟩
    cases hh : hasP u mid1 with
    | true =>
      rw [if_pos hh] at hc
      exact .inl ⟨u, (h.mo.at mid1).mem_iff.2 (List.mem_filter.2 ⟨hp.mem_iff.2 hu, hh⟩), (cutR_mem' u mid1 t).2 hc⟩
    | false =>
      rw [if_neg (by rw [hh]; simp)] at hc
      rw [List.mem_singleton] at hc
      subst hc
      exact .inr ⟨hp.mem_iff.2 hu, hh⟩
theorem I4_at {E : LS} (h : I4 0 E) : atL E mid1 ≠ [] := by
  obtain ⟨l, h, _⟩ := h
  obtain ⟨t, ht, hh⟩ := h.covers (p := mid1) (by decide) (by decide) (by unfold inSq mid1; decide)
  intro e
  have := (h.mo.at mid1).mem_iff.2 (List.mem_filter.2 ⟨ht, hh⟩)
  rw [e] at this; cases this
theorem I4_star {E : LS} (h : I4 0 E) : starL E mid1 = [] := by
  obtain ⟨l, h, hp⟩ := h
  refine (h.mo.star mid1).2 fun t ht => ?_
  have : ∀ t ∈ LX 0, mid1 ≠ t.a ∧ mid1 ≠ t.b ∧ mid1 ≠ t.c := of_decide_eq_true (by kernel_rfl)
  exact this t (hp.mem_iff.1 ht)
theorem spot4 : spotP 2 4 = mid1 := by kernel_rfl
theorem nB1 : (LB.filter fun t => hasP t mid1).length = 4 := by kernel_rfl
theorem nB2 : (LB.filter fun t => cornB t mid1).length = 4 := by kernel_rfl
theorem nB3 : (LB.filter fun t => hasP t ⟨1, 0⟩).length = 1 := by kernel_rfl
theorem nB4 : (LB.filter fun t => alongT t ⟨0, 0⟩ mid1).length = 2 := by kernel_rfl
theorem cB1 : IsC LB mid1 := isC_star.2 fun e => by have := nB2; rw [e] at this; cases this
theorem nB5 : (LB.filter fun t => cornB t ⟨0, 0⟩).length = 2 := by kernel_rfl
theorem cB0 : IsC LB ⟨0, 0⟩ := isC_star.2 fun e => by have := nB5; rw [e] at this; cases this
theorem IsC.perm {p : Pt} {l l' : List Tr} (h : IsC l p) (hp : l.Perm l') : IsC l' p := by
  obtain ⟨t, ht, hx⟩ := h
  exact ⟨t, hp.mem_iff.1 ht, hx⟩
end Go.Proofs.YtnpnjhopgedhkaaGreat

/- The meshes side by side: what the laws call. Conditions: the meshes and the lists fit a machine. -/
namespace Go.Proofs.YtnpnjhopgedhkaaGreat
open Go.RowKit V Geo
set_option linter.unusedVariables false

/-- Both meshes, the walls, the CDT. -/
abbrev GL (ts : TS) (le E : LS) (W : List Wl) (s : Int) : Gl := gov [(0, bxM), (1, mT ts none), (2, mL le none), (3, bxN), (4, mL E none), (5, bxR W), (6, bxC s s)] E0
theorem GL_mesh (ts : TS) (le E : LS) (W : List Wl) (s : Int) : MeshG (GL ts le E W s) ts le := ⟨rfl, ⟨none, rfl⟩, ⟨none, rfl⟩⟩
theorem GL_ref (ts : TS) (le E : LS) (W : List Wl) (s : Int) : RefG (GL ts le E W s) E := ⟨rfl, ⟨none, rfl⟩⟩
theorem GL_free (ts : TS) (le E : LS) (W : List Wl) (s : Int) : Free 10 15 (GL ts le E W s) := by
  intro n h1 h2
  have h0 : n ≠ 0 := by omega
  have k1 : n ≠ 1 := by omega
  have k2 : n ≠ 2 := by omega
  have k3 : n ≠ 3 := by omega
  have k4 : n ≠ 4 := by omega
  have k5 : n ≠ 5 := by omega
  have k6 : n ≠ 6 := by omega
  simp [gov, lk, h0, k1, k2, k3, k4, k5, k6]
def kp3 (n : Nat) : Bool := Nat.ble n 2
theorem kp3_yes {n : Nat} (h : kp3 n = true) : n = 0 ∨ n = 1 ∨ n = 2 := by
  have := Nat.le_of_ble_eq_true h
  omega
theorem kp3_no {n : Nat} (h : kp3 n = false) : 3 ≤ n := by
  rcases Nat.lt_or_ge n 3 with h1 | h1
  · have : kp3 n = true := Nat.ble_eq_true_of_le (by omega)
    rw [h] at this; cases this
  · exact h1
theorem GK3 (E : LS) (W : List Wl) (s : Int) : GK kp3 (GC s s E W E0) = E0 := by
  funext n
  show (if kp3 n = true then GC s s E W E0 n else none) = none
  by_cases h : kp3 n = true
  · rw [if_pos h]
    rcases kp3_yes h with rfl | rfl | rfl <;> rfl
  · rw [if_neg h]
theorem GM3L (ts : TS) (le E : LS) (W : List Wl) (s : Int) : GM kp3 (GMz ts none le none) (GC s s E W E0) = GL ts le E W s := by
  funext n
  show (if kp3 n = true then GMz ts none le none n else GC s s E W E0 n) = _
  by_cases h : kp3 n = true
  · rw [if_pos h]
    rcases kp3_yes h with rfl | rfl | rfl <;> rfl
  · rw [if_neg h]
    have := kp3_no (by simpa using h)
    have h0 : n ≠ 0 := by omega
    have h1 : n ≠ 1 := by omega
    have h2 : n ≠ 2 := by omega
    by_cases h3 : n = 3
    · subst h3; rfl
    by_cases h4 : n = 4
    · subst h4; rfl
    by_cases h5 : n = 5
    · subst h5; rfl
    by_cases h6 : n = 6
    · subst h6; rfl
    simp [gov, lk, h0, h1, h2, h3, h4, h5, h6]
theorem GMz_no {n : Nat} (h : kp3 n = false) (ts : TS) (le : LS) : GMz ts none le none n = none := by
  have := kp3_no h
  have h0 : n ≠ 0 := by omega
  have h1 : n ≠ 1 := by omega
  have h2 : n ≠ 2 := by omega
  simp [gov, lk, h0, h1, h2]
attribute [local irreducible] VR VJ VC decOk decBt
end Go.Proofs.YtnpnjhopgedhkaaGreat

/- built: a square with points, and the program's mesh of its triangles; awake. Conditions: the side is from 1 to 40, no more than 25 points. -/
namespace Go.Proofs.YtnpnjhopgedhkaaGreat
open Go.RowKit V Geo
set_option linter.unusedVariables false

abbrev iV : Int → Value := Value.int .i64
theorem map_get_i {l : List Int} {j : Nat} (h : j < l.length) : (l.map iV)[j]? = some (.int .i64 l[j]) := by simp [h]
theorem eqI_of {a b : Int} (h : a = b) (T : TypeId) (x y : Operand) (w : World) : (do eqGuard .eql T x y (.int .i64 a) (.int .i64 b); binOp .eql T (.int .i64 a) (.int .i64 b) : Sem Value).run Tryz.prog w = .ok (.bool true) w := by
  subst h
  have := ib_run (P := Tryz.prog) (op := .eql) (k := .i64) (a := a) (b := a) rfl T x y w
  simpa using this
abbrev vM2 : AV := .tup [.ptr (.g 0) 0, .ptr (.g 6) 0]
attribute [local irreducible] VR VJ VC decOk decBt
set_option maxRecDepth 20000 in
set_option maxHeartbeats 8000000 in
theorem v_built (I : Nat → LS → Prop) (s : Int) (hs1 : 1 ≤ s) (hs2 : s ≤ 40) (KI : ∀ j W, Keeps W (I j)) (h0I : ∀ E1, newR [] (sqT s) = some E1 → I 0 E1) (ps : List Int) (few : ps.length ≤ 25)
    (hN : ∀ j (h : j < ps.length) E, I j E → atL E (spotP s ps[j]) = [] → I (j + 1) E) (hS : ∀ j (h : j < ps.length) E, I j E → starL E (spotP s ps[j]) ≠ [] → I (j + 1) E)
    (hA : ∀ j (h : j < ps.length) E, I j E → atL E (spotP s ps[j]) ≠ [] → starL E (spotP s ps[j]) = [] → I (j + 1) (addE E (spotP s ps[j]))) (Q : Po)
    (hQ : ∀ E W, I ps.length E → Q vM2 (GL (meshOf (trisR E)).1 (meshOf (trisR E)).2 E W s)) : VC Tryz.prog 9 [vI s, vL 1 (ps.map iV), vNS] E0 Q := by
  refine VC.of_body Tryz.func9 rfl rfl rfl fun W0 h0 x0 hG0 => ?_
  simp only [args0]
  obtain ⟨E1, hE1, _⟩ := sqTI hs1 hs2
  have hI1 := h0I E1 hE1
  repeat' (first | refine VJ.seq ?_ | refine VJ.skip ?_ | refine VJ.block ?_ | refine VJ.inBlock ?_ | refine VJ.exit rfl ?_ | refine VJ.cond_t rfl ?_ | refine VJ.cond_f rfl ?_ | refine VJ.region_k fun K hK => ?_ | (refine VR.done (hK _ ?_); clear hK K) | (first | refine VR.move rfl rfl ?_ | refine VR.assign rfl rfl ?_ | (show onLd; refine VR.load tok rfl rfl rfl (by first | rfl | exact (ldp_el (by assumption)).trans (by rfl)) ?_) | (show onFa; refine VR.fieldAddr tok rfl rfl rfl (by first | rfl | exact place_el (by assumption)) rfl rfl ?_) | (show onIx; refine VR.indexAddr tok rfl rfl rfl rfl rfl rfl rfl (elA_lst (by assumption)) ?_) | (show onIx; refine VR.indexArr tok rfl (arrOk (by rfl)) rfl rfl (by first | rfl | exact place_el (by assumption)) rfl rfl (by decide) rfl ?_) | refine VR.int rfl rfl rfl rfl ?_ | refine VR.nilCheck rfl rfl rfl ?_ | refine VR.extract rfl rfl rfl ?_ | refine VR.len tok rfl rfl rfl rfl rfl ?_ | (refine VR.call fok25 rfl rfl rfl rfl ?_; refine v_newCDT (I 0) (KI 0) s hs1 hs2 E1 hE1 hI1 _ (fun E2 W2 hI2 hW2 => ?_))))
  refine VJ.to 0 [(9, vI ((0 : Nat) : Int)), (8, vC), (2, vNS), (1, vL 1 (ps.map iV)), (0, vI s)] [] ?_ rfl (by repeat' (first | exact trivial | refine And.intro rfl ?_)) trivial (by rfl)
  refine VJ.rec (fun p : Nat × LS × List Wl => ⟨0, [(9, vI p.1), (8, vC), (2, vNS), (1, vL 1 (ps.map iV)), (0, vI s)], [], GC s s p.2.1 p.2.2 E0⟩) (fun p => ps.length - p.1) (fun p => p.1 ≤ ps.length ∧ I p.1 p.2.1 ∧ p.2.2.length ≤ 4 + 2 * p.1) (0, E2, W2) ⟨Nat.zero_le _, hI2, by show W2.length ≤ 4 + 2 * 0; omega⟩ ?_
  rintro ⟨j, E, W⟩ ⟨hj, hI, hW⟩ ih
  dsimp only at hj hI hW ih ⊢
  clear hI1 hE1 hI2 hW2
  repeat' (first | refine VJ.seq ?_ | refine VJ.skip ?_ | refine VJ.block ?_ | refine VJ.inBlock ?_ | refine VJ.exit rfl ?_ | refine VJ.cond_t rfl ?_ | refine VJ.cond_f rfl ?_ | refine VJ.region_k fun K hK => ?_ | (refine VR.done (hK _ ?_); clear hK K) | (first | refine VR.move rfl rfl ?_ | refine VR.assign rfl rfl ?_ | (show onLd; refine VR.load tok rfl rfl rfl (by first | rfl | exact (ldp_el (by assumption)).trans (by rfl)) ?_) | (show onFa; refine VR.fieldAddr tok rfl rfl rfl (by first | rfl | exact place_el (by assumption)) rfl rfl ?_) | (show onIx; refine VR.indexAddr tok rfl rfl rfl rfl rfl rfl rfl (elA_lst (by assumption)) ?_) | (show onIx; refine VR.indexArr tok rfl (arrOk (by rfl)) rfl rfl (by first | rfl | exact place_el (by assumption)) rfl rfl (by decide) rfl ?_) | refine VR.int rfl rfl rfl rfl ?_ | refine VR.nilCheck rfl rfl rfl ?_ | refine VR.extract rfl rfl rfl ?_ | refine VR.len tok rfl rfl rfl rfl rfl ?_))
  refine VJ.cond rfl (fun hb => ?_) (fun hb => ?_)
  · have hlt : j < ps.length := by simpa using hb
    have hget := map_get_i hlt
    have n1 := hN j hlt E hI
    have n2 := hS j hlt E hI
    have n3 := hA j hlt E hI
    generalize ps[j] = v at hget n1 n2 n3
    repeat' (first | refine VJ.seq ?_ | refine VJ.skip ?_ | refine VJ.block ?_ | refine VJ.inBlock ?_ | refine VJ.exit rfl ?_ | refine VJ.cond_t rfl ?_ | refine VJ.cond_f rfl ?_ | refine VJ.region_k fun K hK => ?_ | (refine VR.done (hK _ ?_); clear hK K) | (first | refine VR.move rfl rfl ?_ | refine VR.assign rfl rfl ?_ | (show onLd; refine VR.load tok rfl rfl rfl (by first | rfl | exact (ldp_el (by assumption)).trans (by rfl)) ?_) | (show onFa; refine VR.fieldAddr tok rfl rfl rfl (by first | rfl | exact place_el (by assumption)) rfl rfl ?_) | (show onIx; refine VR.indexAddr tok rfl rfl rfl rfl rfl rfl rfl (elA_lst (by assumption)) ?_) | (show onIx; refine VR.indexArr tok rfl (arrOk (by rfl)) rfl rfl (by first | rfl | exact place_el (by assumption)) rfl rfl (by decide) rfl ?_) | refine VR.int rfl rfl rfl rfl ?_ | refine VR.nilCheck rfl rfl rfl ?_ | refine VR.extract rfl rfl rfl ?_ | refine VR.len tok rfl rfl rfl rfl rfl ?_ | (refine VR.call fok26 rfl rfl rfl rfl ?_; refine v_cdtAdd (I j) (I (j + 1)) (KI j) (KI (j + 1)) s s E hI W (by omega) (spotP s v) n1 n2 n3 E0 rfl _ (fun r E3 W3 hI3 hW3 => ?_))) | (refine VR.call fok19 rfl rfl rfl rfl ?_; refine (v_spot s v hs1 hs2 _ _ ?_)))
    exact VJ.to 0 [(9, vI ((j + 1 : Nat) : Int)), (8, vC), (2, vNS), (1, vL 1 (ps.map iV)), (0, vI s)] [] (ih (j + 1, E3, W3) ⟨hlt, hI3, by show W3.length ≤ 4 + 2 * (j + 1); omega⟩ (show ps.length - (j + 1) < ps.length - j by omega)) rfl ⟨vI_succ (by omega), by rfl, by rfl, by rfl, by rfl, trivial⟩ trivial (by rfl)
  have hje : j = ps.length := by
    have : ¬ j < ps.length := by simpa using hb
    omega
  subst hje
  clear ih hb hN hS hA
  have hq := hQ E W hI
  obtain ⟨m, l, hm, hsq⟩ := (KI _ []).sq E hI
  have few : E.length < 100000 := (KI _ []).few hI
  have hL : MO E (trisR E) := hsq.mo.perm ((sortT_perm _).trans hsq.mo.trs).symm
  obtain ⟨hnew, hP⟩ := made_pm hL
  have hlen : (trisR E).length < 100000 := by
    have := hsq.mo.len
    have h2 := ((sortT_perm (trsOf E)).trans hsq.mo.trs).length_eq
    unfold trisR
    omega
  clear hQ hsq hm hI hL
  obtain ⟨L, hLe⟩ : ∃ L, trisR E = L := ⟨_, rfl⟩
  rw [hLe] at hq hnew hlen hP
  repeat' (first | refine VJ.seq ?_ | refine VJ.skip ?_ | refine VJ.block ?_ | refine VJ.inBlock ?_ | refine VJ.exit rfl ?_ | refine VJ.cond_t rfl ?_ | refine VJ.cond_f rfl ?_ | refine VJ.region_k fun K hK => ?_ | (refine VR.done (hK _ ?_); clear hK K) | (first | refine VR.move rfl rfl ?_ | refine VR.assign rfl rfl ?_ | (show onLd; refine VR.load tok rfl rfl rfl (by first | rfl | exact (ldp_el (by assumption)).trans (by rfl)) ?_) | (show onFa; refine VR.fieldAddr tok rfl rfl rfl (by first | rfl | exact place_el (by assumption)) rfl rfl ?_) | (show onIx; refine VR.indexAddr tok rfl rfl rfl rfl rfl rfl rfl (elA_lst (by assumption)) ?_) | (show onIx; refine VR.indexArr tok rfl (arrOk (by rfl)) rfl rfl (by first | rfl | exact place_el (by assumption)) rfl rfl (by decide) rfl ?_) | refine VR.int rfl rfl rfl rfl ?_ | refine VR.nilCheck rfl rfl rfl ?_ | refine VR.extract rfl rfl rfl ?_ | refine VR.len tok rfl rfl rfl rfl rfl ?_))
  refine VJ.to 0 [(10, vI ((0 : Nat) : Int)), (8, vC), (2, vNS)] [] ?_ rfl (by repeat' (first | exact trivial | refine And.intro rfl ?_)) trivial (by rfl)
  refine VJ.rec (fun _ : Nat => ⟨0, [(10, vI ((0 : Nat) : Int)), (8, vC), (2, vNS)], [], GC s s E W E0⟩) (fun _ => 0) (fun _ => True) 0 trivial ?_
  intro _ _ _
  repeat' (first | refine VJ.seq ?_ | refine VJ.skip ?_ | refine VJ.block ?_ | refine VJ.inBlock ?_ | refine VJ.exit rfl ?_ | refine VJ.cond_t rfl ?_ | refine VJ.cond_f rfl ?_ | refine VJ.region_k fun K hK => ?_ | (refine VR.done (hK _ ?_); clear hK K) | (first | refine VR.move rfl rfl ?_ | refine VR.assign rfl rfl ?_ | (show onLd; refine VR.load tok rfl rfl rfl (by first | rfl | exact (ldp_el (by assumption)).trans (by rfl)) ?_) | (show onFa; refine VR.fieldAddr tok rfl rfl rfl (by first | rfl | exact place_el (by assumption)) rfl rfl ?_) | (show onIx; refine VR.indexAddr tok rfl rfl rfl rfl rfl rfl rfl (elA_lst (by assumption)) ?_) | (show onIx; refine VR.indexArr tok rfl (arrOk (by rfl)) rfl rfl (by first | rfl | exact place_el (by assumption)) rfl rfl (by decide) rfl ?_) | refine VR.int rfl rfl rfl rfl ?_ | refine VR.nilCheck rfl rfl rfl ?_ | refine VR.extract rfl rfl rfl ?_ | refine VR.len tok rfl rfl rfl rfl rfl ?_ | (refine VR.call fok29 rfl rfl rfl rfl ?_; refine v_trisG E few _ ⟨rfl, ⟨none, rfl⟩⟩ _ ?_; rw [hLe]) | (refine VR.callk kp3 [] fok28 rfl rfl rfl rfl (fun n o hn h => by rcases kp3_yes hn with rfl | rfl | rfl <;> cases h) ?_; rw [GK3]; refine v_newM L (by omega) _ (fun h => absurd hnew h) (fun _ => ⟨(fun n h => GMz_no h _ _), .inl rfl, ?_⟩); rw [GM3L])))
  refine VJ.ret tok (by rfl) (by rfl) ?_
  exact hq
end Go.Proofs.YtnpnjhopgedhkaaGreat

/- awake: what the document fixes. Conditions: none. -/
namespace Go.Proofs.YtnpnjhopgedhkaaGreat
open Go.RowKit V Geo
set_option linter.unusedVariables false

attribute [local irreducible] VR VJ VC decOk decBt
theorem v_starNil (p : Pt) (Q : Po) (G : Gl) (hfr : Free 10 15 G) (hQ : Q vNS G) : VC Tryz.prog 13 [vNil, vV (ptV p)] G Q := by
  refine VC.of_body Tryz.func13 rfl rfl rfl fun W0 h0 x0 hG0 => ?_
  simp only [args0]
  refine VJ.seq ?_
  refine VJ.region_k fun K hK => ?_
  refine VR.boxG 13 (hfr 13 (by decide) (by decide)) rfl rfl rfl rfl ?_
  repeat' (first | refine VJ.seq ?_ | refine VJ.skip ?_ | refine VJ.cond_t rfl ?_ | refine VJ.cond_f rfl ?_ | refine VJ.region_k fun K hK => ?_ | (refine VR.done (hK _ ?_); clear hK K) | (first | refine VR.move rfl rfl ?_ | refine VR.assign rfl rfl ?_ | refine VR.box rfl rfl rfl ?_ | refine VR.makeFunc rfl rfl ?_) | (refine VR.call fok30 rfl rfl rfl rfl ?_; refine (v_those_nil 35 [.ptr (.g 13) 0] rfl _ _ ?_)))
  refine VJ.retF tok (by rfl) (by rfl) hG0 ?_ (by rfl) ?_
  · intro n o h
    have hn := hfr.ne h
    simp [hn 13 (by decide) (by decide), h]
  · exact hQ
theorem v_closedNil (p : Pt) (Q : Po) (G : Gl) (hfr : Free 10 15 G) (hQ : Q (vB false) G) : VC Tryz.prog 17 [vNil, vV (ptV p)] G Q := by
  refine VC.of_body Tryz.func17 rfl rfl rfl fun W0 h0 x0 hG0 => ?_
  simp only [args0]
  repeat' (first | refine VJ.seq ?_ | refine VJ.skip ?_ | refine VJ.block ?_ | refine VJ.inBlock ?_ | refine VJ.exit rfl ?_ | refine VJ.cond_t rfl ?_ | refine VJ.cond_f rfl ?_ | refine VJ.region_k fun K hK => ?_ | (refine VR.done (hK _ ?_); clear hK K) | (first | refine VR.move rfl rfl ?_ | refine VR.assign rfl rfl ?_ | (show onLd; refine VR.load tok rfl rfl rfl (by first | rfl | exact (ldp_el (by assumption)).trans (by rfl)) ?_) | (show onIx; refine VR.indexAddr tok rfl rfl rfl rfl rfl rfl rfl (elA_lst (by assumption)) ?_) | refine VR.int rfl rfl rfl rfl ?_ | (refine VR.pickB rfl rfl rfl rfl ?_ ?_ ?_; (first | exact trivial | (refine fun h => ?_; first | (rw [h]; rfl) | (rw [h, hg]; rfl) | (rw [hg, h]; rfl) | (simp [h, hg]; done))); (first | exact trivial | (refine fun h => ?_; first | (rw [h]; rfl) | (rw [h, hg]; rfl) | (rw [hg, h]; rfl) | (simp [h, hg]; done)))) | refine VR.pick rfl rfl rfl ?_ | refine VR.not rfl rfl ?_ | refine VR.g_yes rfl rfl (by first | rfl | assumption) ?_ | refine VR.g_no rfl rfl rfl (by first | rfl | assumption) ?_ | refine VR.box rfl rfl rfl ?_ | refine VR.alloc tok rfl rfl rfl ?_ | refine VR.store tok rfl rfl rfl rfl rfl rfl rfl (by first | (intro n e; cases e; done) | exact (fun _ _ q => all_glA (by rfl) q)) ?_ | refine VR.extract rfl rfl rfl ?_ | refine VR.len tok rfl rfl rfl rfl rfl ?_) | (refine' VR.spec (by rfl) (by rfl) (by rfl) ?_ ?_ ?_; rotate_left 1; (repeat (first | exact trivial | refine And.intro id ?_)); intro hg K1 hK1; (first | refine VR.move rfl rfl ?_ | (show onLd; refine VR.load tok rfl rfl rfl (by first | rfl | exact (ldp_el (by assumption)).trans (by rfl)) ?_) | refine VR.int rfl rfl rfl rfl ?_ | (refine VR.pickB rfl rfl rfl rfl ?_ ?_ ?_; (first | exact trivial | (refine fun h => ?_; first | (rw [h]; rfl) | (rw [h, hg]; rfl) | (rw [hg, h]; rfl) | (simp [h, hg]; done))); (first | exact trivial | (refine fun h => ?_; first | (rw [h]; rfl) | (rw [h, hg]; rfl) | (rw [hg, h]; rfl) | (simp [h, hg]; done)))) | refine VR.pick rfl rfl rfl ?_ | (refine VR.call fok13 rfl rfl rfl rfl ?_; refine (v_starNil p _ _ hfr ?_))); exact VR.done hK1) | (refine VR.call fok13 rfl rfl rfl rfl ?_; refine (v_starNil p _ _ hfr ?_)))
  refine VJ.to 0 [(18, vI ((0 : Nat) : Int)), (17, vI 0), (16, vNS), (5, vNS)] [] ?_ rfl (by repeat' (first | exact trivial | refine And.intro rfl ?_)) trivial (by rfl)
  refine VJ.rec (fun _ : Nat => ⟨0, [(18, vI ((0 : Nat) : Int)), (17, vI 0), (16, vNS), (5, vNS)], [], G⟩) (fun _ => 0) (fun _ => True) 0 trivial ?_
  intro _ _ _
  repeat' (first | refine VJ.seq ?_ | refine VJ.skip ?_ | refine VJ.block ?_ | refine VJ.inBlock ?_ | refine VJ.exit rfl ?_ | refine VJ.cond_t rfl ?_ | refine VJ.cond_f rfl ?_ | refine VJ.region_k fun K hK => ?_ | (refine VR.done (hK _ ?_); clear hK K) | (first | refine VR.move rfl rfl ?_ | refine VR.assign rfl rfl ?_ | (show onLd; refine VR.load tok rfl rfl rfl (by first | rfl | exact (ldp_el (by assumption)).trans (by rfl)) ?_) | (show onIx; refine VR.indexAddr tok rfl rfl rfl rfl rfl rfl rfl (elA_lst (by assumption)) ?_) | refine VR.int rfl rfl rfl rfl ?_ | (refine VR.pickB rfl rfl rfl rfl ?_ ?_ ?_; (first | exact trivial | (refine fun h => ?_; first | (rw [h]; rfl) | (rw [h, hg]; rfl) | (rw [hg, h]; rfl) | (simp [h, hg]; done))); (first | exact trivial | (refine fun h => ?_; first | (rw [h]; rfl) | (rw [h, hg]; rfl) | (rw [hg, h]; rfl) | (simp [h, hg]; done)))) | refine VR.pick rfl rfl rfl ?_ | refine VR.not rfl rfl ?_ | refine VR.g_yes rfl rfl (by first | rfl | assumption) ?_ | refine VR.g_no rfl rfl rfl (by first | rfl | assumption) ?_ | refine VR.box rfl rfl rfl ?_ | refine VR.alloc tok rfl rfl rfl ?_ | refine VR.store tok rfl rfl rfl rfl rfl rfl rfl (by first | (intro n e; cases e; done) | exact (fun _ _ q => all_glA (by rfl) q)) ?_ | refine VR.extract rfl rfl rfl ?_ | refine VR.len tok rfl rfl rfl rfl rfl ?_) | (refine' VR.spec (by rfl) (by rfl) (by rfl) ?_ ?_ ?_; rotate_left 1; (repeat (first | exact trivial | refine And.intro id ?_)); intro hg K1 hK1; (first | refine VR.move rfl rfl ?_ | (show onLd; refine VR.load tok rfl rfl rfl (by first | rfl | exact (ldp_el (by assumption)).trans (by rfl)) ?_) | refine VR.int rfl rfl rfl rfl ?_ | (refine VR.pickB rfl rfl rfl rfl ?_ ?_ ?_; (first | exact trivial | (refine fun h => ?_; first | (rw [h]; rfl) | (rw [h, hg]; rfl) | (rw [hg, h]; rfl) | (simp [h, hg]; done))); (first | exact trivial | (refine fun h => ?_; first | (rw [h]; rfl) | (rw [h, hg]; rfl) | (rw [hg, h]; rfl) | (simp [h, hg]; done)))) | refine VR.pick rfl rfl rfl ?_); exact VR.done hK1))
  refine VJ.ret tok (by rfl) (by rfl) ?_
  exact hQ
set_option maxRecDepth 20000 in
set_option maxHeartbeats 8000000 in
theorem v_awakeW (Q : Po) (hQ : Q (vB true) E0) : VC Tryz.prog 8 [] E0 Q := by
  refine VC.of_body Tryz.func8 rfl rfl rfl fun W0 h0 x0 hG0 => ?_
  simp only [args0]
  repeat' (first | refine VJ.seq ?_ | refine VJ.skip ?_ | refine VJ.cond_t rfl ?_ | refine VJ.cond_f rfl ?_ | refine VJ.region_k fun K hK => ?_ | (refine VR.done (hK _ ?_); clear hK K) | (first | refine VR.move rfl rfl ?_ | refine VR.assign rfl rfl ?_ | (show onLd; refine VR.load tok rfl rfl rfl (by first | rfl | exact (ldp_el (by assumption)).trans (by rfl)) ?_) | refine VR.int rfl rfl rfl rfl ?_ | (refine VR.pickB rfl rfl rfl rfl ?_ ?_ ?_; (first | exact trivial | (refine fun h => ?_; first | (rw [h]; rfl) | (rw [h, hg]; rfl) | (rw [hg, h]; rfl) | (simp [h, hg]; done))); (first | exact trivial | (refine fun h => ?_; first | (rw [h]; rfl) | (rw [h, hg]; rfl) | (rw [hg, h]; rfl) | (simp [h, hg]; done)))) | refine VR.pick rfl rfl rfl ?_ | refine VR.not rfl rfl ?_ | refine VR.g_yes rfl rfl (by first | rfl | assumption) ?_ | refine VR.g_no rfl rfl rfl (by first | rfl | assumption) ?_ | refine VR.alloc tok rfl rfl rfl ?_ | refine VR.store tok rfl rfl rfl rfl rfl rfl rfl (by first | (intro n e; cases e; done) | exact (fun _ _ q => all_glA (by rfl) q)) ?_ | refine VR.extract rfl rfl rfl ?_ | refine VR.buildL (n := 1) [_, _] tok rfl rfl rfl rfl rfl rfl rfl rfl ?_ | refine VR.len tok rfl rfl rfl rfl rfl ?_ | refine VR.eqNil rfl rfl rfl rfl (ptrOk (by rfl)) ?_ | refine VR.neNil rfl rfl rfl rfl (ptrOk (by rfl)) ?_ | (refine VR.buildLst ([(4 : Int)].map iV) tok (by rfl) (by rfl) (by rfl) (by rfl) (by rfl) (by rfl) (by rfl) (by rfl) (by rfl) (by rfl) (by rfl) ?_) | (refine VR.call fok9 rfl rfl rfl rfl ?_; refine v_built I4 2 (by decide) (by decide) keeps4 (fun E1 h => I4_new h) [4] (by decide) (fun j hj E hI h => ?_) (fun j hj E hI h => ?_) (fun j hj E hI h1 h2 => ?_) _ (fun E W hI => ?_))) | (refine' VR.spec (by rfl) (by rfl) (by rfl) ?_ ?_ ?_; rotate_left 1; (repeat (first | exact trivial | refine And.intro id ?_)); intro hg K1 hK1; (first | refine VR.move rfl rfl ?_ | (show onLd; refine VR.load tok rfl rfl rfl (by first | rfl | exact (ldp_el (by assumption)).trans (by rfl)) ?_) | refine VR.int rfl rfl rfl rfl ?_ | refine VR.not rfl rfl ?_ | refine VR.buildL (n := 1) [_, _] tok rfl rfl rfl rfl rfl rfl rfl rfl ?_ | refine VR.len tok rfl rfl rfl rfl rfl ?_ | (refine VR.buildLst ([(4 : Int)].map iV) tok (by rfl) (by rfl) (by rfl) (by rfl) (by rfl) (by rfl) (by rfl) (by rfl) (by rfl) (by rfl) (by rfl) ?_) | (refine VR.call fok9 rfl rfl rfl rfl ?_; refine v_built I4 2 (by decide) (by decide) keeps4 (fun E1 h => I4_new h) [4] (by decide) (fun j hj E hI h => ?_) (fun j hj E hI h => ?_) (fun j hj E hI h1 h2 => ?_) _ (fun E W hI => ?_))); exact VR.done hK1))
  · have : j = 0 := by simp at hj; exact hj
    subst this
    exact absurd (show atL E mid1 = [] by rw [← spot4]; exact h) (I4_at hI)
  · have : j = 0 := by simp at hj; exact hj
    subst this
    exact absurd (I4_star hI) (show starL E mid1 ≠ [] by rw [← spot4]; exact h)
  · have : j = 0 := by simp at hj; exact hj
    subst this
    have := I4_add hI (I4_star hI)
    rw [← spot4] at this
    exact this
  obtain ⟨l, hT, hp⟩ := hI
  have hLl : (trisR E).Perm l := (sortT_perm _).trans hT.mo.trs
  have hT := hT.perm hLl.symm
  have hp := hLl.trans hp
  obtain ⟨L, hL⟩ : ∃ L, trisR E = L := ⟨_, rfl⟩
  rw [hL] at hT hp ⊢
  obtain ⟨_, hP⟩ := made_pm hT.mo
  have hLM : trisM (meshOf L).1 = L := by rw [← hP.tris]; exact hL
  have hlen : L.length < 100 := by rw [hp.length_eq]; exact of_decide_eq_true (show decide (LB.length < 100) = true by kernel_rfl)
  generalize (meshOf L).1 = ts at hP hLM ⊢
  generalize (meshOf L).2 = le at hP ⊢
  have few : ts.length < 100000 := by rw [hP.tlen]; omega
  clear hL hLl hlen
  subst hLM
  have hp : (trisM ts).Perm LB := hp
  have m1 : ((((trisM ts).filter fun t => hasP t mid1).map Tr.v).length : Int) = 4 := by rw [List.length_map, (hp.filter _).length_eq, nB1]; rfl
  have m2 : ((((trisM ts).filter fun t => cornB t mid1).map Tr.v).length : Int) = 4 := by rw [List.length_map, (hp.filter _).length_eq, nB2]; rfl
  have m3 : ((((trisM ts).filter fun t => hasP t ⟨1, 0⟩).map Tr.v).length : Int) = 1 := by rw [List.length_map, (hp.filter _).length_eq, nB3]; rfl
  have m4 : ((((trisM ts).filter fun t => alongT t ⟨0, 0⟩ mid1).map Tr.v).length : Int) = 2 := by rw [List.length_map, (hp.filter _).length_eq, nB4]; rfl
  have m5 : ((((trisM ts).filter fun t => alongT t mid1 mid1).map Tr.v).length : Int) = 0 := by rw [along_self]; rfl
  have c1 : IsC (trisM ts) mid1 := cB1.perm hp.symm
  have c0 : IsC (trisM ts) ⟨0, 0⟩ := cB0.perm hp.symm
  have b1 : (!decide (rimP 2 mid1)) = true := by kernel_rfl
  have b0 : (!decide (rimP 2 ⟨0, 0⟩)) = false := by kernel_rfl
  have i0 : inB ⟨0, 0⟩ := by unfold inB; decide
  have i1 : inB mid1 := by unfold inB mid1; decide
  have hts := hT.box' (by decide)
  repeat' (first | refine VJ.seq ?_ | refine VJ.skip ?_ | refine VJ.cond_t rfl ?_ | refine VJ.cond_f rfl ?_ | refine VJ.region_k fun K hK => ?_ | (refine VR.done (hK _ ?_); clear hK K) | (first | (refine VR.bin rfl rfl rfl (eqI_of m1 _ _ _) ?_) | (refine VR.bin rfl rfl rfl (eqI_of m2 _ _ _) ?_) | (refine VR.bin rfl rfl rfl (eqI_of m3 _ _ _) ?_) | (refine VR.bin rfl rfl rfl (eqI_of m4 _ _ _) ?_) | (refine VR.bin rfl rfl rfl (eqI_of m5 _ _ _) ?_) | (refine VR.bin rfl rfl rfl (eqI_of (rfl : (0 : Int) = 0) _ _ _) ?_) | refine VR.move rfl rfl ?_ | refine VR.assign rfl rfl ?_ | (show onLd; refine VR.load tok rfl rfl rfl (by first | rfl | exact (ldp_el (by assumption)).trans (by rfl)) ?_) | refine VR.int rfl rfl rfl rfl ?_ | (refine VR.pickB rfl rfl rfl rfl ?_ ?_ ?_; (first | exact trivial | (refine fun h => ?_; first | (rw [h]; rfl) | (rw [h, hg]; rfl) | (rw [hg, h]; rfl) | (simp [h, hg]; done))); (first | exact trivial | (refine fun h => ?_; first | (rw [h]; rfl) | (rw [h, hg]; rfl) | (rw [hg, h]; rfl) | (simp [h, hg]; done)))) | refine VR.pick rfl rfl rfl ?_ | refine VR.not rfl rfl ?_ | refine VR.g_yes rfl rfl (by first | rfl | assumption) ?_ | refine VR.g_no rfl rfl rfl (by first | rfl | assumption) ?_ | refine VR.alloc tok rfl rfl rfl ?_ | refine VR.store tok rfl rfl rfl rfl rfl rfl rfl (by first | (intro n e; cases e; done) | exact (fun _ _ q => all_glA (by rfl) q)) ?_ | refine VR.extract rfl rfl rfl ?_ | refine VR.buildL (n := 1) [_, _] tok rfl rfl rfl rfl rfl rfl rfl rfl ?_ | refine VR.len tok rfl rfl rfl rfl rfl ?_ | refine VR.eqNil rfl rfl rfl rfl (ptrOk (by rfl)) ?_ | refine VR.neNil rfl rfl rfl rfl (ptrOk (by rfl)) ?_ | (refine VR.buildLst ([(4 : Int)].map iV) tok (by rfl) (by rfl) (by rfl) (by rfl) (by rfl) (by rfl) (by rfl) (by rfl) (by rfl) (by rfl) (by rfl) ?_) | (refine VR.call fok9 rfl rfl rfl rfl ?_; refine v_built I4 2 (by decide) (by decide) keeps4 (fun E1 h => I4_new h) [4] (by decide) (fun j hj E hI h => ?_) (fun j hj E hI h => ?_) (fun j hj E hI h1 h2 => ?_) _ (fun E W hI => ?_))) | (refine' VR.spec (by rfl) (by rfl) (by rfl) ?_ ?_ ?_; rotate_left 1; (repeat (first | exact trivial | refine And.intro id ?_)); intro hg K1 hK1; (first | refine VR.move rfl rfl ?_ | (show onLd; refine VR.load tok rfl rfl rfl (by first | rfl | exact (ldp_el (by assumption)).trans (by rfl)) ?_) | refine VR.int rfl rfl rfl rfl ?_ | refine VR.not rfl rfl ?_ | refine VR.buildL (n := 1) [_, _] tok rfl rfl rfl rfl rfl rfl rfl rfl ?_ | refine VR.len tok rfl rfl rfl rfl rfl ?_ | (refine VR.buildLst ([(4 : Int)].map iV) tok (by rfl) (by rfl) (by rfl) (by rfl) (by rfl) (by rfl) (by rfl) (by rfl) (by rfl) (by rfl) (by rfl) ?_) | (refine VR.call fok9 rfl rfl rfl rfl ?_; refine v_built I4 2 (by decide) (by decide) keeps4 (fun E1 h => I4_new h) [4] (by decide) (fun j hj E hI h => ?_) (fun j hj E hI h => ?_) (fun j hj E hI h1 h2 => ?_) _ (fun E W hI => ?_)) | (refine VR.call fok11 rfl rfl rfl rfl ?_; refine (v_atM ts few le mid1 _ (GL_mesh _ _ _ _ _) (GL_free _ _ _ _ _) _ ?_)) | (refine VR.call fok11 rfl rfl rfl rfl ?_; refine (v_atM ts few le ⟨1, 0⟩ _ (GL_mesh _ _ _ _ _) (GL_free _ _ _ _ _) _ ?_)) | (refine VR.call fok13 rfl rfl rfl rfl ?_; refine (v_starM ts few le mid1 _ (GL_mesh _ _ _ _ _) (GL_free _ _ _ _ _) _ ?_)) | (refine VR.call fok17 rfl rfl rfl rfl ?_; refine (v_closedT (by decide) (by decide) hT hP few mid1 c1 b1 _ (GL_mesh _ _ _ _ _) (GL_free _ _ _ _ _) _ ?_)) | (refine VR.call fok17 rfl rfl rfl rfl ?_; refine (v_closedT (by decide) (by decide) hT hP few ⟨0, 0⟩ c0 b0 _ (GL_mesh _ _ _ _ _) (GL_free _ _ _ _ _) _ ?_)) | (refine VR.call fok15 rfl rfl rfl rfl ?_; refine (v_trailM ts few le hts ⟨0, 0⟩ mid1 i0 i1 _ (GL_mesh _ _ _ _ _) (GL_free _ _ _ _ _) _ ?_)) | (refine VR.call fok15 rfl rfl rfl rfl ?_; refine (v_trailM ts few le hts mid1 mid1 i1 i1 _ (GL_mesh _ _ _ _ _) (GL_free _ _ _ _ _) _ ?_)) | (refine VR.call fok13 rfl rfl rfl rfl ?_; refine (v_starNil mid1 _ _ (GL_free _ _ _ _ _) ?_)) | (refine VR.call fok17 rfl rfl rfl rfl ?_; refine (v_closedNil mid1 _ _ (GL_free _ _ _ _ _) ?_))); exact VR.done hK1) | (refine VR.call fok11 rfl rfl rfl rfl ?_; refine (v_atM ts few le mid1 _ (GL_mesh _ _ _ _ _) (GL_free _ _ _ _ _) _ ?_)) | (refine VR.call fok11 rfl rfl rfl rfl ?_; refine (v_atM ts few le ⟨1, 0⟩ _ (GL_mesh _ _ _ _ _) (GL_free _ _ _ _ _) _ ?_)) | (refine VR.call fok13 rfl rfl rfl rfl ?_; refine (v_starM ts few le mid1 _ (GL_mesh _ _ _ _ _) (GL_free _ _ _ _ _) _ ?_)) | (refine VR.call fok17 rfl rfl rfl rfl ?_; refine (v_closedT (by decide) (by decide) hT hP few mid1 c1 b1 _ (GL_mesh _ _ _ _ _) (GL_free _ _ _ _ _) _ ?_)) | (refine VR.call fok17 rfl rfl rfl rfl ?_; refine (v_closedT (by decide) (by decide) hT hP few ⟨0, 0⟩ c0 b0 _ (GL_mesh _ _ _ _ _) (GL_free _ _ _ _ _) _ ?_)) | (refine VR.call fok15 rfl rfl rfl rfl ?_; refine (v_trailM ts few le hts ⟨0, 0⟩ mid1 i0 i1 _ (GL_mesh _ _ _ _ _) (GL_free _ _ _ _ _) _ ?_)) | (refine VR.call fok15 rfl rfl rfl rfl ?_; refine (v_trailM ts few le hts mid1 mid1 i1 i1 _ (GL_mesh _ _ _ _ _) (GL_free _ _ _ _ _) _ ?_)) | (refine VR.call fok13 rfl rfl rfl rfl ?_; refine (v_starNil mid1 _ _ (GL_free _ _ _ _ _) ?_)) | (refine VR.call fok17 rfl rfl rfl rfl ?_; refine (v_closedNil mid1 _ _ (GL_free _ _ _ _ _) ?_)))
  refine VJ.retF (r := vB true) tok (by rfl) (by rfl) hG0 (fun n o h => by cases h) (by rfl) hQ
end Go.Proofs.YtnpnjhopgedhkaaGreat

/- walkTrails, walked. Conditions: none. -/
namespace Go.Proofs.YtnpnjhopgedhkaaGreat
open Go.RowKit V Geo
set_option linter.unusedVariables false

def fewB (s : Int) (n : Nat) : Bool := decide (1 ≤ s ∧ s ≤ 40 ∧ n ≤ 25)
theorem few_eq (s : Int) (n : Nat) : (bif (bif (bif decide (s ≥ 1) then decide (s ≤ 40) else false) then decide ((n : Int) ≤ 25) else false) then decide ((0 : Int) ≤ 12) else false) = fewB s n := by
  unfold fewB
  by_cases h1 : s ≥ 1
  · by_cases h2 : s ≤ 40
    · by_cases h3 : (n : Int) ≤ 25
      · rw [decide_eq_true h1, decide_eq_true h2, decide_eq_true h3, decide_eq_true (show 1 ≤ s ∧ s ≤ 40 ∧ n ≤ 25 by omega)]; rfl
      · rw [decide_eq_true h1, decide_eq_true h2, decide_eq_false h3, decide_eq_false (show ¬ (1 ≤ s ∧ s ≤ 40 ∧ n ≤ 25) by omega)]; rfl
    · rw [decide_eq_true h1, decide_eq_false h2, decide_eq_false (show ¬ (1 ≤ s ∧ s ≤ 40 ∧ n ≤ 25) by omega)]; rfl
  · rw [decide_eq_false h1, decide_eq_false (show ¬ (1 ≤ s ∧ s ≤ 40 ∧ n ≤ 25) by omega)]; rfl
theorem fewB_yes {s : Int} {n : Nat} (h : fewB s n = true) : 1 ≤ s ∧ s ≤ 40 ∧ n ≤ 25 := of_decide_eq_true h
def psAt (s : Int) (ps : List Int) (j : Nat) : List Pt := (ps.take j).map (spotP s)
theorem psAt_succ (s : Int) (ps : List Int) {j : Nat} (h : j < ps.length) : psAt s ps (j + 1) = psAt s ps j ++ [spotP s ps[j]] := by
  unfold psAt
  rw [← List.take_append_getElem h, List.map_append]
  rfl
def I6 (s : Int) (ps : List Int) (j : Nat) (E : LS) : Prop := InvP s (psAt s ps j) E
attribute [local irreducible] VR VJ VC decOk decBt
theorem v_few (s : Int) (ps : List Int) (G : Gl) (Q : Po) (hQ : Q (vB (fewB s ps.length)) G) : VC Tryz.prog 7 [vI s, vL 1 (ps.map iV), vNS] G Q := by
  refine VC.of_body Tryz.func7 rfl rfl rfl fun W0 h0 x0 hG0 => ?_
  simp only [args0]
  rw [← few_eq, show ps.length = (ps.map iV).length from (List.length_map _).symm] at hQ
  repeat' (first | refine VJ.seq ?_ | refine VJ.region_k fun K hK => ?_ | (refine VR.done (hK _ ?_); clear hK K) | (first | refine VR.move rfl rfl ?_ | refine VR.assign rfl rfl ?_ | refine VR.int rfl rfl rfl rfl ?_ | (refine VR.pickB rfl rfl rfl rfl ?_ ?_ ?_; (first | exact trivial | (refine fun h => ?_; first | (rw [h]; rfl) | (rw [h, hg]; rfl) | (rw [hg, h]; rfl) | (simp [h, hg]; done))); (first | exact trivial | (refine fun h => ?_; first | (rw [h]; rfl) | (rw [h, hg]; rfl) | (rw [hg, h]; rfl) | (simp [h, hg]; done))))) | (refine' VR.spec (by rfl) (by rfl) (by rfl) ?_ ?_ ?_; rotate_left 1; (repeat (first | exact trivial | refine And.intro id ?_)); intro hg K1 hK1; (first | refine VR.move rfl rfl ?_ | refine VR.int rfl rfl rfl rfl ?_ | refine VR.len tok rfl rfl rfl rfl rfl ?_); exact VR.done hK1))
  refine VJ.ret tok (by rfl) (by rfl) ?_
  exact hQ
/-- The square with its points. -/
theorem v_builtP (s : Int) (ps : List Int) (hs1 : 1 ≤ s) (hs2 : s ≤ 40) (few : ps.length ≤ 25) (Q : Po)
    (hQ : ∀ ts le E W, TI s E (trisM ts) → PM ts le E (trisM ts) → ts.length ≤ 3200 → (∀ n ∈ ps, IsC (trisM ts) (spotP s n)) → Q vM2 (GL ts le E W s)) : VC Tryz.prog 9 [vI s, vL 1 (ps.map iV), vNS] E0 Q := by
  refine v_built (I6 s ps) s hs1 hs2 (fun j W => keepsP hs1 hs2 _ W) (fun E1 h => ?_) ps few (fun j hj E hI h => ?_) (fun j hj E hI h => ?_) (fun j hj E hI h1 h2 => ?_) Q (fun E W hI => ?_)
  · obtain ⟨E', k1, k2⟩ := sqTI hs1 hs2
    rw [k1] at h
    cases h
    exact InvP.new ⟨_, k2⟩
  · exact absurd h (InvP.at hs1 hs2 hI (spot_in s _ hs1 hs2))
  · unfold I6
    rw [psAt_succ s ps hj]
    exact InvP.star hI h
  · unfold I6
    rw [psAt_succ s ps hj]
    exact InvP.add hs2 hI (spot_in s _ hs1 hs2) h1 h2
  · obtain ⟨l, hT, hc⟩ := hI
    have hLl : (trisR E).Perm l := (sortT_perm _).trans hT.mo.trs
    have hfew : l.length ≤ 3200 := by have := (hT.sql hs1 hs2).few; omega
    have hT := hT.perm hLl.symm
    obtain ⟨_, hP⟩ := made_pm hT.mo
    have hLM : trisM (meshOf (trisR E)).1 = trisR E := hP.tris.symm
    refine hQ _ _ E W (by rw [hLM]; exact hT) (by rw [hLM]; exact hP) (by rw [hP.tlen, hLl.length_eq]; exact hfew) fun n hn => ?_
    rw [hLM]
    refine (hc (spotP s n) ?_).perm hLl.symm
    unfold psAt
    rw [List.take_length]
    exact List.mem_map_of_mem hn
end Go.Proofs.YtnpnjhopgedhkaaGreat

/- walkStars, walked. Conditions: none. -/
namespace Go.Proofs.YtnpnjhopgedhkaaGreat
open Go.RowKit V Geo
set_option linter.unusedVariables false

theorem eqBB_of {p q r : Bool} (h : (p == q) = r) (a b : Operand) (w : World) : (do eqGuard .eql 4 a b (.bool p) (.bool q); binOp .eql 4 (.bool p) (.bool q) : Sem Value).run Tryz.prog w = .ok (.bool r) w := by
  subst h
  cases p <;> cases q <;> simp [eqGuard, go_sem]
theorem str_nd {l : List Pt} (h : Str l) : l.Nodup := by
  have ir : ∀ p : Pt, p.lt p = false := fun p => Bool.eq_false_iff.2 fun e => by rw [pt_lt] at e; omega
  exact h.imp fun {p q} hpq e => by rw [e, ir] at hpq; cases hpq
theorem mem_corners {l : List Tr} {x : Pt} : x ∈ cornersOf l ↔ IsC l x := by
  unfold cornersOf IsC
  rw [List.mem_flatMap]
  simp
theorem rim_eq (s : Int) (q : Pt) : (bif (bif (bif q.x == 0 then true else q.y == 0) then true else q.x == s) then true else q.y == s) = decide (rimP s q) := by
  have e : ∀ b1 b2 b3 b4 : Bool, (bif (bif (bif b1 then true else b2) then true else b3) then true else b4) = (b1 || (b2 || (b3 || b4))) := by decide
  rw [e, Bool.eq_iff_iff, decide_eq_true_iff]
  unfold rimP
  simp only [Bool.or_eq_true, beq_iff_eq]
theorem sumN_app2 (f : Pt → Nat) (l l' : List Pt) : sumN f (l ++ l') = sumN f l + sumN f l' := by
  induction l with
  | nil => show sumN f l' = 0 + sumN f l'; omega
  | cons q l ih => show sumN f (l ++ l') + f q = sumN f l + f q + sumN f l'; omega
theorem sumN_take (f : Pt → Nat) (l : List Pt) {i : Nat} (h : i < l.length) : sumN f (l.take (i + 1)) = sumN f (l.take i) + f l[i] ∧ sumN f (l.take (i + 1)) ≤ sumN f l := by
  have e1 := sumN_app f (l.take i) l[i]
  rw [List.take_append_getElem h] at e1
  have e2 := sumN_app2 f (l.take (i + 1)) (l.drop (i + 1))
  rw [List.take_append_drop] at e2
  exact ⟨e1, by omega⟩
theorem sumN_ge (f : Pt → Nat) : ∀ {l : List Pt}, (∀ p ∈ l, 1 ≤ f p) → l.length ≤ sumN f l
  | [], _ => Nat.zero_le _
  | p :: l, h => by
    have h1 := sumN_ge f (l := l) fun q hq => h q (List.mem_cons_of_mem _ hq)
    have h2 := h p (by simp)
    show l.length + 1 ≤ sumN f l + f p
    omega
abbrev starN (ts : TS) (p : Pt) : Nat := ((trisM ts).filter fun t => cornB t p).length
attribute [local irreducible] VR VJ VC decOk decBt
theorem v_pointsC {s : Int} {ts : TS} {le E : LS} (W : List Wl) (hP : PM ts le E (trisM ts)) (few : ts.length ≤ 3200) (Q : Po)
    (hQ : ∀ out, Str out → (∀ x, x ∈ out ↔ IsC (trisM ts) x) → Q (vL 2 (out.map ptV)) (GL ts le E W s)) : VC Tryz.prog 24 [vC] (GL ts le E W s) Q := by
  refine VC.of_body Tryz.func24 rfl rfl rfl fun W0 h0 x0 hG0 => ?_
  simp only [args0]
  have hlen := trisM_len ts
  have fewE : E.length < 100000 := by rw [hP.mo.len]; omega
  have htr : trisR E = trisM ts := hP.tris
  repeat' (first | refine VJ.seq ?_ | refine VJ.region_k fun K hK => ?_ | (refine VR.done (hK _ ?_); clear hK K) | (first | refine VR.move rfl rfl ?_ | refine VR.assign rfl rfl ?_ | (show onLd; refine VR.load tok rfl rfl rfl (by first | rfl | exact (ldp_el (by assumption)).trans (by rfl)) ?_) | (show onFa; refine VR.fieldAddr tok rfl rfl rfl (by first | rfl | exact place_el (by assumption)) rfl rfl ?_) | refine VR.nilCheck rfl rfl rfl ?_ | (refine VR.call fok29 rfl rfl rfl rfl ?_; refine v_trisG E fewE _ (GL_ref _ _ _ _ _) _ ?_; rw [htr]) | (refine VR.call fok45 rfl rfl rfl rfl ?_; refine v_corners (trisM ts) (by omega) _ _ (fun out h1 h2 => ?_))))
  have hq := hQ out h1 fun x => (h2 x).trans mem_corners
  refine VJ.ret tok (by rfl) (by rfl) ?_
  exact hq
set_option maxRecDepth 20000 in
set_option maxHeartbeats 16000000 in
theorem v_walkStars (s : Int) (ps : List Int) (Q : Po) (hQ : Q (vB true) E0) : VC Tryz.prog 6 [vI s, vL 1 (ps.map iV)] E0 Q := by
  refine VC.of_body Tryz.func6 rfl rfl rfl fun W0 h0 x0 hG0 => ?_
  simp only [args0]
  repeat' (first | refine VJ.seq ?_ | refine VJ.region_k fun K hK => ?_ | (refine VR.done (hK _ ?_); clear hK K) | (first | refine VR.move rfl rfl ?_ | refine VR.assign rfl rfl ?_ | refine VR.not rfl rfl ?_) | (refine VR.call fok7 rfl rfl rfl rfl ?_; refine (v_few s ps _ _ ?_)))
  refine VJ.cond rfl (fun hc => ?_) (fun hc => ?_)
  · repeat' (first | refine VJ.seq ?_ | refine VJ.region_k fun K hK => ?_ | (refine VR.done (hK _ ?_); clear hK K) | (first | refine VR.assign rfl rfl ?_ | (refine VR.callk (fun _ => false) [] fok8 rfl rfl rfl rfl (fun _ _ h => by cases h) ?_; refine v_awakeW _ ⟨(fun n h => rfl), .inl rfl, ?_⟩; rw [GM_false])))
    refine VJ.retF (r := vB true) tok (by rfl) (by rfl) hG0 (fun n o h => by cases h) (by rfl) hQ
  have hc : (!fewB s ps.length) = false := hc
  obtain ⟨hs1, hs2, hps⟩ := fewB_yes (by simpa using hc)
  clear hc
  repeat' (first | refine VJ.seq ?_ | refine VJ.skip ?_ | refine VJ.block ?_ | refine VJ.cond_f rfl ?_ | refine VJ.region_k fun K hK => ?_ | (refine VR.done (hK _ ?_); clear hK K) | (first | refine VR.move rfl rfl ?_ | refine VR.assign rfl rfl ?_ | refine VR.extract rfl rfl rfl ?_ | refine VR.eqNil rfl rfl rfl rfl (ptrOk (by rfl)) ?_ | (refine VR.call fok9 rfl rfl rfl rfl ?_; refine v_builtP s ps hs1 hs2 hps _ (fun ts le E W hT hP hlen hcor => ?_)) | (refine VR.call fok24 rfl rfl rfl rfl ?_; refine v_pointsC W hP hlen _ (fun P hP1 hP2 => ?_))))
  have few : ts.length < 100000 := by omega
  have hPn := str_nd hP1
  have hsum : sumN (starN ts) P = 3 * ts.length := by
    rw [← trisM_len ts]
    exact star_sum hPn (trisM ts) fun t ht => ⟨hT.mo.val t ht, (hP2 _).2 ⟨t, ht, .inl rfl⟩, (hP2 _).2 ⟨t, ht, .inr (.inl rfl)⟩, (hP2 _).2 ⟨t, ht, .inr (.inr rfl)⟩⟩
  have hPl : P.length ≤ 9600 := by
    have := sumN_ge (starN ts) (l := P) fun p hp => List.length_pos_iff.2 (isC_star.1 ((hP2 p).1 hp))
    omega
  have hPc : ∀ p ∈ P, IsC (trisM ts) p := fun p hp => (hP2 p).1 hp
  clear hP1 hP2 hcor hPn
  refine VJ.to 0 [(9, vI ((0 : Nat) : Int)), (8, vI ((sumN (starN ts) (P.take 0) : Nat) : Int)), (7, vL 2 (P.map ptV)), (5, vM), (0, vI s)] [] ?_ rfl (by repeat' (first | exact trivial | refine And.intro rfl ?_)) trivial (by rfl)
  refine VJ.rec (fun i : Nat => ⟨0, [(9, vI i), (8, vI ((sumN (starN ts) (P.take i) : Nat) : Int)), (7, vL 2 (P.map ptV)), (5, vM), (0, vI s)], [], GL ts le E W s⟩) (fun i => P.length - i) (fun i => i ≤ P.length) 0 (Nat.zero_le _) ?_
  intro i hi ih
  repeat' (first | refine VJ.seq ?_ | refine VJ.region_k fun K hK => ?_ | (refine VR.done (hK _ ?_); clear hK K) | (first | refine VR.move rfl rfl ?_ | refine VR.int rfl rfl rfl rfl ?_ | refine VR.len tok rfl rfl rfl rfl rfl ?_))
  refine VJ.cond rfl (fun hb => ?_) (fun hb => ?_)
  · have hlt : i < P.length := by simpa using hb
    have hget := map_get_p hlt
    have hic := hPc _ (List.getElem_mem hlt)
    obtain ⟨n1, n2⟩ := sumN_take (starN ts) P hlt
    have ih' := ih (i + 1) hlt (by omega)
    clear ih
    generalize P[i] = p at hget hic n1
    have hw : IntKind.i64.wrap (((sumN (starN ts) (P.take i) : Nat) : Int) + ((((trisM ts).filter fun t => cornB t p).map Tr.v).length : Int)) = ((sumN (starN ts) (P.take (i + 1)) : Nat) : Int) := by
      rw [List.length_map, Go.IntWalk.i64_in _ (by have : starN ts p = ((trisM ts).filter fun t => cornB t p).length := rfl
                                                   omega), n1]
      rfl
    rw [← hw] at ih'
    have hcb : ∀ t ∈ (trisM ts).filter (fun t => cornB t p), cornB t p = true := fun t ht => (List.mem_filter.1 ht).2
    have hSl := List.length_filter_le (fun t => cornB t p) (trisM ts)
    rw [trisM_len] at hSl
    have hcl : ∀ b, (!decide (rimP s p)) = b → (b == (bif (bif (bif p.x == 0 then true else p.y == 0) then true else p.x == s) then true else p.y == s)) = false := fun b hb => by
      rw [rim_eq, ← hb]
      cases decide (rimP s p) <;> rfl
    clear hw n1 n2
    repeat' (first | refine VJ.seq ?_ | refine VJ.skip ?_ | refine VJ.block ?_ | refine VJ.region_k fun K hK => ?_ | (refine VR.done (hK _ ?_); clear hK K) | (first | refine VR.move rfl rfl ?_ | refine VR.assign rfl rfl ?_ | (show onLd; refine VR.load tok rfl rfl rfl (by first | rfl | exact (ldp_el (by assumption)).trans (by rfl)) ?_) | (show onIx; refine VR.indexAddr tok rfl rfl rfl rfl rfl rfl rfl (elA_lst (by assumption)) ?_) | refine VR.int rfl rfl rfl rfl ?_ | refine VR.len tok rfl rfl rfl rfl rfl ?_ | (refine VR.call fok13 rfl rfl rfl rfl ?_; refine v_starM ts few le p _ (GL_mesh _ _ _ _ _) (GL_free _ _ _ _ _) _ ?_)))
    generalize ((trisM ts).filter fun t => cornB t p) = S at ih' hcb hSl ⊢
    generalize IntKind.i64.wrap (((sumN (starN ts) (P.take i) : Nat) : Int) + ((S.map Tr.v).length : Int)) = N at ih' ⊢
    refine VJ.to 0 [(11, vI ((0 : Nat) : Int)), (10, vL 6 (S.map Tr.v)), (9, vI i), (8, vI N), (7, vL 2 (P.map ptV)), (5, vM), (0, vI s)] [] ?_ rfl (by repeat' (first | exact trivial | refine And.intro rfl ?_)) trivial (by rfl)
    refine VJ.rec (fun k : Nat => ⟨0, [(11, vI k), (10, vL 6 (S.map Tr.v)), (9, vI i), (8, vI N), (7, vL 2 (P.map ptV)), (5, vM), (0, vI s)], [], GL ts le E W s⟩) (fun k => S.length - k) (fun k => k ≤ S.length) 0 (Nat.zero_le _) ?_
    intro k hk ih2
    repeat' (first | refine VJ.seq ?_ | refine VJ.region_k fun K hK => ?_ | (refine VR.done (hK _ ?_); clear hK K) | (first | refine VR.move rfl rfl ?_ | refine VR.int rfl rfl rfl rfl ?_ | refine VR.len tok rfl rfl rfl rfl rfl ?_))
    refine VJ.cond rfl (fun hb2 => ?_) (fun hb2 => ?_)
    · have hlt2 : k < S.length := by simpa using hb2
      have hgetS := map_get_f hlt2
      have hcbk := hcb _ (List.getElem_mem hlt2)
      have ih3 := ih2 (k + 1) hlt2 (by omega)
      clear ih2 ih' hcb hcl
      generalize S[k] = t at hgetS hcbk
      have hno : (bif (bif !decide (t.a = p) then !decide (t.b = p) else false) then !decide (t.c = p) else false) = false := by
        rcases (cornB_iff t p).1 hcbk with e | e | e
        · rw [decide_eq_true e.symm]; rfl
        · rw [decide_eq_true e.symm]; cases decide (t.a = p) <;> rfl
        · rw [decide_eq_true e.symm]; cases decide (t.a = p) <;> cases decide (t.b = p) <;> rfl
      repeat' (first | refine VJ.seq ?_ | refine VJ.skip ?_ | refine VJ.block ?_ | (fail))
      apply VJ.draw3 [] [(0, 0), (1, 0), (2, 0), (3, 0), (4, 0), (5, 0), (6, 0), (7, 0), (8, 0), (9, 0), (10, 0), (11, 0), (12, 0), (13, 0), (14, 0), (15, 0), (16, 0), (17, 0), (18, 0), (19, 0), (20, 0), (21, 0), (22, 0), (23, 0), (24, 0), (25, 0), (26, 0), (27, 0), (28, 0), (29, 0), (30, 0), (31, 0), (32, 0), (33, 0)] [[(10, none)], [(11, none)], [(50, some 0), (51, some 1)], [(52, some 2)], [(53, some 3)], [(7, none)], [(9, none)], [(55, some 5), (56, some 6)], [(57, some 7)], [(54, some 4), (58, some 8)], [(59, some 9)], [(10, none), (60, some 10)], [(11, none), (60, some 10)], [(61, some 11), (62, some 12), (60, some 10)], [(63, some 13), (60, some 10)], [(64, some 14), (60, some 10)], [(7, none), (60, some 10)], [(9, none), (60, some 10)], [(66, some 16), (67, some 17), (60, some 10)], [(68, some 18), (60, some 10)], [(65, some 15), (69, some 19), (60, some 10)], [(60, some 10), (70, some 20)], [(71, some 21)], [(10, none), (72, some 22)], [(11, none), (72, some 22)], [(73, some 23), (74, some 24), (72, some 22)], [(75, some 25), (72, some 22)], [(76, some 26), (72, some 22)], [(7, none), (72, some 22)], [(9, none), (72, some 22)], [(78, some 28), (79, some 29), (72, some 22)], [(80, some 30), (72, some 22)], [(77, some 27), (81, some 31), (72, some 22)], [(72, some 22), (82, some 32)]] [[(10, _)], [(11, _)], [(50, _), (51, _)], [(52, _)], [(53, _)], [(7, _)], [(9, _)], [(55, _), (56, _)], [(57, _)], [(54, _), (58, _)], [(59, _)], [(10, _), (60, _)], [(11, _), (60, _)], [(61, _), (62, _), (60, _)], [(63, _), (60, _)], [(64, _), (60, _)], [(7, _), (60, _)], [(9, _), (60, _)], [(66, _), (67, _), (60, _)], [(68, _), (60, _)], [(65, _), (69, _), (60, _)], [(60, _), (70, _)], [(71, _)], [(10, _), (72, _)], [(11, _), (72, _)], [(73, _), (74, _), (72, _)], [(75, _), (72, _)], [(76, _), (72, _)], [(7, _), (72, _)], [(9, _), (72, _)], [(78, _), (79, _), (72, _)], [(80, _), (72, _)], [(77, _), (81, _), (72, _)], [(72, _), (82, _)]] [_, _, _, _, _, _, _, _, _, _, _, _, _, _, _, _, _, _, _, _, _, _, _, _, _, _, _, _, _, _, _, _, _, _] [⟨_, _, _⟩] (by kernel_rfl) ?hok rfl ?hh rfl rfl ?hj
      case hh =>
        refine ⟨?_, ?_, ?_, ?_, ?_, ?_, ?_, ?_, ?_, ?_, ?_, ?_, ?_, ?_, ?_, ?_, ?_, ?_, ?_, ?_, ?_, ?_, ?_, ?_, ?_, ?_, ?_, ?_, ?_, ?_, ?_, ?_, ?_, ?_, trivial⟩
        all_goals (intro rest K1 hK1; (repeat (first | exact VR.done hK1 | (first | refine VR.move rfl rfl ?_ | (show onLd; refine VR.load tok rfl rfl rfl (by first | rfl | exact (ldp_el (by assumption)).trans (by rfl)) ?_) | (show onFa; refine VR.fieldAddr tok rfl rfl rfl (by first | rfl | exact place_el (by assumption)) rfl rfl ?_) | (show onIx; refine VR.indexAddr tok rfl rfl rfl rfl rfl rfl rfl (elA_lst (by assumption)) ?_) | (refine VR.pickB rfl rfl rfl rfl ?_ ?_ ?_; (first | exact trivial | (refine fun h => ?_; first | (rw [h]; rfl) | (rw [h, hg]; rfl) | (rw [hg, h]; rfl) | (simp [h, hg]; done))); (first | exact trivial | (refine fun h => ?_; first | (rw [h]; rfl) | (rw [h, hg]; rfl) | (rw [hg, h]; rfl) | (simp [h, hg]; done)))) | (refine VR.bin rfl rfl rfl (neqP _ _ t.a p) ?_)) | (refine' VR.spec (by rfl) (by rfl) (by rfl) ?_ ?_ ?_; rotate_left 1; (repeat (first | exact trivial | refine And.intro id ?_)); intro hg K1 hK1; (first | refine VR.move rfl rfl ?_ | (show onLd; refine VR.load tok rfl rfl rfl (by first | rfl | exact (ldp_el (by assumption)).trans (by rfl)) ?_) | (show onFa; refine VR.fieldAddr tok rfl rfl rfl (by first | rfl | exact place_el (by assumption)) rfl rfl ?_) | (show onIx; refine VR.indexAddr tok rfl rfl rfl rfl rfl rfl rfl (elA_lst (by assumption)) ?_) | (refine VR.bin rfl rfl rfl (neqP _ _ t.b p) ?_) | (refine VR.bin rfl rfl rfl (neqP _ _ t.c p) ?_)); exact VR.done hK1))); try (first | exact VR.done hK1 | (refine VR.done ?_; dsimp only [S.set]; exact hK1)))
      case hok => kernel_rfl
      case hj =>
        dsimp only [List.append, tla]
        repeat' (first | (fail))
        refine VJ.cond rfl (fun h => absurd (hno.symm.trans h) (by simp)) (fun _ => ?_)
        repeat' (first | refine VJ.skip ?_ | refine VJ.inBlock ?_ | refine VJ.region_k fun K hK => ?_ | (refine VR.done (hK _ ?_); clear hK K) | (first | refine VR.move rfl rfl ?_ | refine VR.assign rfl rfl ?_ | refine VR.int rfl rfl rfl rfl ?_))
        exact VJ.to 0 [(11, vI ((k + 1 : Nat) : Int)), (10, vL 6 (S.map Tr.v)), (9, vI i), (8, vI N), (7, vL 2 (P.map ptV)), (5, vM), (0, vI s)] [] ih3 rfl ⟨vI_succ (by omega), by rfl, by rfl, by rfl, by rfl, by rfl, by rfl, trivial⟩ trivial (by rfl)
    · clear ih2
      repeat' (first | refine VJ.seq ?_ | refine VJ.skip ?_ | refine VJ.inBlock ?_ | refine VJ.exit rfl ?_ | refine VJ.cond_f rfl ?_ | refine VJ.region_k fun K hK => ?_ | (refine VR.done (hK _ ?_); clear hK K) | (first | (refine VR.bin rfl rfl rfl (eqBB_of (hcl _ rfl) _ _) ?_) | refine VR.move rfl rfl ?_ | refine VR.assign rfl rfl ?_ | (show onLd; refine VR.load tok rfl rfl rfl (by first | rfl | exact (ldp_el (by assumption)).trans (by rfl)) ?_) | (show onFa; refine VR.fieldAddr tok rfl rfl rfl (by first | rfl | exact place_el (by assumption)) rfl rfl ?_) | (show onIx; refine VR.indexAddr tok rfl rfl rfl rfl rfl rfl rfl (elA_lst (by assumption)) ?_) | refine VR.int rfl rfl rfl rfl ?_ | (refine VR.pickB rfl rfl rfl rfl ?_ ?_ ?_; (first | exact trivial | (refine fun h => ?_; first | (rw [h]; rfl) | (rw [h, hg]; rfl) | (rw [hg, h]; rfl) | (simp [h, hg]; done))); (first | exact trivial | (refine fun h => ?_; first | (rw [h]; rfl) | (rw [h, hg]; rfl) | (rw [hg, h]; rfl) | (simp [h, hg]; done)))) | (refine VR.call fok17 rfl rfl rfl rfl ?_; refine v_closedT hs1 hs2 hT hP few p hic rfl _ (GL_mesh _ _ _ _ _) (GL_free _ _ _ _ _) _ ?_)) | (refine' VR.spec (by rfl) (by rfl) (by rfl) ?_ ?_ ?_; rotate_left 1; (repeat (first | exact trivial | refine And.intro id ?_)); intro hg K1 hK1; (first | refine VR.move rfl rfl ?_ | (show onLd; refine VR.load tok rfl rfl rfl (by first | rfl | exact (ldp_el (by assumption)).trans (by rfl)) ?_) | (show onFa; refine VR.fieldAddr tok rfl rfl rfl (by first | rfl | exact place_el (by assumption)) rfl rfl ?_) | (show onIx; refine VR.indexAddr tok rfl rfl rfl rfl rfl rfl rfl (elA_lst (by assumption)) ?_) | refine VR.int rfl rfl rfl rfl ?_); exact VR.done hK1))
      exact VJ.to 0 [(9, vI ((i + 1 : Nat) : Int)), (8, vI N), (7, vL 2 (P.map ptV)), (5, vM), (0, vI s)] [] ih' rfl ⟨vI_succ (by omega), by rfl, by rfl, by rfl, by rfl, trivial⟩ trivial (by rfl)
  · have hie : i = P.length := by
      have : ¬ i < P.length := by simpa using hb
      omega
    subst hie
    have hfin : ((sumN (starN ts) (P.take P.length) : Nat) : Int) = IntKind.i64.wrap (3 * (ts.length : Int)) := by
      rw [List.take_length, hsum, Go.IntWalk.i64_in _ (by omega)]
      omega
    clear ih
    repeat' (first | refine VJ.seq ?_ | refine VJ.exit rfl ?_ | refine VJ.region_k fun K hK => ?_ | (refine VR.done (hK _ ?_); clear hK K) | (first | (refine VR.bin rfl rfl rfl (eqI_of hfin _ _ _) ?_) | refine VR.move rfl rfl ?_ | refine VR.assign rfl rfl ?_ | refine VR.int rfl rfl rfl rfl ?_ | (refine VR.pickB rfl rfl rfl rfl ?_ ?_ ?_; (first | exact trivial | (refine fun h => ?_; first | (rw [h]; rfl) | (rw [h, hg]; rfl) | (rw [hg, h]; rfl) | (simp [h, hg]; done))); (first | exact trivial | (refine fun h => ?_; first | (rw [h]; rfl) | (rw [h, hg]; rfl) | (rw [hg, h]; rfl) | (simp [h, hg]; done)))) | refine VR.g_yes rfl rfl (by first | rfl | assumption) ?_ | (refine VR.call fok23 rfl rfl rfl rfl ?_; refine v_lenM ts le _ (GL_mesh _ _ _ _ _) _ ?_) | (refine VR.callk (fun _ => false) [] fok8 rfl rfl rfl rfl (fun _ _ h => by cases h) ?_; refine v_awakeW _ ⟨(fun n h => rfl), .inl rfl, ?_⟩; rw [GM_false])))
    refine VJ.retF (r := vB true) tok (by rfl) (by rfl) hG0 (fun n o h => by cases h) (by rfl) hQ
end Go.Proofs.YtnpnjhopgedhkaaGreat

/- Lists of numbers, as a law is given them. Conditions: none. -/
namespace Go.Proofs.YtnpnjhopgedhkaaGreat
open Go.RowKit V Geo Go.ChangeShapes Go.WideShapes
set_option linter.unusedVariables false
theorem ri_of {W : World} {a : Option Addr} {len cap : Nat} {zs : List Int} (y : Flat.IsFlat 1 W a len cap zs) : ∃ l : List Int, IsL (fun _ => none) W 1 (l.map iV) (.slice a len cap) := by
  rcases Nat.eq_zero_or_pos len with rfl | hp
  · exact ⟨[], .inl ⟨rfl, a, cap, rfl⟩⟩
  · obtain ⟨b, o, rfl, hb, hc⟩ := Flat.cellsAt y (by omega)
    have hle : len ≤ cap := by
      rcases y with ⟨e, _⟩ | ⟨x, e, h1, _⟩
      · cases e
      · exact h1
    refine ⟨(List.range len).map fun i => zs.getD i 0, .inr ⟨b, o, cap, by simp, by simpa using hle, hb, none_mutb, ?_, ?_⟩⟩
    · intro x hx
      obtain ⟨q, _, rfl⟩ := List.mem_map.1 hx
      rfl
    · intro j c hj
      rw [cellsL_one _ (fun u hu => by obtain ⟨q, _, rfl⟩ := List.mem_map.1 hu; rfl), List.map_map] at hj
      have hlt : j < len := by
        have h1 := (List.getElem?_eq_some_iff.1 hj).1
        simpa using h1
      rw [List.getElem?_map, List.getElem?_range hlt] at hj
      simp only [Option.map_some, Function.comp_apply, Option.some.injEq] at hj
      subst hj
      exact (hc W (Below.refl _ W) j (by omega)).1
end Go.Proofs.YtnpnjhopgedhkaaGreat

/- The walk of Stars: it returns true. Conditions: none. -/
namespace Go.Proofs.YtnpnjhopgedhkaaGreat
open Go.RowKit V Geo Go.ChangeShapes Go.WideShapes
set_option linter.unusedVariables false
set_option maxRecDepth 100000 in
theorem walkStars_w (W : World) (s : Int) (a1 : Option Addr) (len1 cap1 : Nat) (zs1 : List Int) (y1 : Flat.IsFlat 1 W a1 len1 cap1 zs1) :
    Calls Tryz.prog 6 #[.int .i64 s, .slice a1 len1 cap1] W fun e W' => e = .returned (.bool true) ∧ Below W.heap.size W W' := by
  obtain ⟨l1, h1⟩ := ri_of y1
  exact VC.calls (args := [vI s, vL 1 (l1.map iV)]) (v_walkStars s l1 _ rfl) (RVs.cons rfl (RVs.cons (by exact h1) RVs.nil))
end Go.Proofs.YtnpnjhopgedhkaaGreat
