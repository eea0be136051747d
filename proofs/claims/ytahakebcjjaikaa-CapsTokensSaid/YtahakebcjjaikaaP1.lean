/- Capabilities' plain functions, as contracts of the abstract state. Conditions: none. -/
import Derived.Test.YtahakebcjjaikaaTab
import Derived.Test.YtahakebcjjaikaaE
namespace Go.Proofs.Ytahakebcjjaikaa
open Go.RowKit V
set_option linter.unusedVariables false
attribute [local irreducible] VR VJ VC

theorem v_compare (a b : Int) (G : Gl) (Q : Po) (hQ : Q (vI (sgn a b)) G) : VC Try.prog 59 [vI a, vI b] G Q :=
  VC.of_calls (vals := [.int .i64 a, .int .i64 b]) (fun w => (compare_c a b w).mono fun e w' h => ⟨h.1, h.2 ▸ Below.refl _ _⟩) hQ
theorem v_cmp (a b : Cap) (G : Gl) (Q : Po) (hQ : Q (vI (a.cmp b)) G) : VC Try.prog 29 [vV a.v, vV b.v] G Q :=
  VC.of_calls (vals := [a.v, b.v]) (fun w => (cmp_c a b w).mono fun e w' h => ⟨h.1, h.2.2⟩) hQ
theorem v_within (a b : Int) (G : Gl) (Q : Po) (hQ : Q (vB (inB a b)) G) : VC Try.prog 62 [vI a, vI b] G Q :=
  VC.of_calls (vals := [.int .i64 a, .int .i64 b]) (fun w => (within_c' a b w).mono fun e w' h => ⟨h.1, h.2 ▸ Below.refl _ _⟩) hQ
theorem v_of (c : Cap) (G : Gl) (Q : Po) (hQ : Q (vV c.of.v) G) : VC Try.prog 36 [vV c.v] G Q := VC.of_calls (vals := [c.v]) (of_c c) hQ
theorem v_from (c : Cap) (G : Gl) (Q : Po) (hQ : Q (vV c.from_.v) G) : VC Try.prog 61 [vV c.v] G Q := VC.of_calls (vals := [c.v]) (from_c c) hQ
theorem v_asked (c : Cap) (G : Gl) (Q : Po) (hQ : Q (vB c.asked) G) : VC Try.prog 45 [vV c.v] G Q := VC.of_calls (vals := [c.v]) (asked_c c) hQ
theorem v_narrower (c p : Cap) (G : Gl) (Q : Po) (hQ : Q (vB (c.narrower p)) G) : VC Try.prog 46 [vV c.v, vV p.v] G Q := VC.of_calls (vals := [c.v, p.v]) (narrower_c c p) hQ

/-- The tree t among the global objects. -/
structure TreeG (G : Gl) (t : Tr) : Prop where
  g0 : G 0 = some (.box [.mp (.g 1), .mp (.g 2), .mp (.g 3)])
  g1 : ∃ z, G 1 = some (.map Nm.v Cap.v t.m (some z))
  g2 : ∃ z, G 2 = some (.map Pl.v (Value.int .i64) t.issued z)
  g3 : ∃ z, G 3 = some (.map (Value.int .i64) (Value.int .i64) t.tokens z)

/-- What a tree keeps. -/
structure TrOk (t : Tr) : Prop where
  keys : ∀ p ∈ t.m, p.1 = p.2.of
  few : t.m.length < 100000
  nd : (t.m.map (·.1)).Nodup

abbrev vT : AV := .a (.ptr (.g 0) 0)

theorem v_all1 (c : Cap) (G : Gl) (Q : Po) (hQ : Q (vB true) G) : VC Try.prog 31 [vV c.v] G Q := by
  refine VC.of_body Try.func31 rfl rfl rfl fun W0 h0 x0 hG0 => ?_
  simp only [args0]
  repeat' (first | refine VJ.seq ?_ | refine VJ.skip ?_ | refine VJ.cond_t rfl ?_ | refine VJ.cond_f rfl ?_ | refine VJ.region_k fun K hK => ?_ | (refine VR.done (hK _ ?_); clear hK K) | (first | refine VR.assign rfl rfl ?_ | refine VR.box rfl rfl rfl ?_))
  all_goals refine VJ.ret tok (by rfl) (by rfl) ?_
  exact hQ

theorem v_held1 (a b n : Int) (c : Cap) (G : Gl) (h : govOk G [(10, .box [.d (.v (.int .i64 a))]), (11, .box [.d (.v (.int .i64 b))]), (12, .box [.d (.v (.int .i64 n))])]) (Q : Po)
    (hQ : Q (vB (((c.holder == a) && (c.parcel == b)) && decide (c.until_ > n))) G) : VC Try.prog 38 [vV c.v, .a (.ptr (.g 10) 0), .a (.ptr (.g 11) 0), .a (.ptr (.g 12) 0)] G Q := by
  rw [gov_self h] at hQ ⊢
  refine VC.of_body Try.func38 rfl rfl rfl fun W0 h0 x0 hG0 => ?_
  simp only [args0]
  repeat' (first | refine VJ.seq ?_ | refine VJ.skip ?_ | refine VJ.cond_t rfl ?_ | refine VJ.cond_f rfl ?_ | refine VJ.region_k fun K hK => ?_ | (refine VR.done (hK _ ?_); clear hK K) | (first | refine VR.move rfl rfl ?_ | refine VR.assign rfl rfl ?_ | (show onLd; refine VR.load tok rfl rfl rfl (by first | rfl | exact (ldp_el (by assumption)).trans (by rfl)) ?_) | (show onFa; refine VR.fieldAddr tok rfl rfl rfl (by first | rfl | exact place_el (by assumption)) rfl rfl ?_) | refine VR.int rfl rfl rfl rfl ?_ | (refine VR.pickB rfl rfl rfl rfl ?_ ?_ ?_; (first | exact trivial | (refine fun h => ?_; first | (rw [h]; rfl) | (rw [h, hg]; rfl) | (rw [hg, h]; rfl) | (simp [h, hg]; done))); (first | exact trivial | (refine fun h => ?_; first | (rw [h]; rfl) | (rw [h, hg]; rfl) | (rw [hg, h]; rfl) | (simp [h, hg]; done)))) | refine VR.pick rfl rfl rfl ?_ | refine VR.g_yes rfl rfl (by first | rfl | assumption) ?_ | refine VR.g_no rfl rfl rfl (by first | rfl | assumption) ?_ | refine VR.box rfl rfl rfl ?_) | (refine' VR.spec (by rfl) (by rfl) (by rfl) ?_ ?_ ?_; rotate_left 1; (repeat (first | exact trivial | refine And.intro id ?_)); intro hg K1 hK1; (first | (show onLd; refine VR.load tok rfl rfl rfl (by first | rfl | exact (ldp_el (by assumption)).trans (by rfl)) ?_) | (show onFa; refine VR.fieldAddr tok rfl rfl rfl (by first | rfl | exact place_el (by assumption)) rfl rfl ?_) | refine VR.int rfl rfl rfl rfl ?_); exact VR.done hK1))
  all_goals refine VJ.ret tok (by rfl) (by rfl) ?_
  simpa using hQ

theorem v_revoke1 (a : Int) (c : Cap) (G : Gl) (h : govOk G [(13, .box [.d (.v (.int .i64 a))])]) (Q : Po)
    (hQ : Q (vB ((c.holder == a) || (c.issuer == a))) G) : VC Try.prog 37 [vV c.v, .a (.ptr (.g 13) 0)] G Q := by
  rw [gov_self h] at hQ ⊢
  refine VC.of_body Try.func37 rfl rfl rfl fun W0 h0 x0 hG0 => ?_
  simp only [args0]
  repeat' (first | refine VJ.seq ?_ | refine VJ.skip ?_ | refine VJ.cond_t rfl ?_ | refine VJ.cond_f rfl ?_ | refine VJ.region_k fun K hK => ?_ | (refine VR.done (hK _ ?_); clear hK K) | (first | refine VR.move rfl rfl ?_ | refine VR.assign rfl rfl ?_ | (show onLd; refine VR.load tok rfl rfl rfl (by first | rfl | exact (ldp_el (by assumption)).trans (by rfl)) ?_) | (show onFa; refine VR.fieldAddr tok rfl rfl rfl (by first | rfl | exact place_el (by assumption)) rfl rfl ?_) | refine VR.int rfl rfl rfl rfl ?_ | (refine VR.pickB rfl rfl rfl rfl ?_ ?_ ?_; (first | exact trivial | (refine fun h => ?_; first | (rw [h]; rfl) | (rw [h, hg]; rfl) | (rw [hg, h]; rfl) | (simp [h, hg]; done))); (first | exact trivial | (refine fun h => ?_; first | (rw [h]; rfl) | (rw [h, hg]; rfl) | (rw [hg, h]; rfl) | (simp [h, hg]; done)))) | refine VR.pick rfl rfl rfl ?_ | refine VR.g_yes rfl rfl (by first | rfl | assumption) ?_ | refine VR.g_no rfl rfl rfl (by first | rfl | assumption) ?_ | refine VR.box rfl rfl rfl ?_) | (refine' VR.spec (by rfl) (by rfl) (by rfl) ?_ ?_ ?_; rotate_left 1; (repeat (first | exact trivial | refine And.intro id ?_)); intro hg K1 hK1; (first | (show onLd; refine VR.load tok rfl rfl rfl (by first | rfl | exact (ldp_el (by assumption)).trans (by rfl)) ?_) | (show onFa; refine VR.fieldAddr tok rfl rfl rfl (by first | rfl | exact place_el (by assumption)) rfl rfl ?_) | refine VR.int rfl rfl rfl rfl ?_); exact VR.done hK1))
  all_goals refine VJ.ret tok (by rfl) (by rfl) ?_
  simpa using hQ
