/- Sides, and the document's way of meeting. Conditions: none. -/
import Derived.Test.YtdkbmefidmljjaaW1
namespace Go.Proofs.Ytdkbmefidmljjaa
open Go.RowKit V Geo
set_option linter.unusedVariables false

abbrev wr (n : Int) : Int := IntKind.i64.wrap n
def twI (a b c : Pt) : Int := wr (wr (wr (b.x - a.x) * wr (c.y - a.y)) - wr (wr (b.y - a.y) * wr (c.x - a.x)))
theorem wr_in {n : Int} (h1 : -9223372036854775808 ≤ n) (h2 : n ≤ 9223372036854775807) : wr n = n := Go.IntWalk.i64_in _ (by omega)
theorem mul_bd {a b : Int} (h1 : -16777216 < a) (h2 : a < 16777216) (h3 : -16777216 < b) (h4 : b < 16777216) : -281474976710656 ≤ a * b ∧ a * b ≤ 281474976710656 := by
  have k1 : 0 ≤ (16777216 - a) * (16777216 + b) := Int.mul_nonneg (by omega) (by omega)
  have k2 : 0 ≤ (16777216 + a) * (16777216 - b) := Int.mul_nonneg (by omega) (by omega)
  have k3 : 0 ≤ (16777216 - a) * (16777216 - b) := Int.mul_nonneg (by omega) (by omega)
  have k4 : 0 ≤ (16777216 + a) * (16777216 + b) := Int.mul_nonneg (by omega) (by omega)
  constructor <;> grind
theorem tw_parts {a b c : Pt} (ha : a.ok) (hb : b.ok) (hc : c.ok) : wr (wr (b.x - a.x) * wr (c.y - a.y)) = (b.x - a.x) * (c.y - a.y) ∧ wr (wr (b.y - a.y) * wr (c.x - a.x)) = (b.y - a.y) * (c.x - a.x) ∧ twI a b c = tw a b c := by
  unfold Pt.ok at ha hb hc
  have e1 : wr (b.x - a.x) = b.x - a.x := wr_in (by omega) (by omega)
  have e2 : wr (c.y - a.y) = c.y - a.y := wr_in (by omega) (by omega)
  have e3 : wr (b.y - a.y) = b.y - a.y := wr_in (by omega) (by omega)
  have e4 : wr (c.x - a.x) = c.x - a.x := wr_in (by omega) (by omega)
  have m1 := mul_bd (a := b.x - a.x) (b := c.y - a.y) (by omega) (by omega) (by omega) (by omega)
  have m2 := mul_bd (a := b.y - a.y) (b := c.x - a.x) (by omega) (by omega) (by omega) (by omega)
  have g1 : wr ((b.x - a.x) * (c.y - a.y)) = (b.x - a.x) * (c.y - a.y) := wr_in (by omega) (by omega)
  have g2 : wr ((b.y - a.y) * (c.x - a.x)) = (b.y - a.y) * (c.x - a.x) := wr_in (by omega) (by omega)
  unfold twI tw
  rw [e1, e2, e3, e4, g1, g2]
  exact ⟨rfl, rfl, wr_in (by omega) (by omega)⟩
def oriG (a b c : Pt) : Int := if a.ok ∧ b.ok ∧ c.ok then sg (tw a b c) else 0
theorem cmpI_sg (u v : Int) : cmpI u v = sg (u - v) := by
  unfold cmpI sg
  rcases Int.lt_trichotomy u v with h | h | h
  · rw [if_pos h, if_pos (by omega)]
  · rw [if_neg (by omega), if_neg (by omega), if_neg (by omega), if_neg (by omega)]
  · rw [if_neg (by omega), if_pos h, if_neg (by omega), if_pos (by omega)]

attribute [local irreducible] VR VJ VC
theorem eqP0 (p q : Pt) (w : World) : (binOp .eql 24 (ptV p) (ptV q)).run Try.prog w = .ok (.bool (decide (p = q))) w := by
  obtain ⟨a, b⟩ := p
  obtain ⟨a', b'⟩ := q
  unfold ptV
  simp [go_sem]
  by_cases h1 : a = a' <;> by_cases h2 : b = b' <;> simp [h1, h2]
theorem neqP0 (p q : Pt) (w : World) : (binOp .neq 24 (ptV p) (ptV q)).run Try.prog w = .ok (.bool (!decide (p = q))) w := by
  obtain ⟨a, b⟩ := p
  obtain ⟨a', b'⟩ := q
  unfold ptV
  simp [go_sem]
  by_cases h1 : a = a' <;> by_cases h2 : b = b' <;> simp [h1, h2]
theorem eqP (a b : Operand) (p q : Pt) (w : World) : (do eqGuard .eql 24 a b (ptV p) (ptV q); binOp .eql 24 (ptV p) (ptV q) : Sem Value).run Try.prog w = .ok (.bool (decide (p = q))) w := by
  rw [Sem.run_bind, show (eqGuard .eql 24 a b (ptV p) (ptV q)).run Try.prog w = .ok () w from run_eqGuard_agg w .eql 24 a b _ _ (show Try.prog.eqGuardType Try.prog.depth 24 = false by kernel_rfl)]
  simp only [Result.andThen_ok]
  exact eqP0 p q w
theorem neqP (a b : Operand) (p q : Pt) (w : World) : (do eqGuard .neq 24 a b (ptV p) (ptV q); binOp .neq 24 (ptV p) (ptV q) : Sem Value).run Try.prog w = .ok (.bool (!decide (p = q))) w := by
  rw [Sem.run_bind, show (eqGuard .neq 24 a b (ptV p) (ptV q)).run Try.prog w = .ok () w from run_eqGuard_agg w .neq 24 a b _ _ (show Try.prog.eqGuardType Try.prog.depth 24 = false by kernel_rfl)]
  simp only [Result.andThen_ok]
  exact neqP0 p q w

theorem v_twice (a b c : Pt) (G : Gl) (Q : Po) (hQ : Q (vI (twI a b c)) G) : VC Try.prog 64 [vV (ptV a), vV (ptV b), vV (ptV c)] G Q := by
  refine VC.of_body Try.func64 rfl rfl rfl fun W0 h0 x0 hG0 => ?_
  simp only [args0]
  repeat' (first | refine VJ.seq ?_ | refine VJ.skip ?_ | refine VJ.cond_t rfl ?_ | refine VJ.cond_f rfl ?_ | refine VJ.region_k fun K hK => ?_ | (refine VR.done (hK _ ?_); clear hK K) | (first | refine VR.assign rfl rfl ?_ | (show onLd; refine VR.load tok rfl rfl rfl (by first | rfl | exact (ldp_el (by assumption)).trans (by rfl)) ?_) | (show onFa; refine VR.fieldAddr tok rfl rfl rfl (by first | rfl | exact place_el (by assumption)) rfl rfl ?_) | refine VR.int rfl rfl rfl rfl ?_ | refine VR.box rfl rfl rfl ?_))
  refine VJ.ret tok (by rfl) (by rfl) ?_
  exact hQ
theorem v_sign (n : Int) (G : Gl) (Q : Po) (hQ : Q (vI (sg n)) G) : VC Try.prog 63 [vI n] G Q := by
  refine VC.of_body Try.func63 rfl rfl rfl fun W0 h0 x0 hG0 => ?_
  simp only [args0]
  repeat' (first | refine VJ.seq ?_ | refine VJ.skip ?_ | refine VJ.block ?_ | refine VJ.inBlock ?_ | refine VJ.exit rfl ?_ | refine VJ.cond_t rfl ?_ | refine VJ.cond_f rfl ?_ | refine VJ.region_k fun K hK => ?_ | (refine VR.done (hK _ ?_); clear hK K) | (first | refine VR.move rfl rfl ?_ | refine VR.assign rfl rfl ?_ | refine VR.int rfl rfl rfl rfl ?_))
  refine VJ.cond rfl (fun hc => ?_) (fun hc => ?_)
  · repeat' (first | refine VJ.seq ?_ | refine VJ.skip ?_ | refine VJ.block ?_ | refine VJ.inBlock ?_ | refine VJ.exit rfl ?_ | refine VJ.cond_t rfl ?_ | refine VJ.cond_f rfl ?_ | refine VJ.region_k fun K hK => ?_ | (refine VR.done (hK _ ?_); clear hK K) | (first | refine VR.move rfl rfl ?_ | refine VR.assign rfl rfl ?_ | refine VR.int rfl rfl rfl rfl ?_))
    refine VJ.ret tok (by rfl) (by rfl) ?_
    rw [sg_neg (by simpa using hc)] at hQ
    exact hQ
  · have h1 : ¬ n < 0 := by simpa using hc
    repeat' (first | refine VJ.seq ?_ | refine VJ.skip ?_ | refine VJ.block ?_ | refine VJ.inBlock ?_ | refine VJ.exit rfl ?_ | refine VJ.cond_t rfl ?_ | refine VJ.cond_f rfl ?_ | refine VJ.region_k fun K hK => ?_ | (refine VR.done (hK _ ?_); clear hK K) | (first | refine VR.move rfl rfl ?_ | refine VR.assign rfl rfl ?_ | refine VR.int rfl rfl rfl rfl ?_))
    refine VJ.cond rfl (fun hc => ?_) (fun hc => ?_)
    · repeat' (first | refine VJ.seq ?_ | refine VJ.skip ?_ | refine VJ.block ?_ | refine VJ.inBlock ?_ | refine VJ.exit rfl ?_ | refine VJ.cond_t rfl ?_ | refine VJ.cond_f rfl ?_ | refine VJ.region_k fun K hK => ?_ | (refine VR.done (hK _ ?_); clear hK K) | (first | refine VR.move rfl rfl ?_ | refine VR.assign rfl rfl ?_ | refine VR.int rfl rfl rfl rfl ?_))
      refine VJ.ret tok (by rfl) (by rfl) ?_
      rw [sg_pos (by simpa using hc)] at hQ
      exact hQ
    · have h2 : ¬ n > 0 := by simpa using hc
      repeat' (first | refine VJ.seq ?_ | refine VJ.skip ?_ | refine VJ.block ?_ | refine VJ.inBlock ?_ | refine VJ.exit rfl ?_ | refine VJ.cond_t rfl ?_ | refine VJ.cond_f rfl ?_ | refine VJ.region_k fun K hK => ?_ | (refine VR.done (hK _ ?_); clear hK K) | (first | refine VR.move rfl rfl ?_ | refine VR.assign rfl rfl ?_ | refine VR.int rfl rfl rfl rfl ?_))
      refine VJ.ret tok (by rfl) (by rfl) ?_
      have : n = 0 := by omega
      subst this
      exact hQ
theorem v_orientR (a b c : Pt) (G : Gl) (Q : Po) (hQ : Q (vI (oriG a b c)) G) : VC Try.prog 52 [vV (ptV a), vV (ptV b), vV (ptV c)] G Q := by
  refine VC.of_body Try.func52 rfl rfl rfl fun W0 h0 x0 hG0 => ?_
  simp only [args0]
  repeat' (first | refine VJ.seq ?_ | refine VJ.skip ?_ | refine VJ.cond_t rfl ?_ | refine VJ.cond_f rfl ?_ | refine VJ.region_k fun K hK => ?_ | (refine VR.done (hK _ ?_); clear hK K) | (first | refine VR.move rfl rfl ?_ | refine VR.assign rfl rfl ?_ | (show onLd; refine VR.load tok rfl rfl rfl (by first | rfl | exact (ldp_el (by assumption)).trans (by rfl)) ?_) | (refine VR.pickB rfl rfl rfl rfl ?_ ?_ ?_; (first | exact trivial | (refine fun h => ?_; first | (rw [h]; rfl) | (rw [h, hg]; rfl) | (rw [hg, h]; rfl) | (simp [h, hg]; done))); (first | exact trivial | (refine fun h => ?_; first | (rw [h]; rfl) | (rw [h, hg]; rfl) | (rw [hg, h]; rfl) | (simp [h, hg]; done)))) | refine VR.pick rfl rfl rfl ?_ | refine VR.not rfl rfl ?_ | refine VR.g_yes rfl rfl (by first | rfl | assumption) ?_ | refine VR.g_no rfl rfl rfl (by first | rfl | assumption) ?_ | refine VR.box rfl rfl rfl ?_) | (refine' VR.spec (by rfl) (by rfl) (by rfl) ?_ ?_ ?_; rotate_left 1; (repeat (first | exact trivial | refine And.intro id ?_)); intro hg K1 hK1; (first | (show onLd; refine VR.load tok rfl rfl rfl (by first | rfl | exact (ldp_el (by assumption)).trans (by rfl)) ?_) | refine VR.not rfl rfl ?_ | (refine VR.call fok62 rfl rfl rfl rfl ?_; refine (v_valid2 a _ _ ?_)) | (refine VR.call fok62 rfl rfl rfl rfl ?_; refine (v_valid2 b _ _ ?_)) | (refine VR.call fok62 rfl rfl rfl rfl ?_; refine (v_valid2 c _ _ ?_)) | (refine VR.call fok64 rfl rfl rfl rfl ?_; refine (v_twice a b c _ _ ?_)) | (refine VR.call fok63 rfl rfl rfl rfl ?_; refine (v_sign _ _ _ ?_))); exact VR.done hK1) | (refine VR.call fok62 rfl rfl rfl rfl ?_; refine (v_valid2 a _ _ ?_)) | (refine VR.call fok62 rfl rfl rfl rfl ?_; refine (v_valid2 b _ _ ?_)) | (refine VR.call fok62 rfl rfl rfl rfl ?_; refine (v_valid2 c _ _ ?_)) | (refine VR.call fok64 rfl rfl rfl rfl ?_; refine (v_twice a b c _ _ ?_)) | (refine VR.call fok63 rfl rfl rfl rfl ?_; refine (v_sign _ _ _ ?_)))
  refine VJ.cond rfl (fun hc => ?_) (fun hc => ?_)
  · repeat' (first | refine VJ.seq ?_ | refine VJ.skip ?_ | refine VJ.cond_t rfl ?_ | refine VJ.cond_f rfl ?_ | refine VJ.region_k fun K hK => ?_ | (refine VR.done (hK _ ?_); clear hK K) | (first | refine VR.move rfl rfl ?_ | refine VR.assign rfl rfl ?_ | (show onLd; refine VR.load tok rfl rfl rfl (by first | rfl | exact (ldp_el (by assumption)).trans (by rfl)) ?_) | (refine VR.pickB rfl rfl rfl rfl ?_ ?_ ?_; (first | exact trivial | (refine fun h => ?_; first | (rw [h]; rfl) | (rw [h, hg]; rfl) | (rw [hg, h]; rfl) | (simp [h, hg]; done))); (first | exact trivial | (refine fun h => ?_; first | (rw [h]; rfl) | (rw [h, hg]; rfl) | (rw [hg, h]; rfl) | (simp [h, hg]; done)))) | refine VR.pick rfl rfl rfl ?_ | refine VR.not rfl rfl ?_ | refine VR.g_yes rfl rfl (by first | rfl | assumption) ?_ | refine VR.g_no rfl rfl rfl (by first | rfl | assumption) ?_ | refine VR.box rfl rfl rfl ?_) | (refine' VR.spec (by rfl) (by rfl) (by rfl) ?_ ?_ ?_; rotate_left 1; (repeat (first | exact trivial | refine And.intro id ?_)); intro hg K1 hK1; (first | (show onLd; refine VR.load tok rfl rfl rfl (by first | rfl | exact (ldp_el (by assumption)).trans (by rfl)) ?_) | refine VR.not rfl rfl ?_ | (refine VR.call fok62 rfl rfl rfl rfl ?_; refine (v_valid2 a _ _ ?_)) | (refine VR.call fok62 rfl rfl rfl rfl ?_; refine (v_valid2 b _ _ ?_)) | (refine VR.call fok62 rfl rfl rfl rfl ?_; refine (v_valid2 c _ _ ?_)) | (refine VR.call fok64 rfl rfl rfl rfl ?_; refine (v_twice a b c _ _ ?_)) | (refine VR.call fok63 rfl rfl rfl rfl ?_; refine (v_sign _ _ _ ?_))); exact VR.done hK1) | (refine VR.call fok62 rfl rfl rfl rfl ?_; refine (v_valid2 a _ _ ?_)) | (refine VR.call fok62 rfl rfl rfl rfl ?_; refine (v_valid2 b _ _ ?_)) | (refine VR.call fok62 rfl rfl rfl rfl ?_; refine (v_valid2 c _ _ ?_)) | (refine VR.call fok64 rfl rfl rfl rfl ?_; refine (v_twice a b c _ _ ?_)) | (refine VR.call fok63 rfl rfl rfl rfl ?_; refine (v_sign _ _ _ ?_)))
    refine VJ.ret tok (by rfl) (by rfl) ?_
    have : ¬ (a.ok ∧ b.ok ∧ c.ok) := by
      intro h
      simp [h.1, h.2.1, h.2.2] at hc
    unfold oriG at hQ
    rw [if_neg this] at hQ
    exact hQ
  · have h : a.ok ∧ b.ok ∧ c.ok := by
      by_cases h1 : a.ok <;> by_cases h2 : b.ok <;> by_cases h3 : c.ok <;> simp [h1, h2, h3] at hc ⊢
    repeat' (first | refine VJ.seq ?_ | refine VJ.skip ?_ | refine VJ.cond_t rfl ?_ | refine VJ.cond_f rfl ?_ | refine VJ.region_k fun K hK => ?_ | (refine VR.done (hK _ ?_); clear hK K) | (first | refine VR.move rfl rfl ?_ | refine VR.assign rfl rfl ?_ | (show onLd; refine VR.load tok rfl rfl rfl (by first | rfl | exact (ldp_el (by assumption)).trans (by rfl)) ?_) | (refine VR.pickB rfl rfl rfl rfl ?_ ?_ ?_; (first | exact trivial | (refine fun h => ?_; first | (rw [h]; rfl) | (rw [h, hg]; rfl) | (rw [hg, h]; rfl) | (simp [h, hg]; done))); (first | exact trivial | (refine fun h => ?_; first | (rw [h]; rfl) | (rw [h, hg]; rfl) | (rw [hg, h]; rfl) | (simp [h, hg]; done)))) | refine VR.pick rfl rfl rfl ?_ | refine VR.not rfl rfl ?_ | refine VR.g_yes rfl rfl (by first | rfl | assumption) ?_ | refine VR.g_no rfl rfl rfl (by first | rfl | assumption) ?_ | refine VR.box rfl rfl rfl ?_) | (refine' VR.spec (by rfl) (by rfl) (by rfl) ?_ ?_ ?_; rotate_left 1; (repeat (first | exact trivial | refine And.intro id ?_)); intro hg K1 hK1; (first | (show onLd; refine VR.load tok rfl rfl rfl (by first | rfl | exact (ldp_el (by assumption)).trans (by rfl)) ?_) | refine VR.not rfl rfl ?_ | (refine VR.call fok62 rfl rfl rfl rfl ?_; refine (v_valid2 a _ _ ?_)) | (refine VR.call fok62 rfl rfl rfl rfl ?_; refine (v_valid2 b _ _ ?_)) | (refine VR.call fok62 rfl rfl rfl rfl ?_; refine (v_valid2 c _ _ ?_)) | (refine VR.call fok64 rfl rfl rfl rfl ?_; refine (v_twice a b c _ _ ?_)) | (refine VR.call fok63 rfl rfl rfl rfl ?_; refine (v_sign _ _ _ ?_))); exact VR.done hK1) | (refine VR.call fok62 rfl rfl rfl rfl ?_; refine (v_valid2 a _ _ ?_)) | (refine VR.call fok62 rfl rfl rfl rfl ?_; refine (v_valid2 b _ _ ?_)) | (refine VR.call fok62 rfl rfl rfl rfl ?_; refine (v_valid2 c _ _ ?_)) | (refine VR.call fok64 rfl rfl rfl rfl ?_; refine (v_twice a b c _ _ ?_)) | (refine VR.call fok63 rfl rfl rfl rfl ?_; refine (v_sign _ _ _ ?_)))
    refine VJ.ret tok (by rfl) (by rfl) ?_
    unfold oriG at hQ
    rw [if_pos h, ← (tw_parts h.1 h.2.1 h.2.2).2.2] at hQ
    exact hQ
theorem v_orient (a b c : Pt) (G : Gl) (Q : Po) (hQ : Q (vI (oriG a b c)) G) : VC Try.prog 31 [vV (ptV a), vV (ptV b), vV (ptV c)] G Q := by
  refine VC.of_body Try.func31 rfl rfl rfl fun W0 h0 x0 hG0 => ?_
  simp only [args0]
  repeat' (first | refine VJ.seq ?_ | refine VJ.skip ?_ | refine VJ.cond_t rfl ?_ | refine VJ.cond_f rfl ?_ | refine VJ.region_k fun K hK => ?_ | (refine VR.done (hK _ ?_); clear hK K) | (first | refine VR.assign rfl rfl ?_ | (show onLd; refine VR.load tok rfl rfl rfl (by first | rfl | exact (ldp_el (by assumption)).trans (by rfl)) ?_) | (show onFa; refine VR.fieldAddr tok rfl rfl rfl (by first | rfl | exact place_el (by assumption)) rfl rfl ?_) | refine VR.int rfl rfl rfl rfl ?_ | refine VR.not rfl rfl ?_ | refine VR.box rfl rfl rfl ?_ | (refine VR.buildRow [ptV a, ptV b, ptV c] tok (by rfl) (by rfl) (by rfl) (by rfl) (by rfl) (by rfl) (by rfl) (by rfl) (by rfl) (by rfl) (by rfl) ?_) | (refine VR.callk (fun _ => false) [3] fok47 rfl rfl rfl rfl (fun _ _ h => nomatch (show false = true from h)) ?_; refine v_all [a, b, c] (by simp) _ _ ⟨(fun _ _ => rfl), .inr ⟨rfl, fun n o h => nomatch (show (none : Option VO) = some o from h)⟩, ?_⟩)) | (refine VR.call fok48 rfl rfl rfl rfl ?_; refine (v_compare _ _ _ _ ?_)))
  have hall : ([a, b, c].all fun p => decide p.ok) = decide (a.ok ∧ b.ok ∧ c.ok) := by
    by_cases h1 : a.ok <;> by_cases h2 : b.ok <;> by_cases h3 : c.ok <;> simp [h1, h2, h3]
  refine VJ.cond rfl (fun hc => ?_) (fun hc => ?_)
  · repeat' (first | refine VJ.seq ?_ | refine VJ.skip ?_ | refine VJ.cond_t rfl ?_ | refine VJ.cond_f rfl ?_ | refine VJ.region_k fun K hK => ?_ | (refine VR.done (hK _ ?_); clear hK K) | (first | refine VR.assign rfl rfl ?_ | (show onLd; refine VR.load tok rfl rfl rfl (by first | rfl | exact (ldp_el (by assumption)).trans (by rfl)) ?_) | (show onFa; refine VR.fieldAddr tok rfl rfl rfl (by first | rfl | exact place_el (by assumption)) rfl rfl ?_) | refine VR.int rfl rfl rfl rfl ?_ | refine VR.not rfl rfl ?_ | refine VR.box rfl rfl rfl ?_ | (refine VR.buildRow [ptV a, ptV b, ptV c] tok (by rfl) (by rfl) (by rfl) (by rfl) (by rfl) (by rfl) (by rfl) (by rfl) (by rfl) (by rfl) (by rfl) ?_) | (refine VR.callk (fun _ => false) [3] fok47 rfl rfl rfl rfl (fun _ _ h => nomatch (show false = true from h)) ?_; refine v_all [a, b, c] (by simp) _ _ ⟨(fun _ _ => rfl), .inr ⟨rfl, fun n o h => nomatch (show (none : Option VO) = some o from h)⟩, ?_⟩)) | (refine VR.call fok48 rfl rfl rfl rfl ?_; refine (v_compare _ _ _ _ ?_)))
    refine VJ.ret tok (by rfl) (by rfl) ?_
    rw [hall] at hc
    have h : ¬ (a.ok ∧ b.ok ∧ c.ok) := fun h => by rw [decide_eq_true h] at hc; cases hc
    unfold oriG at hQ
    rw [if_neg h] at hQ
    exact hQ
  · rw [hall] at hc
    have h : a.ok ∧ b.ok ∧ c.ok := by simpa using hc
    repeat' (first | refine VJ.seq ?_ | refine VJ.skip ?_ | refine VJ.cond_t rfl ?_ | refine VJ.cond_f rfl ?_ | refine VJ.region_k fun K hK => ?_ | (refine VR.done (hK _ ?_); clear hK K) | (first | refine VR.assign rfl rfl ?_ | (show onLd; refine VR.load tok rfl rfl rfl (by first | rfl | exact (ldp_el (by assumption)).trans (by rfl)) ?_) | (show onFa; refine VR.fieldAddr tok rfl rfl rfl (by first | rfl | exact place_el (by assumption)) rfl rfl ?_) | refine VR.int rfl rfl rfl rfl ?_ | refine VR.not rfl rfl ?_ | refine VR.box rfl rfl rfl ?_ | (refine VR.buildRow [ptV a, ptV b, ptV c] tok (by rfl) (by rfl) (by rfl) (by rfl) (by rfl) (by rfl) (by rfl) (by rfl) (by rfl) (by rfl) (by rfl) ?_) | (refine VR.callk (fun _ => false) [3] fok47 rfl rfl rfl rfl (fun _ _ h => nomatch (show false = true from h)) ?_; refine v_all [a, b, c] (by simp) _ _ ⟨(fun _ _ => rfl), .inr ⟨rfl, fun n o h => nomatch (show (none : Option VO) = some o from h)⟩, ?_⟩)) | (refine VR.call fok48 rfl rfl rfl rfl ?_; refine (v_compare _ _ _ _ ?_)))
    refine VJ.ret tok (by rfl) (by rfl) ?_
    unfold oriG at hQ
    have e := tw_parts h.1 h.2.1 h.2.2
    rw [if_pos h, tw, ← cmpI_sg, ← e.1, ← e.2.1] at hQ
    exact hQ
theorem v_cpR (p q : Pt) (G : Gl) (Q : Po) (hQ : Q (vI (cp p q)) G) : VC Try.prog 53 [vV (ptV p), vV (ptV q)] G Q := by
  refine VC.of_body Try.func53 rfl rfl rfl fun W0 h0 x0 hG0 => ?_
  simp only [args0]
  repeat' (first | refine VJ.seq ?_ | refine VJ.skip ?_ | refine VJ.block ?_ | refine VJ.inBlock ?_ | refine VJ.exit rfl ?_ | refine VJ.cond_t rfl ?_ | refine VJ.cond_f rfl ?_ | refine VJ.region_k fun K hK => ?_ | (refine VR.done (hK _ ?_); clear hK K) | (first | refine VR.move rfl rfl ?_ | refine VR.assign rfl rfl ?_ | (show onLd; refine VR.load tok rfl rfl rfl (by first | rfl | exact (ldp_el (by assumption)).trans (by rfl)) ?_) | (show onFa; refine VR.fieldAddr tok rfl rfl rfl (by first | rfl | exact place_el (by assumption)) rfl rfl ?_) | refine VR.int rfl rfl rfl rfl ?_ | (refine VR.pickB rfl rfl rfl rfl ?_ ?_ ?_; (first | exact trivial | (refine fun h => ?_; first | (rw [h]; rfl) | (rw [h, hg]; rfl) | (rw [hg, h]; rfl) | (simp [h, hg]; done))); (first | exact trivial | (refine fun h => ?_; first | (rw [h]; rfl) | (rw [h, hg]; rfl) | (rw [hg, h]; rfl) | (simp [h, hg]; done)))) | refine VR.pick rfl rfl rfl ?_ | refine VR.g_yes rfl rfl (by first | rfl | assumption) ?_ | refine VR.g_no rfl rfl rfl (by first | rfl | assumption) ?_ | refine VR.box rfl rfl rfl ?_ | (refine VR.bin rfl rfl rfl (eqP _ _ p q) ?_)) | (refine' VR.spec (by rfl) (by rfl) (by rfl) ?_ ?_ ?_; rotate_left 1; (repeat (first | exact trivial | refine And.intro id ?_)); intro hg K1 hK1; (first | refine VR.move rfl rfl ?_ | (show onLd; refine VR.load tok rfl rfl rfl (by first | rfl | exact (ldp_el (by assumption)).trans (by rfl)) ?_) | (show onFa; refine VR.fieldAddr tok rfl rfl rfl (by first | rfl | exact place_el (by assumption)) rfl rfl ?_) | refine VR.int rfl rfl rfl rfl ?_ | (refine VR.pickB rfl rfl rfl rfl ?_ ?_ ?_; (first | exact trivial | (refine fun h => ?_; first | (rw [h]; rfl) | (rw [h, hg]; rfl) | (rw [hg, h]; rfl) | (simp [h, hg]; done))); (first | exact trivial | (refine fun h => ?_; first | (rw [h]; rfl) | (rw [h, hg]; rfl) | (rw [hg, h]; rfl) | (simp [h, hg]; done)))) | refine VR.pick rfl rfl rfl ?_ | (refine VR.bin rfl rfl rfl (eqP _ _ p q) ?_)); exact VR.done hK1))
  have e : (bif decide (p.x < q.x) then true else (bif p.x == q.x then decide (p.y < q.y) else false)) = decide (cp p q < 0) := by
    rw [Bool.eq_iff_iff, decide_eq_true_eq, cp_neg]
    by_cases h1 : p.x < q.x <;> by_cases h2 : p.x = q.x <;> simp [h1, h2]
  refine VJ.cond rfl (fun hc => ?_) (fun hc => ?_)
  · have hc : cp p q < 0 := by
      have hc : (bif decide (p.x < q.x) then true else (bif p.x == q.x then decide (p.y < q.y) else false)) = true := hc
      rw [e] at hc; simpa using hc
    repeat' (first | refine VJ.seq ?_ | refine VJ.skip ?_ | refine VJ.block ?_ | refine VJ.inBlock ?_ | refine VJ.exit rfl ?_ | refine VJ.cond_t rfl ?_ | refine VJ.cond_f rfl ?_ | refine VJ.region_k fun K hK => ?_ | (refine VR.done (hK _ ?_); clear hK K) | (first | refine VR.move rfl rfl ?_ | refine VR.assign rfl rfl ?_ | (show onLd; refine VR.load tok rfl rfl rfl (by first | rfl | exact (ldp_el (by assumption)).trans (by rfl)) ?_) | (show onFa; refine VR.fieldAddr tok rfl rfl rfl (by first | rfl | exact place_el (by assumption)) rfl rfl ?_) | refine VR.int rfl rfl rfl rfl ?_ | (refine VR.pickB rfl rfl rfl rfl ?_ ?_ ?_; (first | exact trivial | (refine fun h => ?_; first | (rw [h]; rfl) | (rw [h, hg]; rfl) | (rw [hg, h]; rfl) | (simp [h, hg]; done))); (first | exact trivial | (refine fun h => ?_; first | (rw [h]; rfl) | (rw [h, hg]; rfl) | (rw [hg, h]; rfl) | (simp [h, hg]; done)))) | refine VR.pick rfl rfl rfl ?_ | refine VR.g_yes rfl rfl (by first | rfl | assumption) ?_ | refine VR.g_no rfl rfl rfl (by first | rfl | assumption) ?_ | refine VR.box rfl rfl rfl ?_ | (refine VR.bin rfl rfl rfl (eqP _ _ p q) ?_)) | (refine' VR.spec (by rfl) (by rfl) (by rfl) ?_ ?_ ?_; rotate_left 1; (repeat (first | exact trivial | refine And.intro id ?_)); intro hg K1 hK1; (first | refine VR.move rfl rfl ?_ | (show onLd; refine VR.load tok rfl rfl rfl (by first | rfl | exact (ldp_el (by assumption)).trans (by rfl)) ?_) | (show onFa; refine VR.fieldAddr tok rfl rfl rfl (by first | rfl | exact place_el (by assumption)) rfl rfl ?_) | refine VR.int rfl rfl rfl rfl ?_ | (refine VR.pickB rfl rfl rfl rfl ?_ ?_ ?_; (first | exact trivial | (refine fun h => ?_; first | (rw [h]; rfl) | (rw [h, hg]; rfl) | (rw [hg, h]; rfl) | (simp [h, hg]; done))); (first | exact trivial | (refine fun h => ?_; first | (rw [h]; rfl) | (rw [h, hg]; rfl) | (rw [hg, h]; rfl) | (simp [h, hg]; done)))) | refine VR.pick rfl rfl rfl ?_ | (refine VR.bin rfl rfl rfl (eqP _ _ p q) ?_)); exact VR.done hK1))
    refine VJ.ret tok (by rfl) (by rfl) ?_
    rcases cp_three p q with h | h | h
    · rw [h] at hQ; exact hQ
    · omega
    · omega
  · have hc : ¬ cp p q < 0 := by
      have hc : (bif decide (p.x < q.x) then true else (bif p.x == q.x then decide (p.y < q.y) else false)) = false := hc
      rw [e] at hc; simpa using hc
    repeat' (first | refine VJ.seq ?_ | refine VJ.skip ?_ | refine VJ.block ?_ | refine VJ.inBlock ?_ | refine VJ.exit rfl ?_ | refine VJ.cond_t rfl ?_ | refine VJ.cond_f rfl ?_ | refine VJ.region_k fun K hK => ?_ | (refine VR.done (hK _ ?_); clear hK K) | (first | refine VR.move rfl rfl ?_ | refine VR.assign rfl rfl ?_ | (show onLd; refine VR.load tok rfl rfl rfl (by first | rfl | exact (ldp_el (by assumption)).trans (by rfl)) ?_) | (show onFa; refine VR.fieldAddr tok rfl rfl rfl (by first | rfl | exact place_el (by assumption)) rfl rfl ?_) | refine VR.int rfl rfl rfl rfl ?_ | (refine VR.pickB rfl rfl rfl rfl ?_ ?_ ?_; (first | exact trivial | (refine fun h => ?_; first | (rw [h]; rfl) | (rw [h, hg]; rfl) | (rw [hg, h]; rfl) | (simp [h, hg]; done))); (first | exact trivial | (refine fun h => ?_; first | (rw [h]; rfl) | (rw [h, hg]; rfl) | (rw [hg, h]; rfl) | (simp [h, hg]; done)))) | refine VR.pick rfl rfl rfl ?_ | refine VR.g_yes rfl rfl (by first | rfl | assumption) ?_ | refine VR.g_no rfl rfl rfl (by first | rfl | assumption) ?_ | refine VR.box rfl rfl rfl ?_ | (refine VR.bin rfl rfl rfl (eqP _ _ p q) ?_)) | (refine' VR.spec (by rfl) (by rfl) (by rfl) ?_ ?_ ?_; rotate_left 1; (repeat (first | exact trivial | refine And.intro id ?_)); intro hg K1 hK1; (first | refine VR.move rfl rfl ?_ | (show onLd; refine VR.load tok rfl rfl rfl (by first | rfl | exact (ldp_el (by assumption)).trans (by rfl)) ?_) | (show onFa; refine VR.fieldAddr tok rfl rfl rfl (by first | rfl | exact place_el (by assumption)) rfl rfl ?_) | refine VR.int rfl rfl rfl rfl ?_ | (refine VR.pickB rfl rfl rfl rfl ?_ ?_ ?_; (first | exact trivial | (refine fun h => ?_; first | (rw [h]; rfl) | (rw [h, hg]; rfl) | (rw [hg, h]; rfl) | (simp [h, hg]; done))); (first | exact trivial | (refine fun h => ?_; first | (rw [h]; rfl) | (rw [h, hg]; rfl) | (rw [hg, h]; rfl) | (simp [h, hg]; done)))) | refine VR.pick rfl rfl rfl ?_ | (refine VR.bin rfl rfl rfl (eqP _ _ p q) ?_)); exact VR.done hK1))
    refine VJ.cond rfl (fun hc2 => ?_) (fun hc2 => ?_)
    · have h : p = q := by simpa using hc2
      repeat' (first | refine VJ.seq ?_ | refine VJ.skip ?_ | refine VJ.block ?_ | refine VJ.inBlock ?_ | refine VJ.exit rfl ?_ | refine VJ.cond_t rfl ?_ | refine VJ.cond_f rfl ?_ | refine VJ.region_k fun K hK => ?_ | (refine VR.done (hK _ ?_); clear hK K) | (first | refine VR.move rfl rfl ?_ | refine VR.assign rfl rfl ?_ | (show onLd; refine VR.load tok rfl rfl rfl (by first | rfl | exact (ldp_el (by assumption)).trans (by rfl)) ?_) | (show onFa; refine VR.fieldAddr tok rfl rfl rfl (by first | rfl | exact place_el (by assumption)) rfl rfl ?_) | refine VR.int rfl rfl rfl rfl ?_ | (refine VR.pickB rfl rfl rfl rfl ?_ ?_ ?_; (first | exact trivial | (refine fun h => ?_; first | (rw [h]; rfl) | (rw [h, hg]; rfl) | (rw [hg, h]; rfl) | (simp [h, hg]; done))); (first | exact trivial | (refine fun h => ?_; first | (rw [h]; rfl) | (rw [h, hg]; rfl) | (rw [hg, h]; rfl) | (simp [h, hg]; done)))) | refine VR.pick rfl rfl rfl ?_ | refine VR.g_yes rfl rfl (by first | rfl | assumption) ?_ | refine VR.g_no rfl rfl rfl (by first | rfl | assumption) ?_ | refine VR.box rfl rfl rfl ?_ | (refine VR.bin rfl rfl rfl (eqP _ _ p q) ?_)) | (refine' VR.spec (by rfl) (by rfl) (by rfl) ?_ ?_ ?_; rotate_left 1; (repeat (first | exact trivial | refine And.intro id ?_)); intro hg K1 hK1; (first | refine VR.move rfl rfl ?_ | (show onLd; refine VR.load tok rfl rfl rfl (by first | rfl | exact (ldp_el (by assumption)).trans (by rfl)) ?_) | (show onFa; refine VR.fieldAddr tok rfl rfl rfl (by first | rfl | exact place_el (by assumption)) rfl rfl ?_) | refine VR.int rfl rfl rfl rfl ?_ | (refine VR.pickB rfl rfl rfl rfl ?_ ?_ ?_; (first | exact trivial | (refine fun h => ?_; first | (rw [h]; rfl) | (rw [h, hg]; rfl) | (rw [hg, h]; rfl) | (simp [h, hg]; done))); (first | exact trivial | (refine fun h => ?_; first | (rw [h]; rfl) | (rw [h, hg]; rfl) | (rw [hg, h]; rfl) | (simp [h, hg]; done)))) | refine VR.pick rfl rfl rfl ?_ | (refine VR.bin rfl rfl rfl (eqP _ _ p q) ?_)); exact VR.done hK1))
      refine VJ.ret tok (by rfl) (by rfl) ?_
      rw [cp_zero.2 h] at hQ
      exact hQ
    · have h : ¬ p = q := by simpa using hc2
      repeat' (first | refine VJ.seq ?_ | refine VJ.skip ?_ | refine VJ.block ?_ | refine VJ.inBlock ?_ | refine VJ.exit rfl ?_ | refine VJ.cond_t rfl ?_ | refine VJ.cond_f rfl ?_ | refine VJ.region_k fun K hK => ?_ | (refine VR.done (hK _ ?_); clear hK K) | (first | refine VR.move rfl rfl ?_ | refine VR.assign rfl rfl ?_ | (show onLd; refine VR.load tok rfl rfl rfl (by first | rfl | exact (ldp_el (by assumption)).trans (by rfl)) ?_) | (show onFa; refine VR.fieldAddr tok rfl rfl rfl (by first | rfl | exact place_el (by assumption)) rfl rfl ?_) | refine VR.int rfl rfl rfl rfl ?_ | (refine VR.pickB rfl rfl rfl rfl ?_ ?_ ?_; (first | exact trivial | (refine fun h => ?_; first | (rw [h]; rfl) | (rw [h, hg]; rfl) | (rw [hg, h]; rfl) | (simp [h, hg]; done))); (first | exact trivial | (refine fun h => ?_; first | (rw [h]; rfl) | (rw [h, hg]; rfl) | (rw [hg, h]; rfl) | (simp [h, hg]; done)))) | refine VR.pick rfl rfl rfl ?_ | refine VR.g_yes rfl rfl (by first | rfl | assumption) ?_ | refine VR.g_no rfl rfl rfl (by first | rfl | assumption) ?_ | refine VR.box rfl rfl rfl ?_ | (refine VR.bin rfl rfl rfl (eqP _ _ p q) ?_)) | (refine' VR.spec (by rfl) (by rfl) (by rfl) ?_ ?_ ?_; rotate_left 1; (repeat (first | exact trivial | refine And.intro id ?_)); intro hg K1 hK1; (first | refine VR.move rfl rfl ?_ | (show onLd; refine VR.load tok rfl rfl rfl (by first | rfl | exact (ldp_el (by assumption)).trans (by rfl)) ?_) | (show onFa; refine VR.fieldAddr tok rfl rfl rfl (by first | rfl | exact place_el (by assumption)) rfl rfl ?_) | refine VR.int rfl rfl rfl rfl ?_ | (refine VR.pickB rfl rfl rfl rfl ?_ ?_ ?_; (first | exact trivial | (refine fun h => ?_; first | (rw [h]; rfl) | (rw [h, hg]; rfl) | (rw [hg, h]; rfl) | (simp [h, hg]; done))); (first | exact trivial | (refine fun h => ?_; first | (rw [h]; rfl) | (rw [h, hg]; rfl) | (rw [hg, h]; rfl) | (simp [h, hg]; done)))) | refine VR.pick rfl rfl rfl ?_ | (refine VR.bin rfl rfl rfl (eqP _ _ p q) ?_)); exact VR.done hK1))
      refine VJ.ret tok (by rfl) (by rfl) ?_
      rcases cp_three p q with h' | h' | h'
      · omega
      · exact absurd (cp_zero.1 h') h
      · rw [h'] at hQ; exact hQ
