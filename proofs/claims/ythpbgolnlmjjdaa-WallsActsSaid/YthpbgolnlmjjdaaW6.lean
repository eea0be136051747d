/- Walls: what is between two points, how a wall is made. Conditions: none. -/
import Derived.Test.YthpbgolnlmjjdaaW5
namespace Go.Proofs.Ythpbgolnlmjjdaa
open Go.RowKit V Geo
set_option linter.unusedVariables false

structure En where
  a : Pt
  b : Pt
deriving DecidableEq
structure Wl where
  a : Pt
  b : Pt
  k : Int
deriving DecidableEq
def En.v (e : En) : Value := .agg #[.int .i64 e.a.x, .int .i64 e.a.y, .int .i64 e.b.x, .int .i64 e.b.y]
def Wl.v (w : Wl) : Value := .agg #[.int .i64 w.a.x, .int .i64 w.a.y, .int .i64 w.b.x, .int .i64 w.b.y, .int .i64 w.k]
def Wl.en (w : Wl) : En := ⟨w.a, w.b⟩
def btw (a b : Pt) : En := ⟨lesser a b, greater a b⟩
def wl0 : Wl := ⟨⟨0, 0⟩, ⟨0, 0⟩, 0⟩
def mkOk (a b : Pt) (k : Int) : Bool := decide (a.ok ∧ b.ok ∧ a ≠ b ∧ (k = 1 ∨ k = 2))
def mkW (a b : Pt) (k : Int) : Wl := if mkOk a b k = true then ⟨lesser a b, greater a b, k⟩ else wl0

theorem bits_int (n : Nat) (q : IntKind) (a : Int) : Instr.sameBits n (.int q a) (.int q a) = true := by cases n <;> simp [Instr.sameBits]
theorem keyEn : Mp.Key Try.prog 62 En.v := by
  refine Mp.Key.asking ?_ ?_ ?_ ?_ ?_
  · rw [Try.underlying62]; trivial
  · rintro w ⟨⟨a, b⟩, ⟨c, d⟩⟩ ⟨⟨a', b'⟩, ⟨c', d'⟩⟩
    unfold En.v
    simp [Op.equal, Op.maxDepth, go_sem]
    by_cases h1 : a = a' <;> by_cases h2 : b = b' <;> by_cases h3 : c = c' <;> by_cases h4 : d = d' <;> simp [h1, h2, h3, h4]
  · intro x; exact ⟨_, rfl⟩
  · intro w em x
    have : ∀ n, (Instr.checkKey em (n + 3) 62 x.v).run Try.prog w = .ok () w := fun n => by
      unfold En.v
      simp [Instr.checkKey, go_sem]
    exact this 9997
  · intro x
    have : ∀ n, Instr.sameBits (n + 1) x.v x.v = true := fun n => by simp [En.v, Instr.sameBits, bits_int]
    exact this 9999
theorem eqW0 (x y : Wl) (w : World) : (binOp .eql 32 x.v y.v).run Try.prog w = .ok (.bool (decide (x = y))) w := by
  obtain ⟨⟨a, b⟩, ⟨c, d⟩, e⟩ := x
  obtain ⟨⟨a', b'⟩, ⟨c', d'⟩, e'⟩ := y
  unfold Wl.v
  simp [go_sem]
  by_cases h1 : a = a' <;> by_cases h2 : b = b' <;> by_cases h3 : c = c' <;> by_cases h4 : d = d' <;> by_cases h5 : e = e' <;> simp [h1, h2, h3, h4, h5]
theorem eqW (a b : Operand) (x y : Wl) (w : World) : (do eqGuard .eql 32 a b x.v y.v; binOp .eql 32 x.v y.v : Sem Value).run Try.prog w = .ok (.bool (decide (x = y))) w := by
  rw [Sem.run_bind, show (eqGuard .eql 32 a b x.v y.v).run Try.prog w = .ok () w from run_eqGuard_agg w .eql 32 a b _ _ (show Try.prog.eqGuardType Try.prog.depth 32 = false by kernel_rfl)]
  simp only [Result.andThen_ok]
  exact eqW0 x y w

attribute [local irreducible] VR VJ VC decOk decBt
theorem v_btw (a b : Pt) (G : Gl) (Q : Po) (hQ : Q (vV (btw a b).v) G) : VC Try.prog 42 [vV (ptV a), vV (ptV b)] G Q := by
  refine VC.of_body Try.func42 rfl rfl rfl fun W0 h0 x0 hG0 => ?_
  simp only [args0]
  repeat' (first | refine VJ.seq ?_ | refine VJ.skip ?_ | refine VJ.cond_t rfl ?_ | refine VJ.cond_f rfl ?_ | refine VJ.region_k fun K hK => ?_ | (refine VR.done (hK _ ?_); clear hK K) | (first | (show onLd; refine VR.load tok rfl rfl rfl (by first | rfl | exact (ldp_el (by assumption)).trans (by rfl)) ?_) | refine VR.int rfl rfl rfl rfl ?_ | refine VR.box rfl rfl rfl ?_ | refine VR.alloc tok rfl rfl rfl ?_ | refine VR.store tok rfl rfl rfl rfl rfl rfl rfl (by first | (intro n e; cases e; done) | exact (fun _ _ q => all_glA (by rfl) q)) ?_ | refine VR.buildX [_, _, _, _] tok rfl rfl rfl rfl rfl rfl ?_) | (refine VR.call fok50 rfl rfl rfl rfl ?_; refine (v_cp a b _ _ ?_)))
  unfold btw at hQ
  refine VJ.cond rfl (fun hc => ?_) (fun hc => ?_)
  · have h : 0 < cp a b := by simpa using hc
    rw [← order_lesser, ← order_greater, if_pos h, if_pos h] at hQ
    repeat' (first | refine VJ.seq ?_ | refine VJ.skip ?_ | refine VJ.cond_t rfl ?_ | refine VJ.cond_f rfl ?_ | refine VJ.region_k fun K hK => ?_ | (refine VR.done (hK _ ?_); clear hK K) | (first | (show onLd; refine VR.load tok rfl rfl rfl (by first | rfl | exact (ldp_el (by assumption)).trans (by rfl)) ?_) | refine VR.int rfl rfl rfl rfl ?_ | refine VR.box rfl rfl rfl ?_ | refine VR.alloc tok rfl rfl rfl ?_ | refine VR.store tok rfl rfl rfl rfl rfl rfl rfl (by first | (intro n e; cases e; done) | exact (fun _ _ q => all_glA (by rfl) q)) ?_ | refine VR.buildX [_, _, _, _] tok rfl rfl rfl rfl rfl rfl ?_) | (refine VR.call fok50 rfl rfl rfl rfl ?_; refine (v_cp a b _ _ ?_)))
    refine VJ.ret tok (by rfl) (by rfl) ?_
    exact hQ
  · have h : ¬ 0 < cp a b := by simpa using hc
    rw [← order_lesser, ← order_greater, if_neg h, if_neg h] at hQ
    repeat' (first | refine VJ.seq ?_ | refine VJ.skip ?_ | refine VJ.cond_t rfl ?_ | refine VJ.cond_f rfl ?_ | refine VJ.region_k fun K hK => ?_ | (refine VR.done (hK _ ?_); clear hK K) | (first | (show onLd; refine VR.load tok rfl rfl rfl (by first | rfl | exact (ldp_el (by assumption)).trans (by rfl)) ?_) | refine VR.int rfl rfl rfl rfl ?_ | refine VR.box rfl rfl rfl ?_ | refine VR.alloc tok rfl rfl rfl ?_ | refine VR.store tok rfl rfl rfl rfl rfl rfl rfl (by first | (intro n e; cases e; done) | exact (fun _ _ q => all_glA (by rfl) q)) ?_ | refine VR.buildX [_, _, _, _] tok rfl rfl rfl rfl rfl rfl ?_) | (refine VR.call fok50 rfl rfl rfl rfl ?_; refine (v_cp a b _ _ ?_)))
    refine VJ.ret tok (by rfl) (by rfl) ?_
    exact hQ
theorem mkOk_eq (a b : Pt) (k : Int) : (bif (bif (bif !decide a.ok then true else !decide b.ok) then true else decide (a = b)) then true else (bif k != 1 then k != 2 else false)) = !mkOk a b k := by
  unfold mkOk
  by_cases h1 : a.ok <;> by_cases h2 : b.ok <;> by_cases h3 : a = b <;> by_cases h4 : k = 1 <;> by_cases h5 : k = 2 <;> simp [h1, h2, h3, h4, h5]
theorem v_make (a b : Pt) (k : Int) (G : Gl) (Q : Po) (hQ : Q (.tup [.d (.v (mkW a b k).v), .d (.v (.bool (mkOk a b k)))]) G) : VC Try.prog 16 [vV (ptV a), vV (ptV b), vI k] G Q := by
  refine VC.of_body Try.func16 rfl rfl rfl fun W0 h0 x0 hG0 => ?_
  simp only [args0]
  repeat' (first | refine VJ.seq ?_ | refine VJ.skip ?_ | refine VJ.cond_t rfl ?_ | refine VJ.cond_f rfl ?_ | refine VJ.region_k fun K hK => ?_ | (refine VR.done (hK _ ?_); clear hK K) | (first | refine VR.move rfl rfl ?_ | refine VR.assign rfl rfl ?_ | (show onLd; refine VR.load tok rfl rfl rfl (by first | rfl | exact (ldp_el (by assumption)).trans (by rfl)) ?_) | (show onFa; refine VR.fieldAddr tok rfl rfl rfl (by first | rfl | exact place_el (by assumption)) rfl rfl ?_) | refine VR.int rfl rfl rfl rfl ?_ | (refine VR.pickB rfl rfl rfl rfl ?_ ?_ ?_; (first | exact trivial | (refine fun h => ?_; first | (rw [h]; rfl) | (rw [h, hg]; rfl) | (rw [hg, h]; rfl) | (simp [h, hg]; done))); (first | exact trivial | (refine fun h => ?_; first | (rw [h]; rfl) | (rw [h, hg]; rfl) | (rw [hg, h]; rfl) | (simp [h, hg]; done)))) | refine VR.pick rfl rfl rfl ?_ | refine VR.not rfl rfl ?_ | refine VR.g_yes rfl rfl (by first | rfl | assumption) ?_ | refine VR.g_no rfl rfl rfl (by first | rfl | assumption) ?_ | refine VR.box rfl rfl rfl ?_ | refine VR.alloc tok rfl rfl rfl ?_ | refine VR.store tok rfl rfl rfl rfl rfl rfl rfl (by first | (intro n e; cases e; done) | exact (fun _ _ q => all_glA (by rfl) q)) ?_ | refine VR.buildX [_, _, _, _, _] tok rfl rfl rfl rfl rfl rfl ?_ | (refine VR.bin rfl rfl rfl (eqP _ _ _ _) ?_)) | (refine' VR.spec (by rfl) (by rfl) (by rfl) ?_ ?_ ?_; rotate_left 1; (repeat (first | exact trivial | refine And.intro id ?_)); intro hg K1 hK1; (first | refine VR.move rfl rfl ?_ | (show onLd; refine VR.load tok rfl rfl rfl (by first | rfl | exact (ldp_el (by assumption)).trans (by rfl)) ?_) | refine VR.int rfl rfl rfl rfl ?_ | (refine VR.pickB rfl rfl rfl rfl ?_ ?_ ?_; (first | exact trivial | (refine fun h => ?_; first | (rw [h]; rfl) | (rw [h, hg]; rfl) | (rw [hg, h]; rfl) | (simp [h, hg]; done))); (first | exact trivial | (refine fun h => ?_; first | (rw [h]; rfl) | (rw [h, hg]; rfl) | (rw [hg, h]; rfl) | (simp [h, hg]; done)))) | refine VR.pick rfl rfl rfl ?_ | refine VR.not rfl rfl ?_ | (refine VR.bin rfl rfl rfl (eqP _ _ _ _) ?_) | (refine VR.call fok43 rfl rfl rfl rfl ?_; refine (v_valid a _ _ ?_)) | (refine VR.call fok43 rfl rfl rfl rfl ?_; refine (v_valid b _ _ ?_)) | (refine VR.call fok42 rfl rfl rfl rfl ?_; refine (v_btw a b _ _ ?_))); exact VR.done hK1) | (refine VR.call fok43 rfl rfl rfl rfl ?_; refine (v_valid a _ _ ?_)) | (refine VR.call fok43 rfl rfl rfl rfl ?_; refine (v_valid b _ _ ?_)) | (refine VR.call fok42 rfl rfl rfl rfl ?_; refine (v_btw a b _ _ ?_)))
  unfold mkW at hQ
  refine VJ.cond rfl (fun hc => ?_) (fun hc => ?_)
  · have h : mkOk a b k = false := by
      have hc := (mkOk_eq a b k).symm.trans hc
      simpa using hc
    rw [h] at hQ
    repeat' (first | refine VJ.seq ?_ | refine VJ.skip ?_ | refine VJ.cond_t rfl ?_ | refine VJ.cond_f rfl ?_ | refine VJ.region_k fun K hK => ?_ | (refine VR.done (hK _ ?_); clear hK K) | (first | refine VR.move rfl rfl ?_ | refine VR.assign rfl rfl ?_ | (show onLd; refine VR.load tok rfl rfl rfl (by first | rfl | exact (ldp_el (by assumption)).trans (by rfl)) ?_) | (show onFa; refine VR.fieldAddr tok rfl rfl rfl (by first | rfl | exact place_el (by assumption)) rfl rfl ?_) | refine VR.int rfl rfl rfl rfl ?_ | (refine VR.pickB rfl rfl rfl rfl ?_ ?_ ?_; (first | exact trivial | (refine fun h => ?_; first | (rw [h]; rfl) | (rw [h, hg]; rfl) | (rw [hg, h]; rfl) | (simp [h, hg]; done))); (first | exact trivial | (refine fun h => ?_; first | (rw [h]; rfl) | (rw [h, hg]; rfl) | (rw [hg, h]; rfl) | (simp [h, hg]; done)))) | refine VR.pick rfl rfl rfl ?_ | refine VR.not rfl rfl ?_ | refine VR.g_yes rfl rfl (by first | rfl | assumption) ?_ | refine VR.g_no rfl rfl rfl (by first | rfl | assumption) ?_ | refine VR.box rfl rfl rfl ?_ | refine VR.alloc tok rfl rfl rfl ?_ | refine VR.store tok rfl rfl rfl rfl rfl rfl rfl (by first | (intro n e; cases e; done) | exact (fun _ _ q => all_glA (by rfl) q)) ?_ | refine VR.buildX [_, _, _, _, _] tok rfl rfl rfl rfl rfl rfl ?_ | (refine VR.bin rfl rfl rfl (eqP _ _ _ _) ?_)) | (refine' VR.spec (by rfl) (by rfl) (by rfl) ?_ ?_ ?_; rotate_left 1; (repeat (first | exact trivial | refine And.intro id ?_)); intro hg K1 hK1; (first | refine VR.move rfl rfl ?_ | (show onLd; refine VR.load tok rfl rfl rfl (by first | rfl | exact (ldp_el (by assumption)).trans (by rfl)) ?_) | refine VR.int rfl rfl rfl rfl ?_ | (refine VR.pickB rfl rfl rfl rfl ?_ ?_ ?_; (first | exact trivial | (refine fun h => ?_; first | (rw [h]; rfl) | (rw [h, hg]; rfl) | (rw [hg, h]; rfl) | (simp [h, hg]; done))); (first | exact trivial | (refine fun h => ?_; first | (rw [h]; rfl) | (rw [h, hg]; rfl) | (rw [hg, h]; rfl) | (simp [h, hg]; done)))) | refine VR.pick rfl rfl rfl ?_ | refine VR.not rfl rfl ?_ | (refine VR.bin rfl rfl rfl (eqP _ _ _ _) ?_) | (refine VR.call fok43 rfl rfl rfl rfl ?_; refine (v_valid a _ _ ?_)) | (refine VR.call fok43 rfl rfl rfl rfl ?_; refine (v_valid b _ _ ?_)) | (refine VR.call fok42 rfl rfl rfl rfl ?_; refine (v_btw a b _ _ ?_))); exact VR.done hK1) | (refine VR.call fok43 rfl rfl rfl rfl ?_; refine (v_valid a _ _ ?_)) | (refine VR.call fok43 rfl rfl rfl rfl ?_; refine (v_valid b _ _ ?_)) | (refine VR.call fok42 rfl rfl rfl rfl ?_; refine (v_btw a b _ _ ?_)))
    refine VJ.ret tok (by rfl) (by rfl) ?_
    exact hQ
  · have h : mkOk a b k = true := by
      have hc := (mkOk_eq a b k).symm.trans hc
      simpa using hc
    rw [h, if_pos rfl] at hQ
    repeat' (first | refine VJ.seq ?_ | refine VJ.skip ?_ | refine VJ.cond_t rfl ?_ | refine VJ.cond_f rfl ?_ | refine VJ.region_k fun K hK => ?_ | (refine VR.done (hK _ ?_); clear hK K) | (first | refine VR.move rfl rfl ?_ | refine VR.assign rfl rfl ?_ | (show onLd; refine VR.load tok rfl rfl rfl (by first | rfl | exact (ldp_el (by assumption)).trans (by rfl)) ?_) | (show onFa; refine VR.fieldAddr tok rfl rfl rfl (by first | rfl | exact place_el (by assumption)) rfl rfl ?_) | refine VR.int rfl rfl rfl rfl ?_ | (refine VR.pickB rfl rfl rfl rfl ?_ ?_ ?_; (first | exact trivial | (refine fun h => ?_; first | (rw [h]; rfl) | (rw [h, hg]; rfl) | (rw [hg, h]; rfl) | (simp [h, hg]; done))); (first | exact trivial | (refine fun h => ?_; first | (rw [h]; rfl) | (rw [h, hg]; rfl) | (rw [hg, h]; rfl) | (simp [h, hg]; done)))) | refine VR.pick rfl rfl rfl ?_ | refine VR.not rfl rfl ?_ | refine VR.g_yes rfl rfl (by first | rfl | assumption) ?_ | refine VR.g_no rfl rfl rfl (by first | rfl | assumption) ?_ | refine VR.box rfl rfl rfl ?_ | refine VR.alloc tok rfl rfl rfl ?_ | refine VR.store tok rfl rfl rfl rfl rfl rfl rfl (by first | (intro n e; cases e; done) | exact (fun _ _ q => all_glA (by rfl) q)) ?_ | refine VR.buildX [_, _, _, _, _] tok rfl rfl rfl rfl rfl rfl ?_ | (refine VR.bin rfl rfl rfl (eqP _ _ _ _) ?_)) | (refine' VR.spec (by rfl) (by rfl) (by rfl) ?_ ?_ ?_; rotate_left 1; (repeat (first | exact trivial | refine And.intro id ?_)); intro hg K1 hK1; (first | refine VR.move rfl rfl ?_ | (show onLd; refine VR.load tok rfl rfl rfl (by first | rfl | exact (ldp_el (by assumption)).trans (by rfl)) ?_) | refine VR.int rfl rfl rfl rfl ?_ | (refine VR.pickB rfl rfl rfl rfl ?_ ?_ ?_; (first | exact trivial | (refine fun h => ?_; first | (rw [h]; rfl) | (rw [h, hg]; rfl) | (rw [hg, h]; rfl) | (simp [h, hg]; done))); (first | exact trivial | (refine fun h => ?_; first | (rw [h]; rfl) | (rw [h, hg]; rfl) | (rw [hg, h]; rfl) | (simp [h, hg]; done)))) | refine VR.pick rfl rfl rfl ?_ | refine VR.not rfl rfl ?_ | (refine VR.bin rfl rfl rfl (eqP _ _ _ _) ?_) | (refine VR.call fok43 rfl rfl rfl rfl ?_; refine (v_valid a _ _ ?_)) | (refine VR.call fok43 rfl rfl rfl rfl ?_; refine (v_valid b _ _ ?_)) | (refine VR.call fok42 rfl rfl rfl rfl ?_; refine (v_btw a b _ _ ?_))); exact VR.done hK1) | (refine VR.call fok43 rfl rfl rfl rfl ?_; refine (v_valid a _ _ ?_)) | (refine VR.call fok43 rfl rfl rfl rfl ?_; refine (v_valid b _ _ ?_)) | (refine VR.call fok42 rfl rfl rfl rfl ?_; refine (v_btw a b _ _ ?_)))
    refine VJ.ret tok (by rfl) (by rfl) ?_
    exact hQ
def Wl.made (w : Wl) : Bool := bif mkOk w.a w.b w.k then decide (mkW w.a w.b w.k = w) else false
theorem v_made (w : Wl) (G : Gl) (Q : Po) (hQ : Q (vB w.made) G) : VC Try.prog 30 [vV w.v] G Q := by
  refine VC.of_body Try.func30 rfl rfl rfl fun W0 h0 x0 hG0 => ?_
  simp only [args0]
  repeat' (first | refine VJ.seq ?_ | refine VJ.skip ?_ | refine VJ.cond_t rfl ?_ | refine VJ.cond_f rfl ?_ | refine VJ.region_k fun K hK => ?_ | (refine VR.done (hK _ ?_); clear hK K) | (first | refine VR.move rfl rfl ?_ | refine VR.assign rfl rfl ?_ | (show onLd; refine VR.load tok rfl rfl rfl (by first | rfl | exact (ldp_el (by assumption)).trans (by rfl)) ?_) | (show onFa; refine VR.fieldAddr tok rfl rfl rfl (by first | rfl | exact place_el (by assumption)) rfl rfl ?_) | refine VR.int rfl rfl rfl rfl ?_ | (refine VR.pickB rfl rfl rfl rfl ?_ ?_ ?_; (first | exact trivial | (refine fun h => ?_; first | (rw [h]; rfl) | (rw [h, hg]; rfl) | (rw [hg, h]; rfl) | (simp [h, hg]; done))); (first | exact trivial | (refine fun h => ?_; first | (rw [h]; rfl) | (rw [h, hg]; rfl) | (rw [hg, h]; rfl) | (simp [h, hg]; done)))) | refine VR.pick rfl rfl rfl ?_ | refine VR.g_yes rfl rfl (by first | rfl | assumption) ?_ | refine VR.g_no rfl rfl rfl (by first | rfl | assumption) ?_ | refine VR.box rfl rfl rfl ?_ | refine VR.alloc tok rfl rfl rfl ?_ | refine VR.store tok rfl rfl rfl rfl rfl rfl rfl (by first | (intro n e; cases e; done) | exact (fun _ _ q => all_glA (by rfl) q)) ?_ | refine VR.extract rfl rfl rfl ?_ | (refine VR.bin rfl rfl rfl (eqW _ _ (mkW w.a w.b w.k) w) ?_)) | (refine' VR.spec (by rfl) (by rfl) (by rfl) ?_ ?_ ?_; rotate_left 1; (repeat (first | exact trivial | refine And.intro id ?_)); intro hg K1 hK1; (first | (show onLd; refine VR.load tok rfl rfl rfl (by first | rfl | exact (ldp_el (by assumption)).trans (by rfl)) ?_) | refine VR.int rfl rfl rfl rfl ?_ | (refine VR.bin rfl rfl rfl (eqW _ _ (mkW w.a w.b w.k) w) ?_) | (refine VR.call fok16 rfl rfl rfl rfl ?_; refine (v_make w.a w.b w.k _ _ ?_))); exact VR.done hK1) | (refine VR.call fok16 rfl rfl rfl rfl ?_; refine (v_make w.a w.b w.k _ _ ?_)))
  refine VJ.ret tok (by rfl) (by rfl) ?_
  exact hQ

/-- A set among the objects. -/
structure SetG (G : Gl) (s : List (En × Int)) : Prop where
  g0 : G 0 = some (.box [.mp (.g 1)])
  g1 : ∃ z, G 1 = some (.map En.v (Value.int .i64) s z)
theorem SetG.ok {G : Gl} {s : List (En × Int)} (h : SetG G s) : ∃ z, govOk G [(0, .box [.mp (.g 1)]), (1, .map En.v (Value.int .i64) s z)] := by
  obtain ⟨g0, z, g1⟩ := h
  exact ⟨z, g0, g1, trivial⟩
abbrev vS : AV := .a (.ptr (.g 0) 0)
def kindOf (s : List (En × Int)) (a b : Pt) : Int := (Mp.get s (btw a b)).getD 0
theorem v_kind (s : List (En × Int)) (a b : Pt) (G : Gl) (hG : SetG G s) (Q : Po) (hQ : Q (vI (kindOf s a b)) G) : VC Try.prog 13 [vS, vV (ptV a), vV (ptV b)] G Q := by
  obtain ⟨z, hg⟩ := hG.ok
  rw [gov_self hg] at hQ ⊢
  refine VC.of_body Try.func13 rfl rfl rfl fun W0 h0 x0 hG0 => ?_
  simp only [args0]
  repeat' (first | refine VJ.seq ?_ | refine VJ.skip ?_ | refine VJ.cond_t rfl ?_ | refine VJ.cond_f rfl ?_ | refine VJ.region_k fun K hK => ?_ | (refine VR.done (hK _ ?_); clear hK K) | (first | refine VR.move rfl rfl ?_ | refine VR.assign rfl rfl ?_ | (show onLd; refine VR.load tok rfl rfl rfl (by first | rfl | exact (ldp_el (by assumption)).trans (by rfl)) ?_) | (show onFa; refine VR.fieldAddr tok rfl rfl rfl (by first | rfl | exact place_el (by assumption)) rfl rfl ?_) | refine VR.int rfl rfl rfl rfl ?_ | refine VR.box rfl rfl rfl ?_ | refine VR.nilCheck rfl rfl rfl ?_ | refine VR.eqNil rfl rfl rfl rfl (ptrOk (by rfl)) ?_ | refine VR.neNil rfl rfl rfl rfl (ptrOk (by rfl)) ?_ | (refine VR.lookup (key := btw a b) (zv := (0 : Int)) rfl rfl rfl rfl (mapOk (by rfl)) keyEn (fun w => by kernel_rfl) ?_)) | (refine VR.call fok42 rfl rfl rfl rfl ?_; refine (v_btw a b _ _ ?_)))
  apply VJ.draw3 [] [(0, 0), (1, 0), (2, 0), (3, 0), (4, 0), (5, 0), (6, 0), (7, 0), (8, 0)] [[(0, none)], [(9, some 0)], [(10, some 1)], [(11, some 2)], [(4, none)], [(5, none)], [(13, some 4), (14, some 5)], [(12, some 3), (15, some 6)], [(16, some 7)]] [[(0, _)], [(9, _)], [(10, _)], [(11, _)], [(4, _)], [(5, _)], [(13, _), (14, _)], [(12, _), (15, _)], [(16, _)]] [_, _, _, _, _, _, _, _, _] [⟨_, _, _⟩] (by kernel_rfl) ?hok rfl ?hh rfl rfl ?hj
  case hh =>
    refine ⟨?_, ?_, ?_, ?_, ?_, ?_, ?_, ?_, ?_, trivial⟩
    all_goals (intro rest K1 hK1; (repeat (first | exact VR.done hK1 | (first | refine VR.move rfl rfl ?_ | refine VR.assign rfl rfl ?_ | (show onLd; refine VR.load tok rfl rfl rfl (by first | rfl | exact (ldp_el (by assumption)).trans (by rfl)) ?_) | (show onFa; refine VR.fieldAddr tok rfl rfl rfl (by first | rfl | exact place_el (by assumption)) rfl rfl ?_) | refine VR.nilCheck rfl rfl rfl ?_ | (refine VR.lookup (key := btw a b) (zv := (0 : Int)) rfl rfl rfl rfl (mapOk (by rfl)) keyEn (fun w => by kernel_rfl) ?_)) | (refine VR.call fok42 rfl rfl rfl rfl ?_; refine (v_btw a b _ _ ?_)))); try (first | exact VR.done hK1 | (refine VR.done ?_; dsimp only [S.set]; exact hK1)))
  case hok => kernel_rfl
  case hj =>
    dsimp only [tla]
    refine VJ.ret tok (by rfl) (by rfl) ?_
    exact hQ
theorem v_len (s : List (En × Int)) (G : Gl) (hG : SetG G s) (Q : Po) (hQ : Q (vI s.length) G) : VC Try.prog 20 [vS] G Q := by
  obtain ⟨z, hg⟩ := hG.ok
  rw [gov_self hg] at hQ ⊢
  refine VC.of_body Try.func20 rfl rfl rfl fun W0 h0 x0 hG0 => ?_
  simp only [args0]
  repeat' (first | refine VJ.seq ?_ | refine VJ.skip ?_ | refine VJ.cond_t rfl ?_ | refine VJ.cond_f rfl ?_ | refine VJ.region_k fun K hK => ?_ | (refine VR.done (hK _ ?_); clear hK K) | (first | refine VR.move rfl rfl ?_ | refine VR.assign rfl rfl ?_ | (show onLd; refine VR.load tok rfl rfl rfl (by first | rfl | exact (ldp_el (by assumption)).trans (by rfl)) ?_) | (show onFa; refine VR.fieldAddr tok rfl rfl rfl (by first | rfl | exact place_el (by assumption)) rfl rfl ?_) | refine VR.int rfl rfl rfl rfl ?_ | refine VR.nilCheck rfl rfl rfl ?_ | refine VR.len tok rfl rfl rfl rfl rfl ?_ | refine VR.eqNil rfl rfl rfl rfl (ptrOk (by rfl)) ?_ | refine VR.neNil rfl rfl rfl rfl (ptrOk (by rfl)) ?_ | (refine VR.lenMap rfl rfl rfl (mapOk (by rfl)) ?_)))
  refine VJ.ret tok (by rfl) (by rfl) ?_
  exact hQ
