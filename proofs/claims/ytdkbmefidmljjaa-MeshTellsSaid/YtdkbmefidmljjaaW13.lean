/- A mesh's look-ups. Conditions: a map fits a machine. -/
import Derived.Test.YtdkbmefidmljjaaW12
namespace Go.Proofs.Ytdkbmefidmljjaa
open Go.RowKit V Geo
set_option linter.unusedVariables false

/-- From a point to another one. -/
structure En where
  a : Pt
  b : Pt
deriving DecidableEq
def En.v (e : En) : Value := .agg #[.int .i64 e.a.x, .int .i64 e.a.y, .int .i64 e.b.x, .int .i64 e.b.y]
def tr0 : Tr := ⟨⟨0, 0⟩, ⟨0, 0⟩, ⟨0, 0⟩⟩
theorem bits_int (n : Nat) (q : IntKind) (a : Int) : Instr.sameBits n (.int q a) (.int q a) = true := by cases n <;> simp [Instr.sameBits]
theorem key58 : Mp.Key Try.prog 58 En.v := by
  refine Mp.Key.asking ?_ ?_ ?_ ?_ ?_
  · rw [Try.underlying58]; trivial
  · rintro w ⟨⟨a, b⟩, ⟨c, d⟩⟩ ⟨⟨a', b'⟩, ⟨c', d'⟩⟩
    unfold En.v
    simp [Op.equal, Op.maxDepth, go_sem]
    by_cases h1 : a = a' <;> by_cases h2 : b = b' <;> by_cases h3 : c = c' <;> by_cases h4 : d = d' <;> simp [h1, h2, h3, h4]
  · intro x; exact ⟨_, rfl⟩
  · intro w em x
    have : ∀ n, (Instr.checkKey em (n + 3) 58 x.v).run Try.prog w = .ok () w := fun n => by
      unfold En.v
      simp [Instr.checkKey, go_sem]
    exact this 9997
  · intro x
    have : ∀ n, Instr.sameBits (n + 1) x.v x.v = true := fun n => by simp [En.v, Instr.sameBits, bits_int]
    exact this 9999
theorem key60 : Mp.Key Try.prog 60 En.v := by
  refine Mp.Key.asking ?_ ?_ ?_ ?_ ?_
  · rw [Try.underlying60]; trivial
  · rintro w ⟨⟨a, b⟩, ⟨c, d⟩⟩ ⟨⟨a', b'⟩, ⟨c', d'⟩⟩
    unfold En.v
    simp [Op.equal, Op.maxDepth, go_sem]
    by_cases h1 : a = a' <;> by_cases h2 : b = b' <;> by_cases h3 : c = c' <;> by_cases h4 : d = d' <;> simp [h1, h2, h3, h4]
  · intro x; exact ⟨_, rfl⟩
  · intro w em x
    have : ∀ n, (Instr.checkKey em (n + 3) 60 x.v).run Try.prog w = .ok () w := fun n => by
      unfold En.v
      simp [Instr.checkKey, go_sem]
    exact this 9997
  · intro x
    have : ∀ n, Instr.sameBits (n + 1) x.v x.v = true := fun n => by simp [En.v, Instr.sameBits, bits_int]
    exact this 9999
theorem key26 : Mp.Key Try.prog 26 Tr.v := by
  refine Mp.Key.asking ?_ ?_ ?_ ?_ ?_
  · rw [Try.underlying26]; trivial
  · rintro w ⟨⟨a, b⟩, ⟨c, d⟩, ⟨e, f⟩⟩ ⟨⟨a', b'⟩, ⟨c', d'⟩, ⟨e', f'⟩⟩
    unfold Tr.v
    simp [Op.equal, Op.maxDepth, go_sem]
    by_cases h1 : a = a' <;> by_cases h2 : b = b' <;> by_cases h3 : c = c' <;> by_cases h4 : d = d' <;> by_cases h5 : e = e' <;> by_cases h6 : f = f' <;> simp [h1, h2, h3, h4, h5, h6]
  · intro x; exact ⟨_, rfl⟩
  · intro w em x
    have : ∀ n, (Instr.checkKey em (n + 3) 26 x.v).run Try.prog w = .ok () w := fun n => by
      unfold Tr.v
      simp [Instr.checkKey, go_sem]
    exact this 9997
  · intro x
    have : ∀ n, Instr.sameBits (n + 1) x.v x.v = true := fun n => by simp [Tr.v, Instr.sameBits, bits_int]
    exact this 9999
theorem key24 : Mp.Key Try.prog 24 ptV := by
  refine Mp.Key.asking ?_ ?_ ?_ ?_ ?_
  · rw [Try.underlying24]; trivial
  · rintro w ⟨a, b⟩ ⟨a', b'⟩
    unfold ptV
    simp [Op.equal, Op.maxDepth, go_sem]
    by_cases h1 : a = a' <;> by_cases h2 : b = b' <;> simp [h1, h2]
  · intro x; exact ⟨_, rfl⟩
  · intro w em x
    have : ∀ n, (Instr.checkKey em (n + 3) 24 (ptV x)).run Try.prog w = .ok () w := fun n => by
      unfold ptV
      simp [Instr.checkKey, go_sem]
    exact this 9997
  · intro x
    have : ∀ n, Instr.sameBits (n + 1) (ptV x) (ptV x) = true := fun n => by simp [ptV, Instr.sameBits, bits_int]
    exact this 9999

abbrev TS := List (Tr × Bool)
abbrev LS := List (En × Tr)
abbrev bxM : VO := .box [.mp (.g 1), .mp (.g 2)]
/-- A mesh among the objects. -/
structure MeshG (G : Gl) (ts : TS) (le : LS) : Prop where
  g0 : G 0 = some bxM
  g1 : ∃ z, G 1 = some (.map Tr.v Value.bool ts z)
  g2 : ∃ z, G 2 = some (.map En.v Tr.v le z)
theorem MeshG.ok {G : Gl} {ts : TS} {le : LS} (h : MeshG G ts le) : ∃ z1 z2, govOk G [(0, bxM), (1, .map Tr.v Value.bool ts z1), (2, .map En.v Tr.v le z2)] := by
  obtain ⟨g0, ⟨z1, g1⟩, z2, g2⟩ := h
  exact ⟨z1, z2, g0, g1, g2, trivial⟩
abbrev vM : AV := .a (.ptr (.g 0) 0)
def leftOf (le : LS) (a b : Pt) : Tr × Bool := ((Mp.get le ⟨a, b⟩).getD tr0, (Mp.get le ⟨a, b⟩).isSome)
def hasT (ts : TS) (t : Tr) : Bool := (Mp.get ts t).getD false

attribute [local irreducible] VR VJ VC decOk decBt
theorem v_left (ts : TS) (le : LS) (a b : Pt) (G : Gl) (hG : MeshG G ts le) (Q : Po) (hQ : Q (.tup [.d (.v (leftOf le a b).1.v), .d (.v (.bool (leftOf le a b).2))]) G) : VC Try.prog 8 [vM, vV (ptV a), vV (ptV b)] G Q := by
  obtain ⟨z1, z2, hg⟩ := hG.ok
  rw [gov_self hg] at hQ ⊢
  refine VC.of_body Try.func8 rfl rfl rfl fun W0 h0 x0 hG0 => ?_
  simp only [args0]
  repeat' (first | refine VJ.seq ?_ | refine VJ.skip ?_ | refine VJ.cond_t rfl ?_ | refine VJ.cond_f rfl ?_ | refine VJ.region_k fun K hK => ?_ | (refine VR.done (hK _ ?_); clear hK K) | (first | refine VR.move rfl rfl ?_ | refine VR.assign rfl rfl ?_ | (show onLd; refine VR.load tok rfl rfl rfl (by first | rfl | exact (ldp_el (by assumption)).trans (by rfl)) ?_) | (show onFa; refine VR.fieldAddr tok rfl rfl rfl (by first | rfl | exact place_el (by assumption)) rfl rfl ?_) | refine VR.int rfl rfl rfl rfl ?_ | refine VR.box rfl rfl rfl ?_ | refine VR.alloc tok rfl rfl rfl ?_ | refine VR.store tok rfl rfl rfl rfl rfl rfl rfl (by first | (intro n e; cases e; done) | exact (fun _ _ q => all_glA (by rfl) q)) ?_ | refine VR.nilCheck rfl rfl rfl ?_ | refine VR.extract rfl rfl rfl ?_ | refine VR.buildX [_, _, _, _] tok rfl rfl rfl rfl rfl rfl ?_ | refine VR.buildX [_, _, _, _, _, _] tok rfl rfl rfl rfl rfl rfl ?_ | refine VR.eqNil rfl rfl rfl rfl (ptrOk (by rfl)) ?_ | refine VR.neNil rfl rfl rfl rfl (ptrOk (by rfl)) ?_ | (refine VR.lookup2 (key := (⟨a, b⟩ : En)) (zv := tr0) rfl rfl rfl rfl (mapOk (by rfl)) key58 (fun w => by kernel_rfl) ?_)))
  apply VJ.draw3 [11, 12] [(0, 0), (1, 0), (2, 0), (3, 0), (4, 0), (5, 0), (6, 0), (7, 0), (8, 0), (9, 0), (10, 0), (11, 0), (12, 1), (13, 2), (0, 1), (1, 1), (2, 1), (3, 1), (4, 1), (5, 1), (6, 1), (7, 1), (8, 1), (9, 1), (10, 1), (10, 2)] [[(0, none)], [(14, some 0)], [(15, some 1)], [(16, some 2)], [(4, none)], [(5, none)], [(18, some 4), (19, some 5)], [(17, some 3), (20, some 6)], [(21, some 7)], [(13, some 8)], [(13, some 8)], [], [(8, some 11), (22, some 9)], [(23, some 10)]] [[(0, _)], [(14, _)], [(15, _)], [(16, _)], [(4, _)], [(5, _)], [(18, _), (19, _)], [(17, _), (20, _)], [(21, _)], [(13, _)], [(13, _)], [], [(8, _), (22, _)], [(23, _)]] [_, _, _, _, _, _, _, _, _, _, _, _, (.a .top), _] [⟨_, _, _⟩, ⟨_, _, _⟩, ⟨_, _, _⟩] (by kernel_rfl) ?hok rfl ?hh rfl rfl ?hj
  case hh =>
    refine ⟨?_, ?_, ?_, ?_, ?_, ?_, ?_, ?_, ?_, ?_, ?_, ?_, ?_, ?_, ?_, ?_, ?_, ?_, ?_, ?_, ?_, ?_, ?_, ?_, ?_, ?_, trivial⟩
    all_goals (intro rest K1 hK1; (repeat (first | exact VR.done hK1 | (first | refine VR.move rfl rfl ?_ | refine VR.assign rfl rfl ?_ | (show onLd; refine VR.load tok rfl rfl rfl (by first | rfl | exact (ldp_el (by assumption)).trans (by rfl)) ?_) | (show onFa; refine VR.fieldAddr tok rfl rfl rfl (by first | rfl | exact place_el (by assumption)) rfl rfl ?_) | refine VR.alloc tok rfl rfl rfl ?_ | refine VR.store tok rfl rfl rfl rfl rfl rfl rfl (by first | (intro n e; cases e; done) | exact (fun _ _ q => all_glA (by rfl) q)) ?_ | refine VR.nilCheck rfl rfl rfl ?_ | refine VR.extract rfl rfl rfl ?_ | refine VR.buildX [_, _, _, _] tok rfl rfl rfl rfl rfl rfl ?_ | (refine VR.lookup2 (key := (⟨a, b⟩ : En)) (zv := tr0) rfl rfl rfl rfl (mapOk (by rfl)) key58 (fun w => by kernel_rfl) ?_)))); try (first | exact VR.done hK1 | (refine VR.done ?_; dsimp only [S.set]; exact hK1)))
  case hok => kernel_rfl
  case hj =>
    dsimp only [tla]
    repeat' (first | refine VJ.seq ?_ | refine VJ.skip ?_ | refine VJ.cond_t rfl ?_ | refine VJ.cond_f rfl ?_ | refine VJ.region_k fun K hK => ?_ | (refine VR.done (hK _ ?_); clear hK K) | (first | refine VR.move rfl rfl ?_ | refine VR.assign rfl rfl ?_ | (show onLd; refine VR.load tok rfl rfl rfl (by first | rfl | exact (ldp_el (by assumption)).trans (by rfl)) ?_) | (show onFa; refine VR.fieldAddr tok rfl rfl rfl (by first | rfl | exact place_el (by assumption)) rfl rfl ?_) | refine VR.int rfl rfl rfl rfl ?_ | refine VR.box rfl rfl rfl ?_ | refine VR.alloc tok rfl rfl rfl ?_ | refine VR.store tok rfl rfl rfl rfl rfl rfl rfl (by first | (intro n e; cases e; done) | exact (fun _ _ q => all_glA (by rfl) q)) ?_ | refine VR.nilCheck rfl rfl rfl ?_ | refine VR.extract rfl rfl rfl ?_ | refine VR.buildX [_, _, _, _] tok rfl rfl rfl rfl rfl rfl ?_ | refine VR.buildX [_, _, _, _, _, _] tok rfl rfl rfl rfl rfl rfl ?_ | refine VR.eqNil rfl rfl rfl rfl (ptrOk (by rfl)) ?_ | refine VR.neNil rfl rfl rfl rfl (ptrOk (by rfl)) ?_ | (refine VR.lookup2 (key := (⟨a, b⟩ : En)) (zv := tr0) rfl rfl rfl rfl (mapOk (by rfl)) key58 (fun w => by kernel_rfl) ?_)))
    refine VJ.ret tok (by rfl) (by rfl) ?_
    exact hQ
theorem v_has (ts : TS) (le : LS) (t : Tr) (G : Gl) (hG : MeshG G ts le) (Q : Po) (hQ : Q (vB (hasT ts t)) G) : VC Try.prog 11 [vM, vV t.v] G Q := by
  obtain ⟨z1, z2, hg⟩ := hG.ok
  rw [gov_self hg] at hQ ⊢
  refine VC.of_body Try.func11 rfl rfl rfl fun W0 h0 x0 hG0 => ?_
  simp only [args0]
  repeat' (first | refine VJ.seq ?_ | refine VJ.skip ?_ | refine VJ.cond_t rfl ?_ | refine VJ.cond_f rfl ?_ | refine VJ.region_k fun K hK => ?_ | (refine VR.done (hK _ ?_); clear hK K) | (first | refine VR.move rfl rfl ?_ | refine VR.assign rfl rfl ?_ | (show onLd; refine VR.load tok rfl rfl rfl (by first | rfl | exact (ldp_el (by assumption)).trans (by rfl)) ?_) | (show onFa; refine VR.fieldAddr tok rfl rfl rfl (by first | rfl | exact place_el (by assumption)) rfl rfl ?_) | refine VR.int rfl rfl rfl rfl ?_ | (refine VR.pickB rfl rfl rfl rfl ?_ ?_ ?_; (first | exact trivial | (refine fun h => ?_; first | (rw [h]; rfl) | (rw [h, hg]; rfl) | (rw [hg, h]; rfl) | (simp [h, hg]; done))); (first | exact trivial | (refine fun h => ?_; first | (rw [h]; rfl) | (rw [h, hg]; rfl) | (rw [hg, h]; rfl) | (simp [h, hg]; done)))) | refine VR.pick rfl rfl rfl ?_ | refine VR.g_yes rfl rfl (by first | rfl | assumption) ?_ | refine VR.g_no rfl rfl rfl (by first | rfl | assumption) ?_ | refine VR.box rfl rfl rfl ?_ | refine VR.nilCheck rfl rfl rfl ?_ | refine VR.eqNil rfl rfl rfl rfl (ptrOk (by rfl)) ?_ | refine VR.neNil rfl rfl rfl rfl (ptrOk (by rfl)) ?_ | (refine VR.lookup (key := t) (zv := false) rfl rfl rfl rfl (mapOk (by rfl)) key26 (fun w => by kernel_rfl) ?_)) | (refine' VR.spec (by rfl) (by rfl) (by rfl) ?_ ?_ ?_; rotate_left 1; (repeat (first | exact trivial | refine And.intro id ?_)); intro hg K1 hK1; (first | refine VR.move rfl rfl ?_ | (show onLd; refine VR.load tok rfl rfl rfl (by first | rfl | exact (ldp_el (by assumption)).trans (by rfl)) ?_) | (show onFa; refine VR.fieldAddr tok rfl rfl rfl (by first | rfl | exact place_el (by assumption)) rfl rfl ?_) | refine VR.nilCheck rfl rfl rfl ?_ | (refine VR.lookup (key := t) (zv := false) rfl rfl rfl rfl (mapOk (by rfl)) key26 (fun w => by kernel_rfl) ?_)); exact VR.done hK1))
  apply VJ.draw3 [] [(0, 0), (1, 0), (2, 0), (3, 0), (4, 0), (5, 0), (6, 0), (7, 0), (8, 0), (9, 0), (10, 0)] [[(0, none)], [(5, some 0)], [(6, some 1)], [(0, none), (7, some 2)], [(8, some 3), (7, some 2)], [(9, some 4), (7, some 2)], [(10, some 5), (7, some 2)], [(3, none), (7, some 2)], [(11, some 6), (12, some 7), (7, some 2)], [(7, some 2), (13, some 8)], [(14, some 9)]] [[(0, _)], [(5, _)], [(6, _)], [(0, _), (7, _)], [(8, _), (7, _)], [(9, _), (7, _)], [(10, _), (7, _)], [(3, _), (7, _)], [(11, _), (12, _), (7, _)], [(7, _), (13, _)], [(14, _)]] [_, _, _, _, _, _, _, _, _, _, _] [⟨_, _, _⟩] (by kernel_rfl) ?hok rfl ?hh rfl rfl ?hj
  case hh =>
    refine ⟨?_, ?_, ?_, ?_, ?_, ?_, ?_, ?_, ?_, ?_, ?_, trivial⟩
    all_goals (intro rest K1 hK1; (repeat (first | exact VR.done hK1 | (first | refine VR.move rfl rfl ?_ | refine VR.assign rfl rfl ?_ | (show onLd; refine VR.load tok rfl rfl rfl (by first | rfl | exact (ldp_el (by assumption)).trans (by rfl)) ?_) | (show onFa; refine VR.fieldAddr tok rfl rfl rfl (by first | rfl | exact place_el (by assumption)) rfl rfl ?_) | refine VR.int rfl rfl rfl rfl ?_ | (refine VR.pickB rfl rfl rfl rfl ?_ ?_ ?_; (first | exact trivial | (refine fun h => ?_; first | (rw [h]; rfl) | (rw [h, hg]; rfl) | (rw [hg, h]; rfl) | (simp [h, hg]; done))); (first | exact trivial | (refine fun h => ?_; first | (rw [h]; rfl) | (rw [h, hg]; rfl) | (rw [hg, h]; rfl) | (simp [h, hg]; done)))) | refine VR.pick rfl rfl rfl ?_ | refine VR.g_yes rfl rfl (by first | rfl | assumption) ?_ | refine VR.g_no rfl rfl rfl (by first | rfl | assumption) ?_ | refine VR.nilCheck rfl rfl rfl ?_ | refine VR.eqNil rfl rfl rfl rfl (ptrOk (by rfl)) ?_ | refine VR.neNil rfl rfl rfl rfl (ptrOk (by rfl)) ?_ | (refine VR.lookup (key := t) (zv := false) rfl rfl rfl rfl (mapOk (by rfl)) key26 (fun w => by kernel_rfl) ?_)) | (refine' VR.spec (by rfl) (by rfl) (by rfl) ?_ ?_ ?_; rotate_left 1; (repeat (first | exact trivial | refine And.intro id ?_)); intro hg K1 hK1; (first | refine VR.move rfl rfl ?_ | (show onLd; refine VR.load tok rfl rfl rfl (by first | rfl | exact (ldp_el (by assumption)).trans (by rfl)) ?_) | (show onFa; refine VR.fieldAddr tok rfl rfl rfl (by first | rfl | exact place_el (by assumption)) rfl rfl ?_) | refine VR.nilCheck rfl rfl rfl ?_ | (refine VR.lookup (key := t) (zv := false) rfl rfl rfl rfl (mapOk (by rfl)) key26 (fun w => by kernel_rfl) ?_)); exact VR.done hK1))); try (first | exact VR.done hK1 | (refine VR.done ?_; dsimp only [S.set]; exact hK1)))
  case hok => kernel_rfl
  case hj =>
    dsimp only [tla]
    refine VJ.ret tok (by rfl) (by rfl) ?_
    exact hQ
theorem v_lenM (ts : TS) (le : LS) (G : Gl) (hG : MeshG G ts le) (Q : Po) (hQ : Q (vI ts.length) G) : VC Try.prog 15 [vM] G Q := by
  obtain ⟨z1, z2, hg⟩ := hG.ok
  rw [gov_self hg] at hQ ⊢
  refine VC.of_body Try.func15 rfl rfl rfl fun W0 h0 x0 hG0 => ?_
  simp only [args0]
  repeat' (first | refine VJ.seq ?_ | refine VJ.skip ?_ | refine VJ.cond_t rfl ?_ | refine VJ.cond_f rfl ?_ | refine VJ.region_k fun K hK => ?_ | (refine VR.done (hK _ ?_); clear hK K) | (first | refine VR.move rfl rfl ?_ | refine VR.assign rfl rfl ?_ | (show onLd; refine VR.load tok rfl rfl rfl (by first | rfl | exact (ldp_el (by assumption)).trans (by rfl)) ?_) | (show onFa; refine VR.fieldAddr tok rfl rfl rfl (by first | rfl | exact place_el (by assumption)) rfl rfl ?_) | refine VR.int rfl rfl rfl rfl ?_ | refine VR.nilCheck rfl rfl rfl ?_ | refine VR.len tok rfl rfl rfl rfl rfl ?_ | refine VR.eqNil rfl rfl rfl rfl (ptrOk (by rfl)) ?_ | refine VR.neNil rfl rfl rfl rfl (ptrOk (by rfl)) ?_ | (refine VR.lenMap rfl rfl rfl (mapOk (by rfl)) ?_)))
  refine VJ.ret tok (by rfl) (by rfl) ?_
  exact hQ
def acrossOf (ts : TS) (le : LS) (t : Tr) (i : Nat) : Tr × Bool := if hasT ts t = true then leftOf le (t.cor (i + 1)) (t.cor i) else (tr0, false)
theorem v_across (ts : TS) (le : LS) (t : Tr) (i : Nat) (hi : i < 3) (G : Gl) (hG : MeshG G ts le) (Q : Po) (hQ : Q (.tup [.d (.v (acrossOf ts le t i).1.v), .d (.v (.bool (acrossOf ts le t i).2))]) G) : VC Try.prog 10 [vM, vV t.v, vI (i : Int)] G Q := by
  refine VC.of_body Try.func10 rfl rfl rfl fun W0 h0 x0 hG0 => ?_
  simp only [args0]
  unfold acrossOf at hQ
  repeat' (first | refine VJ.seq ?_ | refine VJ.skip ?_ | refine VJ.cond_t rfl ?_ | refine VJ.cond_f rfl ?_ | refine VJ.region_k fun K hK => ?_ | (refine VR.done (hK _ ?_); clear hK K) | (first | refine VR.move rfl rfl ?_ | refine VR.assign rfl rfl ?_ | (show onLd; refine VR.load tok rfl rfl rfl (by first | rfl | exact (ldp_el (by assumption)).trans (by rfl)) ?_) | refine VR.not rfl rfl ?_ | refine VR.box rfl rfl rfl ?_ | refine VR.alloc tok rfl rfl rfl ?_ | refine VR.store tok rfl rfl rfl rfl rfl rfl rfl (by first | (intro n e; cases e; done) | exact (fun _ _ q => all_glA (by rfl) q)) ?_ | refine VR.extract rfl rfl rfl ?_ | refine VR.buildX [_, _, _, _, _, _] tok rfl rfl rfl rfl rfl rfl ?_) | (refine VR.call fok11 rfl rfl rfl rfl ?_; refine (v_has ts le t _ hG _ ?_)))
  refine VJ.cond rfl (fun hc => ?_) (fun hc => ?_)
  · rw [if_neg (show ¬ hasT ts t = true by
      have hc : (!hasT ts t) = true := hc
      simpa using hc)] at hQ
    repeat' (first | refine VJ.seq ?_ | refine VJ.skip ?_ | refine VJ.cond_t rfl ?_ | refine VJ.cond_f rfl ?_ | refine VJ.region_k fun K hK => ?_ | (refine VR.done (hK _ ?_); clear hK K) | (first | refine VR.move rfl rfl ?_ | refine VR.assign rfl rfl ?_ | (show onLd; refine VR.load tok rfl rfl rfl (by first | rfl | exact (ldp_el (by assumption)).trans (by rfl)) ?_) | refine VR.not rfl rfl ?_ | refine VR.box rfl rfl rfl ?_ | refine VR.alloc tok rfl rfl rfl ?_ | refine VR.store tok rfl rfl rfl rfl rfl rfl rfl (by first | (intro n e; cases e; done) | exact (fun _ _ q => all_glA (by rfl) q)) ?_ | refine VR.extract rfl rfl rfl ?_ | refine VR.buildX [_, _, _, _, _, _] tok rfl rfl rfl rfl rfl rfl ?_) | (refine VR.call fok11 rfl rfl rfl rfl ?_; refine (v_has ts le t _ hG _ ?_)))
    refine VJ.ret tok (by rfl) (by rfl) ?_
    exact hQ
  · rw [if_pos (show hasT ts t = true by
      have hc : (!hasT ts t) = false := hc
      simpa using hc)] at hQ
    repeat' (first | refine VJ.seq ?_ | refine VJ.skip ?_ | refine VJ.cond_t rfl ?_ | refine VJ.cond_f rfl ?_ | refine VJ.region_k fun K hK => ?_ | (refine VR.done (hK _ ?_); clear hK K) | (first | refine VR.move rfl rfl ?_ | refine VR.assign rfl rfl ?_ | (show onLd; refine VR.load tok rfl rfl rfl (by first | rfl | exact (ldp_el (by assumption)).trans (by rfl)) ?_) | refine VR.not rfl rfl ?_ | refine VR.box rfl rfl rfl ?_ | refine VR.alloc tok rfl rfl rfl ?_ | refine VR.store tok rfl rfl rfl rfl rfl rfl rfl (by first | (intro n e; cases e; done) | exact (fun _ _ q => all_glA (by rfl) q)) ?_ | refine VR.extract rfl rfl rfl ?_ | refine VR.buildX [_, _, _, _, _, _] tok rfl rfl rfl rfl rfl rfl ?_) | (refine VR.call fok26 rfl rfl rfl rfl ?_; refine (v_edge t i hi _ _ ?_)) | (refine VR.call fok8 rfl rfl rfl rfl ?_; refine (v_left ts le (t.cor (i + 1)) (t.cor i) _ hG _ ?_)))
    refine VJ.ret tok (by rfl) (by rfl) ?_
    exact hQ
def trisM (ts : TS) : List Tr := sortT (ts.map (·.1))
theorem v_trisM (ts : TS) (few : ts.length < 100000) (le : LS) (G : Gl) (hG : MeshG G ts le) (hfr : Free 10 12 G) (Q : Po) (hQ : Q (vL 6 ((trisM ts).map Tr.v)) G) : VC Try.prog 13 [vM] G Q := by
  obtain ⟨z1, hg1⟩ := hG.g1
  have hret : ∀ n o, G n = some o → (if n = 10 then some (.box [.mp (.g 1)]) else G n) = some o := by
    intro n o h
    have hn := hfr.ne h
    simp [hn 10 (by decide) (by decide), h]
  obtain ⟨z1', z2, hg⟩ := hG.ok
  refine VC.of_body Try.func13 rfl rfl rfl fun W0 h0 x0 hG0 => ?_
  simp only [args0]
  have e0 : S.obj ⟨0, args0 0 [vM], [], G⟩ (.g 0) = some bxM := hG.g0
  refine VJ.toG 0 (args0 0 [vM]) [] _ ?_ rfl (by repeat' (first | exact trivial | refine And.intro rfl ?_)) trivial (by rfl) (fun n => congrFun (gov_self hg) n)
  simp only [args0]
  repeat' (first | refine VJ.seq ?_ | refine VJ.skip ?_ | refine VJ.cond_t rfl ?_ | refine VJ.cond_f rfl ?_ | refine VJ.region_k fun K hK => ?_ | (refine VR.done (hK _ ?_); clear hK K) | (first | refine VR.move rfl rfl ?_ | refine VR.assign rfl rfl ?_ | (show onLd; refine VR.load tok rfl rfl rfl (by first | rfl | exact (ldp_el (by assumption)).trans (by rfl)) ?_) | (show onFa; refine VR.fieldAddr tok rfl rfl rfl (by first | rfl | exact place_el (by assumption)) rfl rfl ?_) | refine VR.int rfl rfl rfl rfl ?_ | refine VR.nilCheck rfl rfl rfl ?_ | refine VR.eqNil rfl rfl rfl rfl (ptrOk (by rfl)) ?_ | refine VR.neNil rfl rfl rfl rfl (ptrOk (by rfl)) ?_ | (refine VR.call fok28 rfl rfl rfl rfl ?_; refine v_keysT 1 10 ts z1' _ (by exact rfl) (by exact hfr 10 (by decide) (by decide)) _ ?_) | (refine VR.call fok27 rfl rfl rfl rfl ?_; refine v_sortedT 1 10 ts few z1' _ (by exact rfl) (by exact rfl) _ ?_)))
  refine VJ.retF tok (by rfl) (by rfl) hG0 ?_ (by rfl) ?_
  · intro n o h
    have := hret n o h
    by_cases h10 : n = 10
    · subst h10
      rw [hfr 10 (by decide) (by decide)] at h; cases h
    · refine (if_neg h10).trans ?_
      rw [← gov_self hg]; exact h
  · exact hQ
