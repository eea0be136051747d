/- Equality of capabilities. Conditions: none. -/
import Derived.Test.YtahakebcjjaikaaL1
namespace Go.Proofs.Ytahakebcjjaikaa
open Go.RowKit V
set_option linter.unusedVariables false

theorem eqCap0 (x y : Cap) (w : World) : (binOp .eql 29 x.v y.v).run Try.prog w = .ok (.bool (decide (x = y))) w := by
  obtain ⟨a, b, c, d, e, f, g, h, i⟩ := x
  obtain ⟨a', b', c', d', e', f', g', h', i'⟩ := y
  unfold Cap.v
  simp [go_sem]
  iterate 9 (split; rotate_left; · simp [*])
  simp [*]
theorem neqCap0 (x y : Cap) (w : World) : (binOp .neq 29 x.v y.v).run Try.prog w = .ok (.bool (!decide (x = y))) w := by
  obtain ⟨a, b, c, d, e, f, g, h, i⟩ := x
  obtain ⟨a', b', c', d', e', f', g', h', i'⟩ := y
  unfold Cap.v
  simp [go_sem]
  iterate 9 (split; rotate_left; · simp [*])
  simp [*]
theorem eqCap (a b : Operand) (x y : Cap) (w : World) : (do eqGuard .eql 29 a b x.v y.v; binOp .eql 29 x.v y.v : Sem Value).run Try.prog w = .ok (.bool (decide (x = y))) w := by
  rw [Sem.run_bind, show (eqGuard .eql 29 a b x.v y.v).run Try.prog w = .ok () w from run_eqGuard_agg w .eql 29 a b _ _ (show Try.prog.eqGuardType Try.prog.depth 29 = false by kernel_rfl)]
  simp only [Result.andThen_ok]
  exact eqCap0 x y w
theorem neqCap (a b : Operand) (x y : Cap) (w : World) : (do eqGuard .neq 29 a b x.v y.v; binOp .neq 29 x.v y.v : Sem Value).run Try.prog w = .ok (.bool (!decide (x = y))) w := by
  rw [Sem.run_bind, show (eqGuard .neq 29 a b x.v y.v).run Try.prog w = .ok () w from run_eqGuard_agg w .neq 29 a b _ _ (show Try.prog.eqGuardType Try.prog.depth 29 = false by kernel_rfl)]
  simp only [Result.andThen_ok]
  exact neqCap0 x y w

attribute [local irreducible] VR VJ VC
theorem caps_eq_take {l l' : List Cap} (hl : l.length = l'.length) (h : ∀ j (h : j < l.length), l[j] = l'[j]'(hl ▸ h)) : l = l' := List.ext_getElem hl fun j h1 h2 => h j h1

theorem v_alike (l l' : List Cap) (hl : l.length < 4611686018427387904) (hl' : l'.length < 4611686018427387904) (G : Gl) (Q : Po) (hQ : Q (vB (decide (l = l'))) G) : VC Try.prog 18 [vL 9 (l.map Cap.v), vL 9 (l'.map Cap.v)] G Q := by
  refine VC.of_body Try.func18 rfl rfl rfl fun W0 h0 x0 hG0 => ?_
  simp only [args0]
  repeat' (first | refine VJ.seq ?_ | refine VJ.skip ?_ | refine VJ.block ?_ | refine VJ.inBlock ?_ | refine VJ.exit rfl ?_ | refine VJ.cond_t rfl ?_ | refine VJ.cond_f rfl ?_ | refine VJ.region_k fun K hK => ?_ | (refine VR.done (hK _ ?_); clear hK K) | (first | refine VR.move rfl rfl ?_ | refine VR.assign rfl rfl ?_ | (show onLd; refine VR.load tok rfl rfl rfl (by first | rfl | exact (ldp_el (by assumption)).trans (by rfl)) ?_) | (show onIx; refine VR.indexAddr tok rfl rfl rfl rfl rfl rfl rfl (elA_lst (by assumption)) ?_) | refine VR.int rfl rfl rfl rfl ?_ | refine VR.len tok rfl rfl rfl rfl rfl ?_ | (refine VR.bin rfl rfl rfl (neqCap _ _ _ _) ?_)))
  refine VJ.cond rfl (fun hb => ?_) (fun hb => ?_)
  · repeat' (first | refine VJ.seq ?_ | refine VJ.skip ?_ | refine VJ.block ?_ | refine VJ.inBlock ?_ | refine VJ.exit rfl ?_ | refine VJ.cond_t rfl ?_ | refine VJ.cond_f rfl ?_ | refine VJ.region_k fun K hK => ?_ | (refine VR.done (hK _ ?_); clear hK K) | (first | refine VR.move rfl rfl ?_ | refine VR.assign rfl rfl ?_ | (show onLd; refine VR.load tok rfl rfl rfl (by first | rfl | exact (ldp_el (by assumption)).trans (by rfl)) ?_) | (show onIx; refine VR.indexAddr tok rfl rfl rfl rfl rfl rfl rfl (elA_lst (by assumption)) ?_) | refine VR.int rfl rfl rfl rfl ?_ | refine VR.len tok rfl rfl rfl rfl rfl ?_ | (refine VR.bin rfl rfl rfl (neqCap _ _ _ _) ?_)))
    refine VJ.ret tok (by rfl) (by rfl) ?_
    have hne : ¬ l = l' := fun e => by subst e; simp at hb
    rw [decide_eq_false hne] at hQ
    exact hQ
  · have hlen : l.length = l'.length := by simp at hb; omega
    repeat' (first | refine VJ.seq ?_ | refine VJ.skip ?_ | refine VJ.block ?_ | refine VJ.inBlock ?_ | refine VJ.exit rfl ?_ | refine VJ.cond_t rfl ?_ | refine VJ.cond_f rfl ?_ | refine VJ.region_k fun K hK => ?_ | (refine VR.done (hK _ ?_); clear hK K) | (first | refine VR.move rfl rfl ?_ | refine VR.assign rfl rfl ?_ | (show onLd; refine VR.load tok rfl rfl rfl (by first | rfl | exact (ldp_el (by assumption)).trans (by rfl)) ?_) | (show onIx; refine VR.indexAddr tok rfl rfl rfl rfl rfl rfl rfl (elA_lst (by assumption)) ?_) | refine VR.int rfl rfl rfl rfl ?_ | refine VR.len tok rfl rfl rfl rfl rfl ?_ | (refine VR.bin rfl rfl rfl (neqCap _ _ _ _) ?_)))
    refine VJ.to 0 [(5, vI ((0 : Nat) : Int)), (1, vL 9 (l'.map Cap.v)), (0, vL 9 (l.map Cap.v))] [] ?_ rfl ⟨by rfl, by rfl, by rfl, trivial⟩ trivial (by rfl)
    refine VJ.rec (fun j : Nat => ⟨0, [(5, vI j), (1, vL 9 (l'.map Cap.v)), (0, vL 9 (l.map Cap.v))], [], _⟩) (fun j => l.length - j) (fun j => j ≤ l.length ∧ ∀ i (h : i < j) (h2 : i < l.length), l[i] = l'[i]'(hlen ▸ h2)) 0 ⟨Nat.zero_le _, fun i h => absurd h (Nat.not_lt_zero _)⟩ ?_
    rintro j ⟨hj, hi⟩ ih
    repeat' (first | refine VJ.seq ?_ | refine VJ.skip ?_ | refine VJ.block ?_ | refine VJ.inBlock ?_ | refine VJ.exit rfl ?_ | refine VJ.cond_t rfl ?_ | refine VJ.cond_f rfl ?_ | refine VJ.region_k fun K hK => ?_ | (refine VR.done (hK _ ?_); clear hK K) | (first | refine VR.move rfl rfl ?_ | refine VR.assign rfl rfl ?_ | (show onLd; refine VR.load tok rfl rfl rfl (by first | rfl | exact (ldp_el (by assumption)).trans (by rfl)) ?_) | (show onIx; refine VR.indexAddr tok rfl rfl rfl rfl rfl rfl rfl (elA_lst (by assumption)) ?_) | refine VR.int rfl rfl rfl rfl ?_ | refine VR.len tok rfl rfl rfl rfl rfl ?_ | (refine VR.bin rfl rfl rfl (neqCap _ _ _ _) ?_)))
    refine VJ.cond rfl (fun hb2 => ?_) (fun hb2 => ?_)
    · have hlt : j < l.length := by simpa using hb2
      have hlt' : j < l'.length := by omega
      have hget := map_get_v hlt
      have hget' := map_get_v hlt'
      repeat' (first | refine VJ.seq ?_ | refine VJ.skip ?_ | refine VJ.block ?_ | refine VJ.inBlock ?_ | refine VJ.exit rfl ?_ | refine VJ.cond_t rfl ?_ | refine VJ.cond_f rfl ?_ | refine VJ.region_k fun K hK => ?_ | (refine VR.done (hK _ ?_); clear hK K) | (first | refine VR.move rfl rfl ?_ | refine VR.assign rfl rfl ?_ | (show onLd; refine VR.load tok rfl rfl rfl (by first | rfl | exact (ldp_el (by assumption)).trans (by rfl)) ?_) | (show onIx; refine VR.indexAddr tok rfl rfl rfl rfl rfl rfl rfl (elA_lst (by assumption)) ?_) | refine VR.int rfl rfl rfl rfl ?_ | refine VR.len tok rfl rfl rfl rfl rfl ?_ | (refine VR.bin rfl rfl rfl (neqCap _ _ _ _) ?_)))
      apply VJ.draw3 [] [(0, 0), (1, 0), (2, 0), (3, 0), (4, 0), (5, 0), (6, 0), (7, 0), (8, 0)] [[(0, none)], [(5, none)], [(17, some 0), (18, some 1)], [(19, some 2)], [(1, none)], [(5, none)], [(21, some 4), (22, some 5)], [(23, some 6)], [(20, some 3), (24, some 7)]] [[(0, _)], [(5, _)], [(17, _), (18, _)], [(19, _)], [(1, _)], [(5, _)], [(21, _), (22, _)], [(23, _)], [(20, _), (24, _)]] [_, _, _, _, _, _, _, _, _] [⟨_, _, _⟩] (by kernel_rfl) ?hok rfl ?hh rfl rfl ?hj
      case hh =>
        refine ⟨?_, ?_, ?_, ?_, ?_, ?_, ?_, ?_, ?_, trivial⟩
        all_goals (intro rest K1 hK1; (repeat (first | exact VR.done hK1 | (first | refine VR.move rfl rfl ?_ | (show onLd; refine VR.load tok rfl rfl rfl (by first | rfl | exact (ldp_el (by assumption)).trans (by rfl)) ?_) | (show onIx; refine VR.indexAddr tok rfl rfl rfl rfl rfl rfl rfl (elA_lst (by assumption)) ?_) | refine VR.int rfl rfl rfl rfl ?_ | (refine VR.bin rfl rfl rfl (neqCap _ _ _ _) ?_)))); try (first | exact VR.done hK1 | (refine VR.done ?_; dsimp only [S.set]; exact hK1)))
      case hok => kernel_rfl
      case hj =>
        dsimp only [tla]
        repeat' (first | refine VJ.seq ?_ | refine VJ.skip ?_ | refine VJ.block ?_ | refine VJ.inBlock ?_ | refine VJ.exit rfl ?_ | refine VJ.cond_t rfl ?_ | refine VJ.cond_f rfl ?_ | refine VJ.region_k fun K hK => ?_ | (refine VR.done (hK _ ?_); clear hK K) | (first | refine VR.move rfl rfl ?_ | refine VR.assign rfl rfl ?_ | (show onLd; refine VR.load tok rfl rfl rfl (by first | rfl | exact (ldp_el (by assumption)).trans (by rfl)) ?_) | (show onIx; refine VR.indexAddr tok rfl rfl rfl rfl rfl rfl rfl (elA_lst (by assumption)) ?_) | refine VR.int rfl rfl rfl rfl ?_ | refine VR.len tok rfl rfl rfl rfl rfl ?_ | (refine VR.bin rfl rfl rfl (neqCap _ _ _ _) ?_)))
        refine VJ.cond rfl (fun hc => ?_) (fun hc => ?_)
        · repeat' (first | refine VJ.seq ?_ | refine VJ.skip ?_ | refine VJ.block ?_ | refine VJ.inBlock ?_ | refine VJ.exit rfl ?_ | refine VJ.cond_t rfl ?_ | refine VJ.cond_f rfl ?_ | refine VJ.region_k fun K hK => ?_ | (refine VR.done (hK _ ?_); clear hK K) | (first | refine VR.move rfl rfl ?_ | refine VR.assign rfl rfl ?_ | (show onLd; refine VR.load tok rfl rfl rfl (by first | rfl | exact (ldp_el (by assumption)).trans (by rfl)) ?_) | (show onIx; refine VR.indexAddr tok rfl rfl rfl rfl rfl rfl rfl (elA_lst (by assumption)) ?_) | refine VR.int rfl rfl rfl rfl ?_ | refine VR.len tok rfl rfl rfl rfl rfl ?_ | (refine VR.bin rfl rfl rfl (neqCap _ _ _ _) ?_)))
          refine VJ.ret tok (by rfl) (by rfl) ?_
          have hne : ¬ l = l' := fun e => by subst e; simp at hc
          rw [decide_eq_false hne] at hQ
          exact hQ
        · have heq : l[j] = l'[j] := by simpa using hc
          repeat' (first | refine VJ.seq ?_ | refine VJ.skip ?_ | refine VJ.block ?_ | refine VJ.inBlock ?_ | refine VJ.exit rfl ?_ | refine VJ.cond_t rfl ?_ | refine VJ.cond_f rfl ?_ | refine VJ.region_k fun K hK => ?_ | (refine VR.done (hK _ ?_); clear hK K) | (first | refine VR.move rfl rfl ?_ | refine VR.assign rfl rfl ?_ | (show onLd; refine VR.load tok rfl rfl rfl (by first | rfl | exact (ldp_el (by assumption)).trans (by rfl)) ?_) | (show onIx; refine VR.indexAddr tok rfl rfl rfl rfl rfl rfl rfl (elA_lst (by assumption)) ?_) | refine VR.int rfl rfl rfl rfl ?_ | refine VR.len tok rfl rfl rfl rfl rfl ?_ | (refine VR.bin rfl rfl rfl (neqCap _ _ _ _) ?_)))
          refine VJ.to 0 [(5, vI ((j + 1 : Nat) : Int)), (1, vL 9 (l'.map Cap.v)), (0, vL 9 (l.map Cap.v))] [] (ih (j + 1) ⟨hlt, fun i h h2 => ?_⟩ (by omega)) rfl ⟨vI_succ (by omega), by rfl, by rfl, trivial⟩ trivial (by rfl)
          rcases Nat.lt_succ_iff_lt_or_eq.1 h with h | h
          · exact hi i h h2
          · subst h; exact heq
    · have hge : j = l.length := by simp at hb2; omega
      subst hge
      repeat' (first | refine VJ.seq ?_ | refine VJ.skip ?_ | refine VJ.block ?_ | refine VJ.inBlock ?_ | refine VJ.exit rfl ?_ | refine VJ.cond_t rfl ?_ | refine VJ.cond_f rfl ?_ | refine VJ.region_k fun K hK => ?_ | (refine VR.done (hK _ ?_); clear hK K) | (first | refine VR.move rfl rfl ?_ | refine VR.assign rfl rfl ?_ | (show onLd; refine VR.load tok rfl rfl rfl (by first | rfl | exact (ldp_el (by assumption)).trans (by rfl)) ?_) | (show onIx; refine VR.indexAddr tok rfl rfl rfl rfl rfl rfl rfl (elA_lst (by assumption)) ?_) | refine VR.int rfl rfl rfl rfl ?_ | refine VR.len tok rfl rfl rfl rfl rfl ?_ | (refine VR.bin rfl rfl rfl (neqCap _ _ _ _) ?_)))
      refine VJ.ret tok (by rfl) (by rfl) ?_
      rw [decide_eq_true (caps_eq_take hlen fun i h => hi i h h)] at hQ
      exact hQ
