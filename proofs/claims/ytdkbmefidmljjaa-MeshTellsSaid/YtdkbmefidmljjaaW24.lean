/- The document's triangles and points, in order; two lists held against each other. Conditions: a map fits a machine. -/
import Derived.Test.YtdkbmefidmljjaaW22
import Derived.Test.YtdkbmefidmljjaaW23
namespace Go.Proofs.Ytdkbmefidmljjaa
open Go.RowKit V Geo
set_option linter.unusedVariables false

/-- The triangles of a document's mesh: each by its first edge. -/
def firstE (p : En × Tr) : Bool := decide (p.1.a = p.2.a)
def trsOf (E : LS) : List Tr := (E.filter firstE).map (·.2)
def trisR (E : LS) : List Tr := sortT (trsOf E)
def cornersOf (l : List Tr) : List Pt := l.flatMap fun t => [t.a, t.b, t.c]
theorem trsOf_snoc (dn : LS) (p : En × Tr) : trsOf (dn ++ [p]) = if p.1.a = p.2.a then trsOf dn ++ [p.2] else trsOf dn := by
  unfold trsOf firstE
  rw [List.filter_append, List.map_append]
  by_cases h : p.1.a = p.2.a <;> simp [h]
theorem trsOf_len (E : LS) : (trsOf E).length ≤ E.length := by
  unfold trsOf; rw [List.length_map]; exact List.length_filter_le _ _
theorem trsOf_perm {E E' : LS} (h : E.Perm E') : (trsOf E).Perm (trsOf E') := (h.filter _).map _
/-- The document's mesh, ranged over. -/
structure RefP (G : Gl) (E : LS) : Prop where
  g3 : G 3 = some bxN
  g4 : ∃ z, G 4 = some (.map En.v Tr.v E (some z))
theorem RefP.ok {G : Gl} {E : LS} (h : RefP G E) : ∃ z, govOk G [(3, bxN), (4, .map En.v Tr.v E (some z))] := by
  obtain ⟨g3, z, g4⟩ := h
  exact ⟨z, g3, g4, trivial⟩
theorem RefP.ref {G : Gl} {E : LS} (h : RefP G E) : RefG G E := by
  obtain ⟨g3, z, g4⟩ := h
  exact ⟨g3, some z, g4⟩

attribute [local irreducible] VR VJ VC decOk decBt
theorem v_alikeT (l l' : List Tr) (hl : l.length < 4611686018427387904) (hl' : l'.length < 4611686018427387904) (G : Gl) (Q : Po) (hQ : Q (vB (decide (l = l'))) G) : VC Try.prog 21 [vL 6 (l.map Tr.v), vL 6 (l'.map Tr.v)] G Q := by
  refine VC.of_body Try.func21 rfl rfl rfl fun W0 h0 x0 hG0 => ?_
  simp only [args0]
  repeat' (first | refine VJ.seq ?_ | refine VJ.skip ?_ | refine VJ.block ?_ | refine VJ.inBlock ?_ | refine VJ.exit rfl ?_ | refine VJ.cond_t rfl ?_ | refine VJ.cond_f rfl ?_ | refine VJ.region_k fun K hK => ?_ | (refine VR.done (hK _ ?_); clear hK K) | (first | refine VR.move rfl rfl ?_ | refine VR.assign rfl rfl ?_ | (show onLd; refine VR.load tok rfl rfl rfl (by first | rfl | exact (ldp_el (by assumption)).trans (by rfl)) ?_) | (show onIx; refine VR.indexAddr tok rfl rfl rfl rfl rfl rfl rfl (elA_lst (by assumption)) ?_) | refine VR.int rfl rfl rfl rfl ?_ | refine VR.len tok rfl rfl rfl rfl rfl ?_ | (refine VR.bin rfl rfl rfl (neqT _ _ _ _) ?_)))
  refine VJ.cond rfl (fun hb => ?_) (fun hb => ?_)
  · repeat' (first | refine VJ.seq ?_ | refine VJ.skip ?_ | refine VJ.block ?_ | refine VJ.inBlock ?_ | refine VJ.exit rfl ?_ | refine VJ.cond_t rfl ?_ | refine VJ.cond_f rfl ?_ | refine VJ.region_k fun K hK => ?_ | (refine VR.done (hK _ ?_); clear hK K) | (first | refine VR.move rfl rfl ?_ | refine VR.assign rfl rfl ?_ | (show onLd; refine VR.load tok rfl rfl rfl (by first | rfl | exact (ldp_el (by assumption)).trans (by rfl)) ?_) | (show onIx; refine VR.indexAddr tok rfl rfl rfl rfl rfl rfl rfl (elA_lst (by assumption)) ?_) | refine VR.int rfl rfl rfl rfl ?_ | refine VR.len tok rfl rfl rfl rfl rfl ?_ | (refine VR.bin rfl rfl rfl (neqT _ _ _ _) ?_)))
    refine VJ.ret tok (by rfl) (by rfl) ?_
    have hne : ¬ l = l' := fun e => by subst e; simp at hb
    rw [decide_eq_false hne] at hQ
    exact hQ
  · have hlen : l.length = l'.length := by simp at hb; omega
    repeat' (first | refine VJ.seq ?_ | refine VJ.skip ?_ | refine VJ.block ?_ | refine VJ.inBlock ?_ | refine VJ.exit rfl ?_ | refine VJ.cond_t rfl ?_ | refine VJ.cond_f rfl ?_ | refine VJ.region_k fun K hK => ?_ | (refine VR.done (hK _ ?_); clear hK K) | (first | refine VR.move rfl rfl ?_ | refine VR.assign rfl rfl ?_ | (show onLd; refine VR.load tok rfl rfl rfl (by first | rfl | exact (ldp_el (by assumption)).trans (by rfl)) ?_) | (show onIx; refine VR.indexAddr tok rfl rfl rfl rfl rfl rfl rfl (elA_lst (by assumption)) ?_) | refine VR.int rfl rfl rfl rfl ?_ | refine VR.len tok rfl rfl rfl rfl rfl ?_ | (refine VR.bin rfl rfl rfl (neqT _ _ _ _) ?_)))
    refine VJ.to 0 [(5, vI ((0 : Nat) : Int)), (1, vL 6 (l'.map Tr.v)), (0, vL 6 (l.map Tr.v))] [] ?_ rfl ⟨by rfl, by rfl, by rfl, trivial⟩ trivial (by rfl)
    refine VJ.rec (fun j : Nat => ⟨0, [(5, vI j), (1, vL 6 (l'.map Tr.v)), (0, vL 6 (l.map Tr.v))], [], _⟩) (fun j => l.length - j) (fun j => j ≤ l.length ∧ ∀ i (h : i < j) (h2 : i < l.length), l[i] = l'[i]'(hlen ▸ h2)) 0 ⟨Nat.zero_le _, fun i h => absurd h (Nat.not_lt_zero _)⟩ ?_
    rintro j ⟨hj, hi⟩ ih
    repeat' (first | refine VJ.seq ?_ | refine VJ.skip ?_ | refine VJ.block ?_ | refine VJ.inBlock ?_ | refine VJ.exit rfl ?_ | refine VJ.cond_t rfl ?_ | refine VJ.cond_f rfl ?_ | refine VJ.region_k fun K hK => ?_ | (refine VR.done (hK _ ?_); clear hK K) | (first | refine VR.move rfl rfl ?_ | refine VR.assign rfl rfl ?_ | (show onLd; refine VR.load tok rfl rfl rfl (by first | rfl | exact (ldp_el (by assumption)).trans (by rfl)) ?_) | (show onIx; refine VR.indexAddr tok rfl rfl rfl rfl rfl rfl rfl (elA_lst (by assumption)) ?_) | refine VR.int rfl rfl rfl rfl ?_ | refine VR.len tok rfl rfl rfl rfl rfl ?_ | (refine VR.bin rfl rfl rfl (neqT _ _ _ _) ?_)))
    refine VJ.cond rfl (fun hb2 => ?_) (fun hb2 => ?_)
    · have hlt : j < l.length := by simpa using hb2
      have hlt' : j < l'.length := by omega
      have hget := map_get_t hlt
      have hget' := map_get_t hlt'
      repeat' (first | refine VJ.seq ?_ | refine VJ.skip ?_ | refine VJ.block ?_ | refine VJ.inBlock ?_ | refine VJ.exit rfl ?_ | refine VJ.cond_t rfl ?_ | refine VJ.cond_f rfl ?_ | refine VJ.region_k fun K hK => ?_ | (refine VR.done (hK _ ?_); clear hK K) | (first | refine VR.move rfl rfl ?_ | refine VR.assign rfl rfl ?_ | (show onLd; refine VR.load tok rfl rfl rfl (by first | rfl | exact (ldp_el (by assumption)).trans (by rfl)) ?_) | (show onIx; refine VR.indexAddr tok rfl rfl rfl rfl rfl rfl rfl (elA_lst (by assumption)) ?_) | refine VR.int rfl rfl rfl rfl ?_ | refine VR.len tok rfl rfl rfl rfl rfl ?_ | (refine VR.bin rfl rfl rfl (neqT _ _ _ _) ?_)))
      apply VJ.draw3 [] [(0, 0), (1, 0), (2, 0), (3, 0), (4, 0), (5, 0), (6, 0), (7, 0), (8, 0)] [[(0, none)], [(5, none)], [(17, some 0), (18, some 1)], [(19, some 2)], [(1, none)], [(5, none)], [(21, some 4), (22, some 5)], [(23, some 6)], [(20, some 3), (24, some 7)]] [[(0, _)], [(5, _)], [(17, _), (18, _)], [(19, _)], [(1, _)], [(5, _)], [(21, _), (22, _)], [(23, _)], [(20, _), (24, _)]] [_, _, _, _, _, _, _, _, _] [⟨_, _, _⟩] (by kernel_rfl) ?hok rfl ?hh rfl rfl ?hj
      case hh =>
        refine ⟨?_, ?_, ?_, ?_, ?_, ?_, ?_, ?_, ?_, trivial⟩
        all_goals (intro rest K1 hK1; (repeat (first | exact VR.done hK1 | (first | refine VR.move rfl rfl ?_ | (show onLd; refine VR.load tok rfl rfl rfl (by first | rfl | exact (ldp_el (by assumption)).trans (by rfl)) ?_) | (show onIx; refine VR.indexAddr tok rfl rfl rfl rfl rfl rfl rfl (elA_lst (by assumption)) ?_) | refine VR.int rfl rfl rfl rfl ?_ | (refine VR.bin rfl rfl rfl (neqT _ _ _ _) ?_)))); try (first | exact VR.done hK1 | (refine VR.done ?_; dsimp only [S.set]; exact hK1)))
      case hok => kernel_rfl
      case hj =>
        dsimp only [tla]
        repeat' (first | refine VJ.seq ?_ | refine VJ.skip ?_ | refine VJ.block ?_ | refine VJ.inBlock ?_ | refine VJ.exit rfl ?_ | refine VJ.cond_t rfl ?_ | refine VJ.cond_f rfl ?_ | refine VJ.region_k fun K hK => ?_ | (refine VR.done (hK _ ?_); clear hK K) | (first | refine VR.move rfl rfl ?_ | refine VR.assign rfl rfl ?_ | (show onLd; refine VR.load tok rfl rfl rfl (by first | rfl | exact (ldp_el (by assumption)).trans (by rfl)) ?_) | (show onIx; refine VR.indexAddr tok rfl rfl rfl rfl rfl rfl rfl (elA_lst (by assumption)) ?_) | refine VR.int rfl rfl rfl rfl ?_ | refine VR.len tok rfl rfl rfl rfl rfl ?_ | (refine VR.bin rfl rfl rfl (neqT _ _ _ _) ?_)))
        refine VJ.cond rfl (fun hc => ?_) (fun hc => ?_)
        · repeat' (first | refine VJ.seq ?_ | refine VJ.skip ?_ | refine VJ.block ?_ | refine VJ.inBlock ?_ | refine VJ.exit rfl ?_ | refine VJ.cond_t rfl ?_ | refine VJ.cond_f rfl ?_ | refine VJ.region_k fun K hK => ?_ | (refine VR.done (hK _ ?_); clear hK K) | (first | refine VR.move rfl rfl ?_ | refine VR.assign rfl rfl ?_ | (show onLd; refine VR.load tok rfl rfl rfl (by first | rfl | exact (ldp_el (by assumption)).trans (by rfl)) ?_) | (show onIx; refine VR.indexAddr tok rfl rfl rfl rfl rfl rfl rfl (elA_lst (by assumption)) ?_) | refine VR.int rfl rfl rfl rfl ?_ | refine VR.len tok rfl rfl rfl rfl rfl ?_ | (refine VR.bin rfl rfl rfl (neqT _ _ _ _) ?_)))
          refine VJ.ret tok (by rfl) (by rfl) ?_
          have hne : ¬ l = l' := fun e => by subst e; simp at hc
          rw [decide_eq_false hne] at hQ
          exact hQ
        · have heq : l[j] = l'[j] := by simpa using hc
          repeat' (first | refine VJ.seq ?_ | refine VJ.skip ?_ | refine VJ.block ?_ | refine VJ.inBlock ?_ | refine VJ.exit rfl ?_ | refine VJ.cond_t rfl ?_ | refine VJ.cond_f rfl ?_ | refine VJ.region_k fun K hK => ?_ | (refine VR.done (hK _ ?_); clear hK K) | (first | refine VR.move rfl rfl ?_ | refine VR.assign rfl rfl ?_ | (show onLd; refine VR.load tok rfl rfl rfl (by first | rfl | exact (ldp_el (by assumption)).trans (by rfl)) ?_) | (show onIx; refine VR.indexAddr tok rfl rfl rfl rfl rfl rfl rfl (elA_lst (by assumption)) ?_) | refine VR.int rfl rfl rfl rfl ?_ | refine VR.len tok rfl rfl rfl rfl rfl ?_ | (refine VR.bin rfl rfl rfl (neqT _ _ _ _) ?_)))
          refine VJ.to 0 [(5, vI ((j + 1 : Nat) : Int)), (1, vL 6 (l'.map Tr.v)), (0, vL 6 (l.map Tr.v))] [] (ih (j + 1) ⟨hlt, fun i h h2 => ?_⟩ (by omega)) rfl ⟨vI_succ (by omega), by rfl, by rfl, trivial⟩ trivial (by rfl)
          rcases Nat.lt_succ_iff_lt_or_eq.1 h with h | h
          · exact hi i h h2
          · subst h; exact heq
    · have hge : j = l.length := by simp at hb2; omega
      subst hge
      repeat' (first | refine VJ.seq ?_ | refine VJ.skip ?_ | refine VJ.block ?_ | refine VJ.inBlock ?_ | refine VJ.exit rfl ?_ | refine VJ.cond_t rfl ?_ | refine VJ.cond_f rfl ?_ | refine VJ.region_k fun K hK => ?_ | (refine VR.done (hK _ ?_); clear hK K) | (first | refine VR.move rfl rfl ?_ | refine VR.assign rfl rfl ?_ | (show onLd; refine VR.load tok rfl rfl rfl (by first | rfl | exact (ldp_el (by assumption)).trans (by rfl)) ?_) | (show onIx; refine VR.indexAddr tok rfl rfl rfl rfl rfl rfl rfl (elA_lst (by assumption)) ?_) | refine VR.int rfl rfl rfl rfl ?_ | refine VR.len tok rfl rfl rfl rfl rfl ?_ | (refine VR.bin rfl rfl rfl (neqT _ _ _ _) ?_)))
      refine VJ.ret tok (by rfl) (by rfl) ?_
      rw [decide_eq_true (List.ext_getElem hlen fun i h1 h2 => hi i h1 h1)] at hQ
      exact hQ
theorem v_alikeP (l l' : List Pt) (hl : l.length < 4611686018427387904) (hl' : l'.length < 4611686018427387904) (G : Gl) (Q : Po) (hQ : Q (vB (decide (l = l'))) G) : VC Try.prog 22 [vL 2 (l.map ptV), vL 2 (l'.map ptV)] G Q := by
  refine VC.of_body Try.func22 rfl rfl rfl fun W0 h0 x0 hG0 => ?_
  simp only [args0]
  repeat' (first | refine VJ.seq ?_ | refine VJ.skip ?_ | refine VJ.block ?_ | refine VJ.inBlock ?_ | refine VJ.exit rfl ?_ | refine VJ.cond_t rfl ?_ | refine VJ.cond_f rfl ?_ | refine VJ.region_k fun K hK => ?_ | (refine VR.done (hK _ ?_); clear hK K) | (first | refine VR.move rfl rfl ?_ | refine VR.assign rfl rfl ?_ | (show onLd; refine VR.load tok rfl rfl rfl (by first | rfl | exact (ldp_el (by assumption)).trans (by rfl)) ?_) | (show onIx; refine VR.indexAddr tok rfl rfl rfl rfl rfl rfl rfl (elA_lst (by assumption)) ?_) | refine VR.int rfl rfl rfl rfl ?_ | refine VR.len tok rfl rfl rfl rfl rfl ?_ | (refine VR.bin rfl rfl rfl (neqP _ _ _ _) ?_)))
  refine VJ.cond rfl (fun hb => ?_) (fun hb => ?_)
  · repeat' (first | refine VJ.seq ?_ | refine VJ.skip ?_ | refine VJ.block ?_ | refine VJ.inBlock ?_ | refine VJ.exit rfl ?_ | refine VJ.cond_t rfl ?_ | refine VJ.cond_f rfl ?_ | refine VJ.region_k fun K hK => ?_ | (refine VR.done (hK _ ?_); clear hK K) | (first | refine VR.move rfl rfl ?_ | refine VR.assign rfl rfl ?_ | (show onLd; refine VR.load tok rfl rfl rfl (by first | rfl | exact (ldp_el (by assumption)).trans (by rfl)) ?_) | (show onIx; refine VR.indexAddr tok rfl rfl rfl rfl rfl rfl rfl (elA_lst (by assumption)) ?_) | refine VR.int rfl rfl rfl rfl ?_ | refine VR.len tok rfl rfl rfl rfl rfl ?_ | (refine VR.bin rfl rfl rfl (neqP _ _ _ _) ?_)))
    refine VJ.ret tok (by rfl) (by rfl) ?_
    have hne : ¬ l = l' := fun e => by subst e; simp at hb
    rw [decide_eq_false hne] at hQ
    exact hQ
  · have hlen : l.length = l'.length := by simp at hb; omega
    repeat' (first | refine VJ.seq ?_ | refine VJ.skip ?_ | refine VJ.block ?_ | refine VJ.inBlock ?_ | refine VJ.exit rfl ?_ | refine VJ.cond_t rfl ?_ | refine VJ.cond_f rfl ?_ | refine VJ.region_k fun K hK => ?_ | (refine VR.done (hK _ ?_); clear hK K) | (first | refine VR.move rfl rfl ?_ | refine VR.assign rfl rfl ?_ | (show onLd; refine VR.load tok rfl rfl rfl (by first | rfl | exact (ldp_el (by assumption)).trans (by rfl)) ?_) | (show onIx; refine VR.indexAddr tok rfl rfl rfl rfl rfl rfl rfl (elA_lst (by assumption)) ?_) | refine VR.int rfl rfl rfl rfl ?_ | refine VR.len tok rfl rfl rfl rfl rfl ?_ | (refine VR.bin rfl rfl rfl (neqP _ _ _ _) ?_)))
    refine VJ.to 0 [(5, vI ((0 : Nat) : Int)), (1, vL 2 (l'.map ptV)), (0, vL 2 (l.map ptV))] [] ?_ rfl ⟨by rfl, by rfl, by rfl, trivial⟩ trivial (by rfl)
    refine VJ.rec (fun j : Nat => ⟨0, [(5, vI j), (1, vL 2 (l'.map ptV)), (0, vL 2 (l.map ptV))], [], _⟩) (fun j => l.length - j) (fun j => j ≤ l.length ∧ ∀ i (h : i < j) (h2 : i < l.length), l[i] = l'[i]'(hlen ▸ h2)) 0 ⟨Nat.zero_le _, fun i h => absurd h (Nat.not_lt_zero _)⟩ ?_
    rintro j ⟨hj, hi⟩ ih
    repeat' (first | refine VJ.seq ?_ | refine VJ.skip ?_ | refine VJ.block ?_ | refine VJ.inBlock ?_ | refine VJ.exit rfl ?_ | refine VJ.cond_t rfl ?_ | refine VJ.cond_f rfl ?_ | refine VJ.region_k fun K hK => ?_ | (refine VR.done (hK _ ?_); clear hK K) | (first | refine VR.move rfl rfl ?_ | refine VR.assign rfl rfl ?_ | (show onLd; refine VR.load tok rfl rfl rfl (by first | rfl | exact (ldp_el (by assumption)).trans (by rfl)) ?_) | (show onIx; refine VR.indexAddr tok rfl rfl rfl rfl rfl rfl rfl (elA_lst (by assumption)) ?_) | refine VR.int rfl rfl rfl rfl ?_ | refine VR.len tok rfl rfl rfl rfl rfl ?_ | (refine VR.bin rfl rfl rfl (neqP _ _ _ _) ?_)))
    refine VJ.cond rfl (fun hb2 => ?_) (fun hb2 => ?_)
    · have hlt : j < l.length := by simpa using hb2
      have hlt' : j < l'.length := by omega
      have hget := map_get_p hlt
      have hget' := map_get_p hlt'
      repeat' (first | refine VJ.seq ?_ | refine VJ.skip ?_ | refine VJ.block ?_ | refine VJ.inBlock ?_ | refine VJ.exit rfl ?_ | refine VJ.cond_t rfl ?_ | refine VJ.cond_f rfl ?_ | refine VJ.region_k fun K hK => ?_ | (refine VR.done (hK _ ?_); clear hK K) | (first | refine VR.move rfl rfl ?_ | refine VR.assign rfl rfl ?_ | (show onLd; refine VR.load tok rfl rfl rfl (by first | rfl | exact (ldp_el (by assumption)).trans (by rfl)) ?_) | (show onIx; refine VR.indexAddr tok rfl rfl rfl rfl rfl rfl rfl (elA_lst (by assumption)) ?_) | refine VR.int rfl rfl rfl rfl ?_ | refine VR.len tok rfl rfl rfl rfl rfl ?_ | (refine VR.bin rfl rfl rfl (neqP _ _ _ _) ?_)))
      apply VJ.draw3 [] [(0, 0), (1, 0), (2, 0), (3, 0), (4, 0), (5, 0), (6, 0), (7, 0), (8, 0)] [[(0, none)], [(5, none)], [(17, some 0), (18, some 1)], [(19, some 2)], [(1, none)], [(5, none)], [(21, some 4), (22, some 5)], [(23, some 6)], [(20, some 3), (24, some 7)]] [[(0, _)], [(5, _)], [(17, _), (18, _)], [(19, _)], [(1, _)], [(5, _)], [(21, _), (22, _)], [(23, _)], [(20, _), (24, _)]] [_, _, _, _, _, _, _, _, _] [⟨_, _, _⟩] (by kernel_rfl) ?hok rfl ?hh rfl rfl ?hj
      case hh =>
        refine ⟨?_, ?_, ?_, ?_, ?_, ?_, ?_, ?_, ?_, trivial⟩
        all_goals (intro rest K1 hK1; (repeat (first | exact VR.done hK1 | (first | refine VR.move rfl rfl ?_ | (show onLd; refine VR.load tok rfl rfl rfl (by first | rfl | exact (ldp_el (by assumption)).trans (by rfl)) ?_) | (show onIx; refine VR.indexAddr tok rfl rfl rfl rfl rfl rfl rfl (elA_lst (by assumption)) ?_) | refine VR.int rfl rfl rfl rfl ?_ | (refine VR.bin rfl rfl rfl (neqP _ _ _ _) ?_)))); try (first | exact VR.done hK1 | (refine VR.done ?_; dsimp only [S.set]; exact hK1)))
      case hok => kernel_rfl
      case hj =>
        dsimp only [tla]
        repeat' (first | refine VJ.seq ?_ | refine VJ.skip ?_ | refine VJ.block ?_ | refine VJ.inBlock ?_ | refine VJ.exit rfl ?_ | refine VJ.cond_t rfl ?_ | refine VJ.cond_f rfl ?_ | refine VJ.region_k fun K hK => ?_ | (refine VR.done (hK _ ?_); clear hK K) | (first | refine VR.move rfl rfl ?_ | refine VR.assign rfl rfl ?_ | (show onLd; refine VR.load tok rfl rfl rfl (by first | rfl | exact (ldp_el (by assumption)).trans (by rfl)) ?_) | (show onIx; refine VR.indexAddr tok rfl rfl rfl rfl rfl rfl rfl (elA_lst (by assumption)) ?_) | refine VR.int rfl rfl rfl rfl ?_ | refine VR.len tok rfl rfl rfl rfl rfl ?_ | (refine VR.bin rfl rfl rfl (neqP _ _ _ _) ?_)))
        refine VJ.cond rfl (fun hc => ?_) (fun hc => ?_)
        · repeat' (first | refine VJ.seq ?_ | refine VJ.skip ?_ | refine VJ.block ?_ | refine VJ.inBlock ?_ | refine VJ.exit rfl ?_ | refine VJ.cond_t rfl ?_ | refine VJ.cond_f rfl ?_ | refine VJ.region_k fun K hK => ?_ | (refine VR.done (hK _ ?_); clear hK K) | (first | refine VR.move rfl rfl ?_ | refine VR.assign rfl rfl ?_ | (show onLd; refine VR.load tok rfl rfl rfl (by first | rfl | exact (ldp_el (by assumption)).trans (by rfl)) ?_) | (show onIx; refine VR.indexAddr tok rfl rfl rfl rfl rfl rfl rfl (elA_lst (by assumption)) ?_) | refine VR.int rfl rfl rfl rfl ?_ | refine VR.len tok rfl rfl rfl rfl rfl ?_ | (refine VR.bin rfl rfl rfl (neqP _ _ _ _) ?_)))
          refine VJ.ret tok (by rfl) (by rfl) ?_
          have hne : ¬ l = l' := fun e => by subst e; simp at hc
          rw [decide_eq_false hne] at hQ
          exact hQ
        · have heq : l[j] = l'[j] := by simpa using hc
          repeat' (first | refine VJ.seq ?_ | refine VJ.skip ?_ | refine VJ.block ?_ | refine VJ.inBlock ?_ | refine VJ.exit rfl ?_ | refine VJ.cond_t rfl ?_ | refine VJ.cond_f rfl ?_ | refine VJ.region_k fun K hK => ?_ | (refine VR.done (hK _ ?_); clear hK K) | (first | refine VR.move rfl rfl ?_ | refine VR.assign rfl rfl ?_ | (show onLd; refine VR.load tok rfl rfl rfl (by first | rfl | exact (ldp_el (by assumption)).trans (by rfl)) ?_) | (show onIx; refine VR.indexAddr tok rfl rfl rfl rfl rfl rfl rfl (elA_lst (by assumption)) ?_) | refine VR.int rfl rfl rfl rfl ?_ | refine VR.len tok rfl rfl rfl rfl rfl ?_ | (refine VR.bin rfl rfl rfl (neqP _ _ _ _) ?_)))
          refine VJ.to 0 [(5, vI ((j + 1 : Nat) : Int)), (1, vL 2 (l'.map ptV)), (0, vL 2 (l.map ptV))] [] (ih (j + 1) ⟨hlt, fun i h h2 => ?_⟩ (by omega)) rfl ⟨vI_succ (by omega), by rfl, by rfl, trivial⟩ trivial (by rfl)
          rcases Nat.lt_succ_iff_lt_or_eq.1 h with h | h
          · exact hi i h h2
          · subst h; exact heq
    · have hge : j = l.length := by simp at hb2; omega
      subst hge
      repeat' (first | refine VJ.seq ?_ | refine VJ.skip ?_ | refine VJ.block ?_ | refine VJ.inBlock ?_ | refine VJ.exit rfl ?_ | refine VJ.cond_t rfl ?_ | refine VJ.cond_f rfl ?_ | refine VJ.region_k fun K hK => ?_ | (refine VR.done (hK _ ?_); clear hK K) | (first | refine VR.move rfl rfl ?_ | refine VR.assign rfl rfl ?_ | (show onLd; refine VR.load tok rfl rfl rfl (by first | rfl | exact (ldp_el (by assumption)).trans (by rfl)) ?_) | (show onIx; refine VR.indexAddr tok rfl rfl rfl rfl rfl rfl rfl (elA_lst (by assumption)) ?_) | refine VR.int rfl rfl rfl rfl ?_ | refine VR.len tok rfl rfl rfl rfl rfl ?_ | (refine VR.bin rfl rfl rfl (neqP _ _ _ _) ?_)))
      refine VJ.ret tok (by rfl) (by rfl) ?_
      rw [decide_eq_true (List.ext_getElem hlen fun i h1 h2 => hi i h1 h1)] at hQ
      exact hQ

set_option maxRecDepth 20000 in
set_option maxHeartbeats 4000000 in
theorem v_trisR (E : LS) (few : E.length < 100000) (G : Gl) (hG : RefP G E) (Q : Po) (hQ : Q (vL 6 ((trisR E).map Tr.v)) G) : VC Try.prog 20 [vN] G Q := by
  obtain ⟨z, hg⟩ := hG.ok
  rw [gov_self hg] at hQ ⊢
  refine VC.of_body Try.func20 rfl rfl rfl fun W0 h0 x0 hG0 => ?_
  simp only [args0]
  repeat' (first | refine VJ.seq ?_ | refine VJ.skip ?_ | refine VJ.block ?_ | refine VJ.inBlock ?_ | refine VJ.exit rfl ?_ | refine VJ.cond_t rfl ?_ | refine VJ.cond_f rfl ?_ | refine VJ.region_k fun K hK => ?_ | (refine VR.done (hK _ ?_); clear hK K) | (first | refine VR.move rfl rfl ?_ | refine VR.assign rfl rfl ?_ | (show onLd; refine VR.load tok rfl rfl rfl (by first | rfl | exact (ldp_el (by assumption)).trans (by rfl)) ?_) | (show onFa; refine VR.fieldAddr tok rfl rfl rfl (by first | rfl | exact place_el (by assumption)) rfl rfl ?_) | refine VR.int rfl rfl rfl rfl ?_ | refine VR.alloc tok rfl rfl rfl ?_ | refine VR.store tok rfl rfl rfl rfl rfl rfl rfl (by first | (intro n e; cases e; done) | exact (fun _ _ q => all_glA (by rfl) q)) ?_ | refine VR.nilCheck rfl rfl rfl ?_ | refine VR.extract rfl rfl rfl ?_ | refine VR.range rfl rfl rfl (mapOk (by rfl)) ?_))
  refine VJ.promote 3 26 6 (by decide) rfl ?_
  refine VJ.to 2 [(10, .a (.ptr (.l 0) 0)), (3, .a (.own (.l 1)))] [(0, .itr En.v Tr.v E E z none), (1, .row 26 6 ((trsOf []).map Tr.v))] ?_ rfl (by repeat' (first | exact trivial | refine And.intro rfl ?_)) (by repeat' (first | exact trivial | refine And.intro rfl ?_)) (by rfl)
  refine VJ.rec (fun a : LS × LS × Option Value => ⟨2, [(10, .a (.ptr (.l 0) 0)), (3, .a (.own (.l 1)))], [(0, .itr En.v Tr.v E a.2.1 z a.2.2), (1, .row 26 6 ((trsOf a.1).map Tr.v))], gov [(3, bxN), (4, .map En.v Tr.v E (some z))] G⟩) (fun a => a.2.1.length) (fun a => (a.1 ++ a.2.1).Perm E) ([], E, none) (by simp) ?_
  rintro ⟨dn, left, cur⟩ hpm ih
  dsimp only at hpm ih ⊢
  repeat' (first | refine VJ.seq ?_ | refine VJ.skip ?_ | refine VJ.block ?_ | refine VJ.inBlock ?_ | refine VJ.exit rfl ?_ | refine VJ.cond_t rfl ?_ | refine VJ.cond_f rfl ?_ | refine VJ.region_k fun K hK => ?_ | (refine VR.done (hK _ ?_); clear hK K) | (first | refine VR.move rfl rfl ?_ | refine VR.assign rfl rfl ?_ | (show onLd; refine VR.load tok rfl rfl rfl (by first | rfl | exact (ldp_el (by assumption)).trans (by rfl)) ?_) | (show onFa; refine VR.fieldAddr tok rfl rfl rfl (by first | rfl | exact place_el (by assumption)) rfl rfl ?_) | refine VR.int rfl rfl rfl rfl ?_ | refine VR.alloc tok rfl rfl rfl ?_ | refine VR.store tok rfl rfl rfl rfl rfl rfl rfl (by first | (intro n e; cases e; done) | exact (fun _ _ q => all_glA (by rfl) q)) ?_ | refine VR.nilCheck rfl rfl rfl ?_ | refine VR.extract rfl rfl rfl ?_ | refine VR.range rfl rfl rfl (mapOk (by rfl)) ?_))
  refine VR.next (i := .g 4) rfl rfl rfl rfl ?_ ?_
  · intro hl
    subst hl
    have hpt : sortT (trsOf dn) = trisR E := sortT_eq (trsOf_perm (by simpa using hpm))
    have hfew : (trsOf dn).length < 1000000 := by
      have h1 := trsOf_len dn
      have h2 := hpm.length_eq
      simp at h2
      omega
    repeat' (first | refine VJ.seq ?_ | refine VJ.skip ?_ | refine VJ.block ?_ | refine VJ.inBlock ?_ | refine VJ.exit rfl ?_ | refine VJ.cond_t rfl ?_ | refine VJ.cond_f rfl ?_ | refine VJ.region_k fun K hK => ?_)
    refine VR.extract rfl rfl rfl ?_
    refine VR.done (hK _ ?_); clear hK K
    repeat' (first | refine VJ.seq ?_ | refine VJ.skip ?_ | refine VJ.inBlock ?_ | refine VJ.exit rfl ?_ | refine VJ.cond_f rfl ?_)
    refine VJ.freeze 3 rfl rfl ?_
    repeat' (first | refine VJ.seq ?_ | refine VJ.skip ?_ | refine VJ.block ?_ | refine VJ.inBlock ?_ | refine VJ.exit rfl ?_ | refine VJ.cond_t rfl ?_ | refine VJ.cond_f rfl ?_ | refine VJ.region_k fun K hK => ?_ | (refine VR.done (hK _ ?_); clear hK K) | (first | refine VR.move rfl rfl ?_ | refine VR.assign rfl rfl ?_ | (show onLd; refine VR.load tok rfl rfl rfl (by first | rfl | exact (ldp_el (by assumption)).trans (by rfl)) ?_) | (show onFa; refine VR.fieldAddr tok rfl rfl rfl (by first | rfl | exact place_el (by assumption)) rfl rfl ?_) | refine VR.int rfl rfl rfl rfl ?_ | refine VR.alloc tok rfl rfl rfl ?_ | refine VR.store tok rfl rfl rfl rfl rfl rfl rfl (by first | (intro n e; cases e; done) | exact (fun _ _ q => all_glA (by rfl) q)) ?_ | refine VR.nilCheck rfl rfl rfl ?_ | refine VR.extract rfl rfl rfl ?_ | refine VR.range rfl rfl rfl (mapOk (by rfl)) ?_ | (refine VR.call fok40 rfl rfl rfl rfl ?_; refine v_sortTR (trsOf dn) hfew _ _ ?_; rw [hpt])))
    refine VJ.ret tok (by rfl) (by rfl) ?_
    exact hQ
  · intro x c y z' hl
    subst hl
    have hpm' : ((dn ++ [(x, c)]) ++ (y ++ z')).Perm E := by
      refine List.Perm.trans ?_ hpm
      rw [List.append_assoc]
      refine List.Perm.append_left dn ?_
      simpa using (List.perm_middle (a := (x, c)) (l₁ := y) (l₂ := z')).symm
    have hfew : (trsOf dn).length < 1000000 := by
      have h1 := trsOf_len dn
      have h2 := hpm.length_eq
      simp at h2
      omega
    have hsn := trsOf_snoc dn (x, c)
    have ih' := ih (dn ++ [(x, c)], y ++ z', some (.tuple #[x.v, c.v])) hpm' (by simp)
    dsimp only at ih' hsn
    rw [hsn] at ih'
    repeat' (first | refine VJ.seq ?_ | refine VJ.skip ?_ | refine VJ.block ?_ | refine VJ.inBlock ?_ | refine VJ.exit rfl ?_ | refine VJ.cond_t rfl ?_ | refine VJ.cond_f rfl ?_ | refine VJ.region_k fun K hK => ?_ | (refine VR.done (hK _ ?_); clear hK K) | (first | refine VR.move rfl rfl ?_ | refine VR.assign rfl rfl ?_ | (show onLd; refine VR.load tok rfl rfl rfl (by first | rfl | exact (ldp_el (by assumption)).trans (by rfl)) ?_) | (show onFa; refine VR.fieldAddr tok rfl rfl rfl (by first | rfl | exact place_el (by assumption)) rfl rfl ?_) | refine VR.int rfl rfl rfl rfl ?_ | refine VR.alloc tok rfl rfl rfl ?_ | refine VR.store tok rfl rfl rfl rfl rfl rfl rfl (by first | (intro n e; cases e; done) | exact (fun _ _ q => all_glA (by rfl) q)) ?_ | refine VR.nilCheck rfl rfl rfl ?_ | refine VR.extract rfl rfl rfl ?_ | refine VR.range rfl rfl rfl (mapOk (by rfl)) ?_ | (refine VR.entry (i := .g 4) rfl rfl rfl rfl ?_) | (refine VR.bin rfl rfl rfl (eqP _ _ x.a c.a) ?_) | (refine VR.buildLst ([c].map Tr.v) tok (by rfl) (by rfl) (by rfl) (by rfl) (by rfl) (by rfl) (by rfl) (by rfl) (by rfl) (by rfl) (by rfl) ?_) | (refine VR.append tok (by rfl) (by rfl) (by rfl) (by rfl) (by rfl) (by rfl) (by rfl) (by rfl) (by rfl) (by rfl) (oneT [c]) (by simp; omega) (by simp [maxLen]; omega) ?_)))
    refine VJ.cond rfl (fun hc => ?_) (fun hc => ?_)
    · have hc : x.a = c.a := by simpa using hc
      rw [if_pos hc] at ih'
      repeat' (first | refine VJ.seq ?_ | refine VJ.skip ?_ | refine VJ.block ?_ | refine VJ.inBlock ?_ | refine VJ.exit rfl ?_ | refine VJ.cond_t rfl ?_ | refine VJ.cond_f rfl ?_ | refine VJ.region_k fun K hK => ?_ | (refine VR.done (hK _ ?_); clear hK K) | (first | refine VR.move rfl rfl ?_ | refine VR.assign rfl rfl ?_ | (show onLd; refine VR.load tok rfl rfl rfl (by first | rfl | exact (ldp_el (by assumption)).trans (by rfl)) ?_) | (show onFa; refine VR.fieldAddr tok rfl rfl rfl (by first | rfl | exact place_el (by assumption)) rfl rfl ?_) | refine VR.int rfl rfl rfl rfl ?_ | refine VR.alloc tok rfl rfl rfl ?_ | refine VR.store tok rfl rfl rfl rfl rfl rfl rfl (by first | (intro n e; cases e; done) | exact (fun _ _ q => all_glA (by rfl) q)) ?_ | refine VR.nilCheck rfl rfl rfl ?_ | refine VR.extract rfl rfl rfl ?_ | refine VR.range rfl rfl rfl (mapOk (by rfl)) ?_ | (refine VR.entry (i := .g 4) rfl rfl rfl rfl ?_) | (refine VR.bin rfl rfl rfl (eqP _ _ x.a c.a) ?_) | (refine VR.buildLst ([c].map Tr.v) tok (by rfl) (by rfl) (by rfl) (by rfl) (by rfl) (by rfl) (by rfl) (by rfl) (by rfl) (by rfl) (by rfl) ?_) | (refine VR.append tok (by rfl) (by rfl) (by rfl) (by rfl) (by rfl) (by rfl) (by rfl) (by rfl) (by rfl) (by rfl) (oneT [c]) (by simp; omega) (by simp [maxLen]; omega) ?_)))
      exact VJ.to 2 [(10, .a (.ptr (.l 0) 0)), (3, .a (.own (.l 1)))] [(0, .itr En.v Tr.v E (y ++ z') z (some (.tuple #[x.v, c.v]))), (1, .row 26 6 ((trsOf dn ++ [c]).map Tr.v))] ih' rfl (by repeat' (first | exact trivial | refine And.intro rfl ?_)) ⟨by rfl, by rw [List.map_append]; rfl, trivial⟩ (by rfl)
    · have hc : ¬ x.a = c.a := by simpa using hc
      rw [if_neg hc] at ih'
      repeat' (first | refine VJ.seq ?_ | refine VJ.skip ?_ | refine VJ.block ?_ | refine VJ.inBlock ?_ | refine VJ.exit rfl ?_ | refine VJ.cond_t rfl ?_ | refine VJ.cond_f rfl ?_ | refine VJ.region_k fun K hK => ?_ | (refine VR.done (hK _ ?_); clear hK K) | (first | refine VR.move rfl rfl ?_ | refine VR.assign rfl rfl ?_ | (show onLd; refine VR.load tok rfl rfl rfl (by first | rfl | exact (ldp_el (by assumption)).trans (by rfl)) ?_) | (show onFa; refine VR.fieldAddr tok rfl rfl rfl (by first | rfl | exact place_el (by assumption)) rfl rfl ?_) | refine VR.int rfl rfl rfl rfl ?_ | refine VR.alloc tok rfl rfl rfl ?_ | refine VR.store tok rfl rfl rfl rfl rfl rfl rfl (by first | (intro n e; cases e; done) | exact (fun _ _ q => all_glA (by rfl) q)) ?_ | refine VR.nilCheck rfl rfl rfl ?_ | refine VR.extract rfl rfl rfl ?_ | refine VR.range rfl rfl rfl (mapOk (by rfl)) ?_ | (refine VR.entry (i := .g 4) rfl rfl rfl rfl ?_) | (refine VR.bin rfl rfl rfl (eqP _ _ x.a c.a) ?_) | (refine VR.buildLst ([c].map Tr.v) tok (by rfl) (by rfl) (by rfl) (by rfl) (by rfl) (by rfl) (by rfl) (by rfl) (by rfl) (by rfl) (by rfl) ?_) | (refine VR.append tok (by rfl) (by rfl) (by rfl) (by rfl) (by rfl) (by rfl) (by rfl) (by rfl) (by rfl) (by rfl) (oneT [c]) (by simp; omega) (by simp [maxLen]; omega) ?_)))
      exact VJ.to 2 [(10, .a (.ptr (.l 0) 0)), (3, .a (.own (.l 1)))] [(0, .itr En.v Tr.v E (y ++ z') z (some (.tuple #[x.v, c.v]))), (1, .row 26 6 ((trsOf dn).map Tr.v))] ih' rfl (by repeat' (first | exact trivial | refine And.intro rfl ?_)) (by repeat' (first | exact trivial | refine And.intro rfl ?_)) (by rfl)
theorem corners_snoc (l : List Tr) {j : Nat} (h : j < l.length) : cornersOf (l.take (j + 1)) = cornersOf (l.take j) ++ [l[j].a, l[j].b, l[j].c] := by
  unfold cornersOf
  rw [← List.take_append_getElem h, List.flatMap_append]; simp
theorem corners_len (l : List Tr) : (cornersOf l).length = 3 * l.length := by
  unfold cornersOf
  induction l with
  | nil => rfl
  | cons t l ih => rw [List.flatMap_cons, List.length_append, ih, List.length_cons]; simp; omega
set_option maxRecDepth 20000 in
set_option maxHeartbeats 4000000 in
theorem v_corners (l : List Tr) (hl : l.length < 100000) (G : Gl) (Q : Po) (hQ : ∀ out, Str out → (∀ x, x ∈ out ↔ x ∈ cornersOf l) → Q (vL 2 (out.map ptV)) G) : VC Try.prog 23 [vL 6 (l.map Tr.v)] G Q := by
  refine VC.of_body Try.func23 rfl rfl rfl fun W0 h0 x0 hG0 => ?_
  simp only [args0]
  repeat' (first | refine VJ.seq ?_ | refine VJ.skip ?_ | refine VJ.block ?_ | refine VJ.inBlock ?_ | refine VJ.exit rfl ?_ | refine VJ.cond_t rfl ?_ | refine VJ.cond_f rfl ?_ | refine VJ.region_k fun K hK => ?_ | (refine VR.done (hK _ ?_); clear hK K) | (first | refine VR.move rfl rfl ?_ | refine VR.assign rfl rfl ?_ | (show onLd; refine VR.load tok rfl rfl rfl (by first | rfl | exact (ldp_el (by assumption)).trans (by rfl)) ?_) | (show onFa; refine VR.fieldAddr tok rfl rfl rfl (by first | rfl | exact place_el (by assumption)) rfl rfl ?_) | (show onIx; refine VR.indexAddr tok rfl rfl rfl rfl rfl rfl rfl (elA_lst (by assumption)) ?_) | refine VR.int rfl rfl rfl rfl ?_ | refine VR.len tok rfl rfl rfl rfl rfl ?_))
  refine VJ.promote 3 24 2 (by decide) rfl ?_
  refine VJ.to 1 [(4, vI ((0 : Nat) : Int)), (3, .a (.own (.l 0))), (0, vL 6 (l.map Tr.v))] [(0, .row 24 2 ((cornersOf (l.take 0)).map ptV))] ?_ rfl (by repeat' (first | exact trivial | refine And.intro rfl ?_)) (by repeat' (first | exact trivial | refine And.intro rfl ?_)) (by rfl)
  refine VJ.rec (fun j : Nat => ⟨1, [(4, vI j), (3, .a (.own (.l 0))), (0, vL 6 (l.map Tr.v))], [(0, .row 24 2 ((cornersOf (l.take j)).map ptV))], G⟩) (fun j => l.length - j) (fun j => j ≤ l.length) 0 (Nat.zero_le _) ?_
  intro j hj ih
  repeat' (first | refine VJ.seq ?_ | refine VJ.skip ?_ | refine VJ.block ?_ | refine VJ.inBlock ?_ | refine VJ.exit rfl ?_ | refine VJ.cond_t rfl ?_ | refine VJ.cond_f rfl ?_ | refine VJ.region_k fun K hK => ?_ | (refine VR.done (hK _ ?_); clear hK K) | (first | refine VR.move rfl rfl ?_ | refine VR.assign rfl rfl ?_ | (show onLd; refine VR.load tok rfl rfl rfl (by first | rfl | exact (ldp_el (by assumption)).trans (by rfl)) ?_) | (show onFa; refine VR.fieldAddr tok rfl rfl rfl (by first | rfl | exact place_el (by assumption)) rfl rfl ?_) | (show onIx; refine VR.indexAddr tok rfl rfl rfl rfl rfl rfl rfl (elA_lst (by assumption)) ?_) | refine VR.int rfl rfl rfl rfl ?_ | refine VR.len tok rfl rfl rfl rfl rfl ?_))
  refine VJ.cond rfl (fun hb => ?_) (fun hb => ?_)
  · have hlt : j < l.length := by simpa using hb
    have hget := map_get_t hlt
    have hsn := corners_snoc l hlt
    have hle : (cornersOf (l.take j)).length ≤ 300000 := by rw [corners_len, List.length_take]; omega
    have ih' := ih (j + 1) hlt (by omega)
    rw [hsn] at ih'
    generalize l[j] = t at hget ih'
    repeat' (first | refine VJ.seq ?_ | refine VJ.skip ?_ | refine VJ.block ?_ | refine VJ.inBlock ?_ | refine VJ.exit rfl ?_ | refine VJ.cond_t rfl ?_ | refine VJ.cond_f rfl ?_ | refine VJ.region_k fun K hK => ?_ | (refine VR.done (hK _ ?_); clear hK K) | (first | refine VR.move rfl rfl ?_ | refine VR.assign rfl rfl ?_ | (show onLd; refine VR.load tok rfl rfl rfl (by first | rfl | exact (ldp_el (by assumption)).trans (by rfl)) ?_) | (show onFa; refine VR.fieldAddr tok rfl rfl rfl (by first | rfl | exact place_el (by assumption)) rfl rfl ?_) | (show onIx; refine VR.indexAddr tok rfl rfl rfl rfl rfl rfl rfl (elA_lst (by assumption)) ?_) | refine VR.int rfl rfl rfl rfl ?_ | refine VR.len tok rfl rfl rfl rfl rfl ?_ | (refine VR.buildLst ([t.a, t.b, t.c].map ptV) tok (by rfl) (by rfl) (by rfl) (by rfl) (by rfl) (by rfl) (by rfl) (by rfl) (by rfl) (by rfl) (by rfl) ?_) | (refine VR.appendN tok (by rfl) (by rfl) (by rfl) (by rfl) (by rfl) (by rfl) (by rfl) (by rfl) (by rfl) (onePt [t.a, t.b, t.c]) (by simp; omega) (by simp [maxLen]; omega) ?_)))
    apply VJ.draw3 [17] [(0, 0), (1, 0), (2, 0), (3, 0), (4, 0), (5, 0), (6, 0), (7, 0), (8, 0), (9, 0), (10, 0), (11, 0), (12, 0), (13, 0), (14, 0), (15, 0), (16, 0), (17, 0), (18, 1), (1, 1), (2, 1), (3, 1), (4, 1), (5, 1), (6, 1), (7, 1), (8, 1), (9, 1), (10, 1), (11, 1), (12, 1), (13, 1), (14, 1), (15, 1)] [[(3, none)], [(0, none)], [(4, none)], [(12, some 1), (13, some 2)], [(14, some 3)], [(15, some 4)], [(0, none)], [(4, none)], [(17, some 6), (18, some 7)], [(19, some 8)], [(20, some 9)], [(0, none)], [(4, none)], [(22, some 11), (23, some 12)], [(24, some 13)], [(25, some 14)], [(16, some 5), (21, some 10), (26, some 15)], [(11, some 0), (27, some 16)], [(28, some 17)]] [[(3, _)], [(0, _)], [(4, _)], [(12, _), (13, _)], [(14, _)], [(15, _)], [(0, _)], [(4, _)], [(17, _), (18, _)], [(19, _)], [(20, _)], [(0, _)], [(4, _)], [(22, _), (23, _)], [(24, _)], [(25, _)], [(16, _), (21, _), (26, _)], [(11, _), (27, _)], [(28, _)]] [_, _, _, _, _, _, _, _, _, _, _, _, _, _, _, _, _, _, _] [⟨_, _, _⟩, ⟨_, _, _⟩] (by kernel_rfl) ?hok rfl ?hh rfl rfl ?hj
    case hh =>
      refine ⟨?_, ?_, ?_, ?_, ?_, ?_, ?_, ?_, ?_, ?_, ?_, ?_, ?_, ?_, ?_, ?_, ?_, ?_, ?_, ?_, ?_, ?_, ?_, ?_, ?_, ?_, ?_, ?_, ?_, ?_, ?_, ?_, ?_, ?_, trivial⟩
      all_goals (intro rest K1 hK1; (repeat (first | exact VR.done hK1 | (first | refine VR.move rfl rfl ?_ | refine VR.assign rfl rfl ?_ | (show onLd; refine VR.load tok rfl rfl rfl (by first | rfl | exact (ldp_el (by assumption)).trans (by rfl)) ?_) | (show onFa; refine VR.fieldAddr tok rfl rfl rfl (by first | rfl | exact place_el (by assumption)) rfl rfl ?_) | (show onIx; refine VR.indexAddr tok rfl rfl rfl rfl rfl rfl rfl (elA_lst (by assumption)) ?_) | (refine VR.buildLst ([t.a, t.b, t.c].map ptV) tok (by rfl) (by rfl) (by rfl) (by rfl) (by rfl) (by rfl) (by rfl) (by rfl) (by rfl) (by rfl) (by rfl) ?_) | (refine VR.appendN tok (by rfl) (by rfl) (by rfl) (by rfl) (by rfl) (by rfl) (by rfl) (by rfl) (by rfl) (onePt [t.a, t.b, t.c]) (by simp; omega) (by simp [maxLen]; omega) ?_)))); try (first | exact VR.done hK1 | (refine VR.done ?_; dsimp only [S.set]; exact hK1)))
    case hok => kernel_rfl
    case hj =>
      dsimp only [tla]
      repeat' (first | refine VJ.seq ?_ | refine VJ.skip ?_ | refine VJ.block ?_ | refine VJ.inBlock ?_ | refine VJ.exit rfl ?_ | refine VJ.cond_t rfl ?_ | refine VJ.cond_f rfl ?_ | refine VJ.region_k fun K hK => ?_ | (refine VR.done (hK _ ?_); clear hK K) | (first | refine VR.move rfl rfl ?_ | refine VR.assign rfl rfl ?_ | (show onLd; refine VR.load tok rfl rfl rfl (by first | rfl | exact (ldp_el (by assumption)).trans (by rfl)) ?_) | (show onFa; refine VR.fieldAddr tok rfl rfl rfl (by first | rfl | exact place_el (by assumption)) rfl rfl ?_) | (show onIx; refine VR.indexAddr tok rfl rfl rfl rfl rfl rfl rfl (elA_lst (by assumption)) ?_) | refine VR.int rfl rfl rfl rfl ?_ | refine VR.len tok rfl rfl rfl rfl rfl ?_ | (refine VR.buildLst ([t.a, t.b, t.c].map ptV) tok (by rfl) (by rfl) (by rfl) (by rfl) (by rfl) (by rfl) (by rfl) (by rfl) (by rfl) (by rfl) (by rfl) ?_) | (refine VR.appendN tok (by rfl) (by rfl) (by rfl) (by rfl) (by rfl) (by rfl) (by rfl) (by rfl) (by rfl) (onePt [t.a, t.b, t.c]) (by simp; omega) (by simp [maxLen]; omega) ?_)))
      refine VJ.sw 0 1 (by rfl) (by rfl) ?_
      exact VJ.to 1 [(4, vI ((j + 1 : Nat) : Int)), (3, .a (.own (.l 0))), (0, vL 6 (l.map Tr.v))] [(0, .row 24 2 ((cornersOf (l.take j) ++ [t.a, t.b, t.c]).map ptV))] ih' rfl ⟨vI_succ (by omega), by rfl, by rfl, trivial⟩ ⟨by rw [List.map_append]; rfl, trivial⟩ (by rfl)
  have hge : l.length ≤ j := by simpa using hb
  rw [List.take_of_length_le hge]
  repeat' (first | refine VJ.seq ?_ | refine VJ.skip ?_ | refine VJ.inBlock ?_ | refine VJ.exit rfl ?_ | refine VJ.cond_f rfl ?_)
  refine VJ.freeze 3 rfl rfl ?_
  repeat' (first | refine VJ.seq ?_ | refine VJ.skip ?_ | refine VJ.block ?_ | refine VJ.inBlock ?_ | refine VJ.exit rfl ?_ | refine VJ.cond_t rfl ?_ | refine VJ.cond_f rfl ?_ | refine VJ.region_k fun K hK => ?_ | (refine VR.done (hK _ ?_); clear hK K) | (first | refine VR.move rfl rfl ?_ | refine VR.assign rfl rfl ?_ | (show onLd; refine VR.load tok rfl rfl rfl (by first | rfl | exact (ldp_el (by assumption)).trans (by rfl)) ?_) | (show onFa; refine VR.fieldAddr tok rfl rfl rfl (by first | rfl | exact place_el (by assumption)) rfl rfl ?_) | (show onIx; refine VR.indexAddr tok rfl rfl rfl rfl rfl rfl rfl (elA_lst (by assumption)) ?_) | refine VR.int rfl rfl rfl rfl ?_ | refine VR.len tok rfl rfl rfl rfl rfl ?_ | (refine VR.call fok41 rfl rfl rfl rfl ?_; refine v_sortPR (cornersOf l) (by rw [corners_len]; omega) _ _ (fun out h1 h2 => ?_); have hq := hQ out h1 h2)))
  refine VJ.ret tok (by rfl) (by rfl) ?_
  exact hq
