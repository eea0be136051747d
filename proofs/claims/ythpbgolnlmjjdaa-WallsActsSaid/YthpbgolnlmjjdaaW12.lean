/- Whether one of a list is so; lists alike; the document's order of walls. Conditions: each lemma's own. -/
import Derived.Test.YthpbgolnlmjjdaaW11
import Derived.Test.YthpbgolnlmjjdaaV25
namespace Go.Proofs.Ythpbgolnlmjjdaa
open Go.RowKit V Geo
set_option linter.unusedVariables false

theorem neqW0 (x y : Wl) (w : World) : (binOp .neq 32 x.v y.v).run Try.prog w = .ok (.bool (!decide (x = y))) w := by
  obtain ⟨⟨a, b⟩, ⟨c, d⟩, e⟩ := x
  obtain ⟨⟨a', b'⟩, ⟨c', d'⟩, e'⟩ := y
  unfold Wl.v
  simp [go_sem]
  by_cases h1 : a = a' <;> by_cases h2 : b = b' <;> by_cases h3 : c = c' <;> by_cases h4 : d = d' <;> by_cases h5 : e = e' <;> simp [h1, h2, h3, h4, h5]
theorem neqW (a b : Operand) (x y : Wl) (w : World) : (do eqGuard .neq 32 a b x.v y.v; binOp .neq 32 x.v y.v : Sem Value).run Try.prog w = .ok (.bool (!decide (x = y))) w := by
  rw [Sem.run_bind, show (eqGuard .neq 32 a b x.v y.v).run Try.prog w = .ok () w from run_eqGuard_agg w .neq 32 a b _ _ (show Try.prog.eqGuardType Try.prog.depth 32 = false by kernel_rfl)]
  simp only [Result.andThen_ok]
  exact neqW0 x y w
theorem map_get_v {l : List Wl} {j : Nat} (h : j < l.length) : (l.map Wl.v)[j]? = some l[j].v := by simp [h]
abbrev bxW (w : Wl) : VO := .box [.d (.v (.int .i64 w.a.x)), .d (.v (.int .i64 w.a.y)), .d (.v (.int .i64 w.b.x)), .d (.v (.int .i64 w.b.y)), .d (.v (.int .i64 w.k))]
def cmpR (v w : Wl) : Int := if cp v.a w.a = 0 then (if cp v.b w.b = 0 then sg (wr (v.k - w.k)) else cp v.b w.b) else cp v.a w.a

attribute [local irreducible] VR VJ VC decOk decBt
theorem v_index (l : List Wl) (hl : l.length < 4611686018427387904) (G : Gl) (f : Nat) (caps : List A) (hf : FnOk Try.prog f) (hcap : caps.all glA = true) (p : Wl → Bool)
    (hp : ∀ c (Q : Po), Q (vB (p c)) G → VC Try.prog f (vV c.v :: caps.map AV.a) G Q) (Q : Po) (hQ : ∀ r : Int, decide (r ≥ 0) = l.any p → Q (vI r) G) : VC Try.prog 52 [vL 5 (l.map Wl.v), .fn f caps] G Q := by
  have hcg : (caps.map AV.a).all glV = true := by rw [List.all_map]; exact hcap
  refine VC.of_body Try.func52 rfl rfl rfl fun W0 h0 x0 hG0 => ?_
  simp only [args0]
  repeat' (first | refine VJ.seq ?_ | refine VJ.skip ?_ | refine VJ.block ?_ | refine VJ.inBlock ?_ | refine VJ.exit rfl ?_ | refine VJ.cond_t rfl ?_ | refine VJ.cond_f rfl ?_ | refine VJ.region_k fun K hK => ?_ | (refine VR.done (hK _ ?_); clear hK K) | (first | refine VR.move rfl rfl ?_ | refine VR.assign rfl rfl ?_ | (show onLd; refine VR.load tok rfl rfl rfl (by first | rfl | exact (ldp_el (by assumption)).trans (by rfl)) ?_) | (show onIx; refine VR.indexAddr tok rfl rfl rfl rfl rfl rfl rfl (elA_lst (by assumption)) ?_) | refine VR.int rfl rfl rfl rfl ?_ | refine VR.len tok rfl rfl rfl rfl rfl ?_))
  refine VJ.to 0 [(8, vI ((0 : Nat) : Int)), (7, vI l.length), (1, .fn f caps), (0, vL 5 (l.map Wl.v))] [] ?_ rfl ⟨by rfl, by simp [lk], by rfl, by rfl, trivial⟩ trivial (by simp [okF, ltV, ltO, ltA, glA_ltA hcap])
  refine VJ.rec (fun j : Nat => ⟨0, [(8, vI j), (7, vI l.length), (1, .fn f caps), (0, vL 5 (l.map Wl.v))], [], _⟩) (fun j => l.length - j) (fun j => j ≤ l.length ∧ (l.drop j).any p = l.any p) 0 ⟨Nat.zero_le _, rfl⟩ ?_
  rintro j ⟨hj, hd⟩ ih
  repeat' (first | refine VJ.seq ?_ | refine VJ.skip ?_ | refine VJ.block ?_ | refine VJ.inBlock ?_ | refine VJ.exit rfl ?_ | refine VJ.cond_t rfl ?_ | refine VJ.cond_f rfl ?_ | refine VJ.region_k fun K hK => ?_ | (refine VR.done (hK _ ?_); clear hK K) | (first | refine VR.move rfl rfl ?_ | refine VR.assign rfl rfl ?_ | (show onLd; refine VR.load tok rfl rfl rfl (by first | rfl | exact (ldp_el (by assumption)).trans (by rfl)) ?_) | (show onIx; refine VR.indexAddr tok rfl rfl rfl rfl rfl rfl rfl (elA_lst (by assumption)) ?_) | refine VR.int rfl rfl rfl rfl ?_ | refine VR.len tok rfl rfl rfl rfl rfl ?_))
  refine VJ.cond rfl (fun hb => ?_) (fun hb => ?_)
  · have hlt : j < l.length := by simpa using hb
    have hget := map_get_v hlt
    rw [List.drop_eq_getElem_cons hlt, List.any_cons] at hd
    repeat' (first | refine VJ.seq ?_ | refine VJ.skip ?_ | refine VJ.block ?_ | refine VJ.inBlock ?_ | refine VJ.exit rfl ?_ | refine VJ.cond_t rfl ?_ | refine VJ.cond_f rfl ?_ | refine VJ.region_k fun K hK => ?_ | (refine VR.done (hK _ ?_); clear hK K) | (first | refine VR.move rfl rfl ?_ | refine VR.assign rfl rfl ?_ | (show onLd; refine VR.load tok rfl rfl rfl (by first | rfl | exact (ldp_el (by assumption)).trans (by rfl)) ?_) | (show onIx; refine VR.indexAddr tok rfl rfl rfl rfl rfl rfl rfl (elA_lst (by assumption)) ?_) | refine VR.int rfl rfl rfl rfl ?_ | refine VR.len tok rfl rfl rfl rfl rfl ?_))
    refine VR.call hf rfl rfl rfl (by simpa [glV, glA] using hcg) (hp l[j] _ ?_)
    repeat' (first | refine VJ.seq ?_ | refine VJ.skip ?_ | refine VJ.block ?_ | refine VJ.inBlock ?_ | refine VJ.exit rfl ?_ | refine VJ.cond_t rfl ?_ | refine VJ.cond_f rfl ?_ | refine VJ.region_k fun K hK => ?_ | (refine VR.done (hK _ ?_); clear hK K) | (first | refine VR.move rfl rfl ?_ | refine VR.assign rfl rfl ?_ | (show onLd; refine VR.load tok rfl rfl rfl (by first | rfl | exact (ldp_el (by assumption)).trans (by rfl)) ?_) | (show onIx; refine VR.indexAddr tok rfl rfl rfl rfl rfl rfl rfl (elA_lst (by assumption)) ?_) | refine VR.int rfl rfl rfl rfl ?_ | refine VR.len tok rfl rfl rfl rfl rfl ?_))
    refine VJ.cond rfl (fun hc => ?_) (fun hc => ?_)
    · rw [hc, Bool.true_or] at hd
      repeat' (first | refine VJ.seq ?_ | refine VJ.skip ?_ | refine VJ.block ?_ | refine VJ.inBlock ?_ | refine VJ.exit rfl ?_ | refine VJ.cond_t rfl ?_ | refine VJ.cond_f rfl ?_ | refine VJ.region_k fun K hK => ?_ | (refine VR.done (hK _ ?_); clear hK K) | (first | refine VR.move rfl rfl ?_ | refine VR.assign rfl rfl ?_ | (show onLd; refine VR.load tok rfl rfl rfl (by first | rfl | exact (ldp_el (by assumption)).trans (by rfl)) ?_) | (show onIx; refine VR.indexAddr tok rfl rfl rfl rfl rfl rfl rfl (elA_lst (by assumption)) ?_) | refine VR.int rfl rfl rfl rfl ?_ | refine VR.len tok rfl rfl rfl rfl rfl ?_))
      refine VJ.ret tok (by rfl) (by rfl) ?_
      exact hQ j (by rw [← hd]; simp)
    · rw [hc, Bool.false_or] at hd
      repeat' (first | refine VJ.seq ?_ | refine VJ.skip ?_ | refine VJ.block ?_ | refine VJ.inBlock ?_ | refine VJ.exit rfl ?_ | refine VJ.cond_t rfl ?_ | refine VJ.cond_f rfl ?_ | refine VJ.region_k fun K hK => ?_ | (refine VR.done (hK _ ?_); clear hK K) | (first | refine VR.move rfl rfl ?_ | refine VR.assign rfl rfl ?_ | (show onLd; refine VR.load tok rfl rfl rfl (by first | rfl | exact (ldp_el (by assumption)).trans (by rfl)) ?_) | (show onIx; refine VR.indexAddr tok rfl rfl rfl rfl rfl rfl rfl (elA_lst (by assumption)) ?_) | refine VR.int rfl rfl rfl rfl ?_ | refine VR.len tok rfl rfl rfl rfl rfl ?_))
      exact VJ.to 0 [(8, vI ((j + 1 : Nat) : Int)), (7, vI l.length), (1, .fn f caps), (0, vL 5 (l.map Wl.v))] [] (ih (j + 1) ⟨hlt, hd⟩ (by omega)) rfl ⟨vI_succ (by omega), by rfl, by rfl, by rfl, trivial⟩ trivial (by simp [okF, ltV, ltO, ltA, glA_ltA hcap])
  · have hge : j = l.length := by simp at hb; omega
    subst hge
    rw [List.drop_length] at hd
    repeat' (first | refine VJ.seq ?_ | refine VJ.skip ?_ | refine VJ.block ?_ | refine VJ.inBlock ?_ | refine VJ.exit rfl ?_ | refine VJ.cond_t rfl ?_ | refine VJ.cond_f rfl ?_ | refine VJ.region_k fun K hK => ?_ | (refine VR.done (hK _ ?_); clear hK K) | (first | refine VR.move rfl rfl ?_ | refine VR.assign rfl rfl ?_ | (show onLd; refine VR.load tok rfl rfl rfl (by first | rfl | exact (ldp_el (by assumption)).trans (by rfl)) ?_) | (show onIx; refine VR.indexAddr tok rfl rfl rfl rfl rfl rfl rfl (elA_lst (by assumption)) ?_) | refine VR.int rfl rfl rfl rfl ?_ | refine VR.len tok rfl rfl rfl rfl rfl ?_))
    refine VJ.ret tok (by rfl) (by rfl) ?_
    exact hQ (-1) (by rw [← hd]; rfl)

theorem v_contains (l : List Wl) (hl : l.length < 4611686018427387904) (G : Gl) (f : Nat) (caps : List A) (hf : FnOk Try.prog f) (hcap : caps.all glA = true) (p : Wl → Bool)
    (hp : ∀ c (Q : Po), Q (vB (p c)) G → VC Try.prog f (vV c.v :: caps.map AV.a) G Q) (Q : Po) (hQ : Q (vB (l.any p)) G) : VC Try.prog 31 [vL 5 (l.map Wl.v), .fn f caps] G Q := by
  have hcg : (caps.map AV.a).all glV = true := by rw [List.all_map]; exact hcap
  refine VC.of_body Try.func31 rfl rfl rfl fun W0 h0 x0 hG0 => ?_
  simp only [args0]
  repeat' (first | refine VJ.seq ?_ | refine VJ.skip ?_ | refine VJ.cond_t rfl ?_ | refine VJ.cond_f rfl ?_ | refine VJ.region_k fun K hK => ?_ | (refine VR.done (hK _ ?_); clear hK K) | (first | refine VR.move rfl rfl ?_ | refine VR.assign rfl rfl ?_ | refine VR.int rfl rfl rfl rfl ?_))
  refine VR.call fok52 rfl rfl rfl (by simpa [glV, glA] using hcap) ?_
  refine v_index l hl _ f caps hf hcap p hp _ fun r hr => ?_
  repeat' (first | refine VJ.seq ?_ | refine VJ.skip ?_ | refine VJ.cond_t rfl ?_ | refine VJ.cond_f rfl ?_ | refine VJ.region_k fun K hK => ?_ | (refine VR.done (hK _ ?_); clear hK K) | (first | refine VR.move rfl rfl ?_ | refine VR.assign rfl rfl ?_ | refine VR.int rfl rfl rfl rfl ?_))
  refine VJ.ret tok (by rfl) (by rfl) ?_
  rw [← hr] at hQ
  exact hQ
def hits (w v : Wl) : Bool := decide (meetE v.a v.b w.a w.b > 0)
theorem v_new1 (w v : Wl) (G : Gl) (h : govOk G [(10, bxW w)]) (Q : Po) (hQ : Q (vB (hits w v)) G) : VC Try.prog 32 [vV v.v, .a (.ptr (.g 10) 0)] G Q := by
  rw [gov_self h] at hQ ⊢
  refine VC.of_body Try.func32 rfl rfl rfl fun W0 h0 x0 hG0 => ?_
  simp only [args0]
  repeat' (first | refine VJ.seq ?_ | refine VJ.skip ?_ | refine VJ.cond_t rfl ?_ | refine VJ.cond_f rfl ?_ | refine VJ.region_k fun K hK => ?_ | (refine VR.done (hK _ ?_); clear hK K) | (first | refine VR.assign rfl rfl ?_ | (show onLd; refine VR.load tok rfl rfl rfl (by first | rfl | exact (ldp_el (by assumption)).trans (by rfl)) ?_) | (show onFa; refine VR.fieldAddr tok rfl rfl rfl (by first | rfl | exact place_el (by assumption)) rfl rfl ?_) | refine VR.int rfl rfl rfl rfl ?_ | refine VR.box rfl rfl rfl ?_) | (refine VR.call fok33 rfl rfl rfl rfl ?_; refine (v_meetE v.a v.b w.a w.b _ _ ?_)))
  refine VJ.ret tok (by rfl) (by rfl) ?_
  exact hQ
theorem v_cmpR (v w : Wl) (G : Gl) (Q : Po) (hQ : Q (vI (cmpR v w)) G) : VC Try.prog 12 [vV v.v, vV w.v] G Q := by
  refine VC.of_body Try.func12 rfl rfl rfl fun W0 h0 x0 hG0 => ?_
  simp only [args0]
  unfold cmpR at hQ
  repeat' (first | refine VJ.seq ?_ | refine VJ.skip ?_ | refine VJ.cond_t rfl ?_ | refine VJ.cond_f rfl ?_ | refine VJ.region_k fun K hK => ?_ | (refine VR.done (hK _ ?_); clear hK K) | (first | refine VR.move rfl rfl ?_ | refine VR.assign rfl rfl ?_ | (show onLd; refine VR.load tok rfl rfl rfl (by first | rfl | exact (ldp_el (by assumption)).trans (by rfl)) ?_) | (show onFa; refine VR.fieldAddr tok rfl rfl rfl (by first | rfl | exact place_el (by assumption)) rfl rfl ?_) | refine VR.int rfl rfl rfl rfl ?_ | refine VR.box rfl rfl rfl ?_) | (refine VR.call fok39 rfl rfl rfl rfl ?_; refine (v_cpR v.a w.a _ _ ?_)))
  refine VJ.cond rfl (fun hc => ?_) (fun hc => ?_)
  · have h1 : cp v.a w.a = 0 := by simpa using hc
    rw [if_pos h1] at hQ
    repeat' (first | refine VJ.seq ?_ | refine VJ.skip ?_ | refine VJ.cond_t rfl ?_ | refine VJ.cond_f rfl ?_ | refine VJ.region_k fun K hK => ?_ | (refine VR.done (hK _ ?_); clear hK K) | (first | refine VR.move rfl rfl ?_ | refine VR.assign rfl rfl ?_ | (show onLd; refine VR.load tok rfl rfl rfl (by first | rfl | exact (ldp_el (by assumption)).trans (by rfl)) ?_) | (show onFa; refine VR.fieldAddr tok rfl rfl rfl (by first | rfl | exact place_el (by assumption)) rfl rfl ?_) | refine VR.int rfl rfl rfl rfl ?_ | refine VR.box rfl rfl rfl ?_) | (refine VR.call fok39 rfl rfl rfl rfl ?_; refine (v_cpR v.b w.b _ _ ?_)))
    refine VJ.cond rfl (fun hc => ?_) (fun hc => ?_)
    · have h1 : cp v.b w.b = 0 := by simpa using hc
      rw [if_pos h1] at hQ
      repeat' (first | refine VJ.seq ?_ | refine VJ.skip ?_ | refine VJ.cond_t rfl ?_ | refine VJ.cond_f rfl ?_ | refine VJ.region_k fun K hK => ?_ | (refine VR.done (hK _ ?_); clear hK K) | (first | refine VR.move rfl rfl ?_ | refine VR.assign rfl rfl ?_ | (show onLd; refine VR.load tok rfl rfl rfl (by first | rfl | exact (ldp_el (by assumption)).trans (by rfl)) ?_) | (show onFa; refine VR.fieldAddr tok rfl rfl rfl (by first | rfl | exact place_el (by assumption)) rfl rfl ?_) | refine VR.int rfl rfl rfl rfl ?_ | refine VR.box rfl rfl rfl ?_) | (refine VR.call fok41 rfl rfl rfl rfl ?_; refine (v_sign (wr (v.k - w.k)) _ _ ?_)))
      refine VJ.ret tok (by rfl) (by rfl) ?_
      exact hQ
    · have h1 : ¬ cp v.b w.b = 0 := by simpa using hc
      rw [if_neg h1] at hQ
      repeat' (first | refine VJ.seq ?_ | refine VJ.skip ?_ | refine VJ.cond_t rfl ?_ | refine VJ.cond_f rfl ?_ | refine VJ.region_k fun K hK => ?_ | (refine VR.done (hK _ ?_); clear hK K) | (first | refine VR.move rfl rfl ?_ | refine VR.assign rfl rfl ?_ | (show onLd; refine VR.load tok rfl rfl rfl (by first | rfl | exact (ldp_el (by assumption)).trans (by rfl)) ?_) | (show onFa; refine VR.fieldAddr tok rfl rfl rfl (by first | rfl | exact place_el (by assumption)) rfl rfl ?_) | refine VR.int rfl rfl rfl rfl ?_ | refine VR.box rfl rfl rfl ?_) | (refine VR.call fok41 rfl rfl rfl rfl ?_; refine (v_sign (wr (v.k - w.k)) _ _ ?_)))
      refine VJ.ret tok (by rfl) (by rfl) ?_
      exact hQ
  · have h1 : ¬ cp v.a w.a = 0 := by simpa using hc
    rw [if_neg h1] at hQ
    repeat' (first | refine VJ.seq ?_ | refine VJ.skip ?_ | refine VJ.cond_t rfl ?_ | refine VJ.cond_f rfl ?_ | refine VJ.region_k fun K hK => ?_ | (refine VR.done (hK _ ?_); clear hK K) | (first | refine VR.move rfl rfl ?_ | refine VR.assign rfl rfl ?_ | (show onLd; refine VR.load tok rfl rfl rfl (by first | rfl | exact (ldp_el (by assumption)).trans (by rfl)) ?_) | (show onFa; refine VR.fieldAddr tok rfl rfl rfl (by first | rfl | exact place_el (by assumption)) rfl rfl ?_) | refine VR.int rfl rfl rfl rfl ?_ | refine VR.box rfl rfl rfl ?_) | (refine VR.call fok41 rfl rfl rfl rfl ?_; refine (v_sign (wr (v.k - w.k)) _ _ ?_)))
    refine VJ.cond rfl (fun hc2 => absurd hc2 (by rw [hc]; simp)) (fun hc2 => ?_)
    repeat' (first | refine VJ.seq ?_ | refine VJ.skip ?_ | refine VJ.cond_t rfl ?_ | refine VJ.cond_f rfl ?_ | refine VJ.region_k fun K hK => ?_ | (refine VR.done (hK _ ?_); clear hK K) | (first | refine VR.move rfl rfl ?_ | refine VR.assign rfl rfl ?_ | (show onLd; refine VR.load tok rfl rfl rfl (by first | rfl | exact (ldp_el (by assumption)).trans (by rfl)) ?_) | (show onFa; refine VR.fieldAddr tok rfl rfl rfl (by first | rfl | exact place_el (by assumption)) rfl rfl ?_) | refine VR.int rfl rfl rfl rfl ?_ | refine VR.box rfl rfl rfl ?_) | (refine VR.call fok41 rfl rfl rfl rfl ?_; refine (v_sign (wr (v.k - w.k)) _ _ ?_)))
    refine VJ.ret tok (by rfl) (by rfl) ?_
    exact hQ
theorem v_alike (l l' : List Wl) (hl : l.length < 4611686018427387904) (hl' : l'.length < 4611686018427387904) (G : Gl) (Q : Po) (hQ : Q (vB (decide (l = l'))) G) : VC Try.prog 14 [vL 5 (l.map Wl.v), vL 5 (l'.map Wl.v)] G Q := by
  refine VC.of_body Try.func14 rfl rfl rfl fun W0 h0 x0 hG0 => ?_
  simp only [args0]
  repeat' (first | refine VJ.seq ?_ | refine VJ.skip ?_ | refine VJ.block ?_ | refine VJ.inBlock ?_ | refine VJ.exit rfl ?_ | refine VJ.cond_t rfl ?_ | refine VJ.cond_f rfl ?_ | refine VJ.region_k fun K hK => ?_ | (refine VR.done (hK _ ?_); clear hK K) | (first | refine VR.move rfl rfl ?_ | refine VR.assign rfl rfl ?_ | (show onLd; refine VR.load tok rfl rfl rfl (by first | rfl | exact (ldp_el (by assumption)).trans (by rfl)) ?_) | (show onIx; refine VR.indexAddr tok rfl rfl rfl rfl rfl rfl rfl (elA_lst (by assumption)) ?_) | refine VR.int rfl rfl rfl rfl ?_ | refine VR.len tok rfl rfl rfl rfl rfl ?_ | (refine VR.bin rfl rfl rfl (neqW _ _ _ _) ?_)))
  refine VJ.cond rfl (fun hb => ?_) (fun hb => ?_)
  · repeat' (first | refine VJ.seq ?_ | refine VJ.skip ?_ | refine VJ.block ?_ | refine VJ.inBlock ?_ | refine VJ.exit rfl ?_ | refine VJ.cond_t rfl ?_ | refine VJ.cond_f rfl ?_ | refine VJ.region_k fun K hK => ?_ | (refine VR.done (hK _ ?_); clear hK K) | (first | refine VR.move rfl rfl ?_ | refine VR.assign rfl rfl ?_ | (show onLd; refine VR.load tok rfl rfl rfl (by first | rfl | exact (ldp_el (by assumption)).trans (by rfl)) ?_) | (show onIx; refine VR.indexAddr tok rfl rfl rfl rfl rfl rfl rfl (elA_lst (by assumption)) ?_) | refine VR.int rfl rfl rfl rfl ?_ | refine VR.len tok rfl rfl rfl rfl rfl ?_ | (refine VR.bin rfl rfl rfl (neqW _ _ _ _) ?_)))
    refine VJ.ret tok (by rfl) (by rfl) ?_
    have hne : ¬ l = l' := fun e => by subst e; simp at hb
    rw [decide_eq_false hne] at hQ
    exact hQ
  · have hlen : l.length = l'.length := by simp at hb; omega
    repeat' (first | refine VJ.seq ?_ | refine VJ.skip ?_ | refine VJ.block ?_ | refine VJ.inBlock ?_ | refine VJ.exit rfl ?_ | refine VJ.cond_t rfl ?_ | refine VJ.cond_f rfl ?_ | refine VJ.region_k fun K hK => ?_ | (refine VR.done (hK _ ?_); clear hK K) | (first | refine VR.move rfl rfl ?_ | refine VR.assign rfl rfl ?_ | (show onLd; refine VR.load tok rfl rfl rfl (by first | rfl | exact (ldp_el (by assumption)).trans (by rfl)) ?_) | (show onIx; refine VR.indexAddr tok rfl rfl rfl rfl rfl rfl rfl (elA_lst (by assumption)) ?_) | refine VR.int rfl rfl rfl rfl ?_ | refine VR.len tok rfl rfl rfl rfl rfl ?_ | (refine VR.bin rfl rfl rfl (neqW _ _ _ _) ?_)))
    refine VJ.to 0 [(5, vI ((0 : Nat) : Int)), (1, vL 5 (l'.map Wl.v)), (0, vL 5 (l.map Wl.v))] [] ?_ rfl ⟨by rfl, by rfl, by rfl, trivial⟩ trivial (by rfl)
    refine VJ.rec (fun j : Nat => ⟨0, [(5, vI j), (1, vL 5 (l'.map Wl.v)), (0, vL 5 (l.map Wl.v))], [], _⟩) (fun j => l.length - j) (fun j => j ≤ l.length ∧ ∀ i (h : i < j) (h2 : i < l.length), l[i] = l'[i]'(hlen ▸ h2)) 0 ⟨Nat.zero_le _, fun i h => absurd h (Nat.not_lt_zero _)⟩ ?_
    rintro j ⟨hj, hi⟩ ih
    repeat' (first | refine VJ.seq ?_ | refine VJ.skip ?_ | refine VJ.block ?_ | refine VJ.inBlock ?_ | refine VJ.exit rfl ?_ | refine VJ.cond_t rfl ?_ | refine VJ.cond_f rfl ?_ | refine VJ.region_k fun K hK => ?_ | (refine VR.done (hK _ ?_); clear hK K) | (first | refine VR.move rfl rfl ?_ | refine VR.assign rfl rfl ?_ | (show onLd; refine VR.load tok rfl rfl rfl (by first | rfl | exact (ldp_el (by assumption)).trans (by rfl)) ?_) | (show onIx; refine VR.indexAddr tok rfl rfl rfl rfl rfl rfl rfl (elA_lst (by assumption)) ?_) | refine VR.int rfl rfl rfl rfl ?_ | refine VR.len tok rfl rfl rfl rfl rfl ?_ | (refine VR.bin rfl rfl rfl (neqW _ _ _ _) ?_)))
    refine VJ.cond rfl (fun hb2 => ?_) (fun hb2 => ?_)
    · have hlt : j < l.length := by simpa using hb2
      have hlt' : j < l'.length := by omega
      have hget := map_get_v hlt
      have hget' := map_get_v hlt'
      repeat' (first | refine VJ.seq ?_ | refine VJ.skip ?_ | refine VJ.block ?_ | refine VJ.inBlock ?_ | refine VJ.exit rfl ?_ | refine VJ.cond_t rfl ?_ | refine VJ.cond_f rfl ?_ | refine VJ.region_k fun K hK => ?_ | (refine VR.done (hK _ ?_); clear hK K) | (first | refine VR.move rfl rfl ?_ | refine VR.assign rfl rfl ?_ | (show onLd; refine VR.load tok rfl rfl rfl (by first | rfl | exact (ldp_el (by assumption)).trans (by rfl)) ?_) | (show onIx; refine VR.indexAddr tok rfl rfl rfl rfl rfl rfl rfl (elA_lst (by assumption)) ?_) | refine VR.int rfl rfl rfl rfl ?_ | refine VR.len tok rfl rfl rfl rfl rfl ?_ | (refine VR.bin rfl rfl rfl (neqW _ _ _ _) ?_)))
      apply VJ.draw3 [] [(0, 0), (1, 0), (2, 0), (3, 0), (4, 0), (5, 0), (6, 0), (7, 0), (8, 0)] [[(0, none)], [(5, none)], [(17, some 0), (18, some 1)], [(19, some 2)], [(1, none)], [(5, none)], [(21, some 4), (22, some 5)], [(23, some 6)], [(20, some 3), (24, some 7)]] [[(0, _)], [(5, _)], [(17, _), (18, _)], [(19, _)], [(1, _)], [(5, _)], [(21, _), (22, _)], [(23, _)], [(20, _), (24, _)]] [_, _, _, _, _, _, _, _, _] [⟨_, _, _⟩] (by kernel_rfl) ?hok rfl ?hh rfl rfl ?hj
      case hh =>
        refine ⟨?_, ?_, ?_, ?_, ?_, ?_, ?_, ?_, ?_, trivial⟩
        all_goals (intro rest K1 hK1; (repeat (first | exact VR.done hK1 | (first | refine VR.move rfl rfl ?_ | (show onLd; refine VR.load tok rfl rfl rfl (by first | rfl | exact (ldp_el (by assumption)).trans (by rfl)) ?_) | (show onIx; refine VR.indexAddr tok rfl rfl rfl rfl rfl rfl rfl (elA_lst (by assumption)) ?_) | refine VR.int rfl rfl rfl rfl ?_ | (refine VR.bin rfl rfl rfl (neqW _ _ _ _) ?_)))); try (first | exact VR.done hK1 | (refine VR.done ?_; dsimp only [S.set]; exact hK1)))
      case hok => kernel_rfl
      case hj =>
        dsimp only [tla]
        repeat' (first | refine VJ.seq ?_ | refine VJ.skip ?_ | refine VJ.block ?_ | refine VJ.inBlock ?_ | refine VJ.exit rfl ?_ | refine VJ.cond_t rfl ?_ | refine VJ.cond_f rfl ?_ | refine VJ.region_k fun K hK => ?_ | (refine VR.done (hK _ ?_); clear hK K) | (first | refine VR.move rfl rfl ?_ | refine VR.assign rfl rfl ?_ | (show onLd; refine VR.load tok rfl rfl rfl (by first | rfl | exact (ldp_el (by assumption)).trans (by rfl)) ?_) | (show onIx; refine VR.indexAddr tok rfl rfl rfl rfl rfl rfl rfl (elA_lst (by assumption)) ?_) | refine VR.int rfl rfl rfl rfl ?_ | refine VR.len tok rfl rfl rfl rfl rfl ?_ | (refine VR.bin rfl rfl rfl (neqW _ _ _ _) ?_)))
        refine VJ.cond rfl (fun hc => ?_) (fun hc => ?_)
        · repeat' (first | refine VJ.seq ?_ | refine VJ.skip ?_ | refine VJ.block ?_ | refine VJ.inBlock ?_ | refine VJ.exit rfl ?_ | refine VJ.cond_t rfl ?_ | refine VJ.cond_f rfl ?_ | refine VJ.region_k fun K hK => ?_ | (refine VR.done (hK _ ?_); clear hK K) | (first | refine VR.move rfl rfl ?_ | refine VR.assign rfl rfl ?_ | (show onLd; refine VR.load tok rfl rfl rfl (by first | rfl | exact (ldp_el (by assumption)).trans (by rfl)) ?_) | (show onIx; refine VR.indexAddr tok rfl rfl rfl rfl rfl rfl rfl (elA_lst (by assumption)) ?_) | refine VR.int rfl rfl rfl rfl ?_ | refine VR.len tok rfl rfl rfl rfl rfl ?_ | (refine VR.bin rfl rfl rfl (neqW _ _ _ _) ?_)))
          refine VJ.ret tok (by rfl) (by rfl) ?_
          have hne : ¬ l = l' := fun e => by subst e; simp at hc
          rw [decide_eq_false hne] at hQ
          exact hQ
        · have heq : l[j] = l'[j] := by simpa using hc
          repeat' (first | refine VJ.seq ?_ | refine VJ.skip ?_ | refine VJ.block ?_ | refine VJ.inBlock ?_ | refine VJ.exit rfl ?_ | refine VJ.cond_t rfl ?_ | refine VJ.cond_f rfl ?_ | refine VJ.region_k fun K hK => ?_ | (refine VR.done (hK _ ?_); clear hK K) | (first | refine VR.move rfl rfl ?_ | refine VR.assign rfl rfl ?_ | (show onLd; refine VR.load tok rfl rfl rfl (by first | rfl | exact (ldp_el (by assumption)).trans (by rfl)) ?_) | (show onIx; refine VR.indexAddr tok rfl rfl rfl rfl rfl rfl rfl (elA_lst (by assumption)) ?_) | refine VR.int rfl rfl rfl rfl ?_ | refine VR.len tok rfl rfl rfl rfl rfl ?_ | (refine VR.bin rfl rfl rfl (neqW _ _ _ _) ?_)))
          refine VJ.to 0 [(5, vI ((j + 1 : Nat) : Int)), (1, vL 5 (l'.map Wl.v)), (0, vL 5 (l.map Wl.v))] [] (ih (j + 1) ⟨hlt, fun i h h2 => ?_⟩ (by omega)) rfl ⟨vI_succ (by omega), by rfl, by rfl, trivial⟩ trivial (by rfl)
          rcases Nat.lt_succ_iff_lt_or_eq.1 h with h | h
          · exact hi i h h2
          · subst h; exact heq
    · have hge : j = l.length := by simp at hb2; omega
      subst hge
      repeat' (first | refine VJ.seq ?_ | refine VJ.skip ?_ | refine VJ.block ?_ | refine VJ.inBlock ?_ | refine VJ.exit rfl ?_ | refine VJ.cond_t rfl ?_ | refine VJ.cond_f rfl ?_ | refine VJ.region_k fun K hK => ?_ | (refine VR.done (hK _ ?_); clear hK K) | (first | refine VR.move rfl rfl ?_ | refine VR.assign rfl rfl ?_ | (show onLd; refine VR.load tok rfl rfl rfl (by first | rfl | exact (ldp_el (by assumption)).trans (by rfl)) ?_) | (show onIx; refine VR.indexAddr tok rfl rfl rfl rfl rfl rfl rfl (elA_lst (by assumption)) ?_) | refine VR.int rfl rfl rfl rfl ?_ | refine VR.len tok rfl rfl rfl rfl rfl ?_ | (refine VR.bin rfl rfl rfl (neqW _ _ _ _) ?_)))
      refine VJ.ret tok (by rfl) (by rfl) ?_
      rw [decide_eq_true (List.ext_getElem hlen fun i h1 h2 => hi i h1 h1)] at hQ
      exact hQ
