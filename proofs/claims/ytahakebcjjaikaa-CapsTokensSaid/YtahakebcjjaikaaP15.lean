/- New. Conditions: the lists are short enough for any machine. -/
import Derived.Test.YtahakebcjjaikaaP11
import Derived.Test.YtahakebcjjaikaaP14
import Derived.Test.YtahakebcjjaikaaL3
import Derived.Test.YtahakebcjjaikaaVB
namespace Go.Proofs.Ytahakebcjjaikaa
open Go.RowKit V
set_option linter.unusedVariables false
attribute [local irreducible] VR VJ VC

/-- May they be, and what tree are they? -/
def newOk (l : List Cap) (n : List (Pl × Int)) (p : List (Int × Int)) : Option Tr := match pcAll p [] with
  | none => none
  | some (_, tk) => if ctAll n tk && cpAll l tk (putAll [] n) && !(l.any fun c => !lineP (putCaps [] l) (putCaps [] l).length c) then some ⟨putCaps [] l, putAll [] n, tk⟩ else none

abbrev E0 : Gl := fun _ => none
abbrev bxT : VO := .box [.mp (.g 1), .mp (.g 2), .mp (.g 3)]
/-- A tree alone. -/
def GTz (t : Tr) (z : Option (Nat × Obj)) : Gl := gov [(0, bxT), (1, capV t.m z), (2, issV t.issued none), (3, tokV t.tokens none)] E0
abbrev GT (t : Tr) : Gl := GTz t none

theorem GTz_some {t : Tr} {z : Option (Nat × Obj)} {n : Nat} {o : VO} (h : GTz t z n = some o) : (n = 0 ∧ o = bxT) ∨ (n = 1 ∧ o = capV t.m z) ∨ (n = 2 ∧ o = issV t.issued none) ∨ (n = 3 ∧ o = tokV t.tokens none) := by
  simp only [GTz, gov, lk] at h
  by_cases h0 : n = 0
  · subst h0; simp at h; exact .inl ⟨rfl, h.symm⟩
  by_cases h1 : n = 1
  · subst h1; simp at h; exact .inr (.inl ⟨rfl, h.symm⟩)
  by_cases h2 : n = 2
  · subst h2; simp at h; exact .inr (.inr (.inl ⟨rfl, h.symm⟩))
  by_cases h3 : n = 3
  · subst h3; simp at h; exact .inr (.inr (.inr ⟨rfl, h.symm⟩))
  · simp [h0, h1, h2, h3] at h

theorem GTz_new {t : Tr} {z : Option (Nat × Obj)} {G0 : Gl} : ∀ n o, GTz t z n = some o → G0 n = some o ∨ ∀ m, o.says (.g m) → GTz t z m ≠ none := by
  intro n o h
  refine .inr fun m hm => ?_
  rcases GTz_some h with ⟨_, rfl⟩ | ⟨_, rfl⟩ | ⟨_, rfl⟩ | ⟨_, rfl⟩
  · obtain ⟨x, hx, hs⟩ := hm
    simp only [List.mem_cons, List.not_mem_nil, or_false] at hx
    rcases hx with rfl | rfl | rfl <;> (cases hs; simp [GTz, gov, lk])
  · exact hm.elim
  · exact hm.elim
  · exact hm.elim

theorem putCaps_len (l : List Cap) : ∀ m, (putCaps m l).length ≤ m.length + l.length := by
  induction l with
  | nil => intro m; simp [putCaps]
  | cons c l ih =>
    intro m
    have h1 : putCaps m (c :: l) = putCaps (Mp.put m c.of c) l := rfl
    have h2 := ih (Mp.put m c.of c)
    rw [h1, List.length_cons]
    rw [Mp.length_put] at h2
    split at h2 <;> omega

set_option maxHeartbeats 4000000 in
theorem v_new (l : List Cap) (n : List (Pl × Int)) (p : List (Int × Int)) (hl : l.length < 1000000) (hn : n.length < 1000000) (hp : p.length < 1000000) (Q : Po)
    (hQ1 : newOk l n p = none → Q (.tup [.d (.v (.pointer none)), .d (.v (.int .i64 2))]) E0) (hQ2 : ∀ t, newOk l n p = some t → Q (.tup [.ptr (.g 0) 0, .d (.v (.int .i64 0))]) (GT t)) :
    VC Try.prog 21 [vL 9 (l.map Cap.v), vL 3 (n.map isV), vL 2 (p.map pcV)] E0 Q := by
  refine VC.of_body Try.func21 rfl rfl rfl fun W0 h0 x0 hG0 => ?_
  simp only [args0]
  have hend : ∀ n o, E0 n = some o → False := fun n o e => by cases e
  repeat' (first | refine VJ.seq ?_ | refine VJ.skip ?_ | refine VJ.cond_t rfl ?_ | refine VJ.cond_f rfl ?_ | refine VJ.region_k fun K hK => ?_ | (refine VR.done (hK _ ?_); clear hK K) | (first | refine VR.move rfl rfl ?_ | refine VR.assign rfl rfl ?_ | (show onLd; refine VR.load tok rfl rfl rfl (by first | rfl | exact (ldp_el (by assumption)).trans (by rfl)) ?_) | (refine VR.pickB rfl rfl rfl rfl ?_ ?_ ?_; (first | exact trivial | (refine fun h => ?_; first | (rw [h]; rfl) | (rw [h, hg]; rfl) | (rw [hg, h]; rfl) | (simp [h, hg]; done))); (first | exact trivial | (refine fun h => ?_; first | (rw [h]; rfl) | (rw [h, hg]; rfl) | (rw [hg, h]; rfl) | (simp [h, hg]; done)))) | refine VR.pick rfl rfl rfl ?_ | refine VR.not rfl rfl ?_ | refine VR.g_yes rfl rfl (by first | rfl | assumption) ?_ | refine VR.g_no rfl rfl rfl (by first | rfl | assumption) ?_ | refine VR.box rfl rfl rfl ?_ | refine VR.alloc tok rfl rfl rfl ?_ | refine VR.store tok rfl rfl rfl rfl rfl rfl rfl (by first | (intro n e; cases e; done) | exact (fun _ _ q => all_glA (by rfl) q)) ?_ | refine VR.buildL (n := 2) [_, _, _] tok rfl rfl rfl rfl rfl rfl rfl rfl ?_ | refine VR.makeFunc rfl rfl ?_) | (refine' VR.spec (by rfl) (by rfl) (by rfl) ?_ ?_ ?_; rotate_left 1; (repeat (first | exact trivial | refine And.intro id ?_)); intro hg K1 hK1; (first | refine VR.move rfl rfl ?_ | (show onLd; refine VR.load tok rfl rfl rfl (by first | rfl | exact (ldp_el (by assumption)).trans (by rfl)) ?_) | refine VR.not rfl rfl ?_ | refine VR.makeFunc rfl rfl ?_); exact VR.done hK1))
  refine VR.makeMapG 1 rfl Nm.v Cap.v rfl ?_
  refine VR.makeMapG 2 rfl Pl.v (Value.int .i64) rfl ?_
  refine VR.makeMapG 3 rfl (Value.int .i64) (Value.int .i64) rfl ?_
  refine VR.buildSt (xs := [.tmp 9, .tmp 10, .tmp 11]) (n := 2) tok rfl rfl rfl rfl rfl rfl rfl rfl ?_
  refine VR.boxG 0 rfl rfl rfl rfl rfl ?_
  refine VR.allocG 10 rfl tok rfl rfl rfl rfl ?_
  first | refine VR.move rfl rfl ?_ | refine VR.assign rfl rfl ?_ | (show onLd; refine VR.load tok rfl rfl rfl (by first | rfl | exact (ldp_el (by assumption)).trans (by rfl)) ?_) | (refine VR.pickB rfl rfl rfl rfl ?_ ?_ ?_; (first | exact trivial | (refine fun h => ?_; first | (rw [h]; rfl) | (rw [h, hg]; rfl) | (rw [hg, h]; rfl) | (simp [h, hg]; done))); (first | exact trivial | (refine fun h => ?_; first | (rw [h]; rfl) | (rw [h, hg]; rfl) | (rw [hg, h]; rfl) | (simp [h, hg]; done)))) | refine VR.pick rfl rfl rfl ?_ | refine VR.not rfl rfl ?_ | refine VR.g_yes rfl rfl (by first | rfl | assumption) ?_ | refine VR.g_no rfl rfl rfl (by first | rfl | assumption) ?_ | refine VR.box rfl rfl rfl ?_ | refine VR.alloc tok rfl rfl rfl ?_ | refine VR.store tok rfl rfl rfl rfl rfl rfl rfl (by first | (intro n e; cases e; done) | exact (fun _ _ q => all_glA (by rfl) q)) ?_ | refine VR.buildL (n := 2) [_, _, _] tok rfl rfl rfl rfl rfl rfl rfl rfl ?_ | refine VR.makeFunc rfl rfl ?_
  refine VR.done (hK _ ?_); clear hK K
  refine VJ.toG 0 [(8, .a (.ptr (.g 10) 0)), (6, .a (.d (.v (.pointer none)))), (7, vI 0), (0, vL 9 (l.map Cap.v)), (1, vL 3 (n.map isV)), (2, vL 2 (p.map pcV))] [] (gov [(10, .box [.ptr (.g 0) 0]), (0, bxT), (1, capV [] none), (2, issV [] none), (3, tokV [] none)] E0) ?_ rfl (by repeat' (first | exact trivial | refine And.intro rfl ?_)) trivial (by rfl) ?_
  rotate_left
  · intro m
    by_cases h1 : m = 10
    · subst h1; rfl
    by_cases h2 : m = 0
    · subst h2; rfl
    by_cases h3 : m = 1
    · subst h3; rfl
    by_cases h4 : m = 2
    · subst h4; rfl
    by_cases h5 : m = 3
    · subst h5; rfl
    · simp [gov, lk, h1, h2, h3, h4, h5]
  cases hpc : pcAll p [] with
  | none =>
    repeat' (first | refine VJ.seq ?_ | refine VJ.skip ?_ | refine VJ.cond_t rfl ?_ | refine VJ.cond_f rfl ?_ | refine VJ.region_k fun K hK => ?_ | (refine VR.done (hK _ ?_); clear hK K) | (first | refine VR.move rfl rfl ?_ | refine VR.assign rfl rfl ?_ | (show onLd; refine VR.load tok rfl rfl rfl (by first | rfl | exact (ldp_el (by assumption)).trans (by rfl)) ?_) | (refine VR.pickB rfl rfl rfl rfl ?_ ?_ ?_; (first | exact trivial | (refine fun h => ?_; first | (rw [h]; rfl) | (rw [h, hg]; rfl) | (rw [hg, h]; rfl) | (simp [h, hg]; done))); (first | exact trivial | (refine fun h => ?_; first | (rw [h]; rfl) | (rw [h, hg]; rfl) | (rw [hg, h]; rfl) | (simp [h, hg]; done)))) | refine VR.pick rfl rfl rfl ?_ | refine VR.not rfl rfl ?_ | refine VR.g_yes rfl rfl (by first | rfl | assumption) ?_ | refine VR.g_no rfl rfl rfl (by first | rfl | assumption) ?_ | refine VR.box rfl rfl rfl ?_ | refine VR.alloc tok rfl rfl rfl ?_ | refine VR.store tok rfl rfl rfl rfl rfl rfl rfl (by first | (intro n e; cases e; done) | exact (fun _ _ q => all_glA (by rfl) q)) ?_ | refine VR.buildL (n := 2) [_, _, _] tok rfl rfl rfl rfl rfl rfl rfl rfl ?_ | refine VR.makeFunc rfl rfl ?_ | (refine VR.call fok39 rfl rfl rfl rfl ?_; refine v_parcels ⟨[], [], []⟩ p (by omega) _ (by rfl) [] none (by rfl) _ (fun _ m' => ?_) (fun a m' h => by rw [hpc] at h; cases h))) | (refine' VR.spec (by rfl) (by rfl) (by rfl) ?_ ?_ ?_; rotate_left 1; (repeat (first | exact trivial | refine And.intro id ?_)); intro hg K1 hK1; (first | refine VR.move rfl rfl ?_ | (show onLd; refine VR.load tok rfl rfl rfl (by first | rfl | exact (ldp_el (by assumption)).trans (by rfl)) ?_) | refine VR.not rfl rfl ?_ | refine VR.makeFunc rfl rfl ?_ | (refine VR.call fok39 rfl rfl rfl rfl ?_; refine v_parcels ⟨[], [], []⟩ p (by omega) _ (by rfl) [] none (by rfl) _ (fun _ m' => ?_) (fun a m' h => by rw [hpc] at h; cases h))); exact VR.done hK1))
    refine VJ.retF tok (by rfl) (by rfl) hG0 ?_ (by rfl) ?_
    · exact fun n o e => (hend n o e).elim
    · exact hQ1 (by unfold newOk; rw [hpc])
  | some r =>
    obtain ⟨a, tk⟩ := r
    cases hct : ctAll n tk with
    | false =>
      repeat' (first | refine VJ.seq ?_ | refine VJ.skip ?_ | refine VJ.cond_t rfl ?_ | refine VJ.cond_f rfl ?_ | refine VJ.region_k fun K hK => ?_ | (refine VR.done (hK _ ?_); clear hK K) | (first | refine VR.move rfl rfl ?_ | refine VR.assign rfl rfl ?_ | (show onLd; refine VR.load tok rfl rfl rfl (by first | rfl | exact (ldp_el (by assumption)).trans (by rfl)) ?_) | (refine VR.pickB rfl rfl rfl rfl ?_ ?_ ?_; (first | exact trivial | (refine fun h => ?_; first | (rw [h]; rfl) | (rw [h, hg]; rfl) | (rw [hg, h]; rfl) | (simp [h, hg]; done))); (first | exact trivial | (refine fun h => ?_; first | (rw [h]; rfl) | (rw [h, hg]; rfl) | (rw [hg, h]; rfl) | (simp [h, hg]; done)))) | refine VR.pick rfl rfl rfl ?_ | refine VR.not rfl rfl ?_ | refine VR.g_yes rfl rfl (by first | rfl | assumption) ?_ | refine VR.g_no rfl rfl rfl (by first | rfl | assumption) ?_ | refine VR.box rfl rfl rfl ?_ | refine VR.alloc tok rfl rfl rfl ?_ | refine VR.store tok rfl rfl rfl rfl rfl rfl rfl (by first | (intro n e; cases e; done) | exact (fun _ _ q => all_glA (by rfl) q)) ?_ | refine VR.buildL (n := 2) [_, _, _] tok rfl rfl rfl rfl rfl rfl rfl rfl ?_ | refine VR.makeFunc rfl rfl ?_ | (refine VR.call fok39 rfl rfl rfl rfl ?_; refine v_parcels ⟨[], [], []⟩ p (by omega) _ (by rfl) [] none (by rfl) _ (fun h => by rw [hpc] at h; cases h) (fun a m' h => ?_); rw [hpc] at h; cases h) | (refine VR.call fok40 rfl rfl rfl rfl ?_; refine v_counts n (by omega) _ (by rfl) tk none (by rfl) [] none (by rfl) _ (fun _ m' => ?_) (fun h => by rw [hct] at h; cases h))) | (refine' VR.spec (by rfl) (by rfl) (by rfl) ?_ ?_ ?_; rotate_left 1; (repeat (first | exact trivial | refine And.intro id ?_)); intro hg K1 hK1; (first | refine VR.move rfl rfl ?_ | (show onLd; refine VR.load tok rfl rfl rfl (by first | rfl | exact (ldp_el (by assumption)).trans (by rfl)) ?_) | refine VR.not rfl rfl ?_ | refine VR.makeFunc rfl rfl ?_ | (refine VR.call fok39 rfl rfl rfl rfl ?_; refine v_parcels ⟨[], [], []⟩ p (by omega) _ (by rfl) [] none (by rfl) _ (fun h => by rw [hpc] at h; cases h) (fun a m' h => ?_); rw [hpc] at h; cases h) | (refine VR.call fok40 rfl rfl rfl rfl ?_; refine v_counts n (by omega) _ (by rfl) tk none (by rfl) [] none (by rfl) _ (fun _ m' => ?_) (fun h => by rw [hct] at h; cases h))); exact VR.done hK1))
      refine VJ.retF tok (by rfl) (by rfl) hG0 ?_ (by rfl) ?_
      · exact fun n o e => (hend n o e).elim
      · exact hQ1 (by unfold newOk; rw [hpc]; simp [hct])
    | true =>
      cases hcp : cpAll l tk (putAll [] n) with
      | false =>
        repeat' (first | refine VJ.seq ?_ | refine VJ.skip ?_ | refine VJ.cond_t rfl ?_ | refine VJ.cond_f rfl ?_ | refine VJ.region_k fun K hK => ?_ | (refine VR.done (hK _ ?_); clear hK K) | (first | refine VR.move rfl rfl ?_ | refine VR.assign rfl rfl ?_ | (show onLd; refine VR.load tok rfl rfl rfl (by first | rfl | exact (ldp_el (by assumption)).trans (by rfl)) ?_) | (refine VR.pickB rfl rfl rfl rfl ?_ ?_ ?_; (first | exact trivial | (refine fun h => ?_; first | (rw [h]; rfl) | (rw [h, hg]; rfl) | (rw [hg, h]; rfl) | (simp [h, hg]; done))); (first | exact trivial | (refine fun h => ?_; first | (rw [h]; rfl) | (rw [h, hg]; rfl) | (rw [hg, h]; rfl) | (simp [h, hg]; done)))) | refine VR.pick rfl rfl rfl ?_ | refine VR.not rfl rfl ?_ | refine VR.g_yes rfl rfl (by first | rfl | assumption) ?_ | refine VR.g_no rfl rfl rfl (by first | rfl | assumption) ?_ | refine VR.box rfl rfl rfl ?_ | refine VR.alloc tok rfl rfl rfl ?_ | refine VR.store tok rfl rfl rfl rfl rfl rfl rfl (by first | (intro n e; cases e; done) | exact (fun _ _ q => all_glA (by rfl) q)) ?_ | refine VR.buildL (n := 2) [_, _, _] tok rfl rfl rfl rfl rfl rfl rfl rfl ?_ | refine VR.makeFunc rfl rfl ?_ | (refine VR.call fok39 rfl rfl rfl rfl ?_; refine v_parcels ⟨[], [], []⟩ p (by omega) _ (by rfl) [] none (by rfl) _ (fun h => by rw [hpc] at h; cases h) (fun a m' h => ?_); rw [hpc] at h; cases h) | (refine VR.call fok40 rfl rfl rfl rfl ?_; refine v_counts n (by omega) _ (by rfl) tk none (by rfl) [] none (by rfl) _ (fun h => by rw [hct] at h; cases h) (fun _ => ?_)) | (refine VR.call fok41 rfl rfl rfl rfl ?_; refine v_caps l (by omega) _ (by rfl) tk none (by rfl) (putAll [] n) none (by rfl) [] none (by rfl) _ (fun _ m' => ?_) (fun h => by rw [hcp] at h; cases h))) | (refine' VR.spec (by rfl) (by rfl) (by rfl) ?_ ?_ ?_; rotate_left 1; (repeat (first | exact trivial | refine And.intro id ?_)); intro hg K1 hK1; (first | refine VR.move rfl rfl ?_ | (show onLd; refine VR.load tok rfl rfl rfl (by first | rfl | exact (ldp_el (by assumption)).trans (by rfl)) ?_) | refine VR.not rfl rfl ?_ | refine VR.makeFunc rfl rfl ?_ | (refine VR.call fok39 rfl rfl rfl rfl ?_; refine v_parcels ⟨[], [], []⟩ p (by omega) _ (by rfl) [] none (by rfl) _ (fun h => by rw [hpc] at h; cases h) (fun a m' h => ?_); rw [hpc] at h; cases h) | (refine VR.call fok40 rfl rfl rfl rfl ?_; refine v_counts n (by omega) _ (by rfl) tk none (by rfl) [] none (by rfl) _ (fun h => by rw [hct] at h; cases h) (fun _ => ?_)) | (refine VR.call fok41 rfl rfl rfl rfl ?_; refine v_caps l (by omega) _ (by rfl) tk none (by rfl) (putAll [] n) none (by rfl) [] none (by rfl) _ (fun _ m' => ?_) (fun h => by rw [hcp] at h; cases h))); exact VR.done hK1))
        refine VJ.retF tok (by rfl) (by rfl) hG0 ?_ (by rfl) ?_
        · exact fun n o e => (hend n o e).elim
        · exact hQ1 (by unfold newOk; rw [hpc]; simp [hct, hcp])
      | true =>
        have hpl := putCaps_len l []
        repeat' (first | refine VJ.seq ?_ | refine VJ.skip ?_ | refine VJ.cond_t rfl ?_ | refine VJ.cond_f rfl ?_ | refine VJ.region_k fun K hK => ?_ | (refine VR.done (hK _ ?_); clear hK K) | (first | refine VR.move rfl rfl ?_ | refine VR.assign rfl rfl ?_ | (show onLd; refine VR.load tok rfl rfl rfl (by first | rfl | exact (ldp_el (by assumption)).trans (by rfl)) ?_) | (refine VR.pickB rfl rfl rfl rfl ?_ ?_ ?_; (first | exact trivial | (refine fun h => ?_; first | (rw [h]; rfl) | (rw [h, hg]; rfl) | (rw [hg, h]; rfl) | (simp [h, hg]; done))); (first | exact trivial | (refine fun h => ?_; first | (rw [h]; rfl) | (rw [h, hg]; rfl) | (rw [hg, h]; rfl) | (simp [h, hg]; done)))) | refine VR.pick rfl rfl rfl ?_ | refine VR.not rfl rfl ?_ | refine VR.g_yes rfl rfl (by first | rfl | assumption) ?_ | refine VR.g_no rfl rfl rfl (by first | rfl | assumption) ?_ | refine VR.box rfl rfl rfl ?_ | refine VR.alloc tok rfl rfl rfl ?_ | refine VR.store tok rfl rfl rfl rfl rfl rfl rfl (by first | (intro n e; cases e; done) | exact (fun _ _ q => all_glA (by rfl) q)) ?_ | refine VR.buildL (n := 2) [_, _, _] tok rfl rfl rfl rfl rfl rfl rfl rfl ?_ | refine VR.makeFunc rfl rfl ?_ | (refine VR.call fok39 rfl rfl rfl rfl ?_; refine v_parcels ⟨[], [], []⟩ p (by omega) _ (by rfl) [] none (by rfl) _ (fun h => by rw [hpc] at h; cases h) (fun a m' h => ?_); rw [hpc] at h; cases h) | (refine VR.call fok40 rfl rfl rfl rfl ?_; refine v_counts n (by omega) _ (by rfl) tk none (by rfl) [] none (by rfl) _ (fun h => by rw [hct] at h; cases h) (fun _ => ?_)) | (refine VR.call fok41 rfl rfl rfl rfl ?_; refine v_caps l (by omega) _ (by rfl) tk none (by rfl) (putAll [] n) none (by rfl) [] none (by rfl) _ (fun h => by rw [hcp] at h; cases h) (fun _ => ?_)) | (refine VR.call fok42 rfl rfl rfl rfl ?_; refine v_contains l (by omega) _ 43 [.ptr (.g 10) 0] fok43 rfl (fun c => !lineP (putCaps [] l) (putCaps [] l).length c) (fun c Q h => v_new1 ⟨putCaps [] l, putAll [] n, tk⟩ (by simp at hpl; show (putCaps [] l).length < _; omega) c _ (by rfl) none (by rfl) (by rfl) Q h) _ ?_)) | (refine' VR.spec (by rfl) (by rfl) (by rfl) ?_ ?_ ?_; rotate_left 1; (repeat (first | exact trivial | refine And.intro id ?_)); intro hg K1 hK1; (first | refine VR.move rfl rfl ?_ | (show onLd; refine VR.load tok rfl rfl rfl (by first | rfl | exact (ldp_el (by assumption)).trans (by rfl)) ?_) | refine VR.not rfl rfl ?_ | refine VR.makeFunc rfl rfl ?_ | (refine VR.call fok39 rfl rfl rfl rfl ?_; refine v_parcels ⟨[], [], []⟩ p (by omega) _ (by rfl) [] none (by rfl) _ (fun h => by rw [hpc] at h; cases h) (fun a m' h => ?_); rw [hpc] at h; cases h) | (refine VR.call fok40 rfl rfl rfl rfl ?_; refine v_counts n (by omega) _ (by rfl) tk none (by rfl) [] none (by rfl) _ (fun h => by rw [hct] at h; cases h) (fun _ => ?_)) | (refine VR.call fok41 rfl rfl rfl rfl ?_; refine v_caps l (by omega) _ (by rfl) tk none (by rfl) (putAll [] n) none (by rfl) [] none (by rfl) _ (fun h => by rw [hcp] at h; cases h) (fun _ => ?_)) | (refine VR.call fok42 rfl rfl rfl rfl ?_; refine v_contains l (by omega) _ 43 [.ptr (.g 10) 0] fok43 rfl (fun c => !lineP (putCaps [] l) (putCaps [] l).length c) (fun c Q h => v_new1 ⟨putCaps [] l, putAll [] n, tk⟩ (by simp at hpl; show (putCaps [] l).length < _; omega) c _ (by rfl) none (by rfl) (by rfl) Q h) _ ?_)); exact VR.done hK1))
        refine VJ.cond rfl (fun hc => ?_) (fun hc => ?_)
        · repeat' (first | refine VJ.seq ?_ | refine VJ.skip ?_ | refine VJ.cond_t rfl ?_ | refine VJ.cond_f rfl ?_ | refine VJ.region_k fun K hK => ?_ | (refine VR.done (hK _ ?_); clear hK K) | (first | refine VR.move rfl rfl ?_ | refine VR.assign rfl rfl ?_ | (show onLd; refine VR.load tok rfl rfl rfl (by first | rfl | exact (ldp_el (by assumption)).trans (by rfl)) ?_) | (refine VR.pickB rfl rfl rfl rfl ?_ ?_ ?_; (first | exact trivial | (refine fun h => ?_; first | (rw [h]; rfl) | (rw [h, hg]; rfl) | (rw [hg, h]; rfl) | (simp [h, hg]; done))); (first | exact trivial | (refine fun h => ?_; first | (rw [h]; rfl) | (rw [h, hg]; rfl) | (rw [hg, h]; rfl) | (simp [h, hg]; done)))) | refine VR.pick rfl rfl rfl ?_ | refine VR.not rfl rfl ?_ | refine VR.g_yes rfl rfl (by first | rfl | assumption) ?_ | refine VR.g_no rfl rfl rfl (by first | rfl | assumption) ?_ | refine VR.box rfl rfl rfl ?_ | refine VR.alloc tok rfl rfl rfl ?_ | refine VR.store tok rfl rfl rfl rfl rfl rfl rfl (by first | (intro n e; cases e; done) | exact (fun _ _ q => all_glA (by rfl) q)) ?_ | refine VR.buildL (n := 2) [_, _, _] tok rfl rfl rfl rfl rfl rfl rfl rfl ?_ | refine VR.makeFunc rfl rfl ?_ | (refine VR.call fok39 rfl rfl rfl rfl ?_; refine v_parcels ⟨[], [], []⟩ p (by omega) _ (by rfl) [] none (by rfl) _ (fun h => by rw [hpc] at h; cases h) (fun a m' h => ?_); rw [hpc] at h; cases h) | (refine VR.call fok40 rfl rfl rfl rfl ?_; refine v_counts n (by omega) _ (by rfl) tk none (by rfl) [] none (by rfl) _ (fun h => by rw [hct] at h; cases h) (fun _ => ?_)) | (refine VR.call fok41 rfl rfl rfl rfl ?_; refine v_caps l (by omega) _ (by rfl) tk none (by rfl) (putAll [] n) none (by rfl) [] none (by rfl) _ (fun h => by rw [hcp] at h; cases h) (fun _ => ?_)) | (refine VR.call fok42 rfl rfl rfl rfl ?_; refine v_contains l (by omega) _ 43 [.ptr (.g 10) 0] fok43 rfl (fun c => !lineP (putCaps [] l) (putCaps [] l).length c) (fun c Q h => v_new1 ⟨putCaps [] l, putAll [] n, tk⟩ (by simp at hpl; show (putCaps [] l).length < _; omega) c _ (by rfl) none (by rfl) (by rfl) Q h) _ ?_)) | (refine' VR.spec (by rfl) (by rfl) (by rfl) ?_ ?_ ?_; rotate_left 1; (repeat (first | exact trivial | refine And.intro id ?_)); intro hg K1 hK1; (first | refine VR.move rfl rfl ?_ | (show onLd; refine VR.load tok rfl rfl rfl (by first | rfl | exact (ldp_el (by assumption)).trans (by rfl)) ?_) | refine VR.not rfl rfl ?_ | refine VR.makeFunc rfl rfl ?_ | (refine VR.call fok39 rfl rfl rfl rfl ?_; refine v_parcels ⟨[], [], []⟩ p (by omega) _ (by rfl) [] none (by rfl) _ (fun h => by rw [hpc] at h; cases h) (fun a m' h => ?_); rw [hpc] at h; cases h) | (refine VR.call fok40 rfl rfl rfl rfl ?_; refine v_counts n (by omega) _ (by rfl) tk none (by rfl) [] none (by rfl) _ (fun h => by rw [hct] at h; cases h) (fun _ => ?_)) | (refine VR.call fok41 rfl rfl rfl rfl ?_; refine v_caps l (by omega) _ (by rfl) tk none (by rfl) (putAll [] n) none (by rfl) [] none (by rfl) _ (fun h => by rw [hcp] at h; cases h) (fun _ => ?_)) | (refine VR.call fok42 rfl rfl rfl rfl ?_; refine v_contains l (by omega) _ 43 [.ptr (.g 10) 0] fok43 rfl (fun c => !lineP (putCaps [] l) (putCaps [] l).length c) (fun c Q h => v_new1 ⟨putCaps [] l, putAll [] n, tk⟩ (by simp at hpl; show (putCaps [] l).length < _; omega) c _ (by rfl) none (by rfl) (by rfl) Q h) _ ?_)); exact VR.done hK1))
          refine VJ.retF tok (by rfl) (by rfl) hG0 ?_ (by rfl) ?_
          · exact fun n o e => (hend n o e).elim
          · exact hQ1 (by
            have hc' : (l.any fun c => !lineP (putCaps [] l) (putCaps [] l).length c) = true := hc
            unfold newOk; rw [hpc]; simp only [hct, hcp, hc']; rfl)
        · repeat' (first | refine VJ.seq ?_ | refine VJ.skip ?_ | refine VJ.cond_t rfl ?_ | refine VJ.cond_f rfl ?_ | refine VJ.region_k fun K hK => ?_ | (refine VR.done (hK _ ?_); clear hK K) | (first | refine VR.move rfl rfl ?_ | refine VR.assign rfl rfl ?_ | (show onLd; refine VR.load tok rfl rfl rfl (by first | rfl | exact (ldp_el (by assumption)).trans (by rfl)) ?_) | (refine VR.pickB rfl rfl rfl rfl ?_ ?_ ?_; (first | exact trivial | (refine fun h => ?_; first | (rw [h]; rfl) | (rw [h, hg]; rfl) | (rw [hg, h]; rfl) | (simp [h, hg]; done))); (first | exact trivial | (refine fun h => ?_; first | (rw [h]; rfl) | (rw [h, hg]; rfl) | (rw [hg, h]; rfl) | (simp [h, hg]; done)))) | refine VR.pick rfl rfl rfl ?_ | refine VR.not rfl rfl ?_ | refine VR.g_yes rfl rfl (by first | rfl | assumption) ?_ | refine VR.g_no rfl rfl rfl (by first | rfl | assumption) ?_ | refine VR.box rfl rfl rfl ?_ | refine VR.alloc tok rfl rfl rfl ?_ | refine VR.store tok rfl rfl rfl rfl rfl rfl rfl (by first | (intro n e; cases e; done) | exact (fun _ _ q => all_glA (by rfl) q)) ?_ | refine VR.buildL (n := 2) [_, _, _] tok rfl rfl rfl rfl rfl rfl rfl rfl ?_ | refine VR.makeFunc rfl rfl ?_ | (refine VR.call fok39 rfl rfl rfl rfl ?_; refine v_parcels ⟨[], [], []⟩ p (by omega) _ (by rfl) [] none (by rfl) _ (fun h => by rw [hpc] at h; cases h) (fun a m' h => ?_); rw [hpc] at h; cases h) | (refine VR.call fok40 rfl rfl rfl rfl ?_; refine v_counts n (by omega) _ (by rfl) tk none (by rfl) [] none (by rfl) _ (fun h => by rw [hct] at h; cases h) (fun _ => ?_)) | (refine VR.call fok41 rfl rfl rfl rfl ?_; refine v_caps l (by omega) _ (by rfl) tk none (by rfl) (putAll [] n) none (by rfl) [] none (by rfl) _ (fun h => by rw [hcp] at h; cases h) (fun _ => ?_)) | (refine VR.call fok42 rfl rfl rfl rfl ?_; refine v_contains l (by omega) _ 43 [.ptr (.g 10) 0] fok43 rfl (fun c => !lineP (putCaps [] l) (putCaps [] l).length c) (fun c Q h => v_new1 ⟨putCaps [] l, putAll [] n, tk⟩ (by simp at hpl; show (putCaps [] l).length < _; omega) c _ (by rfl) none (by rfl) (by rfl) Q h) _ ?_)) | (refine' VR.spec (by rfl) (by rfl) (by rfl) ?_ ?_ ?_; rotate_left 1; (repeat (first | exact trivial | refine And.intro id ?_)); intro hg K1 hK1; (first | refine VR.move rfl rfl ?_ | (show onLd; refine VR.load tok rfl rfl rfl (by first | rfl | exact (ldp_el (by assumption)).trans (by rfl)) ?_) | refine VR.not rfl rfl ?_ | refine VR.makeFunc rfl rfl ?_ | (refine VR.call fok39 rfl rfl rfl rfl ?_; refine v_parcels ⟨[], [], []⟩ p (by omega) _ (by rfl) [] none (by rfl) _ (fun h => by rw [hpc] at h; cases h) (fun a m' h => ?_); rw [hpc] at h; cases h) | (refine VR.call fok40 rfl rfl rfl rfl ?_; refine v_counts n (by omega) _ (by rfl) tk none (by rfl) [] none (by rfl) _ (fun h => by rw [hct] at h; cases h) (fun _ => ?_)) | (refine VR.call fok41 rfl rfl rfl rfl ?_; refine v_caps l (by omega) _ (by rfl) tk none (by rfl) (putAll [] n) none (by rfl) [] none (by rfl) _ (fun h => by rw [hcp] at h; cases h) (fun _ => ?_)) | (refine VR.call fok42 rfl rfl rfl rfl ?_; refine v_contains l (by omega) _ 43 [.ptr (.g 10) 0] fok43 rfl (fun c => !lineP (putCaps [] l) (putCaps [] l).length c) (fun c Q h => v_new1 ⟨putCaps [] l, putAll [] n, tk⟩ (by simp at hpl; show (putCaps [] l).length < _; omega) c _ (by rfl) none (by rfl) (by rfl) Q h) _ ?_)); exact VR.done hK1))
          have hok : newOk l n p = some ⟨putCaps [] l, putAll [] n, tk⟩ := by
            have hc' : (l.any fun c => !lineP (putCaps [] l) (putCaps [] l).length c) = false := hc
            unfold newOk; rw [hpc]; simp only [hct, hcp, hc']; rfl
          refine VJ.retX (GT ⟨putCaps [] l, putAll [] n, tk⟩) tok (by rfl) (by rfl) hG0 (fun n h => absurd rfl h) GTz_new ?_ ?_ (hQ2 _ hok)
          · intro n o h
            rcases GTz_some h with ⟨rfl, rfl⟩ | ⟨rfl, rfl⟩ | ⟨rfl, rfl⟩ | ⟨rfl, rfl⟩ <;> rfl
          · intro m hm
            have : m = 0 := by
              obtain ⟨x, hx, hs⟩ := hm
              simp only [List.mem_cons, List.not_mem_nil, or_false] at hx
              rcases hx with rfl | rfl
              · cases hs; rfl
              · exact hs.elim
            subst this
            simp [GTz, gov, lk]

/-! ### Trees alone -/
theorem GTz_tree {t : Tr} {q : Nat × Obj} : TreeG (GTz t (some q)) t := ⟨rfl, ⟨_, rfl⟩, ⟨_, rfl⟩, ⟨_, rfl⟩⟩
theorem GTz_free {t : Tr} {z : Option (Nat × Obj)} {a b : Nat} (h : 4 ≤ a) : Free a b (GTz t z) := by
  intro m h1 h2
  cases e : GTz t z m with
  | none => rfl
  | some o => rcases GTz_some e with ⟨rfl, _⟩ | ⟨rfl, _⟩ | ⟨rfl, _⟩ | ⟨rfl, _⟩ <;> omega
theorem GTz_put (t : Tr) (z z' : Option (Nat × Obj)) : (fun n => if n = 1 then some (capV t.m z') else GTz t z n) = GTz t z' := by
  funext n
  by_cases h0 : n = 0
  · subst h0; rfl
  by_cases h1 : n = 1
  · subst h1; rfl
  by_cases h2 : n = 2
  · subst h2; rfl
  by_cases h3 : n = 3
  · subst h3; rfl
  · simp [GTz, gov, lk, h0, h1, h2, h3]
theorem GTz_gset1 (t : Tr) (z : Option (Nat × Obj)) (m : List (Nm × Cap)) : gset (GTz t z) 1 (capV m none) = GTz ⟨m, t.issued, t.tokens⟩ none := by
  funext n
  by_cases h0 : n = 0
  · subst h0; rfl
  by_cases h1 : n = 1
  · subst h1; rfl
  by_cases h2 : n = 2
  · subst h2; rfl
  by_cases h3 : n = 3
  · subst h3; rfl
  · simp [GTz, gset, gov, lk, h0, h1, h2, h3]
theorem GTz_gset2 (t : Tr) (z : Option (Nat × Obj)) (i : List (Pl × Int)) (m : List (Nm × Cap)) : gset (gset (GTz t z) 2 (issV i none)) 1 (capV m none) = GTz ⟨m, i, t.tokens⟩ none := by
  funext n
  by_cases h0 : n = 0
  · subst h0; rfl
  by_cases h1 : n = 1
  · subst h1; rfl
  by_cases h2 : n = 2
  · subst h2; rfl
  by_cases h3 : n = 3
  · subst h3; rfl
  · simp [GTz, gset, gov, lk, h0, h1, h2, h3]

section
variable {E : Env} {fn : Func} {R : Ending → World → Prop} {k : List Item} {c : Nat} {t0 : List (Nat × AV)} {L : List (Nat × VO)}
theorem pinT (t : Tr) (H : ∀ q, VJ Try.prog E fn R k ⟨c, t0, L, GTz t (some q)⟩) : VJ Try.prog E fn R k ⟨c, t0, L, GTz t none⟩ := by
  refine VJ.pin (.g 1) (show S.obj ⟨c, t0, L, GTz t none⟩ (.g 1) = some (capV t.m none) from rfl) fun zz => ?_
  have := H zz
  rw [← GTz_put t none (some zz)] at this
  exact this
theorem unpinT (t : Tr) (q : Nat × Obj) (H : VJ Try.prog E fn R k ⟨c, t0, L, GTz t none⟩) : VJ Try.prog E fn R k ⟨c, t0, L, GTz t (some q)⟩ := by
  refine VJ.unpin (.g 1) (show S.obj ⟨c, t0, L, GTz t (some q)⟩ (.g 1) = some (capV t.m (some q)) from rfl) ?_
  rw [← GTz_put t (some q) none] at H
  exact H
end

theorem issT_tokens (t : Tr) (b : Int) (par c : Cap) (now : Int) : (issT t b par c now).tokens = t.tokens := by
  unfold issT; split <;> rfl

theorem v_issueT (t : Tr) (b : Int) (par c : Cap) (now : Int) (q : Nat × Obj) (Q : Po)
    (hQ1 : issE t b par c now ≠ 0 → Q (.tup [.d (.v (.int .i64 0)), .d (.v (.int .i64 (issE t b par c now)))]) (GTz t (some q)))
    (hQ2 : issE t b par c now = 0 → Q (.tup [.d (.v (.int .i64 (t.num ⟨par.parcel, b⟩))), .d (.v (.int .i64 0))]) (GTz (issT t b par c now) none)) :
    VC Try.prog 22 [vT, vI b, vV par.v, vV c.v, vI now] (GTz t (some q)) Q := by
  refine v_issue t b par c now _ GTz_tree Q hQ1 fun h => ?_
  have := hQ2 h
  rw [show issT t b par c now = ⟨(issT t b par c now).m, (issT t b par c now).issued, t.tokens⟩ by rw [← issT_tokens t b par c now]] at this
  rw [GTz_gset2]
  exact this

theorem v_revokeT (t : Tr) (ok : TrOk t) (N : Nat) (he : t.ends N) (b : Int) (x : Nm) (q : Nat × Obj) (Q : Po)
    (hQ1 : t.may N b x = false → Q (.tup [.d (.v (.slice none 0 0)), .d (.v (.int .i64 1))]) (GTz t (some q)))
    (hQ2 : t.may N b x = true → Q (.tup [.d (.lst 9 ((those t (t.under N x)).map Cap.v)), .d (.v (.int .i64 0))]) (GTz (t.less (those t (t.under N x))) none)) :
    VC Try.prog 17 [vT, vI b, vI x.parcel, vI x.issuer, vI x.n] (GTz t (some q)) Q := by
  refine v_revoke t ok N he b x _ GTz_tree (GTz_free (by decide)) Q hQ1 fun h => ?_
  have := hQ2 h
  rw [GTz_gset1]
  exact this
