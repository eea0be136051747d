/- Trees that were grown of one root. Conditions: each lemma's own. -/
import Derived.Test.YtahakebcjjaikaaL2
namespace Go.Proofs.Ytahakebcjjaikaa
open Go.RowKit V
set_option linter.unusedVariables false

structure Gr (t : Tr) : Prop extends Inv t where
  one : ∀ p ∈ t.m, p.2.parcel = 1
  til : ∀ p ∈ t.m, p.2.until_ ≤ 100
  lab : ∀ p ∈ t.m, 1 ≤ p.2.rights ∧ p.2.rights ≤ 15
  some_ : 0 < t.m.length

theorem narrower_until {c p : Cap} (h : c.narrower p = true) : c.until_ ≤ p.until_ := by
  simp only [Cap.narrower, Bool.and_eq_true, decide_eq_true_eq] at h
  exact h.1.1.1.2
theorem narrower_parcel {c p : Cap} (h : c.narrower p = true) : c.parcel = p.parcel := by
  simp only [Cap.narrower, Bool.and_eq_true, decide_eq_true_eq] at h
  exact h.1.1.1.1.1
theorem narrower_rights {c p : Cap} (h : c.narrower p = true) : rwithinB c.rights p.rights = true := by
  simp only [Cap.narrower, Bool.and_eq_true, decide_eq_true_eq] at h
  exact h.1.1.1.1.2
theorem narrower_label {c p : Cap} (h : c.narrower p = true) : c.label = p.label ∨ p.label = 0 := by
  simp only [Cap.narrower, Bool.and_eq_true, Bool.or_eq_true, decide_eq_true_eq] at h
  exact h.1.1.2
theorem rwithin_and {r o : Int} (h : rwithinB r o = true) : bits .andNot .i64 r o = 0 := by
  simp only [rwithinB, Bool.and_eq_true, beq_iff_eq] at h
  exact h.2
theorem asked_rights {c : Cap} (h : c.asked = true) : 1 ≤ c.rights ∧ c.rights ≤ 15 := by
  simp only [Cap.asked, validB, Bool.and_eq_true, decide_eq_true_eq] at h
  exact h.1.2

theorem Gr.issue {t : Tr} (h : Gr t) (b : Int) (par c : Cap) (now : Int) : Gr (issT t b par c now) := by
  have hi := h.toInv.issue b par c now
  unfold issT at hi ⊢
  split at hi
  · rename_i h0
    rw [if_pos h0]
    obtain ⟨g1, g2, g3, g4, g5, g6, g7, g8⟩ := issE_ok h0
    have hpm := Mp.get_mem g1
    have hput := Mp.put_none (v := c.made par b (t.num ⟨par.parcel, b⟩)) (h.toInv.fresh c par b)
    have hmem : ∀ p, p ∈ Mp.put t.m (c.made par b (t.num ⟨par.parcel, b⟩)).of (c.made par b (t.num ⟨par.parcel, b⟩)) → p ∈ t.m ∨ p = ((c.made par b (t.num ⟨par.parcel, b⟩)).of, c.made par b (t.num ⟨par.parcel, b⟩)) := by
      intro p hp
      rw [hput] at hp
      simpa using hp
    refine ⟨hi, ?_, ?_, ?_, ?_⟩
    · intro p hp
      rcases hmem p hp with hp | rfl
      · exact h.one p hp
      · exact h.one (par.of, par) hpm
    · intro p hp
      rcases hmem p hp with hp | rfl
      · exact h.til p hp
      · exact Int.le_trans (narrower_until g6) (h.til _ hpm)
    · intro p hp
      rcases hmem p hp with hp | rfl
      · exact h.lab p hp
      · exact asked_rights g5
    · show 0 < (Mp.put _ _ _).length
      rw [hput]; simp
  · rename_i h0
    rw [if_neg h0]; exact h

def root0 : Cap := ⟨1, 0, 0, 0, 0, 15, 100, -1, 0⟩
def T0 : Tr := ⟨[(root0.of, root0)], [(⟨1, 0⟩, 1)], [(1, 16)]⟩
theorem Gr.T0 : Gr T0 where
  keys := by intro p hp; simp [Ytahakebcjjaikaa.T0] at hp; subst hp; rfl
  nd := by simp [Ytahakebcjjaikaa.T0]
  num := by intro p hp; simp [Ytahakebcjjaikaa.T0] at hp; subst hp; decide
  iss := by intro p hp; simp [Ytahakebcjjaikaa.T0] at hp; subst hp; decide
  par := by intro p hp; simp [Ytahakebcjjaikaa.T0] at hp; subst hp; exact .inl ⟨rfl, rfl, rfl⟩
  en := by
    intro p hp; simp [Ytahakebcjjaikaa.T0] at hp; subst hp
    intro q hq
    have : Mp.get Ytahakebcjjaikaa.T0.m root0.from_ = none := by decide
    rw [this] at hq; cases hq
  nn := by
    intro x
    simp only [Tr.num, Ytahakebcjjaikaa.T0, Mp.get]
    split <;> simp
  tk := by
    intro x
    simp only [Tr.tok, Ytahakebcjjaikaa.T0, Mp.get]
    split <;> simp
  one := by intro p hp; simp [Ytahakebcjjaikaa.T0] at hp; subst hp; rfl
  til := by intro p hp; simp [Ytahakebcjjaikaa.T0] at hp; subst hp; decide
  lab := by intro p hp; simp [Ytahakebcjjaikaa.T0] at hp; subst hp; decide
  some_ := by decide

theorem all_length {t : Tr} : (those t fun _ => true).length = t.m.length := by
  unfold those
  rw [(sortC_perm _).length_eq, List.filter_eq_self.2 (fun _ _ => rfl), List.length_map]

theorem Gr.num200 {t : Tr} (h : Gr t) {x : Nm} (hx : x.n = 200) : those t (t.under t.N x) = [] := by
  rw [List.eq_nil_iff_forall_not_mem]
  intro c hc
  obtain ⟨⟨y, hy⟩, hu⟩ := mem_those.1 hc
  have key : ∀ y c, (y, c) ∈ t.m → t.under t.N x c = false := by
    refine up_ind h.toInv _ fun y c hc ih => ?_
    rw [under_step h.toInv hc]
    have h1 := (h.num _ hc).2
    have h2 := (h.nn ⟨c.parcel, c.issuer⟩).2
    have : decide (c.of = x) = false := by
      simp only [decide_eq_false_iff_not]
      intro e
      have e2 : c.n = 200 := (congrArg Nm.n e).trans hx
      have h1 : c.n < t.num ⟨c.parcel, c.issuer⟩ := h1
      omega
    rw [this, Bool.false_or]
    cases e : Mp.get t.m c.from_ with
    | none => rfl
    | some p => exact ih p e
  rw [key y c hy] at hu
  cases hu
