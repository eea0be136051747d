/- A shared object that was made here, and of which nobody knows any more, is let go. Conditions: each lemma's own. -/
import Derived.Test.YtdkbmefidmljjaaV24
namespace Go.Proofs.Ytdkbmefidmljjaa.V
open Go.RowKit
universe u
set_option linter.unusedVariables false

def Id.isG (g : Nat) : Id → Bool
  | .g n => Nat.beq n g
  | _ => false
def A.gno (g : Nat) : A → Bool
  | .ptr i _ | .mp i | .own i | .oel i _ _ _ => !i.isG g
  | _ => true
def AV.gno (g : Nat) : AV → Bool
  | .a x => x.gno g
  | .fn _ l | .tup l | .agg l => l.all (A.gno g)
  | .may _ _ _ x => x.gno g
def VO.gno (g : Nat) : VO → Bool
  | .box l => l.all (A.gno g)
  | _ => true
theorem Id.isG_self (g : Nat) : Id.isG g (.g g) = true := Nat.beq_refl g
theorem A.gno_says {g : Nat} {x : A} (h : x.gno g = true) : ¬ x.says (.g g) := by
  intro e
  cases x <;> simp only [A.says] at e <;> (try exact e) <;> (subst e; simp [A.gno, Id.isG_self] at h)
theorem AV.gno_says {g : Nat} {x : AV} (h : x.gno g = true) : ¬ x.says (.g g) := by
  intro e
  cases x with
  | a x => exact A.gno_says h e
  | fn f l => obtain ⟨y, hy, e⟩ := e; exact A.gno_says (List.all_eq_true.1 h y hy) e
  | tup l => obtain ⟨y, hy, e⟩ := e; exact A.gno_says (List.all_eq_true.1 h y hy) e
  | agg l => obtain ⟨y, hy, e⟩ := e; exact A.gno_says (List.all_eq_true.1 h y hy) e
  | may j wt q x => exact A.gno_says h e.2
theorem VO.gno_says {g : Nat} {x : VO} (h : x.gno g = true) : ¬ x.says (.g g) := by
  intro e
  cases x with
  | box l => obtain ⟨y, hy, e⟩ := e; exact A.gno_says (List.all_eq_true.1 h y hy) e
  | row a b c => exact e
  | map a b c d => exact e
  | itr a b c d e' f => exact e

def dropH (g : Nat) (h : Hd) : Hd := fun i => if i = .g g then none else h i
def dropG (g : Nat) (G : Nat → Option VO) : Nat → Option VO := fun n => if n = g then none else G n
theorem dropH_some {g : Nat} {h : Hd} {i : Id} {u : Value} (e : dropH g h i = some u) : i ≠ .g g ∧ h i = some u := by
  unfold dropH at e
  split at e
  · cases e
  · rename_i hn; exact ⟨hn, e⟩

theorem Sim.dropG {E : Env} {h : Hd} {w : World} {a : Act} {s : S} (H : Sim E h w a s) (g : Nat) (hE : E.h0 g = none) (ht : s.t.all (fun p => p.2.gno g) = true) (hL : s.L.all (fun p => p.2.gno g) = true) (hG : ∀ n o, n ≠ g → s.G n = some o → ¬ o.says (.g g)) :
    Sim E (dropH g h) w a { s with G := V.dropG g s.G } := by
  have hm : ∀ b, mutb (dropH g h) b → mutb h b := fun b ⟨i, hd, e1, e2⟩ => ⟨i, hd, (dropH_some e1).2, e2⟩
  have hid : ∀ i, i ≠ .g g → okId s.c h i → okId s.c (dropH g h) i ∧ ∀ u, dropH g h i = some u → h i = some u := by
    intro i hi ho
    refine ⟨?_, fun u e => (dropH_some e).2⟩
    cases i with
    | l n => exact ho
    | g n => show dropH g h (.g n) ≠ none; unfold dropH; rw [if_neg hi]; exact ho
    | x b => exact ho
  constructor
  · intro i o ho
    have ⟨hi, ho'⟩ : i ≠ .g g ∧ s.obj i = some o := by
      cases i with
      | l n => exact ⟨fun e => (by cases e), ho⟩
      | g n =>
        have ho : (if n = g then none else s.G n) = some o := ho
        by_cases e : n = g
        · rw [if_pos e] at ho; cases ho
        · rw [if_neg e] at ho; exact ⟨fun e2 => e (by cases e2; rfl), ho⟩
      | x b => cases ho
    obtain ⟨hd, h1, h2⟩ := H.obj i o ho'
    refine ⟨hd, ?_, h2.tri (.inr hm) fun j hj => hid j ?_⟩
    · unfold dropH; rw [if_neg hi]; exact h1
    · rintro rfl
      cases i with
      | l n => exact VO.gno_says (List.all_eq_true.1 hL (n, o) (lk_mem _ _ _ ho')) hj
      | g n => exact hG n o (fun e => hi (by rw [e])) ho' hj
      | x b => cases ho'
  · intro i hd e
    obtain ⟨hi, e⟩ := dropH_some e
    rcases H.dom i hd e with ⟨o, ho⟩ | h
    · refine .inl ⟨o, ?_⟩
      cases i with
      | l n => exact ho
      | g n =>
        show (if n = g then none else s.G n) = some o
        rw [if_neg fun e => hi (by rw [e])]; exact ho
      | x b => exact ho
    · exact .inr h
  · intro i j hi hj b e1 e2 e3 e4
    exact H.inj i j hi hj b (dropH_some e1).2 (dropH_some e2).2 e3 e4
  · intro n hd e
    have : n ≠ g := by rintro rfl; rw [hE] at e; cases e
    show dropH g h (.g n) = some hd
    unfold dropH
    rw [if_neg (fun e2 => this (by cases e2; rfl))]
    exact H.old n hd e
  · intro b
    show dropH g h (.x b) = _
    unfold dropH
    rw [if_neg (fun e => by cases e)]
    exact H.pri b
  · intro n o ho
    have ho : (if n = g then none else s.G n) = some o := ho
    by_cases e : n = g
    · rw [if_pos e] at ho; cases ho
    · rw [if_neg e] at ho; exact H.gl n o ho
  · intro i hd b e1 e2
    exact H.own i hd b (dropH_some e1).2 e2
  · exact H.cl
  · exact H.fr
  · exact H.sz
  · exact H.os
  · exact H.tape
  · exact H.output
  · exact H.nt
  · exact H.dfr
  · intro i v e
    refine (H.tmp i v e).tri (.inr hm) fun j hj => hid j ?_
    rintro rfl
    exact AV.gno_says (List.all_eq_true.1 ht (i, v) (lk_mem _ _ _ e)) hj

section
variable {P : Program} {E : Env} {fn : Func} {R : Ending → World → Prop} {k : List Item}
/-- The shared object g goes. -/
theorem VJ.dropG {c : Nat} {t : List (Nat × AV)} {L : List (Nat × VO)} {G : Nat → Option VO} (g : Nat) (H : VJ P E fn R k ⟨c, t, L, V.dropG g G⟩) (hE : E.h0 g = none) (ht : t.all (fun p => p.2.gno g) = true) (hL : L.all (fun p => p.2.gno g) = true) (hG : ∀ n o, n ≠ g → G n = some o → ¬ o.says (.g g)) : VJ P E fn R k ⟨c, t, L, G⟩ :=
  fun h w a b cs S0 hf hk => H (dropH g h) w a b cs (S0.dropG g hE ht hL hG) hf hk
end
