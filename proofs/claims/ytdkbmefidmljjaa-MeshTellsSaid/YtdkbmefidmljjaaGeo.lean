/- Points of the grid, sides, segments and how they meet: the program's way and the document's, held against each other. Conditions: each lemma's own. -/
namespace Go.Proofs.Ytdkbmefidmljjaa.Geo
set_option linter.unusedVariables false

structure Pt where
  x : Int
  y : Int
deriving DecidableEq

def Pt.ok (p : Pt) : Prop := 0 ≤ p.x ∧ p.x < 16777216 ∧ 0 ≤ p.y ∧ p.y < 16777216
instance decOk (p : Pt) : Decidable p.ok := inferInstanceAs (Decidable (_ ∧ _ ∧ _ ∧ _))
/-- Twice the area, with a sign. -/
def tw (a b c : Pt) : Int := (b.x - a.x) * (c.y - a.y) - (b.y - a.y) * (c.x - a.x)
def sg (n : Int) : Int := if n < 0 then -1 else if 0 < n then 1 else 0
/-- Which one is ahead: by x, then by y. -/
def cp (p q : Pt) : Int := if p.x < q.x then -1 else if q.x < p.x then 1 else if p.y < q.y then -1 else if q.y < p.y then 1 else 0

theorem sg_neg {n : Int} (h : n < 0) : sg n = -1 := by simp [sg, h]
theorem sg_pos {n : Int} (h : 0 < n) : sg n = 1 := by
  have : ¬ n < 0 := by omega
  simp [sg, h, this]
theorem sg_zero : sg 0 = 0 := rfl
theorem sg_cases (n : Int) : (n < 0 ∧ sg n = -1) ∨ (n = 0 ∧ sg n = 0) ∨ (0 < n ∧ sg n = 1) := by
  rcases Int.lt_trichotomy n 0 with h | h | h
  · exact .inl ⟨h, sg_neg h⟩
  · exact .inr (.inl ⟨h, by rw [h]; rfl⟩)
  · exact .inr (.inr ⟨h, sg_pos h⟩)
theorem sg_eq_zero {n : Int} : sg n = 0 ↔ n = 0 := by
  rcases sg_cases n with ⟨h, e⟩ | ⟨h, e⟩ | ⟨h, e⟩ <;> rw [e] <;> omega

theorem cp_zero {p q : Pt} : cp p q = 0 ↔ p = q := by
  obtain ⟨a, b⟩ := p
  obtain ⟨c, d⟩ := q
  unfold cp
  simp only [Pt.mk.injEq]
  split
  · constructor <;> intro h <;> omega
  · split
    · constructor <;> intro h <;> omega
    · split
      · constructor <;> intro h <;> omega
      · split <;> constructor <;> intro h <;> omega
theorem cp_neg {p q : Pt} : cp p q < 0 ↔ p.x < q.x ∨ p.x = q.x ∧ p.y < q.y := by
  unfold cp
  split
  · omega
  · split
    · omega
    · split
      · omega
      · split <;> omega
theorem cp_pos {p q : Pt} : 0 < cp p q ↔ q.x < p.x ∨ p.x = q.x ∧ q.y < p.y := by
  unfold cp
  split
  · omega
  · split
    · omega
    · split
      · omega
      · split <;> omega
theorem cp_self (p : Pt) : cp p p = 0 := cp_zero.2 rfl
theorem cp_three (p q : Pt) : cp p q = -1 ∨ cp p q = 0 ∨ cp p q = 1 := by
  unfold cp
  split
  · omega
  · split
    · omega
    · split
      · omega
      · split <;> omega
theorem cp_lt {p q : Pt} (h : p.x < q.x ∨ p.x = q.x ∧ p.y < q.y) : cp p q = -1 := by
  have := cp_neg.2 h
  rcases cp_three p q with e | e | e <;> omega
theorem cp_gt {p q : Pt} (h : q.x < p.x ∨ p.x = q.x ∧ q.y < p.y) : cp p q = 1 := by
  have := cp_pos.2 h
  rcases cp_three p q with e | e | e <;> omega
theorem cp_flip (p q : Pt) : cp q p = - cp p q := by
  rcases cp_three p q with e | e | e
  · have h := cp_neg.1 (show cp p q < 0 by omega)
    rw [e, cp_gt (by omega)]; rfl
  · have h := cp_zero.1 e
    subst h
    rw [cp_self]; rfl
  · have h := cp_pos.1 (show 0 < cp p q by omega)
    rw [e, cp_lt (by omega)]

/-- Between two numbers. -/
def bt (n a b : Int) : Prop := min a b ≤ n ∧ n ≤ max a b
instance decBt (n a b : Int) : Decidable (bt n a b) := inferInstanceAs (Decidable (_ ∧ _))

theorem mul_nonneg_cancel {a b : Int} (h : 0 < a) (hb : 0 ≤ a * b) : 0 ≤ b := by
  rcases Int.lt_or_le b 0 with h1 | h1
  · have := Int.mul_neg_of_pos_of_neg h h1
    omega
  · exact h1

/-- On one line with two points: between them in their order just if between them in both coordinates. -/
theorem line_between {a b p : Pt} (hab : a ≠ b) (h : tw a b p = 0) : 0 ≤ cp a p * cp p b ↔ bt p.x a.x b.x ∧ bt p.y a.y b.y := by
  have key : ∀ a b p : Pt, a.x < b.x → tw a b p = 0 → (0 ≤ cp a p * cp p b ↔ bt p.x a.x b.x ∧ bt p.y a.y b.y) := by
    intro a b p hx h
    unfold tw at h
    -- at the ends
    have e1 : p.x = a.x → p.y = a.y := by
      intro e
      rw [e] at h
      have : (b.x - a.x) * (p.y - a.y) = 0 := by grind
      rcases Int.mul_eq_zero.1 this with h1 | h1 <;> omega
    have e2 : p.x = b.x → p.y = b.y := by
      intro e
      rw [e] at h
      have : (b.x - a.x) * (p.y - b.y) = 0 := by grind
      rcases Int.mul_eq_zero.1 this with h1 | h1 <;> omega
    constructor
    · intro hc
      have h1 : a.x ≤ p.x := by
        rcases Int.lt_or_le p.x a.x with g | g
        · have c1 : 0 < cp a p := cp_pos.2 (.inl g)
          have c2 : cp p b < 0 := cp_neg.2 (.inl (by omega))
          have := Int.mul_neg_of_pos_of_neg c1 c2
          omega
        · exact g
      have h2 : p.x ≤ b.x := by
        rcases Int.lt_or_le b.x p.x with g | g
        · have c1 : cp a p < 0 := cp_neg.2 (.inl (by omega))
          have c2 : 0 < cp p b := cp_pos.2 (.inl g)
          have := Int.mul_neg_of_neg_of_pos c1 c2
          omega
        · exact g
      refine ⟨⟨by omega, by omega⟩, ?_⟩
      have hd : 0 < b.x - a.x := by omega
      rcases Int.le_total a.y b.y with hy | hy
      · have g1 : 0 ≤ (b.x - a.x) * (p.y - a.y) := by
          have e : (b.x - a.x) * (p.y - a.y) = (b.y - a.y) * (p.x - a.x) := by omega
          rw [e]; exact Int.mul_nonneg (by omega) (by omega)
        have g2 : 0 ≤ (b.x - a.x) * (b.y - p.y) := by
          have e : (b.x - a.x) * (b.y - p.y) = (b.y - a.y) * (b.x - p.x) := by grind
          rw [e]; exact Int.mul_nonneg (by omega) (by omega)
        have := mul_nonneg_cancel hd g1
        have := mul_nonneg_cancel hd g2
        exact ⟨by omega, by omega⟩
      · have g1 : 0 ≤ (b.x - a.x) * (a.y - p.y) := by
          have e : (b.x - a.x) * (a.y - p.y) = (a.y - b.y) * (p.x - a.x) := by grind
          rw [e]; exact Int.mul_nonneg (by omega) (by omega)
        have g2 : 0 ≤ (b.x - a.x) * (p.y - b.y) := by
          have e : (b.x - a.x) * (p.y - b.y) = (a.y - b.y) * (b.x - p.x) := by grind
          rw [e]; exact Int.mul_nonneg (by omega) (by omega)
        have := mul_nonneg_cancel hd g1
        have := mul_nonneg_cancel hd g2
        exact ⟨by omega, by omega⟩
    · rintro ⟨⟨h1, h2⟩, _⟩
      have h1 : a.x ≤ p.x := by omega
      have h2 : p.x ≤ b.x := by omega
      have c1 : cp a p ≤ 0 := by
        rcases Int.lt_or_le 0 (cp a p) with g | g
        · rcases cp_pos.1 g with g | ⟨g, g'⟩
          · omega
          · have := e1 g.symm; omega
        · exact g
      have c2 : cp p b ≤ 0 := by
        rcases Int.lt_or_le 0 (cp p b) with g | g
        · rcases cp_pos.1 g with g | ⟨g, g'⟩
          · omega
          · have := e2 g; omega
        · exact g
      exact Int.mul_nonneg_of_nonpos_of_nonpos c1 c2
  rcases Int.lt_trichotomy a.x b.x with hx | hx | hx
  · exact key a b p hx h
  · -- upright
    have hy : a.y ≠ b.y := fun e => hab (by obtain ⟨_, _⟩ := a; obtain ⟨_, _⟩ := b; simp_all)
    unfold tw at h
    have hp : p.x = a.x := by
      rw [hx] at h
      have : (b.y - a.y) * (p.x - b.x) = 0 := by grind
      rcases Int.mul_eq_zero.1 this with h1 | h1 <;> omega
    have cy : ∀ u v : Pt, u.x = v.x → cp u v = sg (u.y - v.y) := by
      intro u v e
      rcases Int.lt_trichotomy u.y v.y with g | g | g
      · rw [cp_lt (.inr ⟨e, g⟩), sg_neg (by omega)]
      · have : u = v := by obtain ⟨_, _⟩ := u; obtain ⟨_, _⟩ := v; simp_all
        subst this
        rw [cp_self, Int.sub_self]; rfl
      · rw [cp_gt (.inr ⟨e, g⟩), sg_pos (by omega)]
    have c1 := cy a p hp.symm
    have c2 := cy p b (by omega)
    rw [c1, c2]
    unfold bt
    rcases sg_cases (a.y - p.y) with ⟨g1, e1⟩ | ⟨g1, e1⟩ | ⟨g1, e1⟩ <;> rcases sg_cases (p.y - b.y) with ⟨g2, e2⟩ | ⟨g2, e2⟩ | ⟨g2, e2⟩ <;> rw [e1, e2] <;> constructor <;> intro g <;> omega
  · have h' : tw b a p = 0 := by unfold tw at h ⊢; grind
    have := key b a p hx h'
    rw [show cp a p * cp p b = cp b p * cp p a by rw [cp_flip p a, cp_flip b p, Int.neg_mul_neg, Int.mul_comm]]
    rw [this]
    unfold bt
    rw [Int.min_comm b.x, Int.max_comm b.x, Int.min_comm b.y, Int.max_comm b.y]

/-- On a segment: the program's word, and the document's. -/
def onE (p a b : Pt) : Bool := decide (p.ok ∧ a.ok ∧ b.ok) && decide (tw a b p = 0) && decide (0 ≤ cp a p * cp p b) && (decide (a ≠ b) || decide (p = a))
def onR (p a b : Pt) : Bool := decide (p.ok ∧ a.ok ∧ b.ok) && decide (tw a b p = 0) && decide (bt p.x a.x b.x) && decide (bt p.y a.y b.y)
theorem on_eq (p a b : Pt) : onE p a b = onR p a b := by
  unfold onE onR
  by_cases h0 : p.ok ∧ a.ok ∧ b.ok
  · by_cases h1 : tw a b p = 0
    · by_cases h2 : a = b
      · subst h2
        have e : (bt p.x a.x a.x ∧ bt p.y a.y a.y) ↔ p = a := by
          unfold bt
          constructor
          · intro h
            obtain ⟨_, _⟩ := p; obtain ⟨_, _⟩ := a
            simp only [Pt.mk.injEq]
            simp only at h
            omega
          · rintro rfl; omega
        by_cases h3 : p = a
        · have e2 := e.2 h3
          subst h3
          simp [h0, h1, e2.1, e2.2, cp_self]
        · have : ¬ (bt p.x a.x a.x ∧ bt p.y a.y a.y) := fun h => h3 (e.1 h)
          by_cases g : bt p.x a.x a.x
          · have g2 : ¬ bt p.y a.y a.y := fun h => this ⟨g, h⟩
            simp [h3, g2]
          · simp [h3, g]
      · have := line_between h2 h1
        by_cases g : 0 ≤ cp a p * cp p b
        · obtain ⟨g1, g2⟩ := this.1 g
          simp [h0, h1, h2, g, g1, g2]
        · have g' : ¬ (bt p.x a.x b.x ∧ bt p.y a.y b.y) := fun h => g (this.2 h)
          by_cases g1 : bt p.x a.x b.x
          · have g2 : ¬ bt p.y a.y b.y := fun h => g' ⟨g1, h⟩
            simp [g, g2]
          · simp [g, g1]
    · simp [h1]
  · simp [h0]

def lesser (p q : Pt) : Pt := if cp p q < 0 then p else q
def greater (p q : Pt) : Pt := if cp p q < 0 then q else p
theorem lesser_comm (p q : Pt) : lesser p q = lesser q p := by
  unfold lesser
  rcases cp_three p q with e | e | e
  · rw [if_pos (by omega), if_neg (by rw [cp_flip p q, e]; omega)]
  · have := cp_zero.1 e; subst this; rfl
  · rw [if_neg (by omega), if_pos (by rw [cp_flip p q, e]; omega)]
theorem greater_comm (p q : Pt) : greater p q = greater q p := by
  unfold greater
  rcases cp_three p q with e | e | e
  · rw [if_pos (by omega), if_neg (by rw [cp_flip p q, e]; omega)]
  · have := cp_zero.1 e; subst this; rfl
  · rw [if_neg (by omega), if_pos (by rw [cp_flip p q, e]; omega)]

/-- Two segments of one line. -/
def inlE (a b c d : Pt) : Int :=
  if cp (if 0 < cp (if 0 < cp c d then d else c) (if 0 < cp a b then b else a) then (if 0 < cp c d then d else c) else (if 0 < cp a b then b else a))
    (if cp (if 0 < cp c d then c else d) (if 0 < cp a b then a else b) < 0 then (if 0 < cp c d then c else d) else (if 0 < cp a b then a else b)) < 0 then 3 else 0
def inlR (a b c d : Pt) : Int := if cp (greater (lesser a b) (lesser c d)) (lesser (greater a b) (greater c d)) < 0 then 3 else 0
theorem order_lesser (a b : Pt) : (if 0 < cp a b then b else a) = lesser a b := by
  unfold lesser
  rcases cp_three a b with e | e | e
  · rw [if_neg (by omega), if_pos (by omega)]
  · have := cp_zero.1 e; subst this; simp
  · rw [if_pos (by omega), if_neg (by omega)]
theorem order_greater (a b : Pt) : (if 0 < cp a b then a else b) = greater a b := by
  unfold greater
  rcases cp_three a b with e | e | e
  · rw [if_neg (by omega), if_pos (by omega)]
  · have := cp_zero.1 e; subst this; simp
  · rw [if_pos (by omega), if_neg (by omega)]
theorem inl_eq (a b c d : Pt) : inlE a b c d = inlR a b c d := by
  unfold inlE inlR
  simp only [order_lesser, order_greater]
  have e2 : (if cp (greater c d) (greater a b) < 0 then greater c d else greater a b) = lesser (greater a b) (greater c d) := by rw [lesser_comm]; rfl
  rw [greater_comm (lesser c d), e2]
theorem inl_comm (a b c d : Pt) : inlR a b c d = inlR c d a b := by
  unfold inlR
  rw [greater_comm (lesser a b), lesser_comm (greater a b)]

def touch (p a b : Pt) : Int := if onR p a b = true ∧ p ≠ a ∧ p ≠ b then 2 else 0
def meetE (a b c d : Pt) : Int :=
  if ¬ (a.ok ∧ b.ok ∧ c.ok ∧ d.ok) ∨ a = b ∨ c = d then 0
  else if sg (tw a b c) = 0 ∧ sg (tw a b d) = 0 then inlE a b c d
  else if sg (tw a b c) * sg (tw a b d) < 0 ∧ sg (tw c d a) * sg (tw c d b) < 0 then 1
  else if a = c ∨ a = d ∨ b = c ∨ b = d then 0
  else if onE c a b = true ∨ onE d a b = true ∨ onE a c d = true ∨ onE b c d = true then 2 else 0
def meetR (a b c d : Pt) : Int :=
  if ¬ (a.ok ∧ b.ok ∧ c.ok ∧ d.ok) ∨ a = b ∨ c = d then 0
  else if sg (tw a b c) = 0 ∧ sg (tw a b d) = 0 then inlR a b c d
  else if sg (tw a b c) * sg (tw a b d) < 0 ∧ sg (tw c d a) * sg (tw c d b) < 0 then 1
  else max (max (max (touch a c d) (touch b c d)) (touch c a b)) (touch d a b)

theorem onR_tw {p a b : Pt} (h : onR p a b = true) : tw a b p = 0 := by
  simp only [onR, Bool.and_eq_true, decide_eq_true_eq] at h
  exact h.1.1.2
theorem touch_ge (p a b : Pt) : touch p a b = 0 ∨ touch p a b = 2 := by
  unfold touch; split <;> simp

theorem meet_eq (a b c d : Pt) : meetE a b c d = meetR a b c d := by
  unfold meetE meetR
  split
  · rfl
  rename_i h0
  split
  · exact inl_eq a b c d
  rename_i h1
  split
  · rfl
  have h1' : ¬ (tw a b c = 0 ∧ tw a b d = 0) := fun h => h1 ⟨sg_eq_zero.2 h.1, sg_eq_zero.2 h.2⟩
  simp only [on_eq]
  split
  · rename_i hs
    have t1 : touch a c d = 0 := by
      unfold touch
      rw [if_neg]
      rintro ⟨g1, g2, g3⟩
      have g := onR_tw g1
      refine h1' ?_
      rcases hs with e | e | e | e
      · exact absurd e g2
      · exact absurd e g3
      · subst e; unfold tw at g ⊢; constructor <;> grind
      · subst e; unfold tw at g ⊢; constructor <;> grind
    have t2 : touch b c d = 0 := by
      unfold touch
      rw [if_neg]
      rintro ⟨g1, g2, g3⟩
      have g := onR_tw g1
      refine h1' ?_
      rcases hs with e | e | e | e
      · subst e; unfold tw at g ⊢; constructor <;> grind
      · subst e; unfold tw at g ⊢; constructor <;> grind
      · exact absurd e g2
      · exact absurd e g3
    have t3 : touch c a b = 0 := by
      unfold touch
      rw [if_neg]
      rintro ⟨g1, g2, g3⟩
      have g := onR_tw g1
      refine h1' ⟨g, ?_⟩
      rcases hs with e | e | e | e
      · exact absurd e.symm g2
      · subst e; unfold tw; grind
      · exact absurd e.symm g3
      · subst e; unfold tw; grind
    have t4 : touch d a b = 0 := by
      unfold touch
      rw [if_neg]
      rintro ⟨g1, g2, g3⟩
      have g := onR_tw g1
      refine h1' ⟨?_, g⟩
      rcases hs with e | e | e | e
      · subst e; unfold tw; grind
      · exact absurd e.symm g2
      · subst e; unfold tw; grind
      · exact absurd e.symm g3
    rw [t1, t2, t3, t4]; rfl
  · rename_i hs
    have n1 : a ≠ c := fun e => hs (.inl e)
    have n2 : a ≠ d := fun e => hs (.inr (.inl e))
    have n3 : b ≠ c := fun e => hs (.inr (.inr (.inl e)))
    have n4 : b ≠ d := fun e => hs (.inr (.inr (.inr e)))
    unfold touch
    simp only [n1, n2, n3, n4, n1.symm, n2.symm, n3.symm, n4.symm, ne_eq, not_false_eq_true, and_true]
    cases onR c a b <;> cases onR d a b <;> cases onR a c d <;> cases onR b c d <;> rfl

theorem coll {a b c d : Pt} (hab : a ≠ b) (h1 : tw a b c = 0) (h2 : tw a b d = 0) : tw c d a = 0 ∧ tw c d b = 0 := by
  unfold tw at h1 h2 ⊢
  have hz : (c.x - a.x) * (d.y - a.y) - (c.y - a.y) * (d.x - a.x) = 0 := by
    by_cases hx : b.x - a.x = 0
    · have hy : b.y - a.y ≠ 0 := fun e => hab (by
        obtain ⟨_, _⟩ := a; obtain ⟨_, _⟩ := b
        simp only [Pt.mk.injEq]
        simp only at hx e
        omega)
      have : (b.y - a.y) * ((c.x - a.x) * (d.y - a.y) - (c.y - a.y) * (d.x - a.x)) = 0 := by grind
      rcases Int.mul_eq_zero.1 this with h | h
      · exact absurd h hy
      · exact h
    · have : (b.x - a.x) * ((c.x - a.x) * (d.y - a.y) - (c.y - a.y) * (d.x - a.x)) = 0 := by grind
      rcases Int.mul_eq_zero.1 this with h | h
      · exact absurd h hx
      · exact h
  constructor <;> grind

theorem meet_comm (a b c d : Pt) : meetR a b c d = meetR c d a b := by
  unfold meetR
  by_cases h0 : ¬ (a.ok ∧ b.ok ∧ c.ok ∧ d.ok) ∨ a = b ∨ c = d
  · rw [if_pos h0, if_pos]
    rcases h0 with h | h | h
    · exact .inl fun g => h ⟨g.2.2.1, g.2.2.2, g.1, g.2.1⟩
    · exact .inr (.inr h)
    · exact .inr (.inl h)
  · have h0' : ¬ (¬ (c.ok ∧ d.ok ∧ a.ok ∧ b.ok) ∨ c = d ∨ a = b) := by
      intro h
      refine h0 ?_
      rcases h with h | h | h
      · exact .inl fun g => h ⟨g.2.2.1, g.2.2.2, g.1, g.2.1⟩
      · exact .inr (.inr h)
      · exact .inr (.inl h)
    rw [if_neg h0, if_neg h0']
    have hab : a ≠ b := fun e => h0 (.inr (.inl e))
    have hcd : c ≠ d := fun e => h0 (.inr (.inr e))
    by_cases h1 : sg (tw a b c) = 0 ∧ sg (tw a b d) = 0
    · have g := coll hab (sg_eq_zero.1 h1.1) (sg_eq_zero.1 h1.2)
      rw [if_pos h1, if_pos ⟨sg_eq_zero.2 g.1, sg_eq_zero.2 g.2⟩]
      exact inl_comm a b c d
    · have h1' : ¬ (sg (tw c d a) = 0 ∧ sg (tw c d b) = 0) := by
        intro h
        have g := coll hcd (sg_eq_zero.1 h.1) (sg_eq_zero.1 h.2)
        exact h1 ⟨sg_eq_zero.2 g.1, sg_eq_zero.2 g.2⟩
      rw [if_neg h1, if_neg h1']
      by_cases h2 : sg (tw a b c) * sg (tw a b d) < 0 ∧ sg (tw c d a) * sg (tw c d b) < 0
      · rw [if_pos h2, if_pos ⟨h2.2, h2.1⟩]
      · rw [if_neg h2, if_neg fun h => h2 ⟨h.2, h.1⟩]
        rcases touch_ge a c d with e1 | e1 <;> rcases touch_ge b c d with e2 | e2 <;> rcases touch_ge c a b with e3 | e3 <;> rcases touch_ge d a b with e4 | e4 <;> rw [e1, e2, e3, e4] <;> rfl

end Go.Proofs.Ytdkbmefidmljjaa.Geo
