/- Texts of the proof, one behind the other: D1, D2, D3, Y1, E4, E5, E6, E7, E8, T2, T3, T4, V33, T5, T6, T7, T8. Conditions: each lemma's own. -/
import Derived.Test.YtnpnjhopgedhkaaGreatFD8
import Derived.Test.YtnpnjhopgedhkaaGreatFD6
import Derived.Test.YtnpnjhopgedhkaaGreatFD7
set_option linter.unusedVariables false
namespace Go.Proofs.YtnpnjhopgedhkaaGreat
open Go.RowKit V Geo
def nearZ (g : Int) (p d : Pt) : Pt := ⟨20000000000 * p.x + 100000 * d.x - g * d.y, 20000000000 * p.y + 100000 * d.y + g * d.x⟩
theorem S2_near (g : Int) (p d a b : Pt) : S2 (nearZ g p d) a b = 20000000000 * tw a b p + 100000 * ((b.x - a.x) * d.y - (b.y - a.y) * d.x) + g * ((b.x - a.x) * d.x + (b.y - a.y) * d.y) := by
 unfold S2 nearZ tw
 grind
theorem near_gen {g : Int} (hg : g = 1 ∨ g = -1) {p d : Pt} (hd : small d) (hd0 : ¬ (d.x = 0 ∧ d.y = 0)) : Gen (nearZ g p d) := by
 intro a b ha hb hab e
 rw [S2_near] at e
 obtain ⟨p1, p2⟩ := parts_bd ha hb hd
 have e12 : (b.x - a.x) * d.x + (b.y - a.y) * d.y = 0 ∧ (b.x - a.x) * d.y - (b.y - a.y) * d.x = 0 := by
  rcases hg with rfl | rfl <;> constructor <;> omega
 obtain ⟨e1, e2⟩ := e12
 have hne : ¬ (b.x - a.x = 0 ∧ b.y - a.y = 0) := fun ⟨k1, k2⟩ => hab (by cases a; cases b; simp at k1 k2 ⊢; omega)
 have key : ((b.x - a.x) * (b.x - a.x) + (b.y - a.y) * (b.y - a.y)) * (d.x * d.x + d.y * d.y) = 0 := by
  have : ((b.x - a.x) * (b.x - a.x) + (b.y - a.y) * (b.y - a.y)) * (d.x * d.x + d.y * d.y) = ((b.x - a.x) * d.x + (b.y - a.y) * d.y) * ((b.x - a.x) * d.x + (b.y - a.y) * d.y) + ((b.x - a.x) * d.y - (b.y - a.y) * d.x) * ((b.x - a.x) * d.y - (b.y - a.y) * d.x) := by grind
  rw [this, e1, e2]; rfl
 rcases Int.mul_eq_zero.1 key with h | h
 ·exact hne (sq_zero h)
 ·exact hd0 (sq_zero h)
def entI (p d a b : Pt) : Prop := 0 < tw a b p ∨ (tw a b p = 0 ∧ 0 ≤ (b.x - a.x) * d.y - (b.y - a.y) * d.x)
theorem near_pos {g : Int} (hg : g = 1 ∨ g = -1) {p d a b : Pt} (ha : inB a) (hb : inB b) (hd : small d) (h : 0 < S2 (nearZ g p d) a b) : entI p d a b := by
 rw [S2_near] at h
 obtain ⟨p1, p2⟩ := parts_bd ha hb hd
 unfold entI
 rcases hg with rfl | rfl <;> omega
theorem near_A {g : Int} (hg : g = 1 ∨ g = -1) {p d a b : Pt} (ha : inB a) (hb : inB b) (hd : small d) (h : 0 < tw a b p) : 0 < S2 (nearZ g p d) a b := by
 rw [S2_near]
 obtain ⟨p1, p2⟩ := parts_bd ha hb hd
 rcases hg with rfl | rfl <;> omega
theorem near_B {g : Int} (hg : g = 1 ∨ g = -1) {p d a b : Pt} (ha : inB a) (hb : inB b) (hd : small d) (h : tw a b p = 0) (h2 : 0 < (b.x - a.x) * d.y - (b.y - a.y) * d.x) : 0 < S2 (nearZ g p d) a b := by
 rw [S2_near]
 obtain ⟨p1, p2⟩ := parts_bd ha hb hd
 rcases hg with rfl | rfl <;> omega
theorem near_in {s : Int} (h1 : 1 ≤ s) (hs : s ≤ 40) {p d : Pt} (hp : inSq s p) (hq : inSq s ⟨p.x + d.x, p.y + d.y⟩) (hd0 : ¬ (d.x = 0 ∧ d.y = 0)) : ∃ g, (g = 1 ∨ g = -1) ∧ inZ s (nearZ g p d) := by
 unfold inSq at hp hq
 dsimp only at hq
 unfold inZ nearZ
 dsimp only
 by_cases c : (p.x = 0 ∧ d.x = 0 ∧ 0 < d.y) ∨ (p.x = s ∧ d.x = 0 ∧ d.y < 0) ∨ (p.y = 0 ∧ d.y = 0 ∧ d.x < 0) ∨ (p.y = s ∧ d.y = 0 ∧ 0 < d.x)
 ·exact ⟨-1, .inr rfl, by omega⟩
 ·exact ⟨1, .inl rfl, by omega⟩
theorem sum_one {Z : Pt} : ∀ {l : List Tr}, sumF (ins Z) l = 1 → ∃ t ∈ l, ins Z t = 1
 | [], h => by have : sumF (ins Z) [] = 0 := rfl; omega
 | t :: l, h => by
   by_cases e : ins Z t = 1
   ·exact ⟨t, by simp, e⟩
   ·have h0 : ins Z t = 0 := by
     unfold Go.Proofs.YtnpnjhopgedhkaaGreat.ins at e ⊢
     split at e
     ·exact absurd rfl e
     ·rename_i k; rw [if_neg k]
    have h1 : sumF (ins Z) (t :: l) = ins Z t + sumF (ins Z) l := rfl
    obtain ⟨u, hu, hz⟩ := sum_one (Z := Z) (l := l) (by omega)
    exact ⟨u, List.mem_cons_of_mem _ hu, hz⟩
theorem ins_parts {Z : Pt} {t : Tr} {a b c : Pt} (h : Rot3 t a b c) (hi : ins Z t = 1) : 0 < S2 Z a b ∧ 0 < S2 Z b c ∧ 0 < S2 Z c a := by
 rw [ins_rot h] at hi
 by_cases k : 0 < S2 Z a b ∧ 0 < S2 Z b c ∧ 0 < S2 Z c a
 ·exact k
 ·rw [if_neg k] at hi; omega
theorem TI.into {s : Int} {E : LS} {l : List Tr} (h : TI s E l) (h1 : 1 ≤ s) (hs : s ≤ 40) {p d : Pt} (hp : inSq s p) (hq : inSq s ⟨p.x + d.x, p.y + d.y⟩) (hd0 : ¬ (d.x = 0 ∧ d.y = 0)) :
 ∃ t ∈ l, ∀ a b c, Rot3 t a b c → entI p d a b := by
 obtain ⟨g, hg, hz⟩ := near_in h1 hs hp hq hd0
 have hd : small d := by unfold inSq at hp hq; dsimp only at hq; unfold small; omega
 have hgen := near_gen hg hd hd0 (p := p)
 obtain ⟨t, ht, hi⟩ := sum_one ((h.cov _ hgen).2 hz)
 refine ⟨t, ht, fun a b c hr => ?_⟩
 obtain ⟨b1, b2, b3⟩ := hr.inT.1 (h.bx hs t ht)
 exact near_pos hg b1 b2 hd (ins_parts hr hi).1
theorem entI.nonneg {p d a b : Pt} (h : entI p d a b) : 0 ≤ tw a b p := by unfold entI at h; omega
theorem rot_self (t : Tr) : Rot3 t t.a t.b t.c := .inl rfl
theorem ent_has {s : Int} {E : LS} {l : List Tr} (h : TI s E l) (hs : s ≤ 40) {p d : Pt} (hp : inSq s p) {t : Tr} (ht : t ∈ l) (he : ∀ a b c, Rot3 t a b c → entI p d a b) : hasP t p = true :=
 (hasP_iff (rot_self t) (h.mo.val t ht) (ok_of hs hp)).2 ⟨(he _ _ _ (rot_self t)).nonneg, (he _ _ _ (rot_self t).turn).nonneg, (he _ _ _ (rot_self t).turn.turn).nonneg⟩
theorem TI.covers {s : Int} {E : LS} {l : List Tr} (h : TI s E l) (h1 : 1 ≤ s) (hs : s ≤ 40) {p : Pt} (hp : inSq s p) : ∃ t ∈ l, hasP t p = true := by
 by_cases c : p.x < s
 ·obtain ⟨t, ht, he⟩ := h.into h1 hs (d := ⟨1, 0⟩) hp (by unfold inSq at *; dsimp only; omega) (by simp)
  exact ⟨t, ht, ent_has h hs hp ht he⟩
 ·obtain ⟨t, ht, he⟩ := h.into h1 hs (d := ⟨-1, 0⟩) hp (by unfold inSq at *; dsimp only; omega) (by simp)
  exact ⟨t, ht, ent_has h hs hp ht he⟩
theorem TI.lone {s : Int} {E : LS} {l : List Tr} (h : TI s E l) {a b : Pt} (hs : sideE s a b) (hk : (Mp.get E ⟨a, b⟩).isSome = true) : (Mp.get E ⟨b, a⟩).isSome = false := by
 cases hh : (Mp.get E ⟨b, a⟩).isSome with
 | false => rfl
 | true =>
   exfalso
   obtain ⟨t, ht⟩ := Option.isSome_iff_exists.1 hk
   obtain ⟨u, hu⟩ := Option.isSome_iff_exists.1 hh
   obtain ⟨t1, t2⟩ := (h.mo.get _ t).1 ht
   obtain ⟨u1, u2⟩ := (h.mo.get _ u).1 hu
   obtain ⟨w, hw⟩ := rot_of_edge (h.mo.val t t1) t2
   obtain ⟨r, hr⟩ := rot_of_edge (h.mo.val u u1) u2
   have k1 := tw_of_valid hw (h.mo.val t t1)
   have k2 := tw_of_valid hr (h.mo.val u u1)
   obtain ⟨_, _, qw⟩ := hw.sq.1 (h.sq t t1)
   obtain ⟨_, _, qr⟩ := hr.sq.1 (h.sq u u1)
   have := side_pos (Z := ⟨20000000000 * r.x, 20000000000 * r.y⟩) (p := a) (q := b) (w := w) (by unfold inSq at qr; dsimp only; omega) qw k1 hs
   have e : S2 ⟨20000000000 * r.x, 20000000000 * r.y⟩ a b = -(20000000000 * tw b a r) := by unfold S2 tw; grind
   omega
theorem TI.towards {s : Int} {E : LS} {l : List Tr} (h : TI s E l) (hs : s ≤ 40) {p : Pt} (hp : inSq s p) {v : Tr} (hv : v ∈ l) (hh : hasP v p = true) : ∃ d, small d ∧ ¬ (d.x = 0 ∧ d.y = 0) ∧ ins (nearZ 1 p d) v = 1 := by
 have vv := h.mo.val v hv
 obtain ⟨b1, b2, b3⟩ := h.bx hs v hv
 obtain ⟨q1, q2, q3⟩ := h.sq v hv
 obtain ⟨g1, g2, g3⟩ := (hasP_iff (rot_self v) vv (ok_of hs hp)).1 hh
 have tT := tw_of_valid (rot_self v) vv
 by_cases hz : v.a.x + v.b.x + v.c.x - 3 * p.x = 0 ∧ v.a.y + v.b.y + v.c.y - 3 * p.y = 0
 ·refine ⟨⟨1, 0⟩, by unfold small; dsimp only; omega, by simp, ?_⟩
  have e1 : 3 * tw v.a v.b p = tw v.a v.b v.c := by
   have e3 : 3 * p.x = v.a.x + v.b.x + v.c.x := by omega
   have e4 : 3 * p.y = v.a.y + v.b.y + v.c.y := by omega
   have : 3 * tw v.a v.b p = (v.b.x - v.a.x) * (3 * p.y - 3 * v.a.y) - (v.b.y - v.a.y) * (3 * p.x - 3 * v.a.x) := by unfold tw; grind
   rw [this, e3, e4]; unfold tw; grind
  have e2 : 3 * tw v.b v.c p = tw v.a v.b v.c := by
   have e3 : 3 * p.x = v.a.x + v.b.x + v.c.x := by omega
   have e4 : 3 * p.y = v.a.y + v.b.y + v.c.y := by omega
   have : 3 * tw v.b v.c p = (v.c.x - v.b.x) * (3 * p.y - 3 * v.b.y) - (v.c.y - v.b.y) * (3 * p.x - 3 * v.b.x) := by unfold tw; grind
   rw [this, e3, e4]; unfold tw; grind
  have e3 : 3 * tw v.c v.a p = tw v.a v.b v.c := by
   have e3 : 3 * p.x = v.a.x + v.b.x + v.c.x := by omega
   have e4 : 3 * p.y = v.a.y + v.b.y + v.c.y := by omega
   have : 3 * tw v.c v.a p = (v.a.x - v.c.x) * (3 * p.y - 3 * v.c.y) - (v.a.y - v.c.y) * (3 * p.x - 3 * v.c.x) := by unfold tw; grind
   rw [this, e3, e4]; unfold tw; grind
  have hd : small ⟨1, 0⟩ := by unfold small; dsimp only; omega
  exact ins_one (rot_self v) (near_A (.inl rfl) b1 b2 hd (by omega)) (near_A (.inl rfl) b2 b3 hd (by omega)) (near_A (.inl rfl) b3 b1 hd (by omega))
 ·have hd : small ⟨v.a.x + v.b.x + v.c.x - 3 * p.x, v.a.y + v.b.y + v.c.y - 3 * p.y⟩ := by
   unfold inSq at q1 q2 q3 hp
   unfold small
   dsimp only
   omega
  have one : ∀ a b c, Rot3 v a b c → 0 < S2 (nearZ 1 p ⟨v.a.x + v.b.x + v.c.x - 3 * p.x, v.a.y + v.b.y + v.c.y - 3 * p.y⟩) a b := fun a b c hr => by
   obtain ⟨i1, i2, i3⟩ := hr.inT.1 (h.bx hs v hv)
   have g0 := ((hasP_iff hr vv (ok_of hs hp)).1 hh).1
   rcases Int.lt_or_eq_of_le g0 with k | k
   ·exact near_A (.inl rfl) i1 i2 hd k
   ·refine near_B (.inl rfl) i1 i2 hd k.symm ?_
    have tA := tw_of_valid hr vv
    have e : (b.x - a.x) * (v.a.y + v.b.y + v.c.y - 3 * p.y) - (b.y - a.y) * (v.a.x + v.b.x + v.c.x - 3 * p.x) = tw a b c - 3 * tw a b p := by
     rcases hr with rfl | rfl | rfl <;> (unfold tw; dsimp only; grind)
    dsimp only
    omega
  exact ⟨_, hd, hz, ins_one (rot_self v) (one _ _ _ (rot_self v)) (one _ _ _ (rot_self v).turn) (one _ _ _ (rot_self v).turn.turn)⟩
theorem TI.alone {s : Int} {E : LS} {l : List Tr} (h : TI s E l) (hs : s ≤ 40) {p : Pt} (hp : inSq s p) {t v : Tr} (ht : t ∈ l) (hv : v ∈ l) {a b c : Pt} (hr : Rot3 t a b c) (k1 : 0 < tw a b p) (k2 : 0 < tw b c p) (k3 : 0 < tw c a p) (hh : hasP v p = true) : v = t := by
 obtain ⟨d, hd, hd0, hi⟩ := h.towards hs hp hv hh
 obtain ⟨b1, b2, b3⟩ := hr.inT.1 (h.bx hs t ht)
 exact h.same (near_gen (.inl rfl) hd hd0) hv ht hi (ins_one hr (near_A (.inl rfl) b1 b2 hd k1) (near_A (.inl rfl) b2 b3 hd k2) (near_A (.inl rfl) b3 b1 hd k3))
theorem opp_pos {t u : Tr} {a b c r p : Pt} (hr : Rot3 t a b c) (hu : Rot3 u b a r) (ht : validT t = true) (huv : validT u = true) (h0 : tw a b p = 0) (k2 : 0 < tw b c p) (k3 : 0 < tw c a p) : 0 < tw a r p ∧ 0 < tw r b p := by
 have tT := tw_of_valid hr ht
 have tU := tw_of_valid hu huv
 have e1 : tw a b c * tw a r p = tw c a p * tw b a r + tw a b p * ((r.x - a.x) * (c.y - a.y) - (r.y - a.y) * (c.x - a.x)) := by unfold tw; grind
 have e2 : tw a b c * tw r b p = tw b c p * tw b a r - tw a b p * ((r.x - b.x) * (c.y - b.y) - (r.y - b.y) * (c.x - b.x)) := by unfold tw; grind
 rw [h0, Int.zero_mul] at e1 e2
 have f1 := Int.mul_pos k3 tU
 have f2 := Int.mul_pos k2 tU
 constructor
 ·by_cases hh : 0 < tw a r p
  ·exact hh
  ·have := Int.mul_nonpos_of_nonneg_of_nonpos (Int.le_of_lt tT) (show tw a r p ≤ 0 by omega)
   omega
 ·by_cases hh : 0 < tw r b p
  ·exact hh
  ·have := Int.mul_nonpos_of_nonneg_of_nonpos (Int.le_of_lt tT) (show tw r b p ≤ 0 by omega)
   omega
def rimP (s : Int) (p : Pt) : Prop := p.x = 0 ∨ p.y = 0 ∨ p.x = s ∨ p.y = s
instance (s : Int) (p : Pt) : Decidable (rimP s p) := by unfold rimP; infer_instance
theorem mid_rim {s : Int} {a b c p : Pt} (ha : inSq s a) (hb : inSq s b) (hc : inSq s c) (tT : 0 < tw a b c) (h0 : tw a b p = 0) (k2 : 0 < tw b c p) (k3 : 0 < tw c a p) : rimP s p ↔ sideE s a b := by
 have ex : tw a b c * p.x = tw b c p * a.x + tw c a p * b.x := by
  have : tw a b c * p.x = tw b c p * a.x + tw c a p * b.x + tw a b p * c.x := by unfold tw; grind
  rw [h0] at this; omega
 have ey : tw a b c * p.y = tw b c p * a.y + tw c a p * b.y := by
  have : tw a b c * p.y = tw b c p * a.y + tw c a p * b.y + tw a b p * c.y := by unfold tw; grind
  rw [h0] at this; omega
 have es : tw a b c = tw b c p + tw c a p := by
  have : tw a b c = tw b c p + tw c a p + tw a b p := by unfold tw; grind
  omega
 have z : ∀ {α β : Int}, 0 ≤ α → 0 ≤ β → tw b c p * α + tw c a p * β = 0 → α = 0 ∧ β = 0 := fun {α β} h1 h2 h3 => by
  have m1 := Int.mul_nonneg (Int.le_of_lt k2) h1
  have m2 := Int.mul_nonneg (Int.le_of_lt k3) h2
  have z1 : tw b c p * α = 0 := by omega
  have z2 : tw c a p * β = 0 := by omega
  exact ⟨(Int.mul_eq_zero.1 z1).resolve_left (by omega), (Int.mul_eq_zero.1 z2).resolve_left (by omega)⟩
 unfold inSq at ha hb
 have gx : tw b c p * (s - a.x) + tw c a p * (s - b.x) = tw a b c * (s - p.x) := by
  have : tw a b c * (s - p.x) = tw a b c * s - tw a b c * p.x := by grind
  rw [this, ex]
  have : tw a b c * s = (tw b c p + tw c a p) * s := by rw [← es]
  rw [this]; grind
 have gy : tw b c p * (s - a.y) + tw c a p * (s - b.y) = tw a b c * (s - p.y) := by
  have : tw a b c * (s - p.y) = tw a b c * s - tw a b c * p.y := by grind
  rw [this, ey]
  have : tw a b c * s = (tw b c p + tw c a p) * s := by rw [← es]
  rw [this]; grind
 have back : ∀ {α : Int}, tw a b c * α = 0 → α = 0 := fun h => (Int.mul_eq_zero.1 h).resolve_left (by omega)
 unfold rimP sideE
 constructor
 ·rintro (e | e | e | e)
  ·exact .inl (z ha.1 hb.1 (by rw [← ex, e]; simp))
  ·exact .inr (.inr (.inl (z ha.2.2.1 hb.2.2.1 (by rw [← ey, e]; simp))))
  ·obtain ⟨r1, r2⟩ := z (α := s - a.x) (β := s - b.x) (by omega) (by omega) (by rw [gx, e]; simp)
   exact .inr (.inl ⟨by omega, by omega⟩)
  ·obtain ⟨r1, r2⟩ := z (α := s - a.y) (β := s - b.y) (by omega) (by omega) (by rw [gy, e]; simp)
   exact .inr (.inr (.inr ⟨by omega, by omega⟩))
 ·rintro (⟨e1, e2⟩ | ⟨e1, e2⟩ | ⟨e1, e2⟩ | ⟨e1, e2⟩)
  ·exact .inl (back (by rw [ex, e1, e2]; simp))
  ·refine .inr (.inr (.inl ?_))
   have := back (α := s - p.x) (by rw [← gx, e1, e2]; simp)
   omega
  ·exact .inr (.inl (back (by rw [ey, e1, e2]; simp)))
  ·refine .inr (.inr (.inr ?_))
   have := back (α := s - p.y) (by rw [← gy, e1, e2]; simp)
   omega
theorem TI.place {s : Int} {E : LS} {l : List Tr} (h : TI s E l) (h1 : 1 ≤ s) (hs : s ≤ 40) {p : Pt} (hp : inSq s p) (hc : ∀ t ∈ l, p ≠ t.a ∧ p ≠ t.b ∧ p ≠ t.c) :
 (∃ t ∈ l, (∀ v ∈ l, hasP v p = true ↔ v = t) ∧ ((0 < tw t.a t.b p ∧ 0 < tw t.b t.c p ∧ 0 < tw t.c t.a p) ∨ rimP s p)) ∨
 (∃ t ∈ l, ∃ u ∈ l, t ≠ u ∧ (∀ v ∈ l, hasP v p = true ↔ v = t ∨ v = u) ∧ ¬ rimP s p) := by
 obtain ⟨t, ht, hh⟩ := h.covers h1 hs hp
 have vt := h.mo.val t ht
 have pk := ok_of hs hp
 have hne := hc t ht
 obtain ⟨g1, g2, g3⟩ := (hasP_iff (rot_self t) vt pk).1 hh
 have edge : ∀ a b c, Rot3 t a b c → tw a b p = 0 → (∃ t ∈ l, (∀ v ∈ l, hasP v p = true ↔ v = t) ∧ ((0 < tw t.a t.b p ∧ 0 < tw t.b t.c p ∧ 0 < tw t.c t.a p) ∨ rimP s p)) ∨ (∃ t ∈ l, ∃ u ∈ l, t ≠ u ∧ (∀ v ∈ l, hasP v p = true ↔ v = t ∨ v = u) ∧ ¬ rimP s p) := fun a b c hr h0 => by
  have hq := ne_of_cor hr hne
  obtain ⟨j1, j2, j3⟩ := (hasP_iff hr vt pk).1 hh
  have tT := tw_of_valid hr vt
  obtain ⟨b1, b2, b3⟩ := hr.inT.1 (h.bx hs t ht)
  obtain ⟨s1, s2, s3⟩ := hr.sq.1 (h.sq t ht)
  have k2 : 0 < tw b c p := by
   rcases Int.lt_or_eq_of_le j2 with k | k
   ·exact k
   ·exact absurd (line_meet tT h0 k.symm) hq.2.1
  have k3 : 0 < tw c a p := by
   rcases Int.lt_or_eq_of_le j3 with k | k
   ·exact k
   ·exact absurd (line_meet (show 0 < tw c a b by rw [← tw_rot c a b]; exact tT) k.symm h0) hq.1
  have hmr := mid_rim s1 s2 s3 tT h0 k2 k3
  have hsome : (Mp.get E ⟨a, b⟩).isSome = true := by rw [(h.mo.get _ t).2 ⟨ht, (hr.mem _).2 (.inl rfl)⟩]; rfl
  have nab := (hr.ne vt).1
  have near : ∀ v ∈ l, hasP v p = true → v = t ∨ ∃ Z, Gen Z ∧ ins Z v = 1 ∧ 0 < S2 Z b a ∧ (∃ d, small d ∧ Z = nearZ 1 p d) := fun v hv hvp => by
   obtain ⟨d, hd, hd0, hi⟩ := h.towards hs hp hv hvp
   have hg := near_gen (p := p) (.inl rfl : (1 : Int) = 1 ∨ (1 : Int) = -1) hd hd0
   rcases Int.lt_or_gt_of_ne (hg a b b1 b2 nab) with k | k
   ·exact .inr ⟨_, hg, hi, by rw [S2_neg _ a b]; omega, d, hd, rfl⟩
   ·exact .inl (h.same hg hv ht hi (ins_one hr k (near_A (.inl rfl) b2 b3 hd k2) (near_A (.inl rfl) b3 b1 hd k3)))
  rcases h.clo a b hsome with c1 | c1
  ·obtain ⟨u, hu⟩ := Option.isSome_iff_exists.1 c1
   obtain ⟨ul, ue⟩ := (h.mo.get _ u).1 hu
   have vu := h.mo.val u ul
   obtain ⟨r, hur⟩ := rot_of_edge vu ue
   obtain ⟨o1, o2⟩ := opp_pos hr hur vt vu h0 k2 k3
   obtain ⟨d1, d2, d3⟩ := hur.inT.1 (h.bx hs u ul)
   have hup : hasP u p = true := (hasP_iff hur vu pk).2 ⟨by have : tw b a p = -tw a b p := (by unfold tw; grind); omega, by omega, by omega⟩
   refine .inr ⟨t, ht, u, ul, fun e => ?_, fun v hv => ⟨fun hvp => ?_, fun e => ?_⟩, fun hrim => ?_⟩
   ·subst e
    have m := (hr.mem ⟨b, a⟩).1 ue
    obtain ⟨n1, n2, n3⟩ := hr.ne vt
    rcases m with e | e | e
    ·exact n1 (congrArg En.b e)
    ·exact n3 (congrArg En.b e).symm
    ·exact n2 (congrArg En.a e)
   ·rcases near v hv hvp with e | ⟨Z, hg, hi, hz, d, hd, rfl⟩
    ·exact .inl e
    ·exact .inr (h.same hg hv ul hi (ins_one hur hz (near_A (.inl rfl) d2 d3 hd o1) (near_A (.inl rfl) d3 d1 hd o2)))
   ·rcases e with rfl | rfl
    ·exact hh
    ·exact hup
   ·have := h.lone (hmr.1 hrim) hsome
    rw [this] at c1; cases c1
  ·refine .inl ⟨t, ht, fun v hv => ⟨fun hvp => ?_, fun e => e ▸ hh⟩, .inr (hmr.2 c1)⟩
   rcases near v hv hvp with e | ⟨Z, hg, hi, hz, d, hd, rfl⟩
   ·exact e
   ·exfalso
    obtain ⟨v1, v2, v3⟩ := h.sq v hv
    obtain ⟨i1, i2, i3⟩ := ins_parts (rot_self v) hi
    have hzz := in_sq v1 v2 v3 (tw_of_valid (rot_self v) (h.mo.val v hv)) i1 i2 i3
    have := side_pos hzz s3 tT c1
    rw [S2_neg _ a b] at hz
    omega
 rcases Int.lt_or_eq_of_le g1 with k1 | k1
 ·rcases Int.lt_or_eq_of_le g2 with k2 | k2
  ·rcases Int.lt_or_eq_of_le g3 with k3 | k3
   ·exact .inl ⟨t, ht, fun v hv => ⟨fun hvp => h.alone hs hp ht hv (rot_self t) k1 k2 k3 hvp, fun e => e ▸ hh⟩, .inl ⟨k1, k2, k3⟩⟩
   ·exact edge t.c t.a t.b (.inr (.inl rfl)) k3.symm
  ·exact edge t.b t.c t.a (.inr (.inr rfl)) k2.symm
 ·exact edge t.a t.b t.c (.inl rfl) k1.symm
end Go.Proofs.YtnpnjhopgedhkaaGreat
namespace Go.Proofs.YtnpnjhopgedhkaaGreat
open Go.RowKit V Geo
def InvP (s : Int) (ps : List Pt) (E : LS) : Prop := ∃ l, TI s E l ∧ ∀ p ∈ ps, IsC l p
theorem InvP.new {s : Int} {E : LS} (h : InvT s E) : InvP s [] E := by
 obtain ⟨l, h⟩ := h
 exact ⟨l, h, fun p hp => by cases hp⟩
theorem InvP.at {s : Int} {ps : List Pt} {E : LS} (h1 : 1 ≤ s) (hs : s ≤ 40) (h : InvP s ps E) {p : Pt} (hp : inSq s p) : atL E p ≠ [] := by
 obtain ⟨l, h, _⟩ := h
 obtain ⟨t, ht, hh⟩ := h.covers h1 hs hp
 intro e
 have := (h.mo.at p).mem_iff.2 (List.mem_filter.2 ⟨ht, hh⟩)
 rw [e] at this; cases this
theorem not_isC {l : List Tr} {p : Pt} (h : ¬ IsC l p) : ∀ t ∈ l, p ≠ t.a ∧ p ≠ t.b ∧ p ≠ t.c := fun t ht => ⟨fun e => h ⟨t, ht, .inl e⟩, fun e => h ⟨t, ht, .inr (.inl e)⟩, fun e => h ⟨t, ht, .inr (.inr e)⟩⟩
theorem InvP.star {s : Int} {ps : List Pt} {E : LS} (h : InvP s ps E) {p : Pt} (hp : starL E p ≠ []) : InvP s (ps ++ [p]) E := by
 obtain ⟨l, h, hc⟩ := h
 refine ⟨l, h, fun q hq => ?_⟩
 rcases List.mem_append.1 hq with hq | hq
 ·exact hc q hq
 ·rw [List.mem_singleton] at hq
  subst hq
  by_cases k : IsC l q
  ·exact k
  ·exact absurd ((h.mo.star q).2 (not_isC k)) hp
theorem InvP.add {s : Int} {ps : List Pt} {E : LS} (hs : s ≤ 40) (h : InvP s ps E) {p : Pt} (hp : inSq s p) (ha : atL E p ≠ []) (hst : starL E p = []) : InvP s (ps ++ [p]) (addE E p) := by
 obtain ⟨l, h, hc⟩ := h
 obtain ⟨l', h', k, _⟩ := h.add hs hp hst
 refine ⟨l', h', fun q hq => ?_⟩
 rcases List.mem_append.1 hq with hq | hq
 ·exact k q (.inr (hc q hq))
 ·rw [List.mem_singleton] at hq
  exact k q (.inl ⟨hq, ha⟩)
theorem alongT_from {t : Tr} {p q b c : Pt} (hv : validT t = true) (hr : Rot3 t p b c) (hp : p.ok) (hq : q.ok) (hne : p ≠ q) (h1 : 0 ≤ tw p b q) (h2 : 0 ≤ tw c p q) : alongT t p q = true := by
 unfold alongT
 rw [hv, decide_eq_true hp, decide_eq_true hq, decide_eq_false hne]
 show alongS (standL t p q) (0, 1) (1, 1) = true
 have tT := tw_of_valid hr hv
 have z1 : tw p b p = 0 := by unfold tw; grind
 have z2 : tw c p p = 0 := by unfold tw; grind
 have z3 : tw b c p = tw p b c := tw_rot p b c
 refine alongS_from _ _ (fun x hx => ?_) (by decide)
 have hm : x = (tw p b p, tw p b q) ∨ x = (tw b c p, tw b c q) ∨ x = (tw c p p, tw c p q) := by
  unfold standL at hx
  simp only [List.mem_cons, List.not_mem_nil, or_false] at hx
  rcases hr with rfl | rfl | rfl
  ·exact hx
  ·rcases hx with e | e | e
   ·exact .inr (.inl e)
   ·exact .inr (.inr e)
   ·exact .inl e
  ·rcases hx with e | e | e
   ·exact .inr (.inr e)
   ·exact .inl e
   ·exact .inr (.inl e)
 rcases hm with rfl | rfl | rfl
 ·exact ⟨by show 0 ≤ tw p b p; omega, fun _ => h1⟩
 ·exact ⟨by show 0 ≤ tw b c p; omega, fun e => by have e : tw b c p = 0 := e; omega⟩
 ·exact ⟨by show 0 ≤ tw c p p; omega, fun _ => h2⟩
theorem TI.first {s : Int} {E : LS} {l : List Tr} (h : TI s E l) (h1 : 1 ≤ s) (hs : s ≤ 40) {p q : Pt} (hc : IsC l p) (hq : inSq s q) (hne : p ≠ q) : ∃ t ∈ l, alongT t p q = true ∧ (t.a = p ∨ t.b = p ∨ t.c = p) := by
 obtain ⟨u, hu, hx⟩ := hc
 have hr : ∃ x y, Rot3 u p x y := by
  rcases hx with e | e | e
  ·exact ⟨_, _, e ▸ rot_self u⟩
  ·exact ⟨_, _, e ▸ (rot_self u).turn⟩
  ·exact ⟨_, _, e ▸ (rot_self u).turn.turn⟩
 obtain ⟨x, y, hr⟩ := hr
 have hp := (hr.sq.1 (h.sq u hu)).1
 obtain ⟨t, ht, he⟩ := h.into h1 hs (d := ⟨q.x - p.x, q.y - p.y⟩) hp (by unfold inSq at *; dsimp only; omega) (fun ⟨k1, k2⟩ => hne (by cases p; cases q; simp at k1 k2 ⊢; omega))
 have hh := ent_has h hs hp ht he
 have hk := h.novert hs ht hu hr hh
 have hb : ∃ b c, Rot3 t p b c := by
  rcases hk with e | e | e
  ·exact ⟨_, _, e ▸ rot_self t⟩
  ·exact ⟨_, _, e ▸ (rot_self t).turn⟩
  ·exact ⟨_, _, e ▸ (rot_self t).turn.turn⟩
 obtain ⟨b, c, hb⟩ := hb
 have z1 : tw p b p = 0 := by unfold tw; grind
 have z2 : tw c p p = 0 := by unfold tw; grind
 have e1 := he _ _ _ hb
 have e2 := he _ _ _ hb.turn.turn
 unfold entI at e1 e2
 dsimp only at e1 e2
 refine ⟨t, ht, alongT_from (h.mo.val t ht) hb (ok_of hs hp) (ok_of hs hq) hne ?_ ?_, ?_⟩
 ·have : tw p b q = (b.x - p.x) * (q.y - p.y) - (b.y - p.y) * (q.x - p.x) := by unfold tw; grind
  omega
 ·have : tw c p q = (p.x - c.x) * (q.y - p.y) - (p.y - c.y) * (q.x - p.x) := by unfold tw; grind
  omega
 ·rcases hk with e | e | e
  ·exact .inl e.symm
  ·exact .inr (.inl e.symm)
  ·exact .inr (.inr e.symm)
end Go.Proofs.YtnpnjhopgedhkaaGreat
namespace Go.Proofs.YtnpnjhopgedhkaaGreat
open Go.RowKit V Geo
theorem TI.ends {s : Int} {E : LS} {l : List Tr} (h : TI s E l) (h1 : 1 ≤ s) (hs : s ≤ 40) {p q : Pt} (hp : IsC l p) (hq : IsC l q) (hip : inSq s p) (hiq : inSq s q) (hne : p ≠ q) :
 (∃ t ∈ l.filter (fun t => alongT t p q), t.a = p ∨ t.b = p ∨ t.c = p) ∧ (∃ t ∈ l.filter (fun t => alongT t p q), t.a = q ∨ t.b = q ∨ t.c = q) := by
 obtain ⟨t, ht, k1, k2⟩ := h.first h1 hs hp hiq hne
 obtain ⟨u, hu, j1, j2⟩ := h.first h1 hs hq hip (Ne.symm hne)
 rw [alongT_back] at j1
 exact ⟨⟨t, List.mem_filter.2 ⟨ht, k1⟩, k2⟩, ⟨u, List.mem_filter.2 ⟨hu, j1⟩, j2⟩⟩
attribute [local irreducible] VR VJ VC decOk decBt
end Go.Proofs.YtnpnjhopgedhkaaGreat
namespace Go.Proofs.YtnpnjhopgedhkaaGreat
open Go.RowKit V Geo
abbrev GL (ts : TS) (le E : LS) (W : List Wl) (s : Int) : Gl := gov [(0, bxM), (1, mT ts none), (2, mL le none), (3, bxN), (4, mL E none), (5, bxR W), (6, bxC s s)] E0
theorem GL_mesh (ts : TS) (le E : LS) (W : List Wl) (s : Int) : MeshG (GL ts le E W s) ts le := ⟨rfl, ⟨none, rfl⟩, ⟨none, rfl⟩⟩
theorem GL_ref (ts : TS) (le E : LS) (W : List Wl) (s : Int) : RefG (GL ts le E W s) E := ⟨rfl, ⟨none, rfl⟩⟩
theorem GL_free (ts : TS) (le E : LS) (W : List Wl) (s : Int) : Free 10 15 (GL ts le E W s) := by
 intro n h1 h2
 have h0 : n ≠ 0 := by omega
 have k1 : n ≠ 1 := by omega
 have k2 : n ≠ 2 := by omega
 have k3 : n ≠ 3 := by omega
 have k4 : n ≠ 4 := by omega
 have k5 : n ≠ 5 := by omega
 have k6 : n ≠ 6 := by omega
 simp [gov, lk, h0, k1, k2, k3, k4, k5, k6]
def kp3 (n : Nat) : Bool := Nat.ble n 2
theorem kp3_yes {n : Nat} (h : kp3 n = true) : n = 0 ∨ n = 1 ∨ n = 2 := by
 have := Nat.le_of_ble_eq_true h
 omega
theorem kp3_no {n : Nat} (h : kp3 n = false) : 3 ≤ n := by
 rcases Nat.lt_or_ge n 3 with h1 | h1
 ·have : kp3 n = true := Nat.ble_eq_true_of_le (by omega)
  rw [h] at this; cases this
 ·exact h1
theorem GK3 (E : LS) (W : List Wl) (s : Int) : GK kp3 (GC s s E W E0) = E0 := by
 funext n
 show (if kp3 n = true then GC s s E W E0 n else none) = none
 by_cases h : kp3 n = true
 ·rw [if_pos h]
  rcases kp3_yes h with rfl | rfl | rfl <;> rfl
 ·rw [if_neg h]
theorem GM3L (ts : TS) (le E : LS) (W : List Wl) (s : Int) : GM kp3 (GMz ts none le none) (GC s s E W E0) = GL ts le E W s := by
 funext n
 show (if kp3 n = true then GMz ts none le none n else GC s s E W E0 n) = _
 by_cases h : kp3 n = true
 ·rw [if_pos h]
  rcases kp3_yes h with rfl | rfl | rfl <;> rfl
 ·rw [if_neg h]
  have := kp3_no (by simpa using h)
  have h0 : n ≠ 0 := by omega
  have h1 : n ≠ 1 := by omega
  have h2 : n ≠ 2 := by omega
  by_cases h3 : n = 3
  ·subst h3; rfl
  by_cases h4 : n = 4
  ·subst h4; rfl
  by_cases h5 : n = 5
  ·subst h5; rfl
  by_cases h6 : n = 6
  ·subst h6; rfl
  simp [gov, lk, h0, h1, h2, h3, h4, h5, h6]
theorem GMz_no {n : Nat} (h : kp3 n = false) (ts : TS) (le : LS) : GMz ts none le none n = none := by
 have := kp3_no h
 have h0 : n ≠ 0 := by omega
 have h1 : n ≠ 1 := by omega
 have h2 : n ≠ 2 := by omega
 simp [gov, lk, h0, h1, h2]
attribute [local irreducible] VR VJ VC decOk decBt
end Go.Proofs.YtnpnjhopgedhkaaGreat
namespace Go.Proofs.YtnpnjhopgedhkaaGreat
open Go.RowKit V Geo
abbrev iV : Int → Value := Value.int .i64
theorem map_get_i {l : List Int} {j : Nat} (h : j < l.length) : (l.map iV)[j]? = some (.int .i64 l[j]) := by simp [h]
theorem eqI_of {a b : Int} (h : a = b) (T : TypeId) (x y : Operand) (w : World) : (do eqGuard .eql T x y (.int .i64 a) (.int .i64 b); binOp .eql T (.int .i64 a) (.int .i64 b) : Sem Value).run Tryz.prog w = .ok (.bool true) w := by
 subst h
 have := ib_run (P := Tryz.prog) (op := .eql) (k := .i64) (a := a) (b := a) rfl T x y w
 simpa using this
abbrev vM2 : AV := .tup [.ptr (.g 0) 0, .ptr (.g 6) 0]
attribute [local irreducible] VR VJ VC decOk decBt
set_option maxRecDepth 20000 in
set_option maxHeartbeats 8000000 in
theorem v_built (I : Nat → LS → Prop) (s : Int) (hs1 : 1 ≤ s) (hs2 : s ≤ 40) (KI : ∀ j W, Keeps W (I j)) (h0I : ∀ E1, newR [] (sqT s) = some E1 → I 0 E1) (ps : List Int) (few : ps.length ≤ 25)
 (hN : ∀ j (h : j < ps.length) E, I j E → atL E (spotP s ps[j]) = [] → I (j + 1) E) (hS : ∀ j (h : j < ps.length) E, I j E → starL E (spotP s ps[j]) ≠ [] → I (j + 1) E)
 (hA : ∀ j (h : j < ps.length) E, I j E → atL E (spotP s ps[j]) ≠ [] → starL E (spotP s ps[j]) = [] → I (j + 1) (addE E (spotP s ps[j]))) (Q : Po)
 (hQ : ∀ E W, I ps.length E → Q vM2 (GL (meshOf (trisR E)).1 (meshOf (trisR E)).2 E W s)) : VC Tryz.prog 9 [vI s, vL 1 (ps.map iV), vNS] E0 Q := by
 refine VC.of_body Tryz.func9 rfl rfl rfl fun W0 h0 x0 hG0 => ?_
 simp only [args0]
 obtain ⟨E1, hE1, _⟩ := sqTI hs1 hs2
 have hI1 := h0I E1 hE1
 repeat' (first | refine VJ.seq ?_ | refine VJ.skip ?_ | refine VJ.block ?_ | refine VJ.inBlock ?_ | refine VJ.exit rfl ?_ | refine VJ.cond_t rfl ?_ | refine VJ.cond_f rfl ?_ | refine VJ.region_k fun K hK => ?_ | (refine VR.done (hK _ ?_); clear hK K) | (first | refine VR.move rfl rfl ?_ | refine VR.assign rfl rfl ?_ | (show onLd; refine VR.load tok rfl rfl rfl (by first | rfl | exact (ldp_el (by assumption)).trans (by rfl)) ?_) | (show onFa; refine VR.fieldAddr tok rfl rfl rfl (by first | rfl | exact place_el (by assumption)) rfl rfl ?_) | (show onIx; refine VR.indexAddr tok rfl rfl rfl rfl rfl rfl rfl (elA_lst (by assumption)) ?_) | (show onIx; refine VR.indexArr tok rfl (arrOk (by rfl)) rfl rfl (by first | rfl | exact place_el (by assumption)) rfl rfl (by decide) rfl ?_) | refine VR.int rfl rfl rfl rfl ?_ | refine VR.nilCheck rfl rfl rfl ?_ | refine VR.extract rfl rfl rfl ?_ | refine VR.len tok rfl rfl rfl rfl rfl ?_ | (refine VR.call fok25 rfl rfl rfl rfl ?_; refine v_newCDT (I 0) (KI 0) s hs1 hs2 E1 hE1 hI1 _ (fun E2 W2 hI2 hW2 => ?_))))
 refine VJ.to 0 [(9, vI ((0 : Nat) : Int)), (8, vC), (2, vNS), (1, vL 1 (ps.map iV)), (0, vI s)] [] ?_ rfl (by repeat' first | exact trivial | refine ⟨rfl, ?_⟩) trivial (by rfl)
 refine VJ.rec (fun p : Nat × LS × List Wl => ⟨0, [(9, vI p.1), (8, vC), (2, vNS), (1, vL 1 (ps.map iV)), (0, vI s)], [], GC s s p.2.1 p.2.2 E0⟩) (fun p => ps.length - p.1) (fun p => p.1 ≤ ps.length ∧ I p.1 p.2.1 ∧ p.2.2.length ≤ 4 + 2 * p.1) (0, E2, W2) ⟨Nat.zero_le _, hI2, by show W2.length ≤ 4 + 2 * 0; omega⟩ ?_
 rintro ⟨j, E, W⟩ ⟨hj, hI, hW⟩ ih
 dsimp only at hj hI hW ih ⊢
 clear hI1 hE1 hI2 hW2
 repeat' (first | refine VJ.seq ?_ | refine VJ.skip ?_ | refine VJ.block ?_ | refine VJ.inBlock ?_ | refine VJ.exit rfl ?_ | refine VJ.cond_t rfl ?_ | refine VJ.cond_f rfl ?_ | refine VJ.region_k fun K hK => ?_ | (refine VR.done (hK _ ?_); clear hK K) | (first | refine VR.move rfl rfl ?_ | refine VR.assign rfl rfl ?_ | (show onLd; refine VR.load tok rfl rfl rfl (by first | rfl | exact (ldp_el (by assumption)).trans (by rfl)) ?_) | (show onFa; refine VR.fieldAddr tok rfl rfl rfl (by first | rfl | exact place_el (by assumption)) rfl rfl ?_) | (show onIx; refine VR.indexAddr tok rfl rfl rfl rfl rfl rfl rfl (elA_lst (by assumption)) ?_) | (show onIx; refine VR.indexArr tok rfl (arrOk (by rfl)) rfl rfl (by first | rfl | exact place_el (by assumption)) rfl rfl (by decide) rfl ?_) | refine VR.int rfl rfl rfl rfl ?_ | refine VR.nilCheck rfl rfl rfl ?_ | refine VR.extract rfl rfl rfl ?_ | refine VR.len tok rfl rfl rfl rfl rfl ?_))
 refine VJ.cond rfl (fun hb => ?_) (fun hb => ?_)
 ·have hlt : j < ps.length := by simpa using hb
  have hget := map_get_i hlt
  have n1 := hN j hlt E hI
  have n2 := hS j hlt E hI
  have n3 := hA j hlt E hI
  generalize ps[j] = v at hget n1 n2 n3
  repeat' (first | refine VJ.seq ?_ | refine VJ.skip ?_ | refine VJ.block ?_ | refine VJ.inBlock ?_ | refine VJ.exit rfl ?_ | refine VJ.cond_t rfl ?_ | refine VJ.cond_f rfl ?_ | refine VJ.region_k fun K hK => ?_ | (refine VR.done (hK _ ?_); clear hK K) | (first | refine VR.move rfl rfl ?_ | refine VR.assign rfl rfl ?_ | (show onLd; refine VR.load tok rfl rfl rfl (by first | rfl | exact (ldp_el (by assumption)).trans (by rfl)) ?_) | (show onFa; refine VR.fieldAddr tok rfl rfl rfl (by first | rfl | exact place_el (by assumption)) rfl rfl ?_) | (show onIx; refine VR.indexAddr tok rfl rfl rfl rfl rfl rfl rfl (elA_lst (by assumption)) ?_) | (show onIx; refine VR.indexArr tok rfl (arrOk (by rfl)) rfl rfl (by first | rfl | exact place_el (by assumption)) rfl rfl (by decide) rfl ?_) | refine VR.int rfl rfl rfl rfl ?_ | refine VR.nilCheck rfl rfl rfl ?_ | refine VR.extract rfl rfl rfl ?_ | refine VR.len tok rfl rfl rfl rfl rfl ?_ | (refine VR.call fok26 rfl rfl rfl rfl ?_; refine v_cdtAdd (I j) (I (j + 1)) (KI j) (KI (j + 1)) s s E hI W (by omega) (spotP s v) n1 n2 n3 E0 rfl _ (fun r E3 W3 hI3 hW3 => ?_))) | (refine VR.call fok19 rfl rfl rfl rfl ?_; refine (v_spot s v hs1 hs2 _ _ ?_)))
  exact VJ.to 0 _ _ (ih (j + 1, E3, W3) ⟨hlt, hI3, by show W3.length ≤ 4 + 2 * (j + 1); omega⟩ (show ps.length - (j + 1) < ps.length - j by omega)) rfl ⟨vI_succ (by omega), by rfl, by rfl, by rfl, by rfl, trivial⟩ trivial (by rfl)
 have hje : j = ps.length := by
  have : ¬ j < ps.length := by simpa using hb
  omega
 subst hje
 clear ih hb hN hS hA
 have hq := hQ E W hI
 obtain ⟨m, l, hm, hsq⟩ := (KI _ []).sq E hI
 have few : E.length < 100000 := (KI _ []).few hI
 have hL : MO E (trisR E) := hsq.mo.perm ((sortT_perm _).trans hsq.mo.trs).symm
 obtain ⟨hnew, hP⟩ := made_pm hL
 have hlen : (trisR E).length < 100000 := by
  have := hsq.mo.len
  have h2 := ((sortT_perm (trsOf E)).trans hsq.mo.trs).length_eq
  unfold trisR
  omega
 clear hQ hsq hm hI hL
 obtain ⟨L, hLe⟩ : ∃ L, trisR E = L := ⟨_, rfl⟩
 rw [hLe] at hq hnew hlen hP
 repeat' (first | refine VJ.seq ?_ | refine VJ.skip ?_ | refine VJ.block ?_ | refine VJ.inBlock ?_ | refine VJ.exit rfl ?_ | refine VJ.cond_t rfl ?_ | refine VJ.cond_f rfl ?_ | refine VJ.region_k fun K hK => ?_ | (refine VR.done (hK _ ?_); clear hK K) | (first | refine VR.move rfl rfl ?_ | refine VR.assign rfl rfl ?_ | (show onLd; refine VR.load tok rfl rfl rfl (by first | rfl | exact (ldp_el (by assumption)).trans (by rfl)) ?_) | (show onFa; refine VR.fieldAddr tok rfl rfl rfl (by first | rfl | exact place_el (by assumption)) rfl rfl ?_) | (show onIx; refine VR.indexAddr tok rfl rfl rfl rfl rfl rfl rfl (elA_lst (by assumption)) ?_) | (show onIx; refine VR.indexArr tok rfl (arrOk (by rfl)) rfl rfl (by first | rfl | exact place_el (by assumption)) rfl rfl (by decide) rfl ?_) | refine VR.int rfl rfl rfl rfl ?_ | refine VR.nilCheck rfl rfl rfl ?_ | refine VR.extract rfl rfl rfl ?_ | refine VR.len tok rfl rfl rfl rfl rfl ?_))
 refine VJ.to 0 [(10, vI ((0 : Nat) : Int)), (8, vC), (2, vNS)] [] ?_ rfl (by repeat' first | exact trivial | refine ⟨rfl, ?_⟩) trivial (by rfl)
 refine VJ.rec (fun _ : Nat => ⟨0, [(10, vI ((0 : Nat) : Int)), (8, vC), (2, vNS)], [], GC s s E W E0⟩) (fun _ => 0) (fun _ => True) 0 trivial ?_
 intro _ _ _
 repeat' (first | refine VJ.seq ?_ | refine VJ.skip ?_ | refine VJ.block ?_ | refine VJ.inBlock ?_ | refine VJ.exit rfl ?_ | refine VJ.cond_t rfl ?_ | refine VJ.cond_f rfl ?_ | refine VJ.region_k fun K hK => ?_ | (refine VR.done (hK _ ?_); clear hK K) | (first | refine VR.move rfl rfl ?_ | refine VR.assign rfl rfl ?_ | (show onLd; refine VR.load tok rfl rfl rfl (by first | rfl | exact (ldp_el (by assumption)).trans (by rfl)) ?_) | (show onFa; refine VR.fieldAddr tok rfl rfl rfl (by first | rfl | exact place_el (by assumption)) rfl rfl ?_) | (show onIx; refine VR.indexAddr tok rfl rfl rfl rfl rfl rfl rfl (elA_lst (by assumption)) ?_) | (show onIx; refine VR.indexArr tok rfl (arrOk (by rfl)) rfl rfl (by first | rfl | exact place_el (by assumption)) rfl rfl (by decide) rfl ?_) | refine VR.int rfl rfl rfl rfl ?_ | refine VR.nilCheck rfl rfl rfl ?_ | refine VR.extract rfl rfl rfl ?_ | refine VR.len tok rfl rfl rfl rfl rfl ?_ | (refine VR.call fok29 rfl rfl rfl rfl ?_; refine v_trisG E few _ ⟨rfl, ⟨none, rfl⟩⟩ _ ?_; rw [hLe]) | (refine VR.callk kp3 [] fok28 rfl rfl rfl rfl (fun n o hn h => by rcases kp3_yes hn with rfl | rfl | rfl <;> cases h) ?_; rw [GK3]; refine v_newM L (by omega) _ (fun h => absurd hnew h) (fun _ => ⟨(fun n h => GMz_no h _ _), .inl rfl, ?_⟩); rw [GM3L])))
 refine VJ.ret tok (by rfl) (by rfl) ?_
 exact hq
end Go.Proofs.YtnpnjhopgedhkaaGreat
namespace Go.Proofs.YtnpnjhopgedhkaaGreat
open Go.RowKit V Geo
attribute [local irreducible] VR VJ VC decOk decBt
theorem v_starNil (p : Pt) (Q : Po) (G : Gl) (hfr : Free 10 15 G) (hQ : Q vNS G) : VC Tryz.prog 13 [vNil, vV (ptV p)] G Q := by
 refine VC.of_body Tryz.func13 rfl rfl rfl fun W0 h0 x0 hG0 => ?_
 simp only [args0]
 refine VJ.seq ?_
 refine VJ.region_k fun K hK => ?_
 refine VR.boxG 13 (hfr 13 (by decide) (by decide)) rfl rfl rfl rfl ?_
 repeat' (first | refine VJ.seq ?_ | refine VJ.skip ?_ | refine VJ.cond_t rfl ?_ | refine VJ.cond_f rfl ?_ | refine VJ.region_k fun K hK => ?_ | (refine VR.done (hK _ ?_); clear hK K) | (first | refine VR.move rfl rfl ?_ | refine VR.assign rfl rfl ?_ | refine VR.box rfl rfl rfl ?_ | refine VR.makeFunc rfl rfl ?_) | (refine VR.call fok30 rfl rfl rfl rfl ?_; refine (v_those_nil 35 [.ptr (.g 13) 0] rfl _ _ ?_)))
 refine VJ.retF tok (by rfl) (by rfl) hG0 ?_ (by rfl) ?_
 ·intro n o h
  have hn := hfr.ne h
  simp [hn 13 (by decide) (by decide), h]
 ·exact hQ
theorem v_closedNil (p : Pt) (Q : Po) (G : Gl) (hfr : Free 10 15 G) (hQ : Q (vB false) G) : VC Tryz.prog 17 [vNil, vV (ptV p)] G Q := by
 refine VC.of_body Tryz.func17 rfl rfl rfl fun W0 h0 x0 hG0 => ?_
 simp only [args0]
 repeat' (first | refine VJ.seq ?_ | refine VJ.skip ?_ | refine VJ.block ?_ | refine VJ.inBlock ?_ | refine VJ.exit rfl ?_ | refine VJ.cond_t rfl ?_ | refine VJ.cond_f rfl ?_ | refine VJ.region_k fun K hK => ?_ | (refine VR.done (hK _ ?_); clear hK K) | (first | refine VR.move rfl rfl ?_ | refine VR.assign rfl rfl ?_ | (show onLd; refine VR.load tok rfl rfl rfl (by first | rfl | exact (ldp_el (by assumption)).trans (by rfl)) ?_) | (show onIx; refine VR.indexAddr tok rfl rfl rfl rfl rfl rfl rfl (elA_lst (by assumption)) ?_) | refine VR.int rfl rfl rfl rfl ?_ | (refine VR.pickB rfl rfl rfl rfl ?_ ?_ ?_; iterate 2 (first | exact trivial | (refine fun h => ?_; first | (rw [h]; rfl) | (rw [h, hg]; rfl) | (rw [hg, h]; rfl) | (simp [h, hg]; done)))) | refine VR.pick rfl rfl rfl ?_ | refine VR.not rfl rfl ?_ | refine VR.g_yes rfl rfl (by first | rfl | assumption) ?_ | refine VR.g_no rfl rfl rfl (by first | rfl | assumption) ?_ | refine VR.box rfl rfl rfl ?_ | refine VR.alloc tok rfl rfl rfl ?_ | refine VR.store tok rfl rfl rfl rfl rfl rfl rfl (by first | (intro n e; cases e; done) | exact (fun _ _ q => all_glA (by rfl) q)) ?_ | refine VR.extract rfl rfl rfl ?_ | refine VR.len tok rfl rfl rfl rfl rfl ?_) | (refine' VR.spec (by rfl) (by rfl) (by rfl) ?_ ?_ ?_; rotate_left 1; (repeat (first | exact trivial | refine And.intro id ?_)); intro hg K1 hK1; (first | refine VR.move rfl rfl ?_ | (show onLd; refine VR.load tok rfl rfl rfl (by first | rfl | exact (ldp_el (by assumption)).trans (by rfl)) ?_) | refine VR.int rfl rfl rfl rfl ?_ | (refine VR.pickB rfl rfl rfl rfl ?_ ?_ ?_; iterate 2 (first | exact trivial | (refine fun h => ?_; first | (rw [h]; rfl) | (rw [h, hg]; rfl) | (rw [hg, h]; rfl) | (simp [h, hg]; done)))) | refine VR.pick rfl rfl rfl ?_ | (refine VR.call fok13 rfl rfl rfl rfl ?_; refine (v_starNil p _ _ hfr ?_))); exact VR.done hK1) | (refine VR.call fok13 rfl rfl rfl rfl ?_; refine (v_starNil p _ _ hfr ?_)))
 refine VJ.to 0 [(18, vI ((0 : Nat) : Int)), (17, vI 0), (16, vNS), (5, vNS)] [] ?_ rfl (by repeat' first | exact trivial | refine ⟨rfl, ?_⟩) trivial (by rfl)
 refine VJ.rec (fun _ : Nat => ⟨0, [(18, vI ((0 : Nat) : Int)), (17, vI 0), (16, vNS), (5, vNS)], [], G⟩) (fun _ => 0) (fun _ => True) 0 trivial ?_
 intro _ _ _
 repeat' (first | refine VJ.seq ?_ | refine VJ.skip ?_ | refine VJ.block ?_ | refine VJ.inBlock ?_ | refine VJ.exit rfl ?_ | refine VJ.cond_t rfl ?_ | refine VJ.cond_f rfl ?_ | refine VJ.region_k fun K hK => ?_ | (refine VR.done (hK _ ?_); clear hK K) | (first | refine VR.move rfl rfl ?_ | refine VR.assign rfl rfl ?_ | (show onLd; refine VR.load tok rfl rfl rfl (by first | rfl | exact (ldp_el (by assumption)).trans (by rfl)) ?_) | (show onIx; refine VR.indexAddr tok rfl rfl rfl rfl rfl rfl rfl (elA_lst (by assumption)) ?_) | refine VR.int rfl rfl rfl rfl ?_ | (refine VR.pickB rfl rfl rfl rfl ?_ ?_ ?_; iterate 2 (first | exact trivial | (refine fun h => ?_; first | (rw [h]; rfl) | (rw [h, hg]; rfl) | (rw [hg, h]; rfl) | (simp [h, hg]; done)))) | refine VR.pick rfl rfl rfl ?_ | refine VR.not rfl rfl ?_ | refine VR.g_yes rfl rfl (by first | rfl | assumption) ?_ | refine VR.g_no rfl rfl rfl (by first | rfl | assumption) ?_ | refine VR.box rfl rfl rfl ?_ | refine VR.alloc tok rfl rfl rfl ?_ | refine VR.store tok rfl rfl rfl rfl rfl rfl rfl (by first | (intro n e; cases e; done) | exact (fun _ _ q => all_glA (by rfl) q)) ?_ | refine VR.extract rfl rfl rfl ?_ | refine VR.len tok rfl rfl rfl rfl rfl ?_) | (refine' VR.spec (by rfl) (by rfl) (by rfl) ?_ ?_ ?_; rotate_left 1; (repeat (first | exact trivial | refine And.intro id ?_)); intro hg K1 hK1; (first | refine VR.move rfl rfl ?_ | (show onLd; refine VR.load tok rfl rfl rfl (by first | rfl | exact (ldp_el (by assumption)).trans (by rfl)) ?_) | refine VR.int rfl rfl rfl rfl ?_ | (refine VR.pickB rfl rfl rfl rfl ?_ ?_ ?_; iterate 2 (first | exact trivial | (refine fun h => ?_; first | (rw [h]; rfl) | (rw [h, hg]; rfl) | (rw [hg, h]; rfl) | (simp [h, hg]; done)))) | refine VR.pick rfl rfl rfl ?_); exact VR.done hK1))
 refine VJ.ret tok (by rfl) (by rfl) ?_
 exact hQ
set_option maxRecDepth 20000 in
set_option maxHeartbeats 8000000 in
theorem v_awakeW (Q : Po) (hQ : Q (vB true) E0) : VC Tryz.prog 8 [] E0 Q := by
 refine VC.of_body Tryz.func8 rfl rfl rfl fun W0 h0 x0 hG0 => ?_
 simp only [args0]
 repeat' (first | refine VJ.seq ?_ | refine VJ.skip ?_ | refine VJ.cond_t rfl ?_ | refine VJ.cond_f rfl ?_ | refine VJ.region_k fun K hK => ?_ | (refine VR.done (hK _ ?_); clear hK K) | (first | refine VR.move rfl rfl ?_ | refine VR.assign rfl rfl ?_ | (show onLd; refine VR.load tok rfl rfl rfl rfl ?_) | refine VR.int rfl rfl rfl rfl ?_ | (refine VR.pickB rfl rfl rfl rfl ?_ ?_ ?_; iterate 2 (first | exact trivial | (refine fun h => ?_; first | (rw [h]; rfl) | (rw [h, hg]; rfl) | (rw [hg, h]; rfl) | (simp [h, hg]; done)))) | refine VR.pick rfl rfl rfl ?_ | refine VR.not rfl rfl ?_ | refine VR.g_yes rfl rfl (by first | rfl | assumption) ?_ | refine VR.g_no rfl rfl rfl (by first | rfl | assumption) ?_ | refine VR.alloc tok rfl rfl rfl ?_ | refine VR.store tok rfl rfl rfl rfl rfl rfl rfl (by first | (intro n e; cases e; done) | exact (fun _ _ q => all_glA (by rfl) q)) ?_ | refine VR.extract rfl rfl rfl ?_ | refine VR.buildL (n := 1) [_, _] tok rfl rfl rfl rfl rfl rfl rfl rfl ?_ | refine VR.len tok rfl rfl rfl rfl rfl ?_ | refine VR.eqNil rfl rfl rfl rfl (ptrOk (by rfl)) ?_ | refine VR.neNil rfl rfl rfl rfl (ptrOk (by rfl)) ?_ | (refine VR.buildLst ([(4 : Int)].map iV) tok (by rfl) (by rfl) (by rfl) (by rfl) (by rfl) (by rfl) (by rfl) (by rfl) (by rfl) (by rfl) (by rfl) ?_) | (refine VR.call fok9 rfl rfl rfl rfl ?_; refine v_built I4 2 (by decide) (by decide) keeps4 (fun E1 h => I4_new h) [4] (by decide) (fun j hj E hI h => ?_) (fun j hj E hI h => ?_) (fun j hj E hI h1 h2 => ?_) _ (fun E W hI => ?_))) | (refine' VR.spec (by rfl) (by rfl) (by rfl) ?_ ?_ ?_; rotate_left 1; (repeat (first | exact trivial | refine And.intro id ?_)); intro hg K1 hK1; (first | refine VR.move rfl rfl ?_ | (show onLd; refine VR.load tok rfl rfl rfl rfl ?_) | refine VR.int rfl rfl rfl rfl ?_ | refine VR.not rfl rfl ?_ | refine VR.buildL (n := 1) [_, _] tok rfl rfl rfl rfl rfl rfl rfl rfl ?_ | refine VR.len tok rfl rfl rfl rfl rfl ?_ | (refine VR.buildLst ([(4 : Int)].map iV) tok (by rfl) (by rfl) (by rfl) (by rfl) (by rfl) (by rfl) (by rfl) (by rfl) (by rfl) (by rfl) (by rfl) ?_) | (refine VR.call fok9 rfl rfl rfl rfl ?_; refine v_built I4 2 (by decide) (by decide) keeps4 (fun E1 h => I4_new h) [4] (by decide) (fun j hj E hI h => ?_) (fun j hj E hI h => ?_) (fun j hj E hI h1 h2 => ?_) _ (fun E W hI => ?_))); exact VR.done hK1))
 ·have : j = 0 := by simp at hj; exact hj
  subst this
  exact absurd (show atL E mid1 = [] by rw [← spot4]; exact h) (I4_at hI)
 ·have : j = 0 := by simp at hj; exact hj
  subst this
  exact absurd (I4_star hI) (show starL E mid1 ≠ [] by rw [← spot4]; exact h)
 ·have : j = 0 := by simp at hj; exact hj
  subst this
  have := I4_add hI (I4_star hI)
  rw [← spot4] at this
  exact this
 obtain ⟨l, hT, hp⟩ := hI
 have hLl : (trisR E).Perm l := (sortT_perm _).trans hT.mo.trs
 have hT := hT.perm hLl.symm
 have hp := hLl.trans hp
 obtain ⟨L, hL⟩ : ∃ L, trisR E = L := ⟨_, rfl⟩
 rw [hL] at hT hp ⊢
 obtain ⟨_, hP⟩ := made_pm hT.mo
 have hLM : trisM (meshOf L).1 = L := by rw [← hP.tris]; exact hL
 have hlen : L.length < 100 := by rw [hp.length_eq]; exact of_decide_eq_true (show decide (LB.length < 100) = true by kernel_rfl)
 generalize (meshOf L).1 = ts at hP hLM ⊢
 generalize (meshOf L).2 = le at hP ⊢
 have few : ts.length < 100000 := by rw [hP.tlen]; omega
 clear hL hLl hlen
 subst hLM
 have hp : (trisM ts).Perm LB := hp
 have m1 : ((((trisM ts).filter fun t => hasP t mid1).map Tr.v).length : Int) = 4 := by rw [List.length_map, (hp.filter _).length_eq, nB1]; rfl
 have m2 : ((((trisM ts).filter fun t => cornB t mid1).map Tr.v).length : Int) = 4 := by rw [List.length_map, (hp.filter _).length_eq, nB2]; rfl
 have m3 : ((((trisM ts).filter fun t => hasP t ⟨1, 0⟩).map Tr.v).length : Int) = 1 := by rw [List.length_map, (hp.filter _).length_eq, nB3]; rfl
 have m4 : ((((trisM ts).filter fun t => alongT t ⟨0, 0⟩ mid1).map Tr.v).length : Int) = 2 := by rw [List.length_map, (hp.filter _).length_eq, nB4]; rfl
 have m5 : ((((trisM ts).filter fun t => alongT t mid1 mid1).map Tr.v).length : Int) = 0 := by rw [along_self]; rfl
 have hts := hT.box' (by decide)
 repeat' (first | refine VJ.seq ?_ | refine VJ.skip ?_ | refine VJ.cond_t rfl ?_ | refine VJ.cond_f rfl ?_ | refine VJ.region_k fun K hK => ?_ | (refine VR.done (hK _ ?_); clear hK K) | (first | (refine VR.bin rfl rfl rfl (eqI_of m1 _ _ _) ?_) | (refine VR.bin rfl rfl rfl (eqI_of m2 _ _ _) ?_) | (refine VR.bin rfl rfl rfl (eqI_of m3 _ _ _) ?_) | (refine VR.bin rfl rfl rfl (eqI_of m4 _ _ _) ?_) | (refine VR.bin rfl rfl rfl (eqI_of m5 _ _ _) ?_) | (refine VR.bin rfl rfl rfl (eqI_of (rfl : (0 : Int) = 0) _ _ _) ?_) | refine VR.move rfl rfl ?_ | refine VR.assign rfl rfl ?_ | (show onLd; refine VR.load tok rfl rfl rfl rfl ?_) | refine VR.int rfl rfl rfl rfl ?_ | (refine VR.pickB rfl rfl rfl rfl ?_ ?_ ?_; iterate 2 (first | exact trivial | (refine fun h => ?_; first | (rw [h]; rfl) | (rw [h, hg]; rfl) | (rw [hg, h]; rfl) | (simp [h, hg]; done)))) | refine VR.pick rfl rfl rfl ?_ | refine VR.not rfl rfl ?_ | refine VR.g_yes rfl rfl (by first | rfl | assumption) ?_ | refine VR.g_no rfl rfl rfl (by first | rfl | assumption) ?_ | refine VR.alloc tok rfl rfl rfl ?_ | refine VR.store tok rfl rfl rfl rfl rfl rfl rfl (by first | (intro n e; cases e; done) | exact (fun _ _ q => all_glA (by rfl) q)) ?_ | refine VR.extract rfl rfl rfl ?_ | refine VR.buildL (n := 1) [_, _] tok rfl rfl rfl rfl rfl rfl rfl rfl ?_ | refine VR.len tok rfl rfl rfl rfl rfl ?_ | refine VR.eqNil rfl rfl rfl rfl (ptrOk (by rfl)) ?_ | refine VR.neNil rfl rfl rfl rfl (ptrOk (by rfl)) ?_ | (refine VR.buildLst ([(4 : Int)].map iV) tok (by rfl) (by rfl) (by rfl) (by rfl) (by rfl) (by rfl) (by rfl) (by rfl) (by rfl) (by rfl) (by rfl) ?_) | (refine VR.call fok9 rfl rfl rfl rfl ?_; refine v_built I4 2 (by decide) (by decide) keeps4 (fun E1 h => I4_new h) [4] (by decide) (fun j hj E hI h => ?_) (fun j hj E hI h => ?_) (fun j hj E hI h1 h2 => ?_) _ (fun E W hI => ?_))) | (refine' VR.spec (by rfl) (by rfl) (by rfl) ?_ ?_ ?_; rotate_left 1; (repeat (first | exact trivial | refine And.intro id ?_)); intro hg K1 hK1; (first | refine VR.move rfl rfl ?_ | (show onLd; refine VR.load tok rfl rfl rfl rfl ?_) | refine VR.int rfl rfl rfl rfl ?_ | refine VR.not rfl rfl ?_ | refine VR.buildL (n := 1) [_, _] tok rfl rfl rfl rfl rfl rfl rfl rfl ?_ | refine VR.len tok rfl rfl rfl rfl rfl ?_ | (refine VR.buildLst ([(4 : Int)].map iV) tok (by rfl) (by rfl) (by rfl) (by rfl) (by rfl) (by rfl) (by rfl) (by rfl) (by rfl) (by rfl) (by rfl) ?_) | (refine VR.call fok9 rfl rfl rfl rfl ?_; refine v_built I4 2 (by decide) (by decide) keeps4 (fun E1 h => I4_new h) [4] (by decide) (fun j hj E hI h => ?_) (fun j hj E hI h => ?_) (fun j hj E hI h1 h2 => ?_) _ (fun E W hI => ?_)) | (refine VR.call fok11 rfl rfl rfl rfl ?_; refine (v_atM ts few le mid1 _ (GL_mesh _ _ _ _ _) (GL_free _ _ _ _ _) _ ?_)) | (refine VR.call fok11 rfl rfl rfl rfl ?_; refine (v_atM ts few le ⟨1, 0⟩ _ (GL_mesh _ _ _ _ _) (GL_free _ _ _ _ _) _ ?_)) | (refine VR.call fok13 rfl rfl rfl rfl ?_; refine (v_starM ts few le mid1 _ (GL_mesh _ _ _ _ _) (GL_free _ _ _ _ _) _ ?_)) | (refine VR.call fok17 rfl rfl rfl rfl ?_; refine (v_closed4 hP hp few _ (GL_mesh _ _ _ _ _) (GL_free _ _ _ _ _) _ ?_)) | (refine VR.call fok17 rfl rfl rfl rfl ?_; refine (v_closed0 hP hp few _ (GL_mesh _ _ _ _ _) (GL_free _ _ _ _ _) _ ?_)) | (refine VR.call fok15 rfl rfl rfl rfl ?_; refine (v_trailM ts few le hts ⟨0, 0⟩ mid1 _ (GL_mesh _ _ _ _ _) (GL_free _ _ _ _ _) _ ?_)) | (refine VR.call fok15 rfl rfl rfl rfl ?_; refine (v_trailM ts few le hts mid1 mid1 _ (GL_mesh _ _ _ _ _) (GL_free _ _ _ _ _) _ ?_)) | (refine VR.call fok13 rfl rfl rfl rfl ?_; refine (v_starNil mid1 _ _ (GL_free _ _ _ _ _) ?_)) | (refine VR.call fok17 rfl rfl rfl rfl ?_; refine (v_closedNil mid1 _ _ (GL_free _ _ _ _ _) ?_))); exact VR.done hK1) | (refine VR.call fok11 rfl rfl rfl rfl ?_; refine (v_atM ts few le mid1 _ (GL_mesh _ _ _ _ _) (GL_free _ _ _ _ _) _ ?_)) | (refine VR.call fok11 rfl rfl rfl rfl ?_; refine (v_atM ts few le ⟨1, 0⟩ _ (GL_mesh _ _ _ _ _) (GL_free _ _ _ _ _) _ ?_)) | (refine VR.call fok13 rfl rfl rfl rfl ?_; refine (v_starM ts few le mid1 _ (GL_mesh _ _ _ _ _) (GL_free _ _ _ _ _) _ ?_)) | (refine VR.call fok17 rfl rfl rfl rfl ?_; refine (v_closed4 hP hp few _ (GL_mesh _ _ _ _ _) (GL_free _ _ _ _ _) _ ?_)) | (refine VR.call fok17 rfl rfl rfl rfl ?_; refine (v_closed0 hP hp few _ (GL_mesh _ _ _ _ _) (GL_free _ _ _ _ _) _ ?_)) | (refine VR.call fok15 rfl rfl rfl rfl ?_; refine (v_trailM ts few le hts ⟨0, 0⟩ mid1 _ (GL_mesh _ _ _ _ _) (GL_free _ _ _ _ _) _ ?_)) | (refine VR.call fok15 rfl rfl rfl rfl ?_; refine (v_trailM ts few le hts mid1 mid1 _ (GL_mesh _ _ _ _ _) (GL_free _ _ _ _ _) _ ?_)) | (refine VR.call fok13 rfl rfl rfl rfl ?_; refine (v_starNil mid1 _ _ (GL_free _ _ _ _ _) ?_)) | (refine VR.call fok17 rfl rfl rfl rfl ?_; refine (v_closedNil mid1 _ _ (GL_free _ _ _ _ _) ?_)))
 refine VJ.retF (r := vB true) tok (by rfl) (by rfl) hG0 (fun n o h => by cases h) (by rfl) hQ
end Go.Proofs.YtnpnjhopgedhkaaGreat
namespace Go.Proofs.YtnpnjhopgedhkaaGreat
open Go.RowKit V Geo
attribute [local irreducible] VR VJ VC decOk decBt
end Go.Proofs.YtnpnjhopgedhkaaGreat
namespace Go.Proofs.YtnpnjhopgedhkaaGreat
open Go.RowKit V Geo
theorem eqBB_of {p q r : Bool} (h : (p == q) = r) (a b : Operand) (w : World) : (do eqGuard .eql 4 a b (.bool p) (.bool q); binOp .eql 4 (.bool p) (.bool q) : Sem Value).run Tryz.prog w = .ok (.bool r) w := by
 subst h
 cases p <;> cases q <;> simp [eqGuard, go_sem]
theorem str_nd {l : List Pt} (h : Str l) : l.Nodup := by
 have ir : ∀ p : Pt, p.lt p = false := fun p => Bool.eq_false_iff.2 fun e => by rw [pt_lt] at e; omega
 exact h.imp fun {p q} hpq e => by rw [e, ir] at hpq; cases hpq
attribute [local irreducible] VR VJ VC decOk decBt
end Go.Proofs.YtnpnjhopgedhkaaGreat
namespace Go.Proofs.YtnpnjhopgedhkaaGreat
open Go.RowKit V Geo
attribute [local irreducible] VR VJ VC decOk decBt
end Go.Proofs.YtnpnjhopgedhkaaGreat
namespace Go.Proofs.YtnpnjhopgedhkaaGreat
open Go.RowKit V Geo
def clashR (l : List Wl) (a b : Pt) : Int := if mkOk a b 1 = false then 2 else if kindR l a b ≠ 0 then 5 else if l.any (fun w => meetR a b w.a w.b != 0) = true then 7 else 0
set_option maxHeartbeats 1000000 in
attribute [local irreducible] VR VJ VC onR decOk decBt
theorem v_clashR (l : List Wl) (few : l.length < 1000000) (a b : Pt) (G : Gl) (hG : WalG G l) (Q : Po) (hQ : Q (vI (clashR l a b)) G) : VC Tryz.prog 84 [vWl, vV (ptV a), vV (ptV b)] G Q := by
 rw [gov_self hG.ok] at hQ ⊢
 clear hG
 refine VC.of_body Tryz.func84 rfl rfl rfl fun W0 h0 x0 hG0 => ?_
 simp only [args0]
 unfold clashR at hQ
 repeat' (first | refine VJ.seq ?_ | refine VJ.region_k fun K hK => ?_ | (refine VR.done (hK _ ?_); clear hK K) | (first | refine VR.move rfl rfl ?_ | refine VR.assign rfl rfl ?_ | (show onLd; refine VR.load tok rfl rfl rfl rfl ?_) | refine VR.not rfl rfl ?_ | refine VR.box rfl rfl rfl ?_ | refine VR.alloc tok rfl rfl rfl ?_ | refine VR.store tok rfl rfl rfl rfl rfl rfl rfl (by first | (intro n e; cases e; done) | exact (fun _ _ q => all_glA (by rfl) q)) ?_ | refine VR.extract rfl rfl rfl ?_) | (refine VR.call fok49 rfl rfl rfl rfl ?_; refine (v_mkR a b 1 _ _ ?_)))
 refine VJ.cond rfl (fun hc => ?_) (fun hc => ?_)
 ·rw [if_pos (show mkOk a b 1 = false by simpa using hc)] at hQ
  repeat' (first | refine VJ.seq ?_ | refine VJ.region_k fun K hK => ?_ | (refine VR.done (hK _ ?_); clear hK K) | (first | refine VR.assign rfl rfl ?_))
  refine VJ.ret tok (by rfl) (by rfl) ?_
  exact hQ
 rw [if_neg (show ¬ mkOk a b 1 = false by simpa using hc)] at hQ
 repeat' (first | refine VJ.seq ?_ | refine VJ.skip ?_ | refine VJ.region_k fun K hK => ?_ | (refine VR.done (hK _ ?_); clear hK K) | (first | refine VR.move rfl rfl ?_ | (show onLd; refine VR.load tok rfl rfl rfl rfl ?_) | refine VR.int rfl rfl rfl rfl ?_) | (refine VR.call fok96 rfl rfl rfl rfl ?_; refine (v_kindR l few a b _ (by exact rfl) _ ?_)))
 refine VJ.cond rfl (fun hc2 => ?_) (fun hc2 => ?_)
 ·rw [if_pos (show kindR l a b ≠ 0 by simpa using hc2)] at hQ
  repeat' (first | refine VJ.seq ?_ | refine VJ.region_k fun K hK => ?_ | (refine VR.done (hK _ ?_); clear hK K) | (first | refine VR.assign rfl rfl ?_))
  refine VJ.ret tok (by rfl) (by rfl) ?_
  exact hQ
 rw [if_neg (show ¬ kindR l a b ≠ 0 by simpa using hc2)] at hQ
 repeat' (first | refine VJ.seq ?_ | refine VJ.skip ?_ | refine VJ.block ?_ | refine VJ.region_k fun K hK => ?_ | (refine VR.done (hK _ ?_); clear hK K) | (first | refine VR.assign rfl rfl ?_))
 refine VJ.to 2 [(9, vI ((0 : Nat) : Int)), (5, .a (.ptr (.l 1) 0)), (4, .a (.ptr (.l 0) 0)), (0, vWl)] [(0, bxP a), (1, bxP b)] ?_ rfl (by repeat' first | exact trivial | refine ⟨rfl, ?_⟩) (by repeat' first | exact trivial | refine ⟨rfl, ?_⟩) (by rfl)
 refine VJ.rec (fun j : Nat => ⟨2, [(9, vI j), (5, .a (.ptr (.l 1) 0)), (4, .a (.ptr (.l 0) 0)), (0, vWl)], [(0, bxP a), (1, bxP b)], gov [(5, bxR l)] G⟩) (fun j => l.length - j) (fun j => j ≤ l.length ∧ (l.drop j).any (fun w => meetR a b w.a w.b != 0) = l.any (fun w => meetR a b w.a w.b != 0)) 0 ⟨Nat.zero_le _, rfl⟩ ?_
 rintro j ⟨hj, hd⟩ ih
 repeat' (first | refine VJ.seq ?_ | refine VJ.region_k fun K hK => ?_ | (refine VR.done (hK _ ?_); clear hK K) | (first | refine VR.move rfl rfl ?_ | (show onLd; refine VR.load tok rfl rfl rfl rfl ?_) | (show onFa; refine VR.fieldAddr tok rfl rfl rfl rfl rfl rfl ?_) | refine VR.int rfl rfl rfl rfl ?_ | refine VR.nilCheck rfl rfl rfl ?_ | refine VR.len tok rfl rfl rfl rfl rfl ?_))
 refine VJ.cond rfl (fun hb => ?_) (fun hb => ?_)
 ·have hlt : j < l.length := by simpa using hb
  have hget := map_get_v hlt
  rw [List.drop_eq_getElem_cons hlt, List.any_cons] at hd
  generalize l[j] = w at hget hd
  repeat' (first | refine VJ.seq ?_ | refine VJ.skip ?_ | refine VJ.block ?_ | (fail))
  apply VJ.draw3 [] [(0, 0), (1, 0), (2, 0), (3, 0), (4, 0), (5, 0), (6, 0), (7, 0), (8, 0), (9, 0), (10, 0), (11, 0), (12, 0), (13, 0), (14, 0), (15, 0), (16, 0), (17, 0), (18, 0), (19, 0)] [[(4, none)], [(5, none)], [(0, none)], [(34, some 2)], [(35, some 3)], [(36, some 4)], [(9, none)], [(37, some 5), (38, some 6)], [(39, some 7)], [(40, some 8)], [(0, none)], [(42, some 10)], [(43, some 11)], [(44, some 12)], [(9, none)], [(45, some 13), (46, some 14)], [(47, some 15)], [(48, some 16)], [(32, some 0), (33, some 1), (41, some 9), (49, some 17)], [(50, some 18)]] [[(4, _)], [(5, _)], [(0, _)], [(34, _)], [(35, _)], [(36, _)], [(9, _)], [(37, _), (38, _)], [(39, _)], [(40, _)], [(0, _)], [(42, _)], [(43, _)], [(44, _)], [(9, _)], [(45, _), (46, _)], [(47, _)], [(48, _)], [(32, _), (33, _), (41, _), (49, _)], [(50, _)]] [_, _, _, _, _, _, _, _, _, _, _, _, _, _, _, _, _, _, _, _] [⟨_, _, _⟩] (by kernel_rfl) ?hok rfl ?hh rfl rfl ?hj
  case hh =>
   refine ⟨?_, ?_, ?_, ?_, ?_, ?_, ?_, ?_, ?_, ?_, ?_, ?_, ?_, ?_, ?_, ?_, ?_, ?_, ?_, ?_, trivial⟩
   all_goals (intro rest K1 hK1; (repeat (first | exact VR.done hK1 | (first | refine VR.move rfl rfl ?_ | (show onLd; refine VR.load tok rfl rfl rfl (by first | rfl | exact (ldp_el (by assumption)).trans (by rfl)) ?_) | (show onFa; refine VR.fieldAddr tok rfl rfl rfl (by first | rfl | exact place_el (by assumption)) rfl rfl ?_) | (show onIx; refine VR.indexAddr tok rfl rfl rfl rfl rfl rfl rfl (elA_lst (by assumption)) ?_) | refine VR.int rfl rfl rfl rfl ?_ | refine VR.nilCheck rfl rfl rfl ?_) | (refine VR.call fok100 rfl rfl rfl rfl ?_; refine (v_meetR a b w.a w.b _ _ ?_)))); try (first | exact VR.done hK1 | (refine VR.done ?_; dsimp only [S.set]; exact hK1)))
  case hok => kernel_rfl
  case hj =>
   dsimp only [tla]
   refine VJ.cond rfl (fun hc => ?_) (fun hc => ?_)
   ·have hc : (meetR a b w.a w.b != 0) = true := hc
    rw [hc, Bool.true_or] at hd
    rw [if_pos hd.symm] at hQ
    repeat' (first | refine VJ.seq ?_ | refine VJ.region_k fun K hK => ?_ | (refine VR.done (hK _ ?_); clear hK K) | (first | refine VR.assign rfl rfl ?_))
    refine VJ.ret tok (by rfl) (by rfl) ?_
    exact hQ
   ·have hc : (meetR a b w.a w.b != 0) = false := hc
    rw [hc, Bool.false_or] at hd
    repeat' (first | refine VJ.skip ?_ | refine VJ.inBlock ?_ | refine VJ.region_k fun K hK => ?_ | (refine VR.done (hK _ ?_); clear hK K) | (first | refine VR.move rfl rfl ?_ | refine VR.assign rfl rfl ?_ | refine VR.int rfl rfl rfl rfl ?_))
    exact VJ.to 2 _ _ (ih (j + 1) ⟨hlt, hd⟩ (by omega)) rfl ⟨vI_succ (by omega), by rfl, by rfl, by rfl, trivial⟩ (by repeat' first | exact trivial | refine ⟨rfl, ?_⟩) (by rfl)
 have hge : j = l.length := by simp at hb; omega
 subst hge
 rw [List.drop_length] at hd
 rw [if_neg (by rw [← hd]; simp)] at hQ
 repeat' (first | refine VJ.seq ?_ | refine VJ.exit rfl ?_ | refine VJ.region_k fun K hK => ?_ | (refine VR.done (hK _ ?_); clear hK K) | (first | refine VR.assign rfl rfl ?_))
 refine VJ.ret tok (by rfl) (by rfl) ?_
 exact hQ
theorem onR_self {a b : Pt} (ha : a.ok) (hb : b.ok) : onR a a b = true := by
 unfold onR
 have h1 : tw a b a = 0 := by unfold tw; grind
 rw [decide_eq_true ⟨ha, ha, hb⟩, decide_eq_true h1, decide_eq_true (show bt a.x a.x b.x by unfold bt; omega), decide_eq_true (show bt a.y a.y b.y by unfold bt; omega)]
 rfl
def partL (a b : Pt) (E : LS) : List Pt := (E.filter fun q => onR q.1.a a b).map fun q => q.1.a
theorem partL_snoc (a b : Pt) (dn : LS) (p : En × Tr) : partL a b (dn ++ [p]) = if onR p.1.a a b = true then partL a b dn ++ [p.1.a] else partL a b dn := by
 unfold partL
 rw [List.filter_append, List.map_append]
 cases h : onR p.1.a a b <;> simp [h]
theorem partL_len (a b : Pt) (E : LS) : (partL a b E).length ≤ E.length := by
 unfold partL; rw [List.length_map]; exact List.length_filter_le _ _
theorem partL_first {a b : Pt} (ha : a.ok) (hb : b.ok) {E : LS} (h : colOf (starF a) E ≠ []) : a ∈ partL a b E := by
 obtain ⟨t, ht⟩ := List.exists_mem_of_ne_nil _ h
 unfold colOf at ht
 obtain ⟨q, hq, rfl⟩ := List.mem_map.1 ht
 obtain ⟨h1, h2⟩ := List.mem_filter.1 hq
 have e : q.1.a = a := of_decide_eq_true h2
 refine List.mem_map.2 ⟨q, List.mem_filter.2 ⟨h1, ?_⟩, e⟩
 show onR q.1.a a b = true
 rw [e]; exact onR_self ha hb
theorem str_len {P : List Pt} (h : Str P) {L : List Pt} (hm : ∀ x, x ∈ P ↔ x ∈ L) : P.length ≤ L.length := by
 have hn := str_nd h
 have : ∀ (P L : List Pt), P.Nodup → (∀ x ∈ P, x ∈ L) → P.length ≤ L.length := fun P => by
  induction P with
  | nil => intro L _ _; exact Nat.zero_le _
  | cons p P ih =>
    intro L hn hs
    obtain ⟨n1, n2⟩ := List.nodup_cons.1 hn
    have hp := hs p (by simp)
    have := ih (L.erase p) n2 fun x hx => (List.mem_erase_of_ne (fun e => n1 (by rw [← e]; exact hx))).2 (hs x (List.mem_cons_of_mem _ hx))
    have h2 := List.length_erase_of_mem hp
    have h3 := List.length_pos_of_mem hp
    rw [List.length_cons]
    omega
 exact this P L hn fun x hx => (hm x).1 hx
set_option maxRecDepth 20000 in
set_option maxHeartbeats 4000000 in
theorem v_partsP (E : LS) (few : E.length < 100000) (a b : Pt) (G : Gl) (hG : RefP G E) (Q : Po) (hQ1 : ∀ e : Int, e ≠ 0 → Q (.tup [.d (.v (.slice none 0 0)), .d (.v (.int .i64 e))]) G)
 (hQ2 : ∀ l : List Pt, l.length ≤ E.length → Q (.tup [.d (.lst 2 (l.map ptV)), .d (.v (.int .i64 0))]) G) : VC Tryz.prog 83 [vN, vV (ptV a), vV (ptV b)] G Q := by
 obtain ⟨z, hg⟩ := hG.ok
 have hRG : RefP (gov [(3, bxN), (4, .map En.v Tr.v E (some z))] G) E := ⟨rfl, ⟨_, rfl⟩⟩
 rw [gov_self hg] at hQ1 hQ2 ⊢
 refine VC.of_body Tryz.func83 rfl rfl rfl fun W0 h0 x0 hG0 => ?_
 simp only [args0]
 repeat' (first | refine VJ.seq ?_ | refine VJ.region_k fun K hK => ?_ | (refine VR.done (hK _ ?_); clear hK K) | (first | refine VR.move rfl rfl ?_ | refine VR.assign rfl rfl ?_ | (show onLd; refine VR.load tok rfl rfl rfl rfl ?_) | (refine VR.pickB rfl rfl rfl rfl ?_ ?_ ?_; iterate 2 (first | exact trivial | (refine fun h => ?_; first | (rw [h]; rfl) | (rw [h, hg]; rfl) | (rw [hg, h]; rfl) | (simp [h, hg]; done)))) | refine VR.box rfl rfl rfl ?_ | (refine VR.bin rfl rfl rfl (eqP _ _ a b) ?_)) | (refine' VR.spec (by rfl) (by rfl) (by rfl) ?_ ?_ ?_; rotate_left 1; (repeat (first | exact trivial | refine And.intro id ?_)); intro hg K1 hK1; (first | (show onLd; refine VR.load tok rfl rfl rfl rfl ?_) | refine VR.not rfl rfl ?_ | (refine VR.call fok57 rfl rfl rfl rfl ?_; refine (v_valid2 a _ _ ?_)) | (refine VR.call fok57 rfl rfl rfl rfl ?_; refine (v_valid2 b _ _ ?_))); exact VR.done hK1))
 refine VJ.cond rfl (fun hc => ?_) (fun hc => ?_)
 ·have hq := hQ1 2 (by decide)
  repeat' (first | refine VJ.seq ?_ | refine VJ.region_k fun K hK => ?_ | (refine VR.done (hK _ ?_); clear hK K) | (first | refine VR.assign rfl rfl ?_))
  refine VJ.ret tok (by rfl) (by rfl) ?_
  exact hq
 have hc : (bif (bif decide (a = b) then true else !decide a.ok) then true else !decide b.ok) = false := hc
 have hok : a.ok ∧ b.ok := by
  by_cases h1 : a.ok <;> by_cases h2 : b.ok <;> by_cases h3 : a = b <;> simp [h1, h2, h3] at hc ⊢
 clear hc
 repeat' (first | refine VJ.seq ?_ | refine VJ.skip ?_ | refine VJ.region_k fun K hK => ?_ | (refine VR.done (hK _ ?_); clear hK K) | (first | refine VR.move rfl rfl ?_ | (show onLd; refine VR.load tok rfl rfl rfl rfl ?_) | refine VR.int rfl rfl rfl rfl ?_ | (refine VR.pickB rfl rfl rfl rfl ?_ ?_ ?_; iterate 2 (first | exact trivial | (refine fun h => ?_; first | (rw [h]; rfl) | (rw [h, hg]; rfl) | (rw [hg, h]; rfl) | (simp [h, hg]; done)))) | refine VR.len tok rfl rfl rfl rfl rfl ?_) | (refine' VR.spec (by rfl) (by rfl) (by rfl) ?_ ?_ ?_; rotate_left 1; (repeat (first | exact trivial | refine And.intro id ?_)); intro hg K1 hK1; (first | refine VR.move rfl rfl ?_ | (show onLd; refine VR.load tok rfl rfl rfl rfl ?_) | refine VR.int rfl rfl rfl rfl ?_ | refine VR.len tok rfl rfl rfl rfl rfl ?_ | (refine VR.call fok14 rfl rfl rfl rfl ?_; refine (v_starP E few b _ hRG _ ?_))); exact VR.done hK1) | (refine VR.call fok14 rfl rfl rfl rfl ?_; refine (v_starP E few a _ hRG _ ?_)))
 refine VJ.cond rfl (fun hc => ?_) (fun hc => ?_)
 ·have hq := hQ1 16 (by decide)
  repeat' (first | refine VJ.seq ?_ | refine VJ.region_k fun K hK => ?_ | (refine VR.done (hK _ ?_); clear hK K) | (first | refine VR.assign rfl rfl ?_))
  refine VJ.ret tok (by rfl) (by rfl) ?_
  exact hq
 have hc : (bif ((((sortT (colOf (starF a) E)).map Tr.v).length : Int) == 0) then true else ((((sortT (colOf (starF b) E)).map Tr.v).length : Int) == 0)) = false := hc
 have hst : colOf (starF a) E ≠ [] := fun e => by
  rw [e] at hc
  have : ((sortT []).map Tr.v).length = 0 := by rw [List.length_map, (sortT_perm []).length_eq]; rfl
  rw [this] at hc
  cases hc
 have hne := partL_first hok.1 hok.2 hst
 clear hc hst hQ1
 repeat' (first | refine VJ.seq ?_ | refine VJ.skip ?_ | refine VJ.block ?_ | refine VJ.region_k fun K hK => ?_ | (refine VR.done (hK _ ?_); clear hK K) | (first | refine VR.move rfl rfl ?_ | refine VR.assign rfl rfl ?_ | (show onLd; refine VR.load tok rfl rfl rfl rfl ?_) | (show onFa; refine VR.fieldAddr tok rfl rfl rfl rfl rfl rfl ?_) | refine VR.nilCheck rfl rfl rfl ?_ | refine VR.range rfl rfl rfl (mapOk (by rfl)) ?_))
 refine VJ.promote 8 25 2 (by decide) rfl ?_
 refine VJ.to 4 [(41, .a (.ptr (.l 2) 0)), (8, .a (.own (.l 3))), (5, .a (.ptr (.l 1) 0)), (4, .a (.ptr (.l 0) 0))] [(0, bxP a), (1, bxP b), (2, .itr En.v Tr.v E E z none), (3, .row 25 2 ((partL a b []).map ptV))] ?_ rfl (by repeat' first | exact trivial | refine ⟨rfl, ?_⟩) (by repeat' first | exact trivial | refine ⟨rfl, ?_⟩) (by rfl)
 refine VJ.rec (fun p : LS × LS × Option Value => ⟨4, [(41, .a (.ptr (.l 2) 0)), (8, .a (.own (.l 3))), (5, .a (.ptr (.l 1) 0)), (4, .a (.ptr (.l 0) 0))], [(0, bxP a), (1, bxP b), (2, .itr En.v Tr.v E p.2.1 z p.2.2), (3, .row 25 2 ((partL a b p.1).map ptV))], gov [(3, bxN), (4, .map En.v Tr.v E (some z))] G⟩) (fun p => p.2.1.length) (fun p => (p.1 ++ p.2.1).Perm E) ([], E, none) (by simp) ?_
 rintro ⟨dn, left, cur⟩ hpm ih
 dsimp only at hpm ih ⊢
 repeat' (first | refine VJ.seq ?_ | refine VJ.region_k fun K hK => ?_ | (fail))
 refine VR.next (i := .g 4) rfl rfl rfl rfl ?_ ?_
 ·intro hl
  subst hl
  have hpm2 : dn.Perm E := by simpa using hpm
  have hmem : a ∈ partL a b dn := by
   unfold partL at hne ⊢
   exact ((hpm2.filter _).map _).mem_iff.2 hne
  have hfew : (partL a b dn).length ≤ E.length := by
   have h1 := partL_len a b dn
   have h2 := hpm2.length_eq
   omega
  clear ih hpm hpm2 hne
  repeat' (first | fail)
  refine VR.extract rfl rfl rfl ?_
  refine VR.done (hK _ ?_); clear hK K
  repeat' (first | refine VJ.seq ?_ | refine VJ.skip ?_ | refine VJ.inBlock ?_ | refine VJ.exit rfl ?_ | refine VJ.cond_f rfl ?_)
  refine VJ.freeze 8 rfl rfl ?_
  generalize partL a b dn = L at hmem hfew ⊢
  repeat' (first | refine VJ.seq ?_ | refine VJ.region_k fun K hK => ?_ | (refine VR.done (hK _ ?_); clear hK K) | (first | refine VR.move rfl rfl ?_ | refine VR.assign rfl rfl ?_ | (refine VR.call fok70 rfl rfl rfl rfl ?_; refine v_sortPR L (by omega) _ _ (fun out ho1 ho2 => ?_))))
  have hol := str_len ho1 ho2
  have hoa : a ∈ out := (ho2 a).2 hmem
  clear ho1 ho2 hmem
  cases out with
  | nil => cases hoa
  | cons p0 r =>
    apply VJ.draw3 [] [(0, 0), (1, 0), (2, 0), (3, 0), (4, 0)] [[(8, none)], [(58, some 0)], [(59, some 1)], [(4, none)], [(60, some 2), (61, some 3)]] [[(8, _)], [(58, _)], [(59, _)], [(4, _)], [(60, _), (61, _)]] [_, _, _, _, _] [⟨_, _, _⟩] (by kernel_rfl) ?hok rfl ?hh rfl rfl ?hj
    case hh =>
     refine ⟨?_, ?_, ?_, ?_, ?_, trivial⟩
     all_goals (intro rest K1 hK1; (repeat (first | exact VR.done hK1 | (first | refine VR.move rfl rfl ?_ | (show onLd; refine VR.load tok rfl rfl rfl (by first | rfl | exact (ldp_el (by assumption)).trans (by rfl)) ?_) | (refine VR.indexAddr (j := 0) tok rfl rfl rfl rfl rfl rfl rfl (elA_lst (show ((p0 :: r).map ptV)[0]? = some (ptV p0) from rfl)) ?_) | (refine VR.bin rfl rfl rfl (eqP _ _ p0 a) ?_)))); try (first | exact VR.done hK1 | (refine VR.done ?_; dsimp only [S.set]; exact hK1)))
    case hok => kernel_rfl
    case hj =>
     dsimp only [List.append, tla]
     repeat' (first | (fail))
     refine VJ.cond rfl (fun hc => ?_) (fun hc => ?_)
     ·have hq := hQ2 (p0 :: r) (by omega)
      repeat' (first | refine VJ.seq ?_ | refine VJ.region_k fun K hK => ?_ | (refine VR.done (hK _ ?_); clear hK K) | (first | refine VR.move rfl rfl ?_ | refine VR.assign rfl rfl ?_))
      refine VJ.ret tok (by rfl) (by rfl) ?_
      exact hq
     obtain ⟨l, hl⟩ : ∃ l, l = p0 :: r := ⟨_, rfl⟩
     rw [← hl] at hol ⊢
     clear hl hc hoa
     have hlen : l.length < 100000 := by omega
     repeat' (first | refine VJ.seq ?_ | refine VJ.skip ?_ | refine VJ.block ?_ | refine VJ.region_k fun K hK => ?_ | (refine VR.done (hK _ ?_); clear hK K) | (first | refine VR.move rfl rfl ?_ | refine VR.assign rfl rfl ?_ | refine VR.int rfl rfl rfl rfl ?_ | refine VR.len tok rfl rfl rfl rfl rfl ?_))
     refine VJ.promote 10 25 2 (by decide) rfl ?_
     refine VJ.to 5 [(11, vI ((l.length : Int) - 1)), (10, .a (.own (.l 4))), (8, vL 2 (l.map ptV))] [(4, .row 25 2 (((l.drop l.length).reverse).map ptV))] ?_ rfl ⟨by rw [show ((l.length : Int) - 1) = IntKind.i64.wrap (((l.map ptV).length : Int) - 1) by rw [List.length_map, Go.IntWalk.i64_in _ (by omega)]]; rfl, by rfl, by rfl, trivial⟩ ⟨by rw [List.drop_length]; rfl, trivial⟩ (by rfl)
     refine VJ.rec (fun k : Nat => ⟨5, [(11, vI ((k : Int) - 1)), (10, .a (.own (.l 4))), (8, vL 2 (l.map ptV))], [(4, .row 25 2 (((l.drop k).reverse).map ptV))], gov [(3, bxN), (4, .map En.v Tr.v E (some z))] G⟩) (fun k => k) (fun k => k ≤ l.length) l.length (Nat.le_refl _) ?_
     intro k hk ih
     have hrl : ((l.drop k).reverse).length ≤ E.length := by rw [List.length_reverse, List.length_drop]; omega
     cases k with
     | zero =>
       have hz : decide ((((0 : Nat) : Int) - 1) ≥ 0) = false := by decide
       have hq := hQ2 ((l.drop 0).reverse) (by omega)
       repeat' (first | refine VJ.seq ?_ | refine VJ.region_k fun K hK => ?_)
       repeat (first | refine VR.move rfl rfl ?_ | refine VR.int rfl rfl rfl rfl ?_)
       refine VR.done (hK _ ?_); clear hK K
       repeat' (first | refine VJ.seq ?_ | refine VJ.skip ?_ | refine VJ.inBlock ?_ | refine VJ.exit rfl ?_ | refine VJ.cond_f rfl ?_)
       refine VJ.freeze 10 rfl rfl ?_
       repeat' (first | refine VJ.region_k fun K hK => ?_ | (refine VR.done (hK _ ?_); clear hK K) | (first | refine VR.move rfl rfl ?_ | refine VR.assign rfl rfl ?_))
       refine VJ.ret tok (by rfl) (by rfl) ?_
       exact hq
     | succ m =>
       have hz : decide ((((m + 1 : Nat) : Int) - 1) ≥ 0) = true := decide_eq_true (by omega)
       have hlt : m < l.length := hk
       have hget := map_get_p hlt
       have hmm : (((m + 1 : Nat) : Int) - 1) = ((m : Nat) : Int) := by omega
       have hdr : (l.drop m).reverse = (l.drop (m + 1)).reverse ++ [l[m]] := by rw [List.drop_eq_getElem_cons hlt, List.reverse_cons]
       have hde : ((m : Int) - 1) = IntKind.i64.wrap ((((m + 1 : Nat) : Int) - 1) - 1) := by rw [Go.IntWalk.i64_in _ (by omega)]; omega
       have ih' := ih m (by omega) (by omega)
       rw [hdr, hde] at ih'
       clear ih hdr hde
       generalize l[m] = x at hget ih'
       repeat' (first | refine VJ.seq ?_ | refine VJ.region_k fun K hK => ?_ | (refine VR.done (hK _ ?_); clear hK K) | (first | refine VR.move rfl rfl ?_ | refine VR.int rfl rfl rfl rfl ?_))
       refine VJ.cond rfl (fun _ => ?_) (fun h => absurd (hz.symm.trans h) (by simp))
       repeat' (first | refine VJ.seq ?_ | refine VJ.skip ?_ | refine VJ.block ?_ | refine VJ.inBlock ?_ | refine VJ.region_k fun K hK => ?_ | (refine VR.done (hK _ ?_); clear hK K) | (first | (refine VR.indexAddr tok rfl rfl rfl rfl rfl rfl hmm (elA_lst hget) ?_) | refine VR.move rfl rfl ?_ | refine VR.assign rfl rfl ?_ | (show onLd; refine VR.load tok rfl rfl rfl (by first | rfl | exact (ldp_el (by assumption)).trans (by rfl)) ?_) | refine VR.int rfl rfl rfl rfl ?_ | (refine VR.buildLst ([x].map ptV) tok (by rfl) (by rfl) (by rfl) (by rfl) (by rfl) (by rfl) (by rfl) (by rfl) (by rfl) (by rfl) (by rfl) ?_) | (refine VR.append tok (by rfl) (by rfl) (by rfl) (by rfl) (by rfl) (by rfl) (by rfl) (by rfl) (by rfl) (by rfl) (onePt [x]) (by rw [List.length_map]; simp; omega) (by rw [List.length_map]; simp [maxLen]; omega) ?_)))
       exact VJ.to 5 _ _ ih' rfl (by repeat' first | exact trivial | refine ⟨rfl, ?_⟩) ⟨by rw [List.map_append]; rfl, trivial⟩ (by rfl)
 ·intro x c y z' hl
  subst hl
  have hpm' : ((dn ++ [(x, c)]) ++ (y ++ z')).Perm E := by
   refine List.Perm.trans ?_ hpm
   rw [List.append_assoc]
   refine List.Perm.append_left dn ?_
   simpa using (List.perm_middle (a := (x, c)) (l₁ := y) (l₂ := z')).symm
  have hfew : (partL a b dn).length < 1000000 := by
   have h1 := partL_len a b dn
   have h2 := hpm.length_eq
   simp at h2
   omega
  have hsn := partL_snoc a b dn (x, c)
  have ih' := ih (dn ++ [(x, c)], y ++ z', some (.tuple #[x.v, c.v])) hpm' (by simp)
  dsimp only at ih' hsn
  rw [hsn] at ih'
  clear ih hne
  repeat' (first | refine VJ.seq ?_ | refine VJ.skip ?_ | refine VJ.block ?_ | refine VJ.cond_t rfl ?_ | refine VJ.region_k fun K hK => ?_ | (refine VR.done (hK _ ?_); clear hK K) | (first | (show onLd; refine VR.load tok rfl rfl rfl rfl ?_) | (show onFa; refine VR.fieldAddr tok rfl rfl rfl rfl rfl rfl ?_) | refine VR.alloc tok rfl rfl rfl ?_ | refine VR.store tok rfl rfl rfl rfl rfl rfl rfl (by first | (intro n e; cases e; done) | exact (fun _ _ q => all_glA (by rfl) q)) ?_ | refine VR.extract rfl rfl rfl ?_ | (refine VR.entry (i := .g 4) rfl rfl rfl rfl ?_)) | (refine VR.call fok99 rfl rfl rfl rfl ?_; refine (v_onR x.a a b _ _ ?_)))
  refine VJ.cond rfl (fun hc => ?_) (fun hc => ?_)
  ·have hc : onR x.a a b = true := hc
   rw [if_pos hc] at ih'
   repeat' (first | refine VJ.inBlock ?_ | refine VJ.region_k fun K hK => ?_ | (refine VR.done (hK _ ?_); clear hK K) | (first | refine VR.move rfl rfl ?_ | refine VR.assign rfl rfl ?_ | (show onLd; refine VR.load tok rfl rfl rfl rfl ?_) | (show onFa; refine VR.fieldAddr tok rfl rfl rfl rfl rfl rfl ?_) | (refine VR.buildLst ([x.a].map ptV) tok (by rfl) (by rfl) (by rfl) (by rfl) (by rfl) (by rfl) (by rfl) (by rfl) (by rfl) (by rfl) (by rfl) ?_) | (refine VR.append tok (by rfl) (by rfl) (by rfl) (by rfl) (by rfl) (by rfl) (by rfl) (by rfl) (by rfl) (by rfl) (onePt [x.a]) (by simp; omega) (by simp [maxLen]; omega) ?_)))
   exact VJ.to 4 _ _ ih' rfl (by repeat' first | exact trivial | refine ⟨rfl, ?_⟩) ⟨by rfl, by rfl, by rfl, by rw [List.map_append]; rfl, trivial⟩ (by rfl)
  ·have hc : ¬ onR x.a a b = true := by
    have hc : onR x.a a b = false := hc
    rw [hc]; simp
   rw [if_neg hc] at ih'
   repeat' (first | refine VJ.skip ?_ | refine VJ.inBlock ?_ | (fail))
   exact VJ.to 4 _ _ ih' rfl (by repeat' first | exact trivial | refine ⟨rfl, ?_⟩) (by repeat' first | exact trivial | refine ⟨rfl, ?_⟩) (by rfl)
theorem v_parts (E : LS) (few : E.length < 100000) (a b : Pt) (G : Gl) (hG : RefG G E) (Q : Po) (hQ1 : ∀ e : Int, e ≠ 0 → Q (.tup [.d (.v (.slice none 0 0)), .d (.v (.int .i64 e))]) G)
 (hQ2 : ∀ l : List Pt, l.length ≤ E.length → Q (.tup [.d (.lst 2 (l.map ptV)), .d (.v (.int .i64 0))]) G) : VC Tryz.prog 83 [vN, vV (ptV a), vV (ptV b)] G Q := by
 obtain ⟨z, g4⟩ := hG.2
 refine VC.pinned 4 g4 fun G' q e => ?_
 subst e
 exact v_partsP E few a b _ (hG.refP q) _ (fun e he => ⟨rfl, hQ1 e he⟩) (fun l hl => ⟨rfl, hQ2 l hl⟩)
end Go.Proofs.YtnpnjhopgedhkaaGreat
namespace Go.Proofs.YtnpnjhopgedhkaaGreat
open Go.RowKit V Geo
abbrev GF (E : LS) (z : Option (Nat × Obj)) (l : List Wl) (G : Gl) : Gl := gov [(3, bxN), (4, mL E z), (7, bxR l)] G
theorem GF_7 (E : LS) (z : Option (Nat × Obj)) (l l' : List Wl) (G : Gl) (n : Nat) : gset (GF E z l G) 7 (bxR l') n = GF E z l' G n := by
 by_cases h7 : n = 7
 ·subst h7; rfl
 by_cases h4 : n = 4
 ·subst h4; rfl
 by_cases h3 : n = 3
 ·subst h3; rfl
 ·simp [gset, gov, lk, h3, h4, h7]
theorem GF_4 (E E' : LS) (z : Option (Nat × Obj)) (z' : Option (Nat × Obj)) (l : List Wl) (G : Gl) (n : Nat) : gset (GF E z l G) 4 (mL E' z') n = GF E' z' l G n := by
 by_cases h7 : n = 7
 ·subst h7; rfl
 by_cases h4 : n = 4
 ·subst h4; rfl
 by_cases h3 : n = 3
 ·subst h3; rfl
 ·simp [gset, gov, lk, h3, h4, h7]
section
variable {Ev : Env} {fn : Func} {R : Ending → World → Prop} {k : List Item} {c : Nat} {t0 : List (Nat × AV)} {L : List (Nat × VO)}
theorem pinF (E : LS) (l : List Wl) (G : Gl) (H : ∀ q, VJ Tryz.prog Ev fn R k ⟨c, t0, L, GF E (some q) l G⟩) : VJ Tryz.prog Ev fn R k ⟨c, t0, L, GF E none l G⟩ := by
 refine VJ.pin (.g 4) (show S.obj ⟨c, t0, L, GF E none l G⟩ (.g 4) = some (mL E none) from rfl) fun zz => ?_
 have := H zz
 rw [show GF E (some zz) l G = gset (GF E none l G) 4 (mL E (some zz)) from (funext fun n => (GF_4 E E none (some zz) l G n).symm)] at this
 exact this
theorem unpinF (E : LS) (q : Nat × Obj) (l : List Wl) (G : Gl) (H : VJ Tryz.prog Ev fn R k ⟨c, t0, L, GF E none l G⟩) : VJ Tryz.prog Ev fn R k ⟨c, t0, L, GF E (some q) l G⟩ := by
 refine VJ.unpin (.g 4) (show S.obj ⟨c, t0, L, GF E (some q) l G⟩ (.g 4) = some (mL E (some q)) from rfl) ?_
 rw [show GF E none l G = gset (GF E (some q) l G) 4 (mL E none) from (funext fun n => (GF_4 E E (some q) none l G n).symm)] at H
 exact H
end
theorem v_farE (t : Tr) (a b : Pt) {c : Pt} (e : farR t a b = c) (G : Gl) (Q : Po) (hQ : Q (vV (ptV c)) G) : VC Tryz.prog 98 [vV t.v, vV (ptV a), vV (ptV b)] G Q := v_farR t a b G Q (e ▸ hQ)
structure Flips (Inv : LS → Prop) : Prop where
 few : ∀ E, Inv E → E.length < 10000
 fl : ∀ E a b, Inv E → flipC E a b = 0 → Inv (flipS E a b)
attribute [local irreducible] VR VJ VC decOk decBt
set_option maxRecDepth 20000 in
set_option maxHeartbeats 16000000 in
theorem v_force (Inv : LS → Prop) (F : Flips Inv) (E : LS) (hE : Inv E) (a b : Pt) (G : Gl) (g3 : G 3 = some bxN) (g4 : G 4 = some (mL E none)) (h7 : G 7 = none) (Q : Po) (hQ : ∀ E', Inv E' → Q (.tup []) (gset G 4 (mL E' none))) : VC Tryz.prog 85 [vN, vV (ptV a), vV (ptV b)] G Q := by
 have few := F.few E hE
 refine VC.of_body Tryz.func85 rfl rfl rfl fun W0 h0 x0 hG0 => ?_
 simp only [args0]
 have hend : ∀ (E' : LS) (l : List Wl) n o, gset G 4 (mL E' none) n = some o → GF E' none l G n = some o := fun E' l n o e => by
  by_cases k4 : n = 4
  ·subst k4; exact e
  have e : G n = some o := by
   unfold gset at e
   rw [if_neg k4] at e
   exact e
  by_cases k7 : n = 7
  ·subst k7; rw [h7] at e; cases e
  by_cases k3 : n = 3
  ·subst k3; rw [g3] at e; cases e; rfl
  ·simp [gov, lk, k3, k4, k7, e]
 have hk2 : ∀ (E' : LS) n, gset G 4 (mL E' none) n = none → h0 n = none := fun E' n e => by
  refine hG0.1 n ?_
  by_cases k4 : n = 4
  ·subst k4; cases e
  ·unfold gset at e
   rw [if_neg k4] at e
   exact e
 have hcl : ∀ (E' : LS) n o, gset G 4 (mL E' none) n = some o → ∀ m, o.says (.g m) → gset G 4 (mL E' none) m ≠ none := fun E' n o e m hm => by
  by_cases k4 : n = 4
  ·subst k4
   cases e
   cases hm
  ·unfold gset at e
   rw [if_neg k4] at e
   have := hG0.2 n o e m hm
   unfold gset
   by_cases j4 : m = 4
   ·rw [if_pos j4]; simp
   ·rw [if_neg j4]; exact this
 repeat' (first | refine VJ.seq ?_ | refine VJ.region_k fun K hK => ?_)
 repeat (first | refine VR.box rfl rfl rfl ?_)
 refine VR.done (hK _ ?_); clear hK K
 repeat' (first | refine VJ.seq ?_ | refine VJ.region_k fun K hK => ?_)
 repeat (first | (refine VR.boxG 7 (by exact h7) rfl rfl rfl rfl ?_) | refine VR.assign rfl rfl ?_ | refine VR.buildL (n := 0) [_] tok rfl rfl rfl rfl rfl rfl rfl rfl ?_)
 refine VR.done (hK _ ?_); clear hK K
 refine VJ.to 2 [(6, vB7), (5, .a (.ptr (.l 1) 0)), (4, .a (.ptr (.l 0) 0)), (0, vN)] [(0, bxP a), (1, bxP b)] ?_ rfl (by repeat' first | exact trivial | refine ⟨rfl, ?_⟩) (by repeat' first | exact trivial | refine ⟨rfl, ?_⟩) (by rfl)
 refine VJ.nilBox 7 5 rfl ?_
 refine VJ.toG 2 [(6, vB7), (5, .a (.ptr (.l 1) 0)), (4, .a (.ptr (.l 0) 0)), (0, vN)] [(0, bxP a), (1, bxP b)] (GF E none [] G) ?_ rfl (by repeat' first | exact trivial | refine ⟨rfl, ?_⟩) (by repeat' first | exact trivial | refine ⟨rfl, ?_⟩) (by rfl) ?_
 rotate_left
 ·intro n
  by_cases k7 : n = 7
  ·subst k7; rfl
  by_cases k3 : n = 3
  ·subst k3; exact g3
  by_cases k4 : n = 4
  ·subst k4; exact g4
  ·simp [gset, gov, lk, k3, k4, k7]
 refine pinF E [] G fun z => ?_
 repeat' (first | refine VJ.seq ?_ | refine VJ.block ?_ | refine VJ.region_k fun K hK => ?_ | (refine VR.done (hK _ ?_); clear hK K) | (first | refine VR.move rfl rfl ?_ | (show onLd; refine VR.load tok rfl rfl rfl rfl ?_) | (show onFa; refine VR.fieldAddr tok rfl rfl rfl rfl rfl rfl ?_) | refine VR.nilCheck rfl rfl rfl ?_ | refine VR.range rfl rfl rfl (mapOk (by rfl)) ?_))
 refine VJ.to 3 [(23, .a (.ptr (.l 2) 0)), (6, vB7), (5, .a (.ptr (.l 1) 0)), (4, .a (.ptr (.l 0) 0)), (0, vN)] [(0, bxP a), (1, bxP b), (2, .itr En.v Tr.v E E z none)] ?_ rfl (by repeat' first | exact trivial | refine ⟨rfl, ?_⟩) (by repeat' first | exact trivial | refine ⟨rfl, ?_⟩) (by rfl)
 refine VJ.rec (fun p : List Wl × LS × LS × Option Value => ⟨3, [(23, .a (.ptr (.l 2) 0)), (6, vB7), (5, .a (.ptr (.l 1) 0)), (4, .a (.ptr (.l 0) 0)), (0, vN)], [(0, bxP a), (1, bxP b), (2, .itr En.v Tr.v E p.2.2.1 z p.2.2.2)], GF E (some z) p.1 G⟩) (fun p => p.2.2.1.length) (fun p => (p.2.1 ++ p.2.2.1).Perm E ∧ p.1.length ≤ p.2.1.length) ([], [], E, none) ⟨by simp, by simp⟩ ?_
 rintro ⟨l, dn, left, cur⟩ ⟨hpm, hln⟩ ih
 dsimp only at hpm hln ih ⊢
 have hle : l.length ≤ E.length := by
  have := hpm.length_eq
  rw [List.length_append] at this
  omega
 repeat' (first | refine VJ.seq ?_ | refine VJ.region_k fun K hK => ?_ | (fail))
 refine VR.next (i := .g 4) rfl rfl rfl rfl ?_ ?_
 rotate_left
 ·intro x c y z' hl
  subst hl
  have hpm' : ((dn ++ [(x, c)]) ++ (y ++ z')).Perm E := by
   refine List.Perm.trans ?_ hpm
   rw [List.append_assoc]
   refine List.Perm.append_left dn ?_
   simpa using (List.perm_middle (a := (x, c)) (l₁ := y) (l₂ := z')).symm
  have ih1 := ih (insR l ⟨x.a, x.b, 0⟩, dn ++ [(x, c)], y ++ z', some (.tuple #[x.v, c.v])) ⟨hpm', by simp [insR_length]; omega⟩ (by simp)
  have ih2 := ih (l, dn ++ [(x, c)], y ++ z', some (.tuple #[x.v, c.v])) ⟨hpm', by simp; omega⟩ (by simp)
  dsimp only at ih1 ih2
  clear ih
  repeat' (first | refine VJ.seq ?_ | refine VJ.skip ?_ | refine VJ.block ?_ | refine VJ.cond_t rfl ?_ | refine VJ.region_k fun K hK => ?_ | (refine VR.done (hK _ ?_); clear hK K) | (first | refine VR.move rfl rfl ?_ | (show onLd; refine VR.load tok rfl rfl rfl rfl ?_) | (show onFa; refine VR.fieldAddr tok rfl rfl rfl rfl rfl rfl ?_) | refine VR.int rfl rfl rfl rfl ?_ | (refine VR.pickB rfl rfl rfl rfl ?_ ?_ ?_; iterate 2 (first | exact trivial | (refine fun h => ?_; first | (rw [h]; rfl) | (rw [h, hg]; rfl) | (rw [hg, h]; rfl) | (simp [h, hg]; done)))) | refine VR.alloc tok rfl rfl rfl ?_ | refine VR.store tok rfl rfl rfl rfl rfl rfl rfl (by first | (intro n e; cases e; done) | exact (fun _ _ q => all_glA (by rfl) q)) ?_ | refine VR.extract rfl rfl rfl ?_ | (refine VR.entry (i := .g 4) rfl rfl rfl rfl ?_)) | (refine' VR.spec (by rfl) (by rfl) (by rfl) ?_ ?_ ?_; rotate_left 1; (repeat (first | exact trivial | refine And.intro id ?_)); intro hg K1 hK1; (first | (show onLd; refine VR.load tok rfl rfl rfl rfl ?_) | (show onFa; refine VR.fieldAddr tok rfl rfl rfl rfl rfl rfl ?_) | refine VR.int rfl rfl rfl rfl ?_ | (refine VR.call fok100 rfl rfl rfl rfl ?_; refine (v_meetR a b x.a x.b _ _ ?_))); exact VR.done hK1) | (refine VR.call fok71 rfl rfl rfl rfl ?_; refine (v_cpR x.a x.b _ _ ?_)))
  refine VJ.cond rfl (fun hc => ?_) (fun hc => ?_)
  ·repeat' (first | refine VJ.inBlock ?_ | refine VJ.region_k fun K hK => ?_ | (refine VR.done (hK _ ?_); clear hK K) | (first | refine VR.move rfl rfl ?_ | (show onLd; refine VR.load tok rfl rfl rfl rfl ?_) | (show onFa; refine VR.fieldAddr tok rfl rfl rfl rfl rfl rfl ?_) | refine VR.buildX [_, _, _, _, _] tok rfl rfl rfl rfl rfl rfl ?_) | (refine VR.call fok50 rfl rfl rfl rfl ?_; refine (v_putB l (by omega) ⟨x.a, x.b, 0⟩ _ (by exact rfl) _ ?_)))
   exact VJ.toG 3 [(23, .a (.ptr (.l 2) 0)), (6, vB7), (5, .a (.ptr (.l 1) 0)), (4, .a (.ptr (.l 0) 0)), (0, vN)] [(0, bxP a), (1, bxP b), (2, .itr En.v Tr.v E (y ++ z') z (some (.tuple #[x.v, c.v])))] (GF E (some z) (insR l ⟨x.a, x.b, 0⟩) G) ih1 rfl (by repeat' first | exact trivial | refine ⟨rfl, ?_⟩) (by repeat' first | exact trivial | refine ⟨rfl, ?_⟩) (by rfl) (fun n => GF_7 E (some z) l _ G n)
  ·repeat' (first | refine VJ.skip ?_ | refine VJ.inBlock ?_ | (fail))
   exact VJ.to 3 _ _ ih2 rfl (by repeat' first | exact trivial | refine ⟨rfl, ?_⟩) (by repeat' first | exact trivial | refine ⟨rfl, ?_⟩) (by rfl)
 intro hl
 subst hl
 clear ih hpm
 repeat' (first | refine VJ.seq ?_ | refine VJ.block ?_ | refine VJ.exit rfl ?_ | refine VJ.cond_f rfl ?_ | refine VJ.region_k fun K hK => ?_ | (refine VR.done (hK _ ?_); clear hK K) | (first | refine VR.move rfl rfl ?_ | refine VR.assign rfl rfl ?_ | (show onLd; refine VR.load tok rfl rfl rfl rfl ?_) | (show onFa; refine VR.fieldAddr tok rfl rfl rfl rfl rfl rfl ?_) | refine VR.nilCheck rfl rfl rfl ?_ | refine VR.extract rfl rfl rfl ?_))
 refine unpinF E z l G ?_
 refine VJ.to 2 [(9, vI ((0 : Nat) : Int)), (8, vL 5 (l.map Wl.v)), (5, .a (.ptr (.l 1) 0)), (4, .a (.ptr (.l 0) 0)), (0, vN)] [(0, bxP a), (1, bxP b)] ?_ rfl (by repeat' first | exact trivial | refine ⟨rfl, ?_⟩) (by repeat' first | exact trivial | refine ⟨rfl, ?_⟩) (by rfl)
 refine VJ.rec (fun p : Nat × LS × List Wl => ⟨2, [(9, vI p.1), (8, vL 5 (p.2.2.map Wl.v)), (5, .a (.ptr (.l 1) 0)), (4, .a (.ptr (.l 0) 0)), (0, vN)], [(0, bxP a), (1, bxP b)], GF p.2.1 none l G⟩) (fun p => 1000000 - p.1) (fun p => p.1 ≤ 1000000 ∧ Inv p.2.1 ∧ p.2.2.length ≤ 100000) (0, E, l) ⟨Nat.zero_le _, hE, by show l.length ≤ 100000; omega⟩ ?_
 clear hE few hle hln
 rintro ⟨n, E1, row⟩ ⟨hn, hI, hr⟩ ih
 dsimp only at hn hI hr ih ⊢
 have hRG : RefG (GF E1 none l G) E1 := ⟨rfl, ⟨none, rfl⟩⟩
 cases row with
 | nil =>
   repeat' (first | refine VJ.seq ?_ | refine VJ.exit rfl ?_ | refine VJ.cond_f rfl ?_ | refine VJ.region_k fun K hK => ?_ | (refine VR.done (hK _ ?_); clear hK K) | (first | refine VR.move rfl rfl ?_ | refine VR.int rfl rfl rfl rfl ?_ | refine VR.pick rfl rfl rfl ?_ | refine VR.g_no rfl rfl rfl (by first | rfl | assumption) ?_ | refine VR.len tok rfl rfl rfl rfl rfl ?_))
   refine VJ.finG (r := .tup []) (gset G 4 (mL E1 none)) tok (by rfl) (by rfl) (hend E1 l) (hk2 E1) (hcl E1) (fun m h => by obtain ⟨x, hx, _⟩ := h; cases hx) (hQ E1 hI)
 | cons w rest =>
   have hpos : decide ((((w :: rest).map Wl.v).length : Int) > 0) = true := decide_eq_true (by rw [List.length_map, List.length_cons]; omega)
   have hrl : rest.length < 100000 := by rw [List.length_cons] at hr; omega
   clear hr
   by_cases hn2 : n < 1000000
   rotate_left
   ·have hz : (bif decide ((((w :: rest).map Wl.v).length : Int) > 0) then decide ((n : Int) < 1000000) else false) = false := by rw [hpos, decide_eq_false (by omega)]; rfl
    repeat' (first | refine VJ.seq ?_ | refine VJ.region_k fun K hK => ?_ | (refine VR.done (hK _ ?_); clear hK K) | (first | refine VR.move rfl rfl ?_ | refine VR.int rfl rfl rfl rfl ?_ | (refine VR.pickB rfl rfl rfl rfl ?_ ?_ ?_; iterate 2 (first | exact trivial | (refine fun h => ?_; first | (rw [h]; rfl) | (rw [h, hg]; rfl) | (rw [hg, h]; rfl) | (simp [h, hg]; done)))) | refine VR.g_yes rfl rfl (by first | rfl | assumption) ?_ | refine VR.len tok rfl rfl rfl rfl rfl ?_))
    refine VJ.cond rfl (fun h => absurd (hz.symm.trans h) (by simp)) (fun _ => ?_)
    repeat' (first | refine VJ.exit rfl ?_ | (fail))
    refine VJ.finG (r := .tup []) (gset G 4 (mL E1 none)) tok (by rfl) (by rfl) (hend E1 l) (hk2 E1) (hcl E1) (fun m h => by obtain ⟨x, hx, _⟩ := h; cases hx) (hQ E1 hI)
   have hz : (bif decide ((((w :: rest).map Wl.v).length : Int) > 0) then decide ((n : Int) < 1000000) else false) = true := by rw [hpos, decide_eq_true (by omega)]; rfl
   repeat' (first | refine VJ.seq ?_ | refine VJ.region_k fun K hK => ?_ | (refine VR.done (hK _ ?_); clear hK K) | (first | refine VR.move rfl rfl ?_ | refine VR.int rfl rfl rfl rfl ?_ | (refine VR.pickB rfl rfl rfl rfl ?_ ?_ ?_; iterate 2 (first | exact trivial | (refine fun h => ?_; first | (rw [h]; rfl) | (rw [h, hg]; rfl) | (rw [hg, h]; rfl) | (simp [h, hg]; done)))) | refine VR.g_yes rfl rfl (by first | rfl | assumption) ?_ | refine VR.len tok rfl rfl rfl rfl rfl ?_))
   refine VJ.cond rfl (fun _ => ?_) (fun h => absurd (hz.symm.trans h) (by simp))
   repeat' (first | refine VJ.seq ?_ | refine VJ.skip ?_ | refine VJ.block ?_ | refine VJ.region_k fun K hK => ?_ | (refine VR.done (hK _ ?_); clear hK K) | (first | refine VR.move rfl rfl ?_ | refine VR.assign rfl rfl ?_ | (show onLd; refine VR.load tok rfl rfl rfl (by first | rfl | exact (ldp_el (by assumption)).trans (by rfl)) ?_) | (show onFa; refine VR.fieldAddr tok rfl rfl rfl (by first | rfl | exact place_el (by assumption)) rfl rfl ?_) | (refine VR.pickB rfl rfl rfl rfl ?_ ?_ ?_; iterate 2 (first | exact trivial | (refine fun h => ?_; first | (rw [h]; rfl) | (rw [h, hg]; rfl) | (rw [hg, h]; rfl) | (simp [h, hg]; done)))) | refine VR.not rfl rfl ?_ | refine VR.alloc tok rfl rfl rfl ?_ | refine VR.store tok rfl rfl rfl rfl rfl rfl rfl (by first | (intro n e; cases e; done) | exact (fun _ _ q => all_glA (by rfl) q)) ?_ | refine VR.extract rfl rfl rfl ?_ | (refine VR.indexAddr (j := 0) tok rfl rfl rfl rfl rfl rfl rfl (elA_lst (show ((w :: rest).map Wl.v)[0]? = some w.v from rfl)) ?_) | (refine VR.buildRow (([] : List Wl).map Wl.v) tok (by rfl) (by rfl) (by rfl) (by rfl) (by rfl) (by rfl) (by rfl) (by rfl) (by rfl) (by rfl) (by rfl) ?_) | (refine VR.sliceL 1 tok rfl rfl rfl rfl rfl rfl rfl rfl (by simp) ?_) | (refine VR.appendN tok (by rfl) (by rfl) (by rfl) (by rfl) (by rfl) (by rfl) (by rfl) (by rfl) (by rfl) (oneW rest) (by simp; omega) (by simp [maxLen]; omega) ?_)) | (refine' VR.spec (by rfl) (by rfl) (by rfl) ?_ ?_ ?_; rotate_left 1; (repeat (first | exact trivial | refine And.intro id ?_)); intro hg K1 hK1; (first | refine VR.move rfl rfl ?_ | refine VR.not rfl rfl ?_); exact VR.done hK1) | (refine VR.call fok42 rfl rfl rfl rfl ?_; refine (v_leftR E1 w.a w.b _ hRG _ ?_)) | (refine VR.call fok42 rfl rfl rfl rfl ?_; refine (v_leftR E1 w.b w.a _ hRG _ ?_)))
   have ih0 : ∀ (E2 : LS) (row2 : List Wl), Inv E2 → row2.length ≤ 100000 → _ := fun E2 row2 h1 h2 => ih (n + 1, E2, row2) ⟨by show n + 1 ≤ 1000000; omega, h1, h2⟩ (by show 1000000 - (n + 1) < 1000000 - n; omega)
   clear ih
   generalize hls : leftOf E1 w.a w.b = ls at ⊢
   generalize hrs : leftOf E1 w.b w.a = rs at ⊢
   refine VJ.cond rfl (fun _ => ?_) (fun _ => ?_)
   ·refine VJ.freeze 8 rfl rfl ?_
    have ih1 := ih0 E1 rest hI (by omega)
    clear ih0
    repeat' (first | refine VJ.exit rfl ?_ | refine VJ.region_k fun K hK => ?_ | (refine VR.done (hK _ ?_); clear hK K) | (first | refine VR.move rfl rfl ?_ | refine VR.assign rfl rfl ?_ | refine VR.int rfl rfl rfl rfl ?_))
    exact VJ.to 2 _ _ ih1 rfl ⟨vI_succ (by omega), by rfl, by rfl, by rfl, by rfl, trivial⟩ (by repeat' first | exact trivial | refine ⟨rfl, ?_⟩) (by rfl)
   obtain ⟨c, hcE⟩ : ∃ c, farR ls.1 w.a w.b = c := ⟨_, rfl⟩
   obtain ⟨d, hdE⟩ : ∃ d, farR rs.1 w.a w.b = d := ⟨_, rfl⟩
   refine VJ.to 7 [(13, .a (.ptr (.l 6) 0)), (11, .a (.ptr (.l 5) 0)), (10, .a (.ptr (.l 2) 0)), (8, .a (.own (.l 4))), (9, vI n), (5, .a (.ptr (.l 1) 0)), (4, .a (.ptr (.l 0) 0)), (0, vN)] [(0, bxP a), (1, bxP b), (2, bxW w), (4, .row 96 5 (rest.map Wl.v)), (5, bxT ls.1), (6, bxT rs.1)] ?_ rfl (by repeat' first | exact trivial | refine ⟨rfl, ?_⟩) (by repeat' first | exact trivial | refine ⟨rfl, ?_⟩) (by rfl)
   refine VJ.skip ?_
   refine VJ.seq ?_
   refine via1 ⟨9, [(16, .a (.ptr (.l 8) 0)), (15, .a (.ptr (.l 7) 0)), (10, .a (.ptr (.l 2) 0)), (8, .a (.own (.l 4))), (9, vI n), (5, .a (.ptr (.l 1) 0)), (4, .a (.ptr (.l 0) 0)), (0, vN)], [(0, bxP a), (1, bxP b), (2, bxW w), (4, .row 96 5 (rest.map Wl.v)), (7, bxP c), (8, bxP d)], GF E1 none l G⟩ (fun kk hrest => ?_) ?_
   ·skip
    apply VJ.draw12 12 13 [14, 15] [(0, 0), (1, 0), (2, 0), (3, 0), (4, 0), (5, 0), (6, 0), (7, 0), (8, 0), (9, 0), (10, 0), (11, 0), (12, 0), (13, 1), (14, 2), (15, 3), (0, 1), (0, 2), (1, 1), (1, 2), (2, 1), (2, 2), (3, 1), (3, 2), (4, 1), (4, 2), (5, 1), (5, 2), (6, 1), (6, 2), (6, 3), (7, 1), (7, 2), (7, 3), (8, 1), (8, 2), (8, 3), (9, 1), (9, 2), (9, 3), (10, 1), (10, 2), (10, 3), (11, 1), (11, 2)] [(0, 0), (1, 0), (2, 0), (3, 0), (4, 0), (5, 0), (6, 0), (7, 0), (8, 0), (9, 0), (10, 0), (11, 0), (13, 0), (12, 1), (14, 2), (15, 3), (0, 1), (0, 2), (1, 1), (1, 2), (2, 1), (2, 2), (3, 1), (3, 2), (4, 1), (4, 2), (5, 1), (5, 2), (6, 1), (6, 2), (6, 3), (7, 1), (7, 2), (7, 3), (8, 1), (8, 2), (8, 3), (9, 1), (9, 2), (9, 3), (10, 1), (10, 2), (10, 3), (11, 1), (11, 2)] [false, false, false, false, false, false, false, false, false, false, false, false, true, true, true, true] [[(11, none)], [(10, none)], [(96, some 1)], [(10, none)], [(98, some 3)], [(95, some 0), (97, some 2), (99, some 4)], [(13, none)], [(10, none)], [(102, some 7)], [(10, none)], [(104, some 9)], [(101, some 6), (103, some 8), (105, some 10)], [], [], [(15, some 12), (100, some 5)], [(16, some 13), (106, some 11)]] [[(11, _)], [(10, _)], [(96, _)], [(10, _)], [(98, _)], [(95, _), (97, _), (99, _)], [(13, _)], [(10, _)], [(102, _)], [(10, _)], [(104, _)], [(101, _), (103, _), (105, _)], [], [], [(15, _), (100, _)], [(16, _), (106, _)]] [[(11, _)], [(10, _)], [(96, _)], [(10, _)], [(98, _)], [(95, _), (97, _), (99, _)], [(13, _)], [(10, _)], [(102, _)], [(10, _)], [(104, _)], [(101, _), (103, _), (105, _)], [], [], [(15, _), (100, _)], [(16, _), (106, _)]] [_, _, _, _, _, _, _, _, _, _, _, _, _, _, (.a .top), (.a .top)] [_, _, _, _, _, _, _, _, _, _, _, _, _, _, (.a .top), (.a .top)] [⟨_, _, _⟩, ⟨_, _, _⟩, ⟨_, _, _⟩, ⟨_, _, _⟩, ⟨_, _, _⟩] [⟨_, _, _⟩, ⟨_, _, _⟩, ⟨_, _, _⟩, ⟨_, _, _⟩, ⟨_, _, _⟩] (by kernel_rfl) ?hok rfl rfl rfl rfl rfl rfl ?hh1 ?hh2 ?hag rfl rfl rfl rfl ?hj1 ?hj2
    case hh1 =>
     refine ⟨?_, ?_, ?_, ?_, ?_, ?_, ?_, ?_, ?_, ?_, ?_, ?_, ?_, ?_, ?_, ?_, ?_, ?_, ?_, ?_, ?_, ?_, ?_, ?_, ?_, ?_, ?_, ?_, ?_, ?_, ?_, ?_, ?_, ?_, ?_, ?_, ?_, ?_, ?_, ?_, ?_, ?_, ?_, ?_, ?_, trivial⟩
     all_goals (intro rest K1 hK1; (repeat (first | exact VR.done hK1 | (first | (show onLd; refine VR.load tok rfl rfl rfl rfl ?_) | (show onFa; refine VR.fieldAddr tok rfl rfl rfl rfl rfl rfl ?_) | refine VR.alloc tok rfl rfl rfl ?_ | refine VR.store tok rfl rfl rfl rfl rfl rfl rfl (by first | (intro n e; cases e; done) | exact (fun _ _ q => all_glA (by rfl) q)) ?_) | (refine VR.call fok98 rfl rfl rfl rfl ?_; refine (v_farE ls.1 w.a w.b hcE _ _ ?_)) | (refine VR.call fok98 rfl rfl rfl rfl ?_; refine (v_farE rs.1 w.a w.b hdE _ _ ?_)))); try (first | exact VR.done hK1 | (refine VR.done ?_; dsimp only [S.set]; exact hK1)))
    case hh2 =>
     refine ⟨?_, ?_, ?_, ?_, ?_, ?_, ?_, ?_, ?_, ?_, ?_, ?_, ?_, ?_, ?_, ?_, ?_, ?_, ?_, ?_, ?_, ?_, ?_, ?_, ?_, ?_, ?_, ?_, ?_, ?_, ?_, ?_, ?_, ?_, ?_, ?_, ?_, ?_, ?_, ?_, ?_, ?_, ?_, ?_, ?_, trivial⟩
     all_goals (intro rest K1 hK1; (repeat (first | exact VR.done hK1 | (first | (show onLd; refine VR.load tok rfl rfl rfl rfl ?_) | (show onFa; refine VR.fieldAddr tok rfl rfl rfl rfl rfl rfl ?_) | refine VR.alloc tok rfl rfl rfl ?_ | refine VR.store tok rfl rfl rfl rfl rfl rfl rfl (by first | (intro n e; cases e; done) | exact (fun _ _ q => all_glA (by rfl) q)) ?_) | (refine VR.call fok98 rfl rfl rfl rfl ?_; refine (v_farE ls.1 w.a w.b hcE _ _ ?_)) | (refine VR.call fok98 rfl rfl rfl rfl ?_; refine (v_farE rs.1 w.a w.b hdE _ _ ?_)))); try (first | exact VR.done hK1 | (refine VR.done ?_; dsimp only [S.set]; exact hK1)))
    case hag => repeat' (first | exact trivial | refine And.intro rfl ?_)
    case hok => kernel_rfl
    ·dsimp only [List.append, tla]
     exact VJ.to 9 _ _ hrest rfl (by repeat' first | exact trivial | refine ⟨rfl, ?_⟩) (by repeat' first | exact trivial | refine ⟨rfl, ?_⟩) (by rfl)
    ·dsimp only [List.append, tla]
     refine VJ.sw 7 8 (by rfl) (by rfl) ?_
     exact VJ.to 9 _ _ hrest rfl (by repeat' first | exact trivial | refine ⟨rfl, ?_⟩) (by repeat' first | exact trivial | refine ⟨rfl, ?_⟩) (by rfl)
   clear hcE hdE hls hrs
   by_cases hfl : flipC E1 w.a w.b = 0
   ·have hI2 := F.fl E1 w.a w.b hI hfl
    have ih1 := ih0 (flipS E1 w.a w.b) (rest ++ [⟨lesser c d, greater c d, 0⟩]) hI2 (by rw [List.length_append]; simp; omega)
    have ih2 := ih0 (flipS E1 w.a w.b) rest hI2 (by omega)
    clear ih0
    repeat' (first | refine VJ.seq ?_ | refine VJ.cond_f rfl ?_ | refine VJ.region_k fun K hK => ?_ | (refine VR.done (hK _ ?_); clear hK K) | (first | refine VR.move rfl rfl ?_ | (show onLd; refine VR.load tok rfl rfl rfl rfl ?_) | (show onFa; refine VR.fieldAddr tok rfl rfl rfl rfl rfl rfl ?_) | refine VR.int rfl rfl rfl rfl ?_ | (refine VR.call fok78 rfl rfl rfl rfl ?_; refine v_flipR E1 w.a w.b _ hRG _ (fun h => absurd hfl h) (fun _ => ?_))) | (refine VR.call fok100 rfl rfl rfl rfl ?_; refine (v_meetR a b c d _ _ ?_)))
    refine VJ.cond rfl (fun hc => ?_) (fun hc => ?_)
    ·skip
     apply VJ.draw3 [9] [(0, 0), (1, 0), (2, 0), (3, 0), (4, 0), (5, 0), (6, 0), (7, 0), (8, 0), (9, 0), (10, 1), (1, 1), (2, 1), (3, 1), (4, 1), (5, 1), (7, 1)] [[(8, none)], [(15, none)], [(16, none)], [(125, some 1), (126, some 2)], [(15, none)], [(16, none)], [(128, some 4), (129, some 5)], [(127, some 3), (130, some 6)], [(131, some 7)], [(124, some 0), (132, some 8)], [(133, some 9)]] [[(8, _)], [(15, _)], [(16, _)], [(125, _), (126, _)], [(15, _)], [(16, _)], [(128, _), (129, _)], [(127, _), (130, _)], [(131, _)], [(124, _), (132, _)], [(133, _)]] [_, _, _, _, _, _, _, _, _, _, _] [⟨_, _, _⟩, ⟨_, _, _⟩] (by kernel_rfl) ?hok rfl ?hh rfl rfl ?hj
     case hh =>
      refine ⟨?_, ?_, ?_, ?_, ?_, ?_, ?_, ?_, ?_, ?_, ?_, ?_, ?_, ?_, ?_, ?_, ?_, trivial⟩
      all_goals (intro rest K1 hK1; (repeat (first | exact VR.done hK1 | (first | refine VR.move rfl rfl ?_ | refine VR.assign rfl rfl ?_ | (show onLd; refine VR.load tok rfl rfl rfl rfl ?_) | refine VR.buildX [_, _, _, _, _] tok rfl rfl rfl rfl rfl rfl ?_ | (refine VR.buildLst (([⟨lesser c d, greater c d, 0⟩] : List Wl).map Wl.v) tok (by rfl) (by rfl) (by rfl) (by rfl) (by rfl) (by rfl) (by rfl) (by rfl) (by rfl) (by rfl) (by rfl) ?_) | (refine VR.appendN tok (by rfl) (by rfl) (by rfl) (by rfl) (by rfl) (by rfl) (by rfl) (by rfl) (by rfl) (oneW [⟨lesser c d, greater c d, 0⟩]) (by simp; omega) (by simp [maxLen]; omega) ?_)) | (refine VR.call fok73 rfl rfl rfl rfl ?_; refine (v_lesser c d _ _ ?_)) | (refine VR.call fok74 rfl rfl rfl rfl ?_; refine (v_greater c d _ _ ?_)))); try (first | exact VR.done hK1 | (refine VR.done ?_; dsimp only [S.set]; exact hK1)))
     case hok => kernel_rfl
     case hj =>
      dsimp only [List.append, tla]
      refine VJ.freeze 8 rfl rfl ?_
      repeat' (first | refine VJ.inBlock ?_ | refine VJ.region_k fun K hK => ?_ | (refine VR.done (hK _ ?_); clear hK K) | (first | refine VR.move rfl rfl ?_ | refine VR.assign rfl rfl ?_ | refine VR.int rfl rfl rfl rfl ?_))
      exact VJ.toG 2 [(9, vI ((n + 1 : Nat) : Int)), (8, vL 5 ((rest ++ ([⟨lesser c d, greater c d, 0⟩] : List Wl)).map Wl.v)), (5, .a (.ptr (.l 1) 0)), (4, .a (.ptr (.l 0) 0)), (0, vN)] [(0, bxP a), (1, bxP b)] (GF (flipS E1 w.a w.b) none l G) ih1 rfl ⟨vI_succ (by omega), by rw [List.map_append]; rfl, by rfl, by rfl, by rfl, trivial⟩ (by repeat' first | exact trivial | refine ⟨rfl, ?_⟩) (by rfl) (fun n => GF_4 E1 _ none none l G n)
    ·refine VJ.freeze 8 rfl rfl ?_
     repeat' (first | refine VJ.skip ?_ | refine VJ.inBlock ?_ | refine VJ.region_k fun K hK => ?_ | (refine VR.done (hK _ ?_); clear hK K) | (first | refine VR.move rfl rfl ?_ | refine VR.assign rfl rfl ?_ | refine VR.int rfl rfl rfl rfl ?_))
     exact VJ.toG 2 [(9, vI ((n + 1 : Nat) : Int)), (8, vL 5 (rest.map Wl.v)), (5, .a (.ptr (.l 1) 0)), (4, .a (.ptr (.l 0) 0)), (0, vN)] [(0, bxP a), (1, bxP b)] (GF (flipS E1 w.a w.b) none l G) ih2 rfl ⟨vI_succ (by omega), by rfl, by rfl, by rfl, by rfl, trivial⟩ (by repeat' first | exact trivial | refine ⟨rfl, ?_⟩) (by rfl) (fun n => GF_4 E1 _ none none l G n)
   ·have hk : (flipC E1 w.a w.b != 0) = true := by simpa using hfl
    have ih1 := ih0 E1 (rest ++ [w]) hI (by rw [List.length_append]; simp; omega)
    clear ih0
    repeat' (first | refine VJ.seq ?_ | refine VJ.region_k fun K hK => ?_ | (refine VR.done (hK _ ?_); clear hK K) | (first | refine VR.move rfl rfl ?_ | (show onLd; refine VR.load tok rfl rfl rfl rfl ?_) | (show onFa; refine VR.fieldAddr tok rfl rfl rfl rfl rfl rfl ?_) | refine VR.int rfl rfl rfl rfl ?_ | (refine VR.call fok78 rfl rfl rfl rfl ?_; refine v_flipR E1 w.a w.b _ hRG _ (fun _ => ?_) (fun h => absurd h hfl))))
    refine VJ.cond rfl (fun _ => ?_) (fun h => absurd (hk.symm.trans h) (by simp))
    repeat' (first | refine VJ.region_k fun K hK => ?_)
    repeat (first | refine VR.move rfl rfl ?_ | refine VR.assign rfl rfl ?_ | (show onLd; refine VR.load tok rfl rfl rfl rfl ?_) | (refine VR.buildLst ([w].map Wl.v) tok (by rfl) (by rfl) (by rfl) (by rfl) (by rfl) (by rfl) (by rfl) (by rfl) (by rfl) (by rfl) (by rfl) ?_) | (refine VR.appendN tok (by rfl) (by rfl) (by rfl) (by rfl) (by rfl) (by rfl) (by rfl) (by rfl) (by rfl) (oneW [w]) (by simp; omega) (by simp [maxLen]; omega) ?_))
    refine VR.done (hK _ ?_); clear hK K
    refine VJ.freeze 8 rfl rfl ?_
    repeat' (first | refine VJ.inBlock ?_ | refine VJ.region_k fun K hK => ?_ | (refine VR.done (hK _ ?_); clear hK K) | (first | refine VR.move rfl rfl ?_ | refine VR.assign rfl rfl ?_ | refine VR.int rfl rfl rfl rfl ?_))
    exact VJ.to 2 _ _ ih1 rfl ⟨vI_succ (by omega), by rw [List.map_append]; rfl, by rfl, by rfl, by rfl, trivial⟩ (by repeat' first | exact trivial | refine ⟨rfl, ?_⟩) (by rfl)
end Go.Proofs.YtnpnjhopgedhkaaGreat
namespace Go.Proofs.YtnpnjhopgedhkaaGreat
open Go.RowKit V Geo
theorem G3W_self {E : LS} {W : List Wl} {G : Gl} (g3 : G 3 = some bxN) (g4 : G 4 = some (mL E none)) (g5 : WalG G W) : G = G3W E W G := gov_self (show govOk G [(3, bxN), (4, mL E none), (5, bxR W)] from ⟨g3, g4, g5, trivial⟩)
attribute [local irreducible] VR VJ VC decOk decBt
set_option maxRecDepth 20000 in
set_option maxHeartbeats 16000000 in
theorem v_addWallM (Inv : LS → Prop) (F : Flips Inv) (E : LS) (hE : Inv E) (W : List Wl) (hW : W.length < 900000) (a b : Pt) (kind : Int) (G : Gl) (g3 : G 3 = some bxN) (g4 : G 4 = some (mL E none)) (g5 : WalG G W) (h7 : G 7 = none) (Q : Po) (hQ : ∀ r E' W', Inv E' → W'.length ≤ W.length + 10000 → Q (vI r) (G3W E' W' G)) : VC Tryz.prog 53 [vN, vWl, vV (ptV a), vV (ptV b), vI kind] G Q := by
 have few := F.few E hE
 refine VC.of_body Tryz.func53 rfl rfl rfl fun W0 h0 x0 hG0 => ?_
 simp only [args0]
 refine VJ.toG 0 (args0 0 [vN, vWl, vV (ptV a), vV (ptV b), vI kind]) [] (G3W E W G) ?_ rfl (by repeat' first | exact trivial | refine ⟨rfl, ?_⟩) trivial (by rfl) (fun n => congrFun (G3W_self g3 g4 g5) n)
 simp only [args0]
 have hRG : RefG (G3W E W G) E := ⟨rfl, ⟨none, rfl⟩⟩
 have hWG : WalG (G3W E W G) W := rfl
 repeat' (first | refine VJ.seq ?_ | refine VJ.region_k fun K hK => ?_ | (refine VR.done (hK _ ?_); clear hK K) | (first | refine VR.move rfl rfl ?_ | refine VR.assign rfl rfl ?_ | refine VR.int rfl rfl rfl rfl ?_ | (refine VR.pickB rfl rfl rfl rfl ?_ ?_ ?_; iterate 2 (first | exact trivial | (refine fun h => ?_; first | (rw [h]; rfl) | (rw [h, hg]; rfl) | (rw [hg, h]; rfl) | (simp [h, hg]; done)))) | refine VR.box rfl rfl rfl ?_) | (refine' VR.spec (by rfl) (by rfl) (by rfl) ?_ ?_ ?_; rotate_left 1; (repeat (first | exact trivial | refine And.intro id ?_)); intro hg K1 hK1; (first | refine VR.move rfl rfl ?_ | refine VR.int rfl rfl rfl rfl ?_); exact VR.done hK1))
 refine VJ.cond rfl (fun _ => ?_) (fun _ => ?_)
 ·have hq := hQ 2 E W hE (by omega)
  repeat' (first | refine VJ.seq ?_ | refine VJ.region_k fun K hK => ?_ | (refine VR.done (hK _ ?_); clear hK K) | (first | refine VR.assign rfl rfl ?_))
  refine VJ.ret tok (by rfl) (by rfl) ?_
  exact hq
 repeat' (first | refine VJ.seq ?_ | refine VJ.skip ?_ | refine VJ.block ?_ | refine VJ.cond_f rfl ?_ | refine VJ.region_k fun K hK => ?_ | (refine VR.done (hK _ ?_); clear hK K) | (first | refine VR.move rfl rfl ?_ | refine VR.assign rfl rfl ?_ | (show onLd; refine VR.load tok rfl rfl rfl rfl ?_) | refine VR.int rfl rfl rfl rfl ?_ | refine VR.extract rfl rfl rfl ?_ | (refine VR.call fok83 rfl rfl rfl rfl ?_; refine v_parts E (by omega) a b _ hRG _ (fun e he => ?_) (fun l hl => ?_))))
 ·have hz : (e != 0) = true := by simpa using he
  have hq := hQ e E W hE (by omega)
  refine VJ.cond rfl (fun _ => ?_) (fun h => absurd (hz.symm.trans h) (by simp))
  repeat' (first | refine VJ.seq ?_ | refine VJ.region_k fun K hK => ?_ | (refine VR.done (hK _ ?_); clear hK K) | (first | refine VR.move rfl rfl ?_ | refine VR.assign rfl rfl ?_))
  refine VJ.ret tok (by rfl) (by rfl) ?_
  exact hq
 refine VJ.to 0 [(13, vI ((0 : Nat) : Int)), (11, vL 2 (l.map ptV)), (4, vI kind), (1, vWl), (0, vN)] [] ?_ rfl (by repeat' first | exact trivial | refine ⟨rfl, ?_⟩) trivial (by rfl)
 refine VJ.rec (fun i : Nat => ⟨0, [(13, vI i), (11, vL 2 (l.map ptV)), (4, vI kind), (1, vWl), (0, vN)], [], G3W E W G⟩) (fun i => l.length - i) (fun i => i ≤ l.length) 0 (Nat.zero_le _) ?_
 intro i hi ih
 have hw : IntKind.i64.wrap ((i : Int) + 1) = ((i + 1 : Nat) : Int) := by rw [Go.IntWalk.i64_in _ (by omega)]; omega
 repeat' (first | refine VJ.seq ?_ | refine VJ.region_k fun K hK => ?_ | (refine VR.done (hK _ ?_); clear hK K) | (first | refine VR.move rfl rfl ?_ | refine VR.int rfl rfl rfl rfl ?_ | refine VR.len tok rfl rfl rfl rfl rfl ?_))
 refine VJ.cond rfl (fun hb => ?_) (fun hb => ?_)
 ·have hlt : i + 1 < l.length := by
   have hb := of_decide_eq_true hb
   rw [hw, List.length_map] at hb
   omega
  have hget1 := map_get_p (show i < l.length by omega)
  have hget2 := map_get_p hlt
  have ih' := ih (i + 1) (by omega) (by omega)
  clear ih
  generalize l[i] = p1 at hget1
  generalize l[i + 1] = p2 at hget2
  repeat' (first | refine VJ.seq ?_ | refine VJ.skip ?_ | refine VJ.block ?_ | (fail))
  apply VJ.draw3 [] [(0, 0), (1, 0), (2, 0), (3, 0), (4, 0), (5, 0), (6, 0), (7, 0), (8, 0), (9, 0), (10, 0), (11, 0)] [[(1, none)], [(11, none)], [(13, none)], [(42, some 1), (43, some 2)], [(44, some 3)], [(11, none)], [(13, none)], [(47, some 6)], [(46, some 5), (48, some 7)], [(49, some 8)], [(41, some 0), (45, some 4), (50, some 9)], [(51, some 10)]] [[(1, _)], [(11, _)], [(13, _)], [(42, _), (43, _)], [(44, _)], [(11, _)], [(13, _)], [(47, _)], [(46, _), (48, _)], [(49, _)], [(41, _), (45, _), (50, _)], [(51, _)]] [_, _, _, _, _, _, _, _, _, _, _, _] [⟨_, _, _⟩] (by kernel_rfl) ?hok rfl ?hh rfl rfl ?hj
  case hh =>
   refine ⟨?_, ?_, ?_, ?_, ?_, ?_, ?_, ?_, ?_, ?_, ?_, ?_, trivial⟩
   all_goals (intro rest K1 hK1; (repeat (first | exact VR.done hK1 | (first | (refine VR.indexAddr tok rfl rfl rfl rfl rfl rfl hw (elA_lst hget2) ?_) | (refine VR.indexAddr tok rfl rfl rfl rfl rfl rfl rfl (elA_lst hget1) ?_) | refine VR.move rfl rfl ?_ | refine VR.assign rfl rfl ?_ | (show onLd; refine VR.load tok rfl rfl rfl (by first | rfl | exact (ldp_el (by assumption)).trans (by rfl)) ?_) | refine VR.int rfl rfl rfl rfl ?_) | (refine VR.call fok84 rfl rfl rfl rfl ?_; refine (v_clashR W (by omega) p1 p2 _ hWG _ ?_)))); try (first | exact VR.done hK1 | (refine VR.done ?_; dsimp only [S.set]; exact hK1)))
  case hok => kernel_rfl
  case hj =>
   dsimp only [List.append, tla]
   repeat' (first | refine VJ.seq ?_ | refine VJ.region_k fun K hK => ?_ | (refine VR.done (hK _ ?_); clear hK K) | (first | refine VR.move rfl rfl ?_ | refine VR.int rfl rfl rfl rfl ?_))
   refine VJ.cond rfl (fun _ => ?_) (fun _ => ?_)
   ·have hq := hQ (clashR W p1 p2) E W hE (by omega)
    repeat' (first | refine VJ.seq ?_ | refine VJ.region_k fun K hK => ?_ | (refine VR.done (hK _ ?_); clear hK K) | (first | refine VR.move rfl rfl ?_ | refine VR.assign rfl rfl ?_))
    refine VJ.ret tok (by rfl) (by rfl) ?_
    exact hq
   ·repeat' (first | refine VJ.skip ?_ | refine VJ.inBlock ?_ | refine VJ.region_k fun K hK => ?_ | (refine VR.done (hK _ ?_); clear hK K) | (first | refine VR.move rfl rfl ?_ | refine VR.assign rfl rfl ?_ | refine VR.int rfl rfl rfl rfl ?_))
    exact VJ.to 0 _ _ ih' rfl ⟨vI_succ (by omega), by rfl, by rfl, by rfl, by rfl, trivial⟩ trivial (by rfl)
 clear ih hb hw hi
 repeat' (first | refine VJ.seq ?_ | refine VJ.block ?_ | refine VJ.exit rfl ?_ | refine VJ.region_k fun K hK => ?_ | (refine VR.done (hK _ ?_); clear hK K) | (first | refine VR.assign rfl rfl ?_))
 refine VJ.to 0 [(15, vI ((0 : Nat) : Int)), (11, vL 2 (l.map ptV)), (4, vI kind), (1, vWl), (0, vN)] [] ?_ rfl (by repeat' first | exact trivial | refine ⟨rfl, ?_⟩) trivial (by rfl)
 refine VJ.rec (fun p : Nat × LS × List Wl => ⟨0, [(15, vI p.1), (11, vL 2 (l.map ptV)), (4, vI kind), (1, vWl), (0, vN)], [], G3W p.2.1 p.2.2 G⟩) (fun p => l.length - p.1) (fun p => p.1 ≤ l.length ∧ Inv p.2.1 ∧ p.2.2.length ≤ W.length + p.1) (0, E, W) ⟨Nat.zero_le _, hE, by show W.length ≤ W.length + 0; omega⟩ ?_
 clear hRG hWG
 rintro ⟨j, E1, W1⟩ ⟨hj, hI, hW1⟩ ih
 dsimp only at hj hI hW1 ih ⊢
 have hw : IntKind.i64.wrap ((j : Int) + 1) = ((j + 1 : Nat) : Int) := by rw [Go.IntWalk.i64_in _ (by omega)]; omega
 repeat' (first | refine VJ.seq ?_ | refine VJ.region_k fun K hK => ?_ | (refine VR.done (hK _ ?_); clear hK K) | (first | refine VR.move rfl rfl ?_ | refine VR.int rfl rfl rfl rfl ?_ | refine VR.len tok rfl rfl rfl rfl rfl ?_))
 refine VJ.cond rfl (fun hb => ?_) (fun hb => ?_)
 ·have hlt : j + 1 < l.length := by
   have hb := of_decide_eq_true hb
   rw [hw, List.length_map] at hb
   omega
  have hget1 := map_get_p (show j < l.length by omega)
  have hget2 := map_get_p hlt
  have ih' : ∀ (E2 : LS) (x : Wl), Inv E2 → _ := fun E2 x h => ih (j + 1, E2, insR W1 x) ⟨by show j + 1 ≤ l.length; omega, h, by show (insR W1 x).length ≤ W.length + (j + 1); rw [insR_length]; omega⟩ (by show l.length - (j + 1) < l.length - j; omega)
  clear ih
  generalize l[j] = p1 at hget1
  generalize l[j + 1] = p2 at hget2
  repeat' (first | refine VJ.seq ?_ | refine VJ.skip ?_ | refine VJ.block ?_ | (fail))
  apply VJ.drawLast3 [_, _, _, _, _, _, _, _, _, _] _ [(0, 0), (1, 0), (2, 0), (3, 0), (4, 0), (5, 0), (6, 0), (7, 0), (8, 0), (9, 0)] [[(0, none)], [(11, none)], [(15, none)], [(63, some 1), (64, some 2)], [(65, some 3)], [(11, none)], [(15, none)], [(68, some 6)], [(67, some 5), (69, some 7)], [(70, some 8)], [(62, some 0), (66, some 4), (71, some 9)]] [[(0, _)], [(11, _)], [(15, _)], [(63, _), (64, _)], [(65, _)], [(11, _)], [(15, _)], [(68, _)], [(67, _), (69, _)], [(70, _)], [(62, _), (66, _), (71, _)]] [_, _, _, _, _, _, _, _, _, _] (.a .top) rfl (by kernel_rfl) ?hok rfl ?hh ?hj
  case hh =>
   refine ⟨?_, ?_, ?_, ?_, ?_, ?_, ?_, ?_, ?_, ?_, trivial⟩
   all_goals (intro rest K1 hK1; (repeat (first | exact VR.done hK1 | (first | (refine VR.indexAddr tok rfl rfl rfl rfl rfl rfl hw (elA_lst hget2) ?_) | (refine VR.indexAddr tok rfl rfl rfl rfl rfl rfl rfl (elA_lst hget1) ?_) | refine VR.move rfl rfl ?_ | (show onLd; refine VR.load tok rfl rfl rfl (by first | rfl | exact (ldp_el (by assumption)).trans (by rfl)) ?_) | refine VR.int rfl rfl rfl rfl ?_))); try (first | exact VR.done hK1 | (refine VR.done ?_; dsimp only [S.set]; exact hK1)))
  case hok => kernel_rfl
  case hj =>
   dsimp only [List.append, tla]
   refine VR.call fok85 rfl rfl rfl rfl ?_
   refine v_force Inv F E1 hI p1 p2 _ rfl rfl (by exact h7) _ (fun E2 hE2 => ?_)
   have ih2 := ih' E2 (mkW p1 p2 kind) hE2
   clear ih'
   refine VR.done ?_
   refine VJ.toG 0 [(15, vI (j : Int)), (11, vL 2 (l.map ptV)), (4, vI kind), (1, vWl), (0, vN)] [] (G3W E2 W1 G) ?_ rfl (by repeat' first | exact trivial | refine ⟨rfl, ?_⟩) trivial (by rfl) (fun n => G3W_4 E1 E2 W1 G n)
   repeat' (first | refine VJ.seq ?_ | (fail))
   apply VJ.draw3 [14, 15] [(0, 0), (1, 0), (2, 0), (3, 0), (4, 0), (5, 0), (6, 0), (7, 0), (8, 0), (9, 0), (10, 0), (11, 0), (12, 0), (13, 0), (14, 0), (15, 1), (16, 2), (0, 1), (1, 1), (2, 1), (3, 1), (4, 1), (5, 1), (6, 1), (7, 1), (8, 1), (9, 1), (10, 1), (11, 1), (12, 1), (13, 1), (13, 2)] [[(11, none)], [(15, none)], [(74, some 0), (75, some 1)], [(76, some 2)], [(11, none)], [(15, none)], [(79, some 5)], [(78, some 4), (80, some 6)], [(81, some 7)], [(4, none)], [(77, some 3), (82, some 8), (83, some 9)], [(84, some 10)], [(73, some 11)], [(73, some 11)], [], [(16, some 14), (85, some 12)], [(86, some 13)]] [[(11, _)], [(15, _)], [(74, _), (75, _)], [(76, _)], [(11, _)], [(15, _)], [(79, _)], [(78, _), (80, _)], [(81, _)], [(4, _)], [(77, _), (82, _), (83, _)], [(84, _)], [(73, _)], [(73, _)], [], [(16, _), (85, _)], [(86, _)]] [_, _, _, _, _, _, _, _, _, _, _, _, _, _, _, (.a .top), _] [⟨_, _, _⟩, ⟨_, _, _⟩, ⟨_, _, _⟩] (by kernel_rfl) ?hok rfl ?hh rfl rfl ?hj
   case hh =>
    refine ⟨?_, ?_, ?_, ?_, ?_, ?_, ?_, ?_, ?_, ?_, ?_, ?_, ?_, ?_, ?_, ?_, ?_, ?_, ?_, ?_, ?_, ?_, ?_, ?_, ?_, ?_, ?_, ?_, ?_, ?_, ?_, ?_, trivial⟩
    all_goals (intro rest K1 hK1; (repeat (first | exact VR.done hK1 | (first | (refine VR.indexAddr tok rfl rfl rfl rfl rfl rfl hw (elA_lst hget2) ?_) | (refine VR.indexAddr tok rfl rfl rfl rfl rfl rfl rfl (elA_lst hget1) ?_) | refine VR.move rfl rfl ?_ | refine VR.assign rfl rfl ?_ | (show onLd; refine VR.load tok rfl rfl rfl (by first | rfl | exact (ldp_el (by assumption)).trans (by rfl)) ?_) | refine VR.int rfl rfl rfl rfl ?_ | refine VR.alloc tok rfl rfl rfl ?_ | refine VR.store tok rfl rfl rfl rfl rfl rfl rfl (by first | (intro n e; cases e; done) | exact (fun _ _ q => all_glA (by rfl) q)) ?_ | refine VR.extract rfl rfl rfl ?_) | (refine VR.call fok49 rfl rfl rfl rfl ?_; refine (v_mkR p1 p2 kind _ _ ?_)))); try (first | exact VR.done hK1 | (refine VR.done ?_; dsimp only [S.set]; exact hK1)))
   case hok => kernel_rfl
   case hj =>
    dsimp only [List.append, tla]
    repeat' (first | refine VJ.inBlock ?_ | refine VJ.region_k fun K hK => ?_ | (refine VR.done (hK _ ?_); clear hK K) | (first | refine VR.move rfl rfl ?_ | refine VR.assign rfl rfl ?_ | (show onLd; refine VR.load tok rfl rfl rfl rfl ?_) | refine VR.int rfl rfl rfl rfl ?_ | (refine VR.call fok50 rfl rfl rfl rfl ?_; refine v_putWS E2 W1 (by omega) (mkW p1 p2 kind) G _ ?_)))
    exact VJ.to 0 _ _ ih2 rfl ⟨vI_succ (by omega), by rfl, by rfl, by rfl, by rfl, trivial⟩ trivial (by rfl)
 have hq := hQ 0 E1 W1 hI (by omega)
 clear ih hb
 repeat' (first | refine VJ.seq ?_ | refine VJ.exit rfl ?_ | refine VJ.region_k fun K hK => ?_ | (refine VR.done (hK _ ?_); clear hK K) | (first | refine VR.assign rfl rfl ?_))
 refine VJ.ret tok (by rfl) (by rfl) ?_
 exact hq
end Go.Proofs.YtnpnjhopgedhkaaGreat
namespace Go.Proofs.YtnpnjhopgedhkaaGreat.V
open Go.RowKit
universe u
def awaitS (l : List Oper) (m : Nat) : Bool := ((List.range m).all fun j => (List.range (m + 1)).any fun i => decide (j < i) && waits l i j) && (List.range l.length).all fun i => decide (i ≤ m) || waits l i (i - 1)
def coverS (l : List Oper) (e2 : List Nat) (ps : List (Nat × Nat)) (m : Nat) : Bool := (List.range m).all fun j => (List.range (e2.length + 1)).all fun k => !(pairOk l e2 j k && lateOk l e2 j k) || ps.contains (j, k)
def sufOk (l : List Oper) (e2 : List Nat) (ps : List (Nat × Nat)) (nv nh m : Nat) : Bool :=
 nodupD l && chain1Ok l e2 && coverS l e2 ps m && nodupN e2 && nv == l.length && nh == e2.length + 1 && e2.all (· < m) && backOk l && awaitS l m
theorem tl_none (d : Array Bool) (t0 : List (Nat × AV)) : ∀ (l : List Oper) (vs : List AV) (i : Nat), (∀ j, i ≤ j → d.getD j false = false) → tl d i l vs t0 = t0
 | [], vs, i, _ => by cases vs <;> rfl
 | o :: l, [], i, _ => rfl
 | o :: l, v :: vs, i, h => by
   have ih := tl_none d t0 l vs (i + 1) (fun j hj => h j (by omega))
   have h0 := h i (Nat.le_refl _)
   simp only [tl, h0, ih]
   split <;> rfl
theorem tl_part (d : Array Bool) (t0 : List (Nat × AV)) (ls : List Oper) (vl : List AV) : ∀ (l : List Oper) (vs : List AV) (i : Nat), vs.length = l.length → (∀ j, j < l.length → d.getD (i + j) false = true) → (∀ j, i + l.length ≤ j → d.getD j false = false) → tl d i (l ++ ls) (vs ++ vl) t0 = tla l vs t0
 | [], [], i, _, _, h => tl_none d t0 ls vl i h
 | o :: l, w :: vs, i, hl, ha, h => by
   have ih := tl_part d t0 ls vl l vs (i + 1) (by simpa using hl) (fun j hj => by rw [show i + 1 + j = i + (j + 1) by omega]; exact ha (j + 1) (by simpa using hj)) (fun j hj => h j (by rw [List.length_cons]; omega))
   have h0 := ha 0 (by simp)
   simp only [Nat.add_zero] at h0
   simp only [List.cons_append, tl, tla, h0, ih]
 | [], _ :: _, _, h, _, _ => by cases h
 | _ :: _, [], _, h, _, _ => by cases h
section
variable {P : Program} {E : Env} {fn : Func} {R : Ending → World → Prop} {k : List Item}
structure SInv (P : Program) (E : Env) (fn : Func) (R : Ending → World → Prop) (k : List Item) (l : List Oper) (m : Nat) (e2 : List Nat) (vs : List AV) (hs : List Hp) (t0 : List (Nat × AV)) (d : Array Bool) (a : Act) (w : World) : Prop where
 sz : d.size = l.length
 dc : ∀ j o, l[j]? = some o → d.getD j false = true → ∀ e ∈ o.after, Region.binds .any e = true → d.getD e.on false = true
 st : d.getD m false = false → ∃ k x h, hs[k]? = some x ∧ (∀ q e, e2[q]? = some e → (d.getD e false = true ↔ q < k)) ∧ k ≤ e2.length ∧ Sim E h w a ⟨x.c, tl d 0 l vs t0, x.L, x.G⟩
 en : d.getD m false = true → ∃ i, m < i ∧ i ≤ l.length ∧ (∀ j, j < i → d.getD j false = true) ∧ (∀ j, i ≤ j → d.getD j false = false) ∧ wpList P l.toArray (QK E fun s => VJ P E fn R k s) (l.drop i) a w
theorem VJ.drawSuf {id : Nat} {l : List Oper} {c : Nat} {t0 : List (Nat × AV)} {L : List (Nat × VO)} {G : Nat → Option VO} (l0 ls : List Oper) (m : Nat) (hmm : m = l0.length) (hl : l = l0 ++ ls) (hls : 0 < ls.length) (e2 : List Nat) (ps : List (Nat × Nat)) (vs0 vsl : List AV) (hs : List Hp) (hv0 : vs0.length = m) (hm : P.follows .mixedOrders = true)
 (hok : sufOk l e2 ps (vs0 ++ vsl).length hs.length m = true) (hh : hops P E l e2 (vs0 ++ vsl) hs t0 ps) (h0 : hs[0]? = some ⟨c, L, G⟩) {y : Hp} (hy : hs[e2.length]? = some y)
 (hj : VR P E l.toArray ls ⟨y.c, tla l0 vs0 t0, y.L, y.G⟩ (fun s => VJ P E fn R k s)) :
 VJ P E fn R (.code (.region id l.toArray true) :: k) ⟨c, t0, L, G⟩ := by
 unfold sufOk at hok
 simp only [Bool.and_eq_true, beq_iff_eq] at hok
 obtain ⟨⟨⟨⟨⟨⟨⟨⟨o1, o2⟩, o3⟩, o4⟩, o5⟩, o6⟩, o7⟩, o8⟩, o9⟩ := hok
 unfold awaitS at o9
 rw [Bool.and_eq_true] at o9
 obtain ⟨o9, o10⟩ := o9
 obtain ⟨vs, hvs⟩ : ∃ vs, vs = vs0 ++ vsl := ⟨_, rfl⟩
 rw [← hvs] at hh o5
 have hlen : vs.length = l.length := o5
 have hlen0 : l.length = m + ls.length := by rw [hl, hmm]; simp
 have hdrop : l.drop m = ls := by rw [hl, hmm]; simp
 have wsuf : ∀ j, m < j → j < l.length → waits l j (j - 1) = true := fun j h1 h2 => by
  have := List.all_eq_true.1 o10 j (by rw [List.mem_range]; exact h2)
  rw [Bool.or_eq_true] at this
  rcases this with h | h
  ·have : j ≤ m := by simpa using h
   omega
  ·exact h
 refine VJ.of_wp fun hd w a H => wp_region_any hm (wpAny_inv (SInv P E fn R k l m e2 vs hs t0) ?_ ?_ (fun d a w h => by simpa using h.sz) _ _ _ _ ?_ (Nat.le_trans (List.length_filter_le _ _) (by simp)))
 ·-- a step
  intro d a w j hi hjr
  obtain ⟨hun, o, ho, hall⟩ := mem_ready.1 hjr
  have ho' : l[j]? = some o := by simpa using ho
  have hjl : j < l.length := (List.getElem?_eq_some_iff.1 ho').1
  have hdj : j < d.size := by rw [hi.sz]; exact hjl
  have hun' : d.getD j false = false := by simpa [hdj] using hun
  have hsz' : (d.setIfInBounds j true).size = l.length := by simpa using hi.sz
  have hdc' : ∀ i p, l[i]? = some p → (d.setIfInBounds j true).getD i false = true → ∀ e ∈ p.after, Region.binds .any e = true → (d.setIfInBounds j true).getD e.on false = true := by
   intro i p hp hdi e he hb
   by_cases hij : i = j
   ·subst hij
    rw [ho'] at hp; cases hp
    exact getD_set_true (hall e he hb)
   ·rw [getD_set_ne false (Ne.symm hij)] at hdi
    exact getD_set_true (hi.dc i p hp hdi e he hb)
  have next : ∀ i, m ≤ i → j = i → (∀ j', j' < i → d.getD j' false = true) → (∀ j', i ≤ j' → d.getD j' false = false) → wpList P l.toArray (QK E fun s => VJ P E fn R k s) (l.drop i) a w →
   wpOp P l.toArray (QK E fun s' => VJ P E fn R k s') j (SInv P E fn R k l m e2 vs hs t0 (d.setIfInBounds j true)) a w := by
   rintro i him rfl hlt hge hrun
   have hdr : l.drop j = o :: l.drop (j + 1) := by
    rw [List.drop_eq_getElem_cons hjl]
    congr 1
    exact (List.getElem?_eq_some_iff.1 ho').2
   rw [hdr] at hrun
   have hrun2 : wpOp P l.toArray (QK E fun s' => VJ P E fn R k s') j (wpList P l.toArray (QK E fun s => VJ P E fn R k s) (l.drop (j + 1))) a w := by
    unfold wpOp
    simp only [ho]
    exact hrun
   refine wpOp_mono (fun a' w' h' => ?_) hrun2
   refine ⟨hsz', hdc', fun hf => ?_, fun _ => ⟨j + 1, by omega, by omega, fun j' hj' => ?_, fun j' hj' => ?_, h'⟩⟩
   ·exfalso
    by_cases hmj : m = j
    ·subst hmj; rw [getD_set_self hdj] at hf; cases hf
    ·rw [getD_set_ne false (Ne.symm hmj), hlt m (by omega)] at hf; cases hf
   ·by_cases e : j' = j
    ·subst e; exact getD_set_self hdj
    ·rw [getD_set_ne false (Ne.symm e)]; exact hlt j' (by omega)
   ·rw [getD_set_ne false (by omega)]; exact hge j' (by omega)
  cases hml : d.getD m false with
  | true =>
    obtain ⟨i, h1, h2, h3, h4, h5⟩ := hi.en hml
    have hij : i ≤ j := by
     rcases Nat.lt_or_ge j i with h | h
     ·rw [h3 j h] at hun'; cases hun'
     ·exact h
    have : j = i := by
     rcases Nat.eq_or_lt_of_le hij with h | h
     ·exact h.symm
     ·exfalso
      obtain ⟨p, hp, e, he, hb, hon⟩ := waits_spec (wsuf j (by omega) hjl)
      rw [ho'] at hp; cases hp
      have := hall e he hb
      rw [hon] at this
      have h6 := h4 (j - 1) (by omega)
      rw [show d.getD (j - 1) false = true by simpa using this] at h6
      cases h6
    exact next i (by omega) this h3 h4 h5
  | false =>
  have suf0 : ∀ n j', j' = m + n → j' < l.length → d.getD j' false = false := by
   intro n
   induction n with
   | zero => intro j' h _; rw [h]; exact hml
   | succ n ih =>
     intro j' h hlt
     cases hc : d.getD j' false with
     | false => rfl
     | true =>
       obtain ⟨p, hp, e, he, hb, hon⟩ := waits_spec (wsuf j' (by omega) hlt)
       have := hi.dc j' p hp hc e he hb
       rw [hon, ih (j' - 1) (by omega) (by omega)] at this
       cases this
  have suf : ∀ j', m ≤ j' → d.getD j' false = false := fun j' h => by
   by_cases hlt : j' < l.length
   ·exact suf0 (j' - m) j' (by omega) hlt
   ·have : d.size ≤ j' := by rw [hi.sz]; omega
    rw [Array.getD_eq_getD_getElem?, Array.getElem?_eq_none this]; rfl
  obtain ⟨k0, x, h, hx, hk, hkl, HS⟩ := hi.st hml
  by_cases hjm : j = m
  ·-- the first of the last
   have hdone : ∀ n i, i + n = m → d.getD i false = true ∨ i = m := by
    intro n
    induction n using Nat.strongRecOn with
    | ind n ih =>
      intro i hin
      rcases Nat.eq_zero_or_pos n with hz | hp
      ·exact .inr (by omega)
      ·have h9 := List.all_eq_true.1 o9 i (by rw [List.mem_range]; omega)
       obtain ⟨i', hi', h10⟩ := List.any_eq_true.1 h9
       rw [List.mem_range] at hi'
       simp only [Bool.and_eq_true, decide_eq_true_eq] at h10
       obtain ⟨p, hp', e, he, hb, hon⟩ := waits_spec h10.2
       rcases ih (m - i') (by omega) i' (by omega) with h11 | h11
       ·have := hi.dc i' p hp' h11 e he hb
        rw [hon] at this
        exact .inl this
       ·rw [h11, ← hjm, ho'] at hp'
        cases hp'
        have := hall e he hb
        rw [hon] at this
        exact .inl (by simpa using this)
   have hall1 : ∀ i, i < m → d.getD i false = true := fun i hil => by
    rcases hdone (m - i) i (by omega) with h1 | h1
    ·exact h1
    ·omega
   have hk0 : k0 = e2.length := by
    rcases Nat.lt_or_ge k0 e2.length with hlt | hge
    ·have he := List.getElem?_eq_getElem hlt
     have hel : e2[k0] < m := by
      have := List.all_eq_true.1 o7 e2[k0] (List.getElem_mem hlt)
      simpa using this
     have := (hk k0 _ he).1 (hall1 _ hel)
     omega
    ·omega
   subst hk0
   rw [hy] at hx; cases hx
   have htl : tl d 0 l vs t0 = tla l0 vs0 t0 := by
    rw [hl, hvs]
    exact tl_part d t0 ls vsl l0 vs0 0 (by omega) (fun j' hj' => by rw [Nat.zero_add]; exact hall1 j' (by omega)) (fun j' hj' => suf j' (by omega))
   rw [htl] at HS
   have hrun := hj h w a HS
   rw [← hdrop] at hrun
   exact next m (Nat.le_refl _) hjm hall1 suf hrun
  have hjlt : j < m := by
   rcases Nat.lt_or_ge j m with h1 | h1
   ·exact h1
   ·exfalso
    obtain ⟨p, hp, e, he, hb, hon⟩ := waits_spec (wsuf j (by omega) hjl)
    rw [ho'] at hp; cases hp
    have := hall e he hb
    rw [hon] at this
    have h6 := suf (j - 1) (by omega)
    rw [show d.getD (j - 1) false = true by simpa using this] at h6
    cases h6
  have hpair : pairOk l e2 j k0 = true := by
   unfold pairOk
   cases hc : e2.contains j with
   | true =>
     have hmem : j ∈ e2 := by simpa using hc
     obtain ⟨q, hq⟩ := List.getElem?_of_mem hmem
     have h1 : ¬ q < k0 := fun hlt => by rw [(hk q j hq).2 hlt] at hun'; cases hun'
     have h2 : ∀ p, p < q → p < k0 := by
      intro p hp
      have hqlt := (List.getElem?_eq_some_iff.1 hq).1
      have hplt : q - 1 < e2.length := by omega
      have hw : waits l j e2[q - 1] = true := by
       have := List.all_eq_true.1 o2 (q - 1) (by simpa using hplt)
       rw [show q - 1 + 1 = q by omega, hq, List.getElem?_eq_getElem hplt] at this
       exact this
      obtain ⟨o'', ho'', e, he, hb, hon⟩ := waits_spec hw
      rw [ho'] at ho''; cases ho''
      have := hall e he hb
      rw [hon] at this
      have := (hk (q - 1) _ (List.getElem?_eq_getElem hplt)).1 this
      omega
     have : q = k0 := by
      rcases Nat.lt_trichotomy q k0 with h3 | h3 | h3
      ·exact absurd h3 h1
      ·exact h3
      ·exact absurd (h2 k0 h3) (Nat.lt_irrefl _)
     subst this
     simp only [hq, beq_self_eq_true]
   | false =>
     simp only
     refine List.all_eq_true.2 fun q hq => ?_
     have hq' : q < k0 := by simpa using hq
     have hqlt : q < e2.length := by omega
     rw [List.getElem?_eq_getElem hqlt]
     simp only [Bool.not_eq_true']
     cases hw : waits l e2[q] j with
     | false => rfl
     | true =>
       obtain ⟨o'', ho'', e, he, hb, hon⟩ := waits_spec hw
       have h1 := (hk q _ (List.getElem?_eq_getElem hqlt)).2 hq'
       have := hi.dc _ o'' ho'' h1 e he hb
       rw [hon, hun'] at this; cases this
  have hlate : lateOk l e2 j k0 = true := by
   refine List.all_eq_true.2 fun q hq => ?_
   have hqlt : q < e2.length := by simpa using hq
   rw [List.getElem?_eq_getElem hqlt]
   cases hw : waits l j e2[q] with
   | false => simp [hw]
   | true =>
     obtain ⟨o'', ho'', e, he, hb, hon⟩ := waits_spec hw
     rw [ho'] at ho''; cases ho''
     have := hall e he hb
     rw [hon] at this
     have := (hk q _ (List.getElem?_eq_getElem hqlt)).1 this
     simp [this]
  have hps : (j, k0) ∈ ps := by
   have := List.all_eq_true.1 o3 j (by rw [List.mem_range]; exact hjlt)
   have := List.all_eq_true.1 this k0 (by simp; omega)
   rw [hpair, hlate] at this
   simpa using this
  have hop1 := hops_mem ps hh _ hps
  have hvj : j < vs.length := by omega
  have hklen : k0 < hs.length := (List.getElem?_eq_some_iff.1 hx).1
  have hnext : ∃ z, hs[if e2.contains j then k0 + 1 else k0]? = some z := by
   cases hc : e2.contains j with
   | true =>
     have : k0 + 1 < hs.length := by
      unfold pairOk at hpair
      rw [hc] at hpair
      simp only [beq_iff_eq] at hpair
      have := (List.getElem?_eq_some_iff.1 hpair).1
      omega
     exact ⟨_, by simp only [if_true]; exact List.getElem?_eq_getElem this⟩
   | false => exact ⟨x, by simpa using hx⟩
  obtain ⟨z, hz⟩ := hnext
  unfold hop at hop1
  simp only [ho', List.getElem?_eq_getElem hvj, hx, hz] at hop1
  have hopv : ∀ r v, opv l vs t0 j r = some v → lk (tl d 0 l vs t0) r = some v := by
   intro r v hv
   unfold opv at hv
   split at hv
   ·rename_i hmk
    rw [(lk_tl d t0 l vs 0 r hlen).2]
    ·exact hv
    ·intro q p hq hr
     exact absurd hr (maker_none l 0 r hmk p (List.mem_of_getElem? hq))
   ·rename_i i hmk
    obtain ⟨_, p, hp, hr⟩ := maker_some l 0 r i hmk
    simp only [Nat.sub_zero] at hp
    split at hv
    ·rename_i hw
     obtain ⟨o'', ho'', e, he, hb, hon⟩ := waits_spec hw
     rw [ho'] at ho''; cases ho''
     have := hall e he hb
     rw [hon] at this
     rw [(lk_tl d t0 l vs 0 r hlen).1 i p hp hr (by simpa using this) o1]
     exact hv
    ·split at hv
     ·rename_i hw
      obtain ⟨o'', ho'', e, he, hb, hon⟩ := waits_spec hw
      rw [(lk_tl d t0 l vs 0 r hlen).2]
      ·exact hv
      ·intro q p' hq hr'
       have : q = i := nodupD_spec l o1 q i p' p r hq hp hr' hr
       subst this
       cases hdq : d.getD (0 + q) false with
       | false => rfl
       | true =>
         simp only [Nat.zero_add] at hdq
         have := hi.dc q o'' ho'' hdq e he hb
         rw [hon, hun'] at this; cases this
     ·cases hv
  have HS' : Sim E h w a ⟨x.c, ttl l vs t0 j (tmpsG l o) ++ tl d 0 l vs t0, x.L, x.G⟩ := HS.weak fun i v hi => by
   rw [lk_append] at hi
   split at hi
   ·rename_i u e; cases hi; exact hopv i _ (lk_ttl l vs t0 j _ i _ e)
   ·exact hi
  have hrun := hop1 (tl d 0 l vs t0) (fun s' => s' = ⟨z.c, (match o.dst with | some d' => (d', vs[j]) :: (ttl l vs t0 j (tmpsG l o) ++ tl d 0 l vs t0) | none => ttl l vs t0 j (tmpsG l o) ++ tl d 0 l vs t0), z.L, z.G⟩) rfl h w a HS'
  have hsz' : (d.setIfInBounds j true).size = l.length := by simpa using hi.sz
  have hdj : j < d.size := by rw [hi.sz]; exact hjl
  have post : ∀ a' w', QK E (fun s' => s' = ⟨z.c, (match o.dst with | some d' => (d', vs[j]) :: (ttl l vs t0 j (tmpsG l o) ++ tl d 0 l vs t0) | none => ttl l vs t0 j (tmpsG l o) ++ tl d 0 l vs t0), z.L, z.G⟩) .normal a' w' → SInv P E fn R k l m e2 vs hs t0 (d.setIfInBounds j true) a' w' := by
   rintro a' w' ⟨_, h', s', H', rfl⟩
   refine ⟨hsz', ?_, fun _ => ⟨if e2.contains j then k0 + 1 else k0, z, h', hz, ?_, ?_, ?_⟩, fun hf => ?_⟩
   ·intro i p hp hdi e he hb
    by_cases hij : i = j
    ·subst hij
     rw [ho'] at hp; cases hp
     exact getD_set_true (hall e he hb)
    ·rw [getD_set_ne false (Ne.symm hij)] at hdi
     exact getD_set_true (hi.dc i p hp hdi e he hb)
   ·intro q e he
    cases hc : e2.contains j with
    | true =>
      unfold pairOk at hpair
      rw [hc] at hpair
      simp only [beq_iff_eq] at hpair
      simp only [if_true]
      by_cases hej : e = j
      ·subst hej
       rw [getD_set_self hdj]
       have : q = k0 := by
        have nd : ∀ (m : List Nat), nodupN m = true → ∀ (p q : Nat) (v : Nat), m[p]? = some v → m[q]? = some v → p = q := by
         intro m
         induction m with
         | nil => intro _ p q v hp; simp at hp
         | cons y m ih =>
           intro hn p q v hp hq
           unfold nodupN at hn
           simp only [Bool.and_eq_true, Bool.not_eq_true'] at hn
           cases p with
           | zero =>
             cases q with
             | zero => rfl
             | succ q =>
               simp at hp hq; subst hp
               have := List.mem_of_getElem? hq
               have h2 := hn.1
               simp at h2
               exact absurd this h2
           | succ p =>
             cases q with
             | zero =>
               simp at hp hq; subst hq
               have := List.mem_of_getElem? hp
               have h2 := hn.1
               simp at h2
               exact absurd this h2
             | succ q => simp at hp hq; rw [ih hn.2 p q v hp hq]
        exact nd e2 o4 q k0 e he hpair
       simp [this]
      ·rw [getD_set_ne false (Ne.symm hej), hk q e he]
       have : q ≠ k0 := fun e3 => by rw [e3, hpair] at he; cases he; exact hej rfl
       omega
    | false =>
      have hne : e ≠ j := fun e3 => by
       have := List.mem_of_getElem? he
       rw [e3] at this
       have h2 : e2.contains j = true := by simpa using this
       rw [h2] at hc; cases hc
      rw [getD_set_ne false (Ne.symm hne)]
      simpa using hk q e he
   ·cases hc : e2.contains j with
    | true =>
      unfold pairOk at hpair
      rw [hc] at hpair
      simp only [beq_iff_eq] at hpair
      have := (List.getElem?_eq_some_iff.1 hpair).1
      simp only [if_true]; omega
    | false => simpa using hkl
   ·refine H'.weak fun i v hi2 => ?_
    have hset : ∀ r, lk (tl (d.setIfInBounds j true) 0 l vs t0) r = if o.dst = some r then vs[j]? else lk (tl d 0 l vs t0) r := by
     intro r
     split
     ·rename_i hor
      exact (lk_tl (d.setIfInBounds j true) t0 l vs 0 r hlen).1 j o ho' hor (by simpa using getD_set_self hdj) o1
     ·rename_i hor
      cases hmk : maker l 0 r with
      | none =>
        have hno := maker_none l 0 r hmk
        rw [(lk_tl _ t0 l vs 0 r hlen).2 (fun q p hq hr => absurd hr (hno p (List.mem_of_getElem? hq))), (lk_tl d t0 l vs 0 r hlen).2 (fun q p hq hr => absurd hr (hno p (List.mem_of_getElem? hq)))]
      | some i' =>
        obtain ⟨_, p, hp, hr⟩ := maker_some l 0 r i' hmk
        simp only [Nat.sub_zero] at hp
        have hne : j ≠ i' := fun e => by subst e; rw [ho'] at hp; cases hp; exact hor hr
        have hsame : (d.setIfInBounds j true).getD (0 + i') false = d.getD (0 + i') false := by
         simp only [Nat.zero_add]; exact getD_set_ne false hne
        cases hdi : d.getD (0 + i') false with
        | true => rw [(lk_tl _ t0 l vs 0 r hlen).1 i' p hp hr (hsame.trans hdi) o1, (lk_tl d t0 l vs 0 r hlen).1 i' p hp hr hdi o1]
        | false =>
          have uni : ∀ (q : Nat) (p' : Oper), l[q]? = some p' → p'.dst = some r → q = i' := fun q p' hq hr' => nodupD_spec l o1 q i' p' p r hq hp hr' hr
          rw [(lk_tl _ t0 l vs 0 r hlen).2 (fun q p' hq hr' => by rw [uni q p' hq hr']; exact hsame.trans hdi), (lk_tl d t0 l vs 0 r hlen).2 (fun q p' hq hr' => by rw [uni q p' hq hr']; exact hdi)]
    rw [hset] at hi2
    have inner : ∀ v, lk (tl d 0 l vs t0) i = some v → lk (ttl l vs t0 j (tmpsG l o) ++ tl d 0 l vs t0) i = some v := by
     intro v hv
     rw [lk_append]
     cases e : lk (ttl l vs t0 j (tmpsG l o)) i with
     | none => exact hv
     | some u =>
       have := hopv i u (lk_ttl l vs t0 j _ i u e)
       rw [hv] at this
       simpa using this.symm
    cases hod : o.dst with
    | none =>
      rw [hod] at hi2
      simp only [reduceCtorEq, if_false] at hi2
      exact inner v hi2
    | some d' =>
      rw [hod] at hi2
      simp only [Option.some.injEq] at hi2
      simp only [lk]
      split at hi2
      ·rename_i e; rw [if_pos e.symm]; rw [List.getElem?_eq_getElem hvj] at hi2; exact hi2
      ·rename_i e; rw [if_neg (fun e2 => e e2.symm)]; exact inner v hi2
   ·rw [getD_set_ne false (Nat.ne_of_lt hjlt)] at hf
    rw [hml] at hf; cases hf
  unfold wpOp
  simp only [ho]
  unfold wpList at hrun
  split
  ·rename_i hw
   rw [if_pos hw] at hrun
   rcases hrun with h1 | ⟨_, a0, w0, e, _⟩
   ·refine .inl ?_
    have h3 := Oper.wp_q (Q' := QK E fun s' => VJ P E fn R k s') h1 (fun _ _ _ h => by cases h.1) (fun ⟨_, _, h⟩ => by cases h.1)
    exact Oper.wp_mono (fun a' w' hh => post a' w' hh) h3
   ·cases e
  ·rename_i hw
   rw [if_neg hw] at hrun
   exact post _ _ hrun
 ·-- the end
  intro d a w hi hr
  have hall0 : ∀ n j, j < n → j < l.length → d.getD j false = true := by
   intro n
   induction n with
   | zero => intro j h; exact absurd h (Nat.not_lt_zero _)
   | succ n ih =>
     intro j hjm hj
     cases hc : d.getD j false with
     | true => rfl
     | false =>
       exfalso
       have hjd : j < d.size := by rw [hi.sz]; exact hj
       have : j ∈ Region.ready .any l.toArray d := by
        refine mem_ready.2 ⟨by simpa [hjd] using hc, l[j], by simp [hj], fun e he hb => ?_⟩
        have h8 := List.all_eq_true.1 o8 j (by simpa using hj)
        rw [List.getElem?_eq_getElem hj] at h8
        have h9 := Array.all_eq_true_iff_forall_mem.1 h8 e he
        rw [hb] at h9
        have h10 : e.on < j := by simpa using h9
        exact ih e.on (by omega) (by omega)
       rw [hr] at this
       cases this
  obtain ⟨i, h1, h2, h3, h4, h5⟩ := hi.en (hall0 (m + 1) m (Nat.lt_succ_self _) (by omega))
  have : i = l.length := by
   rcases Nat.lt_or_ge i l.length with h | h
   ·have h6 := h4 i (Nat.le_refl _)
    rw [hall0 (i + 1) i (Nat.lt_succ_self _) h] at h6
    cases h6
   ·omega
  subst this
  rw [List.drop_length] at h5
  exact h5
 ·-- the start
  refine ⟨by simp, fun j o ho hd => ?_, fun _ => ⟨0, ⟨c, L, G⟩, hd, h0, ?_, Nat.zero_le _, ?_⟩, fun hf => ?_⟩
  ·exfalso
   by_cases hj : j < l.length <;> simp [hj] at hd
  ·intro q e he
   constructor
   ·intro h
    exfalso
    by_cases hj : e < l.length <;> simp [hj] at h
   ·intro h; exact absurd h (Nat.not_lt_zero _)
  ·rw [tl_none]
   ·exact H.draws rfl rfl rfl rfl
   ·intro j _
    by_cases hj : j < l.length <;> simp [hj]
  ·exfalso
   by_cases hj : m < l.length <;> simp [hj] at hf
theorem VJ.drawSuf3 {id : Nat} {l : List Oper} {c : Nat} {t0 : List (Nat × AV)} {L : List (Nat × VO)} {G : Nat → Option VO} (l0 ls : List Oper) (m : Nat) (e2 : List Nat) (ps : List (Nat × Nat)) (tt : TT) (ts : TS) (vs0 vsl : List AV) (hs : List Hp) (hl : l = l0 ++ ls) (hmm : m = l0.length) (hls : 0 < ls.length) (hv0 : vs0.length = m) (hm : P.follows .mixedOrders = true)
 (hok : (sufOk l e2 ps (vs0 ++ vsl).length hs.length m && ttOk l tt) = true) (hts : tt.map (ttl2 (vs0 ++ vsl) t0) = ts) (hh : hops3 P E l e2 (vs0 ++ vsl) hs ts ps) (h0 : hs[0]? = some ⟨c, L, G⟩) {y : Hp} (hy : hs[e2.length]? = some y)
 (hj : VR P E l.toArray ls ⟨y.c, tla l0 vs0 t0, y.L, y.G⟩ (fun s => VJ P E fn R k s)) :
 VJ P E fn R (.code (.region id l.toArray true) :: k) ⟨c, t0, L, G⟩ := by
 rw [Bool.and_eq_true] at hok
 exact VJ.drawSuf l0 ls m hmm hl hls e2 ps vs0 vsl hs hv0 hm hok.1 (hops_of hok.2 ps (hops2_of hts ps hh)) h0 hy hj
end
end Go.Proofs.YtnpnjhopgedhkaaGreat.V
namespace Go.Proofs.YtnpnjhopgedhkaaGreat
open Go.RowKit V Geo
def prV (a : Int × Int) : Value := .agg #[.int .i64 a.1, .int .i64 a.2]
theorem map_get_pr {l : List (Int × Int)} {j : Nat} (h : j < l.length) : (l.map prV)[j]? = some (prV l[j]) := by simp [h]
def bndW (i : Nat) : Nat := 54 + 10000 * i
theorem bndW_succ {a b i : Nat} (h : a ≤ bndW i) (h2 : b ≤ a + 10000) : b ≤ bndW (i + 1) := by
 have e : bndW (i + 1) = bndW i + 10000 := by unfold bndW; rw [Nat.mul_add, Nat.mul_one, Nat.add_assoc]
 rw [e]
 exact Nat.le_trans h2 (Nat.add_le_add_right h _)
theorem bndW_le {a i : Nat} (h : a ≤ bndW i) (hi : i ≤ 12) : a < 800000 := by unfold bndW at h; omega
theorem flipsT {s : Int} (h1 : 1 ≤ s) (hs : s ≤ 40) : Flips (InvT s) := ⟨fun E ⟨l, h⟩ => by
 have h2 := (h.sql h1 hs).few
 rw [h.mo.len]
 omega, fun E a b ⟨l, h⟩ hz => by obtain ⟨l', h', _⟩ := h.flip hs hz; exact ⟨l', h'⟩⟩
attribute [local irreducible] VR VJ VC decOk decBt
set_option maxRecDepth 20000 in
set_option maxHeartbeats 8000000 in
theorem v_cdtWall (Inv : LS → Prop) (KI : ∀ W, Keeps W Inv) (F : Flips Inv) (w h : Int) (E : LS) (hE : Inv E) (W : List Wl) (hW : W.length < 800000) (a b : Pt) (kind : Int) (G : Gl) (h7 : G 7 = none) (Q : Po) (hQ : ∀ r E' W', Inv E' → W'.length ≤ W.length + 10000 → Q (vI r) (GC w h E' W' G)) : VC Tryz.prog 27 [vC, vV (ptV a), vV (ptV b), vI kind] (GC w h E W G) Q := by
 refine VC.of_body Tryz.func27 rfl rfl rfl fun W0 h0 x0 hG0 => ?_
 simp only [args0]
 repeat' (first | refine VJ.seq ?_ | refine VJ.region_k fun K hK => ?_ | (refine VR.done (hK _ ?_); clear hK K) | (first | refine VR.assign rfl rfl ?_ | refine VR.box rfl rfl rfl ?_))
 apply VJ.drawSuf3 [_, _, _, _, _, _, _, _, _, _, _] [_, _] 11 [] [(0, 0), (1, 0), (2, 0), (3, 0), (4, 0), (5, 0), (6, 0), (7, 0), (8, 0), (9, 0), (10, 0)] [[(0, none)], [(10, some 0)], [(11, some 1)], [(12, some 2)], [(0, none)], [(14, some 4)], [(15, some 5)], [(16, some 6)], [(5, none)], [(6, none)], [(3, none)], [(13, some 3), (17, some 7), (18, some 8), (19, some 9), (20, some 10)], [(21, some 11)]] [[(0, _)], [(10, _)], [(11, _)], [(12, _)], [(0, _)], [(14, _)], [(15, _)], [(16, _)], [(5, _)], [(6, _)], [(3, _)], [(13, _), (17, _), (18, _), (19, _), (20, _)], [(21, _)]] [_, _, _, _, _, _, _, _, _, _, _] [(.a .top), (.a .top)] [⟨_, _, _⟩] rfl rfl (by decide) rfl (by kernel_rfl) ?hok rfl ?hh rfl rfl ?hj
 case hh =>
  refine ⟨?_, ?_, ?_, ?_, ?_, ?_, ?_, ?_, ?_, ?_, ?_, trivial⟩
  all_goals (intro rest K1 hK1; (repeat (first | exact VR.done hK1 | (first | refine VR.move rfl rfl ?_ | (show onLd; refine VR.load tok rfl rfl rfl rfl ?_) | (show onFa; refine VR.fieldAddr tok rfl rfl rfl rfl rfl rfl ?_) | refine VR.nilCheck rfl rfl rfl ?_))); try (first | exact VR.done hK1 | (refine VR.done ?_; dsimp only [S.set]; exact hK1)))
 case hok => kernel_rfl
 case hj =>
  dsimp only [List.append, tla]
  refine VR.call fok53 rfl rfl rfl rfl ?_
  refine v_addWallM Inv F E hE W (by omega) a b kind (GC w h E W G) rfl rfl (show WalG (GC w h E W G) W from rfl) (by exact h7) _ (fun r E1 W1 hE1 hW1 => ?_)
  rw [GC_3]
  have hq : ∀ E2, Inv E2 → Q (vI r) (GC w h E2 W1 G) := fun E2 h => hQ r E2 W1 h hW1
  repeat (first | refine VR.assign rfl rfl ?_)
  refine VR.done ?_
  repeat' (first | refine VJ.seq ?_ | refine VJ.region_k fun K hK => ?_ | (refine VR.done (hK _ ?_); clear hK K) | (first | refine VR.move rfl rfl ?_ | refine VR.int rfl rfl rfl rfl ?_))
  refine VJ.cond rfl (fun _ => ?_) (fun _ => ?_)
  ·skip
   apply VJ.drawLast3 [_, _, _, _, _, _, _, _] _ [(0, 0), (1, 0), (2, 0), (3, 0), (4, 0), (5, 0), (6, 0), (7, 0)] [[(0, none)], [(24, some 0)], [(25, some 1)], [(26, some 2)], [(0, none)], [(28, some 4)], [(29, some 5)], [(30, some 6)], [(27, some 3), (31, some 7)]] [[(0, _)], [(24, _)], [(25, _)], [(26, _)], [(0, _)], [(28, _)], [(29, _)], [(30, _)], [(27, _), (31, _)]] [_, _, _, _, _, _, _, _] (.a .top) rfl (by kernel_rfl) ?hok rfl ?hh ?hj
   case hh =>
    refine ⟨?_, ?_, ?_, ?_, ?_, ?_, ?_, ?_, trivial⟩
    all_goals (intro rest K1 hK1; (repeat (first | exact VR.done hK1 | (first | refine VR.move rfl rfl ?_ | (show onLd; refine VR.load tok rfl rfl rfl rfl ?_) | (show onFa; refine VR.fieldAddr tok rfl rfl rfl rfl rfl rfl ?_) | refine VR.nilCheck rfl rfl rfl ?_))); try (first | exact VR.done hK1 | (refine VR.done ?_; dsimp only [S.set]; exact hK1)))
   case hok => kernel_rfl
   case hj =>
    dsimp only [List.append, tla]
    refine VR.call fok51 rfl rfl rfl rfl ?_
    refine v_repairC Inv w h W1 (by omega) (KI _) E1 hE1 G h7 _ (fun E2 hE2 => ?_)
    have hq2 := hq E2 hE2
    refine VR.done ?_
    repeat' (first | refine VJ.seq ?_ | refine VJ.region_k fun K hK => ?_ | (refine VR.done (hK _ ?_); clear hK K) | (first | refine VR.move rfl rfl ?_ | refine VR.assign rfl rfl ?_))
    refine VJ.ret tok (by rfl) (by rfl) ?_
    exact hq2
  ·have hq2 := hq E1 hE1
   repeat' (first | refine VJ.seq ?_ | refine VJ.skip ?_ | refine VJ.region_k fun K hK => ?_ | (refine VR.done (hK _ ?_); clear hK K) | (first | refine VR.move rfl rfl ?_ | refine VR.assign rfl rfl ?_))
   refine VJ.ret tok (by rfl) (by rfl) ?_
   exact hq2
set_option maxRecDepth 20000 in
set_option maxHeartbeats 8000000 in
theorem v_builtW (s : Int) (hs1 : 1 ≤ s) (hs2 : s ≤ 40) (ps : List Int) (few : ps.length ≤ 25) (ws : List (Int × Int)) (fewW : ws.length ≤ 12) (Q : Po)
 (hQ : ∀ ts le E W, TI s E (trisM ts) → PM ts le E (trisM ts) → ts.length ≤ 3200 → Q vM2 (GL ts le E W s)) : VC Tryz.prog 9 [vI s, vL 1 (ps.map iV), vL 2 (ws.map prV)] E0 Q := by
 refine VC.of_body Tryz.func9 rfl rfl rfl fun W0 h0 x0 hG0 => ?_
 simp only [args0]
 obtain ⟨E1, hE1, hT1⟩ := sqTI hs1 hs2
 have hI1 : InvT s E1 := ⟨_, hT1⟩
 have F := flipsT hs1 hs2
 repeat' (first | refine VJ.seq ?_ | refine VJ.block ?_ | refine VJ.region_k fun K hK => ?_ | (refine VR.done (hK _ ?_); clear hK K) | (first | refine VR.move rfl rfl ?_ | refine VR.assign rfl rfl ?_ | (refine VR.call fok25 rfl rfl rfl rfl ?_; refine v_newCDT (InvT s) (keepsT hs1 hs2) s hs1 hs2 E1 hE1 hI1 _ (fun E2 W2 hI2 hW2 => ?_))))
 refine VJ.to 0 [(9, vI ((0 : Nat) : Int)), (8, vC), (2, vL 2 (ws.map prV)), (1, vL 1 (ps.map iV)), (0, vI s)] [] ?_ rfl (by repeat' first | exact trivial | refine ⟨rfl, ?_⟩) trivial (by rfl)
 refine VJ.rec (fun p : Nat × LS × List Wl => ⟨0, [(9, vI p.1), (8, vC), (2, vL 2 (ws.map prV)), (1, vL 1 (ps.map iV)), (0, vI s)], [], GC s s p.2.1 p.2.2 E0⟩) (fun p => ps.length - p.1) (fun p => p.1 ≤ ps.length ∧ InvT s p.2.1 ∧ p.2.2.length ≤ 4 + 2 * p.1) (0, E2, W2) ⟨Nat.zero_le _, hI2, by show W2.length ≤ 4 + 2 * 0; omega⟩ ?_
 rintro ⟨j, E, W⟩ ⟨hj, hI, hW⟩ ih
 dsimp only at hj hI hW ih ⊢
 clear hI1 hE1 hI2 hW2 hT1
 repeat' (first | refine VJ.seq ?_ | refine VJ.region_k fun K hK => ?_ | (refine VR.done (hK _ ?_); clear hK K) | (first | refine VR.move rfl rfl ?_ | refine VR.int rfl rfl rfl rfl ?_ | refine VR.len tok rfl rfl rfl rfl rfl ?_))
 refine VJ.cond rfl (fun hb => ?_) (fun hb => ?_)
 ·have hlt : j < ps.length := by simpa using hb
  have hget := map_get_i hlt
  generalize ps[j] = v at hget
  have hp := spot_in s v hs1 hs2
  repeat' (first | refine VJ.seq ?_ | refine VJ.skip ?_ | refine VJ.block ?_ | refine VJ.inBlock ?_ | refine VJ.region_k fun K hK => ?_ | (refine VR.done (hK _ ?_); clear hK K) | (first | refine VR.move rfl rfl ?_ | refine VR.assign rfl rfl ?_ | (show onLd; refine VR.load tok rfl rfl rfl (by first | rfl | exact (ldp_el (by assumption)).trans (by rfl)) ?_) | (show onIx; refine VR.indexAddr tok rfl rfl rfl rfl rfl rfl rfl (elA_lst (by assumption)) ?_) | refine VR.int rfl rfl rfl rfl ?_ | (refine VR.call fok26 rfl rfl rfl rfl ?_; refine v_cdtAdd (InvT s) (InvT s) (keepsT hs1 hs2) (keepsT hs1 hs2) s s E hI W (by omega) (spotP s v) (fun _ => hI) (fun _ => hI) (fun _ hst => addT' hs2 hp E hI hst) E0 rfl _ (fun r E3 W3 hI3 hW3 => ?_))) | (refine VR.call fok19 rfl rfl rfl rfl ?_; refine (v_spot s v hs1 hs2 _ _ ?_)))
  exact VJ.to 0 _ _ (ih (j + 1, E3, W3) ⟨hlt, hI3, by show W3.length ≤ 4 + 2 * (j + 1); omega⟩ (show ps.length - (j + 1) < ps.length - j by omega)) rfl ⟨vI_succ (by omega), by rfl, by rfl, by rfl, by rfl, trivial⟩ trivial (by rfl)
 clear ih hb
 have hW54 : W.length ≤ 54 := by omega
 clear hW hj
 repeat' (first | refine VJ.seq ?_ | refine VJ.block ?_ | refine VJ.exit rfl ?_ | refine VJ.region_k fun K hK => ?_ | (refine VR.done (hK _ ?_); clear hK K) | (first | refine VR.assign rfl rfl ?_))
 refine VJ.to 0 [(10, vI ((0 : Nat) : Int)), (8, vC), (2, vL 2 (ws.map prV)), (0, vI s)] [] ?_ rfl (by repeat' first | exact trivial | refine ⟨rfl, ?_⟩) trivial (by rfl)
 refine VJ.rec (fun p : Nat × LS × List Wl => ⟨0, [(10, vI p.1), (8, vC), (2, vL 2 (ws.map prV)), (0, vI s)], [], GC s s p.2.1 p.2.2 E0⟩) (fun p => ws.length - p.1) (fun p => p.1 ≤ ws.length ∧ InvT s p.2.1 ∧ p.2.2.length ≤ bndW p.1) (0, E, W) ⟨Nat.zero_le _, hI, by show W.length ≤ bndW 0; unfold bndW; omega⟩ ?_
 clear hI hW54
 rintro ⟨i, E, W⟩ ⟨hi, hI, hW⟩ ih
 dsimp only at hi hI hW ih ⊢
 repeat' (first | refine VJ.seq ?_ | refine VJ.region_k fun K hK => ?_ | (refine VR.done (hK _ ?_); clear hK K) | (first | refine VR.move rfl rfl ?_ | refine VR.int rfl rfl rfl rfl ?_ | refine VR.len tok rfl rfl rfl rfl rfl ?_))
 refine VJ.cond rfl (fun hb => ?_) (fun hb => ?_)
 ·have hlt : i < ws.length := by simpa using hb
  have hget := map_get_pr hlt
  generalize ws[i] = v at hget
  have ih' : ∀ (E3 : LS) (W3 : List Wl), InvT s E3 → W3.length ≤ W.length + 10000 → _ := fun E3 W3 h1 h2 => ih (i + 1, E3, W3) ⟨by show i + 1 ≤ ws.length; omega, h1, bndW_succ hW h2⟩ (by show ws.length - (i + 1) < ws.length - i; omega)
  clear ih
  repeat' (first | refine VJ.seq ?_ | refine VJ.skip ?_ | refine VJ.block ?_)
  apply VJ.drawLast3 [_, _, _, _, _, _, _, _, _, _, _, _, _, _, _] _ [(0, 0), (1, 0), (2, 0), (3, 0), (4, 0), (5, 0), (6, 0), (7, 0), (8, 0), (9, 0), (10, 0), (11, 0), (12, 0), (13, 0), (14, 0)] [[(8, none)], [(0, none)], [(2, none)], [(10, none)], [(38, some 2), (39, some 3)], [(40, some 4)], [(41, some 5)], [(37, some 1), (42, some 6)], [(0, none)], [(2, none)], [(10, none)], [(45, some 9), (46, some 10)], [(47, some 11)], [(48, some 12)], [(44, some 8), (49, some 13)], [(36, some 0), (43, some 7), (50, some 14)]] [[(8, _)], [(0, _)], [(2, _)], [(10, _)], [(38, _), (39, _)], [(40, _)], [(41, _)], [(37, _), (42, _)], [(0, _)], [(2, _)], [(10, _)], [(45, _), (46, _)], [(47, _)], [(48, _)], [(44, _), (49, _)], [(36, _), (43, _), (50, _)]] [_, _, _, _, _, _, _, _, _, _, _, _, _, _, _] (.a .top) rfl (by kernel_rfl) ?hok rfl ?hh ?hj
  case hh =>
   refine ⟨?_, ?_, ?_, ?_, ?_, ?_, ?_, ?_, ?_, ?_, ?_, ?_, ?_, ?_, ?_, trivial⟩
   all_goals (intro rest K1 hK1; (repeat (first | exact VR.done hK1 | (first | refine VR.move rfl rfl ?_ | (show onLd; refine VR.load tok rfl rfl rfl (by first | rfl | exact (ldp_el (by assumption)).trans (by rfl)) ?_) | (show onIx; refine VR.indexAddr tok rfl rfl rfl rfl rfl rfl rfl (elA_lst (by assumption)) ?_) | (show onIx; refine VR.indexArr tok rfl (arrOk (by rfl)) rfl rfl (by first | rfl | exact place_el (by assumption)) rfl rfl (by decide) rfl ?_)) | (refine VR.call fok19 rfl rfl rfl rfl ?_; refine (v_spot s v.1 hs1 hs2 _ _ ?_)) | (refine VR.call fok19 rfl rfl rfl rfl ?_; refine (v_spot s v.2 hs1 hs2 _ _ ?_)))); try (first | exact VR.done hK1 | (refine VR.done ?_; dsimp only [S.set]; exact hK1)))
  case hok => kernel_rfl
  case hj =>
   dsimp only [List.append, tla]
   refine VR.call fok27 rfl rfl rfl rfl ?_
   refine v_cdtWall (InvT s) (keepsT hs1 hs2) F s s E hI W (bndW_le hW (by omega)) (spotP s v.1) (spotP s v.2) 1 E0 rfl _ (fun r E3 W3 hI3 hW3 => ?_)
   have ih2 := ih' E3 W3 hI3 hW3
   refine VR.done ?_
   repeat' (first | refine VJ.inBlock ?_ | refine VJ.region_k fun K hK => ?_ | (refine VR.done (hK _ ?_); clear hK K) | (first | refine VR.move rfl rfl ?_ | refine VR.assign rfl rfl ?_ | refine VR.int rfl rfl rfl rfl ?_))
   exact VJ.to 0 _ _ ih2 rfl ⟨vI_succ (by omega), by rfl, by rfl, by rfl, trivial⟩ trivial (by rfl)
 clear ih hb hi hW
 obtain ⟨l, hT⟩ := hI
 have hLl : (trisR E).Perm l := (sortT_perm _).trans hT.mo.trs
 have hfew : l.length ≤ 3200 := by have := (hT.sql hs1 hs2).few; omega
 have fewE : E.length < 100000 := by rw [hT.mo.len]; omega
 have hT := hT.perm hLl.symm
 obtain ⟨hnew, hP⟩ := made_pm hT.mo
 have hLM : trisM (meshOf (trisR E)).1 = trisR E := hP.tris.symm
 have hq := hQ _ _ E W (by rw [hLM]; exact hT) (by rw [hLM]; exact hP) (by rw [hP.tlen, hLl.length_eq]; exact hfew)
 have hlen : (trisR E).length < 100000 := by rw [hLl.length_eq]; omega
 obtain ⟨L, hLe⟩ : ∃ L, trisR E = L := ⟨_, rfl⟩
 rw [hLe] at hq hnew hlen
 clear hT hP hLM hLl hfew hQ F
 repeat' (first | refine VJ.seq ?_ | refine VJ.skip ?_ | refine VJ.exit rfl ?_ | refine VJ.cond_f rfl ?_ | refine VJ.region_k fun K hK => ?_ | (refine VR.done (hK _ ?_); clear hK K) | (first | refine VR.move rfl rfl ?_ | refine VR.assign rfl rfl ?_ | (show onLd; refine VR.load tok rfl rfl rfl rfl ?_) | (show onFa; refine VR.fieldAddr tok rfl rfl rfl rfl rfl rfl ?_) | refine VR.int rfl rfl rfl rfl ?_ | refine VR.nilCheck rfl rfl rfl ?_ | refine VR.extract rfl rfl rfl ?_ | (refine VR.call fok29 rfl rfl rfl rfl ?_; refine v_trisG E fewE _ ⟨rfl, ⟨none, rfl⟩⟩ _ ?_; rw [hLe]) | (refine VR.callk kp3 [] fok28 rfl rfl rfl rfl (fun n o hn h => by rcases kp3_yes hn with rfl | rfl | rfl <;> cases h) ?_; rw [GK3]; refine v_newM L (by omega) _ (fun h => absurd hnew h) (fun _ => ⟨(fun n h => GMz_no h _ _), .inl rfl, ?_⟩); rw [GM3L])))
 refine VJ.ret tok (by rfl) (by rfl) ?_
 exact hq
end Go.Proofs.YtnpnjhopgedhkaaGreat
namespace Go.Proofs.YtnpnjhopgedhkaaGreat
open Go.RowKit V Geo
def alongU : List (Int × Int) → Int × Int → Int × Int → Bool
 | [], f, t => decide (f.1 * t.2 < t.1 * f.2)
 | (x, y) :: l, f, t => if x < 0 ∧ y < 0 then false else alongU l (if x < 0 ∧ f.1 * (y - x) < -x * f.2 then (-x, y - x) else f) (if y < 0 ∧ x * t.2 < t.1 * (x - y) then (x, x - y) else t)
theorem alongU_cons (x y : Int) (l : List (Int × Int)) (f t : Int × Int) : alongU ((x, y) :: l) f t = if x < 0 ∧ y < 0 then false else alongU l (if x < 0 ∧ f.1 * (y - x) < -x * f.2 then (-x, y - x) else f) (if y < 0 ∧ x * t.2 < t.1 * (x - y) then (x, x - y) else t) := rfl
theorem mul_pos_cancel {a b c : Int} (hc : 0 < c) (h : a * c ≤ b * c) : a ≤ b := Int.le_of_mul_le_mul_right h hc
theorem alongU_dead : ∀ (l : List (Int × Int)) (f t : Int × Int), 0 < f.2 → 0 < t.2 → t.1 * f.2 ≤ f.1 * t.2 → alongU l f t = false
 | [], f, t, _, _, h => decide_eq_false (by omega)
 | (x, y) :: l, f, t, hf, ht, h => by
   rw [alongU_cons]
   by_cases h1 : x < 0 ∧ y < 0
   ·rw [if_pos h1]
   rw [if_neg h1]
   by_cases hx : x < 0 ∧ f.1 * (y - x) < -x * f.2
   ·rw [if_pos hx, if_neg (show ¬ (y < 0 ∧ x * t.2 < t.1 * (x - y)) by omega)]
    have hd : 0 < y - x := by omega
    refine alongU_dead l (-x, y - x) t hd ht ?_
    show t.1 * (y - x) ≤ -x * t.2
    refine mul_pos_cancel hf ?_
    have k1 : f.1 * (y - x) * t.2 ≤ -x * f.2 * t.2 := Int.mul_le_mul_of_nonneg_right (by omega) (Int.le_of_lt ht)
    have k2 : t.1 * f.2 * (y - x) ≤ f.1 * t.2 * (y - x) := Int.mul_le_mul_of_nonneg_right h (Int.le_of_lt hd)
    have e1 : t.1 * (y - x) * f.2 = t.1 * f.2 * (y - x) := by grind
    have e2 : -x * t.2 * f.2 = -x * f.2 * t.2 := by grind
    have e3 : f.1 * t.2 * (y - x) = f.1 * (y - x) * t.2 := by grind
    omega
   rw [if_neg hx]
   by_cases hy : y < 0 ∧ x * t.2 < t.1 * (x - y)
   ·rw [if_pos hy]
    have hd : 0 < x - y := by omega
    refine alongU_dead l f (x, x - y) hf hd ?_
    show x * f.2 ≤ f.1 * (x - y)
    refine mul_pos_cancel ht ?_
    have k1 : x * t.2 * f.2 ≤ t.1 * (x - y) * f.2 := Int.mul_le_mul_of_nonneg_right (by omega) (Int.le_of_lt hf)
    have k2 : t.1 * f.2 * (x - y) ≤ f.1 * t.2 * (x - y) := Int.mul_le_mul_of_nonneg_right h (Int.le_of_lt hd)
    have e1 : x * f.2 * t.2 = x * t.2 * f.2 := by grind
    have e2 : f.1 * (x - y) * t.2 = f.1 * t.2 * (x - y) := by grind
    have e3 : t.1 * (x - y) * f.2 = t.1 * f.2 * (x - y) := by grind
    omega
   rw [if_neg hy]
   exact alongU_dead l f t hf ht h
theorem S_no {x y : Int} (l : List (Int × Int)) (f t : Int × Int) (h : (x < 0 ∧ y ≤ 0) ∨ (x = 0 ∧ y < 0)) : alongS ((x, y) :: l) f t = false := by rw [alongS_cons, if_pos h]
theorem S_in {x y : Int} (l : List (Int × Int)) (f t : Int × Int) (hx : x < 0) (hy : 0 < y) : alongS ((x, y) :: l) f t = alongS l (if f.1 * (y - x) < -x * f.2 then (-x, y - x) else f) t := by rw [alongS_cons, if_neg (by omega), if_pos hx]
theorem S_out {x y : Int} (l : List (Int × Int)) (f t : Int × Int) (hx : 0 < x) (hy : y < 0) : alongS ((x, y) :: l) f t = alongS l f (if x * t.2 < t.1 * (x - y) then (x, x - y) else t) := by rw [alongS_cons, if_neg (by omega), if_neg (by omega), if_pos hy]
theorem S_all {x y : Int} (l : List (Int × Int)) (f t : Int × Int) (hx : 0 ≤ x) (hy : 0 ≤ y) : alongS ((x, y) :: l) f t = alongS l f t := by rw [alongS_cons, if_neg (by omega), if_neg (by omega), if_neg (by omega)]
theorem U_no {x y : Int} (l : List (Int × Int)) (f t : Int × Int) (h : x < 0 ∧ y < 0) : alongU ((x, y) :: l) f t = false := by rw [alongU_cons, if_pos h]
theorem U_in {x y : Int} (l : List (Int × Int)) (f t : Int × Int) (hx : x < 0) (hy : 0 ≤ y) : alongU ((x, y) :: l) f t = alongU l (if f.1 * (y - x) < -x * f.2 then (-x, y - x) else f) t := by
 rw [alongU_cons, if_neg (by omega)]
 congr 1
 ·by_cases c : f.1 * (y - x) < -x * f.2
  ·rw [if_pos c, if_pos ⟨hx, c⟩]
  ·rw [if_neg c, if_neg (fun k => c k.2)]
 ·exact if_neg (fun k => by omega)
theorem U_out {x y : Int} (l : List (Int × Int)) (f t : Int × Int) (hx : 0 ≤ x) (hy : y < 0) : alongU ((x, y) :: l) f t = alongU l f (if x * t.2 < t.1 * (x - y) then (x, x - y) else t) := by
 rw [alongU_cons, if_neg (by omega)]
 congr 1
 ·exact if_neg (fun k => by omega)
 ·by_cases c : x * t.2 < t.1 * (x - y)
  ·rw [if_pos c, if_pos ⟨hy, c⟩]
  ·rw [if_neg c, if_neg (fun k => c k.2)]
theorem U_all {x y : Int} (l : List (Int × Int)) (f t : Int × Int) (hx : 0 ≤ x) (hy : 0 ≤ y) : alongU ((x, y) :: l) f t = alongU l f t := by
 rw [alongU_cons, if_neg (by omega)]
 congr 1
 ·exact if_neg (fun k => by omega)
 ·exact if_neg (fun k => by omega)
theorem alongU_eq : ∀ (l : List (Int × Int)) (f t : Int × Int), 0 ≤ f.1 → 0 < f.2 → 0 ≤ t.1 → 0 < t.2 → t.1 ≤ t.2 → alongU l f t = alongS l f t
 | [], f, t, _, _, _, _, _ => rfl
 | (x, y) :: l, f, t, hf0, hf, ht0, ht, h1 => by
   by_cases hx : x < 0
   ·by_cases hy : y < 0
    ·rw [U_no l f t ⟨hx, hy⟩, S_no l f t (by omega)]
    rw [U_in l f t hx (by omega)]
    by_cases hz : y = 0
    ·subst hz
     rw [S_no l f t (by omega), Int.zero_sub]
     by_cases hc : f.1 * -x < -x * f.2
     ·rw [if_pos hc]
      refine alongU_dead l _ t (by show 0 < -x; omega) ht ?_
      show t.1 * -x ≤ -x * t.2
      rw [Int.mul_comm]
      exact Int.mul_le_mul_of_nonneg_left h1 (by omega)
     ·rw [if_neg hc]
      have hfl : f.2 ≤ f.1 := by
       have : -x * f.2 ≤ f.1 * -x := by omega
       rw [Int.mul_comm] at this
       exact mul_pos_cancel (show 0 < -x by omega) this
      refine alongU_dead l f t hf ht ?_
      exact Int.le_trans (Int.mul_le_mul_of_nonneg_right h1 (Int.le_of_lt hf)) (by rw [Int.mul_comm t.2 f.2]; exact Int.mul_le_mul_of_nonneg_right hfl (Int.le_of_lt ht))
    ·rw [S_in l f t hx (by omega)]
     by_cases hc : f.1 * (y - x) < -x * f.2
     ·rw [if_pos hc]
      exact alongU_eq l (-x, y - x) t (by show 0 ≤ -x; omega) (by show 0 < y - x; omega) ht0 ht h1
     ·rw [if_neg hc]
      exact alongU_eq l f t hf0 hf ht0 ht h1
   ·by_cases hy : y < 0
    ·rw [U_out l f t (by omega) hy]
     by_cases hz : x = 0
     ·subst hz
      rw [S_no l f t (by omega)]
      by_cases hc : 0 * t.2 < t.1 * (0 - y)
      ·rw [if_pos hc]
       refine alongU_dead l f _ hf (by show 0 < 0 - y; omega) ?_
       show 0 * f.2 ≤ f.1 * (0 - y)
       rw [Int.zero_mul]
       exact Int.mul_nonneg hf0 (by omega)
      ·rw [if_neg hc]
       have ht1 : t.1 = 0 := by
        rcases Int.lt_or_eq_of_le ht0 with k | k
        ·exact absurd (by rw [Int.zero_mul]; exact Int.mul_pos k (by omega)) hc
        ·exact k.symm
       refine alongU_dead l f t hf ht ?_
       rw [ht1, Int.zero_mul]
       exact Int.mul_nonneg hf0 (Int.le_of_lt ht)
     ·rw [S_out l f t (by omega) hy]
      by_cases hc : x * t.2 < t.1 * (x - y)
      ·rw [if_pos hc]
       exact alongU_eq l f (x, x - y) hf0 hf (by show 0 ≤ x; omega) (by show 0 < x - y; omega) (by show x ≤ x - y; omega)
      ·rw [if_neg hc]
       exact alongU_eq l f t hf0 hf ht0 ht h1
    ·rw [U_all l f t (by omega) (by omega), S_all l f t (by omega) (by omega)]
     exact alongU_eq l f t hf0 hf ht0 ht h1
end Go.Proofs.YtnpnjhopgedhkaaGreat
namespace Go.Proofs.YtnpnjhopgedhkaaGreat
open Go.RowKit V Geo
theorem eqWd0 (a b : Int) (w : World) : (binOp .eql 112 (wdV 0 a) (wdV 0 b)).run Tryz.prog w = .ok (.bool (decide (a = b))) w := by
 unfold wdV
 simp [go_sem]
 by_cases h : a = b <;> simp [h]
theorem eqWd (x y : Operand) (a b : Int) (w : World) : (do eqGuard .eql 112 x y (wdV 0 a) (wdV 0 b); binOp .eql 112 (wdV 0 a) (wdV 0 b) : Sem Value).run Tryz.prog w = .ok (.bool (decide (a = b))) w := by
 rw [Sem.run_bind, show (eqGuard .eql 112 x y (wdV 0 a) (wdV 0 b)).run Tryz.prog w = .ok () w from run_eqGuard_agg w .eql 112 x y _ _ (show Tryz.prog.eqGuardType Tryz.prog.depth 112 = false by kernel_rfl)]
 simp only [Result.andThen_ok]
 exact eqWd0 a b w
end Go.Proofs.YtnpnjhopgedhkaaGreat
namespace Go.Proofs.YtnpnjhopgedhkaaGreat
open Go.RowKit V Geo
attribute [local irreducible] VR VJ VC decOk decBt
theorem v_waddN (l : Int) (hl : 0 ≤ l ∧ l < 9223372036854775808) (G : Gl) (Q : Po) (hQ : Q (vV (wdV 0 l)) G) : VC Tryz.prog 94 [vV (wdV 0 l), vV (wdI 0)] G Q := by
 have e : wdV (wr (wr (0 + (if (0 : Int) < 0 then -1 else 0)) + (if uw (l + uw 0) < l then 1 else 0))) (uw (l + uw 0)) = wdV 0 l := by
  have e1 : uw 0 = 0 := by rw [uw_eq]; rfl
  have e2 : uw (l + 0) = l := by rw [uw_eq]; omega
  rw [e1, e2, if_neg (show ¬ l < l by omega)]
  rfl
 exact v_wadd0 0 l _ _ G Q (by rw [e]; exact hQ)
set_option maxRecDepth 20000 in
theorem v_wmulN (x y : Int) (ha : 0 ≤ x ∧ x < 2147483648) (hb : 0 ≤ y ∧ y < 4294967296) (G : Gl) (Q : Po) (hQ : Q (vV (wdV 0 (x * y))) G) : VC Tryz.prog 65 [vI x, vI y] G Q := by
 refine VC.of_body Tryz.func65 rfl rfl rfl fun W0 h0 x0 hG0 => ?_
 simp only [args0]
 have hm := mul_63 ha.1 ha.2 hb.1 hb.2
 have k1 : decide (x < 0) = false := decide_eq_false (by omega)
 have k2 : decide (y < 0) = false := decide_eq_false (by omega)
 have e1 : uw x = x := by rw [uw_eq]; omega
 have e2 : uw y = y := by rw [uw_eq]; omega
 have e3 : uw (x * y) = x * y := by rw [uw_eq]; omega
 have hb1 : 0 ≤ x ∧ x < 4294967296 := by omega
 have hb2 := hb
 repeat' (first | refine VJ.seq ?_ | refine VJ.region_k fun K hK => ?_ | (refine VR.done (hK _ ?_); clear hK K) | (first | refine VR.move rfl rfl ?_ | refine VR.assign rfl rfl ?_ | refine VR.int rfl rfl rfl rfl ?_ | refine VR.alloc tok rfl rfl rfl ?_ | (refine VR.conv Tryz.underlying3 Tryz.underlying110 rfl rfl ?_)))
 refine VJ.cond rfl (fun hc => absurd hc (by rw [k1]; simp)) (fun hc => ?_)
 repeat' (first | refine VJ.seq ?_ | refine VJ.skip ?_ | refine VJ.region_k fun K hK => ?_)
 repeat (first | refine VR.move rfl rfl ?_ | refine VR.int rfl rfl rfl rfl ?_)
 refine VR.done (hK _ ?_); clear hK K
 refine VJ.cond rfl (fun hc => absurd hc (by rw [k2]; simp)) (fun hc => ?_)
 refine VJ.to 1 [(6, vU y), (5, vU x), (4, .a (.ptr (.l 0) 0)), (0, vI x), (1, vI y)] [(0, .box [.d (.v (.int .i64 0)), .d (.v (.int .u64 0))])] ?_ rfl ⟨congrArg (fun z => some (vU z)) e2, congrArg (fun z => some (vU z)) e1, by rfl, by rfl, by rfl, trivial⟩ (by repeat' first | exact trivial | refine ⟨rfl, ?_⟩) (by rfl)
 repeat' (first | refine VJ.seq ?_ | refine VJ.skip ?_ | refine VJ.region_k fun K hK => ?_)
 repeat (first | refine VR.move rfl rfl ?_ | refine VR.assign rfl rfl ?_ | refine VR.int rfl rfl rfl rfl ?_ | (refine VR.shr 32 rfl rfl rfl rfl rfl ?_))
 refine VR.done (hK _ ?_); clear hK K
 refine VJ.to 1 [(10, vU 0), (9, vU y), (8, vU 0), (7, vU x), (4, .a (.ptr (.l 0) 0)), (0, vI x), (1, vI y)] [(0, .box [.d (.v (.int .i64 0)), .d (.v (.int .u64 0))])] ?_ rfl ⟨congrArg (fun z => some (vU z)) (fdiv_32 hb2.1 hb2.2), congrArg (fun z => some (vU z)) (band_u64 hb2.1 hb2.2), congrArg (fun z => some (vU z)) (fdiv_32 hb1.1 hb1.2), congrArg (fun z => some (vU z)) (band_u64 hb1.1 hb1.2), by rfl, by rfl, by rfl, trivial⟩ (by repeat' first | exact trivial | refine ⟨rfl, ?_⟩) (by rfl)
 repeat' (first | refine VJ.seq ?_ | refine VJ.region_k fun K hK => ?_)
 repeat (first | refine VR.move rfl rfl ?_ | refine VR.int rfl rfl rfl rfl ?_ | refine VR.alloc tok rfl rfl rfl ?_ | refine VR.store tok rfl rfl rfl rfl rfl rfl rfl (by first | (intro n e; cases e; done) | exact (fun _ _ q => all_glA (by rfl) q)) ?_ | refine VR.buildL (n := 1) [_, _] tok rfl rfl rfl rfl rfl rfl rfl rfl ?_ | (refine VR.conv Tryz.underlying110 Tryz.underlying2 rfl rfl ?_))
 refine VR.done (hK _ ?_); clear hK K
 repeat' (first | refine VJ.seq ?_ | refine VJ.region_k fun K hK => ?_)
 repeat (first | refine VR.move rfl rfl ?_ | refine VR.assign rfl rfl ?_ | refine VR.int rfl rfl rfl rfl ?_)
 refine VR.done (hK _ ?_); clear hK K
 refine VJ.to 2 [(13, vU 0), (12, vU 0), (11, .a (.ptr (.l 1) 0)), (4, .a (.ptr (.l 0) 0)), (0, vI x), (1, vI y)] [(1, .box [.d (.v (.int .i64 0)), .d (.v (.int .u64 (x * y)))]), (0, .box [.d (.v (.int .i64 0)), .d (.v (.int .u64 0))])] ?_ rfl ⟨congrArg (fun z => some (vU z)) (show uw (0 * y) = 0 by simp [uw_eq]), congrArg (fun z => some (vU z)) (show uw (x * 0) = 0 by simp [uw_eq]), by rfl, by rfl, by rfl, by rfl, trivial⟩ ⟨congr (congrArg (fun z u => some (VO.box [.d (.v (.int .i64 z)), .d (.v (.int .u64 u))])) (show wr (uw (0 * 0)) = 0 by decide)) e3, by rfl, trivial⟩ (by rfl)
 repeat' (first | refine VJ.seq ?_ | refine VJ.region_k fun K hK => ?_ | (refine VR.done (hK _ ?_); clear hK K) | (first | refine VR.move rfl rfl ?_ | (show onLd; refine VR.load tok rfl rfl rfl rfl ?_) | refine VR.int rfl rfl rfl rfl ?_ | refine VR.store tok rfl rfl rfl rfl rfl rfl rfl (by first | (intro n e; cases e; done) | exact (fun _ _ q => all_glA (by rfl) q)) ?_ | refine VR.buildL (n := 1) [_, _] tok rfl rfl rfl rfl rfl rfl rfl rfl ?_ | (refine VR.bin rfl rfl rfl (neqBB _ _ _ _) ?_) | (refine VR.conv Tryz.underlying110 Tryz.underlying2 rfl rfl ?_) | (refine VR.shr 32 rfl rfl rfl rfl rfl ?_) | (refine VR.shl 32 rfl rfl rfl rfl rfl ?_)) | (refine VR.call fok94 rfl rfl rfl rfl ?_; refine (v_waddN (x * y) hm _ _ ?_)))
 refine VJ.cond rfl (fun hc => absurd hc (by rw [k1, k2]; decide)) (fun hc => ?_)
 repeat' (first | refine VJ.seq ?_ | refine VJ.skip ?_ | refine VJ.region_k fun K hK => ?_ | (refine VR.done (hK _ ?_); clear hK K) | (first | (show onLd; refine VR.load tok rfl rfl rfl rfl ?_) | refine VR.store tok rfl rfl rfl rfl rfl rfl rfl (by first | (intro n e; cases e; done) | exact (fun _ _ q => all_glA (by rfl) q)) ?_))
 refine VJ.ret tok (by rfl) (by rfl) ?_
 exact hQ
theorem v_cmpW (a b : Int) (G : Gl) (Q : Po) (hQ : Q (vI (cmpI a b)) G) : VC Tryz.prog 64 [vV (wdV 0 a), vV (wdV 0 b)] G Q := by
 refine VC.of_body Tryz.func64 rfl rfl rfl fun W0 h0 x0 hG0 => ?_
 simp only [args0]
 repeat' (first | refine VJ.seq ?_ | refine VJ.block ?_ | refine VJ.region_k fun K hK => ?_ | (refine VR.done (hK _ ?_); clear hK K) | (first | refine VR.move rfl rfl ?_ | refine VR.assign rfl rfl ?_ | (show onLd; refine VR.load tok rfl rfl rfl rfl ?_) | (show onFa; refine VR.fieldAddr tok rfl rfl rfl rfl rfl rfl ?_) | refine VR.int rfl rfl rfl rfl ?_ | (refine VR.pickB rfl rfl rfl rfl ?_ ?_ ?_; iterate 2 (first | exact trivial | (refine fun h => ?_; first | (rw [h]; rfl) | (rw [h, hg]; rfl) | (rw [hg, h]; rfl) | (simp [h, hg]; done)))) | refine VR.g_yes rfl rfl (by first | rfl | assumption) ?_ | refine VR.box rfl rfl rfl ?_))
 refine VJ.cond rfl (fun hc => ?_) (fun hc => ?_)
 ·have h1 : a < b := by simpa using hc
  rw [show cmpI a b = -1 by unfold cmpI; rw [if_pos h1]] at hQ
  repeat' (first | refine VJ.seq ?_ | refine VJ.region_k fun K hK => ?_ | (refine VR.done (hK _ ?_); clear hK K) | (first | refine VR.assign rfl rfl ?_))
  refine VJ.ret tok (by rfl) (by rfl) ?_
  exact hQ
 have h1 : ¬ a < b := by simpa using hc
 repeat' (first | refine VJ.seq ?_ | refine VJ.region_k fun K hK => ?_ | (refine VR.done (hK _ ?_); clear hK K) | (first | refine VR.assign rfl rfl ?_ | (show onLd; refine VR.load tok rfl rfl rfl rfl ?_) | (refine VR.bin rfl rfl rfl (eqWd _ _ a b) ?_)))
 refine VJ.cond rfl (fun hc => ?_) (fun hc => ?_)
 ·have h2 : a = b := by simpa using hc
  rw [show cmpI a b = 0 by unfold cmpI; rw [if_neg h1, if_neg (by omega)]] at hQ
  repeat' (first | refine VJ.seq ?_ | refine VJ.region_k fun K hK => ?_ | (refine VR.done (hK _ ?_); clear hK K) | (first | refine VR.assign rfl rfl ?_))
  refine VJ.ret tok (by rfl) (by rfl) ?_
  exact hQ
 have h2 : ¬ a = b := by simpa using hc
 rw [show cmpI a b = 1 by unfold cmpI; rw [if_neg h1, if_pos (by omega)]] at hQ
 repeat' (first | refine VJ.seq ?_ | refine VJ.skip ?_ | refine VJ.inBlock ?_ | refine VJ.region_k fun K hK => ?_ | (refine VR.done (hK _ ?_); clear hK K) | (first | refine VR.assign rfl rfl ?_))
 refine VJ.ret tok (by rfl) (by rfl) ?_
 exact hQ
end Go.Proofs.YtnpnjhopgedhkaaGreat
