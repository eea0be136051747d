/- A wall is found at both its ends, and on its inside: the plain law of WallsEnds. Conditions: each lemma's own. -/
import Derived.Test.YthpbgolnlmjjdaaL1
namespace Go.Proofs.Ythpbgolnlmjjdaa
open Go.RowKit V Geo
set_option linter.unusedVariables false

/-- The point at i steps. -/
def stp (a : Pt) (x y i : Int) : Pt := ⟨a.x + i * x, a.y + i * y⟩
theorem pt_ne {p q : Pt} : p ≠ q ↔ p.x ≠ q.x ∨ p.y ≠ q.y := by
  obtain ⟨a, b⟩ := p
  obtain ⟨c, d⟩ := q
  simp only [ne_eq, Pt.mk.injEq]
  omega
theorem mono_x {i k x : Int} (h0 : 0 ≤ i) (h1 : i ≤ k) : (0 ≤ i * x ∧ i * x ≤ k * x) ∨ (i * x ≤ 0 ∧ k * x ≤ i * x) := by
  rcases Int.le_total 0 x with h | h
  · exact .inl ⟨Int.mul_nonneg h0 h, Int.mul_le_mul_of_nonneg_right h1 h⟩
  · exact .inr ⟨Int.mul_nonpos_of_nonneg_of_nonpos h0 h, Int.mul_le_mul_of_nonpos_right h1 h⟩
theorem stp_on {a : Pt} {x y i k : Int} (ha : a.ok) (hb : (stp a x y k).ok) (h0 : 0 ≤ i) (h1 : i ≤ k) : onR (stp a x y i) a (stp a x y k) = true ∧ onR (stp a x y i) (stp a x y k) a = true := by
  have mx := mono_x (x := x) h0 h1
  have my := mono_x (x := y) h0 h1
  have hbx : bt (stp a x y i).x a.x (stp a x y k).x := by unfold bt stp; simp only; omega
  have hby : bt (stp a x y i).y a.y (stp a x y k).y := by unfold bt stp; simp only; omega
  have hbx' : bt (stp a x y i).x (stp a x y k).x a.x := by unfold bt stp; simp only; omega
  have hby' : bt (stp a x y i).y (stp a x y k).y a.y := by unfold bt stp; simp only; omega
  have hp : (stp a x y i).ok := by
    unfold Pt.ok at ha hb ⊢
    unfold bt at hbx hby
    omega
  have ht : tw a (stp a x y k) (stp a x y i) = 0 := by unfold tw stp; simp only; grind
  have ht' : tw (stp a x y k) a (stp a x y i) = 0 := by unfold tw stp; simp only; grind
  unfold onR
  simp [ha, hb, hp, ht, ht', hbx, hby, hbx', hby']
theorem stp_ne {a : Pt} {x y i k : Int} (hxy : x ≠ 0 ∨ y ≠ 0) (h : i ≠ k) : stp a x y i ≠ stp a x y k := by
  rw [pt_ne]
  unfold stp
  simp only
  have hd : i - k ≠ 0 := by omega
  rcases hxy with g | g
  · left
    intro e
    have : (i - k) * x = 0 := by grind
    rcases Int.mul_eq_zero.1 this with e | e
    · exact hd e
    · exact g e
  · right
    intro e
    have : (i - k) * y = 0 := by grind
    rcases Int.mul_eq_zero.1 this with e | e
    · exact hd e
    · exact g e
theorem stp_zero (a : Pt) (x y : Int) : stp a x y 0 = a := by unfold stp; simp
theorem stp_dir {a : Pt} {x y k : Int} (h : a ≠ stp a x y k) : x ≠ 0 ∨ y ≠ 0 := by
  by_cases g : x = 0
  · by_cases g' : y = 0
    · exfalso; refine h ?_; unfold stp; rw [g, g']; simp
    · exact .inr g'
  · exact .inl g

theorem ends_of (a b : Pt) : (lesser a b = a ∧ greater a b = b) ∨ (lesser a b = b ∧ greater a b = a) := by
  unfold lesser greater
  split
  · exact .inl ⟨rfl, rfl⟩
  · exact .inr ⟨rfl, rfl⟩

section
variable {a b : Pt} {k : Int} (h : mkOk a b k = true)
include h
theorem mkW_eq : mkW a b k = ⟨lesser a b, greater a b, k⟩ := by unfold mkW; rw [if_pos h]
theorem mkW_made : (mkW a b k).made = true := by
  rw [made_iff, mkW_eq h]
  obtain ⟨h1, h2, h3, h4⟩ := mkOk_iff.1 h
  have hs : lesser (lesser a b) (greater a b) = lesser a b ∧ greater (lesser a b) (greater a b) = greater a b ∧ mkOk (lesser a b) (greater a b) k = true := by
    rcases ends_of a b with ⟨e1, e2⟩ | ⟨e1, e2⟩
    · rw [e1, e2]; exact ⟨e1, e2, h⟩
    · rw [e1, e2, lesser_comm, greater_comm]; exact ⟨e1, e2, mkOk_iff.2 ⟨h2, h1, fun e => h3 e.symm, h4⟩⟩
  obtain ⟨e1, e2, e3⟩ := hs
  refine ⟨e3, ?_⟩
  unfold mkW
  simp only
  rw [if_pos e3, e1, e2]
theorem mkW_en : (mkW a b k).en = btw a b := by rw [mkW_eq h]; rfl
theorem mkW_k : (mkW a b k).k = k := by rw [mkW_eq h]
theorem new_one : newE [mkW a b k] = 0 := by
  unfold newE
  have hk : kindOf [] (mkW a b k).a (mkW a b k).b = 0 := rfl
  rw [if_neg, if_neg, if_neg]
  · simp [crossW]
  · simp [dupW, hk]
  · simp [mkW_made h]
end
def sE (a b : Pt) (k : Int) : List (En × Int) := [(btw a b, k)]
theorem put_one {a b : Pt} {k : Int} (h : mkOk a b k = true) : putAll [] [mkW a b k] = sE a b k := by
  show [((mkW a b k).en, (mkW a b k).k)] = _
  rw [mkW_en h, mkW_k h]; rfl
theorem sE_kind (a b : Pt) (k : Int) : kindOf (sE a b k) a b = k := by
  unfold kindOf sE Mp.get
  rw [if_pos rfl]; rfl
theorem btw_comm (a b : Pt) : btw a b = btw b a := by unfold btw; rw [lesser_comm, greater_comm]
theorem sE_kind' (a b : Pt) (k : Int) : kindOf (sE a b k) b a = k := by
  unfold kindOf
  rw [btw_comm b a]
  exact sE_kind a b k
theorem sE_del (a b : Pt) (k : Int) : Mp.del (sE a b k) (btw b a) = [] := by
  rw [btw_comm b a]
  unfold sE Mp.del
  rw [if_pos rfl]
theorem sortW_one' (w : Wl) : sortW [w] = [w] := List.perm_singleton.1 (sortW_perm [w])
theorem those_sE {a b : Pt} {k : Int} (h : mkOk a b k = true) (p : Pt → Pt → Bool) : those (sE a b k) p = if p (lesser a b) (greater a b) = true then [mkW a b k] else [] := by
  have e : flt p (sE a b k) = if p (lesser a b) (greater a b) = true then [mkW a b k] else [] := by
    unfold flt sE
    rw [mkW_eq h]
    by_cases hp : p (lesser a b) (greater a b) = true
    · simp [btw, toW, hp]
    · simp [btw, hp]
  unfold those
  rw [e]
  split
  · exact sortW_one' _
  · exact List.perm_nil.1 (sortW_perm [])
theorem those_at {a b : Pt} {k : Int} (h : mkOk a b k = true) : those (sE a b k) (atP a) = [mkW a b k] ∧ those (sE a b k) (atP b) = [mkW a b k] := by
  rw [those_sE h, those_sE h]
  unfold atP
  rcases ends_of a b with ⟨e1, e2⟩ | ⟨e1, e2⟩ <;> rw [e1, e2] <;> simp
theorem sE_clash {a b : Pt} {k : Int} (h : mkOk a b k = true) : clash (sE a b k) a b = 5 := by
  obtain ⟨h1, h2, h3, h4⟩ := mkOk_iff.1 h
  unfold clash
  rw [if_neg (by rw [mkOk_iff.2 ⟨h1, h2, h3, .inl rfl⟩]; simp), if_pos]
  rw [sE_kind]
  omega
theorem those_on {a : Pt} {x y i k kd : Int} (h : mkOk a (stp a x y k) kd = true) (h0 : 0 ≤ i) (h1 : i ≤ k) :
    those (sE a (stp a x y k) kd) (onIn (stp a x y i)) = if 0 < i ∧ i < k then [mkW a (stp a x y k) kd] else [] := by
  obtain ⟨g1, g2, g3, g4⟩ := mkOk_iff.1 h
  have hxy := stp_dir g3
  obtain ⟨o1, o2⟩ := stp_on g1 g2 h0 h1
  rw [those_sE h]
  have e : (onIn (stp a x y i) (lesser a (stp a x y k)) (greater a (stp a x y k)) = true) ↔ (0 < i ∧ i < k) := by
    have n0 : stp a x y i = a ↔ i = 0 := by
      constructor
      · intro e
        rcases Int.lt_or_le 0 i with g | g
        · have := stp_ne (a := a) hxy (show i ≠ 0 by omega)
          rw [stp_zero] at this
          exact absurd e this
        · omega
      · rintro rfl; exact stp_zero _ _ _
    have nk : stp a x y i = stp a x y k ↔ i = k := by
      constructor
      · intro e
        rcases Int.lt_or_le i k with g | g
        · exact absurd e (stp_ne hxy (by omega))
        · omega
      · rintro rfl; rfl
    have key : ∀ (P R : Prop) [Decidable P] [Decidable R], (bif (bif !decide P then !decide R else false) then true else false) = true ↔ ¬ P ∧ ¬ R := by
      intro P R _ _
      by_cases q0 : P <;> by_cases qk : R <;> simp [q0, qk]
    unfold onIn
    rcases ends_of a (stp a x y k) with ⟨e1, e2⟩ | ⟨e1, e2⟩ <;> rw [e1, e2]
    · rw [on_eq, o1, key, n0, nk]; omega
    · rw [on_eq, o2, key, n0, nk]; omega
  by_cases hc : 0 < i ∧ i < k
  · rw [if_pos hc, if_pos (e.2 hc)]
  · rw [if_neg hc, if_neg (fun g => hc (e.1 g))]
