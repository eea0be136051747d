/- What the loops of MeterAlone keep. Conditions: each lemma's own. -/
import Derived.Test.YtfhmldjaebjkpaaF
import Derived.Test.YtfhmldjaebjkpaaOpen
namespace Go.Proofs.Ytfhmldjaebjkpaa
open Go.RowKit
/-- A meter of four tenants, the last of which has sent nothing. -/
structure Good (m : Mt) (rqs bts s : Int) : Prop where
  n : m.n = 4
  rq : m.rq = rqs
  bt : m.bt = bts
  len : m.cs.length = 8
  rngs : ∀ t, t < 4 → 0 ≤ Ytfhmldjaebjkpaa.rq m t ∧ Ytfhmldjaebjkpaa.rq m t ≤ rqs ∧ 0 ≤ Ytfhmldjaebjkpaa.bt m t ∧ Ytfhmldjaebjkpaa.bt m t ≤ bts
  r3 : Ytfhmldjaebjkpaa.rq m 3 = 0
  b3 : Ytfhmldjaebjkpaa.bt m 3 = 0
  sum : Ytfhmldjaebjkpaa.rq m 0 + Ytfhmldjaebjkpaa.rq m 1 + Ytfhmldjaebjkpaa.rq m 2 ≤ s
theorem Good.rng {m : Mt} {rqs bts s : Int} (h : Good m rqs bts s) (q1 : 0 ≤ rqs) (q2 : rqs ≤ 60) (b1 : 0 ≤ bts) (b2 : bts ≤ 600) : Rng m := by
  refine ⟨by rw [h.rq]; exact q1, by rw [h.rq]; omega, by rw [h.bt]; exact b1, by rw [h.bt]; omega, fun t ht => ?_⟩
  rw [h.n] at ht
  have := h.rngs t ht
  omega
theorem rq_set (m : Mt) (t s : Nat) (a b : Int) (ht : t * 2 + 1 < m.cs.length) : rq { m with cs := (m.cs.set (t * 2) a).set (t * 2 + 1) b } s = if t = s then a else rq m s := by
  unfold rq
  dsimp only
  rw [set_getD _ _ _ _ (by simp; omega), set_getD _ _ _ _ (by omega), if_neg (by omega)]
  by_cases e : t = s
  · rw [if_pos e, if_pos (by omega)]
  · rw [if_neg e, if_neg (by omega)]
theorem bt_set (m : Mt) (t s : Nat) (a b : Int) (ht : t * 2 + 1 < m.cs.length) : bt { m with cs := (m.cs.set (t * 2) a).set (t * 2 + 1) b } s = if t = s then b else bt m s := by
  unfold bt
  dsimp only
  rw [set_getD _ _ _ _ (by simp; omega), set_getD _ _ _ _ (by omega)]
  by_cases e : t = s
  · rw [if_pos e, if_pos (by omega)]
  · rw [if_neg e, if_neg (by omega), if_neg (by omega)]
theorem Good.step {m : Mt} {rqs bts s : Int} (h : Good m rqs bts s) (t : Nat) (ht : t < 3) (n : Int) (hn : 0 ≤ n) : Good (chM m t n) rqs bts (s + 1) := by
  unfold chM
  split
  · exact ⟨h.n, h.rq, h.bt, h.len, h.rngs, h.r3, h.b3, by have := h.sum; omega⟩
  · rename_i hq
    have hl := h.len
    have e1 := fun s' => rq_set m t s' (Ytfhmldjaebjkpaa.rq m t + 1) (Ytfhmldjaebjkpaa.bt m t + n) (by omega)
    have e2 := fun s' => bt_set m t s' (Ytfhmldjaebjkpaa.rq m t + 1) (Ytfhmldjaebjkpaa.bt m t + n) (by omega)
    have hq' : Ytfhmldjaebjkpaa.rq m t + 1 ≤ rqs ∧ Ytfhmldjaebjkpaa.bt m t + n ≤ bts := by
      unfold quota at hq
      rw [h.rq, h.bt] at hq
      omega
    refine ⟨h.n, h.rq, h.bt, by simp [hl], fun s' hs' => ?_, ?_, ?_, ?_⟩
    · rw [e1, e2]
      have a1 := h.rngs s' hs'
      have a2 := h.rngs t (by omega)
      by_cases e : t = s'
      · rw [if_pos e, if_pos e]; omega
      · rw [if_neg e, if_neg e]; exact a1
    · rw [e1, if_neg (by omega)]; exact h.r3
    · rw [e2, if_neg (by omega)]; exact h.b3
    · rw [e1, e1, e1]
      have := h.sum
      rcases (by omega : t = 0 ∨ t = 1 ∨ t = 2) with rfl | rfl | rfl <;> simp <;> omega
theorem Good.start (rqs bts : Int) (q1 : 0 ≤ rqs) (b1 : 0 ≤ bts) : Good (m0 4 1000 rqs bts 0) rqs bts 0 := by
  refine ⟨rfl, rfl, rfl, rfl, fun t ht => ?_, rfl, rfl, Int.le_refl 0⟩
  have e1 : Ytfhmldjaebjkpaa.rq (m0 4 1000 rqs bts 0) t = 0 := by rcases (by omega : t = 0 ∨ t = 1 ∨ t = 2 ∨ t = 3) with rfl | rfl | rfl | rfl <;> rfl
  have e2 : Ytfhmldjaebjkpaa.bt (m0 4 1000 rqs bts 0) t = 0 := by rcases (by omega : t = 0 ∨ t = 1 ∨ t = 2 ∨ t = 3) with rfl | rfl | rfl | rfl <;> rfl
  rw [e1, e2]
  omega
/-- The sum of the requests of a list of counts. -/
def sumR : List (Nat × Int × Int) → Int
  | [] => 0
  | x :: r => x.2.1 + sumR r
theorem sumR_app (a b : List (Nat × Int × Int)) : sumR (a ++ b) = sumR a + sumR b := by
  induction a with
  | nil => simp [sumR]
  | cons x a ih => simp [sumR, ih]; omega
theorem sumR_cl (m : Mt) (k : Nat) : sumR (cl m (k + 1)) = sumR (cl m k) + (if 0 < rq m k + bt m k then rq m k else 0) := by
  rw [cl, sumR_app, cOne]
  split <;> simp [sumR]
theorem Good.total {m : Mt} {rqs bts s : Int} (h : Good m rqs bts s) : sumR (cl m m.n) ≤ s ∧ 0 ≤ sumR (cl m m.n) := by
  rw [h.n]
  have e : ∀ t, t < 4 → (if 0 < Ytfhmldjaebjkpaa.rq m t + Ytfhmldjaebjkpaa.bt m t then Ytfhmldjaebjkpaa.rq m t else 0) = Ytfhmldjaebjkpaa.rq m t := by
    intro t ht
    have := h.rngs t ht
    split <;> omega
  rw [sumR_cl m 3, sumR_cl m 2, sumR_cl m 1, sumR_cl m 0, e 0 (by omega), e 1 (by omega), e 2 (by omega), e 3 (by omega)]
  have := h.sum
  have := h.r3
  have q0 := h.rngs 0 (by omega)
  have q1 := h.rngs 1 (by omega)
  have q2 := h.rngs 2 (by omega)
  simp only [cl, sumR]
  omega
/-- What stands in the list of counts. -/
theorem cl_mem (m : Mt) (k : Nat) : ∀ x ∈ cl m k, x.1 < k ∧ x.2.1 = rq m x.1 ∧ x.2.2 = bt m x.1 ∧ 0 < x.2.1 + x.2.2 := by
  induction k with
  | zero => simp [cl]
  | succ k ih =>
    intro x hx
    simp only [cl, List.mem_append, cOne] at hx
    rcases hx with hx | hx
    · have := ih x hx
      exact ⟨by omega, this.2⟩
    · split at hx
      · simp at hx
        subst hx
        exact ⟨by simp, rfl, rfl, by assumption⟩
      · simp at hx
theorem flatC_get (l : List (Nat × Int × Int)) (i : Nat) (h : i < l.length) : (flatC l)[i * 3]? = some (.int .i64 (l[i]).1) ∧ (flatC l)[i * 3 + 1]? = some (.int .i64 (l[i]).2.1) ∧ (flatC l)[i * 3 + 2]? = some (.int .i64 (l[i]).2.2) := by
  induction l generalizing i with
  | nil => simp at h
  | cons x l ih =>
    cases i with
    | zero => simp [flatC]
    | succ i =>
      have := ih i (by simpa using h)
      have e : (i + 1) * 3 = i * 3 + 3 := by omega
      rw [e]
      simpa [flatC] using this
theorem flatC_len (l : List (Nat × Int × Int)) : (flatC l).length = l.length * 3 := by
  induction l with
  | nil => rfl
  | cons x l ih => simp [flatC, ih]; omega
theorem sumR_take (l : List (Nat × Int × Int)) (i : Nat) (h : i < l.length) : sumR (l.take (i + 1)) = sumR (l.take i) + (l[i]).2.1 := by
  rw [List.take_succ_eq_append_getElem h, sumR_app]
  simp [sumR]
end Go.Proofs.Ytfhmldjaebjkpaa
