/- Walls that are put one by one have nothing in common but ends: the plain law of WallsClash. Conditions: each lemma's own. -/
import Derived.Test.YthpbgolnlmjjdaaW13
namespace Go.Proofs.Ythpbgolnlmjjdaa
open Go.RowKit V Geo
set_option linter.unusedVariables false

theorem made_iff {w : Wl} : w.made = true ↔ mkOk w.a w.b w.k = true ∧ mkW w.a w.b w.k = w := by
  unfold Wl.made
  cases mkOk w.a w.b w.k <;> simp
theorem mkOk_iff {a b : Pt} {k : Int} : mkOk a b k = true ↔ a.ok ∧ b.ok ∧ a ≠ b ∧ (k = 1 ∨ k = 2) := by
  unfold mkOk; simp
theorem made_btw {w : Wl} (h : w.made = true) : btw w.a w.b = w.en := by
  obtain ⟨h1, h2⟩ := made_iff.1 h
  unfold mkW at h2
  rw [if_pos h1] at h2
  have ha := congrArg Wl.a h2
  have hb := congrArg Wl.b h2
  unfold btw Wl.en
  simp only at ha hb
  rw [ha, hb]
theorem made_k {w : Wl} (h : w.made = true) : w.k = 1 ∨ w.k = 2 := (mkOk_iff.1 (made_iff.1 h).1).2.2.2
theorem made_ok1 {w : Wl} (h : w.made = true) : mkOk w.a w.b 1 = true := by
  obtain ⟨a, b, c, d⟩ := mkOk_iff.1 (made_iff.1 h).1
  exact mkOk_iff.2 ⟨a, b, c, .inl rfl⟩

theorem meetE_nonneg (a b c d : Pt) : 0 ≤ meetE a b c d := by
  unfold meetE
  split
  · omega
  split
  · unfold inlE; split <;> omega
  split
  · omega
  split
  · omega
  split <;> omega
theorem meetE_comm (a b c d : Pt) : meetE a b c d = meetE c d a b := by rw [meet_eq, meet_comm, ← meet_eq]

theorem kind_put {s : List (En × Int)} {w : Wl} (h : w.made = true) : kindOf (putW s w) w.a w.b = w.k := by
  unfold kindOf putW
  rw [made_btw h, Mp.get_put, if_pos rfl]
  rfl
theorem clash_put {s : List (En × Int)} {w : Wl} (h : w.made = true) : clash (putW s w) w.a w.b = 5 := by
  unfold clash
  rw [if_neg (by rw [made_ok1 h]; simp), if_pos]
  rw [kind_put h]
  rcases made_k h with e | e <;> omega
theorem put_new {s : List (En × Int)} {x : En} (v : Int) (h : Mp.get s x = none) : Mp.put s x v = s ++ [(x, v)] := by
  induction s with
  | nil => rfl
  | cons p l ih =>
    simp only [Mp.get] at h
    split at h
    · cases h
    · rename_i e
      simp only [Mp.put]
      rw [if_neg e, ih h]
      rfl

/-- What is there hangs together. -/
structure Inv (s : List (En × Int)) : Prop where
  nd : (s.map (·.1)).Nodup
  md : ∀ p ∈ s, (toW p).made = true
  mt : ∀ p ∈ s, ∀ q ∈ s, p.1 ≠ q.1 → meetE p.1.a p.1.b q.1.a q.1.b = 0
theorem Inv.nil : Inv [] := ⟨by simp, by simp, by simp⟩
theorem Inv.kind {s : List (En × Int)} (h : Inv s) {a b : Pt} (h0 : kindOf s a b = 0) : Mp.get s (btw a b) = none := by
  unfold kindOf at h0
  cases e : Mp.get s (btw a b) with
  | none => rfl
  | some v =>
    exfalso
    rw [e] at h0
    have h0 : v = 0 := h0
    subst h0
    rcases made_k (h.md _ (Mp.get_mem e)) with g | g
    · exact absurd g (show ¬ (0 : Int) = 1 by decide)
    · exact absurd g (show ¬ (0 : Int) = 2 by decide)
theorem addE_zero {s : List (En × Int)} {w : Wl} (h : addE s w = 0) : w.made = true ∧ clash s w.a w.b = 0 := by
  unfold addE at h
  split at h
  · cases h
  · rename_i e
    exact ⟨by simpa using e, h⟩
theorem clash_zero {s : List (En × Int)} {a b : Pt} (h : clash s a b = 0) : kindOf s a b = 0 ∧ s.any (crosses a b) = false := by
  unfold clash at h
  split at h
  · cases h
  split at h
  · cases h
  split at h
  · cases h
  · rename_i e1 e2 e3
    exact ⟨by omega, by simpa using e3⟩
theorem Inv.put_eq {s : List (En × Int)} (I : Inv s) {w : Wl} (h : addE s w = 0) : putW s w = s ++ [(w.en, w.k)] := by
  obtain ⟨h1, h2⟩ := addE_zero h
  have h3 := I.kind (clash_zero h2).1
  rw [made_btw h1] at h3
  exact put_new _ h3
theorem Inv.put {s : List (En × Int)} (I : Inv s) {w : Wl} (h : addE s w = 0) : Inv (putW s w) := by
  have he := I.put_eq h
  obtain ⟨h1, h2⟩ := addE_zero h
  obtain ⟨h3, h4⟩ := clash_zero h2
  have hx : ∀ p ∈ s, meetE w.a w.b p.1.a p.1.b = 0 := by
    intro p hp
    have := List.any_eq_false.1 h4 p hp
    unfold crosses at this
    have h0 := meetE_nonneg w.a w.b p.1.a p.1.b
    have h5 : ¬ 0 < meetE w.a w.b p.1.a p.1.b := by simpa using this
    omega
  refine ⟨?_, ?_, ?_⟩
  · unfold putW
    exact Mp.nodup_put I.nd _ _
  · rw [he]
    intro p hp
    rcases List.mem_append.1 hp with hp | hp
    · exact I.md p hp
    · rw [List.mem_singleton.1 hp]
      exact h1
  · rw [he]
    intro p hp q hq hne
    rcases List.mem_append.1 hp with hp | hp <;> rcases List.mem_append.1 hq with hq | hq
    · exact I.mt p hp q hq hne
    · rw [List.mem_singleton.1 hq, meetE_comm]
      exact hx p hp
    · rw [List.mem_singleton.1 hp]
      exact hx q hq
    · rw [List.mem_singleton.1 hp, List.mem_singleton.1 hq] at hne
      exact absurd rfl hne
theorem Inv.put_length {s : List (En × Int)} (I : Inv s) {w : Wl} (h : addE s w = 0) : (putW s w).length = s.length + 1 := by rw [I.put_eq h]; simp

/-- All that is there, in order. -/
abbrev allW (s : List (En × Int)) : List Wl := those s fun _ _ => true
theorem flt_all (s : List (En × Int)) : flt (fun _ _ => true) s = s.map toW := by
  unfold flt
  rw [List.filter_eq_self.2 (fun _ _ => rfl)]
theorem all_perm (s : List (En × Int)) : (allW s).Perm (s.map toW) := by
  have := sortW_perm (flt (fun _ _ => true) s)
  rw [flt_all] at this
  unfold allW those
  rw [flt_all]
  exact this
theorem all_length (s : List (En × Int)) : (allW s).length = s.length := by rw [(all_perm s).length_eq, List.length_map]
theorem all_mem {s : List (En × Int)} {w : Wl} (h : w ∈ allW s) : (w.en, w.k) ∈ s := by
  obtain ⟨p, hp, rfl⟩ := List.mem_map.1 ((all_perm s).mem_iff.1 h)
  exact hp
theorem all_made {s : List (En × Int)} (I : Inv s) {w : Wl} (h : w ∈ allW s) : w.made = true := I.md _ (all_mem h)
theorem all_en {s : List (En × Int)} (I : Inv s) : ((allW s).map Wl.en).Nodup := by
  refine (((all_perm s).map Wl.en).nodup_iff).2 ?_
  rw [List.map_map]
  exact I.nd
theorem all_kind {s : List (En × Int)} (I : Inv s) {w : Wl} (h : w ∈ allW s) : kindOf s w.a w.b = w.k := by
  unfold kindOf
  rw [made_btw (all_made I h), Mp.mem_get I.nd (all_mem h)]
  rfl
theorem all_ne {s : List (En × Int)} (I : Inv s) {k i : Nat} (hk : k < i) (hi : i < (allW s).length) : ((allW s)[k]'(by omega)).en ≠ (allW s)[i].en := by
  have := List.pairwise_iff_getElem.1 (all_en I) k i (by simp; omega) (by simpa using hi) hk
  simpa using this
theorem all_meet {s : List (En × Int)} (I : Inv s) {k i : Nat} (hk : k < i) (hi : i < (allW s).length) : meetR (allW s)[i].a (allW s)[i].b ((allW s)[k]'(by omega)).a ((allW s)[k]'(by omega)).b = 0 := by
  rw [← meet_eq]
  exact I.mt _ (all_mem (List.getElem_mem _)) _ (all_mem (List.getElem_mem _)) (fun e => all_ne I hk hi e.symm)
theorem cmpR_neg {v w : Wl} (h : w.lt v = false) (hne : v.en ≠ w.en) : cmpR v w < 0 := by
  have h1 : ¬ (w.lt v = true) := Bool.eq_false_iff.1 h
  rw [wl_lt] at h1
  unfold cmpR
  rcases cp_three v.a w.a with e | e | e
  · rw [e, if_neg (by omega)]; omega
  · rw [if_pos e]
    have ea := cp_zero.1 e
    rcases cp_three v.b w.b with g | g | g
    · rw [g, if_neg (by omega)]; omega
    · exfalso
      refine hne ?_
      unfold Wl.en
      rw [ea, cp_zero.1 g]
    · exfalso
      have := cp_pos.1 (show 0 < cp v.b w.b by omega)
      have ex := congrArg Pt.x ea
      have ey := congrArg Pt.y ea
      omega
  · exfalso
    have := cp_pos.1 (show 0 < cp v.a w.a by omega)
    omega
theorem all_cmp {s : List (En × Int)} (I : Inv s) {k i : Nat} (hk : k < i) (hi : i < (allW s).length) : cmpR ((allW s)[k]'(by omega)) (allW s)[i] < 0 :=
  cmpR_neg (List.pairwise_iff_getElem.1 (sortW_sorted _) k i (by have : i < (sortW (flt (fun _ _ => true) s)).length := hi; omega) hi hk) (all_ne I hk hi)

/-! ### A new set of all -/

def enk (w : Wl) : En × Int := (w.en, w.k)
theorem putAll_eq : ∀ (l : List Wl) (s : List (En × Int)), (s.map (·.1) ++ l.map Wl.en).Nodup → putAll s l = s ++ l.map enk
  | [], s, _ => by simp [putAll]
  | w :: l, s, h => by
    have hn : Mp.get s w.en = none := by
      refine Mp.get_none.2 fun p hp e => ?_
      exact (List.nodup_append.1 h).2.2 p.1 (List.mem_map.2 ⟨p, hp, rfl⟩) w.en (by simp) e
    have hp : putW s w = s ++ [enk w] := put_new _ hn
    show putAll (putW s w) l = _
    rw [hp, putAll_eq l (s ++ [enk w]) (by simpa [enk] using h)]
    simp
theorem dupW_eq : ∀ (l : List Wl) (s : List (En × Int)), (∀ w ∈ l, w.made = true) → (s.map (·.1) ++ l.map Wl.en).Nodup → dupW s l = false
  | [], s, _, _ => rfl
  | w :: l, s, hm, h => by
    have hn : Mp.get s w.en = none := by
      refine Mp.get_none.2 fun p hp e => ?_
      exact (List.nodup_append.1 h).2.2 p.1 (List.mem_map.2 ⟨p, hp, rfl⟩) w.en (by simp) e
    have hp : putW s w = s ++ [enk w] := put_new _ hn
    have hk : kindOf s w.a w.b = 0 := by
      unfold kindOf
      rw [made_btw (hm w (by simp)), hn]
      rfl
    unfold dupW
    rw [if_neg (by omega), hp]
    exact dupW_eq l _ (fun v hv => hm v (by simp [hv])) (by simpa [enk] using h)
theorem crossW_eq : ∀ (l pre : List Wl), (pre ++ l).Pairwise (fun v w => meetE v.a v.b w.a w.b = 0) → crossW pre l = false
  | [], pre, _ => rfl
  | w :: l, pre, h => by
    unfold crossW
    rw [if_neg]
    · exact crossW_eq l _ (by simpa using h)
    · simp only [List.any_eq_true, not_exists, not_and]
      intro v hv
      have := (List.pairwise_append.1 h).2.2 v hv w (by simp)
      unfold hits
      rw [this]
      simp
theorem new_all {s : List (En × Int)} (I : Inv s) : newE (allW s) = 0 := by
  unfold newE
  rw [if_neg, if_neg, if_neg]
  · rw [crossW_eq _ _ (by
      rw [List.nil_append, List.pairwise_iff_getElem]
      intro k i h1 h2 h3
      rw [meetE_comm, meet_eq]
      exact all_meet I h3 h2)]
    simp
  · rw [dupW_eq _ _ (fun w hw => all_made I hw) (by simpa using all_en I)]
    simp
  · rw [Bool.not_eq_false, List.all_eq_true]
    exact fun w hw => all_made I hw
theorem all_new {s : List (En × Int)} (I : Inv s) : allW (putAll [] (allW s)) = allW s := by
  rw [putAll_eq _ _ (by simpa using all_en I), List.nil_append]
  refine sorted_unique ?_ (sortW_sorted _) (sortW_sorted _)
  refine (all_perm _).trans ?_
  rw [List.map_map]
  have : (toW ∘ enk) = id := funext fun w => rfl
  rw [this, List.map_id]
theorem new_few {s : List (En × Int)} (I : Inv s) : (putAll [] (allW s)).length = s.length := by
  rw [putAll_eq _ _ (by simpa using all_en I), List.nil_append, List.length_map, all_length]
