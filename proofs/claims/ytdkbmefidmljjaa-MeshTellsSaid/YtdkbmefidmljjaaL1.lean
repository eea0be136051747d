/- A mesh is what its triangles say: the plain law of MeshTells. Conditions: each lemma's own. -/
import Derived.Test.YtdkbmefidmljjaaW25
namespace Go.Proofs.Ytdkbmefidmljjaa
open Go.RowKit V Geo
set_option linter.unusedVariables false

theorem ori_self (a b c : Pt) (h : a = b ∨ b = c ∨ c = a) : oriG a b c = 0 := by
  have : tw a b c = 0 := by
    unfold tw
    rcases h with rfl | rfl | rfl
    · simp
    · rw [Int.mul_comm]; omega
    · simp
  unfold oriG
  rw [this]
  simp [sg]
theorem valid_ne {t : Tr} (h : validT t = true) : t.a ≠ t.b ∧ t.b ≠ t.c ∧ t.c ≠ t.a := by
  have h0 : oriG t.a t.b t.c ≠ 0 := by
    intro e
    unfold validT makeT at h
    rw [if_pos e] at h
    simp at h
  exact ⟨fun e => h0 (ori_self _ _ _ (.inl e)), fun e => h0 (ori_self _ _ _ (.inr (.inl e))), fun e => h0 (ori_self _ _ _ (.inr (.inr e)))⟩
/-- The entries of triangles. -/
def entT (t : Tr) : LS := (around t).map fun e => (e, t)
def ents (l : List Tr) : LS := l.flatMap entT
theorem mem_entT (t u : Tr) (e : En) : (e, u) ∈ entT t ↔ u = t ∧ e ∈ around t := by
  unfold entT
  simp only [List.mem_map, Prod.mk.injEq]
  exact ⟨fun ⟨x, h1, h2, h3⟩ => ⟨h3.symm, h2 ▸ h1⟩, fun ⟨h1, h2⟩ => ⟨e, h2, rfl, h1.symm⟩⟩
theorem mem_ents (l : List Tr) (u : Tr) (e : En) : (e, u) ∈ ents l ↔ u ∈ l ∧ e ∈ around u := by
  unfold ents
  simp only [List.mem_flatMap, mem_entT]
  exact ⟨fun ⟨x, h1, h2, h3⟩ => by subst h2; exact ⟨h1, h3⟩, fun ⟨h1, h2⟩ => ⟨u, h1, rfl, h2⟩⟩
theorem edge_ne {t : Tr} (h : validT t = true) : (⟨t.b, t.c⟩ : En) ≠ ⟨t.a, t.b⟩ ∧ (⟨t.c, t.a⟩ : En) ≠ ⟨t.a, t.b⟩ ∧ (⟨t.c, t.a⟩ : En) ≠ ⟨t.b, t.c⟩ := by
  obtain ⟨h1, h2, h3⟩ := valid_ne h
  refine ⟨fun e => ?_, fun e => ?_, fun e => ?_⟩
  · exact h1 (congrArg En.a e).symm
  · exact h3 (congrArg En.a e)
  · exact h2 (congrArg En.a e).symm
theorem add_new {E : LS} {t : Tr} (hv : validT t = true) (hf : fitsR E t = true) : addEs E t (around t) = E ++ entT t := by
  obtain ⟨n1, n2, n3⟩ := edge_ne hv
  unfold fitsR isE at hf
  simp only [Bool.and_eq_true, Bool.not_eq_true', Option.isSome_eq_false_iff, Option.isNone_iff_eq_none] at hf
  obtain ⟨⟨h1, h2⟩, h3⟩ := hf
  rw [addEs3, Mp.put_none h1]
  have e2 : Mp.get (E ++ [((⟨t.a, t.b⟩ : En), t)]) ⟨t.b, t.c⟩ = none := by
    rw [← Mp.put_none h1, Mp.get_put, if_neg n1]; exact h2
  rw [Mp.put_none e2]
  have e3 : Mp.get (E ++ [((⟨t.a, t.b⟩ : En), t)] ++ [((⟨t.b, t.c⟩ : En), t)]) ⟨t.c, t.a⟩ = none := by
    rw [← Mp.put_none e2, Mp.get_put, if_neg n3, ← Mp.put_none h1, Mp.get_put, if_neg n2]; exact h3
  rw [Mp.put_none e3]
  unfold entT around
  simp
theorem map_one (l : List Tr) : (l.map fun t => (t, true)).map (·.1) = l := by
  rw [List.map_map]
  exact List.map_id' l
def RelE (c : ES) (E : LS) : Prop := ∀ e, hasE c e = (Mp.get E e).isSome
theorem hasE_put (c : ES) (x e : En) : hasE (Mp.put c x true) e = if e = x then true else hasE c e := by
  unfold hasE
  rw [Mp.get_put]
  split <;> rfl
theorem badE_nil (c : ES) (x : En) : badE [] [] c x = hasE c x := by
  unfold badE
  cases hasE c x <;> rfl
theorem chkE_fits {c : ES} {E : LS} {t : Tr} (hr : RelE c E) (hv : validT t = true) : chkE [] [] c (around t) = if fitsR E t = true then some (Mp.put (Mp.put (Mp.put c ⟨t.a, t.b⟩ true) ⟨t.b, t.c⟩ true) ⟨t.c, t.a⟩ true) else none := by
  obtain ⟨n1, n2, n3⟩ := edge_ne hv
  unfold around
  simp only [chkE, badE_nil, hasE_put, if_neg n1, if_neg n2, if_neg n3]
  rw [hr, hr, hr]
  unfold fitsR isE
  cases (Mp.get E ⟨t.a, t.b⟩).isSome <;> cases (Mp.get E ⟨t.b, t.c⟩).isSome <;> cases (Mp.get E ⟨t.c, t.a⟩).isSome <;> rfl
theorem rel_step {c : ES} {E : LS} (t : Tr) (hr : RelE c E) : RelE (Mp.put (Mp.put (Mp.put c ⟨t.a, t.b⟩ true) ⟨t.b, t.c⟩ true) ⟨t.c, t.a⟩ true) (addEs E t (around t)) := by
  intro e
  rw [addEs3, hasE_put, hasE_put, hasE_put, Mp.get_put, Mp.get_put, Mp.get_put]
  by_cases h1 : e = ⟨t.c, t.a⟩
  · simp [h1]
  by_cases h2 : e = ⟨t.b, t.c⟩
  · simp [h1, h2]
  by_cases h3 : e = ⟨t.a, t.b⟩
  · simp [h1, h2, h3]
  · simp only [if_neg h1, if_neg h2, if_neg h3]; exact hr e
theorem chk_new : ∀ (l : List Tr) (c : ES) (E : LS), RelE c E → (chkIn [] [] c l).isSome = (newR E l).isSome
  | [], c, E, hr => rfl
  | t :: l, c, E, hr => by
    unfold chkIn newR
    by_cases hv : validT t = true
    · rw [if_pos hv, chkE_fits hr hv]
      by_cases hf : fitsR E t = true
      · rw [if_pos hf, if_neg (by rw [hv, hf]; simp)]
        exact chk_new l _ _ (rel_step t hr)
      · rw [if_neg hf, if_pos (by rw [Bool.not_eq_true] at hf; rw [hv, hf]; rfl)]; rfl
    · rw [if_neg hv, if_pos (by rw [Bool.not_eq_true] at hv; rw [hv]; rfl)]; rfl
theorem new_ents : ∀ (l : List Tr) (E E' : LS), newR E l = some E' → E' = E ++ ents l ∧ (∀ t ∈ l, validT t = true) ∧ E' = l.foldl (fun le t => addEs le t (around t)) E
  | [], E, E', h => by
    cases h
    exact ⟨by unfold ents; simp, (fun t h => by cases h), rfl⟩
  | t :: l, E, E', h => by
    unfold newR at h
    by_cases hv : validT t = true
    · by_cases hf : fitsR E t = true
      · rw [if_neg (by rw [hv, hf]; simp)] at h
        obtain ⟨h1, h2, h3⟩ := new_ents l _ E' h
        refine ⟨?_, fun u hu => ?_, h3⟩
        · rw [h1, add_new hv hf]; unfold ents; rw [List.flatMap_cons, List.append_assoc]
        · rcases List.mem_cons.1 hu with e | e
          · rw [e]; exact hv
          · exact h2 u e
      · rw [if_pos (by rw [Bool.not_eq_true] at hf; rw [hv, hf]; rfl)] at h; cases h
    · rw [if_pos (by rw [Bool.not_eq_true] at hv; rw [hv]; rfl)] at h; cases h
theorem fold_nodup : ∀ (l : List Tr) (E : LS), (E.map (·.1)).Nodup → ((l.foldl (fun le t => addEs le t (around t)) E).map (·.1)).Nodup
  | [], E, h => h
  | t :: l, E, h => fold_nodup l _ (by show ((addEs E t (around t)).map (·.1)).Nodup; rw [addEs3]; exact Mp.nodup_put (Mp.nodup_put (Mp.nodup_put h _ _) _ _) _ _)
theorem fold_two : ∀ (l : List Tr) (m : TS × LS), (l.foldl addT m).2 = l.foldl (fun le t => addEs le t (around t)) m.2 ∧ (l.foldl addT m).1 = l.foldl (fun ts t => Mp.put ts t true) m.1
  | [], m => ⟨rfl, rfl⟩
  | t :: l, m => fold_two l (addT m t)
theorem ents_nodup : ∀ (l : List Tr), ((ents l).map (·.1)).Nodup → l.Nodup
  | [], h => List.nodup_nil
  | t :: l, h => by
    have e : ents (t :: l) = entT t ++ ents l := by unfold ents; rw [List.flatMap_cons]
    rw [e, List.map_append] at h
    have h2 := List.nodup_append.1 h
    refine List.nodup_cons.2 ⟨fun hm => ?_, ents_nodup l h2.2.1⟩
    refine h2.2.2 ⟨t.a, t.b⟩ ?_ ⟨t.a, t.b⟩ ?_ rfl
    · exact List.mem_map.2 ⟨(_, t), (mem_entT t t _).2 ⟨rfl, by unfold around; simp⟩, rfl⟩
    · exact List.mem_map.2 ⟨(_, t), (mem_ents l t _).2 ⟨hm, by unfold around; simp⟩, rfl⟩
theorem fold_put : ∀ (l : List Tr) (m : TS), l.Nodup → (∀ t ∈ l, Mp.get m t = none) → l.foldl (fun ts t => Mp.put ts t true) m = m ++ l.map fun t => (t, true)
  | [], m, _, _ => by simp
  | t :: l, m, hn, hm => by
    obtain ⟨h1, h2⟩ := List.nodup_cons.1 hn
    rw [List.foldl_cons, fold_put l _ h2 ?_, Mp.put_none (hm t (by simp))]
    · simp
    · intro u hu
      rw [Mp.get_put, if_neg (fun e : u = t => h1 (e ▸ hu))]
      exact hm u (List.mem_cons_of_mem _ hu)
theorem trs_ents : ∀ (l : List Tr), (∀ t ∈ l, validT t = true) → trsOf (ents l) = l
  | [], _ => rfl
  | t :: l, h => by
    have e : ents (t :: l) = entT t ++ ents l := by unfold ents; rw [List.flatMap_cons]
    obtain ⟨n1, n2, n3⟩ := valid_ne (h t (by simp))
    have ih := trs_ents l fun u hu => h u (List.mem_cons_of_mem _ hu)
    unfold trsOf at ih ⊢
    rw [e, List.filter_append, List.map_append, ih]
    have : (entT t).filter firstE = [(⟨t.a, t.b⟩, t)] := by
      unfold entT around firstE
      simp [Ne.symm n1, n3]
    rw [this]; rfl

/-- What New makes is what the triangles say. -/
structure Good (l : List Tr) : Prop where
  val : ∀ t ∈ l, validT t = true
  one : l.Nodup
  ts : (meshOf l).1 = l.map fun t => (t, true)
  le : (meshOf l).2 = ents l
  nd : ((ents l).map (·.1)).Nodup
theorem rel_nil : RelE [] [] := fun e => rfl
theorem code_new (l : List Tr) : (newR [] l = none ∧ replE [] [] [] l = 2) ∨ (∃ E, newR [] l = some E ∧ replE [] [] [] l = 0 ∧ E = (meshOf l).2 ∧ Good l) := by
  have h := chk_new l [] [] rel_nil
  have hr : replE [] [] [] l = match chkIn [] [] [] l with
    | none => 2
    | some _ => 0 := rfl
  rw [hr]
  clear hr
  cases hE : newR [] l with
  | none =>
    left
    rw [hE] at h
    have : chkIn [] [] [] l = none := by simpa using h
    rw [this]; exact ⟨rfl, rfl⟩
  | some E =>
    right
    rw [hE] at h
    obtain ⟨c, hc⟩ := Option.isSome_iff_exists.1 h
    obtain ⟨h1, h2, h3⟩ := new_ents l [] E hE
    have hm := fold_two l ([], [])
    have hnd := fold_nodup l [] (by simp)
    rw [← h3, h1, List.nil_append] at hnd
    refine ⟨E, rfl, by rw [hc], by rw [h3]; exact hm.1.symm, h2, ents_nodup l hnd, ?_, ?_, hnd⟩
    · have := fold_put l [] (ents_nodup l hnd) (fun t _ => rfl)
      exact hm.2.trans this
    · have : (meshOf l).2 = E := by rw [h3]; exact hm.1
      rw [this, h1, List.nil_append]
theorem get_ents {l : List Tr} (g : Good l) (e : En) (t : Tr) : Mp.get (ents l) e = some t ↔ t ∈ l ∧ e ∈ around t :=
  ⟨fun h => (mem_ents l t e).1 (Mp.get_mem h), fun h => Mp.mem_get g.nd ((mem_ents l t e).2 h)⟩
theorem left_ents {l : List Tr} (g : Good l) {t : Tr} (ht : t ∈ l) {k : Nat} (hk : k < 3) : leftOf (ents l) (t.cor k) (t.cor (k + 1)) = (t, true) := by
  have : (⟨t.cor k, t.cor (k + 1)⟩ : En) ∈ around t := List.mem_of_getElem? (around_get t hk)
  have := (get_ents g _ t).2 ⟨ht, this⟩
  unfold leftOf
  rw [this]; rfl
theorem has_ents {l : List Tr} (g : Good l) (t : Tr) : hasT (l.map fun t => (t, true)) t = decide (t ∈ l) ∧ hasR (ents l) t = decide (t ∈ l) := by
  constructor
  · unfold hasT
    by_cases h : t ∈ l
    · have hn : ((l.map fun t => (t, true)).map (·.1)).Nodup := by rw [map_one]; exact g.one
      rw [Mp.mem_get hn (List.mem_map.2 ⟨t, h, rfl⟩), decide_eq_true h]; rfl
    · have : Mp.get (l.map fun t => (t, true)) t = none := Mp.get_none.2 fun p hp => by
        obtain ⟨u, hu, rfl⟩ := List.mem_map.1 hp
        exact fun e => h (e ▸ hu)
      rw [this, decide_eq_false h]; rfl
  · unfold hasR
    by_cases h : t ∈ l
    · rw [(get_ents g ⟨t.a, t.b⟩ t).2 ⟨h, by unfold around; simp⟩, decide_eq_true h]; simp
    · rw [decide_eq_false h]
      cases hg : Mp.get (ents l) ⟨t.a, t.b⟩ with
      | none => rfl
      | some u =>
        have := (get_ents g _ u).1 hg
        have hne : ¬ u = t := fun e => h (e ▸ this.1)
        simp [hne]
theorem across_ents {l : List Tr} (g : Good l) (t : Tr) (k : Nat) : acrossOf (l.map fun t => (t, true)) (ents l) t k = acrossR (ents l) t k := by
  unfold acrossOf acrossR
  rw [(has_ents g t).1, (has_ents g t).2]
theorem ents_len (l : List Tr) : (ents l).length = 3 * l.length := by
  unfold ents
  induction l with
  | nil => rfl
  | cons t l ih => rw [List.flatMap_cons, List.length_append, ih, List.length_cons]; unfold entT around; simp; omega
theorem str_eq {a b : List Pt} (ha : Str a) (hb : b.Pairwise fun p q => q.lt p = false) (hn : b.Nodup) (h : ∀ x, x ∈ a ↔ x ∈ b) : a = b := by
  have ir : ∀ p : Pt, p.lt p = false := fun p => Bool.eq_false_iff.2 fun e => by rw [pt_lt] at e; omega
  have han : a.Nodup := ha.imp fun {p q} hpq e => by rw [e, ir] at hpq; cases hpq
  have has : a.Pairwise fun p q => q.lt p = false := ha.imp fun {p q} hpq => Bool.eq_false_iff.2 fun e => by rw [pt_lt] at hpq e; omega
  exact sorted_uniqueP ((List.perm_ext_iff_of_nodup han hn).2 h) has hb
theorem shown {l : List Tr} (g : Good l) (hl : l.length ≤ 40) : Shown (l.map fun t => (t, true)) (ents l) (ents l) := by
  have hm := map_one l
  have htr : trisM (l.map fun t => (t, true)) = sortT l := by unfold trisM; rw [hm]
  refine ⟨by rw [List.length_map]; omega, by rw [ents_len]; omega, ?_, fun out h1 h2 => ?_, fun t ht k hk => ⟨across_ents g t k, left_ents g ?_ hk⟩⟩
  · rw [htr]; unfold trisR; rw [trs_ents l g.val]
  · unfold pointsM
    refine str_eq h1 (sortP_sorted _) ((sortP_perm _).nodup_iff.2 (met_nodup _)) fun x => ?_
    rw [h2, (sortP_perm _).mem_iff, met_mem, htr]
    unfold cornersOf
    simp only [List.mem_flatMap, List.mem_map, (sortT_perm l).mem_iff]
    constructor
    · rintro ⟨t, ht, hx⟩
      exact ⟨(t, true), ⟨t, ht, rfl⟩, by simpa using hx⟩
    · rintro ⟨p, ⟨t, ht, rfl⟩, hx⟩
      exact ⟨t, ht, by simpa using hx⟩
  · rw [htr, (sortT_perm l).mem_iff] at ht; exact ht
