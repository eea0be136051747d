/- Walls in order. Conditions: none. -/
import Derived.Test.YthpbgolnlmjjdaaW9
import Derived.Test.YthpbgolnlmjjdaaSortK
import Derived.Test.YthpbgolnlmjjdaaShelf
namespace Go.Proofs.Ythpbgolnlmjjdaa
open Go.RowKit V Geo Go.Shelf Go.Sort
set_option linter.unusedVariables false

instance : Inhabited Wl := ⟨wl0⟩
def Wl.lt (a b : Wl) : Bool := decide (a.cmp b < 0)
theorem cp_eqx {p q : Pt} (h : cp p q = 0) : p.x = q.x ∧ p.y = q.y := by
  have := cp_zero.1 h
  exact ⟨congrArg Pt.x this, congrArg Pt.y this⟩
theorem or_cmp (a b c : Int) : orI [a, b, c] = if a = 0 then (if b = 0 then (if c = 0 then 0 else c) else b) else a := by
  simp only [orI]
theorem wl_lt (a b : Wl) : a.lt b = true ↔ a.a.x < b.a.x ∨ a.a.x = b.a.x ∧ (a.a.y < b.a.y ∨ a.a.y = b.a.y ∧ (a.b.x < b.b.x ∨ a.b.x = b.b.x ∧ (a.b.y < b.b.y ∨ a.b.y = b.b.y ∧ a.k < b.k))) := by
  unfold Wl.lt Wl.cmp
  rw [decide_eq_true_eq, or_cmp]
  rcases cp_three a.a b.a with e | e | e
  · have h := cp_neg.1 (show cp a.a b.a < 0 by omega)
    rw [e, if_neg (by omega)]; omega
  · have h := cp_eqx e
    rw [e, if_pos rfl]
    rcases cp_three a.b b.b with f | f | f
    · have k := cp_neg.1 (show cp a.b b.b < 0 by omega)
      rw [f, if_neg (by omega)]; omega
    · have k := cp_eqx f
      rw [f, if_pos rfl]
      unfold cmpI
      split <;> (try split) <;> (try split) <;> omega
    · have k := cp_pos.1 (show 0 < cp a.b b.b by omega)
      rw [f, if_neg (by omega)]; omega
  · have h := cp_pos.1 (show 0 < cp a.a b.a by omega)
    rw [e, if_neg (by omega)]; omega
theorem wl_swo : SWO (ltOf Wl.cmp) where
  irrefl x := by have := wl_lt x x; unfold Wl.lt at this; unfold ltOf; rw [Bool.eq_false_iff, ne_eq, this]; omega
  trans x y z h1 h2 := by
    have a := (wl_lt x y).1 h1; have b := (wl_lt y z).1 h2; refine (wl_lt x z).2 ?_; omega
  ntrans x y z h1 h2 := by
    have a : ¬ (x.lt y = true) := Bool.eq_false_iff.1 h1
    have b : ¬ (y.lt z = true) := Bool.eq_false_iff.1 h2
    refine Bool.eq_false_iff.2 fun h => ?_
    have c := (wl_lt x z).1 h
    rw [wl_lt] at a b
    omega

/-- In order. -/
def sortW (l : List Wl) : List Wl := l.mergeSort fun a b => !b.lt a
theorem sortW_perm (l : List Wl) : (sortW l).Perm l := List.mergeSort_perm _ _
theorem wl_total (a b : Wl) (h1 : a.lt b = false) (h2 : b.lt a = false) : a = b := by
  have h1 : ¬ (a.lt b = true) := Bool.eq_false_iff.1 h1
  have h2 : ¬ (b.lt a = true) := Bool.eq_false_iff.1 h2
  rw [wl_lt] at h1 h2
  obtain ⟨⟨a1, a2⟩, ⟨a3, a4⟩, k⟩ := a
  obtain ⟨⟨b1, b2⟩, ⟨b3, b4⟩, m⟩ := b
  dsimp only at h1 h2
  simp only [Wl.mk.injEq, Pt.mk.injEq]
  omega
theorem sortW_sorted (l : List Wl) : (sortW l).Pairwise fun a b => b.lt a = false := by
  have := List.pairwise_mergeSort (le := fun a b : Wl => !b.lt a) (fun a b c h1 h2 => by
    simp only [Bool.not_eq_true'] at h1 h2 ⊢
    exact wl_swo.ntrans _ _ _ h2 h1) (fun a b => by
    simp only [Bool.or_eq_true, Bool.not_eq_true']
    cases h : b.lt a
    · exact .inl rfl
    · refine .inr ?_
      have h2 : ¬ (a.lt b = true) := by rw [wl_lt] at h ⊢; omega
      exact Bool.eq_false_iff.2 h2) l
  exact this.imp (fun h => by simpa using h)
/-- One list alone is in order. -/
theorem sorted_unique {l l' : List Wl} (hp : l.Perm l') (h : l.Pairwise fun a b => b.lt a = false) (h' : l'.Pairwise fun a b => b.lt a = false) : l = l' :=
  List.Perm.eq_of_pairwise (le := fun a b => b.lt a = false) (fun a b _ _ h1 h2 => wl_total _ _ h2 h1) h h' hp
theorem sortW_eq {l l' : List Wl} (hp : l.Perm l') : sortW l = sortW l' :=
  sorted_unique ((sortW_perm l).trans (hp.trans (sortW_perm l').symm)) (sortW_sorted l) (sortW_sorted l')

theorem cmp_lays (blk off size : Nat) (w : World) : CmpLays Try.prog 29 #[] Wl.l 5 Wl.cmp blk off size w :=
  fun _ _ _ _ x y => (cmpW_c x y _).mono fun _ _ h => ⟨h.1, h.2⟩
def flatW (l : List Wl) : List Value := l.flatMap Wl.l
theorem cellsW (l : List Wl) : cellsL (l.map Wl.v) = flatW l := by
  unfold cellsL flatW
  rw [List.flatMap_map]
  rfl

theorem sort_g (l : List Wl) (hlen : l.length < 1000000) (w : World) (v : Value) (h : w.ownsRow 0 32 5 v (l.map Wl.v).length (cellsL (l.map Wl.v))) :
    Calls Try.prog 56 #[v, .func (.func 29) #[] #[]] w fun e w' => e = .returned (.tuple #[]) ∧ w'.ownsRow 0 32 5 v (l.map Wl.v).length (cellsL ((sortW l).map Wl.v)) ∧ w.grownBy w' v.ownBlock := by
  rw [cellsW, List.length_map] at h
  rw [List.length_map, cellsW]
  obtain ⟨h1, ⟨rfl, h2⟩ | ⟨g, cap, cur, rfl, h3, h4, h5, h6, h7, h8⟩⟩ := h
  · have hl : l = [] := List.eq_nil_of_length_eq_zero h2
    subst hl
    have hcon := AnyF.slices_SortFunc_none (P := Try.prog) (ρ := Try.lSortWall_ren) { Try.lSortWall with } none 0 (.func (.func 29) #[] #[]) w
    change Calls Try.prog 56 _ _ _ at hcon
    refine hcon.mono ?_
    rintro e w' ⟨rfl, rfl⟩
    exact ⟨rfl, ⟨by simp [flatW, sortW], .inl ⟨rfl, rfl⟩⟩, ⟨rfl, rfl, rfl, Nat.le_refl _, fun _ _ _ => rfl⟩⟩
  · have eg : ∀ args w, (callFunc 29 args).run Try.prog w = .ok (.enter 29 args) w := enters_of Try.func29 (by kernel_rfl) rfl
    have hk : ∀ x : Wl, (Wl.l x).length = 5 := fun _ => rfl
    have hg : g < w.heap.size := (Array.getElem?_eq_some_iff.1 h4).1
    have hH := SortK.holds_of (enc := Wl.l) hk (by decide) l h4 h7 h5 h8
    have hcon := AnyQ.slices_SortFunc Try.lSortWall 5 Try.isAgg32 Try.sizeOf32 Wl.l hk (fun x v hv => by simp [Wl.l] at hv; rcases hv with rfl | rfl | rfl | rfl | rfl <;> rfl) Wl.cmp wl_swo 29 #[] g 0 cap l.toArray w eg (cmp_lays _ _ _ _) hH hg (by simp; omega)
    change Calls Try.prog 56 _ _ _ at hcon
    rw [List.size_toArray] at hcon
    refine hcon.mono ?_
    rintro e w' ⟨rfl, d', n, os, hp, hs, rfl⟩
    obtain ⟨p1', p2, p3⟩ := hp
    have p1 : d'.size = l.length := p1'
    have hd : d'.toList = sortW l := by
      have e1 : d'.extract 0 l.length = d' := by rw [← p1]; simp
      have e2 : l.toArray.extract 0 l.length = l.toArray := by simp
      rw [e1, e2] at p3
      refine sorted_unique (p3.trans (sortW_perm l).symm) ?_ (sortW_sorted l)
      rw [List.pairwise_iff_getElem]
      intro i j hi hj hij
      have := hs i j (Nat.zero_le _) hij (by simpa [p1] using hj)
      have hi' : i < d'.size := by simpa using hi
      have hj' : j < d'.size := by simpa using hj
      rw [_root_.getElem!_pos d' i hi', _root_.getElem!_pos d' j hj'] at this
      simpa [Wl.lt, ltOf] using this
    refine ⟨rfl, ?_, SortK.grown_sorted _ _⟩
    have := SortK.row_sorted (enc := Wl.l) (n := n) hk (by decide) d' os p1 h3 h4 h5 h6 h7
    rw [hd] at this
    exact this
