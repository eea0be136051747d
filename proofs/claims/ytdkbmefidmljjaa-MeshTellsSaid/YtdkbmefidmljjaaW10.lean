/- Triangles, and points, in order. Conditions: none. -/
import Derived.Test.YtdkbmefidmljjaaW9
import Derived.Test.YtdkbmefidmljjaaK2
import Derived.Test.YtdkbmefidmljjaaSortK
import Derived.Test.YtdkbmefidmljjaaShelf
namespace Go.Proofs.Ytdkbmefidmljjaa
open Go.RowKit V Geo Go.Shelf Go.Sort
set_option linter.unusedVariables false

instance : Inhabited Pt := ⟨⟨0, 0⟩⟩
instance : Inhabited Tr := ⟨⟨⟨0, 0⟩, ⟨0, 0⟩, ⟨0, 0⟩⟩⟩
theorem cp_eqx {p q : Pt} (h : cp p q = 0) : p.x = q.x ∧ p.y = q.y := by
  have := cp_zero.1 h
  exact ⟨congrArg Pt.x this, congrArg Pt.y this⟩
theorem or_cmp (a b c : Int) : orI [a, b, c] = if a = 0 then (if b = 0 then (if c = 0 then 0 else c) else b) else a := by
  simp only [orI]
def Tr.lt (a b : Tr) : Bool := decide (a.cmp b < 0)
theorem tr_lt (a b : Tr) : a.lt b = true ↔ a.a.x < b.a.x ∨ a.a.x = b.a.x ∧ (a.a.y < b.a.y ∨ a.a.y = b.a.y ∧ (a.b.x < b.b.x ∨ a.b.x = b.b.x ∧ (a.b.y < b.b.y ∨ a.b.y = b.b.y ∧ (a.c.x < b.c.x ∨ a.c.x = b.c.x ∧ a.c.y < b.c.y)))) := by
  unfold Tr.lt Tr.cmp
  rw [decide_eq_true_eq, or_cmp]
  rcases cp_three a.a b.a with e | e | e
  · have h := cp_neg.1 (show cp a.a b.a < 0 by omega)
    rw [e, if_neg (by omega)]; omega
  · have h := cp_eqx e
    rw [e, if_pos rfl]
    rcases cp_three a.b b.b with f | f | f
    · have k := cp_neg.1 (show cp a.b b.b < 0 by omega)
      rw [f, if_neg (by omega)]; omega
    · have k := cp_eqx f
      rw [f, if_pos rfl]
      rcases cp_three a.c b.c with g | g | g
      · have m := cp_neg.1 (show cp a.c b.c < 0 by omega)
        rw [g, if_neg (by omega)]; omega
      · have m := cp_eqx g
        rw [g, if_pos rfl]; omega
      · have m := cp_pos.1 (show 0 < cp a.c b.c by omega)
        rw [g, if_neg (by omega)]; omega
    · have k := cp_pos.1 (show 0 < cp a.b b.b by omega)
      rw [f, if_neg (by omega)]; omega
  · have h := cp_pos.1 (show 0 < cp a.a b.a by omega)
    rw [e, if_neg (by omega)]; omega
def Geo.Pt.lt (a b : Pt) : Bool := decide (cp a b < 0)
theorem pt_lt (a b : Pt) : a.lt b = true ↔ a.x < b.x ∨ a.x = b.x ∧ a.y < b.y := by
  unfold Pt.lt
  rw [decide_eq_true_eq, cp_neg]
def Geo.Pt.l (p : Pt) : List Value := [.int .i64 p.x, .int .i64 p.y]
theorem tr_swo : SWO (ltOf Tr.cmp) where
  irrefl x := by have := tr_lt x x; unfold Tr.lt at this; unfold ltOf; rw [Bool.eq_false_iff, ne_eq, this]; omega
  trans x y z h1 h2 := by
    have a := (tr_lt x y).1 h1; have b := (tr_lt y z).1 h2; refine (tr_lt x z).2 ?_; omega
  ntrans x y z h1 h2 := by
    have a : ¬ (x.lt y = true) := Bool.eq_false_iff.1 h1
    have b : ¬ (y.lt z = true) := Bool.eq_false_iff.1 h2
    refine Bool.eq_false_iff.2 fun h => ?_
    have c := (tr_lt x z).1 h
    rw [tr_lt] at a b
    omega

/-- In order. -/
def sortT (l : List Tr) : List Tr := l.mergeSort fun a b => !b.lt a
theorem sortT_perm (l : List Tr) : (sortT l).Perm l := List.mergeSort_perm _ _
theorem tr_total (a b : Tr) (h1 : a.lt b = false) (h2 : b.lt a = false) : a = b := by
  have h1 : ¬ (a.lt b = true) := Bool.eq_false_iff.1 h1
  have h2 : ¬ (b.lt a = true) := Bool.eq_false_iff.1 h2
  rw [tr_lt] at h1 h2
  obtain ⟨⟨a1, a2⟩, ⟨a3, a4⟩, ⟨a5, a6⟩⟩ := a
  obtain ⟨⟨b1, b2⟩, ⟨b3, b4⟩, ⟨b5, b6⟩⟩ := b
  (try dsimp only at h1 h2)
  simp only [Tr.mk.injEq, Pt.mk.injEq]
  omega
theorem sortT_sorted (l : List Tr) : (sortT l).Pairwise fun a b => b.lt a = false := by
  have := List.pairwise_mergeSort (le := fun a b : Tr => !b.lt a) (fun a b c h1 h2 => by
    simp only [Bool.not_eq_true'] at h1 h2 ⊢
    exact tr_swo.ntrans _ _ _ h2 h1) (fun a b => by
    simp only [Bool.or_eq_true, Bool.not_eq_true']
    cases h : b.lt a
    · exact .inl rfl
    · refine .inr ?_
      have h2 : ¬ (a.lt b = true) := by rw [tr_lt] at h ⊢; omega
      exact Bool.eq_false_iff.2 h2) l
  exact this.imp (fun h => by simpa using h)
/-- One list alone is in order. -/
theorem sorted_uniqueT {l l' : List Tr} (hp : l.Perm l') (h : l.Pairwise fun a b => b.lt a = false) (h' : l'.Pairwise fun a b => b.lt a = false) : l = l' :=
  List.Perm.eq_of_pairwise (le := fun a b => b.lt a = false) (fun a b _ _ h1 h2 => tr_total _ _ h2 h1) h h' hp
theorem sortT_eq {l l' : List Tr} (hp : l.Perm l') : sortT l = sortT l' :=
  sorted_uniqueT ((sortT_perm l).trans (hp.trans (sortT_perm l').symm)) (sortT_sorted l) (sortT_sorted l')

theorem cmp_laysT (blk off size : Nat) (w : World) : CmpLays Try.prog 29 #[] Tr.l 6 Tr.cmp blk off size w :=
  fun _ _ _ _ x y => (cmpT_c x y _).mono fun _ _ h => ⟨h.1, h.2⟩
def flatT (l : List Tr) : List Value := l.flatMap Tr.l
theorem cellsT (l : List Tr) : cellsL (l.map Tr.v) = flatT l := by
  unfold cellsL flatT
  rw [List.flatMap_map]
  rfl

theorem sort_gT (l : List Tr) (hlen : l.length < 1000000) (w : World) (v : Value) (h : w.ownsRow 0 26 6 v (l.map Tr.v).length (cellsL (l.map Tr.v))) :
    Calls Try.prog 44 #[v, .func (.func 29) #[] #[]] w fun e w' => e = .returned (.tuple #[]) ∧ w'.ownsRow 0 26 6 v (l.map Tr.v).length (cellsL ((sortT l).map Tr.v)) ∧ w.grownBy w' v.ownBlock := by
  rw [cellsT, List.length_map] at h
  rw [List.length_map, cellsT]
  obtain ⟨h1, ⟨rfl, h2⟩ | ⟨g, cap, cur, rfl, h3, h4, h5, h6, h7, h8⟩⟩ := h
  · have hl : l = [] := List.eq_nil_of_length_eq_zero h2
    subst hl
    have hcon := AnyF.slices_SortFunc_none (P := Try.prog) (ρ := Try.lSortTri_ren) { Try.lSortTri with } none 0 (.func (.func 29) #[] #[]) w
    change Calls Try.prog 44 _ _ _ at hcon
    refine hcon.mono ?_
    rintro e w' ⟨rfl, rfl⟩
    exact ⟨rfl, ⟨by simp [flatT, sortT], .inl ⟨rfl, rfl⟩⟩, ⟨rfl, rfl, rfl, Nat.le_refl _, fun _ _ _ => rfl⟩⟩
  · have eg : ∀ args w, (callFunc 29 args).run Try.prog w = .ok (.enter 29 args) w := enters_of Try.func29 (by kernel_rfl) rfl
    have hk : ∀ x : Tr, (Tr.l x).length = 6 := fun _ => rfl
    have hg : g < w.heap.size := (Array.getElem?_eq_some_iff.1 h4).1
    have hH := SortK.holds_of (enc := Tr.l) hk (by decide) l h4 h7 h5 h8
    have hcon := AnyQ.slices_SortFunc Try.lSortTri 6 Try.isAgg26 Try.sizeOf26 Tr.l hk (fun x v hv => by simp [Tr.l] at hv; rcases hv with rfl | rfl | rfl | rfl | rfl | rfl <;> rfl) Tr.cmp tr_swo 29 #[] g 0 cap l.toArray w eg (cmp_laysT _ _ _ _) hH hg (by simp; omega)
    change Calls Try.prog 44 _ _ _ at hcon
    rw [List.size_toArray] at hcon
    refine hcon.mono ?_
    rintro e w' ⟨rfl, d', n, os, hp, hs, rfl⟩
    obtain ⟨p1', p2, p3⟩ := hp
    have p1 : d'.size = l.length := p1'
    have hd : d'.toList = sortT l := by
      have e1 : d'.extract 0 l.length = d' := by rw [← p1]; simp
      have e2 : l.toArray.extract 0 l.length = l.toArray := by simp
      rw [e1, e2] at p3
      refine sorted_uniqueT (p3.trans (sortT_perm l).symm) ?_ (sortT_sorted l)
      rw [List.pairwise_iff_getElem]
      intro i j hi hj hij
      have := hs i j (Nat.zero_le _) hij (by simpa [p1] using hj)
      have hi' : i < d'.size := by simpa using hi
      have hj' : j < d'.size := by simpa using hj
      rw [_root_.getElem!_pos d' i hi', _root_.getElem!_pos d' j hj'] at this
      simpa [Tr.lt, ltOf] using this
    refine ⟨rfl, ?_, SortK.grown_sorted _ _⟩
    have := SortK.row_sorted (enc := Tr.l) (n := n) hk (by decide) d' os p1 h3 h4 h5 h6 h7
    rw [hd] at this
    exact this

theorem pt_swo : SWO (ltOf cp) where
  irrefl x := by have := pt_lt x x; unfold Pt.lt at this; unfold ltOf; rw [Bool.eq_false_iff, ne_eq, this]; omega
  trans x y z h1 h2 := by
    have a := (pt_lt x y).1 h1; have b := (pt_lt y z).1 h2; refine (pt_lt x z).2 ?_; omega
  ntrans x y z h1 h2 := by
    have a : ¬ (x.lt y = true) := Bool.eq_false_iff.1 h1
    have b : ¬ (y.lt z = true) := Bool.eq_false_iff.1 h2
    refine Bool.eq_false_iff.2 fun h => ?_
    have c := (pt_lt x z).1 h
    rw [pt_lt] at a b
    omega

/-- In order. -/
def sortP (l : List Pt) : List Pt := l.mergeSort fun a b => !b.lt a
theorem sortP_perm (l : List Pt) : (sortP l).Perm l := List.mergeSort_perm _ _
theorem pt_total (a b : Pt) (h1 : a.lt b = false) (h2 : b.lt a = false) : a = b := by
  have h1 : ¬ (a.lt b = true) := Bool.eq_false_iff.1 h1
  have h2 : ¬ (b.lt a = true) := Bool.eq_false_iff.1 h2
  rw [pt_lt] at h1 h2
  obtain ⟨a1, a2⟩ := a
  obtain ⟨b1, b2⟩ := b
  (try dsimp only at h1 h2)
  simp only [Pt.mk.injEq]
  omega
theorem sortP_sorted (l : List Pt) : (sortP l).Pairwise fun a b => b.lt a = false := by
  have := List.pairwise_mergeSort (le := fun a b : Pt => !b.lt a) (fun a b c h1 h2 => by
    simp only [Bool.not_eq_true'] at h1 h2 ⊢
    exact pt_swo.ntrans _ _ _ h2 h1) (fun a b => by
    simp only [Bool.or_eq_true, Bool.not_eq_true']
    cases h : b.lt a
    · exact .inl rfl
    · refine .inr ?_
      have h2 : ¬ (a.lt b = true) := by rw [pt_lt] at h ⊢; omega
      exact Bool.eq_false_iff.2 h2) l
  exact this.imp (fun h => by simpa using h)
/-- One list alone is in order. -/
theorem sorted_uniqueP {l l' : List Pt} (hp : l.Perm l') (h : l.Pairwise fun a b => b.lt a = false) (h' : l'.Pairwise fun a b => b.lt a = false) : l = l' :=
  List.Perm.eq_of_pairwise (le := fun a b => b.lt a = false) (fun a b _ _ h1 h2 => pt_total _ _ h2 h1) h h' hp
theorem sortP_eq {l l' : List Pt} (hp : l.Perm l') : sortP l = sortP l' :=
  sorted_uniqueP ((sortP_perm l).trans (hp.trans (sortP_perm l').symm)) (sortP_sorted l) (sortP_sorted l')

theorem cmp_laysP (blk off size : Nat) (w : World) : CmpLays Try.prog 35 #[] Pt.l 2 cp blk off size w :=
  fun _ _ _ _ x y => (cp_c x y _).mono fun _ _ h => ⟨h.1, h.2.1⟩
def flatP (l : List Pt) : List Value := l.flatMap Pt.l
theorem cellsP (l : List Pt) : cellsL (l.map ptV) = flatP l := by
  unfold cellsL flatP
  rw [List.flatMap_map]
  rfl

theorem sort_gP (l : List Pt) (hlen : l.length < 1000000) (w : World) (v : Value) (h : w.ownsRow 0 24 2 v (l.map ptV).length (cellsL (l.map ptV))) :
    Calls Try.prog 50 #[v, .func (.func 35) #[] #[]] w fun e w' => e = .returned (.tuple #[]) ∧ w'.ownsRow 0 24 2 v (l.map ptV).length (cellsL ((sortP l).map ptV)) ∧ w.grownBy w' v.ownBlock := by
  rw [cellsP, List.length_map] at h
  rw [List.length_map, cellsP]
  obtain ⟨h1, ⟨rfl, h2⟩ | ⟨g, cap, cur, rfl, h3, h4, h5, h6, h7, h8⟩⟩ := h
  · have hl : l = [] := List.eq_nil_of_length_eq_zero h2
    subst hl
    have hcon := AnyF.slices_SortFunc_none (P := Try.prog) (ρ := Try.lSortPt_ren) { Try.lSortPt with } none 0 (.func (.func 35) #[] #[]) w
    change Calls Try.prog 50 _ _ _ at hcon
    refine hcon.mono ?_
    rintro e w' ⟨rfl, rfl⟩
    exact ⟨rfl, ⟨by simp [flatP, sortP], .inl ⟨rfl, rfl⟩⟩, ⟨rfl, rfl, rfl, Nat.le_refl _, fun _ _ _ => rfl⟩⟩
  · have eg : ∀ args w, (callFunc 35 args).run Try.prog w = .ok (.enter 35 args) w := enters_of Try.func35 (by kernel_rfl) rfl
    have hk : ∀ x : Pt, (Pt.l x).length = 2 := fun _ => rfl
    have hg : g < w.heap.size := (Array.getElem?_eq_some_iff.1 h4).1
    have hH := SortK.holds_of (enc := Pt.l) hk (by decide) l h4 h7 h5 h8
    have hcon := AnyQ.slices_SortFunc Try.lSortPt 2 Try.isAgg24 Try.sizeOf24 Pt.l hk (fun x v hv => by simp [Pt.l] at hv; rcases hv with rfl | rfl <;> rfl) cp pt_swo 35 #[] g 0 cap l.toArray w eg (cmp_laysP _ _ _ _) hH hg (by simp; omega)
    change Calls Try.prog 50 _ _ _ at hcon
    rw [List.size_toArray] at hcon
    refine hcon.mono ?_
    rintro e w' ⟨rfl, d', n, os, hp, hs, rfl⟩
    obtain ⟨p1', p2, p3⟩ := hp
    have p1 : d'.size = l.length := p1'
    have hd : d'.toList = sortP l := by
      have e1 : d'.extract 0 l.length = d' := by rw [← p1]; simp
      have e2 : l.toArray.extract 0 l.length = l.toArray := by simp
      rw [e1, e2] at p3
      refine sorted_uniqueP (p3.trans (sortP_perm l).symm) ?_ (sortP_sorted l)
      rw [List.pairwise_iff_getElem]
      intro i j hi hj hij
      have := hs i j (Nat.zero_le _) hij (by simpa [p1] using hj)
      have hi' : i < d'.size := by simpa using hi
      have hj' : j < d'.size := by simpa using hj
      rw [_root_.getElem!_pos d' i hi', _root_.getElem!_pos d' j hj'] at this
      simpa [Pt.lt, ltOf] using this
    refine ⟨rfl, ?_, SortK.grown_sorted _ _⟩
    have := SortK.row_sorted (enc := Pt.l) (n := n) hk (by decide) d' os p1 h3 h4 h5 h6 h7
    rw [hd] at this
    exact this
