/- Capabilities sorted. Conditions: no two of one name. -/
import Derived.Test.YtahakebcjjaikaaC
import Derived.Test.YtahakebcjjaikaaSortK
import Derived.Test.YtahakebcjjaikaaShelf
namespace Go.Proofs.Ytahakebcjjaikaa
open Go.RowKit Go.Shelf Go.Sort

instance : Inhabited Cap := ⟨⟨0, 0, 0, 0, 0, 0, 0, 0, 0⟩⟩

def Cap.lt (a b : Cap) : Bool := decide (a.cmp b < 0)
theorem cap_lt (a b : Cap) : a.lt b = true ↔ a.parcel < b.parcel ∨ a.parcel = b.parcel ∧ (a.issuer < b.issuer ∨ a.issuer = b.issuer ∧ a.n < b.n) := by
  unfold Cap.lt Cap.cmp sgn orI orI orI orI
  simp only [decide_eq_true_eq]
  split <;> split <;> (try split) <;> (try split) <;> omega
theorem cap_swo : SWO (ltOf Cap.cmp) where
  irrefl x := by have := cap_lt x x; unfold Cap.lt at this; unfold ltOf; rw [Bool.eq_false_iff, ne_eq, this]; omega
  trans x y z h1 h2 := by
    have a := (cap_lt x y).1 h1; have b := (cap_lt y z).1 h2; refine (cap_lt x z).2 ?_; omega
  ntrans x y z h1 h2 := by
    have a : ¬ (x.lt y = true) := Bool.eq_false_iff.1 h1
    have b : ¬ (y.lt z = true) := Bool.eq_false_iff.1 h2
    refine Bool.eq_false_iff.2 fun h => ?_
    have c := (cap_lt x z).1 h
    rw [cap_lt] at a b
    omega

/-- In order. -/
def sortC (l : List Cap) : List Cap := l.mergeSort fun a b => !b.lt a

theorem sortC_perm (l : List Cap) : (sortC l).Perm l := List.mergeSort_perm _ _

theorem cap_total (a b : Cap) (h1 : a.lt b = false) (h2 : b.lt a = false) : a.of = b.of := by
  have h1 : ¬ (a.lt b = true) := Bool.eq_false_iff.1 h1
  have h2 : ¬ (b.lt a = true) := Bool.eq_false_iff.1 h2
  rw [cap_lt] at h1 h2
  unfold Cap.of
  rw [Nm.mk.injEq]
  omega

theorem sortC_sorted (l : List Cap) : (sortC l).Pairwise fun a b => b.lt a = false := by
  have := List.pairwise_mergeSort (le := fun a b : Cap => !b.lt a) (fun a b c h1 h2 => by
    simp only [Bool.not_eq_true'] at h1 h2 ⊢
    exact cap_swo.ntrans _ _ _ h2 h1) (fun a b => by
    simp only [Bool.or_eq_true, Bool.not_eq_true']
    cases h : b.lt a
    · exact .inl rfl
    · refine .inr ?_
      have h2 : ¬ (a.lt b = true) := by rw [cap_lt] at h ⊢; omega
      exact Bool.eq_false_iff.2 h2) l
  exact this.imp (fun h => by simpa using h)

theorem inj_of_nodup {α β : Type} {f : α → β} : ∀ {l : List α}, (l.map f).Nodup → ∀ a ∈ l, ∀ b ∈ l, f a = f b → a = b
  | [], _, _, h, _, _, _ => by simp at h
  | x :: l, hn, a, ha, b, hb, e => by
    simp only [List.map_cons, List.nodup_cons] at hn
    rcases List.mem_cons.1 ha with ea | ha'
    · rcases List.mem_cons.1 hb with eb | hb'
      · exact ea.trans eb.symm
      · exact absurd (List.mem_map.2 ⟨b, hb', by rw [← e, ea]⟩ : f x ∈ l.map f) hn.1
    · rcases List.mem_cons.1 hb with eb | hb'
      · exact absurd (List.mem_map.2 ⟨a, ha', by rw [e, eb]⟩ : f x ∈ l.map f) hn.1
      · exact inj_of_nodup hn.2 a ha' b hb' e

/-- One list alone is in order. -/
theorem sorted_unique {l l' : List Cap} (hp : l.Perm l') (hn : (l.map Cap.of).Nodup) (h : l.Pairwise fun a b => b.lt a = false) (h' : l'.Pairwise fun a b => b.lt a = false) : l = l' := by
  refine List.Perm.eq_of_pairwise (le := fun a b => b.lt a = false) ?_ h h' hp
  intro a b ha hb h1 h2
  have e := cap_total _ _ h2 h1
  have hb' : b ∈ l := hp.mem_iff.2 hb
  exact inj_of_nodup hn a ha b hb' e

theorem cmp_lays (blk off size : Nat) (w : World) : CmpLays Try.prog 29 #[] Cap.l 9 Cap.cmp blk off size w :=
  fun _ _ _ _ x y => (cmp_c x y _).mono fun _ _ h => ⟨h.1, h.2.1⟩

def flatC (l : List Cap) : List Value := l.flatMap Cap.l

theorem sort_c (base : Nat) (v : Value) (l : List Cap) (w : World) (h : w.ownsRow base 29 9 v l.length (flatC l)) (hB : base ≤ w.heap.size) (hn : (l.map Cap.of).Nodup) (hlen : l.length < 1000000) :
    Calls Try.prog 60 #[v, .func (.func 29) #[] #[]] w fun e w' => e = .returned (.tuple #[]) ∧ w'.ownsRow base 29 9 v l.length (flatC (sortC l)) ∧ Below base w w' := by
  obtain ⟨h1, ⟨rfl, h2⟩ | ⟨g, cap, cur, rfl, h3, h4, h5, h6, h7, h8⟩⟩ := h
  · have hl : l = [] := List.eq_nil_of_length_eq_zero h2
    subst hl
    have hcon := AnyF.slices_SortFunc_none (P := Try.prog) (ρ := Try.lSortCap_ren) { Try.lSortCap with } none 0 (.func (.func 29) #[] #[]) w
    change Calls Try.prog 60 _ _ _ at hcon
    refine hcon.mono ?_
    rintro e w' ⟨rfl, rfl⟩
    exact ⟨rfl, ⟨by simp [flatC, sortC], .inl ⟨rfl, rfl⟩⟩, Below.refl _ _⟩
  · have eg : ∀ args w, (callFunc 29 args).run Try.prog w = .ok (.enter 29 args) w := enters_of Try.func29 (by kernel_rfl) rfl
    have hk : ∀ x : Cap, (Cap.l x).length = 9 := fun _ => rfl
    have hg : g < w.heap.size := (Array.getElem?_eq_some_iff.1 h4).1
    have hH := SortK.holds_of (enc := Cap.l) hk (by decide) l h4 h7 h5 h8
    have hcon := AnyQ.slices_SortFunc Try.lSortCap 9 Try.isAgg29 Try.sizeOf29 Cap.l hk (fun x v hv => by simp [Cap.l] at hv; rcases hv with rfl | rfl | rfl | rfl | rfl | rfl | rfl | rfl | rfl <;> rfl) Cap.cmp cap_swo 29 #[] g 0 cap l.toArray w eg (cmp_lays _ _ _ _) hH hg (by simp; omega)
    change Calls Try.prog 60 _ _ _ at hcon
    rw [List.size_toArray] at hcon
    refine hcon.mono ?_
    rintro e w' ⟨rfl, d', n, os, hp, hs, rfl⟩
    obtain ⟨p1', p2, p3⟩ := hp
    have p1 : d'.size = l.length := p1'
    have hd : d'.toList = sortC l := by
      have e1 : d'.extract 0 l.length = d' := by rw [← p1]; simp
      have e2 : l.toArray.extract 0 l.length = l.toArray := by simp
      rw [e1, e2] at p3
      refine sorted_unique (p3.trans (sortC_perm l).symm) ?_ ?_ (sortC_sorted l)
      · exact (p3.map Cap.of).nodup_iff.2 hn
      · rw [List.pairwise_iff_getElem]
        intro i j hi hj hij
        have := hs i j (Nat.zero_le _) hij (by simpa [p1] using hj)
        have hi' : i < d'.size := by simpa using hi
        have hj' : j < d'.size := by simpa using hj
        rw [_root_.getElem!_pos d' i hi', _root_.getElem!_pos d' j hj'] at this
        simpa [Cap.lt, ltOf] using this
    refine ⟨rfl, ?_, SortK.below_sorted _ _ h3 hB⟩
    have := SortK.row_sorted (enc := Cap.l) (n := n) hk (by decide) d' os p1 h3 h4 h5 h6 h7
    rw [hd] at this
    exact this

end Go.Proofs.Ytahakebcjjaikaa
