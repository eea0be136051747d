/- The closures that Under hands on. Conditions: the captured cells hold what is said. -/
import Derived.Test.YtahakebcjjaikaaF
namespace Go.Proofs.Ytahakebcjjaikaa
open Go.RowKit

def NmAt (w : World) (b : Nat) (x : Nm) : Prop := b < w.heap.size ∧ w.cell? ⟨b, 0, none⟩ = some (.int .i64 x.parcel) ∧ w.cell? ⟨b, 1, none⟩ = some (.int .i64 x.issuer) ∧ w.cell? ⟨b, 2, none⟩ = some (.int .i64 x.n)
theorem NmAt.below {w w' : World} {b : Nat} {x : Nm} {B : Nat} (h : NmAt w b x) (hb : Below B w w') (hB : w.heap.size ≤ B) : NmAt w' b x :=
  have hl : b < B := Nat.lt_of_lt_of_le h.1 hB
  ⟨Nat.lt_of_lt_of_le h.1 hb.size, (hb.cell (p := ⟨b, 0, none⟩) hl).trans h.2.1, (hb.cell (p := ⟨b, 1, none⟩) hl).trans h.2.2.1, (hb.cell (p := ⟨b, 2, none⟩) hl).trans h.2.2.2⟩

theorem eqNm (x y : Nm) (w : World) : (binOp .eql 82 x.v y.v).run Try.prog w = .ok (.bool (decide (x = y))) w := by
  obtain ⟨a, b, c⟩ := x
  obtain ⟨a', b', c'⟩ := y
  unfold Nm.v
  simp [go_sem]
  by_cases h1 : a = a' <;> by_cases h2 : b = b' <;> by_cases h3 : c = c' <;> simp [h1, h2, h3]

theorem under11_c (b : Nat) (x : Nm) (w : World) (h : NmAt w b x) (c : Cap) : Calls Try.prog 35 #[c.v, .pointer (some ⟨b, 0, none⟩)] w fun e w' => e = .returned (.bool (decide (c.of = x))) ∧ Below w.heap.size w w' := by
  obtain ⟨hb, x0, x1, x2⟩ := h
  have hbn : ¬ b = w.heap.size := by omega
  have hof := fun W => of_c c W
  unfold Cap.v at hof ⊢
  simp only [Cap.of, Nm.v] at hof
  have HO := Lib.hid hof
  clear hof
  have heq := fun W => eqNm c.of x W
  obtain ⟨q, hq⟩ : ∃ q, q = decide (c.of = x) := ⟨_, rfl⟩
  rw [← hq] at heq ⊢
  simp only [Cap.of, Nm.v] at heq
  have HQ := Lib.hid hq
  clear hq
  go_enter Try.func35, Try.ntmps35
  go_wp2_with fail
  obtain ⟨W, hW⟩ : ∃ W, W = w.alloc (.cells #[.int .i64 c.parcel, .int .i64 c.issuer, .int .i64 c.n, .int .i64 c.holder, .int .i64 c.label, .int .i64 c.rights, .int .i64 c.until_, .int .i64 c.fromI, .int .i64 c.fromN] 29) := ⟨_, rfl⟩
  obtain ⟨g, hg⟩ : ∃ g, g = w.heap.size := ⟨_, rfl⟩
  have hBW : Below w.heap.size w W := by rw [hW]; go_grown
  have e0 : W.cell? ⟨g, 0, none⟩ = some (.int .i64 c.parcel) := by rw [hW, cell_new _ _ _ _ _ hg]; rfl
  have e1 : W.cell? ⟨g, 1, none⟩ = some (.int .i64 c.issuer) := by rw [hW, cell_new _ _ _ _ _ hg]; rfl
  have e2 : W.cell? ⟨g, 2, none⟩ = some (.int .i64 c.n) := by rw [hW, cell_new _ _ _ _ _ hg]; rfl
  have e3 : W.cell? ⟨g, 3, none⟩ = some (.int .i64 c.holder) := by rw [hW, cell_new _ _ _ _ _ hg]; rfl
  have e4 : W.cell? ⟨g, 4, none⟩ = some (.int .i64 c.label) := by rw [hW, cell_new _ _ _ _ _ hg]; rfl
  have e5 : W.cell? ⟨g, 5, none⟩ = some (.int .i64 c.rights) := by rw [hW, cell_new _ _ _ _ _ hg]; rfl
  have e6 : W.cell? ⟨g, 6, none⟩ = some (.int .i64 c.until_) := by rw [hW, cell_new _ _ _ _ _ hg]; rfl
  have e7 : W.cell? ⟨g, 7, none⟩ = some (.int .i64 c.fromI) := by rw [hW, cell_new _ _ _ _ _ hg]; rfl
  have e8 : W.cell? ⟨g, 8, none⟩ = some (.int .i64 c.fromN) := by rw [hW, cell_new _ _ _ _ _ hg]; rfl
  have x0' : W.cell? ⟨b, 0, none⟩ = some (.int .i64 x.parcel) := (hBW.cell (p := ⟨b, 0, none⟩) hb).trans x0
  have x1' : W.cell? ⟨b, 1, none⟩ = some (.int .i64 x.issuer) := (hBW.cell (p := ⟨b, 1, none⟩) hb).trans x1
  have x2' : W.cell? ⟨b, 2, none⟩ = some (.int .i64 x.n) := (hBW.cell (p := ⟨b, 2, none⟩) hb).trans x2
  have hgW : g < W.heap.size := by rw [hW, hg]; simp
  have hbW : b < W.heap.size := Nat.lt_of_lt_of_le hb hBW.size
  rw [← hW, ← hg]
  have KP := Lib.hid (fun w' (hw : Below W.heap.size W w') => (show (fun w' => w'.cell? ⟨g, 0, none⟩ = some (.int .i64 c.parcel) ∧ w'.cell? ⟨g, 1, none⟩ = some (.int .i64 c.issuer) ∧ w'.cell? ⟨g, 2, none⟩ = some (.int .i64 c.n) ∧ w'.cell? ⟨g, 3, none⟩ = some (.int .i64 c.holder) ∧ w'.cell? ⟨g, 4, none⟩ = some (.int .i64 c.label) ∧ w'.cell? ⟨g, 5, none⟩ = some (.int .i64 c.rights) ∧ w'.cell? ⟨g, 6, none⟩ = some (.int .i64 c.until_) ∧ w'.cell? ⟨g, 7, none⟩ = some (.int .i64 c.fromI) ∧ w'.cell? ⟨g, 8, none⟩ = some (.int .i64 c.fromN) ∧ w'.cell? ⟨b, 0, none⟩ = some (.int .i64 x.parcel) ∧ w'.cell? ⟨b, 1, none⟩ = some (.int .i64 x.issuer) ∧ w'.cell? ⟨b, 2, none⟩ = some (.int .i64 x.n) ∧ Below W.heap.size W w') w' from ⟨(hw.cell (p := ⟨g, 0, none⟩) hgW).trans e0, (hw.cell (p := ⟨g, 1, none⟩) hgW).trans e1, (hw.cell (p := ⟨g, 2, none⟩) hgW).trans e2, (hw.cell (p := ⟨g, 3, none⟩) hgW).trans e3, (hw.cell (p := ⟨g, 4, none⟩) hgW).trans e4, (hw.cell (p := ⟨g, 5, none⟩) hgW).trans e5, (hw.cell (p := ⟨g, 6, none⟩) hgW).trans e6, (hw.cell (p := ⟨g, 7, none⟩) hgW).trans e7, (hw.cell (p := ⟨g, 8, none⟩) hgW).trans e8, (hw.cell (p := ⟨b, 0, none⟩) hbW).trans x0', (hw.cell (p := ⟨b, 1, none⟩) hbW).trans x1', (hw.cell (p := ⟨b, 2, none⟩) hbW).trans x2', hw⟩))
  have HW := Lib.hid (And.intro hW (And.intro hg hBW))
  clear hW hg hBW x0 x1 x2 hb hbn hgW hbW
  go_region_held3 (fun w' => w'.cell? ⟨g, 0, none⟩ = some (.int .i64 c.parcel) ∧ w'.cell? ⟨g, 1, none⟩ = some (.int .i64 c.issuer) ∧ w'.cell? ⟨g, 2, none⟩ = some (.int .i64 c.n) ∧ w'.cell? ⟨g, 3, none⟩ = some (.int .i64 c.holder) ∧ w'.cell? ⟨g, 4, none⟩ = some (.int .i64 c.label) ∧ w'.cell? ⟨g, 5, none⟩ = some (.int .i64 c.rights) ∧ w'.cell? ⟨g, 6, none⟩ = some (.int .i64 c.until_) ∧ w'.cell? ⟨g, 7, none⟩ = some (.int .i64 c.fromI) ∧ w'.cell? ⟨g, 8, none⟩ = some (.int .i64 c.fromN) ∧ w'.cell? ⟨b, 0, none⟩ = some (.int .i64 x.parcel) ∧ w'.cell? ⟨b, 1, none⟩ = some (.int .i64 x.issuer) ∧ w'.cell? ⟨b, 2, none⟩ = some (.int .i64 x.n) ∧ Below W.heap.size W w') (first | exact KP.out _ (Below.refl _ W).drew | exact KP.out _ (by assumption) | go_keep)
    (first | (go_at_call 36; refine (HO.out _).mono ?_; rintro e w' ⟨rfl, hb'⟩; have hb'' : Below W.heap.size W w' := by (go_split_ands; refine Below.trans ?_ (hb'.mono ?_); assumption; exact Below.size (w := W) (B := W.heap.size) (by assumption))))
  clear KP e0 e1 e2 e3 e4 e5 e6 e7 e8 x0' x1' x2' heq
  rename_i w2 _ hH
  have hb := HW.out.2.2.trans (hH.2.2.2.2.2.2.2.2.2.2.2.2.mono HW.out.2.2.size)
  clear hH
  go_wp2_with fail
  go_ret
  exact ⟨rfl, hb⟩

end Go.Proofs.Ytahakebcjjaikaa
