/- The tree's reading: those that are so, in order. Conditions: the tree's cells are as 'TreeAt' says. -/
import Derived.Test.YtahakebcjjaikaaD
import Derived.OwnWalk
import Derived.LoopN
namespace Go.Proofs.Ytahakebcjjaikaa
open Go.RowKit

structure Tr where
  m : List (Nm × Cap)
  issued : List (Pl × Int)
  tokens : List (Int × Int)

structure TreeAt (w : World) (T bm bi bt : Nat) (t : Tr) : Prop where
  c0 : w.cell? ⟨T, 0, none⟩ = some (.map (some bm))
  c1 : w.cell? ⟨T, 1, none⟩ = some (.map (some bi))
  c2 : w.cell? ⟨T, 2, none⟩ = some (.map (some bt))
  lt : T < w.heap.size
  hm : Mp.Is Nm.v Cap.v w bm t.m
  hi : Mp.Is Pl.v (Value.int .i64) w bi t.issued
  ht : Mp.Is (Value.int .i64) (Value.int .i64) w bt t.tokens
  keys : ∀ p ∈ t.m, p.1 = p.2.of
  few : t.m.length < 100000

theorem TreeAt.below {w w' : World} {T bm bi bt B : Nat} {t : Tr} (h : TreeAt w T bm bi bt t) (hb : Below B w w') (hB : w.heap.size ≤ B) : TreeAt w' T bm bi bt t :=
  ⟨(hb.cell (p := ⟨T, 0, none⟩) (Nat.lt_of_lt_of_le h.lt hB)).trans h.c0, (hb.cell (p := ⟨T, 1, none⟩) (Nat.lt_of_lt_of_le h.lt hB)).trans h.c1, (hb.cell (p := ⟨T, 2, none⟩) (Nat.lt_of_lt_of_le h.lt hB)).trans h.c2, Nat.lt_of_lt_of_le h.lt hb.size,
    h.hm.below hb (Nat.lt_of_lt_of_le h.hm.lt hB), h.hi.below hb (Nat.lt_of_lt_of_le h.hi.lt hB), h.ht.below hb (Nat.lt_of_lt_of_le h.ht.lt hB), h.keys, h.few⟩

/-- A predicate's function value. -/
def PB (g : Nat) (cb : Array Value) (p : Cap → Bool) (w : World) : Prop :=
  (∀ args w, (callFunc g args).run Try.prog w = .ok (.enter g args) w) ∧ ∀ W, Below w.heap.size w W → ∀ c : Cap, Calls Try.prog g (#[c.v] ++ cb) W fun e W' => e = .returned (.bool (p c)) ∧ Below W.heap.size W W'

theorem PB.below {g : Nat} {cb : Array Value} {p : Cap → Bool} {w w' : World} (h : PB g cb p w) (hb : Below w.heap.size w w') : PB g cb p w' := ⟨h.1, fun W hW c => h.2 W (hb.trans (hW.mono hb.size)) c⟩

def those (t : Tr) (p : Cap → Bool) : List Cap := sortC ((t.m.map (·.2)).filter p)

def flt (p : Cap → Bool) (l : List (Nm × Cap)) : List Cap := (l.map (·.2)).filter p

theorem cells_new (w : World) (c : List Value) (t : TypeId) : ∀ (j : Nat) (u : Value), c[j]? = some u → (w.alloc (.cells c.toArray t)).cell? ((⟨w.heap.size, 0, none⟩ : Addr).add j) = some u := by
  intro j u h
  have e := cell_new w c.toArray t w.heap.size j rfl
  have e2 : (⟨w.heap.size, 0, none⟩ : Addr).add j = ⟨w.heap.size, j, none⟩ := by
    cases j <;> simp [Addr.add]
  rw [e2, e]
  simpa using h

theorem info29 : (Try.prog.info? 29).map (fun i => (i.zero, i.size, i.bytes)) = some (some (.agg #[.int .i64 0, .int .i64 0, .int .i64 0, .int .i64 0, .int .i64 0, .int .i64 0, .int .i64 0, .int .i64 0, .int .i64 0]), 9, 72) := by kernel_rfl

theorem row_below {B : Nat} {e : TypeId} {k : Nat} {v : Value} {n : Nat} {xs : List Value} {w w' : World} (h : w.ownsRow B e k v n xs) (hb : Below w.heap.size w w') : w'.ownsRow B e k v n xs :=
  h.kept (row := none) ⟨hb.os, hb.tape, hb.output, hb.size, fun j hj _ => hb.block j hj⟩ (by cases hv : v.ownBlock <;> simp)
theorem row_other {w : World} {base : Nat} {e : TypeId} {size : Nat} {v : Value} {k : Nat} {xs : List Value} (h : w.ownsRow base e size v k xs) {j : Nat} {o : Obj} (hj : w.heap[j]? = some o) (hno : ∀ cur, o ≠ .cells cur e (0, 0)) : some j ≠ v.ownBlock := by
  rcases h.2 with ⟨rfl, _⟩ | ⟨g, cap, cur, rfl, _, hgb, _⟩
  · simp [Value.ownBlock]
  · simp only [Value.ownBlock, ne_eq, Option.some.injEq]
    rintro rfl
    rw [hj] at hgb
    exact hno cur (Option.some.inj hgb)
theorem rng_row {w : World} {b r : Nat} {l left : List (Nm × Cap)} {base : Nat} {e : TypeId} {size : Nat} {v : Value} {k : Nat} {xs : List Value} (h : Mp.Rng Nm.v Cap.v w b r l left) (ho : w.ownsRow base e size v k xs) : some b ≠ v.ownBlock ∧ some r ≠ v.ownBlock := by
  obtain ⟨es, c, s, n, c0, h1, _, _, _, _, h6, _⟩ := h
  exact ⟨row_other ho h1 (fun _ => by simp), row_other ho h6 (fun _ => by simp)⟩
theorem flt_snoc (p : Cap → Bool) (dn : List (Nm × Cap)) (x : Nm) (c : Cap) : flt p (dn ++ [(x, c)]) = flt p dn ++ (if p c then [c] else []) := by
  unfold flt
  rw [List.map_append, List.filter_append]
  cases h : p c <;> simp [h]
theorem flt_length (p : Cap → Bool) (dn : List (Nm × Cap)) : (flt p dn).length ≤ dn.length := by
  unfold flt
  exact Nat.le_trans (List.length_filter_le _ _) (by simp)
theorem flt_names (p : Cap → Bool) (dn : List (Nm × Cap)) (hk : ∀ q ∈ dn, q.1 = q.2.of) (hn : (dn.map (·.1)).Nodup) : ((flt p dn).map Cap.of).Nodup := by
  have e : dn.map (·.1) = (dn.map (·.2)).map Cap.of := by
    rw [List.map_map]
    exact List.map_congr_left hk
  rw [e] at hn
  exact hn.sublist (List.filter_sublist.map _)
theorem those_eq (t : Tr) (p : Cap → Bool) (dn : List (Nm × Cap)) (hp : dn.Perm t.m) (hk : ∀ q ∈ t.m, q.1 = q.2.of) (hn : (t.m.map (·.1)).Nodup) : sortC (flt p dn) = those t p := by
  have h0 : (flt p dn).Perm (flt p t.m) := (hp.map _).filter _
  have hnd := flt_names p t.m hk hn
  refine sorted_unique ((sortC_perm _).trans (h0.trans (sortC_perm _).symm)) ?_ (sortC_sorted _) (sortC_sorted _)
  exact (((sortC_perm _).trans h0).map Cap.of).nodup_iff.2 hnd

theorem those_c (T bm bi bt : Nat) (t : Tr) (w : World) (h : TreeAt w T bm bi bt t) (g : Nat) (cb : Array Value) (p : Cap → Bool) (hp : PB g cb p w) :
    Calls Try.prog 30 #[.pointer (some ⟨T, 0, none⟩), .func (.func g) #[] cb] w fun e w' => ∃ v, e = .returned v ∧ w'.ownsRow w.heap.size 29 9 v (those t p).length (flatC (those t p)) ∧ Below w.heap.size w w' := by
  have c0 := h.c0
  have H := Lib.hid (And.intro h hp)
  have eg := hp.1
  clear h hp
  obtain ⟨i0, hi, hz0, hz1, hz2⟩ := info_parts info29
  go_enter Try.func30, Try.ntmps30
  go_wp2_with (first | (at_range; refine Mp.wp_range _ rfl _ 76 rfl 29 Try.underlying76 bm t.m rfl H.out.1.hm ?_; intro w0 hr0 hg0 hs0) | fail)
  go_frame
  obtain ⟨r, hr⟩ : ∃ r, r = w.heap.size := ⟨_, rfl⟩
  rw [← hr]
  rw [← hr] at hr0
  have hB0 : Below w.heap.size w w0 := Below.grown (Below.refl _ w) hg0 (Nat.le_refl _) (by simp)
  have H2 := Lib.hid (And.intro hr (And.intro hr0 (And.intro hB0 hs0)))
  clear hr hr0 hg0 hs0 hB0 c0
  go_loopw [4] (fun v wr => ∃ dn left, Mp.Rng Nm.v Cap.v wr bm r t.m left ∧ (dn ++ left).Perm t.m ∧ wr.ownsRow w.heap.size 29 9 v (flt p dn).length (flatC (flt p dn)) ∧ Below w.heap.size w wr) (fun _ wr => wr.rangeLeft bm r)
  case atStart => exact ⟨[], t.m, H2.out.2.1, by simp, ⟨by simp [flatC, flt], .inl ⟨rfl, rfl⟩⟩, H2.out.2.2.1⟩
  case round =>
    obtain ⟨dn, left, hrg, hpm, hown, hB⟩ := hrel
    have HR := Lib.hid (And.intro hrg (And.intro hpm (And.intro hown hB)))
    clear hrg hpm hown hB
    go_wp2_with (first | (at_next; refine Mp.wp_next _ rfl _ rfl bm r t.m left rfl HR.out.1 ?_ ?_) | fail)
    · intro hl
      subst hl
      have hnd : ((flt p dn).map Cap.of).Nodup := by
        have hpm := HR.out.2.1
        rw [List.append_nil] at hpm
        exact flt_names p dn (fun q hq => H.out.1.keys q (hpm.mem_iff.1 hq)) ((hpm.map _).nodup_iff.2 H.out.1.hm.nodup)
      have hfew : (flt p dn).length < 1000000 := by
        have h1 := flt_length p dn
        have h2 := HR.out.2.1.length_eq
        have h3 := H.out.1.few
        simp at h2
        omega
      go_wp2_with (go_at_call 60; refine (sort_c w.heap.size u4 (flt p dn) _ HR.out.2.2.1 HR.out.2.2.2.size hnd hfew).mono ?_; rintro e w1 ⟨rfl, hown, hb⟩)
      go_ret
      refine ⟨_, rfl, ?_, HR.out.2.2.2.trans hb⟩
      have hpm := HR.out.2.1
      rw [List.append_nil] at hpm
      have e := those_eq t p dn hpm H.out.1.keys H.out.1.hm.nodup
      have e2 : (flt p dn).length = (those t p).length := by rw [← e]; exact (sortC_perm _).length_eq.symm
      rw [← e2, ← e]
      exact hown
    · intro x c y z w1 hl hrg hgr hs hen
      have HX := Lib.hid (And.intro hl (And.intro hrg (And.intro hgr hs)))
      clear hl hrg hgr hs
      unfold Cap.v at hen ⊢
      have HP : ((dn ++ [(x, c)]) ++ (y ++ z)).Perm t.m := by
        refine List.Perm.trans ?_ HR.out.2.1
        rw [HX.out.1, List.append_assoc]
        refine List.Perm.append_left dn ?_
        simpa using (List.perm_middle (a := (x, c)) (l₁ := y) (l₂ := z)).symm
      have hBw1 : Below w.heap.size w w1 := Below.grown HR.out.2.2.2 HX.out.2.2.1 HR.out.2.2.2.size (fun k hk => by cases hk; rw [H2.out.1]; omega)
      obtain ⟨W1, hW⟩ : ∃ W1, W1 = w1.alloc (.cells #[.int .i64 c.parcel, .int .i64 c.issuer, .int .i64 c.n, .int .i64 c.holder, .int .i64 c.label, .int .i64 c.rights, .int .i64 c.until_, .int .i64 c.fromI, .int .i64 c.fromN] 29) := ⟨_, rfl⟩
      obtain ⟨n1, hn1⟩ : ∃ n1, n1 = w1.heap.size := ⟨_, rfl⟩
      have hBW : Below w.heap.size w W1 := by rw [hW]; exact hBw1.alloc hBw1.size _
      have hcall := H.out.2.2 W1 hBW c
      unfold Cap.v at hcall
      have HW := Lib.hid (And.intro hW (And.intro hn1 (And.intro hBw1 hBW)))
      clear hBw1 hBW
      go_wp2_with fail
      rw [← hW, ← hn1]
      refine hcall.mono ?_
      rintro e w2 ⟨rfl, hb2⟩
      have e0 : w2.cell? ⟨n1, 0, none⟩ = some (.int .i64 c.parcel) := (hb2.cell (p := ⟨n1, 0, none⟩) (by rw [hW]; simp; omega)).trans (by rw [hW, cell_new _ _ _ _ _ hn1]; rfl)
      have e1 : w2.cell? ⟨n1, 1, none⟩ = some (.int .i64 c.issuer) := (hb2.cell (p := ⟨n1, 1, none⟩) (by rw [hW]; simp; omega)).trans (by rw [hW, cell_new _ _ _ _ _ hn1]; rfl)
      have e2 : w2.cell? ⟨n1, 2, none⟩ = some (.int .i64 c.n) := (hb2.cell (p := ⟨n1, 2, none⟩) (by rw [hW]; simp; omega)).trans (by rw [hW, cell_new _ _ _ _ _ hn1]; rfl)
      have e3 : w2.cell? ⟨n1, 3, none⟩ = some (.int .i64 c.holder) := (hb2.cell (p := ⟨n1, 3, none⟩) (by rw [hW]; simp; omega)).trans (by rw [hW, cell_new _ _ _ _ _ hn1]; rfl)
      have e4 : w2.cell? ⟨n1, 4, none⟩ = some (.int .i64 c.label) := (hb2.cell (p := ⟨n1, 4, none⟩) (by rw [hW]; simp; omega)).trans (by rw [hW, cell_new _ _ _ _ _ hn1]; rfl)
      have e5 : w2.cell? ⟨n1, 5, none⟩ = some (.int .i64 c.rights) := (hb2.cell (p := ⟨n1, 5, none⟩) (by rw [hW]; simp; omega)).trans (by rw [hW, cell_new _ _ _ _ _ hn1]; rfl)
      have e6 : w2.cell? ⟨n1, 6, none⟩ = some (.int .i64 c.until_) := (hb2.cell (p := ⟨n1, 6, none⟩) (by rw [hW]; simp; omega)).trans (by rw [hW, cell_new _ _ _ _ _ hn1]; rfl)
      have e7 : w2.cell? ⟨n1, 7, none⟩ = some (.int .i64 c.fromI) := (hb2.cell (p := ⟨n1, 7, none⟩) (by rw [hW]; simp; omega)).trans (by rw [hW, cell_new _ _ _ _ _ hn1]; rfl)
      have e8 : w2.cell? ⟨n1, 8, none⟩ = some (.int .i64 c.fromN) := (hb2.cell (p := ⟨n1, 8, none⟩) (by rw [hW]; simp; omega)).trans (by rw [hW, cell_new _ _ _ _ _ hn1]; rfl)
      clear hcall hW hn1 hen eg
      have HB2 := Lib.hid hb2
      have HW2 : Hid (w2.ownsRow w.heap.size 29 9 u4 (flt p dn).length (flatC (flt p dn)) ∧ Below w.heap.size w w2 ∧ Mp.Rng Nm.v Cap.v w2 bm r t.m (y ++ z)) := by
        have hr1 := rng_row HR.out.1 HR.out.2.2.1
        have o1 : w1.ownsRow w.heap.size 29 9 u4 (flt p dn).length (flatC (flt p dn)) := HR.out.2.2.1.kept HX.out.2.2.1 (.inr (Ne.symm hr1.2))
        have o2 : W1.ownsRow w.heap.size 29 9 u4 (flt p dn).length (flatC (flt p dn)) := by rw [HW.out.1]; exact o1.alloc _
        have r1 : Mp.Rng Nm.v Cap.v W1 bm r t.m (y ++ z) := by
          rw [HW.out.1]
          exact HX.out.2.1.at (Below.heap_alloc _ _ _ HX.out.2.1.lt.1) (Below.heap_alloc _ _ _ HX.out.2.1.lt.2)
        exact ⟨row_below o2 hb2, HW.out.2.2.2.trans (hb2.mono HW.out.2.2.2.size), r1.below hb2 (Nat.le_refl _)⟩
      clear hb2
      obtain ⟨q, hq⟩ : ∃ q, q = p c := ⟨_, rfl⟩
      rw [← hq]
      have HQ := Lib.hid hq
      clear hq
      cases q
      · clear e0 e1 e2 e3 e4 e5 e6 e7 e8
        simp only []
        go_wp2_with fail
        go_roundw
        case rel => exact ⟨dn ++ [(x, c)], y ++ z, HW2.out.2.2, HP, by rw [flt_snoc, ← HQ.out]; simpa using HW2.out.1, HW2.out.2.1⟩
        case measure => rw [HW2.out.2.2.left_eq, HR.out.1.left_eq, HX.out.1]; simp
      · simp only []
        have hfew : (flt p dn).length < 100000 := by
          have h1 := flt_length p dn
          have h2 := HR.out.2.1.length_eq
          have h3 := H.out.1.few
          simp at h2
          omega
        go_wp2_with (first
          | (at_builtin; refine wpList_append_own _ rfl _ _ 26 rfl w.heap.size 29 i0 (.agg #[.int .i64 0, .int .i64 0, .int .i64 0, .int .i64 0, .int .i64 0, .int .i64 0, .int .i64 0, .int .i64 0, .int .i64 0]) 9 72 Try.underlying26 hi hz0 hz1 hz2 rfl (by decide) u4 (flt p dn).length (flatC (flt p dn)) rfl (HW2.out.1.alloc _) ⟨w2.heap.size, 0, none⟩ 1 1 [.int .i64 c.parcel, .int .i64 c.issuer, .int .i64 c.n, .int .i64 c.holder, .int .i64 c.label, .int .i64 c.rights, .int .i64 c.until_, .int .i64 c.fromI, .int .i64 c.fromN] rfl rfl (cells_new _ _ _) (fun x hx => by simp at hx; rcases hx with rfl | rfl | rfl | rfl | rfl | rfl | rfl | rfl | rfl <;> rfl) (by unfold maxLen; omega) (by omega) (by simp; have := HW2.out.2.1.size; omega) ?_; intro v' w3 hown3 hgrow3 hnil3))
        have hrr := rng_row HW2.out.2.2 HW2.out.1
        have r3 : Mp.Rng Nm.v Cap.v w3 bm r t.m (y ++ z) := (HW2.out.2.2.at (Below.heap_alloc _ _ _ HW2.out.2.2.lt.1) (Below.heap_alloc _ _ _ HW2.out.2.2.lt.2)).kept hgrow3 hrr.1 hrr.2
        refine ⟨⟨dn ++ [(x, c)], y ++ z, r3, HP, ?_, ?_⟩, ?_⟩
        · rw [flt_snoc, ← HQ.out]
          simpa [flatC, Cap.l] using hown3
        · exact Below.grown (HW2.out.2.1.alloc HW2.out.2.1.size _) hgrow3 (by simp; have := HW2.out.2.1.size; omega) (fun j hj => (HW2.out.1.lt _ hj).1)
        · rw [r3.left_eq, HR.out.1.left_eq, HX.out.1]; simp

end Go.Proofs.Ytahakebcjjaikaa
