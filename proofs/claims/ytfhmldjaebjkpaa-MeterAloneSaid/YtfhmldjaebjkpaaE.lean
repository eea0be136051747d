/- The meter's Counts. Conditions: the meter's cells are as 'MAt' says, below the heap's end. -/
import Derived.Test.YtfhmldjaebjkpaaD
import Derived.Lib.OthersKept
namespace Go.Proofs.Ytfhmldjaebjkpaa
open Go.RowKit
theorem cell_drew (w : World) (a : Addr) : w.drew.cell? a = w.cell? a := rfl
theorem Try.info40 : (Try.prog.info? 40).map (fun i => (i.zero, i.size, i.bytes)) = some (some (.agg #[.int .i64 0, .int .i64 0, .int .i64 0]), 3, 24) := by kernel_rfl
def cOne (m : Mt) (i : Nat) : List (Nat × Int × Int) := if 0 < rq m i + bt m i then [(i, rq m i, bt m i)] else []
def cl (m : Mt) : Nat → List (Nat × Int × Int)
  | 0 => []
  | k + 1 => cl m k ++ cOne m k
def flatC : List (Nat × Int × Int) → List Value
  | [] => []
  | x :: r => .int .i64 x.1 :: .int .i64 x.2.1 :: .int .i64 x.2.2 :: flatC r
theorem flatC_app (a b : List (Nat × Int × Int)) : flatC (a ++ b) = flatC a ++ flatC b := by
  induction a with
  | nil => rfl
  | cons x a ih => simp [flatC, ih]
theorem cl_len (m : Mt) (k : Nat) : (cl m k).length ≤ k := by
  induction k with
  | zero => simp [cl]
  | succ k ih => simp only [cl, List.length_append, cOne]; split <;> simp <;> omega
theorem MAt.below {w w' : World} {g L B : Nat} {m : Mt} (h : MAt w g L m) (hb : Below B w w') (hg : g < B) (hL : L < B) : MAt w' g L m := by
  obtain ⟨h0, h1, h2, h3, h4, h5, h6, h7, h8, h9⟩ := h
  have c : ∀ o, w'.cell? ⟨g, o, none⟩ = w.cell? ⟨g, o, none⟩ := fun o => hb.cell (p := ⟨g, o, none⟩) hg
  have d : ∀ o, w'.cell? ⟨L, o, none⟩ = w.cell? ⟨L, o, none⟩ := fun o => hb.cell (p := ⟨L, o, none⟩) hL
  exact ⟨by rw [c]; exact h0, by rw [c]; exact h1, by rw [c]; exact h2, by rw [c]; exact h3, by rw [c]; exact h4, by rw [hb.frozen (p := ⟨g, 3, none⟩) hg]; exact h5,
    fun j hj => ⟨by rw [d]; exact (h6 j hj).1, by rw [hb.frozen (p := ⟨L, j, none⟩) hL]; exact (h6 j hj).2⟩, h7, h8, h9⟩
theorem cell_three_new (w : World) (a b c : Value) (t : TypeId) : ∀ j u, [a, b, c][j]? = some u → (w.alloc (.cells #[a, b, c] t)).cell? ((⟨w.heap.size, 0, none⟩ : Addr).add j) = some u := by
  intro j u hj
  match j, hj with
  | 0, hj => simp at hj; subst hj; simp [Addr.add]
  | 1, hj => simp at hj; subst hj; simp [Addr.add]
  | 2, hj => simp at hj; subst hj; simp [Addr.add]
  | j + 3, hj => simp at hj

set_option maxRecDepth 100000 in
set_option maxHeartbeats 2000000 in
theorem counts_c (g L : Nat) (m : Mt) (w : World) (h : MAt w g L m) (hg : g < w.heap.size) (hL : L < w.heap.size) (hr : ∀ t, t < m.n → 0 ≤ rq m t ∧ rq m t ≤ 65535 ∧ 0 ≤ bt m t ∧ bt m t ≤ 65535) :
    Calls Try.prog 12 #[.pointer (some ⟨g, 0, none⟩)] w fun e w' => ∃ v, e = .returned v ∧ w'.ownsRow w.heap.size 40 3 v (cl m m.n).length (flatC (cl m m.n)) ∧ Below w.heap.size w w' := by
  obtain ⟨i0, hi, hz0, hz1, hz2⟩ := info_parts Try.info40
  have h4 := h.2.2.2.2.1
  have H := Lib.hid h
  clear h
  go_enter Try.func12, Try.ntmps12
  go_wp2_with fail
  go_loopw [2, 3, 12] (fun v _ i wr => ∃ k : Nat, k ≤ m.n ∧ i = .int .i64 k ∧ wr.ownsRow w.heap.size 40 3 v (cl m k).length (flatC (cl m k)) ∧ Below w.heap.size w wr) (fun _ _ i _ => m.n - (intOf i).toNat)
  case atStart => exact ⟨0, by omega, rfl, World.ownsRow_nil _ _ _ _, Below.refl _ _⟩
  case round =>
    obtain ⟨k, hk, rfl, hown, hB⟩ := hrel
    rename_i u2 u3
    have hM := H.out.below hB hg hL
    have g4 := hM.2.2.2.2.1
    by_cases hlt : k < m.n
    · obtain ⟨p1, _⟩ := hM.2.2.2.2.2.2.1 (k * 2) (by omega)
      obtain ⟨p2, _⟩ := hM.2.2.2.2.2.2.1 (k * 2 + 1) (by omega)
      change wr.cell? _ = some (.int .i64 (rq m k)) at p1
      change wr.cell? _ = some (.int .i64 (bt m k)) at p2
      obtain ⟨r1, r2, r3, r4⟩ := hr k hlt
      have i1 : (0 : Int) ≤ (k : Int) := by omega
      have i2 : (k : Int) < (m.n : Int) := by omega
      have hsz := hB.size
      have n1 := World.new_ne wr _ g4
      have n2 := World.new_ne wr _ p1
      have n3 := World.new_ne wr _ p2
      clear hM h4
      go_upto_region 6 with fail
      go_cut [4] (fun s wx => s = .pointer (some ⟨wr.heap.size, 0, none⟩) ∧ wx.cell? ⟨wr.heap.size, 0, none⟩ = some (.int .i64 k) ∧ wx.cell? ⟨wr.heap.size, 1, none⟩ = some (.int .i64 (rq m k)) ∧ wx.cell? ⟨wr.heap.size, 2, none⟩ = some (.int .i64 (bt m k)) ∧ wx.ownsRow w.heap.size 40 3 u2 (cl m k).length (flatC (cl m k)) ∧ Below w.heap.size w wx)
      case first =>
        go_region_held3 (fun w' => w'.cell? ⟨g, 4, none⟩ = some (.slice (some ⟨L, 0, none⟩) m.n m.n) ∧ w'.cell? ⟨L, k * 2, none⟩ = some (.int .i64 (rq m k)) ∧ w'.cell? ⟨L, k * 2 + 1, none⟩ = some (.int .i64 (bt m k))) (first | exact ⟨g4, p1, p2⟩ | go_keep)
          (first | (go_at_call 16; first
              | ((with_reducible refine (load_c L (k * 2) (rq m k) _ ?_).mono ?_); (go_split_ands; assumption); rintro e w' ⟨rfl, rfl⟩)
              | ((with_reducible refine (load_c L (k * 2 + 1) (bt m k) _ ?_).mono ?_); (go_split_ands; assumption); rintro e w' ⟨rfl, rfl⟩)))
        all_goals (go_wp2_with fail; go_meet; exact ⟨rfl, by rw [cell_drew, cell_new _ _ _ _ _ rfl]; rfl, by rw [cell_drew, cell_new _ _ _ _ _ rfl]; rfl, by rw [cell_drew, cell_new _ _ _ _ _ rfl]; rfl, hown.alloc _, (hB.alloc hsz _).drew⟩)
      case rest =>
        obtain ⟨rfl, k0, k1, k2, hown2, hB2⟩ := hcut
        have hcl := cl_len m k
        have hsz2 := hB2.size
        have hw : IntKind.i64.wrap (rq m k + bt m k) = rq m k + bt m k := by rw [IntKind.wrap_i64]; omega
        clear n1 n2 n3 g4 p1 p2
        have hn16 : m.n ≤ 16 := H.out.2.2.2.2.2.2.2.2.2
        by_cases hp : 0 < rq m k + bt m k
        · have hp' : decide (0 < rq m k + bt m k) = true := by simp [hp]
          have e1 : cl m (k + 1) = cl m k ++ [(k, rq m k, bt m k)] := by rw [cl, cOne, if_pos hp]
          have E1 := Lib.hid e1
          have HP := Lib.hid hp
          clear e1 hp
          go_wp2_with (first
            | (at_builtin; refine wpList_append_own _ rfl _ _ 37 rfl w.heap.size 40 i0 (.agg #[.int .i64 0, .int .i64 0, .int .i64 0]) 3 24 Try.underlying37 hi hz0 hz1 hz2 rfl (by decide) _ _ _ rfl (hown2.alloc _) ⟨wc.heap.size, 0, none⟩ 1 1 [.int .i64 k, .int .i64 (rq m k), .int .i64 (bt m k)] rfl rfl (cell_three_new _ _ _ _ _) (fun x hx => by simp at hx; rcases hx with rfl | rfl | rfl <;> rfl) (by unfold maxLen; omega) (by omega) (by simp; omega) ?_; intro v' w3 hown3 hgrow3 hnil3
               have hB3 : Below w.heap.size w w3 := Below.grown (hB2.alloc hsz2 _) hgrow3 (by simp; omega) (fun j hj => (hown2.lt _ hj).1)
               have X : Aside (w3.ownsRow w.heap.size 40 3 v' ((cl m k).length + 1) (flatC (cl m k) ++ [.int .i64 k, .int .i64 (rq m k), .int .i64 (bt m k)]) ∧ Below w.heap.size w w3) := ⟨hown3, hB3⟩
               clear hown3 hgrow3 hnil3 hB3))
          go_roundw
          case rel => exact ⟨k + 1, by omega, by go_num, by rw [E1.out, List.length_append, flatC_app]; exact X.out.1, X.out.2⟩
          case measure => simp [intOf]; omega
        · have hp' : decide (0 < rq m k + bt m k) = false := by simp [hp]
          have e1 : cl m (k + 1) = cl m k := by rw [cl, cOne, if_neg hp, List.append_nil]
          have E1 := Lib.hid e1
          have HP := Lib.hid hp
          clear e1 hp
          go_wp2_with fail
          go_roundw
          case rel => exact ⟨k + 1, by omega, by go_num, by rw [E1.out]; exact hown2, hB2⟩
          case measure => simp [intOf]; omega
    · obtain rfl : k = m.n := by omega
      go_wp2_with fail
      go_ret
      exact ⟨_, rfl, hown, hB⟩
end Go.Proofs.Ytfhmldjaebjkpaa
