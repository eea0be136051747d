/- All, Get. Conditions: the tree's cells are as 'TreeAt' says. -/
import Derived.Test.YtahakebcjjaikaaE
namespace Go.Proofs.Ytahakebcjjaikaa
open Go.RowKit

theorem pb_all (w : World) : PB 31 #[] (fun _ => true) w := by
  refine ⟨enters_of Try.func31 (by kernel_rfl) rfl, fun W _ c => ?_⟩
  show Calls Try.prog 31 #[c.v] W _
  unfold Cap.v
  go_enter Try.func31, Try.ntmps31
  go_wp2
  go_ret
  exact ⟨rfl, by go_grown⟩

theorem all_c (T bm bi bt : Nat) (t : Tr) (w : World) (h : TreeAt w T bm bi bt t) :
    Calls Try.prog 12 #[.pointer (some ⟨T, 0, none⟩)] w fun e w' => ∃ v, e = .returned v ∧ w'.ownsRow w.heap.size 29 9 v (those t fun _ => true).length (flatC (those t fun _ => true)) ∧ Below w.heap.size w w' := by
  have hc := those_c T bm bi bt t w h 31 #[] _ (pb_all w)
  have HC := Lib.hid hc
  clear hc h
  go_enter Try.func12, Try.ntmps12
  go_wp2_with (go_at_call 30; refine HC.out.mono ?_; rintro e w1 ⟨v, rfl, h1, h2⟩)
  go_ret
  exact ⟨_, rfl, h1, h2⟩

theorem zeroCap (w : World) : (zeroValue 29).run Try.prog w = .ok (default : Cap).v w := by kernel_rfl

theorem get_c (T bm bi bt : Nat) (t : Tr) (w : World) (h : TreeAt w T bm bi bt t) (a b c : Int) :
    Calls Try.prog 14 #[.pointer (some ⟨T, 0, none⟩), .int .i64 a, .int .i64 b, .int .i64 c] w fun e w' => e = .returned (.tuple #[((Mp.get t.m ⟨a, b, c⟩).getD default).v, .bool (Mp.get t.m ⟨a, b, c⟩).isSome]) ∧ Below w.heap.size w w' := by
  have c0 := h.c0
  have hT := h.lt
  have hTn : ¬ T = w.heap.size := by omega
  have hTn2 : ¬ w.heap.size = T := by omega
  have H := Lib.hid h
  clear h
  go_enter Try.func14, Try.ntmps14
  obtain ⟨x, hx⟩ : ∃ x : Nm, x = ⟨a, b, c⟩ := ⟨_, rfl⟩
  obtain ⟨r, hr⟩ : ∃ r, r = Mp.get t.m x := ⟨_, rfl⟩
  rw [← hx, ← hr]
  have HX := Lib.hid (And.intro hx hr)
  clear hx hr
  go_wp2_with (first | (at_lookup; refine Mp.wp_look _ rfl _ _ 76 true rfl 29 keyName Try.underlying76 default (zeroCap _) bm t.m rfl (H.out.hm.alloc _) ⟨a, b, c⟩ rfl ?_; rw [← HX.out.1, ← HX.out.2]; simp only [if_true, Cap.v]) | fail)
  go_returns
  unfold Cap.v
  exact ⟨rfl, by go_grown⟩

end Go.Proofs.Ytahakebcjjaikaa
