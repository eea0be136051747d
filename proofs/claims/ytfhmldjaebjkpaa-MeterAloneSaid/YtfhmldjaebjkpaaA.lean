/- Contracts of the atomic counters. Conditions: the cell holds a number and may be written. -/
import Derived.Test.YtfhmldjaebjkpaaProg
import Derived.WalkKit
import Derived.Laws.LoneSync
import Derived.Lib.Hide
import Derived.Deep.DeepCutAuto
import Derived.Deep.RegionHeld3
import Derived.BigQuiet
import Derived.Deep.QuietTactic
namespace Go.Proofs.Ytfhmldjaebjkpaa
open Go.RowKit
theorem load_c (b o : Nat) (v : Int) (w : World) (h : w.cell? ⟨b, o, none⟩ = some (.int .i64 v)) : Calls Try.prog 16 #[.pointer (some ⟨b, o, none⟩)] w fun e w' => e = .returned (.int .i64 v) ∧ w = w' := by
  have hl := run_call_load (P := Try.prog) Try.func19 (by kernel_rfl) (by kernel_rfl) (by kernel_rfl) .i64 (by kernel_rfl) h
  go_enter Try.func16, Try.ntmps16
  go_wp2
  go_ret
  exact ⟨rfl, rfl⟩
theorem store_c (b o : Nat) (u : Value) (v : Int) (w : World) (h : w.cell? ⟨b, o, none⟩ = some u) (hf : w.frozen? ⟨b, o, none⟩ = false) : Calls Try.prog 14 #[.pointer (some ⟨b, o, none⟩), .int .i64 v] w fun e w' => e = .returned (.tuple #[]) ∧ w' = w.setCell ⟨b, o, none⟩ (.int .i64 v) := by
  have hl := run_call_store (P := Try.prog) Try.func17 (by kernel_rfl) (by kernel_rfl) (by kernel_rfl) (by kernel_rfl) (k := .i64) (y := v) h hf
  go_enter Try.func14, Try.ntmps14
  go_wp2
  go_end0
  exact ⟨rfl, rfl⟩
theorem add_c (b o : Nat) (x y : Int) (w : World) (h : w.cell? ⟨b, o, none⟩ = some (.int .i64 x)) (hf : w.frozen? ⟨b, o, none⟩ = false) (h1 : -9223372036854775808 ≤ x + y) (h2 : x + y ≤ 9223372036854775807) :
    Calls Try.prog 15 #[.pointer (some ⟨b, o, none⟩), .int .i64 y] w fun e w' => e = .returned (.int .i64 (x + y)) ∧ w' = w.setCell ⟨b, o, none⟩ (.int .i64 (x + y)) := by
  have hs : (Op.intArith .add .i64 x y).run Try.prog w = .ok (.int .i64 (x + y)) w := by
    have e : IntKind.i64.wrap (x + y) = x + y := by rw [IntKind.wrap_i64]; omega
    simp [Op.intArith, e]
  have hl := run_call_add (P := Try.prog) Try.func18 (by kernel_rfl) (by kernel_rfl) (by kernel_rfl) .i64 (by kernel_rfl) h hf hs
  clear h1 h2
  go_enter Try.func15, Try.ntmps15
  go_wp2
  go_ret
  exact ⟨rfl, rfl⟩
theorem within_c (a b c : Int) (w : World) : Calls Try.prog 13 #[.int .i64 a, .int .i64 b, .int .i64 c] w fun e w' => e = .returned (.bool (decide (b ≤ a) && decide (a ≤ c))) ∧ w = w' := by
  go_enter Try.func13, Try.ntmps13
  go_wp2
  all_goals (go_ret; simp [*]; try omega)
theorem rnd_eq (k n : Int) : (k.tmod n + n) % n = k % n := by
  rw [Int.add_emod_right, Int.tmod_def, Int.sub_mul_emod_self_left]
theorem tmod_rng (k n : Int) (h : 0 < n) : k.tmod n < n ∧ -n < k.tmod n := by
  have h1 := Int.tmod_lt_of_pos k h
  have h3 := Int.tmod_lt_of_pos (-k) h
  rw [Int.neg_tmod] at h3
  omega
theorem round_c (k n : Int) (w : World) (h : 0 < n) (h' : n ≤ 1099511627776) : Calls Try.prog 7 #[.int .i64 k, .int .i64 n] w fun e w' => e = .returned (.int .i64 (k % n)) ∧ w = w' := by
  obtain ⟨h1, h2⟩ := tmod_rng k n h
  have hn : (n == 0) = false := by simp; omega
  have hn1 : (n == -1) = false := by simp; omega
  go_enter Try.func7, Try.ntmps7
  go_wp2
  go_ret
  exact ⟨congrArg (fun z => Ending.returned (.int .i64 z)) (rnd_eq k n), rfl⟩
end Go.Proofs.Ytfhmldjaebjkpaa
