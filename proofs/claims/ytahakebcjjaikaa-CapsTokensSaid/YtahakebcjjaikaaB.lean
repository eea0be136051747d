/- Narrower, Cmp and the keys' laws. Conditions: each lemma's own. -/
import Derived.Test.YtahakebcjjaikaaA
import Derived.Laws.StructEq
namespace Go.Proofs.Ytahakebcjjaikaa
open Go.RowKit

theorem narrower_c (c p : Cap) (w : World) : Calls Try.prog 46 #[c.v, p.v] w fun e w' => e = .returned (.bool (c.narrower p)) ∧ Below w.heap.size w w' := by
  unfold Cap.v
  go_enter Try.func46, Try.ntmps46
  go_wp2_with (go_at_call 65; refine (rwithin_c _ _ _).mono ?_; rintro e w' ⟨rfl, rfl⟩)
  all_goals (go_ret; refine ⟨by simp [Cap.narrower, *] <;> first | rfl | (intros; omega), ?_⟩; go_grown)

theorem bits_int (n : Nat) (q : IntKind) (a : Int) : Instr.sameBits n (.int q a) (.int q a) = true := by cases n <;> simp [Instr.sameBits]
theorem check_int (w : World) (em : Bool) (n : Nat) (a : Int) : (Instr.checkKey em (n + 1) 3 (.int .i64 a)).run Try.prog w = .ok () w := by simp [Instr.checkKey, go_sem]

theorem keyName : Mp.Key Try.prog 82 Nm.v := by
  refine Mp.Key.asking ?_ ?_ ?_ ?_ ?_
  · rw [Try.underlying82]; trivial
  · rintro w ⟨a, b, c⟩ ⟨a', b', c'⟩
    unfold Nm.v
    simp [Op.equal, Op.maxDepth, go_sem]
    by_cases h1 : a = a' <;> by_cases h2 : b = b' <;> by_cases h3 : c = c' <;> simp [h1, h2, h3]
  · intro x; exact ⟨_, rfl⟩
  · intro w em x
    have : ∀ n, (Instr.checkKey em (n + 2) 82 x.v).run Try.prog w = .ok () w := fun n => by
      unfold Nm.v
      simp [Instr.checkKey, go_sem]
    exact this 9998
  · intro x
    have : ∀ n, Instr.sameBits (n + 1) x.v x.v = true := fun n => by simp [Nm.v, Instr.sameBits, bits_int]
    exact this 9999

theorem keyPlace : Mp.Key Try.prog 91 Pl.v := by
  refine Mp.Key.asking ?_ ?_ ?_ ?_ ?_
  · rw [Try.underlying91]; trivial
  · rintro w ⟨a, b⟩ ⟨a', b'⟩
    unfold Pl.v
    simp [Op.equal, Op.maxDepth, go_sem]
    by_cases h1 : a = a' <;> by_cases h2 : b = b' <;> simp [h1, h2]
  · intro x; exact ⟨_, rfl⟩
  · intro w em x
    have : ∀ n, (Instr.checkKey em (n + 2) 91 x.v).run Try.prog w = .ok () w := fun n => by
      unfold Pl.v
      simp [Instr.checkKey, go_sem]
    exact this 9998
  · intro x
    have : ∀ n, Instr.sameBits (n + 1) x.v x.v = true := fun n => by simp [Pl.v, Instr.sameBits, bits_int]
    exact this 9999

theorem keyInt : Mp.Key Try.prog 3 (fun x : Int => Value.int .i64 x) := Mp.Key.int Try.underlying3

end Go.Proofs.Ytahakebcjjaikaa
