/- Parents' chains. Conditions: each lemma's own. -/
import Derived.Test.YtahakebcjjaikaaG
namespace Go.Proofs.Ytahakebcjjaikaa
open Go.RowKit

/-- A capability and its parents, so many steps. -/
def chain (m : List (Nm × Cap)) : Nat → Cap → List Cap
  | 0, c => [c]
  | n + 1, c => c :: (match Mp.get m c.from_ with | none => [] | some p => chain m n p)

/-- The chain ends within so many steps. -/
def ends (m : List (Nm × Cap)) : Nat → Cap → Prop
  | 0, c => Mp.get m c.from_ = none
  | n + 1, c => ∀ p, Mp.get m c.from_ = some p → ends m n p

theorem chain_more (m : List (Nm × Cap)) : ∀ n c, ends m n c → chain m (n + 1) c = chain m n c
  | 0, c, h => by
    have h : Mp.get m c.from_ = none := h
    simp [chain, h]
  | n + 1, c, h => by
    rw [chain, chain]
    cases e : Mp.get m c.from_ with
    | none => rfl
    | some p => simp only [chain_more m n p (h p e)]

theorem ends_more (m : List (Nm × Cap)) : ∀ n c, ends m n c → ends m (n + 1) c
  | 0, c, h => fun p e => by
    have h : Mp.get m c.from_ = none := h
    rw [h] at e; cases e
  | n + 1, c, h => fun p e => ends_more m n p (h p e)

theorem chain_step (m : List (Nm × Cap)) (N : Nat) (c : Cap) (h : ends m N c) : chain m N c = c :: (match Mp.get m c.from_ with | none => [] | some p => chain m N p) := by
  rw [← chain_more m N c h, chain]

theorem ends_step (m : List (Nm × Cap)) (N : Nat) (c p : Cap) (h : ends m N c) (e : Mp.get m c.from_ = some p) : ends m N p := by
  cases N with
  | zero =>
    have h : Mp.get m c.from_ = none := h
    rw [h] at e; cases e
  | succ n => exact ends_more m n p (h p e)

theorem chain_len (m : List (Nm × Cap)) (N : Nat) (c p : Cap) (h : ends m N c) (e : Mp.get m c.from_ = some p) : (chain m N p).length < (chain m N c).length := by
  rw [chain_step m N c h, e]; simp

end Go.Proofs.Ytahakebcjjaikaa
