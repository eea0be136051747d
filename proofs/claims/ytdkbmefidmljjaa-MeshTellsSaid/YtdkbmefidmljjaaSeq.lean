/- A map's keys of more than one cell, as maps.Keys' iterator gives them. Conditions: each lemma's own. -/
import Derived.Test.YtdkbmefidmljjaaMaps
import Derived.RangeFuncOwn
import Derived.OwnWalkIn
import Derived.TacticsInMore
import Derived.RegionIn
import Derived.LoopNIn
import Derived.LoopIn
import Derived.WalkKit
namespace Go.Proofs.Ytdkbmefidmljjaa.Mp
open Go.RowKit
set_option linter.unusedVariables false

section
variable {F : Fence} {n : Nat} {P : Program} {k : TypeId} {κ : Type} {mk : κ → Value} {ν : Type} {mv : ν → Value} (w : World) {ops : Array Oper} {rest : List Oper} {o : Oper} {a : Act} {Q : Exit → Act → World → Prop}

theorem wpIn_range (hg : o.guard = none) (m : Operand) (t : TypeId) (hop : o.op = Op.range t m) (e : TypeId) (ht : P.underlying t = some (.map k e)) (b : Nat) (l : List (κ × ν))
    (hm : a.eval m = .map (some b)) (h : Is mk mv w b l)
    (hK : ∀ w', Rng mk mv w' b w.heap.size l l → w.grownBy w' none → w'.heap.size = w.heap.size + 1 → wpListIn F n P ops Q rest (a.put o.dst (.pointer (some ⟨w.heap.size, 0, none⟩))) w') :
    wpListIn F n P ops Q (o :: rest) a w := by
  refine wpListIn_plain hg fun K' hK' => ?_
  obtain ⟨w', hrun, r1, r2, r3⟩ := h.range ht
  unfold Oper.wpIn
  refine ⟨by simp [Oper.about, hop], ?_⟩
  rw [Oper.semAt_plain F _ _ (by rw [hop]; intro c hc'; cases hc')]
  simp [execOp, hop, hm, hrun, Result.andThen]
  exact hK' _ _ (hK w' r1 r2 r3)

theorem wpIn_next (hg : o.guard = none) (it : Operand) (hop : o.op = Op.next it false) (b r : Nat) (l left : List (κ × ν)) (hit : a.eval it = .pointer (some ⟨r, 0, none⟩)) (h : Rng mk mv w b r l left)
    (hDone : left = [] → wpListIn F n P ops Q rest (a.put o.dst (.tuple #[.bool false])) w)
    (hMore : ∀ (x : κ) (v : ν) (y z : List (κ × ν)) (w' : World), left = y ++ (x, v) :: z → Rng mk mv w' b r l (y ++ z) → w.grownBy w' (some r) → w'.heap.size = w.heap.size →
      (Instr.entry (.pointer (some ⟨r, 0, none⟩))).run P w' = .ok (.tuple #[mk x, mv v]) w' → wpListIn F n P ops Q rest (a.put o.dst (.tuple #[.bool true, mk x, mv v])) w') :
    wpListIn F n P ops Q (o :: rest) a w := by
  refine wpListIn_plain hg fun K' hK' => ?_
  unfold Oper.wpIn
  refine ⟨by simp [Oper.about, hop], ?_⟩
  rw [Oper.semAt_plain F _ _ (by rw [hop]; intro c hc'; cases hc')]
  rcases h.next (P := P) o.type with ⟨h0, hrun⟩ | ⟨x, v, y, z, w', h0, hrun, r1, r2, r3, r4⟩
  · simp [execOp, hop, hit, hrun, Result.andThen]
    exact hK' _ _ (hDone h0)
  · simp [execOp, hop, hit, hrun, Result.andThen]
    exact hK' _ _ (hMore x v y z w' h0 r1 r2 r3 (r4 P w' rfl rfl))
end

section
variable {κ : Type} {mk : κ → Value} {ν : Type} {mv : ν → Value}
theorem Rng.of_walks {w w' : World} {b r : Nat} {l left : List (κ × ν)} (h : Rng mk mv w b r l left) (hk : KeepsWalks w w') : Rng mk mv w' b r l left := by
  have h0 := h
  obtain ⟨es, c, s, n, c0, h1, _, _, _, _, h6, _⟩ := h
  exact h0.at ((hk.same b _ h1 rfl).trans h1.symm) ((hk.same r _ h6 rfl).trans h6.symm)
theorem Rng.walk {w : World} {b r : Nat} {l left : List (κ × ν)} (h : Rng mk mv w b r l left) : ∃ o : Obj, w.heap[r]? = some o ∧ o.isWalk = true := by
  obtain ⟨es, c, s, n, c0, h1, _, _, _, _, h6, _⟩ := h
  exact ⟨_, h6, rfl⟩
end
/-- What speaks of cells alone, and of what lay below block B. -/
def OwnB {β : Type} (B : Nat) (I : β → World → Prop) : Prop :=
  ∀ s W W' row, I s W → W.grownBy W' row → (∀ r, row = some r → B ≤ r ∧ ∃ o : Obj, W.heap[r]? = some o ∧ o.isCells = false) → I s W'
theorem OwnB.putObj {β : Type} {B : Nat} {I : β → World → Prop} (h : OwnB B I) {s : β} {W : World} {l : Nat} {o : Obj} (o' : Obj) (hs : I s W) (hb : B ≤ l) (hl : W.heap[l]? = some o) (ho : o.isCells = false) : I s (W.putObj l o') :=
  h s W _ (some l) hs (grownBy_putObj' W l o') fun r e => by cases e; exact ⟨hb, o, hl, ho⟩
theorem OwnB.alloc {β : Type} {B : Nat} {I : β → World → Prop} (h : OwnB B I) {s : β} {W : World} (o : Obj) (hs : I s W) : I s (W.alloc o) :=
  h s W _ none hs (World.grownBy_alloc W o none) fun r e => by cases e

/-- A range over an iterator value: every round comes to its end; the assignment to the loop's variable may lay new blocks. -/
theorem wpIn_rangeAll {α : Type} {F : Fence} {n : Nat} {P : Program} {g : Operand} {ps : Array Tmp} {assign body : Code} {Q : Exit → Act → World → Prop} {a : Act} {w : World}
    (hro : F.round = none) (h1 : 1 ≤ n) {gf : Nat} {lb : Array Value} (hg : a.eval g = .func (.func gf) #[] lb) (hFg : F.fn gf) (eg : ∀ args w, (callFunc gf args).run P w = .ok (.enter gf args) w)
    {enc : α → Value} {S : List α → Prop} {N : Nat} {w0 : World} (hseq : SeqGives F (n - 1) P gf lb enc S N w0) (hb0 : Below w0.heap.size w0 w) (hps : ps.size = 1)
    {B : Nat} (hB : B ≤ w.heap.size) (I : List α → World → Prop) (hI : OwnB B I) (A : α → Act → World → Prop) (hA : ∀ x a1, OwnB B fun (_ : Unit) W => A x a1 W) (h0 : I [] w)
    (hassign : ∀ (l : Nat) (pre : List α) (x : α) (W : World), I pre W → assign.wpIn (F.inRound l) (n - 1 - 1) P (Exit.then (fun a1 W1 => KeepsOthers W W1 ∧ I pre W1 ∧ A x a1 W1) (fun _ _ _ => False)) { tmps := (ps.zip #[enc x]).foldl (fun t (p, v) => t.setIfInBounds p v) a.tmps, defers := [] } W)
    (hbody : ∀ (l : Nat) (pre : List α) (x : α) (a1 : Act) (W : World), I pre W → A x a1 W → pre.length < N → body.wpIn (F.inRound l) (n - 1 - 1) P (fun e _ W1 => e = .normal ∧ KeepsOthers W W1 ∧ I (pre ++ [x]) W1) a1 W)
    (hdone : ∀ (xs : List α) (W : World), S xs → I xs W → W.heap[w.heap.size]? = some (.deferred (some [])) → Q .normal { a with defers := { target := .collected w.heap.size, args := #[] } :: a.defers } W) :
    (Code.rangeFunc g ps assign body).wpIn F n P Q a w := by
  refine wpIn_rangeFunc fun fn hfn => ?_
  rw [hro]
  -- the loop's record, and the block for what its rounds defer
  let rec0 : LoopState → Loop := fun st => { state := st, pending := none, fn, tmps := a.tmps, params := ps, assign, body, defers := w.heap.size }
  obtain ⟨W1, hW1⟩ : ∃ W1, (w.alloc (.deferred (some []))).alloc (.loop (rec0 .ready)) = W1 := ⟨_, rfl⟩
  have hloop : W1.heap[w.heap.size + 1]? = some (.loop (rec0 .ready)) := by
    have := World.alloc_heap_new (w.alloc (.deferred (some []))) (.loop (rec0 .ready))
    rw [World.size_alloc, hW1] at this
    exact this
  have hdef : W1.heap[w.heap.size]? = some (.deferred (some [])) := by
    rw [← hW1, Below.heap_alloc _ _ _ (by simp)]
    exact World.alloc_heap_new w _
  have hI1 : I [] W1 := hW1 ▸ hI.alloc _ (hI.alloc _ h0)
  have hb1 : Below w0.heap.size w0 W1 := by
    have hw : Below w.heap.size w W1 := hW1 ▸ ((Below.refl _ w).alloc (Nat.le_refl _) _).alloc (by simp) _
    exact hb0.trans (hw.mono hb0.size)
  let J : List α → World → Prop := fun pre W => I pre W ∧ W.heap[w.heap.size + 1]? = some (.loop (rec0 .ready)) ∧ W.heap[w.heap.size]? = some (.deferred (some []))
  have hJ : AbidesFrom W1.heap.size J := by
    intro s A' B row hs hgr hr
    have hw : ∀ r, row = some r → ∃ o : Obj, A'.heap[r]? = some o ∧ o.isWalk = true := fun r e => (hr r e).2
    refine ⟨hI s A' B row hs.1 hgr fun r e => ?_, (grownBy_keeps hgr hw hs.2.1 rfl).trans hs.2.1, (grownBy_keeps hgr hw hs.2.2 rfl).trans hs.2.2⟩
    obtain ⟨o, h2, h3⟩ := hw r e
    have hle : w.heap.size ≤ W1.heap.size := by rw [← hW1]; simp; omega
    exact ⟨Nat.le_trans hB (Nat.le_trans hle (hr r e).1), o, h2, Obj.not_cells_of_walk h3⟩
  have hround : ∀ pre x W, J pre W → pre.length < N → YieldAt F (n - 1 - 1) P (w.heap.size + 1) #[enc x] W fun e W' => e = .returned (.bool true) ∧ J (pre ++ [x]) W' ∧ KeepsWalks W W' := by
    rintro pre x W ⟨hi, hl, hd⟩ hlen
    refine ⟨fn, _, assign, body, run_yield (args := #[enc x]) hl hps.symm, roundIn_of_wpIn hfn ?_⟩
    refine wpIn_mono (hassign (w.heap.size + 1) pre x W hi) ?_
    intro e a1 W2 h2
    cases e with
    | normal =>
      obtain ⟨k2, i2, x2⟩ := h2
      have hl2 := k2.same _ _ hl rfl
      have hd2 := k2.same _ _ hd rfl
      refine ⟨_, run_beginRound hl2 rfl, ?_⟩
      have hlt : w.heap.size + 1 < W2.heap.size := (Array.getElem?_eq_some_iff.1 hl2).1
      have hl3 : (W2.putObj (w.heap.size + 1) (.loop (rec0 .busy))).heap[w.heap.size + 1]? = some (.loop (rec0 .busy)) := World.putObj_heap_same hlt
      have hd3 : (W2.putObj (w.heap.size + 1) (.loop (rec0 .busy))).heap[w.heap.size]? = some (.deferred (some [])) := (World.putObj_heap_other (by omega)).trans hd2
      refine wpIn_mono (hbody (w.heap.size + 1) pre x a1 _ (hI.putObj _ i2 (by omega) hl2 rfl) ((hA x a1).putObj (s := ()) _ x2 (by omega) hl2 rfl) hlen) ?_
      rintro e a3 W4 ⟨rfl, k4, i4⟩
      have hl4 := k4.same _ _ hl3 rfl
      have hd4 := k4.same _ _ hd3 rfl
      refine ⟨_, _, run_endRound none hl4, rfl, ⟨hI.putObj _ i4 (by omega) hl4 rfl, World.putObj_heap_same (Array.getElem?_eq_some_iff.1 hl4).1, (World.putObj_heap_other (by omega)).trans hd4⟩, ?_⟩
      exact ((k2.walks.trans (KeepsWalks.putObj _ hl2 rfl)).trans k4.walks).trans (KeepsWalks.putObj _ hl4 rfl)
    | ret => exact h2.elim
    | exit id => exact h2.elim
    | goto t => exact h2.elim
    | panic ch => exact h2.elim
    | outgrown => exact h2.elim
  refine ⟨w.heap.size + 1, [{ target := .collected w.heap.size, args := #[] }], W1, { target := .fn (.func gf) lb, args := #[.func (.yield (w.heap.size + 1)) #[] #[]] }, W1, gf,
    #[.func (.yield (w.heap.size + 1)) #[] #[]] ++ lb, W1, hW1 ▸ run_enterLoop_outer _ _ _ _ _, ?_, ?_, ?_, fun _ => h1, ?_⟩
  · simp only [resolve, hg]
    simp [go_sem]
  · intro f1 hf1
    simp [Target.leads] at hf1
    subst hf1; exact hFg
  · simp [invoke, go_sem, eg]
  · refine (hseq (w.heap.size + 1) J W1 hb1 hJ hround ⟨hI1, hloop, hdef⟩).mono ?_
    rintro e W2 ⟨⟨v, rfl⟩, xs, hS, hi, hl, hd⟩
    exact ⟨none, _, run_endLoop hl (by simp [rec0]), hdone xs _ hS (hI.putObj _ hi (by omega) hl rfl) ((World.putObj_heap_other (by omega)).trans hd)⟩
end Go.Proofs.Ytdkbmefidmljjaa.Mp
