/- Texts of the proof, one behind the other: W8, Seq, K1, W9, K2, SortK, Shelf, W10, K3, K4, V24, V25, V26, V27, W11, W12, W13, W14, W15, W16. Conditions: each lemma's own. -/
import Derived.Test.YtnpnjhopgedhkaaGreatFD3
import Derived.Sort.Grow
import Derived.Lib.OthersKept
import Derived.Lib.Hide
import Derived.Test.YtnpnjhopgedhkaaGreatFD1
import Derived.RangeFuncOwn
import Derived.OwnWalkIn
import Derived.TacticsInMore
import Derived.RegionIn
import Derived.LoopNIn
import Derived.LoopIn
import Derived.WalkKit
import Derived.Sort.MapsRangeIn
import Derived.Test.YtnpnjhopgedhkaaGreatProg
import Derived.Maps.AppendAt
import Derived.KernelRfl
import Derived.Shelf.SlSortCmp.WholeK
import Derived.Shelf.SlSortCmp.NoneTotal
import Derived.Below
import Derived.Carry
import Derived.Ground.SlsfProg
import Derived.Shelf.SlGeneric
set_option linter.unusedVariables false
namespace Go.Proofs.YtnpnjhopgedhkaaGreat
open Go.RowKit Geo
theorem or_c (b cap : Nat) (zs : List Int) (hl : zs.length < 100) (w : World) (hc : ∀ i (h : i < zs.length), w.cell? ⟨b, i, none⟩ = some (.int .i64 zs[i])) :
 Calls Tryz.prog 104 #[.slice (some ⟨b, 0, none⟩) zs.length cap] w fun e w' => e = .returned (.int .i64 (orI zs)) ∧ w' = w := by
 go_enter Tryz.func104, Tryz.ntmps104
 have HC := Lib.hid hc
 clear hc
 go_wp2_with fail
 go_loop [8] (fun i => ∃ k : Nat, k ≤ zs.length ∧ i = .int .i64 k ∧ orI (zs.drop k) = orI zs) (fun i => zs.length - (intOf i).toNat)
 case atStart => exact ⟨0, by omega, rfl, rfl⟩
 case round =>
  obtain ⟨k, hk, rfl, he⟩ := hrel
  have HE := Lib.hid he
  clear he
  by_cases hlt : k < zs.length
  ·have h1 : decide ((k : Int) < (zs.length : Int)) = true := by simp [hlt]
   have hcell := HC.out k hlt
   have hd := orI_drop zs k hlt
   have hw : IntKind.i64.wrap ((k : Int) + 1) = (k : Int) + 1 := by rw [IntKind.wrap_i64]; omega
   obtain ⟨z, hz⟩ : ∃ z, z = zs[k] := ⟨_, rfl⟩
   rw [← hz] at hcell hd
   have HD := Lib.hid (And.intro hd hz)
   clear hd hz
   by_cases h0 : z = 0
   ·subst h0
    go_wp2
    exact ⟨⟨k + 1, by omega, by push_cast; rfl, by rw [← HE.out, HD.out.1, if_pos rfl]⟩, by simp [intOf]; omega⟩
   ·have h0' : (z != 0) = true := by simp [h0]
    go_wp2
    go_ret
    refine ⟨?_, rfl⟩
    rw [← HE.out, HD.out.1, if_neg h0]; rfl
  ·have h1 : decide ((k : Int) < (zs.length : Int)) = false := by simp; omega
   have hke : k = zs.length := by omega
   subst hke
   go_wp2
   go_ret
   refine ⟨?_, rfl⟩
   rw [← HE.out]; simp [orI]
theorem or2_c (b cap : Nat) (x y : Int) (w : World) (h : w.cell? ⟨b, 0, none⟩ = some (.int .i64 x) ∧ w.cell? ⟨b, 1, none⟩ = some (.int .i64 y)) :
 Calls Tryz.prog 104 #[.slice (some ⟨b, 0, none⟩) 2 cap] w fun e w' => e = .returned (.int .i64 (orI [x, y])) ∧ w' = w :=
 or_c b cap [x, y] (by simp) w (fun i hi => by
  match i, hi with
  | 0, _ => exact h.1
  | 1, _ => exact h.2)
theorem cell_new (w : World) (c : Array Value) (t : TypeId) (b off : Nat) (h : b = w.heap.size) : (w.alloc (.cells c t)).cell? ⟨b, off, none⟩ = c[off]? := by
 subst h
 unfold World.cell? World.alloc
 simp
theorem cell_drew (w : World) (a : Addr) : w.drew.cell? a = w.cell? a := rfl
theorem or2_new (x y : Int) (W : World) : Calls Tryz.prog 104 #[.slice (some ⟨W.heap.size, 0, none⟩) 2 2] (W.alloc (.cells #[.int .i64 x, .int .i64 y] 3)).drew fun e w' => e = .returned (.int .i64 (orI [x, y])) ∧ w' = (W.alloc (.cells #[.int .i64 x, .int .i64 y] 3)).drew :=
 or2_c _ _ _ _ _ ⟨by rw [cell_drew, cell_new _ _ _ _ _ rfl]; rfl, by rw [cell_drew, cell_new _ _ _ _ _ rfl]; rfl⟩
theorem cp_c (x y : Pt) (w : World) : Calls Tryz.prog 105 #[ptV x, ptV y] w fun e w' => e = .returned (.int .i64 (cp x y)) ∧ (∃ q os, w' = Sort.grow (w.drewN q) os) ∧ Below w.heap.size w w' := by
 rw [← cp_or]
 unfold ptV
 go_enter Tryz.func105, Tryz.ntmps105
 go_wp2_with fail
 obtain ⟨W, hW⟩ : ∃ W, W = (w.alloc (.cells #[.int .i64 x.x, .int .i64 x.y] 25)).alloc (.cells #[.int .i64 y.x, .int .i64 y.y] 25) := ⟨_, rfl⟩
 have hB : Below w.heap.size w W := by rw [hW]; go_grown
 have hs : W.heap.size = w.heap.size + 2 := by rw [hW]; simp
 have c1 : W.cell? ⟨w.heap.size, 0, none⟩ = some (.int .i64 x.x) := by rw [hW]; simp
 have c2 : W.cell? ⟨w.heap.size, 1, none⟩ = some (.int .i64 x.y) := by rw [hW]; simp
 have d1 : W.cell? ⟨w.heap.size + 1, 0, none⟩ = some (.int .i64 y.x) := by rw [hW]; simp
 have d2 : W.cell? ⟨w.heap.size + 1, 1, none⟩ = some (.int .i64 y.y) := by rw [hW]; simp
 rw [← hW]
 have HW := Lib.hid (And.intro hW hs)
 have HB := Lib.hid hB
 clear hW hs hB
 obtain ⟨g, hg⟩ : ∃ g, g = w.heap.size := ⟨_, rfl⟩
 rw [← hg] at c1 c2 d1 d2 ⊢
 have HG := Lib.hid hg
 clear hg
 go_region_held3 (fun w' => w'.cell? ⟨g, 0, none⟩ = some (.int .i64 x.x) ∧ w'.cell? ⟨g, 1, none⟩ = some (.int .i64 x.y) ∧ w'.cell? ⟨g + 1, 0, none⟩ = some (.int .i64 y.x) ∧ w'.cell? ⟨g + 1, 1, none⟩ = some (.int .i64 y.y)) (first | exact ⟨c1, c2, d1, d2⟩ | go_keep)
  (first | (go_at_call 107; refine (compare_c _ _ _).mono ?_; rintro e w' ⟨rfl, rfl⟩) | (go_at_call 104; with_reducible refine (or2_new _ _ _).mono ?_; rintro e w' ⟨rfl, rfl⟩))
 rename_i hHeld
 clear hHeld c1 c2 d1 d2
 go_wp2_with fail
 go_ret
 have hB := HB.out
 refine ⟨rfl, ⟨1, #[.cells #[.int .i64 x.x, .int .i64 x.y] 25, .cells #[.int .i64 y.x, .int .i64 y.y] 25, .cells #[.int .i64 (cmpI x.x y.x), .int .i64 (cmpI x.y y.y)] 3], ?_⟩, (hB.alloc hB.size _).drew⟩
 rw [HW.out.1, Sort.alloc_eq_grow, Sort.alloc_eq_grow, Sort.alloc_eq_grow, Sort.grow_grow, Sort.grow_grow]
 rfl
end Go.Proofs.YtnpnjhopgedhkaaGreat
namespace Go.Proofs.YtnpnjhopgedhkaaGreat.Mp
open Go.RowKit
section
variable {F : Fence} {n : Nat} {P : Program} {k : TypeId} {κ : Type} {mk : κ → Value} {ν : Type} {mv : ν → Value} (w : World) {ops : Array Oper} {rest : List Oper} {o : Oper} {a : Act} {Q : Exit → Act → World → Prop}
theorem wpIn_range (hg : o.guard = none) (m : Operand) (t : TypeId) (hop : o.op = Op.range t m) (e : TypeId) (ht : P.underlying t = some (.map k e)) (b : Nat) (l : List (κ × ν))
 (hm : a.eval m = .map (some b)) (h : Is mk mv w b l)
 (hK : ∀ w', Rng mk mv w' b w.heap.size l l → w.grownBy w' none → w'.heap.size = w.heap.size + 1 → wpListIn F n P ops Q rest (a.put o.dst (.pointer (some ⟨w.heap.size, 0, none⟩))) w') :
 wpListIn F n P ops Q (o :: rest) a w := by
 refine wpListIn_plain hg fun K' hK' => ?_
 obtain ⟨w', hrun, r1, r2, r3⟩ := h.range ht
 unfold Oper.wpIn
 refine ⟨by simp [Oper.about, hop], ?_⟩
 rw [Oper.semAt_plain F _ _ (by rw [hop]; intro c hc'; cases hc')]
 simp [execOp, hop, hm, hrun, Result.andThen]
 exact hK' _ _ (hK w' r1 r2 r3)
theorem wpIn_next (hg : o.guard = none) (it : Operand) (hop : o.op = Op.next it false) (b r : Nat) (l left : List (κ × ν)) (hit : a.eval it = .pointer (some ⟨r, 0, none⟩)) (h : Rng mk mv w b r l left)
 (hDone : left = [] → wpListIn F n P ops Q rest (a.put o.dst (.tuple #[.bool false])) w)
 (hMore : ∀ (x : κ) (v : ν) (y z : List (κ × ν)) (w' : World), left = y ++ (x, v) :: z → Rng mk mv w' b r l (y ++ z) → w.grownBy w' (some r) → w'.heap.size = w.heap.size →
   (Instr.entry (.pointer (some ⟨r, 0, none⟩))).run P w' = .ok (.tuple #[mk x, mv v]) w' → wpListIn F n P ops Q rest (a.put o.dst (.tuple #[.bool true, mk x, mv v])) w') :
 wpListIn F n P ops Q (o :: rest) a w := by
 refine wpListIn_plain hg fun K' hK' => ?_
 unfold Oper.wpIn
 refine ⟨by simp [Oper.about, hop], ?_⟩
 rw [Oper.semAt_plain F _ _ (by rw [hop]; intro c hc'; cases hc')]
 rcases h.next (P := P) o.type with ⟨h0, hrun⟩ | ⟨x, v, y, z, w', h0, hrun, r1, r2, r3, r4⟩
 ·simp [execOp, hop, hit, hrun, Result.andThen]
  exact hK' _ _ (hDone h0)
 ·simp [execOp, hop, hit, hrun, Result.andThen]
  exact hK' _ _ (hMore x v y z w' h0 r1 r2 r3 (r4 P w' rfl rfl))
end
section
variable {κ : Type} {mk : κ → Value} {ν : Type} {mv : ν → Value}
theorem Rng.of_walks {w w' : World} {b r : Nat} {l left : List (κ × ν)} (h : Rng mk mv w b r l left) (hk : KeepsWalks w w') : Rng mk mv w' b r l left := by
 have h0 := h
 obtain ⟨es, c, s, n, c0, h1, _, _, _, _, h6, _⟩ := h
 exact h0.at ((hk.same b _ h1 rfl).trans h1.symm) ((hk.same r _ h6 rfl).trans h6.symm)
theorem Rng.walk {w : World} {b r : Nat} {l left : List (κ × ν)} (h : Rng mk mv w b r l left) : ∃ o : Obj, w.heap[r]? = some o ∧ o.isWalk = true := by
 obtain ⟨es, c, s, n, c0, h1, _, _, _, _, h6, _⟩ := h
 exact ⟨_, h6, rfl⟩
end
def OwnB {β : Type} (B : Nat) (I : β → World → Prop) : Prop :=
 ∀ s W W' row, I s W → W.grownBy W' row → (∀ r, row = some r → B ≤ r ∧ ∃ o : Obj, W.heap[r]? = some o ∧ o.isCells = false) → I s W'
theorem OwnB.putObj {β : Type} {B : Nat} {I : β → World → Prop} (h : OwnB B I) {s : β} {W : World} {l : Nat} {o : Obj} (o' : Obj) (hs : I s W) (hb : B ≤ l) (hl : W.heap[l]? = some o) (ho : o.isCells = false) : I s (W.putObj l o') :=
 h s W _ (some l) hs (grownBy_putObj' W l o') fun r e => by cases e; exact ⟨hb, o, hl, ho⟩
theorem OwnB.alloc {β : Type} {B : Nat} {I : β → World → Prop} (h : OwnB B I) {s : β} {W : World} (o : Obj) (hs : I s W) : I s (W.alloc o) :=
 h s W _ none hs (World.grownBy_alloc W o none) fun r e => by cases e
theorem wpIn_rangeAll {α : Type} {F : Fence} {n : Nat} {P : Program} {g : Operand} {ps : Array Tmp} {assign body : Code} {Q : Exit → Act → World → Prop} {a : Act} {w : World}
 (hro : F.round = none) (h1 : 1 ≤ n) {gf : Nat} {lb : Array Value} (hg : a.eval g = .func (.func gf) #[] lb) (hFg : F.fn gf) (eg : ∀ args w, (callFunc gf args).run P w = .ok (.enter gf args) w)
 {enc : α → Value} {S : List α → Prop} {N : Nat} {w0 : World} (hseq : SeqGives F (n - 1) P gf lb enc S N w0) (hb0 : Below w0.heap.size w0 w) (hps : ps.size = 1)
 {B : Nat} (hB : B ≤ w.heap.size) (I : List α → World → Prop) (hI : OwnB B I) (A : α → Act → World → Prop) (hA : ∀ x a1, OwnB B fun (_ : Unit) W => A x a1 W) (h0 : I [] w)
 (hassign : ∀ (l : Nat) (pre : List α) (x : α) (W : World), I pre W → assign.wpIn (F.inRound l) (n - 1 - 1) P (Exit.then (fun a1 W1 => KeepsOthers W W1 ∧ I pre W1 ∧ A x a1 W1) (fun _ _ _ => False)) { tmps := (ps.zip #[enc x]).foldl (fun t (p, v) => t.setIfInBounds p v) a.tmps, defers := [] } W)
 (hbody : ∀ (l : Nat) (pre : List α) (x : α) (a1 : Act) (W : World), I pre W → A x a1 W → pre.length < N → body.wpIn (F.inRound l) (n - 1 - 1) P (fun e _ W1 => e = .normal ∧ KeepsOthers W W1 ∧ I (pre ++ [x]) W1) a1 W)
 (hdone : ∀ (xs : List α) (W : World), S xs → I xs W → W.heap[w.heap.size]? = some (.deferred (some [])) → Q .normal { a with defers := { target := .collected w.heap.size, args := #[] } :: a.defers } W) :
 (Code.rangeFunc g ps assign body).wpIn F n P Q a w := by
 refine wpIn_rangeFunc fun fn hfn => ?_
 rw [hro]
 let rec0 : LoopState → Loop := fun st => { state := st, pending := none, fn, tmps := a.tmps, params := ps, assign, body, defers := w.heap.size }
 obtain ⟨W1, hW1⟩ : ∃ W1, (w.alloc (.deferred (some []))).alloc (.loop (rec0 .ready)) = W1 := ⟨_, rfl⟩
 have hloop : W1.heap[w.heap.size + 1]? = some (.loop (rec0 .ready)) := by
  have := World.alloc_heap_new (w.alloc (.deferred (some []))) (.loop (rec0 .ready))
  rw [World.size_alloc, hW1] at this
  exact this
 have hdef : W1.heap[w.heap.size]? = some (.deferred (some [])) := by
  rw [← hW1, Below.heap_alloc _ _ _ (by simp)]
  exact World.alloc_heap_new w _
 have hI1 : I [] W1 := hW1 ▸ hI.alloc _ (hI.alloc _ h0)
 have hb1 : Below w0.heap.size w0 W1 := by
  have hw : Below w.heap.size w W1 := hW1 ▸ ((Below.refl _ w).alloc (Nat.le_refl _) _).alloc (by simp) _
  exact hb0.trans (hw.mono hb0.size)
 let J : List α → World → Prop := fun pre W => I pre W ∧ W.heap[w.heap.size + 1]? = some (.loop (rec0 .ready)) ∧ W.heap[w.heap.size]? = some (.deferred (some []))
 have hJ : AbidesFrom W1.heap.size J := by
  intro s A' B row hs hgr hr
  have hw : ∀ r, row = some r → ∃ o : Obj, A'.heap[r]? = some o ∧ o.isWalk = true := fun r e => (hr r e).2
  refine ⟨hI s A' B row hs.1 hgr fun r e => ?_, (grownBy_keeps hgr hw hs.2.1 rfl).trans hs.2.1, (grownBy_keeps hgr hw hs.2.2 rfl).trans hs.2.2⟩
  obtain ⟨o, h2, h3⟩ := hw r e
  have hle : w.heap.size ≤ W1.heap.size := by rw [← hW1]; simp; omega
  exact ⟨Nat.le_trans hB (Nat.le_trans hle (hr r e).1), o, h2, Obj.not_cells_of_walk h3⟩
 have hround : ∀ pre x W, J pre W → pre.length < N → YieldAt F (n - 1 - 1) P (w.heap.size + 1) #[enc x] W fun e W' => e = .returned (.bool true) ∧ J (pre ++ [x]) W' ∧ KeepsWalks W W' := by
  rintro pre x W ⟨hi, hl, hd⟩ hlen
  refine ⟨fn, _, assign, body, run_yield (args := #[enc x]) hl hps.symm, roundIn_of_wpIn hfn ?_⟩
  refine wpIn_mono (hassign (w.heap.size + 1) pre x W hi) ?_
  intro e a1 W2 h2
  cases e with
  | normal =>
    obtain ⟨k2, i2, x2⟩ := h2
    have hl2 := k2.same _ _ hl rfl
    have hd2 := k2.same _ _ hd rfl
    refine ⟨_, run_beginRound hl2 rfl, ?_⟩
    have hlt : w.heap.size + 1 < W2.heap.size := (Array.getElem?_eq_some_iff.1 hl2).1
    have hl3 : (W2.putObj (w.heap.size + 1) (.loop (rec0 .busy))).heap[w.heap.size + 1]? = some (.loop (rec0 .busy)) := World.putObj_heap_same hlt
    have hd3 : (W2.putObj (w.heap.size + 1) (.loop (rec0 .busy))).heap[w.heap.size]? = some (.deferred (some [])) := (World.putObj_heap_other (by omega)).trans hd2
    refine wpIn_mono (hbody (w.heap.size + 1) pre x a1 _ (hI.putObj _ i2 (by omega) hl2 rfl) ((hA x a1).putObj (s := ()) _ x2 (by omega) hl2 rfl) hlen) ?_
    rintro e a3 W4 ⟨rfl, k4, i4⟩
    have hl4 := k4.same _ _ hl3 rfl
    have hd4 := k4.same _ _ hd3 rfl
    refine ⟨_, _, run_endRound none hl4, rfl, ⟨hI.putObj _ i4 (by omega) hl4 rfl, World.putObj_heap_same (Array.getElem?_eq_some_iff.1 hl4).1, (World.putObj_heap_other (by omega)).trans hd4⟩, ?_⟩
    exact ((k2.walks.trans (KeepsWalks.putObj _ hl2 rfl)).trans k4.walks).trans (KeepsWalks.putObj _ hl4 rfl)
  | ret => exact h2.elim
  | exit id => exact h2.elim
  | goto t => exact h2.elim
  | panic ch => exact h2.elim
  | outgrown => exact h2.elim
 refine ⟨w.heap.size + 1, [{ target := .collected w.heap.size, args := #[] }], W1, { target := .fn (.func gf) lb, args := #[.func (.yield (w.heap.size + 1)) #[] #[]] }, W1, gf,
  #[.func (.yield (w.heap.size + 1)) #[] #[]] ++ lb, W1, hW1 ▸ run_enterLoop_outer _ _ _ _ _, ?_, ?_, ?_, fun _ => h1, ?_⟩
 ·simp only [resolve, hg]
  simp [go_sem]
 ·intro f1 hf1
  simp [Target.leads] at hf1
  subst hf1; exact hFg
 ·simp [invoke, go_sem, eg]
 ·refine (hseq (w.heap.size + 1) J W1 hb1 hJ hround ⟨hI1, hloop, hdef⟩).mono ?_
  rintro e W2 ⟨⟨v, rfl⟩, xs, hS, hi, hl, hd⟩
  exact ⟨none, _, run_endLoop hl (by simp [rec0]), hdone xs _ hS (hI.putObj _ hi (by omega) hl rfl) ((World.putObj_heap_other (by omega)).trans hd)⟩
end Go.Proofs.YtnpnjhopgedhkaaGreat.Mp
namespace Go.Proofs.YtnpnjhopgedhkaaGreat
open Go.RowKit Geo
structure Tr where
 a : Pt
 b : Pt
 c : Pt
deriving DecidableEq
def Tr.v (t : Tr) : Value := .agg #[.int .i64 t.a.x, .int .i64 t.a.y, .int .i64 t.b.x, .int .i64 t.b.y, .int .i64 t.c.x, .int .i64 t.c.y]
set_option maxRecDepth 100000 in
set_option maxHeartbeats 1000000 in
theorem keys1_in (F : Fence) (n : Nat) (h10 : F.fn 103) (hro : F.round = none) (hn : 1 ≤ n) (l Bm b : Nat) (s : List (Tr × Bool)) (J Jx : List Tr → World → Prop)
 (hY : ∀ pre x W, J pre W → pre.length < s.length → YieldAt F (n - 1) Tryz.prog l #[x.v] W fun e W' =>
   (e = .returned (.bool true) ∧ J (pre ++ [x]) W' ∧ KeepsWalks W W') ∨ (e = .returned (.bool false) ∧ Jx (pre ++ [x]) W'))
 (W : World) (hJ : AbidesFrom W.heap.size J) (hm : W.cell? ⟨Bm, 0, none⟩ = some (.map (some b))) (hown : Mp.Is Tr.v Value.bool W b s) (h0 : J [] W) :
 CallsIn F n Tryz.prog 103 #[.func (.yield l) #[] #[], .pointer (some ⟨Bm, 0, none⟩)] W fun e W' => (∃ v, e = .returned v) ∧
  ((∃ ss : List Tr, ss.Perm (s.map (·.1)) ∧ J ss W') ∨ (∃ pre : List Tr, True ∧ Jx pre W')) := by
 refine callsIn_of_wp Tryz.func103 rfl h10 ?_ hro
 simp only [Tryz.ntmps103, List.size_toArray, List.length_cons, List.length_nil, Nat.reduceAdd, Nat.reduceSub, Array.replicate_succ, Array.replicate_zero, List.push_toArray, List.append_toArray, List.nil_append, List.cons_append]
 gi_wp2_with (gi_at_range; refine Mp.wpIn_range _ rfl _ 83 rfl 4 Tryz.underlying83 b s rfl hown ?_; intro w0 hrg0 hg0 hs0)
 go_frame
 gi_loopw [3] (fun _ wr => ∃ (left : List (Tr × Bool)) (ss : List Tr), Mp.Rng Tr.v Value.bool wr b W.heap.size s left ∧ (ss ++ left.map (·.1)).Perm (s.map (·.1)) ∧ J ss wr)
  (fun _ wr => wr.rangeLeft b W.heap.size)
 case atStart =>
  exact ⟨s, [], hrg0, by simp, hJ [] W w0 none h0 hg0 (fun r e => by cases e)⟩
 case round =>
  obtain ⟨left, ss, hrg, hpm, hJs⟩ := hrel
  have hlen : ss.length + left.length = s.length := by have := hpm.length_eq; simpa using this
  gi_wp2_with (gi_at_next; refine Mp.wpIn_next _ rfl _ rfl b W.heap.size s left rfl hrg (fun hl0 => ?_) (fun x c y z w2 hlk hrg2 hg2 hs2 hen => ?_) <;> try (unfold Tr.v at hen ⊢))
  ·go_end0
   subst hl0
   exact ⟨⟨_, rfl⟩, .inl ⟨ss, by simpa using hpm, hJs⟩⟩
  ·have hJ2 : J ss w2 := hJ ss wr w2 (some W.heap.size) hJs hg2 (fun r e => by cases e; exact ⟨Nat.le_refl _, hrg.walk⟩)
   have hJ3 := hJ ss w2 _ none hJ2 (World.grownBy_alloc w2 (.cells #[.int .i64 x.a.x, .int .i64 x.a.y, .int .i64 x.b.x, .int .i64 x.b.y, .int .i64 x.c.x, .int .i64 x.c.y] 49) none) (fun r e => by cases e)
   have hlt : ss.length < s.length := by rw [hlk] at hlen; simp at hlen; omega
   obtain ⟨fn, tmps, assign, body, hy, hR⟩ := hY ss x _ hJ3 hlt
   unfold Tr.v at hy
   rw [hy]
   gi_wp2_with fail
   refine hR.mono ?_
   have hpm2 : ((ss ++ [x]) ++ (y ++ z).map (·.1)).Perm (s.map (·.1)) := by
    refine List.Perm.trans ?_ hpm
    rw [hlk, List.append_assoc]
    refine List.Perm.append_left ss ?_
    simpa using (List.perm_middle (a := x) (l₁ := y.map (·.1)) (l₂ := z.map (·.1))).symm
   rintro e W3 (⟨rfl, hJ4, hk3⟩ | ⟨rfl, hJx3⟩)
   ·gi_wp2_with fail
    have hrg3 := (hrg2.kept (World.grownBy_alloc w2 _ none) (by simp) (by simp)).of_walks hk3
    go_roundw
    case rel => exact ⟨_, ss ++ [x], hrg3, hpm2, hJ4⟩
    case measure => rw [hrg3.left_eq, hrg.left_eq, hlk]; simp
   ·gi_wp2_with fail
    refine bodyPost_ret (results_none rfl _ _ _) rfl ?_
    exact ⟨⟨_, rfl⟩, .inr ⟨ss ++ [x], trivial, hJx3⟩⟩
theorem keys_stops (F : Fence) (n : Nat) (h10 : F.fn 103) (hro : F.round = none) (hn : 1 ≤ n) (Bm b : Nat) (s : List (Tr × Bool)) (w : World) (hBm : Bm < w.heap.size) (hm : w.cell? ⟨Bm, 0, none⟩ = some (.map (some b))) (hown : Mp.Is Tr.v Value.bool w b s) :
 SeqStops F n Tryz.prog 103 #[.pointer (some ⟨Bm, 0, none⟩)] Tr.v (fun ss => ss.Perm (s.map (·.1))) (fun _ => True) s.length w := fun l J Jx W hW hJ hJx hY h0 =>
 keys1_in F n h10 hro hn l Bm b s J Jx hY W hJ ((hW.cell (p := ⟨Bm, 0, none⟩) hBm).trans hm) (hown.below hW hown.lt) h0
end Go.Proofs.YtnpnjhopgedhkaaGreat
namespace Go.Proofs.YtnpnjhopgedhkaaGreat
open Go.RowKit Geo
def Gr (W w' : World) : Prop := ∃ q os, w' = Sort.grow (W.drewN q) os
theorem Gr.drew1 (W : World) : Gr W W.drew := ⟨1, #[], (Sort.grow_empty _).symm⟩
theorem drewN_grow (W : World) (q : Nat) (os : Array Obj) : (Sort.grow W os).drewN q = Sort.grow (W.drewN q) os := rfl
theorem drewN_drewN (W : World) (q q' : Nat) : (W.drewN q).drewN q' = W.drewN (q + q') := by simp [World.drewN, Nat.add_assoc]
theorem Gr.trans {a b c : World} (h : Gr a b) (k : Gr b c) : Gr a c := by
 obtain ⟨q, os, rfl⟩ := h
 obtain ⟨q', os', rfl⟩ := k
 exact ⟨q + q', os ++ os', by rw [drewN_grow, drewN_drewN, Sort.grow_grow]⟩
theorem Gr.alloc {a b : World} (h : Gr a b) (o : Obj) : Gr a (b.alloc o) := by
 obtain ⟨q, os, rfl⟩ := h
 exact ⟨q, os ++ #[o], by rw [Sort.alloc_eq_grow, Sort.grow_grow]⟩
theorem Gr.drew {a b : World} (h : Gr a b) : Gr a b.drew := h.trans (Gr.drew1 b)
theorem Gr.cell {W w' : World} (h : Gr W w') {b off : Nat} (hb : b < W.heap.size) : w'.cell? ⟨b, off, none⟩ = W.cell? ⟨b, off, none⟩ := by
 obtain ⟨q, os, rfl⟩ := h
 exact Sort.cell?_grow (W.drewN q) os ⟨b, off, none⟩ hb
theorem or3_new (x y z : Int) (W : World) : Calls Tryz.prog 104 #[.slice (some ⟨W.heap.size, 0, none⟩) 3 3] (W.alloc (.cells #[.int .i64 x, .int .i64 y, .int .i64 z] 3)) fun e w' => e = .returned (.int .i64 (orI [x, y, z])) ∧ w' = (W.alloc (.cells #[.int .i64 x, .int .i64 y, .int .i64 z] 3)) :=
 or_c _ _ [x, y, z] (by simp) _ (fun i hi => by
  match i, hi with
  | 0, _ => exact (cell_new _ _ _ _ _ rfl).trans rfl
  | 1, _ => exact (cell_new _ _ _ _ _ rfl).trans rfl
  | 2, _ => exact (cell_new _ _ _ _ _ rfl).trans rfl)
def Tr.cmp (v w : Tr) : Int := orI [cp v.a w.a, cp v.b w.b, cp v.c w.c]
theorem cp_c' (a b c d : Int) (W : World) : Calls Tryz.prog 105 #[.agg #[.int .i64 a, .int .i64 b], .agg #[.int .i64 c, .int .i64 d]] W fun e w' => e = .returned (.int .i64 (cp ⟨a, b⟩ ⟨c, d⟩)) ∧ Gr W w' :=
 (cp_c ⟨a, b⟩ ⟨c, d⟩ W).mono fun _ _ h => ⟨h.1, h.2.1⟩
set_option maxHeartbeats 4000000 in
theorem cmpT_c (x y : Tr) (w : World) : Calls Tryz.prog 89 #[x.v, y.v] w fun e w' => e = .returned (.int .i64 (x.cmp y)) ∧ Gr w w' := by
 unfold Tr.v
 go_enter Tryz.func89, Tryz.ntmps89
 go_wp2_with fail
 obtain ⟨W, hW⟩ : ∃ W, W = (w.alloc (.cells #[.int .i64 x.a.x, .int .i64 x.a.y, .int .i64 x.b.x, .int .i64 x.b.y, .int .i64 x.c.x, .int .i64 x.c.y] 49)).alloc (.cells #[.int .i64 y.a.x, .int .i64 y.a.y, .int .i64 y.b.x, .int .i64 y.b.y, .int .i64 y.c.x, .int .i64 y.c.y] 49) := ⟨_, rfl⟩
 have hB : Gr w W := by rw [hW]; exact ((show Gr w w from ⟨0, #[], by simp [World.drewN]⟩).alloc _).alloc _
 have hs : W.heap.size = w.heap.size + 2 := by rw [hW]; simp
 have c0 : W.cell? ⟨w.heap.size, 0, none⟩ = some (.int .i64 x.a.x) := by rw [hW]; simp
 have c1 : W.cell? ⟨w.heap.size, 1, none⟩ = some (.int .i64 x.a.y) := by rw [hW]; simp
 have c2 : W.cell? ⟨w.heap.size, 2, none⟩ = some (.int .i64 x.b.x) := by rw [hW]; simp
 have c3 : W.cell? ⟨w.heap.size, 3, none⟩ = some (.int .i64 x.b.y) := by rw [hW]; simp
 have c4 : W.cell? ⟨w.heap.size, 4, none⟩ = some (.int .i64 x.c.x) := by rw [hW]; simp
 have c5 : W.cell? ⟨w.heap.size, 5, none⟩ = some (.int .i64 x.c.y) := by rw [hW]; simp
 have d0 : W.cell? ⟨w.heap.size + 1, 0, none⟩ = some (.int .i64 y.a.x) := by rw [hW]; simp
 have d1 : W.cell? ⟨w.heap.size + 1, 1, none⟩ = some (.int .i64 y.a.y) := by rw [hW]; simp
 have d2 : W.cell? ⟨w.heap.size + 1, 2, none⟩ = some (.int .i64 y.b.x) := by rw [hW]; simp
 have d3 : W.cell? ⟨w.heap.size + 1, 3, none⟩ = some (.int .i64 y.b.y) := by rw [hW]; simp
 have d4 : W.cell? ⟨w.heap.size + 1, 4, none⟩ = some (.int .i64 y.c.x) := by rw [hW]; simp
 have d5 : W.cell? ⟨w.heap.size + 1, 5, none⟩ = some (.int .i64 y.c.y) := by rw [hW]; simp
 rw [← hW]
 obtain ⟨g, hg⟩ : ∃ g, g = w.heap.size := ⟨_, rfl⟩
 rw [← hg] at c0 c1 c2 c3 c4 c5 d0 d1 d2 d3 d4 d5 ⊢
 have hgW : g < W.heap.size := by omega
 have hgW1 : g + 1 < W.heap.size := by omega
 have KP := Lib.hid (fun w' (hw : Gr W w') => (show (fun w' => w'.cell? ⟨g, 0, none⟩ = some (.int .i64 x.a.x) ∧ w'.cell? ⟨g, 1, none⟩ = some (.int .i64 x.a.y) ∧ w'.cell? ⟨g, 2, none⟩ = some (.int .i64 x.b.x) ∧ w'.cell? ⟨g, 3, none⟩ = some (.int .i64 x.b.y) ∧ w'.cell? ⟨g, 4, none⟩ = some (.int .i64 x.c.x) ∧ w'.cell? ⟨g, 5, none⟩ = some (.int .i64 x.c.y) ∧ w'.cell? ⟨g + 1, 0, none⟩ = some (.int .i64 y.a.x) ∧ w'.cell? ⟨g + 1, 1, none⟩ = some (.int .i64 y.a.y) ∧ w'.cell? ⟨g + 1, 2, none⟩ = some (.int .i64 y.b.x) ∧ w'.cell? ⟨g + 1, 3, none⟩ = some (.int .i64 y.b.y) ∧ w'.cell? ⟨g + 1, 4, none⟩ = some (.int .i64 y.c.x) ∧ w'.cell? ⟨g + 1, 5, none⟩ = some (.int .i64 y.c.y) ∧ Gr W w') w' from
  ⟨(hw.cell hgW).trans c0, (hw.cell hgW).trans c1, (hw.cell hgW).trans c2, (hw.cell hgW).trans c3, (hw.cell hgW).trans c4, (hw.cell hgW).trans c5, (hw.cell hgW1).trans d0, (hw.cell hgW1).trans d1, (hw.cell hgW1).trans d2, (hw.cell hgW1).trans d3, (hw.cell hgW1).trans d4, (hw.cell hgW1).trans d5, hw⟩))
 have HW := Lib.hid (And.intro hs (And.intro hg hB))
 clear hW hs hB hg hgW hgW1
 go_region_held3 (fun w' => w'.cell? ⟨g, 0, none⟩ = some (.int .i64 x.a.x) ∧ w'.cell? ⟨g, 1, none⟩ = some (.int .i64 x.a.y) ∧ w'.cell? ⟨g, 2, none⟩ = some (.int .i64 x.b.x) ∧ w'.cell? ⟨g, 3, none⟩ = some (.int .i64 x.b.y) ∧ w'.cell? ⟨g, 4, none⟩ = some (.int .i64 x.c.x) ∧ w'.cell? ⟨g, 5, none⟩ = some (.int .i64 x.c.y) ∧ w'.cell? ⟨g + 1, 0, none⟩ = some (.int .i64 y.a.x) ∧ w'.cell? ⟨g + 1, 1, none⟩ = some (.int .i64 y.a.y) ∧ w'.cell? ⟨g + 1, 2, none⟩ = some (.int .i64 y.b.x) ∧ w'.cell? ⟨g + 1, 3, none⟩ = some (.int .i64 y.b.y) ∧ w'.cell? ⟨g + 1, 4, none⟩ = some (.int .i64 y.c.x) ∧ w'.cell? ⟨g + 1, 5, none⟩ = some (.int .i64 y.c.y) ∧ Gr W w') (first | with_reducible exact KP.out _ (Gr.drew1 W) | with_reducible exact KP.out _ (by assumption) | (refine KP.out _ (Gr.alloc ?_ _); go_split_ands; assumption) | go_keep)
  (first
    | (go_at_call 105; with_reducible refine (cp_c' _ _ _ _ _).mono ?_; rintro e w' ⟨rfl, hgr⟩; have hgr' : Gr W w' := by (go_split_ands; exact Gr.trans (by assumption) hgr))
    | (go_at_call 104; with_reducible refine (or3_new _ _ _ _).mono ?_; rintro e w' ⟨rfl, rfl⟩))
 all_goals go_split_ands
 all_goals go_wp2_with fail
 all_goals go_ret
 all_goals exact ⟨rfl, HW.out.2.2.trans (Gr.alloc (by assumption) _)⟩
end Go.Proofs.YtnpnjhopgedhkaaGreat
namespace Go.Proofs.YtnpnjhopgedhkaaGreat
open Go.RowKit Geo
def Tr.l (t : Tr) : List Value := [.int .i64 t.a.x, .int .i64 t.a.y, .int .i64 t.b.x, .int .i64 t.b.y, .int .i64 t.c.x, .int .i64 t.c.y]
theorem inf26 : ∃ i, Tryz.prog.info? 49 = some i ∧ i.size = 6 ∧ i.bytes = 48 ∧ i.zero = some (.agg #[.int .i64 0, .int .i64 0, .int .i64 0, .int .i64 0, .int .i64 0, .int .i64 0]) := by
 have h1 : (Tryz.prog.info? 49).map (fun i => (i.size, i.bytes)) = some (6, 48) := by kernel_rfl
 have h2 : (Tryz.prog.info? 49).bind (fun i => i.zero) = some (.agg #[.int .i64 0, .int .i64 0, .int .i64 0, .int .i64 0, .int .i64 0, .int .i64 0]) := by kernel_rfl
 cases e : Tryz.prog.info? 49 with
 | none => rw [e] at h1; cases h1
 | some i =>
   rw [e] at h1 h2
   simp only [Option.map_some, Option.some.injEq, Prod.mk.injEq, Option.bind_some] at h1 h2
   exact ⟨i, rfl, h1.1, h1.2, h2⟩
theorem heap_set_box {W : World} {B : Nat} {v : Value} {t : TypeId} (u : Value) (h : W.heap[B]? = some (.cells #[v] t (0, 0))) : (W.setCell ⟨B, 0, none⟩ u).heap[B]? = some (.cells #[u] t (0, 0)) := by
 obtain ⟨h1, h2⟩ := Array.getElem?_eq_some_iff.1 h
 show (W.heap.modify B _)[B]? = _
 rw [Array.getElem?_eq_getElem (by rw [Array.size_modify]; exact h1), Array.getElem_modify_self, h2]
 rfl
theorem set_grown (W : World) (B : Nat) (u : Value) : W.grownBy (W.setCell ⟨B, 0, none⟩ u) (some B) :=
 ⟨rfl, rfl, rfl, (KeepsWalks.setCell W _ u).size, fun k _ hk => Below.heap_setCell _ _ _ k fun e => hk (by rw [e])⟩
theorem row_base {W : World} {b b' : Nat} {e : TypeId} {size : Nat} {v : Value} {k : Nat} {xs : List Value} (h : W.ownsRow b e size v k xs) (hb : b' ≤ b) : W.ownsRow b' e size v k xs := by
 refine ⟨h.1, ?_⟩
 rcases h.2 with h0 | ⟨g, cap, cur, e1, e2, rest⟩
 ·exact .inl h0
 ·exact .inr ⟨g, cap, cur, e1, Nat.le_trans hb e2, rest⟩
structure ApI (w : World) (ss : List Tr) (W : World) : Prop where
 box : ∃ v, W.heap[w.heap.size]? = some (.cells #[v] 33 (0, 0)) ∧ W.ownsRow (w.heap.size + 1) 49 6 v ss.length (ss.flatMap Tr.l)
 below : Below w.heap.size w W
theorem ApI.own (w : World) : Mp.OwnB w.heap.size (ApI w) := by
 rintro ss W W' row ⟨⟨v, h1, h2⟩, hb⟩ hg hr
 have hc : ∀ r, row = some r → ∃ o : Obj, W.heap[r]? = some o ∧ o.isCells = false := fun r e => (hr r e).2
 refine ⟨⟨v, (grownBy_keeps_cells hg hc h1 rfl).trans h1, h2.kept hg ?_⟩, hb.grown hg hb.size fun k e => (hr k e).1⟩
 rcases h2.2 with ⟨rfl, _⟩ | ⟨g, cap, cur, rfl, _, hgb, _⟩
 ·exact .inl rfl
 ·refine .inr fun e => ?_
  obtain ⟨o, ho, hn⟩ := hc g e.symm
  rw [hgb] at ho; cases ho; cases hn
def ApA (w : World) (sv : Value) (x : Tr) (a : Act) (W : World) : Prop :=
 ∃ b, w.heap.size < b ∧ W.heap[b]? = some (.cells x.l.toArray 49 (0, 0)) ∧ a = { tmps := #[.slice none 0 0, sv, .pointer (some ⟨w.heap.size, 0, none⟩), undef, .slice none 0 0, .pointer (some ⟨b, 0, none⟩), sv, x.v, undef, undef, undef, undef, undef], defers := [] }
theorem ApA.own (w : World) (sv : Value) (B : Nat) (x : Tr) (a : Act) : Mp.OwnB B fun (_ : Unit) W => ApA w sv x a W := by
 rintro _ W W' row ⟨b, h1, h2, h3⟩ hg hr
 exact ⟨b, h1, (grownBy_keeps_cells hg (fun r e => (hr r e).2) h2 rfl).trans h2, h3⟩
set_option maxRecDepth 100000 in
set_option maxHeartbeats 1000000 in
theorem appendSeq_in (F : Fence) (n : Nat) (h55 : F.fn 116) (hro : F.round = none) (hn : 2 ≤ n) (g : Nat) (lb : Array Value) (hFg : F.fn g) (eg : ∀ args w, (callFunc g args).run Tryz.prog w = .ok (.enter g args) w)
 (S : List Tr → Prop) (N : Nat) (hN : N ≤ 1000000) (w : World) (hseq : SeqGives F (n - 1) Tryz.prog g lb Tr.v S N w) :
 CallsIn F n Tryz.prog 116 #[.slice none 0 0, .func (.func g) #[] lb] w fun e w' => ∃ (v : Value) (ss : List Tr), e = .returned v ∧ S ss ∧ w'.ownsRow w.heap.size 49 6 v ss.length (ss.flatMap Tr.l) ∧ Below w.heap.size w w' := by
 have h1 : 1 ≤ n := by omega
 refine callsIn_of_wp_marks Tryz.func116 rfl h55 ?_ hro
 simp only [Tryz.ntmps116, List.size_toArray, List.length_cons, List.length_nil, Nat.reduceAdd, Nat.reduceSub, Array.replicate_succ, Array.replicate_zero, List.push_toArray, List.append_toArray, List.nil_append, List.cons_append]
 gi_wp2_with fail
 obtain ⟨W0, hW0⟩ : ∃ W0, w.alloc (.cells #[.slice none 0 0] 33) = W0 := ⟨_, rfl⟩
 have hs0 : W0.heap.size = w.heap.size + 1 := by rw [← hW0]; simp
 have hv0 : W0.heap[w.heap.size]? = some (.cells #[.slice none 0 0] 33 (0, 0)) := by rw [← hW0]; exact World.alloc_heap_new w _
 have hb0 : Below w.heap.size w W0 := by rw [← hW0]; exact (Below.refl _ w).alloc (Nat.le_refl _) _
 rw [hW0]
 refine Mp.wpIn_rangeAll hro h1 (gf := g) (lb := lb) rfl hFg eg hseq hb0 rfl (B := w.heap.size) (by omega) (ApI w) (ApI.own w) (ApA w (.func (.func g) #[] lb)) (ApA.own w _ _) ⟨⟨_, hv0, World.ownsRow_nil _ _ _ _⟩, hb0⟩ ?_ ?_ ?_
 ·rintro l pre x W hi
  unfold Tr.v
  gi_wp2_with (rw [Oper.semAt_eq _ _ _ (fun c h => by cases h)]; go_simp; try go_bits)
  have hsz := hi.below.size
  have hlt : w.heap.size < W.heap.size := by
   obtain ⟨v, hv, _⟩ := hi.box
   exact (Array.getElem?_eq_some_iff.1 hv).1
  exact ⟨KeepsOthers.alloc _ _, (ApI.own w).alloc _ hi, W.heap.size, hlt, World.alloc_heap_new W _, rfl⟩
 ·rintro l pre x a1 W ⟨⟨v, hv, hr⟩, hb⟩ ⟨b, hb1, hb2, rfl⟩ hlen
  have c0 : W.cell? ⟨w.heap.size, 0, none⟩ = some v := by simp [World.cell?, hv]
  have f0 : W.frozen? ⟨w.heap.size, 0, none⟩ = false := by simp [World.frozen?, hv]
  have d0 : W.cell? ⟨b, 0, none⟩ = some (.int .i64 x.a.x) := by simp [World.cell?, hb2, Tr.l]
  have d1 : W.cell? ⟨b, 1, none⟩ = some (.int .i64 x.a.y) := by simp [World.cell?, hb2, Tr.l]
  have d2 : W.cell? ⟨b, 2, none⟩ = some (.int .i64 x.b.x) := by simp [World.cell?, hb2, Tr.l]
  have d3 : W.cell? ⟨b, 3, none⟩ = some (.int .i64 x.b.y) := by simp [World.cell?, hb2, Tr.l]
  have d4 : W.cell? ⟨b, 4, none⟩ = some (.int .i64 x.c.x) := by simp [World.cell?, hb2, Tr.l]
  have d5 : W.cell? ⟨b, 5, none⟩ = some (.int .i64 x.c.y) := by simp [World.cell?, hb2, Tr.l]
  obtain ⟨i0, hi, hz1, hz2, hz0⟩ := inf26
  have hblt : b < W.heap.size := (Array.getElem?_eq_some_iff.1 hb2).1
  have hBlt : w.heap.size < W.heap.size := (Array.getElem?_eq_some_iff.1 hv).1
  have hne : ∀ k, k ≤ w.heap.size → some k ≠ v.ownBlock := fun k hk e => by
   have := (hr.lt _ e.symm).1
   omega
  have hnew : ∀ j u, x.l[j]? = some u → (W.alloc (.cells #[.int .i64 x.a.x, .int .i64 x.a.y, .int .i64 x.b.x, .int .i64 x.b.y, .int .i64 x.c.x, .int .i64 x.c.y] 49)).cell? ((⟨W.heap.size, 0, none⟩ : Addr).add j) = some u := by
   intro j u hu
   have hadd : (⟨W.heap.size, 0, none⟩ : Addr).add j = ⟨W.heap.size, j, none⟩ := by unfold Addr.add; split <;> simp_all
   rw [hadd]
   unfold World.cell? World.alloc
   simpa [Tr.l] using hu
  have hone : ∀ u ∈ x.l, u.oneCell' = true := fun u hu => by simp [Tr.l] at hu; rcases hu with rfl | rfl | rfl | rfl | rfl | rfl <;> rfl
  gi_wp2_with (first
   | (gi_at_builtin
      refine wpListIn_append_own _ rfl _ _ 33 rfl (w.heap.size + 1) 49 i0 _ 6 48 Tryz.underlying33 hi hz0 hz1 hz2 rfl (by decide) v pre.length (pre.flatMap Tr.l) rfl (hr.alloc _) ⟨W.heap.size, 0, none⟩ 1 1 x.l rfl rfl hnew hone (by simp [maxLen]; omega) (by omega) (by simp; omega) (fun v' w3 hown' hg3 _ => ?_)
      obtain ⟨g', cap', cur', rfl, hg1, hg2, hg4⟩ : ∃ g' cap' cur', v' = .slice (some ⟨g', 0, none⟩) (pre.length + 1) cap' ∧ w.heap.size + 1 ≤ g' ∧ w3.heap[g']? = some (.cells cur' 49 (0, 0)) ∧ True := by
       rcases hown'.2 with ⟨_, h0⟩ | ⟨g', cap', cur', e1, e2, e3, _⟩
       ·exact absurd h0 (by omega)
       ·exact ⟨g', cap', cur', e1, e2, e3, trivial⟩
      have hv3 : w3.heap[w.heap.size]? = some (.cells #[v] 33 (0, 0)) := (hg3.block w.heap.size (by simp; omega) (hne _ (Nat.le_refl _))).trans ((Below.heap_alloc _ _ w.heap.size hBlt).trans hv)
      have c3 : w3.cell? ⟨w.heap.size, 0, none⟩ = some v := by simp [World.cell?, hv3]
      have f3 : w3.frozen? ⟨w.heap.size, 0, none⟩ = false := by simp [World.frozen?, hv3]
      go_frame)
   | (rw [Oper.semAt_eq _ _ _ (fun c h => by cases h)]; go_simp; try go_bits))
  refine ⟨((KeepsOthers.alloc W _).trans (KeepsOthers.of_grownBy hg3 ?_)).trans (KeepsOthers.setCell _ _ _), ⟨_, heap_set_box _ hv3, ?_⟩, ?_⟩
  ·intro j o hj ho
   rcases (hr.alloc (.cells #[.int .i64 x.a.x, .int .i64 x.a.y, .int .i64 x.b.x, .int .i64 x.b.y, .int .i64 x.c.x, .int .i64 x.c.y] 49)).2 with ⟨rfl, _⟩ | ⟨g2, cap2, cur2, rfl, _, e3, _⟩
   ·simp [Value.ownBlock] at hj
   ·simp [Value.ownBlock] at hj
    subst hj
    rw [e3] at ho; cases ho; rfl
  ·have := hown'.kept (set_grown w3 w.heap.size (.slice (some ⟨g', 0, none⟩) (pre.length + 1) cap')) (.inr (by simp [Value.ownBlock]; omega))
   simpa using this
  ·exact ((hb.alloc hb.size _).grown hg3 (by have := hb.size; simp; omega) (fun k e => by have := (hr.lt k e).1; omega)).setCell (Nat.le_refl _) _
 ·rintro xs W hS ⟨⟨v, hv, hr⟩, hb⟩ hD
  have c0 : W.cell? ⟨w.heap.size, 0, none⟩ = some v := by simp [World.cell?, hv]
  gi_wp2_with fail
  refine ⟨by simp, .inl ⟨_, _, rfl, run_takeDeferred hD, ?_⟩⟩
  refine ⟨_, results_tmp rfl _ _ _, v, xs, rfl, hS, ?_, hb.grown (grownBy_putObj' _ _ _) hb.size (fun k e => by cases e; omega)⟩
  refine row_base (hr.kept (grownBy_putObj' _ _ _) ?_) (Nat.le_succ _)
  rcases hr.2 with ⟨rfl, _⟩ | ⟨g2, cap2, cur2, rfl, _, e3, _⟩
  ·exact .inl rfl
  ·refine .inr fun e => ?_
   have : g2 = W0.heap.size := by simpa [Value.ownBlock] using e
   rw [this, hD] at e3; cases e3
end Go.Proofs.YtnpnjhopgedhkaaGreat
namespace Go.Proofs.YtnpnjhopgedhkaaGreat.SortK
open Go.RowKit Go.Sort Go.Shelf
section
variable {α : Type} [Inhabited α] {enc : α → List Value} {k : Nat}
omit [Inhabited α] in
theorem flat_length (hk : ∀ x, (enc x).length = k) : ∀ l : List α, (l.flatMap enc).length = l.length * k
 | [] => by simp
 | x :: l => by rw [List.flatMap_cons, List.length_append, hk, flat_length hk l, List.length_cons, Nat.add_mul]; omega
theorem flat_get (hk : ∀ x, (enc x).length = k) (h0 : 0 < k) : ∀ (l : List α) (t : Nat) (_ : t < l.length * k), (l.flatMap enc)[t]? = some ((enc (l[t / k]?.getD default))[t % k]!)
 | [], t, h => by simp at h
 | x :: l, t, h => by
   rw [List.flatMap_cons, List.getElem?_append, hk]
   by_cases c : t < k
   ·rw [if_pos c, Nat.div_eq_of_lt c, Nat.mod_eq_of_lt c]
    have : t < (enc x).length := by rw [hk]; exact c
    simp [this]
   ·rw [if_neg c, flat_get hk h0 l (t - k) (by rw [List.length_cons, Nat.add_mul] at h; omega)]
    have e1 : t / k = (t - k) / k + 1 := by
     rw [show t = (t - k) + k by omega, Nat.add_div_right _ h0]
     simp
    have e2 : t % k = (t - k) % k := by
     rw [show t = (t - k) + k by omega, Nat.add_mod_right]
     simp
    rw [e1, e2]
    simp
theorem flatK_toList (hk : ∀ x, (enc x).length = k) (h0 : 0 < k) (d : Array α) : (flatK enc k d).toList = d.toList.flatMap enc := by
 apply List.ext_getElem?
 intro t
 by_cases h : t < d.size * k
 ·rw [flat_get hk h0 d.toList t (by simpa using h)]
  have h2 : t < (flatK enc k d).size := by rw [size_flatK]; exact h
  have := get_flatK enc k d t h
  rw [_root_.getElem!_pos (flatK enc k d) t h2] at this
  simp only [Array.getElem?_toList, Array.getElem?_eq_getElem h2, this]
  congr 3
  have hd : t / k < d.size := Nat.div_lt_of_lt_mul (by rw [Nat.mul_comm]; exact h)
  rw [_root_.getElem!_pos d (t / k) hd]
  simp [hd]
 ·have h2 : (flatK enc k d).size ≤ t := by rw [size_flatK]; omega
  rw [Array.getElem?_toList, Array.getElem?_eq_none h2, List.getElem?_eq_none]
  rw [flat_length hk]; simpa using h2
theorem holds_of (hk : ∀ x, (enc x).length = k) (h0 : 0 < k) {w : World} {g cap : Nat} {e : TypeId} {cur : Array Value} (l : List α) (hb : w.heap[g]? = some (.cells cur e (0, 0))) (hc : cur.size = cap * k) (hl : l.length ≤ cap)
 (ht : cur.toList.take (l.length * k) = l.flatMap enc) : HoldsK enc k w g 0 l.toArray := by
 intro j hj
 rw [size_flatK] at hj
 have hj' : j < l.length * k := by simpa using hj
 have hjc : j < cur.size := by
  rw [hc]
  exact Nat.lt_of_lt_of_le hj' (Nat.mul_le_mul_right k hl)
 have h2 : j < (flatK enc k l.toArray).size := by rw [size_flatK]; exact hj
 have e1 : cur[j]? = some (flatK enc k l.toArray)[j]! := by
  have := congrArg (fun z => z[j]?) ht
  simp only [List.getElem?_take, if_pos hj'] at this
  rw [← Array.getElem?_toList, this, ← show (flatK enc k l.toArray).toList = l.flatMap enc from flatK_toList hk h0 _, Array.getElem?_toList, Array.getElem?_eq_getElem h2, _root_.getElem!_pos (flatK enc k l.toArray) j h2]
 constructor
 ·unfold World.cell?
  simp only [hb, Nat.zero_add]
  exact e1
 ·unfold World.frozen?
  simp [hb]
theorem heap_sortedK {w : World} {g n : Nat} {e : TypeId} {cur : Array Value} (d : Array α) (os : Array Obj) (hb : w.heap[g]? = some (.cells cur e (0, 0))) :
 (sortWorldK enc k w g 0 n d os).heap[g]? = some (.cells (putCells id 0 (flatK enc k d) cur) e (0, 0)) := by
 have hg : g < w.heap.size := (Array.getElem?_eq_some_iff.1 hb).1
 unfold sortWorldK putRowK putRow
 rw [heap_grow_old _ _ (by simpa [mapBlock, Sort.ahead] using hg)]
 simp [mapBlock, Sort.ahead, Array.getElem?_modify, hb, onCells]
theorem take_putK (hk : ∀ x, (enc x).length = k) (h0 : 0 < k) (d : Array α) (cur : Array Value) (h : d.size * k ≤ cur.size) : (putCells id 0 (flatK enc k d) cur).toList.take (d.size * k) = d.toList.flatMap enc := by
 rw [← flatK_toList hk h0]
 apply List.ext_getElem?
 intro t
 rw [List.getElem?_take]
 by_cases c : t < d.size * k
 ·rw [if_pos c]
  have h2 : t < (flatK enc k d).size := by rw [size_flatK]; exact c
  have h3 : t < cur.size := by omega
  simp [putCells, h3, c]
 ·rw [if_neg c, List.getElem?_eq_none]
  simp; omega
theorem row_sorted (hk : ∀ x, (enc x).length = k) (h0 : 0 < k) {w : World} {base g cap n m : Nat} {e : TypeId} {cur : Array Value} (d : Array α) (os : Array Obj) (hm : d.size = m) (hbase : base ≤ g) (hb : w.heap[g]? = some (.cells cur e (0, 0)))
 (h1 : m ≤ cap) (h2 : cap ≤ maxLen) (h3 : cur.size = cap * k) :
 (sortWorldK enc k w g 0 n d os).ownsRow base e k (.slice (some ⟨g, 0, none⟩) m cap) m (d.toList.flatMap enc) :=
 ⟨by rw [flat_length hk]; simp [hm], .inr ⟨g, cap, _, rfl, hbase, heap_sortedK d os hb, h1, h2, by simp [putCells, h3], by
   subst hm; exact take_putK hk h0 d cur (by rw [h3]; exact Nat.mul_le_mul_right k h1)⟩⟩
theorem grown_sorted {w : World} {g n : Nat} (d : Array α) (os : Array Obj) : w.grownBy (sortWorldK enc k w g 0 n d os) (some g) := by
 refine ⟨rfl, rfl, rfl, ?_, fun i hi hne => ?_⟩
 ·simp [sortWorldK, putRowK, putRow, mapBlock, Sort.ahead]
 ·unfold sortWorldK putRowK putRow
  rw [heap_grow_old _ _ (by simp [mapBlock, Sort.ahead]; omega)]
  simp [mapBlock, Sort.ahead, Array.getElem?_modify]
  intro e; exact absurd (by rw [e]) hne
end
end Go.Proofs.YtnpnjhopgedhkaaGreat.SortK
/-
 DERIVED: THE SHELF's CONTRACTS AT THIS DUMP, IN PLAIN WORDS (tools/lay-plain.mjs out of 'YtnpnjhopgedhkaaGreatShelf.lean', which tools/lay-shelf.mjs wrote): THE SAME DECLARATIONS UNDER THE SAME NAMES: 'import', 'namespace', 'open', 'def', 'theorem' AND NOTHING ELSE: no command of the shelf's: FOR A HAND-IN. Each laying: the table of numbers ('.._ren') and one theorem, a field a fact of the dump's own or the kernel's comparison; each contract: ONE APPLICATION.
-/
namespace Go.Proofs
open Go.Shelf
def Tryz.lSortTri_ren : Go.Shelf.Ren := ⟨fun | 6 => 102 | 15 => 118 | 14 => 117 | 28 => 131 | 29 => 132 | 20 => 123 | 21 => 124 | 22 => 125 | 23 => 126 | 24 => 127 | 25 => 128 | 26 => 129 | 27 => 130 | 46 => 133 | 47 => 134 | 48 => 135 | 49 => 136 | 50 => 137 | 57 => 138 | n => n, fun | 22 => 33 | 24 => 49 | 25 => 105 | 3 => 3 | 39 => 139 | 0 => 0 | 53 => 173 | 55 => 110 | 4 => 4 | 46 => 166 | 45 => 165 | 50 => 170 | 5 => 5 | 9 => 9 | 66 => 175 | 70 => 179 | 76 => 181 | 77 => 182 | n => n, fun | n => n⟩
theorem Tryz.lSortTri : Go.Proofs.SlLaysF0.n6 Tryz.prog Tryz.lSortTri_ren := {
 mixed := by kernel_rfl
 f6 := ⟨Tryz.f102.name, by decide, Tryz.func102.trans (congrArg some (by kernel_rfl))⟩
 f14 := ⟨Tryz.f117.name, by decide, Tryz.func117.trans (congrArg some (by kernel_rfl))⟩
 f15 := Tryz.func118.trans (congrArg some (by kernel_rfl))
 f20 := ⟨Tryz.f123.name, by decide, Tryz.func123.trans (congrArg some (by kernel_rfl))⟩
 f21 := ⟨Tryz.f124.name, by decide, Tryz.func124.trans (congrArg some (by kernel_rfl))⟩
 f22 := ⟨Tryz.f125.name, by decide, Tryz.func125.trans (congrArg some (by kernel_rfl))⟩
 f23 := ⟨Tryz.f126.name, by decide, Tryz.func126.trans (congrArg some (by kernel_rfl))⟩
 f24 := ⟨Tryz.f127.name, by decide, Tryz.func127.trans (congrArg some (by kernel_rfl))⟩
 f25 := ⟨Tryz.f128.name, by decide, Tryz.func128.trans (congrArg some (by kernel_rfl))⟩
 f26 := ⟨Tryz.f129.name, by decide, Tryz.func129.trans (congrArg some (by kernel_rfl))⟩
 f27 := ⟨Tryz.f130.name, by decide, Tryz.func130.trans (congrArg some (by kernel_rfl))⟩
 f28 := Tryz.func131.trans (congrArg some (by kernel_rfl))
 f29 := Tryz.func132.trans (congrArg some (by kernel_rfl))
 f46 := ⟨Tryz.f133.name, by decide, Tryz.func133.trans (congrArg some (by kernel_rfl))⟩
 f47 := Tryz.func134.trans (congrArg some (by kernel_rfl))
 f48 := Tryz.func135.trans (congrArg some (by kernel_rfl))
 f49 := ⟨Tryz.f136.name, by decide, Tryz.func136.trans (congrArg some (by kernel_rfl))⟩
 f50 := ⟨Tryz.f137.name, by decide, Tryz.func137.trans (congrArg some (by kernel_rfl))⟩
 f57 := ⟨Tryz.f138.name, by decide, Tryz.func138.trans (congrArg some (by kernel_rfl))⟩
 t0 := Tryz.underlying0
 a0 := Tryz.isAgg0
 z0 := Tryz.sizeOf0
 v0 := Tryz.zeroValue0
 t3 := Tryz.underlying3
 a3 := Tryz.isAgg3
 z3 := Tryz.sizeOf3
 v3 := Tryz.zeroValue3
 t4 := Tryz.underlying4
 a4 := Tryz.isAgg4
 z4 := Tryz.sizeOf4
 v4 := Tryz.zeroValue4
 t5 := Tryz.underlying5
 a5 := Tryz.isAgg5
 z5 := Tryz.sizeOf5
 v5 := Tryz.zeroValue5
 t9 := Tryz.underlying9
 a9 := Tryz.isAgg9
 z9 := Tryz.sizeOf9
 v9 := Tryz.zeroValue9
 t22 := Tryz.underlying33
 a22 := Tryz.isAgg33
 z22 := Tryz.sizeOf33
 v22 := Tryz.zeroValue33
 t25 := Tryz.underlying105
 a25 := Tryz.isAgg105
 z25 := Tryz.sizeOf105
 v25 := Tryz.zeroValue105
 t39 := Tryz.underlying139
 a39 := Tryz.isAgg139
 z39 := Tryz.sizeOf139
 v39 := Tryz.zeroValue139
 t45 := Tryz.underlying165
 a45 := Tryz.isAgg165
 z45 := Tryz.sizeOf165
 v45 := Tryz.zeroValue165
 t46 := Tryz.underlying166
 a46 := Tryz.isAgg166
 z46 := Tryz.sizeOf166
 v46 := Tryz.zeroValue166
 t50 := Tryz.underlying170
 a50 := Tryz.isAgg170
 z50 := Tryz.sizeOf170
 v50 := Tryz.zeroValue170
 t53 := Tryz.underlying173
 a53 := Tryz.isAgg173
 z53 := Tryz.sizeOf173
 v53 := Tryz.zeroValue173
 t55 := Tryz.underlying110
 a55 := Tryz.isAgg110
 z55 := Tryz.sizeOf110
 v55 := Tryz.zeroValue110
 t66 := Tryz.underlying175
 a66 := Tryz.isAgg175
 z66 := Tryz.sizeOf175
 v66 := Tryz.zeroValue175
 t70 := Tryz.underlying179
 a70 := Tryz.isAgg179
 z70 := Tryz.sizeOf179
 v70 := Tryz.zeroValue179
 t76 := Tryz.underlying181
 a76 := Tryz.isAgg181
 z76 := Tryz.sizeOf181
 v76 := Tryz.zeroValue181
 t77 := Tryz.underlying182
 a77 := Tryz.isAgg182
 z77 := Tryz.sizeOf182
 v77 := Tryz.zeroValue182 }
end Go.Proofs
namespace Go.Proofs.YtnpnjhopgedhkaaGreat
open Go.RowKit V Geo Go.Shelf Go.Sort
instance : Inhabited Pt := ⟨⟨0, 0⟩⟩
instance : Inhabited Tr := ⟨⟨⟨0, 0⟩, ⟨0, 0⟩, ⟨0, 0⟩⟩⟩
theorem cp_eqx {p q : Pt} (h : cp p q = 0) : p.x = q.x ∧ p.y = q.y := by
 have := cp_zero.1 h
 exact ⟨congrArg Pt.x this, congrArg Pt.y this⟩
theorem or_cmp (a b c : Int) : orI [a, b, c] = if a = 0 then (if b = 0 then (if c = 0 then 0 else c) else b) else a := by
 simp only [orI]
def Tr.lt (a b : Tr) : Bool := decide (a.cmp b < 0)
theorem tr_lt (a b : Tr) : a.lt b = true ↔ a.a.x < b.a.x ∨ a.a.x = b.a.x ∧ (a.a.y < b.a.y ∨ a.a.y = b.a.y ∧ (a.b.x < b.b.x ∨ a.b.x = b.b.x ∧ (a.b.y < b.b.y ∨ a.b.y = b.b.y ∧ (a.c.x < b.c.x ∨ a.c.x = b.c.x ∧ a.c.y < b.c.y)))) := by
 unfold Tr.lt Tr.cmp
 rw [decide_eq_true_eq, or_cmp]
 rcases cp_three a.a b.a with e | e | e
 ·have h := cp_neg.1 (show cp a.a b.a < 0 by omega)
  rw [e, if_neg (by omega)]; omega
 ·have h := cp_eqx e
  rw [e, if_pos rfl]
  rcases cp_three a.b b.b with f | f | f
  ·have k := cp_neg.1 (show cp a.b b.b < 0 by omega)
   rw [f, if_neg (by omega)]; omega
  ·have k := cp_eqx f
   rw [f, if_pos rfl]
   rcases cp_three a.c b.c with g | g | g
   ·have m := cp_neg.1 (show cp a.c b.c < 0 by omega)
    rw [g, if_neg (by omega)]; omega
   ·have m := cp_eqx g
    rw [g, if_pos rfl]; omega
   ·have m := cp_pos.1 (show 0 < cp a.c b.c by omega)
    rw [g, if_neg (by omega)]; omega
  ·have k := cp_pos.1 (show 0 < cp a.b b.b by omega)
   rw [f, if_neg (by omega)]; omega
 ·have h := cp_pos.1 (show 0 < cp a.a b.a by omega)
  rw [e, if_neg (by omega)]; omega
def Geo.Pt.lt (a b : Pt) : Bool := decide (cp a b < 0)
theorem pt_lt (a b : Pt) : a.lt b = true ↔ a.x < b.x ∨ a.x = b.x ∧ a.y < b.y := by
 unfold Pt.lt
 rw [decide_eq_true_eq, cp_neg]
def Geo.Pt.l (p : Pt) : List Value := [.int .i64 p.x, .int .i64 p.y]
theorem tr_swo : SWO (ltOf Tr.cmp) where
 irrefl x := by have := tr_lt x x; unfold Tr.lt at this; unfold ltOf; rw [Bool.eq_false_iff, ne_eq, this]; omega
 trans x y z h1 h2 := by
  have a := (tr_lt x y).1 h1; have b := (tr_lt y z).1 h2; refine (tr_lt x z).2 ?_; omega
 ntrans x y z h1 h2 := by
  have a : ¬ (x.lt y = true) := Bool.eq_false_iff.1 h1
  have b : ¬ (y.lt z = true) := Bool.eq_false_iff.1 h2
  refine Bool.eq_false_iff.2 fun h => ?_
  have c := (tr_lt x z).1 h
  rw [tr_lt] at a b
  omega
def sortT (l : List Tr) : List Tr := l.mergeSort fun a b => !b.lt a
theorem sortT_perm (l : List Tr) : (sortT l).Perm l := List.mergeSort_perm _ _
theorem tr_total (a b : Tr) (h1 : a.lt b = false) (h2 : b.lt a = false) : a = b := by
 have h1 : ¬ (a.lt b = true) := Bool.eq_false_iff.1 h1
 have h2 : ¬ (b.lt a = true) := Bool.eq_false_iff.1 h2
 rw [tr_lt] at h1 h2
 obtain ⟨⟨a1, a2⟩, ⟨a3, a4⟩, ⟨a5, a6⟩⟩ := a
 obtain ⟨⟨b1, b2⟩, ⟨b3, b4⟩, ⟨b5, b6⟩⟩ := b
 (try dsimp only at h1 h2)
 simp only [Tr.mk.injEq, Pt.mk.injEq]
 omega
theorem sortT_sorted (l : List Tr) : (sortT l).Pairwise fun a b => b.lt a = false := by
 have := List.pairwise_mergeSort (le := fun a b : Tr => !b.lt a) (fun a b c h1 h2 => by
  simp only [Bool.not_eq_true'] at h1 h2 ⊢
  exact tr_swo.ntrans _ _ _ h2 h1) (fun a b => by
  simp only [Bool.or_eq_true, Bool.not_eq_true']
  cases h : b.lt a
  ·exact .inl rfl
  ·refine .inr ?_
   have h2 : ¬ (a.lt b = true) := by rw [tr_lt] at h ⊢; omega
   exact Bool.eq_false_iff.2 h2) l
 exact this.imp (fun h => by simpa using h)
theorem sorted_uniqueT {l l' : List Tr} (hp : l.Perm l') (h : l.Pairwise fun a b => b.lt a = false) (h' : l'.Pairwise fun a b => b.lt a = false) : l = l' :=
 List.Perm.eq_of_pairwise (le := fun a b => b.lt a = false) (fun a b _ _ h1 h2 => tr_total _ _ h2 h1) h h' hp
theorem sortT_eq {l l' : List Tr} (hp : l.Perm l') : sortT l = sortT l' :=
 sorted_uniqueT ((sortT_perm l).trans (hp.trans (sortT_perm l').symm)) (sortT_sorted l) (sortT_sorted l')
theorem cmp_laysT (blk off size : Nat) (w : World) : CmpLays Tryz.prog 89 #[] Tr.l 6 Tr.cmp blk off size w :=
 fun _ _ _ _ x y => (cmpT_c x y _).mono fun _ _ h => ⟨h.1, h.2⟩
def flatT (l : List Tr) : List Value := l.flatMap Tr.l
theorem cellsT (l : List Tr) : cellsL (l.map Tr.v) = flatT l := by
 unfold cellsL flatT
 rw [List.flatMap_map]
 rfl
theorem sort_gT (l : List Tr) (hlen : l.length < 1000000) (w : World) (v : Value) (h : w.ownsRow 0 49 6 v (l.map Tr.v).length (cellsL (l.map Tr.v))) :
 Calls Tryz.prog 102 #[v, .func (.func 89) #[] #[]] w fun e w' => e = .returned (.tuple #[]) ∧ w'.ownsRow 0 49 6 v (l.map Tr.v).length (cellsL ((sortT l).map Tr.v)) ∧ w.grownBy w' v.ownBlock := by
 rw [cellsT, List.length_map] at h
 rw [List.length_map, cellsT]
 obtain ⟨h1, ⟨rfl, h2⟩ | ⟨g, cap, cur, rfl, h3, h4, h5, h6, h7, h8⟩⟩ := h
 ·have hl : l = [] := List.eq_nil_of_length_eq_zero h2
  subst hl
  have hcon := AnyF.slices_SortFunc_none (P := Tryz.prog) (ρ := Tryz.lSortTri_ren) { Tryz.lSortTri with } none 0 (.func (.func 89) #[] #[]) w
  change Calls Tryz.prog 102 _ _ _ at hcon
  refine hcon.mono ?_
  rintro e w' ⟨rfl, rfl⟩
  exact ⟨rfl, ⟨by simp [flatT, sortT], .inl ⟨rfl, rfl⟩⟩, ⟨rfl, rfl, rfl, Nat.le_refl _, fun _ _ _ => rfl⟩⟩
 ·have eg : ∀ args w, (callFunc 89 args).run Tryz.prog w = .ok (.enter 89 args) w := enters_of Tryz.func89 (by kernel_rfl) rfl
  have hk : ∀ x : Tr, (Tr.l x).length = 6 := fun _ => rfl
  have hg : g < w.heap.size := (Array.getElem?_eq_some_iff.1 h4).1
  have hH := SortK.holds_of (enc := Tr.l) hk (by decide) l h4 h7 h5 h8
  have hcon := AnyQ.slices_SortFunc Tryz.lSortTri 6 Tryz.isAgg49 Tryz.sizeOf49 Tr.l hk (fun x v hv => by simp [Tr.l] at hv; rcases hv with rfl | rfl | rfl | rfl | rfl | rfl <;> rfl) Tr.cmp tr_swo 89 #[] g 0 cap l.toArray w eg (cmp_laysT _ _ _ _) hH hg (by simp; omega)
  change Calls Tryz.prog 102 _ _ _ at hcon
  rw [List.size_toArray] at hcon
  refine hcon.mono ?_
  rintro e w' ⟨rfl, d', n, os, hp, hs, rfl⟩
  obtain ⟨p1', p2, p3⟩ := hp
  have p1 : d'.size = l.length := p1'
  have hd : d'.toList = sortT l := by
   have e1 : d'.extract 0 l.length = d' := by rw [← p1]; simp
   have e2 : l.toArray.extract 0 l.length = l.toArray := by simp
   rw [e1, e2] at p3
   refine sorted_uniqueT (p3.trans (sortT_perm l).symm) ?_ (sortT_sorted l)
   rw [List.pairwise_iff_getElem]
   intro i j hi hj hij
   have := hs i j (Nat.zero_le _) hij (by simpa [p1] using hj)
   have hi' : i < d'.size := by simpa using hi
   have hj' : j < d'.size := by simpa using hj
   rw [_root_.getElem!_pos d' i hi', _root_.getElem!_pos d' j hj'] at this
   simpa [Tr.lt, ltOf] using this
  refine ⟨rfl, ?_, SortK.grown_sorted _ _⟩
  have := SortK.row_sorted (enc := Tr.l) (n := n) hk (by decide) d' os p1 h3 h4 h5 h6 h7
  rw [hd] at this
  exact this
theorem pt_swo : SWO (ltOf cp) where
 irrefl x := by have := pt_lt x x; unfold Pt.lt at this; unfold ltOf; rw [Bool.eq_false_iff, ne_eq, this]; omega
 trans x y z h1 h2 := by
  have a := (pt_lt x y).1 h1; have b := (pt_lt y z).1 h2; refine (pt_lt x z).2 ?_; omega
 ntrans x y z h1 h2 := by
  have a : ¬ (x.lt y = true) := Bool.eq_false_iff.1 h1
  have b : ¬ (y.lt z = true) := Bool.eq_false_iff.1 h2
  refine Bool.eq_false_iff.2 fun h => ?_
  have c := (pt_lt x z).1 h
  rw [pt_lt] at a b
  omega
def sortP (l : List Pt) : List Pt := l.mergeSort fun a b => !b.lt a
theorem sortP_perm (l : List Pt) : (sortP l).Perm l := List.mergeSort_perm _ _
theorem pt_total (a b : Pt) (h1 : a.lt b = false) (h2 : b.lt a = false) : a = b := by
 have h1 : ¬ (a.lt b = true) := Bool.eq_false_iff.1 h1
 have h2 : ¬ (b.lt a = true) := Bool.eq_false_iff.1 h2
 rw [pt_lt] at h1 h2
 obtain ⟨a1, a2⟩ := a
 obtain ⟨b1, b2⟩ := b
 (try dsimp only at h1 h2)
 simp only [Pt.mk.injEq]
 omega
theorem sortP_sorted (l : List Pt) : (sortP l).Pairwise fun a b => b.lt a = false := by
 have := List.pairwise_mergeSort (le := fun a b : Pt => !b.lt a) (fun a b c h1 h2 => by
  simp only [Bool.not_eq_true'] at h1 h2 ⊢
  exact pt_swo.ntrans _ _ _ h2 h1) (fun a b => by
  simp only [Bool.or_eq_true, Bool.not_eq_true']
  cases h : b.lt a
  ·exact .inl rfl
  ·refine .inr ?_
   have h2 : ¬ (a.lt b = true) := by rw [pt_lt] at h ⊢; omega
   exact Bool.eq_false_iff.2 h2) l
 exact this.imp (fun h => by simpa using h)
theorem sorted_uniqueP {l l' : List Pt} (hp : l.Perm l') (h : l.Pairwise fun a b => b.lt a = false) (h' : l'.Pairwise fun a b => b.lt a = false) : l = l' :=
 List.Perm.eq_of_pairwise (le := fun a b => b.lt a = false) (fun a b _ _ h1 h2 => pt_total _ _ h2 h1) h h' hp
end Go.Proofs.YtnpnjhopgedhkaaGreat
namespace Go.Proofs.YtnpnjhopgedhkaaGreat
open Go.RowKit V Geo
theorem row_rebase {W : World} {b b' : Nat} {e : TypeId} {size : Nat} {v : Value} {k : Nat} {xs : List Value} (h : W.ownsRow b e size v k xs) (hb : ∀ g, v.ownBlock = some g → b' ≤ g) : W.ownsRow b' e size v k xs := by
 refine ⟨h.1, ?_⟩
 rcases h.2 with h0 | ⟨g, cap, cur, e1, e2, rest⟩
 ·exact .inl h0
 ·exact .inr ⟨g, cap, cur, e1, hb g (by rw [e1]; rfl), rest⟩
theorem sortT_len (l : List Tr) : (sortT l).length = l.length := (sortT_perm l).length_eq
theorem collect_c (g : Nat) (lb : Array Value) (eg : ∀ args w, (callFunc g args).run Tryz.prog w = .ok (.enter g args) w) (S : List Tr → Prop) (N : Nat) (hN : N ≤ 1000000) (w : World) (hseq : SeqGives Fence.wide 5 Tryz.prog g lb Tr.v S N w) :
 Calls Tryz.prog 101 #[.func (.func g) #[] lb] w fun e w' => ∃ (v : Value) (ss : List Tr), e = .returned v ∧ S ss ∧ w'.ownsRow w.heap.size 49 6 v ss.length (ss.flatMap Tr.l) ∧ Below w.heap.size w w' := by
 have h := callsIn_wide.1 (appendSeq_in Fence.wide 6 trivial rfl (by decide) g lb trivial eg S N hN w hseq)
 go_enter Tryz.func101, Tryz.ntmps101
 go_wp2_with (go_at_call 116; refine h.mono ?_; rintro e w' ⟨v, ss, rfl, hS, hrow, hb⟩)
 go_ret
 exact ⟨v, ss, rfl, hS, hrow, hb⟩
theorem keysSorted_c (Bm b : Nat) (s : List (Tr × Bool)) (few : s.length < 100000) (w : World) (hBm : Bm < w.heap.size) (hm : w.cell? ⟨Bm, 0, none⟩ = some (.map (some b))) (hown : Mp.Is Tr.v Value.bool w b s) :
 Calls Tryz.prog 87 #[.func (.func 103) #[] #[.pointer (some ⟨Bm, 0, none⟩)], .func (.func 89) #[] #[]] w fun e w' => ∃ v : Value, e = .returned v ∧ w'.ownsRow w.heap.size 49 6 v ((sortT (s.map (·.1))).map Tr.v).length (cellsL ((sortT (s.map (·.1))).map Tr.v)) ∧ Below w.heap.size w w' := by
 have eg : ∀ args w, (callFunc 103 args).run Tryz.prog w = .ok (.enter 103 args) w := enters_of Tryz.func103 (by kernel_rfl) rfl
 have hseq := (keys_stops Fence.wide 5 trivial rfl (by decide) Bm b s w hBm hm hown).gives
 have hc := collect_c 103 #[.pointer (some ⟨Bm, 0, none⟩)] eg _ s.length (by omega) w hseq
 go_enter Tryz.func87, Tryz.ntmps87
 go_wp2_with (go_at_call 101; refine hc.mono ?_; rintro e w1 ⟨v, ss, rfl, hS, hrow, hb⟩)
 have hlen : ss.length = s.length := by have := hS.length_eq; simpa using this
 have hrow' : w1.ownsRow 0 49 6 v (ss.map Tr.v).length (cellsL (ss.map Tr.v)) := by
  rw [cellsT, List.length_map]
  exact row_base hrow (Nat.zero_le _)
 have hsort := sort_gT ss (by omega) w1 v hrow'
 go_wp2_with (go_at_call 102; refine hsort.mono ?_; rintro e w2 ⟨rfl, hrow2, hg2⟩)
 go_ret
 refine ⟨v, rfl, ?_, hb.grown hg2 hb.size fun k e => (hrow.lt k e).1⟩
 have e1 : sortT (s.map (·.1)) = sortT ss := sortT_eq hS.symm
 rw [e1]
 have e2 : ((sortT ss).map Tr.v).length = (ss.map Tr.v).length := by rw [List.length_map, List.length_map, sortT_len]
 rw [e2]
 exact row_rebase hrow2 fun g hg => (hrow.lt g hg).1
end Go.Proofs.YtnpnjhopgedhkaaGreat
namespace Go.Proofs.YtnpnjhopgedhkaaGreat
open Go.RowKit V Geo
end Go.Proofs.YtnpnjhopgedhkaaGreat
namespace Go.Proofs.YtnpnjhopgedhkaaGreat.V
open Go.RowKit
universe u
theorem cellsL_app (xs ys : List Value) : cellsL (xs ++ ys) = cellsL xs ++ cellsL ys := by
 unfold cellsL; rw [List.flatMap_append]
theorem IsL.cut {h : Hd} {w : World} {k : Nat} {xs : List Value} {a : Option Addr} {len cap : Nat} (H : IsL h w k xs (.slice a len cap)) (j1 j2 : Nat) (h1 : j1 ≤ j2) (h2 : j2 ≤ xs.length) :
 IsL h w k ((xs.take j2).drop j1) (sliced a j1 j2 cap k) := by
 unfold sliced
 have hlen : ((xs.take j2).drop j1).length = j2 - j1 := by rw [List.length_drop, List.length_take]; omega
 by_cases he : j1 = j2
 ·refine .inl ⟨List.eq_nil_of_length_eq_zero (by omega), ?_⟩
  have : j2 - j1 = 0 := by omega
  rw [this]
  exact ⟨_, _, rfl⟩
 rcases H with ⟨e, _⟩ | ⟨b, o, cap', hv, hc, hi⟩
 ·rw [e] at h2; simp at h2; omega
 ·cases hv
  refine .inr ⟨b, o + j1 * k, cap - j1, ?_, by omega, ?_⟩
  ·rw [hlen, if_neg (by omega)]
   simp [Addr.add]
  ·refine ⟨hi.lt, hi.im, fun x hx => hi.sz x (List.mem_of_mem_take (List.mem_of_mem_drop hx)), ?_⟩
   intro j c hj
   have e1 : xs = xs.take j1 ++ ((xs.take j2).drop j1 ++ xs.drop j2) := by
    have a1 : xs.take j1 ++ (xs.take j2).drop j1 = xs.take j2 := by
     have := List.take_append_drop j1 (xs.take j2)
     rw [List.take_take, Nat.min_eq_left h1] at this
     exact this
    rw [← List.append_assoc, a1, List.take_append_drop]
   have hl1 : (cellsL (xs.take j1)).length = j1 * k := by
    rw [len_cellsL (fun y hy => hi.sz y (List.mem_of_mem_take hy)), List.length_take, Nat.min_eq_left (by omega)]
   have e2 : (cellsL xs)[j1 * k + j]? = some c := by
    rw [e1, cellsL_app, List.getElem?_append_right (by omega), hl1, Nat.add_sub_cancel_left, cellsL_app, List.getElem?_append_left (List.getElem?_eq_some_iff.1 hj).1]
    exact hj
   have := hi.cell _ _ e2
   rw [Nat.add_assoc]
   exact this
section
variable {P : Program} {E : Env} {ops : Array Oper} {rest : List Oper} {s : S} {K : S → Prop}
variable {c : Nat} {t : List (Nat × AV)} {L : List (Nat × VO)} {G : Nat → Option VO} {d ty : Nat} {pos : String} {af : Array Edge} {tab : Tab}
theorem VR.sliceH {T : TypeId} {ti te : TI} {e0 : Nat} {x y : Operand} {q : Nat} {xs : List Value} {kd : IntKind} {i : Int} (j : Nat) (hT : Tab.Ok P tab) (hn : Nat.ble (d + 1) E.nt = true) (hti : lk tab T = some ti) (he : ti.slc = some e0) (hte : lk tab e0 = some te)
 (hx : eva ⟨c, t, L, G⟩ x = some (.d (.lst q xs))) (hq : q = te.size) (hy : fl ⟨c, t, L, G⟩ y = some (.int kd i)) (hi : i = (j : Int)) (hj : j ≤ xs.length)
 (k : VR P E ops rest ⟨c, (d, .a (.d (.lst q (xs.take j)))) :: t, L, G⟩ K) :
 VR P E ops (⟨some d, .slice T x none (some y) none, ty, pos, af, none⟩ :: rest) ⟨c, t, L, G⟩ K := by
 refine VR.val rfl rfl (Nat.le_of_ble_eq_true hn) (.a (.d (.lst q (xs.take j)))) (fun h w a H => ?_) k
 have hr := H.eva hx
 have hyv := H.fl hy
 subst hi hq
 have hu := (hT T ti hti).slice he
 have hz := (hT e0 te hte).run_size w
 have hsl : ∃ ad len cap, a.eval x = .slice ad len cap ∧ j ≤ cap := by
  rcases hr with ⟨e, ad, cap, h1⟩ | ⟨b, o, cap, h1, h2, h3⟩
  ·rw [e] at hj; simp at hj; exact ⟨ad, 0, cap, h1, by omega⟩
  ·exact ⟨_, _, cap, h1, by omega⟩
 obtain ⟨ad, len, cap, h1, h2⟩ := hsl
 have hr' : IsL h w te.size xs (.slice ad len cap) := h1 ▸ hr
 refine ⟨sliced ad 0 j cap te.size, ?_, ?_⟩
 ·have h0 : (0 : Int) ≤ (j : Int) := by omega
  have h3 : (j : Int) ≤ (cap : Int) := by omega
  simp [execOp, h1, hyv, Instr.sliceAt, run_underlying hu, Instr.slice, Instr.sliceBounds, run_sliceBound, hz, sliced, h2]
 ·have := hr'.cut 0 j (Nat.zero_le _) hj
  rw [List.drop_zero] at this
  exact this
theorem VR.sliceL {T : TypeId} {ti te : TI} {e0 : Nat} {x y : Operand} {q : Nat} {xs : List Value} {kd : IntKind} {i : Int} (j : Nat) (hT : Tab.Ok P tab) (hn : Nat.ble (d + 1) E.nt = true) (hti : lk tab T = some ti) (he : ti.slc = some e0) (hte : lk tab e0 = some te)
 (hx : eva ⟨c, t, L, G⟩ x = some (.d (.lst q xs))) (hq : q = te.size) (hy : fl ⟨c, t, L, G⟩ y = some (.int kd i)) (hi : i = (j : Int)) (hj : j ≤ xs.length)
 (k : VR P E ops rest ⟨c, (d, .a (.d (.lst q (xs.drop j)))) :: t, L, G⟩ K) :
 VR P E ops (⟨some d, .slice T x (some y) none none, ty, pos, af, none⟩ :: rest) ⟨c, t, L, G⟩ K := by
 refine VR.val rfl rfl (Nat.le_of_ble_eq_true hn) (.a (.d (.lst q (xs.drop j)))) (fun h w a H => ?_) k
 have hr := H.eva hx
 have hyv := H.fl hy
 subst hi hq
 have hu := (hT T ti hti).slice he
 have hz := (hT e0 te hte).run_size w
 have hsl : ∃ ad cap, a.eval x = .slice ad xs.length cap := by
  rcases hr with ⟨e, ad, cap, h1⟩ | ⟨b, o, cap, h1, h2, h3⟩
  ·rw [e]; exact ⟨ad, cap, h1⟩
  ·exact ⟨_, cap, h1⟩
 obtain ⟨ad, cap, h1⟩ := hsl
 have hr' : IsL h w te.size xs (.slice ad xs.length cap) := h1 ▸ hr
 refine ⟨sliced ad j xs.length cap te.size, ?_, ?_⟩
 ·simp [execOp, h1, hyv, Instr.sliceAt, run_underlying hu, Instr.slice, Instr.sliceBounds, run_sliceBound, hz, sliced, hj]
 ·have := hr'.cut j xs.length hj (Nat.le_refl _)
  rw [List.take_length] at this
  exact this
end
end Go.Proofs.YtnpnjhopgedhkaaGreat.V
namespace Go.Proofs.YtnpnjhopgedhkaaGreat.V
open Go.RowKit
universe u
def Id.isG (g : Nat) : Id → Bool
 | .g n => Nat.beq n g
 | _ => false
def A.gno (g : Nat) : A → Bool
 | .ptr i _ | .mp i | .own i | .oel i _ _ _ => !i.isG g
 | _ => true
def AV.gno (g : Nat) : AV → Bool
 | .a x => x.gno g
 | .fn _ l | .tup l | .agg l => l.all (A.gno g)
 | .may _ _ _ x => x.gno g
def VO.gno (g : Nat) : VO → Bool
 | .box l => l.all (A.gno g)
 | _ => true
theorem Id.isG_self (g : Nat) : Id.isG g (.g g) = true := Nat.beq_refl g
theorem A.gno_says {g : Nat} {x : A} (h : x.gno g = true) : ¬ x.says (.g g) := by
 intro e
 cases x <;> simp only [A.says] at e <;> (try exact e) <;> (subst e; simp [A.gno, Id.isG_self] at h)
theorem AV.gno_says {g : Nat} {x : AV} (h : x.gno g = true) : ¬ x.says (.g g) := by
 intro e
 cases x with
 | a x => exact A.gno_says h e
 | fn f l => obtain ⟨y, hy, e⟩ := e; exact A.gno_says (List.all_eq_true.1 h y hy) e
 | tup l => obtain ⟨y, hy, e⟩ := e; exact A.gno_says (List.all_eq_true.1 h y hy) e
 | agg l => obtain ⟨y, hy, e⟩ := e; exact A.gno_says (List.all_eq_true.1 h y hy) e
 | may j wt q x => exact A.gno_says h e.2
theorem VO.gno_says {g : Nat} {x : VO} (h : x.gno g = true) : ¬ x.says (.g g) := by
 intro e
 cases x with
 | box l => obtain ⟨y, hy, e⟩ := e; exact A.gno_says (List.all_eq_true.1 h y hy) e
 | row a b c => exact e
 | map a b c d => exact e
 | itr a b c d e' f => exact e
def dropH (g : Nat) (h : Hd) : Hd := fun i => if i = .g g then none else h i
def dropG (g : Nat) (G : Nat → Option VO) : Nat → Option VO := fun n => if n = g then none else G n
theorem dropH_some {g : Nat} {h : Hd} {i : Id} {u : Value} (e : dropH g h i = some u) : i ≠ .g g ∧ h i = some u := by
 unfold dropH at e
 split at e
 ·cases e
 ·rename_i hn; exact ⟨hn, e⟩
theorem Sim.dropG {E : Env} {h : Hd} {w : World} {a : Act} {s : S} (H : Sim E h w a s) (g : Nat) (hE : E.h0 g = none) (ht : s.t.all (fun p => p.2.gno g) = true) (hL : s.L.all (fun p => p.2.gno g) = true) (hG : ∀ n o, n ≠ g → s.G n = some o → ¬ o.says (.g g)) :
 Sim E (dropH g h) w a { s with G := V.dropG g s.G } := by
 have hm : ∀ b, mutb (dropH g h) b → mutb h b := fun b ⟨i, hd, e1, e2⟩ => ⟨i, hd, (dropH_some e1).2, e2⟩
 have hid : ∀ i, i ≠ .g g → okId s.c h i → okId s.c (dropH g h) i ∧ ∀ u, dropH g h i = some u → h i = some u := by
  intro i hi ho
  refine ⟨?_, fun u e => (dropH_some e).2⟩
  cases i with
  | l n => exact ho
  | g n => show dropH g h (.g n) ≠ none; unfold dropH; rw [if_neg hi]; exact ho
  | x b => exact ho
 constructor
 ·intro i o ho
  have ⟨hi, ho'⟩ : i ≠ .g g ∧ s.obj i = some o := by
   cases i with
   | l n => exact ⟨fun e => (by cases e), ho⟩
   | g n =>
     have ho : (if n = g then none else s.G n) = some o := ho
     by_cases e : n = g
     ·rw [if_pos e] at ho; cases ho
     ·rw [if_neg e] at ho; exact ⟨fun e2 => e (by cases e2; rfl), ho⟩
   | x b => cases ho
  obtain ⟨hd, h1, h2⟩ := H.obj i o ho'
  refine ⟨hd, ?_, h2.tri (.inr hm) fun j hj => hid j ?_⟩
  ·unfold dropH; rw [if_neg hi]; exact h1
  ·rintro rfl
   cases i with
   | l n => exact VO.gno_says (List.all_eq_true.1 hL (n, o) (lk_mem _ _ _ ho')) hj
   | g n => exact hG n o (fun e => hi (by rw [e])) ho' hj
   | x b => cases ho'
 ·intro i hd e
  obtain ⟨hi, e⟩ := dropH_some e
  rcases H.dom i hd e with ⟨o, ho⟩ | h
  ·refine .inl ⟨o, ?_⟩
   cases i with
   | l n => exact ho
   | g n =>
     show (if n = g then none else s.G n) = some o
     rw [if_neg fun e => hi (by rw [e])]; exact ho
   | x b => exact ho
  ·exact .inr h
 ·intro i j hi hj b e1 e2 e3 e4
  exact H.inj i j hi hj b (dropH_some e1).2 (dropH_some e2).2 e3 e4
 ·intro n hd e
  have : n ≠ g := by rintro rfl; rw [hE] at e; cases e
  show dropH g h (.g n) = some hd
  unfold dropH
  rw [if_neg (fun e2 => this (by cases e2; rfl))]
  exact H.old n hd e
 ·intro b
  show dropH g h (.x b) = _
  unfold dropH
  rw [if_neg (fun e => by cases e)]
  exact H.pri b
 ·intro n o ho
  have ho : (if n = g then none else s.G n) = some o := ho
  by_cases e : n = g
  ·rw [if_pos e] at ho; cases ho
  ·rw [if_neg e] at ho; exact H.gl n o ho
 ·intro i hd b e1 e2
  exact H.own i hd b (dropH_some e1).2 e2
 ·exact H.cl
 ·exact H.fr
 ·exact H.sz
 ·exact H.os
 ·exact H.tape
 ·exact H.output
 ·exact H.nt
 ·exact H.dfr
 ·intro i v e
  refine (H.tmp i v e).tri (.inr hm) fun j hj => hid j ?_
  rintro rfl
  exact AV.gno_says (List.all_eq_true.1 ht (i, v) (lk_mem _ _ _ e)) hj
section
variable {P : Program} {E : Env} {fn : Func} {R : Ending → World → Prop} {k : List Item}
end
end Go.Proofs.YtnpnjhopgedhkaaGreat.V
namespace Go.Proofs.YtnpnjhopgedhkaaGreat.V
open Go.RowKit
universe u
theorem Sim.grown {E : Env} {h : Hd} {w w' : World} {a : Act} {s : S} (H : Sim E h w a s) (hg : w.grownBy w' none) : Sim E h w' a s := by
 have st : Stp s.c h w s.c h w' (fun _ => False) := ⟨Nat.le_refl _, fun _ h => h, fun j _ _ hd e => e, hg.size, fun b hlt hm => ⟨hg.block b hlt (by simp), hm⟩⟩
 constructor
 ·intro j o ho
  obtain ⟨hd, h1, h2⟩ := H.obj j o ho
  exact ⟨hd, h1, h2.step st (fun b hb => hg.block b (h2.base_le b hb) (by simp)) (fun _ _ h => h)⟩
 ·exact H.dom
 ·exact H.inj
 ·exact H.old
 ·exact H.pri
 ·exact H.gl
 ·intro j hd b e b1
  have := H.own j hd b e b1
  exact ⟨Nat.lt_of_lt_of_le this.1 hg.size, this.2⟩
 ·exact H.cl
 ·intro b hlt hno
  rw [hg.block b (Nat.lt_of_lt_of_le hlt H.sz) (by simp)]
  exact H.fr b hlt hno
 ·exact Nat.le_trans H.sz hg.size
 ·exact hg.os.trans H.os
 ·exact hg.tape.trans H.tape
 ·exact hg.output.trans H.output
 ·exact H.nt
 ·exact H.dfr
 ·intro k v hk
  exact (H.tmp k v hk).step st (fun _ _ h => h)
def dropHl (n : Nat) (h : Hd) : Hd := fun i => if i = .l n then none else h i
theorem dropHl_some {n : Nat} {h : Hd} {i : Id} {u : Value} (e : dropHl n h i = some u) : i ≠ .l n ∧ h i = some u := by
 unfold dropHl at e
 split at e
 ·cases e
 ·rename_i hn; exact ⟨hn, e⟩
theorem dropHl_ne {n : Nat} {h : Hd} {i : Id} (e : i ≠ .l n) : dropHl n h i = h i := if_neg e
theorem obj_del {c n : Nat} {t : List (Nat × AV)} {L : List (Nat × VO)} {G : Nat → Option VO} (i : Id) : S.obj ⟨c, t, del L n, G⟩ i = if i = .l n then none else S.obj ⟨c, t, L, G⟩ i := by
 cases i with
 | l m => simp only [S.obj, lk_del, Id.l.injEq]
 | g m => simp [S.obj]
 | x m => simp [S.obj]
theorem Sim.dropL {E : Env} {h : Hd} {w : World} {a : Act} {c : Nat} {t : List (Nat × AV)} {L : List (Nat × VO)} {G : Nat → Option VO} (H : Sim E h w a ⟨c, t, L, G⟩) (n : Nat) : Sim E (dropHl n h) w a ⟨c, t, del L n, G⟩ := by
 have hm : ∀ b, mutb (dropHl n h) b → mutb h b := fun b ⟨i, hd, e1, e2⟩ => ⟨i, hd, (dropHl_some e1).2, e2⟩
 have hid : ∀ i, okId c h i → okId c (dropHl n h) i ∧ ∀ u, dropHl n h i = some u → h i = some u := by
  intro i ho
  refine ⟨?_, fun u e => (dropHl_some e).2⟩
  cases i with
  | l m => exact ho
  | g m => show dropHl n h (.g m) ≠ none; rw [dropHl_ne (fun e => by cases e)]; exact ho
  | x b => exact ho
 constructor
 ·intro i o ho
  rw [obj_del] at ho
  by_cases hi : i = .l n
  ·rw [if_pos hi] at ho; cases ho
  ·rw [if_neg hi] at ho
   obtain ⟨hd, h1, h2⟩ := H.obj i o ho
   exact ⟨hd, by rw [dropHl_ne hi]; exact h1, h2.tri (.inr hm) fun j _ => hid j⟩
 ·intro i hd e
  obtain ⟨hi, e⟩ := dropHl_some e
  rcases H.dom i hd e with ⟨o, ho⟩ | h
  ·exact .inl ⟨o, by rw [obj_del, if_neg hi]; exact ho⟩
  ·exact .inr h
 ·intro i j hi hj b e1 e2 e3 e4
  exact H.inj i j hi hj b (dropHl_some e1).2 (dropHl_some e2).2 e3 e4
 ·intro m hd e
  rw [dropHl_ne (fun e => by cases e)]
  exact H.old m hd e
 ·intro b
  rw [dropHl_ne (fun e => by cases e)]
  exact H.pri b
 ·exact H.gl
 ·intro i hd b e1 e2
  exact H.own i hd b (dropHl_some e1).2 e2
 ·intro m o e
  have e : lk (del L n) m = some o := e
  rw [lk_del] at e
  split at e
  ·cases e
  ·exact H.cl m o e
 ·exact H.fr
 ·exact H.sz
 ·exact H.os
 ·exact H.tape
 ·exact H.output
 ·exact H.nt
 ·exact H.dfr
 ·intro i v e
  exact (H.tmp i v e).tri (.inr hm) fun j _ => hid j
theorem Sim.frozen {E : Env} {h : Hd} {w : World} {a : Act} {c : Nat} {t : List (Nat × AV)} {L : List (Nat × VO)} {G : Nat → Option VO} (H : Sim E h w a ⟨c, t, L, G⟩) {n e k : Nat} {xs : List Value} (ho : lk L n = some (.row e k xs)) {v : Value} (hv : RA c h w (.own (.l n)) v) : IsL (dropHl n h) w k xs v := by
 obtain ⟨hd, e1, e2, e3, e4⟩ := H.obj (.l n) _ ho
 have := hv.2.2 _ e1
 subst this
 rcases e2.2 with ⟨g1, g2⟩ | ⟨b, cap, cur, g1, _, hg, hc, _⟩
 ·refine .inl ⟨List.eq_nil_of_length_eq_zero g2, none, 0, g1⟩
 ·subst g1
  refine .inr ⟨b, 0, cap, rfl, hc, (Array.getElem?_eq_some_iff.1 hg).1, ?_, e3, fun j u hu => ?_⟩
  ·rintro ⟨i, hd2, f1, f2⟩
   obtain ⟨f3, f4⟩ := dropHl_some f1
   exact f3 (H.inj i (.l n) hd2 _ b f4 e1 f2 rfl)
  ·have := e2.cells (g := b) rfl j u hu
   have hadd : (⟨b, 0, none⟩ : Addr).add j = ⟨b, 0 + j, none⟩ := by unfold Addr.add; split <;> simp_all
   rw [hadd] at this; exact this
def mvH (n c : Nat) (hd' : Value) (h : Hd) : Hd := fun i => if i = .l c then some hd' else if i = .l n then none else h i
theorem mvH_new {n c : Nat} {hd' : Value} {h : Hd} : mvH n c hd' h (.l c) = some hd' := if_pos rfl
theorem mvH_old {n c : Nat} {hd' : Value} {h : Hd} {i : Id} (h1 : i ≠ .l c) (h2 : i ≠ .l n) : mvH n c hd' h i = h i := by unfold mvH; rw [if_neg h1, if_neg h2]
theorem mvH_some {n c : Nat} {hd' : Value} {h : Hd} {i : Id} {u : Value} (e : mvH n c hd' h i = some u) : (i = .l c ∧ u = hd') ∨ (i ≠ .l c ∧ i ≠ .l n ∧ h i = some u) := by
 unfold mvH at e
 split at e
 ·rename_i h1; cases e; exact .inl ⟨h1, rfl⟩
 ·split at e
  ·cases e
  ·rename_i h1 h2; exact .inr ⟨h1, h2, e⟩
theorem Sim.move {E : Env} {h : Hd} {w w' : World} {a : Act} {c : Nat} {t : List (Nat × AV)} {L : List (Nat × VO)} {G : Nat → Option VO} (H : Sim E h w a ⟨c, t, L, G⟩) (n : Nat) (o o' : VO) (hd hd' : Value)
 (hi : lk L n = some o) (hh : h (.l n) = some hd) (hg : w.grownBy w' (blk hd)) (hb : ∀ b, blk hd' = some b → blk hd = some b ∨ (w.heap.size ≤ b ∧ b < w'.heap.size))
 (hO : OBJ (c + 1) (mvH n c hd' h) w' hd' o') : Sim E (mvH n c hd' h) w' a ⟨c + 1, t, (c, o') :: del L n, G⟩ := by
 have hgc : ∀ m, (Id.g m : Id) ≠ .l c := fun m e => by cases e
 have hgn : ∀ m, (Id.g m : Id) ≠ .l n := fun m e => by cases e
 have st : Stp c h w (c + 1) (mvH n c hd' h) w' (fun j => j = .l c) := by
  refine ⟨Nat.le_succ _, fun m hm => by rw [mvH_old (hgc m) (hgn m)]; exact hm, fun j _ hx v e => ?_, hg.size, fun b hlt hm => ⟨hg.block b hlt (fun e => hm ⟨_, _, hh, e.symm⟩), ?_⟩⟩
  ·rcases mvH_some e with ⟨e1, _⟩ | ⟨_, _, e1⟩
   ·exact absurd e1 hx
   ·exact e1
  ·rintro ⟨j, v, e, hbv⟩
   rcases mvH_some e with ⟨_, rfl⟩ | ⟨_, _, e1⟩
   ·rcases hb b hbv with e1 | e1
    ·exact hm ⟨_, _, hh, e1⟩
    ·omega
   ·exact hm ⟨j, v, e1, hbv⟩
 have hobj : ∀ j, S.obj ⟨c + 1, t, (c, o') :: del L n, G⟩ j = if j = .l c then some o' else if j = .l n then none else S.obj ⟨c, t, L, G⟩ j := by
  intro j
  cases j with
  | l m =>
    simp only [S.obj, lk, lk_del, Id.l.injEq]
  | g m => simp [S.obj]
  | x m => simp [S.obj]
 have hbo : ∀ j v b, j ≠ .l n → h j = some v → blk v = some b → blk hd ≠ some b := fun j v b hj e hv e1 => hj (H.inj j (.l n) v hd b e hh hv e1)
 have hnok : ∀ i, i = .l c → ¬ okId c h i := by rintro i rfl hk; exact Nat.lt_irrefl _ hk
 have hA : ∀ (x : A) (u : Value), RA c h w x u → ∀ j, x.says j → ¬ j = .l c := by
  intro x u hu j hs e
  cases x with
  | d x => exact hs
  | el k xs j off => exact hs
  | top => exact hs
  | ptr j off => have := hu.1; simp only [A.says] at hs; subst hs; exact hnok _ e this
  | mp j => have := hu.1; simp only [A.says] at hs; subst hs; exact hnok _ e this
  | own j => have := hu.1; simp only [A.says] at hs; subst hs; exact hnok _ e this
  | oel j k q off => have := hu.1; simp only [A.says] at hs; subst hs; exact hnok _ e this
 have hAs : ∀ (l : List A) (us : List Value), RAs c h w l us → ∀ j, (∃ x ∈ l, A.says x j) → ¬ j = .l c := by
  rintro l us ⟨h1, h2⟩ j ⟨x, hx, hs⟩
  obtain ⟨q, hq⟩ := List.getElem?_of_mem hx
  have hlt : q < us.length := by rw [← h1]; exact (List.getElem?_eq_some_iff.1 hq).1
  exact hA x _ (h2 q x _ hq (List.getElem?_eq_getElem hlt)) j hs
 have hsay : ∀ k v, lk t k = some v → RV c h w v (a.tmps.getD k undef) → ∀ j, v.says j → ¬ j = .l c := by
  intro k v hk hr j hj
  cases v with
  | a x => exact hA x _ hr j hj
  | fn f l => obtain ⟨vs, _, h2⟩ := hr; exact hAs l _ h2 j hj
  | tup l => obtain ⟨vs, _, h2⟩ := hr; exact hAs l _ h2 j hj
  | agg l => obtain ⟨vs, _, h2⟩ := hr; exact hAs l _ h2 j hj
  | may j' wt q x => exact hA x _ (hr.1 hj.1) j hj.2
 have hosay : ∀ j o1, S.obj ⟨c, t, L, G⟩ j = some o1 → ∀ q, o1.says q → ¬ q = .l c := by
  intro j o1 ho1 q hq
  obtain ⟨v, _, hO1⟩ := H.obj j o1 ho1
  cases o1 with
  | box cells => obtain ⟨b, cs, t, _, _, h1⟩ := hO1; exact hAs cells _ h1 q hq
  | row e k xs => exact hq.elim
  | map mk mv l z => exact hq.elim
  | itr mk mv l left z cur => exact hq.elim
 constructor
 ·intro j o1 e
  rw [hobj] at e
  split at e
  ·rename_i e1; subst e1; cases e
   exact ⟨hd', mvH_new, hO⟩
  ·rename_i e1
   split at e
   ·cases e
   ·rename_i e2
    obtain ⟨v, h1, h2⟩ := H.obj j o1 e
    exact ⟨v, by rw [mvH_old e1 e2]; exact h1, h2.step st (fun b hv => hg.block b (h2.base_le b hv) (fun e => hbo _ v b e2 h1 hv e.symm)) (hosay j o1 e)⟩
 ·intro j v e
  rw [hobj]
  rcases mvH_some e with ⟨e1, _⟩ | ⟨e1, e2, e3⟩
  ·rw [if_pos e1]; exact .inl ⟨_, rfl⟩
  ·rw [if_neg e1, if_neg e2]
   exact H.dom j v e3
 ·intro p q hp hq b e1 e2 b1 b2
  rcases mvH_some e1 with ⟨x, rfl⟩ | ⟨x1, x2, x⟩ <;> rcases mvH_some e2 with ⟨y, rfl⟩ | ⟨y1, y2, y⟩
  ·rw [x, y]
  ·exfalso
   rcases hb b b1 with e3 | e3
   ·exact hbo q hq b y2 y b2 e3
   ·have := (H.own q hq b y b2).1; omega
  ·exfalso
   rcases hb b b2 with e3 | e3
   ·exact hbo p hp b x2 x b1 e3
   ·have := (H.own p hp b x b1).1; omega
  ·exact H.inj p q hp hq b x y b1 b2
 ·intro m v e
  rw [mvH_old (hgc m) (hgn m)]
  exact H.old m v e
 ·intro b
  rw [mvH_old (fun e => by cases e) (fun e => by cases e)]
  exact H.pri b
 ·exact H.gl
 ·intro j v b e b1
  rcases mvH_some e with ⟨e1, rfl⟩ | ⟨_, _, e1⟩
  ·rcases hb b b1 with e3 | e3
   ·have := H.own (.l n) hd b hh e3
    refine ⟨Nat.lt_of_lt_of_le this.1 hg.size, ?_⟩
    rcases this.2 with ⟨m, e4, _⟩ | e4 | ⟨q, e4⟩
    ·cases e4
    ·exact .inr (.inl e4)
    ·cases e4
   ·exact ⟨e3.2, .inr (.inl (Nat.le_trans H.sz e3.1))⟩
  ·have := H.own j v b e1 b1
   exact ⟨Nat.lt_of_lt_of_le this.1 hg.size, this.2⟩
 ·intro m o1 e
  have e : lk ((c, o') :: del L n) m = some o1 := e
  simp only [lk, lk_del] at e
  split at e
  ·rename_i e1; subst e1; exact Nat.lt_succ_self _
  ·split at e
   ·cases e
   ·exact Nat.lt_succ_of_lt (H.cl _ _ e)
 ·intro b hlt hno
  rw [hg.block b (Nat.lt_of_lt_of_le hlt H.sz)]
  ·exact H.fr b hlt hno
  ·intro e
   rcases (H.own (.l n) hd b hh e.symm).2 with ⟨m, e4, _⟩ | e4 | ⟨q, e4⟩
   ·cases e4
   ·have hlt' : b < E.W0.heap.size := hlt
    omega
   ·cases e4
 ·exact Nat.le_trans H.sz hg.size
 ·exact hg.os.trans H.os
 ·exact hg.tape.trans H.tape
 ·exact hg.output.trans H.output
 ·exact H.nt
 ·exact H.dfr
 ·intro k v hk
  exact (H.tmp k v hk).step st (hsay k v hk (H.tmp k v hk))
theorem run_append_owned_empty {P : Program} {w : World} (base : Nat) (t ty e : TypeId) (i : TypeInfo) (size : Nat) (ht : P.underlying t = some (.slice e)) (hi : P.info? e = some i)
 (v : Value) (n : Nat) (xs : List Value) (hown : w.ownsRow base e size v n xs) (cap : Nat) :
 (Builtin.append_ #[t, t] ty #[v, .slice none 0 cap]).run P w = .ok v w := by
 rcases hown.2 with ⟨rfl, rfl⟩ | ⟨g, cap, cur, rfl, _, _, hnc, _⟩
 ·simp [Builtin.append_, run_underlying ht, sizeOf, typeInfo, hi, Builtin.lenOf, Builtin.firstCells]
 ·simp [Builtin.append_, run_underlying ht, sizeOf, typeInfo, hi, Builtin.lenOf, Builtin.firstCells, hnc, storeCells]
section
variable {P : Program} {E : Env} {ops : Array Oper} {rest : List Oper} {s : S} {K : S → Prop}
variable {c : Nat} {t : List (Nat × AV)} {L : List (Nat × VO)} {G : Nat → Option VO} {d ty : Nat} {pos : String} {af : Array Edge} {tab : Tab}
theorem VR.appendN {T e : TypeId} {ti te : TI} {x y : Operand} {n : Nat} {k : Nat} {xs ys : List Value} (hT : Tab.Ok P tab) (hn : Nat.ble (d + 1) E.nt = true) (hti : lk tab T = some ti) (he : ti.slc = some e) (hte : lk tab e = some te)
 (hx : eva ⟨c, t, L, G⟩ x = some (.own (.l n))) (ho : lk L n = some (.row e k xs)) (hk : te.size = k) (hzs : te.zero.cells.size = te.size) (hy : eva ⟨c, t, L, G⟩ y = some (.d (.lst k ys))) (h1 : ∀ u ∈ ys, ∀ v ∈ u.cells.toList, v.oneCell' = true)
 (hb : (xs.length + ys.length) * te.bytes ≤ 140737488355328) (hm : xs.length + ys.length ≤ maxLen)
 (k1 : VR P E ops rest ⟨c + 1, (d, .a (.own (.l c))) :: t, (c, .row e k (xs ++ ys)) :: del L n, G⟩ K) :
 VR P E ops (⟨some d, .call { callee := .builtin .append, args := #[x, y], argTypes := #[T, T] }, ty, pos, af, none⟩ :: rest) ⟨c, t, L, G⟩ K := by
 refine VR.eff rfl rfl (Nat.le_of_ble_eq_true hn) (.a (.own (.l c))) ⟨c + 1, t, (c, .row e k (xs ++ ys)) :: del L n, G⟩ (fun h w a H => ?_) k1
 have hel := (hT T ti hti).slice he
 obtain ⟨i, g1, g2, g3, g4⟩ := (hT e te hte).getInfo
 obtain ⟨hd, e1, e2, e3, e4⟩ := H.obj (.l n) _ ho
 have hxv := (H.eva hx).2.2 _ e1
 subst hk
 have hcat : cellsL (xs ++ ys) = cellsL xs ++ cellsL ys := by simp [cellsL]
 have hsz : 0 < te.size := e4
 have done : ∀ v' w', (execOp a.eval (⟨some d, .call { callee := .builtin .append, args := #[x, y], argTypes := #[T, T] }, ty, pos, af, none⟩ : Oper)).run P w = .ok (.value v') w' → w'.ownsRow 0 e te.size v' (xs.length + ys.length) (cellsL xs ++ cellsL ys) → (∀ y ∈ ys, y.cells.size = te.size) → w.grownBy w' hd.ownBlock → (v'.ownBlock = hd.ownBlock ∨ v'.ownBlock = some w.heap.size) →
  ∃ x1 w' h', (execOp a.eval (⟨some d, .call { callee := .builtin .append, args := #[x, y], argTypes := #[T, T] }, ty, pos, af, none⟩ : Oper)).run P w = .ok (.value x1) w' ∧ Sim E h' w' a ⟨c + 1, t, (c, .row e te.size (xs ++ ys)) :: del L n, G⟩ ∧ RV (c + 1) h' w' (.a (.own (.l c))) x1 := by
  intro v' w' hrun hown hys hgr hat
  refine ⟨v', w', mvH n c v' h, hrun, H.move n _ _ hd v' ho e1 (by rw [blk_own e2]; exact hgr) (fun b hb => ?_) ⟨by rw [hcat]; simpa using hown, fun z hz => ?_, e4⟩, Nat.lt_succ_self _, ?_, fun u hu => by rw [mvH_new] at hu; cases hu; rfl⟩
  ·rw [blk_own hown] at hb
   rcases hat with h2 | h2
   ·left; rw [blk_own e2, ← h2]; exact hb
   ·right
    rw [h2] at hb; cases hb
    have := (hown.lt _ h2).2
    exact ⟨Nat.le_refl _, this⟩
  ·rcases List.mem_append.1 hz with hz | hz
   ·exact e3 z hz
   ·exact hys z hz
  ·rcases hown.2 with ⟨rfl, _⟩ | ⟨g, cap, cur, rfl, _⟩ <;> rfl
 have main : ∀ (ad : Addr) (m cap : Nat), a.eval y = .slice (some ad) m cap → ys.length = m → (∀ y ∈ ys, y.cells.size = te.size) → (∀ j u, (cellsL ys)[j]? = some u → w.cell? (ad.add j) = some u) →
  ∃ x1 w' h', (execOp a.eval (⟨some d, .call { callee := .builtin .append, args := #[x, y], argTypes := #[T, T] }, ty, pos, af, none⟩ : Oper)).run P w = .ok (.value x1) w' ∧ Sim E h' w' a ⟨c + 1, t, (c, .row e te.size (xs ++ ys)) :: del L n, G⟩ ∧ RV (c + 1) h' w' (.a (.own (.l c))) x1 := by
  intro ad m cap hyv hml hys hcell
  subst hml
  obtain ⟨v', w', hrun, r2, r3, _, r5⟩ := run_append_own_at (P := P) w 0 T ty e i te.zero te.size te.bytes hel g1 g4 g2 g3 hzs hsz hd xs.length (cellsL xs) e2 ad ys.length cap (cellsL ys) (len_cellsL hys) hcell
   (fun u hu => by
     obtain ⟨z, hz, hu⟩ := List.mem_flatMap.1 hu
     exact h1 z hz u hu) hm hb (Nat.zero_le _)
  refine done v' w' ?_ r2 hys r3 r5
  simp [execOp, resolve, invoke, builtin, hxv, hyv, hrun]
 rcases H.eva hy with ⟨rfl, ad, cap, hyv⟩ | ⟨b, o, cap, hyv, hcap, him⟩
 ·cases ad with
  | none =>
    have hrun := run_append_owned_empty (P := P) (w := w) 0 T ty e i te.size hel g1 hd xs.length (cellsL xs) e2 cap
    refine done hd w ?_ (by simpa [cellsL] using e2) (fun y hy => by simp at hy) ⟨rfl, rfl, rfl, Nat.le_refl _, fun _ _ _ => rfl⟩ (.inl rfl)
    simp [execOp, resolve, invoke, builtin, hxv, hyv, hrun]
  | some ad => exact main ad 0 cap hyv rfl (fun y hy => by simp at hy) (fun j u hu => by simp [cellsL] at hu)
 ·refine main ⟨b, o, none⟩ ys.length cap hyv rfl him.sz (fun j u hu => ?_)
  have hadd : (⟨b, o, none⟩ : Addr).add j = ⟨b, o + j, none⟩ := by unfold Addr.add; split <;> simp_all
  rw [hadd]; exact him.cell j u hu
theorem VR.storeF {T : TypeId} {ti : TI} {x y : Operand} {i : Id} {off n e k : Nat} {xs : List Value} {cells cs : List A} (hT : Tab.Ok P tab) (hti : lk tab T = some ti) (hx : eva ⟨c, t, L, G⟩ x = some (.ptr i off)) (ho : S.obj ⟨c, t, L, G⟩ i = some (.box cells))
 (hy : eva ⟨c, t, L, G⟩ y = some (.own (.l n))) (hl : lk L n = some (.row e k xs)) (hs : stc off ti.size cells [.d (.lst k xs)] = some cs) (hgl : okG i cs)
 (kk : VR P E ops rest (S.set ⟨c, t, del L n, G⟩ i (.box cs)) K) : VR P E ops (⟨none, .store T x y, ty, pos, af, none⟩ :: rest) ⟨c, t, L, G⟩ K := by
 refine VR.act rfl rfl _ (fun h w a H => ?_) kk
 have hin : i ≠ .l n := by
  rintro rfl
  have ho : lk L n = some (.box cells) := ho
  rw [hl] at ho; cases ho
 have hfz := H.frozen hl (H.eva hy)
 have h1c : (a.eval y).oneCell' = true := (H.eva hy).2.1
 obtain ⟨hd0, h0, b0, c00, e00, rfl, h40, _⟩ := H.obj i _ ho
 obtain ⟨b', e1, e2⟩ := (H.eva hx).2.2 _ h0
 cases e1
 have H1 := H.dropL n
 have ho1 : S.obj ⟨c, t, del L n, G⟩ i = some (.box cells) := by rw [obj_del, if_neg hin]; exact ho
 obtain ⟨hd, h1, b, c0, e, rfl, h4, h5⟩ := H1.obj i _ ho1
 rw [dropHl_ne hin, h0] at h1
 cases h1
 have h1' : dropHl n h i = some (.pointer (some ⟨b0, 0, none⟩)) := by rw [dropHl_ne hin]; exact h0
 have hr : RAs c (dropHl n h) w [.d (.lst k xs)] (a.eval y).cells.toList := by
  rw [cells_one h1c]
  refine ⟨rfl, fun j z u hz hu => ?_⟩
  match j, hz, hu with
  | 0, hz, hu => simp at hz hu; subst hz; subst hu; exact hfz
  | j + 1, hz, hu => simp at hz
 generalize hvs : [A.d (.lst k xs)] = vs at hs hr
 unfold stc at hs
 split at hs
 ·rename_i hl
  cases hs
  have hsz : (a.eval y).cells.size = ti.size := by rw [← hl.1, hr.1]; simp
  have hrun := run_store_cells (hT T ti hti) (x := a.eval y) (o := off) h4 hsz (by have := h5.1; simp at this; omega) (by
   intro u hu
   rw [cells_one h1c] at hu
   simp at hu; subst hu; exact h1c)
  obtain ⟨k1, k2, k3, k4, k5⟩ := setRow_kept (w := w) (b := b0) (cs := (c0.toList.take off ++ (a.eval y).cells.toList ++ c0.toList.drop (off + ti.size)).toArray)
  refine ⟨_, dropHl n h, .inl ?_, H1.set i _ _ _ ho1 h1' k1 k2 k3 k4 (fun q hq => k5 q (fun e => hq (by rw [e]; rfl))) hgl ?_⟩
  ·simp only [execOp, e2, Instr.storeAt, Instr.sureAddr, Sem.run_bind, Sem.run_pure, Result.andThen_ok, hrun]
  ·refine ⟨b0, _, e, rfl, setRow_heap w b0 c0 _ e _ h4, ?_⟩
   have st : Stp c (dropHl n h) w c (dropHl n h) (w.setRow b0 (c0.toList.take off ++ (a.eval y).cells.toList ++ c0.toList.drop (off + ti.size)).toArray) (fun _ => False) :=
    ⟨Nat.le_refl _, fun _ h => h, fun j _ _ hd' e => e, Nat.le_of_eq k4.symm, fun q hlt hm => ⟨k5 q (fun e => hm ⟨i, _, h1', by rw [e]; rfl⟩), hm⟩⟩
   have g1 := h5.step st (fun _ _ _ _ h => h)
   have g2 := hr.step st (fun _ _ _ _ h => h)
   have hl5 := h5.1
   have hlv := hr.1
   refine ⟨by simp at hl5 hlv ⊢; omega, fun j z u hz hu => ?_⟩
   have hto : (cells.take off).length = (c0.toList.take off).length := by simp only [List.length_take, hl5]
   rw [List.append_assoc] at hz hu
   rcases Nat.lt_or_ge j (cells.take off).length with hj | hj
   ·rw [List.getElem?_append_left hj] at hz
    rw [List.getElem?_append_left (by rw [← hto]; exact hj)] at hu
    rw [List.getElem?_take] at hz hu
    split at hz
    ·rename_i hjo; rw [if_pos hjo] at hu; exact g1.2 j z u hz hu
    ·cases hz
   ·rw [List.getElem?_append_right hj] at hz
    rw [List.getElem?_append_right (by rw [← hto]; exact hj), ← hto] at hu
    rcases Nat.lt_or_ge (j - (cells.take off).length) vs.length with hj2 | hj2
    ·rw [List.getElem?_append_left hj2] at hz
     rw [List.getElem?_append_left (by rw [← hlv]; exact hj2)] at hu
     exact g2.2 _ z u hz hu
    ·rw [List.getElem?_append_right hj2] at hz
     rw [List.getElem?_append_right (by rw [← hlv]; exact hj2), ← hlv] at hu
     rw [List.getElem?_drop] at hz hu
     exact g1.2 _ z u hz hu
 ·cases hs
theorem VR.buildLst {T e : TypeId} {ti te : TI} {len : Nat} {ps : Array (Nat × Operand)} {vs : List (Nat × Value)} (xs : List Value) (hT : Tab.Ok P tab) (hn : Nat.ble (d + 1) E.nt = true) (hti : lk tab T = some ti) (he : ti.slc = some e) (hte : lk tab e = some te)
 (hv : flps ⟨c, t, L, G⟩ ps.toList = some vs) (hx : vs = (xs.zipIdx 0).map fun p => (p.2, p.1)) (hsz : Nat.ble 1 te.size = true) (hlen : xs.length = len) (hle : Nat.ble (len * te.size) 1000 = true) (hzs : te.zero.cells.size = te.size)
 (hall : (xs.all fun y => y.cells.size == te.size) = true)
 (k : VR P E ops rest ⟨c, (d, .a (.d (.lst te.size xs))) :: t, L, G⟩ K) :
 VR P E ops (⟨some d, .buildSlice T len ps, ty, pos, af, none⟩ :: rest) ⟨c, t, L, G⟩ K := by
 have hxs : ∀ y ∈ xs, y.cells.size = te.size := fun y hy => by simpa using List.all_eq_true.1 hall y hy
 obtain ⟨r, hr, hrx⟩ := fill_row te.size xs 0 ((Array.range (len * te.size)).map (fun i => (if len * te.size = 0 then #[] else te.zero.cells)[i % (if len * te.size = 0 then #[] else te.zero.cells).size]!)) hxs (by simp [hlen])
 have hrx : r.toList = cellsL xs := by simpa using hrx
 refine VR.eff rfl rfl (Nat.le_of_ble_eq_true hn) (.a (.d (.lst te.size xs))) ⟨c, t, L, G⟩ (fun h w a H => ?_) k
 have h3 := H.flps _ _ hv
 rw [← hx] at hr
 have hel := (hT T ti hti).slice he
 have hsz' := (hT e te hte).run_size w
 have hz := (hT e te hte).run_zero w
 have hps : (ps.map fun (i, x) => (i, a.eval x)).toList = vs := by rw [Array.toList_map]; exact h3
 have hle := Nat.le_of_ble_eq_true hle
 have hs1 := Nat.le_of_ble_eq_true hsz
 refine ⟨.slice (some ⟨w.heap.size, 0, none⟩) len len, w.alloc (.cells r e), h, ?_, H.grown (World.grownBy_alloc w _ none), ?_⟩
 ·have : ¬ len * te.size > 2 ^ 24 := by omega
  simp only [execOp, Instr.buildSlice, Sem.run_bind, run_underlying hel, Result.andThen_ok, hsz', if_neg this]
  by_cases h0 : len * te.size = 0
  ·simp only [h0, if_true, Sem.run_bind, Sem.run_pure, Result.andThen_ok]
   simp only [h0, if_true] at hr
   rw [hps, hr]
   rfl
  ·simp only [h0, if_false, Sem.run_bind, hz, Sem.run_pure, Result.andThen_ok]
   simp only [h0, if_false] at hr
   rw [hps, hr]
   rfl
 ·refine .inr ⟨w.heap.size, 0, len, by rw [hlen], by omega, by simp, ?_, hxs, fun j u hu => ?_⟩
  ·rintro ⟨i, hd, e1, e2⟩
   exact Nat.lt_irrefl _ (H.own i hd _ e1 e2).1
  ·rw [← hrx] at hu
   unfold World.cell? World.alloc
   simpa using hu
end
theorem Sim.recast {E : Env} {h : Hd} {w : World} {a : Act} {s : S} (H : Sim E h w a s) (g : Nat) (o o' : VO) (hg : s.G g = some o) (himp : ∀ hd, OBJ s.c h w hd o → OBJ s.c h w hd o') (hgl : ∀ q, ¬ o'.says (.l q)) : Sim E h w a { s with G := fun n => if n = g then some o' else s.G n } := by
 have hobj : ∀ i, S.obj { s with G := fun n => if n = g then some o' else s.G n } i = if i = .g g then some o' else s.obj i := by
  intro i
  cases i with
  | l m => simp [S.obj]
  | g m => simp [S.obj]
  | x m => simp [S.obj]
 constructor
 ·intro i o1 ho
  rw [hobj] at ho
  split at ho
  ·rename_i e; cases ho; subst e
   obtain ⟨hd, h1, h2⟩ := H.obj (.g g) o hg
   exact ⟨hd, h1, himp hd h2⟩
  ·exact H.obj i o1 ho
 ·intro i hd e
  rw [hobj]
  split
  ·exact .inl ⟨_, rfl⟩
  ·exact H.dom i hd e
 ·exact H.inj
 ·exact H.old
 ·exact H.pri
 ·intro n o1 ho q
  have ho : (if n = g then some o' else s.G n) = some o1 := ho
  split at ho
  ·cases ho; exact hgl q
  ·exact H.gl n o1 ho q
 ·exact H.own
 ·exact H.cl
 ·exact H.fr
 ·exact H.sz
 ·exact H.os
 ·exact H.tape
 ·exact H.output
 ·exact H.nt
 ·exact H.dfr
 ·exact H.tmp
section
variable {P : Program} {E : Env} {fn : Func} {R : Ending → World → Prop} {k : List Item}
theorem VJ.nilBox {c : Nat} {t : List (Nat × AV)} {L : List (Nat × VO)} {G : Nat → Option VO} (g q : Nat) (hg : G g = some (.box [.d (.v (.slice none 0 0))])) (H : VJ P E fn R k ⟨c, t, L, fun n => if n = g then some (.box [.d (.lst q [])]) else G n⟩) : VJ P E fn R k ⟨c, t, L, G⟩ := by
 refine fun h w a b cs S0 hf hk => H h w a b cs (S0.recast g _ _ hg (fun hd h1 => ?_) (fun m hs => by obtain ⟨x, hx, hs⟩ := hs; simp at hx; subst hx; exact hs)) hf hk
 obtain ⟨b, cs, t, e1, e2, e3, e4⟩ := h1
 refine ⟨b, cs, t, e1, e2, by simpa using e3, fun j x v hx hv => ?_⟩
 match j, hx with
 | 0, hx =>
   simp at hx; subst hx
   have := e4 0 _ v rfl hv
   exact .inl ⟨rfl, none, 0, this⟩
 | j + 1, hx => simp at hx
end
end Go.Proofs.YtnpnjhopgedhkaaGreat.V
namespace Go.Proofs.YtnpnjhopgedhkaaGreat.V
open Go.RowKit
universe u
theorem IsL.of_row {h : Hd} {w' : World} {base e k : Nat} {xs : List Value} {v : Value} (hr : w'.ownsRow base e k v xs.length (cellsL xs)) (hsz : ∀ x ∈ xs, x.cells.size = k) (hm : ∀ g, v.ownBlock = some g → ¬ mutb h g) : IsL h w' k xs v := by
 rcases hr.2 with ⟨rfl, h2⟩ | ⟨g, cap, cur, rfl, _, hg, hc, _⟩
 ·exact .inl ⟨List.eq_nil_of_length_eq_zero h2, none, 0, rfl⟩
 ·refine .inr ⟨g, 0, cap, rfl, hc, (Array.getElem?_eq_some_iff.1 hg).1, hm g rfl, hsz, fun j u hu => ?_⟩
  have := hr.cells (g := g) rfl j u hu
  have hadd : (⟨g, 0, none⟩ : Addr).add j = ⟨g, 0 + j, none⟩ := by unfold Addr.add; split <;> simp_all
  rw [hadd] at this; exact this
theorem VC.of_keys {κ ν : Type} [DecidableEq κ] {P : Program} {f kf cf : Nat} {mk : κ → Value} {mv : ν → Value} {s : List (κ × ν)} {z : Option (Nat × Obj)} {G : Nat → Option VO} {gb gm e k : Nat} {xs : List Value} {Q : AV → (Nat → Option VO) → Prop}
 (hb : G gb = some (.box [.mp (.g gm)])) (hm : G gm = some (.map mk mv s z))
 (H : ∀ (Bm b : Nat) (w : World), Bm < w.heap.size → w.cell? ⟨Bm, 0, none⟩ = some (.map (some b)) → Mp.Is mk mv w b s → Calls P f #[.func (.func kf) #[] #[.pointer (some ⟨Bm, 0, none⟩)], .func (.func cf) #[] #[]] w fun e' w' => ∃ v : Value, e' = .returned v ∧ w'.ownsRow w.heap.size e k v xs.length (cellsL xs) ∧ Below w.heap.size w w')
 (hsz : ∀ x ∈ xs, x.cells.size = k) (hQ : Q (vL k xs) G) : VC P f [.fn kf [.ptr (.g gb) 0], .fn cf []] G Q := by
 intro h0 x0 w vs sg hv
 obtain ⟨hd1, a1, B1, cs, t, rfl, a3, a4⟩ := sg.obj gb _ hb
 obtain ⟨hd2, b1, b, rfl, b3, b4⟩ := sg.obj gm _ hm
 have hcs : cs = #[.map (some b)] := by
  obtain ⟨c1, c2⟩ := a4
  simp only [List.length_cons, List.length_nil] at c1
  apply Array.ext'
  match hl : cs.toList, c1 with
  | [u], _ =>
    have h1 : RA 0 (gh h0 x0) w (.mp (.g gm)) u := c2 0 _ u rfl (by rw [hl]; rfl)
    have := h1.2.2 _ b1
    rw [this]
 have hvs : vs = #[.func (.func kf) #[] #[.pointer (some ⟨B1, 0, none⟩)], .func (.func cf) #[] #[]] := by
  obtain ⟨c1, c2⟩ := hv
  simp only [List.length_cons, List.length_nil] at c1
  apply Array.ext'
  match hl : vs.toList, c1 with
  | [u1, u2], _ =>
    obtain ⟨q1, rfl, d1, d2⟩ : RV 0 (gh h0 x0) w (.fn kf [.ptr (.g gb) 0]) u1 := c2 0 _ u1 rfl (by rw [hl]; rfl)
    obtain ⟨q2, rfl, d3, _⟩ : RV 0 (gh h0 x0) w (.fn cf []) u2 := c2 1 _ u2 rfl (by rw [hl]; rfl)
    have e2 : q2 = #[] := by simpa using d3.symm
    have e1 : q1 = #[.pointer (some ⟨B1, 0, none⟩)] := by
     apply Array.ext'
     simp only [List.length_cons, List.length_nil] at d1
     match hl1 : q1.toList, d1 with
     | [u], _ =>
       have h1 : RA 0 (gh h0 x0) w (.ptr (.g gb) 0) u := d2 0 _ u rfl (by rw [hl1]; rfl)
       obtain ⟨b', e3, e4⟩ := h1.2.2 _ a1
       cases e3
       rw [e4]
    rw [e1, e2]
 subst hvs
 subst hcs
 have hlt : B1 < w.heap.size := (Array.getElem?_eq_some_iff.1 a3).1
 refine (H B1 b w hlt (by simp [World.cell?, a3]) b3).mono ?_
 rintro e' w' ⟨v, rfl, hrow, hB⟩
 have st : Stp 0 (gh h0 x0) w 0 (gh h0 x0) w' (fun _ => False) := ⟨Nat.le_refl _, fun _ h => h, fun _ _ _ _ h => h, hB.size, fun b hlt hm => ⟨hB.block b hlt, hm⟩⟩
 refine ⟨v, vL k xs, G, h0, rfl, hQ, ⟨fun n o e => ?_, sg.dom, sg.inj, fun i hd b e hb' => Nat.lt_of_lt_of_le (sg.lt i hd b e hb') hB.size, sg.gl⟩, IsL.of_row hrow hsz fun g hg hm => ?_, fun _ _ h => h, fun n hd b h _ => .inl h, fun b hlt _ => hB.block b hlt, hB.size, hB.os, hB.tape, hB.output⟩
 ·obtain ⟨hd, e1, e2⟩ := sg.obj n o e
  exact ⟨hd, e1, e2.step st (fun b hb' => hB.block b (sg.lt (.g n) hd b e1 hb')) (fun _ _ h => h)⟩
 ·obtain ⟨i, hd, e1, e2⟩ := hm
  have h1 := (hrow.lt g hg).1
  have h2 := sg.lt i hd g e1 e2
  omega
end Go.Proofs.YtnpnjhopgedhkaaGreat.V
namespace Go.Proofs.YtnpnjhopgedhkaaGreat
open Go.RowKit V Geo
attribute [local irreducible] VR VJ VC decOk decBt
theorem v_keysT (gm gb : Nat) (s : List (Tr × Bool)) (z : Option (Nat × Obj)) (G : Gl) (hm : G gm = some (.map Tr.v Value.bool s z)) (hb : G gb = none) (Q : Po) (hQ : Q (.fn 103 [.ptr (.g gb) 0]) (fun n => if n = gb then some (.box [.mp (.g gm)]) else G n)) : VC Tryz.prog 88 [.a (.mp (.g gm))] G Q := by
 have hne : gm ≠ gb := by rintro rfl; rw [hb] at hm; cases hm
 refine VC.of_body Tryz.func88 rfl rfl rfl fun W0 h0 x0 hG0 => ?_
 simp only [args0]
 repeat' (first | refine VJ.seq ?_ | refine VJ.skip ?_ | refine VJ.cond_t rfl ?_ | refine VJ.cond_f rfl ?_ | refine VJ.region_k fun K hK => ?_)
 refine VR.boxG gb hb rfl rfl rfl rfl ?_
 repeat' (first | refine VJ.seq ?_ | refine VJ.skip ?_ | refine VJ.cond_t rfl ?_ | refine VJ.cond_f rfl ?_ | refine VJ.region_k fun K hK => ?_ | (refine VR.done (hK _ ?_); clear hK K) | (first | refine VR.assign rfl rfl ?_ | refine VR.box rfl rfl rfl ?_ | refine VR.makeFunc rfl rfl ?_))
 refine VJ.retX (fun n => if n = gb then some (.box [.mp (.g gm)]) else G n) tok (by rfl) (by rfl) hG0 (fun n h => ?_) (fun n o h => ?_) (fun n o h => h) (fun m h => ?_) hQ
 ·by_cases e : n = gb
  ·rw [if_pos e]; simp
  ·rw [if_neg e]; exact h
 ·by_cases e : n = gb
  ·rw [if_pos e] at h
   cases h
   refine .inr fun m hm2 => ?_
   obtain ⟨x, hx, hs⟩ := hm2
   simp only [List.mem_cons, List.not_mem_nil, or_false] at hx
   subst hx
   cases hs
   rw [if_neg hne, hm]; simp
  ·rw [if_neg e] at h; exact .inl h
 ·obtain ⟨x, hx, hs⟩ := h
  simp only [List.mem_cons, List.not_mem_nil, or_false] at hx
  subst hx
  cases hs
  rw [if_pos rfl]; simp
theorem v_sortedT (gm gb : Nat) (s : List (Tr × Bool)) (few : s.length < 100000) (z : Option (Nat × Obj)) (G : Gl) (hm : G gm = some (.map Tr.v Value.bool s z)) (hb : G gb = some (.box [.mp (.g gm)])) (Q : Po) (hQ : Q (vL 6 ((sortT (s.map (·.1))).map Tr.v)) G) : VC Tryz.prog 87 [.fn 103 [.ptr (.g gb) 0], .fn 89 []] G Q :=
 VC.of_keys hb hm (fun Bm b w h1 h2 h3 => keysSorted_c Bm b s few w h1 h2 h3) (fun x hx => by obtain ⟨t, _, rfl⟩ := List.mem_map.1 hx; rfl) hQ
end Go.Proofs.YtnpnjhopgedhkaaGreat
namespace Go.Proofs.YtnpnjhopgedhkaaGreat
open Go.RowKit V Geo
def Tr.cor (t : Tr) : Nat → Pt
 | 0 => t.a
 | 1 => t.b
 | 2 => t.c
 | _ => t.a
theorem idx3 (a b c d e f : Int) (w : World) : ((Instr.index 81 (.agg #[.int .i64 a, .int .i64 b, .int .i64 c, .int .i64 d, .int .i64 e, .int .i64 f]) (.int .i64 0)).run Tryz.prog w = .ok (.agg #[.int .i64 a, .int .i64 b]) w) ∧
 ((Instr.index 81 (.agg #[.int .i64 a, .int .i64 b, .int .i64 c, .int .i64 d, .int .i64 e, .int .i64 f]) (.int .i64 1)).run Tryz.prog w = .ok (.agg #[.int .i64 c, .int .i64 d]) w) ∧
 ((Instr.index 81 (.agg #[.int .i64 a, .int .i64 b, .int .i64 c, .int .i64 d, .int .i64 e, .int .i64 f]) (.int .i64 2)).run Tryz.prog w = .ok (.agg #[.int .i64 e, .int .i64 f]) w) :=
 ⟨by kernel_rfl, by kernel_rfl, by kernel_rfl⟩
set_option maxRecDepth 20000 in
set_option maxHeartbeats 1000000 in
theorem corner_c (t : Tr) (i : Nat) (hi : i < 4) (w : World) : Calls Tryz.prog 66 #[t.v, .int .i64 (i : Int)] w fun e w' => e = .returned (ptV (t.cor i)) ∧ Below w.heap.size w w' := by
 unfold Tr.v ptV
 have h4 : i = 0 ∨ i = 1 ∨ i = 2 ∨ i = 3 := by omega
 rcases h4 with rfl | rfl | rfl | rfl
 all_goals
  go_enter Tryz.func66, Tryz.ntmps66
  go_wp2_with fail
  first | rw [(idx3 _ _ _ _ _ _ _).1] | rw [(idx3 _ _ _ _ _ _ _).2.1] | rw [(idx3 _ _ _ _ _ _ _).2.2]
  go_wp2_with fail
  refine bodyPost_ret (v := .agg #[.int .i64 _, .int .i64 _]) ?_ rfl ⟨rfl, by go_grown⟩
  simp [results, Tryz.f66, go_sem, Tr.cor]
set_option maxRecDepth 20000 in
set_option maxHeartbeats 1000000 in
theorem cornerR_c (t : Tr) (i : Nat) (hi : i < 4) (w : World) : Calls Tryz.prog 21 #[t.v, .int .i64 (i : Int)] w fun e w' => e = .returned (ptV (t.cor i)) ∧ Below w.heap.size w w' := by
 unfold Tr.v ptV
 have h4 : i = 0 ∨ i = 1 ∨ i = 2 ∨ i = 3 := by omega
 rcases h4 with rfl | rfl | rfl | rfl
 all_goals
  go_enter Tryz.func21, Tryz.ntmps21
  go_wp2_with fail
  first | rw [(idx3 _ _ _ _ _ _ _).1] | rw [(idx3 _ _ _ _ _ _ _).2.1] | rw [(idx3 _ _ _ _ _ _ _).2.2]
  go_wp2_with fail
  refine bodyPost_ret (v := .agg #[.int .i64 _, .int .i64 _]) ?_ rfl ⟨rfl, by go_grown⟩
  simp [results, Tryz.f21, go_sem, Tr.cor]
attribute [local irreducible] VR VJ VC decOk decBt
theorem v_corner (t : Tr) (i : Nat) (hi : i < 4) (G : Gl) (Q : Po) (hQ : Q (vV (ptV (t.cor i))) G) : VC Tryz.prog 66 [vV t.v, vI (i : Int)] G Q :=
 VC.of_calls (vals := [t.v, .int .i64 (i : Int)]) (corner_c t i hi) hQ
theorem v_cornerR (t : Tr) (i : Nat) (hi : i < 4) (G : Gl) (Q : Po) (hQ : Q (vV (ptV (t.cor i))) G) : VC Tryz.prog 21 [vV t.v, vI (i : Int)] G Q :=
 VC.of_calls (vals := [t.v, .int .i64 (i : Int)]) (cornerR_c t i hi) hQ
theorem v_edge (t : Tr) (i : Nat) (hi : i < 3) (G : Gl) (Q : Po) (hQ : Q (.tup [.d (.v (ptV (t.cor i))), .d (.v (ptV (t.cor (i + 1))))]) G) : VC Tryz.prog 39 [vV t.v, vI (i : Int)] G Q := by
 refine VC.of_body Tryz.func39 rfl rfl rfl fun W0 h0 x0 hG0 => ?_
 simp only [args0]
 have h3 : i = 0 ∨ i = 1 ∨ i = 2 := by omega
 rcases h3 with rfl | rfl | rfl
 all_goals
  repeat' (first | refine VJ.seq ?_ | refine VJ.skip ?_ | refine VJ.cond_t rfl ?_ | refine VJ.cond_f rfl ?_ | refine VJ.region_k fun K hK => ?_ | (refine VR.done (hK _ ?_); clear hK K) | (first | refine VR.move rfl rfl ?_ | refine VR.assign rfl rfl ?_ | (show onLd; refine VR.load tok rfl rfl rfl rfl ?_) | refine VR.int rfl rfl rfl rfl ?_ | refine VR.box rfl rfl rfl ?_ | refine VR.alloc tok rfl rfl rfl ?_ | refine VR.store tok rfl rfl rfl rfl rfl rfl rfl (by first | (intro n e; cases e; done) | exact (fun _ _ q => all_glA (by rfl) q)) ?_ | (refine VR.div rfl rfl rfl (by decide) rfl ?_)) | (refine VR.call fok66 rfl rfl rfl rfl ?_; refine (v_corner t 0 (by decide) _ _ ?_)) | (refine VR.call fok66 rfl rfl rfl rfl ?_; refine (v_corner t 1 (by decide) _ _ ?_)) | (refine VR.call fok66 rfl rfl rfl rfl ?_; refine (v_corner t 2 (by decide) _ _ ?_)) | (refine VR.call fok66 rfl rfl rfl rfl ?_; refine (v_corner t 3 (by decide) _ _ ?_)))
  apply VJ.draw3 [7, 8] [(0, 0), (1, 0), (2, 0), (3, 0), (4, 0), (5, 0), (6, 0), (7, 0), (8, 1), (3, 1), (4, 1), (5, 1)] [[(2, none)], [(1, none)], [(8, some 0), (9, some 1)], [(2, none)], [(1, none)], [(12, some 4)], [(11, some 3), (13, some 5)], [(4, none), (10, some 2)], [(5, none), (14, some 6)]] [[(2, _)], [(1, _)], [(8, _), (9, _)], [(2, _)], [(1, _)], [(12, _)], [(11, _), (13, _)], [(4, _), (10, _)], [(5, _), (14, _)]] [_, _, _, _, _, _, _, (.a .top), (.a .top)] [⟨_, _, _⟩, ⟨_, _, _⟩, ⟨_, _, _⟩] (by kernel_rfl) ?hok rfl ?hh rfl rfl ?hj
  case hh =>
   refine ⟨?_, ?_, ?_, ?_, ?_, ?_, ?_, ?_, ?_, ?_, ?_, ?_, trivial⟩
   all_goals (intro rest K1 hK1; (repeat (first | exact VR.done hK1 | (first | refine VR.move rfl rfl ?_ | (show onLd; refine VR.load tok rfl rfl rfl rfl ?_) | refine VR.int rfl rfl rfl rfl ?_ | refine VR.store tok rfl rfl rfl rfl rfl rfl rfl (by first | (intro n e; cases e; done) | exact (fun _ _ q => all_glA (by rfl) q)) ?_ | (refine VR.div rfl rfl rfl (by decide) rfl ?_)) | (refine VR.call fok66 rfl rfl rfl rfl ?_; refine (v_corner t 0 (by decide) _ _ ?_)) | (refine VR.call fok66 rfl rfl rfl rfl ?_; refine (v_corner t 1 (by decide) _ _ ?_)) | (refine VR.call fok66 rfl rfl rfl rfl ?_; refine (v_corner t 2 (by decide) _ _ ?_)) | (refine VR.call fok66 rfl rfl rfl rfl ?_; refine (v_corner t 3 (by decide) _ _ ?_)))); try (first | exact VR.done hK1 | (refine VR.done ?_; dsimp only [S.set]; exact hK1)))
  case hok => kernel_rfl
  case hj =>
   dsimp only [tla]
   refine VJ.ret tok (by rfl) (by rfl) ?_
   exact hQ
end Go.Proofs.YtnpnjhopgedhkaaGreat
namespace Go.Proofs.YtnpnjhopgedhkaaGreat
open Go.RowKit V Geo
structure En where
 a : Pt
 b : Pt
deriving DecidableEq
def En.v (e : En) : Value := .agg #[.int .i64 e.a.x, .int .i64 e.a.y, .int .i64 e.b.x, .int .i64 e.b.y]
def tr0 : Tr := ⟨⟨0, 0⟩, ⟨0, 0⟩, ⟨0, 0⟩⟩
theorem bits_int (n : Nat) (q : IntKind) (a : Int) : Instr.sameBits n (.int q a) (.int q a) = true := by cases n <;> simp [Instr.sameBits]
theorem key58 : Mp.Key Tryz.prog 129 En.v := by
 refine Mp.Key.asking ?_ ?_ ?_ ?_ ?_
 ·rw [Tryz.underlying129]; trivial
 ·rintro w ⟨⟨a, b⟩, ⟨c, d⟩⟩ ⟨⟨a', b'⟩, ⟨c', d'⟩⟩
  unfold En.v
  simp [Op.equal, Op.maxDepth, go_sem]
  by_cases h1 : a = a' <;> by_cases h2 : b = b' <;> by_cases h3 : c = c' <;> by_cases h4 : d = d' <;> simp [h1, h2, h3, h4]
 ·intro x; exact ⟨_, rfl⟩
 ·intro w em x
  have : ∀ n, (Instr.checkKey em (n + 3) 129 x.v).run Tryz.prog w = .ok () w := fun n => by
   unfold En.v
   simp [Instr.checkKey, go_sem]
  exact this 9997
 ·intro x
  have : ∀ n, Instr.sameBits (n + 1) x.v x.v = true := fun n => by simp [En.v, Instr.sameBits, bits_int]
  exact this 9999
theorem key60 : Mp.Key Tryz.prog 71 En.v := by
 refine Mp.Key.asking ?_ ?_ ?_ ?_ ?_
 ·rw [Tryz.underlying71]; trivial
 ·rintro w ⟨⟨a, b⟩, ⟨c, d⟩⟩ ⟨⟨a', b'⟩, ⟨c', d'⟩⟩
  unfold En.v
  simp [Op.equal, Op.maxDepth, go_sem]
  by_cases h1 : a = a' <;> by_cases h2 : b = b' <;> by_cases h3 : c = c' <;> by_cases h4 : d = d' <;> simp [h1, h2, h3, h4]
 ·intro x; exact ⟨_, rfl⟩
 ·intro w em x
  have : ∀ n, (Instr.checkKey em (n + 3) 71 x.v).run Tryz.prog w = .ok () w := fun n => by
   unfold En.v
   simp [Instr.checkKey, go_sem]
  exact this 9997
 ·intro x
  have : ∀ n, Instr.sameBits (n + 1) x.v x.v = true := fun n => by simp [En.v, Instr.sameBits, bits_int]
  exact this 9999
theorem key26 : Mp.Key Tryz.prog 49 Tr.v := by
 refine Mp.Key.asking ?_ ?_ ?_ ?_ ?_
 ·rw [Tryz.underlying49]; trivial
 ·rintro w ⟨⟨a, b⟩, ⟨c, d⟩, ⟨e, f⟩⟩ ⟨⟨a', b'⟩, ⟨c', d'⟩, ⟨e', f'⟩⟩
  unfold Tr.v
  simp [Op.equal, Op.maxDepth, go_sem]
  by_cases h1 : a = a' <;> by_cases h2 : b = b' <;> by_cases h3 : c = c' <;> by_cases h4 : d = d' <;> by_cases h5 : e = e' <;> by_cases h6 : f = f' <;> simp [h1, h2, h3, h4, h5, h6]
 ·intro x; exact ⟨_, rfl⟩
 ·intro w em x
  have : ∀ n, (Instr.checkKey em (n + 3) 49 x.v).run Tryz.prog w = .ok () w := fun n => by
   unfold Tr.v
   simp [Instr.checkKey, go_sem]
  exact this 9997
 ·intro x
  have : ∀ n, Instr.sameBits (n + 1) x.v x.v = true := fun n => by simp [Tr.v, Instr.sameBits, bits_int]
  exact this 9999
abbrev TS := List (Tr × Bool)
abbrev LS := List (En × Tr)
abbrev bxM : VO := .box [.mp (.g 1), .mp (.g 2)]
structure MeshG (G : Gl) (ts : TS) (le : LS) : Prop where
 g0 : G 0 = some bxM
 g1 : ∃ z, G 1 = some (.map Tr.v Value.bool ts z)
 g2 : ∃ z, G 2 = some (.map En.v Tr.v le z)
theorem MeshG.ok {G : Gl} {ts : TS} {le : LS} (h : MeshG G ts le) : ∃ z1 z2, govOk G [(0, bxM), (1, .map Tr.v Value.bool ts z1), (2, .map En.v Tr.v le z2)] := by
 obtain ⟨g0, ⟨z1, g1⟩, z2, g2⟩ := h
 exact ⟨z1, z2, g0, g1, g2, trivial⟩
abbrev vM : AV := .a (.ptr (.g 0) 0)
def leftOf (le : LS) (a b : Pt) : Tr × Bool := ((Mp.get le ⟨a, b⟩).getD tr0, (Mp.get le ⟨a, b⟩).isSome)
def hasT (ts : TS) (t : Tr) : Bool := (Mp.get ts t).getD false
attribute [local irreducible] VR VJ VC decOk decBt
theorem v_left (ts : TS) (le : LS) (a b : Pt) (G : Gl) (hG : MeshG G ts le) (Q : Po) (hQ : Q (.tup [.d (.v (leftOf le a b).1.v), .d (.v (.bool (leftOf le a b).2))]) G) : VC Tryz.prog 68 [vM, vV (ptV a), vV (ptV b)] G Q := by
 obtain ⟨z1, z2, hg⟩ := hG.ok
 rw [gov_self hg] at hQ ⊢
 refine VC.of_body Tryz.func68 rfl rfl rfl fun W0 h0 x0 hG0 => ?_
 simp only [args0]
 repeat' (first | refine VJ.seq ?_ | refine VJ.skip ?_ | refine VJ.cond_f rfl ?_ | refine VJ.region_k fun K hK => ?_ | (refine VR.done (hK _ ?_); clear hK K) | (first | refine VR.move rfl rfl ?_ | refine VR.assign rfl rfl ?_ | refine VR.box rfl rfl rfl ?_ | refine VR.alloc tok rfl rfl rfl ?_ | refine VR.eqNil rfl rfl rfl rfl (ptrOk (by rfl)) ?_))
 apply VJ.draw3 [11, 12] [(0, 0), (1, 0), (2, 0), (3, 0), (4, 0), (5, 0), (6, 0), (7, 0), (8, 0), (9, 0), (10, 0), (11, 0), (12, 1), (13, 2), (0, 1), (1, 1), (2, 1), (3, 1), (4, 1), (5, 1), (6, 1), (7, 1), (8, 1), (9, 1), (10, 1), (10, 2)] [[(0, none)], [(14, some 0)], [(15, some 1)], [(16, some 2)], [(4, none)], [(5, none)], [(18, some 4), (19, some 5)], [(17, some 3), (20, some 6)], [(21, some 7)], [(13, some 8)], [(13, some 8)], [], [(8, some 11), (22, some 9)], [(23, some 10)]] [[(0, _)], [(14, _)], [(15, _)], [(16, _)], [(4, _)], [(5, _)], [(18, _), (19, _)], [(17, _), (20, _)], [(21, _)], [(13, _)], [(13, _)], [], [(8, _), (22, _)], [(23, _)]] [_, _, _, _, _, _, _, _, _, _, _, _, (.a .top), _] [⟨_, _, _⟩, ⟨_, _, _⟩, ⟨_, _, _⟩] (by kernel_rfl) ?hok rfl ?hh rfl rfl ?hj
 case hh =>
  refine ⟨?_, ?_, ?_, ?_, ?_, ?_, ?_, ?_, ?_, ?_, ?_, ?_, ?_, ?_, ?_, ?_, ?_, ?_, ?_, ?_, ?_, ?_, ?_, ?_, ?_, ?_, trivial⟩
  all_goals (intro rest K1 hK1; (repeat (first | exact VR.done hK1 | (first | refine VR.move rfl rfl ?_ | refine VR.assign rfl rfl ?_ | (show onLd; refine VR.load tok rfl rfl rfl rfl ?_) | (show onFa; refine VR.fieldAddr tok rfl rfl rfl rfl rfl rfl ?_) | refine VR.alloc tok rfl rfl rfl ?_ | refine VR.store tok rfl rfl rfl rfl rfl rfl rfl (by first | (intro n e; cases e; done) | exact (fun _ _ q => all_glA (by rfl) q)) ?_ | refine VR.nilCheck rfl rfl rfl ?_ | refine VR.extract rfl rfl rfl ?_ | refine VR.buildX [_, _, _, _] tok rfl rfl rfl rfl rfl rfl ?_ | (refine VR.lookup2 (key := (⟨a, b⟩ : En)) (zv := tr0) rfl rfl rfl rfl (mapOk (by rfl)) key58 (fun w => by kernel_rfl) ?_)))); try (first | exact VR.done hK1 | (refine VR.done ?_; dsimp only [S.set]; exact hK1)))
 case hok => kernel_rfl
 case hj =>
  dsimp only [tla]
  repeat' (first | refine VJ.seq ?_ | refine VJ.region_k fun K hK => ?_ | (refine VR.done (hK _ ?_); clear hK K) | (first | refine VR.move rfl rfl ?_ | refine VR.assign rfl rfl ?_ | (show onLd; refine VR.load tok rfl rfl rfl rfl ?_) | refine VR.store tok rfl rfl rfl rfl rfl rfl rfl (by first | (intro n e; cases e; done) | exact (fun _ _ q => all_glA (by rfl) q)) ?_))
  refine VJ.ret tok (by rfl) (by rfl) ?_
  exact hQ
theorem v_has (ts : TS) (le : LS) (t : Tr) (G : Gl) (hG : MeshG G ts le) (Q : Po) (hQ : Q (vB (hasT ts t)) G) : VC Tryz.prog 67 [vM, vV t.v] G Q := by
 obtain ⟨z1, z2, hg⟩ := hG.ok
 rw [gov_self hg] at hQ ⊢
 refine VC.of_body Tryz.func67 rfl rfl rfl fun W0 h0 x0 hG0 => ?_
 simp only [args0]
 repeat' (first | refine VJ.seq ?_ | refine VJ.region_k fun K hK => ?_ | (refine VR.done (hK _ ?_); clear hK K) | (first | refine VR.assign rfl rfl ?_ | refine VR.box rfl rfl rfl ?_))
 apply VJ.draw3 [] [(0, 0), (1, 0), (2, 0), (3, 0), (4, 0), (5, 0), (6, 0), (7, 0), (8, 0), (9, 0), (10, 0)] [[(0, none)], [(5, some 0)], [(6, some 1)], [(0, none), (7, some 2)], [(8, some 3), (7, some 2)], [(9, some 4), (7, some 2)], [(10, some 5), (7, some 2)], [(3, none), (7, some 2)], [(11, some 6), (12, some 7), (7, some 2)], [(7, some 2), (13, some 8)], [(14, some 9)]] [[(0, _)], [(5, _)], [(6, _)], [(0, _), (7, _)], [(8, _), (7, _)], [(9, _), (7, _)], [(10, _), (7, _)], [(3, _), (7, _)], [(11, _), (12, _), (7, _)], [(7, _), (13, _)], [(14, _)]] [_, _, _, _, _, _, _, _, _, _, _] [⟨_, _, _⟩] (by kernel_rfl) ?hok rfl ?hh rfl rfl ?hj
 case hh =>
  refine ⟨?_, ?_, ?_, ?_, ?_, ?_, ?_, ?_, ?_, ?_, ?_, trivial⟩
  all_goals (intro rest K1 hK1; (repeat (first | exact VR.done hK1 | (first | refine VR.move rfl rfl ?_ | refine VR.assign rfl rfl ?_ | (show onLd; refine VR.load tok rfl rfl rfl rfl ?_) | (show onFa; refine VR.fieldAddr tok rfl rfl rfl rfl rfl rfl ?_) | (refine VR.pickB rfl rfl rfl rfl ?_ ?_ ?_; iterate 2 (first | exact trivial | (refine fun h => ?_; first | (rw [h]; rfl) | (rw [h, hg]; rfl) | (rw [hg, h]; rfl) | (simp [h, hg]; done)))) | refine VR.g_yes rfl rfl (by first | rfl | assumption) ?_ | refine VR.nilCheck rfl rfl rfl ?_ | refine VR.neNil rfl rfl rfl rfl (ptrOk (by rfl)) ?_ | (refine VR.lookup (key := t) (zv := false) rfl rfl rfl rfl (mapOk (by rfl)) key26 (fun w => by kernel_rfl) ?_)))); try (first | exact VR.done hK1 | (refine VR.done ?_; dsimp only [S.set]; exact hK1)))
 case hok => kernel_rfl
 case hj =>
  dsimp only [tla]
  refine VJ.ret tok (by rfl) (by rfl) ?_
  exact hQ
def acrossOf (ts : TS) (le : LS) (t : Tr) (i : Nat) : Tr × Bool := if hasT ts t = true then leftOf le (t.cor (i + 1)) (t.cor i) else (tr0, false)
theorem v_across (ts : TS) (le : LS) (t : Tr) (i : Nat) (hi : i < 3) (G : Gl) (hG : MeshG G ts le) (Q : Po) (hQ : Q (.tup [.d (.v (acrossOf ts le t i).1.v), .d (.v (.bool (acrossOf ts le t i).2))]) G) : VC Tryz.prog 40 [vM, vV t.v, vI (i : Int)] G Q := by
 refine VC.of_body Tryz.func40 rfl rfl rfl fun W0 h0 x0 hG0 => ?_
 simp only [args0]
 unfold acrossOf at hQ
 repeat' (first | refine VJ.seq ?_ | refine VJ.region_k fun K hK => ?_ | (refine VR.done (hK _ ?_); clear hK K) | (first | refine VR.move rfl rfl ?_ | refine VR.assign rfl rfl ?_ | (show onLd; refine VR.load tok rfl rfl rfl rfl ?_) | refine VR.not rfl rfl ?_ | refine VR.box rfl rfl rfl ?_ | refine VR.alloc tok rfl rfl rfl ?_) | (refine VR.call fok67 rfl rfl rfl rfl ?_; refine (v_has ts le t _ hG _ ?_)))
 refine VJ.cond rfl (fun hc => ?_) (fun hc => ?_)
 ·rw [if_neg (show ¬ hasT ts t = true by
   have hc : (!hasT ts t) = true := hc
   simpa using hc)] at hQ
  repeat' (first | refine VJ.seq ?_ | refine VJ.region_k fun K hK => ?_ | (refine VR.done (hK _ ?_); clear hK K) | (first | refine VR.assign rfl rfl ?_ | refine VR.store tok rfl rfl rfl rfl rfl rfl rfl (by first | (intro n e; cases e; done) | exact (fun _ _ q => all_glA (by rfl) q)) ?_ | refine VR.buildX [_, _, _, _, _, _] tok rfl rfl rfl rfl rfl rfl ?_))
  refine VJ.ret tok (by rfl) (by rfl) ?_
  exact hQ
 ·rw [if_pos (show hasT ts t = true by
   have hc : (!hasT ts t) = false := hc
   simpa using hc)] at hQ
  repeat' (first | refine VJ.seq ?_ | refine VJ.skip ?_ | refine VJ.region_k fun K hK => ?_ | (refine VR.done (hK _ ?_); clear hK K) | (first | refine VR.move rfl rfl ?_ | refine VR.assign rfl rfl ?_ | (show onLd; refine VR.load tok rfl rfl rfl rfl ?_) | refine VR.alloc tok rfl rfl rfl ?_ | refine VR.store tok rfl rfl rfl rfl rfl rfl rfl (by first | (intro n e; cases e; done) | exact (fun _ _ q => all_glA (by rfl) q)) ?_ | refine VR.extract rfl rfl rfl ?_) | (refine VR.call fok39 rfl rfl rfl rfl ?_; refine (v_edge t i hi _ _ ?_)) | (refine VR.call fok68 rfl rfl rfl rfl ?_; refine (v_left ts le (t.cor (i + 1)) (t.cor i) _ hG _ ?_)))
  refine VJ.ret tok (by rfl) (by rfl) ?_
  exact hQ
def trisM (ts : TS) : List Tr := sortT (ts.map (·.1))
theorem v_trisM (ts : TS) (few : ts.length < 100000) (le : LS) (G : Gl) (hG : MeshG G ts le) (hfr : Free 10 12 G) (Q : Po) (hQ : Q (vL 6 ((trisM ts).map Tr.v)) G) : VC Tryz.prog 55 [vM] G Q := by
 obtain ⟨z1, hg1⟩ := hG.g1
 have hret : ∀ n o, G n = some o → (if n = 10 then some (.box [.mp (.g 1)]) else G n) = some o := by
  intro n o h
  have hn := hfr.ne h
  simp [hn 10 (by decide) (by decide), h]
 obtain ⟨z1', z2, hg⟩ := hG.ok
 refine VC.of_body Tryz.func55 rfl rfl rfl fun W0 h0 x0 hG0 => ?_
 simp only [args0]
 have e0 : S.obj ⟨0, args0 0 [vM], [], G⟩ (.g 0) = some bxM := hG.g0
 refine VJ.toG 0 (args0 0 [vM]) [] _ ?_ rfl (by repeat' first | exact trivial | refine ⟨rfl, ?_⟩) trivial (by rfl) (fun n => congrFun (gov_self hg) n)
 simp only [args0]
 repeat' (first | refine VJ.seq ?_ | refine VJ.skip ?_ | refine VJ.cond_f rfl ?_ | refine VJ.region_k fun K hK => ?_ | (refine VR.done (hK _ ?_); clear hK K) | (first | refine VR.move rfl rfl ?_ | refine VR.assign rfl rfl ?_ | (show onLd; refine VR.load tok rfl rfl rfl rfl ?_) | (show onFa; refine VR.fieldAddr tok rfl rfl rfl rfl rfl rfl ?_) | refine VR.nilCheck rfl rfl rfl ?_ | refine VR.eqNil rfl rfl rfl rfl (ptrOk (by rfl)) ?_ | (refine VR.call fok88 rfl rfl rfl rfl ?_; refine v_keysT 1 10 ts z1' _ (by exact rfl) (by exact hfr 10 (by decide) (by decide)) _ ?_) | (refine VR.call fok87 rfl rfl rfl rfl ?_; refine v_sortedT 1 10 ts few z1' _ (by exact rfl) (by exact rfl) _ ?_)))
 refine VJ.retF tok (by rfl) (by rfl) hG0 ?_ (by rfl) ?_
 ·intro n o h
  have := hret n o h
  by_cases h10 : n = 10
  ·subst h10
   rw [hfr 10 (by decide) (by decide)] at h; cases h
  ·refine (if_neg h10).trans ?_
   rw [← gov_self hg]; exact h
 ·exact hQ
end Go.Proofs.YtnpnjhopgedhkaaGreat
namespace Go.Proofs.YtnpnjhopgedhkaaGreat
open Go.RowKit V Geo
def rot (a b c : Pt) : Bool := bif decide (cp a b > 0) then true else decide (cp a c > 0)
def rotR (a b c : Pt) : Bool := bif decide (cp b a < 0) then true else decide (cp c a < 0)
theorem rotR_eq (a b c : Pt) : rotR a b c = rot a b c := by
 unfold rot rotR
 have e1 : decide (cp b a < 0) = decide (cp a b > 0) := by rw [cp_flip a b]; simp only [decide_eq_decide]; omega
 have e2 : decide (cp c a < 0) = decide (cp a c > 0) := by rw [cp_flip a c]; simp only [decide_eq_decide]; omega
 rw [e1, e2]
def lead (a b c : Pt) : Tr := if rot a b c = true then (if rot b c a = true then ⟨c, a, b⟩ else ⟨b, c, a⟩) else ⟨a, b, c⟩
theorem rot_iff (a b c : Pt) : rot a b c = true ↔ (b.x < a.x ∨ a.x = b.x ∧ b.y < a.y) ∨ (c.x < a.x ∨ a.x = c.x ∧ c.y < a.y) := by
 unfold rot
 rw [← cp_pos, ← cp_pos]
 by_cases h1 : 0 < cp a b <;> by_cases h2 : 0 < cp a c <;> simp [h1, h2]
theorem rot_three {a b c : Pt} (h1 : rot a b c = true) (h2 : rot b c a = true) : ¬ rot c a b = true := by
 rw [rot_iff] at h1 h2 ⊢
 omega
theorem lead_step {a b c : Pt} (h : rot a b c = true) : lead b c a = lead a b c := by
 unfold lead
 rw [if_pos h]
 by_cases h2 : rot b c a = true
 ·rw [if_pos h2, if_pos h2, if_neg (rot_three h h2)]
 ·rw [if_neg h2, if_neg h2]
def rotM (a b c : Pt) : Nat := if rot a b c = true then (if rot b c a = true then 2 else 1) else 0
theorem rotM_step {a b c : Pt} (h : rot a b c = true) : rotM b c a < rotM a b c := by
 unfold rotM
 rw [if_pos h]
 by_cases h2 : rot b c a = true
 ·rw [if_pos h2, if_pos h2, if_neg (rot_three h h2)]; decide
 ·rw [if_neg h2, if_neg h2]; decide
def makeT (a b c : Pt) : Tr × Bool := if oriG a b c = 0 then (tr0, false) else if oriG a b c = -1 then (lead a c b, true) else (lead a b c, true)
def validT (t : Tr) : Bool := bif (makeT t.a t.b t.c).2 then decide ((makeT t.a t.b t.c).1 = t) else false
theorem eqT0 (x y : Tr) (w : World) : (binOp .eql 49 x.v y.v).run Tryz.prog w = .ok (.bool (decide (x = y))) w := by
 obtain ⟨⟨a, b⟩, ⟨c, d⟩, ⟨e, f⟩⟩ := x
 obtain ⟨⟨a', b'⟩, ⟨c', d'⟩, ⟨e', f'⟩⟩ := y
 unfold Tr.v
 simp [go_sem]
 by_cases h1 : a = a' <;> by_cases h2 : b = b' <;> by_cases h3 : c = c' <;> by_cases h4 : d = d' <;> by_cases h5 : e = e' <;> by_cases h6 : f = f' <;> simp [h1, h2, h3, h4, h5, h6]
theorem eqT (a b : Operand) (x y : Tr) (w : World) : (do eqGuard .eql 49 a b x.v y.v; binOp .eql 49 x.v y.v : Sem Value).run Tryz.prog w = .ok (.bool (decide (x = y))) w := by
 rw [Sem.run_bind, show (eqGuard .eql 49 a b x.v y.v).run Tryz.prog w = .ok () w from run_eqGuard_agg w .eql 49 a b _ _ (show Tryz.prog.eqGuardType Tryz.prog.depth 49 = false by kernel_rfl)]
 simp only [Result.andThen_ok]
 exact eqT0 x y w
theorem neqT0 (x y : Tr) (w : World) : (binOp .neq 49 x.v y.v).run Tryz.prog w = .ok (.bool (!decide (x = y))) w := by
 obtain ⟨⟨a, b⟩, ⟨c, d⟩, ⟨e, f⟩⟩ := x
 obtain ⟨⟨a', b'⟩, ⟨c', d'⟩, ⟨e', f'⟩⟩ := y
 unfold Tr.v
 simp [go_sem]
 by_cases h1 : a = a' <;> by_cases h2 : b = b' <;> by_cases h3 : c = c' <;> by_cases h4 : d = d' <;> by_cases h5 : e = e' <;> by_cases h6 : f = f' <;> simp [h1, h2, h3, h4, h5, h6]
theorem neqT (a b : Operand) (x y : Tr) (w : World) : (do eqGuard .neq 49 a b x.v y.v; binOp .neq 49 x.v y.v : Sem Value).run Tryz.prog w = .ok (.bool (!decide (x = y))) w := by
 rw [Sem.run_bind, show (eqGuard .neq 49 a b x.v y.v).run Tryz.prog w = .ok () w from run_eqGuard_agg w .neq 49 a b _ _ (show Tryz.prog.eqGuardType Tryz.prog.depth 49 = false by kernel_rfl)]
 simp only [Result.andThen_ok]
 exact neqT0 x y w
abbrev bxT (t : Tr) : VO := .box [.d (.v (.int .i64 t.a.x)), .d (.v (.int .i64 t.a.y)), .d (.v (.int .i64 t.b.x)), .d (.v (.int .i64 t.b.y)), .d (.v (.int .i64 t.c.x)), .d (.v (.int .i64 t.c.y))]
theorem ori_three (a b c : Pt) : oriG a b c = -1 ∨ oriG a b c = 0 ∨ oriG a b c = 1 := by
 unfold oriG
 split
 ·rcases sg_cases (tw a b c) with ⟨_, h⟩ | ⟨_, h⟩ | ⟨_, h⟩ <;> simp [h]
 ·simp
attribute [local irreducible] VR VJ VC decOk decBt
set_option maxHeartbeats 4000000 in
theorem v_make (a b c : Pt) (G : Gl) (Q : Po) (hQ : Q (.tup [.d (.v (makeT a b c).1.v), .d (.v (.bool (makeT a b c).2))]) G) : VC Tryz.prog 91 [vV (ptV a), vV (ptV b), vV (ptV c)] G Q := by
 refine VC.of_body Tryz.func91 rfl rfl rfl fun W0 h0 x0 hG0 => ?_
 simp only [args0]
 unfold makeT at hQ
 have h3 := ori_three a b c
 generalize ho : oriG a b c = o at hQ h3
 rcases h3 with rfl | rfl | rfl
 ·repeat' (first | refine VJ.seq ?_ | refine VJ.block ?_ | refine VJ.inBlock ?_ | refine VJ.cond_t rfl ?_ | refine VJ.cond_f rfl ?_ | refine VJ.region_k fun K hK => ?_ | (refine VR.done (hK _ ?_); clear hK K) | (first | refine VR.assign rfl rfl ?_ | (show onLd; refine VR.load tok rfl rfl rfl rfl ?_) | refine VR.int rfl rfl rfl rfl ?_ | refine VR.box rfl rfl rfl ?_ | refine VR.alloc tok rfl rfl rfl ?_ | refine VR.store tok rfl rfl rfl rfl rfl rfl rfl (by first | (intro n e; cases e; done) | exact (fun _ _ q => all_glA (by rfl) q)) ?_ | (refine VR.call fok90 rfl rfl rfl rfl ?_; refine v_orient a b c _ _ ?_; rw [ho])))
  refine VJ.to 4 [(6, .a (.ptr (.l 3) 0)), (5, .a (.ptr (.l 2) 0)), (4, .a (.ptr (.l 1) 0)), (3, .a (.ptr (.l 0) 0))] [(0, bxP a), (1, bxP c), (2, bxP b), (3, bxT tr0)] ?_ rfl (by repeat' first | exact trivial | refine ⟨rfl, ?_⟩) (by repeat' first | exact trivial | refine ⟨rfl, ?_⟩) (by rfl)
  refine VJ.rec (fun x : Pt × Pt × Pt => ⟨4, [(6, .a (.ptr (.l 3) 0)), (5, .a (.ptr (.l 2) 0)), (4, .a (.ptr (.l 1) 0)), (3, .a (.ptr (.l 0) 0))], [(0, bxP x.1), (1, bxP x.2.1), (2, bxP x.2.2), (3, bxT tr0)], G⟩) (fun x => rotM x.1 x.2.1 x.2.2) (fun x => lead x.1 x.2.1 x.2.2 = lead a c b) (a, c, b) rfl ?_
  rintro ⟨p, q, r⟩ hl ih
  dsimp only at hl ih ⊢
  repeat' (first | refine VJ.seq ?_ | refine VJ.region_k fun K hK => ?_ | (refine VR.done (hK _ ?_); clear hK K) | (first | refine VR.move rfl rfl ?_ | (show onLd; refine VR.load tok rfl rfl rfl rfl ?_) | refine VR.int rfl rfl rfl rfl ?_ | (refine VR.pickB rfl rfl rfl rfl ?_ ?_ ?_; iterate 2 (first | exact trivial | (refine fun h => ?_; first | (rw [h]; rfl) | (rw [h, hg]; rfl) | (rw [hg, h]; rfl) | (simp [h, hg]; done))))) | (refine' VR.spec (by rfl) (by rfl) (by rfl) ?_ ?_ ?_; rotate_left 1; (repeat (first | exact trivial | refine And.intro id ?_)); intro hg K1 hK1; (first | (show onLd; refine VR.load tok rfl rfl rfl rfl ?_) | refine VR.int rfl rfl rfl rfl ?_ | (refine VR.call fok105 rfl rfl rfl rfl ?_; refine (v_cp p r _ _ ?_))); exact VR.done hK1) | (refine VR.call fok105 rfl rfl rfl rfl ?_; refine (v_cp p q _ _ ?_)))
  refine VJ.cond rfl (fun hc => ?_) (fun hc => ?_)
  ·have hc : rot p q r = true := hc
   repeat' (first | refine VJ.skip ?_ | refine VJ.block ?_ | (fail))
   apply VJ.draw3 [3, 4, 5] [(0, 0), (1, 0), (2, 0), (3, 0), (4, 1), (5, 2), (1, 1)] [[(4, none)], [(5, none)], [(3, none)], [(3, none), (29, some 0)], [(4, none), (30, some 1)], [(5, none), (31, some 2)]] [[(4, _)], [(5, _)], [(3, _)], [(3, _), (29, _)], [(4, _), (30, _)], [(5, _), (31, _)]] [_, _, _, (.a .top), (.a .top), (.a .top)] [⟨_, _, _⟩, ⟨_, _, _⟩, ⟨_, _, _⟩, ⟨_, _, _⟩] (by kernel_rfl) ?hok rfl ?hh rfl rfl ?hj
   case hh =>
    refine ⟨?_, ?_, ?_, ?_, ?_, ?_, ?_, trivial⟩
    all_goals (intro rest K1 hK1; (repeat (first | exact VR.done hK1 | (first | (show onLd; refine VR.load tok rfl rfl rfl rfl ?_) | refine VR.store tok rfl rfl rfl rfl rfl rfl rfl (by first | (intro n e; cases e; done) | exact (fun _ _ q => all_glA (by rfl) q)) ?_))); try (first | exact VR.done hK1 | (refine VR.done ?_; dsimp only [S.set]; exact hK1)))
   case hok => kernel_rfl
   case hj =>
    dsimp only [tla]
    repeat' (first | refine VJ.inBlock ?_ | (fail))
    exact VJ.to 4 _ _ (ih (q, r, p) ((lead_step hc).trans hl) (rotM_step hc)) rfl (by repeat' first | exact trivial | refine ⟨rfl, ?_⟩) (by repeat' first | exact trivial | refine ⟨rfl, ?_⟩) (by rfl)
  ·have hc : rot p q r = false := hc
   have hle : lead p q r = ⟨p, q, r⟩ := by unfold lead; rw [if_neg (by rw [hc]; simp)]
   rw [hle] at hl
   repeat' (first | refine VJ.seq ?_ | refine VJ.exit rfl ?_ | refine VJ.region_k fun K hK => ?_ | (refine VR.done (hK _ ?_); clear hK K) | (first | refine VR.assign rfl rfl ?_ | (show onLd; refine VR.load tok rfl rfl rfl rfl ?_) | refine VR.store tok rfl rfl rfl rfl rfl rfl rfl (by first | (intro n e; cases e; done) | exact (fun _ _ q => all_glA (by rfl) q)) ?_ | refine VR.buildX [_, _, _, _, _, _] tok rfl rfl rfl rfl rfl rfl ?_))
   refine VJ.ret tok (by rfl) (by rfl) ?_
   rw [← hl] at hQ
   exact hQ
 ·repeat' (first | refine VJ.seq ?_ | refine VJ.block ?_ | refine VJ.cond_t rfl ?_ | refine VJ.region_k fun K hK => ?_ | (refine VR.done (hK _ ?_); clear hK K) | (first | refine VR.assign rfl rfl ?_ | (show onLd; refine VR.load tok rfl rfl rfl rfl ?_) | refine VR.int rfl rfl rfl rfl ?_ | refine VR.box rfl rfl rfl ?_ | refine VR.alloc tok rfl rfl rfl ?_ | refine VR.store tok rfl rfl rfl rfl rfl rfl rfl (by first | (intro n e; cases e; done) | exact (fun _ _ q => all_glA (by rfl) q)) ?_ | refine VR.buildX [_, _, _, _, _, _] tok rfl rfl rfl rfl rfl rfl ?_ | (refine VR.call fok90 rfl rfl rfl rfl ?_; refine v_orient a b c _ _ ?_; rw [ho])))
  refine VJ.ret tok (by rfl) (by rfl) ?_
  exact hQ
 ·repeat' (first | refine VJ.seq ?_ | refine VJ.skip ?_ | refine VJ.block ?_ | refine VJ.inBlock ?_ | refine VJ.cond_f rfl ?_ | refine VJ.region_k fun K hK => ?_ | (refine VR.done (hK _ ?_); clear hK K) | (first | refine VR.assign rfl rfl ?_ | (show onLd; refine VR.load tok rfl rfl rfl rfl ?_) | refine VR.int rfl rfl rfl rfl ?_ | refine VR.box rfl rfl rfl ?_ | refine VR.alloc tok rfl rfl rfl ?_ | (refine VR.call fok90 rfl rfl rfl rfl ?_; refine v_orient a b c _ _ ?_; rw [ho])))
  refine VJ.to 4 [(6, .a (.ptr (.l 3) 0)), (5, .a (.ptr (.l 2) 0)), (4, .a (.ptr (.l 1) 0)), (3, .a (.ptr (.l 0) 0))] [(0, bxP a), (1, bxP b), (2, bxP c), (3, bxT tr0)] ?_ rfl (by repeat' first | exact trivial | refine ⟨rfl, ?_⟩) (by repeat' first | exact trivial | refine ⟨rfl, ?_⟩) (by rfl)
  refine VJ.rec (fun x : Pt × Pt × Pt => ⟨4, [(6, .a (.ptr (.l 3) 0)), (5, .a (.ptr (.l 2) 0)), (4, .a (.ptr (.l 1) 0)), (3, .a (.ptr (.l 0) 0))], [(0, bxP x.1), (1, bxP x.2.1), (2, bxP x.2.2), (3, bxT tr0)], G⟩) (fun x => rotM x.1 x.2.1 x.2.2) (fun x => lead x.1 x.2.1 x.2.2 = lead a b c) (a, b, c) rfl ?_
  rintro ⟨p, q, r⟩ hl ih
  dsimp only at hl ih ⊢
  repeat' (first | refine VJ.seq ?_ | refine VJ.region_k fun K hK => ?_ | (refine VR.done (hK _ ?_); clear hK K) | (first | refine VR.move rfl rfl ?_ | (show onLd; refine VR.load tok rfl rfl rfl rfl ?_) | refine VR.int rfl rfl rfl rfl ?_ | (refine VR.pickB rfl rfl rfl rfl ?_ ?_ ?_; iterate 2 (first | exact trivial | (refine fun h => ?_; first | (rw [h]; rfl) | (rw [h, hg]; rfl) | (rw [hg, h]; rfl) | (simp [h, hg]; done))))) | (refine' VR.spec (by rfl) (by rfl) (by rfl) ?_ ?_ ?_; rotate_left 1; (repeat (first | exact trivial | refine And.intro id ?_)); intro hg K1 hK1; (first | (show onLd; refine VR.load tok rfl rfl rfl rfl ?_) | refine VR.int rfl rfl rfl rfl ?_ | (refine VR.call fok105 rfl rfl rfl rfl ?_; refine (v_cp p r _ _ ?_))); exact VR.done hK1) | (refine VR.call fok105 rfl rfl rfl rfl ?_; refine (v_cp p q _ _ ?_)))
  refine VJ.cond rfl (fun hc => ?_) (fun hc => ?_)
  ·have hc : rot p q r = true := hc
   repeat' (first | refine VJ.skip ?_ | refine VJ.block ?_ | (fail))
   apply VJ.draw3 [3, 4, 5] [(0, 0), (1, 0), (2, 0), (3, 0), (4, 1), (5, 2), (1, 1)] [[(4, none)], [(5, none)], [(3, none)], [(3, none), (29, some 0)], [(4, none), (30, some 1)], [(5, none), (31, some 2)]] [[(4, _)], [(5, _)], [(3, _)], [(3, _), (29, _)], [(4, _), (30, _)], [(5, _), (31, _)]] [_, _, _, (.a .top), (.a .top), (.a .top)] [⟨_, _, _⟩, ⟨_, _, _⟩, ⟨_, _, _⟩, ⟨_, _, _⟩] (by kernel_rfl) ?hok rfl ?hh rfl rfl ?hj
   case hh =>
    refine ⟨?_, ?_, ?_, ?_, ?_, ?_, ?_, trivial⟩
    all_goals (intro rest K1 hK1; (repeat (first | exact VR.done hK1 | (first | (show onLd; refine VR.load tok rfl rfl rfl rfl ?_) | refine VR.store tok rfl rfl rfl rfl rfl rfl rfl (by first | (intro n e; cases e; done) | exact (fun _ _ q => all_glA (by rfl) q)) ?_))); try (first | exact VR.done hK1 | (refine VR.done ?_; dsimp only [S.set]; exact hK1)))
   case hok => kernel_rfl
   case hj =>
    dsimp only [tla]
    repeat' (first | refine VJ.inBlock ?_ | (fail))
    exact VJ.to 4 _ _ (ih (q, r, p) ((lead_step hc).trans hl) (rotM_step hc)) rfl (by repeat' first | exact trivial | refine ⟨rfl, ?_⟩) (by repeat' first | exact trivial | refine ⟨rfl, ?_⟩) (by rfl)
  ·have hc : rot p q r = false := hc
   have hle : lead p q r = ⟨p, q, r⟩ := by unfold lead; rw [if_neg (by rw [hc]; simp)]
   rw [hle] at hl
   repeat' (first | refine VJ.seq ?_ | refine VJ.exit rfl ?_ | refine VJ.region_k fun K hK => ?_ | (refine VR.done (hK _ ?_); clear hK K) | (first | refine VR.assign rfl rfl ?_ | (show onLd; refine VR.load tok rfl rfl rfl rfl ?_) | refine VR.store tok rfl rfl rfl rfl rfl rfl rfl (by first | (intro n e; cases e; done) | exact (fun _ _ q => all_glA (by rfl) q)) ?_ | refine VR.buildX [_, _, _, _, _, _] tok rfl rfl rfl rfl rfl rfl ?_))
   refine VJ.ret tok (by rfl) (by rfl) ?_
   rw [← hl] at hQ
   exact hQ
set_option maxHeartbeats 4000000 in
theorem v_makeR (a b c : Pt) (G : Gl) (Q : Po) (hQ : Q (.tup [.d (.v (makeT a b c).1.v), .d (.v (.bool (makeT a b c).2))]) G) : VC Tryz.prog 47 [vV (ptV a), vV (ptV b), vV (ptV c)] G Q := by
 refine VC.of_body Tryz.func47 rfl rfl rfl fun W0 h0 x0 hG0 => ?_
 simp only [args0]
 unfold makeT at hQ
 have h3 := ori_three a b c
 generalize ho : oriG a b c = o at hQ h3
 rcases h3 with rfl | rfl | rfl
 ·repeat' (first | refine VJ.seq ?_ | refine VJ.block ?_ | refine VJ.inBlock ?_ | refine VJ.cond_t rfl ?_ | refine VJ.cond_f rfl ?_ | refine VJ.region_k fun K hK => ?_ | (refine VR.done (hK _ ?_); clear hK K) | (first | refine VR.assign rfl rfl ?_ | (show onLd; refine VR.load tok rfl rfl rfl rfl ?_) | refine VR.int rfl rfl rfl rfl ?_ | refine VR.box rfl rfl rfl ?_ | refine VR.alloc tok rfl rfl rfl ?_ | refine VR.store tok rfl rfl rfl rfl rfl rfl rfl (by first | (intro n e; cases e; done) | exact (fun _ _ q => all_glA (by rfl) q)) ?_ | (refine VR.call fok44 rfl rfl rfl rfl ?_; refine v_orientR a b c _ _ ?_; rw [ho])))
  refine VJ.to 4 [(6, .a (.ptr (.l 3) 0)), (5, .a (.ptr (.l 2) 0)), (4, .a (.ptr (.l 1) 0)), (3, .a (.ptr (.l 0) 0))] [(0, bxP a), (1, bxP c), (2, bxP b), (3, bxT tr0)] ?_ rfl (by repeat' first | exact trivial | refine ⟨rfl, ?_⟩) (by repeat' first | exact trivial | refine ⟨rfl, ?_⟩) (by rfl)
  refine VJ.rec (fun x : Pt × Pt × Pt => ⟨4, [(6, .a (.ptr (.l 3) 0)), (5, .a (.ptr (.l 2) 0)), (4, .a (.ptr (.l 1) 0)), (3, .a (.ptr (.l 0) 0))], [(0, bxP x.1), (1, bxP x.2.1), (2, bxP x.2.2), (3, bxT tr0)], G⟩) (fun x => rotM x.1 x.2.1 x.2.2) (fun x => lead x.1 x.2.1 x.2.2 = lead a c b) (a, c, b) rfl ?_
  rintro ⟨p, q, r⟩ hl ih
  dsimp only at hl ih ⊢
  repeat' (first | refine VJ.seq ?_ | refine VJ.region_k fun K hK => ?_ | (refine VR.done (hK _ ?_); clear hK K) | (first | refine VR.move rfl rfl ?_ | (show onLd; refine VR.load tok rfl rfl rfl rfl ?_) | refine VR.int rfl rfl rfl rfl ?_ | (refine VR.pickB rfl rfl rfl rfl ?_ ?_ ?_; iterate 2 (first | exact trivial | (refine fun h => ?_; first | (rw [h]; rfl) | (rw [h, hg]; rfl) | (rw [hg, h]; rfl) | (simp [h, hg]; done))))) | (refine' VR.spec (by rfl) (by rfl) (by rfl) ?_ ?_ ?_; rotate_left 1; (repeat (first | exact trivial | refine And.intro id ?_)); intro hg K1 hK1; (first | (show onLd; refine VR.load tok rfl rfl rfl rfl ?_) | refine VR.int rfl rfl rfl rfl ?_ | (refine VR.call fok71 rfl rfl rfl rfl ?_; refine (v_cpR r p _ _ ?_))); exact VR.done hK1) | (refine VR.call fok71 rfl rfl rfl rfl ?_; refine (v_cpR q p _ _ ?_)))
  refine VJ.cond rfl (fun hc => ?_) (fun hc => ?_)
  ·have hc : rotR p q r = true := hc
   rw [rotR_eq] at hc
   repeat' (first | refine VJ.skip ?_ | refine VJ.block ?_ | (fail))
   apply VJ.draw3 [3, 4, 5] [(0, 0), (1, 0), (2, 0), (3, 0), (4, 1), (5, 2), (1, 1)] [[(4, none)], [(5, none)], [(3, none)], [(3, none), (29, some 0)], [(4, none), (30, some 1)], [(5, none), (31, some 2)]] [[(4, _)], [(5, _)], [(3, _)], [(3, _), (29, _)], [(4, _), (30, _)], [(5, _), (31, _)]] [_, _, _, (.a .top), (.a .top), (.a .top)] [⟨_, _, _⟩, ⟨_, _, _⟩, ⟨_, _, _⟩, ⟨_, _, _⟩] (by kernel_rfl) ?hok rfl ?hh rfl rfl ?hj
   case hh =>
    refine ⟨?_, ?_, ?_, ?_, ?_, ?_, ?_, trivial⟩
    all_goals (intro rest K1 hK1; (repeat (first | exact VR.done hK1 | (first | (show onLd; refine VR.load tok rfl rfl rfl rfl ?_) | refine VR.store tok rfl rfl rfl rfl rfl rfl rfl (by first | (intro n e; cases e; done) | exact (fun _ _ q => all_glA (by rfl) q)) ?_))); try (first | exact VR.done hK1 | (refine VR.done ?_; dsimp only [S.set]; exact hK1)))
   case hok => kernel_rfl
   case hj =>
    dsimp only [tla]
    repeat' (first | refine VJ.inBlock ?_ | (fail))
    exact VJ.to 4 _ _ (ih (q, r, p) ((lead_step hc).trans hl) (rotM_step hc)) rfl (by repeat' first | exact trivial | refine ⟨rfl, ?_⟩) (by repeat' first | exact trivial | refine ⟨rfl, ?_⟩) (by rfl)
  ·have hc : rotR p q r = false := hc
   rw [rotR_eq] at hc
   have hle : lead p q r = ⟨p, q, r⟩ := by unfold lead; rw [if_neg (by rw [hc]; simp)]
   rw [hle] at hl
   repeat' (first | refine VJ.seq ?_ | refine VJ.exit rfl ?_ | refine VJ.region_k fun K hK => ?_ | (refine VR.done (hK _ ?_); clear hK K) | (first | refine VR.assign rfl rfl ?_ | (show onLd; refine VR.load tok rfl rfl rfl rfl ?_) | refine VR.store tok rfl rfl rfl rfl rfl rfl rfl (by first | (intro n e; cases e; done) | exact (fun _ _ q => all_glA (by rfl) q)) ?_ | refine VR.buildX [_, _, _, _, _, _] tok rfl rfl rfl rfl rfl rfl ?_))
   refine VJ.ret tok (by rfl) (by rfl) ?_
   rw [← hl] at hQ
   exact hQ
 ·repeat' (first | refine VJ.seq ?_ | refine VJ.block ?_ | refine VJ.cond_t rfl ?_ | refine VJ.region_k fun K hK => ?_ | (refine VR.done (hK _ ?_); clear hK K) | (first | refine VR.assign rfl rfl ?_ | (show onLd; refine VR.load tok rfl rfl rfl rfl ?_) | refine VR.int rfl rfl rfl rfl ?_ | refine VR.box rfl rfl rfl ?_ | refine VR.alloc tok rfl rfl rfl ?_ | refine VR.store tok rfl rfl rfl rfl rfl rfl rfl (by first | (intro n e; cases e; done) | exact (fun _ _ q => all_glA (by rfl) q)) ?_ | refine VR.buildX [_, _, _, _, _, _] tok rfl rfl rfl rfl rfl rfl ?_ | (refine VR.call fok44 rfl rfl rfl rfl ?_; refine v_orientR a b c _ _ ?_; rw [ho])))
  refine VJ.ret tok (by rfl) (by rfl) ?_
  exact hQ
 ·repeat' (first | refine VJ.seq ?_ | refine VJ.skip ?_ | refine VJ.block ?_ | refine VJ.inBlock ?_ | refine VJ.cond_f rfl ?_ | refine VJ.region_k fun K hK => ?_ | (refine VR.done (hK _ ?_); clear hK K) | (first | refine VR.assign rfl rfl ?_ | (show onLd; refine VR.load tok rfl rfl rfl rfl ?_) | refine VR.int rfl rfl rfl rfl ?_ | refine VR.box rfl rfl rfl ?_ | refine VR.alloc tok rfl rfl rfl ?_ | (refine VR.call fok44 rfl rfl rfl rfl ?_; refine v_orientR a b c _ _ ?_; rw [ho])))
  refine VJ.to 4 [(6, .a (.ptr (.l 3) 0)), (5, .a (.ptr (.l 2) 0)), (4, .a (.ptr (.l 1) 0)), (3, .a (.ptr (.l 0) 0))] [(0, bxP a), (1, bxP b), (2, bxP c), (3, bxT tr0)] ?_ rfl (by repeat' first | exact trivial | refine ⟨rfl, ?_⟩) (by repeat' first | exact trivial | refine ⟨rfl, ?_⟩) (by rfl)
  refine VJ.rec (fun x : Pt × Pt × Pt => ⟨4, [(6, .a (.ptr (.l 3) 0)), (5, .a (.ptr (.l 2) 0)), (4, .a (.ptr (.l 1) 0)), (3, .a (.ptr (.l 0) 0))], [(0, bxP x.1), (1, bxP x.2.1), (2, bxP x.2.2), (3, bxT tr0)], G⟩) (fun x => rotM x.1 x.2.1 x.2.2) (fun x => lead x.1 x.2.1 x.2.2 = lead a b c) (a, b, c) rfl ?_
  rintro ⟨p, q, r⟩ hl ih
  dsimp only at hl ih ⊢
  repeat' (first | refine VJ.seq ?_ | refine VJ.region_k fun K hK => ?_ | (refine VR.done (hK _ ?_); clear hK K) | (first | refine VR.move rfl rfl ?_ | (show onLd; refine VR.load tok rfl rfl rfl rfl ?_) | refine VR.int rfl rfl rfl rfl ?_ | (refine VR.pickB rfl rfl rfl rfl ?_ ?_ ?_; iterate 2 (first | exact trivial | (refine fun h => ?_; first | (rw [h]; rfl) | (rw [h, hg]; rfl) | (rw [hg, h]; rfl) | (simp [h, hg]; done))))) | (refine' VR.spec (by rfl) (by rfl) (by rfl) ?_ ?_ ?_; rotate_left 1; (repeat (first | exact trivial | refine And.intro id ?_)); intro hg K1 hK1; (first | (show onLd; refine VR.load tok rfl rfl rfl rfl ?_) | refine VR.int rfl rfl rfl rfl ?_ | (refine VR.call fok71 rfl rfl rfl rfl ?_; refine (v_cpR r p _ _ ?_))); exact VR.done hK1) | (refine VR.call fok71 rfl rfl rfl rfl ?_; refine (v_cpR q p _ _ ?_)))
  refine VJ.cond rfl (fun hc => ?_) (fun hc => ?_)
  ·have hc : rotR p q r = true := hc
   rw [rotR_eq] at hc
   repeat' (first | refine VJ.skip ?_ | refine VJ.block ?_ | (fail))
   apply VJ.draw3 [3, 4, 5] [(0, 0), (1, 0), (2, 0), (3, 0), (4, 1), (5, 2), (1, 1)] [[(4, none)], [(5, none)], [(3, none)], [(3, none), (29, some 0)], [(4, none), (30, some 1)], [(5, none), (31, some 2)]] [[(4, _)], [(5, _)], [(3, _)], [(3, _), (29, _)], [(4, _), (30, _)], [(5, _), (31, _)]] [_, _, _, (.a .top), (.a .top), (.a .top)] [⟨_, _, _⟩, ⟨_, _, _⟩, ⟨_, _, _⟩, ⟨_, _, _⟩] (by kernel_rfl) ?hok rfl ?hh rfl rfl ?hj
   case hh =>
    refine ⟨?_, ?_, ?_, ?_, ?_, ?_, ?_, trivial⟩
    all_goals (intro rest K1 hK1; (repeat (first | exact VR.done hK1 | (first | (show onLd; refine VR.load tok rfl rfl rfl rfl ?_) | refine VR.store tok rfl rfl rfl rfl rfl rfl rfl (by first | (intro n e; cases e; done) | exact (fun _ _ q => all_glA (by rfl) q)) ?_))); try (first | exact VR.done hK1 | (refine VR.done ?_; dsimp only [S.set]; exact hK1)))
   case hok => kernel_rfl
   case hj =>
    dsimp only [tla]
    repeat' (first | refine VJ.inBlock ?_ | (fail))
    exact VJ.to 4 _ _ (ih (q, r, p) ((lead_step hc).trans hl) (rotM_step hc)) rfl (by repeat' first | exact trivial | refine ⟨rfl, ?_⟩) (by repeat' first | exact trivial | refine ⟨rfl, ?_⟩) (by rfl)
  ·have hc : rotR p q r = false := hc
   rw [rotR_eq] at hc
   have hle : lead p q r = ⟨p, q, r⟩ := by unfold lead; rw [if_neg (by rw [hc]; simp)]
   rw [hle] at hl
   repeat' (first | refine VJ.seq ?_ | refine VJ.exit rfl ?_ | refine VJ.region_k fun K hK => ?_ | (refine VR.done (hK _ ?_); clear hK K) | (first | refine VR.assign rfl rfl ?_ | (show onLd; refine VR.load tok rfl rfl rfl rfl ?_) | refine VR.store tok rfl rfl rfl rfl rfl rfl rfl (by first | (intro n e; cases e; done) | exact (fun _ _ q => all_glA (by rfl) q)) ?_ | refine VR.buildX [_, _, _, _, _, _] tok rfl rfl rfl rfl rfl rfl ?_))
   refine VJ.ret tok (by rfl) (by rfl) ?_
   rw [← hl] at hQ
   exact hQ
theorem v_validT (t : Tr) (G : Gl) (Q : Po) (hQ : Q (vB (validT t)) G) : VC Tryz.prog 59 [vV t.v] G Q := by
 refine VC.of_body Tryz.func59 rfl rfl rfl fun W0 h0 x0 hG0 => ?_
 simp only [args0]
 unfold validT at hQ
 repeat' (first | refine VJ.seq ?_ | refine VJ.region_k fun K hK => ?_ | (refine VR.done (hK _ ?_); clear hK K) | (first | refine VR.move rfl rfl ?_ | refine VR.assign rfl rfl ?_ | (show onLd; refine VR.load tok rfl rfl rfl rfl ?_) | (show onFa; refine VR.fieldAddr tok rfl rfl rfl rfl rfl rfl ?_) | (refine VR.pickB rfl rfl rfl rfl ?_ ?_ ?_; iterate 2 (first | exact trivial | (refine fun h => ?_; first | (rw [h]; rfl) | (rw [h, hg]; rfl) | (rw [hg, h]; rfl) | (simp [h, hg]; done)))) | refine VR.box rfl rfl rfl ?_ | refine VR.alloc tok rfl rfl rfl ?_ | refine VR.store tok rfl rfl rfl rfl rfl rfl rfl (by first | (intro n e; cases e; done) | exact (fun _ _ q => all_glA (by rfl) q)) ?_ | refine VR.extract rfl rfl rfl ?_) | (refine' VR.spec (by rfl) (by rfl) (by rfl) ?_ ?_ ?_; rotate_left 1; (repeat (first | exact trivial | refine And.intro id ?_)); intro hg K1 hK1; (first | (show onLd; refine VR.load tok rfl rfl rfl rfl ?_) | (refine VR.bin rfl rfl rfl (eqT _ _ (makeT t.a t.b t.c).1 t) ?_)); exact VR.done hK1) | (refine VR.call fok91 rfl rfl rfl rfl ?_; refine (v_make t.a t.b t.c _ _ ?_)))
 refine VJ.ret tok (by rfl) (by rfl) ?_
 exact hQ
theorem v_validTR (t : Tr) (G : Gl) (Q : Po) (hQ : Q (vB (validT t)) G) : VC Tryz.prog 43 [vV t.v] G Q := by
 refine VC.of_body Tryz.func43 rfl rfl rfl fun W0 h0 x0 hG0 => ?_
 simp only [args0]
 unfold validT at hQ
 repeat' (first | refine VJ.seq ?_ | refine VJ.region_k fun K hK => ?_ | (refine VR.done (hK _ ?_); clear hK K) | (first | refine VR.move rfl rfl ?_ | refine VR.assign rfl rfl ?_ | (show onLd; refine VR.load tok rfl rfl rfl rfl ?_) | (show onFa; refine VR.fieldAddr tok rfl rfl rfl rfl rfl rfl ?_) | (refine VR.pickB rfl rfl rfl rfl ?_ ?_ ?_; iterate 2 (first | exact trivial | (refine fun h => ?_; first | (rw [h]; rfl) | (rw [h, hg]; rfl) | (rw [hg, h]; rfl) | (simp [h, hg]; done)))) | refine VR.box rfl rfl rfl ?_ | refine VR.alloc tok rfl rfl rfl ?_ | refine VR.store tok rfl rfl rfl rfl rfl rfl rfl (by first | (intro n e; cases e; done) | exact (fun _ _ q => all_glA (by rfl) q)) ?_ | refine VR.extract rfl rfl rfl ?_) | (refine' VR.spec (by rfl) (by rfl) (by rfl) ?_ ?_ ?_; rotate_left 1; (repeat (first | exact trivial | refine And.intro id ?_)); intro hg K1 hK1; (first | (show onLd; refine VR.load tok rfl rfl rfl rfl ?_) | (refine VR.bin rfl rfl rfl (eqT _ _ (makeT t.a t.b t.c).1 t) ?_)); exact VR.done hK1) | (refine VR.call fok47 rfl rfl rfl rfl ?_; refine (v_makeR t.a t.b t.c _ _ ?_)))
 refine VJ.ret tok (by rfl) (by rfl) ?_
 exact hQ
end Go.Proofs.YtnpnjhopgedhkaaGreat
namespace Go.Proofs.YtnpnjhopgedhkaaGreat
open Go.RowKit V Geo
def metPut (m : List (Pt × Bool)) (t : Tr) : List (Pt × Bool) := Mp.put (Mp.put (Mp.put m t.a true) t.b true) t.c true
def metOf (dn : TS) : List (Pt × Bool) := dn.foldl (fun m p => metPut m p.1) []
theorem met_nodup (dn : TS) : ((metOf dn).map (·.1)).Nodup := by
 unfold metOf
 have : ∀ (dn : TS) (m : List (Pt × Bool)), (m.map (·.1)).Nodup → ((dn.foldl (fun m p => metPut m p.1) m).map (·.1)).Nodup := by
  intro dn
  induction dn with
  | nil => intro m h; exact h
  | cons p l ih => intro m h; exact ih _ (Mp.nodup_put (Mp.nodup_put (Mp.nodup_put h _ _) _ _) _ _)
 exact this dn [] (by simp)
theorem met_mem (dn : TS) (x : Pt) : x ∈ (metOf dn).map (·.1) ↔ ∃ p ∈ dn, x = p.1.a ∨ x = p.1.b ∨ x = p.1.c := by
 unfold metOf
 have : ∀ (dn : TS) (m : List (Pt × Bool)), x ∈ (dn.foldl (fun m p => metPut m p.1) m).map (·.1) ↔ x ∈ m.map (·.1) ∨ ∃ p ∈ dn, x = p.1.a ∨ x = p.1.b ∨ x = p.1.c := by
  intro dn
  induction dn with
  | nil => intro m; simp
  | cons p l ih =>
    intro m
    rw [List.foldl_cons, ih]
    unfold metPut
    simp only [Mp.keys_put, List.mem_cons, exists_eq_or_imp]
    constructor
    ·rintro ((h | h | h | h) | h)
     ·exact .inr (.inl (.inr (.inr h)))
     ·exact .inr (.inl (.inr (.inl h)))
     ·exact .inr (.inl (.inl h))
     ·exact .inl h
     ·exact .inr (.inr h)
    ·rintro (h | (h | h | h) | h)
     ·exact .inl (.inr (.inr (.inr h)))
     ·exact .inl (.inr (.inr (.inl h)))
     ·exact .inl (.inr (.inl h))
     ·exact .inl (.inl h)
     ·exact .inr h
 rw [this dn []]; simp
def pointsM (ts : TS) : List Pt := sortP ((metOf ts).map (·.1))
structure MeshP (G : Gl) (ts : TS) (le : LS) : Prop where
 g0 : G 0 = some bxM
 g1 : ∃ z, G 1 = some (.map Tr.v Value.bool ts (some z))
 g2 : ∃ z, G 2 = some (.map En.v Tr.v le z)
theorem MeshP.ok {G : Gl} {ts : TS} {le : LS} (h : MeshP G ts le) : ∃ z1 z2, govOk G [(0, bxM), (1, .map Tr.v Value.bool ts (some z1)), (2, .map En.v Tr.v le z2)] := by
 obtain ⟨g0, ⟨z1, g1⟩, z2, g2⟩ := h
 exact ⟨z1, z2, g0, g1, g2, trivial⟩
attribute [local irreducible] VR VJ VC decOk decBt
end Go.Proofs.YtnpnjhopgedhkaaGreat
namespace Go.Proofs.YtnpnjhopgedhkaaGreat
open Go.RowKit V Geo
def around (t : Tr) : List En := [⟨t.a, t.b⟩, ⟨t.b, t.c⟩, ⟨t.c, t.a⟩]
theorem around_get (t : Tr) {i : Nat} (hi : i < 3) : (around t)[i]? = some ⟨t.cor i, t.cor (i + 1)⟩ := by
 have h3 : i = 0 ∨ i = 1 ∨ i = 2 := by omega
 rcases h3 with rfl | rfl | rfl <;> rfl
theorem around_take (t : Tr) {i : Nat} (hi : i < 3) : (around t).take (i + 1) = (around t).take i ++ [⟨t.cor i, t.cor (i + 1)⟩] := by
 have h3 : i = 0 ∨ i = 1 ∨ i = 2 := by omega
 rcases h3 with rfl | rfl | rfl <;> rfl
theorem oneE (l : List En) : ∀ u ∈ l.map En.v, ∀ v ∈ u.cells.toList, v.oneCell' = true := by
 intro u hu v hv
 obtain ⟨w, _, rfl⟩ := List.mem_map.1 hu
 simp [En.v, Value.cells] at hv
 rcases hv with rfl | rfl | rfl | rfl <;> rfl
theorem map_get_e {l : List En} {j : Nat} (h : j < l.length) : (l.map En.v)[j]? = some l[j].v := by simp [h]
theorem map_get_t {l : List Tr} {j : Nat} (h : j < l.length) : (l.map Tr.v)[j]? = some l[j].v := by simp [h]
attribute [local irreducible] VR VJ VC decOk decBt
set_option maxHeartbeats 1000000 in
theorem v_around (t : Tr) (G : Gl) (Q : Po) (hQ : Q (vL 4 ((around t).map En.v)) G) : VC Tryz.prog 86 [vV t.v] G Q := by
 refine VC.of_body Tryz.func86 rfl rfl rfl fun W0 h0 x0 hG0 => ?_
 simp only [args0]
 repeat' (first | refine VJ.seq ?_ | refine VJ.skip ?_ | refine VJ.block ?_ | refine VJ.inBlock ?_ | refine VJ.exit rfl ?_ | refine VJ.cond_t rfl ?_ | refine VJ.cond_f rfl ?_ | refine VJ.region_k fun K hK => ?_ | (refine VR.done (hK _ ?_); clear hK K) | (first | refine VR.move rfl rfl ?_ | refine VR.assign rfl rfl ?_ | (show onLd; refine VR.load tok rfl rfl rfl rfl ?_) | refine VR.int rfl rfl rfl rfl ?_ | refine VR.box rfl rfl rfl ?_ | refine VR.alloc tok rfl rfl rfl ?_ | refine VR.store tok rfl rfl rfl rfl rfl rfl rfl (by first | (intro n e; cases e; done) | exact (fun _ _ q => all_glA (by rfl) q)) ?_ | refine VR.extract rfl rfl rfl ?_ | refine VR.buildX [_, _, _, _] tok rfl rfl rfl rfl rfl rfl ?_))
 refine VJ.promote 2 129 4 (by decide) rfl ?_
 refine VJ.to 2 [(6, vI ((0 : Nat) : Int)), (2, .a (.own (.l 1))), (1, .a (.ptr (.l 0) 0))] [(1, .row 129 4 (((around t).take 0).map En.v)), (0, bxT t)] ?_ rfl (by repeat' first | exact trivial | refine ⟨rfl, ?_⟩) (by repeat' first | exact trivial | refine ⟨rfl, ?_⟩) (by rfl)
 refine VJ.rec (fun i : Nat => ⟨2, [(6, vI i), (2, .a (.own (.l 1))), (1, .a (.ptr (.l 0) 0))], [(1, .row 129 4 (((around t).take i).map En.v)), (0, bxT t)], G⟩) (fun i => 3 - i) (fun i => i ≤ 3) 0 (by decide) ?_
 intro i hi ih
 repeat' (first | refine VJ.seq ?_ | refine VJ.skip ?_ | refine VJ.block ?_ | refine VJ.inBlock ?_ | refine VJ.exit rfl ?_ | refine VJ.cond_t rfl ?_ | refine VJ.cond_f rfl ?_ | refine VJ.region_k fun K hK => ?_ | (refine VR.done (hK _ ?_); clear hK K) | (first | refine VR.move rfl rfl ?_ | refine VR.assign rfl rfl ?_ | (show onLd; refine VR.load tok rfl rfl rfl rfl ?_) | refine VR.int rfl rfl rfl rfl ?_ | refine VR.box rfl rfl rfl ?_ | refine VR.alloc tok rfl rfl rfl ?_ | refine VR.store tok rfl rfl rfl rfl rfl rfl rfl (by first | (intro n e; cases e; done) | exact (fun _ _ q => all_glA (by rfl) q)) ?_ | refine VR.extract rfl rfl rfl ?_ | refine VR.buildX [_, _, _, _] tok rfl rfl rfl rfl rfl rfl ?_))
 refine VJ.cond rfl (fun hb => ?_) (fun hb => ?_)
 ·have hlt : i < 3 := by
   have : (i : Int) < 3 := by simpa using hb
   omega
  have htk := around_take t hlt
  have hln : ((around t).take i).length ≤ 3 := List.length_take_le' i (around t)
  repeat' (first | refine VJ.seq ?_ | refine VJ.skip ?_ | refine VJ.block ?_ | refine VJ.inBlock ?_ | refine VJ.exit rfl ?_ | refine VJ.cond_t rfl ?_ | refine VJ.cond_f rfl ?_ | refine VJ.region_k fun K hK => ?_ | (refine VR.done (hK _ ?_); clear hK K) | (first | refine VR.move rfl rfl ?_ | refine VR.assign rfl rfl ?_ | (show onLd; refine VR.load tok rfl rfl rfl rfl ?_) | refine VR.int rfl rfl rfl rfl ?_ | refine VR.box rfl rfl rfl ?_ | refine VR.alloc tok rfl rfl rfl ?_ | refine VR.store tok rfl rfl rfl rfl rfl rfl rfl (by first | (intro n e; cases e; done) | exact (fun _ _ q => all_glA (by rfl) q)) ?_ | refine VR.extract rfl rfl rfl ?_ | refine VR.buildX [_, _, _, _] tok rfl rfl rfl rfl rfl rfl ?_ | (refine VR.buildLst ([(⟨t.cor i, t.cor (i + 1)⟩ : En)].map En.v) tok (by rfl) (by rfl) (by rfl) (by rfl) (by rfl) (by rfl) (by rfl) (by rfl) (by rfl) (by rfl) (by rfl) ?_) | (refine VR.append tok (by rfl) (by rfl) (by rfl) (by rfl) (by rfl) (by rfl) (by rfl) (by rfl) (by rfl) (by rfl) (oneE [⟨t.cor i, t.cor (i + 1)⟩]) (by simp; omega) (by simp [maxLen]; omega) ?_)) | (refine VR.call fok39 rfl rfl rfl rfl ?_; refine (v_edge t i hlt _ _ ?_)))
  refine VJ.to 2 [(6, vI ((i + 1 : Nat) : Int)), (2, .a (.own (.l 1))), (1, .a (.ptr (.l 0) 0))] [(1, .row 129 4 (((around t).take (i + 1)).map En.v)), (0, bxT t)] (ih (i + 1) hlt (by omega)) rfl ⟨vI_succ (by omega), by rfl, by rfl, trivial⟩ ⟨by rw [htk, List.map_append]; rfl, by rfl, trivial⟩ (by rfl)
 have hge : i = 3 := by
  have : ¬ (i : Int) < 3 := by simpa using hb
  omega
 subst hge
 repeat' (first | refine VJ.seq ?_ | refine VJ.skip ?_ | refine VJ.block ?_ | refine VJ.inBlock ?_ | refine VJ.exit rfl ?_ | refine VJ.cond_t rfl ?_ | refine VJ.cond_f rfl ?_ | refine VJ.region_k fun K hK => ?_ | (refine VR.done (hK _ ?_); clear hK K) | (first | refine VR.move rfl rfl ?_ | refine VR.assign rfl rfl ?_ | (show onLd; refine VR.load tok rfl rfl rfl rfl ?_) | refine VR.int rfl rfl rfl rfl ?_ | refine VR.box rfl rfl rfl ?_ | refine VR.alloc tok rfl rfl rfl ?_ | refine VR.store tok rfl rfl rfl rfl rfl rfl rfl (by first | (intro n e; cases e; done) | exact (fun _ _ q => all_glA (by rfl) q)) ?_ | refine VR.extract rfl rfl rfl ?_ | refine VR.buildX [_, _, _, _] tok rfl rfl rfl rfl rfl rfl ?_))
 refine VJ.ret tok (by rfl) (by rfl) ?_
 exact hQ
end Go.Proofs.YtnpnjhopgedhkaaGreat
