/- slices.AppendSeq, Collect, SortedFunc over triangles, against whatever iterator. Conditions: the elements fit a machine. -/
import Derived.Test.YtdkbmefidmljjaaK1
import Derived.Maps.AppendAt
import Derived.KernelRfl
namespace Go.Proofs.Ytdkbmefidmljjaa
open Go.RowKit Geo
set_option linter.unusedVariables false
def Tr.l (t : Tr) : List Value := [.int .i64 t.a.x, .int .i64 t.a.y, .int .i64 t.b.x, .int .i64 t.b.y, .int .i64 t.c.x, .int .i64 t.c.y]
theorem inf26 : ∃ i, Try.prog.info? 26 = some i ∧ i.size = 6 ∧ i.bytes = 48 ∧ i.zero = some (.agg #[.int .i64 0, .int .i64 0, .int .i64 0, .int .i64 0, .int .i64 0, .int .i64 0]) := by
  have h1 : (Try.prog.info? 26).map (fun i => (i.size, i.bytes)) = some (6, 48) := by kernel_rfl
  have h2 : (Try.prog.info? 26).bind (fun i => i.zero) = some (.agg #[.int .i64 0, .int .i64 0, .int .i64 0, .int .i64 0, .int .i64 0, .int .i64 0]) := by kernel_rfl
  cases e : Try.prog.info? 26 with
  | none => rw [e] at h1; cases h1
  | some i =>
    rw [e] at h1 h2
    simp only [Option.map_some, Option.some.injEq, Prod.mk.injEq, Option.bind_some] at h1 h2
    exact ⟨i, rfl, h1.1, h1.2, h2⟩
theorem heap_set_box {W : World} {B : Nat} {v : Value} {t : TypeId} (u : Value) (h : W.heap[B]? = some (.cells #[v] t (0, 0))) : (W.setCell ⟨B, 0, none⟩ u).heap[B]? = some (.cells #[u] t (0, 0)) := by
  obtain ⟨h1, h2⟩ := Array.getElem?_eq_some_iff.1 h
  show (W.heap.modify B _)[B]? = _
  rw [Array.getElem?_eq_getElem (by rw [Array.size_modify]; exact h1), Array.getElem_modify_self, h2]
  rfl
theorem set_grown (W : World) (B : Nat) (u : Value) : W.grownBy (W.setCell ⟨B, 0, none⟩ u) (some B) :=
  ⟨rfl, rfl, rfl, (KeepsWalks.setCell W _ u).size, fun k _ hk => Below.heap_setCell _ _ _ k fun e => hk (by rw [e])⟩
theorem row_base {W : World} {b b' : Nat} {e : TypeId} {size : Nat} {v : Value} {k : Nat} {xs : List Value} (h : W.ownsRow b e size v k xs) (hb : b' ≤ b) : W.ownsRow b' e size v k xs := by
  refine ⟨h.1, ?_⟩
  rcases h.2 with h0 | ⟨g, cap, cur, e1, e2, rest⟩
  · exact .inl h0
  · exact .inr ⟨g, cap, cur, e1, Nat.le_trans hb e2, rest⟩
/-- Between two rounds: the box holds a slice that owns what has come so far. -/
structure ApI (w : World) (ss : List Tr) (W : World) : Prop where
  box : ∃ v, W.heap[w.heap.size]? = some (.cells #[v] 22 (0, 0)) ∧ W.ownsRow (w.heap.size + 1) 26 6 v ss.length (ss.flatMap Tr.l)
  below : Below w.heap.size w W
theorem ApI.own (w : World) : Mp.OwnB w.heap.size (ApI w) := by
  rintro ss W W' row ⟨⟨v, h1, h2⟩, hb⟩ hg hr
  have hc : ∀ r, row = some r → ∃ o : Obj, W.heap[r]? = some o ∧ o.isCells = false := fun r e => (hr r e).2
  refine ⟨⟨v, (grownBy_keeps_cells hg hc h1 rfl).trans h1, h2.kept hg ?_⟩, hb.grown hg hb.size fun k e => (hr k e).1⟩
  rcases h2.2 with ⟨rfl, _⟩ | ⟨g, cap, cur, rfl, _, hgb, _⟩
  · exact .inl rfl
  · refine .inr fun e => ?_
    obtain ⟨o, ho, hn⟩ := hc g e.symm
    rw [hgb] at ho; cases ho; cases hn
/-- The loop's variable: a box of its own. -/
def ApA (w : World) (sv : Value) (x : Tr) (a : Act) (W : World) : Prop :=
  ∃ b, w.heap.size < b ∧ W.heap[b]? = some (.cells x.l.toArray 26 (0, 0)) ∧ a = { tmps := #[.slice none 0 0, sv, .pointer (some ⟨w.heap.size, 0, none⟩), undef, .slice none 0 0, .pointer (some ⟨b, 0, none⟩), sv, x.v, undef, undef, undef, undef, undef], defers := [] }
theorem ApA.own (w : World) (sv : Value) (B : Nat) (x : Tr) (a : Act) : Mp.OwnB B fun (_ : Unit) W => ApA w sv x a W := by
  rintro _ W W' row ⟨b, h1, h2, h3⟩ hg hr
  exact ⟨b, h1, (grownBy_keeps_cells hg (fun r e => (hr r e).2) h2 rfl).trans h2, h3⟩

set_option maxRecDepth 100000 in
set_option maxHeartbeats 1000000 in
theorem appendSeq_in (F : Fence) (n : Nat) (h55 : F.fn 55) (hro : F.round = none) (hn : 2 ≤ n) (g : Nat) (lb : Array Value) (hFg : F.fn g) (eg : ∀ args w, (callFunc g args).run Try.prog w = .ok (.enter g args) w)
    (S : List Tr → Prop) (N : Nat) (hN : N ≤ 1000000) (w : World) (hseq : SeqGives F (n - 1) Try.prog g lb Tr.v S N w) :
    CallsIn F n Try.prog 55 #[.slice none 0 0, .func (.func g) #[] lb] w fun e w' => ∃ (v : Value) (ss : List Tr), e = .returned v ∧ S ss ∧ w'.ownsRow w.heap.size 26 6 v ss.length (ss.flatMap Tr.l) ∧ Below w.heap.size w w' := by
  have h1 : 1 ≤ n := by omega
  refine callsIn_of_wp_marks Try.func55 rfl h55 ?_ hro
  simp only [Try.ntmps55, List.size_toArray, List.length_cons, List.length_nil, Nat.reduceAdd, Nat.reduceSub, Array.replicate_succ, Array.replicate_zero, List.push_toArray, List.append_toArray, List.nil_append, List.cons_append]
  gi_wp2_with fail
  obtain ⟨W0, hW0⟩ : ∃ W0, w.alloc (.cells #[.slice none 0 0] 22) = W0 := ⟨_, rfl⟩
  have hs0 : W0.heap.size = w.heap.size + 1 := by rw [← hW0]; simp
  have hv0 : W0.heap[w.heap.size]? = some (.cells #[.slice none 0 0] 22 (0, 0)) := by rw [← hW0]; exact World.alloc_heap_new w _
  have hb0 : Below w.heap.size w W0 := by rw [← hW0]; exact (Below.refl _ w).alloc (Nat.le_refl _) _
  rw [hW0]
  refine Mp.wpIn_rangeAll hro h1 (gf := g) (lb := lb) rfl hFg eg hseq hb0 rfl (B := w.heap.size) (by omega) (ApI w) (ApI.own w) (ApA w (.func (.func g) #[] lb)) (ApA.own w _ _) ⟨⟨_, hv0, World.ownsRow_nil _ _ _ _⟩, hb0⟩ ?_ ?_ ?_
  · rintro l pre x W hi
    unfold Tr.v
    gi_wp2_with (rw [Oper.semAt_eq _ _ _ (fun c h => by cases h)]; go_simp; try go_bits)
    have hsz := hi.below.size
    have hlt : w.heap.size < W.heap.size := by
      obtain ⟨v, hv, _⟩ := hi.box
      exact (Array.getElem?_eq_some_iff.1 hv).1
    exact ⟨KeepsOthers.alloc _ _, (ApI.own w).alloc _ hi, W.heap.size, hlt, World.alloc_heap_new W _, rfl⟩
  · rintro l pre x a1 W ⟨⟨v, hv, hr⟩, hb⟩ ⟨b, hb1, hb2, rfl⟩ hlen
    have c0 : W.cell? ⟨w.heap.size, 0, none⟩ = some v := by simp [World.cell?, hv]
    have f0 : W.frozen? ⟨w.heap.size, 0, none⟩ = false := by simp [World.frozen?, hv]
    have d0 : W.cell? ⟨b, 0, none⟩ = some (.int .i64 x.a.x) := by simp [World.cell?, hb2, Tr.l]
    have d1 : W.cell? ⟨b, 1, none⟩ = some (.int .i64 x.a.y) := by simp [World.cell?, hb2, Tr.l]
    have d2 : W.cell? ⟨b, 2, none⟩ = some (.int .i64 x.b.x) := by simp [World.cell?, hb2, Tr.l]
    have d3 : W.cell? ⟨b, 3, none⟩ = some (.int .i64 x.b.y) := by simp [World.cell?, hb2, Tr.l]
    have d4 : W.cell? ⟨b, 4, none⟩ = some (.int .i64 x.c.x) := by simp [World.cell?, hb2, Tr.l]
    have d5 : W.cell? ⟨b, 5, none⟩ = some (.int .i64 x.c.y) := by simp [World.cell?, hb2, Tr.l]
    obtain ⟨i0, hi, hz1, hz2, hz0⟩ := inf26
    have hblt : b < W.heap.size := (Array.getElem?_eq_some_iff.1 hb2).1
    have hBlt : w.heap.size < W.heap.size := (Array.getElem?_eq_some_iff.1 hv).1
    have hne : ∀ k, k ≤ w.heap.size → some k ≠ v.ownBlock := fun k hk e => by
      have := (hr.lt _ e.symm).1
      omega
    have hnew : ∀ j u, x.l[j]? = some u → (W.alloc (.cells #[.int .i64 x.a.x, .int .i64 x.a.y, .int .i64 x.b.x, .int .i64 x.b.y, .int .i64 x.c.x, .int .i64 x.c.y] 26)).cell? ((⟨W.heap.size, 0, none⟩ : Addr).add j) = some u := by
      intro j u hu
      have hadd : (⟨W.heap.size, 0, none⟩ : Addr).add j = ⟨W.heap.size, j, none⟩ := by unfold Addr.add; split <;> simp_all
      rw [hadd]
      unfold World.cell? World.alloc
      simpa [Tr.l] using hu
    have hone : ∀ u ∈ x.l, u.oneCell' = true := fun u hu => by simp [Tr.l] at hu; rcases hu with rfl | rfl | rfl | rfl | rfl | rfl <;> rfl
    gi_wp2_with (first
      | (gi_at_builtin
         refine wpListIn_append_own _ rfl _ _ 22 rfl (w.heap.size + 1) 26 i0 _ 6 48 Try.underlying22 hi hz0 hz1 hz2 rfl (by decide) v pre.length (pre.flatMap Tr.l) rfl (hr.alloc _) ⟨W.heap.size, 0, none⟩ 1 1 x.l rfl rfl hnew hone (by simp [maxLen]; omega) (by omega) (by simp; omega) (fun v' w3 hown' hg3 _ => ?_)
         obtain ⟨g', cap', cur', rfl, hg1, hg2, hg4⟩ : ∃ g' cap' cur', v' = .slice (some ⟨g', 0, none⟩) (pre.length + 1) cap' ∧ w.heap.size + 1 ≤ g' ∧ w3.heap[g']? = some (.cells cur' 26 (0, 0)) ∧ True := by
           rcases hown'.2 with ⟨_, h0⟩ | ⟨g', cap', cur', e1, e2, e3, _⟩
           · exact absurd h0 (by omega)
           · exact ⟨g', cap', cur', e1, e2, e3, trivial⟩
         have hv3 : w3.heap[w.heap.size]? = some (.cells #[v] 22 (0, 0)) := (hg3.block w.heap.size (by simp; omega) (hne _ (Nat.le_refl _))).trans ((Below.heap_alloc _ _ w.heap.size hBlt).trans hv)
         have c3 : w3.cell? ⟨w.heap.size, 0, none⟩ = some v := by simp [World.cell?, hv3]
         have f3 : w3.frozen? ⟨w.heap.size, 0, none⟩ = false := by simp [World.frozen?, hv3]
         go_frame)
      | (rw [Oper.semAt_eq _ _ _ (fun c h => by cases h)]; go_simp; try go_bits))
    refine ⟨((KeepsOthers.alloc W _).trans (KeepsOthers.of_grownBy hg3 ?_)).trans (KeepsOthers.setCell _ _ _), ⟨_, heap_set_box _ hv3, ?_⟩, ?_⟩
    · intro j o hj ho
      rcases (hr.alloc (.cells #[.int .i64 x.a.x, .int .i64 x.a.y, .int .i64 x.b.x, .int .i64 x.b.y, .int .i64 x.c.x, .int .i64 x.c.y] 26)).2 with ⟨rfl, _⟩ | ⟨g2, cap2, cur2, rfl, _, e3, _⟩
      · simp [Value.ownBlock] at hj
      · simp [Value.ownBlock] at hj
        subst hj
        rw [e3] at ho; cases ho; rfl
    · have := hown'.kept (set_grown w3 w.heap.size (.slice (some ⟨g', 0, none⟩) (pre.length + 1) cap')) (.inr (by simp [Value.ownBlock]; omega))
      simpa using this
    · exact ((hb.alloc hb.size _).grown hg3 (by have := hb.size; simp; omega) (fun k e => by have := (hr.lt k e).1; omega)).setCell (Nat.le_refl _) _
  · rintro xs W hS ⟨⟨v, hv, hr⟩, hb⟩ hD
    have c0 : W.cell? ⟨w.heap.size, 0, none⟩ = some v := by simp [World.cell?, hv]
    gi_wp2_with fail
    refine ⟨by simp, .inl ⟨_, _, rfl, run_takeDeferred hD, ?_⟩⟩
    refine ⟨_, results_tmp rfl _ _ _, v, xs, rfl, hS, ?_, hb.grown (grownBy_putObj' _ _ _) hb.size (fun k e => by cases e; omega)⟩
    refine row_base (hr.kept (grownBy_putObj' _ _ _) ?_) (Nat.le_succ _)
    rcases hr.2 with ⟨rfl, _⟩ | ⟨g2, cap2, cur2, rfl, _, e3, _⟩
    · exact .inl rfl
    · refine .inr fun e => ?_
      have : g2 = W0.heap.size := by simpa [Value.ownBlock] using e
      rw [this, hD] at e3; cases e3
