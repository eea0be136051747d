/- The iterators over a map's keys, turned to points. Conditions: as there. -/
import Derived.Test.YtdkbmefidmljjaaK3
namespace Go.Proofs.Ytdkbmefidmljjaa
open Go.RowKit V Geo
set_option linter.unusedVariables false
theorem sortP_len (l : List Pt) : (sortP l).length = l.length := (sortP_perm l).length_eq

set_option maxRecDepth 100000 in
set_option maxHeartbeats 1000000 in
theorem keys1_inP (F : Fence) (n : Nat) (h10 : F.fn 51) (hro : F.round = none) (hn : 1 ≤ n) (l Bm b : Nat) (s : List (Pt × Bool)) (J Jx : List Pt → World → Prop)
    (hY : ∀ pre x W, J pre W → pre.length < s.length → YieldAt F (n - 1) Try.prog l #[ptV x] W fun e W' =>
      (e = .returned (.bool true) ∧ J (pre ++ [x]) W' ∧ KeepsWalks W W') ∨ (e = .returned (.bool false) ∧ Jx (pre ++ [x]) W'))
    (W : World) (hJ : AbidesFrom W.heap.size J) (hm : W.cell? ⟨Bm, 0, none⟩ = some (.map (some b))) (hown : Mp.Is ptV Value.bool W b s) (h0 : J [] W) :
    CallsIn F n Try.prog 51 #[.func (.yield l) #[] #[], .pointer (some ⟨Bm, 0, none⟩)] W fun e W' => (∃ v, e = .returned v) ∧
      ((∃ ss : List Pt, ss.Perm (s.map (·.1)) ∧ J ss W') ∨ (∃ pre : List Pt, True ∧ Jx pre W')) := by
  refine callsIn_of_wp Try.func51 rfl h10 ?_ hro
  simp only [Try.ntmps51, List.size_toArray, List.length_cons, List.length_nil, Nat.reduceAdd, Nat.reduceSub, Array.replicate_succ, Array.replicate_zero, List.push_toArray, List.append_toArray, List.nil_append, List.cons_append]
  gi_wp2_with (gi_at_range; refine Mp.wpIn_range _ rfl _ 71 rfl 4 Try.underlying71 b s rfl hown ?_; intro w0 hrg0 hg0 hs0)
  go_frame
  gi_loopw [3] (fun _ wr => ∃ (left : List (Pt × Bool)) (ss : List Pt), Mp.Rng ptV Value.bool wr b W.heap.size s left ∧ (ss ++ left.map (·.1)).Perm (s.map (·.1)) ∧ J ss wr)
    (fun _ wr => wr.rangeLeft b W.heap.size)
  case atStart =>
    exact ⟨s, [], hrg0, by simp, hJ [] W w0 none h0 hg0 (fun r e => by cases e)⟩
  case round =>
    obtain ⟨left, ss, hrg, hpm, hJs⟩ := hrel
    have hlen : ss.length + left.length = s.length := by have := hpm.length_eq; simpa using this
    gi_wp2_with (gi_at_next; refine Mp.wpIn_next _ rfl _ rfl b W.heap.size s left rfl hrg (fun hl0 => ?_) (fun x c y z w2 hlk hrg2 hg2 hs2 hen => ?_) <;> try (unfold ptV at hen ⊢))
    · go_end0
      subst hl0
      exact ⟨⟨_, rfl⟩, .inl ⟨ss, by simpa using hpm, hJs⟩⟩
    · have hJ2 : J ss w2 := hJ ss wr w2 (some W.heap.size) hJs hg2 (fun r e => by cases e; exact ⟨Nat.le_refl _, hrg.walk⟩)
      have hJ3 := hJ ss w2 _ none hJ2 (World.grownBy_alloc w2 (.cells #[.int .i64 x.x, .int .i64 x.y] 24) none) (fun r e => by cases e)
      have hlt : ss.length < s.length := by rw [hlk] at hlen; simp at hlen; omega
      obtain ⟨fn, tmps, assign, body, hy, hR⟩ := hY ss x _ hJ3 hlt
      unfold ptV at hy
      rw [hy]
      gi_wp2_with fail
      refine hR.mono ?_
      have hpm2 : ((ss ++ [x]) ++ (y ++ z).map (·.1)).Perm (s.map (·.1)) := by
        refine List.Perm.trans ?_ hpm
        rw [hlk, List.append_assoc]
        refine List.Perm.append_left ss ?_
        simpa using (List.perm_middle (a := x) (l₁ := y.map (·.1)) (l₂ := z.map (·.1))).symm
      rintro e W3 (⟨rfl, hJ4, hk3⟩ | ⟨rfl, hJx3⟩)
      · gi_wp2_with fail
        have hrg3 := (hrg2.kept (World.grownBy_alloc w2 _ none) (by simp) (by simp)).of_walks hk3
        go_roundw
        case rel => exact ⟨_, ss ++ [x], hrg3, hpm2, hJ4⟩
        case measure => rw [hrg3.left_eq, hrg.left_eq, hlk]; simp
      · gi_wp2_with fail
        refine bodyPost_ret (results_none rfl _ _ _) rfl ?_
        exact ⟨⟨_, rfl⟩, .inr ⟨ss ++ [x], trivial, hJx3⟩⟩

theorem keys_stopsP (F : Fence) (n : Nat) (h10 : F.fn 51) (hro : F.round = none) (hn : 1 ≤ n) (Bm b : Nat) (s : List (Pt × Bool)) (w : World) (hBm : Bm < w.heap.size) (hm : w.cell? ⟨Bm, 0, none⟩ = some (.map (some b))) (hown : Mp.Is ptV Value.bool w b s) :
    SeqStops F n Try.prog 51 #[.pointer (some ⟨Bm, 0, none⟩)] ptV (fun ss => ss.Perm (s.map (·.1))) (fun _ => True) s.length w := fun l J Jx W hW hJ hJx hY h0 =>
  keys1_inP F n h10 hro hn l Bm b s J Jx hY W hJ ((hW.cell (p := ⟨Bm, 0, none⟩) hBm).trans hm) (hown.below hW hown.lt) h0

theorem inf24 : ∃ i, Try.prog.info? 24 = some i ∧ i.size = 2 ∧ i.bytes = 16 ∧ i.zero = some (.agg #[.int .i64 0, .int .i64 0]) := by
  have h1 : (Try.prog.info? 24).map (fun i => (i.size, i.bytes)) = some (2, 16) := by kernel_rfl
  have h2 : (Try.prog.info? 24).bind (fun i => i.zero) = some (.agg #[.int .i64 0, .int .i64 0]) := by kernel_rfl
  cases e : Try.prog.info? 24 with
  | none => rw [e] at h1; cases h1
  | some i =>
    rw [e] at h1 h2
    simp only [Option.map_some, Option.some.injEq, Prod.mk.injEq, Option.bind_some] at h1 h2
    exact ⟨i, rfl, h1.1, h1.2, h2⟩
/-- Between two rounds: the box holds a slice that owns what has come so far. -/
structure ApIP (w : World) (ss : List Pt) (W : World) : Prop where
  box : ∃ v, W.heap[w.heap.size]? = some (.cells #[v] 43 (0, 0)) ∧ W.ownsRow (w.heap.size + 1) 24 2 v ss.length (ss.flatMap Geo.Pt.l)
  below : Below w.heap.size w W
theorem ApIP.own (w : World) : Mp.OwnB w.heap.size (ApIP w) := by
  rintro ss W W' row ⟨⟨v, h1, h2⟩, hb⟩ hg hr
  have hc : ∀ r, row = some r → ∃ o : Obj, W.heap[r]? = some o ∧ o.isCells = false := fun r e => (hr r e).2
  refine ⟨⟨v, (grownBy_keeps_cells hg hc h1 rfl).trans h1, h2.kept hg ?_⟩, hb.grown hg hb.size fun k e => (hr k e).1⟩
  rcases h2.2 with ⟨rfl, _⟩ | ⟨g, cap, cur, rfl, _, hgb, _⟩
  · exact .inl rfl
  · refine .inr fun e => ?_
    obtain ⟨o, ho, hn⟩ := hc g e.symm
    rw [hgb] at ho; cases ho; cases hn
/-- The loop's variable: a box of its own. -/
def ApAP (w : World) (sv : Value) (x : Pt) (a : Act) (W : World) : Prop :=
  ∃ b, w.heap.size < b ∧ W.heap[b]? = some (.cells (Geo.Pt.l x).toArray 24 (0, 0)) ∧ a = { tmps := #[.slice none 0 0, sv, .pointer (some ⟨w.heap.size, 0, none⟩), undef, .slice none 0 0, .pointer (some ⟨b, 0, none⟩), sv, ptV x, undef, undef, undef, undef, undef], defers := [] }
theorem ApAP.own (w : World) (sv : Value) (B : Nat) (x : Pt) (a : Act) : Mp.OwnB B fun (_ : Unit) W => ApAP w sv x a W := by
  rintro _ W W' row ⟨b, h1, h2, h3⟩ hg hr
  exact ⟨b, h1, (grownBy_keeps_cells hg (fun r e => (hr r e).2) h2 rfl).trans h2, h3⟩

set_option maxRecDepth 100000 in
set_option maxHeartbeats 1000000 in
theorem appendSeq_inP (F : Fence) (n : Nat) (h55 : F.fn 60) (hro : F.round = none) (hn : 2 ≤ n) (g : Nat) (lb : Array Value) (hFg : F.fn g) (eg : ∀ args w, (callFunc g args).run Try.prog w = .ok (.enter g args) w)
    (S : List Pt → Prop) (N : Nat) (hN : N ≤ 1000000) (w : World) (hseq : SeqGives F (n - 1) Try.prog g lb ptV S N w) :
    CallsIn F n Try.prog 60 #[.slice none 0 0, .func (.func g) #[] lb] w fun e w' => ∃ (v : Value) (ss : List Pt), e = .returned v ∧ S ss ∧ w'.ownsRow w.heap.size 24 2 v ss.length (ss.flatMap Geo.Pt.l) ∧ Below w.heap.size w w' := by
  have h1 : 1 ≤ n := by omega
  refine callsIn_of_wp_marks Try.func60 rfl h55 ?_ hro
  simp only [Try.ntmps60, List.size_toArray, List.length_cons, List.length_nil, Nat.reduceAdd, Nat.reduceSub, Array.replicate_succ, Array.replicate_zero, List.push_toArray, List.append_toArray, List.nil_append, List.cons_append]
  gi_wp2_with fail
  obtain ⟨W0, hW0⟩ : ∃ W0, w.alloc (.cells #[.slice none 0 0] 43) = W0 := ⟨_, rfl⟩
  have hs0 : W0.heap.size = w.heap.size + 1 := by rw [← hW0]; simp
  have hv0 : W0.heap[w.heap.size]? = some (.cells #[.slice none 0 0] 43 (0, 0)) := by rw [← hW0]; exact World.alloc_heap_new w _
  have hb0 : Below w.heap.size w W0 := by rw [← hW0]; exact (Below.refl _ w).alloc (Nat.le_refl _) _
  rw [hW0]
  refine Mp.wpIn_rangeAll hro h1 (gf := g) (lb := lb) rfl hFg eg hseq hb0 rfl (B := w.heap.size) (by omega) (ApIP w) (ApIP.own w) (ApAP w (.func (.func g) #[] lb)) (ApAP.own w _ _) ⟨⟨_, hv0, World.ownsRow_nil _ _ _ _⟩, hb0⟩ ?_ ?_ ?_
  · rintro l pre x W hi
    unfold ptV
    gi_wp2_with (rw [Oper.semAt_eq _ _ _ (fun c h => by cases h)]; go_simp; try go_bits)
    have hsz := hi.below.size
    have hlt : w.heap.size < W.heap.size := by
      obtain ⟨v, hv, _⟩ := hi.box
      exact (Array.getElem?_eq_some_iff.1 hv).1
    exact ⟨KeepsOthers.alloc _ _, (ApIP.own w).alloc _ hi, W.heap.size, hlt, World.alloc_heap_new W _, rfl⟩
  · rintro l pre x a1 W ⟨⟨v, hv, hr⟩, hb⟩ ⟨b, hb1, hb2, rfl⟩ hlen
    have c0 : W.cell? ⟨w.heap.size, 0, none⟩ = some v := by simp [World.cell?, hv]
    have f0 : W.frozen? ⟨w.heap.size, 0, none⟩ = false := by simp [World.frozen?, hv]
    have d0 : W.cell? ⟨b, 0, none⟩ = some (.int .i64 x.x) := by simp [World.cell?, hb2, Geo.Pt.l]
    have d1 : W.cell? ⟨b, 1, none⟩ = some (.int .i64 x.y) := by simp [World.cell?, hb2, Geo.Pt.l]
    obtain ⟨i0, hi, hz1, hz2, hz0⟩ := inf24
    have hblt : b < W.heap.size := (Array.getElem?_eq_some_iff.1 hb2).1
    have hBlt : w.heap.size < W.heap.size := (Array.getElem?_eq_some_iff.1 hv).1
    have hne : ∀ k, k ≤ w.heap.size → some k ≠ v.ownBlock := fun k hk e => by
      have := (hr.lt _ e.symm).1
      omega
    have hnew : ∀ j u, (Geo.Pt.l x)[j]? = some u → (W.alloc (.cells #[.int .i64 x.x, .int .i64 x.y] 24)).cell? ((⟨W.heap.size, 0, none⟩ : Addr).add j) = some u := by
      intro j u hu
      have hadd : (⟨W.heap.size, 0, none⟩ : Addr).add j = ⟨W.heap.size, j, none⟩ := by unfold Addr.add; split <;> simp_all
      rw [hadd]
      unfold World.cell? World.alloc
      simpa [Geo.Pt.l] using hu
    have hone : ∀ u ∈ Geo.Pt.l x, u.oneCell' = true := fun u hu => by simp [Geo.Pt.l] at hu; rcases hu with rfl | rfl <;> rfl
    gi_wp2_with (first
      | (gi_at_builtin
         refine wpListIn_append_own _ rfl _ _ 43 rfl (w.heap.size + 1) 24 i0 _ 2 16 Try.underlying43 hi hz0 hz1 hz2 rfl (by decide) v pre.length (pre.flatMap Geo.Pt.l) rfl (hr.alloc _) ⟨W.heap.size, 0, none⟩ 1 1 (Geo.Pt.l x) rfl rfl hnew hone (by simp [maxLen]; omega) (by omega) (by simp; omega) (fun v' w3 hown' hg3 _ => ?_)
         obtain ⟨g', cap', cur', rfl, hg1, hg2, hg4⟩ : ∃ g' cap' cur', v' = .slice (some ⟨g', 0, none⟩) (pre.length + 1) cap' ∧ w.heap.size + 1 ≤ g' ∧ w3.heap[g']? = some (.cells cur' 24 (0, 0)) ∧ True := by
           rcases hown'.2 with ⟨_, h0⟩ | ⟨g', cap', cur', e1, e2, e3, _⟩
           · exact absurd h0 (by omega)
           · exact ⟨g', cap', cur', e1, e2, e3, trivial⟩
         have hv3 : w3.heap[w.heap.size]? = some (.cells #[v] 43 (0, 0)) := (hg3.block w.heap.size (by simp; omega) (hne _ (Nat.le_refl _))).trans ((Below.heap_alloc _ _ w.heap.size hBlt).trans hv)
         have c3 : w3.cell? ⟨w.heap.size, 0, none⟩ = some v := by simp [World.cell?, hv3]
         have f3 : w3.frozen? ⟨w.heap.size, 0, none⟩ = false := by simp [World.frozen?, hv3]
         go_frame)
      | (rw [Oper.semAt_eq _ _ _ (fun c h => by cases h)]; go_simp; try go_bits))
    refine ⟨((KeepsOthers.alloc W _).trans (KeepsOthers.of_grownBy hg3 ?_)).trans (KeepsOthers.setCell _ _ _), ⟨_, heap_set_box _ hv3, ?_⟩, ?_⟩
    · intro j o hj ho
      rcases (hr.alloc (.cells #[.int .i64 x.x, .int .i64 x.y] 24)).2 with ⟨rfl, _⟩ | ⟨g2, cap2, cur2, rfl, _, e3, _⟩
      · simp [Value.ownBlock] at hj
      · simp [Value.ownBlock] at hj
        subst hj
        rw [e3] at ho; cases ho; rfl
    · have := hown'.kept (set_grown w3 w.heap.size (.slice (some ⟨g', 0, none⟩) (pre.length + 1) cap')) (.inr (by simp [Value.ownBlock]; omega))
      simpa using this
    · exact ((hb.alloc hb.size _).grown hg3 (by have := hb.size; simp; omega) (fun k e => by have := (hr.lt k e).1; omega)).setCell (Nat.le_refl _) _
  · rintro xs W hS ⟨⟨v, hv, hr⟩, hb⟩ hD
    have c0 : W.cell? ⟨w.heap.size, 0, none⟩ = some v := by simp [World.cell?, hv]
    gi_wp2_with fail
    refine ⟨by simp, .inl ⟨_, _, rfl, run_takeDeferred hD, ?_⟩⟩
    refine ⟨_, results_tmp rfl _ _ _, v, xs, rfl, hS, ?_, hb.grown (grownBy_putObj' _ _ _) hb.size (fun k e => by cases e; omega)⟩
    refine row_base (hr.kept (grownBy_putObj' _ _ _) ?_) (Nat.le_succ _)
    rcases hr.2 with ⟨rfl, _⟩ | ⟨g2, cap2, cur2, rfl, _, e3, _⟩
    · exact .inl rfl
    · refine .inr fun e => ?_
      have : g2 = W0.heap.size := by simpa [Value.ownBlock] using e
      rw [this, hD] at e3; cases e3

theorem collect_cP (g : Nat) (lb : Array Value) (eg : ∀ args w, (callFunc g args).run Try.prog w = .ok (.enter g args) w) (S : List Pt → Prop) (N : Nat) (hN : N ≤ 1000000) (w : World) (hseq : SeqGives Fence.wide 5 Try.prog g lb ptV S N w) :
    Calls Try.prog 49 #[.func (.func g) #[] lb] w fun e w' => ∃ (v : Value) (ss : List Pt), e = .returned v ∧ S ss ∧ w'.ownsRow w.heap.size 24 2 v ss.length (ss.flatMap Geo.Pt.l) ∧ Below w.heap.size w w' := by
  have h := callsIn_wide.1 (appendSeq_inP Fence.wide 6 trivial rfl (by decide) g lb trivial eg S N hN w hseq)
  go_enter Try.func49, Try.ntmps49
  go_wp2_with (go_at_call 60; refine h.mono ?_; rintro e w' ⟨v, ss, rfl, hS, hrow, hb⟩)
  go_ret
  exact ⟨v, ss, rfl, hS, hrow, hb⟩

theorem keysSorted_cP (Bm b : Nat) (s : List (Pt × Bool)) (few : s.length < 100000) (w : World) (hBm : Bm < w.heap.size) (hm : w.cell? ⟨Bm, 0, none⟩ = some (.map (some b))) (hown : Mp.Is ptV Value.bool w b s) :
    Calls Try.prog 33 #[.func (.func 51) #[] #[.pointer (some ⟨Bm, 0, none⟩)], .func (.func 35) #[] #[]] w fun e w' => ∃ v : Value, e = .returned v ∧ w'.ownsRow w.heap.size 24 2 v ((sortP (s.map (·.1))).map ptV).length (cellsL ((sortP (s.map (·.1))).map ptV)) ∧ Below w.heap.size w w' := by
  have eg : ∀ args w, (callFunc 51 args).run Try.prog w = .ok (.enter 51 args) w := enters_of Try.func51 (by kernel_rfl) rfl
  have hseq := (keys_stopsP Fence.wide 5 trivial rfl (by decide) Bm b s w hBm hm hown).gives
  have hc := collect_cP 51 #[.pointer (some ⟨Bm, 0, none⟩)] eg _ s.length (by omega) w hseq
  go_enter Try.func33, Try.ntmps33
  go_wp2_with (go_at_call 49; refine hc.mono ?_; rintro e w1 ⟨v, ss, rfl, hS, hrow, hb⟩)
  have hlen : ss.length = s.length := by have := hS.length_eq; simpa using this
  have hrow' : w1.ownsRow 0 24 2 v (ss.map ptV).length (cellsL (ss.map ptV)) := by
    rw [cellsP, List.length_map]
    exact row_base hrow (Nat.zero_le _)
  have hsort := sort_gP ss (by omega) w1 v hrow'
  go_wp2_with (go_at_call 50; refine hsort.mono ?_; rintro e w2 ⟨rfl, hrow2, hg2⟩)
  go_ret
  refine ⟨v, rfl, ?_, hb.grown hg2 hb.size fun k e => (hrow.lt k e).1⟩
  have e1 : sortP (s.map (·.1)) = sortP ss := sortP_eq hS.symm
  rw [e1]
  have e2 : ((sortP ss).map ptV).length = (ss.map ptV).length := by rw [List.length_map, List.length_map, sortP_len]
  rw [e2]
  exact row_rebase hrow2 fun g hg => (hrow.lt g hg).1
