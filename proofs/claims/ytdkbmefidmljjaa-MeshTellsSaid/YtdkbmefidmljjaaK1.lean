/- maps.Keys' iterator over triangles. Conditions: none. -/
import Derived.Test.YtdkbmefidmljjaaSeq
import Derived.Sort.MapsRangeIn
import Derived.Test.YtdkbmefidmljjaaGeo
import Derived.Test.YtdkbmefidmljjaaProg
namespace Go.Proofs.Ytdkbmefidmljjaa
open Go.RowKit Geo
set_option linter.unusedVariables false
structure Tr where
  a : Pt
  b : Pt
  c : Pt
deriving DecidableEq
def Tr.v (t : Tr) : Value := .agg #[.int .i64 t.a.x, .int .i64 t.a.y, .int .i64 t.b.x, .int .i64 t.b.y, .int .i64 t.c.x, .int .i64 t.c.y]

set_option maxRecDepth 100000 in
set_option maxHeartbeats 1000000 in
theorem keys1_in (F : Fence) (n : Nat) (h10 : F.fn 45) (hro : F.round = none) (hn : 1 ≤ n) (l Bm b : Nat) (s : List (Tr × Bool)) (J Jx : List Tr → World → Prop)
    (hY : ∀ pre x W, J pre W → pre.length < s.length → YieldAt F (n - 1) Try.prog l #[x.v] W fun e W' =>
      (e = .returned (.bool true) ∧ J (pre ++ [x]) W' ∧ KeepsWalks W W') ∨ (e = .returned (.bool false) ∧ Jx (pre ++ [x]) W'))
    (W : World) (hJ : AbidesFrom W.heap.size J) (hm : W.cell? ⟨Bm, 0, none⟩ = some (.map (some b))) (hown : Mp.Is Tr.v Value.bool W b s) (h0 : J [] W) :
    CallsIn F n Try.prog 45 #[.func (.yield l) #[] #[], .pointer (some ⟨Bm, 0, none⟩)] W fun e W' => (∃ v, e = .returned v) ∧
      ((∃ ss : List Tr, ss.Perm (s.map (·.1)) ∧ J ss W') ∨ (∃ pre : List Tr, True ∧ Jx pre W')) := by
  refine callsIn_of_wp Try.func45 rfl h10 ?_ hro
  simp only [Try.ntmps45, List.size_toArray, List.length_cons, List.length_nil, Nat.reduceAdd, Nat.reduceSub, Array.replicate_succ, Array.replicate_zero, List.push_toArray, List.append_toArray, List.nil_append, List.cons_append]
  gi_wp2_with (gi_at_range; refine Mp.wpIn_range _ rfl _ 45 rfl 4 Try.underlying45 b s rfl hown ?_; intro w0 hrg0 hg0 hs0)
  go_frame
  gi_loopw [3] (fun _ wr => ∃ (left : List (Tr × Bool)) (ss : List Tr), Mp.Rng Tr.v Value.bool wr b W.heap.size s left ∧ (ss ++ left.map (·.1)).Perm (s.map (·.1)) ∧ J ss wr)
    (fun _ wr => wr.rangeLeft b W.heap.size)
  case atStart =>
    exact ⟨s, [], hrg0, by simp, hJ [] W w0 none h0 hg0 (fun r e => by cases e)⟩
  case round =>
    obtain ⟨left, ss, hrg, hpm, hJs⟩ := hrel
    have hlen : ss.length + left.length = s.length := by have := hpm.length_eq; simpa using this
    gi_wp2_with (gi_at_next; refine Mp.wpIn_next _ rfl _ rfl b W.heap.size s left rfl hrg (fun hl0 => ?_) (fun x c y z w2 hlk hrg2 hg2 hs2 hen => ?_) <;> try (unfold Tr.v at hen ⊢))
    · go_end0
      subst hl0
      exact ⟨⟨_, rfl⟩, .inl ⟨ss, by simpa using hpm, hJs⟩⟩
    · have hJ2 : J ss w2 := hJ ss wr w2 (some W.heap.size) hJs hg2 (fun r e => by cases e; exact ⟨Nat.le_refl _, hrg.walk⟩)
      have hJ3 := hJ ss w2 _ none hJ2 (World.grownBy_alloc w2 (.cells #[.int .i64 x.a.x, .int .i64 x.a.y, .int .i64 x.b.x, .int .i64 x.b.y, .int .i64 x.c.x, .int .i64 x.c.y] 26) none) (fun r e => by cases e)
      have hlt : ss.length < s.length := by rw [hlk] at hlen; simp at hlen; omega
      obtain ⟨fn, tmps, assign, body, hy, hR⟩ := hY ss x _ hJ3 hlt
      unfold Tr.v at hy
      rw [hy]
      gi_wp2_with fail
      refine hR.mono ?_
      have hpm2 : ((ss ++ [x]) ++ (y ++ z).map (·.1)).Perm (s.map (·.1)) := by
        refine List.Perm.trans ?_ hpm
        rw [hlk, List.append_assoc]
        refine List.Perm.append_left ss ?_
        simpa using (List.perm_middle (a := x) (l₁ := y.map (·.1)) (l₂ := z.map (·.1))).symm
      rintro e W3 (⟨rfl, hJ4, hk3⟩ | ⟨rfl, hJx3⟩)
      · gi_wp2_with fail
        have hrg3 := (hrg2.kept (World.grownBy_alloc w2 _ none) (by simp) (by simp)).of_walks hk3
        go_roundw
        case rel => exact ⟨_, ss ++ [x], hrg3, hpm2, hJ4⟩
        case measure => rw [hrg3.left_eq, hrg.left_eq, hlk]; simp
      · gi_wp2_with fail
        refine bodyPost_ret (results_none rfl _ _ _) rfl ?_
        exact ⟨⟨_, rfl⟩, .inr ⟨ss ++ [x], trivial, hJx3⟩⟩

theorem keys_stops (F : Fence) (n : Nat) (h10 : F.fn 45) (hro : F.round = none) (hn : 1 ≤ n) (Bm b : Nat) (s : List (Tr × Bool)) (w : World) (hBm : Bm < w.heap.size) (hm : w.cell? ⟨Bm, 0, none⟩ = some (.map (some b))) (hown : Mp.Is Tr.v Value.bool w b s) :
    SeqStops F n Try.prog 45 #[.pointer (some ⟨Bm, 0, none⟩)] Tr.v (fun ss => ss.Perm (s.map (·.1))) (fun _ => True) s.length w := fun l J Jx W hW hJ hJx hY h0 =>
  keys1_in F n h10 hro hn l Bm b s J Jx hY W hJ ((hW.cell (p := ⟨Bm, 0, none⟩) hBm).trans hm) (hown.below hW hown.lt) h0
