/- slices.SortedFunc(maps.Keys(m), cmp) over triangles: a map's keys in order. Conditions: the map fits a machine. -/
import Derived.Test.YtdkbmefidmljjaaW10
namespace Go.Proofs.Ytdkbmefidmljjaa
open Go.RowKit V Geo
set_option linter.unusedVariables false

theorem row_rebase {W : World} {b b' : Nat} {e : TypeId} {size : Nat} {v : Value} {k : Nat} {xs : List Value} (h : W.ownsRow b e size v k xs) (hb : ∀ g, v.ownBlock = some g → b' ≤ g) : W.ownsRow b' e size v k xs := by
  refine ⟨h.1, ?_⟩
  rcases h.2 with h0 | ⟨g, cap, cur, e1, e2, rest⟩
  · exact .inl h0
  · exact .inr ⟨g, cap, cur, e1, hb g (by rw [e1]; rfl), rest⟩
theorem sortT_len (l : List Tr) : (sortT l).length = l.length := (sortT_perm l).length_eq

theorem collect_c (g : Nat) (lb : Array Value) (eg : ∀ args w, (callFunc g args).run Try.prog w = .ok (.enter g args) w) (S : List Tr → Prop) (N : Nat) (hN : N ≤ 1000000) (w : World) (hseq : SeqGives Fence.wide 5 Try.prog g lb Tr.v S N w) :
    Calls Try.prog 43 #[.func (.func g) #[] lb] w fun e w' => ∃ (v : Value) (ss : List Tr), e = .returned v ∧ S ss ∧ w'.ownsRow w.heap.size 26 6 v ss.length (ss.flatMap Tr.l) ∧ Below w.heap.size w w' := by
  have h := callsIn_wide.1 (appendSeq_in Fence.wide 6 trivial rfl (by decide) g lb trivial eg S N hN w hseq)
  go_enter Try.func43, Try.ntmps43
  go_wp2_with (go_at_call 55; refine h.mono ?_; rintro e w' ⟨v, ss, rfl, hS, hrow, hb⟩)
  go_ret
  exact ⟨v, ss, rfl, hS, hrow, hb⟩

theorem keysSorted_c (Bm b : Nat) (s : List (Tr × Bool)) (few : s.length < 100000) (w : World) (hBm : Bm < w.heap.size) (hm : w.cell? ⟨Bm, 0, none⟩ = some (.map (some b))) (hown : Mp.Is Tr.v Value.bool w b s) :
    Calls Try.prog 27 #[.func (.func 45) #[] #[.pointer (some ⟨Bm, 0, none⟩)], .func (.func 29) #[] #[]] w fun e w' => ∃ v : Value, e = .returned v ∧ w'.ownsRow w.heap.size 26 6 v ((sortT (s.map (·.1))).map Tr.v).length (cellsL ((sortT (s.map (·.1))).map Tr.v)) ∧ Below w.heap.size w w' := by
  have eg : ∀ args w, (callFunc 45 args).run Try.prog w = .ok (.enter 45 args) w := enters_of Try.func45 (by kernel_rfl) rfl
  have hseq := (keys_stops Fence.wide 5 trivial rfl (by decide) Bm b s w hBm hm hown).gives
  have hc := collect_c 45 #[.pointer (some ⟨Bm, 0, none⟩)] eg _ s.length (by omega) w hseq
  go_enter Try.func27, Try.ntmps27
  go_wp2_with (go_at_call 43; refine hc.mono ?_; rintro e w1 ⟨v, ss, rfl, hS, hrow, hb⟩)
  have hlen : ss.length = s.length := by have := hS.length_eq; simpa using this
  have hrow' : w1.ownsRow 0 26 6 v (ss.map Tr.v).length (cellsL (ss.map Tr.v)) := by
    rw [cellsT, List.length_map]
    exact row_base hrow (Nat.zero_le _)
  have hsort := sort_gT ss (by omega) w1 v hrow'
  go_wp2_with (go_at_call 44; refine hsort.mono ?_; rintro e w2 ⟨rfl, hrow2, hg2⟩)
  go_ret
  refine ⟨v, rfl, ?_, hb.grown hg2 hb.size fun k e => (hrow.lt k e).1⟩
  have e1 : sortT (s.map (·.1)) = sortT ss := sortT_eq hS.symm
  rw [e1]
  have e2 : ((sortT ss).map Tr.v).length = (ss.map Tr.v).length := by rw [List.length_map, List.length_map, sortT_len]
  rw [e2]
  exact row_rebase hrow2 fun g hg => (hrow.lt g hg).1
