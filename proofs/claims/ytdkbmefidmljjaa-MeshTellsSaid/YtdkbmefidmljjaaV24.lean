/- Parts of read-only lists: l[:j] and l[j:]. Conditions: each lemma's own. -/
import Derived.Test.YtdkbmefidmljjaaVB
namespace Go.Proofs.Ytdkbmefidmljjaa.V
open Go.RowKit
universe u
set_option linter.unusedVariables false

theorem cellsL_app (xs ys : List Value) : cellsL (xs ++ ys) = cellsL xs ++ cellsL ys := by
  unfold cellsL; rw [List.flatMap_append]

theorem IsL.cut {h : Hd} {w : World} {k : Nat} {xs : List Value} {a : Option Addr} {len cap : Nat} (H : IsL h w k xs (.slice a len cap)) (j1 j2 : Nat) (h1 : j1 ≤ j2) (h2 : j2 ≤ xs.length) :
    IsL h w k ((xs.take j2).drop j1) (sliced a j1 j2 cap k) := by
  unfold sliced
  have hlen : ((xs.take j2).drop j1).length = j2 - j1 := by rw [List.length_drop, List.length_take]; omega
  by_cases he : j1 = j2
  · refine .inl ⟨List.eq_nil_of_length_eq_zero (by omega), ?_⟩
    have : j2 - j1 = 0 := by omega
    rw [this]
    exact ⟨_, _, rfl⟩
  rcases H with ⟨e, _⟩ | ⟨b, o, cap', hv, hc, hi⟩
  · rw [e] at h2; simp at h2; omega
  · cases hv
    refine .inr ⟨b, o + j1 * k, cap - j1, ?_, by omega, ?_⟩
    · rw [hlen, if_neg (by omega)]
      simp [Addr.add]
    · refine ⟨hi.lt, hi.im, fun x hx => hi.sz x (List.mem_of_mem_take (List.mem_of_mem_drop hx)), ?_⟩
      intro j c hj
      have e1 : xs = xs.take j1 ++ ((xs.take j2).drop j1 ++ xs.drop j2) := by
        have a1 : xs.take j1 ++ (xs.take j2).drop j1 = xs.take j2 := by
          have := List.take_append_drop j1 (xs.take j2)
          rw [List.take_take, Nat.min_eq_left h1] at this
          exact this
        rw [← List.append_assoc, a1, List.take_append_drop]
      have hl1 : (cellsL (xs.take j1)).length = j1 * k := by
        rw [len_cellsL (fun y hy => hi.sz y (List.mem_of_mem_take hy)), List.length_take, Nat.min_eq_left (by omega)]
      have e2 : (cellsL xs)[j1 * k + j]? = some c := by
        rw [e1, cellsL_app, List.getElem?_append_right (by omega), hl1, Nat.add_sub_cancel_left, cellsL_app, List.getElem?_append_left (List.getElem?_eq_some_iff.1 hj).1]
        exact hj
      have := hi.cell _ _ e2
      rw [Nat.add_assoc]
      exact this

section
variable {P : Program} {E : Env} {ops : Array Oper} {rest : List Oper} {s : S} {K : S → Prop}
variable {c : Nat} {t : List (Nat × AV)} {L : List (Nat × VO)} {G : Nat → Option VO} {d ty : Nat} {pos : String} {af : Array Edge} {tab : Tab}

theorem VR.sliceH {T : TypeId} {ti te : TI} {e0 : Nat} {x y : Operand} {q : Nat} {xs : List Value} {kd : IntKind} {i : Int} (j : Nat) (hT : Tab.Ok P tab) (hn : Nat.ble (d + 1) E.nt = true) (hti : lk tab T = some ti) (he : ti.slc = some e0) (hte : lk tab e0 = some te)
    (hx : eva ⟨c, t, L, G⟩ x = some (.d (.lst q xs))) (hq : q = te.size) (hy : fl ⟨c, t, L, G⟩ y = some (.int kd i)) (hi : i = (j : Int)) (hj : j ≤ xs.length)
    (k : VR P E ops rest ⟨c, (d, .a (.d (.lst q (xs.take j)))) :: t, L, G⟩ K) :
    VR P E ops (⟨some d, .slice T x none (some y) none, ty, pos, af, none⟩ :: rest) ⟨c, t, L, G⟩ K := by
  refine VR.val rfl rfl (Nat.le_of_ble_eq_true hn) (.a (.d (.lst q (xs.take j)))) (fun h w a H => ?_) k
  have hr := H.eva hx
  have hyv := H.fl hy
  subst hi hq
  have hu := (hT T ti hti).slice he
  have hz := (hT e0 te hte).run_size w
  have hsl : ∃ ad len cap, a.eval x = .slice ad len cap ∧ j ≤ cap := by
    rcases hr with ⟨e, ad, cap, h1⟩ | ⟨b, o, cap, h1, h2, h3⟩
    · rw [e] at hj; simp at hj; exact ⟨ad, 0, cap, h1, by omega⟩
    · exact ⟨_, _, cap, h1, by omega⟩
  obtain ⟨ad, len, cap, h1, h2⟩ := hsl
  have hr' : IsL h w te.size xs (.slice ad len cap) := h1 ▸ hr
  refine ⟨sliced ad 0 j cap te.size, ?_, ?_⟩
  · have h0 : (0 : Int) ≤ (j : Int) := by omega
    have h3 : (j : Int) ≤ (cap : Int) := by omega
    simp [execOp, h1, hyv, Instr.sliceAt, run_underlying hu, Instr.slice, Instr.sliceBounds, run_sliceBound, hz, sliced, h2]
  · have := hr'.cut 0 j (Nat.zero_le _) hj
    rw [List.drop_zero] at this
    exact this

theorem VR.sliceL {T : TypeId} {ti te : TI} {e0 : Nat} {x y : Operand} {q : Nat} {xs : List Value} {kd : IntKind} {i : Int} (j : Nat) (hT : Tab.Ok P tab) (hn : Nat.ble (d + 1) E.nt = true) (hti : lk tab T = some ti) (he : ti.slc = some e0) (hte : lk tab e0 = some te)
    (hx : eva ⟨c, t, L, G⟩ x = some (.d (.lst q xs))) (hq : q = te.size) (hy : fl ⟨c, t, L, G⟩ y = some (.int kd i)) (hi : i = (j : Int)) (hj : j ≤ xs.length)
    (k : VR P E ops rest ⟨c, (d, .a (.d (.lst q (xs.drop j)))) :: t, L, G⟩ K) :
    VR P E ops (⟨some d, .slice T x (some y) none none, ty, pos, af, none⟩ :: rest) ⟨c, t, L, G⟩ K := by
  refine VR.val rfl rfl (Nat.le_of_ble_eq_true hn) (.a (.d (.lst q (xs.drop j)))) (fun h w a H => ?_) k
  have hr := H.eva hx
  have hyv := H.fl hy
  subst hi hq
  have hu := (hT T ti hti).slice he
  have hz := (hT e0 te hte).run_size w
  have hsl : ∃ ad cap, a.eval x = .slice ad xs.length cap := by
    rcases hr with ⟨e, ad, cap, h1⟩ | ⟨b, o, cap, h1, h2, h3⟩
    · rw [e]; exact ⟨ad, cap, h1⟩
    · exact ⟨_, cap, h1⟩
  obtain ⟨ad, cap, h1⟩ := hsl
  have hr' : IsL h w te.size xs (.slice ad xs.length cap) := h1 ▸ hr
  refine ⟨sliced ad j xs.length cap te.size, ?_, ?_⟩
  · simp [execOp, h1, hyv, Instr.sliceAt, run_underlying hu, Instr.slice, Instr.sliceBounds, run_sliceBound, hz, sliced, hj]
  · have := hr'.cut j xs.length hj (Nat.le_refl _)
    rw [List.take_length] at this
    exact this
end
