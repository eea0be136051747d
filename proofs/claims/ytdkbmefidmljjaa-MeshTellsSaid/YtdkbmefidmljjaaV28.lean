/- Parts of lists, l[i:j]; a store into an element of an own row; an own row that is only read from then on. Conditions: each lemma's own. -/
import Derived.Test.YtdkbmefidmljjaaV27
namespace Go.Proofs.Ytdkbmefidmljjaa.V
open Go.RowKit
universe u
set_option linter.unusedVariables false

theorem cellsL_set {xs : List Value} {k j : Nat} {u : Value} (hz : ∀ x ∈ xs, x.cells.size = k) (hj : j < xs.length) :
    ∃ A B C, cellsL xs = A ++ B ++ C ∧ A.length = j * k ∧ B.length = k ∧ cellsL (xs.set j u) = A ++ u.cells.toList ++ C := by
  refine ⟨cellsL (xs.take j), cellsL [xs[j]], cellsL (xs.drop (j + 1)), ?_, ?_, ?_, ?_⟩
  · rw [← cellsL_app, ← cellsL_app]
    congr 1
    rw [List.append_assoc, List.singleton_append, List.getElem_cons_drop, List.take_append_drop]
  · rw [len_cellsL (fun y hy => hz y (List.mem_of_mem_take hy)), List.length_take, Nat.min_eq_left (by omega)]
  · simp [cellsL, hz _ (List.getElem_mem hj)]
  · rw [List.set_eq_take_append_cons_drop, if_pos hj, show xs.take j ++ u :: xs.drop (j + 1) = xs.take j ++ [u] ++ xs.drop (j + 1) by simp, cellsL_app, cellsL_app]
    congr 2
    simp [cellsL]

section
variable {P : Program} {E : Env} {ops : Array Oper} {rest : List Oper} {s : S} {K : S → Prop}
variable {c : Nat} {t : List (Nat × AV)} {L : List (Nat × VO)} {G : Nat → Option VO} {d ty : Nat} {pos : String} {af : Array Edge} {tab : Tab}

theorem VR.slice2 {T : TypeId} {ti te : TI} {e0 : Nat} {x y z : Operand} {q : Nat} {xs : List Value} {kd1 kd2 : IntKind} {i1 i2 : Int} (j1 j2 : Nat) (hT : Tab.Ok P tab) (hn : Nat.ble (d + 1) E.nt = true) (hti : lk tab T = some ti) (he : ti.slc = some e0) (hte : lk tab e0 = some te)
    (hx : eva ⟨c, t, L, G⟩ x = some (.d (.lst q xs))) (hq : q = te.size) (hy1 : fl ⟨c, t, L, G⟩ y = some (.int kd1 i1)) (hi1 : i1 = (j1 : Int)) (hy2 : fl ⟨c, t, L, G⟩ z = some (.int kd2 i2)) (hi2 : i2 = (j2 : Int)) (h12 : j1 ≤ j2) (hj : j2 ≤ xs.length)
    (k : VR P E ops rest ⟨c, (d, .a (.d (.lst q ((xs.take j2).drop j1)))) :: t, L, G⟩ K) :
    VR P E ops (⟨some d, .slice T x (some y) (some z) none, ty, pos, af, none⟩ :: rest) ⟨c, t, L, G⟩ K := by
  refine VR.val rfl rfl (Nat.le_of_ble_eq_true hn) (.a (.d (.lst q ((xs.take j2).drop j1)))) (fun h w a H => ?_) k
  have hr := H.eva hx
  have hyv1 := H.fl hy1
  have hyv2 := H.fl hy2
  subst hi1 hi2 hq
  have hu := (hT T ti hti).slice he
  have hz := (hT e0 te hte).run_size w
  have hsl : ∃ ad len cap, a.eval x = .slice ad len cap ∧ j2 ≤ cap := by
    rcases hr with ⟨e, ad, cap, h1⟩ | ⟨b, o, cap, h1, h2, h3⟩
    · rw [e] at hj; simp at hj; exact ⟨ad, 0, cap, h1, by omega⟩
    · exact ⟨_, _, cap, h1, by omega⟩
  obtain ⟨ad, len, cap, h1, h2⟩ := hsl
  have hr' : IsL h w te.size xs (.slice ad len cap) := h1 ▸ hr
  refine ⟨sliced ad j1 j2 cap te.size, ?_, hr'.cut j1 j2 h12 hj⟩
  simp [execOp, h1, hyv1, hyv2, Instr.sliceAt, run_underlying hu, Instr.slice, Instr.sliceBounds, run_sliceBound, hz, sliced, h2, h12]

/-- A guard that is not as it should be, or that was itself not carried out. -/
theorem VR.g_no0 {op : Op} {j tj : Nat} {want : Bool} (hn : Nat.ble (d + 1) E.nt = true) (hj : (ops[j]?).bind (·.dst) = some tj) (hg : gd ⟨c, t, L, G⟩ tj want = some false)
    (k : VR P E ops rest ⟨c, (d, .may j want false (.d (.v (.bool false)))) :: t, L, G⟩ K) : VR P E ops (⟨some d, op, ty, pos, af, some (j, want)⟩ :: rest) ⟨c, t, L, G⟩ K := by
  intro h w a H
  have hwt := wanted_gd (ops := ops) H hj hg ⟨some d, op, ty, pos, af, some (j, want)⟩ rfl
  unfold wpList
  rw [if_neg (by rw [hwt]; simp)]
  exact k h w _ (H.put d (Nat.le_of_ble_eq_true hn) (.may j want false (.d (.v (.bool false)))) undef ⟨(fun e => by cases e), fun _ => rfl⟩)

/-- A store into an element of an own row. -/
theorem VR.storeO {T : TypeId} {ti : TI} {x y : Operand} {n j e k : Nat} {xs : List Value} {u : Value} (hT : Tab.Ok P tab) (hti : lk tab T = some ti) (hx : eva ⟨c, t, L, G⟩ x = some (.oel (.l n) k j 0)) (ho : lk L n = some (.row e k xs))
    (hy : fl ⟨c, t, L, G⟩ y = some u) (hk : ti.size = k) (hu : u.cells.size = k) (h1 : ∀ v ∈ u.cells.toList, v.oneCell' = true) (hj : j < xs.length)
    (kk : VR P E ops rest ⟨c, t, up L n (.row e k (xs.set j u)), G⟩ K) : VR P E ops (⟨none, .store T x y, ty, pos, af, none⟩ :: rest) ⟨c, t, L, G⟩ K := by
  refine VR.act rfl rfl ⟨c, t, up L n (.row e k (xs.set j u)), G⟩ (fun h w a H => ?_) kk
  obtain ⟨hd, e1, ⟨e2, e3⟩, hz, hk0⟩ := H.obj (.l n) _ ho
  have hyv := H.fl hy
  obtain ⟨b', n', cap', g1, g2⟩ := (H.eva hx).2.2 _ e1
  rcases e3 with ⟨rfl', f⟩ | ⟨b, cap, cur, e4, f1, hg, f2, f3, f4, f5⟩
  · rw [g1] at rfl'; cases rfl'
  rw [g1] at e4; cases e4; subst g1
  rw [Nat.add_zero] at g2
  obtain ⟨A, B, C, k1, k2, k3, k4⟩ := cellsL_set (u := u) hz hj
  have hcur : cur.toList = A ++ B ++ C ++ cur.toList.drop (xs.length * k) := by
    rw [← k1, ← f5, List.take_append_drop]
  have hjk : j * k + k ≤ xs.length * k := by
    have : (j + 1) * k ≤ xs.length * k := Nat.mul_le_mul_right k hj
    rw [Nat.add_mul] at this; omega
  have hck : xs.length * k ≤ cap' * k := Nat.mul_le_mul_right k f2
  have hrun := run_store_cells (hT T ti hti) (x := u) (o := j * k) hg (by rw [hk]; exact hu) (by rw [hk, f4]; omega) h1
  obtain ⟨s1, s2, s3, s4, s5⟩ := setRow_kept (w := w) (b := b') (cs := (cur.toList.take (j * k) ++ u.cells.toList ++ cur.toList.drop (j * k + ti.size)).toArray)
  have hnew : cur.toList.take (j * k) ++ u.cells.toList ++ cur.toList.drop (j * k + ti.size) = A ++ u.cells.toList ++ C ++ cur.toList.drop (xs.length * k) := by
    have t1 : cur.toList.take (j * k) = A := by
      rw [hcur, List.append_assoc, List.append_assoc, List.take_append_of_le_length (by omega), ← k2, List.take_length]
    have t2 : cur.toList.drop (j * k + ti.size) = C ++ cur.toList.drop (xs.length * k) := by
      have : (A ++ B).length = j * k + ti.size := by rw [List.length_append, k2, k3, hk]
      conv => lhs; rw [hcur, List.append_assoc, ← this, List.drop_left]
    rw [t1, t2, List.append_assoc (A ++ u.cells.toList)]
  have hlen : (A ++ u.cells.toList ++ C).length = xs.length * k := by
    have : (cellsL xs).length = xs.length * k := len_cellsL hz
    rw [k1] at this
    have hu' : u.cells.toList.length = k := by simpa using hu
    rw [List.length_append, List.length_append, k3] at this
    rw [List.length_append, List.length_append, hu']; exact this
  refine ⟨_, h, .inl ?_, H.set (.l n) _ _ _ ho e1 s1 s2 s3 s4 (fun q hq => s5 q (fun e => hq (by rw [e]; rfl))) (fun m e => by cases e) ?_⟩
  · simp only [execOp, g2, hyv, Instr.storeAt, Instr.sureAddr, Sem.run_bind, Sem.run_pure, Result.andThen_ok, hrun]
  · refine ⟨⟨?_, .inr ⟨b', cap', _, by rw [List.length_set], f1, setRow_heap w b' cur _ e _ hg, by rw [List.length_set]; exact f2, f3, ?_, ?_⟩⟩, fun x hx => ?_, hk0⟩
    · rw [k4, List.length_set]; exact hlen
    · have hl := congrArg List.length hcur
      rw [Array.length_toList, f4] at hl
      have h7 := congrArg List.length k1
      rw [len_cellsL hz] at h7
      rw [List.length_append (bs := List.drop (xs.length * k) cur.toList), ← h7] at hl
      rw [hnew, List.size_toArray, hl, List.length_append, hlen]
    · rw [hnew, k4, List.length_set, List.toList_toArray, ← hlen, List.take_left]
    · rcases List.mem_or_eq_of_mem_set hx with hx | hx
      · exact hz x hx
      · rw [hx]; exact hu
end

section
variable {P : Program} {E : Env} {fn : Func} {R : Ending → World → Prop} {kk : List Item}
/-- An own row is only read from then on. -/
theorem VJ.freeze {c : Nat} {t : List (Nat × AV)} {L : List (Nat × VO)} {G : Nat → Option VO} (i : Nat) {n e k : Nat} {xs : List Value} (hi : lk t i = some (.a (.own (.l n)))) (ho : lk L n = some (.row e k xs))
    (hj : VJ P E fn R kk ⟨c, (i, .a (.d (.lst k xs))) :: t, del L n, G⟩) : VJ P E fn R kk ⟨c, t, L, G⟩ := by
  intro h w a b cs H hf hk
  have hz := H.frozen ho (H.tmp i _ hi)
  refine hj _ w a b cs ((H.dropL n).reput fun j v hv => ?_) hf hk
  simp only [lk] at hv
  split at hv
  · rename_i e; subst e; cases hv; exact hz
  · exact (H.dropL n).tmp j v hv
end
end Go.Proofs.Ytdkbmefidmljjaa.V
