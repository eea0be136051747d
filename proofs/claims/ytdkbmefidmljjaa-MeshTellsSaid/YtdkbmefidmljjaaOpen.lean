/- Arguments opened to flat rows of whole numbers: structs and arrays of int, and slices of them. Conditions: each lemma's own. -/
import Derived.Deep.Slices
import Derived.ChangeSame
import Derived.ChangeOld
import Derived.WideShapes
import Derived.Carry
import Derived.Below
namespace Go.Proofs.Ytdkbmefidmljjaa.Flat
open Go.ChangeShapes Go.WideShapes Go.Deep Go.RowKit

/-- Is a type made of whole numbers (int) alone? -/
def leafInt (P : Program) : Nat → TypeId → Bool
  | 0, _ => false
  | m + 1, t => match P.underlying t with
    | some (.int .i64) => true
    | some (.struct fs) => fs.all (fun f => leafInt P m f.type) && (List.range (P.cellsOf t)).all fun i => fs.any fun f => decide (f.offset ≤ i) && decide (i < f.offset + P.cellsOf f.type)
    | some (.array n e) => leafInt P m e && decide (P.cellsOf t = n * P.cellsOf e) && decide (0 < P.cellsOf e)
    | _ => false

section
variable {H : Type} {enc : TypeId × Value → H} {P : Program} {w : World} {base : Nat} {spare : Nat → Bool} {held : Bool}

theorem mapM_get {α β : Type} {f : α → Option β} : ∀ {l : List α} {r : List β}, l.mapM f = some r → ∀ i (h : i < l.length), f l[i] = r[i]?
  | [], _, _, i, h => absurd h (by simp)
  | a :: l, r, h, i, hi => by
    simp only [List.mapM_cons, bind, Option.bind_eq_some_iff, pure, Option.some.injEq] at h
    obtain ⟨b, hb, bs, hbs, rfl⟩ := h
    cases i with
    | zero => simpa using hb
    | succ i => simpa using mapM_get hbs i (by simpa using hi)

theorem flat_trod : ∀ (m : Nat) (t : TypeId), leafInt P m t = true → ∀ (fuel : Nat) (cs : List Value) (x : DataW H × List MemPlace), DataW.trod enc P w base spare held fuel t cs = some x →
    ∀ c ∈ cs, ∃ z, c = .int .i64 z ∧ (Lit.int .i64 z).wf = true
  | 0, _, h => by simp [leafInt] at h
  | m + 1, t, h => by
    intro fuel cs x hx c hc
    unfold leafInt at h
    split at h
    · rename_i hu
      obtain ⟨n, rfl, _, hw⟩ := DataW.trod_int hu hx
      simp at hc
      exact ⟨n, hc, hw⟩
    · rename_i fs hu
      simp only [Bool.and_eq_true, Array.all_eq_true, List.all_eq_true, List.mem_range, Array.any_eq_true, decide_eq_true_eq] at h
      obtain ⟨hall, hcov⟩ := h
      obtain ⟨xs, n, _, _, hlen, hxl, hf⟩ := DataW.trod_struct hu hx
      obtain ⟨i, hi, rfl⟩ := List.getElem_of_mem hc
      obtain ⟨j, hj, h1, h2⟩ := hcov i (by omega)
      have hfj := hf j fs[j] (by simp [hj])
      have hxj : xs[j]? = some (xs[j]'(by omega)) := List.getElem?_eq_getElem (by omega)
      rw [hxj] at hfj
      refine flat_trod m _ (hall j hj) n _ _ hfj _ ?_
      rw [List.mem_iff_getElem?]
      refine ⟨i - fs[j].offset, ?_⟩
      rw [List.getElem?_take, if_pos (by omega), List.getElem?_drop, show fs[j].offset + (i - fs[j].offset) = i by omega]
      exact List.getElem?_eq_getElem hi
    · rename_i n e hu
      simp only [Bool.and_eq_true, decide_eq_true_eq] at h
      obtain ⟨⟨he, hce⟩, hpos⟩ := h
      cases fuel with
      | zero => simp [DataW.trod] at hx
      | succ fuel =>
        unfold DataW.trod at hx
        simp only [hu] at hx
        split at hx
        case isFalse => simp at hx
        rename_i hl
        simp only [Option.map_eq_some_iff] at hx
        obtain ⟨xs, hp, _⟩ := hx
        obtain ⟨i, hi, rfl⟩ := List.getElem_of_mem hc
        have hi' : i / P.cellsOf e < n := by
          rw [Nat.div_lt_iff_lt_mul hpos]; omega
        have hg := mapM_get hp (i / P.cellsOf e) (by simpa using hi')
        have hxl := mapM_some_length hp
        simp only [List.length_range] at hxl
        have hxj : xs[i / P.cellsOf e]? = some (xs[i / P.cellsOf e]'(by omega)) := List.getElem?_eq_getElem (by omega)
        rw [hxj] at hg
        simp only [List.getElem_range] at hg
        refine flat_trod m e he fuel _ _ hg _ ?_
        rw [List.mem_iff_getElem?]
        have hm := Nat.div_add_mod i (P.cellsOf e)
        rw [Nat.mul_comm] at hm
        have hlt := Nat.mod_lt i hpos
        refine ⟨i % P.cellsOf e, ?_⟩
        rw [List.getElem?_take, if_pos hlt, List.getElem?_drop, hm]
        exact List.getElem?_eq_getElem hi
    · simp at h

/-- A struct (or array) argument of whole numbers. -/
theorem open_flat {m : Nat} {t : TypeId} {fs : Array Field} {r : Reach} {b0 : Nat} {v : Value} {d : DataW H} {p : List MemPlace} (hs : P.underlying t = some (.struct fs)) (hm : leafInt P m t = true)
    (hv : Value.okWide P w r b0 t v) (h : DataW.Trod enc P w base spare held t v d p) :
    ∃ zs : List Int, v = .agg (zs.map (Value.int .i64)).toArray ∧ zs.length = P.cellsOf t ∧ ∀ z ∈ zs, (Lit.int .i64 z).wf = true := by
  obtain ⟨cs, rfl, hsz⟩ := okWide_struct hs hv
  obtain ⟨fuel, hf⟩ := h
  have hall := flat_trod m t hm fuel _ _ hf
  have key : ∀ l : List Value, (∀ c ∈ l, ∃ z, c = .int .i64 z ∧ (Lit.int .i64 z).wf = true) → ∃ zs : List Int, l = zs.map (Value.int .i64) ∧ ∀ z ∈ zs, (Lit.int .i64 z).wf = true := by
    intro l
    induction l with
    | nil => exact fun _ => ⟨[], rfl, by simp⟩
    | cons c l ih =>
      intro hl
      obtain ⟨z, rfl, hz⟩ := hl c (by simp)
      obtain ⟨zs, rfl, hzs⟩ := ih (fun c hc => hl c (by simp [hc]))
      exact ⟨z :: zs, rfl, by simpa using ⟨hz, hzs⟩⟩
  obtain ⟨zs, hz, hw⟩ := key cs.toList (by simpa [Value.cells] using hall)
  refine ⟨zs, ?_, ?_, hw⟩
  · rw [← hz]
  · rw [← hsz]
    have := congrArg List.length hz
    simpa using this.symm

theorem uncons {n : Nat} {l : List Int} (h : l.length = n + 1) : ∃ x r, l = x :: r ∧ r.length = n := by
  cases l with
  | nil => simp at h
  | cons x r => exact ⟨x, r, rfl, by simpa using h⟩
theorem unnil {l : List Int} (h : l.length = 0) : l = [] := List.length_eq_zero_iff.1 h

/-- A slice that came in: its length, its capacity, what its cells hold: k numbers an element. -/
def IsFlat (k : Nat) (w : World) (a : Option Addr) (len cap : Nat) (zs : List Int) : Prop :=
  (a = none ∧ len = 0 ∧ cap = 0 ∧ zs = []) ∨
  ∃ x, a = some x ∧ len ≤ cap ∧ cap ≤ maxLen ∧ zs.length = len * k ∧ (∀ i, i < zs.length → w.cell? (x.add i) = some (.int .i64 (zs.getD i 0))) ∧ ∀ n ∈ zs, (Lit.int .i64 n).wf = true

/-- Cell i of a slice that came in, in any later world. -/
theorem cellsAt {k : Nat} {w : World} {a : Option Addr} {len cap : Nat} {zs : List Int} (h : IsFlat k w a len cap zs) (hpos : 0 < len * k) :
    ∃ b o, a = some ⟨b, o, none⟩ ∧ b < w.heap.size ∧ ∀ wr, Below w.heap.size w wr → ∀ i, i < len * k → wr.cell? ⟨b, o + i, none⟩ = some (.int .i64 (zs.getD i 0)) ∧ (Lit.int .i64 (zs.getD i 0)).wf = true := by
  rcases h with ⟨_, rfl, _⟩ | ⟨x, rfl, _, _, hzl, hcell, hw⟩
  · simp at hpos
  · have h0 := hcell 0 (by omega)
    obtain ⟨b, o, sp⟩ := x
    have hb : b < w.heap.size ∧ sp = none := by
      unfold World.cell? at h0
      simp only [Addr.add] at h0
      split at h0
      · rename_i hblk
        refine ⟨(Array.getElem?_eq_some_iff.1 hblk).1, ?_⟩
        cases sp with
        | none => rfl
        | some s => simp at h0
      · simp at h0
    obtain ⟨hb, rfl⟩ := hb
    refine ⟨b, o, rfl, hb, fun wr hB i hi => ⟨?_, ?_⟩⟩
    · rw [hB.cell (p := ⟨b, o + i, none⟩) hb]
      have hci := hcell i (by omega)
      unfold Addr.add at hci
      split at hci
      · rename_i h0; subst h0; exact hci
      · exact hci
    · refine hw _ ?_
      rw [List.getD_eq_getElem?_getD, List.getElem?_eq_getElem (by omega)]
      exact List.getElem_mem _

theorem open_rows {m : Nat} {t e : TypeId} {fuel : Nat} {cs : List Value} {x : DataW H × List MemPlace} (ht : P.underlying t = some (.slice e)) (he : leafInt P m e = true) (hk : 0 < P.cellsOf e)
    (h : DataW.trod enc P w base spare held fuel t cs = some x) :
    ∃ a len cap zs, cs = [.slice a len cap] ∧ IsFlat (P.cellsOf e) w a len cap zs := by
  rcases open_slice ht h with ⟨rfl, _⟩ | ⟨a, len, cap, mm, n, D, Pl, hcs, hb, hl, hm, hmm, hx, hi⟩
  · exact ⟨none, 0, 0, [], rfl, .inl ⟨rfl, rfl, rfl, rfl⟩⟩
  · have hmm' : len ≤ mm := by rw [hmm]; split <;> omega
    have hcell : ∀ i, i < len * P.cellsOf e → ∃ z, w.cell? (a.add i) = some (.int .i64 z) ∧ (Lit.int .i64 z).wf = true := by
      intro i hlt
      have hq : i / P.cellsOf e < len := by rw [Nat.div_lt_iff_lt_mul hk]; omega
      obtain ⟨cs', hc, htr⟩ := hi (i / P.cellsOf e) (by omega)
      obtain ⟨_, hcl, hat⟩ := World.cells?_some hc
      have hr := Nat.mod_lt i hk
      have hm := Nat.div_add_mod i (P.cellsOf e)
      rw [Nat.mul_comm] at hm
      have h1 := hat (i % P.cellsOf e) hr
      rw [Go.Deep.add_add, hm] at h1
      have h2 : cs'[i % P.cellsOf e]? = some (cs'[i % P.cellsOf e]'(by omega)) := List.getElem?_eq_getElem (by omega)
      obtain ⟨z, hz, hw⟩ := flat_trod m e he _ _ _ htr (cs'[i % P.cellsOf e]'(by omega)) (List.getElem_mem _)
      exact ⟨z, by rw [h1, h2, hz], hw⟩
    have hex : ∃ zs : List Int, zs.length = len * P.cellsOf e ∧ (∀ i, i < zs.length → w.cell? (a.add i) = some (.int .i64 (zs.getD i 0))) ∧ ∀ n ∈ zs, (Lit.int .i64 n).wf = true := by
      generalize len * P.cellsOf e = N at hcell
      clear hx hi hmm hmm'
      induction N with
      | zero => exact ⟨[], rfl, by simp, by simp⟩
      | succ N ih =>
        obtain ⟨zs, hl, hc, hw⟩ := ih (fun i hi => hcell i (by omega))
        obtain ⟨z, hz, hzw⟩ := hcell N (by omega)
        refine ⟨zs ++ [z], by simp [hl], fun i hi => ?_, ?_⟩
        · simp at hi
          by_cases hiN : i < zs.length
          · rw [hc i hiN]; simp [List.getD, List.getElem?_append_left hiN]
          · have : i = zs.length := by omega
            subst this
            rw [hl, hz]
            simp [List.getD, ← hl]
        · intro n hn
          simp at hn
          rcases hn with hn | rfl
          · exact hw n hn
          · exact hzw
    obtain ⟨zs, hzl, hzc, hzw⟩ := hex
    exact ⟨some a, len, cap, zs, hcs, .inr ⟨a, rfl, hl, hm, hzl, hzc, hzw⟩⟩
end
end Go.Proofs.Ytdkbmefidmljjaa.Flat
