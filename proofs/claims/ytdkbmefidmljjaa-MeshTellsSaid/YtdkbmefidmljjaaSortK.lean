/- Rows of k cells an element, as the shelf's sort reads and leaves them. Conditions: each lemma's own. -/
import Derived.Shelf.SlSortCmp.WholeK
import Derived.Shelf.SlSortCmp.NoneTotal
import Derived.Below
import Derived.Carry
namespace Go.Proofs.Ytdkbmefidmljjaa.SortK
open Go.RowKit Go.Sort Go.Shelf

section
variable {α : Type} [Inhabited α] {enc : α → List Value} {k : Nat}

omit [Inhabited α] in
theorem flat_length (hk : ∀ x, (enc x).length = k) : ∀ l : List α, (l.flatMap enc).length = l.length * k
  | [] => by simp
  | x :: l => by rw [List.flatMap_cons, List.length_append, hk, flat_length hk l, List.length_cons, Nat.add_mul]; omega

theorem flat_get (hk : ∀ x, (enc x).length = k) (h0 : 0 < k) : ∀ (l : List α) (t : Nat) (_ : t < l.length * k), (l.flatMap enc)[t]? = some ((enc (l[t / k]?.getD default))[t % k]!)
  | [], t, h => by simp at h
  | x :: l, t, h => by
    rw [List.flatMap_cons, List.getElem?_append, hk]
    by_cases c : t < k
    · rw [if_pos c, Nat.div_eq_of_lt c, Nat.mod_eq_of_lt c]
      have : t < (enc x).length := by rw [hk]; exact c
      simp [this]
    · rw [if_neg c, flat_get hk h0 l (t - k) (by rw [List.length_cons, Nat.add_mul] at h; omega)]
      have e1 : t / k = (t - k) / k + 1 := by
        rw [show t = (t - k) + k by omega, Nat.add_div_right _ h0]
        simp
      have e2 : t % k = (t - k) % k := by
        rw [show t = (t - k) + k by omega, Nat.add_mod_right]
        simp
      rw [e1, e2]
      simp

theorem flatK_toList (hk : ∀ x, (enc x).length = k) (h0 : 0 < k) (d : Array α) : (flatK enc k d).toList = d.toList.flatMap enc := by
  apply List.ext_getElem?
  intro t
  by_cases h : t < d.size * k
  · rw [flat_get hk h0 d.toList t (by simpa using h)]
    have h2 : t < (flatK enc k d).size := by rw [size_flatK]; exact h
    have := get_flatK enc k d t h
    rw [_root_.getElem!_pos (flatK enc k d) t h2] at this
    simp only [Array.getElem?_toList, Array.getElem?_eq_getElem h2, this]
    congr 3
    have hd : t / k < d.size := Nat.div_lt_of_lt_mul (by rw [Nat.mul_comm]; exact h)
    rw [_root_.getElem!_pos d (t / k) hd]
    simp [hd]
  · have h2 : (flatK enc k d).size ≤ t := by rw [size_flatK]; omega
    rw [Array.getElem?_toList, Array.getElem?_eq_none h2, List.getElem?_eq_none]
    rw [flat_length hk]; simpa using h2

theorem holds_of (hk : ∀ x, (enc x).length = k) (h0 : 0 < k) {w : World} {g cap : Nat} {e : TypeId} {cur : Array Value} (l : List α) (hb : w.heap[g]? = some (.cells cur e (0, 0))) (hc : cur.size = cap * k) (hl : l.length ≤ cap)
    (ht : cur.toList.take (l.length * k) = l.flatMap enc) : HoldsK enc k w g 0 l.toArray := by
  intro j hj
  rw [size_flatK] at hj
  have hj' : j < l.length * k := by simpa using hj
  have hjc : j < cur.size := by
    rw [hc]
    exact Nat.lt_of_lt_of_le hj' (Nat.mul_le_mul_right k hl)
  have h2 : j < (flatK enc k l.toArray).size := by rw [size_flatK]; exact hj
  have e1 : cur[j]? = some (flatK enc k l.toArray)[j]! := by
    have := congrArg (fun z => z[j]?) ht
    simp only [List.getElem?_take, if_pos hj'] at this
    rw [← Array.getElem?_toList, this, ← show (flatK enc k l.toArray).toList = l.flatMap enc from flatK_toList hk h0 _, Array.getElem?_toList, Array.getElem?_eq_getElem h2, _root_.getElem!_pos (flatK enc k l.toArray) j h2]
  constructor
  · unfold World.cell?
    simp only [hb, Nat.zero_add]
    exact e1
  · unfold World.frozen?
    simp [hb]

theorem heap_sortedK {w : World} {g n : Nat} {e : TypeId} {cur : Array Value} (d : Array α) (os : Array Obj) (hb : w.heap[g]? = some (.cells cur e (0, 0))) :
    (sortWorldK enc k w g 0 n d os).heap[g]? = some (.cells (putCells id 0 (flatK enc k d) cur) e (0, 0)) := by
  have hg : g < w.heap.size := (Array.getElem?_eq_some_iff.1 hb).1
  unfold sortWorldK putRowK putRow
  rw [heap_grow_old _ _ (by simpa [mapBlock, Sort.ahead] using hg)]
  simp [mapBlock, Sort.ahead, Array.getElem?_modify, hb, onCells]

theorem take_putK (hk : ∀ x, (enc x).length = k) (h0 : 0 < k) (d : Array α) (cur : Array Value) (h : d.size * k ≤ cur.size) : (putCells id 0 (flatK enc k d) cur).toList.take (d.size * k) = d.toList.flatMap enc := by
  rw [← flatK_toList hk h0]
  apply List.ext_getElem?
  intro t
  rw [List.getElem?_take]
  by_cases c : t < d.size * k
  · rw [if_pos c]
    have h2 : t < (flatK enc k d).size := by rw [size_flatK]; exact c
    have h3 : t < cur.size := by omega
    simp [putCells, h3, c]
  · rw [if_neg c, List.getElem?_eq_none]
    simp; omega

theorem row_sorted (hk : ∀ x, (enc x).length = k) (h0 : 0 < k) {w : World} {base g cap n m : Nat} {e : TypeId} {cur : Array Value} (d : Array α) (os : Array Obj) (hm : d.size = m) (hbase : base ≤ g) (hb : w.heap[g]? = some (.cells cur e (0, 0)))
    (h1 : m ≤ cap) (h2 : cap ≤ maxLen) (h3 : cur.size = cap * k) :
    (sortWorldK enc k w g 0 n d os).ownsRow base e k (.slice (some ⟨g, 0, none⟩) m cap) m (d.toList.flatMap enc) :=
  ⟨by rw [flat_length hk]; simp [hm], .inr ⟨g, cap, _, rfl, hbase, heap_sortedK d os hb, h1, h2, by simp [putCells, h3], by
    subst hm; exact take_putK hk h0 d cur (by rw [h3]; exact Nat.mul_le_mul_right k h1)⟩⟩

theorem below_sorted {w : World} {B g n : Nat} (d : Array α) (os : Array Obj) (hB : B ≤ g) (hw : B ≤ w.heap.size) : Below B w (sortWorldK enc k w g 0 n d os) := by
  refine ⟨rfl, rfl, rfl, ?_, fun i hi => ?_⟩
  · simp [sortWorldK, putRowK, putRow, mapBlock, Sort.ahead]
  · unfold sortWorldK putRowK putRow
    rw [heap_grow_old _ _ (by simp [mapBlock, Sort.ahead]; omega)]
    simp [mapBlock, Sort.ahead, Array.getElem?_modify]
    intro e; omega

theorem grown_sorted {w : World} {g n : Nat} (d : Array α) (os : Array Obj) : w.grownBy (sortWorldK enc k w g 0 n d os) (some g) := by
  refine ⟨rfl, rfl, rfl, ?_, fun i hi hne => ?_⟩
  · simp [sortWorldK, putRowK, putRow, mapBlock, Sort.ahead]
  · unfold sortWorldK putRowK putRow
    rw [heap_grow_old _ _ (by simp [mapBlock, Sort.ahead]; omega)]
    simp [mapBlock, Sort.ahead, Array.getElem?_modify]
    intro e; exact absurd (by rw [e]) hne

end

end Go.Proofs.Ytdkbmefidmljjaa.SortK
