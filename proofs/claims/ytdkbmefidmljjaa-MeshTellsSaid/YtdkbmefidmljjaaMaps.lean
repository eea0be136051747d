/- A map's block read as a list of pairs of plain things, whatever the keys' and the values' types: look-up, store, delete, length, range. Conditions: each lemma's own. -/
import Derived.Maps.RangeWalk
import Derived.Maps.OwnOps
import Derived.Below
import Derived.Carry
namespace Go.Proofs.Ytdkbmefidmljjaa.Mp
open Go.RowKit Go.ChangeMaps Go.MapKept

/-- The pair at a key, with its place. -/
def at? {κ ν : Type} [DecidableEq κ] : List (κ × ν) → κ → Nat → Option (Nat × ν)
  | [], _, _ => none
  | p :: l, x, i => if x = p.1 then some (i, p.2) else at? l x (i + 1)

def get {κ ν : Type} [DecidableEq κ] : List (κ × ν) → κ → Option ν
  | [], _ => none
  | p :: l, x => if x = p.1 then some p.2 else get l x

def put {κ ν : Type} [DecidableEq κ] : List (κ × ν) → κ → ν → List (κ × ν)
  | [], x, v => [(x, v)]
  | p :: l, x, v => if x = p.1 then (x, v) :: l else p :: put l x v

def del {κ ν : Type} [DecidableEq κ] : List (κ × ν) → κ → List (κ × ν)
  | [], _ => []
  | p :: l, x => if x = p.1 then l else p :: del l x

section
variable {κ ν : Type} [DecidableEq κ]

theorem at?_get (l : List (κ × ν)) (x : κ) : ∀ i, (at? l x i).map (·.2) = get l x := by
  induction l with
  | nil => intro i; rfl
  | cons p l ih => intro i; simp only [at?, get]; split <;> simp [ih]

theorem at?_none (l : List (κ × ν)) (x : κ) : ∀ i, at? l x i = none ↔ get l x = none := by
  intro i; rw [← at?_get l x i]; simp

theorem get_none {l : List (κ × ν)} {x : κ} : get l x = none ↔ ∀ p ∈ l, p.1 ≠ x := by
  induction l with
  | nil => simp [get]
  | cons p l ih =>
    simp only [get]
    split
    · rename_i h; simp [h]
    · rename_i h; rw [ih]; simp; exact fun _ e => h e.symm

theorem get_mem {l : List (κ × ν)} {x : κ} {v : ν} (h : get l x = some v) : (x, v) ∈ l := by
  induction l with
  | nil => simp [get] at h
  | cons p l ih =>
    simp only [get] at h
    split at h
    · rename_i e; cases h; subst e; simp
    · exact List.mem_cons_of_mem _ (ih h)

theorem mem_get {l : List (κ × ν)} (hn : (l.map (·.1)).Nodup) {x : κ} {v : ν} (h : (x, v) ∈ l) : get l x = some v := by
  induction l with
  | nil => simp at h
  | cons p l ih =>
    simp only [List.map_cons, List.nodup_cons] at hn
    simp only [get]
    rcases List.mem_cons.1 h with rfl | h
    · simp
    · rw [if_neg, ih hn.2 h]
      intro e; exact hn.1 (e ▸ List.mem_map.2 ⟨_, h, rfl⟩)

theorem get_put (l : List (κ × ν)) (x y : κ) (v : ν) : get (put l x v) y = if y = x then some v else get l y := by
  induction l with
  | nil => simp [put, get]
  | cons p l ih =>
    simp only [put]
    split
    · rename_i e; subst e; simp only [get]; split <;> simp_all
    · rename_i e; simp only [get, ih]; split
      · rename_i e2; subst e2; rw [if_neg (fun h => e h.symm)]
      · rfl

theorem keys_put (l : List (κ × ν)) (x : κ) (v : ν) : ∀ y, y ∈ (put l x v).map (·.1) ↔ y = x ∨ y ∈ l.map (·.1) := by
  intro y
  induction l with
  | nil => simp [put]
  | cons p l ih =>
    simp only [put]
    split
    · rename_i e; subst e; simp
    · simp only [List.map_cons, List.mem_cons, ih]; exact or_left_comm

theorem nodup_put {l : List (κ × ν)} (hn : (l.map (·.1)).Nodup) (x : κ) (v : ν) : ((put l x v).map (·.1)).Nodup := by
  induction l with
  | nil => simp [put]
  | cons p l ih =>
    simp only [List.map_cons, List.nodup_cons] at hn
    simp only [put]
    split
    · rename_i e; subst e; simpa using hn
    · rename_i e
      simp only [List.map_cons, List.nodup_cons, keys_put]
      exact ⟨by rintro (h | h); exact e h.symm; exact hn.1 h, ih hn.2⟩

theorem del_sub (l : List (κ × ν)) (x : κ) : (del l x).Sublist l := by
  induction l with
  | nil => simp [del]
  | cons p l ih => simp only [del]; split; exact List.sublist_cons_self _ _; exact ih.cons_cons _

theorem nodup_del {l : List (κ × ν)} (hn : (l.map (·.1)).Nodup) (x : κ) : ((del l x).map (·.1)).Nodup := hn.sublist ((del_sub l x).map _)

theorem get_del {l : List (κ × ν)} (hn : (l.map (·.1)).Nodup) (x y : κ) : get (del l x) y = if y = x then none else get l y := by
  induction l with
  | nil => simp [del, get]
  | cons p l ih =>
    simp only [List.map_cons, List.nodup_cons] at hn
    simp only [del]
    split
    · rename_i e; subst e
      split
      · rename_i e2; subst e2
        rw [get_none]; intro q hq e; exact hn.1 (e ▸ List.mem_map.2 ⟨_, hq, rfl⟩)
      · rename_i e2; simp only [get]; rw [if_neg e2]
    · rename_i e
      simp only [get, ih hn.2]
      split
      · rename_i e2; subst e2; rw [if_neg (fun h => e h.symm)]
      · rfl

theorem length_put (l : List (κ × ν)) (x : κ) (v : ν) : (put l x v).length = if (get l x).isSome then l.length else l.length + 1 := by
  induction l with
  | nil => simp [put, get]
  | cons p l ih => simp only [put, get]; split <;> simp [ih]; split <;> rfl

theorem length_del (l : List (κ × ν)) (x : κ) : (del l x).length = if (get l x).isSome then l.length - 1 else l.length := by
  induction l with
  | nil => simp [del, get]
  | cons p l ih =>
    simp only [del, get]; split
    · simp
    · simp only [List.length_cons, ih]
      split
      · rename_i h
        have : l ≠ [] := by rintro rfl; simp [get] at h
        have := List.length_pos_iff.2 this
        omega
      · rfl

end

/-- What a key's type must answer. -/
structure Key (P : Program) (k : TypeId) {κ : Type} [DecidableEq κ] (mk : κ → Value) : Prop where
  check : ∀ (w : World) em x, (Instr.checkKey em 10000 k (mk x)).run P w = .ok () w
  find : ∀ (w : World) {ν : Type} (mv : ν → Value) x (es : List MapEntry) (l : List (κ × ν)), es.map (fun e => (e.key, e.val)) = l.map (fun p => (mk p.1, mv p.2)) →
    (Instr.findKey k (mk x) es).run P w = .ok ((at? l x 0).map fun p => (p.1, mv p.2)) w
  stays : ∀ (w : World) x, (Instr.keyThatStays (mk x) (mk x)).run P w = .ok (mk x) w

section
variable {P : Program} {k : TypeId} {κ : Type} [DecidableEq κ] {mk : κ → Value}

theorem findAsking_run (heq : ∀ w x y, (Op.equal k (mk x) (mk y)).run P w = .ok (decide (x = y)) w) (w : World) {ν : Type} (mv : ν → Value) (x : κ) :
    ∀ (es : List MapEntry) (l : List (κ × ν)) (i : Nat), es.map (fun e => (e.key, e.val)) = l.map (fun p => (mk p.1, mv p.2)) →
      (Instr.findAsking k (mk x) es i).run P w = .ok ((at? l x i).map fun p => (p.1, mv p.2)) w
  | [], [], i, _ => by simp [Instr.findAsking, at?]
  | [], _ :: _, _, h => by simp at h
  | _ :: _, [], _, h => by simp at h
  | e :: es, p :: l, i, h => by
    simp only [List.map_cons, List.cons.injEq, Prod.mk.injEq] at h
    obtain ⟨⟨h1, h2⟩, h3⟩ := h
    have ih := findAsking_run heq w mv x es l (i + 1) h3
    simp only [Instr.findAsking, Sem.run_bind, h1, heq, Result.andThen_ok, at?]
    by_cases c : x = p.1
    · simp [c, h2]
    · simp [c, ih]

/-- A key type that 'findKey' asks 'equal' of: structs and arrays. -/
theorem Key.asking (hk : match P.underlying k with | some (.struct _) | some (.array _ _) => True | _ => False)
    (heq : ∀ w x y, (Op.equal k (mk x) (mk y)).run P w = .ok (decide (x = y)) w)
    (hagg : ∀ x, ∃ a, mk x = .agg a)
    (hcheck : ∀ (w : World) em x, (Instr.checkKey em 10000 k (mk x)).run P w = .ok () w)
    (hbits : ∀ x, Instr.sameBits 10000 (mk x) (mk x) = true) : Key P k mk where
  check := hcheck
  find w _ mv x es l h := by
    obtain ⟨d, hd⟩ : ∃ d, P.underlying k = some d := by split at hk <;> simp_all
    have hn : ∀ e es, Instr.findNow d (mk x) (e :: es) 0 = none ∨ False := fun e es => by
      left
      obtain ⟨a, ha⟩ := hagg x
      rw [hd] at hk
      cases d <;> simp_all [Instr.findNow, Instr.sameNow]
    simp only [Instr.findKey, Sem.run_bind, run_underlying hd, Result.andThen_ok]
    cases es with
    | nil =>
      cases l with
      | nil => simp [Instr.findNow, at?]
      | cons _ _ => simp at h
    | cons e es =>
      have := hn e es
      simp only [or_false] at this
      rw [this]
      exact findAsking_run heq w mv x _ l 0 h
  stays w x := by simp [Instr.keyThatStays, hbits]

theorem findNow_int (q : IntKind) (x : Int) {ν : Type} (mv : ν → Value) : ∀ (es : List MapEntry) (l : List (Int × ν)) (i : Nat), es.map (fun e => (e.key, e.val)) = l.map (fun p => (Value.int q p.1, mv p.2)) →
    Instr.findNow (.int q) (.int q x) es i = some ((at? l x i).map fun p => (p.1, mv p.2))
  | [], [], i, _ => by simp [Instr.findNow, at?]
  | [], _ :: _, _, h => by simp at h
  | _ :: _, [], _, h => by simp at h
  | e :: es, p :: l, i, h => by
    simp only [List.map_cons, List.cons.injEq, Prod.mk.injEq] at h
    obtain ⟨⟨h1, h2⟩, h3⟩ := h
    have ih := findNow_int q x mv es l (i + 1) h3
    simp only [Instr.findNow, h1, Instr.sameNow, if_true, at?]
    by_cases c : x = p.1
    · simp [c, h2]
    · have : (x == p.1) = false := by simp [c]
      simp [c, this, ih]

theorem Key.int {q : IntKind} (hk : P.underlying k = some (.int q)) : Key P k (fun x : Int => Value.int q x) where
  check w em x := by
    have : ∀ n, (Instr.checkKey em (n + 1) k (.int q x)).run P w = .ok () w := fun n => by simp [Instr.checkKey, run_underlying hk]
    exact this 9999
  find w _ mv x es l h := by
    simp only [Instr.findKey, Sem.run_bind, run_underlying hk, Result.andThen_ok, findNow_int q x mv es l 0 h]
    rfl
  stays w x := by
    have : ∀ n, Instr.sameBits n (.int q x) (.int q x) = true := fun n => by cases n <;> simp [Instr.sameBits]
    simp only [Instr.keyThatStays, this, if_true, Sem.run_pure]

end

/-! ### The map in the world -/

section
variable {P : Program} {k : TypeId} {κ : Type} {mk : κ → Value} {ν : Type} {mv : ν → Value}

/-- Block b is a map that holds l. -/
def Is (mk : κ → Value) (mv : ν → Value) (w : World) (b : Nat) (l : List (κ × ν)) : Prop :=
  ∃ es clock, w.heap[b]? = some (.map es clock) ∧ es.toList.map (fun e => (e.key, e.val)) = l.map (fun p => (mk p.1, mv p.2)) ∧
    (∀ x ∈ es.toList, x.born < clock) ∧ (es.toList.map (·.born)).Nodup ∧ (l.map (·.1)).Nodup

/-- The loop over the map of block b, the iterator in block r: 'left' is still to come. -/
def Rng (mk : κ → Value) (mv : ν → Value) (w : World) (b r : Nat) (l left : List (κ × ν)) : Prop :=
  ∃ es clock since seen c0, w.heap[b]? = some (.map es clock) ∧ es.toList.map (fun e => (e.key, e.val)) = l.map (fun p => (mk p.1, mv p.2)) ∧
    (∀ x ∈ es.toList, x.born < clock) ∧ (es.toList.map (·.born)).Nodup ∧ (l.map (·.1)).Nodup ∧
    w.heap[r]? = some (.mapIter (some b) since seen c0) ∧ (∀ x ∈ es.toList, x.born < since) ∧ since ≤ c0 ∧ since ≤ clock ∧
    (leftOf es seen).toList.map (fun e => (e.key, e.val)) = left.map (fun p => (mk p.1, mv p.2)) ∧ left.Sublist l

theorem Is.nodup {w : World} {b : Nat} {l : List (κ × ν)} (h : Is mk mv w b l) : (l.map (·.1)).Nodup := by
  obtain ⟨_, _, _, _, _, _, h⟩ := h; exact h

theorem Is.lt {w : World} {b : Nat} {l : List (κ × ν)} (h : Is mk mv w b l) : b < w.heap.size := by
  obtain ⟨_, _, h, _⟩ := h; exact (Array.getElem?_eq_some_iff.1 h).1

theorem Is.at {w w' : World} {b : Nat} {l : List (κ × ν)} (h : Is mk mv w b l) (e : w'.heap[b]? = w.heap[b]?) : Is mk mv w' b l := by
  obtain ⟨es, c, h1, h2⟩ := h; exact ⟨es, c, e.trans h1, h2⟩

theorem Is.below {w w' : World} {B b : Nat} {l : List (κ × ν)} (h : Is mk mv w b l) (hb : Below B w w') (hB : b < B) : Is mk mv w' b l := h.at (hb.block b hB)

theorem Is.alloc {w : World} {b : Nat} {l : List (κ × ν)} (h : Is mk mv w b l) (o : Obj) : Is mk mv (w.alloc o) b l := h.at (Below.heap_alloc w o b h.lt)

theorem Is.made (w : World) : Is mk mv (w.alloc (.map #[] 0)) w.heap.size ([] : List (κ × ν)) := ⟨#[], 0, Go.heap_alloc_new _ _, by simp⟩

theorem Rng.lt {w : World} {b r : Nat} {l left : List (κ × ν)} (h : Rng mk mv w b r l left) : b < w.heap.size ∧ r < w.heap.size := by
  obtain ⟨_, _, _, _, _, h, _, _, _, _, h2, _⟩ := h; exact ⟨(Array.getElem?_eq_some_iff.1 h).1, (Array.getElem?_eq_some_iff.1 h2).1⟩

theorem Rng.left_eq {w : World} {b r : Nat} {l left : List (κ × ν)} (h : Rng mk mv w b r l left) : w.rangeLeft b r = left.length := by
  obtain ⟨es, c, s, n, c0, h1, _, _, _, _, h6, _, _, _, h10, _⟩ := h
  have := congrArg List.length h10
  simp only [World.rangeLeft, h1, h6]
  simpa using this

theorem Rng.ne {w : World} {b r : Nat} {l left : List (κ × ν)} (h : Rng mk mv w b r l left) : r ≠ b := by
  obtain ⟨es, c, s, n, c0, h1, _, _, _, _, h6, _⟩ := h
  rintro rfl
  rw [h1] at h6
  cases h6

theorem Rng.is {w : World} {b r : Nat} {l left : List (κ × ν)} (h : Rng mk mv w b r l left) : Is mk mv w b l := by
  obtain ⟨es, c, _, _, _, h1, h2, h3, h4, h5, _⟩ := h; exact ⟨es, c, h1, h2, h3, h4, h5⟩

theorem Rng.sub {w : World} {b r : Nat} {l left : List (κ × ν)} (h : Rng mk mv w b r l left) : left.Sublist l := by
  obtain ⟨_, _, _, _, _, _, _, _, _, _, _, _, _, _, _, h⟩ := h; exact h

theorem Rng.at {w w' : World} {b r : Nat} {l left : List (κ × ν)} (h : Rng mk mv w b r l left) (e : w'.heap[b]? = w.heap[b]?) (e2 : w'.heap[r]? = w.heap[r]?) : Rng mk mv w' b r l left := by
  obtain ⟨es, c, s, n, c0, h1, h2, h3, h4, h5, h6, h7⟩ := h; exact ⟨es, c, s, n, c0, e.trans h1, h2, h3, h4, h5, e2.trans h6, h7⟩

theorem Rng.kept {w w' : World} {row : Option Nat} {b r : Nat} {l left : List (κ × ν)} (h : Rng mk mv w b r l left) (hg : w.grownBy w' row) (hb' : some b ≠ row) (hr' : some r ≠ row) : Rng mk mv w' b r l left :=
  h.at (hg.block b h.lt.1 hb') (hg.block r h.lt.2 hr')

theorem Rng.below {w w' : World} {B b r : Nat} {l left : List (κ × ν)} (h : Rng mk mv w b r l left) (hb : Below B w w') (hB : w.heap.size ≤ B) : Rng mk mv w' b r l left :=
  h.at (hb.block b (Nat.lt_of_lt_of_le h.lt.1 hB)) (hb.block r (Nat.lt_of_lt_of_le h.lt.2 hB))

variable [DecidableEq κ]

theorem Is.look {t e : TypeId} {w : World} {b : Nat} {l : List (κ × ν)} (h : Is mk mv w b l) (K : Key P k mk) (ht : P.underlying t = some (.map k e)) {z : ν} (hz : (zeroValue e).run P w = .ok (mv z) w) (x : κ) (c : Bool) :
    (Instr.lookup t (.map (some b)) (mk x) c).run P w = .ok (if c then .tuple #[mv ((get l x).getD z), .bool (get l x).isSome] else mv ((get l x).getD z)) w := by
  obtain ⟨es, clock, hb, he, _⟩ := h
  have hf := K.find w mv x es.toList l he
  have hg := at?_get l x 0
  cases ha : at? l x 0 with
  | none =>
    rw [ha] at hf hg
    simp [Instr.lookup, run_underlying ht, MapKept.run_getObj_map hb, K.check, hf, hz, ← hg]
  | some p =>
    rw [ha] at hf hg
    simp [Instr.lookup, run_underlying ht, MapKept.run_getObj_map hb, K.check, hf, ← hg]

theorem mods (x : κ) (v : ν) (y : Value) : ∀ (es : List MapEntry) (l : List (κ × ν)) (i : Nat) (p : Nat × ν), es.map (fun e => (e.key, e.val)) = l.map (fun p => (mk p.1, mv p.2)) → at? l x i = some p →
    i ≤ p.1 ∧ p.1 - i < es.length ∧ (es[p.1 - i]?.map (·.key)).getD y = mk x ∧ (es.modify (p.1 - i) fun e => { e with key := mk x, val := mv v }).map (fun e => (e.key, e.val)) = (put l x v).map (fun p => (mk p.1, mv p.2)) ∧
      (es.eraseIdx (p.1 - i)).map (fun e => (e.key, e.val)) = (del l x).map (fun p => (mk p.1, mv p.2))
  | [], [], i, p, _, h => by simp [at?] at h
  | [], _ :: _, _, _, h, _ => by simp at h
  | _ :: _, [], _, _, h, _ => by simp at h
  | e :: es, q :: l, i, p, h, ha => by
    simp only [List.map_cons, List.cons.injEq, Prod.mk.injEq] at h
    obtain ⟨⟨h1, h2⟩, h3⟩ := h
    simp only [at?] at ha
    by_cases c : x = q.1
    · rw [if_pos c] at ha
      cases ha
      simp [put, del, c, h1, h3]
    · rw [if_neg c] at ha
      obtain ⟨r1, r2, r3, r4, r5⟩ := mods x v y es l (i + 1) p h3 ha
      have e1 : p.1 - i = (p.1 - (i + 1)) + 1 := by omega
      refine ⟨by omega, by simp; omega, ?_, ?_, ?_⟩
      · rw [e1]; simpa using r3
      · rw [e1]; simp [put, c, h1, h2]; simpa using r4
      · rw [e1]; simp [del, c, h1, h2]; simpa using r5

theorem put_none {l : List (κ × ν)} {x : κ} {v : ν} (h : get l x = none) : put l x v = l ++ [(x, v)] := by
  induction l with
  | nil => rfl
  | cons p l ih =>
    simp only [get] at h
    split at h
    · cases h
    · rename_i c; simp only [put, if_neg c, ih h, List.cons_append]

theorem del_none {l : List (κ × ν)} {x : κ} (h : get l x = none) : del l x = l := by
  induction l with
  | nil => rfl
  | cons p l ih =>
    simp only [get] at h
    split at h
    · cases h
    · rename_i c; simp only [del, if_neg c, ih h]

theorem Is.store {t e : TypeId} {w : World} {b : Nat} {l : List (κ × ν)} (h : Is mk mv w b l) (K : Key P k mk) (ht : P.underlying t = some (.map k e)) (x : κ) (v : ν) :
    ∃ w', (Instr.mapUpdate t (.map (some b)) (mk x) (mv v)).run P w = .ok () w' ∧ Is mk mv w' b (put l x v) ∧ w.mapTurned w' b := by
  obtain ⟨es, clock, hb, he, hc, hn, hk⟩ := h
  have hf := K.find w mv x es.toList l he
  have hg := at?_get l x 0
  cases ha : at? l x 0 with
  | none =>
    rw [ha] at hf hg
    refine ⟨setBlock w b (.map (es.push { key := mk x, val := mv v, born := clock }) (clock + 1)), ?_, ⟨_, _, heap_setBlock_same hb _, ?_, ?_, ?_, nodup_put hk x v⟩, ⟨es, clock, _, _, hb, rfl⟩⟩
    · simp [Instr.mapUpdate, run_underlying ht, MapKept.run_getObj_map hb, K.check, hf, MapKept.run_setObj_map _ hb, setBlock]
    · rw [put_none hg.symm]; simp [he]
    · intro y hy; simp at hy; rcases hy with hy | rfl
      · have := hc y (by simpa using hy); omega
      · simp
    · simp only [Array.toList_push, List.map_append, List.map_cons, List.map_nil, List.nodup_append]
      refine ⟨hn, by simp, ?_⟩
      intro a ha2 b' hb2
      simp at hb2; subst hb2
      obtain ⟨y, hy, rfl⟩ := List.mem_map.1 ha2
      have := hc y hy; omega
  | some p =>
    rw [ha] at hf hg
    obtain ⟨r1, r2, r3, r4, r5⟩ := mods x v (mk x) es.toList l 0 p he ha
    simp only [Nat.sub_zero] at r2 r3 r4 r5
    have hm : (es.modify p.1 fun e => { e with key := mk x, val := mv v }).toList = es.toList.modify p.1 fun e => { e with key := mk x, val := mv v } := by simp
    have hborn : (es.toList.modify p.1 fun e => { e with key := mk x, val := mv v }).map (·.born) = es.toList.map (·.born) := by
      apply List.ext_getElem
      · simp
      · intro i h1 h2
        simp [List.getElem_modify]; split <;> rfl
    refine ⟨setBlock w b (.map (es.modify p.1 fun e => { e with key := mk x, val := mv v }) clock), ?_, ⟨_, _, heap_setBlock_same hb _, ?_, ?_, ?_, nodup_put hk x v⟩, ⟨es, clock, _, _, hb, rfl⟩⟩
    · have r3' : (es[p.1]?.map (·.key)).getD (mk x) = mk x := by simpa using r3
      simp [Instr.mapUpdate, run_underlying ht, MapKept.run_getObj_map hb, K.check, hf, r3', K.stays, MapKept.run_setObj_map _ hb, setBlock]
    · rw [hm]; exact r4
    · rw [hm]; intro y hy
      have : y.born ∈ es.toList.map (·.born) := hborn ▸ List.mem_map.2 ⟨y, hy, rfl⟩
      obtain ⟨z, hz, e⟩ := List.mem_map.1 this
      rw [← e]; exact hc z hz
    · rw [hm, hborn]; exact hn

theorem Is.drop {t e ty : TypeId} {w : World} {b : Nat} {l : List (κ × ν)} (h : Is mk mv w b l) (K : Key P k mk) (ht : P.underlying t = some (.map k e)) (x : κ) :
    ∃ w', (Builtin.delete_ #[t, k] ty #[.map (some b), mk x]).run P w = .ok (.tuple #[]) w' ∧ Is mk mv w' b (del l x) ∧ w.mapTurned w' b := by
  obtain ⟨es, clock, hb, he, hc, hn, hk⟩ := h
  have hf := K.find w mv x es.toList l he
  have hg := at?_get l x 0
  cases ha : at? l x 0 with
  | none =>
    rw [ha] at hf hg
    refine ⟨setBlock w b (.map es clock), ?_, ⟨_, _, heap_setBlock_same hb _, ?_, hc, hn, nodup_del hk x⟩, ⟨es, clock, _, _, hb, rfl⟩⟩
    · simp [Builtin.delete_, run_underlying ht, MapKept.run_getObj_map hb, K.check, hf, MapKept.run_setObj_map _ hb, setBlock]
    · rw [del_none hg.symm]; exact he
  | some p =>
    rw [ha] at hf hg
    obtain ⟨r1, r2, r3, r4, r5⟩ := mods x p.2 (mk x) es.toList l 0 p he ha
    simp only [Nat.sub_zero] at r2 r3 r4 r5
    have hm : (es.eraseIdxIfInBounds p.1).toList = es.toList.eraseIdx p.1 := by
      unfold Array.eraseIdxIfInBounds
      rw [dif_pos (by simpa using r2)]
      simp
    refine ⟨setBlock w b (.map (es.eraseIdxIfInBounds p.1) clock), ?_, ⟨_, _, heap_setBlock_same hb _, ?_, ?_, ?_, nodup_del hk x⟩, ⟨es, clock, _, _, hb, rfl⟩⟩
    · simp [Builtin.delete_, run_underlying ht, MapKept.run_getObj_map hb, K.check, hf, MapKept.run_setObj_map _ hb, setBlock]
    · rw [hm]; exact r5
    · rw [hm]; exact fun y hy => hc y ((List.eraseIdx_sublist _ _).subset hy)
    · rw [hm]; exact hn.sublist ((List.eraseIdx_sublist _ _).map _)

omit [DecidableEq κ] in
theorem Is.range {t e : TypeId} {w : World} {b : Nat} {l : List (κ × ν)} (h : Is mk mv w b l) (ht : P.underlying t = some (.map k e)) :
    ∃ w', (Instr.range t (.map (some b))).run P w = .ok (.pointer (some ⟨w.heap.size, 0, none⟩)) w' ∧ Rng mk mv w' b w.heap.size l l ∧ w.grownBy w' none ∧ w'.heap.size = w.heap.size + 1 := by
  have hlt := h.lt
  obtain ⟨es, clock, hb, he, hc, hn, hk⟩ := h
  refine ⟨_, run_range_map w t k e b es clock ht hb, ⟨es, clock, clock, #[], clock, (Below.heap_alloc w _ b hlt).trans hb, he, hc, hn, hk, (MapKept.heap_alloc w _).1, hc, Nat.le_refl _, Nat.le_refl _, ?_, List.Sublist.refl _⟩, World.grownBy_alloc w _ none, by simp⟩
  have : leftOf es #[] = es := Array.filter_eq_self.2 (fun x _ => by simp)
  rw [this]; exact he

omit [DecidableEq κ] in
theorem left_seen (seen : Array Nat) (e0 : MapEntry) : ∀ (es : List MapEntry), (es.map (·.born)).Nodup → e0 ∈ es → seen.contains e0.born = false →
    ∃ a z, es.filter (fun e => !seen.contains e.born) = a ++ e0 :: z ∧ es.filter (fun e => !(seen.push e0.born).contains e.born) = a ++ z := by
  intro es hn he hs
  have e1 : es.filter (fun e => !(seen.push e0.born).contains e.born) = (es.filter (fun e => !seen.contains e.born)).filter (fun e => e.born != e0.born) := by
    rw [List.filter_filter]
    congr 1
    funext e
    rw [contains_push]
    cases seen.contains e.born <;> cases h : (e.born == e0.born) <;> simp [bne, h]
  have hmem : e0 ∈ es.filter (fun e => !seen.contains e.born) := List.mem_filter.2 ⟨he, by simp only [hs, Bool.not_false]⟩
  have hn2 : ((es.filter (fun e => !seen.contains e.born)).map (·.born)).Nodup := hn.sublist (List.filter_sublist.map _)
  obtain ⟨a, z, haz⟩ := List.append_of_mem hmem
  refine ⟨a, z, haz, ?_⟩
  rw [e1, haz] 
  rw [haz] at hn2
  simp only [List.map_append, List.map_cons, List.nodup_append, List.nodup_cons] at hn2
  obtain ⟨h1, ⟨h2, h3⟩, h4⟩ := hn2
  rw [List.filter_append, List.filter_cons]
  simp only [bne_self_eq_false, Bool.false_eq_true, if_false]
  rw [List.filter_eq_self.2, List.filter_eq_self.2]
  · intro x hx
    simp only [bne_iff_ne, ne_eq]
    exact fun e => h2 (e ▸ List.mem_map.2 ⟨x, hx, rfl⟩)
  · intro x hx
    simp only [bne_iff_ne, ne_eq]
    exact h4 _ (List.mem_map.2 ⟨x, hx, rfl⟩) _ (by simp)

omit [DecidableEq κ] in
theorem Rng.next {w : World} {b r : Nat} {l left : List (κ × ν)} (h : Rng mk mv w b r l left) (ty : TypeId) :
    (left = [] ∧ (Instr.next (.pointer (some ⟨r, 0, none⟩)) false ty).run P w = .ok (.tuple #[.bool false]) w) ∨
    ∃ x v a z w', left = a ++ (x, v) :: z ∧ (Instr.next (.pointer (some ⟨r, 0, none⟩)) false ty).run P w = .ok (.tuple #[.bool true, mk x, mv v]) w' ∧
      Rng mk mv w' b r l (a ++ z) ∧ w.grownBy w' (some r) ∧ w'.heap.size = w.heap.size ∧ ∀ (P' : Program) (w2 : World), w2.heap[b]? = w'.heap[b]? → w2.heap[r]? = w'.heap[r]? → (Instr.entry (.pointer (some ⟨r, 0, none⟩))).run P' w2 = .ok (.tuple #[mk x, mv v]) w2 := by
  obtain ⟨es, clock, since, seen, c0, hb, he, hc, hn, hk, hr, hold, hsc, hsk, hl, hsub⟩ := h
  have hne : r ≠ b := by rintro rfl; rw [hb] at hr; cases hr
  rcases run_next_at (P := P) w ty r b since c0 seen es clock hr hb hold hsc with ⟨h0, hrun⟩ | ⟨e0, he0, w1, hal, hrun⟩
  · refine Or.inl ⟨?_, hrun⟩
    have : (leftOf es seen).toList = [] := by
      have : (leftOf es seen).toList.length = 0 := by simpa using h0
      exact List.eq_nil_of_length_eq_zero this
    rw [this] at hl
    simpa using hl.symm
  · obtain ⟨hem, hes⟩ := mem_left he0
    have hL : ∀ s : Array Nat, (leftOf es s).toList = es.toList.filter (fun e => !s.contains e.born) := fun s => by unfold leftOf; rw [Array.toList_filter]
    obtain ⟨a, z, h1, h2⟩ := left_seen seen e0 es.toList hn hem hes
    rw [hL, h1] at hl
    simp only [List.map_append, List.map_cons] at hl
    obtain ⟨a', z0, rfl, ha', hz0⟩ := List.map_eq_append_iff.1 hl.symm
    obtain ⟨p, z', rfl, hp, hz'⟩ := List.map_eq_cons_iff.1 hz0
    simp only [Prod.mk.injEq] at hp
    have hr1 : w1.heap[r]? = some (.mapIter (some b) since seen c0) := by rcases hal with rfl | rfl <;> exact hr
    have hb1 : w1.heap[b]? = some (.map es clock) := by rcases hal with rfl | rfl <;> exact hb
    have hset := heap_set (o' := .mapIter (some b) since (seen.push e0.born) clock) hr1
    have hb' : (setBlock w1 r (.mapIter (some b) since (seen.push e0.born) clock)).heap[b]? = some (.map es clock) := (hset.2 b (fun e => hne e.symm)).trans hb1
    refine Or.inr ⟨p.1, p.2, a', z', _, rfl, by rw [hp.1, hp.2]; exact hrun, ⟨es, clock, since, seen.push e0.born, clock, hb', he, hc, hn, hk, hset.1, hold, hsk, hsk, ?_, ?_⟩, ?_, ?_, fun P' w2 g1 g2 => by rw [hp.1, hp.2]; exact run_entry_at _ r b since seen es clock e0 (g2.trans hset.1) (g1.trans hb') hem hn⟩
    · rw [hL, h2]; simp [ha', hz']
    · exact (List.Sublist.append_left (List.sublist_cons_self _ _) _).trans hsub
    · rcases hal with rfl | rfl <;> exact ⟨rfl, rfl, rfl, by simp [setBlock], fun i _ hi => hset.2 i (fun e1 => hi (by rw [e1]))⟩
    · rcases hal with rfl | rfl <;> simp [setBlock]

omit [DecidableEq κ] in
theorem Is.len {t e : TypeId} {w : World} {b : Nat} {l : List (κ × ν)} (h : Is mk mv w b l) (ht : P.underlying t = some (.map k e)) (ty : TypeId) :
    (Builtin.len_ #[t] ty #[.map (some b)]).run P w = .ok (.int .i64 l.length) w := by
  obtain ⟨es, clock, hb, he, _⟩ := h
  have : es.size = l.length := by have := congrArg List.length he; simpa using this
  simp [Builtin.len_, run_underlying ht, MapKept.run_getObj_map hb, this, goInt, Result.andThen]

end

section
variable {P : Program} {k : TypeId} {κ : Type} {mk : κ → Value} {ν : Type} {mv : ν → Value} (w : World) {ops : Array Oper} {rest : List Oper} {o : Oper} {a : Act} {Q : Exit → Act → World → Prop}

theorem wp_range (hg : o.guard = none) (m : Operand) (t : TypeId) (hop : o.op = Op.range t m) (e : TypeId) (ht : P.underlying t = some (.map k e)) (b : Nat) (l : List (κ × ν))
    (hm : a.eval m = .map (some b)) (h : Is mk mv w b l)
    (hK : ∀ w', Rng mk mv w' b w.heap.size l l → w.grownBy w' none → w'.heap.size = w.heap.size + 1 → wpList P ops Q rest (a.put o.dst (.pointer (some ⟨w.heap.size, 0, none⟩))) w') :
    wpList P ops Q (o :: rest) a w := by
  refine wpList_plain hg fun K' hK' => ?_
  obtain ⟨w', hrun, r1, r2, r3⟩ := h.range ht
  unfold Oper.wp
  simp [execOp, hop, hm, hrun, Result.andThen]
  exact hK' _ _ (hK w' r1 r2 r3)

theorem wp_next (hg : o.guard = none) (it : Operand) (hop : o.op = Op.next it false) (b r : Nat) (l left : List (κ × ν)) (hit : a.eval it = .pointer (some ⟨r, 0, none⟩)) (h : Rng mk mv w b r l left)
    (hDone : left = [] → wpList P ops Q rest (a.put o.dst (.tuple #[.bool false])) w)
    (hMore : ∀ (x : κ) (v : ν) (y z : List (κ × ν)) (w' : World), left = y ++ (x, v) :: z → Rng mk mv w' b r l (y ++ z) → w.grownBy w' (some r) → w'.heap.size = w.heap.size →
      (Instr.entry (.pointer (some ⟨r, 0, none⟩))).run P w' = .ok (.tuple #[mk x, mv v]) w' → wpList P ops Q rest (a.put o.dst (.tuple #[.bool true, mk x, mv v])) w') :
    wpList P ops Q (o :: rest) a w := by
  refine wpList_plain hg fun K' hK' => ?_
  unfold Oper.wp
  rcases h.next (P := P) o.type with ⟨h0, hrun⟩ | ⟨x, v, y, z, w', h0, hrun, r1, r2, r3, r4⟩
  · simp [execOp, hop, hit, hrun, Result.andThen]
    exact hK' _ _ (hDone h0)
  · simp [execOp, hop, hit, hrun, Result.andThen]
    exact hK' _ _ (hMore x v y z w' h0 r1 r2 r3 (r4 P w' rfl rfl))

variable [DecidableEq κ]

theorem wp_look (hg : o.guard = none) (m x : Operand) (t : TypeId) (c : Bool) (hop : o.op = Op.lookup t m x c) (e : TypeId) (K : Key P k mk) (ht : P.underlying t = some (.map k e)) (z : ν)
    (hz : (zeroValue e).run P w = .ok (mv z) w) (b : Nat) (l : List (κ × ν)) (hm : a.eval m = .map (some b)) (h : Is mk mv w b l) (key : κ) (hx : a.eval x = mk key)
    (hK : wpList P ops Q rest (a.put o.dst (if c then .tuple #[mv ((get l key).getD z), .bool (get l key).isSome] else mv ((get l key).getD z))) w) :
    wpList P ops Q (o :: rest) a w := by
  refine wpList_plain hg fun K' hK' => ?_
  have hrun := h.look K ht hz key c
  unfold Oper.wp
  simp [execOp, hop, hm, hx, hrun, Result.andThen]
  cases c <;> exact hK' _ _ hK

theorem wp_store (hg : o.guard = none) (m x v : Operand) (t : TypeId) (hop : o.op = Op.mapUpdate t m x v) (e : TypeId) (K : Key P k mk) (ht : P.underlying t = some (.map k e))
    (b : Nat) (l : List (κ × ν)) (hm : a.eval m = .map (some b)) (h : Is mk mv w b l) (key : κ) (hx : a.eval x = mk key) (val : ν) (hv : a.eval v = mv val)
    (hK : ∀ w', Is mk mv w' b (put l key val) → w.mapTurned w' b → wpList P ops Q rest (a.put o.dst undef) w') :
    wpList P ops Q (o :: rest) a w := by
  refine wpList_plain hg fun K' hK' => ?_
  obtain ⟨w', hrun, r1, r2⟩ := h.store K ht key val
  unfold Oper.wp
  simp [execOp, hop, hm, hx, hv, hrun, Result.andThen]
  exact hK' _ _ (hK w' r1 r2)

theorem wp_drop (hg : o.guard = none) (m x : Operand) (t k' : TypeId) (hop : o.op = Op.call { callee := Callee.builtin Builtin.delete, args := #[m, x], argTypes := #[t, k'] }) (hk' : k' = k) (e : TypeId) (K : Key P k mk) (ht : P.underlying t = some (.map k e))
    (b : Nat) (l : List (κ × ν)) (hm : a.eval m = .map (some b)) (h : Is mk mv w b l) (key : κ) (hx : a.eval x = mk key)
    (hK : ∀ w', Is mk mv w' b (del l key) → w.mapTurned w' b → wpList P ops Q rest (a.put o.dst (.tuple #[])) w') :
    wpList P ops Q (o :: rest) a w := by
  subst hk'
  refine wpList_plain hg fun K' hK' => ?_
  obtain ⟨w', hrun, r1, r2⟩ := h.drop (ty := o.type) K ht key
  unfold Oper.wp
  simp [execOp, hop, resolve, invoke, builtin, hm, hx, hrun, Result.andThen]
  exact hK' _ _ (hK w' r1 r2)

omit [DecidableEq κ] in
theorem wp_len (hg : o.guard = none) (m : Operand) (t : TypeId) (hop : o.op = Op.call { callee := Callee.builtin Builtin.len, args := #[m], argTypes := #[t] }) (e : TypeId) (ht : P.underlying t = some (.map k e))
    (b : Nat) (l : List (κ × ν)) (hm : a.eval m = .map (some b)) (h : Is mk mv w b l)
    (hK : wpList P ops Q rest (a.put o.dst (.int .i64 l.length)) w) :
    wpList P ops Q (o :: rest) a w := by
  refine wpList_plain hg fun K' hK' => ?_
  have hrun := h.len ht o.type
  unfold Oper.wp
  simp [execOp, hop, resolve, invoke, builtin, hm, hrun, Result.andThen]
  exact hK' _ _ hK

end

end Go.Proofs.Ytdkbmefidmljjaa.Mp
