/- Texts of the proof, one behind the other: Open, Maps. Conditions: each lemma's own. -/
import Derived.Deep.Slices
import Derived.ChangeSame
import Derived.ChangeOld
import Derived.WideShapes
import Derived.Carry
import Derived.Below
import Derived.Maps.RangeWalk
import Derived.Maps.OwnOps
namespace Go.Proofs.YtnpnjhopgedhkaaGreat.Flat
open Go.ChangeShapes Go.WideShapes Go.Deep Go.RowKit
def leafInt (P : Program) : Nat → TypeId → Bool
 | 0, _ => false
 | m + 1, t => match P.underlying t with
  | some (.int .i64) => true
  | some (.struct fs) => fs.all (fun f => leafInt P m f.type) && (List.range (P.cellsOf t)).all fun i => fs.any fun f => decide (f.offset ≤ i) && decide (i < f.offset + P.cellsOf f.type)
  | some (.array n e) => leafInt P m e && decide (P.cellsOf t = n * P.cellsOf e) && decide (0 < P.cellsOf e)
  | _ => false
section
variable {H : Type} {enc : TypeId × Value → H} {P : Program} {w : World} {base : Nat} {spare : Nat → Bool} {held : Bool}
theorem mapM_get {α β : Type} {f : α → Option β} : ∀ {l : List α} {r : List β}, l.mapM f = some r → ∀ i (h : i < l.length), f l[i] = r[i]?
 | [], _, _, i, h => absurd h (by simp)
 | a :: l, r, h, i, hi => by
  simp only [List.mapM_cons, bind, Option.bind_eq_some_iff, pure, Option.some.injEq] at h
  obtain ⟨b, hb, bs, hbs, rfl⟩ := h
  cases i with
  | zero => simpa using hb
  | succ i => simpa using mapM_get hbs i (by simpa using hi)
theorem flat_trod : ∀ (m : Nat) (t : TypeId), leafInt P m t = true → ∀ (fuel : Nat) (cs : List Value) (x : DataW H × List MemPlace), DataW.trod enc P w base spare held fuel t cs = some x →
  ∀ c ∈ cs, ∃ z, c = .int .i64 z ∧ (Lit.int .i64 z).wf = true
 | 0, _, h => by simp [leafInt] at h
 | m + 1, t, h => by
  intro fuel cs x hx c hc
  unfold leafInt at h
  split at h
  ·rename_i hu
   obtain ⟨n, rfl, _, hw⟩ := DataW.trod_int hu hx
   simp at hc
   exact ⟨n, hc, hw⟩
  ·rename_i fs hu
   simp only [Bool.and_eq_true, Array.all_eq_true, List.all_eq_true, List.mem_range, Array.any_eq_true, decide_eq_true_eq] at h
   obtain ⟨hall, hcov⟩ := h
   obtain ⟨xs, n, _, _, hlen, hxl, hf⟩ := DataW.trod_struct hu hx
   obtain ⟨i, hi, rfl⟩ := List.getElem_of_mem hc
   obtain ⟨j, hj, h1, h2⟩ := hcov i (by omega)
   have hfj := hf j fs[j] (by simp [hj])
   have hxj : xs[j]? = some (xs[j]'(by omega)) := List.getElem?_eq_getElem (by omega)
   rw [hxj] at hfj
   refine flat_trod m _ (hall j hj) n _ _ hfj _ ?_
   rw [List.mem_iff_getElem?]
   refine ⟨i - fs[j].offset, ?_⟩
   rw [List.getElem?_take, if_pos (by omega), List.getElem?_drop, show fs[j].offset + (i - fs[j].offset) = i by omega]
   exact List.getElem?_eq_getElem hi
  ·rename_i n e hu
   simp only [Bool.and_eq_true, decide_eq_true_eq] at h
   obtain ⟨⟨he, hce⟩, hpos⟩ := h
   cases fuel with
   | zero => simp [DataW.trod] at hx
   | succ fuel =>
    unfold DataW.trod at hx
    simp only [hu] at hx
    split at hx
    case isFalse => simp at hx
    rename_i hl
    simp only [Option.map_eq_some_iff] at hx
    obtain ⟨xs, hp, _⟩ := hx
    obtain ⟨i, hi, rfl⟩ := List.getElem_of_mem hc
    have hi' : i / P.cellsOf e < n := by
     rw [Nat.div_lt_iff_lt_mul hpos]; omega
    have hg := mapM_get hp (i / P.cellsOf e) (by simpa using hi')
    have hxl := mapM_some_length hp
    simp only [List.length_range] at hxl
    have hxj : xs[i / P.cellsOf e]? = some (xs[i / P.cellsOf e]'(by omega)) := List.getElem?_eq_getElem (by omega)
    rw [hxj] at hg
    simp only [List.getElem_range] at hg
    refine flat_trod m e he fuel _ _ hg _ ?_
    rw [List.mem_iff_getElem?]
    have hm := Nat.div_add_mod i (P.cellsOf e)
    rw [Nat.mul_comm] at hm
    have hlt := Nat.mod_lt i hpos
    refine ⟨i % P.cellsOf e, ?_⟩
    rw [List.getElem?_take, if_pos hlt, List.getElem?_drop, hm]
    exact List.getElem?_eq_getElem hi
  ·simp at h
theorem open_flat {m : Nat} {t : TypeId} {fs : Array Field} {r : Reach} {b0 : Nat} {v : Value} {d : DataW H} {p : List MemPlace} (hs : P.underlying t = some (.struct fs)) (hm : leafInt P m t = true)
  (hv : Value.okWide P w r b0 t v) (h : DataW.Trod enc P w base spare held t v d p) :
  ∃ zs : List Int, v = .agg (zs.map (Value.int .i64)).toArray ∧ zs.length = P.cellsOf t ∧ ∀ z ∈ zs, (Lit.int .i64 z).wf = true := by
 obtain ⟨cs, rfl, hsz⟩ := okWide_struct hs hv
 obtain ⟨fuel, hf⟩ := h
 have hall := flat_trod m t hm fuel _ _ hf
 have key : ∀ l : List Value, (∀ c ∈ l, ∃ z, c = .int .i64 z ∧ (Lit.int .i64 z).wf = true) → ∃ zs : List Int, l = zs.map (Value.int .i64) ∧ ∀ z ∈ zs, (Lit.int .i64 z).wf = true := by
  intro l
  induction l with
  | nil => exact fun _ => ⟨[], rfl, by simp⟩
  | cons c l ih =>
   intro hl
   obtain ⟨z, rfl, hz⟩ := hl c (by simp)
   obtain ⟨zs, rfl, hzs⟩ := ih (fun c hc => hl c (by simp [hc]))
   exact ⟨z :: zs, rfl, by simpa using ⟨hz, hzs⟩⟩
 obtain ⟨zs, hz, hw⟩ := key cs.toList (by simpa [Value.cells] using hall)
 refine ⟨zs, ?_, ?_, hw⟩
 ·rw [← hz]
 ·rw [← hsz]
  have := congrArg List.length hz
  simpa using this.symm
theorem uncons {n : Nat} {l : List Int} (h : l.length = n + 1) : ∃ x r, l = x :: r ∧ r.length = n := by
 cases l with
 | nil => simp at h
 | cons x r => exact ⟨x, r, rfl, by simpa using h⟩
theorem unnil {l : List Int} (h : l.length = 0) : l = [] := List.length_eq_zero_iff.1 h
def IsFlat (k : Nat) (w : World) (a : Option Addr) (len cap : Nat) (zs : List Int) : Prop :=
 (a = none ∧ len = 0 ∧ cap = 0 ∧ zs = []) ∨
 ∃ x, a = some x ∧ len ≤ cap ∧ cap ≤ maxLen ∧ zs.length = len * k ∧ (∀ i, i < zs.length → w.cell? (x.add i) = some (.int .i64 (zs.getD i 0))) ∧ ∀ n ∈ zs, (Lit.int .i64 n).wf = true
theorem cellsAt {k : Nat} {w : World} {a : Option Addr} {len cap : Nat} {zs : List Int} (h : IsFlat k w a len cap zs) (hpos : 0 < len * k) :
  ∃ b o, a = some ⟨b, o, none⟩ ∧ b < w.heap.size ∧ ∀ wr, Below w.heap.size w wr → ∀ i, i < len * k → wr.cell? ⟨b, o + i, none⟩ = some (.int .i64 (zs.getD i 0)) ∧ (Lit.int .i64 (zs.getD i 0)).wf = true := by
 rcases h with ⟨_, rfl, _⟩ | ⟨x, rfl, _, _, hzl, hcell, hw⟩
 ·simp at hpos
 ·have h0 := hcell 0 (by omega)
  obtain ⟨b, o, sp⟩ := x
  have hb : b < w.heap.size ∧ sp = none := by
   unfold World.cell? at h0
   simp only [Addr.add] at h0
   split at h0
   ·rename_i hblk
    refine ⟨(Array.getElem?_eq_some_iff.1 hblk).1, ?_⟩
    cases sp with
    | none => rfl
    | some s => simp at h0
   ·simp at h0
  obtain ⟨hb, rfl⟩ := hb
  refine ⟨b, o, rfl, hb, fun wr hB i hi => ⟨?_, ?_⟩⟩
  ·rw [hB.cell (p := ⟨b, o + i, none⟩) hb]
   have hci := hcell i (by omega)
   unfold Addr.add at hci
   split at hci
   ·rename_i h0; subst h0; exact hci
   ·exact hci
  ·refine hw _ ?_
   rw [List.getD_eq_getElem?_getD, List.getElem?_eq_getElem (by omega)]
   exact List.getElem_mem _
theorem open_rows {m : Nat} {t e : TypeId} {fuel : Nat} {cs : List Value} {x : DataW H × List MemPlace} (ht : P.underlying t = some (.slice e)) (he : leafInt P m e = true) (hk : 0 < P.cellsOf e)
  (h : DataW.trod enc P w base spare held fuel t cs = some x) :
  ∃ a len cap zs, cs = [.slice a len cap] ∧ IsFlat (P.cellsOf e) w a len cap zs := by
 rcases open_slice ht h with ⟨rfl, _⟩ | ⟨a, len, cap, mm, n, D, Pl, hcs, hb, hl, hm, hmm, hx, hi⟩
 ·exact ⟨none, 0, 0, [], rfl, .inl ⟨rfl, rfl, rfl, rfl⟩⟩
 ·have hmm' : len ≤ mm := by rw [hmm]; split <;> omega
  have hcell : ∀ i, i < len * P.cellsOf e → ∃ z, w.cell? (a.add i) = some (.int .i64 z) ∧ (Lit.int .i64 z).wf = true := by
   intro i hlt
   have hq : i / P.cellsOf e < len := by rw [Nat.div_lt_iff_lt_mul hk]; omega
   obtain ⟨cs', hc, htr⟩ := hi (i / P.cellsOf e) (by omega)
   obtain ⟨_, hcl, hat⟩ := World.cells?_some hc
   have hr := Nat.mod_lt i hk
   have hm := Nat.div_add_mod i (P.cellsOf e)
   rw [Nat.mul_comm] at hm
   have h1 := hat (i % P.cellsOf e) hr
   rw [Go.Deep.add_add, hm] at h1
   have h2 : cs'[i % P.cellsOf e]? = some (cs'[i % P.cellsOf e]'(by omega)) := List.getElem?_eq_getElem (by omega)
   obtain ⟨z, hz, hw⟩ := flat_trod m e he _ _ _ htr (cs'[i % P.cellsOf e]'(by omega)) (List.getElem_mem _)
   exact ⟨z, by rw [h1, h2, hz], hw⟩
  have hex : ∃ zs : List Int, zs.length = len * P.cellsOf e ∧ (∀ i, i < zs.length → w.cell? (a.add i) = some (.int .i64 (zs.getD i 0))) ∧ ∀ n ∈ zs, (Lit.int .i64 n).wf = true := by
   generalize len * P.cellsOf e = N at hcell
   clear hx hi hmm hmm'
   induction N with
   | zero => exact ⟨[], rfl, by simp, by simp⟩
   | succ N ih =>
    obtain ⟨zs, hl, hc, hw⟩ := ih (fun i hi => hcell i (by omega))
    obtain ⟨z, hz, hzw⟩ := hcell N (by omega)
    refine ⟨zs ++ [z], by simp [hl], fun i hi => ?_, ?_⟩
    ·simp at hi
     by_cases hiN : i < zs.length
     ·rw [hc i hiN]; simp [List.getD, List.getElem?_append_left hiN]
     ·have : i = zs.length := by omega
      subst this
      rw [hl, hz]
      simp [List.getD, ← hl]
    ·intro n hn
     simp at hn
     rcases hn with hn | rfl
     ·exact hw n hn
     ·exact hzw
  obtain ⟨zs, hzl, hzc, hzw⟩ := hex
  exact ⟨some a, len, cap, zs, hcs, .inr ⟨a, rfl, hl, hm, hzl, hzc, hzw⟩⟩
end
end Go.Proofs.YtnpnjhopgedhkaaGreat.Flat
namespace Go.Proofs.YtnpnjhopgedhkaaGreat.Mp
open Go.RowKit Go.ChangeMaps Go.MapKept
def at? {κ ν : Type} [DecidableEq κ] : List (κ × ν) → κ → Nat → Option (Nat × ν)
 | [], _, _ => none
 | p :: l, x, i => if x = p.1 then some (i, p.2) else at? l x (i + 1)
def get {κ ν : Type} [DecidableEq κ] : List (κ × ν) → κ → Option ν
 | [], _ => none
 | p :: l, x => if x = p.1 then some p.2 else get l x
def put {κ ν : Type} [DecidableEq κ] : List (κ × ν) → κ → ν → List (κ × ν)
 | [], x, v => [(x, v)]
 | p :: l, x, v => if x = p.1 then (x, v) :: l else p :: put l x v
def del {κ ν : Type} [DecidableEq κ] : List (κ × ν) → κ → List (κ × ν)
 | [], _ => []
 | p :: l, x => if x = p.1 then l else p :: del l x
section
variable {κ ν : Type} [DecidableEq κ]
theorem at?_get (l : List (κ × ν)) (x : κ) : ∀ i, (at? l x i).map (·.2) = get l x := by
 induction l with
 | nil => intro i; rfl
 | cons p l ih => intro i; simp only [at?, get]; split <;> simp [ih]
theorem get_none {l : List (κ × ν)} {x : κ} : get l x = none ↔ ∀ p ∈ l, p.1 ≠ x := by
 induction l with
 | nil => simp [get]
 | cons p l ih =>
  simp only [get]
  split
  ·rename_i h; simp [h]
  ·rename_i h; rw [ih]; simp; exact fun _ e => h e.symm
theorem get_mem {l : List (κ × ν)} {x : κ} {v : ν} (h : get l x = some v) : (x, v) ∈ l := by
 induction l with
 | nil => simp [get] at h
 | cons p l ih =>
  simp only [get] at h
  split at h
  ·rename_i e; cases h; subst e; simp
  ·exact List.mem_cons_of_mem _ (ih h)
theorem mem_get {l : List (κ × ν)} (hn : (l.map (·.1)).Nodup) {x : κ} {v : ν} (h : (x, v) ∈ l) : get l x = some v := by
 induction l with
 | nil => simp at h
 | cons p l ih =>
  simp only [List.map_cons, List.nodup_cons] at hn
  simp only [get]
  rcases List.mem_cons.1 h with rfl | h
  ·simp
  ·rw [if_neg, ih hn.2 h]
   intro e; exact hn.1 (e ▸ List.mem_map.2 ⟨_, h, rfl⟩)
theorem get_put (l : List (κ × ν)) (x y : κ) (v : ν) : get (put l x v) y = if y = x then some v else get l y := by
 induction l with
 | nil => simp [put, get]
 | cons p l ih =>
  simp only [put]
  split
  ·rename_i e; subst e; simp only [get]; split <;> simp_all
  ·rename_i e; simp only [get, ih]; split
   ·rename_i e2; subst e2; rw [if_neg (fun h => e h.symm)]
   ·rfl
theorem keys_put (l : List (κ × ν)) (x : κ) (v : ν) : ∀ y, y ∈ (put l x v).map (·.1) ↔ y = x ∨ y ∈ l.map (·.1) := by
 intro y
 induction l with
 | nil => simp [put]
 | cons p l ih =>
  simp only [put]
  split
  ·rename_i e; subst e; simp
  ·simp only [List.map_cons, List.mem_cons, ih]; exact or_left_comm
theorem nodup_put {l : List (κ × ν)} (hn : (l.map (·.1)).Nodup) (x : κ) (v : ν) : ((put l x v).map (·.1)).Nodup := by
 induction l with
 | nil => simp [put]
 | cons p l ih =>
  simp only [List.map_cons, List.nodup_cons] at hn
  simp only [put]
  split
  ·rename_i e; subst e; simpa using hn
  ·rename_i e
   simp only [List.map_cons, List.nodup_cons, keys_put]
   exact ⟨by rintro (h | h); exact e h.symm; exact hn.1 h, ih hn.2⟩
theorem del_sub (l : List (κ × ν)) (x : κ) : (del l x).Sublist l := by
 induction l with
 | nil => simp [del]
 | cons p l ih => simp only [del]; split; exact List.sublist_cons_self _ _; exact ih.cons_cons _
theorem nodup_del {l : List (κ × ν)} (hn : (l.map (·.1)).Nodup) (x : κ) : ((del l x).map (·.1)).Nodup := hn.sublist ((del_sub l x).map _)
theorem get_del {l : List (κ × ν)} (hn : (l.map (·.1)).Nodup) (x y : κ) : get (del l x) y = if y = x then none else get l y := by
 induction l with
 | nil => simp [del, get]
 | cons p l ih =>
  simp only [List.map_cons, List.nodup_cons] at hn
  simp only [del]
  split
  ·rename_i e; subst e
   split
   ·rename_i e2; subst e2
    rw [get_none]; intro q hq e; exact hn.1 (e ▸ List.mem_map.2 ⟨_, hq, rfl⟩)
   ·rename_i e2; simp only [get]; rw [if_neg e2]
  ·rename_i e
   simp only [get, ih hn.2]
   split
   ·rename_i e2; subst e2; rw [if_neg (fun h => e h.symm)]
   ·rfl
end
structure Key (P : Program) (k : TypeId) {κ : Type} [DecidableEq κ] (mk : κ → Value) : Prop where
 check : ∀ (w : World) em x, (Instr.checkKey em 10000 k (mk x)).run P w = .ok () w
 find : ∀ (w : World) {ν : Type} (mv : ν → Value) x (es : List MapEntry) (l : List (κ × ν)), es.map (fun e => (e.key, e.val)) = l.map (fun p => (mk p.1, mv p.2)) →
  (Instr.findKey k (mk x) es).run P w = .ok ((at? l x 0).map fun p => (p.1, mv p.2)) w
 stays : ∀ (w : World) x, (Instr.keyThatStays (mk x) (mk x)).run P w = .ok (mk x) w
section
variable {P : Program} {k : TypeId} {κ : Type} [DecidableEq κ] {mk : κ → Value}
theorem findAsking_run (heq : ∀ w x y, (Op.equal k (mk x) (mk y)).run P w = .ok (decide (x = y)) w) (w : World) {ν : Type} (mv : ν → Value) (x : κ) :
  ∀ (es : List MapEntry) (l : List (κ × ν)) (i : Nat), es.map (fun e => (e.key, e.val)) = l.map (fun p => (mk p.1, mv p.2)) →
   (Instr.findAsking k (mk x) es i).run P w = .ok ((at? l x i).map fun p => (p.1, mv p.2)) w
 | [], [], i, _ => by simp [Instr.findAsking, at?]
 | [], _ :: _, _, h => by simp at h
 | _ :: _, [], _, h => by simp at h
 | e :: es, p :: l, i, h => by
  simp only [List.map_cons, List.cons.injEq, Prod.mk.injEq] at h
  obtain ⟨⟨h1, h2⟩, h3⟩ := h
  have ih := findAsking_run heq w mv x es l (i + 1) h3
  simp only [Instr.findAsking, Sem.run_bind, h1, heq, Result.andThen_ok, at?]
  by_cases c : x = p.1
  ·simp [c, h2]
  ·simp [c, ih]
theorem Key.asking (hk : match P.underlying k with | some (.struct _) | some (.array _ _) => True | _ => False)
  (heq : ∀ w x y, (Op.equal k (mk x) (mk y)).run P w = .ok (decide (x = y)) w)
  (hagg : ∀ x, ∃ a, mk x = .agg a)
  (hcheck : ∀ (w : World) em x, (Instr.checkKey em 10000 k (mk x)).run P w = .ok () w)
  (hbits : ∀ x, Instr.sameBits 10000 (mk x) (mk x) = true) : Key P k mk where
 check := hcheck
 find w _ mv x es l h := by
  obtain ⟨d, hd⟩ : ∃ d, P.underlying k = some d := by split at hk <;> simp_all
  have hn : ∀ e es, Instr.findNow d (mk x) (e :: es) 0 = none ∨ False := fun e es => by
   left
   obtain ⟨a, ha⟩ := hagg x
   rw [hd] at hk
   cases d <;> simp_all [Instr.findNow, Instr.sameNow]
  simp only [Instr.findKey, Sem.run_bind, run_underlying hd, Result.andThen_ok]
  cases es with
  | nil =>
   cases l with
   | nil => simp [Instr.findNow, at?]
   | cons _ _ => simp at h
  | cons e es =>
   have := hn e es
   simp only [or_false] at this
   rw [this]
   exact findAsking_run heq w mv x _ l 0 h
 stays w x := by simp [Instr.keyThatStays, hbits]
theorem findNow_int (q : IntKind) (x : Int) {ν : Type} (mv : ν → Value) : ∀ (es : List MapEntry) (l : List (Int × ν)) (i : Nat), es.map (fun e => (e.key, e.val)) = l.map (fun p => (Value.int q p.1, mv p.2)) →
  Instr.findNow (.int q) (.int q x) es i = some ((at? l x i).map fun p => (p.1, mv p.2))
 | [], [], i, _ => by simp [Instr.findNow, at?]
 | [], _ :: _, _, h => by simp at h
 | _ :: _, [], _, h => by simp at h
 | e :: es, p :: l, i, h => by
  simp only [List.map_cons, List.cons.injEq, Prod.mk.injEq] at h
  obtain ⟨⟨h1, h2⟩, h3⟩ := h
  have ih := findNow_int q x mv es l (i + 1) h3
  simp only [Instr.findNow, h1, Instr.sameNow, if_true, at?]
  by_cases c : x = p.1
  ·simp [c, h2]
  ·have : (x == p.1) = false := by simp [c]
   simp [c, this, ih]
theorem Key.int {q : IntKind} (hk : P.underlying k = some (.int q)) : Key P k (fun x : Int => Value.int q x) where
 check w em x := by
  have : ∀ n, (Instr.checkKey em (n + 1) k (.int q x)).run P w = .ok () w := fun n => by simp [Instr.checkKey, run_underlying hk]
  exact this 9999
 find w _ mv x es l h := by
  simp only [Instr.findKey, Sem.run_bind, run_underlying hk, Result.andThen_ok, findNow_int q x mv es l 0 h]
  rfl
 stays w x := by
  have : ∀ n, Instr.sameBits n (.int q x) (.int q x) = true := fun n => by cases n <;> simp [Instr.sameBits]
  simp only [Instr.keyThatStays, this, if_true, Sem.run_pure]
end
section
variable {P : Program} {k : TypeId} {κ : Type} {mk : κ → Value} {ν : Type} {mv : ν → Value}
def Is (mk : κ → Value) (mv : ν → Value) (w : World) (b : Nat) (l : List (κ × ν)) : Prop :=
 ∃ es clock, w.heap[b]? = some (.map es clock) ∧ es.toList.map (fun e => (e.key, e.val)) = l.map (fun p => (mk p.1, mv p.2)) ∧
  (∀ x ∈ es.toList, x.born < clock) ∧ (es.toList.map (·.born)).Nodup ∧ (l.map (·.1)).Nodup
def Rng (mk : κ → Value) (mv : ν → Value) (w : World) (b r : Nat) (l left : List (κ × ν)) : Prop :=
 ∃ es clock since seen c0, w.heap[b]? = some (.map es clock) ∧ es.toList.map (fun e => (e.key, e.val)) = l.map (fun p => (mk p.1, mv p.2)) ∧
  (∀ x ∈ es.toList, x.born < clock) ∧ (es.toList.map (·.born)).Nodup ∧ (l.map (·.1)).Nodup ∧
  w.heap[r]? = some (.mapIter (some b) since seen c0) ∧ (∀ x ∈ es.toList, x.born < since) ∧ since ≤ c0 ∧ since ≤ clock ∧
  (leftOf es seen).toList.map (fun e => (e.key, e.val)) = left.map (fun p => (mk p.1, mv p.2)) ∧ left.Sublist l
theorem Is.lt {w : World} {b : Nat} {l : List (κ × ν)} (h : Is mk mv w b l) : b < w.heap.size := by
 obtain ⟨_, _, h, _⟩ := h; exact (Array.getElem?_eq_some_iff.1 h).1
theorem Is.at {w w' : World} {b : Nat} {l : List (κ × ν)} (h : Is mk mv w b l) (e : w'.heap[b]? = w.heap[b]?) : Is mk mv w' b l := by
 obtain ⟨es, c, h1, h2⟩ := h; exact ⟨es, c, e.trans h1, h2⟩
theorem Is.below {w w' : World} {B b : Nat} {l : List (κ × ν)} (h : Is mk mv w b l) (hb : Below B w w') (hB : b < B) : Is mk mv w' b l := h.at (hb.block b hB)
theorem Is.alloc {w : World} {b : Nat} {l : List (κ × ν)} (h : Is mk mv w b l) (o : Obj) : Is mk mv (w.alloc o) b l := h.at (Below.heap_alloc w o b h.lt)
theorem Is.made (w : World) : Is mk mv (w.alloc (.map #[] 0)) w.heap.size ([] : List (κ × ν)) := ⟨#[], 0, Go.heap_alloc_new _ _, by simp⟩
theorem Rng.lt {w : World} {b r : Nat} {l left : List (κ × ν)} (h : Rng mk mv w b r l left) : b < w.heap.size ∧ r < w.heap.size := by
 obtain ⟨_, _, _, _, _, h, _, _, _, _, h2, _⟩ := h; exact ⟨(Array.getElem?_eq_some_iff.1 h).1, (Array.getElem?_eq_some_iff.1 h2).1⟩
theorem Rng.left_eq {w : World} {b r : Nat} {l left : List (κ × ν)} (h : Rng mk mv w b r l left) : w.rangeLeft b r = left.length := by
 obtain ⟨es, c, s, n, c0, h1, _, _, _, _, h6, _, _, _, h10, _⟩ := h
 have := congrArg List.length h10
 simp only [World.rangeLeft, h1, h6]
 simpa using this
theorem Rng.ne {w : World} {b r : Nat} {l left : List (κ × ν)} (h : Rng mk mv w b r l left) : r ≠ b := by
 obtain ⟨es, c, s, n, c0, h1, _, _, _, _, h6, _⟩ := h
 rintro rfl
 rw [h1] at h6
 cases h6
theorem Rng.is {w : World} {b r : Nat} {l left : List (κ × ν)} (h : Rng mk mv w b r l left) : Is mk mv w b l := by
 obtain ⟨es, c, _, _, _, h1, h2, h3, h4, h5, _⟩ := h; exact ⟨es, c, h1, h2, h3, h4, h5⟩
theorem Rng.sub {w : World} {b r : Nat} {l left : List (κ × ν)} (h : Rng mk mv w b r l left) : left.Sublist l := by
 obtain ⟨_, _, _, _, _, _, _, _, _, _, _, _, _, _, _, h⟩ := h; exact h
theorem Rng.at {w w' : World} {b r : Nat} {l left : List (κ × ν)} (h : Rng mk mv w b r l left) (e : w'.heap[b]? = w.heap[b]?) (e2 : w'.heap[r]? = w.heap[r]?) : Rng mk mv w' b r l left := by
 obtain ⟨es, c, s, n, c0, h1, h2, h3, h4, h5, h6, h7⟩ := h; exact ⟨es, c, s, n, c0, e.trans h1, h2, h3, h4, h5, e2.trans h6, h7⟩
theorem Rng.kept {w w' : World} {row : Option Nat} {b r : Nat} {l left : List (κ × ν)} (h : Rng mk mv w b r l left) (hg : w.grownBy w' row) (hb' : some b ≠ row) (hr' : some r ≠ row) : Rng mk mv w' b r l left :=
 h.at (hg.block b h.lt.1 hb') (hg.block r h.lt.2 hr')
theorem Rng.below {w w' : World} {B b r : Nat} {l left : List (κ × ν)} (h : Rng mk mv w b r l left) (hb : Below B w w') (hB : w.heap.size ≤ B) : Rng mk mv w' b r l left :=
 h.at (hb.block b (Nat.lt_of_lt_of_le h.lt.1 hB)) (hb.block r (Nat.lt_of_lt_of_le h.lt.2 hB))
variable [DecidableEq κ]
theorem Is.look {t e : TypeId} {w : World} {b : Nat} {l : List (κ × ν)} (h : Is mk mv w b l) (K : Key P k mk) (ht : P.underlying t = some (.map k e)) {z : ν} (hz : (zeroValue e).run P w = .ok (mv z) w) (x : κ) (c : Bool) :
  (Instr.lookup t (.map (some b)) (mk x) c).run P w = .ok (if c then .tuple #[mv ((get l x).getD z), .bool (get l x).isSome] else mv ((get l x).getD z)) w := by
 obtain ⟨es, clock, hb, he, _⟩ := h
 have hf := K.find w mv x es.toList l he
 have hg := at?_get l x 0
 cases ha : at? l x 0 with
 | none =>
  rw [ha] at hf hg
  simp [Instr.lookup, run_underlying ht, MapKept.run_getObj_map hb, K.check, hf, hz, ← hg]
 | some p =>
  rw [ha] at hf hg
  simp [Instr.lookup, run_underlying ht, MapKept.run_getObj_map hb, K.check, hf, ← hg]
theorem mods (x : κ) (v : ν) (y : Value) : ∀ (es : List MapEntry) (l : List (κ × ν)) (i : Nat) (p : Nat × ν), es.map (fun e => (e.key, e.val)) = l.map (fun p => (mk p.1, mv p.2)) → at? l x i = some p →
  i ≤ p.1 ∧ p.1 - i < es.length ∧ (es[p.1 - i]?.map (·.key)).getD y = mk x ∧ (es.modify (p.1 - i) fun e => { e with key := mk x, val := mv v }).map (fun e => (e.key, e.val)) = (put l x v).map (fun p => (mk p.1, mv p.2)) ∧
   (es.eraseIdx (p.1 - i)).map (fun e => (e.key, e.val)) = (del l x).map (fun p => (mk p.1, mv p.2))
 | [], [], i, p, _, h => by simp [at?] at h
 | [], _ :: _, _, _, h, _ => by simp at h
 | _ :: _, [], _, _, h, _ => by simp at h
 | e :: es, q :: l, i, p, h, ha => by
  simp only [List.map_cons, List.cons.injEq, Prod.mk.injEq] at h
  obtain ⟨⟨h1, h2⟩, h3⟩ := h
  simp only [at?] at ha
  by_cases c : x = q.1
  ·rw [if_pos c] at ha
   cases ha
   simp [put, del, c, h1, h3]
  ·rw [if_neg c] at ha
   obtain ⟨r1, r2, r3, r4, r5⟩ := mods x v y es l (i + 1) p h3 ha
   have e1 : p.1 - i = (p.1 - (i + 1)) + 1 := by omega
   refine ⟨by omega, by simp; omega, ?_, ?_, ?_⟩
   ·rw [e1]; simpa using r3
   ·rw [e1]; simp [put, c, h1, h2]; simpa using r4
   ·rw [e1]; simp [del, c, h1, h2]; simpa using r5
theorem put_none {l : List (κ × ν)} {x : κ} {v : ν} (h : get l x = none) : put l x v = l ++ [(x, v)] := by
 induction l with
 | nil => rfl
 | cons p l ih =>
  simp only [get] at h
  split at h
  ·cases h
  ·rename_i c; simp only [put, if_neg c, ih h, List.cons_append]
theorem del_none {l : List (κ × ν)} {x : κ} (h : get l x = none) : del l x = l := by
 induction l with
 | nil => rfl
 | cons p l ih =>
  simp only [get] at h
  split at h
  ·cases h
  ·rename_i c; simp only [del, if_neg c, ih h]
theorem Is.store {t e : TypeId} {w : World} {b : Nat} {l : List (κ × ν)} (h : Is mk mv w b l) (K : Key P k mk) (ht : P.underlying t = some (.map k e)) (x : κ) (v : ν) :
  ∃ w', (Instr.mapUpdate t (.map (some b)) (mk x) (mv v)).run P w = .ok () w' ∧ Is mk mv w' b (put l x v) ∧ w.mapTurned w' b := by
 obtain ⟨es, clock, hb, he, hc, hn, hk⟩ := h
 have hf := K.find w mv x es.toList l he
 have hg := at?_get l x 0
 cases ha : at? l x 0 with
 | none =>
  rw [ha] at hf hg
  refine ⟨setBlock w b (.map (es.push { key := mk x, val := mv v, born := clock }) (clock + 1)), ?_, ⟨_, _, heap_setBlock_same hb _, ?_, ?_, ?_, nodup_put hk x v⟩, ⟨es, clock, _, _, hb, rfl⟩⟩
  ·simp [Instr.mapUpdate, run_underlying ht, MapKept.run_getObj_map hb, K.check, hf, MapKept.run_setObj_map _ hb, setBlock]
  ·rw [put_none hg.symm]; simp [he]
  ·intro y hy; simp at hy; rcases hy with hy | rfl
   ·have := hc y (by simpa using hy); omega
   ·simp
  ·simp only [Array.toList_push, List.map_append, List.map_cons, List.map_nil, List.nodup_append]
   refine ⟨hn, by simp, ?_⟩
   intro a ha2 b' hb2
   simp at hb2; subst hb2
   obtain ⟨y, hy, rfl⟩ := List.mem_map.1 ha2
   have := hc y hy; omega
 | some p =>
  rw [ha] at hf hg
  obtain ⟨r1, r2, r3, r4, r5⟩ := mods x v (mk x) es.toList l 0 p he ha
  simp only [Nat.sub_zero] at r2 r3 r4 r5
  have hm : (es.modify p.1 fun e => { e with key := mk x, val := mv v }).toList = es.toList.modify p.1 fun e => { e with key := mk x, val := mv v } := by simp
  have hborn : (es.toList.modify p.1 fun e => { e with key := mk x, val := mv v }).map (·.born) = es.toList.map (·.born) := by
   apply List.ext_getElem
   ·simp
   ·intro i h1 h2
    simp [List.getElem_modify]; split <;> rfl
  refine ⟨setBlock w b (.map (es.modify p.1 fun e => { e with key := mk x, val := mv v }) clock), ?_, ⟨_, _, heap_setBlock_same hb _, ?_, ?_, ?_, nodup_put hk x v⟩, ⟨es, clock, _, _, hb, rfl⟩⟩
  ·have r3' : (es[p.1]?.map (·.key)).getD (mk x) = mk x := by simpa using r3
   simp [Instr.mapUpdate, run_underlying ht, MapKept.run_getObj_map hb, K.check, hf, r3', K.stays, MapKept.run_setObj_map _ hb, setBlock]
  ·rw [hm]; exact r4
  ·rw [hm]; intro y hy
   have : y.born ∈ es.toList.map (·.born) := hborn ▸ List.mem_map.2 ⟨y, hy, rfl⟩
   obtain ⟨z, hz, e⟩ := List.mem_map.1 this
   rw [← e]; exact hc z hz
  ·rw [hm, hborn]; exact hn
theorem Is.drop {t e ty : TypeId} {w : World} {b : Nat} {l : List (κ × ν)} (h : Is mk mv w b l) (K : Key P k mk) (ht : P.underlying t = some (.map k e)) (x : κ) :
  ∃ w', (Builtin.delete_ #[t, k] ty #[.map (some b), mk x]).run P w = .ok (.tuple #[]) w' ∧ Is mk mv w' b (del l x) ∧ w.mapTurned w' b := by
 obtain ⟨es, clock, hb, he, hc, hn, hk⟩ := h
 have hf := K.find w mv x es.toList l he
 have hg := at?_get l x 0
 cases ha : at? l x 0 with
 | none =>
  rw [ha] at hf hg
  refine ⟨setBlock w b (.map es clock), ?_, ⟨_, _, heap_setBlock_same hb _, ?_, hc, hn, nodup_del hk x⟩, ⟨es, clock, _, _, hb, rfl⟩⟩
  ·simp [Builtin.delete_, run_underlying ht, MapKept.run_getObj_map hb, K.check, hf, MapKept.run_setObj_map _ hb, setBlock]
  ·rw [del_none hg.symm]; exact he
 | some p =>
  rw [ha] at hf hg
  obtain ⟨r1, r2, r3, r4, r5⟩ := mods x p.2 (mk x) es.toList l 0 p he ha
  simp only [Nat.sub_zero] at r2 r3 r4 r5
  have hm : (es.eraseIdxIfInBounds p.1).toList = es.toList.eraseIdx p.1 := by
   unfold Array.eraseIdxIfInBounds
   rw [dif_pos (by simpa using r2)]
   simp
  refine ⟨setBlock w b (.map (es.eraseIdxIfInBounds p.1) clock), ?_, ⟨_, _, heap_setBlock_same hb _, ?_, ?_, ?_, nodup_del hk x⟩, ⟨es, clock, _, _, hb, rfl⟩⟩
  ·simp [Builtin.delete_, run_underlying ht, MapKept.run_getObj_map hb, K.check, hf, MapKept.run_setObj_map _ hb, setBlock]
  ·rw [hm]; exact r5
  ·rw [hm]; exact fun y hy => hc y ((List.eraseIdx_sublist _ _).subset hy)
  ·rw [hm]; exact hn.sublist ((List.eraseIdx_sublist _ _).map _)
omit [DecidableEq κ] in
theorem Is.range {t e : TypeId} {w : World} {b : Nat} {l : List (κ × ν)} (h : Is mk mv w b l) (ht : P.underlying t = some (.map k e)) :
  ∃ w', (Instr.range t (.map (some b))).run P w = .ok (.pointer (some ⟨w.heap.size, 0, none⟩)) w' ∧ Rng mk mv w' b w.heap.size l l ∧ w.grownBy w' none ∧ w'.heap.size = w.heap.size + 1 := by
 have hlt := h.lt
 obtain ⟨es, clock, hb, he, hc, hn, hk⟩ := h
 refine ⟨_, run_range_map w t k e b es clock ht hb, ⟨es, clock, clock, #[], clock, (Below.heap_alloc w _ b hlt).trans hb, he, hc, hn, hk, (MapKept.heap_alloc w _).1, hc, Nat.le_refl _, Nat.le_refl _, ?_, List.Sublist.refl _⟩, World.grownBy_alloc w _ none, by simp⟩
 have : leftOf es #[] = es := Array.filter_eq_self.2 (fun x _ => by simp)
 rw [this]; exact he
omit [DecidableEq κ] in
theorem left_seen (seen : Array Nat) (e0 : MapEntry) : ∀ (es : List MapEntry), (es.map (·.born)).Nodup → e0 ∈ es → seen.contains e0.born = false →
  ∃ a z, es.filter (fun e => !seen.contains e.born) = a ++ e0 :: z ∧ es.filter (fun e => !(seen.push e0.born).contains e.born) = a ++ z := by
 intro es hn he hs
 have e1 : es.filter (fun e => !(seen.push e0.born).contains e.born) = (es.filter (fun e => !seen.contains e.born)).filter (fun e => e.born != e0.born) := by
  rw [List.filter_filter]
  congr 1
  funext e
  rw [contains_push]
  cases seen.contains e.born <;> cases h : (e.born == e0.born) <;> simp [bne, h]
 have hmem : e0 ∈ es.filter (fun e => !seen.contains e.born) := List.mem_filter.2 ⟨he, by simp only [hs, Bool.not_false]⟩
 have hn2 : ((es.filter (fun e => !seen.contains e.born)).map (·.born)).Nodup := hn.sublist (List.filter_sublist.map _)
 obtain ⟨a, z, haz⟩ := List.append_of_mem hmem
 refine ⟨a, z, haz, ?_⟩
 rw [e1, haz] 
 rw [haz] at hn2
 simp only [List.map_append, List.map_cons, List.nodup_append, List.nodup_cons] at hn2
 obtain ⟨h1, ⟨h2, h3⟩, h4⟩ := hn2
 rw [List.filter_append, List.filter_cons]
 simp only [bne_self_eq_false, Bool.false_eq_true, if_false]
 rw [List.filter_eq_self.2, List.filter_eq_self.2]
 ·intro x hx
  simp only [bne_iff_ne, ne_eq]
  exact fun e => h2 (e ▸ List.mem_map.2 ⟨x, hx, rfl⟩)
 ·intro x hx
  simp only [bne_iff_ne, ne_eq]
  exact h4 _ (List.mem_map.2 ⟨x, hx, rfl⟩) _ (by simp)
omit [DecidableEq κ] in
theorem Rng.next {w : World} {b r : Nat} {l left : List (κ × ν)} (h : Rng mk mv w b r l left) (ty : TypeId) :
  (left = [] ∧ (Instr.next (.pointer (some ⟨r, 0, none⟩)) false ty).run P w = .ok (.tuple #[.bool false]) w) ∨
  ∃ x v a z w', left = a ++ (x, v) :: z ∧ (Instr.next (.pointer (some ⟨r, 0, none⟩)) false ty).run P w = .ok (.tuple #[.bool true, mk x, mv v]) w' ∧
   Rng mk mv w' b r l (a ++ z) ∧ w.grownBy w' (some r) ∧ w'.heap.size = w.heap.size ∧ ∀ (P' : Program) (w2 : World), w2.heap[b]? = w'.heap[b]? → w2.heap[r]? = w'.heap[r]? → (Instr.entry (.pointer (some ⟨r, 0, none⟩))).run P' w2 = .ok (.tuple #[mk x, mv v]) w2 := by
 obtain ⟨es, clock, since, seen, c0, hb, he, hc, hn, hk, hr, hold, hsc, hsk, hl, hsub⟩ := h
 have hne : r ≠ b := by rintro rfl; rw [hb] at hr; cases hr
 rcases run_next_at (P := P) w ty r b since c0 seen es clock hr hb hold hsc with ⟨h0, hrun⟩ | ⟨e0, he0, w1, hal, hrun⟩
 ·refine Or.inl ⟨?_, hrun⟩
  have : (leftOf es seen).toList = [] := by
   have : (leftOf es seen).toList.length = 0 := by simpa using h0
   exact List.eq_nil_of_length_eq_zero this
  rw [this] at hl
  simpa using hl.symm
 ·obtain ⟨hem, hes⟩ := mem_left he0
  have hL : ∀ s : Array Nat, (leftOf es s).toList = es.toList.filter (fun e => !s.contains e.born) := fun s => by unfold leftOf; rw [Array.toList_filter]
  obtain ⟨a, z, h1, h2⟩ := left_seen seen e0 es.toList hn hem hes
  rw [hL, h1] at hl
  simp only [List.map_append, List.map_cons] at hl
  obtain ⟨a', z0, rfl, ha', hz0⟩ := List.map_eq_append_iff.1 hl.symm
  obtain ⟨p, z', rfl, hp, hz'⟩ := List.map_eq_cons_iff.1 hz0
  simp only [Prod.mk.injEq] at hp
  have hr1 : w1.heap[r]? = some (.mapIter (some b) since seen c0) := by rcases hal with rfl | rfl <;> exact hr
  have hb1 : w1.heap[b]? = some (.map es clock) := by rcases hal with rfl | rfl <;> exact hb
  have hset := heap_set (o' := .mapIter (some b) since (seen.push e0.born) clock) hr1
  have hb' : (setBlock w1 r (.mapIter (some b) since (seen.push e0.born) clock)).heap[b]? = some (.map es clock) := (hset.2 b (fun e => hne e.symm)).trans hb1
  refine Or.inr ⟨p.1, p.2, a', z', _, rfl, by rw [hp.1, hp.2]; exact hrun, ⟨es, clock, since, seen.push e0.born, clock, hb', he, hc, hn, hk, hset.1, hold, hsk, hsk, ?_, ?_⟩, ?_, ?_, fun P' w2 g1 g2 => by rw [hp.1, hp.2]; exact run_entry_at _ r b since seen es clock e0 (g2.trans hset.1) (g1.trans hb') hem hn⟩
  ·rw [hL, h2]; simp [ha', hz']
  ·exact (List.Sublist.append_left (List.sublist_cons_self _ _) _).trans hsub
  ·rcases hal with rfl | rfl <;> exact ⟨rfl, rfl, rfl, by simp [setBlock], fun i _ hi => hset.2 i (fun e1 => hi (by rw [e1]))⟩
  ·rcases hal with rfl | rfl <;> simp [setBlock]
omit [DecidableEq κ] in
theorem Is.len {t e : TypeId} {w : World} {b : Nat} {l : List (κ × ν)} (h : Is mk mv w b l) (ht : P.underlying t = some (.map k e)) (ty : TypeId) :
  (Builtin.len_ #[t] ty #[.map (some b)]).run P w = .ok (.int .i64 l.length) w := by
 obtain ⟨es, clock, hb, he, _⟩ := h
 have : es.size = l.length := by have := congrArg List.length he; simpa using this
 simp [Builtin.len_, run_underlying ht, MapKept.run_getObj_map hb, this, goInt, Result.andThen]
end
section
variable {P : Program} {k : TypeId} {κ : Type} {mk : κ → Value} {ν : Type} {mv : ν → Value} (w : World) {ops : Array Oper} {rest : List Oper} {o : Oper} {a : Act} {Q : Exit → Act → World → Prop}
variable [DecidableEq κ]
end
end Go.Proofs.YtnpnjhopgedhkaaGreat.Mp
