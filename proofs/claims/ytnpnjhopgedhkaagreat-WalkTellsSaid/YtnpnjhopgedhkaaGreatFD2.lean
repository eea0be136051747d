/- Texts of the proof, one behind the other: VA. Conditions: each lemma's own. -/
import Derived.Test.YtnpnjhopgedhkaaGreatFD1
import Derived.WalkKit
import Derived.Laws.Rows
import Derived.Maps.AppendAt
import Derived.Laws.AppendOwnNone
import Derived.Shelf.Abstract
import Derived.Orders
set_option linter.unusedVariables false
namespace Go.Proofs.YtnpnjhopgedhkaaGreat.V
open Go.RowKit
universe u
inductive D where
 | v (x : Value)
 | lst (k : Nat) (xs : List Value)
inductive Id where
 | l (n : Nat)
 | g (n : Nat)
 | x (b : Nat)
deriving DecidableEq
inductive A where
 | d (x : D)
 | ptr (i : Id) (off : Nat)
 | mp (i : Id)
 | own (i : Id)
 | el (k : Nat) (xs : List Value) (j off : Nat)
 | oel (i : Id) (k j off : Nat)
 | top
inductive AV where
 | a (x : A)
 | fn (f : Nat) (cap : List A)
 | tup (l : List A)
 | agg (l : List A)
 | may (j : Nat) (wt : Bool) (q : Bool) (x : A)
inductive VO : Type 1 where
 | box (cells : List A)
 | row (e k : Nat) (xs : List Value)
 | map {κ ν : Type} [DecidableEq κ] (mk : κ → Value) (mv : ν → Value) (l : List (κ × ν)) (z : Option (Nat × Obj))
 | itr {κ ν : Type} [DecidableEq κ] (mk : κ → Value) (mv : ν → Value) (l left : List (κ × ν)) (z : Nat × Obj) (cur : Option Value)
structure S : Type 1 where
 c : Nat
 t : List (Nat × AV)
 L : List (Nat × VO)
 G : Nat → Option VO
def lk {α : Type u} : List (Nat × α) → Nat → Option α
 | [], _ => none
 | (j, v) :: r, i => if i = j then some v else lk r i
def up {α : Type u} : List (Nat × α) → Nat → α → List (Nat × α)
 | [], i, v => [(i, v)]
 | (j, w) :: r, i, v => if i = j then (j, v) :: r else (j, w) :: up r i v
def del {α : Type u} : List (Nat × α) → Nat → List (Nat × α)
 | [], _ => []
 | (j, w) :: r, i => if i = j then del r i else (j, w) :: del r i
theorem lk_up {α : Type u} (l : List (Nat × α)) (i j : Nat) (v : α) : lk (up l i v) j = if j = i then some v else lk l j := by
 induction l with
 | nil => simp [up, lk]
 | cons p r ih =>
  obtain ⟨a, b⟩ := p
  simp only [up]
  split
  ·rename_i h; subst h; simp only [lk]; split <;> simp_all
  ·rename_i h; simp only [lk, ih]; split
   ·rename_i h2; subst h2; rw [if_neg (fun e => h e.symm)]
   ·rfl
theorem lk_del {α : Type u} (l : List (Nat × α)) (i j : Nat) : lk (del l i) j = if j = i then none else lk l j := by
 induction l with
 | nil => simp [del, lk]
 | cons p r ih =>
  obtain ⟨a, b⟩ := p
  simp only [del]
  split
  ·rename_i h; subst h; rw [ih]; simp only [lk]; split <;> simp_all
  ·rename_i h; simp only [lk, ih]; split
   ·rename_i h2; subst h2; rw [if_neg (fun e => h e.symm)]
   ·rfl
def S.obj (s : S) : Id → Option VO
 | .l n => lk s.L n
 | .g n => s.G n
 | .x _ => none
def blk : Value → Option Nat
 | .pointer (some a) => some a.block
 | .slice (some a) _ _ => some a.block
 | .map (some b) => some b
 | _ => none
abbrev Hd := Id → Option Value
def mutb (h : Hd) (b : Nat) : Prop := ∃ i hd, h i = some hd ∧ blk hd = some b
def okId (c : Nat) (h : Hd) : Id → Prop
 | .l n => n < c
 | .g n => h (.g n) ≠ none
 | .x _ => False
def cellsL (xs : List Value) : List Value := xs.flatMap (·.cells.toList)
structure Imm (h : Hd) (w : World) (k : Nat) (xs : List Value) (b o : Nat) : Prop where
 lt : b < w.heap.size
 im : ¬ mutb h b
 sz : ∀ x ∈ xs, x.cells.size = k
 cell : ∀ j c, (cellsL xs)[j]? = some c → w.cell? ⟨b, o + j, none⟩ = some c
def IsL (h : Hd) (w : World) (k : Nat) (xs : List Value) (v : Value) : Prop :=
 (xs = [] ∧ ∃ ad cap, v = .slice ad 0 cap) ∨ ∃ b o cap, v = .slice (some ⟨b, o, none⟩) xs.length cap ∧ xs.length ≤ cap ∧ Imm h w k xs b o
def RA (c : Nat) (h : Hd) (w : World) : A → Value → Prop
 | .d (.v x), v => v = x
 | .d (.lst k xs), v => IsL h w k xs v
 | .ptr i off, v => okId c h i ∧ v.oneCell' = true ∧ ∀ hd, h i = some hd → ∃ b, hd = .pointer (some ⟨b, 0, none⟩) ∧ v = .pointer (some ⟨b, off, none⟩)
 | .mp i, v => okId c h i ∧ v.oneCell' = true ∧ ∀ hd, h i = some hd → v = hd
 | .own i, v => okId c h i ∧ v.oneCell' = true ∧ ∀ hd, h i = some hd → v = hd
 | .el k xs j off, v => ∃ b o, v = .pointer (some ⟨b, o + j * k + off, none⟩) ∧ Imm h w k xs b o
 | .oel i k j off, v => okId c h i ∧ v.oneCell' = true ∧ ∀ hd, h i = some hd → ∃ b n cap, hd = .slice (some ⟨b, 0, none⟩) n cap ∧ v = .pointer (some ⟨b, j * k + off, none⟩)
 | .top, _ => True
def RAs (c : Nat) (h : Hd) (w : World) (l : List A) (vs : List Value) : Prop := l.length = vs.length ∧ ∀ (j : Nat) (x : A) (v : Value), l[j]? = some x → vs[j]? = some v → RA c h w x v
def RV (c : Nat) (h : Hd) (w : World) : AV → Value → Prop
 | .a x, v => RA c h w x v
 | .fn f cap, v => ∃ vs : Array Value, v = .func (.func f) #[] vs ∧ RAs c h w cap vs.toList
 | .tup l, v => ∃ vs : Array Value, v = .tuple vs ∧ RAs c h w l vs.toList
 | .agg l, v => ∃ vs : Array Value, v = .agg vs ∧ RAs c h w l vs.toList
 | .may _ _ q x, v => (q = true → RA c h w x v) ∧ (q = false → v = undef)
def OBJ (c : Nat) (h : Hd) (w : World) (hd : Value) : VO → Prop
 | .box cells => ∃ b cs t, hd = .pointer (some ⟨b, 0, none⟩) ∧ w.heap[b]? = some (.cells cs t (0, 0)) ∧ RAs c h w cells cs.toList
 | .row e k xs => w.ownsRow 0 e k hd xs.length (cellsL xs) ∧ (∀ x ∈ xs, x.cells.size = k) ∧ 0 < k
 | @VO.map _ _ _ mk mv l z => ∃ b, hd = .map (some b) ∧ Mp.Is mk mv w b l ∧ ∀ q, z = some q → q.1 = b ∧ w.heap[b]? = some q.2
 | @VO.itr _ _ _ mk mv l left z cur => ∃ r, hd = .pointer (some ⟨r, 0, none⟩) ∧ r < w.heap.size ∧ ∀ w' : World, w'.heap[z.1]? = some z.2 → w'.heap[r]? = w.heap[r]? → Mp.Rng mk mv w' z.1 r l left ∧ ∀ (P : Program) q, cur = some q → (Instr.entry (.pointer (some ⟨r, 0, none⟩))).run P w' = .ok q w'
def A.says : A → Id → Prop
 | .ptr i _, j | .mp i, j | .own i, j | .oel i _ _ _, j => i = j
 | _, _ => False
def AV.says : AV → Id → Prop
 | .a x, j => x.says j
 | .fn _ l, j | .tup l, j | .agg l, j => ∃ x ∈ l, A.says x j
 | .may _ _ q x, j => q = true ∧ x.says j
def VO.says : VO → Id → Prop
 | .box l, j => ∃ x ∈ l, A.says x j
 | _, _ => False
structure Env where
 W0 : World
 h0 : Nat → Option Value
 x0 : Nat → Option Value
 nt : Nat
structure Sim (E : Env) (h : Hd) (w : World) (a : Act) (s : S) : Prop where
 obj : ∀ i o, s.obj i = some o → ∃ hd, h i = some hd ∧ OBJ s.c h w hd o
 dom : ∀ i hd, h i = some hd → (∃ o, s.obj i = some o) ∨ ∃ b, i = .x b
 inj : ∀ i j hi hj b, h i = some hi → h j = some hj → blk hi = some b → blk hj = some b → i = j
 old : ∀ n hd, E.h0 n = some hd → h (.g n) = some hd
 pri : ∀ b, h (.x b) = E.x0 b
 gl : ∀ n o, s.G n = some o → ∀ i, ¬ o.says (.l i)
 own : ∀ i hd b, h i = some hd → blk hd = some b → b < w.heap.size ∧ ((∃ n, i = .g n ∧ E.h0 n = some hd) ∨ E.W0.heap.size ≤ b ∨ ∃ q, i = .x q)
 cl : ∀ n o, lk s.L n = some o → n < s.c
 fr : ∀ b, b < E.W0.heap.size → (∀ n hd, E.h0 n = some hd → blk hd ≠ some b) → w.heap[b]? = E.W0.heap[b]?
 sz : E.W0.heap.size ≤ w.heap.size
 os : w.os = E.W0.os
 tape : w.tape = E.W0.tape
 output : w.output = E.W0.output
 nt : a.tmps.size = E.nt
 dfr : a.defers = []
 tmp : ∀ i v, lk s.t i = some v → RV s.c h w v (a.tmps.getD i undef)
def S.put (s : S) (d : Nat) (v : AV) : S := { s with t := (d, v) :: s.t }
theorem getD_set (a : Array Value) (d i : Nat) (v : Value) (hd : d < a.size) : (a.setIfInBounds d v).getD i undef = if i = d then v else a.getD i undef := by
 simp only [Array.getD_eq_getD_getElem?, Array.getElem?_setIfInBounds]
 split
 ·rename_i h; subst h; simp [hd]
 ·rename_i h; rw [if_neg (fun e => h e.symm)]
theorem Sim.put {E : Env} {h : Hd} {w : World} {a : Act} {s : S} (H : Sim E h w a s) (d : Nat) (hd : d < E.nt) (v : AV) (x : Value) (hx : RV s.c h w v x) : Sim E h w (a.put (some d) x) (s.put d v) where
 obj := H.obj
 dom := H.dom
 inj := H.inj
 old := H.old
 pri := H.pri
 gl := H.gl
 own := H.own
 cl := H.cl
 fr := H.fr
 sz := H.sz
 os := H.os
 tape := H.tape
 output := H.output
 nt := by simp [Act.put, H.nt]
 dfr := H.dfr
 tmp i u hu := by
  simp only [S.put, lk] at hu
  simp only [Act.put]
  rw [getD_set _ _ _ _ (by rw [H.nt]; exact hd)]
  split at hu
  ·rename_i e; rw [if_pos e]; cases hu; exact hx
  ·rename_i e; rw [if_neg e]; exact H.tmp i u hu
structure Stp (c : Nat) (h : Hd) (w : World) (c' : Nat) (h' : Hd) (w' : World) (ex : Id → Prop) : Prop where
 cc : c ≤ c'
 gg : ∀ n, h (.g n) ≠ none → h' (.g n) ≠ none
 hh : ∀ i, okId c h i → ¬ ex i → ∀ hd, h' i = some hd → h i = some hd
 sz : w.heap.size ≤ w'.heap.size
 im : ∀ b, b < w.heap.size → ¬ mutb h b → w'.heap[b]? = w.heap[b]? ∧ ¬ mutb h' b
section
variable {c : Nat} {h : Hd} {w : World} {c' : Nat} {h' : Hd} {w' : World} {ex : Id → Prop}
theorem Imm.step {k : Nat} {xs : List Value} {b o : Nat} (H : Imm h w k xs b o) (st : Stp c h w c' h' w' ex) : Imm h' w' k xs b o := by
 obtain ⟨h1, h2⟩ := st.im b H.lt H.im
 exact ⟨Nat.lt_of_lt_of_le H.lt st.sz, h2, H.sz, fun j u hu => (World.cell?_of_block (w := w) (a := ⟨b, o + j, none⟩) h1).trans (H.cell j u hu)⟩
theorem okId.mono {i : Id} (hi : okId c h i) (hc : c ≤ c') (hg : ∀ n, h (.g n) ≠ none → h' (.g n) ≠ none) : okId c' h' i := by
 cases i with
 | l n => exact Nat.lt_of_lt_of_le hi hc
 | g n => exact hg n hi
 | x n => exact hi
theorem RA.step {x : A} {v : Value} (H : RA c h w x v) (st : Stp c h w c' h' w' ex) (hx : ∀ i, x.says i → ¬ ex i) : RA c' h' w' x v := by
 cases x with
 | d x =>
  cases x with
  | v x => exact H
  | lst k xs =>
   rcases H with H | ⟨b, o, cap, h1, h2, h3⟩
   ·exact .inl H
   ·exact .inr ⟨b, o, cap, h1, h2, h3.step st⟩
 | ptr i off => exact ⟨H.1.mono st.cc st.gg, H.2.1, fun hd hh => H.2.2 hd (st.hh i H.1 (hx i rfl) hd hh)⟩
 | mp i => exact ⟨H.1.mono st.cc st.gg, H.2.1, fun hd hh => H.2.2 hd (st.hh i H.1 (hx i rfl) hd hh)⟩
 | own i => exact ⟨H.1.mono st.cc st.gg, H.2.1, fun hd hh => H.2.2 hd (st.hh i H.1 (hx i rfl) hd hh)⟩
 | el k xs j off =>
  obtain ⟨b, o, h1, h2⟩ := H
  exact ⟨b, o, h1, h2.step st⟩
 | oel i k j off => exact ⟨H.1.mono st.cc st.gg, H.2.1, fun hd hh => H.2.2 hd (st.hh i H.1 (hx i rfl) hd hh)⟩
 | top => trivial
theorem RAs.step {l : List A} {vs : List Value} (H : RAs c h w l vs) (st : Stp c h w c' h' w' ex) (hx : ∀ x ∈ l, ∀ i, A.says x i → ¬ ex i) : RAs c' h' w' l vs :=
 ⟨H.1, fun j x v h1 h2 => (H.2 j x v h1 h2).step st (hx x (List.mem_of_getElem? h1))⟩
theorem RV.step {x : AV} {v : Value} (H : RV c h w x v) (st : Stp c h w c' h' w' ex) (hx : ∀ i, x.says i → ¬ ex i) : RV c' h' w' x v := by
 cases x with
 | a x => exact RA.step H st hx
 | fn f l => obtain ⟨vs, h1, h2⟩ := H; exact ⟨vs, h1, h2.step st fun x hx' i hi => hx i ⟨x, hx', hi⟩⟩
 | tup l => obtain ⟨vs, h1, h2⟩ := H; exact ⟨vs, h1, h2.step st fun x hx' i hi => hx i ⟨x, hx', hi⟩⟩
 | agg l => obtain ⟨vs, h1, h2⟩ := H; exact ⟨vs, h1, h2.step st fun x hx' i hi => hx i ⟨x, hx', hi⟩⟩
 | may j wt q x => exact ⟨fun hq => RA.step (H.1 hq) st (fun i hi => hx i ⟨hq, hi⟩), H.2⟩
end
theorem OBJ.step {c c' : Nat} {h h' : Hd} {w w' : World} {ex : Id → Prop} {hd : Value} {o : VO} (H : OBJ c h w hd o) (st : Stp c h w c' h' w' ex) (hb : ∀ b, blk hd = some b → w'.heap[b]? = w.heap[b]?) (hx : ∀ i, o.says i → ¬ ex i) :
  OBJ c' h' w' hd o := by
 cases o with
 | box cells =>
  obtain ⟨b, cs, t, h1, h2, h3⟩ := H
  exact ⟨b, cs, t, h1, (hb b (by rw [h1]; rfl)).trans h2, h3.step st fun x hx' i hi => hx i ⟨x, hx', hi⟩⟩
 | row e k xs =>
  obtain ⟨⟨h1, h2⟩, h3⟩ := H
  refine ⟨⟨h1, ?_⟩, h3⟩
  rcases h2 with h2 | ⟨g, cap, cur, rfl, hb', hg, rest⟩
  ·exact .inl h2
  ·exact .inr ⟨g, cap, cur, rfl, hb', (hb g rfl).trans hg, rest⟩
 | map mk mv l z =>
  obtain ⟨b, h1, h2, h3⟩ := H
  have e := hb b (by rw [h1]; rfl)
  exact ⟨b, h1, h2.at e, fun q hq => ⟨(h3 q hq).1, e.trans (h3 q hq).2⟩⟩
 | itr mk mv l left z cur =>
  obtain ⟨r, h1, h2, h3⟩ := H
  exact ⟨r, h1, Nat.lt_of_lt_of_le h2 st.sz, fun w2 e1 e2 => h3 w2 e1 (e2.trans (hb r (by rw [h1]; rfl)))⟩
end Go.Proofs.YtnpnjhopgedhkaaGreat.V
namespace Go.Proofs.YtnpnjhopgedhkaaGreat.V
open Go.RowKit
def S.new (s : S) (o : VO) : S := { s with c := s.c + 1, L := (s.c, o) :: s.L }
def S.newG (s : S) (g : Nat) (o : VO) : S := { s with G := fun n => if n = g then some o else s.G n }
def S.set (s : S) (i : Id) (o : VO) : S := match i with
 | .l n => { s with L := up s.L n o }
 | .g n => { s with G := fun m => if m = n then some o else s.G m }
 | .x _ => s
def Hd.put (h : Hd) (i : Id) (v : Value) : Hd := fun j => if j = i then some v else h j
theorem OBJ.base_le {c : Nat} {h : Hd} {w : World} {hd : Value} {o : VO} (H : OBJ c h w hd o) (b : Nat) (hb : blk hd = some b) : b < w.heap.size := by
 cases o with
 | box cells =>
  obtain ⟨b', cs, t, rfl, h2, h3⟩ := H
  simp only [blk, Option.some.injEq] at hb; subst hb
  exact (Array.getElem?_eq_some_iff.1 h2).1
 | row e k xs =>
  obtain ⟨h1, h3⟩ := H
  have : hd.ownBlock = some b := by
   cases hd <;> simp_all [blk, Value.ownBlock]
   ·rcases h1.2 with ⟨h2, _⟩ | ⟨g, cap, cur, h2, _⟩ <;> cases h2
   ·rename_i a _ _; cases a <;> simp_all
   ·rcases h1.2 with ⟨h2, _⟩ | ⟨g, cap, cur, h2, _⟩ <;> cases h2
  exact (h1.lt b this).2
 | map mk mv l z =>
  obtain ⟨b', rfl, h2, _⟩ := H
  simp only [blk, Option.some.injEq] at hb; subst hb
  exact h2.lt
 | itr mk mv l left z cur =>
  obtain ⟨r, rfl, h2, _⟩ := H
  simp only [blk, Option.some.injEq] at hb; subst hb
  exact h2
theorem Sim.newAt {E : Env} {h : Hd} {w w' : World} {a : Act} {s s' : S} (H : Sim E h w a s) (i : Id) (o : VO) (hd : Value) (hg : w.grownBy w' none)
  (hc : s.c ≤ s'.c) (ht : s'.t = s.t) (hi : s.obj i = none) (hnx : ∀ q, i ≠ .x q) (hgl : ∀ n, i = .g n → ∀ q, ¬ o.says (.l q)) (hobj : ∀ j, s'.obj j = if j = i then some o else s.obj j) (hcl : ∀ n o, lk s'.L n = some o → n < s'.c)
  (hfresh : ∀ n, i = .l n → n = s.c) (hE : ∀ n, i = .g n → E.h0 n = none)
  (hb : ∀ b, blk hd = some b → w.heap.size ≤ b ∧ b < w'.heap.size) (hO : OBJ s'.c (Hd.put h i hd) w' hd o) : Sim E (Hd.put h i hd) w' a s' := by
 have hn : h i = none := by
  cases e : h i with
  | none => rfl
  | some v =>
   rcases H.dom i v e with ⟨o', ho'⟩ | ⟨q, hq⟩
   ·rw [hi] at ho'; cases ho'
   ·exact absurd hq (hnx q)
 have hgg : ∀ n, h (.g n) ≠ none → Hd.put h i hd (.g n) ≠ none := by
  intro n hne
  unfold Hd.put
  split
  ·simp
  ·exact hne
 have st : Stp s.c h w s'.c (Hd.put h i hd) w' (fun j => j = i) := by
  refine ⟨hc, hgg, ?_, hg.size, ?_⟩
  ·intro j hj hx hd' e
   unfold Hd.put at e
   rw [if_neg hx] at e; exact e
  ·intro b hlt hm
   refine ⟨hg.block b hlt (by simp), ?_⟩
   rintro ⟨j, hd', e, hb'⟩
   unfold Hd.put at e
   split at e
   ·cases e
    have := (hb b hb').1
    omega
   ·exact hm ⟨j, hd', e, hb'⟩
 have hnok : ¬ okId s.c h i := by
  intro hk
  cases i with
  | l n => have := hfresh n rfl; subst this; exact Nat.lt_irrefl _ hk
  | g n => exact hk hn
  | x n => exact hk
 have hA : ∀ (x : A) (u : Value), RA s.c h w x u → ¬ x.says i := by
  intro x u hu hs
  cases x with
  | d x => exact hs
  | el k xs j off => exact hs
  | top => exact hs
  | ptr j off => have := hu.1; simp only [A.says] at hs; subst hs; exact hnok this
  | mp j => have := hu.1; simp only [A.says] at hs; subst hs; exact hnok this
  | own j => have := hu.1; simp only [A.says] at hs; subst hs; exact hnok this
  | oel j k q off => have := hu.1; simp only [A.says] at hs; subst hs; exact hnok this
 have hAs : ∀ (l : List A) (us : List Value), RAs s.c h w l us → ¬ ∃ x ∈ l, A.says x i := by
  rintro l us ⟨h1, h2⟩ ⟨x, hx, hs⟩
  obtain ⟨q, hq⟩ := List.getElem?_of_mem hx
  have hlt : q < us.length := by rw [← h1]; exact (List.getElem?_eq_some_iff.1 hq).1
  exact hA x _ (h2 q x _ hq (List.getElem?_eq_getElem hlt)) hs
 have hsay : ∀ k v, lk s.t k = some v → RV s.c h w v (a.tmps.getD k undef) → ∀ j, v.says j → j ≠ i := by
  intro k v hk hr j hj e
  subst e
  cases v with
  | a x => exact hA x _ hr hj
  | fn f l => obtain ⟨vs, _, h2⟩ := hr; exact hAs l _ h2 hj
  | tup l => obtain ⟨vs, _, h2⟩ := hr; exact hAs l _ h2 hj
  | agg l => obtain ⟨vs, _, h2⟩ := hr; exact hAs l _ h2 hj
  | may j' wt q x => exact hA x _ (hr.1 hj.1) hj.2
 have hosay : ∀ j o', s.obj j = some o' → ∀ q, o'.says q → q ≠ i := by
  intro j o' ho' q hq e
  subst e
  obtain ⟨hd', _, hO'⟩ := H.obj j o' ho'
  cases o' with
  | box cells => obtain ⟨b, cs, t, _, _, h1⟩ := hO'; exact hAs cells _ h1 hq
  | row e k xs => exact hq
  | map mk mv l z => exact hq
  | itr mk mv l left z cur => exact hq
 constructor
 ·intro j o' ho'
  rw [hobj] at ho'
  split at ho'
  ·rename_i e; subst e; cases ho'
   exact ⟨hd, by simp [Hd.put], hO⟩
  ·rename_i e
   obtain ⟨hd', h1, h2⟩ := H.obj j o' ho'
   refine ⟨hd', by simp [Hd.put, e, h1], h2.step st (fun b hb' => hg.block b (h2.base_le b hb') (by simp)) (hosay j o' ho')⟩
 ·intro j hd' e
  rw [hobj]
  unfold Hd.put at e
  split at e
  ·rename_i e1; rw [if_pos e1]; exact .inl ⟨o, rfl⟩
  ·rename_i e1; rw [if_neg e1]; exact H.dom j hd' e
 ·intro p q hp hq b e1 e2 b1 b2
  unfold Hd.put at e1 e2
  split at e1 <;> split at e2
  ·rename_i x y; rw [x, y]
  ·cases e1
   have := (H.own q hq b e2 b2).1
   have := (hb b b1).1
   omega
  ·cases e2
   have := (H.own p hp b e1 b1).1
   have := (hb b b2).1
   omega
  ·exact H.inj p q hp hq b e1 e2 b1 b2
 ·intro n hd' e
  have := H.old n hd' e
  unfold Hd.put
  rw [if_neg]
  ·exact this
  ·intro e2; rw [← e2, this] at hn; cases hn
 ·intro b
  unfold Hd.put
  rw [if_neg (fun e => hnx b e.symm)]
  exact H.pri b
 ·intro n o1 e q
  have e' : s'.obj (.g n) = some o1 := e
  rw [hobj] at e'
  split at e'
  ·rename_i e1; cases e'; exact hgl n e1.symm q
  ·exact H.gl n o1 e' q
 ·intro j hd' b e b1
  unfold Hd.put at e
  split at e
  ·cases e
   have := hb b b1
   exact ⟨this.2, .inr (.inl (Nat.le_trans H.sz this.1))⟩
  ·have := H.own j hd' b e b1
   exact ⟨Nat.lt_of_lt_of_le this.1 hg.size, this.2⟩
 ·exact hcl
 ·intro b hlt hno
  rw [hg.block b (Nat.lt_of_lt_of_le hlt H.sz) (by simp)]
  exact H.fr b hlt hno
 ·exact Nat.le_trans H.sz hg.size
 ·exact hg.os.trans H.os
 ·exact hg.tape.trans H.tape
 ·exact hg.output.trans H.output
 ·exact H.nt
 ·exact H.dfr
 ·intro k v hk
  rw [ht] at hk
  exact (H.tmp k v hk).step st (hsay k v hk (H.tmp k v hk))
theorem Sim.new {E : Env} {h : Hd} {w w' : World} {a : Act} {s : S} (H : Sim E h w a s) (o : VO) (hd : Value) (hg : w.grownBy w' none)
  (hb : ∀ b, blk hd = some b → w.heap.size ≤ b ∧ b < w'.heap.size) (hO : OBJ (s.c + 1) (Hd.put h (.l s.c) hd) w' hd o) :
  Sim E (Hd.put h (.l s.c) hd) w' a (s.new o) := by
 refine H.newAt (.l s.c) o hd hg (Nat.le_succ _) rfl ?_ (fun q e => by cases e) (fun n e => by cases e) ?_ ?_ (fun n e => by cases e; rfl) (fun n e => by cases e) hb hO
 ·simp only [S.obj]
  cases e : lk s.L s.c with
  | none => rfl
  | some o' => exact absurd (H.cl _ _ e) (Nat.lt_irrefl _)
 ·intro j
  cases j with
  | l n => simp only [S.obj, S.new, lk, Id.l.injEq]
  | g n => simp [S.obj, S.new]
  | x n => simp [S.obj]
 ·intro n o' e
  simp only [S.new, lk] at e
  split at e
  ·rename_i e1; subst e1; exact Nat.lt_succ_self _
  ·exact Nat.lt_succ_of_lt (H.cl _ _ e)
theorem Sim.set {E : Env} {h : Hd} {w w' : World} {a : Act} {s : S} (H : Sim E h w a s) (i : Id) (o o' : VO) (hd : Value) (hi : s.obj i = some o) (hh : h i = some hd)
  (hos : w'.os = w.os) (htape : w'.tape = w.tape) (hout : w'.output = w.output) (hsz : w'.heap.size = w.heap.size) (hb : ∀ b, blk hd ≠ some b → w'.heap[b]? = w.heap[b]?)
  (hgl : ∀ n, i = .g n → ∀ q, ¬ o'.says (.l q)) (hO : OBJ s.c h w' hd o') : Sim E h w' a (s.set i o') := by
 have st : Stp s.c h w s.c h w' (fun _ => False) := by
  refine ⟨Nat.le_refl _, fun _ h => h, fun j _ _ hd' e => e, Nat.le_of_eq hsz.symm, fun b hlt hm => ⟨hb b (fun e => hm ⟨i, hd, hh, e⟩), hm⟩⟩
 have hobj : ∀ j, (s.set i o').obj j = if j = i then some o' else s.obj j := by
  intro j
  cases i with
  | l n => cases j with
   | l m => simp only [S.obj, S.set, lk_up, Id.l.injEq]
   | g m => simp [S.obj, S.set]
   | x m => simp [S.obj]
  | g n => cases j with
   | l m => simp [S.obj, S.set]
   | g m => simp only [S.obj, S.set, Id.g.injEq]
   | x m => simp [S.obj]
  | x n => cases hi
 have hc : (s.set i o').c = s.c := by cases i <;> rfl
 have ht : (s.set i o').t = s.t := by cases i <;> rfl
 constructor
 ·intro j o1 e
  rw [hobj] at e
  rw [hc]
  split at e
  ·rename_i e1; subst e1; cases e; exact ⟨hd, hh, hO⟩
  ·rename_i e1
   obtain ⟨hd', h1, h2⟩ := H.obj j o1 e
   refine ⟨hd', h1, h2.step st (fun b hb' => hb b fun e2 => e1 (H.inj j i hd' hd b h1 hh hb' e2)) (fun _ _ h => h)⟩
 ·intro j hd' e
  rw [hobj]
  split
  ·exact .inl ⟨_, rfl⟩
  ·exact H.dom j hd' e
 ·exact H.inj
 ·exact H.old
 ·exact H.pri
 ·intro n o1 e q
  have e' : (s.set i o').obj (.g n) = some o1 := e
  rw [hobj] at e'
  split at e'
  ·rename_i e1; cases e'; exact hgl n e1.symm q
  ·exact H.gl n o1 e' q
 ·intro j hd' b e b1
  rw [hsz]
  exact H.own j hd' b e b1
 ·intro n o1 e
  rw [hc]
  cases i with
  | l m =>
   simp only [S.set, lk_up] at e
   split at e
   ·rename_i e1; subst e1; exact H.cl _ _ hi
   ·exact H.cl _ _ e
  | g m => exact H.cl _ _ e
  | x m => exact H.cl _ _ e
 ·intro b hlt hno
  by_cases e : blk hd = some b
  ·rcases (H.own i hd b hh e).2 with ⟨n, h1, h2⟩ | h2 | ⟨q, h2⟩
   ·exact absurd e (hno n hd h2)
   ·omega
   ·subst h2; cases hi
  ·rw [hb b e]; exact H.fr b hlt hno
 ·rw [hsz]; exact H.sz
 ·exact hos.trans H.os
 ·exact htape.trans H.tape
 ·exact hout.trans H.output
 ·exact H.nt
 ·exact H.dfr
 ·intro k v hk
  rw [ht] at hk
  rw [hc]
  exact (H.tmp k v hk).step st (fun _ _ h => h)
theorem Sim.draws {E : Env} {h : Hd} {w w' : World} {a : Act} {s : S} (H : Sim E h w a s) (hh : w'.heap = w.heap) (hos : w'.os = w.os) (htape : w'.tape = w.tape) (hout : w'.output = w.output) : Sim E h w' a s := by
 have st : Stp s.c h w s.c h w' (fun _ => False) := ⟨Nat.le_refl _, fun _ h => h, fun j _ _ hd' e => e, Nat.le_of_eq (by rw [hh]), fun b hlt hm => ⟨by rw [hh], hm⟩⟩
 exact ⟨fun i o e => let ⟨hd, h1, h2⟩ := H.obj i o e; ⟨hd, h1, h2.step st (fun b _ => by rw [hh]) (fun _ _ h => h)⟩, H.dom, H.inj, H.old, H.pri, H.gl, fun i hd b e b1 => by rw [hh]; exact H.own i hd b e b1, H.cl,
  fun b h1 h2 => by rw [hh]; exact H.fr b h1 h2, by rw [hh]; exact H.sz, hos.trans H.os, htape.trans H.tape, hout.trans H.output, H.nt, H.dfr, fun k v hk => (H.tmp k v hk).step st (fun _ _ h => h)⟩
end Go.Proofs.YtnpnjhopgedhkaaGreat.V
namespace Go.Proofs.YtnpnjhopgedhkaaGreat.V
open Go.RowKit
universe u
structure TI where
 agg : Bool
 size : Nat
 bytes : Nat
 zero : Value
 flds : List (Nat × Nat)
 slc : Option Nat
def tAgg (P : Program) (T : TypeId) : Option Bool := match P.underlying T with
 | some (.struct _) => some true
 | some (.array ..) => some true
 | some _ => some false
 | none => none
def tFlds (P : Program) (T : TypeId) : List (Nat × Nat × Bool) := match P.underlying T with
 | some (.struct fs) => fs.toList.map fun f => (f.offset, P.cellsOf f.type, (P.info? f.type).isSome)
 | _ => []
def tSl (P : Program) (T : TypeId) : Option Nat := match P.underlying T with
 | some (.slice e) => some e
 | _ => none
def tInfo (P : Program) (T : TypeId) : Option (Nat × Nat × Option Value) := (P.info? T).map fun i => (i.size, i.bytes, i.zero)
structure OkTI (P : Program) (T : TypeId) (ti : TI) : Prop where
 agg : tAgg P T = some ti.agg
 info : tInfo P T = some (ti.size, ti.bytes, some ti.zero)
 flds : tFlds P T = ti.flds.map fun p => (p.1, p.2, true)
 slc : tSl P T = ti.slc
def Tab := List (Nat × TI)
def Tab.Ok (P : Program) (tab : Tab) : Prop := ∀ T ti, lk tab T = some ti → OkTI P T ti
section
variable {P : Program} {T : TypeId} {ti : TI}
theorem OkTI.run_agg (h : OkTI P T ti) (w : World) : (isAgg T).run P w = .ok ti.agg w := by
 have h := h.agg
 unfold tAgg at h
 unfold isAgg
 cases e : P.underlying T with
 | none => rw [e] at h; cases h
 | some d => rw [e] at h; rw [Sem.run_bind, run_underlying e w]; cases d <;> simp_all
theorem OkTI.getInfo (h : OkTI P T ti) : ∃ i, P.info? T = some i ∧ i.size = ti.size ∧ i.bytes = ti.bytes ∧ i.zero = some ti.zero := by
 have h := h.info
 unfold tInfo at h
 cases e : P.info? T with
 | none => rw [e] at h; cases h
 | some i => rw [e] at h; simp at h; exact ⟨i, rfl, h.1, h.2.1, h.2.2⟩
theorem OkTI.run_size (h : OkTI P T ti) (w : World) : (sizeOf T).run P w = .ok ti.size w := by
 obtain ⟨i, h1, h2, _⟩ := h.getInfo
 simp [sizeOf, typeInfo, h1, h2]
theorem OkTI.run_zero (h : OkTI P T ti) (w : World) : (zeroValue T).run P w = .ok ti.zero w := by
 obtain ⟨i, h1, _, _, h2⟩ := h.getInfo
 simp [zeroValue, typeInfo, h1, h2]
theorem OkTI.slice (h : OkTI P T ti) {e : Nat} (he : ti.slc = some e) : P.underlying T = some (.slice e) := by
 have h := h.slc
 rw [he] at h
 unfold tSl at h
 cases e1 : P.underlying T with
 | none => rw [e1] at h; cases h
 | some d => rw [e1] at h; cases d <;> simp_all
theorem OkTI.struct (h : OkTI P T ti) (hn : ti.flds ≠ []) : ∃ fs, P.underlying T = some (.struct fs) ∧ fs.toList.map (fun f => (f.offset, P.cellsOf f.type, (P.info? f.type).isSome)) = ti.flds.map fun p => (p.1, p.2, true) := by
 have h := h.flds
 unfold tFlds at h
 cases e1 : P.underlying T with
 | none => rw [e1] at h; simp at h; exact absurd h (by intro e; exact hn e)
 | some d =>
  rw [e1] at h
  cases d
  case struct fs => exact ⟨fs, rfl, h⟩
  all_goals (simp at h; exact absurd h (by intro e; exact hn e))
theorem OkTI.field (h : OkTI P T ti) {f off n : Nat} (hf : ti.flds[f]? = some (off, n)) : ∃ fs fd i, P.underlying T = some (.struct fs) ∧ fs[f]? = some fd ∧ fd.offset = off ∧ P.info? fd.type = some i ∧ i.size = n := by
 obtain ⟨fs, h1, h2⟩ := h.struct (by intro e; rw [e] at hf; cases hf)
 have h3 := congrArg (fun l => l[f]?) h2
 simp only [List.getElem?_map, hf, Option.map_some] at h3
 cases e : fs.toList[f]? with
 | none => rw [e] at h3; cases h3
 | some fd =>
  rw [e] at h3
  simp only [Option.map_some, Option.some.injEq, Prod.mk.injEq] at h3
  obtain ⟨h4, h5, h6⟩ := h3
  obtain ⟨i, hi⟩ := Option.isSome_iff_exists.1 h6
  refine ⟨fs, fd, i, h1, by simpa using e, h4, hi, ?_⟩
  simpa [Program.cellsOf, hi] using h5
end
def ev (s : S) : Operand → Option AV
 | .tmp t => lk s.t t
 | .const v => some (.a (.d (.v v)))
 | .func f => some (.fn f [])
 | .global _ => none
theorem Sim.ev {E : Env} {h : Hd} {w : World} {a : Act} {s : S} (H : Sim E h w a s) {x : Operand} {v : AV} (hx : ev s x = some v) : RV s.c h w v (a.eval x) := by
 cases x with
 | tmp t => exact H.tmp t v hx
 | const u => cases hx; rfl
 | func f => cases hx; exact ⟨#[], rfl, rfl, fun j x v h => by simp at h⟩
 | global g => cases hx
def fl (s : S) (x : Operand) : Option Value := match ev s x with
 | some (.a (.d (.v v))) => some v
 | _ => none
theorem Sim.fl {E : Env} {h : Hd} {w : World} {a : Act} {s : S} (H : Sim E h w a s) {x : Operand} {v : Value} (hx : fl s x = some v) : a.eval x = v := by
 unfold V.fl at hx
 split at hx
 ·rename_i u e; cases hx; exact H.ev e
 ·cases hx
def QK (E : Env) (K : S → Prop) : Exit → Act → World → Prop := fun e a w => e = .normal ∧ ∃ h s, Sim E h w a s ∧ K s
def VR (P : Program) (E : Env) (ops : Array Oper) (l : List Oper) (s : S) (K : S → Prop) : Prop := ∀ h w a, Sim E h w a s → wpList P ops (QK E K) l a w
section
variable {P : Program} {E : Env} {ops : Array Oper} {rest : List Oper} {s : S} {K : S → Prop}
theorem VR.done (h : K s) : VR P E ops [] s K := fun hd _ _ H => ⟨rfl, hd, s, H, h⟩
theorem VR.val {o : Oper} (hg : o.guard = none) {d : Nat} (hd : o.dst = some d) (hn : d < E.nt) (v : AV)
  (H : ∀ h w a, Sim E h w a s → ∃ x, (execOp a.eval o).run P w = .ok (.value x) w ∧ RV s.c h w v x) (k : VR P E ops rest (s.put d v) K) : VR P E ops (o :: rest) s K := by
 intro h w a hs
 refine wpList_plain hg fun Kc hK => ?_
 obtain ⟨x, h1, h2⟩ := H h w a hs
 unfold Oper.wp
 rw [h1]
 show Kc (a.put o.dst x) w
 rw [hd]
 exact hK _ _ (k h w _ (hs.put d hn v x h2))
variable {c : Nat} {t : List (Nat × AV)} {L : List (Nat × VO)} {G : Nat → Option VO} {d ty : Nat} {pos : String} {af : Array Edge}
theorem VR.move {x : Operand} {v : AV} (hn : Nat.ble (d + 1) E.nt = true) (hx : ev ⟨c, t, L, G⟩ x = some v) (k : VR P E ops rest ⟨c, (d, v) :: t, L, G⟩ K) :
  VR P E ops (⟨some d, .move x, ty, pos, af, none⟩ :: rest) ⟨c, t, L, G⟩ K :=
 VR.val rfl rfl (Nat.le_of_ble_eq_true hn) v (fun h w a H => ⟨_, rfl, H.ev hx⟩) k
theorem VR.assign {x : Operand} {v : AV} (hn : Nat.ble (d + 1) E.nt = true) (hx : ev ⟨c, t, L, G⟩ x = some v) (k : VR P E ops rest ⟨c, (d, v) :: t, L, G⟩ K) :
  VR P E ops (⟨some d, .assign x, ty, pos, af, none⟩ :: rest) ⟨c, t, L, G⟩ K :=
 VR.val rfl rfl (Nat.le_of_ble_eq_true hn) v (fun h w a H => ⟨_, rfl, H.ev hx⟩) k
theorem VR.pick {b : Bool} {q x y : Operand} {v : AV} (hn : Nat.ble (d + 1) E.nt = true) (hq : fl ⟨c, t, L, G⟩ q = some (.bool b)) (hx : (match b with | true => ev ⟨c, t, L, G⟩ x | false => ev ⟨c, t, L, G⟩ y) = some v)
  (k : VR P E ops rest ⟨c, (d, v) :: t, L, G⟩ K) : VR P E ops (⟨some d, .pick q x y, ty, pos, af, none⟩ :: rest) ⟨c, t, L, G⟩ K := by
 refine VR.val rfl rfl (Nat.le_of_ble_eq_true hn) v (fun h w a H => ?_) k
 cases b with
 | true => exact ⟨a.eval x, by simp [execOp, H.fl hq, asBool], H.ev hx⟩
 | false => exact ⟨a.eval y, by simp [execOp, H.fl hq, asBool], H.ev hx⟩
theorem VR.extract {x : Operand} {n : Nat} {l : List A} {v : A} (hn : Nat.ble (d + 1) E.nt = true) (hx : ev ⟨c, t, L, G⟩ x = some (.tup l)) (hv : l[n]? = some v)
  (k : VR P E ops rest ⟨c, (d, .a v) :: t, L, G⟩ K) : VR P E ops (⟨some d, .extract x n, ty, pos, af, none⟩ :: rest) ⟨c, t, L, G⟩ K := by
 refine VR.val rfl rfl (Nat.le_of_ble_eq_true hn) (.a v) (fun h w a H => ?_) k
 obtain ⟨vs, h1, h2, h3⟩ := H.ev hx
 have hlt : n < vs.toList.length := by rw [← h2]; exact (List.getElem?_eq_some_iff.1 hv).1
 refine ⟨vs.toList[n], ?_, h3 n v _ hv (List.getElem?_eq_getElem hlt)⟩
 have : vs[n]? = some vs.toList[n] := by simp at hlt ⊢
 simp [execOp, h1, Instr.extract, this]
theorem VR.bin {op : BinOp} {T Ty : TypeId} {x y : Operand} {p q r : Value} (hn : Nat.ble (d + 1) E.nt = true) (hx : fl ⟨c, t, L, G⟩ x = some p) (hy : fl ⟨c, t, L, G⟩ y = some q)
  (hr : ∀ w, (do eqGuard op T x y p q; binOp op T p q : Sem Value).run P w = .ok r w)
  (k : VR P E ops rest ⟨c, (d, .a (.d (.v r))) :: t, L, G⟩ K) : VR P E ops (⟨some d, .binOp op T x y Ty, ty, pos, af, none⟩ :: rest) ⟨c, t, L, G⟩ K := by
 refine VR.val rfl rfl (Nat.le_of_ble_eq_true hn) (.a (.d (.v r))) (fun h w a H => ⟨r, ?_, rfl⟩) k
 have := hr w
 simp only [execOp, H.fl hx, H.fl hy]
 rw [Sem.run_bind, this]
 rfl
def ib (op : BinOp) (k : IntKind) (a b : Int) : Option Value := match op with
 | .eql => some (.bool (a == b))
 | .neq => some (.bool (a != b))
 | .lss => some (.bool (decide (a < b)))
 | .leq => some (.bool (decide (a ≤ b)))
 | .gtr => some (.bool (decide (a > b)))
 | .geq => some (.bool (decide (a ≥ b)))
 | .add => some (.int k (k.wrap (a + b)))
 | .sub => some (.int k (k.wrap (a - b)))
 | .mul => some (.int k (k.wrap (a * b)))
 | .and => some (.int k (bits .and k a b))
 | .or => some (.int k (bits .or k a b))
 | .xor => some (.int k (bits .xor k a b))
 | .andNot => some (.int k (bits .andNot k a b))
 | _ => none
theorem ib_run {op : BinOp} {k : IntKind} {a b : Int} {r : Value} (h : ib op k a b = some r) (T : TypeId) (x y : Operand) (w : World) : (do eqGuard op T x y (.int k a) (.int k b); binOp op T (.int k a) (.int k b) : Sem Value).run P w = .ok r w := by
 have hg : (eqGuard op T x y (.int k a) (.int k b)).run P w = .ok () w := by
  unfold eqGuard
  split <;> rfl
 rw [Sem.run_bind, hg]
 cases op <;> simp only [ib, Option.some.injEq, reduceCtorEq] at h <;> subst h <;> simp [binOp, Op.intCmp, Op.intArith, Op.intBits, bits] <;> rfl
theorem VR.int {op : BinOp} {T Ty : TypeId} {x y : Operand} {kd : IntKind} {p q : Int} {r : Value} (hn : Nat.ble (d + 1) E.nt = true) (hx : fl ⟨c, t, L, G⟩ x = some (.int kd p)) (hy : fl ⟨c, t, L, G⟩ y = some (.int kd q))
  (hr : ib op kd p q = some r)
  (k : VR P E ops rest ⟨c, (d, .a (.d (.v r))) :: t, L, G⟩ K) : VR P E ops (⟨some d, .binOp op T x y Ty, ty, pos, af, none⟩ :: rest) ⟨c, t, L, G⟩ K :=
 VR.bin hn hx hy (ib_run hr T x y) k
theorem VR.not {T : TypeId} {x : Operand} {b : Bool} (hn : Nat.ble (d + 1) E.nt = true) (hx : fl ⟨c, t, L, G⟩ x = some (.bool b))
  (k : VR P E ops rest ⟨c, (d, .a (.d (.v (.bool (!b))))) :: t, L, G⟩ K) : VR P E ops (⟨some d, .unOp .not T x, ty, pos, af, none⟩ :: rest) ⟨c, t, L, G⟩ K :=
 VR.val rfl rfl (Nat.le_of_ble_eq_true hn) (.a (.d (.v (.bool (!b))))) (fun h w a H => ⟨.bool (!b), by simp [execOp, H.fl hx, Op.unary], rfl⟩) k
theorem VR.neg {T : TypeId} {x : Operand} {kd : IntKind} {p : Int} (hn : Nat.ble (d + 1) E.nt = true) (hx : fl ⟨c, t, L, G⟩ x = some (.int kd p))
  (k : VR P E ops rest ⟨c, (d, .a (.d (.v (.int kd (kd.wrap (0 - p)))))) :: t, L, G⟩ K) : VR P E ops (⟨some d, .unOp .neg T x, ty, pos, af, none⟩ :: rest) ⟨c, t, L, G⟩ K :=
 VR.val rfl rfl (Nat.le_of_ble_eq_true hn) (.a (.d (.v (.int kd (kd.wrap (0 - p)))))) (fun h w a H => ⟨.int kd (kd.wrap (0 - p)), by simp [execOp, H.fl hx, Op.unary, Op.intArith], rfl⟩) k
theorem wanted_of {a : Act} {h : Hd} {w : World} {j tj : Nat} {b want : Bool} (H : Sim E h w a s) (hj : (ops[j]?).bind (·.dst) = some tj) (hb : fl s (.tmp tj) = some (.bool b)) (o : Oper) (ho : o.guard = some (j, want)) :
  Region.wanted o (yielded ops a.tmps) = (b == want) := by
 have h1 := H.fl hb
 simp only [Act.eval] at h1
 have h2 : a.tmps[tj]? = some (.bool b) := by
  rw [Array.getD_eq_getD_getElem?] at h1
  cases e : a.tmps[tj]? with
  | none => rw [e] at h1; simp [undef] at h1
  | some v => rw [e] at h1; simp at h1; rw [h1]
 unfold Region.wanted
 rw [ho]
 simp only [yielded, hj, Option.bind_some, h2]
 cases b <;> cases want <;> rfl
theorem VR.g_yes {dst : Option Tmp} {op : Op} {j tj : Nat} {want b : Bool} (hj : (ops[j]?).bind (·.dst) = some tj) (hb : fl s (.tmp tj) = some (.bool b)) (hw : b = want)
  (k : VR P E ops (⟨dst, op, ty, pos, af, none⟩ :: rest) s K) : VR P E ops (⟨dst, op, ty, pos, af, some (j, want)⟩ :: rest) s K := by
 intro h w a H
 have h1 := k h w a H
 have hwt := wanted_of (ops := ops) H hj hb ⟨dst, op, ty, pos, af, some (j, want)⟩ rfl
 rw [hw] at hwt
 unfold wpList at h1 ⊢
 rw [if_pos (by simp [Region.wanted])] at h1
 rw [if_pos (by rw [hwt]; simp)]
 exact h1
theorem VR.g_no {op : Op} {j tj : Nat} {want b : Bool} (hn : Nat.ble (d + 1) E.nt = true) (hj : (ops[j]?).bind (·.dst) = some tj) (hb : fl ⟨c, t, L, G⟩ (.tmp tj) = some (.bool b)) (hw : b = !want)
  (k : VR P E ops rest ⟨c, (d, .a .top) :: t, L, G⟩ K) : VR P E ops (⟨some d, op, ty, pos, af, some (j, want)⟩ :: rest) ⟨c, t, L, G⟩ K := by
 intro h w a H
 have hwt := wanted_of (ops := ops) H hj hb ⟨some d, op, ty, pos, af, some (j, want)⟩ rfl
 unfold wpList
 rw [if_neg (by rw [hwt, hw]; cases want <;> simp)]
 exact k h w _ (H.put d (Nat.le_of_ble_eq_true hn) (.a .top) undef trivial)
theorem Sim.reput {h : Hd} {w : World} {a : Act} {t t' : List (Nat × AV)} (H : Sim E h w a ⟨c, t, L, G⟩) (ht : ∀ i v, lk t' i = some v → RV c h w v (a.tmps.getD i undef)) : Sim E h w a ⟨c, t', L, G⟩ :=
 ⟨H.obj, H.dom, H.inj, H.old, H.pri, H.gl, H.own, H.cl, H.fr, H.sz, H.os, H.tape, H.output, H.nt, H.dfr, ht⟩
end
end Go.Proofs.YtnpnjhopgedhkaaGreat.V
namespace Go.Proofs.YtnpnjhopgedhkaaGreat.V
open Go.RowKit
universe u
def place (s : S) : A → Option (List A)
 | .ptr i off => match s.obj i with
  | some (.box cells) => some (cells.drop off)
  | _ => none
 | .el _ xs j off => match xs[j]? with
  | some x => some ((x.cells.toList.map fun c => A.d (.v c)).drop off)
  | none => none
 | .oel i k j off => match s.obj i with
  | some (.row _ k' xs) => if k = k' then (match xs[j]? with
   | some x => some ((x.cells.toList.map fun c => A.d (.v c)).drop off)
   | none => none) else none
  | _ => none
 | _ => none
theorem cells_at : ∀ (xs : List Value) (k : Nat) (hs : ∀ x ∈ xs, x.cells.size = k) (j : Nat) (x : Value), xs[j]? = some x → ∀ i c, x.cells.toList[i]? = some c → (cellsL xs)[j * k + i]? = some c
 | [], k, _, j, x, h, _, _, _ => by simp at h
 | y :: xs, k, hs, 0, x, h, i, c, hc => by
  simp only [List.getElem?_cons_zero, Option.some.injEq] at h
  subst h
  have hi : i < y.cells.toList.length := (List.getElem?_eq_some_iff.1 hc).1
  simp only [cellsL, List.flatMap_cons, Nat.zero_mul, Nat.zero_add]
  rw [List.getElem?_append_left hi]; exact hc
 | y :: xs, k, hs, j + 1, x, h, i, c, hc => by
  simp only [List.getElem?_cons_succ] at h
  have ih := cells_at xs k (fun z hz => hs z (List.mem_cons_of_mem _ hz)) j x h i c hc
  have hy : y.cells.toList.length = k := by simpa using hs y (by simp)
  simp only [cellsL, List.flatMap_cons] at ih ⊢
  rw [List.getElem?_append_right (by rw [hy, Nat.add_mul]; omega), hy]
  rw [show (j + 1) * k + i - k = j * k + i by rw [Nat.add_mul]; omega]
  exact ih
theorem Sim.place {E : Env} {h : Hd} {w : World} {a : Act} {s : S} (H : Sim E h w a s) {p : A} {cs : List A} (hp : place s p = some cs) {x : Value} (hx : RA s.c h w p x) :
  ∃ b o, x = .pointer (some ⟨b, o, none⟩) ∧ ∀ j c, cs[j]? = some c → ∃ u, w.cell? ⟨b, o + j, none⟩ = some u ∧ RA s.c h w c u := by
 cases p with
 | ptr i off =>
  simp only [V.place] at hp
  split at hp
  ·rename_i cells ho
   cases hp
   obtain ⟨hd, h1, h2⟩ := H.obj i _ ho
   obtain ⟨b, c0, t, rfl, h4, h5, h6⟩ := h2
   obtain ⟨b', e, rfl⟩ := hx.2.2 _ h1
   cases e
   refine ⟨b, off, rfl, fun j c hc => ?_⟩
   rw [List.getElem?_drop] at hc
   have hlt : off + j < c0.toList.length := by rw [← h5]; exact (List.getElem?_eq_some_iff.1 hc).1
   refine ⟨c0.toList[off + j], ?_, h6 _ _ _ hc (List.getElem?_eq_getElem hlt)⟩
   rw [cell_of_row w b (off + j) c0 t (0, 0) h4]
   simp at hlt ⊢
  ·cases hp
 | el k xs j off =>
  simp only [V.place] at hp
  split at hp
  ·rename_i x0 hx0
   cases hp
   obtain ⟨b, o, rfl, hi⟩ := hx
   refine ⟨b, o + j * k + off, rfl, fun q c hc => ?_⟩
   rw [List.getElem?_drop, List.getElem?_map] at hc
   cases e : x0.cells.toList[off + q]? with
   | none => rw [e] at hc; cases hc
   | some u =>
    rw [e] at hc; cases hc
    refine ⟨u, ?_, rfl⟩
    have := hi.cell _ _ (cells_at xs k hi.sz j x0 hx0 (off + q) u e)
    rw [← this]
    congr 2
    omega
  ·cases hp
 | oel i k j off =>
  simp only [V.place] at hp
  split at hp
  ·rename_i e0 k' xs ho
   split at hp
   ·rename_i hk
    subst hk
    split at hp
    ·rename_i x0 hx0
     cases hp
     obtain ⟨hd, h1, h2, h3, h4⟩ := H.obj i _ ho
     obtain ⟨b, n, cap, rfl, rfl⟩ := hx.2.2 _ h1
     refine ⟨b, j * k + off, rfl, fun q c hc => ?_⟩
     rw [List.getElem?_drop, List.getElem?_map] at hc
     cases e : x0.cells.toList[off + q]? with
     | none => rw [e] at hc; cases hc
     | some u =>
      rw [e] at hc; cases hc
      refine ⟨u, ?_, rfl⟩
      have := h2.cells (g := b) rfl _ _ (cells_at xs k h3 j x0 hx0 (off + q) u e)
      rw [← this]
      congr 1
      unfold Addr.add
      split <;> simp_all <;> omega
    ·cases hp
   ·cases hp
  ·cases hp
 | _ => simp [V.place] at hp
def flats : List A → Option (List Value)
 | [] => some []
 | .d (.v x) :: l => match flats l with
  | some vs => some (x :: vs)
  | none => none
 | _ :: _ => none
theorem flats_spec : ∀ (l : List A) (vs : List Value), flats l = some vs → l = vs.map fun v => A.d (.v v)
 | [], vs, h => by cases h; rfl
 | a :: l, vs, h => by
  unfold flats at h
  split at h
  ·rename_i e; cases e
  ·rename_i x l' e
   cases e
   split at h
   ·rename_i us hu
    cases h
    rw [flats_spec l us hu]; rfl
   ·cases h
  ·cases h
def ldv (agg : Bool) (n : Nat) (cs : List A) : Option AV := match agg with
 | true => if n ≤ cs.length then (match flats (cs.take n) with
  | some vs => some (.a (.d (.v (.agg vs.toArray))))
  | none => some (.agg (cs.take n))) else none
 | false => match cs with
  | x :: _ => some (.a x)
  | [] => none
section
variable {P : Program} {E : Env} {ops : Array Oper} {rest : List Oper} {s : S} {K : S → Prop}
variable {c : Nat} {t : List (Nat × AV)} {L : List (Nat × VO)} {G : Nat → Option VO} {d ty : Nat} {pos : String} {af : Array Edge} {tab : Tab}
def eva (s : S) (x : Operand) : Option A := match ev s x with
 | some (.a v) => some v
 | _ => none
theorem Sim.eva {h : Hd} {w : World} {a : Act} (H : Sim E h w a s) {x : Operand} {v : A} (hx : eva s x = some v) : RA s.c h w v (a.eval x) := by
 unfold V.eva at hx
 split at hx
 ·rename_i u e; cases hx; exact H.ev e
 ·cases hx
theorem run_load_cells {w : World} {b o : Nat} {T : TypeId} {ti : TI} (ht : OkTI P T ti) {us : List Value} (hn : us.length = ti.size) (hagg : ti.agg = true) (hc : ∀ j u, us[j]? = some u → w.cell? ⟨b, o + j, none⟩ = some u) :
  (loadVar T ⟨b, o, none⟩).run P w = .ok (.agg us.toArray) w := by
 have h1 := run_loadCells_list (P := P) w ⟨b, o, none⟩ us (fun j v hv => by
  have : (⟨b, o, none⟩ : Addr).add j = ⟨b, o + j, none⟩ := by unfold Addr.add; split <;> simp_all
  rw [this]; exact hc j v hv)
 unfold loadVar
 rw [Sem.run_bind, ht.run_agg w, hagg]
 simp only [Result.andThen_ok, if_true]
 rw [Sem.run_bind, ht.run_size w]
 simp only [Result.andThen_ok]
 rw [Sem.run_bind, ← hn, h1]
 rfl
theorem run_load_one {w : World} {b o : Nat} {T : TypeId} {ti : TI} (ht : OkTI P T ti) {u : Value} (hagg : ti.agg = false) (hc : w.cell? ⟨b, o, none⟩ = some u) :
  (loadVar T ⟨b, o, none⟩).run P w = .ok u w := by
 unfold loadVar
 rw [Sem.run_bind, ht.run_agg w, hagg]
 simp [load, Sem.run, hc]
theorem map_get {α β : Type} (f : α → β) (l : List α) (j : Nat) (y : β) (h : (l.map f)[j]? = some y) : ∃ x, l[j]? = some x ∧ f x = y := by
 rw [List.getElem?_map] at h
 cases e : l[j]? with
 | none => rw [e] at h; cases h
 | some x => rw [e] at h; exact ⟨x, rfl, by simpa using h⟩
theorem ld_sound {w : World} {h : Hd} {b o : Nat} {T : TypeId} {ti : TI} (ht : OkTI P T ti) {cs : List A} {v : AV} (hv : ldv ti.agg ti.size cs = some v)
  (hc : ∀ j x, cs[j]? = some x → ∃ u, w.cell? ⟨b, o + j, none⟩ = some u ∧ RA c h w x u) : ∃ u, (loadVar T ⟨b, o, none⟩).run P w = .ok u w ∧ RV c h w v u := by
 unfold ldv at hv
 split at hv
 ·rename_i hagg
  split at hv
  ·rename_i hn
   have : ∃ us : List Value, us.length = ti.size ∧ (∀ j u, us[j]? = some u → w.cell? ⟨b, o + j, none⟩ = some u) ∧ RAs c h w (cs.take ti.size) us := by
    have hg : ∀ j, j < ti.size → ∃ u x, cs[j]? = some x ∧ w.cell? ⟨b, o + j, none⟩ = some u ∧ RA c h w x u := fun j hj => by
     have hlt : j < cs.length := Nat.lt_of_lt_of_le hj hn
     obtain ⟨u, h1, h2⟩ := hc j _ (List.getElem?_eq_getElem hlt)
     exact ⟨u, _, List.getElem?_eq_getElem hlt, h1, h2⟩
    refine ⟨(List.range ti.size).map fun j => (w.cell? ⟨b, o + j, none⟩).getD undef, by simp, ?_, by simp [Nat.min_eq_left hn], ?_⟩
    ·intro j u hu
     obtain ⟨q, hq, rfl⟩ := map_get _ _ _ _ hu
     have hj : j < ti.size := by simpa using (List.getElem?_eq_some_iff.1 hq).1
     have : q = j := by
      have := (List.getElem?_eq_some_iff.1 hq).2
      simpa using this.symm
     subst this
     obtain ⟨u, x, _, h1, _⟩ := hg q hj
     rw [h1]; rfl
    ·intro j x u hx hu
     obtain ⟨q, hq, rfl⟩ := map_get _ _ _ _ hu
     have hj : j < ti.size := by simpa using (List.getElem?_eq_some_iff.1 hq).1
     have : q = j := by
      have := (List.getElem?_eq_some_iff.1 hq).2
      simpa using this.symm
     subst this
     obtain ⟨u, x', h0, h1, h2⟩ := hg q hj
     rw [List.getElem?_take, if_pos hj, h0] at hx
     cases hx
     rw [h1]; exact h2
   obtain ⟨us, hl, h1, h2⟩ := this
   refine ⟨.agg us.toArray, run_load_cells ht hl hagg h1, ?_⟩
   split at hv
   ·rename_i vs hf
    cases hv
    have := flats_spec _ _ hf
    rw [this] at h2
    show Value.agg us.toArray = Value.agg vs.toArray
    congr 2
    apply List.ext_getElem?
    intro j
    rcases h2 with ⟨h3, h4⟩
    cases e : us[j]? with
    | none =>
     rw [List.getElem?_eq_none_iff] at e
     symm
     rw [List.getElem?_eq_none_iff]
     have h3' : vs.length = us.length := by simpa using h3
     rw [h3']; exact e
    | some u =>
     have hlt := (List.getElem?_eq_some_iff.1 e).1
     have hlt2 : j < vs.length := by rw [← h3] at hlt; simpa using hlt
     have := h4 j (.d (.v vs[j])) u (by rw [List.getElem?_map, List.getElem?_eq_getElem hlt2]; rfl) e
     rw [List.getElem?_eq_getElem hlt2]
     exact congrArg some this
   ·cases hv
    exact ⟨us.toArray, rfl, by simpa using h2⟩
  ·cases hv
 ·rename_i hagg
  split at hv
  ·rename_i x l
   cases hv
   obtain ⟨u, h1, h2⟩ := hc 0 x rfl
   exact ⟨u, run_load_one ht hagg h1, h2⟩
  ·cases hv
def ldp (s : S) (agg : Bool) (n : Nat) : A → Option AV
 | .el k xs j off => match xs[j]? with
  | none => none
  | some u => match off with
   | 0 => match agg with
    | true => match u with
     | .agg cs => if cs.size = n then some (.a (.d (.v u))) else ldv true n (cs.toList.map fun c => A.d (.v c))
     | _ => none
    | false => match u with
     | .agg cs => ldv false n (cs.toList.map fun c => A.d (.v c))
     | .tuple _ => none
     | _ => some (.a (.d (.v u)))
   | off + 1 => ldv agg n ((u.cells.toList.map fun c => A.d (.v c)).drop (off + 1))
 | p => match place s p with
  | some cs => ldv agg n cs
  | none => none
theorem VR.load {T : TypeId} {ti : TI} {x : Operand} {p : A} {v : AV} (hT : Tab.Ok P tab) (hn : Nat.ble (d + 1) E.nt = true) (hti : lk tab T = some ti) (hx : eva ⟨c, t, L, G⟩ x = some p)
  (hv : ldp ⟨c, t, L, G⟩ ti.agg ti.size p = some v) (k : VR P E ops rest ⟨c, (d, v) :: t, L, G⟩ K) : VR P E ops (⟨some d, .load T x, ty, pos, af, none⟩ :: rest) ⟨c, t, L, G⟩ K := by
 refine VR.val rfl rfl (Nat.le_of_ble_eq_true hn) v (fun h w a H => ?_) k
 have gen : ∀ cs, place ⟨c, t, L, G⟩ p = some cs → ∀ v', ldv ti.agg ti.size cs = some v' → ∃ u, (execOp a.eval (⟨some d, .load T x, ty, pos, af, none⟩ : Oper)).run P w = .ok (.value u) w ∧ RV c h w v' u := by
  intro cs hp v' hv'
  obtain ⟨b, o, h1, h2⟩ := H.place hp (H.eva hx)
  obtain ⟨u, h3, h4⟩ := ld_sound (hT T ti hti) hv' h2
  refine ⟨u, ?_, h4⟩
  simp only [execOp, h1, Instr.loadAt, Instr.sureAddr, Sem.run_bind, Sem.run_pure, Result.andThen_ok, h3]
 cases p with
 | el k xs j off =>
  simp only [ldp] at hv
  cases hj : xs[j]? with
  | none => rw [hj] at hv; cases hv
  | some u =>
   rw [hj] at hv
   have hpl : ∀ o, place ⟨c, t, L, G⟩ (.el k xs j o) = some ((u.cells.toList.map fun c => A.d (.v c)).drop o) := fun o => by simp only [place, hj]
   cases off with
   | succ off => exact gen _ (hpl _) v hv
   | zero =>
    simp only at hv
    cases hagg : ti.agg with
    | true =>
     rw [hagg] at hv
     simp only at hv
     split at hv
     ·rename_i cs
      split at hv
      ·rename_i hsz
       cases hv
       refine gen _ (hpl 0) _ ?_
       rw [hagg]
       have hfl : ∀ l : List Value, flats (l.map fun c => A.d (.v c)) = some l := by
        intro l
        induction l with
        | nil => rfl
        | cons y l ih => simp only [List.map_cons, flats, ih]
       simp only [ldv, Value.cells, List.drop_zero]
       rw [if_pos (by simp [hsz]), List.take_of_length_le (by simp [hsz]), hfl]
      ·refine gen _ (hpl 0) v ?_
       rw [hagg]; exact hv
     ·cases hv
    | false =>
     rw [hagg] at hv
     simp only at hv
     split at hv
     ·rename_i cs
      refine gen _ (hpl 0) v ?_
      rw [hagg]; exact hv
     ·cases hv
     ·rename_i h1 h2
      cases hv
      refine gen _ (hpl 0) _ ?_
      rw [hagg]
      have : u.cells = #[u] := by cases u <;> first | rfl | exact absurd rfl (h1 _) | exact absurd rfl (h2 _)
      simp [ldv, this]
 | _ =>
  simp only [ldp] at hv
  split at hv
  ·rename_i cs hp; exact gen cs hp v hv
  ·cases hv
theorem VR.nilCheck {x : Operand} {p : A} {cs : List A} (hn : Nat.ble (d + 1) E.nt = true) (hx : eva ⟨c, t, L, G⟩ x = some p) (hp : place ⟨c, t, L, G⟩ p = some cs)
  (k : VR P E ops rest ⟨c, (d, .a p) :: t, L, G⟩ K) : VR P E ops (⟨some d, .nilCheck x, ty, pos, af, none⟩ :: rest) ⟨c, t, L, G⟩ K := by
 refine VR.val rfl rfl (Nat.le_of_ble_eq_true hn) (.a p) (fun h w a H => ?_) k
 obtain ⟨b, o, h1, h2⟩ := H.place hp (H.eva hx)
 refine ⟨a.eval x, ?_, H.eva hx⟩
 simp [execOp, h1]
def fld (off : Nat) : A → Option A
 | .ptr i o => some (.ptr i (o + off))
 | .el k xs j o => some (.el k xs j (o + off))
 | .oel i k j o => some (.oel i k j (o + off))
 | _ => none
theorem VR.fieldAddr {T : TypeId} {ti : TI} {x : Operand} {f off n : Nat} {p q : A} {cs : List A} (hT : Tab.Ok P tab) (hn : Nat.ble (d + 1) E.nt = true) (hti : lk tab T = some ti) (hx : eva ⟨c, t, L, G⟩ x = some p) (hp : place ⟨c, t, L, G⟩ p = some cs)
  (hf : ti.flds[f]? = some (off, n + 1)) (hq : fld off p = some q) (k : VR P E ops rest ⟨c, (d, .a q) :: t, L, G⟩ K) :
  VR P E ops (⟨some d, .fieldAddr T x f, ty, pos, af, none⟩ :: rest) ⟨c, t, L, G⟩ K := by
 refine VR.val rfl rfl (Nat.le_of_ble_eq_true hn) (.a q) (fun h w a H => ?_) k
 have hr := H.eva hx
 obtain ⟨b, o, h1, h2⟩ := H.place hp hr
 obtain ⟨fs, fd, i, g1, g2, g3, g4, g5⟩ := (hT T ti hti).field hf
 have hadd : (⟨b, o, none⟩ : Addr).add off = ⟨b, o + off, none⟩ := by unfold Addr.add; split <;> simp_all
 refine ⟨.pointer (some ⟨b, o + off, none⟩), ?_, ?_⟩
 ·simp [execOp, h1, Instr.fieldAt, run_underlying g1, g2, Instr.sureAddr, fieldPlace, sizeOf, typeInfo, g4, g5, g3, hadd]
 ·rw [h1] at hr
  cases p with
  | ptr i' o' =>
   cases hq
   refine ⟨hr.1, rfl, fun hd hh => ?_⟩
   obtain ⟨b', e1, e2⟩ := hr.2.2 hd hh
   cases e2
   exact ⟨_, e1, rfl⟩
  | el k' xs j o' =>
   cases hq
   obtain ⟨b', o2, e1, e2⟩ := hr
   cases e1
   exact ⟨b, o2, by simp [Nat.add_assoc], e2⟩
  | oel i' k' j o' =>
   cases hq
   refine ⟨hr.1, rfl, fun hd hh => ?_⟩
   obtain ⟨b', n', cap, e1, e2⟩ := hr.2.2 hd hh
   cases e2
   exact ⟨_, _, _, e1, by simp [Nat.add_assoc]⟩
  | _ => cases hq
def lenA (s : S) : A → Option Nat
 | .d (.lst _ xs) => some xs.length
 | .d (.v (.slice none 0 0)) => some 0
 | .own i => match s.obj i with
  | some (.row _ _ xs) => some xs.length
  | _ => none
 | _ => none
theorem Sim.lenA {h : Hd} {w : World} {a : Act} (H : Sim E h w a s) {p : A} {n : Nat} (hp : lenA s p = some n) {x : Value} (hx : RA s.c h w p x) : ∃ ad cap, x = .slice ad n cap := by
 unfold V.lenA at hp
 split at hp
 ·cases hp
  rcases hx with ⟨rfl, ad, cap, rfl⟩ | ⟨b, o, cap, rfl, _⟩
  ·exact ⟨_, _, rfl⟩
  ·exact ⟨_, _, rfl⟩
 ·cases hp; exact ⟨_, _, hx⟩
 ·split at hp
  ·rename_i i _ e k xs ho
   cases hp
   obtain ⟨hd, h1, h2, h3, h4⟩ := H.obj _ _ ho
   have := hx.2.2 _ h1
   subst this
   rcases h2.2 with ⟨rfl, e1⟩ | ⟨g, cap, cur, rfl, _⟩
   ·rw [e1]; exact ⟨_, _, rfl⟩
   ·exact ⟨_, _, rfl⟩
  ·cases hp
 ·cases hp
theorem VR.len {T : TypeId} {ti : TI} {e0 : Nat} {x : Operand} {p : A} {n : Nat} (hT : Tab.Ok P tab) (hn : Nat.ble (d + 1) E.nt = true) (hti : lk tab T = some ti) (he : ti.slc = some e0) (hx : eva ⟨c, t, L, G⟩ x = some p) (hp : V.lenA ⟨c, t, L, G⟩ p = some n)
  (k : VR P E ops rest ⟨c, (d, .a (.d (.v (.int .i64 n)))) :: t, L, G⟩ K) :
  VR P E ops (⟨some d, .call { callee := .builtin .len, args := #[x], argTypes := #[T] }, ty, pos, af, none⟩ :: rest) ⟨c, t, L, G⟩ K := by
 refine VR.val rfl rfl (Nat.le_of_ble_eq_true hn) (.a (.d (.v (.int .i64 n)))) (fun h w a H => ?_) k
 obtain ⟨ad, cap, h1⟩ := H.lenA hp (H.eva hx)
 refine ⟨_, ?_, rfl⟩
 simp [execOp, resolve, invoke, builtin, Builtin.len_, h1, run_underlying ((hT T ti hti).slice he), goInt]
def elA (s : S) (k0 : Nat) (j : Nat) : A → Option A
 | .d (.lst k xs) => if k = k0 then (if j < xs.length then some (.el k xs j 0) else none) else none
 | .own i => match s.obj i with
  | some (.row _ k xs) => if k = k0 then (if j < xs.length then some (.oel i k j 0) else none) else none
  | _ => none
 | _ => none
theorem VR.indexAddr {T : TypeId} {ti te : TI} {e0 : Nat} {x y : Operand} {p q : A} {kd : IntKind} {i : Int} {j : Nat} (hT : Tab.Ok P tab) (hn : Nat.ble (d + 1) E.nt = true) (hti : lk tab T = some ti) (he : ti.slc = some e0) (hte : lk tab e0 = some te)
  (hx : eva ⟨c, t, L, G⟩ x = some p) (hy : fl ⟨c, t, L, G⟩ y = some (.int kd i)) (hi : i = (j : Int)) (hq : elA ⟨c, t, L, G⟩ te.size j p = some q)
  (k : VR P E ops rest ⟨c, (d, .a q) :: t, L, G⟩ K) :
  VR P E ops (⟨some d, .indexAddr T x y, ty, pos, af, none⟩ :: rest) ⟨c, t, L, G⟩ K := by
 refine VR.val rfl rfl (Nat.le_of_ble_eq_true hn) (.a q) (fun h w a H => ?_) k
 have hr := H.eva hx
 have hyv := H.fl hy
 subst hi
 have hu := (hT T ti hti).slice he
 have main : ∀ (b o n cap : Nat), a.eval x = .slice (some ⟨b, o, none⟩) n cap → j < n → (execOp a.eval (⟨some d, .indexAddr T x y, ty, pos, af, none⟩ : Oper)).run P w = .ok (.value (.pointer (some ⟨b, o + j * te.size, none⟩))) w := by
  intro b o n cap h1 h2
  have hadd : (⟨b, o, none⟩ : Addr).add (j * te.size) = ⟨b, o + j * te.size, none⟩ := by unfold Addr.add; split <;> simp_all
  have hz := (hT e0 te hte).run_size w
  simp [execOp, h1, hyv, Instr.indexAt, asIntOf, run_underlying hu, h2, hz, hadd]
 unfold elA at hq
 split at hq
 ·rename_i k1 xs
  split at hq
  ·rename_i hk
   subst hk
   split at hq
   ·rename_i hlt
    cases hq
    rcases hr with ⟨e, _⟩ | ⟨b, o, cap, h1, h2, h3⟩
    ·rw [e] at hlt; simp at hlt
    ·exact ⟨_, main b o _ cap h1 hlt, b, o, by simp, h3⟩
   ·cases hq
  ·cases hq
 ·rename_i i1
  split at hq
  ·rename_i e1 k1 xs ho
   split at hq
   ·rename_i hk
    subst hk
    split at hq
    ·rename_i hlt
     cases hq
     obtain ⟨hd, h1, h2, h3, h4⟩ := H.obj _ _ ho
     have hv := hr.2.2 _ h1
     rcases h2.2 with ⟨_, e2⟩ | ⟨g, cap, cur, e2, _⟩
     ·omega
     ·subst e2
      refine ⟨_, main g 0 _ cap hv hlt, hr.1, rfl, fun hd' hh => ?_⟩
      rw [h1] at hh
      cases hh
      exact ⟨g, _, _, rfl, by simp⟩
    ·cases hq
   ·cases hq
  ·cases hq
 ·cases hq
def evas (s : S) : List Operand → Option (List A)
 | [] => some []
 | x :: l => match eva s x, evas s l with
  | some v, some vs => some (v :: vs)
  | _, _ => none
theorem Sim.evas {h : Hd} {w : World} {a : Act} (H : Sim E h w a s) : ∀ (l : List Operand) (vs : List A), evas s l = some vs → RAs s.c h w vs (l.map a.eval)
 | [], vs, hx => by cases hx; exact ⟨rfl, fun j x v h => by simp at h⟩
 | x :: l, vs, hx => by
  unfold V.evas at hx
  split at hx
  ·rename_i v us h1 h2
   cases hx
   obtain ⟨i1, i2⟩ := Sim.evas H l us h2
   refine ⟨by simp [i1], fun j y u hy hu => ?_⟩
   cases j with
   | zero => simp at hy hu; subst hy; subst hu; exact H.eva h1
   | succ j => simp only [List.getElem?_cons_succ, List.map_cons] at hy hu; exact i2 j y u hy hu
  ·cases hx
theorem VR.makeFunc {f : Nat} {caps : Array Operand} {l : List A} (hn : Nat.ble (d + 1) E.nt = true) (hx : evas ⟨c, t, L, G⟩ caps.toList = some l)
  (k : VR P E ops rest ⟨c, (d, .fn f l) :: t, L, G⟩ K) : VR P E ops (⟨some d, .makeFunc (.func f) #[] caps, ty, pos, af, none⟩ :: rest) ⟨c, t, L, G⟩ K := by
 refine VR.val rfl rfl (Nat.le_of_ble_eq_true hn) (.fn f l) (fun h w a H => ?_) k
 refine ⟨.func (.func f) #[] (caps.map a.eval), by simp [execOp, Instr.makeFunc], _, rfl, ?_⟩
 have := H.evas caps.toList l hx
 simpa using this
def flps (s : S) : List (Nat × Operand) → Option (List (Nat × Value))
 | [] => some []
 | (i, x) :: l => match fl s x, flps s l with
  | some v, some vs => some ((i, v) :: vs)
  | _, _ => none
theorem Sim.flps {h : Hd} {w : World} {a : Act} (H : Sim E h w a s) : ∀ (l : List (Nat × Operand)) (vs : List (Nat × Value)), flps s l = some vs → l.map (fun p => (p.1, a.eval p.2)) = vs
 | [], vs, hx => by cases hx; rfl
 | (i, x) :: l, vs, hx => by
  unfold V.flps at hx
  split at hx
  ·rename_i v us h1 h2
   cases hx
   simp [H.fl h1, Sim.flps H l us h2]
  ·cases hx
def bld (ti : TI) (ps : List (Nat × Value)) : Option (Array Value) := Instr.fill (fun i => ti.flds[i]?) ti.zero.cells ps
theorem run_mapM_size (P : Program) (w : World) : ∀ (fs : List Field), (∀ f ∈ fs, (P.info? f.type).isSome = true) →
  (fs.mapM (fun f => (do pure (f.offset, ← sizeOf f.type) : Sem (Nat × Nat)))).run P w = .ok (fs.map fun f => (f.offset, P.cellsOf f.type)) w
 | [], _ => by simp
 | f :: fs, h => by
  obtain ⟨i, hi⟩ := Option.isSome_iff_exists.1 (h f (by simp))
  have ih := run_mapM_size P w fs (fun g hg => h g (List.mem_cons_of_mem _ hg))
  have h1 : (do pure (f.offset, ← sizeOf f.type) : Sem (Nat × Nat)).run P w = .ok (f.offset, P.cellsOf f.type) w := by
   have h0 : (sizeOf f.type).run P w = .ok (P.cellsOf f.type) w := by simp [sizeOf, typeInfo, hi, Program.cellsOf]
   rw [Sem.run_bind, h0]; rfl
  rw [List.mapM_cons, Sem.run_bind, h1]
  simp only [Result.andThen_ok]
  rw [Sem.run_bind, ih]
  rfl
theorem VR.build {T : TypeId} {ti : TI} {ps : Array (Nat × Operand)} {vs : List (Nat × Value)} {r : Array Value} (hT : Tab.Ok P tab) (hn : Nat.ble (d + 1) E.nt = true) (hti : lk tab T = some ti) (hne : ti.flds ≠ []) (hv : flps ⟨c, t, L, G⟩ ps.toList = some vs)
  (hr : bld ti vs = some r) (k : VR P E ops rest ⟨c, (d, .a (.d (.v (.agg r)))) :: t, L, G⟩ K) :
  VR P E ops (⟨some d, .build T ps, ty, pos, af, none⟩ :: rest) ⟨c, t, L, G⟩ K := by
 refine VR.val rfl rfl (Nat.le_of_ble_eq_true hn) (.a (.d (.v (.agg r)))) (fun h w a H => ⟨.agg r, ?_, rfl⟩) k
 obtain ⟨fs, h1, h2⟩ := (hT T ti hti).struct hne
 have h3 := H.flps _ _ hv
 have hall : ∀ f ∈ fs.toList, (P.info? f.type).isSome = true := by
  intro f hf
  have : (f.offset, P.cellsOf f.type, (P.info? f.type).isSome) ∈ ti.flds.map fun p => (p.1, p.2, true) := by rw [← h2]; exact List.mem_map.2 ⟨f, hf, rfl⟩
  obtain ⟨p, _, e⟩ := List.mem_map.1 this
  exact (congrArg (fun (q : Nat × Nat × Bool) => q.2.2) e).symm
 have hpl : fs.toList.map (fun f => (f.offset, P.cellsOf f.type)) = ti.flds := by
  have := congrArg (fun l => l.map fun (p : Nat × Nat × Bool) => (p.1, p.2.1)) h2
  simpa [Function.comp_def] using this
 have hm : (fs.mapM (fun f => (do pure (f.offset, ← sizeOf f.type) : Sem (Nat × Nat)))).run P w = .ok ti.flds.toArray w := by
  rw [Array.mapM_eq_mapM_toList]
  have := run_mapM_size P w fs.toList hall
  rw [hpl] at this
  show ((List.mapM (fun f => (do pure (f.offset, ← sizeOf f.type) : Sem (Nat × Nat))) fs.toList) >>= fun a => pure a.toArray).run P w = _
  rw [Sem.run_bind, this]
  rfl
 have hz := (hT T ti hti).run_zero w
 have hps : (ps.map fun (i, x) => (i, a.eval x)).toList = vs := by rw [Array.toList_map]; exact h3
 unfold bld at hr
 simp only [execOp, Instr.build, Sem.run_bind, hz, Result.andThen_ok, run_underlying h1, hm, hps]
 have hf : (fun (i : Nat) => ti.flds.toArray[i]?) = fun (i : Nat) => ti.flds[i]? := by funext i; simp
 rw [hf, hr]
 rfl
end
end Go.Proofs.YtnpnjhopgedhkaaGreat.V
namespace Go.Proofs.YtnpnjhopgedhkaaGreat.V
open Go.RowKit
universe u
def A.kill (i : Id) : A → A
 | .own j => if j = i then .top else .own j
 | .oel j k q off => if j = i then .top else .oel j k q off
 | .ptr j off => if j = i then .top else .ptr j off
 | .mp j => if j = i then .top else .mp j
 | x => x
def AV.kill (i : Id) : AV → AV
 | .a x => .a (x.kill i)
 | .fn f l => .fn f (l.map (A.kill i))
 | .tup l => .tup (l.map (A.kill i))
 | .agg l => .agg (l.map (A.kill i))
 | .may j wt q x => .may j wt q (x.kill i)
def VO.kill (i : Id) : VO → VO
 | .box l => .box (l.map (A.kill i))
 | o => o
theorem A.kill_says (i : Id) (x : A) : ¬ (x.kill i).says i := by
 cases x <;> simp only [A.kill] <;> (try split) <;> simp_all [A.says]
theorem A.kill_ra {c : Nat} {h : Hd} {w : World} {i : Id} {x : A} {v : Value} (H : RA c h w x v) : RA c h w (x.kill i) v := by
 cases x <;> simp only [A.kill] <;> (try split) <;> first | exact H | trivial
theorem RAs.kill {c : Nat} {h : Hd} {w : World} {i : Id} {l : List A} {vs : List Value} (H : RAs c h w l vs) : RAs c h w (l.map (A.kill i)) vs := by
 refine ⟨by simpa using H.1, fun j x v hx hv => ?_⟩
 obtain ⟨y, h1, rfl⟩ := map_get _ _ _ _ hx
 exact A.kill_ra (H.2 j y v h1 hv)
theorem AV.kill_rv {c : Nat} {h : Hd} {w : World} {i : Id} {x : AV} {v : Value} (H : RV c h w x v) : RV c h w (x.kill i) v := by
 cases x with
 | a x => exact A.kill_ra H
 | fn f l => obtain ⟨vs, h1, h2⟩ := H; exact ⟨vs, h1, h2.kill⟩
 | tup l => obtain ⟨vs, h1, h2⟩ := H; exact ⟨vs, h1, h2.kill⟩
 | agg l => obtain ⟨vs, h1, h2⟩ := H; exact ⟨vs, h1, h2.kill⟩
 | may j wt q x => exact ⟨fun hq => A.kill_ra (H.1 hq), H.2⟩
theorem AV.kill_says (i : Id) (x : AV) : ¬ (x.kill i).says i := by
 cases x with
 | a x => exact A.kill_says i x
 | may j wt q x => exact fun h => A.kill_says i x h.2
 | _ =>
  rintro ⟨y, hy, hs⟩
  obtain ⟨z, _, rfl⟩ := List.mem_map.1 hy
  exact A.kill_says i z hs
theorem VO.kill_says (i : Id) (o : VO) : ¬ (o.kill i).says i := by
 cases o with
 | box l =>
  rintro ⟨y, hy, hs⟩
  obtain ⟨z, _, rfl⟩ := List.mem_map.1 hy
  exact A.kill_says i z hs
 | row e k xs => exact fun h => h
 | map mk mv l z => exact fun h => h
 | itr mk mv l left z cur => exact fun h => h
theorem VO.kill_obj {c : Nat} {h : Hd} {w : World} {i : Id} {hd : Value} {o : VO} (H : OBJ c h w hd o) : OBJ c h w hd (o.kill i) := by
 cases o with
 | box l => obtain ⟨b, cs, t, h1, h2, h3⟩ := H; exact ⟨b, cs, t, h1, h2, h3.kill⟩
 | row e k xs => exact H
 | map mk mv l z => exact H
 | itr mk mv l left z cur => exact H
def killT (i : Id) (t : List (Nat × AV)) : List (Nat × AV) := t.map fun p => (p.1, p.2.kill i)
def killL (i : Id) (l : List (Nat × VO)) : List (Nat × VO) := l.map fun p => (p.1, p.2.kill i)
theorem lk_map {α β : Type u} (f : α → β) (l : List (Nat × α)) (i : Nat) : lk (l.map fun p => (p.1, f p.2)) i = (lk l i).map f := by
 induction l with
 | nil => rfl
 | cons p l ih =>
  obtain ⟨a, b⟩ := p
  simp only [List.map_cons, lk]
  split
  ·rfl
  ·exact ih
theorem Sim.rehd {E : Env} {h : Hd} {w w' : World} {a : Act} {c : Nat} {t : List (Nat × AV)} {L : List (Nat × VO)} {G : Nat → Option VO} (H : Sim E h w a ⟨c, t, L, G⟩) (n : Nat) (o o' : VO) (hd hd' : Value)
  (hi : lk L n = some o) (hh : h (.l n) = some hd) (hg : w.grownBy w' (blk hd)) (hb : ∀ b, blk hd' = some b → blk hd = some b ∨ (w.heap.size ≤ b ∧ b < w'.heap.size))
  (hO : OBJ c (Hd.put h (.l n) hd') w' hd' o') : Sim E (Hd.put h (.l n) hd') w' a ⟨c, killT (.l n) t, up (killL (.l n) L) n o', G⟩ := by
 have st : Stp c h w c (Hd.put h (.l n) hd') w' (fun j => j = .l n) := by
  refine ⟨Nat.le_refl _, fun m hm => by simpa [Hd.put] using hm, fun j _ hx v e => ?_, hg.size, fun b hlt hm => ⟨hg.block b hlt (fun e => hm ⟨_, _, hh, e.symm⟩), ?_⟩⟩
  ·unfold Hd.put at e; rw [if_neg hx] at e; exact e
  ·rintro ⟨j, v, e, hbv⟩
   unfold Hd.put at e
   split at e
   ·cases e
    rcases hb b hbv with e1 | e1
    ·exact hm ⟨_, _, hh, e1⟩
    ·omega
   ·exact hm ⟨j, v, e, hbv⟩
 have hobj : ∀ j, S.obj ⟨c, killT (.l n) t, up (killL (.l n) L) n o', G⟩ j = if j = .l n then some o' else match j with
   | .l m => (lk L m).map (VO.kill (.l n))
   | .g m => G m
   | .x _ => none := by
  intro j
  cases j with
  | l m =>
   simp only [S.obj, lk_up, Id.l.injEq]
   split
   ·rfl
   ·exact lk_map _ _ _
  | g m => simp [S.obj]
  | x m => simp [S.obj]
 have hbo : ∀ j v b, j ≠ .l n → h j = some v → blk v = some b → blk hd ≠ some b := fun j v b hj e hv e1 => hj (H.inj j (.l n) v hd b e hh hv e1)
 constructor
 ·intro j o1 e
  rw [hobj] at e
  split at e
  ·rename_i e1; subst e1; cases e
   exact ⟨hd', by simp [Hd.put], hO⟩
  ·rename_i e1
   cases j with
   | l m =>
    simp only at e
    cases e2 : lk L m with
    | none => rw [e2] at e; cases e
    | some o2 =>
     rw [e2] at e; cases e
     obtain ⟨v, h1, h2⟩ := H.obj (.l m) o2 e2
     exact ⟨v, by simp [Hd.put, e1, h1], (VO.kill_obj h2).step st (fun b hv => hg.block b (h2.base_le b hv) (fun e => hbo _ v b e1 h1 hv e.symm)) (fun i hi e => VO.kill_says (.l n) o2 (by rw [e] at hi; exact hi))⟩
   | g m =>
    obtain ⟨v, h1, h2⟩ := H.obj (.g m) o1 e
    exact ⟨v, by simp [Hd.put, h1], h2.step st (fun b hv => hg.block b (h2.base_le b hv) (fun e => hbo _ v b e1 h1 hv e.symm)) (fun i hi e2 => by rw [e2] at hi; exact H.gl m o1 e n hi)⟩
   | x m => cases e
 ·intro j v e
  rw [hobj]
  unfold Hd.put at e
  split at e
  ·rename_i e1; rw [if_pos e1]; exact .inl ⟨_, rfl⟩
  ·rename_i e1; rw [if_neg e1]
   rcases H.dom j v e with ⟨o1, h1⟩ | ⟨b, rfl⟩
   ·left
    cases j with
    | l m => simp only [S.obj] at h1; exact ⟨_, by simp only [h1]; rfl⟩
    | g m => exact ⟨o1, h1⟩
    | x m => cases h1
   ·exact .inr ⟨b, rfl⟩
 ·intro p q hp hq b e1 e2 b1 b2
  unfold Hd.put at e1 e2
  split at e1 <;> split at e2
  ·rename_i x y; rw [x, y]
  ·rename_i x y
   cases e1
   exfalso
   rcases hb b b1 with e3 | e3
   ·exact hbo q hq b y e2 b2 e3
   ·have := (H.own q hq b e2 b2).1; omega
  ·rename_i x y
   cases e2
   exfalso
   rcases hb b b2 with e3 | e3
   ·exact hbo p hp b x e1 b1 e3
   ·have := (H.own p hp b e1 b1).1; omega
  ·exact H.inj p q hp hq b e1 e2 b1 b2
 ·intro m v e
  simp [Hd.put, H.old m v e]
 ·intro b; simp [Hd.put, H.pri b]
 ·exact H.gl
 ·intro j v b e b1
  unfold Hd.put at e
  split at e
  ·rename_i e1
   cases e
   rcases hb b b1 with e3 | e3
   ·have := H.own (.l n) hd b hh e3
    refine ⟨Nat.lt_of_lt_of_le this.1 hg.size, ?_⟩
    rcases this.2 with ⟨m, e4, _⟩ | e4 | ⟨q, e4⟩
    ·cases e4
    ·exact .inr (.inl e4)
    ·cases e4
   ·exact ⟨e3.2, .inr (.inl (Nat.le_trans H.sz e3.1))⟩
  ·have := H.own j v b e b1
   exact ⟨Nat.lt_of_lt_of_le this.1 hg.size, this.2⟩
 ·intro m o1 e
  simp only [lk_up] at e
  split at e
  ·rename_i e1; subst e1; exact H.cl _ _ hi
  ·rw [killL, lk_map] at e
   cases e2 : lk L m with
   | none => rw [e2] at e; cases e
   | some o2 => exact H.cl _ _ e2
 ·intro b hlt hno
  rw [hg.block b (Nat.lt_of_lt_of_le hlt H.sz)]
  ·exact H.fr b hlt hno
  ·intro e
   rcases (H.own (.l n) hd b hh e.symm).2 with ⟨m, e4, _⟩ | e4 | ⟨q, e4⟩
   ·cases e4
   ·omega
   ·cases e4
 ·exact Nat.le_trans H.sz hg.size
 ·exact hg.os.trans H.os
 ·exact hg.tape.trans H.tape
 ·exact hg.output.trans H.output
 ·exact H.nt
 ·exact H.dfr
 ·intro k v hk
  rw [killT, lk_map] at hk
  cases e : lk t k with
  | none => rw [e] at hk; cases hk
  | some u =>
   rw [e] at hk; cases hk
   exact (AV.kill_rv (H.tmp k u e)).step st (fun i hi e1 => AV.kill_says (.l n) u (by rw [e1] at hi; exact hi))
def boxc : AV → Option (List A)
 | .a (.d (.v (.agg cs))) => some (cs.toList.map fun c => A.d (.v c))
 | .a (.d (.v (.tuple _))) => none
 | .a .top => none
 | .a x => some [x]
 | .agg l => some l
 | _ => none
theorem cells_one {v : Value} (h : v.oneCell' = true) : v.cells = #[v] := by
 cases v <;> first | rfl | cases h
theorem ra_one {c : Nat} {h : Hd} {w : World} {x : A} {v : Value} (H : RA c h w x v) (hx : x ≠ .top) (hd : ∀ u, x = .d (.v u) → u.oneCell' = true) : v.oneCell' = true := by
 cases x with
 | d x =>
  cases x with
  | v u => rw [show v = u from H]; exact hd u rfl
  | lst k xs => rcases H with ⟨_, _, _, rfl⟩ | ⟨b, o, cap, rfl, _⟩ <;> rfl
 | ptr i off => exact H.2.1
 | mp i => exact H.2.1
 | own i => exact H.2.1
 | el k xs j off => obtain ⟨b, o, rfl, _⟩ := H; rfl
 | oel i k j off => exact H.2.1
 | top => exact absurd rfl hx
theorem boxc_spec {c : Nat} {h : Hd} {w : World} {v : AV} {x : Value} {cs : List A} (H : RV c h w v x) (hc : boxc v = some cs) : RAs c h w cs x.cells.toList := by
 have one : ∀ (y : A), RA c h w y x → x.oneCell' = true → RAs c h w [y] x.cells.toList := by
  intro y hy h1
  rw [cells_one h1]
  refine ⟨rfl, fun j z u hz hu => ?_⟩
  cases j with
  | zero => simp at hz hu; subst hz; subst hu; exact hy
  | succ j => simp at hz
 unfold boxc at hc
 split at hc
 ·cases hc
  have : x = _ := H
  subst this
  refine ⟨by simp [Value.cells], fun j z u hz hu => ?_⟩
  obtain ⟨q, h1, rfl⟩ := map_get _ _ _ _ hz
  simp only [Value.cells] at hu
  rw [h1] at hu; cases hu; rfl
 ·cases hc
 ·cases hc
 ·rename_i y h1 h2 h3
  cases hc
  refine one y H (ra_one H (fun e => h3 (by rw [e])) (fun u e => ?_))
  subst e
  cases u <;> first | rfl | exact absurd rfl (h1 _) | exact absurd rfl (h2 _)
 ·cases hc
  obtain ⟨vs, rfl, h2⟩ := H
  exact h2
 ·cases hc
section
variable {P : Program} {E : Env} {ops : Array Oper} {rest : List Oper} {s : S} {K : S → Prop}
variable {c : Nat} {t : List (Nat × AV)} {L : List (Nat × VO)} {G : Nat → Option VO} {d ty : Nat} {pos : String} {af : Array Edge} {tab : Tab}
theorem VR.eff {o : Oper} (hg : o.guard = none) {d : Nat} (hd : o.dst = some d) (hn : d < E.nt) (v : AV) (s1 : S)
  (H : ∀ h w a, Sim E h w a s → ∃ x w' h', (execOp a.eval o).run P w = .ok (.value x) w' ∧ Sim E h' w' a s1 ∧ RV s1.c h' w' v x) (k : VR P E ops rest (s1.put d v) K) : VR P E ops (o :: rest) s K := by
 intro h w a hs
 refine wpList_plain hg fun Kc hK => ?_
 obtain ⟨x, w', h', h1, h2, h3⟩ := H h w a hs
 unfold Oper.wp
 rw [h1]
 show Kc (a.put o.dst x) w'
 rw [hd]
 exact hK _ _ (k h' w' _ (h2.put d hn v x h3))
theorem VR.act {o : Oper} (hg : o.guard = none) (hd : o.dst = none) (s1 : S)
  (H : ∀ h w a, Sim E h w a s → ∃ w' h', ((execOp a.eval o).run P w = .ok .skip w' ∨ ∃ x, (execOp a.eval o).run P w = .ok (.value x) w') ∧ Sim E h' w' a s1) (k : VR P E ops rest s1 K) : VR P E ops (o :: rest) s K := by
 intro h w a hs
 refine wpList_plain hg fun Kc hK => ?_
 obtain ⟨w', h', h1, h2⟩ := H h w a hs
 unfold Oper.wp
 rcases h1 with h1 | ⟨x, h1⟩
 ·rw [h1]
  show Kc (a.put o.dst undef) w'
  rw [hd]
  exact hK _ _ (k h' w' _ h2)
 ·rw [h1]
  show Kc (a.put o.dst x) w'
  rw [hd]
  exact hK _ _ (k h' w' _ h2)
theorem VR.actx {o : Oper} (hg : o.guard = none) (hd : o.dst = none)
  (H : ∀ h w a, Sim E h w a s → ∃ w' h' s1, ((execOp a.eval o).run P w = .ok .skip w' ∨ ∃ x, (execOp a.eval o).run P w = .ok (.value x) w') ∧ Sim E h' w' a s1 ∧ VR P E ops rest s1 K) : VR P E ops (o :: rest) s K := by
 intro h w a hs
 refine wpList_plain hg fun Kc hK => ?_
 obtain ⟨w', h', s1, h1, h2, k⟩ := H h w a hs
 unfold Oper.wp
 rcases h1 with h1 | ⟨x, h1⟩
 ·rw [h1]
  show Kc (a.put o.dst undef) w'
  rw [hd]
  exact hK _ _ (k h' w' _ h2)
 ·rw [h1]
  show Kc (a.put o.dst x) w'
  rw [hd]
  exact hK _ _ (k h' w' _ h2)
theorem VR.effx {o : Oper} (hg : o.guard = none) {d : Nat} (hd : o.dst = some d) (hn : d < E.nt)
  (H : ∀ h w a, Sim E h w a s → ∃ x w' h' v s1, (execOp a.eval o).run P w = .ok (.value x) w' ∧ Sim E h' w' a s1 ∧ RV s1.c h' w' v x ∧ VR P E ops rest (s1.put d v) K) : VR P E ops (o :: rest) s K := by
 intro h w a hs
 refine wpList_plain hg fun Kc hK => ?_
 obtain ⟨x, w', h', v, s1, h1, h2, h3, k⟩ := H h w a hs
 unfold Oper.wp
 rw [h1]
 show Kc (a.put o.dst x) w'
 rw [hd]
 exact hK _ _ (k h' w' _ (h2.put d hn v x h3))
theorem put_step {c : Nat} {h : Hd} {w w' : World} {hd : Value} (n : Nat) (hn : n = c) (hg : w.grownBy w' none) (hb : ∀ b, blk hd = some b → w.heap.size ≤ b) : Stp c h w (c + 1) (Hd.put h (.l n) hd) w' (fun j => j = .l n) := by
 refine ⟨Nat.le_succ _, fun m hm => by simpa [Hd.put] using hm, fun j _ hx v e => ?_, hg.size, fun b hlt hm => ⟨hg.block b hlt (by simp), ?_⟩⟩
 ·unfold Hd.put at e; rw [if_neg hx] at e; exact e
 ·rintro ⟨j, v, e, hbv⟩
  unfold Hd.put at e
  split at e
  ·cases e; have := hb b hbv; omega
  ·exact hm ⟨j, v, e, hbv⟩
theorem says_lt {c : Nat} {h : Hd} {w : World} {x : A} {v : Value} (H : RA c h w x v) : ¬ x.says (.l c) := by
 intro hs
 cases x with
 | ptr j off => have := H.1; simp only [A.says] at hs; subst hs; exact Nat.lt_irrefl _ this
 | mp j => have := H.1; simp only [A.says] at hs; subst hs; exact Nat.lt_irrefl _ this
 | own j => have := H.1; simp only [A.says] at hs; subst hs; exact Nat.lt_irrefl _ this
 | oel j k q off => have := H.1; simp only [A.says] at hs; subst hs; exact Nat.lt_irrefl _ this
 | _ => exact hs
theorem RAs.new {c : Nat} {h : Hd} {w w' : World} {hd : Value} {l : List A} {vs : List Value} (H : RAs c h w l vs) (hg : w.grownBy w' none) (hb : ∀ b, blk hd = some b → w.heap.size ≤ b) : RAs (c + 1) (Hd.put h (.l c) hd) w' l vs :=
 H.step (put_step c rfl hg hb) (fun x hx i hi e => by
  obtain ⟨q, hq⟩ := List.getElem?_of_mem hx
  have hlt : q < vs.length := by rw [← H.1]; exact (List.getElem?_eq_some_iff.1 hq).1
  rw [e] at hi
  exact says_lt (H.2 q x _ hq (List.getElem?_eq_getElem hlt)) hi)
theorem Sim.box {h : Hd} {w : World} {a : Act} (H : Sim E h w a s) (T : TypeId) (cs : List A) (x : Value) (hx : RAs s.c h w cs x.cells.toList) :
  Sim E (Hd.put h (.l s.c) (.pointer (some ⟨w.heap.size, 0, none⟩))) (w.alloc (.cells x.cells T)) a (s.new (.box cs)) :=
 H.new _ _ (World.grownBy_alloc w _ none) (fun b hb => by simp [blk] at hb; subst hb; simp)
  ⟨w.heap.size, x.cells, T, rfl, heap_alloc_new w _, hx.new (World.grownBy_alloc w _ none) (fun b hb => by simp [blk] at hb; omega)⟩
theorem ptr_new {c : Nat} {h : Hd} {w : World} {b : Nat} : RV (c + 1) (Hd.put h (.l c) (.pointer (some ⟨b, 0, none⟩))) w (.a (.ptr (.l c) 0)) (.pointer (some ⟨b, 0, none⟩)) :=
 ⟨Nat.lt_succ_self _, rfl, fun hd hh => by simp [Hd.put] at hh; subst hh; exact ⟨b, rfl, rfl⟩⟩
theorem VR.box {T : TypeId} {x : Operand} {v : AV} {cs : List A} (hn : Nat.ble (d + 1) E.nt = true) (hx : ev ⟨c, t, L, G⟩ x = some v) (hc : boxc v = some cs)
  (k : VR P E ops rest ⟨c + 1, (d, .a (.ptr (.l c) 0)) :: t, (c, .box cs) :: L, G⟩ K) : VR P E ops (⟨some d, .box T x, ty, pos, af, none⟩ :: rest) ⟨c, t, L, G⟩ K := by
 refine VR.eff rfl rfl (Nat.le_of_ble_eq_true hn) (.a (.ptr (.l c) 0)) (S.new ⟨c, t, L, G⟩ (.box cs)) (fun h w a H => ?_) k
 refine ⟨_, _, _, ?_, H.box T cs (a.eval x) (boxc_spec (H.ev hx) hc), ptr_new⟩
 rfl
theorem VR.alloc {T : TypeId} {ti : TI} {cs : List A} (hT : Tab.Ok P tab) (hn : Nat.ble (d + 1) E.nt = true) (hti : lk tab T = some ti) (hc : boxc (.a (.d (.v ti.zero))) = some cs)
  (k : VR P E ops rest ⟨c + 1, (d, .a (.ptr (.l c) 0)) :: t, (c, .box cs) :: L, G⟩ K) : VR P E ops (⟨some d, .alloc T, ty, pos, af, none⟩ :: rest) ⟨c, t, L, G⟩ K := by
 refine VR.eff rfl rfl (Nat.le_of_ble_eq_true hn) (.a (.ptr (.l c) 0)) (S.new ⟨c, t, L, G⟩ (.box cs)) (fun h w a H => ?_) k
 refine ⟨_, _, _, ?_, H.box T cs ti.zero (boxc_spec (v := .a (.d (.v ti.zero))) rfl hc), ptr_new⟩
 have hz := (hT T ti hti).run_zero w
 simp only [execOp, Instr.alloc, Sem.run_bind, hz, Result.andThen_ok]
 rfl
def stc (off n : Nat) (cells vs : List A) : Option (List A) := if vs.length = n ∧ off + n ≤ cells.length then some (cells.take off ++ vs ++ cells.drop (off + n)) else none
theorem run_store_cells {w : World} {b o : Nat} {T : TypeId} {ti : TI} (ht : OkTI P T ti) {x : Value} {cur : Array Value} {e : TypeId} (hg : w.heap[b]? = some (.cells cur e (0, 0))) (hn : x.cells.size = ti.size) (hl : o + ti.size ≤ cur.size) (h1 : ∀ u ∈ x.cells.toList, u.oneCell' = true) :
  (storeVar T ⟨b, o, none⟩ x).run P w = .ok () (w.setRow b (cur.toList.take o ++ x.cells.toList ++ cur.toList.drop (o + ti.size)).toArray) := by
 have h2 := run_storeCells_at P b o e x.cells.toList 0 cur w hg (by simpa [hn] using hl) h1
 unfold storeVar
 rw [Sem.run_bind, ht.run_size w]
 simp only [Result.andThen_ok, hn, ne_eq, not_true_eq_false, if_false]
 simpa [hn] using h2
theorem setRow_kept {w : World} {b : Nat} {cs : Array Value} : (w.setRow b cs).os = w.os ∧ (w.setRow b cs).tape = w.tape ∧ (w.setRow b cs).output = w.output ∧ (w.setRow b cs).heap.size = w.heap.size ∧ ∀ k, k ≠ b → (w.setRow b cs).heap[k]? = w.heap[k]? :=
 ⟨rfl, rfl, rfl, by simp, fun k hk => setRow_other w b k cs hk⟩
def okCells (l : List A) : Bool := l.all fun x => match x with
 | .top => false
 | .d (.v u) => u.oneCell'
 | _ => true
theorem okCells_spec {c : Nat} {h : Hd} {w : World} {l : List A} {vs : List Value} (H : RAs c h w l vs) (hk : okCells l = true) : ∀ u ∈ vs, u.oneCell' = true := by
 intro u hu
 obtain ⟨q, hq⟩ := List.getElem?_of_mem hu
 have hlt : q < l.length := by rw [H.1]; exact (List.getElem?_eq_some_iff.1 hq).1
 have hr := H.2 q _ u (List.getElem?_eq_getElem hlt) hq
 have hm := (List.all_eq_true.1 hk) l[q] (List.getElem_mem hlt)
 refine ra_one hr ?_ ?_
 ·intro e; rw [e] at hm; cases hm
 ·intro v e; rw [e] at hm; exact hm
def okG (i : Id) (l : List A) : Prop := ∀ n, i = .g n → ∀ q, ¬ VO.says (.box l) (.l q)
theorem VR.store {T : TypeId} {ti : TI} {x y : Operand} {i : Id} {off : Nat} {cells vs cs : List A} {v : AV} (hT : Tab.Ok P tab) (hti : lk tab T = some ti) (hx : eva ⟨c, t, L, G⟩ x = some (.ptr i off)) (ho : S.obj ⟨c, t, L, G⟩ i = some (.box cells))
  (hy : ev ⟨c, t, L, G⟩ y = some v) (hv : boxc v = some vs) (hk : okCells vs = true) (hs : stc off ti.size cells vs = some cs) (hgl : okG i cs)
  (k : VR P E ops rest (S.set ⟨c, t, L, G⟩ i (.box cs)) K) : VR P E ops (⟨none, .store T x y, ty, pos, af, none⟩ :: rest) ⟨c, t, L, G⟩ K := by
 refine VR.act rfl rfl _ (fun h w a H => ?_) k
 obtain ⟨hd, h1, b, c0, e, rfl, h4, h5⟩ := H.obj i _ ho
 obtain ⟨b', e1, e2⟩ := (H.eva hx).2.2 _ h1
 cases e1
 have hr := boxc_spec (H.ev hy) hv
 unfold stc at hs
 split at hs
 ·rename_i hl
  cases hs
  have hsz : (a.eval y).cells.size = ti.size := by rw [← hl.1, hr.1]; simp
  have hrun := run_store_cells (hT T ti hti) (x := a.eval y) (o := off) h4 hsz (by have := h5.1; simp at this; omega) (okCells_spec hr hk)
  obtain ⟨k1, k2, k3, k4, k5⟩ := setRow_kept (w := w) (b := b) (cs := (c0.toList.take off ++ (a.eval y).cells.toList ++ c0.toList.drop (off + ti.size)).toArray)
  refine ⟨_, h, .inl ?_, H.set i _ _ _ ho h1 k1 k2 k3 k4 (fun q hq => k5 q (fun e => hq (by rw [e]; rfl))) hgl ?_⟩
  ·simp only [execOp, e2, Instr.storeAt, Instr.sureAddr, Sem.run_bind, Sem.run_pure, Result.andThen_ok, hrun]
  ·refine ⟨b, _, e, rfl, setRow_heap w b c0 _ e _ h4, ?_⟩
   have st : Stp c h w c h (w.setRow b (c0.toList.take off ++ (a.eval y).cells.toList ++ c0.toList.drop (off + ti.size)).toArray) (fun _ => False) :=
    ⟨Nat.le_refl _, fun _ h => h, fun j _ _ hd' e => e, Nat.le_of_eq k4.symm, fun q hlt hm => ⟨k5 q (fun e => hm ⟨i, _, h1, by rw [e]; rfl⟩), hm⟩⟩
   have g1 := h5.step st (fun _ _ _ _ h => h)
   have g2 := hr.step st (fun _ _ _ _ h => h)
   have hl5 := h5.1
   have hlv := hr.1
   refine ⟨by simp at hl5 hlv ⊢; omega, fun j z u hz hu => ?_⟩
   have hto : (cells.take off).length = (c0.toList.take off).length := by simp only [List.length_take, hl5]
   rw [List.append_assoc] at hz hu
   rcases Nat.lt_or_ge j (cells.take off).length with hj | hj
   ·rw [List.getElem?_append_left hj] at hz
    rw [List.getElem?_append_left (by rw [← hto]; exact hj)] at hu
    rw [List.getElem?_take] at hz hu
    split at hz
    ·rename_i hjo; rw [if_pos hjo] at hu; exact g1.2 j z u hz hu
    ·cases hz
   ·rw [List.getElem?_append_right hj] at hz
    rw [List.getElem?_append_right (by rw [← hto]; exact hj), ← hto] at hu
    rcases Nat.lt_or_ge (j - (cells.take off).length) vs.length with hj2 | hj2
    ·rw [List.getElem?_append_left hj2] at hz
     rw [List.getElem?_append_left (by rw [← hlv]; exact hj2)] at hu
     exact g2.2 _ z u hz hu
    ·rw [List.getElem?_append_right hj2] at hz
     rw [List.getElem?_append_right (by rw [← hlv]; exact hj2), ← hlv] at hu
     rw [List.getElem?_drop] at hz hu
     exact g1.2 _ z u hz hu
 ·cases hs
end
end Go.Proofs.YtnpnjhopgedhkaaGreat.V
namespace Go.Proofs.YtnpnjhopgedhkaaGreat.V
open Go.RowKit
universe u
def gh (h0 x0 : Nat → Option Value) : Hd
 | .l _ => none
 | .g n => h0 n
 | .x b => x0 b
structure SG (h0 x0 : Nat → Option Value) (w : World) (G : Nat → Option VO) : Prop where
 obj : ∀ n o, G n = some o → ∃ hd, h0 n = some hd ∧ OBJ 0 (gh h0 x0) w hd o
 dom : ∀ n hd, h0 n = some hd → ∃ o, G n = some o
 inj : ∀ i j hi hj b, gh h0 x0 i = some hi → gh h0 x0 j = some hj → blk hi = some b → blk hj = some b → i = j
 lt : ∀ i hd b, gh h0 x0 i = some hd → blk hd = some b → b < w.heap.size
 gl : ∀ n o, G n = some o → ∀ i, ¬ o.says (.l i)
def RVs (c : Nat) (h : Hd) (w : World) (l : List AV) (vs : List Value) : Prop := l.length = vs.length ∧ ∀ (j : Nat) (x : AV) (v : Value), l[j]? = some x → vs[j]? = some v → RV c h w x v
def Post (W0 : World) (h0 x0 : Nat → Option Value) (Q : AV → (Nat → Option VO) → Prop) (e : Ending) (w : World) : Prop :=
 ∃ v r G h1, e = .returned v ∧ Q r G ∧ SG h1 x0 w G ∧ RV 0 (gh h1 x0) w r v ∧ (∀ n hd, h0 n = some hd → h1 n = some hd) ∧ (∀ n hd b, h1 n = some hd → blk hd = some b → h0 n = some hd ∨ W0.heap.size ≤ b) ∧
  (∀ b, b < W0.heap.size → (∀ n hd, h0 n = some hd → blk hd ≠ some b) → w.heap[b]? = W0.heap[b]?) ∧ W0.heap.size ≤ w.heap.size ∧ w.os = W0.os ∧ w.tape = W0.tape ∧ w.output = W0.output
def VC (P : Program) (f : FuncId) (args : List AV) (G : Nat → Option VO) (Q : AV → (Nat → Option VO) → Prop) : Prop :=
 ∀ h0 x0 w (vs : Array Value), SG h0 x0 w G → RVs 0 (gh h0 x0) w args vs.toList → Calls P f vs w (Post w h0 x0 Q)
theorem VC.mono {P : Program} {f : FuncId} {args : List AV} {G : Nat → Option VO} {Q Q' : AV → (Nat → Option VO) → Prop} (h : VC P f args G Q) (hq : ∀ r G', Q r G' → Q' r G') : VC P f args G Q' :=
 fun h0 x0 w vs h1 h2 => (h h0 x0 w vs h1 h2).mono fun e w' ⟨v, r, G', h3, a, b, c⟩ => ⟨v, r, G', h3, a, hq _ _ b, c⟩
def VJ (P : Program) (E : Env) (fn : Func) (R : Ending → World → Prop) (k : List Item) (s : S) : Prop :=
 ∀ h w a (b : Frame) (cs : List Frame), Sim E h w a s → P.funcs[b.fn]? = some fn → b.kind = .normal →
  ∃ e w' fr, R e w' ∧ Comes P (lone (b.at a k) cs w) (lone fr cs w') e ∧ fr.fn = b.fn ∧ fr.leaving P w' e
section
variable {P : Program} {E : Env} {fn : Func} {R : Ending → World → Prop} {k k' : List Item} {s : S}
theorem VJ.head (hs : ∀ (b : Frame) a cs w, step P (lone (b.at a k) cs w) = .next (lone (b.at a k') cs w)) (h : VJ P E fn R k' s) : VJ P E fn R k s := by
 intro hd w a b cs H hf hk
 obtain ⟨e, w', fr, h1, h2, h3⟩ := h hd w a b cs H hf hk
 exact ⟨e, w', fr, h1, .of_steps (.one (hs b a cs w)) h2, h3⟩
theorem VJ.seq {x y : Code} (h : VJ P E fn R (.code x :: .code y :: k) s) : VJ P E fn R (.code (.seq x y) :: k) s := VJ.head (fun _ _ _ _ => step_seq) h
theorem VJ.skip (h : VJ P E fn R k s) : VJ P E fn R (.code .skip :: k) s := VJ.head (fun _ _ _ _ => step_skip) h
theorem VJ.block {id : Nat} {x : Code} (h : VJ P E fn R (.code x :: .inBlock id :: k) s) : VJ P E fn R (.code (.block id x) :: k) s := VJ.head (fun _ _ _ _ => step_block) h
theorem VJ.inBlock {id : Nat} (h : VJ P E fn R k s) : VJ P E fn R (.inBlock id :: k) s := VJ.head (fun _ _ _ _ => step_inBlock) h
theorem VJ.loop {x : Code} (h : VJ P E fn R (.code x :: .inLoop x :: k) s) : VJ P E fn R (.code (.loop x) :: k) s := VJ.head (fun _ _ _ _ => step_loop) h
theorem VJ.inLoop {x : Code} (h : VJ P E fn R (.code x :: .inLoop x :: k) s) : VJ P E fn R (.inLoop x :: k) s := VJ.head (fun _ _ _ _ => step_inLoop) h
theorem VJ.exit {id : Nat} (he : exitTo id k = some k') (h : VJ P E fn R k' s) : VJ P E fn R (.code (.exit id) :: k) s := VJ.head (fun _ _ _ _ => step_exit he) h
theorem VJ.cond {q : Operand} {x y : Code} {v : Bool} (hq : fl s q = some (.bool v)) (h1 : v = true → VJ P E fn R (.code x :: k) s) (h2 : v = false → VJ P E fn R (.code y :: k) s) : VJ P E fn R (.code (.cond q x y) :: k) s := by
 intro hd w a b cs H hf hk
 have he := H.fl hq
 cases v with
 | true =>
  obtain ⟨e, w', fr, g1, g2, g3⟩ := h1 rfl hd w a b cs H hf hk
  exact ⟨e, w', fr, g1, .of_steps (.one (step_cond (t := true) he)) g2, g3⟩
 | false =>
  obtain ⟨e, w', fr, g1, g2, g3⟩ := h2 rfl hd w a b cs H hf hk
  exact ⟨e, w', fr, g1, .of_steps (.one (step_cond (t := false) he)) g2, g3⟩
theorem VJ.cond_t {q : Operand} {x y : Code} (hq : fl s q = some (.bool true)) (h1 : VJ P E fn R (.code x :: k) s) : VJ P E fn R (.code (.cond q x y) :: k) s := VJ.cond hq (fun _ => h1) (fun h => by cases h)
theorem VJ.cond_f {q : Operand} {x y : Code} (hq : fl s q = some (.bool false)) (h1 : VJ P E fn R (.code y :: k) s) : VJ P E fn R (.code (.cond q x y) :: k) s := VJ.cond hq (fun h => by cases h) (fun _ => h1)
theorem VJ.of_wp {x : Code} (h : ∀ hd w a, Sim E hd w a s → x.wp P (QK E fun s' => VJ P E fn R k s') a w) : VJ P E fn R (.code x :: k) s := by
 intro hd w a b cs H hf hk
 obtain ⟨e, a', w', ⟨rfl, h', s', H', hj⟩, harr⟩ := h hd w a H b k cs
 obtain ⟨e, w2, fr, g1, g2, g3⟩ := hj h' w' a' b cs H' hf hk
 exact ⟨e, w2, fr, g1, .of_steps harr g2, g3⟩
theorem VJ.region {id : Nat} {l : List Oper} (h : VR P E l.toArray l s (fun s' => VJ P E fn R k s')) : VJ P E fn R (.code (.region id l.toArray false) :: k) s :=
 VJ.of_wp fun hd w a H => wp_region_lit (h hd w a H)
theorem VJ.region_k {id : Nat} {l : List Oper} (h : ∀ K : S → Prop, (∀ s', VJ P E fn R k s' → K s') → VR P E l.toArray l s K) : VJ P E fn R (.code (.region id l.toArray false) :: k) s :=
 VJ.region (h _ fun _ h => h)
theorem Sim.weak {hd : Hd} {w : World} {a : Act} {c : Nat} {t t' : List (Nat × AV)} {L : List (Nat × VO)} {G : Nat → Option VO} (H : Sim E hd w a ⟨c, t, L, G⟩) (ht : ∀ i v, lk t' i = some v → lk t i = some v) : Sim E hd w a ⟨c, t', L, G⟩ :=
 H.reput fun i v hi => H.tmp i v (ht i v hi)
def sub (t' t : List (Nat × AV)) : Prop := ∀ p ∈ t', lk t p.1 = some p.2
theorem lk_mem {α : Type u} : ∀ (t : List (Nat × α)) (i : Nat) (v : α), lk t i = some v → (i, v) ∈ t
 | [], _, _, h => by cases h
 | (j, u) :: r, i, v, h => by
  unfold lk at h
  split at h
  ·rename_i e; cases h; subst e; simp
  ·exact List.mem_cons_of_mem _ (lk_mem r i v h)
def glA : A → Bool
 | .ptr (.l _) _ | .mp (.l _) | .own (.l _) | .oel (.l _) _ _ _ => false
 | _ => true
def glV : AV → Bool
 | .a x => glA x
 | .fn _ l | .tup l | .agg l => l.all glA
 | .may .. => false
theorem glA_says {x : A} (h : glA x = true) (n : Nat) : ¬ x.says (.l n) := by
 intro hs
 cases x <;> simp only [A.says] at hs <;> subst hs <;> cases h
end
section
variable {c : Nat} {hd : Hd} {w : World} {x0 : Nat → Option Value}
theorem mutb_gh (hx : ∀ b, hd (.x b) = x0 b) {b : Nat} (h : mutb (gh (fun n => hd (.g n)) x0) b) : mutb hd b := by
 obtain ⟨i, v, e, hb⟩ := h
 cases i with
 | l n => cases e
 | g n => exact ⟨.g n, v, e, hb⟩
 | x q => exact ⟨.x q, v, (hx q).trans e, hb⟩
theorem Imm.gl {k : Nat} {xs : List Value} {b o : Nat} (hx : ∀ b, hd (.x b) = x0 b) (h : Imm hd w k xs b o) : Imm (gh (fun n => hd (.g n)) x0) w k xs b o :=
 ⟨h.lt, fun hm => h.im (mutb_gh hx hm), h.sz, h.cell⟩
theorem RA.gl {x : A} {v : Value} (hx : ∀ b, hd (.x b) = x0 b) (H : RA c hd w x v) (hg : ∀ n, ¬ x.says (.l n)) : RA 0 (gh (fun n => hd (.g n)) x0) w x v := by
 have ok : ∀ i, okId c hd i → (∀ n, i ≠ .l n) → okId 0 (gh (fun n => hd (.g n)) x0) i := by
  intro i hi hn
  cases i with
  | l n => exact absurd rfl (hn n)
  | g n => exact hi
  | x n => exact hi
 have gi : ∀ i, (∀ n, i ≠ .l n) → ∀ u, gh (fun n => hd (.g n)) x0 i = some u → hd i = some u := by
  intro i hn u hu
  cases i with
  | l n => exact absurd rfl (hn n)
  | g n => exact hu
  | x n => exact (hx n).trans hu
 cases x with
 | d y =>
  cases y with
  | v u => exact H
  | lst k xs =>
   rcases H with H | ⟨b, o, cap, h1, h2, h3⟩
   ·exact .inl H
   ·exact .inr ⟨b, o, cap, h1, h2, h3.gl hx⟩
 | ptr i off =>
  have hn : ∀ n, i ≠ .l n := fun n e => hg n e
  exact ⟨ok i H.1 hn, H.2.1, fun u hu => H.2.2 u (gi i hn u hu)⟩
 | mp i =>
  have hn : ∀ n, i ≠ .l n := fun n e => hg n e
  exact ⟨ok i H.1 hn, H.2.1, fun u hu => H.2.2 u (gi i hn u hu)⟩
 | own i =>
  have hn : ∀ n, i ≠ .l n := fun n e => hg n e
  exact ⟨ok i H.1 hn, H.2.1, fun u hu => H.2.2 u (gi i hn u hu)⟩
 | el k xs j off =>
  obtain ⟨b, o, h1, h2⟩ := H
  exact ⟨b, o, h1, h2.gl hx⟩
 | oel i k j off =>
  have hn : ∀ n, i ≠ .l n := fun n e => hg n e
  exact ⟨ok i H.1 hn, H.2.1, fun u hu => H.2.2 u (gi i hn u hu)⟩
 | top => trivial
theorem RAs.gl {l : List A} {vs : List Value} (hx : ∀ b, hd (.x b) = x0 b) (H : RAs c hd w l vs) (hg : ∀ x ∈ l, ∀ n, ¬ A.says x (.l n)) : RAs 0 (gh (fun n => hd (.g n)) x0) w l vs :=
 ⟨H.1, fun j x v h1 h2 => (H.2 j x v h1 h2).gl hx (hg x (List.mem_of_getElem? h1))⟩
theorem RV.gl {x : AV} {v : Value} (hx : ∀ b, hd (.x b) = x0 b) (H : RV c hd w x v) (hg : glV x = true) : RV 0 (gh (fun n => hd (.g n)) x0) w x v := by
 have hl : ∀ l : List A, l.all glA = true → ∀ x ∈ l, ∀ n, ¬ A.says x (.l n) := fun l h x hx n => glA_says (List.all_eq_true.1 h x hx) n
 cases x with
 | a x => exact RA.gl hx H (fun n => glA_says hg n)
 | fn f l => obtain ⟨vs, h1, h2⟩ := H; exact ⟨vs, h1, h2.gl hx (hl l hg)⟩
 | tup l => obtain ⟨vs, h1, h2⟩ := H; exact ⟨vs, h1, h2.gl hx (hl l hg)⟩
 | agg l => obtain ⟨vs, h1, h2⟩ := H; exact ⟨vs, h1, h2.gl hx (hl l hg)⟩
 | may j wt q x => cases hg
theorem OBJ.gl {o : VO} {v : Value} (hx : ∀ b, hd (.x b) = x0 b) (H : OBJ c hd w v o) (hg : ∀ n, ¬ o.says (.l n)) : OBJ 0 (gh (fun n => hd (.g n)) x0) w v o := by
 cases o with
 | box cells => obtain ⟨b, cs, t, h1, h2, h3⟩ := H; exact ⟨b, cs, t, h1, h2, h3.gl hx (fun x hx' n hs => hg n ⟨x, hx', hs⟩)⟩
 | row e k xs => exact H
 | map mk mv l z => exact H
 | itr mk mv l left z cur => exact H
end
section
variable {P : Program} {E : Env} {fn : Func} {R : Ending → World → Prop} {k k' : List Item} {s : S}
theorem Sim.sg {hd : Hd} {w : World} {a : Act} (H : Sim E hd w a s) : SG (fun n => hd (.g n)) E.x0 w s.G := by
 refine ⟨fun n o h => ?_, fun n v h => ?_, ?_, ?_, H.gl⟩
 ·obtain ⟨v, h1, h2⟩ := H.obj (.g n) o h
  exact ⟨v, h1, h2.gl H.pri (H.gl n o h)⟩
 ·rcases H.dom (.g n) v h with h1 | ⟨b, e⟩
  ·exact h1
  ·cases e
 ·have gi : ∀ i u, gh (fun n => hd (.g n)) E.x0 i = some u → hd i = some u := by
   intro i u hu
   cases i with
   | l n => cases hu
   | g n => exact hu
   | x n => exact (H.pri n).trans hu
  exact fun i j hi hj b e1 e2 => H.inj i j hi hj b (gi i hi e1) (gi j hj e2)
 ·have gi : ∀ i u, gh (fun n => hd (.g n)) E.x0 i = some u → hd i = some u := by
   intro i u hu
   cases i with
   | l n => cases hu
   | g n => exact hu
   | x n => exact (H.pri n).trans hu
  exact fun i v b e hb => (H.own i v b (gi i v e) hb).1
def back (s : S) (v : AV) : Option AV := match v with
 | .a (.own (.l n)) => match lk s.L n with
  | some (.row _ k xs) => some (.a (.d (.lst k xs)))
  | _ => none
 | v => match glV v with
  | true => some v
  | false => none
theorem own_isl {hd : Hd} {w : World} {a : Act} (H : Sim E hd w a s) {n e k : Nat} {xs : List Value} (ho : lk s.L n = some (.row e k xs)) {x : Value} (hx : RA s.c hd w (.own (.l n)) x) : RA 0 (gh (fun n => hd (.g n)) E.x0) w (.d (.lst k xs)) x := by
 obtain ⟨v, h1, h2, h3, h4⟩ := H.obj (.l n) _ ho
 have := hx.2.2 _ h1
 subst this
 rcases h2.2 with ⟨e1, e2⟩ | ⟨g, cap, cur, e1, _, hg, hc, _⟩
 ·exact .inl ⟨List.eq_nil_of_length_eq_zero e2, none, 0, e1⟩
 ·subst e1
  refine .inr ⟨g, 0, cap, rfl, hc, (Array.getElem?_eq_some_iff.1 hg).1, ?_, h3, ?_⟩
  ·rintro ⟨i, u, e2, hb⟩
   have hi : hd i = some u := by
    cases i with
    | l m => cases e2
    | g m => exact e2
    | x m => exact (H.pri m).trans e2
   have := H.inj i (.l n) u _ g hi h1 hb rfl
   subst this
   cases e2
  ·intro j u hu
   have := h2.cells (g := g) rfl j u hu
   have hadd : (⟨g, 0, none⟩ : Addr).add j = ⟨g, 0 + j, none⟩ := by unfold Addr.add; split <;> simp_all
   rw [hadd] at this; exact this
theorem Sim.back {hd : Hd} {w : World} {a : Act} (H : Sim E hd w a s) {v r : AV} (hb : back s v = some r) {x : Value} (hx : RV s.c hd w v x) : RV 0 (gh (fun n => hd (.g n)) E.x0) w r x := by
 unfold V.back at hb
 split at hb
 ·split at hb
  ·rename_i n _ e k xs ho
   cases hb
   exact own_isl H ho hx
  ·cases hb
 ·split at hb
  ·rename_i hg
   cases hb
   exact RV.gl H.pri hx hg
  ·cases hb
theorem Sim.post {hd : Hd} {w : World} {a : Act} (H : Sim E hd w a s) {Q : AV → (Nat → Option VO) → Prop} {r : AV} {x : Value} (hr : RV 0 (gh (fun n => hd (.g n)) E.x0) w r x) (hq : Q r s.G) : Post E.W0 E.h0 E.x0 Q (.returned x) w := by
 refine ⟨x, r, s.G, _, rfl, hq, H.sg, hr, H.old, fun n v b h1 h2 => ?_, H.fr, H.sz, H.os, H.tape, H.output⟩
 rcases (H.own (.g n) v b h1 h2).2 with ⟨m, e, h⟩ | h | ⟨q, e⟩
 ·cases e; exact .inl h
 ·exact .inr h
 ·cases e
def evr (tab : Tab) (s : S) : ResultVar → Option AV
 | .tmp i => match lk s.t i with
  | some v => V.back s v
  | none => none
 | .cell i T => match lk tab T with
  | some ti => match lk s.t i with
   | some (.a p) => match ldp s ti.agg ti.size p with
    | some v => V.back s v
    | none => none
   | _ => none
  | none => none
def evs (tab : Tab) (s : S) : List ResultVar → Option (List AV)
 | [] => some []
 | r :: l => match evr tab s r with
  | some v => match evs tab s l with
   | some vs => some (v :: vs)
   | none => none
  | none => none
def tupOf : List AV → Option (List A)
 | [] => some []
 | .a x :: l => match tupOf l with
  | some xs => some (x :: xs)
  | none => none
 | _ => none
def res (l : List AV) : Option AV := match l with
 | [v] => some v
 | l => match tupOf l with
  | some xs => some (.tup xs)
  | none => none
def rv1 (tmps : Array Value) : ResultVar → Sem Value
 | .tmp t => pure (tmps.getD t undef)
 | .cell a t => do loadVar t (← asAddr (tmps.getD a undef))
theorem Sim.ldp {hd : Hd} {w : World} {a : Act} (H : Sim E hd w a s) {T : TypeId} {ti : TI} (ht : OkTI P T ti) {p : A} {v : AV} (hv : ldp s ti.agg ti.size p = some v) {x : Value} (hx : RA s.c hd w p x) :
  ∃ b o u, x = .pointer (some ⟨b, o, none⟩) ∧ (loadVar T ⟨b, o, none⟩).run P w = .ok u w ∧ RV s.c hd w v u := by
 have gen : ∀ cs, V.place s p = some cs → ∀ v', ldv ti.agg ti.size cs = some v' → ∃ b o u, x = .pointer (some ⟨b, o, none⟩) ∧ (loadVar T ⟨b, o, none⟩).run P w = .ok u w ∧ RV s.c hd w v' u := by
  intro cs hp v' hv'
  obtain ⟨b, o, h1, h2⟩ := H.place hp hx
  obtain ⟨u, h3, h4⟩ := ld_sound ht hv' h2
  exact ⟨b, o, u, h1, h3, h4⟩
 cases p with
 | el k xs j off =>
  simp only [V.ldp] at hv
  cases hj : xs[j]? with
  | none => rw [hj] at hv; cases hv
  | some u =>
   rw [hj] at hv
   have hpl : ∀ o, V.place s (.el k xs j o) = some ((u.cells.toList.map fun c => A.d (.v c)).drop o) := fun o => by simp only [V.place, hj]
   cases off with
   | succ off => exact gen _ (hpl _) v hv
   | zero =>
    simp only at hv
    cases hagg : ti.agg with
    | true =>
     rw [hagg] at hv
     simp only at hv
     split at hv
     ·rename_i cs
      split at hv
      ·rename_i hsz
       cases hv
       refine gen _ (hpl 0) _ ?_
       rw [hagg]
       have hfl : ∀ l : List Value, flats (l.map fun c => A.d (.v c)) = some l := by
        intro l
        induction l with
        | nil => rfl
        | cons y l ih => simp only [List.map_cons, flats, ih]
       simp only [ldv, Value.cells, List.drop_zero]
       rw [if_pos (by simp [hsz]), List.take_of_length_le (by simp [hsz]), hfl]
      ·refine gen _ (hpl 0) v ?_
       rw [hagg]; exact hv
     ·cases hv
    | false =>
     rw [hagg] at hv
     simp only at hv
     split at hv
     ·rename_i cs
      refine gen _ (hpl 0) v ?_
      rw [hagg]; exact hv
     ·cases hv
     ·rename_i h1 h2
      cases hv
      refine gen _ (hpl 0) _ ?_
      rw [hagg]
      have : u.cells = #[u] := by cases u <;> first | rfl | exact absurd rfl (h1 _) | exact absurd rfl (h2 _)
      simp [ldv, this]
 | _ =>
  simp only [V.ldp] at hv
  split at hv
  ·rename_i cs hp; exact gen cs hp v hv
  ·cases hv
theorem Sim.evr {tab : Tab} (hT : Tab.Ok P tab) {hd : Hd} {w : World} {a : Act} (H : Sim E hd w a s) {r : ResultVar} {v : AV} (hv : evr tab s r = some v) : ∃ u, (rv1 a.tmps r).run P w = .ok u w ∧ RV 0 (gh (fun n => hd (.g n)) E.x0) w v u := by
 cases r with
 | tmp i =>
  simp only [V.evr] at hv
  split at hv
  ·rename_i v' h1; exact ⟨_, rfl, H.back hv (H.tmp i v' h1)⟩
  ·cases hv
 | cell i T =>
  simp only [V.evr] at hv
  split at hv
  ·rename_i ti hti
   split at hv
   ·rename_i p hp
    split at hv
    ·rename_i v' h1
     obtain ⟨b, o, u, e1, e2, e3⟩ := H.ldp (hT T ti hti) h1 (H.tmp i (.a p) hp)
     refine ⟨u, ?_, H.back hv e3⟩
     simp only [rv1, e1, asAddr, Sem.run_bind, Sem.run_pure, Result.andThen_ok]
     exact e2
    ·cases hv
   ·cases hv
  ·cases hv
theorem Sim.evs {tab : Tab} (hT : Tab.Ok P tab) {hd : Hd} {w : World} {a : Act} (H : Sim E hd w a s) : ∀ (l : List ResultVar) (vs : List AV), evs tab s l = some vs → ∃ us, (l.mapM (rv1 a.tmps)).run P w = .ok us w ∧ RVs 0 (gh (fun n => hd (.g n)) E.x0) w vs us
 | [], vs, h => by cases h; exact ⟨[], by simp, rfl, fun j x v h => by simp at h⟩
 | r :: l, vs, h => by
  unfold V.evs at h
  split at h
  ·rename_i v h1
   split at h
   ·rename_i us h2
    cases h
    obtain ⟨u, g1, g2⟩ := H.evr hT h1
    obtain ⟨us', g3, g4⟩ := Sim.evs hT H l us h2
    refine ⟨u :: us', ?_, by simp [g4.1], fun j y x hy hx => ?_⟩
    ·rw [List.mapM_cons, Sem.run_bind, g1]
     simp only [Result.andThen_ok]
     rw [Sem.run_bind, g3]
     rfl
    ·cases j with
     | zero => simp at hy hx; subst hy; subst hx; exact g2
     | succ j => simp only [List.getElem?_cons_succ] at hy hx; exact g4.2 j y x hy hx
   ·cases h
  ·cases h
theorem tup_spec {c : Nat} {h : Hd} {w : World} : ∀ (l : List AV) (xs : List A) (us : List Value), tupOf l = some xs → RVs c h w l us → RAs c h w xs us
 | [], xs, us, h, hr => by
  cases h
  exact ⟨hr.1, fun j x v h => by simp at h⟩
 | .a y :: l, xs, us, h, hr => by
  unfold tupOf at h
  split at h
  ·rename_i ys hy
   cases h
   obtain ⟨h1, h2⟩ := hr
   cases us with
   | nil => cases h1
   | cons u us =>
    have ih := tup_spec l ys us hy ⟨by simpa using h1, fun j x v hx hv => h2 (j + 1) x v (by simpa using hx) (by simpa using hv)⟩
    refine ⟨by simp [ih.1], fun j x v hx hv => ?_⟩
    cases j with
    | zero => simp at hx hv; subst hx; subst hv; exact h2 0 _ _ rfl rfl
    | succ j => exact ih.2 j x v (by simpa using hx) (by simpa using hv)
  ·cases h
 | .fn _ _ :: l, xs, us, h, hr => by cases h
 | .tup _ :: l, xs, us, h, hr => by cases h
 | .agg _ :: l, xs, us, h, hr => by cases h
 | .may _ _ _ _ :: l, xs, us, h, hr => by cases h
theorem results_run {us : List Value} {tmps : Array Value} {w : World} (hr : (fn.results.toList.mapM (rv1 tmps)).run P w = .ok us w) :
  (results fn tmps).run P w = .ok (match us with | [v] => v | l => .tuple l.toArray) w := by
 show (fn.results.mapM (rv1 tmps) >>= fun vs => (pure (if h : vs.size = 1 then vs[0] else .tuple vs) : Sem Value)).run P w = _
 have h1 : (fn.results.mapM (rv1 tmps)).run P w = .ok us.toArray w := by
  rw [Array.mapM_eq_mapM_toList]
  show (List.mapM (rv1 tmps) fn.results.toList >>= fun a => pure a.toArray).run P w = _
  rw [Sem.run_bind, hr]
  rfl
 rw [Sem.run_bind, h1]
 simp only [Result.andThen_ok, Sem.run_pure]
 congr 1
 match us with
 | [] => rfl
 | [v] => rfl
 | v :: u :: l => rfl
theorem leave_ret {tab : Tab} (hT : Tab.Ok P tab) {Q : AV → (Nat → Option VO) → Prop} {l : List AV} {r : AV} (hl : evs tab s fn.results.toList = some l) (hs : res l = some r) (hq : Q r s.G)
  {hd : Hd} {w : World} {a : Act} (H : Sim E hd w a s) : ∃ v, (results fn a.tmps).run P w = .ok v w ∧ Post E.W0 E.h0 E.x0 Q (.returned v) w := by
 obtain ⟨us, h0, h1⟩ := H.evs hT _ l hl
 refine ⟨_, results_run h0, H.post ?_ hq⟩
 match l, us, h1, hs with
 | [v], [u], h1, hs => cases hs; exact h1.2 0 _ u rfl rfl
 | [], [], h1, hs =>
  simp only [res, tupOf, Option.some.injEq] at hs; subst hs
  exact ⟨#[], rfl, rfl, fun j x v h => by simp at h⟩
 | v1 :: v2 :: l, u1 :: u2 :: us, h1, hs =>
  simp only [res] at hs
  split at hs
  ·rename_i xs hx
   cases hs
   exact ⟨_, rfl, by simpa using tup_spec _ _ _ hx h1⟩
  ·cases hs
 | [v], [], h1, hs => cases h1.1
 | [v], _ :: _ :: _, h1, hs => cases h1.1
 | [], _ :: _, h1, hs => cases h1.1
 | _ :: _ :: _, [], h1, hs => cases h1.1
 | _ :: _ :: _, [_], h1, hs => exact absurd h1.1 (by simp)
theorem VJ.ret {tab : Tab} {Q : AV → (Nat → Option VO) → Prop} {l : List AV} {r : AV} (hT : Tab.Ok P tab) (hl : evs tab s fn.results.toList = some l) (hs : res l = some r) (hq : Q r s.G) :
  VJ P E fn (Post E.W0 E.h0 E.x0 Q) (.code .ret :: k) s := by
 intro hd w a b cs H hf hk
 obtain ⟨v, h1, h2⟩ := leave_ret (P := P) hT hl hs hq H
 exact ⟨.returned v, w, { b.at a (.code .ret :: k) with mode := .returning }, h2, Steps.one step_ret, rfl, rfl, H.dfr, hk, fn, hf, h1⟩
theorem VJ.fin {tab : Tab} {Q : AV → (Nat → Option VO) → Prop} {l : List AV} {r : AV} (hT : Tab.Ok P tab) (hl : evs tab s fn.results.toList = some l) (hs : res l = some r) (hq : Q r s.G) :
  VJ P E fn (Post E.W0 E.h0 E.x0 Q) [] s := by
 intro hd w a b cs H hf hk
 obtain ⟨v, h1, h2⟩ := leave_ret (P := P) hT hl hs hq H
 exact ⟨.returned v, w, { b.at a [] with mode := .returning }, h2, Steps.one step_end, rfl, rfl, H.dfr, hk, fn, hf, h1⟩
def args0 : Nat → List AV → List (Nat × AV)
 | _, [] => []
 | i, v :: l => (i, v) :: args0 (i + 1) l
theorem lk_args0 : ∀ (l : List AV) (i j : Nat) (v : AV), lk (args0 i l) j = some v → i ≤ j ∧ l[j - i]? = some v
 | [], i, j, v, h => by cases h
 | u :: l, i, j, v, h => by
  unfold args0 lk at h
  split at h
  ·rename_i e; subst e; cases h; simp
  ·rename_i e
   obtain ⟨h1, h2⟩ := lk_args0 l (i + 1) j v h
   refine ⟨by omega, ?_⟩
   rw [show j - i = (j - (i + 1)) + 1 by omega]
   simpa using h2
theorem VC.of_body {f : FuncId} {fn : Func} {x : Code} {args : List AV} {G : Nat → Option VO} {Q : AV → (Nat → Option VO) → Prop} {nt : Nat} (hf : P.funcs[f]? = some fn) (hb : fn.body = some x) (hn : fn.ntmps = nt) (hl : Nat.ble args.length nt = true)
  (h : ∀ W0 h0 x0, ((∀ n, G n = none → h0 n = none) ∧ ∀ n o, G n = some o → ∀ m, o.says (.g m) → G m ≠ none) → VJ P ⟨W0, h0, x0, nt⟩ fn (Post W0 h0 x0 Q) [.code x] ⟨0, args0 0 args, [], G⟩) : VC P f args G Q := by
 intro h0 x0 w vs hg hv cs
 let b : Frame := { (default : Frame) with fn := f, kind := .normal }
 have henter : Frame.enter P f vs .normal = b.at { tmps := vs ++ Array.replicate (fn.ntmps - vs.size) undef, defers := [] } [.code x] := by
  simp [Frame.enter, Frame.at, hf, hb, b]
 have hl := Nat.le_of_ble_eq_true hl
 have hvs : vs.size ≤ nt := by have := hv.1; simp at this; omega
 have H : Sim ⟨w, h0, x0, nt⟩ (gh h0 x0) w { tmps := vs ++ Array.replicate (fn.ntmps - vs.size) undef, defers := [] } ⟨0, args0 0 args, [], G⟩ := by
  constructor
  ·intro i o e
   cases i with
   | l n => cases e
   | g n => exact hg.obj n o e
   | x n => cases e
  ·intro i u e
   cases i with
   | l n => cases e
   | g n => exact .inl (hg.dom n u e)
   | x n => exact .inr ⟨n, rfl⟩
  ·exact hg.inj
  ·exact fun n u e => e
  ·exact fun b => rfl
  ·exact hg.gl
  ·intro i u b e hb
   refine ⟨hg.lt i u b e hb, ?_⟩
   cases i with
   | l n => cases e
   | g n => exact .inl ⟨n, rfl, e⟩
   | x n => exact .inr (.inr ⟨n, rfl⟩)
  ·intro n o e; cases e
  ·exact fun _ _ _ => rfl
  ·exact Nat.le_refl _
  ·rfl
  ·rfl
  ·rfl
  ·simp [hn]; omega
  ·rfl
  ·intro i v e
   obtain ⟨_, h2⟩ := lk_args0 args 0 i v e
   simp only [Nat.sub_zero] at h2
   have hlt : i < vs.toList.length := by rw [← hv.1]; exact (List.getElem?_eq_some_iff.1 h2).1
   have h3 := hv.2 i v _ h2 (List.getElem?_eq_getElem hlt)
   have : (vs ++ Array.replicate (fn.ntmps - vs.size) undef).getD i undef = vs.toList[i] := by
    simp at hlt
    simp [Array.getD_eq_getD_getElem?, Array.getElem?_append_left hlt, hlt]
   rw [this]; exact h3
 have hno : ∀ n, G n = none → h0 n = none := fun n e => by
  cases e1 : h0 n with
  | none => rfl
  | some hd =>
   obtain ⟨o, ho⟩ := hg.dom n hd e1
   rw [e] at ho; cases ho
 have hA : ∀ (x : A) (u : Value), RA 0 (gh h0 x0) w x u → ∀ m, x.says (.g m) → h0 m ≠ none := by
  intro x u hu m hs
  have ok : okId 0 (gh h0 x0) (.g m) → h0 m ≠ none := fun h => h
  cases x with
  | ptr j off => simp only [A.says] at hs; subst hs; exact ok hu.1
  | mp j => simp only [A.says] at hs; subst hs; exact ok hu.1
  | own j => simp only [A.says] at hs; subst hs; exact ok hu.1
  | oel j k q off => simp only [A.says] at hs; subst hs; exact ok hu.1
  | _ => exact hs.elim
 have hcl : ∀ n o, G n = some o → ∀ m, o.says (.g m) → G m ≠ none := by
  intro n o ho m hs e
  obtain ⟨hd, _, h2⟩ := hg.obj n o ho
  cases o with
  | box cells =>
   obtain ⟨b, cs, t, _, _, h3⟩ := h2
   obtain ⟨x, hx, hsx⟩ := hs
   obtain ⟨q, hq⟩ := List.getElem?_of_mem hx
   have hlt : q < cs.toList.length := by rw [← h3.1]; exact (List.getElem?_eq_some_iff.1 hq).1
   exact hA x _ (h3.2 q x _ hq (List.getElem?_eq_getElem hlt)) m hsx (hno m e)
  | row e k xs => exact hs
  | map mk mv l z => exact hs
  | itr mk mv l left z cur => exact hs
 obtain ⟨e, w', fr, h1, h2, h3, h4⟩ := h w h0 x0 ⟨hno, hcl⟩ (gh h0 x0) w _ b cs H hf rfl
 exact ⟨e, w', fr, h1, henter ▸ h2, h3, h4⟩
end
end Go.Proofs.YtnpnjhopgedhkaaGreat.V
namespace Go.Proofs.YtnpnjhopgedhkaaGreat.V
open Go.RowKit
universe u
section
variable {c c' : Nat} {h h' : Hd} {w : World}
theorem Imm.tr {k : Nat} {xs : List Value} {b o : Nat} (hm : ∀ b, mutb h' b → mutb h b) (H : Imm h w k xs b o) : Imm h' w k xs b o := ⟨H.lt, fun e => H.im (hm _ e), H.sz, H.cell⟩
theorem RA.tr {x : A} {v : Value} (hg : ∀ n, h' (.g n) = h (.g n)) (hm : ∀ b, mutb h' b → mutb h b) (H : RA c h w x v) (hl : ∀ n, ¬ x.says (.l n)) : RA c' h' w x v := by
 have ok : ∀ i, okId c h i → (∀ n, i ≠ .l n) → okId c' h' i ∧ ∀ u, h' i = some u → h i = some u := by
  intro i hi hn
  cases i with
  | l n => exact absurd rfl (hn n)
  | g n => exact ⟨by show h' (.g n) ≠ none; rw [hg]; exact hi, fun u hu => by rw [← hg]; exact hu⟩
  | x n => exact hi.elim
 cases x with
 | d y =>
  cases y with
  | v u => exact H
  | lst k xs =>
   rcases H with H | ⟨b, o, cap, h1, h2, h3⟩
   ·exact .inl H
   ·exact .inr ⟨b, o, cap, h1, h2, h3.tr hm⟩
 | ptr i off => have := ok i H.1 (fun n e => hl n e); exact ⟨this.1, H.2.1, fun u hu => H.2.2 u (this.2 u hu)⟩
 | mp i => have := ok i H.1 (fun n e => hl n e); exact ⟨this.1, H.2.1, fun u hu => H.2.2 u (this.2 u hu)⟩
 | own i => have := ok i H.1 (fun n e => hl n e); exact ⟨this.1, H.2.1, fun u hu => H.2.2 u (this.2 u hu)⟩
 | el k xs j off => obtain ⟨b, o, h1, h2⟩ := H; exact ⟨b, o, h1, h2.tr hm⟩
 | oel i k j off => have := ok i H.1 (fun n e => hl n e); exact ⟨this.1, H.2.1, fun u hu => H.2.2 u (this.2 u hu)⟩
 | top => trivial
theorem RAs.tr {l : List A} {vs : List Value} (hg : ∀ n, h' (.g n) = h (.g n)) (hm : ∀ b, mutb h' b → mutb h b) (H : RAs c h w l vs) (hl : ∀ x ∈ l, ∀ n, ¬ A.says x (.l n)) : RAs c' h' w l vs :=
 ⟨H.1, fun j x v h1 h2 => (H.2 j x v h1 h2).tr hg hm (hl x (List.mem_of_getElem? h1))⟩
theorem RV.tr {x : AV} {v : Value} (hg : ∀ n, h' (.g n) = h (.g n)) (hm : ∀ b, mutb h' b → mutb h b) (H : RV c h w x v) (hl : ∀ n, ¬ x.says (.l n)) : RV c' h' w x v := by
 cases x with
 | a x => exact RA.tr hg hm H hl
 | fn f l => obtain ⟨vs, h1, h2⟩ := H; exact ⟨vs, h1, h2.tr hg hm fun x hx n hs => hl n ⟨x, hx, hs⟩⟩
 | tup l => obtain ⟨vs, h1, h2⟩ := H; exact ⟨vs, h1, h2.tr hg hm fun x hx n hs => hl n ⟨x, hx, hs⟩⟩
 | agg l => obtain ⟨vs, h1, h2⟩ := H; exact ⟨vs, h1, h2.tr hg hm fun x hx n hs => hl n ⟨x, hx, hs⟩⟩
 | may j wt q x => exact ⟨fun hq => RA.tr hg hm (H.1 hq) (fun n hs => hl n ⟨hq, hs⟩), H.2⟩
theorem OBJ.tr {o : VO} {v : Value} (hg : ∀ n, h' (.g n) = h (.g n)) (hm : ∀ b, mutb h' b → mutb h b) (H : OBJ c h w v o) (hl : ∀ n, ¬ o.says (.l n)) : OBJ c' h' w v o := by
 cases o with
 | box cells => obtain ⟨b, cs, t, h1, h2, h3⟩ := H; exact ⟨b, cs, t, h1, h2, h3.tr hg hm fun x hx n hs => hl n ⟨x, hx, hs⟩⟩
 | row e k xs => exact H
 | map mk mv l z => exact H
 | itr mk mv l left z cur => exact H
theorem RA.nol {x : A} {v : Value} (H : RA 0 h w x v) (n : Nat) : ¬ x.says (.l n) := by
 intro hs
 cases x with
 | ptr j off => have := H.1; simp only [A.says] at hs; subst hs; exact Nat.not_lt_zero _ this
 | mp j => have := H.1; simp only [A.says] at hs; subst hs; exact Nat.not_lt_zero _ this
 | own j => have := H.1; simp only [A.says] at hs; subst hs; exact Nat.not_lt_zero _ this
 | oel j k q off => have := H.1; simp only [A.says] at hs; subst hs; exact Nat.not_lt_zero _ this
 | _ => exact hs
theorem RAs.nol {l : List A} {vs : List Value} (H : RAs 0 h w l vs) (n : Nat) : ¬ ∃ x ∈ l, A.says x (.l n) := by
 rintro ⟨x, hx, hs⟩
 obtain ⟨q, hq⟩ := List.getElem?_of_mem hx
 have hlt : q < vs.length := by rw [← H.1]; exact (List.getElem?_eq_some_iff.1 hq).1
 exact (H.2 q x _ hq (List.getElem?_eq_getElem hlt)).nol n hs
theorem RV.nol {x : AV} {v : Value} (H : RV 0 h w x v) (n : Nat) : ¬ x.says (.l n) := by
 cases x with
 | a x => exact RA.nol H n
 | fn f l => obtain ⟨vs, _, h2⟩ := H; exact h2.nol n
 | tup l => obtain ⟨vs, _, h2⟩ := H; exact h2.nol n
 | agg l => obtain ⟨vs, _, h2⟩ := H; exact h2.nol n
 | may j wt q x => exact fun hs => RA.nol (H.1 hs.1) n hs.2
theorem glV_says {x : AV} (h : glV x = true) (n : Nat) : ¬ x.says (.l n) := by
 have hl : ∀ l : List A, l.all glA = true → ¬ ∃ x ∈ l, A.says x (.l n) := fun l h ⟨x, hx, hs⟩ => glA_says (List.all_eq_true.1 h x hx) n hs
 cases x with
 | a x => exact glA_says h n
 | fn f l => exact hl l h
 | tup l => exact hl l h
 | agg l => exact hl l h
 | may j wt q x => cases h
end
def hide (h : Hd) (b : Nat) : Option Value := if b % 2 = 0 then h (.x (b / 2)) else h (.l (b / 2))
theorem hide_l (h : Hd) (n : Nat) : hide h (2 * n + 1) = h (.l n) := by
 unfold hide
 rw [if_neg (by omega)]
 congr 2; omega
theorem hide_x (h : Hd) (n : Nat) : hide h (2 * n) = h (.x n) := by
 unfold hide
 rw [if_pos (by omega)]
 congr 2; omega
def phi : Id → Id
 | .l n => .x (2 * n + 1)
 | .g n => .g n
 | .x b => .x (2 * b)
theorem phi_inj {i j : Id} (h : phi i = phi j) : i = j := by
 cases i <;> cases j <;> simp only [phi, Id.x.injEq, Id.g.injEq, Id.l.injEq, reduceCtorEq] at h ⊢ <;> omega
theorem gh_phi (h : Hd) (h1 : Nat → Option Value) (i : Id) : gh h1 (hide h) (phi i) = match i with | .g n => h1 n | i => h i := by
 cases i with
 | l n => exact hide_l h n
 | g n => rfl
 | x n => exact hide_x h n
theorem gh_hide (h : Hd) (h1 : Nat → Option Value) (j : Id) (v : Value) (e : gh h1 (hide h) j = some v) : ∃ i, phi i = j := by
 cases j with
 | l n => cases e
 | g n => exact ⟨.g n, rfl⟩
 | x b =>
  by_cases hb : b % 2 = 0
  ·exact ⟨.x (b / 2), by simp only [phi]; congr 1; omega⟩
  ·exact ⟨.l (b / 2), by simp only [phi]; congr 1; omega⟩
theorem mutb_hide (h : Hd) (h1 : Nat → Option Value) (b : Nat) : mutb (gh h1 (hide h)) b ↔ mutb (fun i => match i with | .g n => h1 n | i => h i) b := by
 constructor
 ·rintro ⟨j, v, e, hb⟩
  obtain ⟨i, rfl⟩ := gh_hide h h1 j v e
  rw [gh_phi] at e
  exact ⟨i, v, e, hb⟩
 ·rintro ⟨i, v, e, hb⟩
  exact ⟨phi i, v, by rw [gh_phi]; exact e, hb⟩
theorem back_id (h : Hd) : (fun i => match i with | .g n => (fun n => h (.g n)) n | i => h i) = h := by
 funext i; cases i <;> rfl
section
variable {P : Program} {E : Env} {ops : Array Oper} {rest : List Oper} {s : S} {K : S → Prop}
variable {c : Nat} {t : List (Nat × AV)} {L : List (Nat × VO)} {G : Nat → Option VO} {d ty : Nat} {pos : String} {af : Array Edge} {tab : Tab}
theorem Sim.sgh {h : Hd} {w : World} {a : Act} (H : Sim E h w a s) : SG (fun n => h (.g n)) (hide h) w s.G := by
 have hm : ∀ b, mutb (gh (fun n => h (.g n)) (hide h)) b → mutb h b := fun b hb => by rw [mutb_hide, back_id] at hb; exact hb
 have he : ∀ i, gh (fun n => h (.g n)) (hide h) (phi i) = h i := fun i => by rw [gh_phi]; cases i <;> rfl
 refine ⟨fun n o e => ?_, fun n v e => ?_, ?_, ?_, H.gl⟩
 ·obtain ⟨v, h1, h2⟩ := H.obj (.g n) o e
  exact ⟨v, h1, OBJ.tr (h := h) (fun n => rfl) hm h2 (H.gl n o e)⟩
 ·rcases H.dom (.g n) v e with h1 | ⟨b, e⟩
  ·exact h1
  ·cases e
 ·intro i j hi hj b e1 e2 b1 b2
  obtain ⟨i', rfl⟩ := gh_hide h _ i hi e1
  obtain ⟨j', rfl⟩ := gh_hide h _ j hj e2
  rw [he] at e1 e2
  rw [H.inj i' j' hi hj b e1 e2 b1 b2]
 ·intro i v b e hb
  obtain ⟨i', rfl⟩ := gh_hide h _ i v e
  rw [he] at e
  exact (H.own i' v b e hb).1
theorem Sim.called {h : Hd} {w w' : World} {a : Act} {c : Nat} {t : List (Nat × AV)} {L : List (Nat × VO)} {G G' : Nat → Option VO} (H : Sim E h w a ⟨c, t, L, G⟩) {h1 : Nat → Option Value} (hg : SG h1 (hide h) w' G') (hold : ∀ n hd, h (.g n) = some hd → h1 n = some hd)
  (hnew : ∀ n hd b, h1 n = some hd → blk hd = some b → h (.g n) = some hd ∨ w.heap.size ≤ b) (hfr : ∀ b, b < w.heap.size → (∀ n hd, h (.g n) = some hd → blk hd ≠ some b) → w'.heap[b]? = w.heap[b]?)
  (hsz : w.heap.size ≤ w'.heap.size) (hos : w'.os = w.os) (htape : w'.tape = w.tape) (hout : w'.output = w.output) :
  Sim E (fun i => match i with | .g n => h1 n | i => h i) w' a ⟨c, t, L, G'⟩ := by
 have st : Stp c h w c (fun i => match i with | .g n => h1 n | i => h i) w' (fun _ => False) := by
  refine ⟨Nat.le_refl _, fun n hn => ?_, fun i hi _ v e => ?_, hsz, fun b hlt hm => ⟨hfr b hlt fun n v e hb => hm ⟨.g n, v, e, hb⟩, ?_⟩⟩
  ·cases e : h (.g n) with
   | none => exact absurd e hn
   | some v => show h1 n ≠ none; rw [hold n v e]; simp
  ·cases i with
   | l n => exact e
   | g n =>
    cases e1 : h (.g n) with
    | none => exact absurd e1 hi
    | some u =>
     have := hold n u e1
     simp only at e
     rw [this] at e; exact e
   | x n => exact hi.elim
  ·rintro ⟨i, v, e, hb⟩
   cases i with
   | l n => exact hm ⟨_, _, e, hb⟩
   | g n =>
    rcases hnew n v b e hb with h2 | h2
    ·exact hm ⟨_, _, h2, hb⟩
    ·omega
   | x n => exact hm ⟨_, _, e, hb⟩
 have ne : ∀ i v b, (∀ n, i ≠ .g n) → h i = some v → blk v = some b → b < w.heap.size ∧ w'.heap[b]? = w.heap[b]? := fun i v b hi e hb => by
  have hlt := (H.own i v b e hb).1
  exact ⟨hlt, hfr b hlt fun n u e2 hb2 => hi n (H.inj i (.g n) v u b e e2 hb hb2)⟩
 constructor
 ·intro i o e
  cases i with
  | l n =>
   obtain ⟨v, g1, g2⟩ := H.obj (.l n) o e
   exact ⟨v, g1, g2.step st (fun b hb => (ne (.l n) v b (fun n e => by cases e) g1 hb).2) (fun _ _ h => h)⟩
  | g n =>
   obtain ⟨v, g1, g2⟩ := hg.obj n o e
   exact ⟨v, g1, g2.tr (fun n => rfl) (fun b hb => (mutb_hide h h1 b).2 hb) (hg.gl n o e)⟩
  | x n => cases e
 ·intro i v e
  cases i with
  | l n => exact H.dom (.l n) v e
  | g n => exact .inl (hg.dom n v e)
  | x n => exact .inr ⟨n, rfl⟩
 ·intro i j hi hj b e1 e2 b1 b2
  have := hg.inj (phi i) (phi j) hi hj b (by rw [gh_phi]; exact e1) (by rw [gh_phi]; exact e2) b1 b2
  exact phi_inj this
 ·exact fun n v e => hold n v (H.old n v e)
 ·exact H.pri
 ·exact hg.gl
 ·intro i v b e hb
  have hlt : b < w'.heap.size := hg.lt (phi i) v b (by rw [gh_phi]; exact e) hb
  refine ⟨hlt, ?_⟩
  cases i with
  | l n => exact (H.own (.l n) v b e hb).2
  | g n =>
   rcases hnew n v b e hb with h2 | h2
   ·exact (H.own (.g n) v b h2 hb).2
   ·exact .inr (.inl (Nat.le_trans H.sz h2))
  | x n => exact .inr (.inr ⟨n, rfl⟩)
 ·exact H.cl
 ·intro b hlt hno
  rw [hfr b (Nat.lt_of_lt_of_le hlt H.sz)]
  ·exact H.fr b hlt hno
  ·intro n v e hb
   rcases (H.own (.g n) v b e hb).2 with ⟨m, e1, e2⟩ | e1 | ⟨q, e1⟩
   ·exact hno m v e2 hb
   ·omega
   ·cases e1
 ·exact Nat.le_trans H.sz hsz
 ·exact hos.trans H.os
 ·exact htape.trans H.tape
 ·exact hout.trans H.output
 ·exact H.nt
 ·exact H.dfr
 ·exact fun i v e => (H.tmp i v e).step st (fun _ _ h => h)
def avs (s : S) : List Operand → Option (List AV)
 | [] => some []
 | x :: l => match ev s x, avs s l with
  | some v, some vs => some (v :: vs)
  | _, _ => none
theorem Sim.avs {h : Hd} {w : World} {a : Act} (H : Sim E h w a s) : ∀ (l : List Operand) (vs : List AV), avs s l = some vs → RVs s.c h w vs (l.map a.eval)
 | [], vs, hx => by cases hx; exact ⟨rfl, fun j x v h => by simp at h⟩
 | x :: l, vs, hx => by
  unfold V.avs at hx
  split at hx
  ·rename_i v us h1 h2
   cases hx
   obtain ⟨i1, i2⟩ := Sim.avs H l us h2
   refine ⟨by simp [i1], fun j y u hy hu => ?_⟩
   cases j with
   | zero => simp at hy hu; subst hy; subst hu; exact H.ev h1
   | succ j => simp only [List.getElem?_cons_succ, List.map_cons] at hy hu; exact i2 j y u hy hu
  ·cases hx
def FnOk (P : Program) (f : FuncId) : Prop := ∀ args w, (callFunc f args).run P w = .ok (.enter f args) w
theorem run_call {w : World} {a : Act} {h : Hd} {fo : Operand} {args : Array Operand} {tys : Array TypeId} {f : FuncId} {caps : List A} (hf : FnOk P f) (hv : RV s.c h w (.fn f caps) (a.eval fo)) :
  ∃ cs : Array Value, RAs s.c h w caps cs.toList ∧ (execOp a.eval (⟨some d, .call { callee := .value fo, args := args, argTypes := tys }, ty, pos, af, none⟩ : Oper)).run P w = .ok (.enter f (args.map a.eval ++ cs)) w := by
 obtain ⟨cs, e, hr⟩ := hv
 refine ⟨cs, hr, ?_⟩
 simp [execOp, resolve, Deferred.ofValue, e, invoke]
 exact hf _ _
theorem VR.call {fo : Operand} {args : Array Operand} {tys : Array TypeId} {f : FuncId} {caps : List A} {l : List AV} (hf : FnOk P f) (hn : Nat.ble (d + 1) E.nt = true) (hfo : ev ⟨c, t, L, G⟩ fo = some (.fn f caps)) (ha : avs ⟨c, t, L, G⟩ args.toList = some l)
  (hg : (l ++ caps.map AV.a).all glV = true)
  (hc : VC P f (l ++ caps.map AV.a) G fun r G' => VR P E ops rest ⟨c, (d, r) :: t, L, G'⟩ K) :
  VR P E ops (⟨some d, .call { callee := .value fo, args := args, argTypes := tys }, ty, pos, af, none⟩ :: rest) ⟨c, t, L, G⟩ K := by
 intro h w a H
 refine wpList_plain rfl fun Kc hK => ?_
 obtain ⟨cs, hr, hrun⟩ := run_call (P := P) (d := d) (ty := ty) (pos := pos) (af := af) (args := args) (tys := tys) hf (H.ev hfo)
 unfold Oper.wp
 rw [hrun, Oper.upon_enter]
 have hm : ∀ b, mutb (gh (fun n => h (.g n)) (hide h)) b → mutb h b := fun b hb => by rw [mutb_hide, back_id] at hb; exact hb
 have hargs : RVs 0 (gh (fun n => h (.g n)) (hide h)) w (l ++ caps.map AV.a) (args.map a.eval ++ cs).toList := by
  have h1 := H.avs _ _ ha
  refine ⟨by have := h1.1; have := hr.1; simp at *; omega, fun j x v hx hv => ?_⟩
  have hgl : ∀ n, ¬ x.says (.l n) := fun n => glV_says (List.all_eq_true.1 hg x (List.mem_of_getElem? hx)) n
  refine RV.tr (c := c) (h := h) (fun n => rfl) hm ?_ hgl
  simp only [Array.toList_append, Array.toList_map] at hv
  have hlen : l.length = (args.toList.map a.eval).length := h1.1
  rcases Nat.lt_or_ge j l.length with hj | hj
  ·rw [List.getElem?_append_left hj] at hx
   rw [List.getElem?_append_left (by rw [← hlen]; exact hj)] at hv
   exact h1.2 j x v hx hv
  ·rw [List.getElem?_append_right hj] at hx
   rw [List.getElem?_append_right (by rw [← hlen]; exact hj), ← hlen] at hv
   obtain ⟨y, hy, rfl⟩ := map_get _ _ _ _ hx
   exact hr.2 _ y v hy hv
 refine (hc _ _ w _ H.sgh hargs).mono ?_
 rintro e w' ⟨v, r, G', h1, rfl, hq, sg, hrv, hold, hnew, hfr, hsz, hos, htape, hout⟩
 have H' := H.called sg hold hnew hfr hsz hos htape hout
 refine hK _ _ (hq _ w' _ (H'.put d (Nat.le_of_ble_eq_true hn) r v ?_))
 exact hrv.tr (fun n => rfl) (fun b hb => (mutb_hide h h1 b).2 hb) (fun n => hrv.nol n)
end
end Go.Proofs.YtnpnjhopgedhkaaGreat.V
namespace Go.Proofs.YtnpnjhopgedhkaaGreat.V
open Go.RowKit
universe u
theorem Oper.wp_q {P : Program} {o : Oper} {a : Act} {w : World} {K : Act → World → Prop} {Q Q' : Exit → Act → World → Prop} (h : o.wp P a w K Q) (hp : ∀ c a w, Q (.panic c) a w → Q' (.panic c) a w) (hl : LetsOut Q → LetsOut Q') : o.wp P a w K Q' := by
 unfold Oper.wp at *
 generalize (execOp a.eval o).run P w = r at *
 cases r with
 | ok n w' =>
  cases n <;> simp only [Oper.upon] at h ⊢ <;>
   first
    | exact h
    | exact Calls.mono h (fun e w'' he => by cases e <;> first | exact he | exact hp _ _ _ he | exact hl he)
 | halt x w' => cases x <;> simp only [Oper.upon] at h ⊢ <;> first | exact h | exact hp _ _ _ h
section
variable {P : Program} {E : Env} {ops : Array Oper} {rest : List Oper} {s : S} {K : S → Prop}
variable {c : Nat} {t : List (Nat × AV)} {L : List (Nat × VO)} {G : Nat → Option VO} {d ty : Nat} {pos : String} {af : Array Edge} {tab : Tab}
def gd (s : S) (tj : Nat) (want : Bool) : Option Bool := match lk s.t tj with
 | some (.a (.d (.v (.bool b)))) => some (b == want)
 | some (.may _ _ q (.d (.v (.bool b)))) => some (q && (b == want))
 | _ => none
theorem wanted_gd {a : Act} {h : Hd} {w : World} {j tj : Nat} {want g : Bool} (H : Sim E h w a s) (hj : (ops[j]?).bind (·.dst) = some tj) (hg : gd s tj want = some g) (o : Oper) (ho : o.guard = some (j, want)) :
  Region.wanted o (yielded ops a.tmps) = g := by
 unfold gd at hg
 have key : ∀ v, a.tmps.getD tj undef = v → (∀ b, v = .bool b → yielded ops a.tmps j = some b) ∧ (v = undef → yielded ops a.tmps j = none) := by
  intro v hv
  rw [Array.getD_eq_getD_getElem?] at hv
  unfold yielded
  simp only [hj, Option.bind_some]
  cases e : a.tmps[tj]? with
  | none => rw [e] at hv; simp at hv; subst hv; exact ⟨fun b hb => by simp [undef] at hb, fun _ => rfl⟩
  | some u => rw [e] at hv; simp at hv; subst hv; exact ⟨fun b hb => by subst hb; rfl, fun hb => by rw [hb]; rfl⟩
 split at hg
 ·rename_i b e
  cases hg
  have := (key _ rfl).1 b (H.tmp _ _ e)
  unfold Region.wanted
  rw [ho]
  simp only [this]
  cases b <;> cases want <;> rfl
 ·rename_i q b e
  cases hg
  have hr := H.tmp _ _ e
  cases q with
  | true =>
   have := (key _ rfl).1 b (hr.1 rfl)
   unfold Region.wanted
   rw [ho]
   simp only [this]
   cases b <;> cases want <;> rfl
  | false =>
   have := (key _ rfl).2 (hr.2 rfl)
   unfold Region.wanted
   rw [ho]
   simp only [this]
   rfl
 ·cases hg
def tmpsOf (o : Op) : List Nat := o.operands.toList.filterMap fun | .tmp t => some t | _ => none
def opnL (t : List (Nat × AV)) (j : Nat) (wt : Bool) : List Nat → List (Nat × AV)
 | [] => []
 | i :: is => match lk t i with
  | some (.may j' wt' q x) => if j = j' then (match wt, wt' with
   | true, true => (i, .a x) :: opnL t j wt is
   | false, false => (i, .a x) :: opnL t j wt is
   | _, _ => opnL t j wt is) else opnL t j wt is
  | _ => opnL t j wt is
def opqL (t : List (Nat × AV)) (j : Nat) (wt : Bool) (g : Bool) : List Nat → Prop
 | [] => True
 | i :: is => match lk t i with
  | some (.may j' wt' q x) => if j = j' then (match wt, wt' with
   | true, true => (g = true → q = true) ∧ opqL t j wt g is
   | false, false => (g = true → q = true) ∧ opqL t j wt g is
   | _, _ => opqL t j wt g is) else opqL t j wt g is
  | _ => opqL t j wt g is
theorem opn_spec (j : Nat) (wt g : Bool) (hg : g = true) : ∀ (is : List Nat), opqL t j wt g is → ∀ i v, lk (opnL t j wt is) i = some v → ∃ j' wt' x q, v = .a x ∧ lk t i = some (.may j' wt' q x) ∧ q = true
 | [], _, i, v, h => by cases h
 | k :: is, hq, i, v, h => by
  unfold opnL at h
  unfold opqL at hq
  split at h
  ·rename_i j' wt' q x e
   rw [e] at hq
   simp only at hq
   split at h
   ·rename_i hj
    rw [if_pos hj] at hq
    split at h
    ·obtain ⟨h1, h2⟩ := hq
     unfold lk at h
     split at h
     ·rename_i e2; cases h; rw [e2]; exact ⟨_, _, x, q, rfl, e, h1 hg⟩
     ·exact opn_spec j _ g hg is h2 i v h
    ·obtain ⟨h1, h2⟩ := hq
     unfold lk at h
     split at h
     ·rename_i e2; cases h; rw [e2]; exact ⟨_, _, x, q, rfl, e, h1 hg⟩
     ·exact opn_spec j _ g hg is h2 i v h
    ·rename_i h1 h2
     refine opn_spec j _ g hg is ?_ i v h
     cases wt <;> cases wt' <;> first | exact hq | exact (h1 rfl rfl).elim | exact (h2 rfl rfl).elim
   ·rename_i hj
    rw [if_neg hj] at hq
    exact opn_spec j _ g hg is hq i v h
  ·rename_i hno
   refine opn_spec j _ g hg is ?_ i v h
   split at hq
   ·rename_i j' wt' q x e; exact absurd e (hno j' wt' q x)
   ·exact hq
theorem lk_append {α : Type u} (l r : List (Nat × α)) (i : Nat) : lk (l ++ r) i = match lk l i with | some v => some v | none => lk r i := by
 induction l with
 | nil => rfl
 | cons p l ih =>
  obtain ⟨a, b⟩ := p
  simp only [List.cons_append, lk]
  split
  ·rfl
  ·exact ih
theorem VR.spec {op : Op} {j tj : Nat} {want g : Bool} {v : A} (hn : Nat.ble (d + 1) E.nt = true) (hj : (ops[j]?).bind (·.dst) = some tj) (hg : gd ⟨c, t, L, G⟩ tj want = some g)
  (hq : opqL t j want g (tmpsOf op))
  (hop : g = true → ∀ K' : S → Prop, K' ⟨c, (d, .a v) :: (opnL t j want (tmpsOf op) ++ t), L, G⟩ → VR P E ops [⟨some d, op, ty, pos, af, none⟩] ⟨c, opnL t j want (tmpsOf op) ++ t, L, G⟩ K')
  (k : VR P E ops rest ⟨c, (d, .may j want g v) :: t, L, G⟩ K) :
  VR P E ops (⟨some d, op, ty, pos, af, some (j, want)⟩ :: rest) ⟨c, t, L, G⟩ K := by
 intro h w a H
 have hw := wanted_gd (ops := ops) H hj hg ⟨some d, op, ty, pos, af, some (j, want)⟩ rfl
 unfold wpList
 cases hgv : g with
 | false =>
  rw [hgv] at hw
  rw [if_neg (by rw [hw]; simp)]
  exact k h w _ (H.put d (Nat.le_of_ble_eq_true hn) _ undef ⟨(fun e => by rw [hgv] at e; cases e), fun _ => rfl⟩)
 | true =>
  rw [hgv] at hw
  rw [if_pos hw]
  have hH : Sim E h w a ⟨c, opnL t j want (tmpsOf op) ++ t, L, G⟩ := H.reput fun i u hu => by
   rw [lk_append] at hu
   split at hu
   ·rename_i u' e
    cases hu
    obtain ⟨j', wt', x, q, rfl, e2, hq2⟩ := opn_spec j want g hgv _ hq i u e
    exact (H.tmp i _ e2).1 hq2
   ·exact H.tmp i u hu
  have h1 := hop hgv (fun s' => s' = ⟨c, (d, .a v) :: (opnL t j want (tmpsOf op) ++ t), L, G⟩) rfl h w a hH
  unfold wpList at h1
  rw [if_pos (by simp [Region.wanted])] at h1
  rcases h1 with h1 | ⟨_, a0, w0, e, _⟩
  ·refine .inl ?_
   have h2 : (⟨some d, op, ty, pos, af, some (j, want)⟩ : Oper).wp P a w (wpList P ops (QK E fun s' => s' = ⟨c, (d, .a v) :: (opnL t j want (tmpsOf op) ++ t), L, G⟩) []) (QK E fun s' => s' = ⟨c, (d, .a v) :: (opnL t j want (tmpsOf op) ++ t), L, G⟩) := h1
   have h3 := Oper.wp_q (Q' := QK E K) h2 (fun _ _ _ h => by cases h.1) (fun ⟨_, _, h⟩ => by cases h.1)
   refine Oper.wp_mono (fun a' w' hh => ?_) h3
   obtain ⟨_, h', s', H', rfl⟩ := hh
   refine k h' w' a' (H'.reput fun i u hu => ?_)
   simp only [lk] at hu
   split at hu
   ·rename_i e
    cases hu
    have hr := H'.tmp i (.a v) (by simp [lk, e])
    exact ⟨fun _ => hr, fun e2 => by rw [hgv] at e2; cases e2⟩
   ·rename_i e
    cases e2 : lk (opnL t j want (tmpsOf op)) i with
    | none => exact H'.tmp i u (by simp [lk, e, lk_append, e2, hu])
    | some u' =>
     obtain ⟨j', wt', x, q, rfl, e3, hq3⟩ := opn_spec j want g hgv _ hq i u' e2
     rw [e3] at hu; cases hu
     have hr := H'.tmp i (.a x) (by simp [lk, e, lk_append, e2])
     exact ⟨fun _ => hr, fun e4 => by rw [hq3] at e4; cases e4⟩
  ·cases e
def bvv (s : S) (x : Operand) : Option Bool := match ev s x with
 | some (.a (.d (.v (.bool b)))) => some b
 | some (.may _ _ _ (.d (.v (.bool b)))) => some b
 | _ => none
def bvc (s : S) (x : Operand) (p : Prop) : Prop := match ev s x with
 | some (.may _ _ q _) => p → q = true
 | _ => True
theorem bv_spec {h : Hd} {w : World} {a : Act} (H : Sim E h w a s) {x : Operand} {p : Prop} {b : Bool} (hp : p) (hv : bvv s x = some b) (hc : bvc s x p) : a.eval x = .bool b := by
 unfold bvv at hv
 unfold bvc at hc
 split at hv
 ·rename_i e; cases hv; exact H.ev e
 ·rename_i q _ e
  cases hv
  rw [e] at hc
  exact (H.ev e).1 (hc hp)
 ·cases hv
theorem VR.pickB {q x y : Operand} {b p r : Bool} (hn : Nat.ble (d + 1) E.nt = true) (hq : fl ⟨c, t, L, G⟩ q = some (.bool b)) (hx : bvv ⟨c, t, L, G⟩ x = some p) (hy : bvv ⟨c, t, L, G⟩ y = some r)
  (cx : bvc ⟨c, t, L, G⟩ x (b = true)) (cy : bvc ⟨c, t, L, G⟩ y (b = false)) (k : VR P E ops rest ⟨c, (d, .a (.d (.v (.bool (bif b then p else r))))) :: t, L, G⟩ K) :
  VR P E ops (⟨some d, .pick q x y, ty, pos, af, none⟩ :: rest) ⟨c, t, L, G⟩ K := by
 refine VR.val rfl rfl (Nat.le_of_ble_eq_true hn) (.a (.d (.v (.bool (bif b then p else r))))) (fun h w a H => ⟨_, ?_, rfl⟩) k
 cases b with
 | true => simp [execOp, H.fl hq, asBool, bv_spec H rfl hx cx]
 | false => simp [execOp, H.fl hq, asBool, bv_spec H rfl hy cy]
end
end Go.Proofs.YtnpnjhopgedhkaaGreat.V
namespace Go.Proofs.YtnpnjhopgedhkaaGreat.V
open Go.RowKit
universe u
structure Hp : Type 1 where
 c : Nat
 L : List (Nat × VO)
 G : Nat → Option VO
def waits (l : List Oper) (j i : Nat) : Bool := match l[j]? with
 | some o => o.after.any fun e => Region.binds .any e && e.on == i
 | none => false
def maker : List Oper → Nat → Nat → Option Nat
 | [], _, _ => none
 | o :: l, i, r => match o.dst with
  | some d => if d = r then some i else maker l (i + 1) r
  | none => maker l (i + 1) r
def opv (l : List Oper) (vs : List AV) (t0 : List (Nat × AV)) (j r : Nat) : Option AV := match maker l 0 r with
 | none => lk t0 r
 | some i => match waits l j i with
  | true => vs[i]?
  | false => match waits l i j with
   | true => lk t0 r
   | false => none
def tmpsG (l : List Oper) (o : Oper) : List Nat := tmpsOf o.op ++ match o.guard with
 | some (g, _) => ((l[g]?).bind (·.dst)).toList
 | none => []
def ttl (l : List Oper) (vs : List AV) (t0 : List (Nat × AV)) (j : Nat) : List Nat → List (Nat × AV)
 | [] => []
 | r :: rs => match opv l vs t0 j r with
  | some v => (r, v) :: ttl l vs t0 j rs
  | none => ttl l vs t0 j rs
def tl (d : Array Bool) : Nat → List Oper → List AV → List (Nat × AV) → List (Nat × AV)
 | i, o :: l, v :: vs, t0 => match o.dst with
  | some r => match d.getD i false with
   | true => (r, v) :: tl d (i + 1) l vs t0
   | false => tl d (i + 1) l vs t0
  | none => tl d (i + 1) l vs t0
 | _, _, _, t0 => t0
def tla : List Oper → List AV → List (Nat × AV) → List (Nat × AV)
 | o :: l, v :: vs, t0 => match o.dst with
  | some r => (r, v) :: tla l vs t0
  | none => tla l vs t0
 | _, _, t0 => t0
def nodupD : List Oper → Bool
 | [] => true
 | o :: l => (match o.dst with
  | some r => l.all fun p => p.dst != some r
  | none => true) && nodupD l
def pairOk (l : List Oper) (e2 : List Nat) (j k : Nat) : Bool := match e2.contains j with
 | true => e2[k]? == some j
 | false => (List.range k).all fun q => match e2[q]? with
  | some e => !waits l e j
  | none => true
def chainOk (l : List Oper) (e2 : List Nat) : Bool := (List.range e2.length).all fun q => (List.range q).all fun p => match e2[q]?, e2[p]? with
 | some x, some y => waits l x y
 | _, _ => true
def chain1Ok (l : List Oper) (e2 : List Nat) : Bool := (List.range e2.length).all fun q => match e2[q + 1]?, e2[q]? with
 | some x, some y => waits l x y
 | _, _ => true
def lateOk (l : List Oper) (e2 : List Nat) (j k : Nat) : Bool := (List.range e2.length).all fun q => decide (q < k) || match e2[q]? with
 | some e => !waits l j e
 | none => true
def coverOk (l : List Oper) (e2 : List Nat) (ps : List (Nat × Nat)) : Bool := (List.range l.length).all fun j => (List.range (e2.length + 1)).all fun k => !(pairOk l e2 j k && lateOk l e2 j k) || ps.contains (j, k)
def nodupN : List Nat → Bool
 | [] => true
 | x :: l => !l.contains x && nodupN l
def backOk (l : List Oper) : Bool := (List.range l.length).all fun j => match l[j]? with
 | some o => o.after.all fun e => !Region.binds .any e || decide (e.on < j)
 | none => true
def drawOk (l : List Oper) (e2 : List Nat) (ps : List (Nat × Nat)) (nv nh : Nat) : Bool :=
 nodupD l && chain1Ok l e2 && coverOk l e2 ps && nodupN e2 && nv == l.length && nh == e2.length + 1 && e2.all (· < l.length) && backOk l
def hop (P : Program) (E : Env) (l : List Oper) (e2 : List Nat) (vs : List AV) (hs : List Hp) (t0 : List (Nat × AV)) (p : Nat × Nat) : Prop :=
 match l[p.1]?, vs[p.1]?, hs[p.2]?, hs[if e2.contains p.1 then p.2 + 1 else p.2]? with
 | some o, some v, some x, some y => ∀ (rest : List (Nat × AV)) (K1 : S → Prop),
   K1 ⟨y.c, (match o.dst with | some d => (d, v) :: (ttl l vs t0 p.1 (tmpsG l o) ++ rest) | none => ttl l vs t0 p.1 (tmpsG l o) ++ rest), y.L, y.G⟩ →
   VR P E l.toArray [o] ⟨x.c, ttl l vs t0 p.1 (tmpsG l o) ++ rest, x.L, x.G⟩ K1
 | _, _, _, _ => True
def hops (P : Program) (E : Env) (l : List Oper) (e2 : List Nat) (vs : List AV) (hs : List Hp) (t0 : List (Nat × AV)) : List (Nat × Nat) → Prop
 | [] => True
 | p :: ps => hop P E l e2 vs hs t0 p ∧ hops P E l e2 vs hs t0 ps
theorem hops_mem {P : Program} {E : Env} {l : List Oper} {e2 : List Nat} {vs : List AV} {hs : List Hp} {t0 : List (Nat × AV)} : ∀ (ps : List (Nat × Nat)), hops P E l e2 vs hs t0 ps → ∀ p ∈ ps, hop P E l e2 vs hs t0 p
 | [], _, p, h => by cases h
 | q :: ps, h, p, hp => by
  rcases List.mem_cons.1 hp with rfl | hp
  ·exact h.1
  ·exact hops_mem ps h.2 p hp
theorem maker_some : ∀ (l : List Oper) (i r j : Nat), maker l i r = some j → i ≤ j ∧ ∃ o, l[j - i]? = some o ∧ o.dst = some r
 | [], i, r, j, h => by cases h
 | o :: l, i, r, j, h => by
  unfold maker at h
  have ind : maker l (i + 1) r = some j → i ≤ j ∧ ∃ o', (o :: l)[j - i]? = some o' ∧ o'.dst = some r := fun h => by
   obtain ⟨h1, o', h2, h3⟩ := maker_some l (i + 1) r j h
   refine ⟨by omega, o', ?_, h3⟩
   rw [show j - i = (j - (i + 1)) + 1 by omega]; simpa using h2
  split at h
  ·rename_i d hd
   split at h
   ·rename_i e; cases h; subst e; exact ⟨Nat.le_refl _, o, by simp, hd⟩
   ·exact ind h
  ·exact ind h
theorem maker_none : ∀ (l : List Oper) (i r : Nat), maker l i r = none → ∀ o ∈ l, o.dst ≠ some r
 | [], i, r, _, o, h => by cases h
 | o :: l, i, r, h, o', ho => by
  unfold maker at h
  split at h
  ·rename_i d hd
   split at h
   ·cases h
   ·rename_i e
    rcases List.mem_cons.1 ho with rfl | ho
    ·rw [hd]; simpa using e
    ·exact maker_none l (i + 1) r h o' ho
  ·rename_i hd
   rcases List.mem_cons.1 ho with rfl | ho
   ·rw [hd]; simp
   ·exact maker_none l (i + 1) r h o' ho
theorem nodupD_spec : ∀ (l : List Oper), nodupD l = true → ∀ (i j : Nat) (o p : Oper) (r : Nat), l[i]? = some o → l[j]? = some p → o.dst = some r → p.dst = some r → i = j
 | [], _, i, j, o, p, r, h, _, _, _ => by simp at h
 | x :: l, hn, i, j, o, p, r, hi, hj, ho, hp => by
  unfold nodupD at hn
  simp only [Bool.and_eq_true] at hn
  have diff : ∀ (m : Nat) (q : Oper), l[m]? = some q → x.dst = some r → q.dst ≠ some r := fun m q hq hx e => by
   have h1 := hn.1
   rw [hx] at h1
   have := List.all_eq_true.1 h1 q (List.mem_of_getElem? hq)
   simp [e] at this
  cases i with
  | zero =>
   cases j with
   | zero => rfl
   | succ j => simp at hi hj; subst hi; exact absurd hp (diff j p hj ho)
  | succ i =>
   cases j with
   | zero => simp at hi hj; subst hj; exact absurd ho (diff i o hi hp)
   | succ j => simp at hi hj; rw [nodupD_spec l hn.2 i j o p r hi hj ho hp]
theorem lk_tl (d : Array Bool) (t0 : List (Nat × AV)) : ∀ (l : List Oper) (vs : List AV) (i r : Nat), vs.length = l.length →
  (∀ (j : Nat) (o : Oper), l[j]? = some o → o.dst = some r → d.getD (i + j) false = true → nodupD l = true → lk (tl d i l vs t0) r = vs[j]?) ∧
  ((∀ (j : Nat) (o : Oper), l[j]? = some o → o.dst = some r → d.getD (i + j) false = false) → lk (tl d i l vs t0) r = lk t0 r)
 | [], vs, i, r, hl => by
  refine ⟨fun j o h => by simp at h, fun _ => ?_⟩
  cases vs <;> rfl
 | o :: l, [], i, r, hl => by cases hl
 | o :: l, v :: vs, i, r, hl => by
  obtain ⟨h1, h2⟩ := lk_tl d t0 l vs (i + 1) r (by simpa using hl)
  refine ⟨fun j q hq hr hd hn => ?_, fun hall => ?_⟩
  ·cases j with
   | zero =>
    simp at hq; subst hq
    simp only [Nat.add_zero] at hd
    simp only [tl, hr, hd, lk, if_true]
    rfl
   | succ j =>
    simp only [List.getElem?_cons_succ] at hq ⊢
    have hne : o.dst ≠ some r := fun e => by
     have := nodupD_spec (o :: l) hn 0 (j + 1) o q r rfl (by simpa using hq) e hr
     omega
    have hn' : nodupD l = true := by unfold nodupD at hn; simp only [Bool.and_eq_true] at hn; exact hn.2
    have := h1 j q hq hr (by rw [show i + 1 + j = i + (j + 1) by omega]; exact hd) hn'
    rw [← this]
    simp only [tl]
    split
    ·rename_i r' e
     split
     ·simp only [lk]
      rw [if_neg]
      intro e2; rw [← e2] at e; exact hne e
     ·rfl
    ·rfl
  ·have := h2 (fun j q hq hr => by rw [show i + 1 + j = i + (j + 1) by omega]; exact hall (j + 1) q (by simpa using hq) hr)
   rw [← this]
   simp only [tl]
   split
   ·rename_i r' e
    split
    ·rename_i hd
     simp only [lk]
     rw [if_neg]
     intro e2
     subst e2
     have := hall 0 o rfl e
     simp only [Nat.add_zero] at this
     rw [this] at hd; cases hd
    ·rfl
   ·rfl
theorem tl_all (d : Array Bool) (t0 : List (Nat × AV)) : ∀ (l : List Oper) (vs : List AV) (i : Nat), (∀ j, j < l.length → d.getD (i + j) false = true) → tl d i l vs t0 = tla l vs t0
 | [], vs, i, h => by cases vs <;> rfl
 | o :: l, [], i, h => rfl
 | o :: l, v :: vs, i, h => by
  have ih := tl_all d t0 l vs (i + 1) (fun j hj => by rw [show i + 1 + j = i + (j + 1) by omega]; exact h (j + 1) (by simpa using hj))
  have h0 := h 0 (by simp)
  simp only [Nat.add_zero] at h0
  simp only [tl, tla, h0, ih]
theorem lk_ttl (l : List Oper) (vs : List AV) (t0 : List (Nat × AV)) (j : Nat) : ∀ (rs : List Nat) (r : Nat) (v : AV), lk (ttl l vs t0 j rs) r = some v → opv l vs t0 j r = some v
 | [], r, v, h => by cases h
 | q :: rs, r, v, h => by
  unfold ttl at h
  split at h
  ·rename_i u e
   unfold lk at h
   split at h
   ·rename_i e2; subst e2; cases h; exact e
   ·exact lk_ttl l vs t0 j rs r v h
  ·exact lk_ttl l vs t0 j rs r v h
section
variable {P : Program} {E : Env} {fn : Func} {R : Ending → World → Prop} {k : List Item} {s : S}
theorem waits_spec {l : List Oper} {j i : Nat} (h : waits l j i = true) : ∃ o, l[j]? = some o ∧ ∃ e ∈ o.after, Region.binds .any e = true ∧ e.on = i := by
 unfold waits at h
 split at h
 ·rename_i o ho
  obtain ⟨e, he, hb⟩ := Array.any_eq_true'.1 h
  simp only [Bool.and_eq_true, beq_iff_eq] at hb
  exact ⟨o, ho, e, he, hb.1, hb.2⟩
 ·cases h
structure DInv (E : Env) (l : List Oper) (e2 : List Nat) (vs : List AV) (hs : List Hp) (t0 : List (Nat × AV)) (d : Array Bool) (a : Act) (w : World) : Prop where
 sz : d.size = l.length
 dc : ∀ j o, l[j]? = some o → d.getD j false = true → ∀ e ∈ o.after, Region.binds .any e = true → d.getD e.on false = true
 st : ∃ k x h, hs[k]? = some x ∧ (∀ q e, e2[q]? = some e → (d.getD e false = true ↔ q < k)) ∧ k ≤ e2.length ∧ Sim E h w a ⟨x.c, tl d 0 l vs t0, x.L, x.G⟩
theorem getD_set_self {d : Array Bool} {j : Nat} (hj : j < d.size) : (d.setIfInBounds j true).getD j false = true := by simp [hj]
theorem wpAny_inv {ops : Array Oper} {Q : Exit → Act → World → Prop} (I : Array Bool → Act → World → Prop)
  (hstep : ∀ d a w j, I d a w → j ∈ Region.ready .any ops d → wpOp P ops Q j (I (d.setIfInBounds j true)) a w) (hfin : ∀ d a w, I d a w → Region.ready .any ops d = [] → Q .normal a w) (hsz : ∀ d a w, I d a w → d.size = ops.size) :
  ∀ (fuel : Nat) (d : Array Bool) (a : Act) (w : World), I d a w → (d.toList.filter fun b => !b).length ≤ fuel → wpAny P .any ops Q fuel d a w
 | 0, d, a, w, hi, hf => by
  have hr : Region.ready .any ops d = [] := by
   cases e : Region.ready .any ops d with
   | nil => rfl
   | cons j js =>
    have hj : j ∈ Region.ready .any ops d := by rw [e]; simp
    obtain ⟨h1, o, ho, _⟩ := mem_ready.1 hj
    have hlt : j < d.size := by rw [hsz d a w hi]; exact (Array.getElem?_eq_some_iff.1 ho).1
    have : false ∈ d.toList.filter fun b => !b := by
     rw [List.mem_filter]
     refine ⟨?_, rfl⟩
     have : d[j] = false := by simpa [hlt] using h1
     rw [← this]; simp
    have := List.length_pos_of_mem this
    omega
  exact ⟨hr, hfin d a w hi hr⟩
 | fuel + 1, d, a, w, hi, hf => by
  refine ⟨fun hr => hfin d a w hi hr, fun j hj => ?_⟩
  obtain ⟨h1, o, ho, _⟩ := mem_ready.1 hj
  have hlt : j < d.size := by rw [hsz d a w hi]; exact (Array.getElem?_eq_some_iff.1 ho).1
  refine wpOp_mono (fun a' w' hi' => wpAny_inv I hstep hfin hsz fuel _ a' w' hi' ?_) (hstep d a w j hi hj)
  have hdj : d[j] = false := by simpa [hlt] using h1
  have e1 : (d.setIfInBounds j true).toList = d.toList.set j true := by simp
  rw [e1]
  have key : ∀ (l : List Bool) (j : Nat), l[j]? = some false → ((l.set j true).filter fun b => !b).length + 1 = (l.filter fun b => !b).length := by
   intro l
   induction l with
   | nil => intro j h; simp at h
   | cons b l ih =>
    intro j h
    cases j with
    | zero => simp at h; subst h; simp
    | succ j =>
     simp only [List.getElem?_cons_succ] at h
     have := ih j h
     simp only [List.set_cons_succ, List.filter_cons]
     split
     ·simp only [List.length_cons]; omega
     ·exact this
  have := key d.toList j (by simp [hlt, hdj])
  omega
theorem VJ.draw {id : Nat} {l : List Oper} {c : Nat} {t0 : List (Nat × AV)} {L : List (Nat × VO)} {G : Nat → Option VO} (e2 : List Nat) (ps : List (Nat × Nat)) (vs : List AV) (hs : List Hp) (hm : P.follows .mixedOrders = true)
  (hok : drawOk l e2 ps vs.length hs.length = true) (hh : hops P E l e2 vs hs t0 ps) (h0 : hs[0]? = some ⟨c, L, G⟩) {y : Hp} (hy : hs[e2.length]? = some y) (hj : VJ P E fn R k ⟨y.c, tla l vs t0, y.L, y.G⟩) :
  VJ P E fn R (.code (.region id l.toArray true) :: k) ⟨c, t0, L, G⟩ := by
 unfold drawOk at hok
 simp only [Bool.and_eq_true, beq_iff_eq] at hok
 obtain ⟨⟨⟨⟨⟨⟨⟨o1, o2⟩, o3⟩, o4⟩, o5⟩, o6⟩, o7⟩, o8⟩ := hok
 refine VJ.of_wp fun hd w a H => wp_region_any hm (wpAny_inv (DInv E l e2 vs hs t0) ?_ ?_ (fun d a w h => by simpa using h.sz) _ _ _ _ ?_ (Nat.le_trans (List.length_filter_le _ _) (by simp)))
 ·-- a step
  intro d a w j hi hjr
  obtain ⟨hun, o, ho, hall⟩ := mem_ready.1 hjr
  have ho' : l[j]? = some o := by simpa using ho
  have hjl : j < l.length := (List.getElem?_eq_some_iff.1 ho').1
  have hun' : d.getD j false = false := by
   have : j < d.size := by rw [hi.sz]; exact hjl
   simpa [this] using hun
  obtain ⟨k0, x, h, hx, hk, hkl, HS⟩ := hi.st
  have hpair : pairOk l e2 j k0 = true := by
   unfold pairOk
   cases hc : e2.contains j with
   | true =>
    have hmem : j ∈ e2 := by simpa using hc
    obtain ⟨q, hq⟩ := List.getElem?_of_mem hmem
    have h1 : ¬ q < k0 := fun hlt => by rw [(hk q j hq).2 hlt] at hun'; cases hun'
    have h2 : ∀ p, p < q → p < k0 := by
     intro p hp
     have hqlt := (List.getElem?_eq_some_iff.1 hq).1
     have hplt : q - 1 < e2.length := by omega
     have hw : waits l j e2[q - 1] = true := by
      have := List.all_eq_true.1 o2 (q - 1) (by simpa using hplt)
      rw [show q - 1 + 1 = q by omega, hq, List.getElem?_eq_getElem hplt] at this
      exact this
     obtain ⟨o'', ho'', e, he, hb, hon⟩ := waits_spec hw
     rw [ho'] at ho''; cases ho''
     have := hall e he hb
     rw [hon] at this
     have := (hk (q - 1) _ (List.getElem?_eq_getElem hplt)).1 this
     omega
    have : q = k0 := by
     rcases Nat.lt_trichotomy q k0 with h3 | h3 | h3
     ·exact absurd h3 h1
     ·exact h3
     ·exact absurd (h2 k0 h3) (Nat.lt_irrefl _)
    subst this
    simp only [hq, beq_self_eq_true]
   | false =>
    simp only
    refine List.all_eq_true.2 fun q hq => ?_
    have hq' : q < k0 := by simpa using hq
    have hqlt : q < e2.length := by omega
    rw [List.getElem?_eq_getElem hqlt]
    simp only [Bool.not_eq_true']
    cases hw : waits l e2[q] j with
    | false => rfl
    | true =>
     obtain ⟨o'', ho'', e, he, hb, hon⟩ := waits_spec hw
     have h1 := (hk q _ (List.getElem?_eq_getElem hqlt)).2 hq'
     have := hi.dc _ o'' ho'' h1 e he hb
     rw [hon, hun'] at this; cases this
  have hlate : lateOk l e2 j k0 = true := by
   refine List.all_eq_true.2 fun q hq => ?_
   have hqlt : q < e2.length := by simpa using hq
   rw [List.getElem?_eq_getElem hqlt]
   cases hw : waits l j e2[q] with
   | false => simp [hw]
   | true =>
    obtain ⟨o'', ho'', e, he, hb, hon⟩ := waits_spec hw
    rw [ho'] at ho''; cases ho''
    have := hall e he hb
    rw [hon] at this
    have := (hk q _ (List.getElem?_eq_getElem hqlt)).1 this
    simp [this]
  have hps : (j, k0) ∈ ps := by
   have := List.all_eq_true.1 o3 j (by simpa using hjl)
   have := List.all_eq_true.1 this k0 (by simp; omega)
   rw [hpair, hlate] at this
   simpa using this
  have hop1 := hops_mem ps hh _ hps
  have hvj : j < vs.length := by omega
  have hklen : k0 < hs.length := (List.getElem?_eq_some_iff.1 hx).1
  have hnext : ∃ z, hs[if e2.contains j then k0 + 1 else k0]? = some z := by
   cases hc : e2.contains j with
   | true =>
    have : k0 + 1 < hs.length := by
     unfold pairOk at hpair
     rw [hc] at hpair
     simp only [beq_iff_eq] at hpair
     have := (List.getElem?_eq_some_iff.1 hpair).1
     omega
    exact ⟨_, by simp only [if_true]; exact List.getElem?_eq_getElem this⟩
   | false => exact ⟨x, by simpa using hx⟩
  obtain ⟨z, hz⟩ := hnext
  unfold hop at hop1
  simp only [ho', List.getElem?_eq_getElem hvj, hx, hz] at hop1
  have hlen : vs.length = l.length := o5
  have hopv : ∀ r v, opv l vs t0 j r = some v → lk (tl d 0 l vs t0) r = some v := by
   intro r v hv
   unfold opv at hv
   split at hv
   ·rename_i hmk
    rw [(lk_tl d t0 l vs 0 r hlen).2]
    ·exact hv
    ·intro q p hq hr
     exact absurd hr (maker_none l 0 r hmk p (List.mem_of_getElem? hq))
   ·rename_i i hmk
    obtain ⟨_, p, hp, hr⟩ := maker_some l 0 r i hmk
    simp only [Nat.sub_zero] at hp
    split at hv
    ·rename_i hw
     obtain ⟨o'', ho'', e, he, hb, hon⟩ := waits_spec hw
     rw [ho'] at ho''; cases ho''
     have := hall e he hb
     rw [hon] at this
     rw [(lk_tl d t0 l vs 0 r hlen).1 i p hp hr (by simpa using this) o1]
     exact hv
    ·split at hv
     ·rename_i hw
      obtain ⟨o'', ho'', e, he, hb, hon⟩ := waits_spec hw
      rw [(lk_tl d t0 l vs 0 r hlen).2]
      ·exact hv
      ·intro q p' hq hr'
       have : q = i := nodupD_spec l o1 q i p' p r hq hp hr' hr
       subst this
       cases hdq : d.getD (0 + q) false with
       | false => rfl
       | true =>
        simp only [Nat.zero_add] at hdq
        have := hi.dc q o'' ho'' hdq e he hb
        rw [hon, hun'] at this; cases this
     ·cases hv
  have HS' : Sim E h w a ⟨x.c, ttl l vs t0 j (tmpsG l o) ++ tl d 0 l vs t0, x.L, x.G⟩ := HS.weak fun i v hi => by
   rw [lk_append] at hi
   split at hi
   ·rename_i u e; cases hi; exact hopv i _ (lk_ttl l vs t0 j _ i _ e)
   ·exact hi
  have hrun := hop1 (tl d 0 l vs t0) (fun s' => s' = ⟨z.c, (match o.dst with | some d' => (d', vs[j]) :: (ttl l vs t0 j (tmpsG l o) ++ tl d 0 l vs t0) | none => ttl l vs t0 j (tmpsG l o) ++ tl d 0 l vs t0), z.L, z.G⟩) rfl h w a HS'
  have hsz' : (d.setIfInBounds j true).size = l.length := by simpa using hi.sz
  have hdj : j < d.size := by rw [hi.sz]; exact hjl
  have post : ∀ a' w', QK E (fun s' => s' = ⟨z.c, (match o.dst with | some d' => (d', vs[j]) :: (ttl l vs t0 j (tmpsG l o) ++ tl d 0 l vs t0) | none => ttl l vs t0 j (tmpsG l o) ++ tl d 0 l vs t0), z.L, z.G⟩) .normal a' w' → DInv E l e2 vs hs t0 (d.setIfInBounds j true) a' w' := by
   rintro a' w' ⟨_, h', s', H', rfl⟩
   refine ⟨hsz', ?_, if e2.contains j then k0 + 1 else k0, z, h', hz, ?_, ?_, ?_⟩
   ·intro i p hp hdi e he hb
    by_cases hij : i = j
    ·subst hij
     rw [ho'] at hp; cases hp
     exact getD_set_true (hall e he hb)
    ·rw [getD_set_ne false (Ne.symm hij)] at hdi
     exact getD_set_true (hi.dc i p hp hdi e he hb)
   ·intro q e he
    cases hc : e2.contains j with
    | true =>
     unfold pairOk at hpair
     rw [hc] at hpair
     simp only [beq_iff_eq] at hpair
     simp only [if_true]
     by_cases hej : e = j
     ·subst hej
      rw [getD_set_self hdj]
      have : q = k0 := by
       have nd : ∀ (m : List Nat), nodupN m = true → ∀ (p q : Nat) (v : Nat), m[p]? = some v → m[q]? = some v → p = q := by
        intro m
        induction m with
        | nil => intro _ p q v hp; simp at hp
        | cons y m ih =>
         intro hn p q v hp hq
         unfold nodupN at hn
         simp only [Bool.and_eq_true, Bool.not_eq_true'] at hn
         cases p with
         | zero =>
          cases q with
          | zero => rfl
          | succ q =>
           simp at hp hq; subst hp
           have := List.mem_of_getElem? hq
           have h2 := hn.1
           simp at h2
           exact absurd this h2
         | succ p =>
          cases q with
          | zero =>
           simp at hp hq; subst hq
           have := List.mem_of_getElem? hp
           have h2 := hn.1
           simp at h2
           exact absurd this h2
          | succ q => simp at hp hq; rw [ih hn.2 p q v hp hq]
       exact nd e2 o4 q k0 e he hpair
      simp [this]
     ·rw [getD_set_ne false (Ne.symm hej), hk q e he]
      have : q ≠ k0 := fun e3 => by rw [e3, hpair] at he; cases he; exact hej rfl
      omega
    | false =>
     have hne : e ≠ j := fun e3 => by
      have := List.mem_of_getElem? he
      rw [e3] at this
      have h2 : e2.contains j = true := by simpa using this
      rw [h2] at hc; cases hc
     rw [getD_set_ne false (Ne.symm hne)]
     simpa using hk q e he
   ·cases hc : e2.contains j with
    | true =>
     unfold pairOk at hpair
     rw [hc] at hpair
     simp only [beq_iff_eq] at hpair
     have := (List.getElem?_eq_some_iff.1 hpair).1
     simp only [if_true]; omega
    | false => simpa using hkl
   ·refine H'.weak fun i v hi2 => ?_
    have hset : ∀ r, lk (tl (d.setIfInBounds j true) 0 l vs t0) r = if o.dst = some r then vs[j]? else lk (tl d 0 l vs t0) r := by
     intro r
     split
     ·rename_i hor
      exact (lk_tl (d.setIfInBounds j true) t0 l vs 0 r hlen).1 j o ho' hor (by simpa using getD_set_self hdj) o1
     ·rename_i hor
      cases hmk : maker l 0 r with
      | none =>
       have hno := maker_none l 0 r hmk
       rw [(lk_tl _ t0 l vs 0 r hlen).2 (fun q p hq hr => absurd hr (hno p (List.mem_of_getElem? hq))), (lk_tl d t0 l vs 0 r hlen).2 (fun q p hq hr => absurd hr (hno p (List.mem_of_getElem? hq)))]
      | some i' =>
       obtain ⟨_, p, hp, hr⟩ := maker_some l 0 r i' hmk
       simp only [Nat.sub_zero] at hp
       have hne : j ≠ i' := fun e => by subst e; rw [ho'] at hp; cases hp; exact hor hr
       have hsame : (d.setIfInBounds j true).getD (0 + i') false = d.getD (0 + i') false := by
        simp only [Nat.zero_add]; exact getD_set_ne false hne
       cases hdi : d.getD (0 + i') false with
       | true => rw [(lk_tl _ t0 l vs 0 r hlen).1 i' p hp hr (hsame.trans hdi) o1, (lk_tl d t0 l vs 0 r hlen).1 i' p hp hr hdi o1]
       | false =>
        have uni : ∀ (q : Nat) (p' : Oper), l[q]? = some p' → p'.dst = some r → q = i' := fun q p' hq hr' => nodupD_spec l o1 q i' p' p r hq hp hr' hr
        rw [(lk_tl _ t0 l vs 0 r hlen).2 (fun q p' hq hr' => by rw [uni q p' hq hr']; exact hsame.trans hdi), (lk_tl d t0 l vs 0 r hlen).2 (fun q p' hq hr' => by rw [uni q p' hq hr']; exact hdi)]
    rw [hset] at hi2
    have inner : ∀ v, lk (tl d 0 l vs t0) i = some v → lk (ttl l vs t0 j (tmpsG l o) ++ tl d 0 l vs t0) i = some v := by
     intro v hv
     rw [lk_append]
     cases e : lk (ttl l vs t0 j (tmpsG l o)) i with
     | none => exact hv
     | some u =>
      have := hopv i u (lk_ttl l vs t0 j _ i u e)
      rw [hv] at this
      simpa using this.symm
    cases hod : o.dst with
    | none =>
     rw [hod] at hi2
     simp only [reduceCtorEq, if_false] at hi2
     exact inner v hi2
    | some d' =>
     rw [hod] at hi2
     simp only [Option.some.injEq] at hi2
     simp only [lk]
     split at hi2
     ·rename_i e; rw [if_pos e.symm]; rw [List.getElem?_eq_getElem hvj] at hi2; exact hi2
     ·rename_i e; rw [if_neg (fun e2 => e e2.symm)]; exact inner v hi2
  unfold wpOp
  simp only [ho]
  unfold wpList at hrun
  split
  ·rename_i hw
   rw [if_pos hw] at hrun
   rcases hrun with h1 | ⟨_, a0, w0, e, _⟩
   ·refine .inl ?_
    have h3 := Oper.wp_q (Q' := QK E fun s' => VJ P E fn R k s') h1 (fun _ _ _ h => by cases h.1) (fun ⟨_, _, h⟩ => by cases h.1)
    exact Oper.wp_mono (fun a' w' hh => post a' w' hh) h3
   ·cases e
  ·rename_i hw
   rw [if_neg hw] at hrun
   exact post _ _ hrun
 ·-- the end
  intro d a w hi hr
  have hall0 : ∀ m j, j < m → j < l.length → d.getD j false = true := by
   intro m
   induction m with
   | zero => intro j h; exact absurd h (Nat.not_lt_zero _)
   | succ m ih =>
    intro j hjm hj
    cases hc : d.getD j false with
    | true => rfl
    | false =>
     exfalso
     have hjd : j < d.size := by rw [hi.sz]; exact hj
     have : j ∈ Region.ready .any l.toArray d := by
      refine mem_ready.2 ⟨by simpa [hjd] using hc, l[j], by simp [hj], fun e he hb => ?_⟩
      have h8 := List.all_eq_true.1 o8 j (by simpa using hj)
      rw [List.getElem?_eq_getElem hj] at h8
      have h9 := Array.all_eq_true_iff_forall_mem.1 h8 e he
      rw [hb] at h9
      have h10 : e.on < j := by simpa using h9
      exact ih e.on (by omega) (by omega)
     rw [hr] at this
     cases this
  have hall : ∀ j, j < l.length → d.getD (0 + j) false = true := fun j hj => by simp only [Nat.zero_add]; exact hall0 (j + 1) j (Nat.lt_succ_self _) hj
  obtain ⟨k0, x, h, hx, hk, hkl, HS⟩ := hi.st
  have hk0 : k0 = e2.length := by
   rcases Nat.lt_or_ge k0 e2.length with hlt | hge
   ·have he := List.getElem?_eq_getElem hlt
    have hel : e2[k0] < l.length := by
     have := List.all_eq_true.1 o7 e2[k0] (List.getElem_mem hlt)
     simpa using this
    have := (hk k0 _ he).1 (by simpa using hall _ hel)
    omega
   ·omega
  subst hk0
  rw [hy] at hx; cases hx
  rw [tl_all d t0 l vs 0 hall] at HS
  exact ⟨rfl, h, _, HS, hj⟩
 ·-- the start
  refine ⟨by simp, fun j o ho hd => ?_, 0, ⟨c, L, G⟩, hd, h0, ?_, Nat.zero_le _, ?_⟩
  ·exfalso
   by_cases hj : j < l.length <;> simp [hj] at hd
  ·intro q e he
   constructor
   ·intro h
    exfalso
    by_cases hj : e < l.length <;> simp [hj] at h
   ·intro h; exact absurd h (Nat.not_lt_zero _)
  ·have e0 : ∀ (l : List Oper) (vs : List AV) (i : Nat) (d : Array Bool), (∀ j, d.getD j false = false) → tl d i l vs t0 = t0 := by
    intro l
    induction l with
    | nil => intro vs i d _; cases vs <;> rfl
    | cons o l ih =>
     intro vs i d hd
     cases vs with
     | nil => rfl
     | cons v vs =>
      simp only [tl, hd, ih vs (i + 1) d hd]
      split <;> rfl
   rw [e0]
   ·exact H.draws rfl rfl rfl rfl
   ·intro j
    by_cases hj : j < l.length <;> simp [hj]
end
end Go.Proofs.YtnpnjhopgedhkaaGreat.V
namespace Go.Proofs.YtnpnjhopgedhkaaGreat.V
open Go.RowKit Go.ChangeMaps Go.MapKept
universe u
section
variable {P : Program} {E : Env} {ops : Array Oper} {rest : List Oper} {s : S} {K : S → Prop}
variable {c : Nat} {t : List (Nat × AV)} {L : List (Nat × VO)} {G : Nat → Option VO} {d ty : Nat} {pos : String} {af : Array Edge} {tab : Tab}
variable {κ ν : Type} [DecidableEq κ] {mk : κ → Value} {mv : ν → Value} {l left : List (κ × ν)} {z : Option (Nat × Obj)} {zz : Nat × Obj}
theorem Sim.mapAt {h : Hd} {w : World} {a : Act} (H : Sim E h w a s) {i : Id} (ho : s.obj i = some (.map mk mv l z)) {x : Value} (hx : RA s.c h w (.mp i) x) : ∃ b, h i = some (.map (some b)) ∧ x = .map (some b) ∧ Mp.Is mk mv w b l ∧ ∀ q, z = some q → q.1 = b ∧ w.heap[b]? = some q.2 := by
 obtain ⟨hd, h1, b, rfl, h2, h3⟩ := H.obj i _ ho
 exact ⟨b, h1, hx.2.2 _ h1, h2, h3⟩
theorem VR.lookup {T kt et : TypeId} {m x : Operand} {i : Id} {key : κ} {zv : ν} (hn : Nat.ble (d + 1) E.nt = true) (hm : eva ⟨c, t, L, G⟩ m = some (.mp i)) (ho : S.obj ⟨c, t, L, G⟩ i = some (.map mk mv l z)) (hx : fl ⟨c, t, L, G⟩ x = some (mk key))
  (hT : P.underlying T = some (.map kt et)) (hK : Mp.Key P kt mk) (hz : ∀ w, (zeroValue et).run P w = .ok (mv zv) w)
  (k : VR P E ops rest ⟨c, (d, .a (.d (.v (mv ((Mp.get l key).getD zv))))) :: t, L, G⟩ K) :
  VR P E ops (⟨some d, .lookup T m x false, ty, pos, af, none⟩ :: rest) ⟨c, t, L, G⟩ K := by
 refine VR.val rfl rfl (Nat.le_of_ble_eq_true hn) (.a (.d (.v (mv ((Mp.get l key).getD zv))))) (fun h w a H => ⟨_, ?_, rfl⟩) k
 obtain ⟨b, _, h1, h2, _⟩ := H.mapAt ho (H.eva hm)
 have := h2.look hK hT (hz w) key false
 simp only [execOp, h1, H.fl hx, Sem.run_bind, this]
 rfl
theorem VR.lookup2 {T kt et : TypeId} {m x : Operand} {i : Id} {key : κ} {zv : ν} (hn : Nat.ble (d + 1) E.nt = true) (hm : eva ⟨c, t, L, G⟩ m = some (.mp i)) (ho : S.obj ⟨c, t, L, G⟩ i = some (.map mk mv l z)) (hx : fl ⟨c, t, L, G⟩ x = some (mk key))
  (hT : P.underlying T = some (.map kt et)) (hK : Mp.Key P kt mk) (hz : ∀ w, (zeroValue et).run P w = .ok (mv zv) w)
  (k : VR P E ops rest ⟨c, (d, .tup [.d (.v (mv ((Mp.get l key).getD zv))), .d (.v (.bool (Mp.get l key).isSome))]) :: t, L, G⟩ K) :
  VR P E ops (⟨some d, .lookup T m x true, ty, pos, af, none⟩ :: rest) ⟨c, t, L, G⟩ K := by
 refine VR.val rfl rfl (Nat.le_of_ble_eq_true hn) (.tup [.d (.v (mv ((Mp.get l key).getD zv))), .d (.v (.bool (Mp.get l key).isSome))]) (fun h w a H => ⟨.tuple #[mv ((Mp.get l key).getD zv), .bool (Mp.get l key).isSome], ?_, ?_⟩) k
 ·obtain ⟨b, _, h1, h2, _⟩ := H.mapAt ho (H.eva hm)
  have := h2.look hK hT (hz w) key true
  simp only [execOp, h1, H.fl hx, Sem.run_bind, this]
  rfl
 ·refine ⟨_, rfl, rfl, fun j y u hy hu => ?_⟩
  match j, hy, hu with
  | 0, hy, hu => simp at hy hu; subst hy; subst hu; rfl
  | 1, hy, hu => simp at hy hu; subst hy; subst hu; rfl
  | j + 2, hy, hu => simp at hy
theorem turned {w w' : World} {b : Nat} (h : w.mapTurned w' b) : w'.os = w.os ∧ w'.tape = w.tape ∧ w'.output = w.output ∧ w'.heap.size = w.heap.size ∧ ∀ k, k ≠ b → w'.heap[k]? = w.heap[k]? := by
 obtain ⟨es, clock, es', clock', hb, rfl⟩ := h
 refine ⟨rfl, rfl, rfl, by simp [setBlock], fun k hk => ?_⟩
 simp only [setBlock]
 rw [Array.getElem?_setIfInBounds_ne (Ne.symm hk)]
theorem VR.mapUpdate {T kt et : TypeId} {m x y : Operand} {i : Id} {key : κ} {val : ν} (hm : eva ⟨c, t, L, G⟩ m = some (.mp i)) (ho : S.obj ⟨c, t, L, G⟩ i = some (.map mk mv l z)) (hx : fl ⟨c, t, L, G⟩ x = some (mk key)) (hy : fl ⟨c, t, L, G⟩ y = some (mv val))
  (hT : P.underlying T = some (.map kt et)) (hK : Mp.Key P kt mk)
  (k : VR P E ops rest (S.set ⟨c, t, L, G⟩ i (.map mk mv (Mp.put l key val) none)) K) :
  VR P E ops (⟨none, .mapUpdate T m x y, ty, pos, af, none⟩ :: rest) ⟨c, t, L, G⟩ K := by
 refine VR.actx rfl rfl (fun h w a H => ?_)
 obtain ⟨b, h0, h1, h2, _⟩ := H.mapAt ho (H.eva hm)
 obtain ⟨w', hrun, r1, r2⟩ := h2.store hK hT key val
 obtain ⟨k1, k2, k3, k4, k5⟩ := turned r2
 refine ⟨w', h, S.set ⟨c, t, L, G⟩ i (.map mk mv (Mp.put l key val) none), .inl ?_, H.set i _ _ _ ho h0 k1 k2 k3 k4 (fun q hq => k5 q (fun e => hq (by rw [e]; rfl))) (fun n e q hs => hs) ⟨b, rfl, r1, fun q e => by cases e⟩, k⟩
 simp only [execOp, h1, H.fl hx, H.fl hy, Sem.run_bind, hrun]
 rfl
theorem VR.delete {T T' kt et : TypeId} {m x : Operand} {i : Id} {key : κ} {dst : Option Tmp} (hd : dst = none) (hm : eva ⟨c, t, L, G⟩ m = some (.mp i)) (ho : S.obj ⟨c, t, L, G⟩ i = some (.map mk mv l z)) (hx : fl ⟨c, t, L, G⟩ x = some (mk key))
  (hT : P.underlying T = some (.map kt et)) (hT' : T' = kt) (hK : Mp.Key P kt mk)
  (k : VR P E ops rest (S.set ⟨c, t, L, G⟩ i (.map mk mv (Mp.del l key) none)) K) :
  VR P E ops (⟨dst, .call { callee := .builtin .delete, args := #[m, x], argTypes := #[T, T'] }, ty, pos, af, none⟩ :: rest) ⟨c, t, L, G⟩ K := by
 subst hd; subst hT'
 refine VR.actx rfl rfl (fun h w a H => ?_)
 obtain ⟨b, h0, h1, h2, _⟩ := H.mapAt ho (H.eva hm)
 obtain ⟨w', hrun, r1, r2⟩ := h2.drop (ty := ty) hK hT key
 obtain ⟨k1, k2, k3, k4, k5⟩ := turned r2
 refine ⟨w', h, S.set ⟨c, t, L, G⟩ i (.map mk mv (Mp.del l key) none), .inr ⟨.tuple #[], ?_⟩, H.set i _ _ _ ho h0 k1 k2 k3 k4 (fun q hq => k5 q (fun e => hq (by rw [e]; rfl))) (fun n e q hs => hs) ⟨b, rfl, r1, fun q e => by cases e⟩, k⟩
 simp [execOp, resolve, invoke, builtin, h1, H.fl hx, hrun]
theorem VR.range {T kt et : TypeId} {m : Operand} {i : Id} (hn : Nat.ble (d + 1) E.nt = true) (hm : eva ⟨c, t, L, G⟩ m = some (.mp i)) (ho : S.obj ⟨c, t, L, G⟩ i = some (.map mk mv l (some zz))) (hT : P.underlying T = some (.map kt et))
  (k : VR P E ops rest ⟨c + 1, (d, .a (.ptr (.l c) 0)) :: t, (c, .itr mk mv l l zz none) :: L, G⟩ K) :
  VR P E ops (⟨some d, .range T m, ty, pos, af, none⟩ :: rest) ⟨c, t, L, G⟩ K := by
 refine VR.eff rfl rfl (Nat.le_of_ble_eq_true hn) (.a (.ptr (.l c) 0)) (S.new ⟨c, t, L, G⟩ (.itr mk mv l l zz none)) (fun h w a H => ?_) k
 obtain ⟨b, _, h1, h3, h4⟩ := H.mapAt ho (H.eva hm)
 obtain ⟨rfl, h2⟩ := h4 _ rfl
 obtain ⟨w', hrun, r1, r2, r3⟩ := h3.range (P := P) hT
 refine ⟨.pointer (some ⟨w.heap.size, 0, none⟩), w', Hd.put h (.l c) (.pointer (some ⟨w.heap.size, 0, none⟩)), ?_, H.new _ _ r2 (fun b hb => by simp [blk] at hb; subst hb; omega) ⟨_, rfl, r1.lt.2, fun w2 e1 e2 => ⟨r1.at ?_ e2, fun P q e => by cases e⟩⟩, ptr_new⟩
 ·simp only [execOp, h1, Sem.run_bind, hrun]
  rfl
 ·rw [e1, r2.block zz.1 h3.lt (by simp), h2]
theorem VR.next {it : Operand} {n : Nat} {i : Id} (hn : Nat.ble (d + 1) E.nt = true) (hit : eva ⟨c, t, L, G⟩ it = some (.ptr (.l n) 0)) {cur : Option Value} (hl : lk L n = some (.itr mk mv l left zz cur)) (ho : S.obj ⟨c, t, L, G⟩ i = some (.map mk mv l (some zz)))
  (k0 : left = [] → VR P E ops rest ⟨c, (d, .tup [.d (.v (.bool false))]) :: t, L, G⟩ K)
  (k1 : ∀ (x : κ) (v : ν) (y y' : List (κ × ν)), left = y ++ (x, v) :: y' → VR P E ops rest ⟨c, (d, .tup [.d (.v (.bool true)), .d (.v (mk x)), .d (.v (mv v))]) :: t, up L n (.itr mk mv l (y ++ y') zz (some (.tuple #[mk x, mv v]))), G⟩ K) :
  VR P E ops (⟨some d, .next it false, ty, pos, af, none⟩ :: rest) ⟨c, t, L, G⟩ K := by
 refine VR.effx rfl rfl (Nat.le_of_ble_eq_true hn) (fun h w a H => ?_)
 obtain ⟨hm, e1, b0, e2, e4, e5⟩ := H.obj i _ ho
 obtain ⟨rfl, e3⟩ := e5 _ rfl
 obtain ⟨hr, f1, r, rfl, f3, f4⟩ := H.obj (.l n) _ hl
 have hv : a.eval it = .pointer (some ⟨r, 0, none⟩) := by
  obtain ⟨b, g1, g2⟩ := (H.eva hit).2.2 _ f1
  cases g1; exact g2
 rcases (f4 w e3 rfl).1.next (P := P) ty with ⟨h0, hrun⟩ | ⟨x, v, y, y', w', h0, hrun, r1, r2, r3, r4⟩
 ·refine ⟨.tuple #[.bool false], w, h, .tup [.d (.v (.bool false))], _, ?_, H, ?_, k0 h0⟩
  ·simp [execOp, hv, hrun]
  ·refine ⟨_, rfl, rfl, fun j q u hy hu => ?_⟩
   match j, hy, hu with
   | 0, hy, hu => simp at hy hu; subst hy; subst hu; rfl
   | j + 1, hy, hu => simp at hy
 ·refine ⟨.tuple #[.bool true, mk x, mv v], w', h, .tup [.d (.v (.bool true)), .d (.v (mk x)), .d (.v (mv v))], S.set ⟨c, t, L, G⟩ (.l n) (.itr mk mv l (y ++ y') zz (some (.tuple #[mk x, mv v]))), ?_, H.set (.l n) _ _ _ hl f1 r2.os r2.tape r2.output r3 (fun q hq => ?_) (fun n e q hs => hs) ⟨r, rfl, by rw [r3]; exact f3, fun w2 g1 g2 => ⟨r1.at ?_ g2, fun P q e => ?_⟩⟩, ?_, k1 x v y y' h0⟩
  ·simp [execOp, hv, hrun]
  ·by_cases hlt : q < w.heap.size
   ·exact r2.block q hlt (fun e => hq (by simpa [blk] using e.symm))
   ·rw [Array.getElem?_eq_none (by omega), Array.getElem?_eq_none (by omega)]
  ·rw [g1, r2.block zz.1 e4.lt (fun e => by
    have := (f4 w e3 rfl).1.ne
    cases e; exact this rfl), e3]
  ·cases e
   refine r4 P w2 ?_ g2
   rw [g1, r2.block zz.1 e4.lt (fun e => by
    have := (f4 w e3 rfl).1.ne
    cases e; exact this rfl), e3]
  ·refine ⟨_, rfl, rfl, fun j q u hy hu => ?_⟩
   match j, hy, hu with
   | 0, hy, hu => simp at hy hu; subst hy; subst hu; rfl
   | 1, hy, hu => simp at hy hu; subst hy; subst hu; rfl
   | 2, hy, hu => simp at hy hu; subst hy; subst hu; rfl
   | j + 3, hy, hu => simp at hy
theorem VR.entry {it : Operand} {n : Nat} {i : Id} {q : Array Value} (hn : Nat.ble (d + 1) E.nt = true) (hit : eva ⟨c, t, L, G⟩ it = some (.ptr (.l n) 0)) (hl : lk L n = some (.itr mk mv l left zz (some (.tuple q)))) (ho : S.obj ⟨c, t, L, G⟩ i = some (.map mk mv l (some zz)))
  (k : VR P E ops rest ⟨c, (d, .tup (q.toList.map fun x => .d (.v x))) :: t, L, G⟩ K) :
  VR P E ops (⟨some d, .entry it, ty, pos, af, none⟩ :: rest) ⟨c, t, L, G⟩ K := by
 refine VR.val rfl rfl (Nat.le_of_ble_eq_true hn) (.tup (q.toList.map fun x => .d (.v x))) (fun h w a H => ⟨.tuple q, ?_, ?_⟩) k
 ·obtain ⟨hm, e1, b0, e2, e4, e5⟩ := H.obj i _ ho
  obtain ⟨rfl, e3⟩ := e5 _ rfl
  obtain ⟨hr, f1, r, rfl, f3, f4⟩ := H.obj (.l n) _ hl
  have hv : a.eval it = .pointer (some ⟨r, 0, none⟩) := by
   obtain ⟨b, g1, g2⟩ := (H.eva hit).2.2 _ f1
   cases g1; exact g2
  have := (f4 w e3 rfl).2 P _ rfl
  simp [execOp, hv, this]
 ·refine ⟨q, rfl, by simp, fun j y u hy hu => ?_⟩
  obtain ⟨v, h1, rfl⟩ := map_get _ _ _ _ hy
  rw [h1] at hu; cases hu; rfl
theorem VR.makeMap {T : TypeId} (mk : κ → Value) (mv : ν → Value) (hn : Nat.ble (d + 1) E.nt = true)
  (k : VR P E ops rest ⟨c + 1, (d, .a (.mp (.l c))) :: t, (c, .map mk mv [] none) :: L, G⟩ K) :
  VR P E ops (⟨some d, .makeMap T none, ty, pos, af, none⟩ :: rest) ⟨c, t, L, G⟩ K := by
 refine VR.effx rfl rfl (Nat.le_of_ble_eq_true hn) (fun h w a H => ?_)
 refine ⟨.map (some w.heap.size), w.alloc (.map #[] 0), Hd.put h (.l c) (.map (some w.heap.size)), .a (.mp (.l c)), S.new ⟨c, t, L, G⟩ (.map mk mv [] none), rfl, H.new _ _ (World.grownBy_alloc w _ none) (fun b hb => by simp [blk] at hb; subst hb; simp) ⟨_, rfl, Mp.Is.made w, fun q e => by cases e⟩, ?_, k⟩
 exact ⟨Nat.lt_succ_self _, rfl, fun hd hh => by simp [Hd.put] at hh; exact hh⟩
def elems (s : S) (k : Nat) : A → Option (List Value)
 | .d (.lst k' (y :: ys)) => if k' = k then some (y :: ys) else none
 | .d (.v (.slice none 0 0)) => some []
 | .own i => match s.obj i with
  | some (.row _ k' xs) => if k' = k then some xs else none
  | _ => none
 | _ => none
theorem Sim.elems {h : Hd} {w : World} {a : Act} (H : Sim E h w a s) {k : Nat} {p : A} {xs : List Value} (hp : elems s k p = some xs) {x : Value} (hx : RA s.c h w p x) :
  (xs = [] ∧ x = .slice none 0 0) ∨ ∃ b o cap, x = .slice (some ⟨b, o, none⟩) xs.length cap ∧ xs.length ≤ cap ∧ (∀ y ∈ xs, y.cells.size = k) ∧ ∀ j u, (cellsL xs)[j]? = some u → w.cell? ⟨b, o + j, none⟩ = some u := by
 unfold V.elems at hp
 split at hp
 ·split at hp
  ·rename_i hk; cases hp; subst hk
   rcases hx with ⟨h1, _⟩ | ⟨b, o, cap, h1, h2, h3⟩
   ·cases h1
   ·exact .inr ⟨b, o, cap, h1, h2, h3.sz, h3.cell⟩
  ·cases hp
 ·cases hp; exact .inl ⟨rfl, hx⟩
 ·split at hp
  ·rename_i i _ e k' ys ho
   split at hp
   ·rename_i hk; cases hp; subst hk
    obtain ⟨hd, h1, h2, h3, h4⟩ := H.obj _ _ ho
    have := hx.2.2 _ h1
    subst this
    rcases h2.2 with ⟨e1, e2⟩ | ⟨g, cap, cur, e1, _, hg, hc, _⟩
    ·exact .inl ⟨List.eq_nil_of_length_eq_zero e2, e1⟩
    ·subst e1
     refine .inr ⟨g, 0, cap, rfl, hc, h3, fun j u hu => ?_⟩
     have := h2.cells (g := g) rfl j u hu
     have hadd : (⟨g, 0, none⟩ : Addr).add j = ⟨g, 0 + j, none⟩ := by unfold Addr.add; split <;> simp_all
     rw [hadd] at this; exact this
   ·cases hp
  ·cases hp
 ·cases hp
theorem len_cellsL {k : Nat} : ∀ {xs : List Value}, (∀ y ∈ xs, y.cells.size = k) → (cellsL xs).length = xs.length * k
 | [], _ => by simp [cellsL]
 | x :: xs, h => by
  have ih := len_cellsL (xs := xs) (fun y hy => h y (List.mem_cons_of_mem _ hy))
  have hx : x.cells.toList.length = k := by simpa using h x (by simp)
  simp only [cellsL, List.flatMap_cons, List.length_append, List.length_cons] at ih ⊢
  rw [ih, hx, Nat.add_mul]; omega
theorem blk_own {v : Value} {base : Nat} {w : World} {e k n : Nat} {xs : List Value} (h : w.ownsRow base e k v n xs) : blk v = v.ownBlock := by
 rcases h.2 with ⟨rfl, _⟩ | ⟨g, cap, cur, rfl, _⟩ <;> rfl
structure ElTy (P : Program) (T e : TypeId) (te : TI) : Prop where
 slc : P.underlying T = some (.slice e)
 ok : OkTI P e te
theorem VR.append {T e : TypeId} {ti te : TI} {x y : Operand} {n : Nat} {k : Nat} {xs ys : List Value} {q : A} (hT : Tab.Ok P tab) (hn : Nat.ble (d + 1) E.nt = true) (hti : lk tab T = some ti) (he : ti.slc = some e) (hte : lk tab e = some te)
  (hx : eva ⟨c, t, L, G⟩ x = some (.own (.l n))) (ho : lk L n = some (.row e k xs)) (hk : te.size = k) (hzs : te.zero.cells.size = te.size) (hy : eva ⟨c, t, L, G⟩ y = some q) (hq : elems ⟨c, t, L, G⟩ k q = some ys) (h1 : ∀ u ∈ ys, ∀ v ∈ u.cells.toList, v.oneCell' = true)
  (hb : (xs.length + ys.length) * te.bytes ≤ 140737488355328) (hm : xs.length + ys.length ≤ maxLen)
  (k1 : VR P E ops rest ⟨c, (d, .a (.own (.l n))) :: killT (.l n) t, up (killL (.l n) L) n (.row e k (xs ++ ys)), G⟩ K) :
  VR P E ops (⟨some d, .call { callee := .builtin .append, args := #[x, y], argTypes := #[T, T] }, ty, pos, af, none⟩ :: rest) ⟨c, t, L, G⟩ K := by
 refine VR.eff rfl rfl (Nat.le_of_ble_eq_true hn) (.a (.own (.l n))) ⟨c, killT (.l n) t, up (killL (.l n) L) n (.row e k (xs ++ ys)), G⟩ (fun h w a H => ?_) k1
 have hel := (hT T ti hti).slice he
 obtain ⟨i, g1, g2, g3, g4⟩ := (hT e te hte).getInfo
 obtain ⟨hd, e1, e2, e3, e4⟩ := H.obj (.l n) _ ho
 have hxv := (H.eva hx).2.2 _ e1
 subst hk
 have hcat : cellsL (xs ++ ys) = cellsL xs ++ cellsL ys := by simp [cellsL]
 have hsz : 0 < te.size := e4
 have done : ∀ v' w', (execOp a.eval (⟨some d, .call { callee := .builtin .append, args := #[x, y], argTypes := #[T, T] }, ty, pos, af, none⟩ : Oper)).run P w = .ok (.value v') w' → w'.ownsRow 0 e te.size v' (xs.length + ys.length) (cellsL xs ++ cellsL ys) → (∀ y ∈ ys, y.cells.size = te.size) → w.grownBy w' hd.ownBlock → (v'.ownBlock = hd.ownBlock ∨ v'.ownBlock = some w.heap.size) →
   ∃ x1 w' h', (execOp a.eval (⟨some d, .call { callee := .builtin .append, args := #[x, y], argTypes := #[T, T] }, ty, pos, af, none⟩ : Oper)).run P w = .ok (.value x1) w' ∧ Sim E h' w' a ⟨c, killT (.l n) t, up (killL (.l n) L) n (.row e te.size (xs ++ ys)), G⟩ ∧ RV c h' w' (.a (.own (.l n))) x1 := by
  intro v' w' hrun hown hys hgr hat
  refine ⟨v', w', Hd.put h (.l n) v', hrun, H.rehd n _ _ hd v' ho e1 (by rw [blk_own e2]; exact hgr) (fun b hb => ?_) ⟨by rw [hcat]; simpa using hown, fun z hz => ?_, e4⟩, H.cl n _ ho, ?_, fun u hu => by simp [Hd.put] at hu; exact hu⟩
  ·rw [blk_own hown] at hb
   rcases hat with h2 | h2
   ·left; rw [blk_own e2, ← h2]; exact hb
   ·right
    rw [h2] at hb; cases hb
    have := (hown.lt _ h2).2
    exact ⟨Nat.le_refl _, this⟩
  ·rcases List.mem_append.1 hz with hz | hz
   ·exact e3 z hz
   ·exact hys z hz
  ·rcases hown.2 with ⟨rfl, _⟩ | ⟨g, cap, cur, rfl, _⟩ <;> rfl
 rcases H.elems hq (H.eva hy) with ⟨rfl, hyv⟩ | ⟨b, o, cap, hyv, hcap, hys, hcell⟩
 ·have hrun := run_append_owned_none (P := P) (w := w) 0 T ty e i te.size hel g1 hd xs.length (cellsL xs) e2
  refine done hd w ?_ (by simpa [cellsL] using e2) (fun y hy => by simp at hy) ⟨rfl, rfl, rfl, Nat.le_refl _, fun _ _ _ => rfl⟩ (.inl rfl)
  simp [execOp, resolve, invoke, builtin, hxv, hyv, hrun]
 ·obtain ⟨v', w', hrun, r2, r3, _, r5⟩ := run_append_own_at (P := P) w 0 T ty e i te.zero te.size te.bytes hel g1 g4 g2 g3 hzs hsz hd xs.length (cellsL xs) e2 ⟨b, o, none⟩ ys.length cap (cellsL ys) (len_cellsL hys)
   (fun j u hu => by
    have hadd : (⟨b, o, none⟩ : Addr).add j = ⟨b, o + j, none⟩ := by unfold Addr.add; split <;> simp_all
    rw [hadd]; exact hcell j u hu)
   (fun u hu => by
    obtain ⟨z, hz, hu⟩ := List.mem_flatMap.1 hu
    exact h1 z hz u hu) hm hb (Nat.zero_le _)
  refine done v' w' ?_ r2 hys r3 r5
  simp [execOp, resolve, invoke, builtin, hxv, hyv, hrun]
theorem VJ.promote {fn : Func} {R : Ending → World → Prop} {kk : List Item} (i e k : Nat) (h0 : 0 < k) (hi : lk t i = some (.a (.d (.v (.slice none 0 0)))))
  (hj : VJ P E fn R kk ⟨c + 1, (i, .a (.own (.l c))) :: t, (c, .row e k []) :: L, G⟩) : VJ P E fn R kk ⟨c, t, L, G⟩ := by
 intro h w a b cs H hf hk
 have H1 := H.new (.row e k []) (.slice none 0 0) ⟨rfl, rfl, rfl, Nat.le_refl _, fun _ _ _ => rfl⟩ (fun b hb => by cases hb) ⟨World.ownsRow_nil w 0 e k, by simp, h0⟩
 have hv : a.tmps.getD i undef = .slice none 0 0 := H.tmp i _ hi
 refine hj _ w a b cs (H1.reput fun j v hv2 => ?_) hf hk
 simp only [lk] at hv2
 split at hv2
 ·rename_i e2
  cases hv2
  rw [e2, hv]
  exact ⟨Nat.lt_succ_self _, rfl, fun hd hh => by simp [Hd.put] at hh; exact hh⟩
 ·exact H1.tmp j v hv2
theorem VR.buildSlice {T e : TypeId} {ti te : TI} {len : Nat} {ps : Array (Nat × Operand)} {vs : List (Nat × Value)} {xs : List Value} {r : Array Value} (hT : Tab.Ok P tab) (hn : Nat.ble (d + 1) E.nt = true) (hti : lk tab T = some ti) (he : ti.slc = some e) (hte : lk tab e = some te)
  (hv : flps ⟨c, t, L, G⟩ ps.toList = some vs) (hx : vs.map (·.2) = xs) (hsz : Nat.ble 1 te.size = true) (hlen : xs.length = len) (hle : Nat.ble (len * te.size) 1000 = true)
  (hr : Instr.fill (fun i => some (i * te.size, te.size)) ((Array.range (len * te.size)).map (fun i => (if len * te.size = 0 then #[] else te.zero.cells)[i % (if len * te.size = 0 then #[] else te.zero.cells).size]!)) vs = some r)
  (hrx : r.toList = cellsL xs) (hall : (xs.all fun y => y.cells.size == te.size) = true)
  (k : VR P E ops rest ⟨c + 1, (d, .a (.own (.l c))) :: t, (c, .row e te.size xs) :: L, G⟩ K) :
  VR P E ops (⟨some d, .buildSlice T len ps, ty, pos, af, none⟩ :: rest) ⟨c, t, L, G⟩ K := by
 refine VR.eff rfl rfl (Nat.le_of_ble_eq_true hn) (.a (.own (.l c))) (S.new ⟨c, t, L, G⟩ (.row e te.size xs)) (fun h w a H => ?_) k
 have h3 := H.flps _ _ hv
 have hel := (hT T ti hti).slice he
 have hsz' := (hT e te hte).run_size w
 have hz := (hT e te hte).run_zero w
 have hps : (ps.map fun (i, x) => (i, a.eval x)).toList = vs := by rw [Array.toList_map]; exact h3
 have hle := Nat.le_of_ble_eq_true hle
 have hs1 := Nat.le_of_ble_eq_true hsz
 have hxs : ∀ y ∈ xs, y.cells.size = te.size := fun y hy => by simpa using List.all_eq_true.1 hall y hy
 have hrs : r.size = len * te.size := by
  have := len_cellsL hxs
  rw [← hrx, hlen] at this; simpa using this
 refine ⟨.slice (some ⟨w.heap.size, 0, none⟩) len len, w.alloc (.cells r e), _, ?_, H.new _ (.slice (some ⟨w.heap.size, 0, none⟩) len len) (World.grownBy_alloc w _ none) (fun b hb => by simp [blk] at hb; subst hb; simp) ⟨⟨by rw [len_cellsL hxs], .inr ⟨w.heap.size, len, r, by rw [hlen], Nat.zero_le _, heap_alloc_new w _, by rw [hlen]; exact Nat.le_refl _, ?_, hrs, ?_⟩⟩, hxs, hs1⟩, ?_⟩
 ·have : ¬ len * te.size > 2 ^ 24 := by omega
  simp only [execOp, Instr.buildSlice, Sem.run_bind, run_underlying hel, Result.andThen_ok, hsz', if_neg this]
  by_cases h0 : len * te.size = 0
  ·simp only [h0, if_true, Sem.run_bind, Sem.run_pure, Result.andThen_ok]
   simp only [h0, if_true] at hr
   rw [hps, hr]
   rfl
  ·simp only [h0, if_false, Sem.run_bind, hz, Sem.run_pure, Result.andThen_ok]
   simp only [h0, if_false] at hr
   rw [hps, hr]
   rfl
 ·have : len ≤ len * te.size := Nat.le_mul_of_pos_right _ hs1
  unfold maxLen; omega
 ·rw [hlen, ← hrs, ← hrx]; exact List.take_of_length_le (Nat.le_of_eq (by simp))
 ·exact ⟨Nat.lt_succ_self _, rfl, fun hd hh => (Option.some.inj ((if_pos rfl).symm.trans hh))⟩
end
end Go.Proofs.YtnpnjhopgedhkaaGreat.V
