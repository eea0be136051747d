/- Rows that are handed on: a row that grows gets a new number, one that is stored is a read-only list from then on. Conditions: each lemma's own. -/
import Derived.Test.YtdkbmefidmljjaaV25
namespace Go.Proofs.Ytdkbmefidmljjaa.V
open Go.RowKit
universe u
set_option linter.unusedVariables false

/-- The world has grown. -/
theorem Sim.grown {E : Env} {h : Hd} {w w' : World} {a : Act} {s : S} (H : Sim E h w a s) (hg : w.grownBy w' none) : Sim E h w' a s := by
  have st : Stp s.c h w s.c h w' (fun _ => False) := ⟨Nat.le_refl _, fun _ h => h, fun j _ _ hd e => e, hg.size, fun b hlt hm => ⟨hg.block b hlt (by simp), hm⟩⟩
  constructor
  · intro j o ho
    obtain ⟨hd, h1, h2⟩ := H.obj j o ho
    exact ⟨hd, h1, h2.step st (fun b hb => hg.block b (h2.base_le b hb) (by simp)) (fun _ _ h => h)⟩
  · exact H.dom
  · exact H.inj
  · exact H.old
  · exact H.pri
  · exact H.gl
  · intro j hd b e b1
    have := H.own j hd b e b1
    exact ⟨Nat.lt_of_lt_of_le this.1 hg.size, this.2⟩
  · exact H.cl
  · intro b hlt hno
    rw [hg.block b (Nat.lt_of_lt_of_le hlt H.sz) (by simp)]
    exact H.fr b hlt hno
  · exact Nat.le_trans H.sz hg.size
  · exact hg.os.trans H.os
  · exact hg.tape.trans H.tape
  · exact hg.output.trans H.output
  · exact H.nt
  · exact H.dfr
  · intro k v hk
    exact (H.tmp k v hk).step st (fun _ _ h => h)

def dropHl (n : Nat) (h : Hd) : Hd := fun i => if i = .l n then none else h i
theorem dropHl_some {n : Nat} {h : Hd} {i : Id} {u : Value} (e : dropHl n h i = some u) : i ≠ .l n ∧ h i = some u := by
  unfold dropHl at e
  split at e
  · cases e
  · rename_i hn; exact ⟨hn, e⟩
theorem dropHl_ne {n : Nat} {h : Hd} {i : Id} (e : i ≠ .l n) : dropHl n h i = h i := if_neg e
theorem obj_del {c n : Nat} {t : List (Nat × AV)} {L : List (Nat × VO)} {G : Nat → Option VO} (i : Id) : S.obj ⟨c, t, del L n, G⟩ i = if i = .l n then none else S.obj ⟨c, t, L, G⟩ i := by
  cases i with
  | l m => simp only [S.obj, lk_del, Id.l.injEq]
  | g m => simp [S.obj]
  | x m => simp [S.obj]

/-- A local object is let go; what speaks of it speaks of nothing. -/
theorem Sim.dropL {E : Env} {h : Hd} {w : World} {a : Act} {c : Nat} {t : List (Nat × AV)} {L : List (Nat × VO)} {G : Nat → Option VO} (H : Sim E h w a ⟨c, t, L, G⟩) (n : Nat) : Sim E (dropHl n h) w a ⟨c, t, del L n, G⟩ := by
  have hm : ∀ b, mutb (dropHl n h) b → mutb h b := fun b ⟨i, hd, e1, e2⟩ => ⟨i, hd, (dropHl_some e1).2, e2⟩
  have hid : ∀ i, okId c h i → okId c (dropHl n h) i ∧ ∀ u, dropHl n h i = some u → h i = some u := by
    intro i ho
    refine ⟨?_, fun u e => (dropHl_some e).2⟩
    cases i with
    | l m => exact ho
    | g m => show dropHl n h (.g m) ≠ none; rw [dropHl_ne (fun e => by cases e)]; exact ho
    | x b => exact ho
  constructor
  · intro i o ho
    rw [obj_del] at ho
    by_cases hi : i = .l n
    · rw [if_pos hi] at ho; cases ho
    · rw [if_neg hi] at ho
      obtain ⟨hd, h1, h2⟩ := H.obj i o ho
      exact ⟨hd, by rw [dropHl_ne hi]; exact h1, h2.tri (.inr hm) fun j _ => hid j⟩
  · intro i hd e
    obtain ⟨hi, e⟩ := dropHl_some e
    rcases H.dom i hd e with ⟨o, ho⟩ | h
    · exact .inl ⟨o, by rw [obj_del, if_neg hi]; exact ho⟩
    · exact .inr h
  · intro i j hi hj b e1 e2 e3 e4
    exact H.inj i j hi hj b (dropHl_some e1).2 (dropHl_some e2).2 e3 e4
  · intro m hd e
    rw [dropHl_ne (fun e => by cases e)]
    exact H.old m hd e
  · intro b
    rw [dropHl_ne (fun e => by cases e)]
    exact H.pri b
  · exact H.gl
  · intro i hd b e1 e2
    exact H.own i hd b (dropHl_some e1).2 e2
  · intro m o e
    have e : lk (del L n) m = some o := e
    rw [lk_del] at e
    split at e
    · cases e
    · exact H.cl m o e
  · exact H.fr
  · exact H.sz
  · exact H.os
  · exact H.tape
  · exact H.output
  · exact H.nt
  · exact H.dfr
  · intro i v e
    exact (H.tmp i v e).tri (.inr hm) fun j _ => hid j

/-- A row of one's own, read from then on. -/
theorem Sim.frozen {E : Env} {h : Hd} {w : World} {a : Act} {c : Nat} {t : List (Nat × AV)} {L : List (Nat × VO)} {G : Nat → Option VO} (H : Sim E h w a ⟨c, t, L, G⟩) {n e k : Nat} {xs : List Value} (ho : lk L n = some (.row e k xs)) {v : Value} (hv : RA c h w (.own (.l n)) v) : IsL (dropHl n h) w k xs v := by
  obtain ⟨hd, e1, e2, e3, e4⟩ := H.obj (.l n) _ ho
  have := hv.2.2 _ e1
  subst this
  rcases e2.2 with ⟨g1, g2⟩ | ⟨b, cap, cur, g1, _, hg, hc, _⟩
  · refine .inl ⟨List.eq_nil_of_length_eq_zero g2, none, 0, g1⟩
  · subst g1
    refine .inr ⟨b, 0, cap, rfl, hc, (Array.getElem?_eq_some_iff.1 hg).1, ?_, e3, fun j u hu => ?_⟩
    · rintro ⟨i, hd2, f1, f2⟩
      obtain ⟨f3, f4⟩ := dropHl_some f1
      exact f3 (H.inj i (.l n) hd2 _ b f4 e1 f2 rfl)
    · have := e2.cells (g := b) rfl j u hu
      have hadd : (⟨b, 0, none⟩ : Addr).add j = ⟨b, 0 + j, none⟩ := by unfold Addr.add; split <;> simp_all
      rw [hadd] at this; exact this

/-- A local object gets a new number and a new shape; its block may grow or be another. -/
def mvH (n c : Nat) (hd' : Value) (h : Hd) : Hd := fun i => if i = .l c then some hd' else if i = .l n then none else h i
theorem mvH_new {n c : Nat} {hd' : Value} {h : Hd} : mvH n c hd' h (.l c) = some hd' := if_pos rfl
theorem mvH_old {n c : Nat} {hd' : Value} {h : Hd} {i : Id} (h1 : i ≠ .l c) (h2 : i ≠ .l n) : mvH n c hd' h i = h i := by unfold mvH; rw [if_neg h1, if_neg h2]
theorem mvH_some {n c : Nat} {hd' : Value} {h : Hd} {i : Id} {u : Value} (e : mvH n c hd' h i = some u) : (i = .l c ∧ u = hd') ∨ (i ≠ .l c ∧ i ≠ .l n ∧ h i = some u) := by
  unfold mvH at e
  split at e
  · rename_i h1; cases e; exact .inl ⟨h1, rfl⟩
  · split at e
    · cases e
    · rename_i h1 h2; exact .inr ⟨h1, h2, e⟩
theorem Sim.move {E : Env} {h : Hd} {w w' : World} {a : Act} {c : Nat} {t : List (Nat × AV)} {L : List (Nat × VO)} {G : Nat → Option VO} (H : Sim E h w a ⟨c, t, L, G⟩) (n : Nat) (o o' : VO) (hd hd' : Value)
    (hi : lk L n = some o) (hh : h (.l n) = some hd) (hg : w.grownBy w' (blk hd)) (hb : ∀ b, blk hd' = some b → blk hd = some b ∨ (w.heap.size ≤ b ∧ b < w'.heap.size))
    (hO : OBJ (c + 1) (mvH n c hd' h) w' hd' o') : Sim E (mvH n c hd' h) w' a ⟨c + 1, t, (c, o') :: del L n, G⟩ := by
  have hgc : ∀ m, (Id.g m : Id) ≠ .l c := fun m e => by cases e
  have hgn : ∀ m, (Id.g m : Id) ≠ .l n := fun m e => by cases e
  have st : Stp c h w (c + 1) (mvH n c hd' h) w' (fun j => j = .l c) := by
    refine ⟨Nat.le_succ _, fun m hm => by rw [mvH_old (hgc m) (hgn m)]; exact hm, fun j _ hx v e => ?_, hg.size, fun b hlt hm => ⟨hg.block b hlt (fun e => hm ⟨_, _, hh, e.symm⟩), ?_⟩⟩
    · rcases mvH_some e with ⟨e1, _⟩ | ⟨_, _, e1⟩
      · exact absurd e1 hx
      · exact e1
    · rintro ⟨j, v, e, hbv⟩
      rcases mvH_some e with ⟨_, rfl⟩ | ⟨_, _, e1⟩
      · rcases hb b hbv with e1 | e1
        · exact hm ⟨_, _, hh, e1⟩
        · omega
      · exact hm ⟨j, v, e1, hbv⟩
  have hobj : ∀ j, S.obj ⟨c + 1, t, (c, o') :: del L n, G⟩ j = if j = .l c then some o' else if j = .l n then none else S.obj ⟨c, t, L, G⟩ j := by
    intro j
    cases j with
    | l m =>
      simp only [S.obj, lk, lk_del, Id.l.injEq]
    | g m => simp [S.obj]
    | x m => simp [S.obj]
  have hbo : ∀ j v b, j ≠ .l n → h j = some v → blk v = some b → blk hd ≠ some b := fun j v b hj e hv e1 => hj (H.inj j (.l n) v hd b e hh hv e1)
  have hnok : ∀ i, i = .l c → ¬ okId c h i := by rintro i rfl hk; exact Nat.lt_irrefl _ hk
  have hA : ∀ (x : A) (u : Value), RA c h w x u → ∀ j, x.says j → ¬ j = .l c := by
    intro x u hu j hs e
    cases x with
    | d x => exact hs
    | el k xs j off => exact hs
    | top => exact hs
    | ptr j off => have := hu.1; simp only [A.says] at hs; subst hs; exact hnok _ e this
    | mp j => have := hu.1; simp only [A.says] at hs; subst hs; exact hnok _ e this
    | own j => have := hu.1; simp only [A.says] at hs; subst hs; exact hnok _ e this
    | oel j k q off => have := hu.1; simp only [A.says] at hs; subst hs; exact hnok _ e this
  have hAs : ∀ (l : List A) (us : List Value), RAs c h w l us → ∀ j, (∃ x ∈ l, A.says x j) → ¬ j = .l c := by
    rintro l us ⟨h1, h2⟩ j ⟨x, hx, hs⟩
    obtain ⟨q, hq⟩ := List.getElem?_of_mem hx
    have hlt : q < us.length := by rw [← h1]; exact (List.getElem?_eq_some_iff.1 hq).1
    exact hA x _ (h2 q x _ hq (List.getElem?_eq_getElem hlt)) j hs
  have hsay : ∀ k v, lk t k = some v → RV c h w v (a.tmps.getD k undef) → ∀ j, v.says j → ¬ j = .l c := by
    intro k v hk hr j hj
    cases v with
    | a x => exact hA x _ hr j hj
    | fn f l => obtain ⟨vs, _, h2⟩ := hr; exact hAs l _ h2 j hj
    | tup l => obtain ⟨vs, _, h2⟩ := hr; exact hAs l _ h2 j hj
    | agg l => obtain ⟨vs, _, h2⟩ := hr; exact hAs l _ h2 j hj
    | may j' wt q x => exact hA x _ (hr.1 hj.1) j hj.2
  have hosay : ∀ j o1, S.obj ⟨c, t, L, G⟩ j = some o1 → ∀ q, o1.says q → ¬ q = .l c := by
    intro j o1 ho1 q hq
    obtain ⟨v, _, hO1⟩ := H.obj j o1 ho1
    cases o1 with
    | box cells => obtain ⟨b, cs, t, _, _, h1⟩ := hO1; exact hAs cells _ h1 q hq
    | row e k xs => exact hq.elim
    | map mk mv l z => exact hq.elim
    | itr mk mv l left z cur => exact hq.elim
  constructor
  · intro j o1 e
    rw [hobj] at e
    split at e
    · rename_i e1; subst e1; cases e
      exact ⟨hd', mvH_new, hO⟩
    · rename_i e1
      split at e
      · cases e
      · rename_i e2
        obtain ⟨v, h1, h2⟩ := H.obj j o1 e
        exact ⟨v, by rw [mvH_old e1 e2]; exact h1, h2.step st (fun b hv => hg.block b (h2.base_le b hv) (fun e => hbo _ v b e2 h1 hv e.symm)) (hosay j o1 e)⟩
  · intro j v e
    rw [hobj]
    rcases mvH_some e with ⟨e1, _⟩ | ⟨e1, e2, e3⟩
    · rw [if_pos e1]; exact .inl ⟨_, rfl⟩
    · rw [if_neg e1, if_neg e2]
      exact H.dom j v e3
  · intro p q hp hq b e1 e2 b1 b2
    rcases mvH_some e1 with ⟨x, rfl⟩ | ⟨x1, x2, x⟩ <;> rcases mvH_some e2 with ⟨y, rfl⟩ | ⟨y1, y2, y⟩
    · rw [x, y]
    · exfalso
      rcases hb b b1 with e3 | e3
      · exact hbo q hq b y2 y b2 e3
      · have := (H.own q hq b y b2).1; omega
    · exfalso
      rcases hb b b2 with e3 | e3
      · exact hbo p hp b x2 x b1 e3
      · have := (H.own p hp b x b1).1; omega
    · exact H.inj p q hp hq b x y b1 b2
  · intro m v e
    rw [mvH_old (hgc m) (hgn m)]
    exact H.old m v e
  · intro b
    rw [mvH_old (fun e => by cases e) (fun e => by cases e)]
    exact H.pri b
  · exact H.gl
  · intro j v b e b1
    rcases mvH_some e with ⟨e1, rfl⟩ | ⟨_, _, e1⟩
    · rcases hb b b1 with e3 | e3
      · have := H.own (.l n) hd b hh e3
        refine ⟨Nat.lt_of_lt_of_le this.1 hg.size, ?_⟩
        rcases this.2 with ⟨m, e4, _⟩ | e4 | ⟨q, e4⟩
        · cases e4
        · exact .inr (.inl e4)
        · cases e4
      · exact ⟨e3.2, .inr (.inl (Nat.le_trans H.sz e3.1))⟩
    · have := H.own j v b e1 b1
      exact ⟨Nat.lt_of_lt_of_le this.1 hg.size, this.2⟩
  · intro m o1 e
    have e : lk ((c, o') :: del L n) m = some o1 := e
    simp only [lk, lk_del] at e
    split at e
    · rename_i e1; subst e1; exact Nat.lt_succ_self _
    · split at e
      · cases e
      · exact Nat.lt_succ_of_lt (H.cl _ _ e)
  · intro b hlt hno
    rw [hg.block b (Nat.lt_of_lt_of_le hlt H.sz)]
    · exact H.fr b hlt hno
    · intro e
      rcases (H.own (.l n) hd b hh e.symm).2 with ⟨m, e4, _⟩ | e4 | ⟨q, e4⟩
      · cases e4
      · have hlt' : b < E.W0.heap.size := hlt
        omega
      · cases e4
  · exact Nat.le_trans H.sz hg.size
  · exact hg.os.trans H.os
  · exact hg.tape.trans H.tape
  · exact hg.output.trans H.output
  · exact H.nt
  · exact H.dfr
  · intro k v hk
    exact (H.tmp k v hk).step st (hsay k v hk (H.tmp k v hk))

theorem run_append_owned_empty {P : Program} {w : World} (base : Nat) (t ty e : TypeId) (i : TypeInfo) (size : Nat) (ht : P.underlying t = some (.slice e)) (hi : P.info? e = some i)
    (v : Value) (n : Nat) (xs : List Value) (hown : w.ownsRow base e size v n xs) (cap : Nat) :
    (Builtin.append_ #[t, t] ty #[v, .slice none 0 cap]).run P w = .ok v w := by
  rcases hown.2 with ⟨rfl, rfl⟩ | ⟨g, cap, cur, rfl, _, _, hnc, _⟩
  · simp [Builtin.append_, run_underlying ht, sizeOf, typeInfo, hi, Builtin.lenOf, Builtin.firstCells]
  · simp [Builtin.append_, run_underlying ht, sizeOf, typeInfo, hi, Builtin.lenOf, Builtin.firstCells, hnc, storeCells]

section
variable {P : Program} {E : Env} {ops : Array Oper} {rest : List Oper} {s : S} {K : S → Prop}
variable {c : Nat} {t : List (Nat × AV)} {L : List (Nat × VO)} {G : Nat → Option VO} {d ty : Nat} {pos : String} {af : Array Edge} {tab : Tab}

/-- What is appended is a read-only list; the row gets a new number. -/
theorem VR.appendN {T e : TypeId} {ti te : TI} {x y : Operand} {n : Nat} {k : Nat} {xs ys : List Value} (hT : Tab.Ok P tab) (hn : Nat.ble (d + 1) E.nt = true) (hti : lk tab T = some ti) (he : ti.slc = some e) (hte : lk tab e = some te)
    (hx : eva ⟨c, t, L, G⟩ x = some (.own (.l n))) (ho : lk L n = some (.row e k xs)) (hk : te.size = k) (hzs : te.zero.cells.size = te.size) (hy : eva ⟨c, t, L, G⟩ y = some (.d (.lst k ys))) (h1 : ∀ u ∈ ys, ∀ v ∈ u.cells.toList, v.oneCell' = true)
    (hb : (xs.length + ys.length) * te.bytes ≤ 140737488355328) (hm : xs.length + ys.length ≤ maxLen)
    (k1 : VR P E ops rest ⟨c + 1, (d, .a (.own (.l c))) :: t, (c, .row e k (xs ++ ys)) :: del L n, G⟩ K) :
    VR P E ops (⟨some d, .call { callee := .builtin .append, args := #[x, y], argTypes := #[T, T] }, ty, pos, af, none⟩ :: rest) ⟨c, t, L, G⟩ K := by
  refine VR.eff rfl rfl (Nat.le_of_ble_eq_true hn) (.a (.own (.l c))) ⟨c + 1, t, (c, .row e k (xs ++ ys)) :: del L n, G⟩ (fun h w a H => ?_) k1
  have hel := (hT T ti hti).slice he
  obtain ⟨i, g1, g2, g3, g4⟩ := (hT e te hte).getInfo
  obtain ⟨hd, e1, e2, e3, e4⟩ := H.obj (.l n) _ ho
  have hxv := (H.eva hx).2.2 _ e1
  subst hk
  have hcat : cellsL (xs ++ ys) = cellsL xs ++ cellsL ys := by simp [cellsL]
  have hsz : 0 < te.size := e4
  have done : ∀ v' w', (execOp a.eval (⟨some d, .call { callee := .builtin .append, args := #[x, y], argTypes := #[T, T] }, ty, pos, af, none⟩ : Oper)).run P w = .ok (.value v') w' → w'.ownsRow 0 e te.size v' (xs.length + ys.length) (cellsL xs ++ cellsL ys) → (∀ y ∈ ys, y.cells.size = te.size) → w.grownBy w' hd.ownBlock → (v'.ownBlock = hd.ownBlock ∨ v'.ownBlock = some w.heap.size) →
      ∃ x1 w' h', (execOp a.eval (⟨some d, .call { callee := .builtin .append, args := #[x, y], argTypes := #[T, T] }, ty, pos, af, none⟩ : Oper)).run P w = .ok (.value x1) w' ∧ Sim E h' w' a ⟨c + 1, t, (c, .row e te.size (xs ++ ys)) :: del L n, G⟩ ∧ RV (c + 1) h' w' (.a (.own (.l c))) x1 := by
    intro v' w' hrun hown hys hgr hat
    refine ⟨v', w', mvH n c v' h, hrun, H.move n _ _ hd v' ho e1 (by rw [blk_own e2]; exact hgr) (fun b hb => ?_) ⟨by rw [hcat]; simpa using hown, fun z hz => ?_, e4⟩, Nat.lt_succ_self _, ?_, fun u hu => by rw [mvH_new] at hu; cases hu; rfl⟩
    · rw [blk_own hown] at hb
      rcases hat with h2 | h2
      · left; rw [blk_own e2, ← h2]; exact hb
      · right
        rw [h2] at hb; cases hb
        have := (hown.lt _ h2).2
        exact ⟨Nat.le_refl _, this⟩
    · rcases List.mem_append.1 hz with hz | hz
      · exact e3 z hz
      · exact hys z hz
    · rcases hown.2 with ⟨rfl, _⟩ | ⟨g, cap, cur, rfl, _⟩ <;> rfl
  have main : ∀ (ad : Addr) (m cap : Nat), a.eval y = .slice (some ad) m cap → ys.length = m → (∀ y ∈ ys, y.cells.size = te.size) → (∀ j u, (cellsL ys)[j]? = some u → w.cell? (ad.add j) = some u) →
      ∃ x1 w' h', (execOp a.eval (⟨some d, .call { callee := .builtin .append, args := #[x, y], argTypes := #[T, T] }, ty, pos, af, none⟩ : Oper)).run P w = .ok (.value x1) w' ∧ Sim E h' w' a ⟨c + 1, t, (c, .row e te.size (xs ++ ys)) :: del L n, G⟩ ∧ RV (c + 1) h' w' (.a (.own (.l c))) x1 := by
    intro ad m cap hyv hml hys hcell
    subst hml
    obtain ⟨v', w', hrun, r2, r3, _, r5⟩ := run_append_own_at (P := P) w 0 T ty e i te.zero te.size te.bytes hel g1 g4 g2 g3 hzs hsz hd xs.length (cellsL xs) e2 ad ys.length cap (cellsL ys) (len_cellsL hys) hcell
      (fun u hu => by
        obtain ⟨z, hz, hu⟩ := List.mem_flatMap.1 hu
        exact h1 z hz u hu) hm hb (Nat.zero_le _)
    refine done v' w' ?_ r2 hys r3 r5
    simp [execOp, resolve, invoke, builtin, hxv, hyv, hrun]
  rcases H.eva hy with ⟨rfl, ad, cap, hyv⟩ | ⟨b, o, cap, hyv, hcap, him⟩
  · cases ad with
    | none =>
      have hrun := run_append_owned_empty (P := P) (w := w) 0 T ty e i te.size hel g1 hd xs.length (cellsL xs) e2 cap
      refine done hd w ?_ (by simpa [cellsL] using e2) (fun y hy => by simp at hy) ⟨rfl, rfl, rfl, Nat.le_refl _, fun _ _ _ => rfl⟩ (.inl rfl)
      simp [execOp, resolve, invoke, builtin, hxv, hyv, hrun]
    | some ad => exact main ad 0 cap hyv rfl (fun y hy => by simp at hy) (fun j u hu => by simp [cellsL] at hu)
  · refine main ⟨b, o, none⟩ ys.length cap hyv rfl him.sz (fun j u hu => ?_)
    have hadd : (⟨b, o, none⟩ : Addr).add j = ⟨b, o + j, none⟩ := by unfold Addr.add; split <;> simp_all
    rw [hadd]; exact him.cell j u hu

/-- A row of one's own is stored: a read-only list from then on. -/
theorem VR.storeF {T : TypeId} {ti : TI} {x y : Operand} {i : Id} {off n e k : Nat} {xs : List Value} {cells cs : List A} (hT : Tab.Ok P tab) (hti : lk tab T = some ti) (hx : eva ⟨c, t, L, G⟩ x = some (.ptr i off)) (ho : S.obj ⟨c, t, L, G⟩ i = some (.box cells))
    (hy : eva ⟨c, t, L, G⟩ y = some (.own (.l n))) (hl : lk L n = some (.row e k xs)) (hs : stc off ti.size cells [.d (.lst k xs)] = some cs) (hgl : okG i cs)
    (kk : VR P E ops rest (S.set ⟨c, t, del L n, G⟩ i (.box cs)) K) : VR P E ops (⟨none, .store T x y, ty, pos, af, none⟩ :: rest) ⟨c, t, L, G⟩ K := by
  refine VR.act rfl rfl _ (fun h w a H => ?_) kk
  have hin : i ≠ .l n := by
    rintro rfl
    have ho : lk L n = some (.box cells) := ho
    rw [hl] at ho; cases ho
  have hfz := H.frozen hl (H.eva hy)
  have h1c : (a.eval y).oneCell' = true := (H.eva hy).2.1
  obtain ⟨hd0, h0, b0, c00, e00, rfl, h40, _⟩ := H.obj i _ ho
  obtain ⟨b', e1, e2⟩ := (H.eva hx).2.2 _ h0
  cases e1
  have H1 := H.dropL n
  have ho1 : S.obj ⟨c, t, del L n, G⟩ i = some (.box cells) := by rw [obj_del, if_neg hin]; exact ho
  obtain ⟨hd, h1, b, c0, e, rfl, h4, h5⟩ := H1.obj i _ ho1
  rw [dropHl_ne hin, h0] at h1
  cases h1
  have h1' : dropHl n h i = some (.pointer (some ⟨b0, 0, none⟩)) := by rw [dropHl_ne hin]; exact h0
  have hr : RAs c (dropHl n h) w [.d (.lst k xs)] (a.eval y).cells.toList := by
    rw [cells_one h1c]
    refine ⟨rfl, fun j z u hz hu => ?_⟩
    match j, hz, hu with
    | 0, hz, hu => simp at hz hu; subst hz; subst hu; exact hfz
    | j + 1, hz, hu => simp at hz
  generalize hvs : [A.d (.lst k xs)] = vs at hs hr
  unfold stc at hs
  split at hs
  · rename_i hl
    cases hs
    have hsz : (a.eval y).cells.size = ti.size := by rw [← hl.1, hr.1]; simp
    have hrun := run_store_cells (hT T ti hti) (x := a.eval y) (o := off) h4 hsz (by have := h5.1; simp at this; omega) (by
      intro u hu
      rw [cells_one h1c] at hu
      simp at hu; subst hu; exact h1c)
    obtain ⟨k1, k2, k3, k4, k5⟩ := setRow_kept (w := w) (b := b0) (cs := (c0.toList.take off ++ (a.eval y).cells.toList ++ c0.toList.drop (off + ti.size)).toArray)
    refine ⟨_, dropHl n h, .inl ?_, H1.set i _ _ _ ho1 h1' k1 k2 k3 k4 (fun q hq => k5 q (fun e => hq (by rw [e]; rfl))) hgl ?_⟩
    · simp only [execOp, e2, Instr.storeAt, Instr.sureAddr, Sem.run_bind, Sem.run_pure, Result.andThen_ok, hrun]
    · refine ⟨b0, _, e, rfl, setRow_heap w b0 c0 _ e _ h4, ?_⟩
      have st : Stp c (dropHl n h) w c (dropHl n h) (w.setRow b0 (c0.toList.take off ++ (a.eval y).cells.toList ++ c0.toList.drop (off + ti.size)).toArray) (fun _ => False) :=
        ⟨Nat.le_refl _, fun _ h => h, fun j _ _ hd' e => e, Nat.le_of_eq k4.symm, fun q hlt hm => ⟨k5 q (fun e => hm ⟨i, _, h1', by rw [e]; rfl⟩), hm⟩⟩
      have g1 := h5.step st (fun _ _ _ _ h => h)
      have g2 := hr.step st (fun _ _ _ _ h => h)
      have hl5 := h5.1
      have hlv := hr.1
      refine ⟨by simp at hl5 hlv ⊢; omega, fun j z u hz hu => ?_⟩
      have hto : (cells.take off).length = (c0.toList.take off).length := by simp only [List.length_take, hl5]
      rw [List.append_assoc] at hz hu
      rcases Nat.lt_or_ge j (cells.take off).length with hj | hj
      · rw [List.getElem?_append_left hj] at hz
        rw [List.getElem?_append_left (by rw [← hto]; exact hj)] at hu
        rw [List.getElem?_take] at hz hu
        split at hz
        · rename_i hjo; rw [if_pos hjo] at hu; exact g1.2 j z u hz hu
        · cases hz
      · rw [List.getElem?_append_right hj] at hz
        rw [List.getElem?_append_right (by rw [← hto]; exact hj), ← hto] at hu
        rcases Nat.lt_or_ge (j - (cells.take off).length) vs.length with hj2 | hj2
        · rw [List.getElem?_append_left hj2] at hz
          rw [List.getElem?_append_left (by rw [← hlv]; exact hj2)] at hu
          exact g2.2 _ z u hz hu
        · rw [List.getElem?_append_right hj2] at hz
          rw [List.getElem?_append_right (by rw [← hlv]; exact hj2), ← hlv] at hu
          rw [List.getElem?_drop] at hz hu
          exact g1.2 _ z u hz hu
  · cases hs

/-- A slice that is built and only read. -/
theorem VR.buildLst {T e : TypeId} {ti te : TI} {len : Nat} {ps : Array (Nat × Operand)} {vs : List (Nat × Value)} (xs : List Value) (hT : Tab.Ok P tab) (hn : Nat.ble (d + 1) E.nt = true) (hti : lk tab T = some ti) (he : ti.slc = some e) (hte : lk tab e = some te)
    (hv : flps ⟨c, t, L, G⟩ ps.toList = some vs) (hx : vs = (xs.zipIdx 0).map fun p => (p.2, p.1)) (hsz : Nat.ble 1 te.size = true) (hlen : xs.length = len) (hle : Nat.ble (len * te.size) 1000 = true) (hzs : te.zero.cells.size = te.size)
    (hall : (xs.all fun y => y.cells.size == te.size) = true)
    (k : VR P E ops rest ⟨c, (d, .a (.d (.lst te.size xs))) :: t, L, G⟩ K) :
    VR P E ops (⟨some d, .buildSlice T len ps, ty, pos, af, none⟩ :: rest) ⟨c, t, L, G⟩ K := by
  have hxs : ∀ y ∈ xs, y.cells.size = te.size := fun y hy => by simpa using List.all_eq_true.1 hall y hy
  obtain ⟨r, hr, hrx⟩ := fill_row te.size xs 0 ((Array.range (len * te.size)).map (fun i => (if len * te.size = 0 then #[] else te.zero.cells)[i % (if len * te.size = 0 then #[] else te.zero.cells).size]!)) hxs (by simp [hlen])
  have hrx : r.toList = cellsL xs := by simpa using hrx
  refine VR.eff rfl rfl (Nat.le_of_ble_eq_true hn) (.a (.d (.lst te.size xs))) ⟨c, t, L, G⟩ (fun h w a H => ?_) k
  have h3 := H.flps _ _ hv
  rw [← hx] at hr
  have hel := (hT T ti hti).slice he
  have hsz' := (hT e te hte).run_size w
  have hz := (hT e te hte).run_zero w
  have hps : (ps.map fun (i, x) => (i, a.eval x)).toList = vs := by rw [Array.toList_map]; exact h3
  have hle := Nat.le_of_ble_eq_true hle
  have hs1 := Nat.le_of_ble_eq_true hsz
  refine ⟨.slice (some ⟨w.heap.size, 0, none⟩) len len, w.alloc (.cells r e), h, ?_, H.grown (World.grownBy_alloc w _ none), ?_⟩
  · have : ¬ len * te.size > 2 ^ 24 := by omega
    simp only [execOp, Instr.buildSlice, Sem.run_bind, run_underlying hel, Result.andThen_ok, hsz', if_neg this]
    by_cases h0 : len * te.size = 0
    · simp only [h0, if_true, Sem.run_bind, Sem.run_pure, Result.andThen_ok]
      simp only [h0, if_true] at hr
      rw [hps, hr]
      rfl
    · simp only [h0, if_false, Sem.run_bind, hz, Sem.run_pure, Result.andThen_ok]
      simp only [h0, if_false] at hr
      rw [hps, hr]
      rfl
  · refine .inr ⟨w.heap.size, 0, len, by rw [hlen], by omega, by simp, ?_, hxs, fun j u hu => ?_⟩
    · rintro ⟨i, hd, e1, e2⟩
      exact Nat.lt_irrefl _ (H.own i hd _ e1 e2).1
    · rw [← hrx] at hu
      unfold World.cell? World.alloc
      simpa using hu
end

/-- A shared object is seen as another one that says the same of the world. -/
theorem Sim.recast {E : Env} {h : Hd} {w : World} {a : Act} {s : S} (H : Sim E h w a s) (g : Nat) (o o' : VO) (hg : s.G g = some o) (himp : ∀ hd, OBJ s.c h w hd o → OBJ s.c h w hd o') (hgl : ∀ q, ¬ o'.says (.l q)) : Sim E h w a { s with G := fun n => if n = g then some o' else s.G n } := by
  have hobj : ∀ i, S.obj { s with G := fun n => if n = g then some o' else s.G n } i = if i = .g g then some o' else s.obj i := by
    intro i
    cases i with
    | l m => simp [S.obj]
    | g m => simp [S.obj]
    | x m => simp [S.obj]
  constructor
  · intro i o1 ho
    rw [hobj] at ho
    split at ho
    · rename_i e; cases ho; subst e
      obtain ⟨hd, h1, h2⟩ := H.obj (.g g) o hg
      exact ⟨hd, h1, himp hd h2⟩
    · exact H.obj i o1 ho
  · intro i hd e
    rw [hobj]
    split
    · exact .inl ⟨_, rfl⟩
    · exact H.dom i hd e
  · exact H.inj
  · exact H.old
  · exact H.pri
  · intro n o1 ho q
    have ho : (if n = g then some o' else s.G n) = some o1 := ho
    split at ho
    · cases ho; exact hgl q
    · exact H.gl n o1 ho q
  · exact H.own
  · exact H.cl
  · exact H.fr
  · exact H.sz
  · exact H.os
  · exact H.tape
  · exact H.output
  · exact H.nt
  · exact H.dfr
  · exact H.tmp

section
variable {P : Program} {E : Env} {fn : Func} {R : Ending → World → Prop} {k : List Item}
/-- A nil slice in a shared box of one cell is an empty list. -/
theorem VJ.nilBox {c : Nat} {t : List (Nat × AV)} {L : List (Nat × VO)} {G : Nat → Option VO} (g q : Nat) (hg : G g = some (.box [.d (.v (.slice none 0 0))])) (H : VJ P E fn R k ⟨c, t, L, fun n => if n = g then some (.box [.d (.lst q [])]) else G n⟩) : VJ P E fn R k ⟨c, t, L, G⟩ := by
  refine fun h w a b cs S0 hf hk => H h w a b cs (S0.recast g _ _ hg (fun hd h1 => ?_) (fun m hs => by obtain ⟨x, hx, hs⟩ := hs; simp at hx; subst hx; exact hs)) hf hk
  obtain ⟨b, cs, t, e1, e2, e3, e4⟩ := h1
  refine ⟨b, cs, t, e1, e2, by simpa using e3, fun j x v hx hv => ?_⟩
  match j, hx with
  | 0, hx =>
    simp at hx; subst hx
    have := e4 0 _ v rfl hv
    exact .inl ⟨rfl, none, 0, this⟩
  | j + 1, hx => simp at hx
end

end Go.Proofs.Ytdkbmefidmljjaa.V
