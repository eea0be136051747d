/- Texts of the proof, one behind the other: VB, Tab, Geo, W1, W2. Conditions: each lemma's own. -/
import Derived.Test.YtnpnjhopgedhkaaGreatFD2
import Derived.IntWalk
import Derived.Test.YtnpnjhopgedhkaaGreatFD1
import Derived.Test.YtnpnjhopgedhkaaGreatProg
import Derived.KernelRfl
import Derived.WalkKit
import Derived.Handy
import Derived.Deep.DeepCutAuto
import Derived.Deep.RegionHeld3
import Derived.BigQuiet
import Derived.Deep.QuietTactic
set_option linter.unusedVariables false
namespace Go.Proofs.YtnpnjhopgedhkaaGreat.V
open Go.RowKit
universe u
def plA : A → Bool
 | .d (.lst _ _) | .el .. => false
 | _ => true
def plV : AV → Bool
 | .a x => plA x
 | .fn _ l | .tup l | .agg l => l.all plA
 | .may .. => false
def plO : VO → Bool
 | .box l => l.all plA
 | _ => true
section
variable {c c' : Nat} {h h' : Hd} {w : World}
theorem RA.tri {x : A} {v : Value} (hm : plA x = true ∨ ∀ b, mutb h' b → mutb h b) (hid : ∀ i, x.says i → okId c h i → okId c' h' i ∧ ∀ u, h' i = some u → h i = some u) (H : RA c h w x v) : RA c' h' w x v := by
 cases x with
 | d y =>
  cases y with
  | v u => exact H
  | lst k xs =>
   have hm := hm.resolve_left (by simp [plA])
   rcases H with H | ⟨b, o, cap, h1, h2, h3⟩
   ·exact .inl H
   ·exact .inr ⟨b, o, cap, h1, h2, h3.tr hm⟩
 | ptr i off => have := hid i rfl H.1; exact ⟨this.1, H.2.1, fun u hu => H.2.2 u (this.2 u hu)⟩
 | mp i => have := hid i rfl H.1; exact ⟨this.1, H.2.1, fun u hu => H.2.2 u (this.2 u hu)⟩
 | own i => have := hid i rfl H.1; exact ⟨this.1, H.2.1, fun u hu => H.2.2 u (this.2 u hu)⟩
 | el k xs j off =>
  have hm := hm.resolve_left (by simp [plA])
  obtain ⟨b, o, h1, h2⟩ := H; exact ⟨b, o, h1, h2.tr hm⟩
 | oel i k j off => have := hid i rfl H.1; exact ⟨this.1, H.2.1, fun u hu => H.2.2 u (this.2 u hu)⟩
 | top => trivial
theorem RAs.tri {l : List A} {vs : List Value} (hm : l.all plA = true ∨ ∀ b, mutb h' b → mutb h b) (hid : ∀ i, (∃ x ∈ l, A.says x i) → okId c h i → okId c' h' i ∧ ∀ u, h' i = some u → h i = some u) (H : RAs c h w l vs) : RAs c' h' w l vs :=
 ⟨H.1, fun j x v h1 h2 => (H.2 j x v h1 h2).tri (hm.imp_left fun e => List.all_eq_true.1 e x (List.mem_of_getElem? h1)) fun i hi => hid i ⟨x, List.mem_of_getElem? h1, hi⟩⟩
theorem RV.tri {x : AV} {v : Value} (hm : plV x = true ∨ ∀ b, mutb h' b → mutb h b) (hid : ∀ i, x.says i → okId c h i → okId c' h' i ∧ ∀ u, h' i = some u → h i = some u) (H : RV c h w x v) : RV c' h' w x v := by
 cases x with
 | a x => exact RA.tri hm hid H
 | fn f l => obtain ⟨vs, h1, h2⟩ := H; exact ⟨vs, h1, h2.tri hm hid⟩
 | tup l => obtain ⟨vs, h1, h2⟩ := H; exact ⟨vs, h1, h2.tri hm hid⟩
 | agg l => obtain ⟨vs, h1, h2⟩ := H; exact ⟨vs, h1, h2.tri hm hid⟩
 | may j wt q x =>
  have hm := hm.resolve_left (by simp [plV])
  exact ⟨fun hq => RA.tri (.inr hm) (fun i hi => hid i ⟨hq, hi⟩) (H.1 hq), H.2⟩
theorem OBJ.tri {o : VO} {v : Value} (hm : plO o = true ∨ ∀ b, mutb h' b → mutb h b) (hid : ∀ i, o.says i → okId c h i → okId c' h' i ∧ ∀ u, h' i = some u → h i = some u) (H : OBJ c h w v o) : OBJ c' h' w v o := by
 cases o with
 | box cells => obtain ⟨b, cs, t, h1, h2, h3⟩ := H; exact ⟨b, cs, t, h1, h2, h3.tri hm hid⟩
 | row e k xs => exact H
 | map mk mv l z => exact H
 | itr mk mv l left z cur => exact H
end
theorem Post.drop {W0 : World} {h0 x0 : Nat → Option Value} {G Gk : Nat → Option VO} {r : AV} {Q : AV → (Nat → Option VO) → Prop} {e : Ending} {w : World} (H : Post W0 h0 x0 (fun r' G' => r' = r ∧ G' = G) e w)
  (hk1 : ∀ n o, Gk n = some o → G n = some o) (hk2 : ∀ n, Gk n = none → h0 n = none) (hcl : ∀ n o, Gk n = some o → ∀ m, o.says (.g m) → Gk m ≠ none) (hr : ∀ m, r.says (.g m) → Gk m ≠ none) (hq : Q r Gk) : Post W0 h0 x0 Q e w := by
 obtain ⟨v, r', G', h1, rfl, ⟨er, eG⟩, sg, hrv, hold, hnew, hfr, hsz, hos, htape, hout⟩ := H
 rw [er] at hrv
 rw [eG] at sg
 have sub : ∀ i u, gh (fun n => if (Gk n).isSome then h1 n else none) x0 i = some u → gh h1 x0 i = some u := by
  intro i u hu
  cases i with
  | l n => cases hu
  | g n => simp only [gh] at hu ⊢; split at hu <;> first | exact hu | cases hu
  | x n => exact hu
 have hm : ∀ b, mutb (gh (fun n => if (Gk n).isSome then h1 n else none) x0) b → mutb (gh h1 x0) b := fun b ⟨i, u, hu, hb⟩ => ⟨i, u, sub i u hu, hb⟩
 have hid : ∀ i, (∀ m, i = .g m → Gk m ≠ none) → okId 0 (gh h1 x0) i → okId 0 (gh (fun n => if (Gk n).isSome then h1 n else none) x0) i ∧ ∀ u, gh (fun n => if (Gk n).isSome then h1 n else none) x0 i = some u → gh h1 x0 i = some u := by
  intro i hi hok
  refine ⟨?_, sub i⟩
  cases i with
  | l n => exact hok
  | g n =>
   show (if (Gk n).isSome then h1 n else none) ≠ none
   rw [if_pos (Option.isSome_iff_ne_none.2 (hi n rfl))]; exact hok
  | x n => exact hok
 refine ⟨v, r, Gk, fun n => if (Gk n).isSome then h1 n else none, rfl, hq, ⟨fun n o ho => ?_, fun n hd hh => ?_, fun i j hi hj b e1 e2 => sg.inj i j hi hj b (sub i hi e1) (sub j hj e2), fun i u b e hb => sg.lt i u b (sub i u e) hb, fun n o ho => sg.gl n o (hk1 n o ho)⟩,
  hrv.tri (.inr hm) fun i hi => hid i fun m e => hr m (e ▸ hi), fun n hd hh => ?_, fun n hd b hh hb => ?_, hfr, hsz, hos, htape, hout⟩
 ·obtain ⟨hd, e1, e2⟩ := sg.obj n o (hk1 n o ho)
  refine ⟨hd, by simp only [ho, Option.isSome_some, if_true]; exact e1, e2.tri (.inr hm) fun i hi => hid i fun m e => hcl n o ho m (e ▸ hi)⟩
 ·split at hh
  ·rename_i hs
   obtain ⟨o, ho⟩ := Option.isSome_iff_exists.1 hs
   exact ⟨o, ho⟩
  ·cases hh
 ·have : Gk n ≠ none := fun e => by rw [hk2 n e] at hh; cases hh
  simp only [Option.isSome_iff_ne_none.2 this, if_true]
  exact hold n hd hh
 ·have hh : (if (Gk n).isSome then h1 n else none) = some hd := hh
  split at hh
  ·exact hnew n hd b hh hb
  ·cases hh
section
variable {P : Program} {E : Env} {fn : Func} {R : Ending → World → Prop} {k k' : List Item} {s : S}
theorem leave_drop {tab : Tab} (hT : Tab.Ok P tab) {Q : AV → (Nat → Option VO) → Prop} {l : List AV} {r : AV} (Gk : Nat → Option VO) (hl : evs tab s fn.results.toList = some l) (hs : res l = some r)
  (hk1 : ∀ n o, Gk n = some o → s.G n = some o) (hk2 : ∀ n, Gk n = none → E.h0 n = none) (hcl : ∀ n o, Gk n = some o → ∀ m, o.says (.g m) → Gk m ≠ none) (hr : ∀ m, r.says (.g m) → Gk m ≠ none) (hq : Q r Gk)
  {hd : Hd} {w : World} {a : Act} (H : Sim E hd w a s) : ∃ v, (results fn a.tmps).run P w = .ok v w ∧ Post E.W0 E.h0 E.x0 Q (.returned v) w := by
 obtain ⟨v, h1, h2⟩ := leave_ret (P := P) (Q := fun r' G' => r' = r ∧ G' = s.G) hT hl hs ⟨rfl, rfl⟩ H
 exact ⟨v, h1, h2.drop hk1 hk2 hcl hr hq⟩
theorem VJ.retG {tab : Tab} {Q : AV → (Nat → Option VO) → Prop} {l : List AV} {r : AV} (Gk : Nat → Option VO) (hT : Tab.Ok P tab) (hl : evs tab s fn.results.toList = some l) (hs : res l = some r)
  (hk1 : ∀ n o, Gk n = some o → s.G n = some o) (hk2 : ∀ n, Gk n = none → E.h0 n = none) (hcl : ∀ n o, Gk n = some o → ∀ m, o.says (.g m) → Gk m ≠ none) (hr : ∀ m, r.says (.g m) → Gk m ≠ none) (hq : Q r Gk) :
  VJ P E fn (Post E.W0 E.h0 E.x0 Q) (.code .ret :: k) s := by
 intro hd w a b cs H hf hk
 obtain ⟨v, h1, h2⟩ := leave_drop (P := P) hT Gk hl hs hk1 hk2 hcl hr hq H
 exact ⟨.returned v, w, { b.at a (.code .ret :: k) with mode := .returning }, h2, Steps.one step_ret, rfl, rfl, H.dfr, hk, fn, hf, h1⟩
theorem VJ.finG {tab : Tab} {Q : AV → (Nat → Option VO) → Prop} {l : List AV} {r : AV} (Gk : Nat → Option VO) (hT : Tab.Ok P tab) (hl : evs tab s fn.results.toList = some l) (hs : res l = some r)
  (hk1 : ∀ n o, Gk n = some o → s.G n = some o) (hk2 : ∀ n, Gk n = none → E.h0 n = none) (hcl : ∀ n o, Gk n = some o → ∀ m, o.says (.g m) → Gk m ≠ none) (hr : ∀ m, r.says (.g m) → Gk m ≠ none) (hq : Q r Gk) :
  VJ P E fn (Post E.W0 E.h0 E.x0 Q) [] s := by
 intro hd w a b cs H hf hk
 obtain ⟨v, h1, h2⟩ := leave_drop (P := P) hT Gk hl hs hk1 hk2 hcl hr hq H
 exact ⟨.returned v, w, { b.at a [] with mode := .returning }, h2, Steps.one step_end, rfl, rfl, H.dfr, hk, fn, hf, h1⟩
end
section
variable {P : Program} {E : Env} {ops : Array Oper} {rest : List Oper} {s : S} {K : S → Prop}
variable {c : Nat} {t : List (Nat × AV)} {L : List (Nat × VO)} {G : Nat → Option VO} {d ty : Nat} {pos : String} {af : Array Edge} {tab : Tab}
variable {κ ν : Type} [DecidableEq κ] {mk : κ → Value} {mv : ν → Value}
theorem Sim.newG {h : Hd} {w w' : World} {a : Act} (H : Sim E h w a s) (g : Nat) (hg0 : s.G g = none) (o : VO) (hd : Value) (hg : w.grownBy w' none) (hgl : ∀ q, ¬ o.says (.l q))
  (hb : ∀ b, blk hd = some b → w.heap.size ≤ b ∧ b < w'.heap.size) (hO : OBJ s.c (Hd.put h (.g g) hd) w' hd o) :
  Sim E (Hd.put h (.g g) hd) w' a (s.newG g o) := by
 have hn : h (.g g) = none := by
  cases e : h (.g g) with
  | none => rfl
  | some v =>
   rcases H.dom _ v e with ⟨o', ho'⟩ | ⟨q, hq⟩
   ·simp only [S.obj, hg0] at ho'; cases ho'
   ·cases hq
 refine H.newAt (.g g) o hd hg (Nat.le_refl _) rfl hg0 (fun q e => by cases e) (fun n _ => hgl) ?_ H.cl (fun n e => by cases e) (fun n e => ?_) hb hO
 ·intro j
  cases j with
  | l n => simp [S.obj, S.newG]
  | g n => simp only [S.obj, S.newG, Id.g.injEq]
  | x n => simp [S.obj]
 ·cases e
  cases e : E.h0 g with
  | none => rfl
  | some v => rw [H.old _ _ e] at hn; cases hn
theorem put_stepG {h : Hd} {w w' : World} {hd : Value} (g : Nat) (hn : h (.g g) = none) (hg : w.grownBy w' none) (hb : ∀ b, blk hd = some b → w.heap.size ≤ b) : Stp c h w c (Hd.put h (.g g) hd) w' (fun j => j = .g g) := by
 refine ⟨Nat.le_refl _, fun m hm => ?_, fun j _ hx v e => ?_, hg.size, fun b hlt hm => ⟨hg.block b hlt (by simp), ?_⟩⟩
 ·unfold Hd.put; split
  ·simp
  ·exact hm
 ·unfold Hd.put at e; rw [if_neg hx] at e; exact e
 ·rintro ⟨j, v, e, hbv⟩
  unfold Hd.put at e
  split at e
  ·cases e; have := hb b hbv; omega
  ·exact hm ⟨j, v, e, hbv⟩
theorem Sim.noG {h : Hd} {w : World} {a : Act} (H : Sim E h w a s) {g : Nat} (hg0 : s.G g = none) : h (.g g) = none := by
 cases e : h (.g g) with
 | none => rfl
 | some v =>
  rcases H.dom _ v e with ⟨o', ho'⟩ | ⟨q, hq⟩
  ·simp only [S.obj, hg0] at ho'; cases ho'
  ·cases hq
theorem says_ok {x : A} {v : Value} {h : Hd} {w : World} (H : RA c h w x v) {i : Id} (hs : x.says i) : okId c h i := by
 cases x with
 | ptr j off => simp only [A.says] at hs; subst hs; exact H.1
 | mp j => simp only [A.says] at hs; subst hs; exact H.1
 | own j => simp only [A.says] at hs; subst hs; exact H.1
 | oel j k q off => simp only [A.says] at hs; subst hs; exact H.1
 | _ => exact hs.elim
theorem RAs.newG {h : Hd} {w w' : World} {hd : Value} {l : List A} {vs : List Value} (g : Nat) (hn : h (.g g) = none) (H : RAs c h w l vs) (hg : w.grownBy w' none) (hb : ∀ b, blk hd = some b → w.heap.size ≤ b) : RAs c (Hd.put h (.g g) hd) w' l vs :=
 H.step (put_stepG g hn hg hb) (fun x hx i hi e => by
  obtain ⟨q, hq⟩ := List.getElem?_of_mem hx
  have hlt : q < vs.length := by rw [← H.1]; exact (List.getElem?_eq_some_iff.1 hq).1
  have := says_ok (H.2 q x _ hq (List.getElem?_eq_getElem hlt)) hi
  rw [e] at this
  exact this hn)
theorem ptr_newG {h : Hd} {w : World} {b g : Nat} : RV c (Hd.put h (.g g) (.pointer (some ⟨b, 0, none⟩))) w (.a (.ptr (.g g) 0)) (.pointer (some ⟨b, 0, none⟩)) :=
 ⟨by simp [okId, Hd.put], rfl, fun hd hh => by simp [Hd.put] at hh; subst hh; exact ⟨b, rfl, rfl⟩⟩
theorem all_glA {cs : List A} (h : cs.all glA = true) (q : Nat) : ¬ VO.says (.box cs) (.l q) := fun ⟨x, hx, hs⟩ => glA_says (List.all_eq_true.1 h x hx) q hs
theorem Sim.boxG {h : Hd} {w : World} {a : Act} (H : Sim E h w a s) (g : Nat) (hg0 : s.G g = none) (T : TypeId) (cs : List A) (hgl : cs.all glA = true) (x : Value) (hx : RAs s.c h w cs x.cells.toList) :
  Sim E (Hd.put h (.g g) (.pointer (some ⟨w.heap.size, 0, none⟩))) (w.alloc (.cells x.cells T)) a (s.newG g (.box cs)) :=
 H.newG g hg0 _ _ (World.grownBy_alloc w _ none) (all_glA hgl) (fun b hb => by simp [blk] at hb; subst hb; simp)
  ⟨w.heap.size, x.cells, T, rfl, heap_alloc_new w _, hx.newG g (H.noG hg0) (World.grownBy_alloc w _ none) (fun b hb => by simp [blk] at hb; omega)⟩
theorem VR.boxG {T : TypeId} {x : Operand} {v : AV} {cs : List A} (g : Nat) (hg0 : G g = none) (hn : Nat.ble (d + 1) E.nt = true) (hx : ev ⟨c, t, L, G⟩ x = some v) (hc : boxc v = some cs) (hgl : cs.all glA = true)
  (k : VR P E ops rest ⟨c, (d, .a (.ptr (.g g) 0)) :: t, L, fun n => if n = g then some (.box cs) else G n⟩ K) : VR P E ops (⟨some d, .box T x, ty, pos, af, none⟩ :: rest) ⟨c, t, L, G⟩ K := by
 refine VR.eff rfl rfl (Nat.le_of_ble_eq_true hn) (.a (.ptr (.g g) 0)) (S.newG ⟨c, t, L, G⟩ g (.box cs)) (fun h w a H => ?_) k
 refine ⟨_, _, _, ?_, H.boxG g hg0 T cs hgl (a.eval x) (boxc_spec (H.ev hx) hc), ptr_newG⟩
 rfl
theorem VR.makeMapG {T : TypeId} (g : Nat) (hg0 : G g = none) (mk : κ → Value) (mv : ν → Value) (hn : Nat.ble (d + 1) E.nt = true)
  (k : VR P E ops rest ⟨c, (d, .a (.mp (.g g))) :: t, L, fun n => if n = g then some (.map mk mv [] none) else G n⟩ K) :
  VR P E ops (⟨some d, .makeMap T none, ty, pos, af, none⟩ :: rest) ⟨c, t, L, G⟩ K := by
 refine VR.effx rfl rfl (Nat.le_of_ble_eq_true hn) (fun h w a H => ?_)
 refine ⟨.map (some w.heap.size), w.alloc (.map #[] 0), Hd.put h (.g g) (.map (some w.heap.size)), .a (.mp (.g g)), S.newG ⟨c, t, L, G⟩ g (.map mk mv [] none), rfl, H.newG g hg0 _ _ (World.grownBy_alloc w _ none) (fun q hs => hs) (fun b hb => by simp [blk] at hb; subst hb; simp) ⟨_, rfl, Mp.Is.made w, fun q e => by cases e⟩, ?_, k⟩
 exact ⟨by simp [okId, Hd.put], rfl, fun hd hh => by simp [Hd.put] at hh; exact hh⟩
end
end Go.Proofs.YtnpnjhopgedhkaaGreat.V
namespace Go.Proofs.YtnpnjhopgedhkaaGreat.V
open Go.RowKit
universe u
def hideK (keep : Nat → Bool) (fz : List Nat) (h : Hd) (b : Nat) : Option Value :=
 if b % 3 = 0 then h (.x (b / 3)) else if b % 3 = 1 then (if fz.contains (b / 3) then none else h (.l (b / 3))) else (if keep (b / 3) then none else h (.g (b / 3)))
def h0K (keep : Nat → Bool) (h : Hd) (n : Nat) : Option Value := if keep n then h (.g n) else none
def GK (keep : Nat → Bool) (G : Nat → Option VO) (n : Nat) : Option VO := if keep n then G n else none
def GM (keep : Nat → Bool) (G' G : Nat → Option VO) (n : Nat) : Option VO := if keep n then G' n else G n
def psi (keep : Nat → Bool) : Id → Id
 | .l n => .l n
 | .g n => .g n
 | .x b => if b % 3 = 0 then .x (b / 3) else if b % 3 = 1 then .l (b / 3) else .g (b / 3)
section
variable {keep : Nat → Bool} {fz : List Nat} {h : Hd}
theorem ghK_psi {h1 : Nat → Option Value} {i : Id} {v : Value} (e : gh h1 (hideK keep fz h) i = some v) : (∃ n, i = .g n ∧ h1 n = some v) ∨ ((∃ b, i = .x b) ∧ h (psi keep i) = some v ∧ (∀ n, psi keep i = .g n → keep n = false) ∧ ∀ n, psi keep i = .l n → fz.contains n = false) := by
 cases i with
 | l n => cases e
 | g n => exact .inl ⟨n, rfl, e⟩
 | x b =>
  refine .inr ⟨⟨b, rfl⟩, ?_⟩
  have e : hideK keep fz h b = some v := e
  unfold hideK at e
  have hpsi : psi keep (.x b) = if b % 3 = 0 then .x (b / 3) else if b % 3 = 1 then .l (b / 3) else .g (b / 3) := rfl
  rw [hpsi]
  split at e
  ·rename_i h0; simp only [h0, if_true]; exact ⟨e, (fun n e => by cases e), (fun n e => by cases e)⟩
  ·rename_i h0
   simp only [if_neg h0]
   split at e
   ·rename_i h1
    simp only [if_pos h1]
    split at e
    ·cases e
    ·rename_i h2; exact ⟨e, (fun n e => by cases e), fun n e => by cases e; exact Bool.eq_false_iff.2 h2⟩
   ·rename_i h1
    simp only [if_neg h1]
    split at e
    ·cases e
    ·rename_i h2; exact ⟨e, (fun n e => by cases e; exact Bool.eq_false_iff.2 h2), (fun n e => by cases e)⟩
theorem psi_inj {b b' : Nat} (e : psi keep (.x b) = psi keep (.x b')) : b = b' := by
 have h1 := Nat.mod_lt b (show 0 < 3 by decide)
 have h2 := Nat.mod_lt b' (show 0 < 3 by decide)
 have hpsi : ∀ b, psi keep (.x b) = if b % 3 = 0 then .x (b / 3) else if b % 3 = 1 then .l (b / 3) else .g (b / 3) := fun _ => rfl
 rw [hpsi, hpsi] at e
 by_cases a0 : b % 3 = 0 <;> by_cases a1 : b % 3 = 1 <;> by_cases b0 : b' % 3 = 0 <;> by_cases b1 : b' % 3 = 1 <;> simp only [a0, a1, b0, b1, if_true, if_false, Nat.zero_ne_one, Nat.one_ne_zero, Id.x.injEq, Id.l.injEq, Id.g.injEq, reduceCtorEq] at e <;> omega
theorem hideK_l {n : Nat} (hf : fz.contains n = false) : hideK keep fz h (3 * n + 1) = h (.l n) := by
 unfold hideK
 rw [if_neg (by omega), if_pos (by omega), show (3 * n + 1) / 3 = n by omega, hf]; rfl
theorem hideK_x {n : Nat} : hideK keep fz h (3 * n) = h (.x n) := by
 unfold hideK
 rw [if_pos (by omega), show 3 * n / 3 = n by omega]
theorem hideK_g {n : Nat} (hk : keep n = false) : hideK keep fz h (3 * n + 2) = h (.g n) := by
 unfold hideK
 rw [if_neg (by omega), if_neg (by omega), show (3 * n + 2) / 3 = n by omega, hk]; rfl
end
def keepA (keep : Nat → Bool) : A → Bool
 | .ptr (.g n) _ | .mp (.g n) | .own (.g n) | .oel (.g n) _ _ _ => keep n
 | .ptr _ _ | .mp _ | .own _ | .oel _ _ _ _ => false
 | _ => true
def keepV (keep : Nat → Bool) : AV → Bool
 | .a x => keepA keep x
 | .fn _ l | .tup l | .agg l => l.all (keepA keep)
 | .may .. => false
theorem keepA_says {keep : Nat → Bool} {x : A} (h : keepA keep x = true) {i : Id} (hs : x.says i) : ∃ n, i = .g n ∧ keep n = true := by
 cases x with
 | ptr j off => cases j <;> first | (cases h; done) | exact ⟨_, hs.symm, h⟩
 | mp j => cases j <;> first | (cases h; done) | exact ⟨_, hs.symm, h⟩
 | own j => cases j <;> first | (cases h; done) | exact ⟨_, hs.symm, h⟩
 | oel j k q off => cases j <;> first | (cases h; done) | exact ⟨_, hs.symm, h⟩
 | _ => exact hs.elim
theorem keepV_says {keep : Nat → Bool} {x : AV} (h : keepV keep x = true) {i : Id} (hs : x.says i) : ∃ n, i = .g n ∧ keep n = true := by
 have hl : ∀ l : List A, l.all (keepA keep) = true → (∃ x ∈ l, A.says x i) → ∃ n, i = .g n ∧ keep n = true := fun l h ⟨x, hx, hs⟩ => keepA_says (List.all_eq_true.1 h x hx) hs
 cases x with
 | a x => exact keepA_says h hs
 | fn f l => exact hl l h hs
 | tup l => exact hl l h hs
 | agg l => exact hl l h hs
 | may j wt q x => cases h
def argK (keep : Nat → Bool) (fz : List Nat) (s : S) (v : AV) : Option AV := match v with
 | .a (.own (.l n)) => match fz.contains n with
  | true => match lk s.L n with
   | some (.row _ k xs) => some (.a (.d (.lst k xs)))
   | _ => none
  | false => none
 | v => match keepV keep v with
  | true => some v
  | false => none
def argsK (keep : Nat → Bool) (fz : List Nat) (s : S) : List AV → Option (List AV)
 | [] => some []
 | v :: l => match argK keep fz s v, argsK keep fz s l with
  | some x, some xs => some (x :: xs)
  | _, _ => none
section
variable {P : Program} {E : Env} {ops : Array Oper} {rest : List Oper} {s : S} {K : S → Prop}
variable {c : Nat} {t : List (Nat × AV)} {L : List (Nat × VO)} {G : Nat → Option VO} {d ty : Nat} {pos : String} {af : Array Edge} {tab : Tab}
variable {keep : Nat → Bool} {fz : List Nat}
theorem mutbK {h : Hd} {b : Nat} (hb : mutb (gh (h0K keep h) (hideK keep fz h)) b) : mutb h b := by
 obtain ⟨i, v, e, hv⟩ := hb
 rcases ghK_psi e with ⟨n, rfl, h1⟩ | ⟨_, h1, _⟩
 ·unfold h0K at h1
  split at h1
  ·exact ⟨_, _, h1, hv⟩
  ·cases h1
 ·exact ⟨_, _, h1, hv⟩
theorem idK {h : Hd} {i : Id} {cc : Nat} (hi : ∃ n, i = .g n ∧ keep n = true) (ho : okId c h i) : okId cc (gh (h0K keep h) (hideK keep fz h)) i ∧ ∀ u, gh (h0K keep h) (hideK keep fz h) i = some u → h i = some u := by
 obtain ⟨n, rfl, hk⟩ := hi
 have e : gh (h0K keep h) (hideK keep fz h) (.g n) = h (.g n) := by simp [gh, h0K, hk]
 exact ⟨by show _ ≠ none; rw [e]; exact ho, fun u hu => by rw [← e]; exact hu⟩
theorem Sim.argK {h : Hd} {w : World} {a : Act} (H : Sim E h w a s) {v r : AV} (hv : argK keep fz s v = some r) {x : Value} (hx : RV s.c h w v x) : RV 0 (gh (h0K keep h) (hideK keep fz h)) w r x := by
 unfold V.argK at hv
 split at hv
 ·rename_i n
  split at hv
  ·rename_i hf
   split at hv
   ·rename_i e k xs ho
    cases hv
    obtain ⟨v, h1, h2, h3, h4⟩ := H.obj (.l n) _ ho
    have := hx.2.2 _ h1
    subst this
    rcases h2.2 with ⟨e1, e2⟩ | ⟨g, cap, cur, e1, _, hg, hc, _⟩
    ·exact .inl ⟨List.eq_nil_of_length_eq_zero e2, none, 0, e1⟩
    ·subst e1
     refine .inr ⟨g, 0, cap, rfl, hc, (Array.getElem?_eq_some_iff.1 hg).1, ?_, h3, ?_⟩
     ·rintro ⟨i, u, e2, hb⟩
      rcases ghK_psi e2 with ⟨m, rfl, h5⟩ | ⟨_, h5, _, h6⟩
      ·unfold h0K at h5
       split at h5
       ·have := H.inj _ (.l n) u _ g h5 h1 hb rfl; cases this
       ·cases h5
      ·have e3 := H.inj _ (.l n) u _ g h5 h1 hb rfl
       rw [h6 n e3] at hf; cases hf
     ·intro j u hu
      have := h2.cells (g := g) rfl j u hu
      have hadd : (⟨g, 0, none⟩ : Addr).add j = ⟨g, 0 + j, none⟩ := by unfold Addr.add; split <;> simp_all
      rw [hadd] at this; exact this
   ·cases hv
  ·cases hv
 ·split at hv
  ·rename_i hk
   cases hv
   exact hx.tri (.inr fun b hb => mutbK hb) fun i hi ho => idK (keepV_says hk hi) ho
  ·cases hv
theorem Sim.argsK {h : Hd} {w : World} {a : Act} (H : Sim E h w a s) : ∀ (l r : List AV) (vs : List Value), argsK keep fz s l = some r → RVs s.c h w l vs → RVs 0 (gh (h0K keep h) (hideK keep fz h)) w r vs
 | [], r, vs, hl, hr => by cases hl; exact ⟨hr.1, fun j x v h => by simp at h⟩
 | v :: l, r, vs, hl, hr => by
  unfold V.argsK at hl
  split at hl
  ·rename_i x xs h1 h2
   cases hl
   obtain ⟨g1, g2⟩ := hr
   cases vs with
   | nil => cases g1
   | cons u us =>
    have ih := Sim.argsK H l xs us h2 ⟨by simpa using g1, fun j x v hx hv => g2 (j + 1) x v (by simpa using hx) (by simpa using hv)⟩
    refine ⟨by simp [ih.1], fun j y z hy hz => ?_⟩
    cases j with
    | zero => simp at hy hz; subst hy; subst hz; exact H.argK h1 (g2 0 v _ rfl rfl)
    | succ j => exact ih.2 j y z (by simpa using hy) (by simpa using hz)
  ·cases hl
theorem Sim.sgK {h : Hd} {w : World} {a : Act} (H : Sim E h w a s) (hcl : ∀ n o, keep n = true → s.G n = some o → ∀ m, o.says (.g m) → keep m = true) : SG (h0K keep h) (hideK keep fz h) w (GK keep s.G) := by
 have gl : ∀ n o, GK keep s.G n = some o → keep n = true ∧ s.G n = some o := fun n o e => by
  unfold GK at e
  split at e
  ·rename_i hk; exact ⟨hk, e⟩
  ·cases e
 have hh : ∀ n v, h0K keep h n = some v → keep n = true ∧ h (.g n) = some v := fun n o e => by
  unfold h0K at e
  split at e
  ·rename_i hk; exact ⟨hk, e⟩
  ·cases e
 refine ⟨fun n o e => ?_, fun n v e => ?_, ?_, ?_, fun n o e => H.gl n o (gl n o e).2⟩
 ·obtain ⟨hk, e1⟩ := gl n o e
  obtain ⟨v, h1, h2⟩ := H.obj (.g n) o e1
  refine ⟨v, by simp [h0K, hk, h1], h2.tri (.inr fun b hb => mutbK hb) fun i hi ho => idK ?_ ho⟩
  cases i with
  | l m => exact absurd hi (H.gl n o e1 m)
  | g m => exact ⟨m, rfl, hcl n o hk e1 m hi⟩
  | x m => exact ho.elim
 ·obtain ⟨hk, e1⟩ := hh n v e
  rcases H.dom (.g n) v e1 with ⟨o, h1⟩ | ⟨b, e⟩
  ·exact ⟨o, by simp only [GK, hk, if_true]; exact h1⟩
  ·cases e
 ·intro i j hi hj b e1 e2 b1 b2
  rcases ghK_psi e1 with ⟨n, rfl, h1⟩ | ⟨⟨q, rfl⟩, h1, h2, _⟩ <;> rcases ghK_psi e2 with ⟨m, rfl, h3⟩ | ⟨⟨q', rfl⟩, h3, h4, _⟩
  ·exact H.inj _ _ hi hj b (hh _ _ h1).2 (hh _ _ h3).2 b1 b2
  ·have := H.inj _ _ hi hj b (hh _ _ h1).2 h3 b1 b2
   have h5 := h4 n this.symm
   rw [(hh _ _ h1).1] at h5; cases h5
  ·have := H.inj _ _ hi hj b h1 (hh _ _ h3).2 b1 b2
   have h5 := h2 m this
   rw [(hh _ _ h3).1] at h5; cases h5
  ·exact congrArg Id.x (psi_inj (H.inj _ _ hi hj b h1 h3 b1 b2))
 ·intro i v b e hb
  rcases ghK_psi e with ⟨n, rfl, h1⟩ | ⟨_, h1, _⟩
  ·exact (H.own _ v b (hh _ _ h1).2 hb).1
  ·exact (H.own _ v b h1 hb).1
def hK' (keep : Nat → Bool) (h1 : Nat → Option Value) (h : Hd) : Hd
 | .g n => if keep n then h1 n else h (.g n)
 | i => h i
theorem Sim.calledK {h : Hd} {w w' : World} {a : Act} {c : Nat} {t : List (Nat × AV)} {L : List (Nat × VO)} {G G' : Nat → Option VO} (H : Sim E h w a ⟨c, t, L, G⟩) (hcl : ∀ n o, keep n = true → G n = some o → ∀ m, o.says (.g m) → keep m = true) {h1 : Nat → Option Value} (hg : SG h1 (hideK keep fz h) w' G') (hk : ∀ n, keep n = false → G' n = none)
  (hp : fz = [] ∨ ∀ n o, G' n = some o → plO o = true) (hold : ∀ n hd, h0K keep h n = some hd → h1 n = some hd)
  (hnew : ∀ n hd b, h1 n = some hd → blk hd = some b → h0K keep h n = some hd ∨ w.heap.size ≤ b) (hfr : ∀ b, b < w.heap.size → (∀ n hd, h0K keep h n = some hd → blk hd ≠ some b) → w'.heap[b]? = w.heap[b]?)
  (hsz : w.heap.size ≤ w'.heap.size) (hos : w'.os = w.os) (htape : w'.tape = w.tape) (hout : w'.output = w.output) :
  Sim E (hK' keep h1 h) w' a ⟨c, t, L, GM keep G' G⟩ := by
 have hh : ∀ n v, h0K keep h n = some v → keep n = true ∧ h (.g n) = some v := fun n o e => by
  unfold h0K at e
  split at e
  ·rename_i hk; exact ⟨hk, e⟩
  ·cases e
 have hk1 : ∀ n v, h1 n = some v → keep n = true := fun n v e => by
  obtain ⟨o, ho⟩ := hg.dom n v e
  cases e2 : keep n with
  | true => rfl
  | false => rw [hk n e2] at ho; cases ho
 have eg : ∀ n, keep n = true → hK' keep h1 h (.g n) = h1 n := fun n e => by simp [hK', e]
 have en : ∀ n, keep n = false → hK' keep h1 h (.g n) = h (.g n) := fun n e => by simp [hK', e]
 have up : ∀ n v, h (.g n) = some v → hK' keep h1 h (.g n) = some v := fun n v e => by
  cases e2 : keep n with
  | true => rw [eg n e2]; exact hold n v (by simp [h0K, e2, e])
  | false => rw [en n e2]; exact e
 have dn : ∀ i v b, hK' keep h1 h i = some v → blk v = some b → h i = some v ∨ (w.heap.size ≤ b ∧ ∃ n, i = .g n ∧ keep n = true ∧ h1 n = some v) := by
  intro i v b e hb
  cases i with
  | l n => exact .inl e
  | x n => exact .inl e
  | g n =>
   cases e2 : keep n with
   | true =>
    rw [eg n e2] at e
    rcases hnew n v b e hb with h2 | h2
    ·exact .inl (hh _ _ h2).2
    ·exact .inr ⟨h2, n, rfl, e2, e⟩
   | false => rw [en n e2] at e; exact .inl e
 have st : Stp c h w c (hK' keep h1 h) w' (fun _ => False) := by
  refine ⟨Nat.le_refl _, fun n hn => ?_, fun i hi _ v e => ?_, hsz, fun b hlt hm => ⟨hfr b hlt fun n v e hb => hm ⟨.g n, v, (hh _ _ e).2, hb⟩, ?_⟩⟩
  ·cases e : h (.g n) with
   | none => exact absurd e hn
   | some v => rw [up n v e]; simp
  ·cases i with
   | l n => exact e
   | g n =>
    cases e1 : h (.g n) with
    | none => exact absurd e1 hi
    | some u => rw [up n u e1] at e; exact e
   | x n => exact hi.elim
  ·rintro ⟨i, v, e, hb⟩
   rcases dn i v b e hb with h2 | ⟨h2, _⟩
   ·exact hm ⟨_, _, h2, hb⟩
   ·omega
 have ne : ∀ i v b, (∀ n, i = .g n → keep n = false) → h i = some v → blk v = some b → b < w.heap.size ∧ w'.heap[b]? = w.heap[b]? := fun i v b hi e hb => by
  have hlt := (H.own i v b e hb).1
  refine ⟨hlt, hfr b hlt fun n u e2 hb2 => ?_⟩
  obtain ⟨h3, h4⟩ := hh _ _ e2
  have := hi n (H.inj i (.g n) v u b e h4 hb hb2)
  rw [this] at h3; cases h3
 have mb : fz = [] → ∀ b, mutb (hK' keep h1 h) b → mutb (gh h1 (hideK keep fz h)) b := by
  rintro rfl b ⟨i, v, e, hb⟩
  cases i with
  | l n => exact ⟨.x (3 * n + 1), v, (hideK_l rfl).trans e, hb⟩
  | x n => exact ⟨.x (3 * n), v, hideK_x.trans e, hb⟩
  | g n =>
   cases e2 : keep n with
   | true => rw [eg n e2] at e; exact ⟨.g n, v, e, hb⟩
   | false => rw [en n e2] at e; exact ⟨.x (3 * n + 2), v, (hideK_g e2).trans e, hb⟩
 constructor
 ·intro i o e
  cases i with
  | l n =>
   obtain ⟨v, g1, g2⟩ := H.obj (.l n) o e
   exact ⟨v, g1, g2.step st (fun b hb => (ne (.l n) v b (fun n e => by cases e) g1 hb).2) (fun _ _ h => h)⟩
  | g n =>
   have e : GM keep G' G n = some o := e
   unfold GM at e
   cases e2 : keep n with
   | true =>
    rw [if_pos e2] at e
    obtain ⟨v, g1, g2⟩ := hg.obj n o e
    refine ⟨v, (eg n e2).trans g1, g2.tri (hp.elim (fun hf => .inr (mb hf)) (fun hq => .inl (hq n o e))) fun i hi ho => ?_⟩
    cases i with
    | l m => exact absurd hi (hg.gl n o e m)
    | g m =>
     have ho' : h1 m ≠ none := ho
     obtain ⟨u, hu⟩ := Option.ne_none_iff_exists'.1 ho'
     have := hk1 m u hu
     exact ⟨by show _ ≠ none; rw [eg m this]; exact ho', fun u hu => by rw [eg m this] at hu; exact hu⟩
    | x m => exact ho.elim
   | false =>
    rw [if_neg (by simp [e2])] at e
    obtain ⟨v, g1, g2⟩ := H.obj (.g n) o e
    exact ⟨v, (en n e2).trans g1, g2.step st (fun b hb => (ne (.g n) v b (fun m e => by cases e; exact e2) g1 hb).2) (fun _ _ h => h)⟩
  | x n => cases e
 ·intro i v e
  cases i with
  | l n => exact H.dom (.l n) v e
  | g n =>
   left
   show ∃ o, GM keep G' G n = some o
   unfold GM
   cases e2 : keep n with
   | true => rw [eg n e2] at e; rw [if_pos rfl]; exact hg.dom n v e
   | false =>
    rw [en n e2] at e
    rw [if_neg (by simp)]
    rcases H.dom (.g n) v e with h2 | ⟨b, h2⟩
    ·exact h2
    ·cases h2
  | x n => exact .inr ⟨n, rfl⟩
 ·intro i j hi hj b e1 e2 b1 b2
  rcases dn i hi b e1 b1 with h2 | ⟨h2, n, rfl, hn, h3⟩ <;> rcases dn j hj b e2 b2 with h4 | ⟨h4, m, rfl, hm, h5⟩
  ·exact H.inj i j hi hj b h2 h4 b1 b2
  ·have := (H.own i hi b h2 b1).1; omega
  ·have := (H.own j hj b h4 b2).1; omega
  ·exact hg.inj (.g n) (.g m) hi hj b h3 h5 b1 b2
 ·exact fun n v e => up n v (H.old n v e)
 ·exact H.pri
 ·intro n o e
  have e : GM keep G' G n = some o := e
  unfold GM at e
  split at e
  ·exact hg.gl n o e
  ·exact H.gl n o e
 ·intro i v b e hb
  rcases dn i v b e hb with h2 | ⟨h2, n, rfl, hn, h3⟩
  ·have := H.own i v b h2 hb
   exact ⟨Nat.lt_of_lt_of_le this.1 hsz, this.2⟩
  ·exact ⟨hg.lt (.g n) v b h3 hb, .inr (.inl (Nat.le_trans H.sz h2))⟩
 ·exact H.cl
 ·intro b hlt hno
  rw [hfr b (Nat.lt_of_lt_of_le hlt H.sz)]
  ·exact H.fr b hlt hno
  ·intro n v e hb
   rcases (H.own (.g n) v b (hh _ _ e).2 hb).2 with ⟨m, e1, e2⟩ | e1 | ⟨q, e1⟩
   ·exact hno m v e2 hb
   ·omega
   ·cases e1
 ·exact Nat.le_trans H.sz hsz
 ·exact hos.trans H.os
 ·exact htape.trans H.tape
 ·exact hout.trans H.output
 ·exact H.nt
 ·exact H.dfr
 ·exact fun i v e => (H.tmp i v e).step st (fun _ _ h => h)
theorem VR.callk {fo : Operand} {args : Array Operand} {tys : Array TypeId} {f : FuncId} {caps : List A} {l l' : List AV} (keep : Nat → Bool) (fz : List Nat) (hf : FnOk P f) (hn : Nat.ble (d + 1) E.nt = true) (hfo : ev ⟨c, t, L, G⟩ fo = some (.fn f caps)) (ha : avs ⟨c, t, L, G⟩ args.toList = some l)
  (hl : argsK keep fz ⟨c, t, L, G⟩ (l ++ caps.map AV.a) = some l') (hcl : ∀ n o, keep n = true → G n = some o → ∀ m, o.says (.g m) → keep m = true)
  (hc : VC P f l' (GK keep G) fun r G' => (∀ n, keep n = false → G' n = none) ∧ (fz = [] ∨ (plV r = true ∧ ∀ n o, G' n = some o → plO o = true)) ∧ VR P E ops rest ⟨c, (d, r) :: t, L, GM keep G' G⟩ K) :
  VR P E ops (⟨some d, .call { callee := .value fo, args := args, argTypes := tys }, ty, pos, af, none⟩ :: rest) ⟨c, t, L, G⟩ K := by
 intro h w a H
 refine wpList_plain rfl fun Kc hK => ?_
 obtain ⟨cs, hr, hrun⟩ := run_call (P := P) (d := d) (ty := ty) (pos := pos) (af := af) (args := args) (tys := tys) hf (H.ev hfo)
 unfold Oper.wp
 rw [hrun, Oper.upon_enter]
 have hall : RVs c h w (l ++ caps.map AV.a) (args.map a.eval ++ cs).toList := by
  have h1 := H.avs _ _ ha
  refine ⟨by have := h1.1; have := hr.1; simp at *; omega, fun j x v hx hv => ?_⟩
  simp only [Array.toList_append, Array.toList_map] at hv
  have hlen : l.length = (args.toList.map a.eval).length := h1.1
  rcases Nat.lt_or_ge j l.length with hj | hj
  ·rw [List.getElem?_append_left hj] at hx
   rw [List.getElem?_append_left (by rw [← hlen]; exact hj)] at hv
   exact h1.2 j x v hx hv
  ·rw [List.getElem?_append_right hj] at hx
   rw [List.getElem?_append_right (by rw [← hlen]; exact hj), ← hlen] at hv
   obtain ⟨y, hy, rfl⟩ := map_get _ _ _ _ hx
   exact hr.2 _ y v hy hv
 refine (hc _ _ w _ (H.sgK hcl) (H.argsK _ _ _ hl hall)).mono ?_
 rintro e w' ⟨v, r, G', h1, rfl, ⟨hk, hp, hq⟩, sg, hrv, hold, hnew, hfr, hsz, hos, htape, hout⟩
 have H' := H.calledK hcl sg hk (hp.imp_right (·.2)) hold hnew hfr hsz hos htape hout
 refine hK _ _ (hq _ w' _ (H'.put d (Nat.le_of_ble_eq_true hn) r v ?_))
 have hk1 : ∀ n v, h1 n = some v → keep n = true := fun n v e => by
  obtain ⟨o, ho⟩ := sg.dom n v e
  cases e2 : keep n with
  | true => rfl
  | false => rw [hk n e2] at ho; cases ho
 refine hrv.tri (hp.elim (fun hf => .inr ?_) (fun hq => .inl hq.1)) fun i hi ho => ?_
 ·subst hf
  rintro b ⟨i, v, e, hb⟩
  cases i with
  | l n => exact ⟨.x (3 * n + 1), v, (hideK_l rfl).trans e, hb⟩
  | x n => exact ⟨.x (3 * n), v, hideK_x.trans e, hb⟩
  | g n =>
   cases e2 : keep n with
   | true => exact ⟨.g n, v, (by simpa [hK', e2] using e : h1 n = some v), hb⟩
   | false => exact ⟨.x (3 * n + 2), v, (hideK_g e2).trans (by simpa [hK', e2] using e), hb⟩
 ·cases i with
  | l m => exact absurd ho (Nat.not_lt_zero _)
  | g m =>
   have ho' : h1 m ≠ none := ho
   obtain ⟨u, hu⟩ := Option.ne_none_iff_exists'.1 ho'
   have := hk1 m u hu
   exact ⟨by show (if keep m then h1 m else h (.g m)) ≠ none; rw [if_pos this]; exact ho', fun u hu => by
    have hu : (if keep m then h1 m else h (.g m)) = some u := hu
    rw [if_pos this] at hu; exact hu⟩
  | x m => exact ho.elim
end
end Go.Proofs.YtnpnjhopgedhkaaGreat.V
namespace Go.Proofs.YtnpnjhopgedhkaaGreat.V
open Go.RowKit
universe u
section
variable {P : Program} {E : Env} {ops : Array Oper} {rest : List Oper} {s : S} {K : S → Prop}
variable {c : Nat} {t : List (Nat × AV)} {L : List (Nat × VO)} {G : Nat → Option VO} {d ty : Nat} {pos : String} {af : Array Edge} {tab : Tab}
end
def ltA (c : Nat) : A → Bool
 | .ptr (.l n) _ | .mp (.l n) | .own (.l n) | .oel (.l n) _ _ _ => Nat.blt n c
 | _ => true
def ltV (c : Nat) : AV → Bool
 | .a x => ltA c x
 | .fn _ l | .tup l | .agg l => l.all (ltA c)
 | .may _ _ _ x => ltA c x
def ltO (c : Nat) : VO → Bool
 | .box l => l.all (ltA c)
 | _ => true
theorem ltA_says {c : Nat} {x : A} (h : ltA c x = true) {n : Nat} (hs : x.says (.l n)) : n < c := by
 cases x with
 | ptr j off => simp only [A.says] at hs; subst hs; simpa [ltA] using h
 | mp j => simp only [A.says] at hs; subst hs; simpa [ltA] using h
 | own j => simp only [A.says] at hs; subst hs; simpa [ltA] using h
 | oel j k q off => simp only [A.says] at hs; subst hs; simpa [ltA] using h
 | _ => exact hs.elim
theorem ltV_says {c : Nat} {x : AV} (h : ltV c x = true) {n : Nat} (hs : x.says (.l n)) : n < c := by
 have hl : ∀ l : List A, l.all (ltA c) = true → (∃ x ∈ l, A.says x (.l n)) → n < c := fun l h ⟨x, hx, hs⟩ => ltA_says (List.all_eq_true.1 h x hx) hs
 cases x with
 | a x => exact ltA_says h hs
 | fn f l => exact hl l h hs
 | tup l => exact hl l h hs
 | agg l => exact hl l h hs
 | may j wt q x => exact ltA_says h hs.2
theorem ltO_says {c : Nat} {x : VO} (h : ltO c x = true) {n : Nat} (hs : x.says (.l n)) : n < c := by
 cases x with
 | box l => obtain ⟨x, hx, hs⟩ := hs; exact ltA_says (List.all_eq_true.1 h x hx) hs
 | _ => exact hs.elim
def subL (L' L : List (Nat × VO)) : Prop := match L' with
 | [] => True
 | p :: r => lk L p.1 = some p.2 ∧ subL r L
theorem subL_lk : ∀ {L' L : List (Nat × VO)}, subL L' L → ∀ n o, lk L' n = some o → lk L n = some o
 | [], _, _, n, o, h => by cases h
 | (m, u) :: r, L, h, n, o, e => by
  unfold lk at e
  split at e
  ·rename_i e1; cases e; subst e1; exact h.1
  ·exact subL_lk h.2 n o e
def okF (c : Nat) (t : List (Nat × AV)) (L : List (Nat × VO)) : Bool := (t.all fun p => ltV c p.2) && (L.all fun p => ltO c p.2 && Nat.blt p.1 c)
section
variable {P : Program} {E : Env} {fn : Func} {R : Ending → World → Prop} {k k' : List Item}
theorem VJ.forget {c c' : Nat} {t t' : List (Nat × AV)} {L L' : List (Nat × VO)} {G : Nat → Option VO} (hc : Nat.ble c' c = true) (ht : sub t' t) (hL : subL L' L) (ho : okF c' t' L' = true) (H : VJ P E fn R k ⟨c', t', L', G⟩) : VJ P E fn R k ⟨c, t, L, G⟩ := by
 intro h w a b cs S0 hf hk
 have hL := subL_lk hL
 simp only [okF, Bool.and_eq_true, List.all_eq_true, Nat.blt_eq] at ho
 obtain ⟨o1, o2⟩ := ho
 have hlo : ∀ n o, lk L' n = some o → ltO c' o = true ∧ n < c' := fun n o e => o2 (n, o) (lk_mem _ _ _ e)
 let h' : Hd := fun i => match i with | .l n => if (lk L' n).isSome then h (.l n) else none | i => h i
 have dn : ∀ i u, h' i = some u → h i = some u := by
  intro i u e
  cases i with
  | l n =>
   have e : (if (lk L' n).isSome then h (.l n) else none) = some u := e
   split at e
   ·exact e
   ·cases e
  | g n => exact e
  | x n => exact e
 have hm : ∀ b, mutb h' b → mutb h b := fun b ⟨i, u, e, hb⟩ => ⟨i, u, dn i u e, hb⟩
 have hid : ∀ i, (∀ n, i = .l n → n < c') → okId c h i → okId c' h' i ∧ ∀ u, h' i = some u → h i = some u := by
  intro i hi hok
  refine ⟨?_, dn i⟩
  cases i with
  | l n => exact hi n rfl
  | g n => exact hok
  | x n => exact hok
 refine H h' w a b cs ⟨?_, ?_, ?_, ?_, ?_, ?_, ?_, ?_, S0.fr, S0.sz, S0.os, S0.tape, S0.output, S0.nt, S0.dfr, ?_⟩ hf hk
 ·intro i o e
  cases i with
  | l n =>
   have e : lk L' n = some o := e
   obtain ⟨hd, h1, h2⟩ := S0.obj (.l n) o (hL n o e)
   refine ⟨hd, ?_, h2.tri (.inr hm) fun i hi => hid i fun m em => ltO_says (hlo n o e).1 (em ▸ hi)⟩
   show (if (lk L' n).isSome then h (.l n) else none) = some hd
   rw [e]; exact h1
  | g n =>
   obtain ⟨hd, h1, h2⟩ := S0.obj (.g n) o e
   exact ⟨hd, h1, h2.tri (.inr hm) fun i hi => hid i fun m em => absurd (em ▸ hi) (S0.gl n o e m)⟩
  | x n => cases e
 ·intro i u e
  cases i with
  | l n =>
   have e : (if (lk L' n).isSome then h (.l n) else none) = some u := e
   split at e
   ·rename_i hs
    exact .inl (Option.isSome_iff_exists.1 hs)
   ·cases e
  | g n => exact S0.dom (.g n) u e
  | x n => exact .inr ⟨n, rfl⟩
 ·exact fun i j hi hj b e1 e2 => S0.inj i j hi hj b (dn _ _ e1) (dn _ _ e2)
 ·exact fun n hd e => S0.old n hd e
 ·exact S0.pri
 ·exact S0.gl
 ·exact fun i hd b e => S0.own i hd b (dn _ _ e)
 ·exact fun n o e => (hlo n o e).2
 ·intro i v e
  have e1 := ht (i, v) (lk_mem _ _ _ e)
  exact (S0.tmp i v e1).tri (.inr hm) fun j hj => hid j fun n en => ltV_says (o1 (i, v) (lk_mem _ _ _ e)) (en ▸ hj)
theorem VJ.rec {α : Type u} (I : α → S) (m : α → Nat) (Pp : α → Prop) (a0 : α) (hp : Pp a0) {x : Code}
  (h : ∀ a, Pp a → (∀ b, Pp b → m b < m a → VJ P E fn R (.inLoop x :: k) (I b)) → VJ P E fn R (.code x :: .inLoop x :: k) (I a)) : VJ P E fn R (.code (.loop x) :: k) (I a0) := by
 have : ∀ n a, m a = n → Pp a → VJ P E fn R (.code x :: .inLoop x :: k) (I a) := by
  intro n
  induction n using Nat.strongRecOn with
  | _ n ih =>
   intro a hn ha
   exact h a ha fun b hb hlt => VJ.inLoop (ih (m b) (hn ▸ hlt) b rfl hb)
 exact VJ.loop (this _ a0 rfl hp)
end
abbrev vI (n : Int) : AV := .a (.d (.v (.int .i64 n)))
abbrev vB (b : Bool) : AV := .a (.d (.v (.bool b)))
abbrev vV (x : Value) : AV := .a (.d (.v x))
abbrev vL (k : Nat) (xs : List Value) : AV := .a (.d (.lst k xs))
abbrev Gl := Nat → Option VO
abbrev Po := AV → (Nat → Option VO) → Prop
theorem VC.of_calls {P : Program} {f : FuncId} {vals : List Value} {v : Value} {G : Nat → Option VO} {Q : AV → (Nat → Option VO) → Prop} (H : ∀ w, Calls P f vals.toArray w fun e w' => e = .returned v ∧ Below w.heap.size w w') (hQ : Q (vV v) G) : VC P f (vals.map vV) G Q := by
 intro h0 x0 w vs sg hv
 have hvs : vs = vals.toArray := by
  apply Array.ext'
  rw [List.toList_toArray]
  apply List.ext_getElem?
  intro j
  obtain ⟨h1, h2⟩ := hv
  simp only [List.length_map] at h1
  rcases Nat.lt_or_ge j vals.length with hj | hj
  ·have e1 : vals[j]? = some vals[j] := List.getElem?_eq_getElem hj
   have hj2 : j < vs.toList.length := by rw [← h1]; exact hj
   have e2 : vs.toList[j]? = some vs.toList[j] := List.getElem?_eq_getElem hj2
   have := h2 j (vV vals[j]) _ (by rw [List.getElem?_map, e1]; rfl) e2
   have e3 : vs.toList[j] = vals[j] := this
   rw [e1, e2, e3]
  ·rw [List.getElem?_eq_none hj, List.getElem?_eq_none (by rw [← h1]; exact hj)]
 subst hvs
 refine (H w).mono ?_
 rintro e w' ⟨rfl, hb⟩
 have st : Stp 0 (gh h0 x0) w 0 (gh h0 x0) w' (fun _ => False) := ⟨Nat.le_refl _, fun _ h => h, fun _ _ _ _ h => h, hb.size, fun b hlt hm => ⟨hb.block b hlt, hm⟩⟩
 refine ⟨v, vV v, G, h0, rfl, hQ, ⟨fun n o e => ?_, sg.dom, sg.inj, fun i hd b e hb' => Nat.lt_of_lt_of_le (sg.lt i hd b e hb') hb.size, sg.gl⟩, rfl, fun _ _ h => h, fun n hd b h _ => .inl h, fun b hlt _ => hb.block b hlt, hb.size, hb.os, hb.tape, hb.output⟩
 obtain ⟨hd, h1, h2⟩ := sg.obj n o e
 exact ⟨hd, h1, h2.step st (fun b hb' => hb.block b (sg.lt (.g n) hd b h1 hb')) (fun _ _ h => h)⟩
def gov (l : List (Nat × VO)) (G : Nat → Option VO) : Nat → Option VO := fun n => match lk l n with
 | some o => some o
 | none => G n
def govOk (G : Nat → Option VO) : List (Nat × VO) → Prop
 | [] => True
 | p :: l => G p.1 = some p.2 ∧ govOk G l
theorem gov_self {l : List (Nat × VO)} {G : Nat → Option VO} (h : govOk G l) : G = gov l G := by
 funext n
 unfold gov
 induction l with
 | nil => rfl
 | cons p l ih =>
  obtain ⟨m, o⟩ := p
  simp only [lk]
  split
  ·rename_i o' e
   split at e
   ·rename_i e1; cases e; subst e1; exact h.1
   ·have := ih h.2; rw [e] at this; exact this
  ·rfl
end Go.Proofs.YtnpnjhopgedhkaaGreat.V
namespace Go.Proofs.YtnpnjhopgedhkaaGreat.V
open Go.RowKit
universe u
section
variable {P : Program} {E : Env} {ops : Array Oper} {rest : List Oper} {s : S} {K : S → Prop}
variable {c : Nat} {t : List (Nat × AV)} {L : List (Nat × VO)} {G : Nat → Option VO} {d ty : Nat} {pos : String} {af : Array Edge} {tab : Tab}
def nilA (s : S) : A → Option Bool
 | .d (.v (.pointer o)) => some o.isNone
 | .ptr i _ => match s.obj i with
  | some (.box _) => some false
  | _ => none
 | .el _ _ _ _ => some false
 | _ => none
theorem Sim.nilA {h : Hd} {w : World} {a : Act} (H : Sim E h w a s) {p : A} {b : Bool} (hp : nilA s p = some b) {x : Value} (hx : RA s.c h w p x) : ∃ o, x = .pointer o ∧ o.isNone = b := by
 unfold V.nilA at hp
 split at hp
 ·rename_i o; cases hp; exact ⟨o, hx, rfl⟩
 ·split at hp
  ·rename_i i off _ cells ho
   cases hp
   obtain ⟨hd, h1, b, cs, T, h2, _⟩ := H.obj _ _ ho
   obtain ⟨b', _, e⟩ := hx.2.2 _ h1
   exact ⟨_, e, rfl⟩
  ·cases hp
 ·cases hp; obtain ⟨b, o, e, _⟩ := hx; exact ⟨_, e, rfl⟩
 ·cases hp
theorem VR.eqNil {T Ty : TypeId} {x y : Operand} {p : A} {b : Bool} (hn : Nat.ble (d + 1) E.nt = true) (hx : eva ⟨c, t, L, G⟩ x = some p) (hp : V.nilA ⟨c, t, L, G⟩ p = some b) (hy : fl ⟨c, t, L, G⟩ y = some (.pointer none)) (hT : P.underlying T = some (.pointer (P.pointee T)))
  (k : VR P E ops rest ⟨c, (d, .a (.d (.v (.bool b)))) :: t, L, G⟩ K) : VR P E ops (⟨some d, .binOp .eql T x y Ty, ty, pos, af, none⟩ :: rest) ⟨c, t, L, G⟩ K := by
 refine VR.val rfl rfl (Nat.le_of_ble_eq_true hn) (.a (.d (.v (.bool b)))) (fun h w a H => ⟨.bool b, ?_, rfl⟩) k
 obtain ⟨o, e, ho⟩ := H.nilA hp (H.eva hx)
 have h1 : (eqGuard .eql T x y (.pointer o) (.pointer none)).run P w = .ok () w := by unfold eqGuard; rfl
 have h2 := run_eql_pointer_nil (P := P) w T o hT
 subst ho
 simp only [execOp, e, H.fl hy, Sem.run_bind, h1, Result.andThen_ok, h2]
 rfl
theorem VR.neNil {T Ty : TypeId} {x y : Operand} {p : A} {b : Bool} (hn : Nat.ble (d + 1) E.nt = true) (hx : eva ⟨c, t, L, G⟩ x = some p) (hp : V.nilA ⟨c, t, L, G⟩ p = some b) (hy : fl ⟨c, t, L, G⟩ y = some (.pointer none)) (hT : P.underlying T = some (.pointer (P.pointee T)))
  (k : VR P E ops rest ⟨c, (d, .a (.d (.v (.bool (!b))))) :: t, L, G⟩ K) : VR P E ops (⟨some d, .binOp .neq T x y Ty, ty, pos, af, none⟩ :: rest) ⟨c, t, L, G⟩ K := by
 refine VR.val rfl rfl (Nat.le_of_ble_eq_true hn) (.a (.d (.v (.bool (!b))))) (fun h w a H => ⟨.bool (!b), ?_, rfl⟩) k
 obtain ⟨o, e, ho⟩ := H.nilA hp (H.eva hx)
 have h1 : (eqGuard .neq T x y (.pointer o) (.pointer none)).run P w = .ok () w := by unfold eqGuard; rfl
 have h2 : (binOp .neq T (.pointer o) (.pointer none)).run P w = .ok (.bool (!o.isNone)) w := by
  have := run_equal_pointer_nil (P := P) w T o hT
  simp only [binOp, Sem.run_bind, this, Result.andThen_ok]
  rfl
 subst ho
 simp only [execOp, e, H.fl hy, Sem.run_bind, h1, Result.andThen_ok, h2]
 rfl
end
def subT (t' t : List (Nat × AV)) : Prop := match t' with
 | [] => True
 | p :: r => lk t p.1 = some p.2 ∧ subT r t
theorem subT_sub : ∀ {t' t : List (Nat × AV)}, subT t' t → sub t' t
 | [], _, _, p, h => by cases h
 | q :: r, t, h, p, hp => by
  rcases List.mem_cons.1 hp with e | e
  ·rw [e]; exact h.1
  ·exact subT_sub h.2 p e
theorem glA_ltA {c : Nat} {l : List A} (h : l.all glA = true) : l.all (ltA c) = true := by
 rw [List.all_eq_true] at h ⊢
 intro x hx
 have := h x hx
 cases x with
 | ptr i off => cases i <;> first | rfl | cases this
 | mp i => cases i <;> first | rfl | cases this
 | own i => cases i <;> first | rfl | cases this
 | oel i _ _ _ => cases i <;> first | rfl | cases this
 | _ => rfl
theorem kill_gl {n : Nat} {l : List A} (h : l.all glA = true) : l.map (A.kill (.l n)) = l := by
 rw [List.all_eq_true] at h
 refine (List.map_congr_left fun x hx => ?_).trans (List.map_id l)
 have := h x hx
 cases x with
 | ptr i off => cases i <;> first | (cases this; done) | simp [A.kill]
 | mp i => cases i <;> first | (cases this; done) | simp [A.kill]
 | own i => cases i <;> first | (cases this; done) | simp [A.kill]
 | oel i _ _ _ => cases i <;> first | (cases this; done) | simp [A.kill]
 | _ => rfl
section
variable {P : Program} {E : Env} {fn : Func} {R : Ending → World → Prop} {k k' : List Item}
theorem VJ.to {c : Nat} {t : List (Nat × AV)} {L : List (Nat × VO)} {G : Nat → Option VO} (c' : Nat) (t' : List (Nat × AV)) (L' : List (Nat × VO)) (H : VJ P E fn R k ⟨c', t', L', G⟩) (hc : Nat.ble c' c = true) (ht : subT t' t) (hL : subL L' L) (ho : okF c' t' L' = true) : VJ P E fn R k ⟨c, t, L, G⟩ :=
 VJ.forget hc (subT_sub ht) hL ho H
end
theorem foldl_set (off : Nat) : ∀ (l : List Value) (j0 : Nat) (cs : Array Value), off + j0 + l.length ≤ cs.size →
  ((l.zipIdx j0).foldl (fun cs (p : Value × Nat) => cs.setIfInBounds (off + p.2) p.1) cs).toList = cs.toList.take (off + j0) ++ l ++ cs.toList.drop (off + j0 + l.length)
 | [], j0, cs, h => by simp
 | x :: l, j0, cs, h => by
  simp only [List.length_cons] at h
  have ih := foldl_set off l (j0 + 1) (cs.setIfInBounds (off + j0) x) (by simp; omega)
  simp only [List.zipIdx_cons, List.foldl_cons]
  rw [ih]
  have hlt : off + j0 < cs.toList.length := by simp; omega
  have e1 : (cs.setIfInBounds (off + j0) x).toList = cs.toList.set (off + j0) x := by simp
  rw [e1]
  have e2 : (cs.toList.set (off + j0) x).take (off + (j0 + 1)) = cs.toList.take (off + j0) ++ [x] := by
   rw [show off + (j0 + 1) = (off + j0) + 1 by omega, List.take_add_one, List.take_set_of_le (Nat.le_refl _)]
   simp at hlt
   simp [hlt]
  have e3 : (cs.toList.set (off + j0) x).drop (off + (j0 + 1) + l.length) = cs.toList.drop (off + j0 + (l.length + 1)) := by
   rw [List.drop_set_of_lt (by omega)]
   congr 1
   omega
  rw [e2, e3]
  simp
theorem fill_row (k : Nat) : ∀ (xs : List Value) (s : Nat) (cells : Array Value), (∀ x ∈ xs, x.cells.size = k) → cells.size = (s + xs.length) * k →
  ∃ r, Instr.fill (fun i => some (i * k, k)) cells ((xs.zipIdx s).map fun p => (p.2, p.1)) = some r ∧ r.toList = cells.toList.take (s * k) ++ cellsL xs
 | [], s, cells, _, hc => ⟨cells, rfl, by simp [cellsL]; rw [List.take_of_length_le]; simp [hc]⟩
 | x :: xs, s, cells, hx, hc => by
  have h1 := hx x (by simp)
  simp only [List.length_cons] at hc
  have e0 : (s + (xs.length + 1)) * k = s * k + k + xs.length * k := by rw [Nat.add_mul, Nat.add_mul, Nat.one_mul]; omega
  have hfit : s * k + x.cells.size ≤ cells.size := by rw [h1, hc, e0]; omega
  let cs' := x.cells.zipIdx.foldl (fun cs (p : Value × Nat) => cs.setIfInBounds (s * k + p.2) p.1) cells
  have hcs : cs'.toList = cells.toList.take (s * k) ++ x.cells.toList ++ cells.toList.drop (s * k + k) := by
   have := foldl_set (s * k) x.cells.toList 0 cells (by simpa using hfit)
   simp only [Nat.add_zero] at this
   rw [show x.cells.toList.length = k by simpa using h1] at this
   rw [← this, ← Array.toList_zipIdx, Array.foldl_toList]
  have hsz : cs'.size = cells.size := by
   have := congrArg List.length hcs
   simp at this
   rw [this, h1]
   omega
  obtain ⟨r, h2, h3⟩ := fill_row k xs (s + 1) cs' (fun y hy => hx y (List.mem_cons_of_mem _ hy)) (by rw [hsz, hc]; congr 1; omega)
  refine ⟨r, ?_, ?_⟩
  ·simp only [List.zipIdx_cons, List.map_cons, Instr.fill]
   rw [if_neg (by simp [h1]; rw [hc, e0]; omega)]
   exact h2
  ·rw [h3, hcs]
   have e1 : (s + 1) * k = s * k + k := by rw [Nat.add_mul, Nat.one_mul]
   rw [e1]
   have e2 : (cells.toList.take (s * k) ++ x.cells.toList).length = s * k + k := by
    simp [h1]
    rw [hc, e0]; omega
   rw [List.take_append_of_le_length (by rw [e2]; exact Nat.le_refl _), List.take_of_length_le (by rw [e2]; exact Nat.le_refl _)]
   simp [cellsL]
section
variable {P : Program} {E : Env} {ops : Array Oper} {rest : List Oper} {s : S} {K : S → Prop}
variable {c : Nat} {t : List (Nat × AV)} {L : List (Nat × VO)} {G : Nat → Option VO} {d ty : Nat} {pos : String} {af : Array Edge} {tab : Tab}
theorem VR.buildRow {T e : TypeId} {ti te : TI} {len : Nat} {ps : Array (Nat × Operand)} {vs : List (Nat × Value)} (xs : List Value) (hT : Tab.Ok P tab) (hn : Nat.ble (d + 1) E.nt = true) (hti : lk tab T = some ti) (he : ti.slc = some e) (hte : lk tab e = some te)
  (hv : flps ⟨c, t, L, G⟩ ps.toList = some vs) (hx : vs = (xs.zipIdx 0).map fun p => (p.2, p.1)) (hsz : Nat.ble 1 te.size = true) (hlen : xs.length = len) (hle : Nat.ble (len * te.size) 1000 = true) (hzs : te.zero.cells.size = te.size)
  (hall : (xs.all fun y => y.cells.size == te.size) = true)
  (k : VR P E ops rest ⟨c + 1, (d, .a (.own (.l c))) :: t, (c, .row e te.size xs) :: L, G⟩ K) :
  VR P E ops (⟨some d, .buildSlice T len ps, ty, pos, af, none⟩ :: rest) ⟨c, t, L, G⟩ K := by
 have hxs : ∀ y ∈ xs, y.cells.size = te.size := fun y hy => by simpa using List.all_eq_true.1 hall y hy
 obtain ⟨r, h1, h2⟩ := fill_row te.size xs 0 ((Array.range (len * te.size)).map (fun i => (if len * te.size = 0 then #[] else te.zero.cells)[i % (if len * te.size = 0 then #[] else te.zero.cells).size]!)) hxs (by simp [hlen])
 refine VR.buildSlice (xs := xs) (r := r) hT hn hti he hte hv ?_ hsz hlen hle (by rw [hx]; exact h1) (by simpa using h2) hall k
 rw [hx, List.map_map]
 have : ((fun (p : Nat × Value) => p.2) ∘ fun (p : Value × Nat) => (p.2, p.1)) = Prod.fst := rfl
 rw [this, List.zipIdx_map_fst]
end
end Go.Proofs.YtnpnjhopgedhkaaGreat.V
namespace Go.Proofs.YtnpnjhopgedhkaaGreat.V
open Go.RowKit
universe u
def srcOf (l : List Oper) (j r : Nat) : Option (Option Nat) := match maker l 0 r with
 | none => some none
 | some i => match waits l j i with
  | true => some (some i)
  | false => match waits l i j with
   | true => some none
   | false => none
abbrev TT := List (List (Nat × Option Nat))
def ttOf (l : List Oper) (j : Nat) : List Nat → List (Nat × Option Nat)
 | [] => []
 | r :: rs => match srcOf l j r with
  | some s => (r, s) :: ttOf l j rs
  | none => ttOf l j rs
def ttl2 (vs : List AV) (t0 : List (Nat × AV)) : List (Nat × Option Nat) → List (Nat × AV)
 | [] => []
 | (r, none) :: rs => match lk t0 r with
  | some v => (r, v) :: ttl2 vs t0 rs
  | none => ttl2 vs t0 rs
 | (r, some i) :: rs => match vs[i]? with
  | some v => (r, v) :: ttl2 vs t0 rs
  | none => ttl2 vs t0 rs
theorem ttl_eq (l : List Oper) (vs : List AV) (t0 : List (Nat × AV)) (j : Nat) : ∀ rs, ttl l vs t0 j rs = ttl2 vs t0 (ttOf l j rs)
 | [] => rfl
 | r :: rs => by
  have ih := ttl_eq l vs t0 j rs
  have e : opv l vs t0 j r = match srcOf l j r with
   | none => none
   | some none => lk t0 r
   | some (some i) => vs[i]? := by
   unfold opv srcOf
   cases maker l 0 r with
   | none => rfl
   | some i =>
    simp only
    cases waits l j i with
    | true => rfl
    | false => simp only; cases waits l i j <;> rfl
  simp only [ttl, ttOf, e]
  cases srcOf l j r with
  | none => exact ih
  | some s =>
   cases s with
   | none => simp only [ttl2]; cases lk t0 r <;> simp only [ih]
   | some i => simp only [ttl2]; cases vs[i]? <;> simp only [ih]
def ttOk (l : List Oper) (tt : TT) : Bool := (List.range l.length).all fun j => match l[j]?, tt[j]? with
 | some o, some x => x == ttOf l j (tmpsG l o)
 | _, _ => false
def hop2 (P : Program) (E : Env) (l : List Oper) (e2 : List Nat) (vs : List AV) (hs : List Hp) (t0 : List (Nat × AV)) (tt : TT) (p : Nat × Nat) : Prop :=
 match l[p.1]?, vs[p.1]?, tt[p.1]?, hs[p.2]?, hs[if e2.contains p.1 then p.2 + 1 else p.2]? with
 | some o, some v, some q, some x, some y => ∀ (rest : List (Nat × AV)) (K1 : S → Prop),
   K1 ⟨y.c, (match o.dst with | some d => (d, v) :: (ttl2 vs t0 q ++ rest) | none => ttl2 vs t0 q ++ rest), y.L, y.G⟩ →
   VR P E l.toArray [o] ⟨x.c, ttl2 vs t0 q ++ rest, x.L, x.G⟩ K1
 | _, _, _, _, _ => True
def hops2 (P : Program) (E : Env) (l : List Oper) (e2 : List Nat) (vs : List AV) (hs : List Hp) (t0 : List (Nat × AV)) (tt : TT) : List (Nat × Nat) → Prop
 | [] => True
 | p :: ps => hop2 P E l e2 vs hs t0 tt p ∧ hops2 P E l e2 vs hs t0 tt ps
theorem hop_of {P : Program} {E : Env} {l : List Oper} {e2 : List Nat} {vs : List AV} {hs : List Hp} {t0 : List (Nat × AV)} {tt : TT} (hok : ttOk l tt = true) (p : Nat × Nat) (h : hop2 P E l e2 vs hs t0 tt p) : hop P E l e2 vs hs t0 p := by
 unfold hop
 unfold hop2 at h
 cases e1 : l[p.1]? with
 | none => trivial
 | some o =>
  cases e2' : vs[p.1]? with
  | none => trivial
  | some v =>
   have hlt : p.1 < l.length := (List.getElem?_eq_some_iff.1 e1).1
   have := List.all_eq_true.1 hok p.1 (List.mem_range.2 hlt)
   rw [e1] at this
   cases e3 : tt[p.1]? with
   | none => rw [e3] at this; cases this
   | some q =>
    rw [e3] at this
    have hq : q = ttOf l p.1 (tmpsG l o) := by simpa using this
    rw [e1, e2', e3] at h
    split at h
    ·rename_i o' v' q' x y h1 h2 h3 h4 h5
     cases h1; cases h2; cases h3
     rw [h4, h5]
     simp only [ttl_eq, ← hq]
     exact h
    ·rename_i hno
     cases e4 : hs[p.2]? with
     | none => trivial
     | some x =>
      cases e5 : hs[if e2.contains p.1 then p.2 + 1 else p.2]? with
      | none => simp only
      | some y => exact (hno o v q x y rfl rfl rfl e4 e5).elim
theorem hops_of {P : Program} {E : Env} {l : List Oper} {e2 : List Nat} {vs : List AV} {hs : List Hp} {t0 : List (Nat × AV)} {tt : TT} (hok : ttOk l tt = true) : ∀ (ps : List (Nat × Nat)), hops2 P E l e2 vs hs t0 tt ps → hops P E l e2 vs hs t0 ps
 | [], _ => trivial
 | p :: ps, h => ⟨hop_of hok p h.1, hops_of hok ps h.2⟩
theorem VJ.draw2 {P : Program} {E : Env} {fn : Func} {R : Ending → World → Prop} {k : List Item} {id : Nat} {l : List Oper} {c : Nat} {t0 : List (Nat × AV)} {L : List (Nat × VO)} {G : Nat → Option VO} (e2 : List Nat) (ps : List (Nat × Nat)) (tt : TT) (vs : List AV) (hs : List Hp) (hm : P.follows .mixedOrders = true)
  (hok : (drawOk l e2 ps vs.length hs.length && ttOk l tt) = true) (hh : hops2 P E l e2 vs hs t0 tt ps) (h0 : hs[0]? = some ⟨c, L, G⟩) {y : Hp} (hy : hs[e2.length]? = some y) (hj : VJ P E fn R k ⟨y.c, tla l vs t0, y.L, y.G⟩) :
  VJ P E fn R (.code (.region id l.toArray true) :: k) ⟨c, t0, L, G⟩ := by
 rw [Bool.and_eq_true] at hok
 exact VJ.draw e2 ps vs hs hm hok.1 (hops_of hok.2 ps hh) h0 hy hj
def noGA : A → Bool
 | .ptr (.g _) _ | .mp (.g _) | .own (.g _) | .oel (.g _) _ _ _ => false
 | _ => true
def noG : AV → Bool
 | .a x => noGA x
 | .fn _ l | .tup l | .agg l => l.all noGA
 | .may .. => false
theorem noGA_says {x : A} (h : noGA x = true) (m : Nat) : ¬ x.says (.g m) := by
 intro hs
 cases x with
 | ptr j off => simp only [A.says] at hs; subst hs; cases h
 | mp j => simp only [A.says] at hs; subst hs; cases h
 | own j => simp only [A.says] at hs; subst hs; cases h
 | oel j k q off => simp only [A.says] at hs; subst hs; cases h
 | _ => exact hs
theorem noG_says {x : AV} (h : noG x = true) (m : Nat) : ¬ x.says (.g m) := by
 have hl : ∀ l : List A, l.all noGA = true → ¬ ∃ x ∈ l, A.says x (.g m) := fun l h ⟨x, hx, hs⟩ => noGA_says (List.all_eq_true.1 h x hx) m hs
 cases x with
 | a x => exact noGA_says h m
 | fn f l => exact hl l h
 | tup l => exact hl l h
 | agg l => exact hl l h
 | may j wt q x => cases h
section
variable {P : Program} {E : Env} {fn : Func} {R : Ending → World → Prop} {k k' : List Item} {s : S}
theorem VJ.retF {tab : Tab} {Q : AV → (Nat → Option VO) → Prop} {l : List AV} {r : AV} {G0 : Nat → Option VO} (hT : Tab.Ok P tab) (hl : evs tab s fn.results.toList = some l) (hs : res l = some r)
  (hG0 : (∀ n, G0 n = none → E.h0 n = none) ∧ ∀ n o, G0 n = some o → ∀ m, o.says (.g m) → G0 m ≠ none) (hk1 : ∀ n o, G0 n = some o → s.G n = some o) (hr : noG r = true) (hq : Q r G0) :
  VJ P E fn (Post E.W0 E.h0 E.x0 Q) (.code .ret :: k) s :=
 VJ.retG G0 hT hl hs hk1 hG0.1 hG0.2 (fun m h => absurd h (noG_says hr m)) hq
end
def Free (a b : Nat) (G : Nat → Option VO) : Prop := ∀ m, a ≤ m → m < b → G m = none
theorem Free.ne {a b : Nat} {G : Nat → Option VO} (h : Free a b G) {m : Nat} {o : VO} (e : G m = some o) : ∀ n, a ≤ n → n < b → m ≠ n := by
 rintro n h1 h2 rfl
 rw [h m h1 h2] at e; cases e
theorem Free.sub {a b a' b' : Nat} {G : Nat → Option VO} (h : Free a b G) (h1 : a ≤ a') (h2 : b' ≤ b) : Free a' b' G := fun m g1 g2 => h m (Nat.le_trans h1 g1) (Nat.lt_of_lt_of_le g2 h2)
section
variable {P : Program} {E : Env} {fn : Func} {R : Ending → World → Prop} {k k' : List Item} {s : S}
theorem VJ.retX {tab : Tab} {Q : AV → (Nat → Option VO) → Prop} {l : List AV} {r : AV} {G0 : Nat → Option VO} (Gk : Nat → Option VO) (hT : Tab.Ok P tab) (hl : evs tab s fn.results.toList = some l) (hs : res l = some r)
  (hG0 : (∀ n, G0 n = none → E.h0 n = none) ∧ ∀ n o, G0 n = some o → ∀ m, o.says (.g m) → G0 m ≠ none) (hsub : ∀ n, G0 n ≠ none → Gk n ≠ none) (hnew : ∀ n o, Gk n = some o → G0 n = some o ∨ ∀ m, o.says (.g m) → Gk m ≠ none)
  (hk1 : ∀ n o, Gk n = some o → s.G n = some o) (hr : ∀ m, r.says (.g m) → Gk m ≠ none) (hq : Q r Gk) :
  VJ P E fn (Post E.W0 E.h0 E.x0 Q) (.code .ret :: k) s := by
 refine VJ.retG Gk hT hl hs hk1 (fun n e => hG0.1 n ?_) (fun n o ho m hm => ?_) hr hq
 ·cases e2 : G0 n with
  | none => rfl
  | some o => exact absurd e (hsub n (by rw [e2]; simp))
 ·rcases hnew n o ho with h1 | h1
  ·exact hsub m (hG0.2 n o h1 m hm)
  ·exact h1 m hm
theorem VJ.unpin {κ ν : Type} [DecidableEq κ] {mk : κ → Value} {mv : ν → Value} {l : List (κ × ν)} {z : Option (Nat × Obj)} {c : Nat} {t : List (Nat × AV)} {L : List (Nat × VO)} {G : Nat → Option VO} (i : Id) (ho : S.obj ⟨c, t, L, G⟩ i = some (.map mk mv l z)) (H : VJ P E fn R k (S.set ⟨c, t, L, G⟩ i (.map mk mv l none))) : VJ P E fn R k ⟨c, t, L, G⟩ := by
 intro h w a b cs S0 hf hk
 obtain ⟨hd, h1, b0, rfl, h2, h3⟩ := S0.obj i _ ho
 exact H h w a b cs (S0.set i _ _ _ ho h1 rfl rfl rfl rfl (fun _ _ => rfl) (fun n e q hs => hs) ⟨b0, rfl, h2, fun q e => by cases e⟩) hf hk
theorem VJ.toG {c : Nat} {t : List (Nat × AV)} {L : List (Nat × VO)} {G : Nat → Option VO} (c' : Nat) (t' : List (Nat × AV)) (L' : List (Nat × VO)) (G' : Nat → Option VO) (H : VJ P E fn R k ⟨c', t', L', G'⟩) (hc : Nat.ble c' c = true) (ht : subT t' t) (hL : subL L' L) (ho : okF c' t' L' = true) (hG : ∀ n, G n = G' n) : VJ P E fn R k ⟨c, t, L, G⟩ := by
 have : G = G' := funext hG
 subst this
 exact VJ.to c' t' L' H hc ht hL ho
end
def gset (G : Nat → Option VO) (g : Nat) (o : VO) : Nat → Option VO := fun n => if n = g then some o else G n
theorem elA_lst {s : S} {k j : Nat} {xs : List Value} {u : Value} (h : xs[j]? = some u) : elA s k j (.d (.lst k xs)) = some (.el k xs j 0) := by
 have := (List.getElem?_eq_some_iff.1 h).1
 simp [elA, this]
theorem elA_own {s : S} {k j e : Nat} {xs : List Value} {u : Value} {i : Id} (ho : s.obj i = some (.row e k xs)) (h : xs[j]? = some u) : elA s k j (.own i) = some (.oel i k j 0) := by
 have := (List.getElem?_eq_some_iff.1 h).1
 simp [elA, ho, this]
theorem place_el {s : S} {k j off : Nat} {xs : List Value} {u : Value} (h : xs[j]? = some u) : place s (.el k xs j off) = some ((u.cells.toList.map fun c => A.d (.v c)).drop off) := by
 simp [place, h]
def ldE (agg : Bool) (n off : Nat) (u : Value) : Option AV := match off with
 | 0 => match agg with
  | true => match u with
   | .agg cs => if cs.size = n then some (.a (.d (.v u))) else ldv true n (cs.toList.map fun c => A.d (.v c))
   | _ => none
  | false => match u with
   | .agg cs => ldv false n (cs.toList.map fun c => A.d (.v c))
   | .tuple _ => none
   | _ => some (.a (.d (.v u)))
 | off + 1 => ldv agg n ((u.cells.toList.map fun c => A.d (.v c)).drop (off + 1))
theorem ldp_el {s : S} {k j off n : Nat} {agg : Bool} {xs : List Value} {u : Value} (h : xs[j]? = some u) : ldp s agg n (.el k xs j off) = ldE agg n off u := by
 simp only [ldp, h]
 cases off with
 | zero => cases agg <;> cases u <;> rfl
 | succ off => rfl
theorem vI_succ {j : Nat} (h : j < 4611686018427387904) : some (AV.a (.d (.v (.int .i64 (IntKind.i64.wrap ((j : Int) + 1)))))) = some (vI ((j + 1 : Nat) : Int)) := by
 rw [Go.IntWalk.i64_in _ (by omega)]; rfl
section
variable {P : Program} {E : Env} {fn : Func} {R : Ending → World → Prop} {k k' : List Item}
theorem VJ.pin {κ ν : Type} [DecidableEq κ] {mk : κ → Value} {mv : ν → Value} {l : List (κ × ν)} {z : Option (Nat × Obj)} {c : Nat} {t : List (Nat × AV)} {L : List (Nat × VO)} {G : Nat → Option VO} (i : Id) (ho : S.obj ⟨c, t, L, G⟩ i = some (.map mk mv l z)) (H : ∀ zz, VJ P E fn R k (S.set ⟨c, t, L, G⟩ i (.map mk mv l (some zz)))) : VJ P E fn R k ⟨c, t, L, G⟩ := by
 intro h w a b cs S0 hf hk
 obtain ⟨hd, h1, b0, rfl, h2, h3⟩ := S0.obj i _ ho
 obtain ⟨m, hm⟩ : ∃ m, w.heap[b0]? = some m := by obtain ⟨_, _, e, _⟩ := h2; exact ⟨_, e⟩
 exact H (b0, m) h w a b cs (S0.set i _ _ _ ho h1 rfl rfl rfl rfl (fun _ _ => rfl) (fun n e q hs => hs) ⟨b0, rfl, h2, fun q e => by cases e; exact ⟨rfl, hm⟩⟩) hf hk
end
end Go.Proofs.YtnpnjhopgedhkaaGreat.V
namespace Go.Proofs.YtnpnjhopgedhkaaGreat.V
open Go.RowKit Go.ChangeMaps Go.MapKept
universe u
section
variable {P : Program} {kt : TypeId} {κ : Type} [DecidableEq κ] {mk : κ → Value} {ν : Type} {mv : ν → Value}
def stampOf (M : Obj) (l : List (κ × ν)) (x : κ) : Nat := match M with
 | .map es clock => match Mp.at? l x 0 with
  | some p => ((es[p.1]?).map (·.born)).getD 0
  | none => clock
 | _ => 0
def entM (mk : κ → Value) (M : Obj) (l : List (κ × ν)) (x : κ) (v0 : Value) : Obj := match M with
 | .map es clock => match Mp.at? l x 0 with
  | some p => .map (es.modify p.1 fun e => { e with key := mk x }) clock
  | none => .map (es.push { key := mk x, val := v0, born := clock }) (clock + 1)
 | o => o
theorem at?_get? : ∀ (l : List (κ × ν)) (x : κ) (i : Nat) (p : Nat × ν), Mp.at? l x i = some p → i ≤ p.1 ∧ l[p.1 - i]? = some (x, p.2)
 | [], _, _, _, h => by cases h
 | q :: l, x, i, p, h => by
  unfold Mp.at? at h
  split at h
  ·rename_i e; cases h; simp [e]
  ·obtain ⟨h1, h2⟩ := at?_get? l x (i + 1) p h
   refine ⟨by omega, ?_⟩
   rw [show p.1 - i = (p.1 - (i + 1)) + 1 by omega]
   simpa using h2
theorem Is.entry {t e : TypeId} {w : World} {b : Nat} {l : List (κ × ν)} {M : Obj} (h : Mp.Is mk mv w b l) (hM : w.heap[b]? = some M) (K : Mp.Key P kt mk) (ht : P.underlying t = some (.map kt e)) {zv : ν} (hz : (zeroValue e).run P w = .ok (mv zv) w) (x : κ) :
  (Instr.mapEntry t (.map (some b)) (mk x)).run P w = .ok (.tuple #[mv ((Mp.get l x).getD zv), .int .i64 (stampOf M l x)]) (setBlock w b (entM mk M l x (mv zv))) ∧
   Mp.Is mk mv (setBlock w b (entM mk M l x (mv zv))) b (Mp.put l x ((Mp.get l x).getD zv)) ∧ w.mapTurned (setBlock w b (entM mk M l x (mv zv))) b := by
 obtain ⟨es, clock, hb, he, hc, hn, hk⟩ := h
 rw [hb] at hM; cases hM
 have hf := K.find w mv x es.toList l he
 have hg := Mp.at?_get l x 0
 cases ha : Mp.at? l x 0 with
 | none =>
  rw [ha] at hf hg
  have hg' : Mp.get l x = none := hg.symm
  have e1 : entM mk (.map es clock) l x (mv zv) = .map (es.push { key := mk x, val := mv zv, born := clock }) (clock + 1) := by simp [entM, ha]
  have e2 : stampOf (.map es clock) l x = clock := by simp [stampOf, ha]
  rw [e1, e2, hg']
  refine ⟨?_, ⟨_, _, heap_setBlock_same hb _, ?_, ?_, ?_, Mp.nodup_put hk x _⟩, ⟨es, clock, _, _, hb, rfl⟩⟩
  ·simp [Instr.mapEntry, run_underlying ht, MapKept.run_getObj_map hb, K.check, hf, MapKept.run_setObj_map _ hb, setBlock, hz, goInt]
  ·rw [Mp.put_none hg']; simp [he]
  ·intro y hy; simp at hy; rcases hy with hy | rfl
   ·have := hc y (by simpa using hy); omega
   ·simp
  ·simp only [Array.toList_push, List.map_append, List.map_cons, List.map_nil, List.nodup_append]
   refine ⟨hn, by simp, ?_⟩
   intro a ha2 b' hb2
   simp at hb2; subst hb2
   obtain ⟨y, hy, rfl⟩ := List.mem_map.1 ha2
   have := hc y hy; omega
 | some p =>
  rw [ha] at hf hg
  have hg' : Mp.get l x = some p.2 := hg.symm
  obtain ⟨r1, r2, r3, r4, r5⟩ := Mp.mods x p.2 (mk x) es.toList l 0 p he ha
  simp only [Nat.sub_zero] at r2 r3 r4 r5
  have hlp := (at?_get? l x 0 p ha).2
  simp only [Nat.sub_zero] at hlp
  have hpl : p.1 < es.size := by simpa using r2
  have hval : es[p.1].val = mv p.2 := by
   have := congrArg (fun z => z[p.1]?) he
   simp only [List.getElem?_map, hlp, Option.map_some] at this
   rw [Array.getElem?_toList, Array.getElem?_eq_getElem hpl] at this
   simp at this; exact this.2
  have hmod : (es.modify p.1 fun e => { e with key := mk x }) = es.modify p.1 fun e => { e with key := mk x, val := mv p.2 } := by
   apply Array.ext
   ·simp
   ·intro i h1 h2
    simp only [Array.getElem_modify]
    split
    ·rename_i e3; subst e3; simp [hval]
    ·rfl
  have e1 : entM mk (.map es clock) l x (mv zv) = .map (es.modify p.1 fun e => { e with key := mk x, val := mv p.2 }) clock := by simp only [entM, ha, hmod]
  have e2 : stampOf (.map es clock) l x = es[p.1].born := by simp [stampOf, ha, hpl]
  have hm : (es.modify p.1 fun e => { e with key := mk x, val := mv p.2 }).toList = es.toList.modify p.1 fun e => { e with key := mk x, val := mv p.2 } := by simp
  have hborn : (es.toList.modify p.1 fun e => { e with key := mk x, val := mv p.2 }).map (·.born) = es.toList.map (·.born) := by
   apply List.ext_getElem
   ·simp
   ·intro i h1 h2
    simp [List.getElem_modify]; split <;> rfl
  rw [e1, e2, hg']
  refine ⟨?_, ⟨_, _, heap_setBlock_same hb _, ?_, ?_, ?_, Mp.nodup_put hk x _⟩, ⟨es, clock, _, _, hb, rfl⟩⟩
  ·have r3' : (es[p.1]?.map (·.key)).getD (mk x) = mk x := by simpa using r3
   have hborn1 : (es[p.1]?.map (·.born)).getD 0 = es[p.1].born := by simp [hpl]
   simp [Instr.mapEntry, run_underlying ht, MapKept.run_getObj_map hb, K.check, hf, r3', K.stays, MapKept.run_setObj_map _ hb, setBlock, goInt, hmod]
   simp [hpl]
  ·rw [hm]; exact r4
  ·rw [hm]; intro y hy
   have : y.born ∈ es.toList.map (·.born) := hborn ▸ List.mem_map.2 ⟨y, hy, rfl⟩
   obtain ⟨z, hz, e⟩ := List.mem_map.1 this
   rw [← e]; exact hc z hz
  ·rw [hm, hborn]; exact hn
end
section
variable {P : Program} {E : Env} {ops : Array Oper} {rest : List Oper} {s : S} {K : S → Prop}
variable {c : Nat} {t : List (Nat × AV)} {L : List (Nat × VO)} {G : Nat → Option VO} {d ty : Nat} {pos : String} {af : Array Edge} {tab : Tab}
variable {κ ν : Type} [DecidableEq κ] {mk : κ → Value} {mv : ν → Value} {l : List (κ × ν)} {zz : Nat × Obj}
end
theorem VJ.via {P : Program} {E : Env} {fn : Func} {R : Ending → World → Prop} {i : Item} {k : List Item} {s : S} (s' : S) (h1 : VJ P E fn R k s' → VJ P E fn R (i :: k) s) (h2 : VJ P E fn R k s') : VJ P E fn R (i :: k) s := h1 h2
end Go.Proofs.YtnpnjhopgedhkaaGreat.V
namespace Go.Proofs.YtnpnjhopgedhkaaGreat.V
open Go.RowKit
universe u
section
variable {P : Program} {E : Env} {ops : Array Oper} {rest : List Oper} {s : S} {K : S → Prop}
variable {c : Nat} {t : List (Nat × AV)} {L : List (Nat × VO)} {G : Nat → Option VO} {d ty : Nat} {pos : String} {af : Array Edge} {tab : Tab}
theorem VR.indexArr {T : TypeId} {te : TI} {n e0 : Nat} {x y : Operand} {p q : A} {cs : List A} {kd : IntKind} {i : Int} {j : Nat} (hT : Tab.Ok P tab) (hn : Nat.ble (d + 1) E.nt = true) (hu : P.underlying T = some (.array n e0)) (hte : lk tab e0 = some te)
  (hx : eva ⟨c, t, L, G⟩ x = some p) (hp : place ⟨c, t, L, G⟩ p = some cs) (hy : fl ⟨c, t, L, G⟩ y = some (.int kd i)) (hi : i = (j : Int)) (hj : j < n) (hq : fld (j * te.size) p = some q)
  (k : VR P E ops rest ⟨c, (d, .a q) :: t, L, G⟩ K) :
  VR P E ops (⟨some d, .indexAddr T x y, ty, pos, af, none⟩ :: rest) ⟨c, t, L, G⟩ K := by
 refine VR.val rfl rfl (Nat.le_of_ble_eq_true hn) (.a q) (fun h w a H => ?_) k
 have hr := H.eva hx
 have hyv := H.fl hy
 subst hi
 obtain ⟨b, o, h1, h2⟩ := H.place hp hr
 have hadd : (⟨b, o, none⟩ : Addr).add (j * te.size) = ⟨b, o + j * te.size, none⟩ := by unfold Addr.add; split <;> simp_all
 have hz := (hT e0 te hte).run_size w
 refine ⟨.pointer (some ⟨b, o + j * te.size, none⟩), ?_, ?_⟩
 ·simp [execOp, h1, hyv, Instr.indexAt, asIntOf, run_underlying hu, Instr.sureAddr, hj, hz, hadd]
 ·rw [h1] at hr
  cases p with
  | ptr i' o' =>
   cases hq
   refine ⟨hr.1, rfl, fun hd hh => ?_⟩
   obtain ⟨b', e1, e2⟩ := hr.2.2 hd hh
   cases e2
   exact ⟨_, e1, rfl⟩
  | el k' xs j o' =>
   cases hq
   obtain ⟨b', o2, e1, e2⟩ := hr
   cases e1
   exact ⟨b, o2, by simp [Nat.add_assoc], e2⟩
  | oel i' k' j o' =>
   cases hq
   refine ⟨hr.1, rfl, fun hd hh => ?_⟩
   obtain ⟨b', n', cap, e1, e2⟩ := hr.2.2 hd hh
   cases e2
   exact ⟨_, _, _, e1, by simp [Nat.add_assoc]⟩
  | _ => cases hq
def bldA (ti : TI) (sz : Nat) (ps : List (Nat × Value)) : Option (Array Value) := Instr.fill (fun i => some (i * sz, sz)) ti.zero.cells ps
theorem VR.buildArr {T : TypeId} {ti te : TI} {n e0 : Nat} {ps : Array (Nat × Operand)} {vs : List (Nat × Value)} {r : Array Value} (hT : Tab.Ok P tab) (hn : Nat.ble (d + 1) E.nt = true) (hu : P.underlying T = some (.array n e0)) (hti : lk tab T = some ti) (hte : lk tab e0 = some te) (hv : flps ⟨c, t, L, G⟩ ps.toList = some vs)
  (hr : bldA ti te.size vs = some r) (k : VR P E ops rest ⟨c, (d, .a (.d (.v (.agg r)))) :: t, L, G⟩ K) :
  VR P E ops (⟨some d, .build T ps, ty, pos, af, none⟩ :: rest) ⟨c, t, L, G⟩ K := by
 refine VR.val rfl rfl (Nat.le_of_ble_eq_true hn) (.a (.d (.v (.agg r)))) (fun h w a H => ⟨.agg r, ?_, rfl⟩) k
 have h3 := H.flps _ _ hv
 have hz := (hT T ti hti).run_zero w
 have hs := (hT e0 te hte).run_size w
 have hps : (ps.map fun (i, x) => (i, a.eval x)).toList = vs := by rw [Array.toList_map]; exact h3
 unfold bldA at hr
 simp only [execOp, Instr.build, Sem.run_bind, hz, Result.andThen_ok, run_underlying hu, hs, hps, hr]
 rfl
theorem div_run {op : BinOp} {k : IntKind} {a b : Int} {r : Value} (hb : b ≠ 0) (h : (match op with | .quo => some (Value.int k (k.wrap (a.tdiv b))) | .rem => some (Value.int k (a.tmod b)) | _ => none) = some r) (T : TypeId) (x y : Operand) (w : World) :
  (do eqGuard op T x y (.int k a) (.int k b); binOp op T (.int k a) (.int k b) : Sem Value).run P w = .ok r w := by
 have hg : (eqGuard op T x y (.int k a) (.int k b)).run P w = .ok () w := by
  unfold eqGuard
  split <;> rfl
 rw [Sem.run_bind, hg]
 cases op <;> simp only [Option.some.injEq, reduceCtorEq] at h <;> subst h <;> simp [binOp, Op.intDiv, hb]
theorem VR.div {op : BinOp} {T Ty : TypeId} {x y : Operand} {kd : IntKind} {p q : Int} {r : Value} (hn : Nat.ble (d + 1) E.nt = true) (hx : fl ⟨c, t, L, G⟩ x = some (.int kd p)) (hy : fl ⟨c, t, L, G⟩ y = some (.int kd q)) (hq : q ≠ 0)
  (hr : (match op with | .quo => some (Value.int kd (kd.wrap (p.tdiv q))) | .rem => some (Value.int kd (p.tmod q)) | _ => none) = some r)
  (k : VR P E ops rest ⟨c, (d, .a (.d (.v r))) :: t, L, G⟩ K) : VR P E ops (⟨some d, .binOp op T x y Ty, ty, pos, af, none⟩ :: rest) ⟨c, t, L, G⟩ K :=
 VR.bin hn hx hy (div_run hq hr T x y) k
end
def nilTo : List (Option Nat) → List AV → List AV
 | some k :: ks, .a (.d (.v (.slice none 0 0))) :: l => .a (.d (.lst k [])) :: nilTo ks l
 | _ :: ks, x :: l => x :: nilTo ks l
 | _, l => l
theorem nilTo_spec {c : Nat} {h : Hd} {w : World} : ∀ (ks : List (Option Nat)) (l : List AV) (vs : List Value), RVs c h w l vs → RVs c h w (nilTo ks l) vs := by
 intro ks l
 induction l generalizing ks with
 | nil => intro vs h; cases ks with
  | nil => exact h
  | cons k ks => cases k <;> exact h
 | cons x l ih =>
  intro vs hv
  cases vs with
  | nil => have := hv.1; simp at this
  | cons v vs =>
   have htl : RVs c h w l vs := ⟨by have := hv.1; simpa using this, fun j x v h1 h2 => hv.2 (j + 1) x v (by simpa using h1) (by simpa using h2)⟩
   have hhd := hv.2 0 x v rfl rfl
   have put : ∀ (y : AV) (ks : List (Option Nat)), RV c h w y v → RVs c h w (y :: nilTo ks l) (v :: vs) := by
    intro y ks hy
    have := ih ks vs htl
    refine ⟨by simp [this.1], fun j x v' h1 h2 => ?_⟩
    cases j with
    | zero => simp at h1 h2; subst h1; subst h2; exact hy
    | succ j => exact this.2 j x v' (by simpa using h1) (by simpa using h2)
   unfold nilTo
   split
   ·rename_i k ks' l' e
    cases e
    exact put _ _ (.inl ⟨rfl, none, 0, hhd⟩)
   ·rename_i e
    cases e
    exact put _ _ hhd
   ·exact hv
theorem VC.nils {P : Program} {f : FuncId} {args : List AV} {G : Nat → Option VO} {Q : AV → (Nat → Option VO) → Prop} (ks : List (Option Nat)) (h : VC P f (nilTo ks args) G Q) : VC P f args G Q :=
 fun h0 x0 w vs h1 h2 => h h0 x0 w vs h1 (nilTo_spec ks args _ h2)
theorem VC.calls {P : Program} {f : FuncId} {args : List AV} {v : Value} {w : World} {vs : Array Value} (H : VC P f args (fun _ => none) fun r _ => r = .a (.d (.v v))) (ha : RVs 0 (fun _ => none) w args vs.toList) :
  Calls P f vs w fun e w' => e = .returned v ∧ Below w.heap.size w w' := by
 have hgh : gh (fun _ => none) (fun _ => none) = fun _ => none := by funext i; cases i <;> rfl
 refine (H (fun _ => none) (fun _ => none) w vs ⟨(fun n o e => by cases e), (fun n hd e => by cases e), (fun i j hi hj b e => by rw [hgh] at e; cases e), (fun i hd b e => by rw [hgh] at e; cases e), (fun n o e => by cases e)⟩ (by rw [hgh]; exact ha)).mono ?_
 ·rintro e w' ⟨u, r, G', h1, rfl, rfl, hs, hr, -, -, hfr, hsz, hos, htp, hout⟩
  have : u = v := hr
  subst this
  exact ⟨rfl, ⟨hos, htp, hout, hsz, fun b hb => hfr b hb (fun n hd e => by cases e)⟩⟩
end Go.Proofs.YtnpnjhopgedhkaaGreat.V
namespace Go.Proofs.YtnpnjhopgedhkaaGreat.V
open Go.RowKit
universe u
theorem fill_same (f g : Nat → Option (Nat × Nat)) : ∀ (ps : List (Nat × Value)) (cells : Array Value), (∀ p ∈ ps, f p.1 = g p.1) → Instr.fill f cells ps = Instr.fill g cells ps
 | [], cells, _ => rfl
 | (i, v) :: ps, cells, h => by
  have h0 : f i = g i := h (i, v) (by simp)
  simp only [Instr.fill, h0]
  cases g i with
  | none => rfl
  | some q =>
   simp only []
   split
   ·rfl
   ·exact fill_same f g ps _ fun p hp => h p (List.mem_cons_of_mem _ hp)
theorem cellsL_one : ∀ (us : List Value), (∀ u ∈ us, u.oneCell' = true) → cellsL us = us
 | [], _ => rfl
 | u :: us, h => by
  have h1 := cells_one (h u (by simp))
  have h2 := cellsL_one us fun v hv => h v (List.mem_cons_of_mem _ hv)
  show u.cells.toList ++ cellsL us = u :: us
  rw [h1, h2]; rfl
section
variable {P : Program} {E : Env} {ops : Array Oper} {rest : List Oper} {s : S} {K : S → Prop}
variable {c : Nat} {t : List (Nat × AV)} {L : List (Nat × VO)} {G : Nat → Option VO} {d ty : Nat} {pos : String} {af : Array Edge} {tab : Tab}
theorem VR.buildSt {T : TypeId} {ti : TI} {ps : Array (Nat × Operand)} {xs : List Operand} {l : List A} {n : Nat} (hT : Tab.Ok P tab) (hn : Nat.ble (d + 1) E.nt = true) (hti : lk tab T = some ti) (hfl : ti.flds = (List.range (n + 1)).map fun i => (i, 1)) (hz : ti.zero.cells.size = n + 1)
  (hps : ps.toList = (xs.zipIdx 0).map fun p => (p.2, p.1)) (hln : xs.length = n + 1) (hv : evas ⟨c, t, L, G⟩ xs = some l) (hok : okCells l = true)
  (k : VR P E ops rest ⟨c, (d, .agg l) :: t, L, G⟩ K) :
  VR P E ops (⟨some d, .build T ps, ty, pos, af, none⟩ :: rest) ⟨c, t, L, G⟩ K := by
 refine VR.val rfl rfl (Nat.le_of_ble_eq_true hn) (.agg l) (fun h w a H => ?_) k
 have hne : ti.flds ≠ [] := by rw [hfl]; simp
 obtain ⟨fs, h1, h2⟩ := (hT T ti hti).struct hne
 have hRA := H.evas xs l hv
 have hone := okCells_spec hRA hok
 have hall : ∀ f ∈ fs.toList, (P.info? f.type).isSome = true := by
  intro f hf
  have : (f.offset, P.cellsOf f.type, (P.info? f.type).isSome) ∈ ti.flds.map fun p => (p.1, p.2, true) := by rw [← h2]; exact List.mem_map.2 ⟨f, hf, rfl⟩
  obtain ⟨p, _, e⟩ := List.mem_map.1 this
  exact (congrArg (fun (q : Nat × Nat × Bool) => q.2.2) e).symm
 have hpl : fs.toList.map (fun f => (f.offset, P.cellsOf f.type)) = ti.flds := by
  have := congrArg (fun l => l.map fun (p : Nat × Nat × Bool) => (p.1, p.2.1)) h2
  simpa [Function.comp_def] using this
 have hm : (fs.mapM (fun f => (do pure (f.offset, ← sizeOf f.type) : Sem (Nat × Nat)))).run P w = .ok ti.flds.toArray w := by
  rw [Array.mapM_eq_mapM_toList]
  have := run_mapM_size P w fs.toList hall
  rw [hpl] at this
  show ((List.mapM (fun f => (do pure (f.offset, ← sizeOf f.type) : Sem (Nat × Nat))) fs.toList) >>= fun a => pure a.toArray).run P w = _
  rw [Sem.run_bind, this]
  rfl
 have hzz := (hT T ti hti).run_zero w
 have hpv : (ps.map fun (i, x) => (i, a.eval x)).toList = ((xs.map a.eval).zipIdx 0).map fun p => (p.2, p.1) := by
  rw [Array.toList_map, hps, List.map_map]
  apply List.ext_getElem
  ·simp
  ·intro i h1 h2; simp
 obtain ⟨r, e1, e2⟩ := fill_row 1 (xs.map a.eval) 0 ti.zero.cells (fun x hx => by rw [cells_one (hone x hx)]; rfl) (by simp [hln, hz])
 have hr : Instr.fill (fun i => ti.flds.toArray[i]?) ti.zero.cells (((xs.map a.eval).zipIdx 0).map fun p => (p.2, p.1)) = some r := by
  rw [← e1]
  refine fill_same _ _ _ _ fun p hp => ?_
  obtain ⟨q, hq, rfl⟩ := List.mem_map.1 hp
  have hlt : q.2 < n + 1 := by
   have := List.snd_lt_of_mem_zipIdx hq
   simp [hln] at this
   omega
  simp [hfl, hlt]
 refine ⟨.agg r, ?_, r, rfl, ?_⟩
 ·simp only [execOp, Instr.build, Sem.run_bind, hzz, Result.andThen_ok, run_underlying h1, hm, hpv, hr]
  rfl
 ·rw [e2, cellsL_one _ hone]
  simpa using hRA
end
end Go.Proofs.YtnpnjhopgedhkaaGreat.V
namespace Go.Proofs.YtnpnjhopgedhkaaGreat.V
open Go.RowKit
universe u
def swN (m n i : Nat) : Nat := if i = m then n else if i = n then m else i
def swI (m n : Nat) : Id → Id
 | .l i => .l (swN m n i)
 | .g i => .g i
 | .x i => .x i
theorem swN_swN (m n i : Nat) : swN m n (swN m n i) = i := by
 unfold swN
 split
 ·rename_i h; subst h
  by_cases e : n = i
  ·subst e; simp
  ·simp [e]
 ·rename_i h1
  split
  ·rename_i h2; subst h2; simp
  ·rename_i h2; rfl
theorem swI_swI (m n : Nat) (i : Id) : swI m n (swI m n i) = i := by
 cases i <;> simp [swI, swN_swN]
theorem swI_inj {m n : Nat} {i j : Id} (h : swI m n i = swI m n j) : i = j := by
 rw [← swI_swI m n i, h, swI_swI]
theorem swN_lt {m n i c : Nat} (hm : m < c) (hn : n < c) (hi : i < c) : swN m n i < c := by
 unfold swN; split
 ·exact hn
 ·split
  ·exact hm
  ·exact hi
def A.sw (m n : Nat) : A → A
 | .ptr i o => .ptr (swI m n i) o
 | .mp i => .mp (swI m n i)
 | .own i => .own (swI m n i)
 | .oel i k j o => .oel (swI m n i) k j o
 | .d x => .d x
 | .el k xs j o => .el k xs j o
 | .top => .top
def AV.sw (m n : Nat) : AV → AV
 | .a x => .a (x.sw m n)
 | .fn f l => .fn f (l.map (A.sw m n))
 | .tup l => .tup (l.map (A.sw m n))
 | .agg l => .agg (l.map (A.sw m n))
 | .may j wt q x => .may j wt q (x.sw m n)
def VO.sw (m n : Nat) : VO → VO
 | .box l => .box (l.map (A.sw m n))
 | o => o
def swT (m n : Nat) (t : List (Nat × AV)) : List (Nat × AV) := t.map fun p => (p.1, p.2.sw m n)
def swL (m n : Nat) (l : List (Nat × VO)) : List (Nat × VO) := l.map fun p => (swN m n p.1, p.2.sw m n)
theorem lk_swL (m n : Nat) (l : List (Nat × VO)) (i : Nat) : lk (swL m n l) i = (lk l (swN m n i)).map (VO.sw m n) := by
 induction l with
 | nil => rfl
 | cons p l ih =>
  obtain ⟨j, o⟩ := p
  show (if i = swN m n j then some (o.sw m n) else lk (swL m n l) i) = (if swN m n i = j then some o else lk l (swN m n i)).map _
  by_cases h : i = swN m n j
  ·subst h; rw [if_pos rfl, if_pos (swN_swN m n j)]; rfl
  ·have : ¬ swN m n i = j := fun e => h (by rw [← e, swN_swN])
   rw [if_neg h, if_neg this, ih]
section
variable {m n c : Nat} {h : Hd} {w : World}
abbrev swH (m n : Nat) (h : Hd) : Hd := fun i => h (swI m n i)
theorem mutb_sw (b : Nat) : mutb (swH m n h) b ↔ mutb h b := by
 constructor
 ·rintro ⟨i, hd, e, hb⟩; exact ⟨_, hd, e, hb⟩
 ·rintro ⟨i, hd, e, hb⟩; exact ⟨swI m n i, hd, by show h _ = _; rw [swI_swI]; exact e, hb⟩
theorem Imm.sw {k : Nat} {xs : List Value} {b o : Nat} (H : Imm h w k xs b o) : Imm (swH m n h) w k xs b o := ⟨H.lt, fun e => H.im ((mutb_sw b).1 e), H.sz, H.cell⟩
theorem okId_sw (hm : m < c) (hn : n < c) {i : Id} (hi : okId c h i) : okId c (swH m n h) (swI m n i) := by
 cases i with
 | l i => exact swN_lt hm hn hi
 | g i => exact hi
 | x i => exact hi
theorem swH_sw (i : Id) : swH m n h (swI m n i) = h i := by show h _ = _; rw [swI_swI]
theorem RA.sw (hm : m < c) (hn : n < c) {x : A} {v : Value} (H : RA c h w x v) : RA c (swH m n h) w (x.sw m n) v := by
 cases x with
 | d x =>
  cases x with
  | v x => exact H
  | lst k xs =>
   rcases H with H | ⟨b, o, cap, h1, h2, h3⟩
   ·exact .inl H
   ·exact .inr ⟨b, o, cap, h1, h2, h3.sw⟩
 | ptr i off => exact ⟨okId_sw hm hn H.1, H.2.1, fun hd hh => H.2.2 hd (by rw [← hh]; exact (swH_sw i).symm)⟩
 | mp i => exact ⟨okId_sw hm hn H.1, H.2.1, fun hd hh => H.2.2 hd (by rw [← hh]; exact (swH_sw i).symm)⟩
 | own i => exact ⟨okId_sw hm hn H.1, H.2.1, fun hd hh => H.2.2 hd (by rw [← hh]; exact (swH_sw i).symm)⟩
 | oel i k j off => exact ⟨okId_sw hm hn H.1, H.2.1, fun hd hh => H.2.2 hd (by rw [← hh]; exact (swH_sw i).symm)⟩
 | el k xs j off =>
  obtain ⟨b, o, h1, h2⟩ := H
  exact ⟨b, o, h1, h2.sw⟩
 | top => trivial
theorem RAs.sw (hm : m < c) (hn : n < c) {l : List A} {vs : List Value} (H : RAs c h w l vs) : RAs c (swH m n h) w (l.map (A.sw m n)) vs := by
 refine ⟨by simp [H.1], fun j x v h1 h2 => ?_⟩
 obtain ⟨y, hy, rfl⟩ := map_get _ _ _ _ h1
 exact (H.2 j y v hy h2).sw hm hn
theorem RV.sw (hm : m < c) (hn : n < c) {x : AV} {v : Value} (H : RV c h w x v) : RV c (swH m n h) w (x.sw m n) v := by
 cases x with
 | a x => exact RA.sw hm hn H
 | fn f l => obtain ⟨vs, h1, h2⟩ := H; exact ⟨vs, h1, h2.sw hm hn⟩
 | tup l => obtain ⟨vs, h1, h2⟩ := H; exact ⟨vs, h1, h2.sw hm hn⟩
 | agg l => obtain ⟨vs, h1, h2⟩ := H; exact ⟨vs, h1, h2.sw hm hn⟩
 | may j wt q x => exact ⟨fun hq => RA.sw hm hn (H.1 hq), H.2⟩
theorem OBJ.sw (hm : m < c) (hn : n < c) {hd : Value} {o : VO} (H : OBJ c h w hd o) : OBJ c (swH m n h) w hd (o.sw m n) := by
 cases o with
 | box cells =>
  obtain ⟨b, cs, t, h1, h2, h3⟩ := H
  exact ⟨b, cs, t, h1, h2, h3.sw hm hn⟩
 | row e k xs => exact H
 | map mk mv l z => exact H
 | itr mk mv l left z cur => exact H
end
theorem Sim.sw {E : Env} {h : Hd} {w : World} {a : Act} {c : Nat} {t : List (Nat × AV)} {L : List (Nat × VO)} {G : Nat → Option VO} (H : Sim E h w a ⟨c, t, L, G⟩) (m n : Nat) (hm : m < c) (hn : n < c) :
  Sim E (swH m n h) w a ⟨c, swT m n t, swL m n L, G⟩ where
 obj i o ho := by
  have key : ∀ o', (⟨c, t, L, G⟩ : S).obj (swI m n i) = some o' → o = o'.sw m n → ∃ hd, swH m n h i = some hd ∧ OBJ c (swH m n h) w hd o := by
   rintro o' e rfl
   obtain ⟨hd, h1, h2⟩ := H.obj _ _ e
   exact ⟨hd, h1, h2.sw hm hn⟩
  cases i with
  | l i =>
   have ho : lk (swL m n L) i = some o := ho
   rw [lk_swL] at ho
   cases e : lk L (swN m n i) with
   | none => rw [e] at ho; cases ho
   | some o' => rw [e] at ho; cases ho; exact key o' e rfl
  | g i =>
   have ho : G i = some o := ho
   obtain ⟨hd, h1, h2⟩ := H.obj (.g i) o ho
   have h3 := h2.sw (m := m) (n := n) hm hn
   refine ⟨hd, h1, ?_⟩
   have e : o.sw m n = o := by
    cases o with
    | box l =>
     have hl := H.gl i _ ho
     show VO.box _ = VO.box _
     congr 1
     refine (List.map_congr_left fun x hx => ?_).trans (List.map_id l)
     have hx2 : ∀ q, ¬ x.says (.l q) := fun q hq => hl q ⟨x, hx, hq⟩
     cases x with
     | ptr j off => cases j with
      | l j => exact absurd rfl (hx2 j)
      | g j => rfl
      | x j => rfl
     | mp j => cases j with
      | l j => exact absurd rfl (hx2 j)
      | g j => rfl
      | x j => rfl
     | own j => cases j with
      | l j => exact absurd rfl (hx2 j)
      | g j => rfl
      | x j => rfl
     | oel j _ _ _ => cases j with
      | l j => exact absurd rfl (hx2 j)
      | g j => rfl
      | x j => rfl
     | d _ => rfl
     | el _ _ _ _ => rfl
     | top => rfl
    | _ => rfl
   rw [e] at h3
   exact h3
  | x i => cases ho
 dom i hd hh := by
  rcases H.dom _ _ hh with ⟨o, ho⟩ | ⟨b, e⟩
  ·cases i with
   | l i => exact .inl ⟨o.sw m n, by show lk (swL m n L) i = _; rw [lk_swL, show lk L (swN m n i) = some o from ho]; rfl⟩
   | g i => exact .inl ⟨o, ho⟩
   | x i => exact .inr ⟨i, rfl⟩
  ·cases i with
   | l i => cases e
   | g i => cases e
   | x i => exact .inr ⟨i, rfl⟩
 inj i j hi hj b h1 h2 h3 h4 := swI_inj (H.inj _ _ hi hj b h1 h2 h3 h4)
 old n' hd e := H.old n' hd e
 pri b := H.pri b
 gl := H.gl
 own i hd b h1 h2 := by
  obtain ⟨g1, g2⟩ := H.own _ hd b h1 h2
  refine ⟨g1, ?_⟩
  rcases g2 with ⟨n', e, g3⟩ | g3 | ⟨q, e⟩
  ·refine .inl ⟨n', ?_, g3⟩
   cases i with
   | l i => cases e
   | g i => exact e
   | x i => cases e
  ·exact .inr (.inl g3)
  ·refine .inr (.inr ⟨q, ?_⟩)
   cases i with
   | l i => cases e
   | g i => cases e
   | x i => exact e
 cl n' o ho := by
  have ho : lk (swL m n L) n' = some o := ho
  rw [lk_swL] at ho
  cases e : lk L (swN m n n') with
  | none => rw [e] at ho; cases ho
  | some o' =>
   have := swN_lt hm hn (H.cl _ _ e)
   rw [swN_swN] at this
   exact this
 fr := H.fr
 sz := H.sz
 os := H.os
 tape := H.tape
 output := H.output
 nt := H.nt
 dfr := H.dfr
 tmp i v e := by
  have e : lk (swT m n t) i = some v := e
  rw [show swT m n t = t.map fun p => (p.1, p.2.sw m n) from rfl, lk_map] at e
  cases e2 : lk t i with
  | none => rw [e2] at e; cases e
  | some u => rw [e2] at e; cases e; exact (H.tmp i u e2).sw hm hn
section
variable {P : Program} {E : Env} {fn : Func} {R : Ending → World → Prop} {k : List Item}
theorem VJ.sw {c : Nat} {t : List (Nat × AV)} {L : List (Nat × VO)} {G : Nat → Option VO} (m n : Nat) (hm : Nat.ble (m + 1) c = true) (hn : Nat.ble (n + 1) c = true) (H : VJ P E fn R k ⟨c, swT m n t, swL m n L, G⟩) : VJ P E fn R k ⟨c, t, L, G⟩ :=
 fun h w a b cs S0 hf hk => H (swH m n h) w a b cs (S0.sw m n (Nat.le_of_ble_eq_true hm) (Nat.le_of_ble_eq_true hn)) hf hk
end
section
variable {P : Program} {E : Env} {ops : Array Oper} {rest : List Oper} {s : S} {K : S → Prop}
variable {c : Nat} {t : List (Nat × AV)} {L : List (Nat × VO)} {G : Nat → Option VO} {d ty : Nat} {pos : String} {af : Array Edge} {tab : Tab}
theorem VR.pick_no {b : Bool} {q x y : Operand} {v : AV} (hn : Nat.ble (d + 1) E.nt = true) (hq : fl ⟨c, t, L, G⟩ q = some (.bool b)) (hb : b = false) (hy : ev ⟨c, t, L, G⟩ y = some v)
  (k : VR P E ops rest ⟨c, (d, v) :: t, L, G⟩ K) : VR P E ops (⟨some d, .pick q x y, ty, pos, af, none⟩ :: rest) ⟨c, t, L, G⟩ K := by
 subst hb
 exact VR.pick hn hq hy k
theorem VR.pick_yes {b : Bool} {q x y : Operand} {v : AV} (hn : Nat.ble (d + 1) E.nt = true) (hq : fl ⟨c, t, L, G⟩ q = some (.bool b)) (hb : b = true) (hx : ev ⟨c, t, L, G⟩ x = some v)
  (k : VR P E ops rest ⟨c, (d, v) :: t, L, G⟩ K) : VR P E ops (⟨some d, .pick q x y, ty, pos, af, none⟩ :: rest) ⟨c, t, L, G⟩ K := by
 subst hb
 exact VR.pick hn hq hx k
end
end Go.Proofs.YtnpnjhopgedhkaaGreat.V
namespace Go.Proofs.YtnpnjhopgedhkaaGreat.V
open Go.RowKit Go.ChangeShapes Go.WideShapes Go.Deep
universe u
theorem RVs.nil {c : Nat} {h : Hd} {w : World} : RVs c h w [] [] := ⟨rfl, fun j x v h1 => by simp at h1⟩
theorem RVs.cons {c : Nat} {h : Hd} {w : World} {x : AV} {v : Value} {l : List AV} {vs : List Value} (hx : RV c h w x v) (hl : RVs c h w l vs) : RVs c h w (x :: l) (v :: vs) := by
 refine ⟨by simp [hl.1], fun j y u h1 h2 => ?_⟩
 cases j with
 | zero => simp at h1 h2; subst h1; subst h2; exact hx
 | succ j => exact hl.2 j y u (by simpa using h1) (by simpa using h2)
theorem flat_len (enc : Nat → List Value) (k : Nat) (hk : ∀ i, (enc i).length = k) : ∀ m, ((List.range m).flatMap enc).length = m * k := by
 intro m
 induction m with
 | zero => simp
 | succ m ih => rw [List.range_succ, List.flatMap_append, List.length_append, ih]; simp [hk, Nat.add_mul]
theorem flat_at (enc : Nat → List Value) (k : Nat) (h0 : 0 < k) (hk : ∀ i, (enc i).length = k) : ∀ n t, t < n * k → ((List.range n).flatMap enc)[t]? = (enc (t / k))[t % k]?
 | 0, t, h => by simp at h
 | n + 1, t, h => by
  have hlen := flat_len enc k hk
  rw [List.range_succ, List.flatMap_append]
  rcases Nat.lt_or_ge t (n * k) with h1 | h1
  ·rw [List.getElem?_append_left (by rw [hlen]; exact h1)]
   exact flat_at enc k h0 hk n t h1
  ·rw [List.getElem?_append_right (by rw [hlen]; exact h1), hlen]
   have hr : t - n * k < k := by rw [Nat.add_mul] at h; omega
   have e : t = (t - n * k) + n * k := by omega
   have e1 : t / k = n := by rw [e, Nat.add_mul_div_right _ _ h0, Nat.div_eq_of_lt hr]; omega
   have e2 : t % k = t - n * k := by
    conv => lhs; rw [e]
    rw [Nat.add_mul_mod_self_right, Nat.mod_eq_of_lt hr]
   rw [e1, e2]
   simp
def rowL (k : Nat) (zs : List Int) (i : Nat) : List Value := (List.range k).map fun j => .int .i64 (zs.getD (i * k + j) 0)
theorem none_mutb {b : Nat} : ¬ mutb (fun _ => none) b := by
 rintro ⟨i, hd, e, _⟩; cases e
theorem isl_rows {k : Nat} (h0 : 0 < k) {w : World} {a : Option Addr} {len cap : Nat} {zs : List Int} (H : Flat.IsFlat k w a len cap zs) :
  IsL (fun _ => none) w k ((List.range len).map fun i => .agg (rowL k zs i).toArray) (.slice a len cap) := by
 rcases Nat.eq_zero_or_pos len with rfl | hp
 ·exact .inl ⟨rfl, a, cap, rfl⟩
 ·obtain ⟨b, o, rfl, hb, hc⟩ := Flat.cellsAt H (Nat.mul_pos hp h0)
  have hle : len ≤ cap := by
   rcases H with ⟨e, _⟩ | ⟨x, e, h1, _⟩
   ·cases e
   ·exact h1
  refine .inr ⟨b, o, cap, by simp, by simpa using hle, hb, none_mutb, ?_, ?_⟩
  ·intro x hx
   obtain ⟨i, _, rfl⟩ := List.mem_map.1 hx
   simp [Value.cells, rowL]
  ·intro j c hj
   have e : cellsL ((List.range len).map fun i => Value.agg (rowL k zs i).toArray) = (List.range len).flatMap (rowL k zs) := by
    unfold cellsL
    rw [List.flatMap_map]
    rfl
   rw [e] at hj
   have hlt : j < len * k := by
    have h1 := (List.getElem?_eq_some_iff.1 hj).1
    have : ((List.range len).flatMap (rowL k zs)).length = len * k := flat_len _ k (fun i => by simp [rowL]) len
    omega
   rw [flat_at (rowL k zs) k h0 (fun i => by simp [rowL]) len j hlt] at hj
   have hm := Nat.mod_lt j h0
   have hd := Nat.div_add_mod j k
   rw [Nat.mul_comm] at hd
   rw [rowL, List.getElem?_map, List.getElem?_range hm] at hj
   simp only [Option.map_some, Option.some.injEq, hd] at hj
   subst hj
   exact (hc w (Below.refl _ w) j hlt).1
section
variable {H : Type} {enc : TypeId × Value → H} {P : Program} {w : World} {base : Nat} {spare : Nat → Bool} {held : Bool}
end
end Go.Proofs.YtnpnjhopgedhkaaGreat.V
namespace Go.Proofs.YtnpnjhopgedhkaaGreat.V
open Go.RowKit
universe u
abbrev TS := List (List (Nat × AV))
def hop3 (P : Program) (E : Env) (l : List Oper) (e2 : List Nat) (vs : List AV) (hs : List Hp) (ts : TS) (p : Nat × Nat) : Prop :=
 match l[p.1]?, vs[p.1]?, ts[p.1]?, hs[p.2]?, hs[if e2.contains p.1 then p.2 + 1 else p.2]? with
 | some o, some v, some T, some x, some y => ∀ (rest : List (Nat × AV)) (K1 : S → Prop),
   K1 ⟨y.c, (match o.dst with | some d => (d, v) :: (T ++ rest) | none => T ++ rest), y.L, y.G⟩ →
   VR P E l.toArray [o] ⟨x.c, T ++ rest, x.L, x.G⟩ K1
 | _, _, _, _, _ => True
def hops3 (P : Program) (E : Env) (l : List Oper) (e2 : List Nat) (vs : List AV) (hs : List Hp) (ts : TS) : List (Nat × Nat) → Prop
 | [] => True
 | p :: ps => hop3 P E l e2 vs hs ts p ∧ hops3 P E l e2 vs hs ts ps
theorem hop2_of {P : Program} {E : Env} {l : List Oper} {e2 : List Nat} {vs : List AV} {hs : List Hp} {t0 : List (Nat × AV)} {tt : TT} {ts : TS} (hts : tt.map (ttl2 vs t0) = ts) (p : Nat × Nat) (h : hop3 P E l e2 vs hs ts p) : hop2 P E l e2 vs hs t0 tt p := by
 subst hts
 unfold hop3 at h
 unfold hop2
 rw [List.getElem?_map] at h
 cases e1 : l[p.1]? with
 | none => trivial
 | some o =>
  cases e2' : vs[p.1]? with
  | none => trivial
  | some v =>
   cases e3 : tt[p.1]? with
   | none => trivial
   | some q =>
    rw [e1, e2', e3] at h
    cases e4 : hs[p.2]? with
    | none => trivial
    | some x =>
     cases e5 : hs[if e2.contains p.1 then p.2 + 1 else p.2]? with
     | none => trivial
     | some y =>
      rw [e4, e5] at h
      exact h
theorem hops2_of {P : Program} {E : Env} {l : List Oper} {e2 : List Nat} {vs : List AV} {hs : List Hp} {t0 : List (Nat × AV)} {tt : TT} {ts : TS} (hts : tt.map (ttl2 vs t0) = ts) : ∀ (ps : List (Nat × Nat)), hops3 P E l e2 vs hs ts ps → hops2 P E l e2 vs hs t0 tt ps
 | [], _ => trivial
 | p :: ps, h => ⟨hop2_of hts p h.1, hops2_of hts ps h.2⟩
theorem VJ.draw3 {P : Program} {E : Env} {fn : Func} {R : Ending → World → Prop} {k : List Item} {id : Nat} {l : List Oper} {c : Nat} {t0 : List (Nat × AV)} {L : List (Nat × VO)} {G : Nat → Option VO} (e2 : List Nat) (ps : List (Nat × Nat)) (tt : TT) (ts : TS) (vs : List AV) (hs : List Hp) (hm : P.follows .mixedOrders = true)
  (hok : (drawOk l e2 ps vs.length hs.length && ttOk l tt) = true) (hts : tt.map (ttl2 vs t0) = ts) (hh : hops3 P E l e2 vs hs ts ps) (h0 : hs[0]? = some ⟨c, L, G⟩) {y : Hp} (hy : hs[e2.length]? = some y) (hj : VJ P E fn R k ⟨y.c, tla l vs t0, y.L, y.G⟩) :
  VJ P E fn R (.code (.region id l.toArray true) :: k) ⟨c, t0, L, G⟩ :=
 VJ.draw2 e2 ps tt vs hs hm hok (hops2_of hts ps hh) h0 hy hj
theorem fill_one (f : Nat → Option (Nat × Nat)) : ∀ (vs : List (Nat × Value)) (cells : Array Value), (∀ p ∈ vs, f p.1 = some (p.1, 1) ∧ p.1 < cells.size ∧ p.2.oneCell' = true) →
  Instr.fill f cells vs = some (vs.foldl (fun l p => l.set p.1 p.2) cells.toList).toArray
 | [], cells, _ => by simp [Instr.fill]
 | (i, v) :: vs, cells, h => by
  obtain ⟨h1, h2, h3⟩ := h (i, v) (by simp)
  have h1 : f i = some (i, 1) := h1
  have h2 : i < cells.size := h2
  have hc := cells_one h3
  have hc : v.cells = #[v] := hc
  simp only [Instr.fill, h1, hc]
  rw [if_neg (by simp; omega)]
  have e : (#[v] : Array Value).zipIdx.foldl (fun cs (x : Value × Nat) => cs.setIfInBounds (i + x.2) x.1) cells = cells.setIfInBounds i v := by
   simp
  rw [e, fill_one f vs _ fun p hp => by
   obtain ⟨g1, g2, g3⟩ := h p (List.mem_cons_of_mem _ hp)
   exact ⟨g1, by simpa using g2, g3⟩]
  simp
section
variable {P : Program} {E : Env} {ops : Array Oper} {rest : List Oper} {s : S} {K : S → Prop}
variable {c : Nat} {t : List (Nat × AV)} {L : List (Nat × VO)} {G : Nat → Option VO} {d ty : Nat} {pos : String} {af : Array Edge} {tab : Tab}
theorem VR.buildL {T : TypeId} {ti : TI} {ps : Array (Nat × Operand)} {vs : List (Nat × Value)} {n : Nat} (l : List Value) {z : Array Value} (hT : Tab.Ok P tab) (hn : Nat.ble (d + 1) E.nt = true) (hti : lk tab T = some ti) (hfl : ti.flds = (List.range (n + 1)).map fun i => (i, 1)) (hz : ti.zero = .agg z) (hzs : z.size = n + 1)
  (hv : flps ⟨c, t, L, G⟩ ps.toList = some vs) (hok : (vs.all fun p => Nat.ble p.1 n && p.2.oneCell') = true)
  (hr : l = vs.foldl (fun l p => l.set p.1 p.2) z.toList) (k : VR P E ops rest ⟨c, (d, .a (.d (.v (.agg l.toArray)))) :: t, L, G⟩ K) :
  VR P E ops (⟨some d, .build T ps, ty, pos, af, none⟩ :: rest) ⟨c, t, L, G⟩ K := by
 refine VR.build hT hn hti (by rw [hfl]; simp) hv ?_ k
 unfold bld
 rw [fill_one _ _ _ fun p hp => ?_]
 ·rw [hr, hz]; rfl
 ·have := List.all_eq_true.1 hok p hp
  simp only [Bool.and_eq_true] at this
  have hle : p.1 ≤ n := Nat.le_of_ble_eq_true this.1
  refine ⟨?_, ?_, this.2⟩
  ·rw [hfl, List.getElem?_map, List.getElem?_range (by omega)]; rfl
  ·rw [hz]
   show p.1 < z.size
   omega
end
section
variable {P : Program} {E : Env} {ops : Array Oper} {rest : List Oper} {s : S} {K : S → Prop} {dst : Option Tmp} {T : TypeId} {x y : Operand} {f : Nat} {ty : TypeId} {pos : String} {af : Array Edge} {g : Option (Nat × Bool)}
abbrev onLd : Prop := VR P E ops (⟨dst, .load T x, ty, pos, af, g⟩ :: rest) s K
abbrev onFa : Prop := VR P E ops (⟨dst, .fieldAddr T x f, ty, pos, af, g⟩ :: rest) s K
abbrev onIx : Prop := VR P E ops (⟨dst, .indexAddr T x y, ty, pos, af, g⟩ :: rest) s K
end
end Go.Proofs.YtnpnjhopgedhkaaGreat.V
namespace Go.Proofs.YtnpnjhopgedhkaaGreat.V
open Go.RowKit
universe u
def fillL (flds : List (Nat × Nat)) : List Value → List (Nat × Value) → Option (List Value)
 | cs, [] => some cs
 | cs, (i, v) :: r => match flds[i]? with
  | none => none
  | some (off, sz) => if v.cells.size = sz ∧ off + sz ≤ cs.length then fillL flds (cs.take off ++ v.cells.toList ++ cs.drop (off + sz)) r else none
theorem fill_L (flds : List (Nat × Nat)) : ∀ (vs : List (Nat × Value)) (cs : List Value) (l : List Value), fillL flds cs vs = some l → Instr.fill (fun i => flds[i]?) cs.toArray vs = some l.toArray
 | [], cs, l, h => by
  cases h
  rfl
 | (i, v) :: vs, cs, l, h => by
  unfold fillL at h
  simp only [Instr.fill]
  cases e : flds[i]? with
  | none => rw [e] at h; cases h
  | some q =>
   obtain ⟨off, sz⟩ := q
   rw [e] at h
   simp only at h ⊢
   split at h
   ·rename_i hc
    have hc1 : v.cells.size = sz := hc.1
    have hc2 : off + sz ≤ cs.length := hc.2
    rw [if_neg (by simp; omega)]
    have := foldl_set off v.cells.toList 0 cs.toArray (by simp; omega)
    simp only [Nat.add_zero, List.length_append, Array.length_toList] at this
    have e2 : (v.cells.zipIdx.foldl (fun cs (x : Value × Nat) => cs.setIfInBounds (off + x.2) x.1) cs.toArray) = (cs.take off ++ v.cells.toList ++ cs.drop (off + sz)).toArray := by
     apply Array.ext'
     rw [← Array.foldl_toList, Array.toList_zipIdx, this, hc1]
    rw [e2]
    exact fill_L flds vs _ l h
   ·cases h
section
variable {P : Program} {E : Env} {ops : Array Oper} {rest : List Oper} {s : S} {K : S → Prop}
variable {c : Nat} {t : List (Nat × AV)} {L : List (Nat × VO)} {G : Nat → Option VO} {d ty : Nat} {pos : String} {af : Array Edge} {tab : Tab}
theorem VR.buildX {T : TypeId} {ti : TI} {ps : Array (Nat × Operand)} {vs : List (Nat × Value)} (l : List Value) {z : Array Value} (hT : Tab.Ok P tab) (hn : Nat.ble (d + 1) E.nt = true) (hti : lk tab T = some ti) (hne : ti.flds.isEmpty = false) (hz : ti.zero = .agg z)
  (hv : flps ⟨c, t, L, G⟩ ps.toList = some vs) (hr : fillL ti.flds z.toList vs = some l) (k : VR P E ops rest ⟨c, (d, .a (.d (.v (.agg l.toArray)))) :: t, L, G⟩ K) :
  VR P E ops (⟨some d, .build T ps, ty, pos, af, none⟩ :: rest) ⟨c, t, L, G⟩ K := by
 refine VR.build hT hn hti (fun e => by rw [e] at hne; cases hne) hv ?_ k
 unfold bld
 rw [hz]
 have := fill_L ti.flds vs z.toList l hr
 simpa [Value.cells] using this
def flI (s : S) : List Operand → Option (List Int)
 | [] => some []
 | x :: r => match fl s x, flI s r with
  | some (.int .i64 n), some l => some (n :: l)
  | _, _ => none
theorem Sim.flI {h : Hd} {w : World} {a : Act} {s : S} (H : Sim E h w a s) : ∀ (xs : List Operand) (l : List Int), flI s xs = some l → xs.map a.eval = l.map (Value.int .i64)
 | [], l, e => by cases e; rfl
 | x :: xs, l, e => by
  unfold V.flI at e
  split at e
  ·rename_i n r h1 h2
   cases e
   simp only [List.map_cons]
   rw [H.fl h1, Sim.flI H xs r h2]
  ·cases e
def maxI (l : List Int) (x : Int) : Int := l.foldl (fun a b => if b > a then b else a) x
def minI (l : List Int) (x : Int) : Int := l.foldl (fun a b => if b < a then b else a) x
theorem run_max (w : World) : ∀ (l : List Int) (x : Int), ((l.map (Value.int .i64)).foldlM Builtin.max2 (.int .i64 x)).run P w = .ok (.int .i64 (maxI l x)) w
 | [], x => rfl
 | y :: l, x => by
  simp only [List.map_cons, List.foldlM_cons, Sem.run_bind, Builtin.max2, Sem.run_pure, Result.andThen_ok]
  rw [run_max w l]
  rfl
theorem run_min (w : World) : ∀ (l : List Int) (x : Int), ((l.map (Value.int .i64)).foldlM Builtin.min2 (.int .i64 x)).run P w = .ok (.int .i64 (minI l x)) w
 | [], x => rfl
 | y :: l, x => by
  simp only [List.map_cons, List.foldlM_cons, Sem.run_bind, Builtin.min2, Sem.run_pure, Result.andThen_ok]
  rw [run_min w l]
  rfl
theorem VR.max {args : Array Operand} {tys : Array TypeId} {x : Int} {l : List Int} (hn : Nat.ble (d + 1) E.nt = true) (hv : flI ⟨c, t, L, G⟩ args.toList = some (x :: l)) (k : VR P E ops rest ⟨c, (d, .a (.d (.v (.int .i64 (maxI l x))))) :: t, L, G⟩ K) :
  VR P E ops (⟨some d, .call { callee := .builtin .max, args := args, argTypes := tys }, ty, pos, af, none⟩ :: rest) ⟨c, t, L, G⟩ K := by
 refine VR.val rfl rfl (Nat.le_of_ble_eq_true hn) (.a (.d (.v (.int .i64 (maxI l x))))) (fun h w a H => ⟨_, ?_, rfl⟩) k
 have he := H.flI _ _ hv
 have he2 : (args.map a.eval).toList = (x :: l).map (Value.int .i64) := by rw [Array.toList_map]; exact he
 have := run_max (P := P) w l x
 simp only [execOp, resolve, invoke, builtin, Builtin.max_, he2, List.map_cons, Sem.run_bind, Sem.run_pure, Result.andThen_ok]
 rw [this]; rfl
theorem VR.min {args : Array Operand} {tys : Array TypeId} {x : Int} {l : List Int} (hn : Nat.ble (d + 1) E.nt = true) (hv : flI ⟨c, t, L, G⟩ args.toList = some (x :: l)) (k : VR P E ops rest ⟨c, (d, .a (.d (.v (.int .i64 (minI l x))))) :: t, L, G⟩ K) :
  VR P E ops (⟨some d, .call { callee := .builtin .min, args := args, argTypes := tys }, ty, pos, af, none⟩ :: rest) ⟨c, t, L, G⟩ K := by
 refine VR.val rfl rfl (Nat.le_of_ble_eq_true hn) (.a (.d (.v (.int .i64 (minI l x))))) (fun h w a H => ⟨_, ?_, rfl⟩) k
 have he := H.flI _ _ hv
 have he2 : (args.map a.eval).toList = (x :: l).map (Value.int .i64) := by rw [Array.toList_map]; exact he
 have := run_min (P := P) w l x
 simp only [execOp, resolve, invoke, builtin, Builtin.min_, he2, List.map_cons, Sem.run_bind, Sem.run_pure, Result.andThen_ok]
 rw [this]; rfl
end
end Go.Proofs.YtnpnjhopgedhkaaGreat.V
namespace Go.Proofs.YtnpnjhopgedhkaaGreat.V
open Go.RowKit
universe u
section
variable {P : Program} {E : Env} {fn : Func} {R : Ending → World → Prop} {k : List Item}
theorem DInv.step {l : List Oper} {t0 : List (Nat × AV)} (e2 : List Nat) (ps : List (Nat × Nat)) (vs : List AV) (hs : List Hp)
  (o1 : nodupD l = true) (o3 : coverOk l e2 ps = true) (o4 : nodupN e2 = true) (o5 : vs.length = l.length) (o6 : hs.length = e2.length + 1)
  (hh : hops P E l e2 vs hs t0 ps) (d : Array Bool) (a : Act) (w : World) (j : Nat) (hi : DInv E l e2 vs hs t0 d a w) (hjr : j ∈ Region.ready .any l.toArray d)
  (hnx : ∀ k0, (∀ q e, e2[q]? = some e → (d.getD e false = true ↔ q < k0)) → k0 ≤ e2.length → e2.contains j = true → e2[k0]? = some j) :
  wpOp P l.toArray (QK E fun s' => VJ P E fn R k s') j (DInv E l e2 vs hs t0 (d.setIfInBounds j true)) a w := by
 obtain ⟨hun, o, ho, hall⟩ := mem_ready.1 hjr
 have ho' : l[j]? = some o := by simpa using ho
 have hjl : j < l.length := (List.getElem?_eq_some_iff.1 ho').1
 have hun' : d.getD j false = false := by
  have : j < d.size := by rw [hi.sz]; exact hjl
  simpa [this] using hun
 obtain ⟨k0, x, h, hx, hk, hkl, HS⟩ := hi.st
 have hpair : pairOk l e2 j k0 = true := by
  unfold pairOk
  cases hc : e2.contains j with
  | true =>
   have := hnx k0 hk hkl hc
   simp only [this, beq_self_eq_true]
  | false =>
   simp only
   refine List.all_eq_true.2 fun q hq => ?_
   have hq' : q < k0 := by simpa using hq
   have hqlt : q < e2.length := by omega
   rw [List.getElem?_eq_getElem hqlt]
   simp only [Bool.not_eq_true']
   cases hw : waits l e2[q] j with
   | false => rfl
   | true =>
    obtain ⟨o'', ho'', e, he, hb, hon⟩ := waits_spec hw
    have h1 := (hk q _ (List.getElem?_eq_getElem hqlt)).2 hq'
    have := hi.dc _ o'' ho'' h1 e he hb
    rw [hon, hun'] at this; cases this
 have hlate : lateOk l e2 j k0 = true := by
  refine List.all_eq_true.2 fun q hq => ?_
  have hqlt : q < e2.length := by simpa using hq
  rw [List.getElem?_eq_getElem hqlt]
  cases hw : waits l j e2[q] with
  | false => simp [hw]
  | true =>
   obtain ⟨o'', ho'', e, he, hb, hon⟩ := waits_spec hw
   rw [ho'] at ho''; cases ho''
   have := hall e he hb
   rw [hon] at this
   have := (hk q _ (List.getElem?_eq_getElem hqlt)).1 this
   simp [this]
 have hps : (j, k0) ∈ ps := by
  have := List.all_eq_true.1 o3 j (by simpa using hjl)
  have := List.all_eq_true.1 this k0 (by simp; omega)
  rw [hpair, hlate] at this
  simpa using this
 have hop1 := hops_mem ps hh _ hps
 have hvj : j < vs.length := by omega
 have hklen : k0 < hs.length := (List.getElem?_eq_some_iff.1 hx).1
 have hnext : ∃ z, hs[if e2.contains j then k0 + 1 else k0]? = some z := by
  cases hc : e2.contains j with
  | true =>
   have : k0 + 1 < hs.length := by
    unfold pairOk at hpair
    rw [hc] at hpair
    simp only [beq_iff_eq] at hpair
    have := (List.getElem?_eq_some_iff.1 hpair).1
    omega
   exact ⟨_, by simp only [if_true]; exact List.getElem?_eq_getElem this⟩
  | false => exact ⟨x, by simpa using hx⟩
 obtain ⟨z, hz⟩ := hnext
 unfold hop at hop1
 simp only [ho', List.getElem?_eq_getElem hvj, hx, hz] at hop1
 have hlen : vs.length = l.length := o5
 have hopv : ∀ r v, opv l vs t0 j r = some v → lk (tl d 0 l vs t0) r = some v := by
  intro r v hv
  unfold opv at hv
  split at hv
  ·rename_i hmk
   rw [(lk_tl d t0 l vs 0 r hlen).2]
   ·exact hv
   ·intro q p hq hr
    exact absurd hr (maker_none l 0 r hmk p (List.mem_of_getElem? hq))
  ·rename_i i hmk
   obtain ⟨_, p, hp, hr⟩ := maker_some l 0 r i hmk
   simp only [Nat.sub_zero] at hp
   split at hv
   ·rename_i hw
    obtain ⟨o'', ho'', e, he, hb, hon⟩ := waits_spec hw
    rw [ho'] at ho''; cases ho''
    have := hall e he hb
    rw [hon] at this
    rw [(lk_tl d t0 l vs 0 r hlen).1 i p hp hr (by simpa using this) o1]
    exact hv
   ·split at hv
    ·rename_i hw
     obtain ⟨o'', ho'', e, he, hb, hon⟩ := waits_spec hw
     rw [(lk_tl d t0 l vs 0 r hlen).2]
     ·exact hv
     ·intro q p' hq hr'
      have : q = i := nodupD_spec l o1 q i p' p r hq hp hr' hr
      subst this
      cases hdq : d.getD (0 + q) false with
      | false => rfl
      | true =>
       simp only [Nat.zero_add] at hdq
       have := hi.dc q o'' ho'' hdq e he hb
       rw [hon, hun'] at this; cases this
    ·cases hv
 have HS' : Sim E h w a ⟨x.c, ttl l vs t0 j (tmpsG l o) ++ tl d 0 l vs t0, x.L, x.G⟩ := HS.weak fun i v hi => by
  rw [lk_append] at hi
  split at hi
  ·rename_i u e; cases hi; exact hopv i _ (lk_ttl l vs t0 j _ i _ e)
  ·exact hi
 have hrun := hop1 (tl d 0 l vs t0) (fun s' => s' = ⟨z.c, (match o.dst with | some d' => (d', vs[j]) :: (ttl l vs t0 j (tmpsG l o) ++ tl d 0 l vs t0) | none => ttl l vs t0 j (tmpsG l o) ++ tl d 0 l vs t0), z.L, z.G⟩) rfl h w a HS'
 have hsz' : (d.setIfInBounds j true).size = l.length := by simpa using hi.sz
 have hdj : j < d.size := by rw [hi.sz]; exact hjl
 have post : ∀ a' w', QK E (fun s' => s' = ⟨z.c, (match o.dst with | some d' => (d', vs[j]) :: (ttl l vs t0 j (tmpsG l o) ++ tl d 0 l vs t0) | none => ttl l vs t0 j (tmpsG l o) ++ tl d 0 l vs t0), z.L, z.G⟩) .normal a' w' → DInv E l e2 vs hs t0 (d.setIfInBounds j true) a' w' := by
  rintro a' w' ⟨_, h', s', H', rfl⟩
  refine ⟨hsz', ?_, if e2.contains j then k0 + 1 else k0, z, h', hz, ?_, ?_, ?_⟩
  ·intro i p hp hdi e he hb
   by_cases hij : i = j
   ·subst hij
    rw [ho'] at hp; cases hp
    exact getD_set_true (hall e he hb)
   ·rw [getD_set_ne false (Ne.symm hij)] at hdi
    exact getD_set_true (hi.dc i p hp hdi e he hb)
  ·intro q e he
   cases hc : e2.contains j with
   | true =>
    unfold pairOk at hpair
    rw [hc] at hpair
    simp only [beq_iff_eq] at hpair
    simp only [if_true]
    by_cases hej : e = j
    ·subst hej
     rw [getD_set_self hdj]
     have : q = k0 := by
      have nd : ∀ (m : List Nat), nodupN m = true → ∀ (p q : Nat) (v : Nat), m[p]? = some v → m[q]? = some v → p = q := by
       intro m
       induction m with
       | nil => intro _ p q v hp; simp at hp
       | cons y m ih =>
        intro hn p q v hp hq
        unfold nodupN at hn
        simp only [Bool.and_eq_true, Bool.not_eq_true'] at hn
        cases p with
        | zero =>
         cases q with
         | zero => rfl
         | succ q =>
          simp at hp hq; subst hp
          have := List.mem_of_getElem? hq
          have h2 := hn.1
          simp at h2
          exact absurd this h2
        | succ p =>
         cases q with
         | zero =>
          simp at hp hq; subst hq
          have := List.mem_of_getElem? hp
          have h2 := hn.1
          simp at h2
          exact absurd this h2
         | succ q => simp at hp hq; rw [ih hn.2 p q v hp hq]
      exact nd e2 o4 q k0 e he hpair
     simp [this]
    ·rw [getD_set_ne false (Ne.symm hej), hk q e he]
     have : q ≠ k0 := fun e3 => by rw [e3, hpair] at he; cases he; exact hej rfl
     omega
   | false =>
    have hne : e ≠ j := fun e3 => by
     have := List.mem_of_getElem? he
     rw [e3] at this
     have h2 : e2.contains j = true := by simpa using this
     rw [h2] at hc; cases hc
    rw [getD_set_ne false (Ne.symm hne)]
    simpa using hk q e he
  ·cases hc : e2.contains j with
   | true =>
    unfold pairOk at hpair
    rw [hc] at hpair
    simp only [beq_iff_eq] at hpair
    have := (List.getElem?_eq_some_iff.1 hpair).1
    simp only [if_true]; omega
   | false => simpa using hkl
  ·refine H'.weak fun i v hi2 => ?_
   have hset : ∀ r, lk (tl (d.setIfInBounds j true) 0 l vs t0) r = if o.dst = some r then vs[j]? else lk (tl d 0 l vs t0) r := by
    intro r
    split
    ·rename_i hor
     exact (lk_tl (d.setIfInBounds j true) t0 l vs 0 r hlen).1 j o ho' hor (by simpa using getD_set_self hdj) o1
    ·rename_i hor
     cases hmk : maker l 0 r with
     | none =>
      have hno := maker_none l 0 r hmk
      rw [(lk_tl _ t0 l vs 0 r hlen).2 (fun q p hq hr => absurd hr (hno p (List.mem_of_getElem? hq))), (lk_tl d t0 l vs 0 r hlen).2 (fun q p hq hr => absurd hr (hno p (List.mem_of_getElem? hq)))]
     | some i' =>
      obtain ⟨_, p, hp, hr⟩ := maker_some l 0 r i' hmk
      simp only [Nat.sub_zero] at hp
      have hne : j ≠ i' := fun e => by subst e; rw [ho'] at hp; cases hp; exact hor hr
      have hsame : (d.setIfInBounds j true).getD (0 + i') false = d.getD (0 + i') false := by
       simp only [Nat.zero_add]; exact getD_set_ne false hne
      cases hdi : d.getD (0 + i') false with
      | true => rw [(lk_tl _ t0 l vs 0 r hlen).1 i' p hp hr (hsame.trans hdi) o1, (lk_tl d t0 l vs 0 r hlen).1 i' p hp hr hdi o1]
      | false =>
       have uni : ∀ (q : Nat) (p' : Oper), l[q]? = some p' → p'.dst = some r → q = i' := fun q p' hq hr' => nodupD_spec l o1 q i' p' p r hq hp hr' hr
       rw [(lk_tl _ t0 l vs 0 r hlen).2 (fun q p' hq hr' => by rw [uni q p' hq hr']; exact hsame.trans hdi), (lk_tl d t0 l vs 0 r hlen).2 (fun q p' hq hr' => by rw [uni q p' hq hr']; exact hdi)]
   rw [hset] at hi2
   have inner : ∀ v, lk (tl d 0 l vs t0) i = some v → lk (ttl l vs t0 j (tmpsG l o) ++ tl d 0 l vs t0) i = some v := by
    intro v hv
    rw [lk_append]
    cases e : lk (ttl l vs t0 j (tmpsG l o)) i with
    | none => exact hv
    | some u =>
     have := hopv i u (lk_ttl l vs t0 j _ i u e)
     rw [hv] at this
     simpa using this.symm
   cases hod : o.dst with
   | none =>
    rw [hod] at hi2
    simp only [reduceCtorEq, if_false] at hi2
    exact inner v hi2
   | some d' =>
    rw [hod] at hi2
    simp only [Option.some.injEq] at hi2
    simp only [lk]
    split at hi2
    ·rename_i e; rw [if_pos e.symm]; rw [List.getElem?_eq_getElem hvj] at hi2; exact hi2
    ·rename_i e; rw [if_neg (fun e2 => e e2.symm)]; exact inner v hi2
 unfold wpOp
 simp only [ho]
 unfold wpList at hrun
 split
 ·rename_i hw
  rw [if_pos hw] at hrun
  rcases hrun with h1 | ⟨_, a0, w0, e, _⟩
  ·refine .inl ?_
   have h3 := Oper.wp_q (Q' := QK E fun s' => VJ P E fn R k s') h1 (fun _ _ _ h => by cases h.1) (fun ⟨_, _, h⟩ => by cases h.1)
   exact Oper.wp_mono (fun a' w' hh => post a' w' hh) h3
  ·cases e
 ·rename_i hw
  rw [if_neg hw] at hrun
  exact post _ _ hrun
theorem DInv.fin {l : List Oper} {t0 : List (Nat × AV)} (e2 : List Nat) (vs : List AV) (hs : List Hp) (o7 : (e2.all (· < l.length)) = true) (o8 : backOk l = true) {y : Hp} (hy : hs[e2.length]? = some y) (hj : VJ P E fn R k ⟨y.c, tla l vs t0, y.L, y.G⟩)
  (d : Array Bool) (a : Act) (w : World) (hi : DInv E l e2 vs hs t0 d a w) (hr : Region.ready .any l.toArray d = []) : QK E (fun s' => VJ P E fn R k s') .normal a w := by
 have hall0 : ∀ m j, j < m → j < l.length → d.getD j false = true := by
  intro m
  induction m with
  | zero => intro j h; exact absurd h (Nat.not_lt_zero _)
  | succ m ih =>
   intro j hjm hj
   cases hc : d.getD j false with
   | true => rfl
   | false =>
    exfalso
    have hjd : j < d.size := by rw [hi.sz]; exact hj
    have : j ∈ Region.ready .any l.toArray d := by
     refine mem_ready.2 ⟨by simpa [hjd] using hc, l[j], by simp [hj], fun e he hb => ?_⟩
     have h8 := List.all_eq_true.1 o8 j (by simpa using hj)
     rw [List.getElem?_eq_getElem hj] at h8
     have h9 := Array.all_eq_true_iff_forall_mem.1 h8 e he
     rw [hb] at h9
     have h10 : e.on < j := by simpa using h9
     exact ih e.on (by omega) (by omega)
    rw [hr] at this
    cases this
 have hall : ∀ j, j < l.length → d.getD (0 + j) false = true := fun j hj => by simp only [Nat.zero_add]; exact hall0 (j + 1) j (Nat.lt_succ_self _) hj
 obtain ⟨k0, x, h, hx, hk, hkl, HS⟩ := hi.st
 have hk0 : k0 = e2.length := by
  rcases Nat.lt_or_ge k0 e2.length with hlt | hge
  ·have he := List.getElem?_eq_getElem hlt
   have hel : e2[k0] < l.length := by
    have := List.all_eq_true.1 o7 e2[k0] (List.getElem_mem hlt)
    simpa using this
   have := (hk k0 _ he).1 (by simpa using hall _ hel)
   omega
  ·omega
 subst hk0
 rw [hy] at hx; cases hx
 rw [tl_all d t0 l vs 0 hall] at HS
 exact ⟨rfl, h, _, HS, hj⟩
theorem DInv.begin_ {l : List Oper} {c : Nat} {t0 : List (Nat × AV)} {L : List (Nat × VO)} {G : Nat → Option VO} (e2 : List Nat) (vs : List AV) (hs : List Hp) (h0 : hs[0]? = some ⟨c, L, G⟩) (hd : Hd) (w : World) (a : Act) (n : Nat) (hn : n = l.length) (H : Sim E hd w.drew a ⟨c, t0, L, G⟩) :
  DInv E l e2 vs hs t0 (Array.replicate n false) a w.drew := by
 subst hn
 refine ⟨by simp, fun j o ho hd => ?_, 0, ⟨c, L, G⟩, hd, h0, ?_, Nat.zero_le _, ?_⟩
 ·exfalso
  by_cases hj : j < l.length <;> simp [hj] at hd
 ·intro q e he
  constructor
  ·intro h
   exfalso
   by_cases hj : e < l.length <;> simp [hj] at h
  ·intro h; exact absurd h (Nat.not_lt_zero _)
 ·have e0 : ∀ (l : List Oper) (vs : List AV) (i : Nat) (d : Array Bool), (∀ j, d.getD j false = false) → tl d i l vs t0 = t0 := by
   intro l
   induction l with
   | nil => intro vs i d _; cases vs <;> rfl
   | cons o l ih =>
    intro vs i d hd
    cases vs with
    | nil => rfl
    | cons v vs =>
     simp only [tl, hd, ih vs (i + 1) d hd]
     split <;> rfl
  rw [e0]
  ·exact H
  ·intro j
   by_cases hj : j < l.length <;> simp [hj]
def depOk (l : List Oper) (a0 b0 : Nat) (dep : List Bool) : Bool := (List.range l.length).all fun j => match dep[j]?, l[j]? with
 | some true, some o => j == a0 || j == b0 || o.after.any fun e => Region.binds .any e && (dep[e.on]? == some true) && decide (e.on < j)
 | some false, some _ => true
 | _, _ => false
def agree : List Bool → List AV → List AV → Prop
 | [], [], [] => True
 | true :: d, _ :: v, _ :: v' => agree d v v'
 | false :: d, x :: v, y :: v' => x = y ∧ agree d v v'
 | _, _, _ => False
theorem agree_spec : ∀ (d : List Bool) (v v' : List AV), agree d v v' → v.length = v'.length ∧ ∀ j : Nat, d[j]? = some false → v[j]? = v'[j]?
 | [], [], [], _ => ⟨rfl, fun j h => by simp at h⟩
 | true :: d, x :: v, y :: v', h => by
  obtain ⟨h1, h2⟩ := agree_spec d v v' h
  refine ⟨by simp [h1], fun j hj => ?_⟩
  cases j with
  | zero => simp at hj
  | succ j => simpa using h2 j (by simpa using hj)
 | false :: d, x :: v, y :: v', h => by
  obtain ⟨rfl, h⟩ := h
  obtain ⟨h1, h2⟩ := agree_spec d v v' h
  refine ⟨by simp [h1], fun j hj => ?_⟩
  cases j with
  | zero => rfl
  | succ j => simpa using h2 j (by simpa using hj)
 | [], _ :: _, _, h => h.elim
 | [], [], _ :: _, h => h.elim
 | true :: _, [], _, h => h.elim
 | true :: _, _ :: _, [], h => h.elim
 | false :: _, [], _, h => h.elim
 | false :: _, _ :: _, [], h => h.elim
theorem tl_congr (d : Array Bool) (t0 : List (Nat × AV)) : ∀ (l : List Oper) (v v' : List AV) (i : Nat), v.length = v'.length → (∀ j, d.getD (i + j) false = true → v[j]? = v'[j]?) → tl d i l v t0 = tl d i l v' t0
 | [], v, v', i, hl, h => by cases v <;> cases v' <;> rfl
 | o :: l, [], [], i, hl, h => rfl
 | o :: l, [], _ :: _, i, hl, h => by simp at hl
 | o :: l, _ :: _, [], i, hl, h => by simp at hl
 | o :: l, x :: v, y :: v', i, hl, h => by
  have ih := tl_congr d t0 l v v' (i + 1) (by simpa using hl) fun j hj => by
   have := h (j + 1) (by rw [show i + (j + 1) = i + 1 + j by omega]; exact hj)
   simpa using this
  simp only [tl, ih]
  cases hd : d.getD i false with
  | true =>
   have := h 0 (by simpa using hd)
   simp at this
   rw [this]
  | false => simp
def draw2Ok (l : List Oper) (a0 b0 : Nat) (r : List Nat) (ps1 ps2 : List (Nat × Nat)) (dep : List Bool) (tt : TT) : Bool :=
 nodupD l && chainOk l (a0 :: r) && chainOk l (b0 :: r) && coverOk l (a0 :: b0 :: r) ps1 && coverOk l (b0 :: a0 :: r) ps2 && nodupN (a0 :: b0 :: r) && nodupN (b0 :: a0 :: r) && (a0 :: b0 :: r).all (· < l.length) && backOk l && depOk l a0 b0 dep && ttOk l tt
theorem chain_spec {l : List Oper} {e2 : List Nat} (h : chainOk l e2 = true) {p q x y : Nat} (hp : p < q) (hx : e2[q]? = some x) (hy : e2[p]? = some y) : waits l x y = true := by
 have hq := (List.getElem?_eq_some_iff.1 hx).1
 have := List.all_eq_true.1 h q (by simpa using hq)
 have := List.all_eq_true.1 this p (by simpa using hp)
 rw [hx, hy] at this
 exact this
theorem next_of {e2 : List Nat} {d : Array Bool} {j k0 q : Nat} (hk : ∀ q e, e2[q]? = some e → (d.getD e false = true ↔ q < k0)) (hkl : k0 ≤ e2.length) (hq : e2[q]? = some j) (hun : d.getD j false = false)
  (hb : ∀ p y, p < q → e2[p]? = some y → d.getD y false = true) : e2[k0]? = some j := by
 have h1 : ¬ q < k0 := fun hlt => by rw [(hk q j hq).2 hlt] at hun; cases hun
 have hql := (List.getElem?_eq_some_iff.1 hq).1
 have : q = k0 := by
  rcases Nat.lt_trichotomy q k0 with h3 | h3 | h3
  ·exact absurd h3 h1
  ·exact h3
  ·have hk0 : k0 < e2.length := by omega
   have h4 := List.getElem?_eq_getElem hk0
   exact absurd ((hk k0 _ h4).1 (hb k0 _ h3 h4)) (Nat.lt_irrefl _)
 rw [← this]; exact hq
theorem VJ.draw12 {id : Nat} {l : List Oper} {c : Nat} {t0 : List (Nat × AV)} {L : List (Nat × VO)} {G : Nat → Option VO} (a0 b0 : Nat) (r : List Nat) (ps1 ps2 : List (Nat × Nat)) (dep : List Bool) (tt : TT) (ts1 ts2 : TS) (vs1 vs2 : List AV) (hs1 hs2 : List Hp) (hm : P.follows .mixedOrders = true)
  (hok : draw2Ok l a0 b0 r ps1 ps2 dep tt = true) (hl1 : vs1.length = l.length) (hl2 : vs2.length = l.length) (hl3 : hs1.length = r.length + 3) (hl4 : hs2.length = r.length + 3)
  (hts1 : tt.map (ttl2 vs1 t0) = ts1) (hts2 : tt.map (ttl2 vs2 t0) = ts2) (hh1 : hops3 P E l (a0 :: b0 :: r) vs1 hs1 ts1 ps1) (hh2 : hops3 P E l (b0 :: a0 :: r) vs2 hs2 ts2 ps2) (hag : agree dep vs1 vs2)
  (h01 : hs1[0]? = some ⟨c, L, G⟩) (h02 : hs2[0]? = some ⟨c, L, G⟩) {y1 y2 : Hp} (hy1 : hs1[r.length + 2]? = some y1) (hy2 : hs2[r.length + 2]? = some y2)
  (hj1 : VJ P E fn R k ⟨y1.c, tla l vs1 t0, y1.L, y1.G⟩) (hj2 : VJ P E fn R k ⟨y2.c, tla l vs2 t0, y2.L, y2.G⟩) :
  VJ P E fn R (.code (.region id l.toArray true) :: k) ⟨c, t0, L, G⟩ := by
 unfold draw2Ok at hok
 simp only [Bool.and_eq_true] at hok
 obtain ⟨⟨⟨⟨⟨⟨⟨⟨⟨⟨o1, oc1⟩, oc2⟩, o31⟩, o32⟩, o41⟩, o42⟩, o7⟩, o8⟩, odep⟩, ott⟩ := hok
 have H1 := hops_of ott ps1 (hops2_of hts1 ps1 hh1)
 have H2 := hops_of ott ps2 (hops2_of hts2 ps2 hh2)
 obtain ⟨hvl, hvs⟩ := agree_spec dep vs1 vs2 hag
 have wd : ∀ {d : Array Bool} {j x : Nat}, j ∈ Region.ready .any l.toArray d → waits l j x = true → d.getD x false = true := by
  intro d j x hjr hw
  obtain ⟨_, o, ho, hall⟩ := mem_ready.1 hjr
  obtain ⟨o', ho', e, he, hb, hon⟩ := waits_spec hw
  have ho2 : l[j]? = some o := by simpa using ho
  rw [ho2] at ho'; cases ho'
  rw [← hon]; exact hall e he hb
 have una : ∀ {d : Array Bool} {j : Nat}, d.size = l.length → j ∈ Region.ready .any l.toArray d → d.getD j false = false := by
  intro d j hsz hjr
  obtain ⟨hun, o, ho, _⟩ := mem_ready.1 hjr
  have ho2 : l[j]? = some o := by simpa using ho
  have hjl : j < d.size := by rw [hsz]; exact (List.getElem?_eq_some_iff.1 ho2).1
  simpa [hjl] using hun
 have hdep : ∀ (d : Array Bool) (a : Act) (w : World) (e2 : List Nat) (vs : List AV) (hs : List Hp), DInv E l e2 vs hs t0 d a w → d.getD a0 false = false → d.getD b0 false = false → ∀ j, dep[j]? = some true → j < l.length → d.getD j false = false := by
  intro d a w e2 vs hs hi ha hb j
  induction j using Nat.strongRecOn with
  | ind j ih =>
   intro hj hjl
   have h1 := List.all_eq_true.1 odep j (by simpa using hjl)
   rw [hj, List.getElem?_eq_getElem hjl] at h1
   simp only [Bool.or_eq_true, beq_iff_eq] at h1
   rcases h1 with (h1 | h1) | h1
   ·rw [h1]; exact ha
   ·rw [h1]; exact hb
   ·rw [Array.any_eq_true] at h1
    obtain ⟨i, hi', h1⟩ := h1
    simp only [Bool.and_eq_true, beq_iff_eq, decide_eq_true_eq] at h1
    obtain ⟨⟨g1, g2⟩, g3⟩ := h1
    have g4 := ih _ g3 g2 (by omega)
    cases hd : d.getD j false with
    | false => rfl
    | true =>
     have := hi.dc j _ (List.getElem?_eq_getElem hjl) hd _ (Array.getElem_mem hi') g1
     rw [g4] at this; cases this
 have conv : ∀ (d : Array Bool) (a : Act) (w : World), DInv E l (a0 :: b0 :: r) vs1 hs1 t0 d a w → d.getD a0 false = false → d.getD b0 false = false → DInv E l (b0 :: a0 :: r) vs2 hs2 t0 d a w := by
  intro d a w hi ha hb
  obtain ⟨k0, x, h, hx, hk, hkl, HS⟩ := hi.st
  have hk0 : k0 = 0 := by
   rcases Nat.eq_zero_or_pos k0 with h0 | h0
   ·exact h0
   ·have := (hk 0 a0 rfl).2 h0
    rw [ha] at this; cases this
  subst hk0
  rw [h01] at hx; cases hx
  refine ⟨hi.sz, hi.dc, 0, ⟨c, L, G⟩, h, h02, ?_, Nat.zero_le _, ?_⟩
  ·intro q e he
   have hno : d.getD e false = false := by
    match q, he with
    | 0, he => cases he; exact hb
    | 1, he => cases he; exact ha
    | q + 2, he =>
     cases hd : d.getD e false with
     | false => rfl
     | true => exact absurd ((hk (q + 2) e he).1 hd) (Nat.not_lt_zero _)
   rw [hno]
   constructor
   ·intro h; cases h
   ·intro h; exact absurd h (Nat.not_lt_zero _)
  ·rw [tl_congr d t0 l vs2 vs1 0 hvl.symm fun j hj => ?_]
   ·exact HS
   ·simp only [Nat.zero_add] at hj
    have hjl : j < l.length := by
     rw [← hi.sz]
     rcases Nat.lt_or_ge j d.size with g | g
     ·exact g
     ·simp [Nat.not_lt.2 g] at hj
    cases hdj : dep[j]? with
    | none =>
     have h1 := List.all_eq_true.1 odep j (by simpa using hjl)
     rw [hdj] at h1; cases h1
    | some b =>
     cases b with
     | false => exact (hvs j hdj).symm
     | true =>
      have := hdep d a w _ _ _ hi ha hb j hdj hjl
      rw [this] at hj; cases hj
 have nx1 : ∀ (d : Array Bool) (j : Nat), d.getD j false = false → j ∈ Region.ready .any l.toArray d → (j = b0 → d.getD a0 false = true) → ∀ k0, (∀ q e, (a0 :: b0 :: r)[q]? = some e → (d.getD e false = true ↔ q < k0)) → k0 ≤ (a0 :: b0 :: r).length → (a0 :: b0 :: r).contains j = true → (a0 :: b0 :: r)[k0]? = some j := by
  intro d j hun hjr hjb k0 hk hkl hc
  obtain ⟨q, hq⟩ := List.getElem?_of_mem (by simpa using hc : j ∈ a0 :: b0 :: r)
  refine next_of hk hkl hq hun fun p y hp hy => ?_
  match q, hq with
  | 0, hq => omega
  | 1, hq =>
   cases hq
   have : p = 0 := by omega
   subst this; cases hy
   exact hjb rfl
  | q + 2, hq =>
   match p, hy with
   | 0, hy => cases hy; exact wd hjr (chain_spec oc1 (p := 0) (q := q + 1) (by omega) hq rfl)
   | 1, hy => cases hy; exact wd hjr (chain_spec oc2 (p := 0) (q := q + 1) (by omega) hq rfl)
   | p + 2, hy => exact wd hjr (chain_spec oc1 (p := p + 1) (q := q + 1) (by omega) hq hy)
 have nx2 : ∀ (d : Array Bool) (j : Nat), d.getD j false = false → j ∈ Region.ready .any l.toArray d → (j = a0 → d.getD b0 false = true) → ∀ k0, (∀ q e, (b0 :: a0 :: r)[q]? = some e → (d.getD e false = true ↔ q < k0)) → k0 ≤ (b0 :: a0 :: r).length → (b0 :: a0 :: r).contains j = true → (b0 :: a0 :: r)[k0]? = some j := by
  intro d j hun hjr hjb k0 hk hkl hc
  obtain ⟨q, hq⟩ := List.getElem?_of_mem (by simpa using hc : j ∈ b0 :: a0 :: r)
  refine next_of hk hkl hq hun fun p y hp hy => ?_
  match q, hq with
  | 0, hq => omega
  | 1, hq =>
   cases hq
   have : p = 0 := by omega
   subst this; cases hy
   exact hjb rfl
  | q + 2, hq =>
   match p, hy with
   | 0, hy => cases hy; exact wd hjr (chain_spec oc2 (p := 0) (q := q + 1) (by omega) hq rfl)
   | 1, hy => cases hy; exact wd hjr (chain_spec oc1 (p := 0) (q := q + 1) (by omega) hq rfl)
   | p + 2, hy => exact wd hjr (chain_spec oc1 (p := p + 1) (q := q + 1) (by omega) hq hy)
 have a0l : a0 < l.length := by have := List.all_eq_true.1 o7 a0 (by simp); simpa using this
 have b0l : b0 < l.length := by have := List.all_eq_true.1 o7 b0 (by simp); simpa using this
 have hne : a0 ≠ b0 := by
  intro e
  unfold nodupN at o41
  simp [e] at o41
 refine VJ.of_wp fun hd w a H => wp_region_any hm (wpAny_inv (fun d a w => (DInv E l (a0 :: b0 :: r) vs1 hs1 t0 d a w ∧ (d.getD b0 false = true → d.getD a0 false = true)) ∨ (DInv E l (b0 :: a0 :: r) vs2 hs2 t0 d a w ∧ d.getD b0 false = true)) ?_ ?_ (fun d a w h => h.elim (fun h => by simpa using h.1.sz) (fun h => by simpa using h.1.sz)) _ _ _ _ ?_ (Nat.le_trans (List.length_filter_le _ _) (by simp)))
 ·intro d a w j hi hjr
  rcases hi with ⟨hi, hab⟩ | ⟨hi, hb⟩
  ·have hun := una hi.sz hjr
   by_cases hcase : j = b0 ∧ d.getD a0 false = false
   ·obtain ⟨rfl, ha⟩ := hcase
    refine wpOp_mono (fun a' w' h => .inr ⟨h, getD_set_self (by rw [hi.sz]; exact b0l)⟩) (DInv.step _ ps2 vs2 hs2 o1 o32 o42 hl2 (by simpa using hl4) H2 d a w _ (conv d a w hi ha hun) hjr (nx2 d _ hun hjr fun e => absurd e.symm hne))
   ·have hjb : j = b0 → d.getD a0 false = true := fun e => by
     cases hh : d.getD a0 false with
     | true => rfl
     | false => exact absurd ⟨e, hh⟩ hcase
    refine wpOp_mono (fun a' w' h => .inl ⟨h, fun hb' => ?_⟩) (DInv.step _ ps1 vs1 hs1 o1 o31 o41 hl1 (by simpa using hl3) H1 d a w j hi hjr (nx1 d j hun hjr hjb))
    by_cases hja : j = a0
    ·subst hja; exact getD_set_self (by rw [hi.sz]; exact a0l)
    ·rw [getD_set_ne false hja]
     by_cases hj : j = b0
     ·exact hjb hj
     ·rw [getD_set_ne false hj] at hb'
      exact hab hb'
  ·have hun := una hi.sz hjr
   refine wpOp_mono (fun a' w' h => .inr ⟨h, getD_set_true hb⟩) (DInv.step _ ps2 vs2 hs2 o1 o32 o42 hl2 (by simpa using hl4) H2 d a w j hi hjr (nx2 d j hun hjr fun _ => hb))
 ·intro d a w hi hr
  rcases hi with ⟨hi, _⟩ | ⟨hi, _⟩
  ·exact DInv.fin _ vs1 hs1 o7 o8 (by simpa using hy1) hj1 d a w hi hr
  ·refine DInv.fin _ vs2 hs2 ?_ o8 (by simpa using hy2) hj2 d a w hi hr
   simp only [List.all_cons, Bool.and_eq_true] at o7 ⊢
   exact ⟨o7.2.1, o7.1, o7.2.2⟩
 ·refine .inl ⟨DInv.begin_ _ vs1 hs1 h01 hd w a _ (by simp) (H.draws rfl rfl rfl rfl), fun hb => ?_⟩
  exfalso
  by_cases hb2 : b0 < l.length <;> simp [hb2] at hb
end
end Go.Proofs.YtnpnjhopgedhkaaGreat.V
namespace Go.Proofs.YtnpnjhopgedhkaaGreat
open V
def tab : Tab := [
 (2, ⟨false, 1, 8, .int .i64 0, [], none⟩),
 (3, ⟨false, 1, 8, .int .i64 0, [], none⟩),
 (4, ⟨false, 1, 1, .bool false, [], none⟩),
 (5, ⟨false, 1, 1, .int .u8 0, [], none⟩),
 (9, ⟨false, 1, 16, .string ⟨#[]⟩, [], none⟩),
 (12, ⟨false, 1, 8, .int .u64 0, [], none⟩),
 (13, ⟨true, 2, 24, .agg #[.string ⟨#[]⟩, .int .u64 0], [(0, 1), (1, 1)], none⟩),
 (21, ⟨false, 1, 4, .int .i32 0, [], none⟩),
 (22, ⟨false, 1, 24, .slice none 0 0, [], some 3⟩),
 (23, ⟨false, 1, 24, .slice none 0 0, [], some 63⟩),
 (24, ⟨true, 2, 16, .agg #[.int .i64 0, .int .i64 0], [(0, 1), (1, 1)], none⟩),
 (25, ⟨true, 2, 16, .agg #[.int .i64 0, .int .i64 0], [(0, 1), (1, 1)], none⟩),
 (28, ⟨false, 1, 8, .pointer none, [], none⟩),
 (29, ⟨false, 1, 8, .pointer none, [], none⟩),
 (33, ⟨false, 1, 24, .slice none 0 0, [], some 49⟩),
 (35, ⟨false, 1, 8, .pointer none, [], none⟩),
 (36, ⟨false, 1, 8, .pointer none, [], none⟩),
 (37, ⟨true, 4, 32, .agg #[.int .i64 0, .int .i64 0, .pointer none, .pointer none], [(0, 1), (1, 1), (2, 1), (3, 1)], none⟩),
 (38, ⟨true, 4, 32, .agg #[.int .i64 0, .int .i64 0, .pointer none, .pointer none], [(0, 1), (1, 1), (2, 1), (3, 1)], none⟩),
 (48, ⟨true, 6, 48, .agg #[.int .i64 0, .int .i64 0, .int .i64 0, .int .i64 0, .int .i64 0, .int .i64 0], [(0, 2), (2, 2), (4, 2)], none⟩),
 (49, ⟨true, 6, 48, .agg #[.int .i64 0, .int .i64 0, .int .i64 0, .int .i64 0, .int .i64 0, .int .i64 0], [(0, 2), (2, 2), (4, 2)], none⟩),
 (52, ⟨false, 1, 8, .map none, [], none⟩),
 (53, ⟨true, 1, 8, .agg #[.map none], [(0, 1)], none⟩),
 (54, ⟨true, 1, 8, .agg #[.map none], [(0, 1)], none⟩),
 (57, ⟨false, 1, 24, .slice none 0 0, [], some 25⟩),
 (63, ⟨true, 2, 16, .agg #[.int .i64 0, .int .i64 0], [], none⟩),
 (64, ⟨false, 1, 8, .int .i64 0, [], none⟩),
 (70, ⟨true, 4, 32, .agg #[.int .i64 0, .int .i64 0, .int .i64 0, .int .i64 0], [(0, 2), (2, 2)], none⟩),
 (71, ⟨true, 4, 32, .agg #[.int .i64 0, .int .i64 0, .int .i64 0, .int .i64 0], [(0, 2), (2, 2)], none⟩),
 (78, ⟨true, 12, 96, .agg #[.int .i64 0, .int .i64 0, .int .i64 0, .int .i64 0, .int .i64 0, .int .i64 0, .int .i64 0, .int .i64 0, .int .i64 0, .int .i64 0, .int .i64 0, .int .i64 0], [], none⟩),
 (81, ⟨true, 6, 48, .agg #[.int .i64 0, .int .i64 0, .int .i64 0, .int .i64 0, .int .i64 0, .int .i64 0], [], none⟩),
 (83, ⟨false, 1, 8, .map none, [], none⟩),
 (84, ⟨false, 1, 8, .map none, [], none⟩),
 (85, ⟨true, 2, 16, .agg #[.map none, .map none], [(0, 1), (1, 1)], none⟩),
 (86, ⟨true, 2, 16, .agg #[.map none, .map none], [(0, 1), (1, 1)], none⟩),
 (88, ⟨true, 8, 64, .agg #[.int .i64 0, .int .i64 0, .int .i64 0, .int .i64 0, .int .i64 0, .int .i64 0, .int .i64 0, .int .i64 0], [], none⟩),
 (92, ⟨false, 1, 24, .slice none 0 0, [], some 96⟩),
 (93, ⟨true, 1, 24, .agg #[.slice none 0 0], [(0, 1)], none⟩),
 (94, ⟨true, 1, 24, .agg #[.slice none 0 0], [(0, 1)], none⟩),
 (95, ⟨true, 5, 40, .agg #[.int .i64 0, .int .i64 0, .int .i64 0, .int .i64 0, .int .i64 0], [(0, 2), (2, 2), (4, 1)], none⟩),
 (96, ⟨true, 5, 40, .agg #[.int .i64 0, .int .i64 0, .int .i64 0, .int .i64 0, .int .i64 0], [(0, 2), (2, 2), (4, 1)], none⟩),
 (106, ⟨true, 2, 16, .agg #[.int .i64 0, .int .i64 0], [(0, 1), (1, 1)], none⟩),
 (107, ⟨true, 2, 16, .agg #[.int .i64 0, .int .i64 0], [(0, 1), (1, 1)], none⟩),
 (110, ⟨false, 1, 8, .int .u64 0, [], none⟩),
 (111, ⟨true, 2, 16, .agg #[.int .i64 0, .int .u64 0], [(0, 1), (1, 1)], none⟩),
 (112, ⟨true, 2, 16, .agg #[.int .i64 0, .int .u64 0], [(0, 1), (1, 1)], none⟩),
 (127, ⟨false, 1, 8, .map none, [], none⟩),
 (128, ⟨true, 4, 32, .agg #[.int .i64 0, .int .i64 0, .int .i64 0, .int .i64 0], [(0, 2), (2, 2)], none⟩),
 (129, ⟨true, 4, 32, .agg #[.int .i64 0, .int .i64 0, .int .i64 0, .int .i64 0], [(0, 2), (2, 2)], none⟩),
 (130, ⟨false, 1, 24, .slice none 0 0, [], some 129⟩),
 (136, ⟨true, 2, 16, .agg #[.int .i64 0, .int .u64 0], [(0, 1), (1, 1)], none⟩),
 (139, ⟨false, 1, 8, .int .u64 0, [], none⟩),
 (165, ⟨false, 1, 8, .int .i64 0, [], none⟩),
 (173, ⟨false, 1, 4, .int .u32 0, [], none⟩),
 (175, ⟨false, 1, 8, .int .u64 0, [], none⟩),
 (179, ⟨false, 1, 8, .pointer none, [], none⟩),
 (181, ⟨false, 1, 8, .pointer none, [], none⟩),
 (193, ⟨false, 1, 8, .pointer none, [], none⟩)]
theorem ti2 : OkTI Tryz.prog 2 ⟨false, 1, 8, .int .i64 0, [], none⟩ := ⟨by kernel_rfl, by kernel_rfl, by kernel_rfl, by kernel_rfl⟩ -- int64
theorem ti3 : OkTI Tryz.prog 3 ⟨false, 1, 8, .int .i64 0, [], none⟩ := ⟨by kernel_rfl, by kernel_rfl, by kernel_rfl, by kernel_rfl⟩ -- int
theorem ti4 : OkTI Tryz.prog 4 ⟨false, 1, 1, .bool false, [], none⟩ := ⟨by kernel_rfl, by kernel_rfl, by kernel_rfl, by kernel_rfl⟩ -- bool
theorem ti5 : OkTI Tryz.prog 5 ⟨false, 1, 1, .int .u8 0, [], none⟩ := ⟨by kernel_rfl, by kernel_rfl, by kernel_rfl, by kernel_rfl⟩ -- uint8
theorem ti9 : OkTI Tryz.prog 9 ⟨false, 1, 16, .string ⟨#[]⟩, [], none⟩ := ⟨by kernel_rfl, by kernel_rfl, by kernel_rfl, by kernel_rfl⟩ -- string
theorem ti12 : OkTI Tryz.prog 12 ⟨false, 1, 8, .int .u64 0, [], none⟩ := ⟨by kernel_rfl, by kernel_rfl, by kernel_rfl, by kernel_rfl⟩ -- uintptr
theorem ti13 : OkTI Tryz.prog 13 ⟨true, 2, 24, .agg #[.string ⟨#[]⟩, .int .u64 0], [(0, 1), (1, 1)], none⟩ := ⟨by kernel_rfl, by kernel_rfl, by kernel_rfl, by kernel_rfl⟩ -- struct { msg string; addr uintptr }
theorem ti21 : OkTI Tryz.prog 21 ⟨false, 1, 4, .int .i32 0, [], none⟩ := ⟨by kernel_rfl, by kernel_rfl, by kernel_rfl, by kernel_rfl⟩ -- int32
theorem ti22 : OkTI Tryz.prog 22 ⟨false, 1, 24, .slice none 0 0, [], some 3⟩ := ⟨by kernel_rfl, by kernel_rfl, by kernel_rfl, by kernel_rfl⟩ -- []int
theorem ti23 : OkTI Tryz.prog 23 ⟨false, 1, 24, .slice none 0 0, [], some 63⟩ := ⟨by kernel_rfl, by kernel_rfl, by kernel_rfl, by kernel_rfl⟩ -- [][2]int
theorem ti24 : OkTI Tryz.prog 24 ⟨true, 2, 16, .agg #[.int .i64 0, .int .i64 0], [(0, 1), (1, 1)], none⟩ := ⟨by kernel_rfl, by kernel_rfl, by kernel_rfl, by kernel_rfl⟩ -- struct { X int; Y int }
theorem ti25 : OkTI Tryz.prog 25 ⟨true, 2, 16, .agg #[.int .i64 0, .int .i64 0], [(0, 1), (1, 1)], none⟩ := ⟨by kernel_rfl, by kernel_rfl, by kernel_rfl, by kernel_rfl⟩ -- api.Point
theorem ti28 : OkTI Tryz.prog 28 ⟨false, 1, 8, .pointer none, [], none⟩ := ⟨by kernel_rfl, by kernel_rfl, by kernel_rfl, by kernel_rfl⟩ -- *mesh.Mesh
theorem ti29 : OkTI Tryz.prog 29 ⟨false, 1, 8, .pointer none, [], none⟩ := ⟨by kernel_rfl, by kernel_rfl, by kernel_rfl, by kernel_rfl⟩ -- *hectareref1.CDT
theorem ti33 : OkTI Tryz.prog 33 ⟨false, 1, 24, .slice none 0 0, [], some 49⟩ := ⟨by kernel_rfl, by kernel_rfl, by kernel_rfl, by kernel_rfl⟩ -- []api.Tri
theorem ti35 : OkTI Tryz.prog 35 ⟨false, 1, 8, .pointer none, [], none⟩ := ⟨by kernel_rfl, by kernel_rfl, by kernel_rfl, by kernel_rfl⟩ -- *hectareref1.Mesh
theorem ti36 : OkTI Tryz.prog 36 ⟨false, 1, 8, .pointer none, [], none⟩ := ⟨by kernel_rfl, by kernel_rfl, by kernel_rfl, by kernel_rfl⟩ -- *hectareref1.Walls
theorem ti37 : OkTI Tryz.prog 37 ⟨true, 4, 32, .agg #[.int .i64 0, .int .i64 0, .pointer none, .pointer none], [(0, 1), (1, 1), (2, 1), (3, 1)], none⟩ := ⟨by kernel_rfl, by kernel_rfl, by kernel_rfl, by kernel_rfl⟩ -- struct { W int; H int; M *hectareref1.Mesh; S *hectareref1.W
theorem ti38 : OkTI Tryz.prog 38 ⟨true, 4, 32, .agg #[.int .i64 0, .int .i64 0, .pointer none, .pointer none], [(0, 1), (1, 1), (2, 1), (3, 1)], none⟩ := ⟨by kernel_rfl, by kernel_rfl, by kernel_rfl, by kernel_rfl⟩ -- hectareref1.CDT
theorem ti48 : OkTI Tryz.prog 48 ⟨true, 6, 48, .agg #[.int .i64 0, .int .i64 0, .int .i64 0, .int .i64 0, .int .i64 0, .int .i64 0], [(0, 2), (2, 2), (4, 2)], none⟩ := ⟨by kernel_rfl, by kernel_rfl, by kernel_rfl, by kernel_rfl⟩ -- struct { A api.Point; B api.Point; C api.Point }
theorem ti49 : OkTI Tryz.prog 49 ⟨true, 6, 48, .agg #[.int .i64 0, .int .i64 0, .int .i64 0, .int .i64 0, .int .i64 0, .int .i64 0], [(0, 2), (2, 2), (4, 2)], none⟩ := ⟨by kernel_rfl, by kernel_rfl, by kernel_rfl, by kernel_rfl⟩ -- api.Tri
theorem ti52 : OkTI Tryz.prog 52 ⟨false, 1, 8, .map none, [], none⟩ := ⟨by kernel_rfl, by kernel_rfl, by kernel_rfl, by kernel_rfl⟩ -- map[hectareref1.Edge]api.Tri
theorem ti53 : OkTI Tryz.prog 53 ⟨true, 1, 8, .agg #[.map none], [(0, 1)], none⟩ := ⟨by kernel_rfl, by kernel_rfl, by kernel_rfl, by kernel_rfl⟩ -- struct { E map[hectareref1.Edge]api.Tri }
theorem ti54 : OkTI Tryz.prog 54 ⟨true, 1, 8, .agg #[.map none], [(0, 1)], none⟩ := ⟨by kernel_rfl, by kernel_rfl, by kernel_rfl, by kernel_rfl⟩ -- hectareref1.Mesh
theorem ti57 : OkTI Tryz.prog 57 ⟨false, 1, 24, .slice none 0 0, [], some 25⟩ := ⟨by kernel_rfl, by kernel_rfl, by kernel_rfl, by kernel_rfl⟩ -- []api.Point
theorem ti63 : OkTI Tryz.prog 63 ⟨true, 2, 16, .agg #[.int .i64 0, .int .i64 0], [], none⟩ := ⟨by kernel_rfl, by kernel_rfl, by kernel_rfl, by kernel_rfl⟩ -- [2]int
theorem ti64 : OkTI Tryz.prog 64 ⟨false, 1, 8, .int .i64 0, [], none⟩ := ⟨by kernel_rfl, by kernel_rfl, by kernel_rfl, by kernel_rfl⟩ -- api.Errno
theorem ti70 : OkTI Tryz.prog 70 ⟨true, 4, 32, .agg #[.int .i64 0, .int .i64 0, .int .i64 0, .int .i64 0], [(0, 2), (2, 2)], none⟩ := ⟨by kernel_rfl, by kernel_rfl, by kernel_rfl, by kernel_rfl⟩ -- struct { A api.Point; B api.Point }
theorem ti71 : OkTI Tryz.prog 71 ⟨true, 4, 32, .agg #[.int .i64 0, .int .i64 0, .int .i64 0, .int .i64 0], [(0, 2), (2, 2)], none⟩ := ⟨by kernel_rfl, by kernel_rfl, by kernel_rfl, by kernel_rfl⟩ -- hectareref1.Edge
theorem ti78 : OkTI Tryz.prog 78 ⟨true, 12, 96, .agg #[.int .i64 0, .int .i64 0, .int .i64 0, .int .i64 0, .int .i64 0, .int .i64 0, .int .i64 0, .int .i64 0, .int .i64 0, .int .i64 0, .int .i64 0, .int .i64 0], [], none⟩ := ⟨by kernel_rfl, by kernel_rfl, by kernel_rfl, by kernel_rfl⟩ -- [3]hectareref1.Edge
theorem ti81 : OkTI Tryz.prog 81 ⟨true, 6, 48, .agg #[.int .i64 0, .int .i64 0, .int .i64 0, .int .i64 0, .int .i64 0, .int .i64 0], [], none⟩ := ⟨by kernel_rfl, by kernel_rfl, by kernel_rfl, by kernel_rfl⟩ -- [3]api.Point
theorem ti83 : OkTI Tryz.prog 83 ⟨false, 1, 8, .map none, [], none⟩ := ⟨by kernel_rfl, by kernel_rfl, by kernel_rfl, by kernel_rfl⟩ -- map[api.Tri]bool
theorem ti84 : OkTI Tryz.prog 84 ⟨false, 1, 8, .map none, [], none⟩ := ⟨by kernel_rfl, by kernel_rfl, by kernel_rfl, by kernel_rfl⟩ -- map[mesh.edge]api.Tri
theorem ti85 : OkTI Tryz.prog 85 ⟨true, 2, 16, .agg #[.map none, .map none], [(0, 1), (1, 1)], none⟩ := ⟨by kernel_rfl, by kernel_rfl, by kernel_rfl, by kernel_rfl⟩ -- struct { tris map[api.Tri]bool; left map[mesh.edge]api.Tri }
theorem ti86 : OkTI Tryz.prog 86 ⟨true, 2, 16, .agg #[.map none, .map none], [(0, 1), (1, 1)], none⟩ := ⟨by kernel_rfl, by kernel_rfl, by kernel_rfl, by kernel_rfl⟩ -- mesh.Mesh
theorem ti88 : OkTI Tryz.prog 88 ⟨true, 8, 64, .agg #[.int .i64 0, .int .i64 0, .int .i64 0, .int .i64 0, .int .i64 0, .int .i64 0, .int .i64 0, .int .i64 0], [], none⟩ := ⟨by kernel_rfl, by kernel_rfl, by kernel_rfl, by kernel_rfl⟩ -- [4]api.Point
theorem ti92 : OkTI Tryz.prog 92 ⟨false, 1, 24, .slice none 0 0, [], some 96⟩ := ⟨by kernel_rfl, by kernel_rfl, by kernel_rfl, by kernel_rfl⟩ -- []api.Wall
theorem ti93 : OkTI Tryz.prog 93 ⟨true, 1, 24, .agg #[.slice none 0 0], [(0, 1)], none⟩ := ⟨by kernel_rfl, by kernel_rfl, by kernel_rfl, by kernel_rfl⟩ -- struct { L []api.Wall }
theorem ti94 : OkTI Tryz.prog 94 ⟨true, 1, 24, .agg #[.slice none 0 0], [(0, 1)], none⟩ := ⟨by kernel_rfl, by kernel_rfl, by kernel_rfl, by kernel_rfl⟩ -- hectareref1.Walls
theorem ti95 : OkTI Tryz.prog 95 ⟨true, 5, 40, .agg #[.int .i64 0, .int .i64 0, .int .i64 0, .int .i64 0, .int .i64 0], [(0, 2), (2, 2), (4, 1)], none⟩ := ⟨by kernel_rfl, by kernel_rfl, by kernel_rfl, by kernel_rfl⟩ -- struct { A api.Point; B api.Point; Kind int }
theorem ti96 : OkTI Tryz.prog 96 ⟨true, 5, 40, .agg #[.int .i64 0, .int .i64 0, .int .i64 0, .int .i64 0, .int .i64 0], [(0, 2), (2, 2), (4, 1)], none⟩ := ⟨by kernel_rfl, by kernel_rfl, by kernel_rfl, by kernel_rfl⟩ -- api.Wall
theorem ti106 : OkTI Tryz.prog 106 ⟨true, 2, 16, .agg #[.int .i64 0, .int .i64 0], [(0, 1), (1, 1)], none⟩ := ⟨by kernel_rfl, by kernel_rfl, by kernel_rfl, by kernel_rfl⟩ -- struct { n int; of int }
theorem ti107 : OkTI Tryz.prog 107 ⟨true, 2, 16, .agg #[.int .i64 0, .int .i64 0], [(0, 1), (1, 1)], none⟩ := ⟨by kernel_rfl, by kernel_rfl, by kernel_rfl, by kernel_rfl⟩ -- reach.part
theorem ti110 : OkTI Tryz.prog 110 ⟨false, 1, 8, .int .u64 0, [], none⟩ := ⟨by kernel_rfl, by kernel_rfl, by kernel_rfl, by kernel_rfl⟩ -- uint64
theorem ti111 : OkTI Tryz.prog 111 ⟨true, 2, 16, .agg #[.int .i64 0, .int .u64 0], [(0, 1), (1, 1)], none⟩ := ⟨by kernel_rfl, by kernel_rfl, by kernel_rfl, by kernel_rfl⟩ -- struct { Hi int64; Lo uint64 }
theorem ti112 : OkTI Tryz.prog 112 ⟨true, 2, 16, .agg #[.int .i64 0, .int .u64 0], [(0, 1), (1, 1)], none⟩ := ⟨by kernel_rfl, by kernel_rfl, by kernel_rfl, by kernel_rfl⟩ -- hectareref1.Wide
theorem ti127 : OkTI Tryz.prog 127 ⟨false, 1, 8, .map none, [], none⟩ := ⟨by kernel_rfl, by kernel_rfl, by kernel_rfl, by kernel_rfl⟩ -- map[mesh.edge]bool
theorem ti128 : OkTI Tryz.prog 128 ⟨true, 4, 32, .agg #[.int .i64 0, .int .i64 0, .int .i64 0, .int .i64 0], [(0, 2), (2, 2)], none⟩ := ⟨by kernel_rfl, by kernel_rfl, by kernel_rfl, by kernel_rfl⟩ -- struct { a api.Point; b api.Point }
theorem ti129 : OkTI Tryz.prog 129 ⟨true, 4, 32, .agg #[.int .i64 0, .int .i64 0, .int .i64 0, .int .i64 0], [(0, 2), (2, 2)], none⟩ := ⟨by kernel_rfl, by kernel_rfl, by kernel_rfl, by kernel_rfl⟩ -- mesh.edge
theorem ti130 : OkTI Tryz.prog 130 ⟨false, 1, 24, .slice none 0 0, [], some 129⟩ := ⟨by kernel_rfl, by kernel_rfl, by kernel_rfl, by kernel_rfl⟩ -- []mesh.edge
theorem ti136 : OkTI Tryz.prog 136 ⟨true, 2, 16, .agg #[.int .i64 0, .int .u64 0], [(0, 1), (1, 1)], none⟩ := ⟨by kernel_rfl, by kernel_rfl, by kernel_rfl, by kernel_rfl⟩ -- wide.Int
theorem ti139 : OkTI Tryz.prog 139 ⟨false, 1, 8, .int .u64 0, [], none⟩ := ⟨by kernel_rfl, by kernel_rfl, by kernel_rfl, by kernel_rfl⟩ -- uint
theorem ti165 : OkTI Tryz.prog 165 ⟨false, 1, 8, .int .i64 0, [], none⟩ := ⟨by kernel_rfl, by kernel_rfl, by kernel_rfl, by kernel_rfl⟩ -- slices.sortedHint
theorem ti173 : OkTI Tryz.prog 173 ⟨false, 1, 4, .int .u32 0, [], none⟩ := ⟨by kernel_rfl, by kernel_rfl, by kernel_rfl, by kernel_rfl⟩ -- uint32
theorem ti175 : OkTI Tryz.prog 175 ⟨false, 1, 8, .int .u64 0, [], none⟩ := ⟨by kernel_rfl, by kernel_rfl, by kernel_rfl, by kernel_rfl⟩ -- slices.xorshift
theorem ti179 : OkTI Tryz.prog 179 ⟨false, 1, 8, .pointer none, [], none⟩ := ⟨by kernel_rfl, by kernel_rfl, by kernel_rfl, by kernel_rfl⟩ -- *int
theorem ti181 : OkTI Tryz.prog 181 ⟨false, 1, 8, .pointer none, [], none⟩ := ⟨by kernel_rfl, by kernel_rfl, by kernel_rfl, by kernel_rfl⟩ -- *slices.xorshift
theorem ti193 : OkTI Tryz.prog 193 ⟨false, 1, 8, .pointer none, [], none⟩ := ⟨by kernel_rfl, by kernel_rfl, by kernel_rfl, by kernel_rfl⟩ -- *uint8
theorem Tab.Ok.nil {P : Program} : V.Tab.Ok P [] := fun _ _ h => by cases h
theorem Tab.Ok.cons {P : Program} {T : Nat} {ti : TI} {r : V.Tab} (h : OkTI P T ti) (k : V.Tab.Ok P r) : V.Tab.Ok P ((T, ti) :: r) := by
 intro T' ti' e
 unfold lk at e
 split at e
 ·rename_i q; cases e; subst q; exact h
 ·exact k T' ti' e
theorem tok : V.Tab.Ok Tryz.prog tab := Tab.Ok.cons ti2 (Tab.Ok.cons ti3 (Tab.Ok.cons ti4 (Tab.Ok.cons ti5 (Tab.Ok.cons ti9 (Tab.Ok.cons ti12 (Tab.Ok.cons ti13 (Tab.Ok.cons ti21 (Tab.Ok.cons ti22 (Tab.Ok.cons ti23 (Tab.Ok.cons ti24 (Tab.Ok.cons ti25 (Tab.Ok.cons ti28 (Tab.Ok.cons ti29 (Tab.Ok.cons ti33 (Tab.Ok.cons ti35 (Tab.Ok.cons ti36 (Tab.Ok.cons ti37 (Tab.Ok.cons ti38 (Tab.Ok.cons ti48 (Tab.Ok.cons ti49 (Tab.Ok.cons ti52 (Tab.Ok.cons ti53 (Tab.Ok.cons ti54 (Tab.Ok.cons ti57 (Tab.Ok.cons ti63 (Tab.Ok.cons ti64 (Tab.Ok.cons ti70 (Tab.Ok.cons ti71 (Tab.Ok.cons ti78 (Tab.Ok.cons ti81 (Tab.Ok.cons ti83 (Tab.Ok.cons ti84 (Tab.Ok.cons ti85 (Tab.Ok.cons ti86 (Tab.Ok.cons ti88 (Tab.Ok.cons ti92 (Tab.Ok.cons ti93 (Tab.Ok.cons ti94 (Tab.Ok.cons ti95 (Tab.Ok.cons ti96 (Tab.Ok.cons ti106 (Tab.Ok.cons ti107 (Tab.Ok.cons ti110 (Tab.Ok.cons ti111 (Tab.Ok.cons ti112 (Tab.Ok.cons ti127 (Tab.Ok.cons ti128 (Tab.Ok.cons ti129 (Tab.Ok.cons ti130 (Tab.Ok.cons ti136 (Tab.Ok.cons ti139 (Tab.Ok.cons ti165 (Tab.Ok.cons ti173 (Tab.Ok.cons ti175 (Tab.Ok.cons ti179 (Tab.Ok.cons ti181 (Tab.Ok.cons ti193 (Tab.Ok.nil))))))))))))))))))))))))))))))))))))))))))))))))))))))))))
def ptrs : List Nat := [28, 29, 35, 36, 179, 181, 193]
theorem ptr28 : Tryz.prog.underlying 28 = some (.pointer (Tryz.prog.pointee 28)) := by kernel_rfl
theorem ptr29 : Tryz.prog.underlying 29 = some (.pointer (Tryz.prog.pointee 29)) := by kernel_rfl
theorem ptr35 : Tryz.prog.underlying 35 = some (.pointer (Tryz.prog.pointee 35)) := by kernel_rfl
theorem ptr36 : Tryz.prog.underlying 36 = some (.pointer (Tryz.prog.pointee 36)) := by kernel_rfl
theorem ptr179 : Tryz.prog.underlying 179 = some (.pointer (Tryz.prog.pointee 179)) := by kernel_rfl
theorem ptr181 : Tryz.prog.underlying 181 = some (.pointer (Tryz.prog.pointee 181)) := by kernel_rfl
theorem ptr193 : Tryz.prog.underlying 193 = some (.pointer (Tryz.prog.pointee 193)) := by kernel_rfl
theorem ptrOk {T : Nat} (h : ptrs.contains T = true) : Tryz.prog.underlying T = some (.pointer (Tryz.prog.pointee T)) := by
 have : T ∈ ptrs := by simpa using h
 simp only [ptrs, List.mem_cons, List.not_mem_nil, or_false] at this
 rcases this with rfl | rfl | rfl | rfl | rfl | rfl | rfl
 ·exact ptr28
 ·exact ptr29
 ·exact ptr35
 ·exact ptr36
 ·exact ptr179
 ·exact ptr181
 ·exact ptr193
def maps : List (Nat × (Nat × Nat)) := [(52, (71, 49)), (83, (49, 4)), (84, (129, 49)), (127, (129, 4))]
theorem mapOk {T k e : Nat} (h : lk maps T = some (k, e)) : Tryz.prog.underlying T = some (.map k e) := by
 simp only [maps, lk] at h
 split at h
 ·rename_i q; cases h; subst q; kernel_rfl
 split at h
 ·rename_i q; cases h; subst q; kernel_rfl
 split at h
 ·rename_i q; cases h; subst q; kernel_rfl
 split at h
 ·rename_i q; cases h; subst q; kernel_rfl
 cases h
def arrs : List (Nat × (Nat × Nat)) := [(63, (2, 3)), (78, (3, 71)), (81, (3, 25)), (88, (4, 25))]
theorem arrOk {T k e : Nat} (h : lk arrs T = some (k, e)) : Tryz.prog.underlying T = some (.array k e) := by
 simp only [arrs, lk] at h
 split at h
 ·rename_i q; cases h; subst q; kernel_rfl
 split at h
 ·rename_i q; cases h; subst q; kernel_rfl
 split at h
 ·rename_i q; cases h; subst q; kernel_rfl
 split at h
 ·rename_i q; cases h; subst q; kernel_rfl
 cases h
theorem fok7 : FnOk Tryz.prog 7 := enters_of Tryz.func7 (by kernel_rfl) rfl
theorem fok8 : FnOk Tryz.prog 8 := enters_of Tryz.func8 (by kernel_rfl) rfl
theorem fok9 : FnOk Tryz.prog 9 := enters_of Tryz.func9 (by kernel_rfl) rfl
theorem fok10 : FnOk Tryz.prog 10 := enters_of Tryz.func10 (by kernel_rfl) rfl
theorem fok11 : FnOk Tryz.prog 11 := enters_of Tryz.func11 (by kernel_rfl) rfl
theorem fok12 : FnOk Tryz.prog 12 := enters_of Tryz.func12 (by kernel_rfl) rfl
theorem fok13 : FnOk Tryz.prog 13 := enters_of Tryz.func13 (by kernel_rfl) rfl
theorem fok14 : FnOk Tryz.prog 14 := enters_of Tryz.func14 (by kernel_rfl) rfl
theorem fok15 : FnOk Tryz.prog 15 := enters_of Tryz.func15 (by kernel_rfl) rfl
theorem fok16 : FnOk Tryz.prog 16 := enters_of Tryz.func16 (by kernel_rfl) rfl
theorem fok17 : FnOk Tryz.prog 17 := enters_of Tryz.func17 (by kernel_rfl) rfl
theorem fok18 : FnOk Tryz.prog 18 := enters_of Tryz.func18 (by kernel_rfl) rfl
theorem fok19 : FnOk Tryz.prog 19 := enters_of Tryz.func19 (by kernel_rfl) rfl
theorem fok20 : FnOk Tryz.prog 20 := enters_of Tryz.func20 (by kernel_rfl) rfl
theorem fok21 : FnOk Tryz.prog 21 := enters_of Tryz.func21 (by kernel_rfl) rfl
theorem fok25 : FnOk Tryz.prog 25 := enters_of Tryz.func25 (by kernel_rfl) rfl
theorem fok26 : FnOk Tryz.prog 26 := enters_of Tryz.func26 (by kernel_rfl) rfl
theorem fok27 : FnOk Tryz.prog 27 := enters_of Tryz.func27 (by kernel_rfl) rfl
theorem fok28 : FnOk Tryz.prog 28 := enters_of Tryz.func28 (by kernel_rfl) rfl
theorem fok29 : FnOk Tryz.prog 29 := enters_of Tryz.func29 (by kernel_rfl) rfl
theorem fok30 : FnOk Tryz.prog 30 := enters_of Tryz.func30 (by kernel_rfl) rfl
theorem fok31 : FnOk Tryz.prog 31 := enters_of Tryz.func31 (by kernel_rfl) rfl
theorem fok32 : FnOk Tryz.prog 32 := enters_of Tryz.func32 (by kernel_rfl) rfl
theorem fok33 : FnOk Tryz.prog 33 := enters_of Tryz.func33 (by kernel_rfl) rfl
theorem fok34 : FnOk Tryz.prog 34 := enters_of Tryz.func34 (by kernel_rfl) rfl
theorem fok35 : FnOk Tryz.prog 35 := enters_of Tryz.func35 (by kernel_rfl) rfl
theorem fok36 : FnOk Tryz.prog 36 := enters_of Tryz.func36 (by kernel_rfl) rfl
theorem fok37 : FnOk Tryz.prog 37 := enters_of Tryz.func37 (by kernel_rfl) rfl
theorem fok38 : FnOk Tryz.prog 38 := enters_of Tryz.func38 (by kernel_rfl) rfl
theorem fok39 : FnOk Tryz.prog 39 := enters_of Tryz.func39 (by kernel_rfl) rfl
theorem fok40 : FnOk Tryz.prog 40 := enters_of Tryz.func40 (by kernel_rfl) rfl
theorem fok41 : FnOk Tryz.prog 41 := enters_of Tryz.func41 (by kernel_rfl) rfl
theorem fok42 : FnOk Tryz.prog 42 := enters_of Tryz.func42 (by kernel_rfl) rfl
theorem fok43 : FnOk Tryz.prog 43 := enters_of Tryz.func43 (by kernel_rfl) rfl
theorem fok44 : FnOk Tryz.prog 44 := enters_of Tryz.func44 (by kernel_rfl) rfl
theorem fok46 : FnOk Tryz.prog 46 := enters_of Tryz.func46 (by kernel_rfl) rfl
theorem fok47 : FnOk Tryz.prog 47 := enters_of Tryz.func47 (by kernel_rfl) rfl
theorem fok48 : FnOk Tryz.prog 48 := enters_of Tryz.func48 (by kernel_rfl) rfl
theorem fok49 : FnOk Tryz.prog 49 := enters_of Tryz.func49 (by kernel_rfl) rfl
theorem fok50 : FnOk Tryz.prog 50 := enters_of Tryz.func50 (by kernel_rfl) rfl
theorem fok51 : FnOk Tryz.prog 51 := enters_of Tryz.func51 (by kernel_rfl) rfl
theorem fok52 : FnOk Tryz.prog 52 := enters_of Tryz.func52 (by kernel_rfl) rfl
theorem fok53 : FnOk Tryz.prog 53 := enters_of Tryz.func53 (by kernel_rfl) rfl
theorem fok54 : FnOk Tryz.prog 54 := enters_of Tryz.func54 (by kernel_rfl) rfl
theorem fok55 : FnOk Tryz.prog 55 := enters_of Tryz.func55 (by kernel_rfl) rfl
theorem fok56 : FnOk Tryz.prog 56 := enters_of Tryz.func56 (by kernel_rfl) rfl
theorem fok57 : FnOk Tryz.prog 57 := enters_of Tryz.func57 (by kernel_rfl) rfl
theorem fok58 : FnOk Tryz.prog 58 := enters_of Tryz.func58 (by kernel_rfl) rfl
theorem fok59 : FnOk Tryz.prog 59 := enters_of Tryz.func59 (by kernel_rfl) rfl
theorem fok60 : FnOk Tryz.prog 60 := enters_of Tryz.func60 (by kernel_rfl) rfl
theorem fok61 : FnOk Tryz.prog 61 := enters_of Tryz.func61 (by kernel_rfl) rfl
theorem fok62 : FnOk Tryz.prog 62 := enters_of Tryz.func62 (by kernel_rfl) rfl
theorem fok63 : FnOk Tryz.prog 63 := enters_of Tryz.func63 (by kernel_rfl) rfl
theorem fok64 : FnOk Tryz.prog 64 := enters_of Tryz.func64 (by kernel_rfl) rfl
theorem fok65 : FnOk Tryz.prog 65 := enters_of Tryz.func65 (by kernel_rfl) rfl
theorem fok66 : FnOk Tryz.prog 66 := enters_of Tryz.func66 (by kernel_rfl) rfl
theorem fok67 : FnOk Tryz.prog 67 := enters_of Tryz.func67 (by kernel_rfl) rfl
theorem fok68 : FnOk Tryz.prog 68 := enters_of Tryz.func68 (by kernel_rfl) rfl
theorem fok69 : FnOk Tryz.prog 69 := enters_of Tryz.func69 (by kernel_rfl) rfl
theorem fok70 : FnOk Tryz.prog 70 := enters_of Tryz.func70 (by kernel_rfl) rfl
theorem fok71 : FnOk Tryz.prog 71 := enters_of Tryz.func71 (by kernel_rfl) rfl
theorem fok72 : FnOk Tryz.prog 72 := enters_of Tryz.func72 (by kernel_rfl) rfl
theorem fok73 : FnOk Tryz.prog 73 := enters_of Tryz.func73 (by kernel_rfl) rfl
theorem fok74 : FnOk Tryz.prog 74 := enters_of Tryz.func74 (by kernel_rfl) rfl
theorem fok75 : FnOk Tryz.prog 75 := enters_of Tryz.func75 (by kernel_rfl) rfl
theorem fok76 : FnOk Tryz.prog 76 := enters_of Tryz.func76 (by kernel_rfl) rfl
theorem fok77 : FnOk Tryz.prog 77 := enters_of Tryz.func77 (by kernel_rfl) rfl
theorem fok78 : FnOk Tryz.prog 78 := enters_of Tryz.func78 (by kernel_rfl) rfl
theorem fok79 : FnOk Tryz.prog 79 := enters_of Tryz.func79 (by kernel_rfl) rfl
theorem fok80 : FnOk Tryz.prog 80 := enters_of Tryz.func80 (by kernel_rfl) rfl
theorem fok81 : FnOk Tryz.prog 81 := enters_of Tryz.func81 (by kernel_rfl) rfl
theorem fok82 : FnOk Tryz.prog 82 := enters_of Tryz.func82 (by kernel_rfl) rfl
theorem fok83 : FnOk Tryz.prog 83 := enters_of Tryz.func83 (by kernel_rfl) rfl
theorem fok84 : FnOk Tryz.prog 84 := enters_of Tryz.func84 (by kernel_rfl) rfl
theorem fok85 : FnOk Tryz.prog 85 := enters_of Tryz.func85 (by kernel_rfl) rfl
theorem fok86 : FnOk Tryz.prog 86 := enters_of Tryz.func86 (by kernel_rfl) rfl
theorem fok87 : FnOk Tryz.prog 87 := enters_of Tryz.func87 (by kernel_rfl) rfl
theorem fok88 : FnOk Tryz.prog 88 := enters_of Tryz.func88 (by kernel_rfl) rfl
theorem fok90 : FnOk Tryz.prog 90 := enters_of Tryz.func90 (by kernel_rfl) rfl
theorem fok91 : FnOk Tryz.prog 91 := enters_of Tryz.func91 (by kernel_rfl) rfl
theorem fok92 : FnOk Tryz.prog 92 := enters_of Tryz.func92 (by kernel_rfl) rfl
theorem fok93 : FnOk Tryz.prog 93 := enters_of Tryz.func93 (by kernel_rfl) rfl
theorem fok94 : FnOk Tryz.prog 94 := enters_of Tryz.func94 (by kernel_rfl) rfl
theorem fok95 : FnOk Tryz.prog 95 := enters_of Tryz.func95 (by kernel_rfl) rfl
theorem fok96 : FnOk Tryz.prog 96 := enters_of Tryz.func96 (by kernel_rfl) rfl
theorem fok97 : FnOk Tryz.prog 97 := enters_of Tryz.func97 (by kernel_rfl) rfl
theorem fok98 : FnOk Tryz.prog 98 := enters_of Tryz.func98 (by kernel_rfl) rfl
theorem fok99 : FnOk Tryz.prog 99 := enters_of Tryz.func99 (by kernel_rfl) rfl
theorem fok100 : FnOk Tryz.prog 100 := enters_of Tryz.func100 (by kernel_rfl) rfl
theorem fok104 : FnOk Tryz.prog 104 := enters_of Tryz.func104 (by kernel_rfl) rfl
theorem fok105 : FnOk Tryz.prog 105 := enters_of Tryz.func105 (by kernel_rfl) rfl
theorem fok106 : FnOk Tryz.prog 106 := enters_of Tryz.func106 (by kernel_rfl) rfl
theorem fok107 : FnOk Tryz.prog 107 := enters_of Tryz.func107 (by kernel_rfl) rfl
theorem fok108 : FnOk Tryz.prog 108 := enters_of Tryz.func108 (by kernel_rfl) rfl
theorem fok109 : FnOk Tryz.prog 109 := enters_of Tryz.func109 (by kernel_rfl) rfl
theorem fok110 : FnOk Tryz.prog 110 := enters_of Tryz.func110 (by kernel_rfl) rfl
theorem fok111 : FnOk Tryz.prog 111 := enters_of Tryz.func111 (by kernel_rfl) rfl
theorem fok112 : FnOk Tryz.prog 112 := enters_of Tryz.func112 (by kernel_rfl) rfl
theorem fok113 : FnOk Tryz.prog 113 := enters_of Tryz.func113 (by kernel_rfl) rfl
theorem fok114 : FnOk Tryz.prog 114 := enters_of Tryz.func114 (by kernel_rfl) rfl
theorem fok115 : FnOk Tryz.prog 115 := enters_of Tryz.func115 (by kernel_rfl) rfl
end Go.Proofs.YtnpnjhopgedhkaaGreat
namespace Go.Proofs.YtnpnjhopgedhkaaGreat.Geo
structure Pt where
 x : Int
 y : Int
deriving DecidableEq
def Pt.ok (p : Pt) : Prop := 0 ≤ p.x ∧ p.x < 16777216 ∧ 0 ≤ p.y ∧ p.y < 16777216
instance decOk (p : Pt) : Decidable p.ok := inferInstanceAs (Decidable (_ ∧ _ ∧ _ ∧ _))
def tw (a b c : Pt) : Int := (b.x - a.x) * (c.y - a.y) - (b.y - a.y) * (c.x - a.x)
def sg (n : Int) : Int := if n < 0 then -1 else if 0 < n then 1 else 0
def cp (p q : Pt) : Int := if p.x < q.x then -1 else if q.x < p.x then 1 else if p.y < q.y then -1 else if q.y < p.y then 1 else 0
theorem sg_neg {n : Int} (h : n < 0) : sg n = -1 := by simp [sg, h]
theorem sg_pos {n : Int} (h : 0 < n) : sg n = 1 := by
 have : ¬ n < 0 := by omega
 simp [sg, h, this]
theorem sg_cases (n : Int) : (n < 0 ∧ sg n = -1) ∨ (n = 0 ∧ sg n = 0) ∨ (0 < n ∧ sg n = 1) := by
 rcases Int.lt_trichotomy n 0 with h | h | h
 ·exact .inl ⟨h, sg_neg h⟩
 ·exact .inr (.inl ⟨h, by rw [h]; rfl⟩)
 ·exact .inr (.inr ⟨h, sg_pos h⟩)
theorem cp_zero {p q : Pt} : cp p q = 0 ↔ p = q := by
 obtain ⟨a, b⟩ := p
 obtain ⟨c, d⟩ := q
 unfold cp
 simp only [Pt.mk.injEq]
 split
 ·constructor <;> intro h <;> omega
 ·split
  ·constructor <;> intro h <;> omega
  ·split
   ·constructor <;> intro h <;> omega
   ·split <;> constructor <;> intro h <;> omega
theorem cp_neg {p q : Pt} : cp p q < 0 ↔ p.x < q.x ∨ p.x = q.x ∧ p.y < q.y := by
 unfold cp
 split
 ·omega
 ·split
  ·omega
  ·split
   ·omega
   ·split <;> omega
theorem cp_pos {p q : Pt} : 0 < cp p q ↔ q.x < p.x ∨ p.x = q.x ∧ q.y < p.y := by
 unfold cp
 split
 ·omega
 ·split
  ·omega
  ·split
   ·omega
   ·split <;> omega
theorem cp_self (p : Pt) : cp p p = 0 := cp_zero.2 rfl
theorem cp_three (p q : Pt) : cp p q = -1 ∨ cp p q = 0 ∨ cp p q = 1 := by
 unfold cp
 split
 ·omega
 ·split
  ·omega
  ·split
   ·omega
   ·split <;> omega
theorem cp_lt {p q : Pt} (h : p.x < q.x ∨ p.x = q.x ∧ p.y < q.y) : cp p q = -1 := by
 have := cp_neg.2 h
 rcases cp_three p q with e | e | e <;> omega
theorem cp_gt {p q : Pt} (h : q.x < p.x ∨ p.x = q.x ∧ q.y < p.y) : cp p q = 1 := by
 have := cp_pos.2 h
 rcases cp_three p q with e | e | e <;> omega
theorem cp_flip (p q : Pt) : cp q p = - cp p q := by
 rcases cp_three p q with e | e | e
 ·have h := cp_neg.1 (show cp p q < 0 by omega)
  rw [e, cp_gt (by omega)]; rfl
 ·have h := cp_zero.1 e
  subst h
  rw [cp_self]; rfl
 ·have h := cp_pos.1 (show 0 < cp p q by omega)
  rw [e, cp_lt (by omega)]
def bt (n a b : Int) : Prop := min a b ≤ n ∧ n ≤ max a b
instance decBt (n a b : Int) : Decidable (bt n a b) := inferInstanceAs (Decidable (_ ∧ _))
def onR (p a b : Pt) : Bool := decide (p.ok ∧ a.ok ∧ b.ok) && decide (tw a b p = 0) && decide (bt p.x a.x b.x) && decide (bt p.y a.y b.y)
def lesser (p q : Pt) : Pt := if cp p q < 0 then p else q
def greater (p q : Pt) : Pt := if cp p q < 0 then q else p
def inlR (a b c d : Pt) : Int := if cp (greater (lesser a b) (lesser c d)) (lesser (greater a b) (greater c d)) < 0 then 3 else 0
def touch (p a b : Pt) : Int := if onR p a b = true ∧ p ≠ a ∧ p ≠ b then 2 else 0
def meetR (a b c d : Pt) : Int :=
 if ¬ (a.ok ∧ b.ok ∧ c.ok ∧ d.ok) ∨ a = b ∨ c = d then 0
 else if sg (tw a b c) = 0 ∧ sg (tw a b d) = 0 then inlR a b c d
 else if sg (tw a b c) * sg (tw a b d) < 0 ∧ sg (tw c d a) * sg (tw c d b) < 0 then 1
 else max (max (max (touch a c d) (touch b c d)) (touch c a b)) (touch d a b)
end Go.Proofs.YtnpnjhopgedhkaaGreat.Geo
namespace Go.Proofs.YtnpnjhopgedhkaaGreat
open Go.RowKit V Geo
def cmpI (a b : Int) : Int := if a < b then -1 else if b < a then 1 else 0
def orI : List Int → Int
 | [] => 0
 | z :: l => if z = 0 then orI l else z
theorem orI_drop (zs : List Int) (k : Nat) (hk : k < zs.length) : orI (zs.drop k) = if zs[k] = 0 then orI (zs.drop (k + 1)) else zs[k] := by
 rw [List.drop_eq_getElem_cons hk, orI]
theorem isNaN_c (a : Int) (w : World) : Calls Tryz.prog 119 #[.int .i64 a] w fun e w' => e = .returned (.bool false) ∧ w' = w := by
 go_enter Tryz.func119, Tryz.ntmps119
 go_wp2
 all_goals (go_ret; simp [*])
theorem compare_c (a b : Int) (w : World) : Calls Tryz.prog 107 #[.int .i64 a, .int .i64 b] w fun e w' => e = .returned (.int .i64 (cmpI a b)) ∧ w' = w := by
 go_enter Tryz.func107, Tryz.ntmps107
 rcases Int.lt_trichotomy a b with h | h | h
 ·have h1 : decide (a < b) = true := by simp [h]
  have hs : cmpI a b = -1 := by simp [cmpI, h]
  rw [hs]; clear hs
  go_wp2_with (go_at_call 119; refine (isNaN_c _ _).mono ?_; rintro e w' ⟨rfl, rfl⟩)
  all_goals first | (exfalso; omega) | (go_ret; simp)
 ·subst h
  have hs : cmpI a a = 0 := by simp [cmpI]
  rw [hs]; clear hs
  go_wp2_with (go_at_call 119; refine (isNaN_c _ _).mono ?_; rintro e w' ⟨rfl, rfl⟩)
  all_goals first | (exfalso; omega) | (go_ret; simp)
 ·have hs : cmpI a b = 1 := by simp [cmpI]; omega
  rw [hs]; clear hs
  go_wp2_with (go_at_call 119; refine (isNaN_c _ _).mono ?_; rintro e w' ⟨rfl, rfl⟩)
  all_goals first | (exfalso; omega) | (go_ret; simp)
attribute [local irreducible] VR VJ VC
theorem v_compare (a b : Int) (G : Gl) (Q : Po) (hQ : Q (vI (cmpI a b)) G) : VC Tryz.prog 107 [vI a, vI b] G Q :=
 VC.of_calls (vals := [.int .i64 a, .int .i64 b]) (fun w => (compare_c a b w).mono fun e w' h => ⟨h.1, h.2 ▸ Below.refl _ _⟩) hQ
theorem v_or (zs : List Int) (hl : zs.length < 4611686018427387904) (G : Gl) (Q : Po) (hQ : Q (vI (orI zs)) G) : VC Tryz.prog 104 [vL 1 (zs.map (Value.int .i64))] G Q := by
 refine VC.of_body Tryz.func104 rfl rfl rfl fun W0 h0 x0 hG0 => ?_
 simp only [args0]
 repeat' (first | refine VJ.seq ?_ | refine VJ.block ?_ | refine VJ.region_k fun K hK => ?_ | (refine VR.done (hK _ ?_); clear hK K) | (first | refine VR.move rfl rfl ?_ | refine VR.assign rfl rfl ?_ | refine VR.len tok rfl rfl rfl rfl rfl ?_))
 refine VJ.to 0 [(8, vI ((0 : Nat) : Int)), (7, vI zs.length), (6, vL 1 (zs.map (Value.int .i64))), (3, vI 0)] [] ?_ rfl ⟨by rfl, by simp [lk], by rfl, by rfl, trivial⟩ trivial (by rfl)
 refine VJ.rec (fun j : Nat => ⟨0, [(8, vI j), (7, vI zs.length), (6, vL 1 (zs.map (Value.int .i64))), (3, vI 0)], [], _⟩) (fun j => zs.length - j) (fun j => j ≤ zs.length ∧ orI (zs.drop j) = orI zs) 0 ⟨Nat.zero_le _, rfl⟩ ?_
 rintro j ⟨hj, hd⟩ ih
 repeat' (first | refine VJ.seq ?_ | refine VJ.region_k fun K hK => ?_ | (refine VR.done (hK _ ?_); clear hK K) | (first | refine VR.int rfl rfl rfl rfl ?_))
 refine VJ.cond rfl (fun hb => ?_) (fun hb => ?_)
 ·have hlt : j < zs.length := by simpa using hb
  have hget : (zs.map (Value.int .i64))[j]? = some (.int .i64 zs[j]) := by simp [hlt]
  rw [orI_drop zs j hlt] at hd
  repeat' (first | refine VJ.seq ?_ | refine VJ.skip ?_ | refine VJ.block ?_ | refine VJ.region_k fun K hK => ?_ | (refine VR.done (hK _ ?_); clear hK K) | (first | refine VR.move rfl rfl ?_ | refine VR.assign rfl rfl ?_ | (show onLd; refine VR.load tok rfl rfl rfl (by first | rfl | exact (ldp_el (by assumption)).trans (by rfl)) ?_) | (show onIx; refine VR.indexAddr tok rfl rfl rfl rfl rfl rfl rfl (elA_lst (by assumption)) ?_) | refine VR.int rfl rfl rfl rfl ?_))
  refine VJ.cond rfl (fun hc => ?_) (fun hc => ?_)
  ·rw [if_neg (by simpa using hc)] at hd
   repeat' (first | refine VJ.seq ?_ | refine VJ.region_k fun K hK => ?_ | (refine VR.done (hK _ ?_); clear hK K) | (first | refine VR.move rfl rfl ?_ | refine VR.assign rfl rfl ?_))
   refine VJ.ret tok (by rfl) (by rfl) ?_
   rw [hd]; exact hQ
  ·rw [if_pos (by simpa using hc)] at hd
   repeat' (first | refine VJ.skip ?_ | refine VJ.inBlock ?_ | refine VJ.region_k fun K hK => ?_ | (refine VR.done (hK _ ?_); clear hK K) | (first | refine VR.move rfl rfl ?_ | refine VR.int rfl rfl rfl rfl ?_))
   exact VJ.to 0 _ _ (ih (j + 1) ⟨hlt, hd⟩ (by omega)) rfl ⟨vI_succ (by omega), by rfl, by rfl, by rfl, trivial⟩ trivial (by rfl)
 ·have hge : j = zs.length := by simp at hb; omega
  subst hge
  rw [List.drop_length] at hd
  repeat' (first | refine VJ.seq ?_ | refine VJ.exit rfl ?_ | refine VJ.region_k fun K hK => ?_ | (refine VR.done (hK _ ?_); clear hK K) | (first | refine VR.move rfl rfl ?_ | refine VR.assign rfl rfl ?_))
  refine VJ.ret tok (by rfl) (by rfl) ?_
  rw [← hd] at hQ
  exact hQ
def ptV (p : Pt) : Value := .agg #[.int .i64 p.x, .int .i64 p.y]
abbrev bxP (p : Pt) : VO := .box [.d (.v (.int .i64 p.x)), .d (.v (.int .i64 p.y))]
theorem ok_eq (p : Pt) : (bif (bif (bif decide (p.x ≥ 0) then decide (p.x < 16777216) else false) then decide (p.y ≥ 0) else false) then decide (p.y < 16777216) else false) = decide p.ok := by
 unfold Pt.ok
 by_cases h1 : p.x ≥ 0 <;> by_cases h2 : p.x < 16777216 <;> by_cases h3 : p.y ≥ 0 <;> by_cases h4 : p.y < 16777216 <;> simp [h1, h2, h3, h4] <;> omega
theorem v_valid (p : Pt) (G : Gl) (Q : Po) (hQ : Q (vB (decide p.ok)) G) : VC Tryz.prog 60 [vV (ptV p)] G Q := by
 refine VC.of_body Tryz.func60 rfl rfl rfl fun W0 h0 x0 hG0 => ?_
 simp only [args0]
 repeat' (first | refine VJ.seq ?_ | refine VJ.region_k fun K hK => ?_ | (refine VR.done (hK _ ?_); clear hK K) | (first | refine VR.move rfl rfl ?_ | refine VR.assign rfl rfl ?_ | (show onLd; refine VR.load tok rfl rfl rfl rfl ?_) | (show onFa; refine VR.fieldAddr tok rfl rfl rfl rfl rfl rfl ?_) | refine VR.int rfl rfl rfl rfl ?_ | (refine VR.pickB rfl rfl rfl rfl ?_ ?_ ?_; iterate 2 (first | exact trivial | (refine fun h => ?_; first | (rw [h]; rfl) | (rw [h, hg]; rfl) | (rw [hg, h]; rfl) | (simp [h, hg]; done)))) | refine VR.box rfl rfl rfl ?_) | (refine' VR.spec (by rfl) (by rfl) (by rfl) ?_ ?_ ?_; rotate_left 1; (repeat (first | exact trivial | refine And.intro id ?_)); intro hg K1 hK1; (first | (show onLd; refine VR.load tok rfl rfl rfl rfl ?_) | (show onFa; refine VR.fieldAddr tok rfl rfl rfl rfl rfl rfl ?_) | refine VR.int rfl rfl rfl rfl ?_); exact VR.done hK1))
 refine VJ.ret tok (by rfl) (by rfl) ?_
 rw [← ok_eq] at hQ
 exact hQ
theorem v_valid2 (p : Pt) (G : Gl) (Q : Po) (hQ : Q (vB (decide p.ok)) G) : VC Tryz.prog 57 [vV (ptV p)] G Q := by
 refine VC.of_body Tryz.func57 rfl rfl rfl fun W0 h0 x0 hG0 => ?_
 simp only [args0]
 repeat' (first | refine VJ.seq ?_ | refine VJ.region_k fun K hK => ?_ | (refine VR.done (hK _ ?_); clear hK K) | (first | refine VR.move rfl rfl ?_ | refine VR.assign rfl rfl ?_ | (show onLd; refine VR.load tok rfl rfl rfl rfl ?_) | (show onFa; refine VR.fieldAddr tok rfl rfl rfl rfl rfl rfl ?_) | refine VR.int rfl rfl rfl rfl ?_ | (refine VR.pickB rfl rfl rfl rfl ?_ ?_ ?_; iterate 2 (first | exact trivial | (refine fun h => ?_; first | (rw [h]; rfl) | (rw [h, hg]; rfl) | (rw [hg, h]; rfl) | (simp [h, hg]; done)))) | refine VR.box rfl rfl rfl ?_) | (refine' VR.spec (by rfl) (by rfl) (by rfl) ?_ ?_ ?_; rotate_left 1; (repeat (first | exact trivial | refine And.intro id ?_)); intro hg K1 hK1; (first | (show onLd; refine VR.load tok rfl rfl rfl rfl ?_) | (show onFa; refine VR.fieldAddr tok rfl rfl rfl rfl rfl rfl ?_) | refine VR.int rfl rfl rfl rfl ?_); exact VR.done hK1))
 refine VJ.ret tok (by rfl) (by rfl) ?_
 rw [← ok_eq] at hQ
 exact hQ
theorem v_all (l : List Pt) (hl : l.length < 4611686018427387904) (G : Gl) (Q : Po) (hQ : Q (vB (l.all fun p => decide p.ok)) G) : VC Tryz.prog 106 [vL 2 (l.map ptV)] G Q := by
 refine VC.of_body Tryz.func106 rfl rfl rfl fun W0 h0 x0 hG0 => ?_
 simp only [args0]
 repeat' (first | refine VJ.seq ?_ | refine VJ.block ?_ | refine VJ.region_k fun K hK => ?_ | (refine VR.done (hK _ ?_); clear hK K) | (first | refine VR.move rfl rfl ?_ | refine VR.assign rfl rfl ?_ | refine VR.len tok rfl rfl rfl rfl rfl ?_))
 refine VJ.to 0 [(7, vI ((0 : Nat) : Int)), (6, vI l.length), (5, vL 2 (l.map ptV))] [] ?_ rfl ⟨by rfl, by simp [lk], by rfl, trivial⟩ trivial (by rfl)
 refine VJ.rec (fun j : Nat => ⟨0, [(7, vI j), (6, vI l.length), (5, vL 2 (l.map ptV))], [], _⟩) (fun j => l.length - j) (fun j => j ≤ l.length ∧ (l.drop j).all (fun p => decide p.ok) = l.all fun p => decide p.ok) 0 ⟨Nat.zero_le _, rfl⟩ ?_
 rintro j ⟨hj, hd⟩ ih
 repeat' (first | refine VJ.seq ?_ | refine VJ.region_k fun K hK => ?_ | (refine VR.done (hK _ ?_); clear hK K) | (first | refine VR.int rfl rfl rfl rfl ?_))
 refine VJ.cond rfl (fun hb => ?_) (fun hb => ?_)
 ·have hlt : j < l.length := by simpa using hb
  have hget : (l.map ptV)[j]? = some (ptV l[j]) := by simp [hlt]
  rw [List.drop_eq_getElem_cons hlt, List.all_cons] at hd
  repeat' (first | refine VJ.seq ?_ | refine VJ.skip ?_ | refine VJ.block ?_ | refine VJ.region_k fun K hK => ?_ | (refine VR.done (hK _ ?_); clear hK K) | (first | (show onLd; refine VR.load tok rfl rfl rfl (by first | rfl | exact (ldp_el (by assumption)).trans (by rfl)) ?_) | (show onIx; refine VR.indexAddr tok rfl rfl rfl rfl rfl rfl rfl (elA_lst (by assumption)) ?_) | refine VR.not rfl rfl ?_ | refine VR.alloc tok rfl rfl rfl ?_ | refine VR.store tok rfl rfl rfl rfl rfl rfl rfl (by first | (intro n e; cases e; done) | exact (fun _ _ q => all_glA (by rfl) q)) ?_) | (refine VR.call fok60 rfl rfl rfl rfl ?_; refine (v_valid l[j] _ _ ?_)))
  refine VJ.cond rfl (fun hc => ?_) (fun hc => ?_)
  ·repeat' (first | refine VJ.seq ?_ | refine VJ.region_k fun K hK => ?_ | (refine VR.done (hK _ ?_); clear hK K) | (first | refine VR.assign rfl rfl ?_))
   refine VJ.ret tok (by rfl) (by rfl) ?_
   have hc : decide l[j].ok = false := by simpa using hc
   rw [← hd, hc] at hQ
   exact hQ
  ·have hc : decide l[j].ok = true := by simpa using hc
   rw [hc, Bool.true_and] at hd
   repeat' (first | refine VJ.skip ?_ | refine VJ.inBlock ?_ | refine VJ.region_k fun K hK => ?_ | (refine VR.done (hK _ ?_); clear hK K) | (first | refine VR.move rfl rfl ?_ | refine VR.int rfl rfl rfl rfl ?_))
   exact VJ.to 0 _ _ (ih (j + 1) ⟨hlt, hd⟩ (by omega)) rfl ⟨vI_succ (by omega), by rfl, by rfl, trivial⟩ trivial (by rfl)
 ·have hge : j = l.length := by simp at hb; omega
  subst hge
  rw [List.drop_length] at hd
  repeat' (first | refine VJ.seq ?_ | refine VJ.exit rfl ?_ | refine VJ.region_k fun K hK => ?_ | (refine VR.done (hK _ ?_); clear hK K) | (first | refine VR.assign rfl rfl ?_))
  refine VJ.ret tok (by rfl) (by rfl) ?_
  rw [← hd] at hQ
  exact hQ
theorem cp_or (p q : Pt) : orI [cmpI p.x q.x, cmpI p.y q.y] = cp p q := by
 unfold orI orI orI cmpI cp
 rcases Int.lt_trichotomy p.x q.x with h | h | h
 ·simp [h]
 ·have h1 : ¬ p.x < q.x := by omega
  have h2 : ¬ q.x < p.x := by omega
  simp only [h1, h2, if_false, if_true]
  rcases Int.lt_trichotomy p.y q.y with g | g | g
  ·simp [g]
  ·have g1 : ¬ p.y < q.y := by omega
   have g2 : ¬ q.y < p.y := by omega
   simp [g1, g2]
  ·have g1 : ¬ p.y < q.y := by omega
   simp [g, g1]
 ·have h1 : ¬ p.x < q.x := by omega
  simp [h, h1]
theorem v_cp (p q : Pt) (G : Gl) (Q : Po) (hQ : Q (vI (cp p q)) G) : VC Tryz.prog 105 [vV (ptV p), vV (ptV q)] G Q := by
 refine VC.of_body Tryz.func105 rfl rfl rfl fun W0 h0 x0 hG0 => ?_
 simp only [args0]
 repeat' (first | refine VJ.seq ?_ | refine VJ.region_k fun K hK => ?_ | (refine VR.done (hK _ ?_); clear hK K) | (first | refine VR.assign rfl rfl ?_ | refine VR.box rfl rfl rfl ?_))
 apply VJ.draw3 [10] [(0, 0), (1, 0), (2, 0), (3, 0), (4, 0), (5, 0), (6, 0), (7, 0), (8, 0), (9, 0), (10, 0), (11, 1), (12, 1), (0, 1), (1, 1), (2, 1), (3, 1), (5, 1), (6, 1), (7, 1), (8, 1)] [[(2, none)], [(5, some 0)], [(3, none)], [(7, some 2)], [(6, some 1), (8, some 3)], [(2, none)], [(10, some 5)], [(3, none)], [(12, some 7)], [(11, some 6), (13, some 8)], [(9, some 4), (14, some 9)], [(15, some 10)], [(16, some 11)]] [[(2, _)], [(5, _)], [(3, _)], [(7, _)], [(6, _), (8, _)], [(2, _)], [(10, _)], [(3, _)], [(12, _)], [(11, _), (13, _)], [(9, _), (14, _)], [(15, _)], [(16, _)]] [_, _, _, _, _, _, _, _, _, _, _, _, _] [⟨_, _, _⟩, ⟨_, _, _⟩] (by kernel_rfl) ?hok rfl ?hh rfl rfl ?hj
 case hh =>
  refine ⟨?_, ?_, ?_, ?_, ?_, ?_, ?_, ?_, ?_, ?_, ?_, ?_, ?_, ?_, ?_, ?_, ?_, ?_, ?_, ?_, ?_, trivial⟩
  all_goals (intro rest K1 hK1; (repeat (first | exact VR.done hK1 | (first | refine VR.assign rfl rfl ?_ | (show onLd; refine VR.load tok rfl rfl rfl rfl ?_) | (show onFa; refine VR.fieldAddr tok rfl rfl rfl rfl rfl rfl ?_) | (refine VR.buildRow [.int .i64 (cmpI p.x q.x), .int .i64 (cmpI p.y q.y)] tok (by rfl) (by rfl) (by rfl) (by rfl) (by rfl) (by rfl) (by rfl) (by rfl) (by rfl) (by rfl) (by rfl) ?_) | (refine VR.callk (fun _ => false) [2] fok104 rfl rfl rfl rfl (fun _ _ h => nomatch (show false = true from h)) ?_; refine v_or [cmpI p.x q.x, cmpI p.y q.y] (by simp) _ _ ⟨(fun _ _ => rfl), .inr ⟨rfl, fun n o h => nomatch (show (none : Option VO) = some o from h)⟩, ?_⟩)) | (refine VR.call fok107 rfl rfl rfl rfl ?_; refine (v_compare _ _ _ _ ?_)))); try (first | exact VR.done hK1 | (refine VR.done ?_; dsimp only [S.set]; exact hK1)))
 case hok => kernel_rfl
 case hj =>
  dsimp only [tla]
  refine VJ.ret tok (by rfl) (by rfl) ?_
  rw [← cp_or] at hQ
  exact hQ
end Go.Proofs.YtnpnjhopgedhkaaGreat
namespace Go.Proofs.YtnpnjhopgedhkaaGreat
open Go.RowKit V Geo
abbrev wr (n : Int) : Int := IntKind.i64.wrap n
def twI (a b c : Pt) : Int := wr (wr (wr (b.x - a.x) * wr (c.y - a.y)) - wr (wr (b.y - a.y) * wr (c.x - a.x)))
theorem wr_in {n : Int} (h1 : -9223372036854775808 ≤ n) (h2 : n ≤ 9223372036854775807) : wr n = n := Go.IntWalk.i64_in _ (by omega)
theorem mul_bd {a b : Int} (h1 : -16777216 < a) (h2 : a < 16777216) (h3 : -16777216 < b) (h4 : b < 16777216) : -281474976710656 ≤ a * b ∧ a * b ≤ 281474976710656 := by
 have k1 : 0 ≤ (16777216 - a) * (16777216 + b) := Int.mul_nonneg (by omega) (by omega)
 have k2 : 0 ≤ (16777216 + a) * (16777216 - b) := Int.mul_nonneg (by omega) (by omega)
 have k3 : 0 ≤ (16777216 - a) * (16777216 - b) := Int.mul_nonneg (by omega) (by omega)
 have k4 : 0 ≤ (16777216 + a) * (16777216 + b) := Int.mul_nonneg (by omega) (by omega)
 constructor <;> grind
theorem tw_parts {a b c : Pt} (ha : a.ok) (hb : b.ok) (hc : c.ok) : wr (wr (b.x - a.x) * wr (c.y - a.y)) = (b.x - a.x) * (c.y - a.y) ∧ wr (wr (b.y - a.y) * wr (c.x - a.x)) = (b.y - a.y) * (c.x - a.x) ∧ twI a b c = tw a b c := by
 unfold Pt.ok at ha hb hc
 have e1 : wr (b.x - a.x) = b.x - a.x := wr_in (by omega) (by omega)
 have e2 : wr (c.y - a.y) = c.y - a.y := wr_in (by omega) (by omega)
 have e3 : wr (b.y - a.y) = b.y - a.y := wr_in (by omega) (by omega)
 have e4 : wr (c.x - a.x) = c.x - a.x := wr_in (by omega) (by omega)
 have m1 := mul_bd (a := b.x - a.x) (b := c.y - a.y) (by omega) (by omega) (by omega) (by omega)
 have m2 := mul_bd (a := b.y - a.y) (b := c.x - a.x) (by omega) (by omega) (by omega) (by omega)
 have g1 : wr ((b.x - a.x) * (c.y - a.y)) = (b.x - a.x) * (c.y - a.y) := wr_in (by omega) (by omega)
 have g2 : wr ((b.y - a.y) * (c.x - a.x)) = (b.y - a.y) * (c.x - a.x) := wr_in (by omega) (by omega)
 unfold twI tw
 rw [e1, e2, e3, e4, g1, g2]
 exact ⟨rfl, rfl, wr_in (by omega) (by omega)⟩
def oriG (a b c : Pt) : Int := if a.ok ∧ b.ok ∧ c.ok then sg (tw a b c) else 0
theorem cmpI_sg (u v : Int) : cmpI u v = sg (u - v) := by
 unfold cmpI sg
 rcases Int.lt_trichotomy u v with h | h | h
 ·rw [if_pos h, if_pos (by omega)]
 ·rw [if_neg (by omega), if_neg (by omega), if_neg (by omega), if_neg (by omega)]
 ·rw [if_neg (by omega), if_pos h, if_neg (by omega), if_pos (by omega)]
attribute [local irreducible] VR VJ VC
theorem eqP0 (p q : Pt) (w : World) : (binOp .eql 25 (ptV p) (ptV q)).run Tryz.prog w = .ok (.bool (decide (p = q))) w := by
 obtain ⟨a, b⟩ := p
 obtain ⟨a', b'⟩ := q
 unfold ptV
 simp [go_sem]
 by_cases h1 : a = a' <;> by_cases h2 : b = b' <;> simp [h1, h2]
theorem neqP0 (p q : Pt) (w : World) : (binOp .neq 25 (ptV p) (ptV q)).run Tryz.prog w = .ok (.bool (!decide (p = q))) w := by
 obtain ⟨a, b⟩ := p
 obtain ⟨a', b'⟩ := q
 unfold ptV
 simp [go_sem]
 by_cases h1 : a = a' <;> by_cases h2 : b = b' <;> simp [h1, h2]
theorem eqP (a b : Operand) (p q : Pt) (w : World) : (do eqGuard .eql 25 a b (ptV p) (ptV q); binOp .eql 25 (ptV p) (ptV q) : Sem Value).run Tryz.prog w = .ok (.bool (decide (p = q))) w := by
 rw [Sem.run_bind, show (eqGuard .eql 25 a b (ptV p) (ptV q)).run Tryz.prog w = .ok () w from run_eqGuard_agg w .eql 25 a b _ _ (show Tryz.prog.eqGuardType Tryz.prog.depth 25 = false by kernel_rfl)]
 simp only [Result.andThen_ok]
 exact eqP0 p q w
theorem neqP (a b : Operand) (p q : Pt) (w : World) : (do eqGuard .neq 25 a b (ptV p) (ptV q); binOp .neq 25 (ptV p) (ptV q) : Sem Value).run Tryz.prog w = .ok (.bool (!decide (p = q))) w := by
 rw [Sem.run_bind, show (eqGuard .neq 25 a b (ptV p) (ptV q)).run Tryz.prog w = .ok () w from run_eqGuard_agg w .neq 25 a b _ _ (show Tryz.prog.eqGuardType Tryz.prog.depth 25 = false by kernel_rfl)]
 simp only [Result.andThen_ok]
 exact neqP0 p q w
theorem v_twice (a b c : Pt) (G : Gl) (Q : Po) (hQ : Q (vI (twI a b c)) G) : VC Tryz.prog 63 [vV (ptV a), vV (ptV b), vV (ptV c)] G Q := by
 refine VC.of_body Tryz.func63 rfl rfl rfl fun W0 h0 x0 hG0 => ?_
 simp only [args0]
 repeat' (first | refine VJ.seq ?_ | refine VJ.region_k fun K hK => ?_ | (refine VR.done (hK _ ?_); clear hK K) | (first | refine VR.assign rfl rfl ?_ | (show onLd; refine VR.load tok rfl rfl rfl rfl ?_) | (show onFa; refine VR.fieldAddr tok rfl rfl rfl rfl rfl rfl ?_) | refine VR.int rfl rfl rfl rfl ?_ | refine VR.box rfl rfl rfl ?_))
 refine VJ.ret tok (by rfl) (by rfl) ?_
 exact hQ
theorem v_sign (n : Int) (G : Gl) (Q : Po) (hQ : Q (vI (sg n)) G) : VC Tryz.prog 69 [vI n] G Q := by
 refine VC.of_body Tryz.func69 rfl rfl rfl fun W0 h0 x0 hG0 => ?_
 simp only [args0]
 repeat' (first | refine VJ.seq ?_ | refine VJ.block ?_ | refine VJ.region_k fun K hK => ?_ | (refine VR.done (hK _ ?_); clear hK K) | (first | refine VR.move rfl rfl ?_ | refine VR.assign rfl rfl ?_ | refine VR.int rfl rfl rfl rfl ?_))
 refine VJ.cond rfl (fun hc => ?_) (fun hc => ?_)
 ·repeat' (first | refine VJ.seq ?_ | refine VJ.region_k fun K hK => ?_ | (refine VR.done (hK _ ?_); clear hK K) | (first | refine VR.assign rfl rfl ?_))
  refine VJ.ret tok (by rfl) (by rfl) ?_
  rw [sg_neg (by simpa using hc)] at hQ
  exact hQ
 ·have h1 : ¬ n < 0 := by simpa using hc
  repeat' (first | refine VJ.seq ?_ | refine VJ.region_k fun K hK => ?_ | (refine VR.done (hK _ ?_); clear hK K) | (first | refine VR.move rfl rfl ?_ | refine VR.assign rfl rfl ?_ | refine VR.int rfl rfl rfl rfl ?_))
  refine VJ.cond rfl (fun hc => ?_) (fun hc => ?_)
  ·repeat' (first | refine VJ.seq ?_ | refine VJ.region_k fun K hK => ?_ | (refine VR.done (hK _ ?_); clear hK K) | (first | refine VR.assign rfl rfl ?_))
   refine VJ.ret tok (by rfl) (by rfl) ?_
   rw [sg_pos (by simpa using hc)] at hQ
   exact hQ
  ·have h2 : ¬ n > 0 := by simpa using hc
   repeat' (first | refine VJ.seq ?_ | refine VJ.skip ?_ | refine VJ.inBlock ?_ | refine VJ.region_k fun K hK => ?_ | (refine VR.done (hK _ ?_); clear hK K) | (first | refine VR.assign rfl rfl ?_))
   refine VJ.ret tok (by rfl) (by rfl) ?_
   have : n = 0 := by omega
   subst this
   exact hQ
theorem v_orientR (a b c : Pt) (G : Gl) (Q : Po) (hQ : Q (vI (oriG a b c)) G) : VC Tryz.prog 44 [vV (ptV a), vV (ptV b), vV (ptV c)] G Q := by
 refine VC.of_body Tryz.func44 rfl rfl rfl fun W0 h0 x0 hG0 => ?_
 simp only [args0]
 repeat' (first | refine VJ.seq ?_ | refine VJ.region_k fun K hK => ?_ | (refine VR.done (hK _ ?_); clear hK K) | (first | refine VR.move rfl rfl ?_ | refine VR.assign rfl rfl ?_ | (show onLd; refine VR.load tok rfl rfl rfl rfl ?_) | (refine VR.pickB rfl rfl rfl rfl ?_ ?_ ?_; iterate 2 (first | exact trivial | (refine fun h => ?_; first | (rw [h]; rfl) | (rw [h, hg]; rfl) | (rw [hg, h]; rfl) | (simp [h, hg]; done)))) | refine VR.not rfl rfl ?_ | refine VR.box rfl rfl rfl ?_) | (refine' VR.spec (by rfl) (by rfl) (by rfl) ?_ ?_ ?_; rotate_left 1; (repeat (first | exact trivial | refine And.intro id ?_)); intro hg K1 hK1; (first | (show onLd; refine VR.load tok rfl rfl rfl rfl ?_) | refine VR.not rfl rfl ?_ | (refine VR.call fok57 rfl rfl rfl rfl ?_; refine (v_valid2 b _ _ ?_)) | (refine VR.call fok57 rfl rfl rfl rfl ?_; refine (v_valid2 c _ _ ?_))); exact VR.done hK1) | (refine VR.call fok57 rfl rfl rfl rfl ?_; refine (v_valid2 a _ _ ?_)))
 refine VJ.cond rfl (fun hc => ?_) (fun hc => ?_)
 ·repeat' (first | refine VJ.seq ?_ | refine VJ.region_k fun K hK => ?_ | (refine VR.done (hK _ ?_); clear hK K) | (first | refine VR.assign rfl rfl ?_))
  refine VJ.ret tok (by rfl) (by rfl) ?_
  have : ¬ (a.ok ∧ b.ok ∧ c.ok) := by
   intro h
   simp [h.1, h.2.1, h.2.2] at hc
  unfold oriG at hQ
  rw [if_neg this] at hQ
  exact hQ
 ·have h : a.ok ∧ b.ok ∧ c.ok := by
   by_cases h1 : a.ok <;> by_cases h2 : b.ok <;> by_cases h3 : c.ok <;> simp [h1, h2, h3] at hc ⊢
  repeat' (first | refine VJ.seq ?_ | refine VJ.skip ?_ | refine VJ.region_k fun K hK => ?_ | (refine VR.done (hK _ ?_); clear hK K) | (first | refine VR.assign rfl rfl ?_ | (show onLd; refine VR.load tok rfl rfl rfl rfl ?_)) | (refine VR.call fok63 rfl rfl rfl rfl ?_; refine (v_twice a b c _ _ ?_)) | (refine VR.call fok69 rfl rfl rfl rfl ?_; refine (v_sign _ _ _ ?_)))
  refine VJ.ret tok (by rfl) (by rfl) ?_
  unfold oriG at hQ
  rw [if_pos h, ← (tw_parts h.1 h.2.1 h.2.2).2.2] at hQ
  exact hQ
theorem v_orient (a b c : Pt) (G : Gl) (Q : Po) (hQ : Q (vI (oriG a b c)) G) : VC Tryz.prog 90 [vV (ptV a), vV (ptV b), vV (ptV c)] G Q := by
 refine VC.of_body Tryz.func90 rfl rfl rfl fun W0 h0 x0 hG0 => ?_
 simp only [args0]
 repeat' (first | refine VJ.seq ?_ | refine VJ.region_k fun K hK => ?_ | (refine VR.done (hK _ ?_); clear hK K) | (first | refine VR.assign rfl rfl ?_ | (show onLd; refine VR.load tok rfl rfl rfl rfl ?_) | refine VR.not rfl rfl ?_ | refine VR.box rfl rfl rfl ?_ | (refine VR.buildRow [ptV a, ptV b, ptV c] tok (by rfl) (by rfl) (by rfl) (by rfl) (by rfl) (by rfl) (by rfl) (by rfl) (by rfl) (by rfl) (by rfl) ?_) | (refine VR.callk (fun _ => false) [3] fok106 rfl rfl rfl rfl (fun _ _ h => nomatch (show false = true from h)) ?_; refine v_all [a, b, c] (by simp) _ _ ⟨(fun _ _ => rfl), .inr ⟨rfl, fun n o h => nomatch (show (none : Option VO) = some o from h)⟩, ?_⟩)))
 have hall : ([a, b, c].all fun p => decide p.ok) = decide (a.ok ∧ b.ok ∧ c.ok) := by
  by_cases h1 : a.ok <;> by_cases h2 : b.ok <;> by_cases h3 : c.ok <;> simp [h1, h2, h3]
 refine VJ.cond rfl (fun hc => ?_) (fun hc => ?_)
 ·repeat' (first | refine VJ.seq ?_ | refine VJ.region_k fun K hK => ?_ | (refine VR.done (hK _ ?_); clear hK K) | (first | refine VR.assign rfl rfl ?_))
  refine VJ.ret tok (by rfl) (by rfl) ?_
  rw [hall] at hc
  have h : ¬ (a.ok ∧ b.ok ∧ c.ok) := fun h => by rw [decide_eq_true h] at hc; cases hc
  unfold oriG at hQ
  rw [if_neg h] at hQ
  exact hQ
 ·rw [hall] at hc
  have h : a.ok ∧ b.ok ∧ c.ok := by simpa using hc
  repeat' (first | refine VJ.seq ?_ | refine VJ.skip ?_ | refine VJ.region_k fun K hK => ?_ | (refine VR.done (hK _ ?_); clear hK K) | (first | refine VR.assign rfl rfl ?_ | (show onLd; refine VR.load tok rfl rfl rfl rfl ?_) | (show onFa; refine VR.fieldAddr tok rfl rfl rfl rfl rfl rfl ?_) | refine VR.int rfl rfl rfl rfl ?_) | (refine VR.call fok107 rfl rfl rfl rfl ?_; refine (v_compare _ _ _ _ ?_)))
  refine VJ.ret tok (by rfl) (by rfl) ?_
  unfold oriG at hQ
  have e := tw_parts h.1 h.2.1 h.2.2
  rw [if_pos h, tw, ← cmpI_sg, ← e.1, ← e.2.1] at hQ
  exact hQ
theorem v_cpR (p q : Pt) (G : Gl) (Q : Po) (hQ : Q (vI (cp p q)) G) : VC Tryz.prog 71 [vV (ptV p), vV (ptV q)] G Q := by
 refine VC.of_body Tryz.func71 rfl rfl rfl fun W0 h0 x0 hG0 => ?_
 simp only [args0]
 repeat' (first | refine VJ.seq ?_ | refine VJ.block ?_ | refine VJ.region_k fun K hK => ?_ | (refine VR.done (hK _ ?_); clear hK K) | (first | refine VR.move rfl rfl ?_ | refine VR.assign rfl rfl ?_ | (show onLd; refine VR.load tok rfl rfl rfl rfl ?_) | (show onFa; refine VR.fieldAddr tok rfl rfl rfl rfl rfl rfl ?_) | refine VR.int rfl rfl rfl rfl ?_ | (refine VR.pickB rfl rfl rfl rfl ?_ ?_ ?_; iterate 2 (first | exact trivial | (refine fun h => ?_; first | (rw [h]; rfl) | (rw [h, hg]; rfl) | (rw [hg, h]; rfl) | (simp [h, hg]; done)))) | refine VR.box rfl rfl rfl ?_) | (refine' VR.spec (by rfl) (by rfl) (by rfl) ?_ ?_ ?_; rotate_left 1; (repeat (first | exact trivial | refine And.intro id ?_)); intro hg K1 hK1; (first | refine VR.move rfl rfl ?_ | (show onLd; refine VR.load tok rfl rfl rfl rfl ?_) | (show onFa; refine VR.fieldAddr tok rfl rfl rfl rfl rfl rfl ?_) | refine VR.int rfl rfl rfl rfl ?_ | (refine VR.pickB rfl rfl rfl rfl ?_ ?_ ?_; iterate 2 (first | exact trivial | (refine fun h => ?_; first | (rw [h]; rfl) | (rw [h, hg]; rfl) | (rw [hg, h]; rfl) | (simp [h, hg]; done))))); exact VR.done hK1))
 have e : (bif decide (p.x < q.x) then true else (bif p.x == q.x then decide (p.y < q.y) else false)) = decide (cp p q < 0) := by
  rw [Bool.eq_iff_iff, decide_eq_true_eq, cp_neg]
  by_cases h1 : p.x < q.x <;> by_cases h2 : p.x = q.x <;> simp [h1, h2]
 refine VJ.cond rfl (fun hc => ?_) (fun hc => ?_)
 ·have hc : cp p q < 0 := by
   have hc : (bif decide (p.x < q.x) then true else (bif p.x == q.x then decide (p.y < q.y) else false)) = true := hc
   rw [e] at hc; simpa using hc
  repeat' (first | refine VJ.seq ?_ | refine VJ.region_k fun K hK => ?_ | (refine VR.done (hK _ ?_); clear hK K) | (first | refine VR.assign rfl rfl ?_))
  refine VJ.ret tok (by rfl) (by rfl) ?_
  rcases cp_three p q with h | h | h
  ·rw [h] at hQ; exact hQ
  ·omega
  ·omega
 ·have hc : ¬ cp p q < 0 := by
   have hc : (bif decide (p.x < q.x) then true else (bif p.x == q.x then decide (p.y < q.y) else false)) = false := hc
   rw [e] at hc; simpa using hc
  repeat' (first | refine VJ.seq ?_ | refine VJ.region_k fun K hK => ?_ | (refine VR.done (hK _ ?_); clear hK K) | (first | refine VR.assign rfl rfl ?_ | (show onLd; refine VR.load tok rfl rfl rfl rfl ?_) | (refine VR.bin rfl rfl rfl (eqP _ _ p q) ?_)))
  refine VJ.cond rfl (fun hc2 => ?_) (fun hc2 => ?_)
  ·have h : p = q := by simpa using hc2
   repeat' (first | refine VJ.seq ?_ | refine VJ.region_k fun K hK => ?_ | (refine VR.done (hK _ ?_); clear hK K) | (first | refine VR.assign rfl rfl ?_))
   refine VJ.ret tok (by rfl) (by rfl) ?_
   rw [cp_zero.2 h] at hQ
   exact hQ
  ·have h : ¬ p = q := by simpa using hc2
   repeat' (first | refine VJ.seq ?_ | refine VJ.skip ?_ | refine VJ.inBlock ?_ | refine VJ.region_k fun K hK => ?_ | (refine VR.done (hK _ ?_); clear hK K) | (first | refine VR.assign rfl rfl ?_))
   refine VJ.ret tok (by rfl) (by rfl) ?_
   rcases cp_three p q with h' | h' | h'
   ·omega
   ·exact absurd (cp_zero.1 h') h
   ·rw [h'] at hQ; exact hQ
end Go.Proofs.YtnpnjhopgedhkaaGreat
