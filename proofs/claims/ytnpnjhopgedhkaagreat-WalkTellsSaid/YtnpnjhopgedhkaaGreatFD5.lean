/- Texts of the proof, one behind the other: W17, W18, W19, W20, V28, W21, W22, W23, W24, V29. Conditions: each lemma's own. -/
import Derived.Test.YtnpnjhopgedhkaaGreatFD4
set_option linter.unusedVariables false
namespace Go.Proofs.YtnpnjhopgedhkaaGreat
open Go.RowKit V Geo
abbrev ES := List (En × Bool)
def putE (m : ES) (es : List En) : ES := es.foldl (fun m e => Mp.put m e true) m
def hasE (m : ES) (e : En) : Bool := (Mp.get m e).getD false
def badOut (ts : TS) (g : ES) (t : Tr) : Bool := bif !hasT ts t then true else hasE g ⟨t.a, t.b⟩
def chkOut (ts : TS) : ES → List Tr → Option ES
 | g, [] => some g
 | g, t :: l => if badOut ts g t = true then none else chkOut ts (putE g (around t)) l
def badE (le : LS) (g c : ES) (x : En) : Bool := bif hasE c x then true else (bif (Mp.get le x).isSome then !hasE g x else false)
def chkE (le : LS) (g : ES) : ES → List En → Option ES
 | c, [] => some c
 | c, x :: l => if badE le g c x = true then none else chkE le g (Mp.put c x true) l
def chkIn (le : LS) (g : ES) : ES → List Tr → Option ES
 | c, [] => some c
 | c, t :: l => if validT t = true then (match chkE le g c (around t) with
   | none => none
   | some c' => chkIn le g c' l) else none
def delE (le : LS) (es : List En) : LS := es.foldl Mp.del le
def delT (m : TS × LS) (t : Tr) : TS × LS := (Mp.del m.1 t, delE m.2 (around t))
def addEs (le : LS) (t : Tr) (es : List En) : LS := es.foldl (fun le e => Mp.put le e t) le
def addT (m : TS × LS) (t : Tr) : TS × LS := (Mp.put m.1 t true, addEs m.2 t (around t))
def applyM (m : TS × LS) (out inn : List Tr) : TS × LS := inn.foldl addT (out.foldl delT m)
def replE (ts : TS) (le : LS) (out inn : List Tr) : Int := match chkOut ts [] out with
 | none => 16
 | some g => match chkIn le g [] inn with
   | none => 2
   | some _ => 0
theorem putE_snoc (m : ES) (es : List En) {i : Nat} (h : i < es.length) : Mp.put (putE m (es.take i)) es[i] true = putE m (es.take (i + 1)) := by
 rw [← List.take_append_getElem h]; unfold putE; rw [List.foldl_append]; rfl
theorem delE_snoc (m : LS) (es : List En) {i : Nat} (h : i < es.length) : Mp.del (delE m (es.take i)) es[i] = delE m (es.take (i + 1)) := by
 rw [← List.take_append_getElem h]; unfold delE; rw [List.foldl_append]; rfl
theorem addEs_snoc (m : LS) (t : Tr) (es : List En) {i : Nat} (h : i < es.length) : Mp.put (addEs m t (es.take i)) es[i] t = addEs m t (es.take (i + 1)) := by
 rw [← List.take_append_getElem h]; unfold addEs; rw [List.foldl_append]; rfl
theorem chkE_step (le : LS) (g c : ES) (es : List En) {i : Nat} (h : i < es.length) : chkE le g c (es.drop i) = if badE le g c es[i] = true then none else chkE le g (Mp.put c es[i] true) (es.drop (i + 1)) := by
 rw [List.drop_eq_getElem_cons h, chkE]
abbrev mE (m : ES) : VO := .map En.v Value.bool m none
abbrev mT (ts : TS) (z : Option (Nat × Obj)) : VO := .map Tr.v Value.bool ts z
abbrev mL (le : LS) (z : Option (Nat × Obj)) : VO := .map En.v Tr.v le z
abbrev GM3 (ts : TS) (z1 : Option (Nat × Obj)) (le : LS) (z2 : Option (Nat × Obj)) (G : Gl) : Gl := gov [(0, bxM), (1, mT ts z1), (2, mL le z2)] G
theorem GM3_mesh (ts : TS) (z1 : Option (Nat × Obj)) (le : LS) (z2 : Option (Nat × Obj)) (G : Gl) : MeshG (GM3 ts z1 le z2 G) ts le := ⟨rfl, ⟨_, rfl⟩, ⟨_, rfl⟩⟩
theorem GM3_1 (ts ts' : TS) (z1 z1' : Option (Nat × Obj)) (le : LS) (z2 : Option (Nat × Obj)) (G : Gl) : (fun n => if n = 1 then some (mT ts' z1') else GM3 ts z1 le z2 G n) = GM3 ts' z1' le z2 G := by
 funext n
 by_cases h0 : n = 0
 ·subst h0; rfl
 by_cases h1 : n = 1
 ·subst h1; rfl
 ·simp [gov, lk, h0, h1]
theorem GM3_2 (ts : TS) (z1 : Option (Nat × Obj)) (le le' : LS) (z2 z2' : Option (Nat × Obj)) (G : Gl) : (fun n => if n = 2 then some (mL le' z2') else GM3 ts z1 le z2 G n) = GM3 ts z1 le' z2' G := by
 funext n
 by_cases h0 : n = 0
 ·subst h0; rfl
 by_cases h1 : n = 1
 ·subst h1; rfl
 by_cases h2 : n = 2
 ·subst h2; rfl
 ·simp [gov, lk, h0, h1, h2]
section
variable {E : Env} {fn : Func} {R : Ending → World → Prop} {k : List Item} {c : Nat} {t0 : List (Nat × AV)} {L : List (Nat × VO)}
theorem unpinM (ts : TS) (z1 : Option (Nat × Obj)) (le : LS) (z2 : Option (Nat × Obj)) (G : Gl) (H : VJ Tryz.prog E fn R k ⟨c, t0, L, GM3 ts none le none G⟩) : VJ Tryz.prog E fn R k ⟨c, t0, L, GM3 ts z1 le z2 G⟩ := by
 have h1 : VJ Tryz.prog E fn R k ⟨c, t0, L, GM3 ts none le z2 G⟩ := by
  cases z2 with
  | none => exact H
  | some q =>
    refine VJ.unpin (.g 2) (show S.obj ⟨c, t0, L, GM3 ts none le (some q) G⟩ (.g 2) = some (mL le (some q)) from rfl) ?_
    have := GM3_2 ts none le le (some q) none G
    rw [← this] at H
    exact H
 cases z1 with
 | none => exact h1
 | some q =>
   refine VJ.unpin (.g 1) (show S.obj ⟨c, t0, L, GM3 ts (some q) le z2 G⟩ (.g 1) = some (mT ts (some q)) from rfl) ?_
   have := GM3_1 ts ts (some q) none le z2 G
   rw [← this] at h1
   exact h1
end
attribute [local irreducible] VR VJ VC decOk decBt
set_option maxHeartbeats 8000000 in
set_option maxRecDepth 20000 in
theorem v_replace (ts : TS) (le : LS) (out inn : List Tr) (ho : out.length < 1000000) (hi : inn.length < 1000000) (G : Gl) (hG : MeshG G ts le) (Q : Po)
 (hQ1 : replE ts le out inn ≠ 0 → Q (vI (replE ts le out inn)) G) (hQ2 : replE ts le out inn = 0 → Q (vI 0) (gset (gset G 1 (mT (applyM (ts, le) out inn).1 none)) 2 (mL (applyM (ts, le) out inn).2 none))) : VC Tryz.prog 54 [vM, vL 6 (out.map Tr.v), vL 6 (inn.map Tr.v)] G Q := by
 obtain ⟨z1, z2, hg⟩ := hG.ok
 have eG := gov_self hg
 have hret : ∀ n o, G n = some o → GM3 ts z1 le z2 G n = some o := fun n o e => (congrFun eG n).symm.trans e
 refine VC.of_body Tryz.func54 rfl rfl rfl fun W0 h0 x0 hG0 => ?_
 simp only [args0]
 refine VJ.toG 0 (args0 0 [vM, vL 6 (out.map Tr.v), vL 6 (inn.map Tr.v)]) [] (GM3 ts z1 le z2 G) ?_ rfl (by repeat' first | exact trivial | refine ⟨rfl, ?_⟩) trivial (by rfl) (fun n => congrFun eG n)
 simp only [args0]
 repeat' (first | refine VJ.seq ?_ | refine VJ.skip ?_ | refine VJ.block ?_ | refine VJ.cond_f rfl ?_ | refine VJ.region_k fun K hK => ?_ | (refine VR.done (hK _ ?_); clear hK K) | (first | refine VR.move rfl rfl ?_ | refine VR.assign rfl rfl ?_ | refine VR.len tok rfl rfl rfl rfl rfl ?_ | refine VR.eqNil rfl rfl rfl rfl (ptrOk (by rfl)) ?_ | (refine VR.makeMap En.v Value.bool rfl ?_)))
 refine VJ.to 2 [(33, vI ((0 : Nat) : Int)), (32, vI out.length), (31, vL 6 (out.map Tr.v)), (8, .a (.mp (.l 1))), (7, .a (.mp (.l 0))), (2, vL 6 (inn.map Tr.v)), (1, vL 6 (out.map Tr.v)), (0, vM)] [(0, mE []), (1, mE [])] ?_ rfl ⟨by rfl, by simp [lk], by rfl, by rfl, by rfl, by rfl, by rfl, by rfl, trivial⟩ (by repeat' first | exact trivial | refine ⟨rfl, ?_⟩) (by rfl)
 refine VJ.rec (fun a : Nat × ES => ⟨2, [(33, vI a.1), (32, vI out.length), (31, vL 6 (out.map Tr.v)), (8, .a (.mp (.l 1))), (7, .a (.mp (.l 0))), (2, vL 6 (inn.map Tr.v)), (1, vL 6 (out.map Tr.v)), (0, vM)], [(0, mE a.2), (1, mE [])], GM3 ts z1 le z2 G⟩) (fun a => out.length - a.1) (fun a => a.1 ≤ out.length ∧ chkOut ts a.2 (out.drop a.1) = chkOut ts [] out) (0, []) ⟨Nat.zero_le _, rfl⟩ ?_
 rintro ⟨j, g⟩ ⟨hj, hd⟩ ih
 dsimp only at hj hd ih ⊢
 repeat' (first | refine VJ.seq ?_ | refine VJ.region_k fun K hK => ?_ | (refine VR.done (hK _ ?_); clear hK K) | (first | refine VR.int rfl rfl rfl rfl ?_))
 refine VJ.cond rfl (fun hb => ?_) (fun hb => ?_)
 ·have hlt : j < out.length := by simpa using hb
  have hget := map_get_t hlt
  rw [List.drop_eq_getElem_cons hlt, chkOut] at hd
  generalize out[j] = t at hget hd
  repeat' (first | refine VJ.seq ?_ | refine VJ.skip ?_ | refine VJ.block ?_ | refine VJ.region_k fun K hK => ?_ | (refine VR.done (hK _ ?_); clear hK K) | (first | refine VR.move rfl rfl ?_ | (show onLd; refine VR.load tok rfl rfl rfl rfl ?_) | (show onLd; refine VR.load tok rfl rfl rfl ((ldp_el (by assumption)).trans (by rfl)) ?_) | (show onIx; refine VR.indexAddr tok rfl rfl rfl rfl rfl rfl rfl (elA_lst (by assumption)) ?_) | (refine VR.pickB rfl rfl rfl rfl ?_ ?_ ?_; exact trivial; (refine fun h => ?_; rw [h]; rfl)) | refine VR.not rfl rfl ?_ | refine VR.alloc tok rfl rfl rfl ?_ | refine VR.store tok rfl rfl rfl rfl rfl rfl rfl (by (intro n e; cases e; done)) ?_) | (refine' VR.spec (by rfl) (by rfl) (by rfl) ?_ ?_ ?_; rotate_left 1; (repeat (first | exact trivial | refine And.intro id ?_)); intro hg K1 hK1; (first | refine VR.move rfl rfl ?_ | (show onLd; refine VR.load tok rfl rfl rfl rfl ?_) | (show onFa; refine VR.fieldAddr tok rfl rfl rfl rfl rfl rfl ?_) | refine VR.buildX [_, _, _, _] tok rfl rfl rfl rfl rfl rfl ?_ | (refine VR.lookup (key := (⟨t.a, t.b⟩ : En)) (zv := false) rfl rfl rfl rfl (mapOk (by rfl)) key58 (fun w => by kernel_rfl) ?_)); exact VR.done hK1) | (refine VR.call fok67 rfl rfl rfl rfl ?_; refine (v_has ts le t _ (GM3_mesh ts z1 le z2 G) _ ?_)))
  refine VJ.cond rfl (fun hc => ?_) (fun hc => ?_)
  ·have hc : badOut ts g t = true := hc
   rw [if_pos hc] at hd
   have hE : replE ts le out inn = 16 := by unfold replE; rw [← hd]
   repeat' (first | refine VJ.seq ?_ | refine VJ.region_k fun K hK => ?_ | (refine VR.done (hK _ ?_); clear hK K) | (first | refine VR.assign rfl rfl ?_))
   refine VJ.retF tok (by rfl) (by rfl) hG0 ?_ (by rfl) ?_
   ·exact hret
   ·have := hQ1 (by rw [hE]; decide)
    rw [hE] at this
    exact this
  have hc : badOut ts g t = false := hc
  rw [if_neg (by rw [hc]; simp)] at hd
  repeat' (first | refine VJ.seq ?_ | refine VJ.skip ?_ | refine VJ.block ?_ | refine VJ.region_k fun K hK => ?_ | (refine VR.done (hK _ ?_); clear hK K) | (first | refine VR.move rfl rfl ?_ | (show onLd; refine VR.load tok rfl rfl rfl rfl ?_) | refine VR.len tok rfl rfl rfl rfl rfl ?_) | (refine VR.call fok86 rfl rfl rfl rfl ?_; refine (v_around t _ _ ?_)))
  refine VJ.to 3 [(53, vI ((0 : Nat) : Int)), (52, vI ((3 : Nat) : Int)), (51, vL 4 ((around t).map En.v)), (33, vI j), (32, vI out.length), (31, vL 6 (out.map Tr.v)), (8, .a (.mp (.l 1))), (7, .a (.mp (.l 0))), (2, vL 6 (inn.map Tr.v)), (1, vL 6 (out.map Tr.v)), (0, vM)] [(0, mE (putE g ((around t).take 0))), (1, mE []), (2, bxT t)] ?_ rfl (by repeat' first | exact trivial | refine ⟨rfl, ?_⟩) (by repeat' first | exact trivial | refine ⟨rfl, ?_⟩) (by rfl)
  refine VJ.rec (fun i : Nat => ⟨3, [(53, vI i), (52, vI ((3 : Nat) : Int)), (51, vL 4 ((around t).map En.v)), (33, vI j), (32, vI out.length), (31, vL 6 (out.map Tr.v)), (8, .a (.mp (.l 1))), (7, .a (.mp (.l 0))), (2, vL 6 (inn.map Tr.v)), (1, vL 6 (out.map Tr.v)), (0, vM)], [(0, mE (putE g ((around t).take i))), (1, mE []), (2, bxT t)], GM3 ts z1 le z2 G⟩) (fun i => 3 - i) (fun i => i ≤ 3) 0 (by decide) ?_
  intro i hi3 ih2
  repeat' (first | refine VJ.seq ?_ | refine VJ.region_k fun K hK => ?_ | (refine VR.done (hK _ ?_); clear hK K) | (first | refine VR.int rfl rfl rfl rfl ?_))
  refine VJ.cond rfl (fun hb => ?_) (fun hb => ?_)
  ·have hl3 : i < 3 := by
    have : (i : Int) < ((3 : Nat) : Int) := by simpa using hb
    omega
   have hle : i < (around t).length := hl3
   have hge := map_get_e hle
   have hsn := putE_snoc g (around t) hle
   generalize (around t)[i] = x at hge hsn
   repeat' (first | refine VJ.seq ?_ | refine VJ.skip ?_ | refine VJ.block ?_ | refine VJ.inBlock ?_ | refine VJ.region_k fun K hK => ?_ | (refine VR.done (hK _ ?_); clear hK K) | (first | refine VR.move rfl rfl ?_ | (show onLd; refine VR.load tok rfl rfl rfl rfl ?_) | (show onLd; refine VR.load tok rfl rfl rfl ((ldp_el (by assumption)).trans (by rfl)) ?_) | (show onIx; refine VR.indexAddr tok rfl rfl rfl rfl rfl rfl rfl (elA_lst (by assumption)) ?_) | refine VR.int rfl rfl rfl rfl ?_ | refine VR.alloc tok rfl rfl rfl ?_ | refine VR.store tok rfl rfl rfl rfl rfl rfl rfl (by (intro n e; cases e; done)) ?_ | (refine VR.mapUpdate (key := x) (val := true) rfl rfl rfl rfl (mapOk (by rfl)) key58 ?_)))
   refine VJ.to 3 [(53, vI ((i + 1 : Nat) : Int)), (52, vI ((3 : Nat) : Int)), (51, vL 4 ((around t).map En.v)), (33, vI j), (32, vI out.length), (31, vL 6 (out.map Tr.v)), (8, .a (.mp (.l 1))), (7, .a (.mp (.l 0))), (2, vL 6 (inn.map Tr.v)), (1, vL 6 (out.map Tr.v)), (0, vM)] [(0, mE (putE g ((around t).take (i + 1)))), (1, mE []), (2, bxT t)] (ih2 (i + 1) hl3 (by omega)) rfl ⟨vI_succ (by omega), by rfl, by rfl, by rfl, by rfl, by rfl, by rfl, by rfl, by rfl, by rfl, by rfl, trivial⟩ ⟨by rw [← hsn]; rfl, by rfl, by rfl, trivial⟩ (by rfl)
  have hge : i = 3 := by
   have : ¬ (i : Int) < ((3 : Nat) : Int) := by simpa using hb
   omega
  subst hge
  clear ih2 hb hi3
  repeat' (first | refine VJ.inBlock ?_ | refine VJ.exit rfl ?_ | refine VJ.region_k fun K hK => ?_ | (refine VR.done (hK _ ?_); clear hK K) | (first | refine VR.move rfl rfl ?_ | refine VR.int rfl rfl rfl rfl ?_))
  exact VJ.to 2 _ _ (ih (j + 1, putE g (around t)) ⟨hlt, hd⟩ (show out.length - (j + 1) < out.length - j by omega)) rfl ⟨vI_succ (by omega), by rfl, by rfl, by rfl, by rfl, by rfl, by rfl, by rfl, trivial⟩ (by repeat' first | exact trivial | refine ⟨rfl, ?_⟩) (by rfl)
 have hge : j = out.length := by simp at hb; omega
 subst hge
 rw [List.drop_length] at hd
 have hout : chkOut ts [] out = some g := hd.symm
 clear ih hb hj hd
 repeat' (first | refine VJ.seq ?_ | refine VJ.block ?_ | refine VJ.exit rfl ?_ | refine VJ.region_k fun K hK => ?_ | (refine VR.done (hK _ ?_); clear hK K) | (first | refine VR.move rfl rfl ?_ | refine VR.len tok rfl rfl rfl rfl rfl ?_))
 refine VJ.to 2 [(63, vI ((0 : Nat) : Int)), (62, vI inn.length), (61, vL 6 (inn.map Tr.v)), (8, .a (.mp (.l 1))), (7, .a (.mp (.l 0))), (2, vL 6 (inn.map Tr.v)), (1, vL 6 (out.map Tr.v)), (0, vM)] [(0, mE g), (1, mE [])] ?_ rfl ⟨by rfl, by simp [lk], by rfl, by rfl, by rfl, by rfl, by rfl, by rfl, trivial⟩ (by repeat' first | exact trivial | refine ⟨rfl, ?_⟩) (by rfl)
 refine VJ.rec (fun a : Nat × ES => ⟨2, [(63, vI a.1), (62, vI inn.length), (61, vL 6 (inn.map Tr.v)), (8, .a (.mp (.l 1))), (7, .a (.mp (.l 0))), (2, vL 6 (inn.map Tr.v)), (1, vL 6 (out.map Tr.v)), (0, vM)], [(0, mE g), (1, mE a.2)], GM3 ts z1 le z2 G⟩) (fun a => inn.length - a.1) (fun a => a.1 ≤ inn.length ∧ chkIn le g a.2 (inn.drop a.1) = chkIn le g [] inn) (0, []) ⟨Nat.zero_le _, rfl⟩ ?_
 rintro ⟨j, c⟩ ⟨hj, hd⟩ ih
 dsimp only at hj hd ih ⊢
 repeat' (first | refine VJ.seq ?_ | refine VJ.region_k fun K hK => ?_ | (refine VR.done (hK _ ?_); clear hK K) | (first | refine VR.int rfl rfl rfl rfl ?_))
 refine VJ.cond rfl (fun hb => ?_) (fun hb => ?_)
 ·have hlt : j < inn.length := by simpa using hb
  have hget := map_get_t hlt
  rw [List.drop_eq_getElem_cons hlt, chkIn] at hd
  generalize inn[j] = t at hget hd
  repeat' (first | refine VJ.seq ?_ | refine VJ.skip ?_ | refine VJ.block ?_ | refine VJ.region_k fun K hK => ?_ | (refine VR.done (hK _ ?_); clear hK K) | (first | (show onLd; refine VR.load tok rfl rfl rfl rfl ?_) | (show onLd; refine VR.load tok rfl rfl rfl ((ldp_el (by assumption)).trans (by rfl)) ?_) | (show onIx; refine VR.indexAddr tok rfl rfl rfl rfl rfl rfl rfl (elA_lst (by assumption)) ?_) | refine VR.not rfl rfl ?_ | refine VR.alloc tok rfl rfl rfl ?_ | refine VR.store tok rfl rfl rfl rfl rfl rfl rfl (by (intro n e; cases e; done)) ?_) | (refine VR.call fok59 rfl rfl rfl rfl ?_; refine (v_validT t _ _ ?_)))
  refine VJ.cond rfl (fun hc => ?_) (fun hc => ?_)
  ·have hc : ¬ validT t = true := by
    have hc : (!validT t) = true := hc
    simpa using hc
   rw [if_neg hc] at hd
   have hE : replE ts le out inn = 2 := by unfold replE; rw [hout]; simp only; rw [← hd]
   repeat' (first | refine VJ.seq ?_ | refine VJ.region_k fun K hK => ?_ | (refine VR.done (hK _ ?_); clear hK K) | (first | refine VR.assign rfl rfl ?_))
   refine VJ.retF tok (by rfl) (by rfl) hG0 ?_ (by rfl) ?_
   ·exact hret
   ·have := hQ1 (by rw [hE]; decide)
    rw [hE] at this
    exact this
  have hc : validT t = true := by
   have hc : (!validT t) = false := hc
   simpa using hc
  rw [if_pos hc] at hd
  repeat' (first | refine VJ.seq ?_ | refine VJ.skip ?_ | refine VJ.block ?_ | refine VJ.region_k fun K hK => ?_ | (refine VR.done (hK _ ?_); clear hK K) | (first | refine VR.move rfl rfl ?_ | (show onLd; refine VR.load tok rfl rfl rfl rfl ?_) | refine VR.len tok rfl rfl rfl rfl rfl ?_) | (refine VR.call fok86 rfl rfl rfl rfl ?_; refine (v_around t _ _ ?_)))
  refine VJ.to 3 [(73, vI ((0 : Nat) : Int)), (72, vI ((3 : Nat) : Int)), (71, vL 4 ((around t).map En.v)), (63, vI j), (62, vI inn.length), (61, vL 6 (inn.map Tr.v)), (8, .a (.mp (.l 1))), (7, .a (.mp (.l 0))), (2, vL 6 (inn.map Tr.v)), (1, vL 6 (out.map Tr.v)), (0, vM)] [(0, mE g), (1, mE c), (2, bxT t)] ?_ rfl (by repeat' first | exact trivial | refine ⟨rfl, ?_⟩) (by repeat' first | exact trivial | refine ⟨rfl, ?_⟩) (by rfl)
  refine VJ.rec (fun a : Nat × ES => ⟨3, [(73, vI a.1), (72, vI ((3 : Nat) : Int)), (71, vL 4 ((around t).map En.v)), (63, vI j), (62, vI inn.length), (61, vL 6 (inn.map Tr.v)), (8, .a (.mp (.l 1))), (7, .a (.mp (.l 0))), (2, vL 6 (inn.map Tr.v)), (1, vL 6 (out.map Tr.v)), (0, vM)], [(0, mE g), (1, mE a.2), (2, bxT t)], GM3 ts z1 le z2 G⟩) (fun a => 3 - a.1) (fun a => a.1 ≤ 3 ∧ chkE le g a.2 ((around t).drop a.1) = chkE le g c (around t)) (0, c) ⟨Nat.zero_le _, rfl⟩ ?_
  rintro ⟨i, c'⟩ ⟨hi3, hx⟩ ih2
  dsimp only at hi3 hx ih2 ⊢
  repeat' (first | refine VJ.seq ?_ | refine VJ.region_k fun K hK => ?_ | (refine VR.done (hK _ ?_); clear hK K) | (first | refine VR.int rfl rfl rfl rfl ?_))
  refine VJ.cond rfl (fun hb => ?_) (fun hb => ?_)
  ·have hl3 : i < 3 := by
    have : (i : Int) < ((3 : Nat) : Int) := by simpa using hb
    omega
   have hle : i < (around t).length := hl3
   have hge := map_get_e hle
   rw [chkE_step le g c' (around t) hle] at hx
   generalize (around t)[i] = x at hge hx
   repeat' (first | refine VJ.seq ?_ | refine VJ.skip ?_ | refine VJ.block ?_ | refine VJ.region_k fun K hK => ?_ | (refine VR.done (hK _ ?_); clear hK K) | (first | (show onLd; refine VR.load tok rfl rfl rfl ((ldp_el (by assumption)).trans (by rfl)) ?_) | (show onIx; refine VR.indexAddr tok rfl rfl rfl rfl rfl rfl rfl (elA_lst (by assumption)) ?_) | refine VR.alloc tok rfl rfl rfl ?_ | refine VR.store tok rfl rfl rfl rfl rfl rfl rfl (by (intro n e; cases e; done)) ?_))
   apply VJ.draw3 [9, 10] [(0, 0), (1, 0), (2, 0), (3, 0), (4, 0), (5, 0), (6, 0), (7, 0), (8, 0), (9, 0), (10, 1), (11, 2), (0, 1), (1, 1), (2, 1), (3, 1), (4, 1), (5, 1), (6, 1), (7, 1), (8, 1), (8, 2)] [[(0, none)], [(78, some 0)], [(79, some 1)], [(80, some 2)], [(16, none)], [(81, some 3), (82, some 4)], [(83, some 5)], [(77, some 6)], [(77, some 6)], [], [(17, some 9), (84, some 7)], [(85, some 8)]] [[(0, _)], [(78, _)], [(79, _)], [(80, _)], [(16, _)], [(81, _), (82, _)], [(83, _)], [(77, _)], [(77, _)], [], [(17, _), (84, _)], [(85, _)]] [_, _, _, _, _, _, _, _, _, _, (.a .top), _] [⟨_, _, _⟩, ⟨_, _, _⟩, ⟨_, _, _⟩] (by kernel_rfl) ?hok rfl ?hh rfl rfl ?hj
   case hh =>
    refine ⟨?_, ?_, ?_, ?_, ?_, ?_, ?_, ?_, ?_, ?_, ?_, ?_, ?_, ?_, ?_, ?_, ?_, ?_, ?_, ?_, ?_, ?_, trivial⟩
    all_goals (intro rest K1 hK1; (repeat (first | exact VR.done hK1 | (first | refine VR.move rfl rfl ?_ | refine VR.assign rfl rfl ?_ | (show onLd; refine VR.load tok rfl rfl rfl rfl ?_) | (show onFa; refine VR.fieldAddr tok rfl rfl rfl rfl rfl rfl ?_) | refine VR.alloc tok rfl rfl rfl ?_ | refine VR.store tok rfl rfl rfl rfl rfl rfl rfl (by (intro n e; cases e; done)) ?_ | refine VR.nilCheck rfl rfl rfl ?_ | refine VR.extract rfl rfl rfl ?_ | (refine VR.lookup2 (key := x) (zv := tr0) rfl rfl rfl rfl (mapOk (by rfl)) key58 (fun w => by kernel_rfl) ?_)))); try (first | exact VR.done hK1 | (refine VR.done ?_; dsimp only [S.set]; exact hK1)))
   case hok => kernel_rfl
   case hj =>
    dsimp only [tla]
    repeat' (first | refine VJ.seq ?_ | refine VJ.region_k fun K hK => ?_ | (refine VR.done (hK _ ?_); clear hK K) | (first | refine VR.move rfl rfl ?_ | (show onLd; refine VR.load tok rfl rfl rfl rfl ?_) | (refine VR.pickB rfl rfl rfl rfl ?_ ?_ ?_; exact trivial; (refine fun h => ?_; rw [h]; rfl)) | (refine VR.lookup (key := x) (zv := false) rfl rfl rfl rfl (mapOk (by rfl)) key58 (fun w => by kernel_rfl) ?_)) | (refine' VR.spec (by rfl) (by rfl) (by rfl) ?_ ?_ ?_; rotate_left 1; (repeat (first | exact trivial | refine And.intro id ?_)); intro hg K1 hK1; (first | refine VR.move rfl rfl ?_ | (show onLd; refine VR.load tok rfl rfl rfl rfl ?_) | (refine VR.pickB rfl rfl rfl rfl ?_ ?_ ?_; (refine fun h => ?_; rw [h, hg]; rfl); exact trivial) | refine VR.not rfl rfl ?_ | (refine VR.lookup (key := x) (zv := false) rfl rfl rfl rfl (mapOk (by rfl)) key58 (fun w => by kernel_rfl) ?_)); exact VR.done hK1))
    refine VJ.cond rfl (fun hc2 => ?_) (fun hc2 => ?_)
    ·have hc2 : badE le g c' x = true := hc2
     rw [if_pos hc2] at hx
     rw [← hx] at hd
     have hE : replE ts le out inn = 2 := by unfold replE; rw [hout]; simp only; rw [← hd]
     repeat' (first | refine VJ.seq ?_ | refine VJ.region_k fun K hK => ?_ | (refine VR.done (hK _ ?_); clear hK K) | (first | refine VR.assign rfl rfl ?_))
     refine VJ.retF tok (by rfl) (by rfl) hG0 ?_ (by rfl) ?_
     ·exact hret
     ·have := hQ1 (by rw [hE]; decide)
      rw [hE] at this
      exact this
    have hc2 : badE le g c' x = false := hc2
    rw [if_neg (by rw [hc2]; simp)] at hx
    repeat' (first | refine VJ.skip ?_ | refine VJ.inBlock ?_ | refine VJ.region_k fun K hK => ?_ | (refine VR.done (hK _ ?_); clear hK K) | (first | refine VR.move rfl rfl ?_ | (show onLd; refine VR.load tok rfl rfl rfl rfl ?_) | refine VR.int rfl rfl rfl rfl ?_ | (refine VR.mapUpdate (key := x) (val := true) rfl rfl rfl rfl (mapOk (by rfl)) key58 ?_)))
    refine VJ.to 3 [(73, vI ((i + 1 : Nat) : Int)), (72, vI ((3 : Nat) : Int)), (71, vL 4 ((around t).map En.v)), (63, vI j), (62, vI inn.length), (61, vL 6 (inn.map Tr.v)), (8, .a (.mp (.l 1))), (7, .a (.mp (.l 0))), (2, vL 6 (inn.map Tr.v)), (1, vL 6 (out.map Tr.v)), (0, vM)] [(0, mE g), (1, mE (Mp.put c' x true)), (2, bxT t)] (ih2 (i + 1, Mp.put c' x true) ⟨hl3, hx⟩ (show 3 - (i + 1) < 3 - i by omega)) rfl ⟨vI_succ (by omega), by rfl, by rfl, by rfl, by rfl, by rfl, by rfl, by rfl, by rfl, by rfl, by rfl, trivial⟩ (by repeat' first | exact trivial | refine ⟨rfl, ?_⟩) (by rfl)
  have hge : i = 3 := by
   have : ¬ (i : Int) < ((3 : Nat) : Int) := by simpa using hb
   omega
  subst hge
  have hx : some c' = chkE le g c (around t) := hx
  rw [← hx] at hd
  clear ih2 hb hi3
  repeat' (first | refine VJ.inBlock ?_ | refine VJ.exit rfl ?_ | refine VJ.region_k fun K hK => ?_ | (refine VR.done (hK _ ?_); clear hK K) | (first | refine VR.move rfl rfl ?_ | refine VR.int rfl rfl rfl rfl ?_))
  exact VJ.to 2 _ _ (ih (j + 1, c') ⟨hlt, hd⟩ (show inn.length - (j + 1) < inn.length - j by omega)) rfl ⟨vI_succ (by omega), by rfl, by rfl, by rfl, by rfl, by rfl, by rfl, by rfl, trivial⟩ (by repeat' first | exact trivial | refine ⟨rfl, ?_⟩) (by rfl)
 have hge : j = inn.length := by simp at hb; omega
 subst hge
 rw [List.drop_length] at hd
 have hE : replE ts le out inn = 0 := by unfold replE; rw [hout]; simp only; rw [← hd]; rfl
 have hq := hQ2 hE
 clear ih hb hj hd hQ1 hQ2 hE hout
 refine unpinM ts z1 le z2 G ?_
 repeat' (first | refine VJ.seq ?_ | refine VJ.block ?_ | refine VJ.exit rfl ?_ | refine VJ.region_k fun K hK => ?_ | (refine VR.done (hK _ ?_); clear hK K) | (first | refine VR.move rfl rfl ?_ | refine VR.len tok rfl rfl rfl rfl rfl ?_))
 refine VJ.to 0 [(104, vI ((0 : Nat) : Int)), (103, vI out.length), (102, vL 6 (out.map Tr.v)), (2, vL 6 (inn.map Tr.v)), (1, vL 6 (out.map Tr.v)), (0, vM)] [] ?_ rfl ⟨by rfl, by simp [lk], by rfl, by rfl, by rfl, by rfl, trivial⟩ trivial (by rfl)
 refine VJ.rec (fun a : Nat × (TS × LS) => ⟨0, [(104, vI a.1), (103, vI out.length), (102, vL 6 (out.map Tr.v)), (2, vL 6 (inn.map Tr.v)), (1, vL 6 (out.map Tr.v)), (0, vM)], [], GM3 a.2.1 none a.2.2 none G⟩) (fun a => out.length - a.1) (fun a => a.1 ≤ out.length ∧ (out.drop a.1).foldl delT a.2 = out.foldl delT (ts, le)) (0, (ts, le)) ⟨Nat.zero_le _, rfl⟩ ?_
 rintro ⟨j, ts', le'⟩ ⟨hj, hd⟩ ih
 dsimp only at hj hd ih ⊢
 repeat' (first | refine VJ.seq ?_ | refine VJ.region_k fun K hK => ?_ | (refine VR.done (hK _ ?_); clear hK K) | (first | refine VR.int rfl rfl rfl rfl ?_))
 refine VJ.cond rfl (fun hb => ?_) (fun hb => ?_)
 ·have hlt : j < out.length := by simpa using hb
  have hget := map_get_t hlt
  rw [List.drop_eq_getElem_cons hlt, List.foldl_cons] at hd
  generalize out[j] = t at hget hd
  repeat' (first | refine VJ.seq ?_ | refine VJ.skip ?_ | refine VJ.block ?_ | refine VJ.region_k fun K hK => ?_ | (refine VR.done (hK _ ?_); clear hK K) | (first | (show onLd; refine VR.load tok rfl rfl rfl ((ldp_el (by assumption)).trans (by rfl)) ?_) | (show onIx; refine VR.indexAddr tok rfl rfl rfl rfl rfl rfl rfl (elA_lst (by assumption)) ?_) | refine VR.alloc tok rfl rfl rfl ?_ | refine VR.store tok rfl rfl rfl rfl rfl rfl rfl (by (intro n e; cases e; done)) ?_))
  apply VJ.draw3 [5] [(0, 0), (1, 0), (2, 0), (3, 0), (4, 0), (5, 0), (0, 1), (1, 1), (2, 1)] [[(0, none)], [(108, some 0)], [(109, some 1)], [(110, some 2)], [(20, none)], [(111, some 3), (112, some 4)]] [[(0, _)], [(108, _)], [(109, _)], [(110, _)], [(20, _)], [(111, _), (112, _)]] [_, _, _, _, _, (.a .top)] [⟨_, _, _⟩, ⟨_, _, _⟩] (by kernel_rfl) ?hok rfl ?hh rfl rfl ?hj
  case hh =>
   refine ⟨?_, ?_, ?_, ?_, ?_, ?_, ?_, ?_, ?_, trivial⟩
   all_goals (intro rest K1 hK1; (repeat (first | exact VR.done hK1 | (first | refine VR.move rfl rfl ?_ | (show onLd; refine VR.load tok rfl rfl rfl rfl ?_) | (show onFa; refine VR.fieldAddr tok rfl rfl rfl rfl rfl rfl ?_) | refine VR.nilCheck rfl rfl rfl ?_ | (refine VR.delete (key := t) rfl rfl rfl rfl (mapOk (by rfl)) rfl key26 ?_)))); try (first | exact VR.done hK1 | (refine VR.done ?_; dsimp only [S.set]; exact hK1)))
  case hok => kernel_rfl
  case hj =>
   dsimp only [tla]
   repeat' (first | refine VJ.seq ?_ | refine VJ.block ?_ | refine VJ.region_k fun K hK => ?_ | (refine VR.done (hK _ ?_); clear hK K) | (first | refine VR.move rfl rfl ?_ | (show onLd; refine VR.load tok rfl rfl rfl rfl ?_) | refine VR.len tok rfl rfl rfl rfl rfl ?_) | (refine VR.call fok86 rfl rfl rfl rfl ?_; refine (v_around t _ _ ?_)))
   refine VJ.toG 1 [(116, vI ((0 : Nat) : Int)), (115, vI ((3 : Nat) : Int)), (114, vL 4 ((around t).map En.v)), (104, vI j), (103, vI out.length), (102, vL 6 (out.map Tr.v)), (2, vL 6 (inn.map Tr.v)), (1, vL 6 (out.map Tr.v)), (0, vM)] [(0, bxT t)] (GM3 (Mp.del ts' t) none (delE le' ((around t).take 0)) none G) ?_ rfl (by repeat' first | exact trivial | refine ⟨rfl, ?_⟩) (by repeat' first | exact trivial | refine ⟨rfl, ?_⟩) (by rfl) (fun n => congrFun (GM3_1 ts' (Mp.del ts' t) none none le' none G) n)
   refine VJ.rec (fun i : Nat => ⟨1, [(116, vI i), (115, vI ((3 : Nat) : Int)), (114, vL 4 ((around t).map En.v)), (104, vI j), (103, vI out.length), (102, vL 6 (out.map Tr.v)), (2, vL 6 (inn.map Tr.v)), (1, vL 6 (out.map Tr.v)), (0, vM)], [(0, bxT t)], GM3 (Mp.del ts' t) none (delE le' ((around t).take i)) none G⟩) (fun i => 3 - i) (fun i => i ≤ 3) 0 (by decide) ?_
   intro i hi3 ih2
   repeat' (first | refine VJ.seq ?_ | refine VJ.region_k fun K hK => ?_ | (refine VR.done (hK _ ?_); clear hK K) | (first | refine VR.int rfl rfl rfl rfl ?_))
   refine VJ.cond rfl (fun hb => ?_) (fun hb => ?_)
   ·have hl3 : i < 3 := by
     have : (i : Int) < ((3 : Nat) : Int) := by simpa using hb
     omega
    have hle : i < (around t).length := hl3
    have hge := map_get_e hle
    have hsn := delE_snoc le' (around t) hle
    generalize (around t)[i] = x at hge hsn
    repeat' (first | refine VJ.seq ?_ | refine VJ.skip ?_ | refine VJ.block ?_ | refine VJ.region_k fun K hK => ?_ | (refine VR.done (hK _ ?_); clear hK K) | (first | (show onLd; refine VR.load tok rfl rfl rfl ((ldp_el (by assumption)).trans (by rfl)) ?_) | (show onIx; refine VR.indexAddr tok rfl rfl rfl rfl rfl rfl rfl (elA_lst (by assumption)) ?_) | refine VR.alloc tok rfl rfl rfl ?_ | refine VR.store tok rfl rfl rfl rfl rfl rfl rfl (by (intro n e; cases e; done)) ?_))
    apply VJ.draw3 [5] [(0, 0), (1, 0), (2, 0), (3, 0), (4, 0), (5, 0), (0, 1), (1, 1), (2, 1)] [[(0, none)], [(120, some 0)], [(121, some 1)], [(122, some 2)], [(22, none)], [(123, some 3), (124, some 4)]] [[(0, _)], [(120, _)], [(121, _)], [(122, _)], [(22, _)], [(123, _), (124, _)]] [_, _, _, _, _, (.a .top)] [⟨_, _, _⟩, ⟨_, _, _⟩] (by kernel_rfl) ?hok rfl ?hh rfl rfl ?hj
    case hh =>
     refine ⟨?_, ?_, ?_, ?_, ?_, ?_, ?_, ?_, ?_, trivial⟩
     all_goals (intro rest K1 hK1; (repeat (first | exact VR.done hK1 | (first | refine VR.move rfl rfl ?_ | (show onLd; refine VR.load tok rfl rfl rfl rfl ?_) | (show onFa; refine VR.fieldAddr tok rfl rfl rfl rfl rfl rfl ?_) | refine VR.nilCheck rfl rfl rfl ?_ | (refine VR.delete (key := x) rfl rfl rfl rfl (mapOk (by rfl)) rfl key58 ?_)))); try (first | exact VR.done hK1 | (refine VR.done ?_; dsimp only [S.set]; exact hK1)))
    case hok => kernel_rfl
    case hj =>
     dsimp only [tla]
     repeat' (first | refine VJ.inBlock ?_ | refine VJ.region_k fun K hK => ?_ | (refine VR.done (hK _ ?_); clear hK K) | (first | refine VR.move rfl rfl ?_ | refine VR.int rfl rfl rfl rfl ?_))
     refine VJ.toG 1 [(116, vI ((i + 1 : Nat) : Int)), (115, vI ((3 : Nat) : Int)), (114, vL 4 ((around t).map En.v)), (104, vI j), (103, vI out.length), (102, vL 6 (out.map Tr.v)), (2, vL 6 (inn.map Tr.v)), (1, vL 6 (out.map Tr.v)), (0, vM)] [(0, bxT t)] (GM3 (Mp.del ts' t) none (delE le' ((around t).take (i + 1))) none G) (ih2 (i + 1) hl3 (by omega)) rfl ⟨vI_succ (by omega), by rfl, by rfl, by rfl, by rfl, by rfl, by rfl, by rfl, by rfl, trivial⟩ (by repeat' first | exact trivial | refine ⟨rfl, ?_⟩) (by rfl) (fun n => ?_)
     rw [← hsn]
     exact congrFun (GM3_2 (Mp.del ts' t) none (delE le' ((around t).take i)) _ none none G) n
   have hge : i = 3 := by
    have : ¬ (i : Int) < ((3 : Nat) : Int) := by simpa using hb
    omega
   subst hge
   clear ih2 hb hi3
   repeat' (first | refine VJ.inBlock ?_ | refine VJ.exit rfl ?_ | refine VJ.region_k fun K hK => ?_ | (refine VR.done (hK _ ?_); clear hK K) | (first | refine VR.move rfl rfl ?_ | refine VR.int rfl rfl rfl rfl ?_))
   exact VJ.to 0 _ _ (ih (j + 1, delT (ts', le') t) ⟨hlt, hd⟩ (show out.length - (j + 1) < out.length - j by omega)) rfl ⟨vI_succ (by omega), by rfl, by rfl, by rfl, by rfl, by rfl, trivial⟩ trivial (by rfl)
 have hge : j = out.length := by simp at hb; omega
 subst hge
 rw [List.drop_length] at hd
 clear ih hb hj
 have hm3 : (ts', le') = out.foldl delT (ts, le) := hd
 have hd3 : (inn.drop 0).foldl addT (ts', le') = applyM (ts, le) out inn := by unfold applyM; rw [← hm3]; rfl
 obtain ⟨m3, hm⟩ : ∃ m3, m3 = (ts', le') := ⟨_, rfl⟩
 rw [← hm] at hd3
 have e1 : m3.1 = ts' := by rw [hm]
 have e2 : m3.2 = le' := by rw [hm]
 rw [← e1, ← e2]
 clear hm3 hd hm e1 e2
 clear ts' le'
 repeat' (first | refine VJ.seq ?_ | refine VJ.block ?_ | refine VJ.exit rfl ?_ | refine VJ.region_k fun K hK => ?_ | (refine VR.done (hK _ ?_); clear hK K) | (first | refine VR.move rfl rfl ?_ | refine VR.len tok rfl rfl rfl rfl rfl ?_))
 refine VJ.to 0 [(129, vI ((0 : Nat) : Int)), (128, vI inn.length), (127, vL 6 (inn.map Tr.v)), (2, vL 6 (inn.map Tr.v)), (1, vL 6 (out.map Tr.v)), (0, vM)] [] ?_ rfl ⟨by rfl, by simp [lk], by rfl, by rfl, by rfl, by rfl, trivial⟩ trivial (by rfl)
 refine VJ.rec (fun a : Nat × (TS × LS) => ⟨0, [(129, vI a.1), (128, vI inn.length), (127, vL 6 (inn.map Tr.v)), (2, vL 6 (inn.map Tr.v)), (1, vL 6 (out.map Tr.v)), (0, vM)], [], GM3 a.2.1 none a.2.2 none G⟩) (fun a => inn.length - a.1) (fun a => a.1 ≤ inn.length ∧ (inn.drop a.1).foldl addT a.2 = applyM (ts, le) out inn) (0, m3) ⟨Nat.zero_le _, hd3⟩ ?_
 rintro ⟨j, ts', le'⟩ ⟨hj, hd⟩ ih
 dsimp only at hj hd ih ⊢
 repeat' (first | refine VJ.seq ?_ | refine VJ.region_k fun K hK => ?_ | (refine VR.done (hK _ ?_); clear hK K) | (first | refine VR.int rfl rfl rfl rfl ?_))
 refine VJ.cond rfl (fun hb => ?_) (fun hb => ?_)
 ·have hlt : j < inn.length := by simpa using hb
  have hget := map_get_t hlt
  rw [List.drop_eq_getElem_cons hlt, List.foldl_cons] at hd
  generalize inn[j] = t at hget hd
  repeat' (first | refine VJ.seq ?_ | refine VJ.skip ?_ | refine VJ.block ?_ | refine VJ.region_k fun K hK => ?_ | (refine VR.done (hK _ ?_); clear hK K) | (first | (show onLd; refine VR.load tok rfl rfl rfl ((ldp_el (by assumption)).trans (by rfl)) ?_) | (show onIx; refine VR.indexAddr tok rfl rfl rfl rfl rfl rfl rfl (elA_lst (by assumption)) ?_) | refine VR.alloc tok rfl rfl rfl ?_ | refine VR.store tok rfl rfl rfl rfl rfl rfl rfl (by (intro n e; cases e; done)) ?_))
  apply VJ.draw3 [5] [(0, 0), (1, 0), (2, 0), (3, 0), (4, 0), (5, 0)] [[(0, none)], [(133, some 0)], [(134, some 1)], [(135, some 2)], [(24, none)], [(136, some 3), (137, some 4)]] [[(0, _)], [(133, _)], [(134, _)], [(135, _)], [(24, _)], [(136, _), (137, _)]] [_, _, _, _, _, (.a .top)] [⟨_, _, _⟩, ⟨_, _, _⟩] (by kernel_rfl) ?hok rfl ?hh rfl rfl ?hj
  case hh =>
   refine ⟨?_, ?_, ?_, ?_, ?_, ?_, trivial⟩
   all_goals (intro rest K1 hK1; (repeat (first | exact VR.done hK1 | (first | refine VR.move rfl rfl ?_ | (show onLd; refine VR.load tok rfl rfl rfl rfl ?_) | (show onFa; refine VR.fieldAddr tok rfl rfl rfl rfl rfl rfl ?_) | refine VR.nilCheck rfl rfl rfl ?_ | (refine VR.mapUpdate (key := t) (val := true) rfl rfl rfl rfl (mapOk (by rfl)) key26 ?_)))); try (first | exact VR.done hK1 | (refine VR.done ?_; dsimp only [S.set]; exact hK1)))
  case hok => kernel_rfl
  case hj =>
   dsimp only [tla]
   repeat' (first | refine VJ.seq ?_ | refine VJ.block ?_ | refine VJ.region_k fun K hK => ?_ | (refine VR.done (hK _ ?_); clear hK K) | (first | refine VR.move rfl rfl ?_ | (show onLd; refine VR.load tok rfl rfl rfl rfl ?_) | refine VR.len tok rfl rfl rfl rfl rfl ?_) | (refine VR.call fok86 rfl rfl rfl rfl ?_; refine (v_around t _ _ ?_)))
   refine VJ.toG 1 [(141, vI ((0 : Nat) : Int)), (140, vI ((3 : Nat) : Int)), (139, vL 4 ((around t).map En.v)), (129, vI j), (128, vI inn.length), (127, vL 6 (inn.map Tr.v)), (2, vL 6 (inn.map Tr.v)), (1, vL 6 (out.map Tr.v)), (0, vM), (24, .a (.ptr (.l 0) 0))] [(0, bxT t)] (GM3 (Mp.put ts' t true) none (addEs le' t ((around t).take 0)) none G) ?_ rfl (by repeat' first | exact trivial | refine ⟨rfl, ?_⟩) (by repeat' first | exact trivial | refine ⟨rfl, ?_⟩) (by rfl) (fun n => congrFun (GM3_1 ts' (Mp.put ts' t true) none none le' none G) n)
   refine VJ.rec (fun i : Nat => ⟨1, [(141, vI i), (140, vI ((3 : Nat) : Int)), (139, vL 4 ((around t).map En.v)), (129, vI j), (128, vI inn.length), (127, vL 6 (inn.map Tr.v)), (2, vL 6 (inn.map Tr.v)), (1, vL 6 (out.map Tr.v)), (0, vM), (24, .a (.ptr (.l 0) 0))], [(0, bxT t)], GM3 (Mp.put ts' t true) none (addEs le' t ((around t).take i)) none G⟩) (fun i => 3 - i) (fun i => i ≤ 3) 0 (by decide) ?_
   intro i hi3 ih2
   repeat' (first | refine VJ.seq ?_ | refine VJ.region_k fun K hK => ?_ | (refine VR.done (hK _ ?_); clear hK K) | (first | refine VR.int rfl rfl rfl rfl ?_))
   refine VJ.cond rfl (fun hb => ?_) (fun hb => ?_)
   ·have hl3 : i < 3 := by
     have : (i : Int) < ((3 : Nat) : Int) := by simpa using hb
     omega
    have hle : i < (around t).length := hl3
    have hge := map_get_e hle
    have hsn := addEs_snoc le' t (around t) hle
    generalize (around t)[i] = x at hge hsn
    repeat' (first | refine VJ.seq ?_ | refine VJ.skip ?_ | refine VJ.block ?_ | refine VJ.region_k fun K hK => ?_ | (refine VR.done (hK _ ?_); clear hK K) | (first | (show onLd; refine VR.load tok rfl rfl rfl ((ldp_el (by assumption)).trans (by rfl)) ?_) | (show onIx; refine VR.indexAddr tok rfl rfl rfl rfl rfl rfl rfl (elA_lst (by assumption)) ?_) | refine VR.alloc tok rfl rfl rfl ?_ | refine VR.store tok rfl rfl rfl rfl rfl rfl rfl (by (intro n e; cases e; done)) ?_))
    apply VJ.draw3 [6] [(0, 0), (1, 0), (2, 0), (3, 0), (4, 0), (5, 0), (6, 0)] [[(0, none)], [(145, some 0)], [(146, some 1)], [(147, some 2)], [(26, none)], [(24, none)], [(148, some 3), (149, some 4), (150, some 5)]] [[(0, _)], [(145, _)], [(146, _)], [(147, _)], [(26, _)], [(24, _)], [(148, _), (149, _), (150, _)]] [_, _, _, _, _, _, (.a .top)] [⟨_, _, _⟩, ⟨_, _, _⟩] (by kernel_rfl) ?hok rfl ?hh rfl rfl ?hj
    case hh =>
     refine ⟨?_, ?_, ?_, ?_, ?_, ?_, ?_, trivial⟩
     all_goals (intro rest K1 hK1; (repeat (first | exact VR.done hK1 | (first | refine VR.move rfl rfl ?_ | (show onLd; refine VR.load tok rfl rfl rfl rfl ?_) | (show onFa; refine VR.fieldAddr tok rfl rfl rfl rfl rfl rfl ?_) | refine VR.nilCheck rfl rfl rfl ?_ | (refine VR.mapUpdate (key := x) (val := t) rfl rfl rfl rfl (mapOk (by rfl)) key58 ?_)))); try (first | exact VR.done hK1 | (refine VR.done ?_; dsimp only [S.set]; exact hK1)))
    case hok => kernel_rfl
    case hj =>
     dsimp only [tla]
     repeat' (first | refine VJ.inBlock ?_ | refine VJ.region_k fun K hK => ?_ | (refine VR.done (hK _ ?_); clear hK K) | (first | refine VR.move rfl rfl ?_ | refine VR.int rfl rfl rfl rfl ?_))
     refine VJ.toG 1 [(141, vI ((i + 1 : Nat) : Int)), (140, vI ((3 : Nat) : Int)), (139, vL 4 ((around t).map En.v)), (129, vI j), (128, vI inn.length), (127, vL 6 (inn.map Tr.v)), (2, vL 6 (inn.map Tr.v)), (1, vL 6 (out.map Tr.v)), (0, vM), (24, .a (.ptr (.l 0) 0))] [(0, bxT t)] (GM3 (Mp.put ts' t true) none (addEs le' t ((around t).take (i + 1))) none G) (ih2 (i + 1) hl3 (by omega)) rfl ⟨vI_succ (by omega), by rfl, by rfl, by rfl, by rfl, by rfl, by rfl, by rfl, by rfl, by rfl, trivial⟩ (by repeat' first | exact trivial | refine ⟨rfl, ?_⟩) (by rfl) (fun n => ?_)
     rw [← hsn]
     exact congrFun (GM3_2 (Mp.put ts' t true) none (addEs le' t ((around t).take i)) _ none none G) n
   have hge : i = 3 := by
    have : ¬ (i : Int) < ((3 : Nat) : Int) := by simpa using hb
    omega
   subst hge
   clear ih2 hb hi3
   repeat' (first | refine VJ.inBlock ?_ | refine VJ.exit rfl ?_ | refine VJ.region_k fun K hK => ?_ | (refine VR.done (hK _ ?_); clear hK K) | (first | refine VR.move rfl rfl ?_ | refine VR.int rfl rfl rfl rfl ?_))
   exact VJ.to 0 _ _ (ih (j + 1, addT (ts', le') t) ⟨hlt, hd⟩ (show inn.length - (j + 1) < inn.length - j by omega)) rfl ⟨vI_succ (by omega), by rfl, by rfl, by rfl, by rfl, by rfl, trivial⟩ trivial (by rfl)
 have hge : j = inn.length := by simp at hb; omega
 subst hge
 rw [List.drop_length] at hd
 clear ih hb hj
 have hd : (ts', le') = applyM (ts, le) out inn := hd
 rw [← hd] at hq
 repeat' (first | refine VJ.seq ?_ | refine VJ.exit rfl ?_ | refine VJ.region_k fun K hK => ?_ | (refine VR.done (hK _ ?_); clear hK K) | (first | refine VR.assign rfl rfl ?_))
 refine VJ.toG 0 [(6, vI 0)] [] _ (VJ.ret tok (by rfl) (by rfl) hq) rfl (by repeat' first | exact trivial | refine ⟨rfl, ?_⟩) trivial (by rfl) (fun n => ?_)
 have e := congrFun eG n
 by_cases h2 : n = 2
 ·subst h2; rfl
 by_cases h1 : n = 1
 ·subst h1; rfl
 by_cases h0 : n = 0
 ·subst h0
  exact hg.1.symm
 ·refine Eq.trans ?_ (((if_neg h2).trans (if_neg h1)).symm)
  simp [gov, lk, h0, h1, h2]
end Go.Proofs.YtnpnjhopgedhkaaGreat
namespace Go.Proofs.YtnpnjhopgedhkaaGreat
open Go.RowKit V Geo
abbrev E0 : Gl := fun _ => none
def meshOf (l : List Tr) : TS × LS := l.foldl addT ([], [])
abbrev GMz (ts : TS) (z1 : Option (Nat × Obj)) (le : LS) (z2 : Option (Nat × Obj)) : Gl := GM3 ts z1 le z2 E0
attribute [local irreducible] VR VJ VC decOk decBt
set_option maxHeartbeats 4000000 in
theorem v_newM (l : List Tr) (hl : l.length < 1000000) (Q : Po) (hQ1 : replE [] [] [] l ≠ 0 → Q (.tup [.d (.v (.pointer none)), .d (.v (.int .i64 (replE [] [] [] l)))]) E0)
 (hQ2 : replE [] [] [] l = 0 → Q (.tup [.ptr (.g 0) 0, .d (.v (.int .i64 0))]) (GMz (meshOf l).1 none (meshOf l).2 none)) : VC Tryz.prog 28 [vL 6 (l.map Tr.v)] E0 Q := by
 refine VC.of_body Tryz.func28 rfl rfl rfl fun W0 h0 x0 hG0 => ?_
 simp only [args0]
 have hend : ∀ n o, E0 n = some o → False := fun n o e => by cases e
 repeat' (first | refine VJ.seq ?_ | refine VJ.skip ?_ | refine VJ.cond_t rfl ?_ | refine VJ.cond_f rfl ?_ | refine VJ.region_k fun K hK => ?_)
 iterate 2 (first | refine VR.move rfl rfl ?_ | refine VR.assign rfl rfl ?_ | refine VR.int rfl rfl rfl rfl ?_ | refine VR.box rfl rfl rfl ?_ | refine VR.buildL (n := 1) [_, _] tok rfl rfl rfl rfl rfl rfl rfl rfl ?_)
 refine VR.done (hK _ ?_); clear hK K
 repeat' (first | refine VJ.seq ?_ | refine VJ.skip ?_ | refine VJ.cond_t rfl ?_ | refine VJ.cond_f rfl ?_ | refine VJ.region_k fun K hK => ?_)
 refine VR.makeMapG 1 rfl Tr.v Value.bool rfl ?_
 refine VR.makeMapG 2 rfl En.v Tr.v rfl ?_
 refine VR.buildSt (xs := [.tmp 6, .tmp 7]) (n := 1) tok rfl rfl rfl rfl rfl rfl rfl rfl ?_
 refine VR.boxG 0 rfl rfl rfl rfl rfl ?_
 first | refine VR.move rfl rfl ?_ | refine VR.assign rfl rfl ?_ | refine VR.int rfl rfl rfl rfl ?_ | refine VR.box rfl rfl rfl ?_ | refine VR.buildL (n := 1) [_, _] tok rfl rfl rfl rfl rfl rfl rfl rfl ?_
 refine VR.done (hK _ ?_); clear hK K
 refine VJ.toG 0 [(4, vM), (0, vL 6 (l.map Tr.v))] [] (GMz [] none [] none) ?_ rfl (by repeat' first | exact trivial | refine ⟨rfl, ?_⟩) trivial (by rfl) (fun n => ?_)
 rotate_left
 ·by_cases h0 : n = 0
  ·subst h0; rfl
  by_cases h1 : n = 1
  ·subst h1; rfl
  by_cases h2 : n = 2
  ·subst h2; rfl
  ·simp [gov, lk, h0, h1, h2]
 by_cases hE : replE [] [] [] l = 0
 ·have hq := hQ2 hE
  repeat' (first | refine VJ.seq ?_ | refine VJ.skip ?_ | refine VJ.cond_t rfl ?_ | refine VJ.cond_f rfl ?_ | refine VJ.region_k fun K hK => ?_ | (refine VR.done (hK _ ?_); clear hK K) | (first | refine VR.move rfl rfl ?_ | refine VR.assign rfl rfl ?_ | refine VR.int rfl rfl rfl rfl ?_ | refine VR.box rfl rfl rfl ?_ | refine VR.buildL (n := 1) [_, _] tok rfl rfl rfl rfl rfl rfl rfl rfl ?_ | (refine VR.call fok54 rfl rfl rfl rfl ?_; refine VC.nils [none, some 6] ?_; refine v_replace [] [] [] l (by decide) hl _ (GM3_mesh [] none [] none _) _ (fun h => absurd hE h) (fun _ => ?_))))
  refine VJ.toG 0 [(3, vI 0), (2, vM)] [] (GMz (meshOf l).1 none (meshOf l).2 none) ?_ rfl (by repeat' first | exact trivial | refine ⟨rfl, ?_⟩) trivial (by rfl) (fun n => ?_)
  rotate_left
  ·by_cases h2 : n = 2
   ·subst h2; rfl
   by_cases h1 : n = 1
   ·subst h1; rfl
   by_cases h0 : n = 0
   ·subst h0; rfl
   ·simp [gset, gov, lk, h0, h1, h2]
  refine VJ.retX (GMz (meshOf l).1 none (meshOf l).2 none) tok (by rfl) (by rfl) hG0 (fun n h => absurd rfl h) (fun n o h => .inr fun m hm => ?_) (fun n o h => h) (fun m hm => ?_) hq
  ·have : n = 0 ∧ o = bxM ∨ (n = 1 ∧ o = mT (meshOf l).1 none) ∨ (n = 2 ∧ o = mL (meshOf l).2 none) := by
    by_cases h0 : n = 0
    ·subst h0; exact .inl ⟨rfl, (Option.some.inj h).symm⟩
    by_cases h1 : n = 1
    ·subst h1; exact .inr (.inl ⟨rfl, (Option.some.inj h).symm⟩)
    by_cases h2 : n = 2
    ·subst h2; exact .inr (.inr ⟨rfl, (Option.some.inj h).symm⟩)
    ·simp [gov, lk, h0, h1, h2] at h
   rcases this with ⟨rfl, rfl⟩ | ⟨rfl, rfl⟩ | ⟨rfl, rfl⟩
   ·obtain ⟨x, hx, hs⟩ := hm
    simp only [List.mem_cons, List.not_mem_nil, or_false] at hx
    rcases hx with rfl | rfl <;> cases hs <;> simp [gov, lk]
   ·exact hm.elim
   ·exact hm.elim
  ·obtain ⟨x, hx, hs⟩ := hm
   simp only [List.mem_cons, List.not_mem_nil, or_false] at hx
   rcases hx with rfl | rfl
   ·cases hs; simp [gov, lk]
   ·exact hs.elim
 ·have hq := hQ1 hE
  have hE' : (replE [] [] [] l != 0) = true := by simpa using hE
  repeat' (first | refine VJ.seq ?_ | refine VJ.skip ?_ | refine VJ.cond_t rfl ?_ | refine VJ.cond_f rfl ?_ | refine VJ.region_k fun K hK => ?_ | (refine VR.done (hK _ ?_); clear hK K) | (first | refine VR.move rfl rfl ?_ | refine VR.assign rfl rfl ?_ | refine VR.int rfl rfl rfl rfl ?_ | refine VR.box rfl rfl rfl ?_ | refine VR.buildL (n := 1) [_, _] tok rfl rfl rfl rfl rfl rfl rfl rfl ?_ | (refine VR.call fok54 rfl rfl rfl rfl ?_; refine VC.nils [none, some 6] ?_; refine v_replace [] [] [] l (by decide) hl _ (GM3_mesh [] none [] none _) _ (fun _ => ?_) (fun h => absurd h hE))))
  refine VJ.cond rfl (fun hc => ?_) (fun hc => ?_)
  ·repeat' (first | refine VJ.seq ?_ | refine VJ.skip ?_ | refine VJ.cond_t rfl ?_ | refine VJ.cond_f rfl ?_ | refine VJ.region_k fun K hK => ?_ | (refine VR.done (hK _ ?_); clear hK K) | (first | refine VR.move rfl rfl ?_ | refine VR.assign rfl rfl ?_ | refine VR.int rfl rfl rfl rfl ?_ | refine VR.box rfl rfl rfl ?_ | refine VR.buildL (n := 1) [_, _] tok rfl rfl rfl rfl rfl rfl rfl rfl ?_ | (refine VR.call fok54 rfl rfl rfl rfl ?_; refine VC.nils [none, some 6] ?_; refine v_replace [] [] [] l (by decide) hl _ (GM3_mesh [] none [] none _) _ (fun _ => ?_) (fun h => absurd h hE))))
   refine VJ.retF tok (by rfl) (by rfl) hG0 ?_ (by rfl) ?_
   ·exact fun n o e => (hend n o e).elim
   ·exact hq
  ·have hc : (replE [] [] [] l != 0) = false := hc
   rw [hE'] at hc; cases hc
end Go.Proofs.YtnpnjhopgedhkaaGreat
namespace Go.Proofs.YtnpnjhopgedhkaaGreat
open Go.RowKit V Geo
def edV (t : Tr) : Value := .agg #[.int .i64 t.a.x, .int .i64 t.a.y, .int .i64 t.b.x, .int .i64 t.b.y, .int .i64 t.b.x, .int .i64 t.b.y, .int .i64 t.c.x, .int .i64 t.c.y, .int .i64 t.c.x, .int .i64 t.c.y, .int .i64 t.a.x, .int .i64 t.a.y]
set_option maxRecDepth 20000 in
set_option maxHeartbeats 1000000 in
theorem edges_c (t : Tr) (w : World) : Calls Tryz.prog 41 #[t.v] w fun e w' => e = .returned (edV t) ∧ Below w.heap.size w w' := by
 unfold Tr.v edV
 go_enter Tryz.func41, Tryz.ntmps41
 go_wp2_with fail
 refine bodyPost_ret (v := .agg #[.int .i64 _, .int .i64 _, .int .i64 _, .int .i64 _, .int .i64 _, .int .i64 _, .int .i64 _, .int .i64 _, .int .i64 _, .int .i64 _, .int .i64 _, .int .i64 _]) ?_ rfl ⟨rfl, by go_grown⟩
 simp [results, Tryz.f41, go_sem]
abbrev bxN : VO := .box [.mp (.g 4)]
structure RefG (G : Gl) (E : LS) : Prop where
 g3 : G 3 = some bxN
 g4 : ∃ z, G 4 = some (mL E z)
theorem RefG.ok {G : Gl} {E : LS} (h : RefG G E) : ∃ z, govOk G [(3, bxN), (4, mL E z)] := by
 obtain ⟨g3, z, g4⟩ := h
 exact ⟨z, g3, g4, trivial⟩
abbrev vN : AV := .a (.ptr (.g 3) 0)
def hasR (E : LS) (t : Tr) : Bool := bif (Mp.get E ⟨t.a, t.b⟩).isSome then decide ((Mp.get E ⟨t.a, t.b⟩).getD tr0 = t) else false
def acrossR (E : LS) (t : Tr) (i : Nat) : Tr × Bool := if hasR E t = true then leftOf E (t.cor (i + 1)) (t.cor i) else (tr0, false)
attribute [local irreducible] VR VJ VC decOk decBt
theorem v_edges (t : Tr) (G : Gl) (Q : Po) (hQ : Q (vV (edV t)) G) : VC Tryz.prog 41 [vV t.v] G Q := VC.of_calls (vals := [t.v]) (edges_c t) hQ
theorem v_leftR (E : LS) (a b : Pt) (G : Gl) (hG : RefG G E) (Q : Po) (hQ : Q (.tup [.d (.v (leftOf E a b).1.v), .d (.v (.bool (leftOf E a b).2))]) G) : VC Tryz.prog 42 [vN, vV (ptV a), vV (ptV b)] G Q := by
 obtain ⟨z, hg⟩ := hG.ok
 rw [gov_self hg] at hQ ⊢
 refine VC.of_body Tryz.func42 rfl rfl rfl fun W0 h0 x0 hG0 => ?_
 simp only [args0]
 repeat' (first | refine VJ.seq ?_ | refine VJ.region_k fun K hK => ?_ | (refine VR.done (hK _ ?_); clear hK K) | (first | refine VR.assign rfl rfl ?_ | refine VR.box rfl rfl rfl ?_ | refine VR.alloc tok rfl rfl rfl ?_))
 apply VJ.draw3 [11, 12] [(0, 0), (1, 0), (2, 0), (3, 0), (4, 0), (5, 0), (6, 0), (7, 0), (8, 0), (9, 0), (10, 0), (11, 0), (12, 1), (13, 2), (0, 1), (1, 1), (2, 1), (3, 1), (4, 1), (5, 1), (6, 1), (7, 1), (8, 1), (9, 1), (10, 1), (10, 2)] [[(0, none)], [(11, some 0)], [(12, some 1)], [(13, some 2)], [(4, none)], [(5, none)], [(15, some 4), (16, some 5)], [(14, some 3), (17, some 6)], [(18, some 7)], [(10, some 8)], [(10, some 8)], [], [(8, some 11), (19, some 9)], [(20, some 10)]] [[(0, _)], [(11, _)], [(12, _)], [(13, _)], [(4, _)], [(5, _)], [(15, _), (16, _)], [(14, _), (17, _)], [(18, _)], [(10, _)], [(10, _)], [], [(8, _), (19, _)], [(20, _)]] [_, _, _, _, _, _, _, _, _, _, _, _, (.a .top), _] [⟨_, _, _⟩, ⟨_, _, _⟩, ⟨_, _, _⟩] (by kernel_rfl) ?hok rfl ?hh rfl rfl ?hj
 case hh =>
  refine ⟨?_, ?_, ?_, ?_, ?_, ?_, ?_, ?_, ?_, ?_, ?_, ?_, ?_, ?_, ?_, ?_, ?_, ?_, ?_, ?_, ?_, ?_, ?_, ?_, ?_, ?_, trivial⟩
  all_goals (intro rest K1 hK1; (repeat (first | exact VR.done hK1 | (first | refine VR.move rfl rfl ?_ | refine VR.assign rfl rfl ?_ | (show onLd; refine VR.load tok rfl rfl rfl rfl ?_) | (show onFa; refine VR.fieldAddr tok rfl rfl rfl rfl rfl rfl ?_) | refine VR.alloc tok rfl rfl rfl ?_ | refine VR.store tok rfl rfl rfl rfl rfl rfl rfl (by first | (intro n e; cases e; done) | exact (fun _ _ q => all_glA (by rfl) q)) ?_ | refine VR.nilCheck rfl rfl rfl ?_ | refine VR.extract rfl rfl rfl ?_ | refine VR.buildX [_, _, _, _] tok rfl rfl rfl rfl rfl rfl ?_ | (refine VR.lookup2 (key := (⟨a, b⟩ : En)) (zv := tr0) rfl rfl rfl rfl (mapOk (by rfl)) key60 (fun w => by kernel_rfl) ?_)))); try (first | exact VR.done hK1 | (refine VR.done ?_; dsimp only [S.set]; exact hK1)))
 case hok => kernel_rfl
 case hj =>
  dsimp only [tla]
  repeat' (first | refine VJ.seq ?_ | refine VJ.region_k fun K hK => ?_ | (refine VR.done (hK _ ?_); clear hK K) | (first | refine VR.move rfl rfl ?_ | refine VR.assign rfl rfl ?_ | (show onLd; refine VR.load tok rfl rfl rfl rfl ?_) | refine VR.store tok rfl rfl rfl rfl rfl rfl rfl (by first | (intro n e; cases e; done) | exact (fun _ _ q => all_glA (by rfl) q)) ?_))
  refine VJ.ret tok (by rfl) (by rfl) ?_
  exact hQ
end Go.Proofs.YtnpnjhopgedhkaaGreat
namespace Go.Proofs.YtnpnjhopgedhkaaGreat
open Go.RowKit V Geo
def isE (E : LS) (a b : Pt) : Bool := (Mp.get E ⟨a, b⟩).isSome
def fitsR (E : LS) (t : Tr) : Bool := !isE E t.a t.b && !isE E t.b t.c && !isE E t.c t.a
def newR (E : LS) : List Tr → Option LS
 | [] => some E
 | t :: l => if (bif !validT t then true else !fitsR E t) = true then none else newR (addEs E t (around t)) l
theorem addEs3 (E : LS) (t : Tr) : addEs E t (around t) = Mp.put (Mp.put (Mp.put E ⟨t.a, t.b⟩ t) ⟨t.b, t.c⟩ t) ⟨t.c, t.a⟩ t := rfl
attribute [local irreducible] VR VJ VC decOk decBt
set_option maxHeartbeats 4000000 in
theorem v_putR (E : LS) (t : Tr) (G : Gl) (hG : RefG G E) (Q : Po) (hQ1 : fitsR E t = false → Q (vB false) G) (hQ2 : fitsR E t = true → Q (vB true) (gset G 4 (mL (addEs E t (around t)) none))) : VC Tryz.prog 72 [vN, vV t.v] G Q := by
 obtain ⟨z, hg⟩ := hG.ok
 have eG := gov_self hg
 have hret : ∀ n o, G n = some o → gov [(3, bxN), (4, mL E z)] G n = some o := fun n o e => (congrFun eG n).symm.trans e
 refine VC.of_body Tryz.func72 rfl rfl rfl fun W0 h0 x0 hG0 => ?_
 simp only [args0]
 refine VJ.toG 0 (args0 0 [vN, vV t.v]) [] (gov [(3, bxN), (4, mL E z)] G) ?_ rfl (by repeat' first | exact trivial | refine ⟨rfl, ?_⟩) trivial (by rfl) (fun n => congrFun eG n)
 simp only [args0]
 repeat' (first | refine VJ.seq ?_ | refine VJ.block ?_ | refine VJ.region_k fun K hK => ?_ | (refine VR.done (hK _ ?_); clear hK K) | (first | refine VR.assign rfl rfl ?_ | (show onLd; refine VR.load tok rfl rfl rfl rfl ?_) | refine VR.box rfl rfl rfl ?_ | refine VR.alloc tok rfl rfl rfl ?_ | refine VR.store tok rfl rfl rfl rfl rfl rfl rfl (by first | (intro n e; cases e; done) | exact (fun _ _ q => all_glA (by rfl) q)) ?_) | (refine VR.call fok41 rfl rfl rfl rfl ?_; refine (v_edges t _ _ ?_)))
 refine VJ.loop ?_
 repeat' (first | refine VJ.seq ?_ | refine VJ.skip ?_ | refine VJ.block ?_ | refine VJ.cond_t rfl ?_ | refine VJ.region_k fun K hK => ?_ | (refine VR.done (hK _ ?_); clear hK K) | (first | refine VR.move rfl rfl ?_ | refine VR.int rfl rfl rfl rfl ?_))
 apply VJ.draw3 [11, 12] [(0, 0), (1, 0), (2, 0), (3, 0), (4, 0), (5, 0), (6, 0), (7, 0), (8, 0), (9, 0), (10, 0), (11, 0), (12, 1), (13, 2), (0, 1), (1, 1), (2, 1), (3, 1), (4, 1), (5, 1), (6, 1), (7, 1), (8, 1), (9, 1), (10, 1), (10, 2)] [[(0, none)], [(17, some 0)], [(18, some 1)], [(19, some 2)], [(6, none)], [(5, none), (21, some 4)], [(22, some 5)], [(20, some 3), (23, some 6)], [(24, some 7)], [(16, some 8)], [(16, some 8)], [], [(7, some 11), (25, some 9)], [(26, some 10)]] [[(0, _)], [(17, _)], [(18, _)], [(19, _)], [(6, _)], [(5, _), (21, _)], [(22, _)], [(20, _), (23, _)], [(24, _)], [(16, _)], [(16, _)], [], [(7, _), (25, _)], [(26, _)]] [_, _, _, _, _, _, _, _, _, _, _, _, (.a .top), _] [⟨_, _, _⟩, ⟨_, _, _⟩, ⟨_, _, _⟩] (by kernel_rfl) ?hok rfl ?hh rfl rfl ?hj
 case hh =>
  refine ⟨?_, ?_, ?_, ?_, ?_, ?_, ?_, ?_, ?_, ?_, ?_, ?_, ?_, ?_, ?_, ?_, ?_, ?_, ?_, ?_, ?_, ?_, ?_, ?_, ?_, ?_, trivial⟩
  all_goals (intro rest K1 hK1; (repeat (first | exact VR.done hK1 | (first | refine VR.move rfl rfl ?_ | refine VR.assign rfl rfl ?_ | (show onLd; refine VR.load tok rfl rfl rfl (by first | rfl | exact (ldp_el (by assumption)).trans (by rfl)) ?_) | (show onFa; refine VR.fieldAddr tok rfl rfl rfl (by first | rfl | exact place_el (by assumption)) rfl rfl ?_) | (show onIx; refine VR.indexArr tok rfl (arrOk (by rfl)) rfl rfl (by first | rfl | exact place_el (by assumption)) rfl rfl (by decide) rfl ?_) | refine VR.alloc tok rfl rfl rfl ?_ | refine VR.store tok rfl rfl rfl rfl rfl rfl rfl (by first | (intro n e; cases e; done) | exact (fun _ _ q => all_glA (by rfl) q)) ?_ | refine VR.nilCheck rfl rfl rfl ?_ | refine VR.extract rfl rfl rfl ?_ | (refine VR.lookup2 (key := (⟨t.a, t.b⟩ : En)) (zv := tr0) rfl rfl rfl rfl (mapOk (by rfl)) key60 (fun w => by kernel_rfl) ?_)))); try (first | exact VR.done hK1 | (refine VR.done ?_; dsimp only [S.set]; exact hK1)))
 case hok => kernel_rfl
 case hj =>
  dsimp only [tla]
  repeat' (first | refine VJ.seq ?_ | refine VJ.region_k fun K hK => ?_ | (refine VR.done (hK _ ?_); clear hK K) | (first | refine VR.move rfl rfl ?_))
  refine VJ.cond rfl (fun h1 => ?_) (fun h1 => ?_)
  ·have h1 : isE E t.a t.b = true := h1
   repeat' (first | refine VJ.seq ?_ | refine VJ.region_k fun K hK => ?_ | (refine VR.done (hK _ ?_); clear hK K) | (first | refine VR.assign rfl rfl ?_))
   refine VJ.retF tok (by rfl) (by rfl) hG0 ?_ (by rfl) ?_
   ·exact hret
   ·exact hQ1 (by unfold fitsR; rw [h1]; rfl)
  have h1 : isE E t.a t.b = false := h1
  repeat' (first | refine VJ.skip ?_ | refine VJ.inBlock ?_ | refine VJ.region_k fun K hK => ?_ | (refine VR.done (hK _ ?_); clear hK K) | (first | refine VR.move rfl rfl ?_ | refine VR.assign rfl rfl ?_ | refine VR.int rfl rfl rfl rfl ?_))
  refine VJ.inLoop ?_
  repeat' (first | refine VJ.seq ?_ | refine VJ.skip ?_ | refine VJ.block ?_ | refine VJ.cond_t rfl ?_ | refine VJ.region_k fun K hK => ?_ | (refine VR.done (hK _ ?_); clear hK K) | (first | refine VR.move rfl rfl ?_ | refine VR.int rfl rfl rfl rfl ?_))
  apply VJ.draw3 [11, 12] [(0, 0), (1, 0), (2, 0), (3, 0), (4, 0), (5, 0), (6, 0), (7, 0), (8, 0), (9, 0), (10, 0), (11, 0), (12, 1), (13, 2), (0, 1), (1, 1), (2, 1), (3, 1), (4, 1), (5, 1), (6, 1), (7, 1), (8, 1), (9, 1), (10, 1), (10, 2)] [[(0, none)], [(17, some 0)], [(18, some 1)], [(19, some 2)], [(6, none)], [(5, none), (21, some 4)], [(22, some 5)], [(20, some 3), (23, some 6)], [(24, some 7)], [(16, some 8)], [(16, some 8)], [], [(7, some 11), (25, some 9)], [(26, some 10)]] [[(0, _)], [(17, _)], [(18, _)], [(19, _)], [(6, _)], [(5, _), (21, _)], [(22, _)], [(20, _), (23, _)], [(24, _)], [(16, _)], [(16, _)], [], [(7, _), (25, _)], [(26, _)]] [_, _, _, _, _, _, _, _, _, _, _, _, (.a .top), _] [⟨_, _, _⟩, ⟨_, _, _⟩, ⟨_, _, _⟩] (by kernel_rfl) ?hok rfl ?hh rfl rfl ?hj
  case hh =>
   refine ⟨?_, ?_, ?_, ?_, ?_, ?_, ?_, ?_, ?_, ?_, ?_, ?_, ?_, ?_, ?_, ?_, ?_, ?_, ?_, ?_, ?_, ?_, ?_, ?_, ?_, ?_, trivial⟩
   all_goals (intro rest K1 hK1; (repeat (first | exact VR.done hK1 | (first | refine VR.move rfl rfl ?_ | refine VR.assign rfl rfl ?_ | (show onLd; refine VR.load tok rfl rfl rfl (by first | rfl | exact (ldp_el (by assumption)).trans (by rfl)) ?_) | (show onFa; refine VR.fieldAddr tok rfl rfl rfl (by first | rfl | exact place_el (by assumption)) rfl rfl ?_) | (show onIx; refine VR.indexArr tok rfl (arrOk (by rfl)) rfl rfl (by first | rfl | exact place_el (by assumption)) rfl rfl (by decide) rfl ?_) | refine VR.alloc tok rfl rfl rfl ?_ | refine VR.store tok rfl rfl rfl rfl rfl rfl rfl (by first | (intro n e; cases e; done) | exact (fun _ _ q => all_glA (by rfl) q)) ?_ | refine VR.nilCheck rfl rfl rfl ?_ | refine VR.extract rfl rfl rfl ?_ | (refine VR.lookup2 (key := (⟨t.b, t.c⟩ : En)) (zv := tr0) rfl rfl rfl rfl (mapOk (by rfl)) key60 (fun w => by kernel_rfl) ?_)))); try (first | exact VR.done hK1 | (refine VR.done ?_; dsimp only [S.set]; exact hK1)))
  case hok => kernel_rfl
  case hj =>
   dsimp only [tla]
   repeat' (first | refine VJ.seq ?_ | refine VJ.region_k fun K hK => ?_ | (refine VR.done (hK _ ?_); clear hK K) | (first | refine VR.move rfl rfl ?_))
   refine VJ.cond rfl (fun h2 => ?_) (fun h2 => ?_)
   ·have h2 : isE E t.b t.c = true := h2
    repeat' (first | refine VJ.seq ?_ | refine VJ.region_k fun K hK => ?_ | (refine VR.done (hK _ ?_); clear hK K) | (first | refine VR.assign rfl rfl ?_))
    refine VJ.retF tok (by rfl) (by rfl) hG0 ?_ (by rfl) ?_
    ·exact hret
    ·exact hQ1 (by unfold fitsR; rw [h1, h2]; rfl)
   have h2 : isE E t.b t.c = false := h2
   repeat' (first | refine VJ.skip ?_ | refine VJ.inBlock ?_ | refine VJ.region_k fun K hK => ?_ | (refine VR.done (hK _ ?_); clear hK K) | (first | refine VR.move rfl rfl ?_ | refine VR.assign rfl rfl ?_ | refine VR.int rfl rfl rfl rfl ?_))
   refine VJ.inLoop ?_
   repeat' (first | refine VJ.seq ?_ | refine VJ.skip ?_ | refine VJ.block ?_ | refine VJ.cond_t rfl ?_ | refine VJ.region_k fun K hK => ?_ | (refine VR.done (hK _ ?_); clear hK K) | (first | refine VR.move rfl rfl ?_ | refine VR.int rfl rfl rfl rfl ?_))
   apply VJ.draw3 [11, 12] [(0, 0), (1, 0), (2, 0), (3, 0), (4, 0), (5, 0), (6, 0), (7, 0), (8, 0), (9, 0), (10, 0), (11, 0), (12, 1), (13, 2), (0, 1), (1, 1), (2, 1), (3, 1), (4, 1), (5, 1), (6, 1), (7, 1), (8, 1), (9, 1), (10, 1), (10, 2)] [[(0, none)], [(17, some 0)], [(18, some 1)], [(19, some 2)], [(6, none)], [(5, none), (21, some 4)], [(22, some 5)], [(20, some 3), (23, some 6)], [(24, some 7)], [(16, some 8)], [(16, some 8)], [], [(7, some 11), (25, some 9)], [(26, some 10)]] [[(0, _)], [(17, _)], [(18, _)], [(19, _)], [(6, _)], [(5, _), (21, _)], [(22, _)], [(20, _), (23, _)], [(24, _)], [(16, _)], [(16, _)], [], [(7, _), (25, _)], [(26, _)]] [_, _, _, _, _, _, _, _, _, _, _, _, (.a .top), _] [⟨_, _, _⟩, ⟨_, _, _⟩, ⟨_, _, _⟩] (by kernel_rfl) ?hok rfl ?hh rfl rfl ?hj
   case hh =>
    refine ⟨?_, ?_, ?_, ?_, ?_, ?_, ?_, ?_, ?_, ?_, ?_, ?_, ?_, ?_, ?_, ?_, ?_, ?_, ?_, ?_, ?_, ?_, ?_, ?_, ?_, ?_, trivial⟩
    all_goals (intro rest K1 hK1; (repeat (first | exact VR.done hK1 | (first | refine VR.move rfl rfl ?_ | refine VR.assign rfl rfl ?_ | (show onLd; refine VR.load tok rfl rfl rfl (by first | rfl | exact (ldp_el (by assumption)).trans (by rfl)) ?_) | (show onFa; refine VR.fieldAddr tok rfl rfl rfl (by first | rfl | exact place_el (by assumption)) rfl rfl ?_) | (show onIx; refine VR.indexArr tok rfl (arrOk (by rfl)) rfl rfl (by first | rfl | exact place_el (by assumption)) rfl rfl (by decide) rfl ?_) | refine VR.alloc tok rfl rfl rfl ?_ | refine VR.store tok rfl rfl rfl rfl rfl rfl rfl (by first | (intro n e; cases e; done) | exact (fun _ _ q => all_glA (by rfl) q)) ?_ | refine VR.nilCheck rfl rfl rfl ?_ | refine VR.extract rfl rfl rfl ?_ | (refine VR.lookup2 (key := (⟨t.c, t.a⟩ : En)) (zv := tr0) rfl rfl rfl rfl (mapOk (by rfl)) key60 (fun w => by kernel_rfl) ?_)))); try (first | exact VR.done hK1 | (refine VR.done ?_; dsimp only [S.set]; exact hK1)))
   case hok => kernel_rfl
   case hj =>
    dsimp only [tla]
    repeat' (first | refine VJ.seq ?_ | refine VJ.region_k fun K hK => ?_ | (refine VR.done (hK _ ?_); clear hK K) | (first | refine VR.move rfl rfl ?_))
    refine VJ.cond rfl (fun h3 => ?_) (fun h3 => ?_)
    ·have h3 : isE E t.c t.a = true := h3
     repeat' (first | refine VJ.seq ?_ | refine VJ.region_k fun K hK => ?_ | (refine VR.done (hK _ ?_); clear hK K) | (first | refine VR.assign rfl rfl ?_))
     refine VJ.retF tok (by rfl) (by rfl) hG0 ?_ (by rfl) ?_
     ·exact hret
     ·exact hQ1 (by unfold fitsR; rw [h1, h2, h3]; rfl)
    have h3 : isE E t.c t.a = false := h3
    have hq := hQ2 (by unfold fitsR; rw [h1, h2, h3]; rfl)
    rw [addEs3] at hq
    clear hQ1 hQ2
    refine VJ.to 3 [(5, .a (.ptr (.l 1) 0)), (3, .a (.ptr (.l 0) 0)), (0, vN), (6, vI ((2 : Nat) : Int))] [(0, bxT t), (1, .box [.d (.v (.int .i64 t.a.x)), .d (.v (.int .i64 t.a.y)), .d (.v (.int .i64 t.b.x)), .d (.v (.int .i64 t.b.y)), .d (.v (.int .i64 t.b.x)), .d (.v (.int .i64 t.b.y)), .d (.v (.int .i64 t.c.x)), .d (.v (.int .i64 t.c.y)), .d (.v (.int .i64 t.c.x)), .d (.v (.int .i64 t.c.y)), .d (.v (.int .i64 t.a.x)), .d (.v (.int .i64 t.a.y))])] ?_ rfl (by repeat' first | exact trivial | refine ⟨rfl, ?_⟩) (by repeat' first | exact trivial | refine ⟨rfl, ?_⟩) (by rfl)
    repeat' (first | refine VJ.skip ?_ | refine VJ.inBlock ?_ | refine VJ.region_k fun K hK => ?_ | (refine VR.done (hK _ ?_); clear hK K) | (first | refine VR.move rfl rfl ?_ | refine VR.assign rfl rfl ?_ | refine VR.int rfl rfl rfl rfl ?_))
    refine VJ.inLoop ?_
    repeat' (first | refine VJ.seq ?_ | refine VJ.block ?_ | refine VJ.exit rfl ?_ | refine VJ.cond_f rfl ?_ | refine VJ.region_k fun K hK => ?_ | (refine VR.done (hK _ ?_); clear hK K) | (first | refine VR.move rfl rfl ?_ | refine VR.assign rfl rfl ?_ | refine VR.int rfl rfl rfl rfl ?_))
    refine VJ.loop ?_
    repeat' (first | refine VJ.seq ?_ | refine VJ.skip ?_ | refine VJ.block ?_ | refine VJ.cond_t rfl ?_ | refine VJ.region_k fun K hK => ?_ | (refine VR.done (hK _ ?_); clear hK K) | (first | refine VR.move rfl rfl ?_ | refine VR.int rfl rfl rfl rfl ?_))
    apply VJ.draw3 [8] [(0, 0), (1, 0), (2, 0), (3, 0), (4, 0), (5, 0), (6, 0), (7, 0), (8, 0)] [[(0, none)], [(32, some 0)], [(33, some 1)], [(34, some 2)], [(9, none)], [(5, none), (36, some 4)], [(37, some 5)], [(3, none)], [(35, some 3), (38, some 6), (39, some 7)]] [[(0, _)], [(32, _)], [(33, _)], [(34, _)], [(9, _)], [(5, _), (36, _)], [(37, _)], [(3, _)], [(35, _), (38, _), (39, _)]] [_, _, _, _, _, _, _, _, (.a .top)] [⟨_, _, _⟩, ⟨_, _, _⟩] (by kernel_rfl) ?hok rfl ?hh rfl rfl ?hj
    case hh =>
     refine ⟨?_, ?_, ?_, ?_, ?_, ?_, ?_, ?_, ?_, trivial⟩
     all_goals (intro rest K1 hK1; (repeat (first | exact VR.done hK1 | (first | refine VR.move rfl rfl ?_ | (show onLd; refine VR.load tok rfl rfl rfl (by first | rfl | exact (ldp_el (by assumption)).trans (by rfl)) ?_) | (show onFa; refine VR.fieldAddr tok rfl rfl rfl (by first | rfl | exact place_el (by assumption)) rfl rfl ?_) | (show onIx; refine VR.indexArr tok rfl (arrOk (by rfl)) rfl rfl (by first | rfl | exact place_el (by assumption)) rfl rfl (by decide) rfl ?_) | refine VR.nilCheck rfl rfl rfl ?_ | (refine VR.mapUpdate (key := (⟨t.a, t.b⟩ : En)) (val := t) rfl rfl rfl rfl (mapOk (by rfl)) key60 ?_)))); try (first | exact VR.done hK1 | (refine VR.done ?_; dsimp only [S.set]; exact hK1)))
    case hok => kernel_rfl
    case hj =>
     dsimp only [tla]
     repeat' (first | refine VJ.inBlock ?_ | refine VJ.region_k fun K hK => ?_ | (refine VR.done (hK _ ?_); clear hK K) | (first | refine VR.move rfl rfl ?_ | refine VR.assign rfl rfl ?_ | refine VR.int rfl rfl rfl rfl ?_))
     refine VJ.inLoop ?_
     repeat' (first | refine VJ.seq ?_ | refine VJ.skip ?_ | refine VJ.block ?_ | refine VJ.cond_t rfl ?_ | refine VJ.region_k fun K hK => ?_ | (refine VR.done (hK _ ?_); clear hK K) | (first | refine VR.move rfl rfl ?_ | refine VR.int rfl rfl rfl rfl ?_))
     apply VJ.draw3 [8] [(0, 0), (1, 0), (2, 0), (3, 0), (4, 0), (5, 0), (6, 0), (7, 0), (8, 0)] [[(0, none)], [(32, some 0)], [(33, some 1)], [(34, some 2)], [(9, none)], [(5, none), (36, some 4)], [(37, some 5)], [(3, none)], [(35, some 3), (38, some 6), (39, some 7)]] [[(0, _)], [(32, _)], [(33, _)], [(34, _)], [(9, _)], [(5, _), (36, _)], [(37, _)], [(3, _)], [(35, _), (38, _), (39, _)]] [_, _, _, _, _, _, _, _, (.a .top)] [⟨_, _, _⟩, ⟨_, _, _⟩] (by kernel_rfl) ?hok rfl ?hh rfl rfl ?hj
     case hh =>
      refine ⟨?_, ?_, ?_, ?_, ?_, ?_, ?_, ?_, ?_, trivial⟩
      all_goals (intro rest K1 hK1; (repeat (first | exact VR.done hK1 | (first | refine VR.move rfl rfl ?_ | (show onLd; refine VR.load tok rfl rfl rfl (by first | rfl | exact (ldp_el (by assumption)).trans (by rfl)) ?_) | (show onFa; refine VR.fieldAddr tok rfl rfl rfl (by first | rfl | exact place_el (by assumption)) rfl rfl ?_) | (show onIx; refine VR.indexArr tok rfl (arrOk (by rfl)) rfl rfl (by first | rfl | exact place_el (by assumption)) rfl rfl (by decide) rfl ?_) | refine VR.nilCheck rfl rfl rfl ?_ | (refine VR.mapUpdate (key := (⟨t.b, t.c⟩ : En)) (val := t) rfl rfl rfl rfl (mapOk (by rfl)) key60 ?_)))); try (first | exact VR.done hK1 | (refine VR.done ?_; dsimp only [S.set]; exact hK1)))
     case hok => kernel_rfl
     case hj =>
      dsimp only [tla]
      repeat' (first | refine VJ.inBlock ?_ | refine VJ.region_k fun K hK => ?_ | (refine VR.done (hK _ ?_); clear hK K) | (first | refine VR.move rfl rfl ?_ | refine VR.assign rfl rfl ?_ | refine VR.int rfl rfl rfl rfl ?_))
      refine VJ.inLoop ?_
      repeat' (first | refine VJ.seq ?_ | refine VJ.skip ?_ | refine VJ.block ?_ | refine VJ.cond_t rfl ?_ | refine VJ.region_k fun K hK => ?_ | (refine VR.done (hK _ ?_); clear hK K) | (first | refine VR.move rfl rfl ?_ | refine VR.int rfl rfl rfl rfl ?_))
      apply VJ.draw3 [8] [(0, 0), (1, 0), (2, 0), (3, 0), (4, 0), (5, 0), (6, 0), (7, 0), (8, 0)] [[(0, none)], [(32, some 0)], [(33, some 1)], [(34, some 2)], [(9, none)], [(5, none), (36, some 4)], [(37, some 5)], [(3, none)], [(35, some 3), (38, some 6), (39, some 7)]] [[(0, _)], [(32, _)], [(33, _)], [(34, _)], [(9, _)], [(5, _), (36, _)], [(37, _)], [(3, _)], [(35, _), (38, _), (39, _)]] [_, _, _, _, _, _, _, _, (.a .top)] [⟨_, _, _⟩, ⟨_, _, _⟩] (by kernel_rfl) ?hok rfl ?hh rfl rfl ?hj
      case hh =>
       refine ⟨?_, ?_, ?_, ?_, ?_, ?_, ?_, ?_, ?_, trivial⟩
       all_goals (intro rest K1 hK1; (repeat (first | exact VR.done hK1 | (first | refine VR.move rfl rfl ?_ | (show onLd; refine VR.load tok rfl rfl rfl (by first | rfl | exact (ldp_el (by assumption)).trans (by rfl)) ?_) | (show onFa; refine VR.fieldAddr tok rfl rfl rfl (by first | rfl | exact place_el (by assumption)) rfl rfl ?_) | (show onIx; refine VR.indexArr tok rfl (arrOk (by rfl)) rfl rfl (by first | rfl | exact place_el (by assumption)) rfl rfl (by decide) rfl ?_) | refine VR.nilCheck rfl rfl rfl ?_ | (refine VR.mapUpdate (key := (⟨t.c, t.a⟩ : En)) (val := t) rfl rfl rfl rfl (mapOk (by rfl)) key60 ?_)))); try (first | exact VR.done hK1 | (refine VR.done ?_; dsimp only [S.set]; exact hK1)))
      case hok => kernel_rfl
      case hj =>
       dsimp only [tla]
       repeat' (first | refine VJ.inBlock ?_ | refine VJ.region_k fun K hK => ?_ | (refine VR.done (hK _ ?_); clear hK K) | (first | refine VR.move rfl rfl ?_ | refine VR.assign rfl rfl ?_ | refine VR.int rfl rfl rfl rfl ?_))
       refine VJ.inLoop ?_
       repeat' (first | refine VJ.seq ?_ | refine VJ.exit rfl ?_ | refine VJ.cond_f rfl ?_ | refine VJ.region_k fun K hK => ?_ | (refine VR.done (hK _ ?_); clear hK K) | (first | refine VR.move rfl rfl ?_ | refine VR.assign rfl rfl ?_ | refine VR.int rfl rfl rfl rfl ?_))
       refine VJ.toG 0 [(4, vB true)] [] _ (VJ.ret tok (by rfl) (by rfl) hq) rfl (by repeat' first | exact trivial | refine ⟨rfl, ?_⟩) trivial (by rfl) (fun n => ?_)
       by_cases h4 : n = 4
       ·subst h4; rfl
       ·refine (if_neg h4).trans ((if_neg h4).trans ((if_neg h4).trans ?_))
        refine Eq.trans ?_ (if_neg h4).symm
        exact (congrFun eG n).symm
abbrev GN (E : LS) : Gl := gov [(3, bxN), (4, mL E none)] E0
theorem GN_ref (E : LS) : RefG (GN E) E := ⟨rfl, ⟨_, rfl⟩⟩
theorem newR_step (E : LS) (l : List Tr) {j : Nat} (h : j < l.length) : newR E (l.drop j) = if (bif !validT l[j] then true else !fitsR E l[j]) = true then none else newR (addEs E l[j] (around l[j])) (l.drop (j + 1)) := by
 rw [List.drop_eq_getElem_cons h, newR]
set_option maxHeartbeats 4000000 in
theorem v_newRM (l : List Tr) (hl : l.length < 1000000) (Q : Po) (hQ1 : newR [] l = none → Q (.a (.d (.v (.pointer none)))) E0) (hQ2 : ∀ E, newR [] l = some E → Q vN (GN E)) : VC Tryz.prog 48 [vL 6 (l.map Tr.v)] E0 Q := by
 refine VC.of_body Tryz.func48 rfl rfl rfl fun W0 h0 x0 hG0 => ?_
 simp only [args0]
 have hend : ∀ n o, E0 n = some o → False := fun n o e => by cases e
 repeat' (first | refine VJ.seq ?_ | refine VJ.region_k fun K hK => ?_)
 first | refine VR.assign rfl rfl ?_
 refine VR.done (hK _ ?_); clear hK K
 repeat' (first | refine VJ.seq ?_ | refine VJ.region_k fun K hK => ?_)
 refine VR.makeMapG 4 rfl En.v Tr.v rfl ?_
 refine VR.buildSt (xs := [.tmp 5]) (n := 0) tok rfl rfl rfl rfl rfl rfl rfl rfl ?_
 refine VR.boxG 3 rfl rfl rfl rfl rfl ?_
 first | refine VR.assign rfl rfl ?_
 refine VR.done (hK _ ?_); clear hK K
 repeat' (first | refine VJ.seq ?_ | refine VJ.block ?_ | refine VJ.region_k fun K hK => ?_ | (refine VR.done (hK _ ?_); clear hK K) | (first | refine VR.assign rfl rfl ?_))
 refine VJ.toG 0 [(4, vI ((0 : Nat) : Int)), (3, vN), (0, vL 6 (l.map Tr.v))] [] (GN []) ?_ rfl (by repeat' first | exact trivial | refine ⟨rfl, ?_⟩) trivial (by rfl) (fun n => ?_)
 rotate_left
 ·by_cases h3 : n = 3
  ·subst h3; rfl
  by_cases h4 : n = 4
  ·subst h4; rfl
  ·simp [gov, lk, h3, h4]
 refine VJ.rec (fun a : Nat × LS => ⟨0, [(4, vI a.1), (3, vN), (0, vL 6 (l.map Tr.v))], [], GN a.2⟩) (fun a => l.length - a.1) (fun a => a.1 ≤ l.length ∧ newR a.2 (l.drop a.1) = newR [] l) (0, []) ⟨Nat.zero_le _, rfl⟩ ?_
 rintro ⟨j, E⟩ ⟨hj, hd⟩ ih
 dsimp only at hj hd ih ⊢
 repeat' (first | refine VJ.seq ?_ | refine VJ.region_k fun K hK => ?_ | (refine VR.done (hK _ ?_); clear hK K) | (first | refine VR.move rfl rfl ?_ | refine VR.int rfl rfl rfl rfl ?_ | refine VR.len tok rfl rfl rfl rfl rfl ?_))
 refine VJ.cond rfl (fun hb => ?_) (fun hb => ?_)
 ·have hlt : j < l.length := by simpa using hb
  have hget := map_get_t hlt
  rw [newR_step E l hlt] at hd
  generalize l[j] = t at hget hd
  by_cases hv : validT t = true
  ·by_cases hf : fitsR E t = true
   ·rw [if_neg (by rw [hv, hf]; simp)] at hd
    repeat' (first | refine VJ.seq ?_ | refine VJ.skip ?_ | refine VJ.block ?_ | refine VJ.inBlock ?_ | refine VJ.cond_f rfl ?_ | refine VJ.region_k fun K hK => ?_ | (refine VR.done (hK _ ?_); clear hK K) | (first | refine VR.move rfl rfl ?_ | refine VR.assign rfl rfl ?_ | (show onLd; refine VR.load tok rfl rfl rfl (by first | rfl | exact (ldp_el (by assumption)).trans (by rfl)) ?_) | (show onIx; refine VR.indexAddr tok rfl rfl rfl rfl rfl rfl rfl (elA_lst (by assumption)) ?_) | refine VR.int rfl rfl rfl rfl ?_ | (refine VR.pickB rfl rfl rfl rfl ?_ ?_ ?_; iterate 2 (first | exact trivial | (refine fun h => ?_; first | (rw [h]; rfl) | (rw [h, hg]; rfl) | (rw [hg, h]; rfl) | (simp [h, hg]; done)))) | refine VR.not rfl rfl ?_ | refine VR.g_yes rfl rfl (by first | rfl | assumption) ?_ | (refine VR.call fok43 rfl rfl rfl rfl ?_; refine v_validTR t _ _ ?_; rw [hv]) | (refine VR.call fok72 rfl rfl rfl rfl ?_; refine v_putR E t _ (GN_ref E) _ (fun h => by rw [hf] at h; cases h) (fun _ => ?_))))
    refine VJ.toG 0 [(4, vI ((j + 1 : Nat) : Int)), (3, vN), (0, vL 6 (l.map Tr.v))] [] (GN (addEs E t (around t))) (ih (j + 1, addEs E t (around t)) ⟨hlt, hd⟩ (show l.length - (j + 1) < l.length - j by omega)) rfl ⟨vI_succ (by omega), by rfl, by rfl, trivial⟩ trivial (by rfl) (fun n => ?_)
    by_cases h4 : n = 4
    ·subst h4; rfl
    by_cases h3 : n = 3
    ·subst h3; rfl
    ·simp [gset, gov, lk, h3, h4]
   ·have hf : fitsR E t = false := by simpa using hf
    rw [if_pos (by rw [hv, hf]; simp)] at hd
    repeat' (first | refine VJ.seq ?_ | refine VJ.skip ?_ | refine VJ.block ?_ | refine VJ.cond_t rfl ?_ | refine VJ.region_k fun K hK => ?_ | (refine VR.done (hK _ ?_); clear hK K) | (first | refine VR.move rfl rfl ?_ | refine VR.assign rfl rfl ?_ | (show onLd; refine VR.load tok rfl rfl rfl (by first | rfl | exact (ldp_el (by assumption)).trans (by rfl)) ?_) | (show onIx; refine VR.indexAddr tok rfl rfl rfl rfl rfl rfl rfl (elA_lst (by assumption)) ?_) | (refine VR.pickB rfl rfl rfl rfl ?_ ?_ ?_; iterate 2 (first | exact trivial | (refine fun h => ?_; first | (rw [h]; rfl) | (rw [h, hg]; rfl) | (rw [hg, h]; rfl) | (simp [h, hg]; done)))) | refine VR.not rfl rfl ?_ | refine VR.g_yes rfl rfl (by first | rfl | assumption) ?_ | (refine VR.call fok43 rfl rfl rfl rfl ?_; refine v_validTR t _ _ ?_; rw [hv]) | (refine VR.call fok72 rfl rfl rfl rfl ?_; refine v_putR E t _ (GN_ref E) _ (fun _ => ?_) (fun h => by rw [hf] at h; cases h))))
    refine VJ.retF tok (by rfl) (by rfl) hG0 ?_ (by rfl) ?_
    ·exact fun n o e => (hend n o e).elim
    ·exact hQ1 hd.symm
  ·have hv : validT t = false := by simpa using hv
   rw [if_pos (by rw [hv]; simp)] at hd
   repeat' (first | refine VJ.seq ?_ | refine VJ.skip ?_ | refine VJ.block ?_ | refine VJ.cond_t rfl ?_ | refine VJ.region_k fun K hK => ?_ | (refine VR.done (hK _ ?_); clear hK K) | (first | refine VR.move rfl rfl ?_ | refine VR.assign rfl rfl ?_ | (show onLd; refine VR.load tok rfl rfl rfl (by first | rfl | exact (ldp_el (by assumption)).trans (by rfl)) ?_) | (show onIx; refine VR.indexAddr tok rfl rfl rfl rfl rfl rfl rfl (elA_lst (by assumption)) ?_) | refine VR.pick rfl rfl rfl ?_ | refine VR.not rfl rfl ?_ | refine VR.g_no rfl rfl rfl (by first | rfl | assumption) ?_ | (refine VR.call fok43 rfl rfl rfl rfl ?_; refine v_validTR t _ _ ?_; rw [hv])))
   refine VJ.retF tok (by rfl) (by rfl) hG0 ?_ (by rfl) ?_
   ·exact fun n o e => (hend n o e).elim
   ·exact hQ1 hd.symm
 have hge : j = l.length := by simp at hb; omega
 subst hge
 rw [List.drop_length] at hd
 have hq := hQ2 E hd.symm
 repeat' (first | refine VJ.seq ?_ | refine VJ.exit rfl ?_ | refine VJ.region_k fun K hK => ?_ | (refine VR.done (hK _ ?_); clear hK K) | (first | refine VR.move rfl rfl ?_ | refine VR.assign rfl rfl ?_))
 refine VJ.retX (GN E) tok (by rfl) (by rfl) hG0 (fun n h => absurd rfl h) (fun n o h => .inr fun m hm => ?_) (fun n o h => h) (fun m hm => ?_) hq
 ·have : (n = 3 ∧ o = bxN) ∨ (n = 4 ∧ o = mL E none) := by
   by_cases h3 : n = 3
   ·subst h3; exact .inl ⟨rfl, (Option.some.inj h).symm⟩
   by_cases h4 : n = 4
   ·subst h4; exact .inr ⟨rfl, (Option.some.inj h).symm⟩
   ·simp [gov, lk, h3, h4] at h
  rcases this with ⟨rfl, rfl⟩ | ⟨rfl, rfl⟩
  ·obtain ⟨x, hx, hs⟩ := hm
   simp only [List.mem_cons, List.not_mem_nil, or_false] at hx
   subst hx
   cases hs; simp [gov, lk]
  ·exact hm.elim
 ·cases hm; simp [gov, lk]
end Go.Proofs.YtnpnjhopgedhkaaGreat
namespace Go.Proofs.YtnpnjhopgedhkaaGreat.V
open Go.RowKit
universe u
theorem cellsL_set {xs : List Value} {k j : Nat} {u : Value} (hz : ∀ x ∈ xs, x.cells.size = k) (hj : j < xs.length) :
 ∃ A B C, cellsL xs = A ++ B ++ C ∧ A.length = j * k ∧ B.length = k ∧ cellsL (xs.set j u) = A ++ u.cells.toList ++ C := by
 refine ⟨cellsL (xs.take j), cellsL [xs[j]], cellsL (xs.drop (j + 1)), ?_, ?_, ?_, ?_⟩
 ·rw [← cellsL_app, ← cellsL_app]
  congr 1
  rw [List.append_assoc, List.singleton_append, List.getElem_cons_drop, List.take_append_drop]
 ·rw [len_cellsL (fun y hy => hz y (List.mem_of_mem_take hy)), List.length_take, Nat.min_eq_left (by omega)]
 ·simp [cellsL, hz _ (List.getElem_mem hj)]
 ·rw [List.set_eq_take_append_cons_drop, if_pos hj, show xs.take j ++ u :: xs.drop (j + 1) = xs.take j ++ [u] ++ xs.drop (j + 1) by simp, cellsL_app, cellsL_app]
  congr 2
  simp [cellsL]
section
variable {P : Program} {E : Env} {ops : Array Oper} {rest : List Oper} {s : S} {K : S → Prop}
variable {c : Nat} {t : List (Nat × AV)} {L : List (Nat × VO)} {G : Nat → Option VO} {d ty : Nat} {pos : String} {af : Array Edge} {tab : Tab}
theorem VR.slice2 {T : TypeId} {ti te : TI} {e0 : Nat} {x y z : Operand} {q : Nat} {xs : List Value} {kd1 kd2 : IntKind} {i1 i2 : Int} (j1 j2 : Nat) (hT : Tab.Ok P tab) (hn : Nat.ble (d + 1) E.nt = true) (hti : lk tab T = some ti) (he : ti.slc = some e0) (hte : lk tab e0 = some te)
 (hx : eva ⟨c, t, L, G⟩ x = some (.d (.lst q xs))) (hq : q = te.size) (hy1 : fl ⟨c, t, L, G⟩ y = some (.int kd1 i1)) (hi1 : i1 = (j1 : Int)) (hy2 : fl ⟨c, t, L, G⟩ z = some (.int kd2 i2)) (hi2 : i2 = (j2 : Int)) (h12 : j1 ≤ j2) (hj : j2 ≤ xs.length)
 (k : VR P E ops rest ⟨c, (d, .a (.d (.lst q ((xs.take j2).drop j1)))) :: t, L, G⟩ K) :
 VR P E ops (⟨some d, .slice T x (some y) (some z) none, ty, pos, af, none⟩ :: rest) ⟨c, t, L, G⟩ K := by
 refine VR.val rfl rfl (Nat.le_of_ble_eq_true hn) (.a (.d (.lst q ((xs.take j2).drop j1)))) (fun h w a H => ?_) k
 have hr := H.eva hx
 have hyv1 := H.fl hy1
 have hyv2 := H.fl hy2
 subst hi1 hi2 hq
 have hu := (hT T ti hti).slice he
 have hz := (hT e0 te hte).run_size w
 have hsl : ∃ ad len cap, a.eval x = .slice ad len cap ∧ j2 ≤ cap := by
  rcases hr with ⟨e, ad, cap, h1⟩ | ⟨b, o, cap, h1, h2, h3⟩
  ·rw [e] at hj; simp at hj; exact ⟨ad, 0, cap, h1, by omega⟩
  ·exact ⟨_, _, cap, h1, by omega⟩
 obtain ⟨ad, len, cap, h1, h2⟩ := hsl
 have hr' : IsL h w te.size xs (.slice ad len cap) := h1 ▸ hr
 refine ⟨sliced ad j1 j2 cap te.size, ?_, hr'.cut j1 j2 h12 hj⟩
 simp [execOp, h1, hyv1, hyv2, Instr.sliceAt, run_underlying hu, Instr.slice, Instr.sliceBounds, run_sliceBound, hz, sliced, h2, h12]
theorem VR.g_no0 {op : Op} {j tj : Nat} {want : Bool} (hn : Nat.ble (d + 1) E.nt = true) (hj : (ops[j]?).bind (·.dst) = some tj) (hg : gd ⟨c, t, L, G⟩ tj want = some false)
 (k : VR P E ops rest ⟨c, (d, .may j want false (.d (.v (.bool false)))) :: t, L, G⟩ K) : VR P E ops (⟨some d, op, ty, pos, af, some (j, want)⟩ :: rest) ⟨c, t, L, G⟩ K := by
 intro h w a H
 have hwt := wanted_gd (ops := ops) H hj hg ⟨some d, op, ty, pos, af, some (j, want)⟩ rfl
 unfold wpList
 rw [if_neg (by rw [hwt]; simp)]
 exact k h w _ (H.put d (Nat.le_of_ble_eq_true hn) (.may j want false (.d (.v (.bool false)))) undef ⟨(fun e => by cases e), fun _ => rfl⟩)
theorem VR.storeO {T : TypeId} {ti : TI} {x y : Operand} {n j e k : Nat} {xs : List Value} {u : Value} (hT : Tab.Ok P tab) (hti : lk tab T = some ti) (hx : eva ⟨c, t, L, G⟩ x = some (.oel (.l n) k j 0)) (ho : lk L n = some (.row e k xs))
 (hy : fl ⟨c, t, L, G⟩ y = some u) (hk : ti.size = k) (hu : u.cells.size = k) (h1 : ∀ v ∈ u.cells.toList, v.oneCell' = true) (hj : j < xs.length)
 (kk : VR P E ops rest ⟨c, t, up L n (.row e k (xs.set j u)), G⟩ K) : VR P E ops (⟨none, .store T x y, ty, pos, af, none⟩ :: rest) ⟨c, t, L, G⟩ K := by
 refine VR.act rfl rfl ⟨c, t, up L n (.row e k (xs.set j u)), G⟩ (fun h w a H => ?_) kk
 obtain ⟨hd, e1, ⟨e2, e3⟩, hz, hk0⟩ := H.obj (.l n) _ ho
 have hyv := H.fl hy
 obtain ⟨b', n', cap', g1, g2⟩ := (H.eva hx).2.2 _ e1
 rcases e3 with ⟨rfl', f⟩ | ⟨b, cap, cur, e4, f1, hg, f2, f3, f4, f5⟩
 ·rw [g1] at rfl'; cases rfl'
 rw [g1] at e4; cases e4; subst g1
 rw [Nat.add_zero] at g2
 obtain ⟨A, B, C, k1, k2, k3, k4⟩ := cellsL_set (u := u) hz hj
 have hcur : cur.toList = A ++ B ++ C ++ cur.toList.drop (xs.length * k) := by
  rw [← k1, ← f5, List.take_append_drop]
 have hjk : j * k + k ≤ xs.length * k := by
  have : (j + 1) * k ≤ xs.length * k := Nat.mul_le_mul_right k hj
  rw [Nat.add_mul] at this; omega
 have hck : xs.length * k ≤ cap' * k := Nat.mul_le_mul_right k f2
 have hrun := run_store_cells (hT T ti hti) (x := u) (o := j * k) hg (by rw [hk]; exact hu) (by rw [hk, f4]; omega) h1
 obtain ⟨s1, s2, s3, s4, s5⟩ := setRow_kept (w := w) (b := b') (cs := (cur.toList.take (j * k) ++ u.cells.toList ++ cur.toList.drop (j * k + ti.size)).toArray)
 have hnew : cur.toList.take (j * k) ++ u.cells.toList ++ cur.toList.drop (j * k + ti.size) = A ++ u.cells.toList ++ C ++ cur.toList.drop (xs.length * k) := by
  have t1 : cur.toList.take (j * k) = A := by
   rw [hcur, List.append_assoc, List.append_assoc, List.take_append_of_le_length (by omega), ← k2, List.take_length]
  have t2 : cur.toList.drop (j * k + ti.size) = C ++ cur.toList.drop (xs.length * k) := by
   have : (A ++ B).length = j * k + ti.size := by rw [List.length_append, k2, k3, hk]
   conv => lhs; rw [hcur, List.append_assoc, ← this, List.drop_left]
  rw [t1, t2, List.append_assoc (A ++ u.cells.toList)]
 have hlen : (A ++ u.cells.toList ++ C).length = xs.length * k := by
  have : (cellsL xs).length = xs.length * k := len_cellsL hz
  rw [k1] at this
  have hu' : u.cells.toList.length = k := by simpa using hu
  rw [List.length_append, List.length_append, k3] at this
  rw [List.length_append, List.length_append, hu']; exact this
 refine ⟨_, h, .inl ?_, H.set (.l n) _ _ _ ho e1 s1 s2 s3 s4 (fun q hq => s5 q (fun e => hq (by rw [e]; rfl))) (fun m e => by cases e) ?_⟩
 ·simp only [execOp, g2, hyv, Instr.storeAt, Instr.sureAddr, Sem.run_bind, Sem.run_pure, Result.andThen_ok, hrun]
 ·refine ⟨⟨?_, .inr ⟨b', cap', _, by rw [List.length_set], f1, setRow_heap w b' cur _ e _ hg, by rw [List.length_set]; exact f2, f3, ?_, ?_⟩⟩, fun x hx => ?_, hk0⟩
  ·rw [k4, List.length_set]; exact hlen
  ·have hl := congrArg List.length hcur
   rw [Array.length_toList, f4] at hl
   have h7 := congrArg List.length k1
   rw [len_cellsL hz] at h7
   rw [List.length_append (bs := List.drop (xs.length * k) cur.toList), ← h7] at hl
   rw [hnew, List.size_toArray, hl, List.length_append, hlen]
  ·rw [hnew, k4, List.length_set, List.toList_toArray, ← hlen, List.take_left]
  ·rcases List.mem_or_eq_of_mem_set hx with hx | hx
   ·exact hz x hx
   ·rw [hx]; exact hu
end
section
variable {P : Program} {E : Env} {fn : Func} {R : Ending → World → Prop} {kk : List Item}
theorem VJ.freeze {c : Nat} {t : List (Nat × AV)} {L : List (Nat × VO)} {G : Nat → Option VO} (i : Nat) {n e k : Nat} {xs : List Value} (hi : lk t i = some (.a (.own (.l n)))) (ho : lk L n = some (.row e k xs))
 (hj : VJ P E fn R kk ⟨c, (i, .a (.d (.lst k xs))) :: t, del L n, G⟩) : VJ P E fn R kk ⟨c, t, L, G⟩ := by
 intro h w a b cs H hf hk
 have hz := H.frozen ho (H.tmp i _ hi)
 refine hj _ w a b cs ((H.dropL n).reput fun j v hv => ?_) hf hk
 simp only [lk] at hv
 split at hv
 ·rename_i e; subst e; cases hv; exact hz
 ·exact (H.dropL n).tmp j v hv
end
end Go.Proofs.YtnpnjhopgedhkaaGreat.V
namespace Go.Proofs.YtnpnjhopgedhkaaGreat
open Go.RowKit V Geo
def farN (t : Tr) (a b : Pt) : Nat → Pt
 | 0 => a
 | n + 1 => if (bif !decide (t.cor (2 - n) = a) then !decide (t.cor (2 - n) = b) else false) = true then t.cor (2 - n) else farN t a b n
def farT (t : Tr) (a b : Pt) : Pt := farN t a b 3
attribute [local irreducible] VR VJ VC decOk decBt
set_option maxHeartbeats 2000000 in
theorem v_cmpTR (x y : Tr) (G : Gl) (Q : Po) (hQ : Q (vI (x.cmp y)) G) : VC Tryz.prog 58 [vV x.v, vV y.v] G Q := by
 refine VC.of_body Tryz.func58 rfl rfl rfl fun W0 h0 x0 hG0 => ?_
 simp only [args0]
 unfold Tr.cmp at hQ
 rw [or_cmp] at hQ
 repeat' (first | refine VJ.seq ?_ | refine VJ.region_k fun K hK => ?_ | (refine VR.done (hK _ ?_); clear hK K) | (first | refine VR.move rfl rfl ?_ | refine VR.assign rfl rfl ?_ | (show onLd; refine VR.load tok rfl rfl rfl rfl ?_) | (show onFa; refine VR.fieldAddr tok rfl rfl rfl rfl rfl rfl ?_) | refine VR.int rfl rfl rfl rfl ?_ | refine VR.box rfl rfl rfl ?_) | (refine VR.call fok71 rfl rfl rfl rfl ?_; refine (v_cpR x.a y.a _ _ ?_)))
 refine VJ.cond rfl (fun hb => ?_) (fun hb => ?_)
 ·have h1 : cp x.a y.a = 0 := by simpa using hb
  rw [if_pos h1] at hQ
  repeat' (first | refine VJ.seq ?_ | refine VJ.region_k fun K hK => ?_ | (refine VR.done (hK _ ?_); clear hK K) | (first | refine VR.move rfl rfl ?_ | refine VR.assign rfl rfl ?_ | (show onLd; refine VR.load tok rfl rfl rfl rfl ?_) | (show onFa; refine VR.fieldAddr tok rfl rfl rfl rfl rfl rfl ?_) | refine VR.int rfl rfl rfl rfl ?_) | (refine VR.call fok71 rfl rfl rfl rfl ?_; refine (v_cpR x.b y.b _ _ ?_)))
  refine VJ.cond rfl (fun hb => ?_) (fun hb => ?_)
  ·have h2 : cp x.b y.b = 0 := by simpa using hb
   rw [if_pos h2] at hQ
   repeat' (first | refine VJ.seq ?_ | refine VJ.region_k fun K hK => ?_ | (refine VR.done (hK _ ?_); clear hK K) | (first | refine VR.move rfl rfl ?_ | refine VR.assign rfl rfl ?_ | (show onLd; refine VR.load tok rfl rfl rfl rfl ?_) | (show onFa; refine VR.fieldAddr tok rfl rfl rfl rfl rfl rfl ?_)) | (refine VR.call fok71 rfl rfl rfl rfl ?_; refine (v_cpR x.c y.c _ _ ?_)))
   refine VJ.ret tok (by rfl) (by rfl) ?_
   have : (if cp x.c y.c = 0 then 0 else cp x.c y.c) = cp x.c y.c := by split <;> simp_all
   rw [this] at hQ
   exact hQ
  ·have h2 : ¬ cp x.b y.b = 0 := by simpa using hb
   rw [if_neg h2] at hQ
   repeat' (first | refine VJ.seq ?_ | refine VJ.skip ?_ | refine VJ.region_k fun K hK => ?_ | (refine VR.done (hK _ ?_); clear hK K) | (first | refine VR.move rfl rfl ?_ | refine VR.assign rfl rfl ?_))
   refine VJ.ret tok (by rfl) (by rfl) ?_
   exact hQ
 ·have h1 : ¬ cp x.a y.a = 0 := by simpa using hb
  rw [if_neg h1] at hQ
  have hb2 := hb
  repeat' (first | refine VJ.seq ?_ | refine VJ.skip ?_ | refine VJ.region_k fun K hK => ?_ | (refine VR.done (hK _ ?_); clear hK K) | (first | refine VR.move rfl rfl ?_ | refine VR.int rfl rfl rfl rfl ?_))
  refine VJ.cond rfl (fun hb => ?_) (fun hb => ?_)
  ·have h2 : cp x.a y.a = 0 := by simpa using hb
   exact absurd h2 h1
  repeat' (first | refine VJ.seq ?_ | refine VJ.skip ?_ | refine VJ.region_k fun K hK => ?_ | (refine VR.done (hK _ ?_); clear hK K) | (first | refine VR.move rfl rfl ?_ | refine VR.assign rfl rfl ?_))
  refine VJ.ret tok (by rfl) (by rfl) ?_
  exact hQ
end Go.Proofs.YtnpnjhopgedhkaaGreat
namespace Go.Proofs.YtnpnjhopgedhkaaGreat
open Go.RowKit V Geo
theorem tr_gt (a b : Tr) : 0 < a.cmp b ↔ b.a.x < a.a.x ∨ b.a.x = a.a.x ∧ (b.a.y < a.a.y ∨ b.a.y = a.a.y ∧ (b.b.x < a.b.x ∨ b.b.x = a.b.x ∧ (b.b.y < a.b.y ∨ b.b.y = a.b.y ∧ (b.c.x < a.c.x ∨ b.c.x = a.c.x ∧ b.c.y < a.c.y)))) := by
 unfold Tr.cmp
 rw [or_cmp]
 rcases cp_three a.a b.a with e | e | e
 ·have h := cp_neg.1 (show cp a.a b.a < 0 by omega)
  rw [e, if_neg (by omega)]; omega
 ·have h := cp_eqx e
  rw [e, if_pos rfl]
  rcases cp_three a.b b.b with f | f | f
  ·have k := cp_neg.1 (show cp a.b b.b < 0 by omega)
   rw [f, if_neg (by omega)]; omega
  ·have k := cp_eqx f
   rw [f, if_pos rfl]
   rcases cp_three a.c b.c with g | g | g
   ·have m := cp_neg.1 (show cp a.c b.c < 0 by omega)
    rw [g, if_neg (by omega)]; omega
   ·have m := cp_eqx g
    rw [g, if_pos rfl]; omega
   ·have m := cp_pos.1 (show 0 < cp a.c b.c by omega)
    rw [g, if_neg (by omega)]; omega
  ·have k := cp_pos.1 (show 0 < cp a.b b.b by omega)
   rw [f, if_neg (by omega)]; omega
 ·have h := cp_pos.1 (show 0 < cp a.a b.a by omega)
  rw [e, if_neg (by omega)]; omega
theorem tr_le (a b : Tr) : (a.cmp b ≤ 0) ↔ b.lt a = false := by
 have h1 := tr_gt a b
 have h2 := tr_lt b a
 rw [← h2] at h1
 constructor
 ·intro h; rw [Bool.eq_false_iff]; intro h3; have := h1.2 h3; omega
 ·intro h; rw [h] at h1; have : ¬ (0 < a.cmp b) := fun h4 => by cases h1.1 h4
  omega
def leT (a b : Tr) : Bool := !b.lt a
abbrev Srt (l : List Tr) : Prop := l.Pairwise fun a b => b.lt a = false
theorem srt_merge {a b : List Tr} (ha : Srt a) (hb : Srt b) : Srt (a.merge b leT) := by
 have conv : ∀ l : List Tr, Srt l ↔ l.Pairwise (fun a b => leT a b = true) := by
  intro l
  constructor
  ·exact fun h => h.imp fun h => by unfold leT; rw [h]; rfl
  ·exact fun h => h.imp fun h => by unfold leT at h; simpa using h
 rw [conv] at ha hb ⊢
 refine List.pairwise_merge ?_ ?_ a b ha hb
 ·intro x y z h1 h2
  unfold leT at *
  have := tr_swo.ntrans z y x (by unfold ltOf; simpa [Tr.lt] using h2) (by unfold ltOf; simpa [Tr.lt] using h1)
  unfold ltOf at this
  simp [Tr.lt] at this ⊢
  exact this
 ·intro x y
  unfold leT
  have h1 := tr_lt x y
  have h2 := tr_lt y x
  cases e1 : x.lt y with
  | false => simp
  | true =>
    cases e2 : y.lt x with
    | false => simp
    | true => rw [e1] at h1; rw [e2] at h2; exfalso; have := h1.1 rfl; have := h2.1 rfl; omega
def Runs (n : Nat) (l : List Tr) : Prop := ∀ i, Srt ((l.drop (i * n)).take n)
theorem runs_one (l : List Tr) : Runs 1 l := by
 intro i
 generalize l.drop (i * 1) = k
 match k with
 | [] => exact List.Pairwise.nil
 | x :: k => simp
theorem runs_end {l : List Tr} {n : Nat} (h : Runs n l) (hn : l.length ≤ n) : Srt l := by
 have := h 0
 rw [Nat.zero_mul, List.drop_zero, List.take_of_length_le hn] at this
 exact this
theorem runs_snoc {out m : List Tr} {k q : Nat} (h : Runs k out) (hl : out.length = q * k) (hm : Srt m) (hk : m.length ≤ k) : Runs k (out ++ m) := by
 intro i
 rcases Nat.lt_trichotomy i q with hi | hi | hi
 ·have h1 : i * k + k ≤ out.length := by
   rw [hl, ← Nat.succ_mul]; exact Nat.mul_le_mul_right k hi
  rw [List.drop_append_of_le_length (by omega), List.take_append_of_le_length (by rw [List.length_drop]; omega)]
  exact h i
 ·subst hi
  rw [← hl, List.drop_left]
  exact hm.sublist (List.take_sublist _ _)
 ·have h1 : q * k + k ≤ i * k := by rw [← Nat.succ_mul]; exact Nat.mul_le_mul_right k hi
  rw [List.drop_eq_nil_of_le (by rw [List.length_append]; omega), List.take_nil]
  exact List.Pairwise.nil
theorem part1 (xs : List Tr) (at_ n : Nat) : (xs.take (min (at_ + n) xs.length)).drop at_ = (xs.drop at_).take n := by
 rw [List.drop_take]
 rcases Nat.le_total (at_ + n) xs.length with h | h
 ·rw [Nat.min_eq_left h]; congr 1; omega
 ·rw [Nat.min_eq_right h, List.take_of_length_le (by rw [List.length_drop]; omega), List.take_of_length_le (by rw [List.length_drop]; omega)]
theorem part2 (xs : List Tr) (at_ n : Nat) : (xs.take (min (at_ + 2 * n) xs.length)).drop (min (at_ + n) xs.length) = (xs.drop (at_ + n)).take n := by
 rcases Nat.le_total (at_ + n) xs.length with h | h
 ·rw [Nat.min_eq_left h]
  have := part1 xs (at_ + n) n
  rw [show at_ + n + n = at_ + 2 * n by omega] at this
  exact this
 ·rw [Nat.min_eq_right h, List.drop_eq_nil_of_le (by rw [List.length_take]; omega), List.drop_eq_nil_of_le h, List.take_nil]
theorem parts (xs : List Tr) (at_ n : Nat) : (xs.drop at_).take n ++ (xs.drop (at_ + n)).take n = (xs.drop at_).take (2 * n) := by
 rw [Nat.two_mul, List.take_add, List.drop_drop]
theorem next_perm {xs out : List Tr} {at_ n : Nat} (h : out.Perm (xs.take at_)) : (out ++ ((xs.drop at_).take n).merge ((xs.drop (at_ + n)).take n) leT).Perm (xs.take (at_ + 2 * n)) := by
 rw [List.take_add]
 refine h.append ?_
 rw [← parts]
 exact List.merge_perm_append leT
theorem next_runs {xs out : List Tr} {q n : Nat} (hr : Runs n xs) (ho : Runs (2 * n) out) (hl : out.length = q * (2 * n)) : Runs (2 * n) (out ++ ((xs.drop (q * (2 * n))).take n).merge ((xs.drop (q * (2 * n) + n)).take n) leT) := by
 refine runs_snoc ho hl (srt_merge ?_ ?_) ?_
 ·have := hr (2 * q)
  rw [show 2 * q * n = q * (2 * n) by rw [Nat.mul_comm 2 q, Nat.mul_assoc]] at this
  exact this
 ·have := hr (2 * q + 1)
  rw [show (2 * q + 1) * n = q * (2 * n) + n by rw [Nat.succ_mul, Nat.mul_comm 2 q, Nat.mul_assoc]] at this
  exact this
 ·rw [(List.merge_perm_append leT).length_eq, List.length_append, List.length_take, List.length_take]; omega
theorem merge_cons (x y : Tr) (a b : List Tr) : (x :: a).merge (y :: b) leT = if x.cmp y ≤ 0 then x :: a.merge (y :: b) leT else y :: (x :: a).merge b leT := by
 rw [List.cons_merge_cons]
 have := tr_le x y
 unfold leT
 by_cases h : x.cmp y ≤ 0
 ·rw [if_pos h, this.1 h]; rfl
 ·have h2 : y.lt x = true := by
   cases e : y.lt x with
   | true => rfl
   | false => exact absurd (this.2 e) h
  rw [if_neg h, h2]; rfl
theorem oneT (l : List Tr) : ∀ u ∈ l.map Tr.v, ∀ v ∈ u.cells.toList, v.oneCell' = true := by
 intro u hu v hv
 obtain ⟨w, _, rfl⟩ := List.mem_map.1 hu
 simp [Tr.v, Value.cells] at hv
 rcases hv with rfl | rfl | rfl | rfl | rfl | rfl <;> rfl
theorem cutA (xs : List Tr) (i j : Nat) : ((xs.map Tr.v).take j).drop i = ((xs.take j).drop i).map Tr.v := by rw [← List.map_take, ← List.map_drop]
theorem min_nat (a b : Nat) : minI [(b : Int)] (a : Int) = ((min a b : Nat) : Int) := by
 unfold minI
 simp only [List.foldl_cons, List.foldl_nil]
 split <;> omega
attribute [local irreducible] VR VJ VC decOk decBt
set_option maxRecDepth 20000 in
set_option maxHeartbeats 4000000 in
theorem v_sortTR (l : List Tr) (hl : l.length < 1000000) (G : Gl) (Q : Po) (hQ : Q (vL 6 ((sortT l).map Tr.v)) G) : VC Tryz.prog 34 [vL 6 (l.map Tr.v)] G Q := by
 refine VC.of_body Tryz.func34 rfl rfl rfl fun W0 h0 x0 hG0 => ?_
 simp only [args0]
 repeat' (first | refine VJ.seq ?_ | refine VJ.block ?_ | refine VJ.region_k fun K hK => ?_ | (refine VR.done (hK _ ?_); clear hK K) | (first | refine VR.assign rfl rfl ?_))
 refine VJ.to 0 [(3, vI ((1 : Nat) : Int)), (0, vL 6 (l.map Tr.v))] [] ?_ rfl (by repeat' first | exact trivial | refine ⟨rfl, ?_⟩) trivial (by rfl)
 refine VJ.rec (fun a : Nat × List Tr => ⟨0, [(3, vI a.1), (0, vL 6 (a.2.map Tr.v))], [], G⟩) (fun a => a.2.length - a.1) (fun a => 1 ≤ a.1 ∧ a.1 < 2000000 ∧ a.2.Perm l ∧ Runs a.1 a.2) (1, l) ⟨Nat.le_refl 1, show (1 : Nat) < 2000000 by decide, .refl _, runs_one l⟩ ?_
 rintro ⟨n, xs⟩ ⟨hn1, hn2, hp, hr⟩ ih
 dsimp only at hn1 hn2 hp hr ih ⊢
 have hlen := hp.length_eq
 repeat' (first | refine VJ.seq ?_ | refine VJ.region_k fun K hK => ?_ | (refine VR.done (hK _ ?_); clear hK K) | (first | refine VR.move rfl rfl ?_ | refine VR.int rfl rfl rfl rfl ?_ | refine VR.len tok rfl rfl rfl rfl rfl ?_))
 refine VJ.cond rfl (fun hb => ?_) (fun hb => ?_)
 ·have hnl : n < xs.length := by simpa using hb
  repeat' (first | refine VJ.seq ?_ | refine VJ.skip ?_ | refine VJ.block ?_ | refine VJ.region_k fun K hK => ?_ | (refine VR.done (hK _ ?_); clear hK K) | (first | refine VR.assign rfl rfl ?_))
  refine VJ.promote 4 49 6 (by decide) rfl ?_
  refine VJ.to 1 [(5, vI ((0 : Nat) : Int)), (4, .a (.own (.l 0))), (3, vI n), (0, vL 6 (xs.map Tr.v))] [(0, .row 49 6 (([] : List Tr).map Tr.v))] ?_ rfl (by repeat' first | exact trivial | refine ⟨rfl, ?_⟩) (by repeat' first | exact trivial | refine ⟨rfl, ?_⟩) (by rfl)
  refine VJ.rec (fun a : Nat × List Tr => ⟨1, [(5, vI a.1), (4, .a (.own (.l 0))), (3, vI n), (0, vL 6 (xs.map Tr.v))], [(0, .row 49 6 (a.2.map Tr.v))], G⟩) (fun a => xs.length - a.1) (fun a => (∃ q, a.1 = q * (2 * n)) ∧ a.1 < xs.length + 2 * n ∧ a.2.Perm (xs.take a.1) ∧ Runs (2 * n) a.2) (0, []) ⟨⟨0, by simp⟩, by omega, by simp, fun i => by simp⟩ ?_
  rintro ⟨at_, out⟩ ⟨⟨q, hat⟩, hq, hpo, hro⟩ ih2
  dsimp only at hat hq hpo hro ih2 ⊢
  repeat' (first | refine VJ.seq ?_ | refine VJ.region_k fun K hK => ?_ | (refine VR.done (hK _ ?_); clear hK K) | (first | refine VR.move rfl rfl ?_ | refine VR.int rfl rfl rfl rfl ?_ | refine VR.len tok rfl rfl rfl rfl rfl ?_))
  refine VJ.cond rfl (fun hb2 => ?_) (fun hb2 => ?_)
  ·have hal : at_ < xs.length := by simpa using hb2
   have hol : out.length = at_ := by rw [hpo.length_eq, List.length_take]; omega
   have hpn := next_perm (n := n) hpo
   have hrn := next_runs hr hro (hol.trans hat)
   rw [← hat] at hrn
   have hnext : at_ + 2 * n = (q + 1) * (2 * n) := by rw [Nat.succ_mul q (2 * n), ← hat]
   have ih3 := ih2 (at_ + 2 * n, out ++ ((xs.drop at_).take n).merge ((xs.drop (at_ + n)).take n) leT) ⟨⟨q + 1, hnext⟩, by dsimp only; omega, hpn, hrn⟩ (by dsimp only; omega)
   dsimp only at ih3
   clear ih2
   have j1 : min (at_ + n) xs.length ≤ xs.length := Nat.min_le_right _ _
   have j2 : min (at_ + 2 * n) xs.length ≤ xs.length := Nat.min_le_right _ _
   have j3 : at_ ≤ min (at_ + n) xs.length := by omega
   have j4 : min (at_ + n) xs.length ≤ min (at_ + 2 * n) xs.length := by omega
   have m1 : minI [((xs.map Tr.v).length : Int)] (wr ((at_ : Int) + n)) = ((min (at_ + n) xs.length : Nat) : Int) := by
    rw [List.length_map, wr_in (by omega) (by omega), ← Int.natCast_add, min_nat]
   have m2 : minI [((xs.map Tr.v).length : Int)] (wr ((at_ : Int) + wr (2 * (n : Int)))) = ((min (at_ + 2 * n) xs.length : Nat) : Int) := by
    rw [List.length_map, wr_in (n := 2 * (n : Int)) (by omega) (by omega), wr_in (by omega) (by omega), ← min_nat]; rfl
   repeat' (first | refine VJ.seq ?_ | refine VJ.skip ?_ | refine VJ.block ?_ | (fail))
   apply VJ.draw3 [] [(0, 0), (1, 0), (2, 0), (3, 0), (4, 0), (5, 0), (6, 0), (7, 0), (8, 0), (9, 0), (10, 0), (11, 0), (12, 0), (13, 0), (14, 0), (15, 0), (16, 0), (17, 0), (18, 0), (19, 0), (20, 0), (21, 0), (22, 0), (23, 0), (24, 0), (25, 0)] [[(0, none)], [(5, none)], [(5, none)], [(3, none)], [(24, some 2), (25, some 3)], [(0, none)], [(27, some 5)], [(26, some 4), (28, some 6)], [(22, some 0), (23, some 1), (29, some 7)], [(0, none)], [(5, none)], [(3, none)], [(32, some 10), (33, some 11)], [(0, none)], [(35, some 13)], [(34, some 12), (36, some 14)], [(5, none)], [(3, none)], [(39, some 17)], [(38, some 16), (40, some 18)], [(0, none)], [(42, some 20)], [(41, some 19), (43, some 21)], [(31, some 9), (37, some 15), (44, some 22)], [(30, some 8)], [(45, some 23)]] [[(0, _)], [(5, _)], [(5, _)], [(3, _)], [(24, _), (25, _)], [(0, _)], [(27, _)], [(26, _), (28, _)], [(22, _), (23, _), (29, _)], [(0, _)], [(5, _)], [(3, _)], [(32, _), (33, _)], [(0, _)], [(35, _)], [(34, _), (36, _)], [(5, _)], [(3, _)], [(39, _)], [(38, _), (40, _)], [(0, _)], [(42, _)], [(41, _), (43, _)], [(31, _), (37, _), (44, _)], [(30, _)], [(45, _)]] [_, _, _, _, _, _, _, _, _, _, _, _, _, _, _, _, _, _, _, _, _, _, _, _, _, _] [⟨_, _, _⟩] (by kernel_rfl) ?hok rfl ?hh rfl rfl ?hj
   case hh =>
    refine ⟨?_, ?_, ?_, ?_, ?_, ?_, ?_, ?_, ?_, ?_, ?_, ?_, ?_, ?_, ?_, ?_, ?_, ?_, ?_, ?_, ?_, ?_, ?_, ?_, ?_, ?_, trivial⟩
    all_goals (intro rest K1 hK1; (repeat (first | exact VR.done hK1 | (first | refine VR.move rfl rfl ?_ | refine VR.assign rfl rfl ?_ | refine VR.int rfl rfl rfl rfl ?_ | refine VR.len tok rfl rfl rfl rfl rfl ?_ | refine VR.min rfl rfl ?_ | (refine VR.slice2 at_ (min (at_ + n) xs.length) tok (by rfl) (by rfl) (by rfl) (by rfl) (by rfl) (by rfl) (by rfl) (by rfl) (by rfl) m1 j3 (by rw [List.length_map]; exact j1) ?_) | (refine VR.slice2 (min (at_ + n) xs.length) (min (at_ + 2 * n) xs.length) tok (by rfl) (by rfl) (by rfl) (by rfl) (by rfl) (by rfl) (by rfl) m1 (by rfl) m2 j4 (by rw [List.length_map]; exact j2) ?_)))); try (first | exact VR.done hK1 | (refine VR.done ?_; dsimp only [S.set]; exact hK1)))
   case hok => kernel_rfl
   case hj =>
    dsimp only [tla]
    repeat' (first | refine VJ.block ?_ | (fail))
    refine VJ.to 1 [(7, vL 6 (((xs.drop (at_ + n)).take n).map Tr.v)), (6, vL 6 (((xs.drop at_).take n).map Tr.v)), (5, vI at_), (4, .a (.own (.l 0))), (3, vI n), (0, vL 6 (xs.map Tr.v))] [(0, .row 49 6 (out.map Tr.v))] ?_ rfl ⟨by rw [← part2, ← cutA]; rfl, by rw [← part1, ← cutA]; rfl, by rfl, by rfl, by rfl, by rfl, trivial⟩ (by repeat' first | exact trivial | refine ⟨rfl, ?_⟩) (by rfl)
    have htl : (out ++ ((xs.drop at_).take n).merge ((xs.drop (at_ + n)).take n) leT).length ≤ xs.length := by rw [hpn.length_eq, List.length_take]; omega
    generalize hT : out ++ ((xs.drop at_).take n).merge ((xs.drop (at_ + n)).take n) leT = T at ih3 htl
    generalize (xs.drop (at_ + n)).take n = B at hT ⊢
    generalize (xs.drop at_).take n = A at hT ⊢
    clear hpn hrn m1 m2 hpo hro
    refine VJ.rec (fun a : List Tr × List Tr × List Tr => ⟨1, [(7, vL 6 (a.2.2.map Tr.v)), (6, vL 6 (a.2.1.map Tr.v)), (5, vI at_), (4, .a (.own (.l 0))), (3, vI n), (0, vL 6 (xs.map Tr.v))], [(0, .row 49 6 (a.1.map Tr.v))], G⟩) (fun a => a.2.1.length + a.2.2.length) (fun a => a.1 ++ a.2.1.merge a.2.2 leT = T) (out, A, B) hT ?_
    rintro ⟨o, a, b⟩ hm ih4
    dsimp only at hm ih4 ⊢
    have hol2 : o.length ≤ xs.length := by rw [← hm, List.length_append] at htl; omega
    have w2 : wr ((at_ : Int) + wr (2 * (n : Int))) = ((at_ + 2 * n : Nat) : Int) := by
     rw [wr_in (n := 2 * (n : Int)) (by omega) (by omega), wr_in (by omega) (by omega)]; omega
    cases a with
    | nil =>
      cases b with
      | nil =>
        have hoT : o = T := by simpa using hm
        subst hoT
        repeat' (first | refine VJ.seq ?_ | refine VJ.inBlock ?_ | refine VJ.exit rfl ?_ | refine VJ.cond_f rfl ?_ | refine VJ.region_k fun K hK => ?_ | (refine VR.done (hK _ ?_); clear hK K) | (first | refine VR.move rfl rfl ?_ | refine VR.assign rfl rfl ?_ | refine VR.int rfl rfl rfl rfl ?_ | (refine VR.pickB rfl rfl rfl rfl ?_ ?_ ?_; exact trivial; exact trivial) | refine VR.g_yes rfl rfl rfl ?_ | refine VR.len tok rfl rfl rfl rfl rfl ?_))
        exact VJ.to 1 _ _ ih3 rfl ⟨by show some (vI (wr ((at_ : Int) + wr (2 * (n : Int))))) = some (vI ((at_ + 2 * n : Nat) : Int)); rw [w2], by rfl, by rfl, by rfl, trivial⟩ (by repeat' first | exact trivial | refine ⟨rfl, ?_⟩) (by rfl)
      | cons y b =>
        have hm2 : (o ++ [y]) ++ ([] : List Tr).merge b leT = T := by rw [← hm]; simp
        repeat' (first | refine VJ.seq ?_ | refine VJ.region_k fun K hK => ?_ | (refine VR.done (hK _ ?_); clear hK K) | (first | refine VR.move rfl rfl ?_ | refine VR.int rfl rfl rfl rfl ?_ | (refine VR.pickB rfl rfl rfl rfl ?_ ?_ ?_; exact trivial; exact trivial) | refine VR.g_yes rfl rfl rfl ?_ | refine VR.len tok rfl rfl rfl rfl rfl ?_))
        refine VJ.cond rfl (fun hb3 => ?_) (fun hb3 => ?_)
        rotate_left
        ·exfalso; simp at hb3
        repeat' (first | refine VJ.seq ?_ | refine VJ.skip ?_ | refine VJ.block ?_ | (fail))
        apply VJ.draw3 [] [(0, 0), (1, 0), (2, 0), (3, 0), (4, 0), (5, 0), (6, 0), (7, 0), (8, 0), (9, 0), (10, 0), (11, 0), (12, 0), (13, 0), (14, 0), (15, 0), (16, 0), (17, 0)] [[(7, none)], [(54, some 0)], [(55, some 1)], [(56, some 2)], [(6, none), (57, some 3)], [(58, some 4), (57, some 3)], [(59, some 5), (57, some 3)], [(60, some 6), (57, some 3)], [(6, none), (61, some 7)], [(62, some 8), (61, some 7)], [(63, some 9), (61, some 7)], [(7, none), (61, some 7)], [(65, some 11), (61, some 7)], [(66, some 12), (61, some 7)], [(64, some 10), (67, some 13), (61, some 7)], [(68, some 14), (61, some 7)], [(61, some 7), (69, some 15), (57, some 3)], [(57, some 3), (70, some 16)]] [[(7, _)], [(54, _)], [(55, _)], [(56, _)], [(6, _), (57, _)], [(58, _), (57, _)], [(59, _), (57, _)], [(60, _), (57, _)], [(6, _), (61, _)], [(62, _), (61, _)], [(63, _), (61, _)], [(7, _), (61, _)], [(65, _), (61, _)], [(66, _), (61, _)], [(64, _), (67, _), (61, _)], [(68, _), (61, _)], [(61, _), (69, _), (57, _)], [(57, _), (70, _)]] [_, _, _, _, _, _, _, _, _, _, _, _, _, _, _, _, _, _] [⟨_, _, _⟩] (by kernel_rfl) ?hok rfl ?hh rfl rfl ?hj
        case hh =>
         refine ⟨?_, ?_, ?_, ?_, ?_, ?_, ?_, ?_, ?_, ?_, ?_, ?_, ?_, ?_, ?_, ?_, ?_, ?_, trivial⟩
         all_goals (intro rest K1 hK1; (repeat (first | exact VR.done hK1 | (first | refine VR.move rfl rfl ?_ | refine VR.int rfl rfl rfl rfl ?_ | (refine VR.pickB rfl rfl rfl rfl ?_ ?_ ?_; exact trivial; exact trivial) | refine VR.pick rfl rfl rfl ?_ | refine VR.g_yes rfl rfl rfl ?_ | refine VR.g_no rfl rfl rfl rfl ?_ | refine VR.len tok rfl rfl rfl rfl rfl ?_))); try (first | exact VR.done hK1 | (refine VR.done ?_; dsimp only [S.set]; exact hK1)))
        case hok => kernel_rfl
        case hj =>
         dsimp only [tla]
         refine VJ.cond rfl (fun hb4 => ?_) (fun hb4 => ?_)
         ·exfalso; simp at hb4; omega
         repeat' (first | refine VJ.seq ?_ | refine VJ.inBlock ?_ | refine VJ.region_k fun K hK => ?_ | (refine VR.done (hK _ ?_); clear hK K) | (first | refine VR.move rfl rfl ?_ | refine VR.assign rfl rfl ?_ | (show onLd; refine VR.load tok rfl rfl rfl rfl ?_) | (refine VR.buildLst ([y].map Tr.v) tok (by rfl) (by rfl) (by rfl) (by rfl) (by rfl) (by rfl) (by rfl) (by rfl) (by rfl) (by rfl) (by rfl) ?_) | (refine VR.append tok (by rfl) (by rfl) (by rfl) (by rfl) (by rfl) (by rfl) (by rfl) (by rfl) (by rfl) (by rfl) (oneT [y]) (by simp; omega) (by simp [maxLen]; omega) ?_) | (refine VR.indexAddr (j := 0) tok rfl rfl rfl rfl rfl rfl rfl (elA_lst (show ((y :: b).map Tr.v)[0]? = some (y).v from rfl)) ?_) | (refine VR.sliceL 1 tok (by rfl) (by rfl) (by rfl) (by rfl) (by rfl) (by rfl) (by rfl) (by rfl) (by simp) ?_)))
         exact VJ.to 1 _ _ (ih4 (o ++ [y], ([] : List Tr), b) hm2 (by simp)) rfl (by repeat' first | exact trivial | refine ⟨rfl, ?_⟩) ⟨by rw [List.map_append]; rfl, trivial⟩ (by rfl)
    | cons x a =>
      cases b with
      | nil =>
        have hm2 : (o ++ [x]) ++ a.merge ([] : List Tr) leT = T := by rw [← hm]; simp
        repeat' (first | refine VJ.seq ?_ | refine VJ.region_k fun K hK => ?_ | (refine VR.done (hK _ ?_); clear hK K) | (first | refine VR.move rfl rfl ?_ | refine VR.int rfl rfl rfl rfl ?_ | (refine VR.pickB rfl rfl rfl rfl ?_ ?_ ?_; exact trivial; (refine fun h => ?_; rw [h]; rfl)) | refine VR.len tok rfl rfl rfl rfl rfl ?_) | (refine' VR.spec (by rfl) (by rfl) (by rfl) ?_ ?_ ?_; rotate_left 1; (repeat (first | exact trivial | refine And.intro id ?_)); intro hg K1 hK1; (first | refine VR.move rfl rfl ?_ | refine VR.int rfl rfl rfl rfl ?_ | refine VR.len tok rfl rfl rfl rfl rfl ?_); exact VR.done hK1))
        refine VJ.cond rfl (fun hb3 => ?_) (fun hb3 => ?_)
        rotate_left
        ·exfalso; simp at hb3
        repeat' (first | refine VJ.seq ?_ | refine VJ.skip ?_ | refine VJ.block ?_ | (fail))
        apply VJ.draw3 [] [(0, 0), (1, 0), (2, 0), (3, 0), (4, 0), (5, 0), (6, 0), (7, 0), (8, 0), (9, 0), (10, 0), (11, 0), (12, 0), (13, 0), (14, 0), (15, 0), (16, 0), (17, 0)] [[(7, none)], [(54, some 0)], [(55, some 1)], [(56, some 2)], [(6, none), (57, some 3)], [(58, some 4), (57, some 3)], [(59, some 5), (57, some 3)], [(60, some 6), (57, some 3)], [(6, none), (61, some 7)], [(62, some 8), (61, some 7)], [(63, some 9), (61, some 7)], [(7, none), (61, some 7)], [(65, some 11), (61, some 7)], [(66, some 12), (61, some 7)], [(64, some 10), (67, some 13), (61, some 7)], [(68, some 14), (61, some 7)], [(61, some 7), (69, some 15), (57, some 3)], [(57, some 3), (70, some 16)]] [[(7, _)], [(54, _)], [(55, _)], [(56, _)], [(6, _), (57, _)], [(58, _), (57, _)], [(59, _), (57, _)], [(60, _), (57, _)], [(6, _), (61, _)], [(62, _), (61, _)], [(63, _), (61, _)], [(7, _), (61, _)], [(65, _), (61, _)], [(66, _), (61, _)], [(64, _), (67, _), (61, _)], [(68, _), (61, _)], [(61, _), (69, _), (57, _)], [(57, _), (70, _)]] [_, _, _, _, _, _, _, _, _, _, _, _, _, _, _, _, _, _] [⟨_, _, _⟩] (by kernel_rfl) ?hok rfl ?hh rfl rfl ?hj
        case hh =>
         refine ⟨?_, ?_, ?_, ?_, ?_, ?_, ?_, ?_, ?_, ?_, ?_, ?_, ?_, ?_, ?_, ?_, ?_, ?_, trivial⟩
         all_goals (intro rest K1 hK1; (repeat (first | exact VR.done hK1 | (first | (refine VR.g_no0 rfl rfl (by rfl) ?_) | refine VR.move rfl rfl ?_ | refine VR.int rfl rfl rfl rfl ?_ | refine VR.pick rfl rfl rfl ?_ | refine VR.len tok rfl rfl rfl rfl rfl ?_))); try (first | exact VR.done hK1 | (refine VR.done ?_; dsimp only [S.set]; exact hK1)))
        case hok => kernel_rfl
        case hj =>
         dsimp only [tla]
         refine VJ.cond rfl (fun hb4 => ?_) (fun hb4 => ?_)
         rotate_left
         ·exfalso; simp at hb4
         repeat' (first | refine VJ.seq ?_ | refine VJ.inBlock ?_ | refine VJ.region_k fun K hK => ?_ | (refine VR.done (hK _ ?_); clear hK K) | (first | refine VR.move rfl rfl ?_ | refine VR.assign rfl rfl ?_ | (show onLd; refine VR.load tok rfl rfl rfl rfl ?_) | (refine VR.buildLst ([x].map Tr.v) tok (by rfl) (by rfl) (by rfl) (by rfl) (by rfl) (by rfl) (by rfl) (by rfl) (by rfl) (by rfl) (by rfl) ?_) | (refine VR.append tok (by rfl) (by rfl) (by rfl) (by rfl) (by rfl) (by rfl) (by rfl) (by rfl) (by rfl) (by rfl) (oneT [x]) (by simp; omega) (by simp [maxLen]; omega) ?_) | (refine VR.indexAddr (j := 0) tok rfl rfl rfl rfl rfl rfl rfl (elA_lst (show ((x :: a).map Tr.v)[0]? = some (x).v from rfl)) ?_) | (refine VR.sliceL 1 tok (by rfl) (by rfl) (by rfl) (by rfl) (by rfl) (by rfl) (by rfl) (by rfl) (by simp) ?_)))
         exact VJ.to 1 _ _ (ih4 (o ++ [x], a, ([] : List Tr)) hm2 (by simp)) rfl (by repeat' first | exact trivial | refine ⟨rfl, ?_⟩) ⟨by rw [List.map_append]; rfl, trivial⟩ (by rfl)
      | cons y b =>
        rw [merge_cons] at hm
        repeat' (first | refine VJ.seq ?_ | refine VJ.region_k fun K hK => ?_ | (refine VR.done (hK _ ?_); clear hK K) | (first | refine VR.move rfl rfl ?_ | refine VR.int rfl rfl rfl rfl ?_ | (refine VR.pickB rfl rfl rfl rfl ?_ ?_ ?_; exact trivial; (refine fun h => ?_; rw [h]; rfl)) | refine VR.len tok rfl rfl rfl rfl rfl ?_) | (refine' VR.spec (by rfl) (by rfl) (by rfl) ?_ ?_ ?_; rotate_left 1; (repeat (first | exact trivial | refine And.intro id ?_)); intro hg K1 hK1; (first | refine VR.move rfl rfl ?_ | refine VR.int rfl rfl rfl rfl ?_ | refine VR.len tok rfl rfl rfl rfl rfl ?_); exact VR.done hK1))
        refine VJ.cond rfl (fun hb3 => ?_) (fun hb3 => ?_)
        rotate_left
        ·exfalso; simp at hb3
        repeat' (first | refine VJ.seq ?_ | refine VJ.skip ?_ | refine VJ.block ?_ | (fail))
        apply VJ.draw3 [] [(0, 0), (1, 0), (2, 0), (3, 0), (4, 0), (5, 0), (6, 0), (7, 0), (8, 0), (9, 0), (10, 0), (11, 0), (12, 0), (13, 0), (14, 0), (15, 0), (16, 0), (17, 0)] [[(7, none)], [(54, some 0)], [(55, some 1)], [(56, some 2)], [(6, none), (57, some 3)], [(58, some 4), (57, some 3)], [(59, some 5), (57, some 3)], [(60, some 6), (57, some 3)], [(6, none), (61, some 7)], [(62, some 8), (61, some 7)], [(63, some 9), (61, some 7)], [(7, none), (61, some 7)], [(65, some 11), (61, some 7)], [(66, some 12), (61, some 7)], [(64, some 10), (67, some 13), (61, some 7)], [(68, some 14), (61, some 7)], [(61, some 7), (69, some 15), (57, some 3)], [(57, some 3), (70, some 16)]] [[(7, _)], [(54, _)], [(55, _)], [(56, _)], [(6, _), (57, _)], [(58, _), (57, _)], [(59, _), (57, _)], [(60, _), (57, _)], [(6, _), (61, _)], [(62, _), (61, _)], [(63, _), (61, _)], [(7, _), (61, _)], [(65, _), (61, _)], [(66, _), (61, _)], [(64, _), (67, _), (61, _)], [(68, _), (61, _)], [(61, _), (69, _), (57, _)], [(57, _), (70, _)]] [_, _, _, _, _, _, _, _, _, _, _, _, _, _, _, _, _, _] [⟨_, _, _⟩] (by kernel_rfl) ?hok rfl ?hh rfl rfl ?hj
        case hh =>
         refine ⟨?_, ?_, ?_, ?_, ?_, ?_, ?_, ?_, ?_, ?_, ?_, ?_, ?_, ?_, ?_, ?_, ?_, ?_, trivial⟩
         all_goals (intro rest K1 hK1; (repeat (first | exact VR.done hK1 | (first | refine VR.move rfl rfl ?_ | refine VR.int rfl rfl rfl rfl ?_ | (refine VR.pickB rfl rfl rfl rfl ?_ ?_ ?_; exact trivial; exact trivial) | (refine VR.pickB rfl rfl rfl rfl ?_ ?_ ?_; (refine fun h => ?_; rw [h]; rfl); exact trivial) | refine VR.g_yes rfl rfl rfl ?_ | refine VR.len tok rfl rfl rfl rfl rfl ?_) | (refine' VR.spec (by rfl) (by rfl) (by rfl) ?_ ?_ ?_; rotate_left 1; (repeat (first | exact trivial | refine And.intro id ?_)); intro hg K1 hK1; (first | refine VR.move rfl rfl ?_ | (show onLd; refine VR.load tok rfl rfl rfl rfl ?_) | refine VR.int rfl rfl rfl rfl ?_ | (refine VR.indexAddr (j := 0) tok rfl rfl rfl rfl rfl rfl rfl (elA_lst (show ((x :: a).map Tr.v)[0]? = some (x).v from rfl)) ?_) | (refine VR.indexAddr (j := 0) tok rfl rfl rfl rfl rfl rfl rfl (elA_lst (show ((y :: b).map Tr.v)[0]? = some (y).v from rfl)) ?_) | (refine VR.call fok58 rfl rfl rfl rfl ?_; refine (v_cmpTR x y _ _ ?_))); exact VR.done hK1))); try (first | exact VR.done hK1 | (refine VR.done ?_; dsimp only [S.set]; exact hK1)))
        case hok => kernel_rfl
        case hj =>
         dsimp only [tla]
         refine VJ.cond rfl (fun hb4 => ?_) (fun hb4 => ?_)
         ·have hle : x.cmp y ≤ 0 := by
           have : ¬ ((b.length : Int) + 1 = 0) := by omega
           simpa [this] using hb4
          have hm2 : (o ++ [x]) ++ a.merge (y :: b) leT = T := by rw [← hm, if_pos hle]; simp
          repeat' (first | refine VJ.seq ?_ | refine VJ.inBlock ?_ | refine VJ.region_k fun K hK => ?_ | (refine VR.done (hK _ ?_); clear hK K) | (first | refine VR.move rfl rfl ?_ | refine VR.assign rfl rfl ?_ | (show onLd; refine VR.load tok rfl rfl rfl rfl ?_) | (refine VR.buildLst ([x].map Tr.v) tok (by rfl) (by rfl) (by rfl) (by rfl) (by rfl) (by rfl) (by rfl) (by rfl) (by rfl) (by rfl) (by rfl) ?_) | (refine VR.append tok (by rfl) (by rfl) (by rfl) (by rfl) (by rfl) (by rfl) (by rfl) (by rfl) (by rfl) (by rfl) (oneT [x]) (by simp; omega) (by simp [maxLen]; omega) ?_) | (refine VR.indexAddr (j := 0) tok rfl rfl rfl rfl rfl rfl rfl (elA_lst (show ((x :: a).map Tr.v)[0]? = some (x).v from rfl)) ?_) | (refine VR.sliceL 1 tok (by rfl) (by rfl) (by rfl) (by rfl) (by rfl) (by rfl) (by rfl) (by rfl) (by simp) ?_)))
          exact VJ.to 1 _ _ (ih4 (o ++ [x], a, y :: b) hm2 (by simp)) rfl (by repeat' first | exact trivial | refine ⟨rfl, ?_⟩) ⟨by rw [List.map_append]; rfl, trivial⟩ (by rfl)
         ·have hle : ¬ x.cmp y ≤ 0 := by
           intro h
           simp [h] at hb4
          have hm2 : (o ++ [y]) ++ (x :: a).merge b leT = T := by rw [← hm, if_neg hle]; simp
          repeat' (first | refine VJ.seq ?_ | refine VJ.inBlock ?_ | refine VJ.region_k fun K hK => ?_ | (refine VR.done (hK _ ?_); clear hK K) | (first | refine VR.move rfl rfl ?_ | refine VR.assign rfl rfl ?_ | (show onLd; refine VR.load tok rfl rfl rfl rfl ?_) | (refine VR.buildLst ([y].map Tr.v) tok (by rfl) (by rfl) (by rfl) (by rfl) (by rfl) (by rfl) (by rfl) (by rfl) (by rfl) (by rfl) (by rfl) ?_) | (refine VR.append tok (by rfl) (by rfl) (by rfl) (by rfl) (by rfl) (by rfl) (by rfl) (by rfl) (by rfl) (by rfl) (oneT [y]) (by simp; omega) (by simp [maxLen]; omega) ?_) | (refine VR.indexAddr (j := 0) tok rfl rfl rfl rfl rfl rfl rfl (elA_lst (show ((y :: b).map Tr.v)[0]? = some (y).v from rfl)) ?_) | (refine VR.sliceL 1 tok (by rfl) (by rfl) (by rfl) (by rfl) (by rfl) (by rfl) (by rfl) (by rfl) (by simp) ?_)))
          exact VJ.to 1 _ _ (ih4 (o ++ [y], x :: a, b) hm2 (by simp)) rfl (by repeat' first | exact trivial | refine ⟨rfl, ?_⟩) ⟨by rw [List.map_append]; rfl, trivial⟩ (by rfl)
  have hge : xs.length ≤ at_ := by simpa using hb2
  have hox : out.Perm l := by
   rw [List.take_of_length_le hge] at hpo
   exact hpo.trans hp
  repeat' (first | refine VJ.inBlock ?_ | refine VJ.exit rfl ?_ | refine VJ.region_k fun K hK => ?_ | (refine VR.done (hK _ ?_); clear hK K) | (first | refine VR.move rfl rfl ?_ | refine VR.assign rfl rfl ?_ | refine VR.int rfl rfl rfl rfl ?_))
  refine VJ.freeze 0 rfl rfl ?_
  repeat' (first | (fail))
  refine VJ.to 0 [(3, vI ((2 * n : Nat) : Int)), (0, vL 6 (out.map Tr.v))] [] (ih (2 * n, out) ⟨by show 1 ≤ 2 * n; omega, by show 2 * n < 2000000; omega, hox, hro⟩ (by show out.length - 2 * n < xs.length - n; rw [hox.length_eq]; omega)) rfl ⟨by show some (vI (wr (2 * (n : Int)))) = some (vI ((2 * n : Nat) : Int)); rw [wr_in (by omega) (by omega)]; rfl, by rfl, trivial⟩ trivial (by rfl)
 have hge : xs.length ≤ n := by simpa using hb
 have hs := sorted_uniqueT (hp.trans (sortT_perm l).symm) (runs_end hr hge) (sortT_sorted l)
 subst hs
 repeat' (first | refine VJ.seq ?_ | refine VJ.exit rfl ?_ | refine VJ.region_k fun K hK => ?_ | (refine VR.done (hK _ ?_); clear hK K) | (first | refine VR.move rfl rfl ?_ | refine VR.assign rfl rfl ?_))
 refine VJ.ret tok (by rfl) (by rfl) ?_
 exact hQ
end Go.Proofs.YtnpnjhopgedhkaaGreat
namespace Go.Proofs.YtnpnjhopgedhkaaGreat
open Go.RowKit V Geo
theorem ldp_oel {s : S} {k j n e : Nat} {agg : Bool} {xs : List Value} {u : Value} {i : V.Id} (ho : s.obj i = some (.row e k xs)) (h : xs[j]? = some u) : ldp s agg n (.oel i k j 0) = ldv agg n (u.cells.toList.map fun c => A.d (.v c)) := by
 simp [ldp, place, ho, h]
abbrev Str (l : List Pt) : Prop := l.Pairwise fun a b => a.lt b = true
theorem cp_gt (a b : Pt) : 0 < cp a b ↔ b.lt a = true := by rw [cp_pos, pt_lt]; omega
theorem cp_le_ne {a b : Pt} (h : ¬ 0 < cp a b) (hne : a ≠ b) : a.lt b = true := by
 unfold Pt.lt
 have h0 : cp a b ≠ 0 := fun e => hne (cp_zero.1 e)
 exact decide_eq_true (by omega)
theorem lt_trans' {a b c : Pt} (h1 : a.lt b = true) (h2 : b.lt c = true) : a.lt c = true := by
 rw [pt_lt] at *; omega
theorem str_before {out : List Pt} {p : Pt} {n : Nat} (hs : Str out) (hn : n < out.length) (h : out[n].lt p = true) : ∀ a ∈ out.take (n + 1), a.lt p = true := by
 intro a ha
 obtain ⟨j, hj, rfl⟩ := List.mem_iff_getElem.1 ha
 rw [List.length_take] at hj
 rw [List.getElem_take]
 rcases Nat.lt_or_ge j n with hjn | hjn
 ·exact lt_trans' (List.pairwise_iff_getElem.1 hs j n (by omega) hn hjn) h
 ·have : j = n := by omega
  subst this; exact h
theorem str_ins {out : List Pt} {p : Pt} {n : Nat} (hs : Str out) (hA : ∀ a ∈ out.take n, a.lt p = true) (hB : ∀ b ∈ out.drop n, p.lt b = true) : Str (out.take n ++ [p] ++ out.drop n) := by
 have h1 : Str (out.take n ++ out.drop n) := by rw [List.take_append_drop]; exact hs
 have h2 := List.pairwise_append.1 h1
 refine List.pairwise_append.2 ⟨List.pairwise_append.2 ⟨h2.1, List.pairwise_singleton _ _, fun a ha b hb => ?_⟩, h2.2.1, fun a ha b hb => ?_⟩
 ·rw [List.mem_singleton.1 hb]; exact hA a ha
 ·rcases List.mem_append.1 ha with ha | ha
  ·exact h2.2.2 a ha b hb
  ·rw [List.mem_singleton.1 ha]; exact hB b hb
theorem mem_ins {out : List Pt} {p : Pt} {n : Nat} (x : Pt) : x ∈ out.take n ++ [p] ++ out.drop n ↔ x ∈ out ∨ x = p := by
 have : x ∈ out ↔ x ∈ out.take n ∨ x ∈ out.drop n := by rw [← List.mem_append, List.take_append_drop]
 rw [this]; simp only [List.mem_append, List.mem_singleton]
 constructor
 ·rintro ((h | h) | h)
  ·exact .inl (.inl h)
  ·exact .inr h
  ·exact .inl (.inr h)
 ·rintro ((h | h) | h)
  ·exact .inl (.inl h)
  ·exact .inr h
  ·exact .inl (.inr h)
theorem drop_gt {out : List Pt} {p : Pt} {n : Nat} (hn : n < out.length) (h : p.lt out[n] = true) (hB : ∀ b ∈ out.drop (n + 1), p.lt b = true) : ∀ b ∈ out.drop n, p.lt b = true := by
 intro b hb
 rw [List.drop_eq_getElem_cons hn] at hb
 rcases List.mem_cons.1 hb with e | e
 ·rw [e]; exact h
 ·exact hB b e
def hole (out : List Pt) (n : Nat) (y : Pt) : List Pt := out.take n ++ [y] ++ out.drop n
theorem hole_len (out : List Pt) (n : Nat) (y : Pt) (h : n ≤ out.length) : (hole out n y).length = out.length + 1 := by
 unfold hole; simp; omega
theorem hole_end (out : List Pt) (y : Pt) : hole out out.length y = out ++ [y] := by unfold hole; simp
theorem hole_get (out : List Pt) (n : Nat) (y : Pt) (h : n < out.length) : ((hole out (n + 1) y).map ptV)[n]? = some (ptV out[n]) := by
 have : n < (out.take (n + 1)).length := by rw [List.length_take]; omega
 unfold hole
 rw [List.getElem?_map, List.append_assoc, List.getElem?_append_left this, List.getElem?_eq_getElem this, List.getElem_take]; rfl
theorem hole_at (out : List Pt) (n : Nat) (y : Pt) (h : n ≤ out.length) : ((hole out n y).map ptV)[n]? = some (ptV y) := by
 unfold hole
 have hl : (out.take n).length = n := by rw [List.length_take]; omega
 rw [List.getElem?_map, List.append_assoc, List.getElem?_append_right (by omega), hl, Nat.sub_self]; rfl
theorem hole_set (out : List Pt) (n : Nat) (y z : Pt) (h : n ≤ out.length) : ((hole out n y).map ptV).set n (ptV z) = (hole out n z).map ptV := by
 rw [← List.map_set]
 congr 1
 unfold hole
 have hl : (out.take n).length = n := by rw [List.length_take]; omega
 rw [List.append_assoc, List.append_assoc, List.set_append_right _ _ (by omega), hl, Nat.sub_self]; rfl
theorem hole_move (out : List Pt) (n : Nat) (h : n < out.length) : hole out (n + 1) out[n] = hole out n out[n] := by
 unfold hole
 rw [List.drop_eq_getElem_cons h, ← List.take_append_getElem h]; simp
theorem map_get_p {l : List Pt} {j : Nat} (h : j < l.length) : (l.map ptV)[j]? = some (ptV l[j]) := by simp [h]
theorem onePt (l : List Pt) : ∀ u ∈ l.map ptV, ∀ v ∈ u.cells.toList, v.oneCell' = true := by
 intro u hu v hv
 obtain ⟨w, _, rfl⟩ := List.mem_map.1 hu
 simp [ptV, Value.cells] at hv
 rcases hv with rfl | rfl <;> rfl
theorem onePv (p : Pt) : ∀ v ∈ (ptV p).cells.toList, v.oneCell' = true := fun v hv => onePt [p] (ptV p) (by simp) v hv
attribute [local irreducible] VR VJ VC decOk decBt
set_option maxRecDepth 20000 in
set_option maxHeartbeats 4000000 in
theorem v_sortPR (l : List Pt) (hl : l.length < 1000000) (G : Gl) (Q : Po) (hQ : ∀ out, Str out → (∀ x, x ∈ out ↔ x ∈ l) → Q (vL 2 (out.map ptV)) G) : VC Tryz.prog 70 [vL 2 (l.map ptV)] G Q := by
 refine VC.of_body Tryz.func70 rfl rfl rfl fun W0 h0 x0 hG0 => ?_
 simp only [args0]
 repeat' (first | refine VJ.seq ?_ | refine VJ.block ?_ | refine VJ.region_k fun K hK => ?_ | (refine VR.done (hK _ ?_); clear hK K) | (first | refine VR.assign rfl rfl ?_))
 refine VJ.promote 3 25 2 (by decide) rfl ?_
 refine VJ.to 1 [(4, vI ((0 : Nat) : Int)), (3, .a (.own (.l 0))), (0, vL 2 (l.map ptV))] [(0, .row 25 2 (([] : List Pt).map ptV))] ?_ rfl (by repeat' first | exact trivial | refine ⟨rfl, ?_⟩) (by repeat' first | exact trivial | refine ⟨rfl, ?_⟩) (by rfl)
 refine VJ.rec (fun a : Nat × List Pt => ⟨1, [(4, vI a.1), (3, .a (.own (.l 0))), (0, vL 2 (l.map ptV))], [(0, .row 25 2 (a.2.map ptV))], G⟩) (fun a => l.length - a.1) (fun a => a.1 ≤ l.length ∧ a.2.length ≤ a.1 ∧ Str a.2 ∧ ∀ x, x ∈ a.2 ↔ x ∈ l.take a.1) (0, []) ⟨Nat.zero_le _, Nat.le_refl _, List.Pairwise.nil, fun x => by simp⟩ ?_
 rintro ⟨i, out⟩ ⟨hi, hlen, hs, hm⟩ ih
 dsimp only at hi hlen hs hm ih ⊢
 repeat' (first | refine VJ.seq ?_ | refine VJ.region_k fun K hK => ?_ | (refine VR.done (hK _ ?_); clear hK K) | (first | refine VR.move rfl rfl ?_ | refine VR.int rfl rfl rfl rfl ?_ | refine VR.len tok rfl rfl rfl rfl rfl ?_))
 refine VJ.cond rfl (fun hb => ?_) (fun hb => ?_)
 ·have hlt : i < l.length := by simpa using hb
  have hgl := map_get_p hlt
  have hm' : ∀ x, (x ∈ out ∨ x = l[i]) ↔ x ∈ l.take (i + 1) := by
   intro x
   rw [hm, ← List.take_append_getElem hlt, List.mem_append, List.mem_singleton]
  generalize l[i] = p at hgl hm'
  repeat' (first | refine VJ.seq ?_ | refine VJ.skip ?_ | refine VJ.block ?_ | refine VJ.region_k fun K hK => ?_ | (refine VR.done (hK _ ?_); clear hK K) | (first | refine VR.move rfl rfl ?_ | refine VR.assign rfl rfl ?_ | refine VR.len tok rfl rfl rfl rfl rfl ?_))
  refine VJ.to 1 [(5, vI ((out.length : Nat) : Int)), (4, vI i), (3, .a (.own (.l 0))), (0, vL 2 (l.map ptV))] [(0, .row 25 2 (out.map ptV))] ?_ rfl ⟨by simp [lk], by rfl, by rfl, by rfl, trivial⟩ (by repeat' first | exact trivial | refine ⟨rfl, ?_⟩) (by rfl)
  refine VJ.rec (fun n : Nat => ⟨1, [(5, vI n), (4, vI i), (3, .a (.own (.l 0))), (0, vL 2 (l.map ptV))], [(0, .row 25 2 (out.map ptV))], G⟩) (fun n => n) (fun n => n ≤ out.length ∧ ∀ b ∈ out.drop n, p.lt b = true) out.length ⟨Nat.le_refl _, by simp⟩ ?_
  rintro n ⟨hn, hB⟩ ih2
  by_cases hn0 : 0 < n
  ·have hd : decide ((n : Int) > 0) = true := decide_eq_true (by omega)
   have hn1 : n - 1 < out.length := by omega
   have hgo := map_get_p hn1
   have hix : wr ((n : Int) - 1) = ((n - 1 : Nat) : Int) := by rw [wr_in (by omega) (by omega)]; omega
   have hBf : ∀ q, out[n - 1] = q → (0 < cp q p → ∀ b ∈ out.drop (n - 1), p.lt b = true) ∧ (¬ 0 < cp q p → q ≠ p → ∀ a ∈ out.take n, a.lt p = true) ∧ q ∈ out := by
    intro q hq
    refine ⟨fun hc => drop_gt hn1 (by rw [hq]; exact (cp_gt _ _).1 hc) (by rw [Nat.sub_add_cancel hn0]; exact hB), fun hc hne => ?_, by rw [← hq]; exact List.getElem_mem hn1⟩
    have := str_before hs hn1 (by rw [hq]; exact cp_le_ne hc hne)
    rw [Nat.sub_add_cancel hn0] at this
    exact this
   have hBg := hBf _ rfl
   generalize out[n - 1] = g at hgo hBg
   clear hBf
   repeat' (first | refine VJ.seq ?_ | (fail))
   apply VJ.draw3 [] [(0, 0), (1, 0), (2, 0), (3, 0), (4, 0), (5, 0), (6, 0), (7, 0), (8, 0), (9, 0), (10, 0), (11, 0), (12, 0), (13, 0), (14, 0)] [[(5, none)], [(15, some 0)], [(16, some 1)], [(3, none), (17, some 2)], [(5, none), (17, some 2)], [(19, some 4), (17, some 2)], [(18, some 3), (20, some 5), (17, some 2)], [(21, some 6), (17, some 2)], [(0, none), (17, some 2)], [(4, none), (17, some 2)], [(23, some 8), (24, some 9), (17, some 2)], [(25, some 10), (17, some 2)], [(22, some 7), (26, some 11), (17, some 2)], [(27, some 12), (17, some 2)], [(17, some 2), (28, some 13)]] [[(5, _)], [(15, _)], [(16, _)], [(3, _), (17, _)], [(5, _), (17, _)], [(19, _), (17, _)], [(18, _), (20, _), (17, _)], [(21, _), (17, _)], [(0, _), (17, _)], [(4, _), (17, _)], [(23, _), (24, _), (17, _)], [(25, _), (17, _)], [(22, _), (26, _), (17, _)], [(27, _), (17, _)], [(17, _), (28, _)]] [_, _, _, _, _, _, _, _, _, _, _, _, _, _, _] [⟨_, _, _⟩] (by kernel_rfl) ?hok rfl ?hh rfl rfl ?hj
   case hh =>
    refine ⟨?_, ?_, ?_, ?_, ?_, ?_, ?_, ?_, ?_, ?_, ?_, ?_, ?_, ?_, ?_, trivial⟩
    all_goals (intro rest K1 hK1; (repeat (first | exact VR.done hK1 | (first | refine VR.move rfl rfl ?_ | (show onLd; refine VR.load tok rfl rfl rfl (by first | rfl | exact (ldp_el (by assumption)).trans (by rfl)) ?_) | (show onIx; refine VR.indexAddr tok rfl rfl rfl rfl rfl rfl rfl (elA_lst (by assumption)) ?_) | refine VR.int rfl rfl rfl rfl ?_ | (refine VR.pickB rfl rfl rfl rfl ?_ ?_ ?_; iterate 2 (first | exact trivial | (refine fun h => ?_; first | (rw [h]; rfl) | (rw [h, hg]; rfl) | (rw [hg, h]; rfl) | (simp [h, hg]; done)))) | refine VR.g_yes rfl rfl (by first | rfl | assumption) ?_ | (refine VR.indexAddr (j := n - 1) tok rfl rfl rfl rfl rfl rfl hix (elA_own (by rfl) hgo) ?_) | (refine VR.load tok rfl rfl rfl ((ldp_oel (by rfl) hgo).trans (by rfl)) ?_)) | (refine VR.call fok71 rfl rfl rfl rfl ?_; refine (v_cpR g p _ _ ?_)))); try (first | exact VR.done hK1 | (refine VR.done ?_; dsimp only [S.set]; exact hK1)))
   case hok => kernel_rfl
   case hj =>
    dsimp only [tla]
    refine VJ.cond rfl (fun hc => ?_) (fun hc => ?_)
    ·have hc : (bif decide ((n : Int) > 0) then decide (cp g p > 0) else false) = true := hc
     rw [hd] at hc
     have hcp : 0 < cp g p := by simpa using hc
     repeat' (first | refine VJ.skip ?_ | refine VJ.block ?_ | refine VJ.inBlock ?_ | refine VJ.region_k fun K hK => ?_ | (refine VR.done (hK _ ?_); clear hK K) | (first | refine VR.move rfl rfl ?_ | refine VR.assign rfl rfl ?_ | refine VR.int rfl rfl rfl rfl ?_))
     exact VJ.to 1 _ _ (ih2 (n - 1) ⟨by omega, hBg.1 hcp⟩ (by omega)) rfl ⟨by show some (vI (wr ((n : Int) - 1))) = _; rw [hix], by rfl, by rfl, by rfl, trivial⟩ (by repeat' first | exact trivial | refine ⟨rfl, ?_⟩) (by rfl)
    ·have hc : (bif decide ((n : Int) > 0) then decide (cp g p > 0) else false) = false := hc
     rw [hd] at hc
     have hcp : ¬ 0 < cp g p := by simpa using hc
     repeat' (first | refine VJ.seq ?_ | refine VJ.exit rfl ?_ | (fail))
     apply VJ.draw3 [] [(0, 0), (1, 0), (2, 0), (3, 0), (4, 0), (5, 0), (6, 0), (7, 0), (8, 0), (9, 0), (10, 0), (11, 0), (12, 0), (13, 0)] [[(5, none)], [(32, some 0)], [(33, some 1)], [(3, none), (34, some 2)], [(5, none), (34, some 2)], [(36, some 4), (34, some 2)], [(35, some 3), (37, some 5), (34, some 2)], [(38, some 6), (34, some 2)], [(0, none), (34, some 2)], [(4, none), (34, some 2)], [(40, some 8), (41, some 9), (34, some 2)], [(42, some 10), (34, some 2)], [(39, some 7), (43, some 11), (34, some 2)], [(34, some 2), (44, some 12)]] [[(5, _)], [(32, _)], [(33, _)], [(3, _), (34, _)], [(5, _), (34, _)], [(36, _), (34, _)], [(35, _), (37, _), (34, _)], [(38, _), (34, _)], [(0, _), (34, _)], [(4, _), (34, _)], [(40, _), (41, _), (34, _)], [(42, _), (34, _)], [(39, _), (43, _), (34, _)], [(34, _), (44, _)]] [_, _, _, _, _, _, _, _, _, _, _, _, _, _] [⟨_, _, _⟩] (by kernel_rfl) ?hok rfl ?hh rfl rfl ?hj
     case hh =>
      refine ⟨?_, ?_, ?_, ?_, ?_, ?_, ?_, ?_, ?_, ?_, ?_, ?_, ?_, ?_, trivial⟩
      all_goals (intro rest K1 hK1; (repeat (first | exact VR.done hK1 | (first | refine VR.move rfl rfl ?_ | (show onLd; refine VR.load tok rfl rfl rfl (by first | rfl | exact (ldp_el (by assumption)).trans (by rfl)) ?_) | (show onIx; refine VR.indexAddr tok rfl rfl rfl rfl rfl rfl rfl (elA_lst (by assumption)) ?_) | refine VR.int rfl rfl rfl rfl ?_ | (refine VR.pickB rfl rfl rfl rfl ?_ ?_ ?_; iterate 2 (first | exact trivial | (refine fun h => ?_; first | (rw [h]; rfl) | (rw [h, hg]; rfl) | (rw [hg, h]; rfl) | (simp [h, hg]; done)))) | refine VR.g_yes rfl rfl (by first | rfl | assumption) ?_ | (refine VR.indexAddr (j := n - 1) tok rfl rfl rfl rfl rfl rfl hix (elA_own (by rfl) hgo) ?_) | (refine VR.load tok rfl rfl rfl ((ldp_oel (by rfl) hgo).trans (by rfl)) ?_) | (refine VR.bin rfl rfl rfl (eqP _ _ g p) ?_)))); try (first | exact VR.done hK1 | (refine VR.done ?_; dsimp only [S.set]; exact hK1)))
     case hok => kernel_rfl
     case hj =>
      dsimp only [tla]
      refine VJ.cond rfl (fun he => ?_) (fun he => ?_)
      ·have he : (bif decide ((n : Int) > 0) then decide (g = p) else false) = true := he
       rw [hd] at he
       have hgp : g = p := by simpa using he
       have hmem : p ∈ out := by rw [← hgp]; exact hBg.2.2
       repeat' (first | refine VJ.exit rfl ?_ | refine VJ.region_k fun K hK => ?_ | (refine VR.done (hK _ ?_); clear hK K) | (first | refine VR.move rfl rfl ?_ | refine VR.assign rfl rfl ?_ | refine VR.int rfl rfl rfl rfl ?_))
       exact VJ.to 1 _ _ (ih (i + 1, out) ⟨hlt, by show out.length ≤ i + 1; omega, hs, fun x => (⟨.inl, fun h => h.elim id fun e => by rw [e]; exact hmem⟩ : x ∈ out ↔ x ∈ out ∨ x = p).trans (hm' x)⟩ (by show l.length - (i + 1) < l.length - i; omega)) rfl ⟨vI_succ (by omega), by rfl, by rfl, trivial⟩ (by repeat' first | exact trivial | refine ⟨rfl, ?_⟩) (by rfl)
      ·have he : (bif decide ((n : Int) > 0) then decide (g = p) else false) = false := he
       rw [hd] at he
       have hgp : g ≠ p := by simpa using he
       have hA := hBg.2.1 hcp hgp
       repeat' (first | refine VJ.seq ?_ | refine VJ.skip ?_ | refine VJ.block ?_ | refine VJ.region_k fun K hK => ?_ | (refine VR.done (hK _ ?_); clear hK K) | (first | refine VR.move rfl rfl ?_ | refine VR.assign rfl rfl ?_ | (show onLd; refine VR.load tok rfl rfl rfl (by first | rfl | exact (ldp_el (by assumption)).trans (by rfl)) ?_) | (show onIx; refine VR.indexAddr tok rfl rfl rfl rfl rfl rfl rfl (elA_lst (by assumption)) ?_) | refine VR.int rfl rfl rfl rfl ?_ | refine VR.len tok rfl rfl rfl rfl rfl ?_ | (refine VR.buildLst ([p].map ptV) tok (by rfl) (by rfl) (by rfl) (by rfl) (by rfl) (by rfl) (by rfl) (by rfl) (by rfl) (by rfl) (by rfl) ?_) | (refine VR.append tok (by rfl) (by rfl) (by rfl) (by rfl) (by rfl) (by rfl) (by rfl) (by rfl) (by rfl) (by rfl) (onePt [p]) (by simp; omega) (by simp [maxLen]; omega) ?_)))
       have hlk : wr (((out.map ptV ++ [ptV p]).length : Int) - 1) = (out.length : Int) := by
        have : (out.map ptV ++ [ptV p]).length = out.length + 1 := by simp
        rw [this, wr_in (by omega) (by omega)]; omega
       have hend : hole out out.length p = out ++ [p] := hole_end out p
       refine VJ.to 1 [(6, vI ((out.length : Nat) : Int)), (5, vI ((n : Nat) : Int)), (4, vI i), (3, .a (.own (.l 0))), (0, vL 2 (l.map ptV))] [(0, .row 25 2 ((hole out out.length p).map ptV))] ?_ rfl ⟨by show some (vI (wr (((out.map ptV ++ [ptV p]).length : Int) - 1))) = _; rw [hlk], by rfl, by rfl, by rfl, by rfl, trivial⟩ ⟨by rw [hend, List.map_append]; rfl, trivial⟩ (by rfl)
       refine VJ.rec (fun a : Nat × Pt => ⟨1, [(6, vI a.1), (5, vI ((n : Nat) : Int)), (4, vI i), (3, .a (.own (.l 0))), (0, vL 2 (l.map ptV))], [(0, .row 25 2 ((hole out a.1 a.2).map ptV))], G⟩) (fun a => a.1) (fun a => n ≤ a.1 ∧ a.1 ≤ out.length) (out.length, p) ⟨by omega, Nat.le_refl _⟩ ?_
       rintro ⟨k, y⟩ ⟨hk1, hk2⟩ ih3
       dsimp only at hk1 hk2 ih3 ⊢
       have hol := hole_len out k y hk2
       repeat' (first | refine VJ.seq ?_ | refine VJ.region_k fun K hK => ?_ | (refine VR.done (hK _ ?_); clear hK K) | (first | refine VR.move rfl rfl ?_ | refine VR.int rfl rfl rfl rfl ?_))
       refine VJ.cond rfl (fun hk => ?_) (fun hk => ?_)
       ·have hkn : n < k := by
         have : ((n : Nat) : Int) < (k : Int) := by simpa using hk
         omega
        obtain ⟨k, rfl⟩ : ∃ k', k = k' + 1 := ⟨k - 1, by omega⟩
        have hge := hole_get out k y (by omega)
        have hga := hole_at out (k + 1) y hk2
        have hst := hole_set out (k + 1) y out[k] hk2
        rw [hole_move out k (by omega)] at hst
        have hix : wr (((k + 1 : Nat) : Int) - 1) = (k : Int) := by rw [wr_in (by omega) (by omega)]; omega
        have ih4 := ih3 (k, out[k]) ⟨by show n ≤ k; omega, by show k ≤ out.length; omega⟩ (by show k < k + 1; omega)
        dsimp only at ih4
        generalize out[k] = z at hge hst ih4
        repeat' (first | refine VJ.seq ?_ | refine VJ.skip ?_ | refine VJ.block ?_ | refine VJ.inBlock ?_ | refine VJ.region_k fun K hK => ?_ | (refine VR.done (hK _ ?_); clear hK K) | (first | refine VR.move rfl rfl ?_ | refine VR.assign rfl rfl ?_ | refine VR.int rfl rfl rfl rfl ?_ | (refine VR.indexAddr (j := k) tok rfl rfl rfl rfl rfl rfl hix (elA_own (by rfl) hge) ?_) | (refine VR.indexAddr (j := k + 1) tok rfl rfl rfl rfl rfl rfl rfl (elA_own (by rfl) hga) ?_) | (refine VR.load tok rfl rfl rfl ((ldp_oel (by rfl) hge).trans (by rfl)) ?_) | (refine VR.storeO tok (by rfl) (by rfl) (by rfl) (by rfl) (by rfl) (by rfl) (onePv z) (by rw [List.length_map, hol]; omega) ?_)))
        exact VJ.to 1 _ _ ih4 rfl ⟨by show some (vI (wr (((k + 1 : Nat) : Int) - 1))) = _; rw [hix], by rfl, by rfl, by rfl, by rfl, trivial⟩ ⟨by rw [← hst]; rfl, trivial⟩ (by rfl)
       have hkn : n = k := by
        have : ¬ ((n : Nat) : Int) < (k : Int) := by simpa using hk
        omega
       subst hkn
       have hga := hole_at out n y hk2
       have hst := hole_set out n y p hk2
       have ih4 := ih (i + 1, hole out n p) ⟨hlt, by show (hole out n p).length ≤ i + 1; rw [hole_len out n p hk2]; omega, str_ins hs hA hB, fun x => (mem_ins x).trans (hm' x)⟩ (by show l.length - (i + 1) < l.length - i; omega)
       dsimp only at ih4
       repeat' (first | refine VJ.inBlock ?_ | refine VJ.exit rfl ?_ | refine VJ.region_k fun K hK => ?_ | (refine VR.done (hK _ ?_); clear hK K) | (first | refine VR.move rfl rfl ?_ | refine VR.assign rfl rfl ?_ | (show onLd; refine VR.load tok rfl rfl rfl (by first | rfl | exact (ldp_el (by assumption)).trans (by rfl)) ?_) | (show onIx; refine VR.indexAddr tok rfl rfl rfl rfl rfl rfl rfl (elA_lst (by assumption)) ?_) | refine VR.int rfl rfl rfl rfl ?_ | (refine VR.indexAddr (j := n) tok rfl rfl rfl rfl rfl rfl rfl (elA_own (by rfl) hga) ?_) | (refine VR.storeO tok (by rfl) (by rfl) (by rfl) (by rfl) (by rfl) (by rfl) (onePv p) (by rw [List.length_map, hol]; omega) ?_)))
       exact VJ.to 1 _ _ ih4 rfl ⟨vI_succ (by omega), by rfl, by rfl, trivial⟩ ⟨by rw [← hst]; rfl, trivial⟩ (by rfl)
  ·have hn00 : n = 0 := by omega
   subst hn00
   have hA : ∀ a ∈ out.take 0, a.lt p = true := by simp
   repeat' (first | refine VJ.seq ?_ | (fail))
   apply VJ.draw3 [] [(0, 0), (1, 0), (2, 0), (3, 0), (4, 0), (5, 0), (6, 0), (7, 0), (8, 0), (9, 0), (10, 0), (11, 0), (12, 0), (13, 0), (14, 0)] [[(5, none)], [(15, some 0)], [(16, some 1)], [(3, none), (17, some 2)], [(5, none), (17, some 2)], [(19, some 4), (17, some 2)], [(18, some 3), (20, some 5), (17, some 2)], [(21, some 6), (17, some 2)], [(0, none), (17, some 2)], [(4, none), (17, some 2)], [(23, some 8), (24, some 9), (17, some 2)], [(25, some 10), (17, some 2)], [(22, some 7), (26, some 11), (17, some 2)], [(27, some 12), (17, some 2)], [(17, some 2), (28, some 13)]] [[(5, _)], [(15, _)], [(16, _)], [(3, _), (17, _)], [(5, _), (17, _)], [(19, _), (17, _)], [(18, _), (20, _), (17, _)], [(21, _), (17, _)], [(0, _), (17, _)], [(4, _), (17, _)], [(23, _), (24, _), (17, _)], [(25, _), (17, _)], [(22, _), (26, _), (17, _)], [(27, _), (17, _)], [(17, _), (28, _)]] [_, _, _, _, _, _, _, _, _, _, _, _, _, _, _] [⟨_, _, _⟩] (by kernel_rfl) ?hok rfl ?hh rfl rfl ?hj
   case hh =>
    refine ⟨?_, ?_, ?_, ?_, ?_, ?_, ?_, ?_, ?_, ?_, ?_, ?_, ?_, ?_, ?_, trivial⟩
    all_goals (intro rest K1 hK1; (repeat (first | exact VR.done hK1 | (first | refine VR.move rfl rfl ?_ | refine VR.int rfl rfl rfl rfl ?_ | refine VR.pick rfl rfl rfl ?_ | refine VR.g_no rfl rfl rfl (by first | rfl | assumption) ?_))); try (first | exact VR.done hK1 | (refine VR.done ?_; dsimp only [S.set]; exact hK1)))
   case hok => kernel_rfl
   case hj =>
    dsimp only [tla]
    repeat' (first | refine VJ.seq ?_ | refine VJ.exit rfl ?_ | refine VJ.cond_f rfl ?_ | (fail))
    apply VJ.draw3 [] [(0, 0), (1, 0), (2, 0), (3, 0), (4, 0), (5, 0), (6, 0), (7, 0), (8, 0), (9, 0), (10, 0), (11, 0), (12, 0), (13, 0)] [[(5, none)], [(32, some 0)], [(33, some 1)], [(3, none), (34, some 2)], [(5, none), (34, some 2)], [(36, some 4), (34, some 2)], [(35, some 3), (37, some 5), (34, some 2)], [(38, some 6), (34, some 2)], [(0, none), (34, some 2)], [(4, none), (34, some 2)], [(40, some 8), (41, some 9), (34, some 2)], [(42, some 10), (34, some 2)], [(39, some 7), (43, some 11), (34, some 2)], [(34, some 2), (44, some 12)]] [[(5, _)], [(32, _)], [(33, _)], [(3, _), (34, _)], [(5, _), (34, _)], [(36, _), (34, _)], [(35, _), (37, _), (34, _)], [(38, _), (34, _)], [(0, _), (34, _)], [(4, _), (34, _)], [(40, _), (41, _), (34, _)], [(42, _), (34, _)], [(39, _), (43, _), (34, _)], [(34, _), (44, _)]] [_, _, _, _, _, _, _, _, _, _, _, _, _, _] [⟨_, _, _⟩] (by kernel_rfl) ?hok rfl ?hh rfl rfl ?hj
    case hh =>
     refine ⟨?_, ?_, ?_, ?_, ?_, ?_, ?_, ?_, ?_, ?_, ?_, ?_, ?_, ?_, trivial⟩
     all_goals (intro rest K1 hK1; (repeat (first | exact VR.done hK1 | (first | refine VR.move rfl rfl ?_ | refine VR.int rfl rfl rfl rfl ?_ | refine VR.pick rfl rfl rfl ?_ | refine VR.g_no rfl rfl rfl (by first | rfl | assumption) ?_))); try (first | exact VR.done hK1 | (refine VR.done ?_; dsimp only [S.set]; exact hK1)))
    case hok => kernel_rfl
    case hj =>
     dsimp only [tla]
     repeat' (first | refine VJ.seq ?_ | refine VJ.skip ?_ | refine VJ.block ?_ | refine VJ.cond_f rfl ?_ | refine VJ.region_k fun K hK => ?_ | (refine VR.done (hK _ ?_); clear hK K) | (first | refine VR.move rfl rfl ?_ | refine VR.assign rfl rfl ?_ | (show onLd; refine VR.load tok rfl rfl rfl (by first | rfl | exact (ldp_el (by assumption)).trans (by rfl)) ?_) | (show onIx; refine VR.indexAddr tok rfl rfl rfl rfl rfl rfl rfl (elA_lst (by assumption)) ?_) | refine VR.int rfl rfl rfl rfl ?_ | refine VR.len tok rfl rfl rfl rfl rfl ?_ | (refine VR.buildLst ([p].map ptV) tok (by rfl) (by rfl) (by rfl) (by rfl) (by rfl) (by rfl) (by rfl) (by rfl) (by rfl) (by rfl) (by rfl) ?_) | (refine VR.append tok (by rfl) (by rfl) (by rfl) (by rfl) (by rfl) (by rfl) (by rfl) (by rfl) (by rfl) (by rfl) (onePt [p]) (by simp; omega) (by simp [maxLen]; omega) ?_)))
     have hlk : wr (((out.map ptV ++ [ptV p]).length : Int) - 1) = (out.length : Int) := by
      have : (out.map ptV ++ [ptV p]).length = out.length + 1 := by simp
      rw [this, wr_in (by omega) (by omega)]; omega
     have hend : hole out out.length p = out ++ [p] := hole_end out p
     refine VJ.to 1 [(6, vI ((out.length : Nat) : Int)), (5, vI ((0 : Nat) : Int)), (4, vI i), (3, .a (.own (.l 0))), (0, vL 2 (l.map ptV))] [(0, .row 25 2 ((hole out out.length p).map ptV))] ?_ rfl ⟨by show some (vI (wr (((out.map ptV ++ [ptV p]).length : Int) - 1))) = _; rw [hlk], by rfl, by rfl, by rfl, by rfl, trivial⟩ ⟨by rw [hend, List.map_append]; rfl, trivial⟩ (by rfl)
     refine VJ.rec (fun a : Nat × Pt => ⟨1, [(6, vI a.1), (5, vI ((0 : Nat) : Int)), (4, vI i), (3, .a (.own (.l 0))), (0, vL 2 (l.map ptV))], [(0, .row 25 2 ((hole out a.1 a.2).map ptV))], G⟩) (fun a => a.1) (fun a => 0 ≤ a.1 ∧ a.1 ≤ out.length) (out.length, p) ⟨by omega, Nat.le_refl _⟩ ?_
     rintro ⟨k, y⟩ ⟨hk1, hk2⟩ ih3
     dsimp only at hk1 hk2 ih3 ⊢
     have hol := hole_len out k y hk2
     repeat' (first | refine VJ.seq ?_ | refine VJ.region_k fun K hK => ?_ | (refine VR.done (hK _ ?_); clear hK K) | (first | refine VR.move rfl rfl ?_ | refine VR.int rfl rfl rfl rfl ?_))
     refine VJ.cond rfl (fun hk => ?_) (fun hk => ?_)
     ·have hkn : 0 < k := by
       have : ((0 : Nat) : Int) < (k : Int) := by simpa using hk
       omega
      obtain ⟨k, rfl⟩ : ∃ k', k = k' + 1 := ⟨k - 1, by omega⟩
      have hge := hole_get out k y (by omega)
      have hga := hole_at out (k + 1) y hk2
      have hst := hole_set out (k + 1) y out[k] hk2
      rw [hole_move out k (by omega)] at hst
      have hix : wr (((k + 1 : Nat) : Int) - 1) = (k : Int) := by rw [wr_in (by omega) (by omega)]; omega
      have ih4 := ih3 (k, out[k]) ⟨by show 0 ≤ k; omega, by show k ≤ out.length; omega⟩ (by show k < k + 1; omega)
      dsimp only at ih4
      generalize out[k] = z at hge hst ih4
      repeat' (first | refine VJ.seq ?_ | refine VJ.skip ?_ | refine VJ.block ?_ | refine VJ.inBlock ?_ | refine VJ.region_k fun K hK => ?_ | (refine VR.done (hK _ ?_); clear hK K) | (first | refine VR.move rfl rfl ?_ | refine VR.assign rfl rfl ?_ | refine VR.int rfl rfl rfl rfl ?_ | (refine VR.indexAddr (j := k) tok rfl rfl rfl rfl rfl rfl hix (elA_own (by rfl) hge) ?_) | (refine VR.indexAddr (j := k + 1) tok rfl rfl rfl rfl rfl rfl rfl (elA_own (by rfl) hga) ?_) | (refine VR.load tok rfl rfl rfl ((ldp_oel (by rfl) hge).trans (by rfl)) ?_) | (refine VR.storeO tok (by rfl) (by rfl) (by rfl) (by rfl) (by rfl) (by rfl) (onePv z) (by rw [List.length_map, hol]; omega) ?_)))
      exact VJ.to 1 _ _ ih4 rfl ⟨by show some (vI (wr (((k + 1 : Nat) : Int) - 1))) = _; rw [hix], by rfl, by rfl, by rfl, by rfl, trivial⟩ ⟨by rw [← hst]; rfl, trivial⟩ (by rfl)
     have hkn : 0 = k := by
      have : ¬ ((0 : Nat) : Int) < (k : Int) := by simpa using hk
      omega
     subst hkn
     have hga := hole_at out 0 y hk2
     have hst := hole_set out 0 y p hk2
     have ih4 := ih (i + 1, hole out 0 p) ⟨hlt, by show (hole out 0 p).length ≤ i + 1; rw [hole_len out 0 p hk2]; omega, str_ins hs hA hB, fun x => (mem_ins x).trans (hm' x)⟩ (by show l.length - (i + 1) < l.length - i; omega)
     dsimp only at ih4
     repeat' (first | refine VJ.inBlock ?_ | refine VJ.exit rfl ?_ | refine VJ.region_k fun K hK => ?_ | (refine VR.done (hK _ ?_); clear hK K) | (first | refine VR.move rfl rfl ?_ | refine VR.assign rfl rfl ?_ | (show onLd; refine VR.load tok rfl rfl rfl (by first | rfl | exact (ldp_el (by assumption)).trans (by rfl)) ?_) | (show onIx; refine VR.indexAddr tok rfl rfl rfl rfl rfl rfl rfl (elA_lst (by assumption)) ?_) | refine VR.int rfl rfl rfl rfl ?_ | (refine VR.indexAddr (j := 0) tok rfl rfl rfl rfl rfl rfl rfl (elA_own (by rfl) hga) ?_) | (refine VR.storeO tok (by rfl) (by rfl) (by rfl) (by rfl) (by rfl) (by rfl) (onePv p) (by rw [List.length_map, hol]; omega) ?_)))
     exact VJ.to 1 _ _ ih4 rfl ⟨vI_succ (by omega), by rfl, by rfl, trivial⟩ ⟨by rw [← hst]; rfl, trivial⟩ (by rfl)
 have hge : l.length ≤ i := by simpa using hb
 have hq := hQ out hs (fun x => by rw [hm, List.take_of_length_le hge])
 repeat' (first | refine VJ.seq ?_ | refine VJ.exit rfl ?_ | refine VJ.region_k fun K hK => ?_ | (refine VR.done (hK _ ?_); clear hK K) | (first | refine VR.move rfl rfl ?_ | refine VR.assign rfl rfl ?_))
 refine VJ.ret tok (by rfl) (by rfl) ?_
 exact hq
end Go.Proofs.YtnpnjhopgedhkaaGreat
namespace Go.Proofs.YtnpnjhopgedhkaaGreat
open Go.RowKit V Geo
def firstE (p : En × Tr) : Bool := decide (p.1.a = p.2.a)
def trsOf (E : LS) : List Tr := (E.filter firstE).map (·.2)
def trisR (E : LS) : List Tr := sortT (trsOf E)
def cornersOf (l : List Tr) : List Pt := l.flatMap fun t => [t.a, t.b, t.c]
theorem trsOf_snoc (dn : LS) (p : En × Tr) : trsOf (dn ++ [p]) = if p.1.a = p.2.a then trsOf dn ++ [p.2] else trsOf dn := by
 unfold trsOf firstE
 rw [List.filter_append, List.map_append]
 by_cases h : p.1.a = p.2.a <;> simp [h]
theorem trsOf_len (E : LS) : (trsOf E).length ≤ E.length := by
 unfold trsOf; rw [List.length_map]; exact List.length_filter_le _ _
theorem trsOf_perm {E E' : LS} (h : E.Perm E') : (trsOf E).Perm (trsOf E') := (h.filter _).map _
structure RefP (G : Gl) (E : LS) : Prop where
 g3 : G 3 = some bxN
 g4 : ∃ z, G 4 = some (.map En.v Tr.v E (some z))
theorem RefP.ok {G : Gl} {E : LS} (h : RefP G E) : ∃ z, govOk G [(3, bxN), (4, .map En.v Tr.v E (some z))] := by
 obtain ⟨g3, z, g4⟩ := h
 exact ⟨z, g3, g4, trivial⟩
attribute [local irreducible] VR VJ VC decOk decBt
theorem v_alikeT (l l' : List Tr) (hl : l.length < 4611686018427387904) (hl' : l'.length < 4611686018427387904) (G : Gl) (Q : Po) (hQ : Q (vB (decide (l = l'))) G) : VC Tryz.prog 10 [vL 6 (l.map Tr.v), vL 6 (l'.map Tr.v)] G Q := by
 refine VC.of_body Tryz.func10 rfl rfl rfl fun W0 h0 x0 hG0 => ?_
 simp only [args0]
 repeat' (first | refine VJ.seq ?_ | refine VJ.region_k fun K hK => ?_ | (refine VR.done (hK _ ?_); clear hK K) | (first | refine VR.move rfl rfl ?_ | refine VR.assign rfl rfl ?_ | refine VR.int rfl rfl rfl rfl ?_ | refine VR.len tok rfl rfl rfl rfl rfl ?_))
 refine VJ.cond rfl (fun hb => ?_) (fun hb => ?_)
 ·repeat' (first | refine VJ.seq ?_ | refine VJ.region_k fun K hK => ?_ | (refine VR.done (hK _ ?_); clear hK K) | (first | refine VR.assign rfl rfl ?_))
  refine VJ.ret tok (by rfl) (by rfl) ?_
  have hne : ¬ l = l' := fun e => by subst e; simp at hb
  rw [decide_eq_false hne] at hQ
  exact hQ
 ·have hlen : l.length = l'.length := by simp at hb; omega
  repeat' (first | refine VJ.seq ?_ | refine VJ.skip ?_ | refine VJ.block ?_ | refine VJ.region_k fun K hK => ?_ | (refine VR.done (hK _ ?_); clear hK K) | (first | refine VR.assign rfl rfl ?_))
  refine VJ.to 0 [(5, vI ((0 : Nat) : Int)), (1, vL 6 (l'.map Tr.v)), (0, vL 6 (l.map Tr.v))] [] ?_ rfl ⟨by rfl, by rfl, by rfl, trivial⟩ trivial (by rfl)
  refine VJ.rec (fun j : Nat => ⟨0, [(5, vI j), (1, vL 6 (l'.map Tr.v)), (0, vL 6 (l.map Tr.v))], [], _⟩) (fun j => l.length - j) (fun j => j ≤ l.length ∧ ∀ i (h : i < j) (h2 : i < l.length), l[i] = l'[i]'(hlen ▸ h2)) 0 ⟨Nat.zero_le _, fun i h => absurd h (Nat.not_lt_zero _)⟩ ?_
  rintro j ⟨hj, hi⟩ ih
  repeat' (first | refine VJ.seq ?_ | refine VJ.region_k fun K hK => ?_ | (refine VR.done (hK _ ?_); clear hK K) | (first | refine VR.move rfl rfl ?_ | refine VR.int rfl rfl rfl rfl ?_ | refine VR.len tok rfl rfl rfl rfl rfl ?_))
  refine VJ.cond rfl (fun hb2 => ?_) (fun hb2 => ?_)
  ·have hlt : j < l.length := by simpa using hb2
   have hlt' : j < l'.length := by omega
   have hget := map_get_t hlt
   have hget' := map_get_t hlt'
   repeat' (first | refine VJ.seq ?_ | refine VJ.skip ?_ | refine VJ.block ?_ | (fail))
   apply VJ.draw3 [] [(0, 0), (1, 0), (2, 0), (3, 0), (4, 0), (5, 0), (6, 0), (7, 0), (8, 0)] [[(0, none)], [(5, none)], [(17, some 0), (18, some 1)], [(19, some 2)], [(1, none)], [(5, none)], [(21, some 4), (22, some 5)], [(23, some 6)], [(20, some 3), (24, some 7)]] [[(0, _)], [(5, _)], [(17, _), (18, _)], [(19, _)], [(1, _)], [(5, _)], [(21, _), (22, _)], [(23, _)], [(20, _), (24, _)]] [_, _, _, _, _, _, _, _, _] [⟨_, _, _⟩] (by kernel_rfl) ?hok rfl ?hh rfl rfl ?hj
   case hh =>
    refine ⟨?_, ?_, ?_, ?_, ?_, ?_, ?_, ?_, ?_, trivial⟩
    all_goals (intro rest K1 hK1; (repeat (first | exact VR.done hK1 | (first | refine VR.move rfl rfl ?_ | (show onLd; refine VR.load tok rfl rfl rfl (by first | rfl | exact (ldp_el (by assumption)).trans (by rfl)) ?_) | (show onIx; refine VR.indexAddr tok rfl rfl rfl rfl rfl rfl rfl (elA_lst (by assumption)) ?_) | (refine VR.bin rfl rfl rfl (neqT _ _ _ _) ?_)))); try (first | exact VR.done hK1 | (refine VR.done ?_; dsimp only [S.set]; exact hK1)))
   case hok => kernel_rfl
   case hj =>
    dsimp only [tla]
    repeat' (first | (fail))
    refine VJ.cond rfl (fun hc => ?_) (fun hc => ?_)
    ·repeat' (first | refine VJ.seq ?_ | refine VJ.region_k fun K hK => ?_ | (refine VR.done (hK _ ?_); clear hK K) | (first | refine VR.assign rfl rfl ?_))
     refine VJ.ret tok (by rfl) (by rfl) ?_
     have hne : ¬ l = l' := fun e => by subst e; simp at hc
     rw [decide_eq_false hne] at hQ
     exact hQ
    ·have heq : l[j] = l'[j] := by simpa using hc
     repeat' (first | refine VJ.skip ?_ | refine VJ.inBlock ?_ | refine VJ.region_k fun K hK => ?_ | (refine VR.done (hK _ ?_); clear hK K) | (first | refine VR.move rfl rfl ?_ | refine VR.assign rfl rfl ?_ | refine VR.int rfl rfl rfl rfl ?_))
     refine VJ.to 0 [(5, vI ((j + 1 : Nat) : Int)), (1, vL 6 (l'.map Tr.v)), (0, vL 6 (l.map Tr.v))] [] (ih (j + 1) ⟨hlt, fun i h h2 => ?_⟩ (by omega)) rfl ⟨vI_succ (by omega), by rfl, by rfl, trivial⟩ trivial (by rfl)
     rcases Nat.lt_succ_iff_lt_or_eq.1 h with h | h
     ·exact hi i h h2
     ·subst h; exact heq
  ·have hge : j = l.length := by simp at hb2; omega
   subst hge
   repeat' (first | refine VJ.seq ?_ | refine VJ.exit rfl ?_ | refine VJ.region_k fun K hK => ?_ | (refine VR.done (hK _ ?_); clear hK K) | (first | refine VR.assign rfl rfl ?_))
   refine VJ.ret tok (by rfl) (by rfl) ?_
   rw [decide_eq_true (List.ext_getElem hlen fun i h1 h2 => hi i h1 h1)] at hQ
   exact hQ
set_option maxRecDepth 20000 in
set_option maxHeartbeats 4000000 in
theorem v_trisR (E : LS) (few : E.length < 100000) (G : Gl) (hG : RefP G E) (Q : Po) (hQ : Q (vL 6 ((trisR E).map Tr.v)) G) : VC Tryz.prog 29 [vN] G Q := by
 obtain ⟨z, hg⟩ := hG.ok
 rw [gov_self hg] at hQ ⊢
 refine VC.of_body Tryz.func29 rfl rfl rfl fun W0 h0 x0 hG0 => ?_
 simp only [args0]
 repeat' (first | refine VJ.seq ?_ | refine VJ.block ?_ | refine VJ.region_k fun K hK => ?_ | (refine VR.done (hK _ ?_); clear hK K) | (first | refine VR.move rfl rfl ?_ | refine VR.assign rfl rfl ?_ | (show onLd; refine VR.load tok rfl rfl rfl rfl ?_) | (show onFa; refine VR.fieldAddr tok rfl rfl rfl rfl rfl rfl ?_) | refine VR.nilCheck rfl rfl rfl ?_ | refine VR.range rfl rfl rfl (mapOk (by rfl)) ?_))
 refine VJ.promote 3 49 6 (by decide) rfl ?_
 refine VJ.to 2 [(10, .a (.ptr (.l 0) 0)), (3, .a (.own (.l 1)))] [(0, .itr En.v Tr.v E E z none), (1, .row 49 6 ((trsOf []).map Tr.v))] ?_ rfl (by repeat' first | exact trivial | refine ⟨rfl, ?_⟩) (by repeat' first | exact trivial | refine ⟨rfl, ?_⟩) (by rfl)
 refine VJ.rec (fun a : LS × LS × Option Value => ⟨2, [(10, .a (.ptr (.l 0) 0)), (3, .a (.own (.l 1)))], [(0, .itr En.v Tr.v E a.2.1 z a.2.2), (1, .row 49 6 ((trsOf a.1).map Tr.v))], gov [(3, bxN), (4, .map En.v Tr.v E (some z))] G⟩) (fun a => a.2.1.length) (fun a => (a.1 ++ a.2.1).Perm E) ([], E, none) (by simp) ?_
 rintro ⟨dn, left, cur⟩ hpm ih
 dsimp only at hpm ih ⊢
 repeat' (first | refine VJ.seq ?_ | refine VJ.region_k fun K hK => ?_ | (fail))
 refine VR.next (i := .g 4) rfl rfl rfl rfl ?_ ?_
 ·intro hl
  subst hl
  have hpt : sortT (trsOf dn) = trisR E := sortT_eq (trsOf_perm (by simpa using hpm))
  have hfew : (trsOf dn).length < 1000000 := by
   have h1 := trsOf_len dn
   have h2 := hpm.length_eq
   simp at h2
   omega
  repeat' (first | fail)
  refine VR.extract rfl rfl rfl ?_
  refine VR.done (hK _ ?_); clear hK K
  repeat' (first | refine VJ.seq ?_ | refine VJ.skip ?_ | refine VJ.inBlock ?_ | refine VJ.exit rfl ?_ | refine VJ.cond_f rfl ?_)
  refine VJ.freeze 3 rfl rfl ?_
  repeat' (first | refine VJ.region_k fun K hK => ?_ | (refine VR.done (hK _ ?_); clear hK K) | (first | refine VR.move rfl rfl ?_ | refine VR.assign rfl rfl ?_ | (refine VR.call fok34 rfl rfl rfl rfl ?_; refine v_sortTR (trsOf dn) hfew _ _ ?_; rw [hpt])))
  refine VJ.ret tok (by rfl) (by rfl) ?_
  exact hQ
 ·intro x c y z' hl
  subst hl
  have hpm' : ((dn ++ [(x, c)]) ++ (y ++ z')).Perm E := by
   refine List.Perm.trans ?_ hpm
   rw [List.append_assoc]
   refine List.Perm.append_left dn ?_
   simpa using (List.perm_middle (a := (x, c)) (l₁ := y) (l₂ := z')).symm
  have hfew : (trsOf dn).length < 1000000 := by
   have h1 := trsOf_len dn
   have h2 := hpm.length_eq
   simp at h2
   omega
  have hsn := trsOf_snoc dn (x, c)
  have ih' := ih (dn ++ [(x, c)], y ++ z', some (.tuple #[x.v, c.v])) hpm' (by simp)
  dsimp only at ih' hsn
  rw [hsn] at ih'
  repeat' (first | refine VJ.seq ?_ | refine VJ.skip ?_ | refine VJ.block ?_ | refine VJ.cond_t rfl ?_ | refine VJ.region_k fun K hK => ?_ | (refine VR.done (hK _ ?_); clear hK K) | (first | (show onLd; refine VR.load tok rfl rfl rfl rfl ?_) | (show onFa; refine VR.fieldAddr tok rfl rfl rfl rfl rfl rfl ?_) | refine VR.alloc tok rfl rfl rfl ?_ | refine VR.store tok rfl rfl rfl rfl rfl rfl rfl (by first | (intro n e; cases e; done) | exact (fun _ _ q => all_glA (by rfl) q)) ?_ | refine VR.extract rfl rfl rfl ?_ | (refine VR.entry (i := .g 4) rfl rfl rfl rfl ?_) | (refine VR.bin rfl rfl rfl (eqP _ _ x.a c.a) ?_)))
  refine VJ.cond rfl (fun hc => ?_) (fun hc => ?_)
  ·have hc : x.a = c.a := by simpa using hc
   rw [if_pos hc] at ih'
   repeat' (first | refine VJ.inBlock ?_ | refine VJ.region_k fun K hK => ?_ | (refine VR.done (hK _ ?_); clear hK K) | (first | refine VR.move rfl rfl ?_ | refine VR.assign rfl rfl ?_ | (show onLd; refine VR.load tok rfl rfl rfl rfl ?_) | (refine VR.buildLst ([c].map Tr.v) tok (by rfl) (by rfl) (by rfl) (by rfl) (by rfl) (by rfl) (by rfl) (by rfl) (by rfl) (by rfl) (by rfl) ?_) | (refine VR.append tok (by rfl) (by rfl) (by rfl) (by rfl) (by rfl) (by rfl) (by rfl) (by rfl) (by rfl) (by rfl) (oneT [c]) (by simp; omega) (by simp [maxLen]; omega) ?_)))
   exact VJ.to 2 _ _ ih' rfl (by repeat' first | exact trivial | refine ⟨rfl, ?_⟩) ⟨by rfl, by rw [List.map_append]; rfl, trivial⟩ (by rfl)
  ·have hc : ¬ x.a = c.a := by simpa using hc
   rw [if_neg hc] at ih'
   repeat' (first | refine VJ.skip ?_ | refine VJ.inBlock ?_ | (fail))
   exact VJ.to 2 _ _ ih' rfl (by repeat' first | exact trivial | refine ⟨rfl, ?_⟩) (by repeat' first | exact trivial | refine ⟨rfl, ?_⟩) (by rfl)
end Go.Proofs.YtnpnjhopgedhkaaGreat
namespace Go.Proofs.YtnpnjhopgedhkaaGreat.V
open Go.RowKit
universe u
section
variable {P : Program} {E : Env} {ops : Array Oper} {rest : List Oper} {s : S} {K : S → Prop}
variable {c : Nat} {t : List (Nat × AV)} {L : List (Nat × VO)} {G : Nat → Option VO} {d ty : Nat} {pos : String} {af : Array Edge} {tab : Tab}
def xor1 (kd : IntKind) (p : Int) : Int := kd.wrap (BitVec.ofInt kd.bits (if kd.signed then -1 else kd.max) ^^^ BitVec.ofInt kd.bits p).toNat
theorem VR.xorU {T : TypeId} {x : Operand} {kd : IntKind} {p : Int} (hn : Nat.ble (d + 1) E.nt = true) (hx : fl ⟨c, t, L, G⟩ x = some (.int kd p))
 (k : VR P E ops rest ⟨c, (d, .a (.d (.v (.int kd (xor1 kd p))))) :: t, L, G⟩ K) : VR P E ops (⟨some d, .unOp .xor T x, ty, pos, af, none⟩ :: rest) ⟨c, t, L, G⟩ K :=
 VR.val rfl rfl (Nat.le_of_ble_eq_true hn) (.a (.d (.v (.int kd (xor1 kd p))))) (fun h w a H => ⟨.int kd (xor1 kd p), by simp [execOp, H.fl hx, Op.unary, Op.intBits, xor1], rfl⟩) k
theorem conv_run {S D : TypeId} {us : TypeDesc} {kd ks : IntKind} {p : Int} (h1 : P.underlying S = some us) (h2 : P.underlying D = some (.int kd)) (w : World) : (convert S D (.int ks p)).run P w = .ok (.int kd (kd.wrap p)) w := by
 simp [convert, go_sem, run_underlying h1, run_underlying h2, Conv.intToInt]
theorem VR.conv {S D : TypeId} {x : Operand} {us : TypeDesc} {kd ks : IntKind} {p : Int} (h1 : P.underlying S = some us) (h2 : P.underlying D = some (.int kd)) (hn : Nat.ble (d + 1) E.nt = true) (hx : fl ⟨c, t, L, G⟩ x = some (.int ks p))
 (k : VR P E ops rest ⟨c, (d, .a (.d (.v (.int kd (kd.wrap p))))) :: t, L, G⟩ K) : VR P E ops (⟨some d, .convert S D x, ty, pos, af, none⟩ :: rest) ⟨c, t, L, G⟩ K :=
 VR.val rfl rfl (Nat.le_of_ble_eq_true hn) (.a (.d (.v (.int kd (kd.wrap p))))) (fun h w a H => ⟨.int kd (kd.wrap p), by simp [execOp, H.fl hx, conv_run h1 h2], rfl⟩) k
theorem shr_run {T : TypeId} {x y : Operand} {kd ks : IntKind} {a : Int} (n : Nat) (hn : n ≤ kd.bits) (w : World) : (do eqGuard .shr T x y (.int kd a) (.int ks n); binOp .shr T (.int kd a) (.int ks n) : Sem Value).run P w = .ok (.int kd (a.fdiv (2 ^ n))) w := by
 simp [eqGuard, binOp, Op.shift, Nat.min_eq_left hn]
 intro h
 omega
theorem shl_run {T : TypeId} {x y : Operand} {kd ks : IntKind} {a : Int} (n : Nat) (hn : n ≤ kd.bits) (w : World) : (do eqGuard .shl T x y (.int kd a) (.int ks n); binOp .shl T (.int kd a) (.int ks n) : Sem Value).run P w = .ok (.int kd (kd.wrap (a * 2 ^ n))) w := by
 simp [eqGuard, binOp, Op.shift, Nat.min_eq_left hn]
 intro h
 omega
theorem VR.shr {T Ty : TypeId} {x y : Operand} {kd ks : IntKind} {p q : Int} (n : Nat) (hn : Nat.ble (d + 1) E.nt = true) (hx : fl ⟨c, t, L, G⟩ x = some (.int kd p)) (hy : fl ⟨c, t, L, G⟩ y = some (.int ks q)) (hq : q = (n : Int)) (hb : Nat.ble n kd.bits = true)
 (k : VR P E ops rest ⟨c, (d, .a (.d (.v (.int kd (p.fdiv (2 ^ n)))))) :: t, L, G⟩ K) : VR P E ops (⟨some d, .binOp .shr T x y Ty, ty, pos, af, none⟩ :: rest) ⟨c, t, L, G⟩ K := by
 subst hq
 exact VR.bin hn hx hy (shr_run n (Nat.le_of_ble_eq_true hb)) k
theorem VR.shl {T Ty : TypeId} {x y : Operand} {kd ks : IntKind} {p q : Int} (n : Nat) (hn : Nat.ble (d + 1) E.nt = true) (hx : fl ⟨c, t, L, G⟩ x = some (.int kd p)) (hy : fl ⟨c, t, L, G⟩ y = some (.int ks q)) (hq : q = (n : Int)) (hb : Nat.ble n kd.bits = true)
 (k : VR P E ops rest ⟨c, (d, .a (.d (.v (.int kd (kd.wrap (p * 2 ^ n)))))) :: t, L, G⟩ K) : VR P E ops (⟨some d, .binOp .shl T x y Ty, ty, pos, af, none⟩ :: rest) ⟨c, t, L, G⟩ K := by
 subst hq
 exact VR.bin hn hx hy (shl_run n (Nat.le_of_ble_eq_true hb)) k
theorem via1 {P : Program} {E : Env} {fn : Func} {R : Ending → World → Prop} {k : List Item} {i : Item} {s : S} (s' : S) (h1 : ∀ kk, VJ P E fn R kk s' → VJ P E fn R (i :: kk) s) (h2 : VJ P E fn R k s') : VJ P E fn R (i :: k) s := h1 k h2
end
end Go.Proofs.YtnpnjhopgedhkaaGreat.V
