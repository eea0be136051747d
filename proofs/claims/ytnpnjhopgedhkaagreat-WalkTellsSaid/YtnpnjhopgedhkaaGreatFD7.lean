/- Texts of the proof, one behind the other: X4, V31, W26, X5, C3, X6, X7, X8, X9, V32, X10. Conditions: each lemma's own. -/
import Derived.Test.YtnpnjhopgedhkaaGreatFD6
import Derived.Orders
set_option linter.unusedVariables false
namespace Go.Proofs.YtnpnjhopgedhkaaGreat
open Go.RowKit V Geo
def farRN (t : Tr) (a b : Pt) : Nat → Pt
 | 0 => t.c
 | n + 1 => if (bif !decide (t.cor (1 - n) = a) then !decide (t.cor (1 - n) = b) else false) = true then t.cor (1 - n) else farRN t a b n
def farR (t : Tr) (a b : Pt) : Pt := farRN t a b 2
def putS (E : LS) (t : Tr) : LS := if fitsR E t = true then addEs E t (around t) else E
def blkR (E : LS) (a b : Pt) (s t : Tr) (c d : Pt) : Bool := ((leftOf E d c).2 && !decide ((leftOf E d c).1 = s) && !decide ((leftOf E d c).1 = t)) || ((leftOf E c d).2 && !decide ((leftOf E c d).1 = s) && !decide ((leftOf E c d).1 = t))
def flipC (E : LS) (a b : Pt) : Int :=
 if (bif !(leftOf E a b).2 then true else !(leftOf E b a).2) = true then 16
 else if (bif decide (oriG a (farR (leftOf E b a).1 a b) (farR (leftOf E a b).1 a b) ≤ 0) then true else decide (oriG (farR (leftOf E b a).1 a b) b (farR (leftOf E a b).1 a b) ≤ 0)) = true then 2
 else if blkR E a b (leftOf E a b).1 (leftOf E b a).1 (farR (leftOf E a b).1 a b) (farR (leftOf E b a).1 a b) = true then 2 else 0
def flipS (E : LS) (a b : Pt) : LS :=
 putS (putS (delE (delE E (around (leftOf E a b).1)) (around (leftOf E b a).1)) (makeT a (farR (leftOf E b a).1 a b) (farR (leftOf E a b).1 a b)).1) (makeT (farR (leftOf E b a).1 a b) b (farR (leftOf E a b).1 a b)).1
theorem delE3 (E : LS) (t : Tr) : delE E (around t) = Mp.del (Mp.del (Mp.del E ⟨t.a, t.b⟩) ⟨t.b, t.c⟩) ⟨t.c, t.a⟩ := rfl
attribute [local irreducible] VR VJ VC decOk decBt
set_option maxRecDepth 20000 in
set_option maxHeartbeats 2000000 in
theorem v_farR (t : Tr) (a b : Pt) (G : Gl) (Q : Po) (hQ : Q (vV (ptV (farR t a b))) G) : VC Tryz.prog 98 [vV t.v, vV (ptV a), vV (ptV b)] G Q := by
 refine VC.of_body Tryz.func98 rfl rfl rfl fun W0 h0 x0 hG0 => ?_
 simp only [args0]
 repeat' (first | refine VJ.seq ?_ | refine VJ.block ?_ | refine VJ.region_k fun K hK => ?_ | (refine VR.done (hK _ ?_); clear hK K) | (first | refine VR.assign rfl rfl ?_ | refine VR.box rfl rfl rfl ?_ | refine VR.alloc tok rfl rfl rfl ?_))
 refine VJ.to 4 [(7, vI ((0 : Nat) : Int)), (6, .a (.ptr (.l 3) 0)), (5, .a (.ptr (.l 2) 0)), (4, .a (.ptr (.l 1) 0)), (3, .a (.ptr (.l 0) 0))] [(0, bxT t), (1, bxP a), (2, bxP b), (3, bxP ⟨0, 0⟩)] ?_ rfl (by repeat' first | exact trivial | refine ⟨rfl, ?_⟩) (by repeat' first | exact trivial | refine ⟨rfl, ?_⟩) (by rfl)
 refine VJ.rec (fun i : Nat => ⟨4, [(7, vI i), (6, .a (.ptr (.l 3) 0)), (5, .a (.ptr (.l 2) 0)), (4, .a (.ptr (.l 1) 0)), (3, .a (.ptr (.l 0) 0))], [(0, bxT t), (1, bxP a), (2, bxP b), (3, bxP ⟨0, 0⟩)], G⟩) (fun i => 2 - i) (fun i => i ≤ 2 ∧ farRN t a b (2 - i) = farR t a b) 0 ⟨by decide, rfl⟩ ?_
 rintro i ⟨hi, hf⟩ ih
 repeat' (first | refine VJ.seq ?_ | refine VJ.region_k fun K hK => ?_ | (refine VR.done (hK _ ?_); clear hK K) | (first | refine VR.move rfl rfl ?_ | refine VR.int rfl rfl rfl rfl ?_))
 refine VJ.cond rfl (fun hb => ?_) (fun hb => ?_)
 ·have hlt : i < 2 := by
   have : (i : Int) < 2 := by simpa using hb
   omega
  have e1 : 2 - i = (2 - (i + 1)) + 1 := by omega
  have e2 : 1 - (2 - (i + 1)) = i := by omega
  rw [e1, farRN, e2] at hf
  by_cases h1 : t.cor i = a
  ·have k1 : (!decide (t.cor i = a)) = false := by rw [decide_eq_true h1]; rfl
   have hc : (bif !decide (t.cor i = a) then !decide (t.cor i = b) else false) = false := by rw [k1]; rfl
   rw [if_neg (by rw [hc]; simp)] at hf
   repeat' (first | refine VJ.seq ?_ | refine VJ.skip ?_ | refine VJ.block ?_ | (fail))
   apply VJ.draw3 [] [(0, 0), (1, 0), (2, 0), (3, 0), (4, 0), (5, 0), (6, 0), (7, 0), (8, 0), (9, 0), (10, 0), (11, 0)] [[(3, none)], [(7, none)], [(12, some 0), (13, some 1)], [(4, none)], [(14, some 2), (15, some 3)], [(16, some 4)], [(3, none), (17, some 5)], [(7, none), (17, some 5)], [(18, some 6), (19, some 7), (17, some 5)], [(5, none), (17, some 5)], [(20, some 8), (21, some 9), (17, some 5)], [(17, some 5), (22, some 10)]] [[(3, _)], [(7, _)], [(12, _), (13, _)], [(4, _)], [(14, _), (15, _)], [(16, _)], [(3, _), (17, _)], [(7, _), (17, _)], [(18, _), (19, _), (17, _)], [(5, _), (17, _)], [(20, _), (21, _), (17, _)], [(17, _), (22, _)]] [_, _, _, _, _, _, _, _, _, _, _, _] [⟨_, _, _⟩] (by kernel_rfl) ?hok rfl ?hh rfl rfl ?hj
   case hh =>
    refine ⟨?_, ?_, ?_, ?_, ?_, ?_, ?_, ?_, ?_, ?_, ?_, ?_, trivial⟩
    all_goals (intro rest K1 hK1; (repeat (first | exact VR.done hK1 | (first | (refine VR.pick_no rfl rfl (by assumption) rfl ?_) | refine VR.move rfl rfl ?_ | (show onLd; refine VR.load tok rfl rfl rfl rfl ?_) | refine VR.g_no rfl rfl rfl (by first | rfl | assumption) ?_ | (refine VR.bin rfl rfl rfl (neqP _ _ (t.cor i) a) ?_)) | (refine VR.call fok21 rfl rfl rfl rfl ?_; refine (v_cornerR t i (by omega) _ _ ?_)))); try (first | exact VR.done hK1 | (refine VR.done ?_; dsimp only [S.set]; exact hK1)))
   case hok => kernel_rfl
   case hj =>
    dsimp only [List.append, tla]
    refine VJ.cond rfl (fun hc => absurd hc (by simp [h1])) (fun hc => ?_)
    repeat' (first | refine VJ.skip ?_ | refine VJ.inBlock ?_ | refine VJ.region_k fun K hK => ?_ | (refine VR.done (hK _ ?_); clear hK K) | (first | refine VR.move rfl rfl ?_ | refine VR.assign rfl rfl ?_ | refine VR.int rfl rfl rfl rfl ?_))
    refine VJ.to 4 [(7, vI ((i + 1 : Nat) : Int)), (6, .a (.ptr (.l 3) 0)), (5, .a (.ptr (.l 2) 0)), (4, .a (.ptr (.l 1) 0)), (3, .a (.ptr (.l 0) 0))] [(0, bxT t), (1, bxP a), (2, bxP b), (3, bxP ⟨0, 0⟩)] (ih (i + 1) ⟨hlt, hf⟩ (by omega)) rfl ⟨vI_succ (by omega), by rfl, by rfl, by rfl, by rfl, trivial⟩ (by repeat' first | exact trivial | refine ⟨rfl, ?_⟩) (by rfl)
  ·have k1 : (!decide (t.cor i = a)) = true := by rw [decide_eq_false h1]; rfl
   have hcE : (bif !decide (t.cor i = a) then !decide (t.cor i = b) else false) = !decide (t.cor i = b) := by rw [k1]; rfl
   rw [hcE] at hf
   repeat' (first | refine VJ.seq ?_ | refine VJ.skip ?_ | refine VJ.block ?_ | (fail))
   apply VJ.draw3 [] [(0, 0), (1, 0), (2, 0), (3, 0), (4, 0), (5, 0), (6, 0), (7, 0), (8, 0), (9, 0), (10, 0), (11, 0)] [[(3, none)], [(7, none)], [(12, some 0), (13, some 1)], [(4, none)], [(14, some 2), (15, some 3)], [(16, some 4)], [(3, none), (17, some 5)], [(7, none), (17, some 5)], [(18, some 6), (19, some 7), (17, some 5)], [(5, none), (17, some 5)], [(20, some 8), (21, some 9), (17, some 5)], [(17, some 5), (22, some 10)]] [[(3, _)], [(7, _)], [(12, _), (13, _)], [(4, _)], [(14, _), (15, _)], [(16, _)], [(3, _), (17, _)], [(7, _), (17, _)], [(18, _), (19, _), (17, _)], [(5, _), (17, _)], [(20, _), (21, _), (17, _)], [(17, _), (22, _)]] [_, _, _, _, _, _, _, _, _, _, _, _] [⟨_, _, _⟩] (by kernel_rfl) ?hok rfl ?hh rfl rfl ?hj
   case hh =>
    refine ⟨?_, ?_, ?_, ?_, ?_, ?_, ?_, ?_, ?_, ?_, ?_, ?_, trivial⟩
    all_goals (intro rest K1 hK1; (repeat (first | exact VR.done hK1 | (first | (refine VR.pick_yes rfl rfl (by assumption) rfl ?_) | refine VR.move rfl rfl ?_ | (show onLd; refine VR.load tok rfl rfl rfl rfl ?_) | refine VR.g_yes rfl rfl (by first | rfl | assumption) ?_ | (refine VR.bin rfl rfl rfl (neqP _ _ (t.cor i) a) ?_) | (refine VR.bin rfl rfl rfl (neqP _ _ (t.cor i) b) ?_)) | (refine VR.call fok21 rfl rfl rfl rfl ?_; refine (v_cornerR t i (by omega) _ _ ?_)))); try (first | exact VR.done hK1 | (refine VR.done ?_; dsimp only [S.set]; exact hK1)))
   case hok => kernel_rfl
   case hj =>
    dsimp only [List.append, tla]
    refine VJ.cond rfl (fun hc => ?_) (fun hc => ?_)
    ·have hc : (!decide (t.cor i = b)) = true := by simpa [h1] using hc
     rw [if_pos hc] at hf
     repeat' (first | refine VJ.seq ?_ | refine VJ.region_k fun K hK => ?_ | (refine VR.done (hK _ ?_); clear hK K) | (first | refine VR.move rfl rfl ?_ | (show onLd; refine VR.load tok rfl rfl rfl rfl ?_) | refine VR.store tok rfl rfl rfl rfl rfl rfl rfl (by first | (intro n e; cases e; done) | exact (fun _ _ q => all_glA (by rfl) q)) ?_) | (refine VR.call fok21 rfl rfl rfl rfl ?_; refine (v_cornerR t i (by omega) _ _ ?_)))
     refine VJ.ret tok (by rfl) (by rfl) ?_
     rw [← hf] at hQ
     exact hQ
    ·have hc : (!decide (t.cor i = b)) = false := by simpa [h1] using hc
     rw [if_neg (by rw [hc]; simp)] at hf
     repeat' (first | refine VJ.skip ?_ | refine VJ.inBlock ?_ | refine VJ.region_k fun K hK => ?_ | (refine VR.done (hK _ ?_); clear hK K) | (first | refine VR.move rfl rfl ?_ | refine VR.assign rfl rfl ?_ | refine VR.int rfl rfl rfl rfl ?_))
     refine VJ.to 4 [(7, vI ((i + 1 : Nat) : Int)), (6, .a (.ptr (.l 3) 0)), (5, .a (.ptr (.l 2) 0)), (4, .a (.ptr (.l 1) 0)), (3, .a (.ptr (.l 0) 0))] [(0, bxT t), (1, bxP a), (2, bxP b), (3, bxP ⟨0, 0⟩)] (ih (i + 1) ⟨hlt, hf⟩ (by omega)) rfl ⟨vI_succ (by omega), by rfl, by rfl, by rfl, by rfl, trivial⟩ (by repeat' first | exact trivial | refine ⟨rfl, ?_⟩) (by rfl)
 have hge : i = 2 := by
  have : ¬ (i : Int) < 2 := by simpa using hb
  omega
 subst hge
 rw [← hf] at hQ
 repeat' (first | refine VJ.seq ?_ | refine VJ.exit rfl ?_ | refine VJ.region_k fun K hK => ?_ | (refine VR.done (hK _ ?_); clear hK K) | (first | (show onLd; refine VR.load tok rfl rfl rfl rfl ?_) | (show onFa; refine VR.fieldAddr tok rfl rfl rfl rfl rfl rfl ?_) | refine VR.store tok rfl rfl rfl rfl rfl rfl rfl (by first | (intro n e; cases e; done) | exact (fun _ _ q => all_glA (by rfl) q)) ?_))
 refine VJ.ret tok (by rfl) (by rfl) ?_
 exact hQ
set_option maxHeartbeats 2000000 in
theorem v_takeR (E : LS) (t : Tr) (G : Gl) (hG : RefG G E) (Q : Po) (hQ : Q (.tup []) (gset G 4 (mL (delE E (around t)) none))) : VC Tryz.prog 79 [vN, vV t.v] G Q := by
 obtain ⟨z, hg⟩ := hG.ok
 have eG := gov_self hg
 refine VC.of_body Tryz.func79 rfl rfl rfl fun W0 h0 x0 hG0 => ?_
 simp only [args0]
 refine VJ.toG 0 (args0 0 [vN, vV t.v]) [] (gov [(3, bxN), (4, mL E z)] G) ?_ rfl (by repeat' first | exact trivial | refine ⟨rfl, ?_⟩) trivial (by rfl) (fun n => congrFun eG n)
 simp only [args0]
 rw [delE3] at hQ
 repeat' (first | refine VJ.seq ?_ | refine VJ.block ?_ | refine VJ.region_k fun K hK => ?_ | (refine VR.done (hK _ ?_); clear hK K) | (first | refine VR.assign rfl rfl ?_ | (show onLd; refine VR.load tok rfl rfl rfl rfl ?_) | refine VR.box rfl rfl rfl ?_ | refine VR.alloc tok rfl rfl rfl ?_ | refine VR.store tok rfl rfl rfl rfl rfl rfl rfl (by first | (intro n e; cases e; done) | exact (fun _ _ q => all_glA (by rfl) q)) ?_) | (refine VR.call fok41 rfl rfl rfl rfl ?_; refine (v_edges t _ _ ?_)))
 refine VJ.loop ?_
 repeat' (first | refine VJ.seq ?_ | refine VJ.skip ?_ | refine VJ.block ?_ | refine VJ.cond_t rfl ?_ | refine VJ.region_k fun K hK => ?_ | (refine VR.done (hK _ ?_); clear hK K) | (first | refine VR.move rfl rfl ?_ | refine VR.int rfl rfl rfl rfl ?_))
 apply VJ.draw3 [7] [(0, 0), (1, 0), (2, 0), (3, 0), (4, 0), (5, 0), (6, 0), (7, 0), (0, 1), (1, 1), (2, 1), (4, 1), (5, 1)] [[(0, none)], [(12, some 0)], [(13, some 1)], [(14, some 2)], [(5, none)], [(4, none), (16, some 4)], [(17, some 5)], [(15, some 3), (18, some 6)]] [[(0, _)], [(12, _)], [(13, _)], [(14, _)], [(5, _)], [(4, _), (16, _)], [(17, _)], [(15, _), (18, _)]] [_, _, _, _, _, _, _, (.a .top)] [⟨_, _, _⟩, ⟨_, _, _⟩] (by kernel_rfl) ?hok rfl ?hh rfl rfl ?hj
 case hh =>
  refine ⟨?_, ?_, ?_, ?_, ?_, ?_, ?_, ?_, ?_, ?_, ?_, ?_, ?_, trivial⟩
  all_goals (intro rest K1 hK1; (repeat (first | exact VR.done hK1 | (first | refine VR.move rfl rfl ?_ | (show onLd; refine VR.load tok rfl rfl rfl (by first | rfl | exact (ldp_el (by assumption)).trans (by rfl)) ?_) | (show onFa; refine VR.fieldAddr tok rfl rfl rfl (by first | rfl | exact place_el (by assumption)) rfl rfl ?_) | (show onIx; refine VR.indexArr tok rfl (arrOk (by rfl)) rfl rfl (by first | rfl | exact place_el (by assumption)) rfl rfl (by decide) rfl ?_) | refine VR.nilCheck rfl rfl rfl ?_ | (refine VR.delete (key := (⟨t.a, t.b⟩ : En)) rfl rfl rfl rfl (mapOk (by rfl)) rfl key60 ?_)))); try (first | exact VR.done hK1 | (refine VR.done ?_; dsimp only [S.set]; exact hK1)))
 case hok => kernel_rfl
 case hj =>
  dsimp only [List.append, tla]
  repeat' (first | refine VJ.inBlock ?_ | refine VJ.region_k fun K hK => ?_ | (refine VR.done (hK _ ?_); clear hK K) | (first | refine VR.move rfl rfl ?_ | refine VR.assign rfl rfl ?_ | refine VR.int rfl rfl rfl rfl ?_))
  refine VJ.inLoop ?_
  repeat' (first | refine VJ.seq ?_ | refine VJ.skip ?_ | refine VJ.block ?_ | refine VJ.cond_t rfl ?_ | refine VJ.region_k fun K hK => ?_ | (refine VR.done (hK _ ?_); clear hK K) | (first | refine VR.move rfl rfl ?_ | refine VR.int rfl rfl rfl rfl ?_))
  apply VJ.draw3 [7] [(0, 0), (1, 0), (2, 0), (3, 0), (4, 0), (5, 0), (6, 0), (7, 0), (0, 1), (1, 1), (2, 1), (4, 1), (5, 1)] [[(0, none)], [(12, some 0)], [(13, some 1)], [(14, some 2)], [(5, none)], [(4, none), (16, some 4)], [(17, some 5)], [(15, some 3), (18, some 6)]] [[(0, _)], [(12, _)], [(13, _)], [(14, _)], [(5, _)], [(4, _), (16, _)], [(17, _)], [(15, _), (18, _)]] [_, _, _, _, _, _, _, (.a .top)] [⟨_, _, _⟩, ⟨_, _, _⟩] (by kernel_rfl) ?hok rfl ?hh rfl rfl ?hj
  case hh =>
   refine ⟨?_, ?_, ?_, ?_, ?_, ?_, ?_, ?_, ?_, ?_, ?_, ?_, ?_, trivial⟩
   all_goals (intro rest K1 hK1; (repeat (first | exact VR.done hK1 | (first | refine VR.move rfl rfl ?_ | (show onLd; refine VR.load tok rfl rfl rfl (by first | rfl | exact (ldp_el (by assumption)).trans (by rfl)) ?_) | (show onFa; refine VR.fieldAddr tok rfl rfl rfl (by first | rfl | exact place_el (by assumption)) rfl rfl ?_) | (show onIx; refine VR.indexArr tok rfl (arrOk (by rfl)) rfl rfl (by first | rfl | exact place_el (by assumption)) rfl rfl (by decide) rfl ?_) | refine VR.nilCheck rfl rfl rfl ?_ | (refine VR.delete (key := (⟨t.b, t.c⟩ : En)) rfl rfl rfl rfl (mapOk (by rfl)) rfl key60 ?_)))); try (first | exact VR.done hK1 | (refine VR.done ?_; dsimp only [S.set]; exact hK1)))
  case hok => kernel_rfl
  case hj =>
   dsimp only [List.append, tla]
   repeat' (first | refine VJ.inBlock ?_ | refine VJ.region_k fun K hK => ?_ | (refine VR.done (hK _ ?_); clear hK K) | (first | refine VR.move rfl rfl ?_ | refine VR.assign rfl rfl ?_ | refine VR.int rfl rfl rfl rfl ?_))
   refine VJ.inLoop ?_
   repeat' (first | refine VJ.seq ?_ | refine VJ.skip ?_ | refine VJ.block ?_ | refine VJ.cond_t rfl ?_ | refine VJ.region_k fun K hK => ?_ | (refine VR.done (hK _ ?_); clear hK K) | (first | refine VR.move rfl rfl ?_ | refine VR.int rfl rfl rfl rfl ?_))
   apply VJ.draw3 [7] [(0, 0), (1, 0), (2, 0), (3, 0), (4, 0), (5, 0), (6, 0), (7, 0), (0, 1), (1, 1), (2, 1), (4, 1), (5, 1)] [[(0, none)], [(12, some 0)], [(13, some 1)], [(14, some 2)], [(5, none)], [(4, none), (16, some 4)], [(17, some 5)], [(15, some 3), (18, some 6)]] [[(0, _)], [(12, _)], [(13, _)], [(14, _)], [(5, _)], [(4, _), (16, _)], [(17, _)], [(15, _), (18, _)]] [_, _, _, _, _, _, _, (.a .top)] [⟨_, _, _⟩, ⟨_, _, _⟩] (by kernel_rfl) ?hok rfl ?hh rfl rfl ?hj
   case hh =>
    refine ⟨?_, ?_, ?_, ?_, ?_, ?_, ?_, ?_, ?_, ?_, ?_, ?_, ?_, trivial⟩
    all_goals (intro rest K1 hK1; (repeat (first | exact VR.done hK1 | (first | refine VR.move rfl rfl ?_ | (show onLd; refine VR.load tok rfl rfl rfl (by first | rfl | exact (ldp_el (by assumption)).trans (by rfl)) ?_) | (show onFa; refine VR.fieldAddr tok rfl rfl rfl (by first | rfl | exact place_el (by assumption)) rfl rfl ?_) | (show onIx; refine VR.indexArr tok rfl (arrOk (by rfl)) rfl rfl (by first | rfl | exact place_el (by assumption)) rfl rfl (by decide) rfl ?_) | refine VR.nilCheck rfl rfl rfl ?_ | (refine VR.delete (key := (⟨t.c, t.a⟩ : En)) rfl rfl rfl rfl (mapOk (by rfl)) rfl key60 ?_)))); try (first | exact VR.done hK1 | (refine VR.done ?_; dsimp only [S.set]; exact hK1)))
   case hok => kernel_rfl
   case hj =>
    dsimp only [List.append, tla]
    repeat' (first | refine VJ.inBlock ?_ | refine VJ.region_k fun K hK => ?_ | (refine VR.done (hK _ ?_); clear hK K) | (first | refine VR.move rfl rfl ?_ | refine VR.assign rfl rfl ?_ | refine VR.int rfl rfl rfl rfl ?_))
    refine VJ.inLoop ?_
    repeat' (first | refine VJ.seq ?_ | refine VJ.exit rfl ?_ | refine VJ.cond_f rfl ?_ | refine VJ.region_k fun K hK => ?_ | (refine VR.done (hK _ ?_); clear hK K) | (first | refine VR.move rfl rfl ?_ | refine VR.int rfl rfl rfl rfl ?_))
    refine VJ.toG 0 [] [] _ (VJ.fin tok (by rfl) (by rfl) hQ) rfl (by repeat' first | exact trivial | refine ⟨rfl, ?_⟩) trivial (by rfl) (fun n => ?_)
    by_cases h4 : n = 4
    ·subst h4; rfl
    ·refine (if_neg h4).trans ((if_neg h4).trans ((if_neg h4).trans ?_))
     refine Eq.trans ?_ (if_neg h4).symm
     exact (congrFun eG n).symm
theorem gset_gset (G : Gl) (g : Nat) (a b : VO) : gset (gset G g a) g b = gset G g b := by
 funext n
 by_cases h : n = g
 ·subst h; simp [gset]
 ·simp [gset, h]
theorem RefG.set {G : Gl} {E : LS} (h : RefG G E) (E' : LS) : RefG (gset G 4 (mL E' none)) E' := ⟨h.1, ⟨none, rfl⟩⟩
theorem v_takeG (E0 E : LS) (t : Tr) (G : Gl) (hG : RefG G E0) (Q : Po) (hQ : Q (.tup []) (gset G 4 (mL (delE E (around t)) none))) : VC Tryz.prog 79 [vN, vV t.v] (gset G 4 (mL E none)) Q :=
 v_takeR E t _ (hG.set E) Q (by rw [gset_gset]; exact hQ)
theorem v_putG (E0 E : LS) (t : Tr) (G : Gl) (hG : RefG G E0) (Q : Po) (hQ : ∀ b, Q (vB b) (gset G 4 (mL (putS E t) none))) : VC Tryz.prog 72 [vN, vV t.v] (gset G 4 (mL E none)) Q := by
 refine v_putR E t _ (hG.set E) Q (fun h => ?_) (fun h => ?_)
 ·have := hQ false
  unfold putS at this
  rw [if_neg (by rw [h]; simp)] at this
  exact this
 ·have := hQ true
  unfold putS at this
  rw [if_pos h] at this
  rw [gset_gset]
  exact this
set_option maxRecDepth 20000 in
set_option maxHeartbeats 8000000 in
theorem v_flipR (E : LS) (a b : Pt) (G : Gl) (hG : RefG G E) (Q : Po) (hQ1 : flipC E a b ≠ 0 → Q (vI (flipC E a b)) G) (hQ2 : flipC E a b = 0 → Q (vI 0) (gset G 4 (mL (flipS E a b) none))) : VC Tryz.prog 78 [vN, vV (ptV a), vV (ptV b)] G Q := by
 refine VC.of_body Tryz.func78 rfl rfl rfl fun W0 h0 x0 hG0 => ?_
 simp only [args0]
 unfold flipC at hQ1 hQ2
 unfold flipS at hQ2
 obtain ⟨l, hl⟩ : ∃ l, leftOf E a b = l := ⟨_, rfl⟩
 obtain ⟨r, hr⟩ : ∃ r, leftOf E b a = r := ⟨_, rfl⟩
 rw [hl, hr] at hQ1 hQ2
 obtain ⟨s, ok⟩ := l
 obtain ⟨t, is⟩ := r
 dsimp only at hQ1 hQ2
 repeat' (first | refine VJ.seq ?_ | refine VJ.region_k fun K hK => ?_ | (refine VR.done (hK _ ?_); clear hK K) | (first | refine VR.move rfl rfl ?_ | refine VR.assign rfl rfl ?_ | (show onLd; refine VR.load tok rfl rfl rfl rfl ?_) | (refine VR.pickB rfl rfl rfl rfl ?_ ?_ ?_; iterate 2 (first | exact trivial | (refine fun h => ?_; first | (rw [h]; rfl) | (rw [h, hg]; rfl) | (rw [hg, h]; rfl) | (simp [h, hg]; done)))) | refine VR.not rfl rfl ?_ | refine VR.box rfl rfl rfl ?_ | refine VR.alloc tok rfl rfl rfl ?_ | refine VR.store tok rfl rfl rfl rfl rfl rfl rfl (by first | (intro n e; cases e; done) | exact (fun _ _ q => all_glA (by rfl) q)) ?_ | refine VR.extract rfl rfl rfl ?_ | (refine VR.call fok42 rfl rfl rfl rfl ?_; refine v_leftR E a b _ hG _ ?_; rw [hl]) | (refine VR.call fok42 rfl rfl rfl rfl ?_; refine v_leftR E b a _ hG _ ?_; rw [hr])) | (refine' VR.spec (by rfl) (by rfl) (by rfl) ?_ ?_ ?_; rotate_left 1; (repeat (first | exact trivial | refine And.intro id ?_)); intro hg K1 hK1; (first | refine VR.move rfl rfl ?_ | refine VR.not rfl rfl ?_); exact VR.done hK1))
 refine VJ.cond rfl (fun hc => ?_) (fun hc => ?_)
 ·have hc : (bif !ok then true else !is) = true := hc
  rw [if_pos hc] at hQ1
  repeat' (first | refine VJ.seq ?_ | refine VJ.region_k fun K hK => ?_ | (refine VR.done (hK _ ?_); clear hK K) | (first | refine VR.assign rfl rfl ?_))
  refine VJ.ret tok (by rfl) (by rfl) ?_
  exact hQ1 (fun h => by cases h)
 have hc : (bif !ok then true else !is) = false := hc
 have hcn : ¬ (bif !ok then true else !is) = true := by rw [hc]; simp
 rw [if_neg hcn] at hQ1 hQ2
 obtain ⟨c, hcE⟩ : ∃ c, farR s a b = c := ⟨_, rfl⟩
 obtain ⟨d, hdE⟩ : ∃ d, farR t a b = d := ⟨_, rfl⟩
 rw [hcE, hdE] at hQ1 hQ2
 repeat' (first | refine VJ.seq ?_ | refine VJ.skip ?_ | (fail))
 apply VJ.draw12 8 9 [10, 11] [(0, 0), (1, 0), (2, 0), (3, 0), (4, 0), (5, 0), (6, 0), (7, 0), (8, 0), (9, 1), (10, 2), (11, 3), (0, 1), (0, 2), (1, 1), (1, 2), (2, 1), (2, 2), (3, 1), (3, 2), (4, 1), (4, 2), (4, 3), (5, 1), (5, 2), (5, 3), (6, 1), (6, 2), (6, 3), (7, 1), (7, 2)] [(0, 0), (1, 0), (2, 0), (3, 0), (4, 0), (5, 0), (6, 0), (7, 0), (9, 0), (8, 1), (10, 2), (11, 3), (0, 1), (0, 2), (1, 1), (1, 2), (2, 1), (2, 2), (3, 1), (3, 2), (4, 1), (4, 2), (4, 3), (5, 1), (5, 2), (5, 3), (6, 1), (6, 2), (6, 3), (7, 1), (7, 2)] [false, false, false, false, false, false, false, false, true, true, true, true] [[(7, none)], [(4, none)], [(5, none)], [(41, some 0), (42, some 1), (43, some 2)], [(9, none)], [(4, none)], [(5, none)], [(45, some 4), (46, some 5), (47, some 6)], [], [], [(11, some 8), (44, some 3)], [(12, some 9), (48, some 7)]] [[(7, _)], [(4, _)], [(5, _)], [(41, _), (42, _), (43, _)], [(9, _)], [(4, _)], [(5, _)], [(45, _), (46, _), (47, _)], [], [], [(11, _), (44, _)], [(12, _), (48, _)]] [[(7, _)], [(4, _)], [(5, _)], [(41, _), (42, _), (43, _)], [(9, _)], [(4, _)], [(5, _)], [(45, _), (46, _), (47, _)], [], [], [(11, _), (44, _)], [(12, _), (48, _)]] [_, _, _, _, _, _, _, _, _, _, (.a .top), (.a .top)] [_, _, _, _, _, _, _, _, _, _, (.a .top), (.a .top)] [⟨_, _, _⟩, ⟨_, _, _⟩, ⟨_, _, _⟩, ⟨_, _, _⟩, ⟨_, _, _⟩] [⟨_, _, _⟩, ⟨_, _, _⟩, ⟨_, _, _⟩, ⟨_, _, _⟩, ⟨_, _, _⟩] (by kernel_rfl) ?hok rfl rfl rfl rfl rfl rfl ?hh1 ?hh2 ?hag rfl rfl rfl rfl ?hj1 ?hj2
 case hh1 =>
  refine ⟨?_, ?_, ?_, ?_, ?_, ?_, ?_, ?_, ?_, ?_, ?_, ?_, ?_, ?_, ?_, ?_, ?_, ?_, ?_, ?_, ?_, ?_, ?_, ?_, ?_, ?_, ?_, ?_, ?_, ?_, ?_, trivial⟩
  all_goals (intro rest K1 hK1; (repeat (first | exact VR.done hK1 | (first | (show onLd; refine VR.load tok rfl rfl rfl rfl ?_) | refine VR.alloc tok rfl rfl rfl ?_ | refine VR.store tok rfl rfl rfl rfl rfl rfl rfl (by first | (intro n e; cases e; done) | exact (fun _ _ q => all_glA (by rfl) q)) ?_ | (refine VR.call fok98 rfl rfl rfl rfl ?_; refine v_farR s a b _ _ ?_; rw [hcE]) | (refine VR.call fok98 rfl rfl rfl rfl ?_; refine v_farR t a b _ _ ?_; rw [hdE])))); try (first | exact VR.done hK1 | (refine VR.done ?_; dsimp only [S.set]; exact hK1)))
 case hh2 =>
  refine ⟨?_, ?_, ?_, ?_, ?_, ?_, ?_, ?_, ?_, ?_, ?_, ?_, ?_, ?_, ?_, ?_, ?_, ?_, ?_, ?_, ?_, ?_, ?_, ?_, ?_, ?_, ?_, ?_, ?_, ?_, ?_, trivial⟩
  all_goals (intro rest K1 hK1; (repeat (first | exact VR.done hK1 | (first | (show onLd; refine VR.load tok rfl rfl rfl rfl ?_) | refine VR.alloc tok rfl rfl rfl ?_ | refine VR.store tok rfl rfl rfl rfl rfl rfl rfl (by first | (intro n e; cases e; done) | exact (fun _ _ q => all_glA (by rfl) q)) ?_ | (refine VR.call fok98 rfl rfl rfl rfl ?_; refine v_farR s a b _ _ ?_; rw [hcE]) | (refine VR.call fok98 rfl rfl rfl rfl ?_; refine v_farR t a b _ _ ?_; rw [hdE])))); try (first | exact VR.done hK1 | (refine VR.done ?_; dsimp only [S.set]; exact hK1)))
 case hag => repeat' (first | exact trivial | refine And.intro rfl ?_)
 case hok => kernel_rfl
 all_goals dsimp only [List.append, tla]
 all_goals (repeat' (first | refine VJ.seq ?_ | refine VJ.region_k fun K hK => ?_ | (refine VR.done (hK _ ?_); clear hK K) | (first | refine VR.move rfl rfl ?_ | (show onLd; refine VR.load tok rfl rfl rfl rfl ?_) | refine VR.int rfl rfl rfl rfl ?_ | (refine VR.pickB rfl rfl rfl rfl ?_ ?_ ?_; iterate 2 (first | exact trivial | (refine fun h => ?_; first | (rw [h]; rfl) | (rw [h, hg]; rfl) | (rw [hg, h]; rfl) | (simp [h, hg]; done))))) | (refine' VR.spec (by rfl) (by rfl) (by rfl) ?_ ?_ ?_; rotate_left 1; (repeat (first | exact trivial | refine And.intro id ?_)); intro hg K1 hK1; (first | (show onLd; refine VR.load tok rfl rfl rfl rfl ?_) | refine VR.int rfl rfl rfl rfl ?_ | (refine VR.call fok44 rfl rfl rfl rfl ?_; refine (v_orientR _ _ _ _ _ ?_))); exact VR.done hK1) | (refine VR.call fok44 rfl rfl rfl rfl ?_; refine (v_orientR _ _ _ _ _ ?_))))
 all_goals refine VJ.cond rfl (fun hd => ?_) (fun hd => ?_)
 iterate 2
  ·have hd : (bif decide (oriG a d c ≤ 0) then true else decide (oriG d b c ≤ 0)) = true := hd
   rw [if_pos hd] at hQ1
   repeat' (first | refine VJ.seq ?_ | refine VJ.region_k fun K hK => ?_ | (refine VR.done (hK _ ?_); clear hK K) | (first | refine VR.assign rfl rfl ?_))
   refine VJ.ret tok (by rfl) (by rfl) ?_
   exact hQ1 (fun h => by cases h)
  ·have hd : (bif decide (oriG a d c ≤ 0) then true else decide (oriG d b c ≤ 0)) = false := hd
   have hdn : ¬ (bif decide (oriG a d c ≤ 0) then true else decide (oriG d b c ≤ 0)) = true := by rw [hd]; simp
   rw [if_neg hdn] at hQ1 hQ2
   obtain ⟨ol, hol⟩ : ∃ ol, leftOf E d c = ol := ⟨_, rfl⟩
   obtain ⟨bk, hbk⟩ : ∃ bk, leftOf E c d = bk := ⟨_, rfl⟩
   obtain ⟨old, was⟩ := ol
   obtain ⟨back, had⟩ := bk
   repeat' (first | refine VJ.seq ?_ | refine VJ.skip ?_ | refine VJ.region_k fun K hK => ?_ | (refine VR.done (hK _ ?_); clear hK K) | (first | refine VR.move rfl rfl ?_ | refine VR.assign rfl rfl ?_ | (show onLd; refine VR.load tok rfl rfl rfl rfl ?_) | refine VR.alloc tok rfl rfl rfl ?_ | refine VR.store tok rfl rfl rfl rfl rfl rfl rfl (by first | (intro n e; cases e; done) | exact (fun _ _ q => all_glA (by rfl) q)) ?_ | refine VR.extract rfl rfl rfl ?_ | (refine VR.call fok42 rfl rfl rfl rfl ?_; refine v_leftR E d c _ hG _ ?_; rw [hol])) | (refine VR.call fok47 rfl rfl rfl rfl ?_; refine (v_makeR _ _ _ _ _ ?_)))
   refine VR.call fok42 rfl rfl rfl rfl ?_
   refine v_leftR E c d _ hG _ ?_
   rw [hbk]
   repeat (first | refine VR.move rfl rfl ?_ | refine VR.assign rfl rfl ?_ | refine VR.alloc tok rfl rfl rfl ?_ | refine VR.store tok rfl rfl rfl rfl rfl rfl rfl (by first | (intro n e; cases e; done) | exact (fun _ _ q => all_glA (by rfl) q)) ?_ | refine VR.extract rfl rfl rfl ?_)
   refine VR.done (hK _ ?_); clear hK K
   refine VJ.to 10 [(20, vB had), (19, .a (.ptr (.l 9) 0)), (18, vB was), (17, .a (.ptr (.l 8) 0)), (15, .a (.ptr (.l 7) 0)), (13, .a (.ptr (.l 6) 0)), (9, .a (.ptr (.l 3) 0)), (7, .a (.ptr (.l 2) 0)), (6, vI 0), (0, vN)] [(9, bxT back), (8, bxT old), (7, bxT (makeT d b c).1), (6, bxT (makeT a d c).1), (3, bxT t), (2, bxT s)] ?_ rfl (by repeat' first | exact trivial | refine ⟨rfl, ?_⟩) (by repeat' first | exact trivial | refine ⟨rfl, ?_⟩) (by rfl)
   refine VJ.seq ?_
   refine VJ.seq ?_
   have hbl : blkR E a b s t c d = ((was && !decide (old = s) && !decide (old = t)) || (had && !decide (back = s) && !decide (back = t))) := by unfold blkR; rw [hol, hbk]
   rw [hbl] at hQ1 hQ2
   obtain ⟨X, hX⟩ : ∃ X, ((was && !decide (old = s) && !decide (old = t)) || (had && !decide (back = s) && !decide (back = t))) = X := ⟨_, rfl⟩
   rw [hX] at hQ1 hQ2
   refine VJ.via ⟨10, (112, vB X) :: [(20, vB had), (19, .a (.ptr (.l 9) 0)), (18, vB was), (17, .a (.ptr (.l 8) 0)), (15, .a (.ptr (.l 7) 0)), (13, .a (.ptr (.l 6) 0)), (9, .a (.ptr (.l 3) 0)), (7, .a (.ptr (.l 2) 0)), (6, vI 0), (0, vN)], [(9, bxT back), (8, bxT old), (7, bxT (makeT d b c).1), (6, bxT (makeT a d c).1), (3, bxT t), (2, bxT s)], G⟩ (fun hrest => ?_) ?_
   ·clear hQ1 hQ2 hol hbk hbl
    cases was with
    | false =>
      have k1 : true = true := rfl
      have k2 : true = true := rfl
      have xa : (false && !decide (old = s) && !decide (old = t)) = false := rfl
      cases had with
      | false =>
        have k3 : true = true := rfl
        have k4 : true = true := rfl
        obtain rfl : X = false := by rw [← hX, xa]; rfl
        refine VJ.region_k fun K hK => ?_
        repeat (first | (refine VR.g_no0 rfl rfl (by rfl) ?_) | refine VR.move rfl rfl ?_ | (refine VR.pickB rfl rfl rfl rfl ?_ ?_ ?_; iterate 2 (first | exact trivial | (refine fun h => ?_; first | (rw [h]; rfl) | (rw [h, hg]; rfl) | (rw [hg, h]; rfl) | (simp [h, hg]; done)))) | refine VR.pick rfl rfl rfl ?_ | refine VR.g_yes rfl rfl (by first | rfl | assumption) ?_)
        refine VR.done (hK _ ?_); clear hK K
        exact VJ.to 10 _ _ hrest rfl ⟨by rfl, by rfl, by rfl, by rfl, by rfl, by rfl, by rfl, by rfl, by rfl, by rfl, by rfl, trivial⟩ (by repeat' first | exact trivial | refine ⟨rfl, ?_⟩) (by rfl)
      | true =>
        by_cases h3 : back = s
        ·have k3 : (!decide (back = s)) = false := by rw [decide_eq_true h3]; rfl
         have k4 : true = true := rfl
         obtain rfl : X = false := by rw [← hX, xa, k3]; rfl
         refine VJ.region_k fun K hK => ?_
         repeat (first | (refine VR.g_no0 rfl rfl (by rfl) ?_) | refine VR.move rfl rfl ?_ | (show onLd; refine VR.load tok rfl rfl rfl rfl ?_) | (refine VR.pickB rfl rfl rfl rfl ?_ ?_ ?_; iterate 2 (first | exact trivial | (refine fun h => ?_; first | (rw [h]; rfl) | (rw [h, hg]; rfl) | (rw [hg, h]; rfl) | (simp [h, hg]; done)))) | refine VR.pick rfl rfl rfl ?_ | refine VR.g_yes rfl rfl (by first | rfl | assumption) ?_ | (refine VR.bin rfl rfl rfl (neqT _ _ back s) ?_; rw [k3]))
         refine VR.done (hK _ ?_); clear hK K
         exact VJ.to 10 _ _ hrest rfl ⟨by rfl, by rfl, by rfl, by rfl, by rfl, by rfl, by rfl, by rfl, by rfl, by rfl, by rfl, trivial⟩ (by repeat' first | exact trivial | refine ⟨rfl, ?_⟩) (by rfl)
        ·have k3 : (!decide (back = s)) = true := by rw [decide_eq_false h3]; rfl
         by_cases h4 : back = t
         ·have k4 : (!decide (back = t)) = false := by rw [decide_eq_true h4]; rfl
          obtain rfl : X = false := by rw [← hX, xa, k3, k4]; rfl
          refine VJ.region_k fun K hK => ?_
          repeat (first | (refine VR.g_no0 rfl rfl (by rfl) ?_) | refine VR.move rfl rfl ?_ | (show onLd; refine VR.load tok rfl rfl rfl rfl ?_) | (refine VR.pickB rfl rfl rfl rfl ?_ ?_ ?_; iterate 2 (first | exact trivial | (refine fun h => ?_; first | (rw [h]; rfl) | (rw [h, hg]; rfl) | (rw [hg, h]; rfl) | (simp [h, hg]; done)))) | refine VR.pick rfl rfl rfl ?_ | refine VR.g_yes rfl rfl (by first | rfl | assumption) ?_ | (refine VR.bin rfl rfl rfl (neqT _ _ back s) ?_; rw [k3]) | (refine VR.bin rfl rfl rfl (neqT _ _ back t) ?_; rw [k4]))
          refine VR.done (hK _ ?_); clear hK K
          exact VJ.to 10 _ _ hrest rfl ⟨by rfl, by rfl, by rfl, by rfl, by rfl, by rfl, by rfl, by rfl, by rfl, by rfl, by rfl, trivial⟩ (by repeat' first | exact trivial | refine ⟨rfl, ?_⟩) (by rfl)
         ·have k4 : (!decide (back = t)) = true := by rw [decide_eq_false h4]; rfl
          obtain rfl : X = true := by rw [← hX, xa, k3, k4]; rfl
          refine VJ.region_k fun K hK => ?_
          repeat (first | (refine VR.g_no0 rfl rfl (by rfl) ?_) | refine VR.move rfl rfl ?_ | (show onLd; refine VR.load tok rfl rfl rfl rfl ?_) | (refine VR.pickB rfl rfl rfl rfl ?_ ?_ ?_; iterate 2 (first | exact trivial | (refine fun h => ?_; first | (rw [h]; rfl) | (rw [h, hg]; rfl) | (rw [hg, h]; rfl) | (simp [h, hg]; done)))) | refine VR.pick rfl rfl rfl ?_ | refine VR.g_yes rfl rfl (by first | rfl | assumption) ?_ | (refine VR.bin rfl rfl rfl (neqT _ _ back s) ?_; rw [k3]) | (refine VR.bin rfl rfl rfl (neqT _ _ back t) ?_; rw [k4]))
          refine VR.done (hK _ ?_); clear hK K
          exact VJ.to 10 _ _ hrest rfl ⟨by rfl, by rfl, by rfl, by rfl, by rfl, by rfl, by rfl, by rfl, by rfl, by rfl, by rfl, trivial⟩ (by repeat' first | exact trivial | refine ⟨rfl, ?_⟩) (by rfl)
    | true =>
      by_cases h1 : old = s
      ·have k1 : (!decide (old = s)) = false := by rw [decide_eq_true h1]; rfl
       have k2 : true = true := rfl
       have xa : (true && !decide (old = s) && !decide (old = t)) = false := by rw [k1]; rfl
       cases had with
       | false =>
         have k3 : true = true := rfl
         have k4 : true = true := rfl
         obtain rfl : X = false := by rw [← hX, xa]; rfl
         refine VJ.region_k fun K hK => ?_
         repeat (first | (refine VR.g_no0 rfl rfl (by rfl) ?_) | refine VR.move rfl rfl ?_ | (show onLd; refine VR.load tok rfl rfl rfl rfl ?_) | (refine VR.pickB rfl rfl rfl rfl ?_ ?_ ?_; iterate 2 (first | exact trivial | (refine fun h => ?_; first | (rw [h]; rfl) | (rw [h, hg]; rfl) | (rw [hg, h]; rfl) | (simp [h, hg]; done)))) | refine VR.pick rfl rfl rfl ?_ | refine VR.g_yes rfl rfl (by first | rfl | assumption) ?_ | (refine VR.bin rfl rfl rfl (neqT _ _ old s) ?_; rw [k1]))
         refine VR.done (hK _ ?_); clear hK K
         exact VJ.to 10 _ _ hrest rfl ⟨by rfl, by rfl, by rfl, by rfl, by rfl, by rfl, by rfl, by rfl, by rfl, by rfl, by rfl, trivial⟩ (by repeat' first | exact trivial | refine ⟨rfl, ?_⟩) (by rfl)
       | true =>
         by_cases h3 : back = s
         ·have k3 : (!decide (back = s)) = false := by rw [decide_eq_true h3]; rfl
          have k4 : true = true := rfl
          obtain rfl : X = false := by rw [← hX, xa, k3]; rfl
          refine VJ.region_k fun K hK => ?_
          repeat (first | (refine VR.g_no0 rfl rfl (by rfl) ?_) | refine VR.move rfl rfl ?_ | (show onLd; refine VR.load tok rfl rfl rfl rfl ?_) | (refine VR.pickB rfl rfl rfl rfl ?_ ?_ ?_; iterate 2 (first | exact trivial | (refine fun h => ?_; first | (rw [h]; rfl) | (rw [h, hg]; rfl) | (rw [hg, h]; rfl) | (simp [h, hg]; done)))) | refine VR.pick rfl rfl rfl ?_ | refine VR.g_yes rfl rfl (by first | rfl | assumption) ?_ | (refine VR.bin rfl rfl rfl (neqT _ _ old s) ?_; rw [k1]) | (refine VR.bin rfl rfl rfl (neqT _ _ back s) ?_; rw [k3]))
          refine VR.done (hK _ ?_); clear hK K
          exact VJ.to 10 _ _ hrest rfl ⟨by rfl, by rfl, by rfl, by rfl, by rfl, by rfl, by rfl, by rfl, by rfl, by rfl, by rfl, trivial⟩ (by repeat' first | exact trivial | refine ⟨rfl, ?_⟩) (by rfl)
         ·have k3 : (!decide (back = s)) = true := by rw [decide_eq_false h3]; rfl
          by_cases h4 : back = t
          ·have k4 : (!decide (back = t)) = false := by rw [decide_eq_true h4]; rfl
           obtain rfl : X = false := by rw [← hX, xa, k3, k4]; rfl
           refine VJ.region_k fun K hK => ?_
           repeat (first | (refine VR.g_no0 rfl rfl (by rfl) ?_) | refine VR.move rfl rfl ?_ | (show onLd; refine VR.load tok rfl rfl rfl rfl ?_) | (refine VR.pickB rfl rfl rfl rfl ?_ ?_ ?_; iterate 2 (first | exact trivial | (refine fun h => ?_; first | (rw [h]; rfl) | (rw [h, hg]; rfl) | (rw [hg, h]; rfl) | (simp [h, hg]; done)))) | refine VR.pick rfl rfl rfl ?_ | refine VR.g_yes rfl rfl (by first | rfl | assumption) ?_ | (refine VR.bin rfl rfl rfl (neqT _ _ old s) ?_; rw [k1]) | (refine VR.bin rfl rfl rfl (neqT _ _ back s) ?_; rw [k3]) | (refine VR.bin rfl rfl rfl (neqT _ _ back t) ?_; rw [k4]))
           refine VR.done (hK _ ?_); clear hK K
           exact VJ.to 10 _ _ hrest rfl ⟨by rfl, by rfl, by rfl, by rfl, by rfl, by rfl, by rfl, by rfl, by rfl, by rfl, by rfl, trivial⟩ (by repeat' first | exact trivial | refine ⟨rfl, ?_⟩) (by rfl)
          ·have k4 : (!decide (back = t)) = true := by rw [decide_eq_false h4]; rfl
           obtain rfl : X = true := by rw [← hX, xa, k3, k4]; rfl
           refine VJ.region_k fun K hK => ?_
           repeat (first | (refine VR.g_no0 rfl rfl (by rfl) ?_) | refine VR.move rfl rfl ?_ | (show onLd; refine VR.load tok rfl rfl rfl rfl ?_) | (refine VR.pickB rfl rfl rfl rfl ?_ ?_ ?_; iterate 2 (first | exact trivial | (refine fun h => ?_; first | (rw [h]; rfl) | (rw [h, hg]; rfl) | (rw [hg, h]; rfl) | (simp [h, hg]; done)))) | refine VR.pick rfl rfl rfl ?_ | refine VR.g_yes rfl rfl (by first | rfl | assumption) ?_ | (refine VR.bin rfl rfl rfl (neqT _ _ old s) ?_; rw [k1]) | (refine VR.bin rfl rfl rfl (neqT _ _ back s) ?_; rw [k3]) | (refine VR.bin rfl rfl rfl (neqT _ _ back t) ?_; rw [k4]))
           refine VR.done (hK _ ?_); clear hK K
           exact VJ.to 10 _ _ hrest rfl ⟨by rfl, by rfl, by rfl, by rfl, by rfl, by rfl, by rfl, by rfl, by rfl, by rfl, by rfl, trivial⟩ (by repeat' first | exact trivial | refine ⟨rfl, ?_⟩) (by rfl)
      ·have k1 : (!decide (old = s)) = true := by rw [decide_eq_false h1]; rfl
       by_cases h2 : old = t
       ·have k2 : (!decide (old = t)) = false := by rw [decide_eq_true h2]; rfl
        have xa : (true && !decide (old = s) && !decide (old = t)) = false := by rw [k1, k2]; rfl
        cases had with
        | false =>
          have k3 : true = true := rfl
          have k4 : true = true := rfl
          obtain rfl : X = false := by rw [← hX, xa]; rfl
          refine VJ.region_k fun K hK => ?_
          repeat (first | (refine VR.g_no0 rfl rfl (by rfl) ?_) | refine VR.move rfl rfl ?_ | (show onLd; refine VR.load tok rfl rfl rfl rfl ?_) | (refine VR.pickB rfl rfl rfl rfl ?_ ?_ ?_; iterate 2 (first | exact trivial | (refine fun h => ?_; first | (rw [h]; rfl) | (rw [h, hg]; rfl) | (rw [hg, h]; rfl) | (simp [h, hg]; done)))) | refine VR.pick rfl rfl rfl ?_ | refine VR.g_yes rfl rfl (by first | rfl | assumption) ?_ | (refine VR.bin rfl rfl rfl (neqT _ _ old s) ?_; rw [k1]) | (refine VR.bin rfl rfl rfl (neqT _ _ old t) ?_; rw [k2]))
          refine VR.done (hK _ ?_); clear hK K
          exact VJ.to 10 _ _ hrest rfl ⟨by rfl, by rfl, by rfl, by rfl, by rfl, by rfl, by rfl, by rfl, by rfl, by rfl, by rfl, trivial⟩ (by repeat' first | exact trivial | refine ⟨rfl, ?_⟩) (by rfl)
        | true =>
          by_cases h3 : back = s
          ·have k3 : (!decide (back = s)) = false := by rw [decide_eq_true h3]; rfl
           have k4 : true = true := rfl
           obtain rfl : X = false := by rw [← hX, xa, k3]; rfl
           refine VJ.region_k fun K hK => ?_
           repeat (first | (refine VR.g_no0 rfl rfl (by rfl) ?_) | refine VR.move rfl rfl ?_ | (show onLd; refine VR.load tok rfl rfl rfl rfl ?_) | (refine VR.pickB rfl rfl rfl rfl ?_ ?_ ?_; iterate 2 (first | exact trivial | (refine fun h => ?_; first | (rw [h]; rfl) | (rw [h, hg]; rfl) | (rw [hg, h]; rfl) | (simp [h, hg]; done)))) | refine VR.pick rfl rfl rfl ?_ | refine VR.g_yes rfl rfl (by first | rfl | assumption) ?_ | (refine VR.bin rfl rfl rfl (neqT _ _ old s) ?_; rw [k1]) | (refine VR.bin rfl rfl rfl (neqT _ _ old t) ?_; rw [k2]) | (refine VR.bin rfl rfl rfl (neqT _ _ back s) ?_; rw [k3]))
           refine VR.done (hK _ ?_); clear hK K
           exact VJ.to 10 _ _ hrest rfl ⟨by rfl, by rfl, by rfl, by rfl, by rfl, by rfl, by rfl, by rfl, by rfl, by rfl, by rfl, trivial⟩ (by repeat' first | exact trivial | refine ⟨rfl, ?_⟩) (by rfl)
          ·have k3 : (!decide (back = s)) = true := by rw [decide_eq_false h3]; rfl
           by_cases h4 : back = t
           ·have k4 : (!decide (back = t)) = false := by rw [decide_eq_true h4]; rfl
            obtain rfl : X = false := by rw [← hX, xa, k3, k4]; rfl
            refine VJ.region_k fun K hK => ?_
            repeat (first | refine VR.move rfl rfl ?_ | (show onLd; refine VR.load tok rfl rfl rfl rfl ?_) | (refine VR.pickB rfl rfl rfl rfl ?_ ?_ ?_; iterate 2 (first | exact trivial | (refine fun h => ?_; first | (rw [h]; rfl) | (rw [h, hg]; rfl) | (rw [hg, h]; rfl) | (simp [h, hg]; done)))) | refine VR.g_yes rfl rfl (by first | rfl | assumption) ?_ | (refine VR.bin rfl rfl rfl (neqT _ _ old s) ?_; rw [k1]) | (refine VR.bin rfl rfl rfl (neqT _ _ old t) ?_; rw [k2]) | (refine VR.bin rfl rfl rfl (neqT _ _ back s) ?_; rw [k3]) | (refine VR.bin rfl rfl rfl (neqT _ _ back t) ?_; rw [k4]))
            refine VR.done (hK _ ?_); clear hK K
            exact VJ.to 10 _ _ hrest rfl ⟨by rfl, by rfl, by rfl, by rfl, by rfl, by rfl, by rfl, by rfl, by rfl, by rfl, by rfl, trivial⟩ (by repeat' first | exact trivial | refine ⟨rfl, ?_⟩) (by rfl)
           ·have k4 : (!decide (back = t)) = true := by rw [decide_eq_false h4]; rfl
            obtain rfl : X = true := by rw [← hX, xa, k3, k4]; rfl
            refine VJ.region_k fun K hK => ?_
            repeat (first | refine VR.move rfl rfl ?_ | (show onLd; refine VR.load tok rfl rfl rfl rfl ?_) | (refine VR.pickB rfl rfl rfl rfl ?_ ?_ ?_; iterate 2 (first | exact trivial | (refine fun h => ?_; first | (rw [h]; rfl) | (rw [h, hg]; rfl) | (rw [hg, h]; rfl) | (simp [h, hg]; done)))) | refine VR.g_yes rfl rfl (by first | rfl | assumption) ?_ | (refine VR.bin rfl rfl rfl (neqT _ _ old s) ?_; rw [k1]) | (refine VR.bin rfl rfl rfl (neqT _ _ old t) ?_; rw [k2]) | (refine VR.bin rfl rfl rfl (neqT _ _ back s) ?_; rw [k3]) | (refine VR.bin rfl rfl rfl (neqT _ _ back t) ?_; rw [k4]))
            refine VR.done (hK _ ?_); clear hK K
            exact VJ.to 10 _ _ hrest rfl ⟨by rfl, by rfl, by rfl, by rfl, by rfl, by rfl, by rfl, by rfl, by rfl, by rfl, by rfl, trivial⟩ (by repeat' first | exact trivial | refine ⟨rfl, ?_⟩) (by rfl)
       ·have k2 : (!decide (old = t)) = true := by rw [decide_eq_false h2]; rfl
        have k3 : true = true := rfl
        have k4 : true = true := rfl
        obtain rfl : X = true := by rw [← hX]; simp [h1, h2]
        refine VJ.region_k fun K hK => ?_
        repeat (first | (refine VR.g_no0 rfl rfl (by rfl) ?_) | refine VR.move rfl rfl ?_ | (show onLd; refine VR.load tok rfl rfl rfl rfl ?_) | (refine VR.pickB rfl rfl rfl rfl ?_ ?_ ?_; iterate 2 (first | exact trivial | (refine fun h => ?_; first | (rw [h]; rfl) | (rw [h, hg]; rfl) | (rw [hg, h]; rfl) | (simp [h, hg]; done)))) | refine VR.pick rfl rfl rfl ?_ | refine VR.g_yes rfl rfl (by first | rfl | assumption) ?_ | (refine VR.bin rfl rfl rfl (neqT _ _ old s) ?_; rw [k1]) | (refine VR.bin rfl rfl rfl (neqT _ _ old t) ?_; rw [k2]))
        refine VR.done (hK _ ?_); clear hK K
        exact VJ.to 10 _ _ hrest rfl ⟨by rfl, by rfl, by rfl, by rfl, by rfl, by rfl, by rfl, by rfl, by rfl, by rfl, by rfl, trivial⟩ (by repeat' first | exact trivial | refine ⟨rfl, ?_⟩) (by rfl)
   refine VJ.cond rfl (fun hx => ?_) (fun hx => ?_)
   ·have hx : X = true := hx
    rw [hx, if_pos rfl] at hQ1
    repeat' (first | refine VJ.seq ?_ | refine VJ.region_k fun K hK => ?_ | (refine VR.done (hK _ ?_); clear hK K) | (first | refine VR.assign rfl rfl ?_))
    refine VJ.ret tok (by rfl) (by rfl) ?_
    exact hQ1 (fun h => by cases h)
   have hx : X = false := hx
   rw [hx, if_neg (by simp)] at hQ2
   have hq := hQ2 rfl
   clear hQ1 hQ2
   repeat' (first | refine VJ.seq ?_ | refine VJ.skip ?_ | refine VJ.region_k fun K hK => ?_ | (refine VR.done (hK _ ?_); clear hK K) | (first | refine VR.move rfl rfl ?_ | refine VR.assign rfl rfl ?_ | (show onLd; refine VR.load tok rfl rfl rfl rfl ?_) | (refine VR.call fok72 rfl rfl rfl rfl ?_; refine v_putG E _ (makeT a d c).1 _ hG _ (fun b1 => ?_)) | (refine VR.call fok72 rfl rfl rfl rfl ?_; refine v_putG E _ (makeT d b c).1 _ hG _ (fun b2 => ?_))) | (refine VR.call fok79 rfl rfl rfl rfl ?_; refine (v_takeR E s _ hG _ ?_)) | (refine VR.call fok79 rfl rfl rfl rfl ?_; refine (v_takeG E _ t _ hG _ ?_)))
   refine VJ.ret tok (by rfl) (by rfl) ?_
   exact hq
end Go.Proofs.YtnpnjhopgedhkaaGreat
namespace Go.Proofs.YtnpnjhopgedhkaaGreat.V
open Go.RowKit
universe u
theorem SG.map_set {h0 x0 : Nat → Option Value} {w : World} {G : Nat → Option VO} {κ ν : Type} [DecidableEq κ] {mk : κ → Value} {mv : ν → Value} {l : List (κ × ν)} {z z' : Option (Nat × Obj)} {g : Nat} (S : SG h0 x0 w G) (hg : G g = some (.map mk mv l z))
 (h : ∀ hd, h0 g = some hd → OBJ 0 (gh h0 x0) w hd (.map mk mv l z) → OBJ 0 (gh h0 x0) w hd (.map mk mv l z')) : SG h0 x0 w (gset G g (.map mk mv l z')) := by
 refine ⟨fun n o ho => ?_, fun n hd e => ?_, S.inj, S.lt, fun n o ho i hs => ?_⟩
 ·by_cases hn : n = g
  ·subst hn
   obtain ⟨hd, h1, h2⟩ := S.obj n _ hg
   have e : some (VO.map mk mv l z') = some o := by rw [← ho]; simp [gset]
   cases e
   exact ⟨hd, h1, h hd h1 h2⟩
  ·have e : G n = some o := by rw [← ho]; simp [gset, hn]
   exact S.obj n o e
 ·obtain ⟨o, ho⟩ := S.dom n hd e
  by_cases hn : n = g
  ·exact ⟨_, if_pos hn⟩
  ·exact ⟨o, (if_neg hn).trans ho⟩
 ·by_cases hn : n = g
  ·subst hn
   have e : some (VO.map mk mv l z') = some o := by rw [← ho]; simp [gset]
   cases e
   exact hs
  ·have e : G n = some o := by rw [← ho]; simp [gset, hn]
   exact S.gl n o e i hs
theorem gset_same {G : Nat → Option VO} {g : Nat} {o : VO} (h : G g = some o) : gset G g o = G := by
 funext n
 by_cases hn : n = g
 ·subst hn; rw [h]; simp [gset]
 ·simp [gset, hn]
theorem gset_two (G : Nat → Option VO) (g : Nat) (a b : VO) : gset (gset G g a) g b = gset G g b := by
 funext n
 by_cases h : n = g
 ·subst h; simp [gset]
 ·simp [gset, h]
theorem VC.pinned {P : Program} {f : FuncId} {args : List AV} {G : Nat → Option VO} {Q : AV → (Nat → Option VO) → Prop} {κ ν : Type} [DecidableEq κ] {mk : κ → Value} {mv : ν → Value} {l : List (κ × ν)} {z : Option (Nat × Obj)} (g : Nat) (hg : G g = some (.map mk mv l z))
 (H : ∀ G' q, G' = gset G g (.map mk mv l (some q)) → VC P f args G' (fun r G'' => G'' = G' ∧ Q r G)) : VC P f args G Q := by
 cases z with
 | some q =>
   have e := gset_same hg
   refine (H G q e.symm).mono ?_
   rintro r G' ⟨rfl, h⟩
   exact h
 | none =>
   intro h0 x0 w vs hS hR
   obtain ⟨hd, h1, b0, rfl, h2, h3⟩ := hS.obj g _ hg
   obtain ⟨m, hm⟩ : ∃ m, w.heap[b0]? = some m := by obtain ⟨_, _, e, _⟩ := h2; exact ⟨_, e⟩
   have hS' : SG h0 x0 w (gset G g (.map mk mv l (some (b0, m)))) := by
    refine hS.map_set hg fun hd' hh ho => ?_
    rw [h1] at hh
    cases hh
    exact ⟨b0, rfl, h2, fun q e => by cases e; exact ⟨rfl, hm⟩⟩
   refine (H _ (b0, m) rfl h0 x0 w vs hS' hR).mono ?_
   rintro e w' ⟨v, r, G', h1', e1, ⟨rfl, hq⟩, hSG, rest⟩
   refine ⟨v, r, G, h1', e1, hq, ?_, rest⟩
   have hgg : gset G g (.map mk mv l (some (b0, m))) g = some (.map mk mv l (some (b0, m))) := by simp [gset]
   have := hSG.map_set (z' := none) hgg (fun hd' _ ho => by obtain ⟨b1, r1, r2, r3⟩ := ho; exact ⟨b1, r1, r2, fun q e => by cases e⟩)
   rw [gset_two, gset_same hg] at this
   exact this
end Go.Proofs.YtnpnjhopgedhkaaGreat.V
namespace Go.Proofs.YtnpnjhopgedhkaaGreat
open Go.RowKit V Geo
attribute [local irreducible] VR VJ VC decOk decBt
theorem GM_false (G' G : Gl) : GM (fun _ => false) G' G = G := funext fun n => rfl
abbrev vNil : AV := .a (.d (.v (.pointer none)))
def sA : Tr := ⟨⟨0, 0⟩, ⟨1, 0⟩, ⟨1, 1⟩⟩
def tA : Tr := ⟨⟨0, 0⟩, ⟨1, 1⟩, ⟨0, 1⟩⟩
def uA : Tr := ⟨⟨0, 0⟩, ⟨1, 0⟩, ⟨0, 1⟩⟩
def wA : Tr := ⟨⟨0, 1⟩, ⟨1, 0⟩, ⟨1, 1⟩⟩
def tsB : TS := [(uA, true), (wA, true)]
theorem hB : hasT tsB sA = false := by kernel_rfl
section
variable {E : Env} {fn : Func} {R : Ending → World → Prop} {k : List Item} {c : Nat} {t0 : List (Nat × AV)} {L : List (Nat × VO)}
end
end Go.Proofs.YtnpnjhopgedhkaaGreat
namespace Go.Proofs.YtnpnjhopgedhkaaGreat
open Go.RowKit V Geo
def inT (t : Tr) : Prop := inB t.a ∧ inB t.b ∧ inB t.c
def BoxE (E : LS) : Prop := ∀ e t, Mp.get E e = some t → validT t = true ∧ inT t
def badR (E : LS) (W : List Wl) (a b : Pt) : Bool := (leftOf E a b).2 && (leftOf E b a).2 && (kindR W a b == 0) && (circR (leftOf E a b).1.a (leftOf E a b).1.b (leftOf E a b).1.c (farR (leftOf E b a).1 a b) == 1)
theorem lead_cases (a b c : Pt) : lead a b c = ⟨a, b, c⟩ ∨ lead a b c = ⟨b, c, a⟩ ∨ lead a b c = ⟨c, a, b⟩ := by
 unfold lead
 split
 ·split
  ·exact .inr (.inr rfl)
  ·exact .inr (.inl rfl)
 ·exact .inl rfl
theorem valid_ori {t : Tr} (h : validT t = true) : oriG t.a t.b t.c = 1 := by
 obtain ⟨n1, n2, n3⟩ := valid_ne h
 rcases ori_three t.a t.b t.c with e | e | e
 ·exfalso
  unfold validT makeT at h
  rw [if_neg (by rw [e]; decide), if_pos e] at h
  have h : lead t.a t.c t.b = t := by simpa using h
  obtain ⟨a, b, c⟩ := t
  dsimp only at *
  rcases lead_cases a c b with q | q | q <;> rw [q] at h
  ·exact n2 (congrArg Tr.b h).symm
  ·exact n3 (congrArg Tr.a h)
  ·exact n1 (congrArg Tr.a h).symm
 ·exfalso
  unfold validT makeT at h
  rw [if_pos e] at h
  simp at h
 ·exact e
theorem farR_in {t : Tr} (h : inT t) (a b : Pt) : inB (farR t a b) := by
 unfold farR farRN
 split
 ·exact h.1
 ·unfold farRN
  split
  ·exact h.2.1
  ·exact h.2.2
theorem left_get {E : LS} {a b : Pt} (h : (leftOf E a b).2 = true) : Mp.get E ⟨a, b⟩ = some (leftOf E a b).1 := by
 unfold leftOf at *
 obtain ⟨t, ht⟩ := Option.isSome_iff_exists.1 h
 rw [ht]; rfl
attribute [local irreducible] VR VJ VC decOk decBt
set_option maxRecDepth 20000 in
set_option maxHeartbeats 4000000 in
theorem v_badR (E : LS) (hB : BoxE E) (W : List Wl) (few : W.length < 1000000) (a b : Pt) (G : Gl) (hG : RefG G E) (hW : WalG G W) (Q : Po) (hQ : Q (vB (badR E W a b)) G) : VC Tryz.prog 77 [vN, vWl, vV (ptV a), vV (ptV b)] G Q := by
 refine VC.of_body Tryz.func77 rfl rfl rfl fun W0 h0 x0 hG0 => ?_
 simp only [args0]
 have hb1 := hB ⟨a, b⟩
 have hb2 := hB ⟨b, a⟩
 have hl1 := left_get (E := E) (a := a) (b := b)
 have hl2 := left_get (E := E) (a := b) (b := a)
 unfold badR at hQ
 obtain ⟨l, hl⟩ : ∃ l, leftOf E a b = l := ⟨_, rfl⟩
 obtain ⟨r, hr⟩ : ∃ r, leftOf E b a = r := ⟨_, rfl⟩
 rw [hl] at hQ hl1
 rw [hr] at hQ hl2
 obtain ⟨x, ok⟩ := l
 obtain ⟨y, is⟩ := r
 dsimp only at hQ hl1 hl2
 cases ok with
 | false =>
   repeat' (first | refine VJ.seq ?_ | refine VJ.region_k fun K hK => ?_ | (refine VR.done (hK _ ?_); clear hK K) | (first | refine VR.move rfl rfl ?_ | refine VR.assign rfl rfl ?_ | (show onLd; refine VR.load tok rfl rfl rfl rfl ?_) | refine VR.box rfl rfl rfl ?_ | refine VR.alloc tok rfl rfl rfl ?_ | refine VR.store tok rfl rfl rfl rfl rfl rfl rfl (by first | (intro n e; cases e; done) | exact (fun _ _ q => all_glA (by rfl) q)) ?_ | refine VR.extract rfl rfl rfl ?_ | (refine VR.call fok42 rfl rfl rfl rfl ?_; refine v_leftR E a b _ hG _ ?_; rw [hl]) | (refine VR.call fok42 rfl rfl rfl rfl ?_; refine v_leftR E b a _ hG _ ?_; rw [hr])))
   apply VJ.draw3 [] [(0, 0), (1, 0), (2, 0), (3, 0), (4, 0), (5, 0), (6, 0), (7, 0), (8, 0), (9, 0), (10, 0), (11, 0), (12, 0), (13, 0), (14, 0), (15, 0), (16, 0), (17, 0), (18, 0), (19, 0), (20, 0), (21, 0), (22, 0), (23, 0), (24, 0), (25, 0)] [[(10, none)], [(27, some 0)], [(12, none), (28, some 1)], [(28, some 1), (29, some 2)], [(30, some 3)], [(1, none), (31, some 4)], [(6, none), (31, some 4)], [(7, none), (31, some 4)], [(32, some 5), (33, some 6), (34, some 7), (31, some 4)], [(35, some 8), (31, some 4)], [(31, some 4), (36, some 9)], [(37, some 10)], [(9, none), (38, some 11)], [(39, some 12), (38, some 11)], [(9, none), (38, some 11)], [(41, some 14), (38, some 11)], [(9, none), (38, some 11)], [(43, some 16), (38, some 11)], [(11, none), (38, some 11)], [(6, none), (38, some 11)], [(7, none), (38, some 11)], [(45, some 18), (46, some 19), (47, some 20), (38, some 11)], [(40, some 13), (42, some 15), (44, some 17), (48, some 21), (38, some 11)], [(49, some 22), (38, some 11)], [(38, some 11), (50, some 23)], [(51, some 24)]] [[(10, _)], [(27, _)], [(12, _), (28, _)], [(28, _), (29, _)], [(30, _)], [(1, _), (31, _)], [(6, _), (31, _)], [(7, _), (31, _)], [(32, _), (33, _), (34, _), (31, _)], [(35, _), (31, _)], [(31, _), (36, _)], [(37, _)], [(9, _), (38, _)], [(39, _), (38, _)], [(9, _), (38, _)], [(41, _), (38, _)], [(9, _), (38, _)], [(43, _), (38, _)], [(11, _), (38, _)], [(6, _), (38, _)], [(7, _), (38, _)], [(45, _), (46, _), (47, _), (38, _)], [(40, _), (42, _), (44, _), (48, _), (38, _)], [(49, _), (38, _)], [(38, _), (50, _)], [(51, _)]] [_, _, _, _, _, _, _, _, _, _, _, _, _, _, _, _, _, _, _, _, _, _, _, _, _, _] [⟨_, _, _⟩] (by kernel_rfl) ?hok rfl ?hh rfl rfl ?hj
   case hh =>
    refine ⟨?_, ?_, ?_, ?_, ?_, ?_, ?_, ?_, ?_, ?_, ?_, ?_, ?_, ?_, ?_, ?_, ?_, ?_, ?_, ?_, ?_, ?_, ?_, ?_, ?_, ?_, trivial⟩
    all_goals (intro rest K1 hK1; (repeat (first | exact VR.done hK1 | (first | (refine VR.g_no0 rfl rfl (by rfl) ?_) | refine VR.move rfl rfl ?_ | refine VR.assign rfl rfl ?_ | refine VR.pick rfl rfl rfl ?_))); try (first | exact VR.done hK1 | (refine VR.done ?_; dsimp only [S.set]; exact hK1)))
   case hok => kernel_rfl
   case hj =>
    dsimp only [List.append, tla]
    repeat' (first | (fail))
    refine VJ.ret tok (by rfl) (by rfl) ?_
    exact hQ
 | true =>
   cases is with
   | false =>
     repeat' (first | refine VJ.seq ?_ | refine VJ.region_k fun K hK => ?_ | (refine VR.done (hK _ ?_); clear hK K) | (first | refine VR.move rfl rfl ?_ | refine VR.assign rfl rfl ?_ | (show onLd; refine VR.load tok rfl rfl rfl rfl ?_) | refine VR.box rfl rfl rfl ?_ | refine VR.alloc tok rfl rfl rfl ?_ | refine VR.store tok rfl rfl rfl rfl rfl rfl rfl (by first | (intro n e; cases e; done) | exact (fun _ _ q => all_glA (by rfl) q)) ?_ | refine VR.extract rfl rfl rfl ?_ | (refine VR.call fok42 rfl rfl rfl rfl ?_; refine v_leftR E a b _ hG _ ?_; rw [hl]) | (refine VR.call fok42 rfl rfl rfl rfl ?_; refine v_leftR E b a _ hG _ ?_; rw [hr])))
     apply VJ.draw3 [] [(0, 0), (1, 0), (2, 0), (3, 0), (4, 0), (5, 0), (6, 0), (7, 0), (8, 0), (9, 0), (10, 0), (11, 0), (12, 0), (13, 0), (14, 0), (15, 0), (16, 0), (17, 0), (18, 0), (19, 0), (20, 0), (21, 0), (22, 0), (23, 0), (24, 0), (25, 0)] [[(10, none)], [(27, some 0)], [(12, none), (28, some 1)], [(28, some 1), (29, some 2)], [(30, some 3)], [(1, none), (31, some 4)], [(6, none), (31, some 4)], [(7, none), (31, some 4)], [(32, some 5), (33, some 6), (34, some 7), (31, some 4)], [(35, some 8), (31, some 4)], [(31, some 4), (36, some 9)], [(37, some 10)], [(9, none), (38, some 11)], [(39, some 12), (38, some 11)], [(9, none), (38, some 11)], [(41, some 14), (38, some 11)], [(9, none), (38, some 11)], [(43, some 16), (38, some 11)], [(11, none), (38, some 11)], [(6, none), (38, some 11)], [(7, none), (38, some 11)], [(45, some 18), (46, some 19), (47, some 20), (38, some 11)], [(40, some 13), (42, some 15), (44, some 17), (48, some 21), (38, some 11)], [(49, some 22), (38, some 11)], [(38, some 11), (50, some 23)], [(51, some 24)]] [[(10, _)], [(27, _)], [(12, _), (28, _)], [(28, _), (29, _)], [(30, _)], [(1, _), (31, _)], [(6, _), (31, _)], [(7, _), (31, _)], [(32, _), (33, _), (34, _), (31, _)], [(35, _), (31, _)], [(31, _), (36, _)], [(37, _)], [(9, _), (38, _)], [(39, _), (38, _)], [(9, _), (38, _)], [(41, _), (38, _)], [(9, _), (38, _)], [(43, _), (38, _)], [(11, _), (38, _)], [(6, _), (38, _)], [(7, _), (38, _)], [(45, _), (46, _), (47, _), (38, _)], [(40, _), (42, _), (44, _), (48, _), (38, _)], [(49, _), (38, _)], [(38, _), (50, _)], [(51, _)]] [_, _, _, _, _, _, _, _, _, _, _, _, _, _, _, _, _, _, _, _, _, _, _, _, _, _] [⟨_, _, _⟩] (by kernel_rfl) ?hok rfl ?hh rfl rfl ?hj
     case hh =>
      refine ⟨?_, ?_, ?_, ?_, ?_, ?_, ?_, ?_, ?_, ?_, ?_, ?_, ?_, ?_, ?_, ?_, ?_, ?_, ?_, ?_, ?_, ?_, ?_, ?_, ?_, ?_, trivial⟩
      all_goals (intro rest K1 hK1; (repeat (first | exact VR.done hK1 | (first | (refine VR.g_no0 rfl rfl (by rfl) ?_) | refine VR.move rfl rfl ?_ | refine VR.assign rfl rfl ?_ | (refine VR.pickB rfl rfl rfl rfl ?_ ?_ ?_; iterate 2 (first | exact trivial | (refine fun h => ?_; first | (rw [h]; rfl) | (rw [h, hg]; rfl) | (rw [hg, h]; rfl) | (simp [h, hg]; done)))) | refine VR.pick rfl rfl rfl ?_ | refine VR.g_yes rfl rfl (by first | rfl | assumption) ?_))); try (first | exact VR.done hK1 | (refine VR.done ?_; dsimp only [S.set]; exact hK1)))
     case hok => kernel_rfl
     case hj =>
      dsimp only [List.append, tla]
      repeat' (first | (fail))
      refine VJ.ret tok (by rfl) (by rfl) ?_
      exact hQ
   | true =>
     obtain ⟨hv, hxi⟩ := hb1 x (hl1 rfl)
     obtain ⟨_, hyi⟩ := hb2 y (hl2 rfl)
     have ho := valid_ori hv
     have hfi := farR_in hyi a b
     by_cases hk : kindR W a b = 0
     ·have hk1 : (kindR W a b == 0) = true := by simpa using hk
      rw [hk] at hQ
      repeat' (first | refine VJ.seq ?_ | refine VJ.region_k fun K hK => ?_ | (refine VR.done (hK _ ?_); clear hK K) | (first | refine VR.move rfl rfl ?_ | refine VR.assign rfl rfl ?_ | (show onLd; refine VR.load tok rfl rfl rfl rfl ?_) | refine VR.box rfl rfl rfl ?_ | refine VR.alloc tok rfl rfl rfl ?_ | refine VR.store tok rfl rfl rfl rfl rfl rfl rfl (by first | (intro n e; cases e; done) | exact (fun _ _ q => all_glA (by rfl) q)) ?_ | refine VR.extract rfl rfl rfl ?_ | (refine VR.call fok42 rfl rfl rfl rfl ?_; refine v_leftR E a b _ hG _ ?_; rw [hl]) | (refine VR.call fok42 rfl rfl rfl rfl ?_; refine v_leftR E b a _ hG _ ?_; rw [hr])))
      apply VJ.draw3 [] [(0, 0), (1, 0), (2, 0), (3, 0), (4, 0), (5, 0), (6, 0), (7, 0), (8, 0), (9, 0), (10, 0), (11, 0), (12, 0), (13, 0), (14, 0), (15, 0), (16, 0), (17, 0), (18, 0), (19, 0), (20, 0), (21, 0), (22, 0), (23, 0), (24, 0), (25, 0)] [[(10, none)], [(27, some 0)], [(12, none), (28, some 1)], [(28, some 1), (29, some 2)], [(30, some 3)], [(1, none), (31, some 4)], [(6, none), (31, some 4)], [(7, none), (31, some 4)], [(32, some 5), (33, some 6), (34, some 7), (31, some 4)], [(35, some 8), (31, some 4)], [(31, some 4), (36, some 9)], [(37, some 10)], [(9, none), (38, some 11)], [(39, some 12), (38, some 11)], [(9, none), (38, some 11)], [(41, some 14), (38, some 11)], [(9, none), (38, some 11)], [(43, some 16), (38, some 11)], [(11, none), (38, some 11)], [(6, none), (38, some 11)], [(7, none), (38, some 11)], [(45, some 18), (46, some 19), (47, some 20), (38, some 11)], [(40, some 13), (42, some 15), (44, some 17), (48, some 21), (38, some 11)], [(49, some 22), (38, some 11)], [(38, some 11), (50, some 23)], [(51, some 24)]] [[(10, _)], [(27, _)], [(12, _), (28, _)], [(28, _), (29, _)], [(30, _)], [(1, _), (31, _)], [(6, _), (31, _)], [(7, _), (31, _)], [(32, _), (33, _), (34, _), (31, _)], [(35, _), (31, _)], [(31, _), (36, _)], [(37, _)], [(9, _), (38, _)], [(39, _), (38, _)], [(9, _), (38, _)], [(41, _), (38, _)], [(9, _), (38, _)], [(43, _), (38, _)], [(11, _), (38, _)], [(6, _), (38, _)], [(7, _), (38, _)], [(45, _), (46, _), (47, _), (38, _)], [(40, _), (42, _), (44, _), (48, _), (38, _)], [(49, _), (38, _)], [(38, _), (50, _)], [(51, _)]] [_, _, _, _, _, _, _, _, _, _, _, _, _, _, _, _, _, _, _, _, _, _, _, _, _, _] [⟨_, _, _⟩] (by kernel_rfl) ?hok rfl ?hh rfl rfl ?hj
      case hh =>
       refine ⟨?_, ?_, ?_, ?_, ?_, ?_, ?_, ?_, ?_, ?_, ?_, ?_, ?_, ?_, ?_, ?_, ?_, ?_, ?_, ?_, ?_, ?_, ?_, ?_, ?_, ?_, trivial⟩
       all_goals (intro rest K1 hK1; (repeat (first | exact VR.done hK1 | (first | refine VR.move rfl rfl ?_ | refine VR.assign rfl rfl ?_ | (show onLd; refine VR.load tok rfl rfl rfl rfl ?_) | (show onFa; refine VR.fieldAddr tok rfl rfl rfl rfl rfl rfl ?_) | refine VR.int rfl rfl rfl rfl ?_ | (refine VR.pickB rfl rfl rfl rfl ?_ ?_ ?_; iterate 2 (first | exact trivial | (refine fun h => ?_; first | (rw [h]; rfl) | (rw [h, hg]; rfl) | (rw [hg, h]; rfl) | (simp [h, hg]; done)))) | refine VR.g_yes rfl rfl (by first | rfl | assumption) ?_ | (refine VR.call fok96 rfl rfl rfl rfl ?_; refine v_kindR W few a b _ hW _ ?_; rw [hk]) | (refine VR.call fok98 rfl rfl rfl rfl ?_; refine v_farR y a b _ _ ?_) | (refine VR.call fok97 rfl rfl rfl rfl ?_; refine v_circle x.a x.b x.c (farR y a b) hxi.1 hxi.2.1 hxi.2.2 hfi ho _ _ ?_)))); try (first | exact VR.done hK1 | (refine VR.done ?_; dsimp only [S.set]; exact hK1)))
      case hok => kernel_rfl
      case hj =>
       dsimp only [List.append, tla]
       repeat' (first | (fail))
       refine VJ.ret tok (by rfl) (by rfl) ?_
       exact hQ
     ·have hk1 : (kindR W a b == 0) = false := by simpa using hk
      rw [hk1] at hQ
      repeat' (first | refine VJ.seq ?_ | refine VJ.region_k fun K hK => ?_ | (refine VR.done (hK _ ?_); clear hK K) | (first | refine VR.move rfl rfl ?_ | refine VR.assign rfl rfl ?_ | (show onLd; refine VR.load tok rfl rfl rfl rfl ?_) | refine VR.box rfl rfl rfl ?_ | refine VR.alloc tok rfl rfl rfl ?_ | refine VR.store tok rfl rfl rfl rfl rfl rfl rfl (by first | (intro n e; cases e; done) | exact (fun _ _ q => all_glA (by rfl) q)) ?_ | refine VR.extract rfl rfl rfl ?_ | (refine VR.call fok42 rfl rfl rfl rfl ?_; refine v_leftR E a b _ hG _ ?_; rw [hl]) | (refine VR.call fok42 rfl rfl rfl rfl ?_; refine v_leftR E b a _ hG _ ?_; rw [hr])))
      apply VJ.draw3 [] [(0, 0), (1, 0), (2, 0), (3, 0), (4, 0), (5, 0), (6, 0), (7, 0), (8, 0), (9, 0), (10, 0), (11, 0), (12, 0), (13, 0), (14, 0), (15, 0), (16, 0), (17, 0), (18, 0), (19, 0), (20, 0), (21, 0), (22, 0), (23, 0), (24, 0), (25, 0)] [[(10, none)], [(27, some 0)], [(12, none), (28, some 1)], [(28, some 1), (29, some 2)], [(30, some 3)], [(1, none), (31, some 4)], [(6, none), (31, some 4)], [(7, none), (31, some 4)], [(32, some 5), (33, some 6), (34, some 7), (31, some 4)], [(35, some 8), (31, some 4)], [(31, some 4), (36, some 9)], [(37, some 10)], [(9, none), (38, some 11)], [(39, some 12), (38, some 11)], [(9, none), (38, some 11)], [(41, some 14), (38, some 11)], [(9, none), (38, some 11)], [(43, some 16), (38, some 11)], [(11, none), (38, some 11)], [(6, none), (38, some 11)], [(7, none), (38, some 11)], [(45, some 18), (46, some 19), (47, some 20), (38, some 11)], [(40, some 13), (42, some 15), (44, some 17), (48, some 21), (38, some 11)], [(49, some 22), (38, some 11)], [(38, some 11), (50, some 23)], [(51, some 24)]] [[(10, _)], [(27, _)], [(12, _), (28, _)], [(28, _), (29, _)], [(30, _)], [(1, _), (31, _)], [(6, _), (31, _)], [(7, _), (31, _)], [(32, _), (33, _), (34, _), (31, _)], [(35, _), (31, _)], [(31, _), (36, _)], [(37, _)], [(9, _), (38, _)], [(39, _), (38, _)], [(9, _), (38, _)], [(41, _), (38, _)], [(9, _), (38, _)], [(43, _), (38, _)], [(11, _), (38, _)], [(6, _), (38, _)], [(7, _), (38, _)], [(45, _), (46, _), (47, _), (38, _)], [(40, _), (42, _), (44, _), (48, _), (38, _)], [(49, _), (38, _)], [(38, _), (50, _)], [(51, _)]] [_, _, _, _, _, _, _, _, _, _, _, _, _, _, _, _, _, _, _, _, _, _, _, _, _, _] [⟨_, _, _⟩] (by kernel_rfl) ?hok rfl ?hh rfl rfl ?hj
      case hh =>
       refine ⟨?_, ?_, ?_, ?_, ?_, ?_, ?_, ?_, ?_, ?_, ?_, ?_, ?_, ?_, ?_, ?_, ?_, ?_, ?_, ?_, ?_, ?_, ?_, ?_, ?_, ?_, trivial⟩
       all_goals (intro rest K1 hK1; (repeat (first | exact VR.done hK1 | (first | refine VR.move rfl rfl ?_ | refine VR.assign rfl rfl ?_ | (show onLd; refine VR.load tok rfl rfl rfl rfl ?_) | refine VR.int rfl rfl rfl rfl ?_ | (refine VR.pickB rfl rfl rfl rfl ?_ ?_ ?_; iterate 2 (first | exact trivial | (refine fun h => ?_; first | (rw [h]; rfl) | (rw [h, hg]; rfl) | (rw [hg, h]; rfl) | (simp [h, hg]; done)))) | refine VR.g_yes rfl rfl (by first | rfl | assumption) ?_ | refine VR.g_no rfl rfl rfl (by first | rfl | assumption) ?_ | (refine VR.call fok96 rfl rfl rfl rfl ?_; refine v_kindR W few a b _ hW _ ?_) | (refine VR.pick_no rfl rfl (by assumption) rfl ?_)))); try (first | exact VR.done hK1 | (refine VR.done ?_; dsimp only [S.set]; exact hK1)))
      case hok => kernel_rfl
      case hj =>
       dsimp only [List.append, tla]
       repeat' (first | (fail))
       refine VJ.ret tok (by rfl) (by rfl) ?_
       exact hQ
end Go.Proofs.YtnpnjhopgedhkaaGreat
namespace Go.Proofs.YtnpnjhopgedhkaaGreat
open Go.RowKit V Geo
def sumF (f : Tr → Int) : List Tr → Int
 | [] => 0
 | t :: l => f t + sumF f l
theorem sumF_perm (f : Tr → Int) {l l' : List Tr} (h : l.Perm l') : sumF f l = sumF f l' := by
 induction h with
 | nil => rfl
 | cons t _ ih => unfold sumF; rw [ih]
 | swap t u l => simp only [sumF]; omega
 | trans _ _ h1 h2 => exact h1.trans h2
theorem sumF_erase (f : Tr → Int) {l : List Tr} {t : Tr} (h : t ∈ l) : sumF f l = f t + sumF f (l.erase t) := (sumF_perm f (List.perm_cons_erase h)).trans rfl
theorem sumF_nonneg (f : Tr → Int) {l : List Tr} (h : ∀ t ∈ l, 0 ≤ f t) : 0 ≤ sumF f l := by
 induction l with
 | nil => exact Int.le_refl _
 | cons t l ih =>
   have h1 := h t (by simp)
   have h2 := ih fun u hu => h u (List.mem_cons_of_mem _ hu)
   unfold sumF; omega
theorem sumF_len (f : Tr → Int) {l : List Tr} (h : ∀ t ∈ l, 1 ≤ f t) : (l.length : Int) ≤ sumF f l := by
 induction l with
 | nil => exact Int.le_refl _
 | cons t l ih =>
   have h1 := h t (by simp)
   have h2 := ih fun u hu => h u (List.mem_cons_of_mem _ hu)
   unfold sumF; rw [List.length_cons]; omega
theorem sumF_app (f : Tr → Int) (l l' : List Tr) : sumF f (l ++ l') = sumF f l + sumF f l' := by
 induction l with
 | nil => simp [sumF]
 | cons t l ih =>
   show f t + sumF f (l ++ l') = f t + sumF f l + sumF f l'
   rw [ih]; omega
def ar (t : Tr) : Int := tw t.a t.b t.c
theorem ents_nd (l : List Tr) (hv : ∀ t ∈ l, validT t = true) (hn : l.Nodup) : (ents l).Nodup := by
 induction l with
 | nil => exact List.nodup_nil
 | cons t l ih =>
   obtain ⟨h1, h2⟩ := List.nodup_cons.1 hn
   have e : ents (t :: l) = entT t ++ ents l := by unfold ents; rw [List.flatMap_cons]
   rw [e, List.nodup_append]
   refine ⟨?_, ih (fun u hu => hv u (List.mem_cons_of_mem _ hu)) h2, fun p hp q hq hpq => ?_⟩
   ·obtain ⟨n1, n2, n3⟩ := edge_ne (hv t (by simp))
    unfold entT around
    simp [n1.symm, n2.symm, n3.symm, Ne.symm]
   ·subst hpq
    obtain ⟨e, u⟩ := p
    have a := ((mem_entT t u e).1 hp).1
    have b := ((mem_ents l u e).1 hq).1
    exact h1 (a ▸ b)
theorem MO.perm_ents {E : LS} {l : List Tr} (h : MO E l) : E.Perm (ents l) := by
 have n1 : E.Nodup := by
  have := h.nd
  rw [List.nodup_iff_pairwise_ne, List.pairwise_map] at this
  exact List.nodup_iff_pairwise_ne.2 (this.imp fun {a b} hab e => hab (congrArg Prod.fst e))
 refine (List.perm_ext_iff_of_nodup n1 (ents_nd l h.val h.one)).2 fun p => ?_
 obtain ⟨e, t⟩ := p
 rw [mem_ents, ← h.get]
 exact ⟨fun hm => Mp.mem_get h.nd hm, fun hm => Mp.get_mem hm⟩
theorem MO.len {E : LS} {l : List Tr} (h : MO E l) : E.length = 3 * l.length := by rw [h.perm_ents.length_eq, ents_len]
theorem MO.trs {E : LS} {l : List Tr} (h : MO E l) : (trsOf E).Perm l := by
 have := trsOf_perm h.perm_ents
 rwa [trs_ents l h.val] at this
def Rot3 (t : Tr) (a b c : Pt) : Prop := t = ⟨a, b, c⟩ ∨ t = ⟨b, c, a⟩ ∨ t = ⟨c, a, b⟩
theorem Rot3.mem {t : Tr} {a b c : Pt} (h : Rot3 t a b c) (e : En) : e ∈ around t ↔ e = ⟨a, b⟩ ∨ e = ⟨b, c⟩ ∨ e = ⟨c, a⟩ := by
 rw [mem_around]
 rcases h with rfl | rfl | rfl
 ·exact Iff.rfl
 ·exact ⟨fun h => h.elim (fun h => .inr (.inl h)) (fun h => h.elim (fun h => .inr (.inr h)) .inl), fun h => h.elim (fun h => .inr (.inr h)) (fun h => h.elim .inl (fun h => .inr (.inl h)))⟩
 ·exact ⟨fun h => h.elim (fun h => .inr (.inr h)) (fun h => h.elim .inl (fun h => .inr (.inl h))), fun h => h.elim (fun h => .inr (.inl h)) (fun h => h.elim (fun h => .inr (.inr h)) .inl)⟩
theorem Rot3.ne {t : Tr} {a b c : Pt} (h : Rot3 t a b c) (hv : validT t = true) : a ≠ b ∧ b ≠ c ∧ c ≠ a := by
 obtain ⟨n1, n2, n3⟩ := valid_ne hv
 rcases h with rfl | rfl | rfl
 ·exact ⟨n1, n2, n3⟩
 ·exact ⟨n3, n1, n2⟩
 ·exact ⟨n2, n3, n1⟩
theorem Rot3.inT {t : Tr} {a b c : Pt} (h : Rot3 t a b c) : inT t ↔ inB a ∧ inB b ∧ inB c := by
 unfold Go.Proofs.YtnpnjhopgedhkaaGreat.inT
 rcases h with rfl | rfl | rfl
 ·exact Iff.rfl
 ·exact ⟨fun ⟨x, y, z⟩ => ⟨z, x, y⟩, fun ⟨x, y, z⟩ => ⟨y, z, x⟩⟩
 ·exact ⟨fun ⟨x, y, z⟩ => ⟨y, z, x⟩, fun ⟨x, y, z⟩ => ⟨z, x, y⟩⟩
theorem Rot3.phi {t : Tr} {a b c : Pt} (h : Rot3 t a b c) : phi t = phi ⟨a, b, c⟩ := by
 rcases h with rfl | rfl | rfl
 ·rfl
 ·exact phi_rot ⟨a, b, c⟩
 ·exact ((phi_rot ⟨c, a, b⟩).symm)
theorem Rot3.ar {t : Tr} {a b c : Pt} (h : Rot3 t a b c) : ar t = tw a b c := by
 unfold Go.Proofs.YtnpnjhopgedhkaaGreat.ar
 rcases h with rfl | rfl | rfl
 ·rfl
 ·exact tw_rot a b c
 ·exact (tw_rot c a b).symm
theorem dH_rot (a b c d : Pt) : dH b c a d = dH a b c d := by
 unfold dH
 have h1 : tw d c a = tw a d c := (tw_rot d c a).symm.trans (by unfold tw; grind)
 have h2 : tw b d a = tw a b d := by unfold tw; grind
 have h3 : tw b c d = tw d b c := by unfold tw; grind
 have h4 : tw b c a = tw a b c := tw_rot a b c
 rw [h1, h2, h3, h4]
 omega
theorem Rot3.dH {t : Tr} {a b c : Pt} (h : Rot3 t a b c) (d : Pt) : dH t.a t.b t.c d = dH a b c d := by
 rcases h with rfl | rfl | rfl
 ·rfl
 ·exact dH_rot a b c d
 ·exact (dH_rot c a b d).symm
theorem far_rot {t : Tr} {a b : Pt} (hv : validT t = true) (h : (⟨a, b⟩ : En) ∈ around t) : Rot3 t a b (farR t a b) ∧ farT t a b = farR t a b ∧ farR t b a = farR t a b ∧ farT t b a = farR t a b := by
 obtain ⟨n1, n2, n3⟩ := valid_ne hv
 obtain ⟨p, q, r⟩ := t
 dsimp only at n1 n2 n3
 rcases (mem_around _ _).1 h with e | e | e
 ·obtain ⟨rfl, rfl⟩ : a = p ∧ b = q := ⟨congrArg En.a e, congrArg En.b e⟩
  have e1 : farR ⟨a, b, r⟩ a b = r := by simp [farR, farRN, Tr.cor]
  refine ⟨by rw [e1]; exact .inl rfl, ?_, ?_, ?_⟩ <;> rw [e1] <;> simp [farR, farRN, farT, farN, Tr.cor, n1, n2, n3, n1.symm, n2.symm, n3.symm]
 ·obtain ⟨rfl, rfl⟩ : a = q ∧ b = r := ⟨congrArg En.a e, congrArg En.b e⟩
  have e1 : farR ⟨p, a, b⟩ a b = p := by simp [farR, farRN, Tr.cor, n1, n3.symm]
  refine ⟨by rw [e1]; exact .inr (.inr rfl), ?_, ?_, ?_⟩ <;> rw [e1] <;> simp [farR, farRN, farT, farN, Tr.cor, n1, n2, n3, n1.symm, n2.symm, n3.symm]
 ·obtain ⟨rfl, rfl⟩ : a = r ∧ b = p := ⟨congrArg En.a e, congrArg En.b e⟩
  have e1 : farR ⟨b, q, a⟩ a b = q := by simp [farR, farRN, Tr.cor, n2, n1.symm]
  refine ⟨by rw [e1]; exact .inr (.inl rfl), ?_, ?_, ?_⟩ <;> rw [e1] <;> simp [farR, farRN, farT, farN, Tr.cor, n1, n2, n3, n1.symm, n2.symm, n3.symm]
theorem ori_rot (a b c : Pt) : oriG b c a = oriG a b c := by
 unfold oriG
 rw [tw_rot]
 by_cases h : a.ok ∧ b.ok ∧ c.ok
 ·rw [if_pos h, if_pos ⟨h.2.1, h.2.2, h.1⟩]
 ·rw [if_neg h, if_neg (fun h' => h ⟨h'.2.2, h'.1, h'.2.1⟩)]
theorem lead_valid {a b c : Pt} (h : oriG a b c = 1) : validT (lead a b c) = true := by
 have key : ∀ p q r : Pt, oriG p q r = 1 → ¬ rot p q r = true → validT ⟨p, q, r⟩ = true := fun p q r ho hr => by
  unfold validT makeT
  rw [if_neg (by rw [ho]; decide), if_neg (by rw [ho]; decide)]
  unfold lead
  rw [if_neg hr]
  simp
 unfold lead
 split
 ·rename_i h1
  split
  ·rename_i h2
   exact key c a b ((ori_rot c a b).symm.trans h) (rot_three h1 h2)
  ·rename_i h2
   exact key b c a ((ori_rot a b c).trans h) h2
 ·rename_i h1
  exact key a b c h h1
theorem make_pos {a b c : Pt} (h : 0 < oriG a b c) : (makeT a b c).2 = true ∧ validT (makeT a b c).1 = true ∧ Rot3 (makeT a b c).1 a b c := by
 have h1 : oriG a b c = 1 := by rcases ori_three a b c with e | e | e <;> omega
 have e : makeT a b c = (lead a b c, true) := by
  unfold makeT
  rw [if_neg (by rw [h1]; decide), if_neg (by rw [h1]; decide)]
 rw [e]
 refine ⟨rfl, lead_valid h1, ?_⟩
 rcases lead_cases a b c with q | q | q
 ·exact .inl q
 ·exact .inr (.inl q)
 ·exact .inr (.inr q)
structure FlipI (E : LS) (l : List Tr) (a b : Pt) (s t x y : Tr) (c d : Pt) : Prop where
 sm : s ∈ l
 tm : t ∈ l
 ne : s ≠ t
 sr : Rot3 s a b c
 tr : Rot3 t b a d
 xr : Rot3 x a d c
 yr : Rot3 y d b c
 xv : validT x = true
 yv : validT y = true
 ls : leftOf E a b = (s, true)
 lt : leftOf E b a = (t, true)
 cs : farR s a b = c
 dt : farR t a b = d
 xm : (makeT a d c).1 = x
 ym : (makeT d b c).1 = y
 o1 : 0 < oriG a d c
 o2 : 0 < oriG d b c
theorem not_both {s t : Tr} {a b c d : Pt} (hs : validT s = true) (h1 : Rot3 s a b c) (h2 : Rot3 t b a d) : s ≠ t := by
 rintro rfl
 obtain ⟨n1, n2, n3⟩ := h1.ne hs
 have := (h1.mem ⟨b, a⟩).1 ((h2.mem ⟨b, a⟩).2 (.inl rfl))
 rcases this with e | e | e
 ·exact n1 (congrArg En.b e)
 ·exact n3 (congrArg En.b e).symm
 ·exact n2 (congrArg En.a e)
theorem flipI_of {E : LS} {l : List Tr} (h : MO E l) {a b : Pt} (h1 : ¬ (bif !(leftOf E a b).2 then true else !(leftOf E b a).2) = true)
 (h2 : ¬ (bif decide (oriG a (farR (leftOf E b a).1 a b) (farR (leftOf E a b).1 a b) ≤ 0) then true else decide (oriG (farR (leftOf E b a).1 a b) b (farR (leftOf E a b).1 a b) ≤ 0)) = true) :
 ∃ s t x y c d, FlipI E l a b s t x y c d := by
 have k1 : (leftOf E a b).2 = true := by cases e : (leftOf E a b).2 <;> simp [e] at h1 ⊢
 have k2 : (leftOf E b a).2 = true := by cases e : (leftOf E b a).2 <;> simp [k1, e] at h1 ⊢
 have g1 := left_get k1
 have g2 := left_get k2
 obtain ⟨s, hs⟩ : ∃ s, (leftOf E a b).1 = s := ⟨_, rfl⟩
 obtain ⟨t, ht⟩ : ∃ t, (leftOf E b a).1 = t := ⟨_, rfl⟩
 rw [hs] at g1 h2
 rw [ht] at g2 h2
 obtain ⟨sm, se⟩ := (h.get _ _).1 g1
 obtain ⟨tm, te⟩ := (h.get _ _).1 g2
 obtain ⟨r1, r2, r3, r4⟩ := far_rot (h.val s sm) se
 obtain ⟨q1, q2, q3, q4⟩ := far_rot (h.val t tm) te
 rw [← q3] at q1
 have o1 : 0 < oriG a (farR t a b) (farR s a b) := by
  by_cases e : oriG a (farR t a b) (farR s a b) ≤ 0
  ·simp [e] at h2
  ·omega
 have o2 : 0 < oriG (farR t a b) b (farR s a b) := by
  have e1 : ¬ oriG a (farR t a b) (farR s a b) ≤ 0 := by omega
  by_cases e : oriG (farR t a b) b (farR s a b) ≤ 0
  ·simp [e] at h2
  ·omega
 obtain ⟨_, xv, xr⟩ := make_pos o1
 obtain ⟨_, yv, yr⟩ := make_pos o2
 exact ⟨s, t, _, _, _, _, sm, tm, not_both (h.val s sm) r1 q1, r1, q1, xr, yr, xv, yv, Prod.ext hs k1, Prod.ext ht k2, rfl, rfl, rfl, rfl, o1, o2⟩
theorem FlipI.code {E : LS} {l : List Tr} {a b : Pt} {s t x y : Tr} {c d : Pt} (f : FlipI E l a b s t x y c d) : flipC E a b = if blkR E a b s t c d = true then 2 else 0 := by
 unfold flipC
 rw [f.ls, f.lt]
 dsimp only
 rw [f.cs, f.dt, if_neg (by simp), if_neg (by have := f.o1; have := f.o2; rw [decide_eq_false (by omega), decide_eq_false (by omega)]; simp)]
theorem FlipI.state {E : LS} {l : List Tr} {a b : Pt} {s t x y : Tr} {c d : Pt} (f : FlipI E l a b s t x y c d) : flipS E a b = putS (putS (delE (delE E (around s)) (around t)) x) y := by
 unfold flipS
 rw [f.ls, f.lt]
 dsimp only
 rw [f.cs, f.dt, f.xm, f.ym]
theorem blk_free {E : LS} {l : List Tr} (h : MO E l) {a b : Pt} {s t : Tr} {c d : Pt} (hs : s ∈ l) (ht : t ∈ l) : blkR E a b s t c d = false ↔ (∀ u, Mp.get E ⟨d, c⟩ = some u → u = s ∨ u = t) ∧ (∀ u, Mp.get E ⟨c, d⟩ = some u → u = s ∨ u = t) := by
 unfold blkR
 have key : ∀ e : En, ((leftOf E e.a e.b).2 && !decide ((leftOf E e.a e.b).1 = s) && !decide ((leftOf E e.a e.b).1 = t)) = false ↔ (∀ u, Mp.get E e = some u → u = s ∨ u = t) := fun e => by
  unfold leftOf
  cases hg : Mp.get E ⟨e.a, e.b⟩ with
  | none =>
    have hg' : Mp.get E e = none := hg
    simp [hg']
  | some u =>
    have hg' : Mp.get E e = some u := hg
    by_cases h1 : u = s <;> by_cases h2 : u = t <;> simp [hg', h1, h2]
 rw [Bool.or_eq_false_iff, key ⟨d, c⟩, key ⟨c, d⟩]
theorem FlipI.fits {E : LS} {l : List Tr} (h : MO E l) {a b : Pt} {s t x y : Tr} {c d : Pt} (f : FlipI E l a b s t x y c d) :
 (fitsR (delE (delE E (around s)) (around t)) x = true ∧ fitsR (addEs (delE (delE E (around s)) (around t)) x (around x)) y = true) ↔ blkR E a b s t c d = false := by
 have hE1 := h.take f.sm
 have tm1 : t ∈ l.erase s := (h.one.mem_erase_iff).2 ⟨f.ne.symm, f.tm⟩
 have g2 : ∀ e, Mp.get (delE (delE E (around s)) (around t)) e = if e ∈ around t then none else if e ∈ around s then none else Mp.get E e := fun e => by
  rw [get_delE _ _ hE1.nd, get_delE _ _ h.nd]
 obtain ⟨n1, n2, n3⟩ := f.sr.ne (h.val s f.sm)
 obtain ⟨m1, m2, m3⟩ := f.tr.ne (h.val t f.tm)
 obtain ⟨p1, p2, p3⟩ := f.xr.ne f.xv
 obtain ⟨q1, q2, q3⟩ := f.yr.ne f.yv
 rw [blk_free h f.sm f.tm, fits_iff, fits_iff]
 have e1 : (⟨a, d⟩ : En) ∈ around t := (f.tr.mem _).2 (.inr (.inl rfl))
 have e2 : (⟨c, a⟩ : En) ∈ around s := (f.sr.mem _).2 (.inr (.inr rfl))
 have e3 : (⟨d, b⟩ : En) ∈ around t := (f.tr.mem _).2 (.inr (.inr rfl))
 have e4 : (⟨b, c⟩ : En) ∈ around s := (f.sr.mem _).2 (.inr (.inl rfl))
 have gone : ∀ e : En, Mp.get (delE (delE E (around s)) (around t)) e = none ↔ (∀ u, Mp.get E e = some u → u = s ∨ u = t) := fun e => by
  rw [g2]
  constructor
  ·intro hn u hu
   by_cases k1 : e ∈ around t
   ·exact .inr (h.uniq ((h.get e u).1 hu).1 f.tm ((h.get e u).1 hu).2 k1)
   ·by_cases k2 : e ∈ around s
    ·exact .inl (h.uniq ((h.get e u).1 hu).1 f.sm ((h.get e u).1 hu).2 k2)
    ·rw [if_neg k1, if_neg k2, hu] at hn; cases hn
  ·intro hn
   cases hg : Mp.get E e with
   | none => by_cases k1 : e ∈ around t <;> by_cases k2 : e ∈ around s <;> simp [k1, k2]
   | some u =>
     have hm := ((h.get e u).1 hg).2
     rcases hn u hg with rfl | rfl
     ·by_cases k1 : e ∈ around t <;> simp [k1, hm]
     ·simp [hm]
 constructor
 ·rintro ⟨hx, hy⟩
  refine ⟨(gone _).1 (hx _ ((f.xr.mem _).2 (.inr (.inl rfl)))), (gone _).1 ?_⟩
  have := hy ⟨c, d⟩ ((f.yr.mem _).2 (.inr (.inr rfl)))
  rw [get_addEs] at this
  split at this
  ·cases this
  ·exact this
 ·rintro ⟨hd, hc⟩
  refine ⟨fun e he => ?_, fun e he => ?_⟩
  ·rcases (f.xr.mem e).1 he with rfl | rfl | rfl
   ·rw [g2, if_pos e1]
   ·exact (gone _).2 hd
   ·rw [g2]; by_cases k : (⟨c, a⟩ : En) ∈ around t <;> simp [k, e2]
  ·rw [get_addEs]
   have hxn : e ∉ around x := by
    rw [f.xr.mem]
    rcases (f.yr.mem e).1 he with rfl | rfl | rfl
    ·rintro (k | k | k)
     ·exact p1 (congrArg En.a k).symm
     ·exact n2 (congrArg En.b k)
     ·exact n1 (congrArg En.b k).symm
    ·rintro (k | k | k)
     ·exact n1 (congrArg En.a k).symm
     ·exact q1 (congrArg En.a k).symm
     ·exact n2 (congrArg En.a k)
    ·rintro (k | k | k)
     ·exact n3 (congrArg En.a k)
     ·exact p2 (congrArg En.a k).symm
     ·exact p1 (congrArg En.b k).symm
   rw [if_neg hxn]
   rcases (f.yr.mem e).1 he with rfl | rfl | rfl
   ·rw [g2, if_pos e3]
   ·rw [g2]; by_cases k : (⟨b, c⟩ : En) ∈ around t <;> simp [k, e4]
   ·exact (gone _).2 hc
theorem FlipI.done {E : LS} {l : List Tr} (h : MO E l) {a b : Pt} {s t x y : Tr} {c d : Pt} (f : FlipI E l a b s t x y c d) (hb : blkR E a b s t c d = false) : MO (flipS E a b) (y :: x :: (l.erase s).erase t) := by
 obtain ⟨k1, k2⟩ := (f.fits h).2 hb
 have tm1 : t ∈ l.erase s := (h.one.mem_erase_iff).2 ⟨f.ne.symm, f.tm⟩
 rw [f.state]
 unfold putS
 rw [if_pos k1, if_pos k2]
 exact (((h.take f.sm).take tm1).put f.xv k1).put f.yv k2
theorem flip_cases {E : LS} {l : List Tr} (h : MO E l) {a b : Pt} (hc : flipC E a b = 0) : ∃ s t x y c d, FlipI E l a b s t x y c d ∧ MO (flipS E a b) (y :: x :: (l.erase s).erase t) := by
 have h1 : ¬ (bif !(leftOf E a b).2 then true else !(leftOf E b a).2) = true := fun e => by unfold flipC at hc; rw [if_pos e] at hc; cases hc
 have h2 : ¬ (bif decide (oriG a (farR (leftOf E b a).1 a b) (farR (leftOf E a b).1 a b) ≤ 0) then true else decide (oriG (farR (leftOf E b a).1 a b) b (farR (leftOf E a b).1 a b) ≤ 0)) = true := fun e => by unfold flipC at hc; rw [if_neg h1, if_pos e] at hc; cases hc
 obtain ⟨s, t, x, y, c, d, f⟩ := flipI_of h h1 h2
 refine ⟨s, t, x, y, c, d, f, f.done h ?_⟩
 have := f.code
 rw [hc] at this
 cases e : blkR E a b s t c d
 ·rfl
 ·rw [if_pos e] at this; cases this
theorem FlipI.sum {E : LS} {l : List Tr} (h : MO E l) {a b : Pt} {s t x y : Tr} {c d : Pt} (f : FlipI E l a b s t x y c d) (g : Tr → Int) : sumF g l + g x + g y = sumF g (y :: x :: (l.erase s).erase t) + g s + g t := by
 have tm1 : t ∈ l.erase s := (h.one.mem_erase_iff).2 ⟨f.ne.symm, f.tm⟩
 have h1 := sumF_erase g f.sm
 have h2 := sumF_erase g tm1
 show sumF g l + g x + g y = g y + (g x + sumF g ((l.erase s).erase t)) + g s + g t
 omega
theorem FlipI.phi {E : LS} {l : List Tr} {a b : Pt} {s t x y : Tr} {c d : Pt} (f : FlipI E l a b s t x y c d) : phi s + phi t = phi x + phi y + dH a b c d := by
 rw [f.sr.phi, f.tr.phi, f.xr.phi, f.yr.phi]
 exact flip_cost a b c d
theorem FlipI.ar {E : LS} {l : List Tr} {a b : Pt} {s t x y : Tr} {c d : Pt} (f : FlipI E l a b s t x y c d) : ar s + ar t = ar x + ar y := by
 rw [f.sr.ar, f.tr.ar, f.xr.ar, f.yr.ar]
 have h2 := tw_sum a b c d
 have h1 : tw b a d = -tw a b d := by unfold tw; grind
 omega
theorem FlipI.box {E : LS} {l : List Tr} {a b : Pt} {s t x y : Tr} {c d : Pt} (f : FlipI E l a b s t x y c d) (hs : inT s) (ht : inT t) : inT x ∧ inT y := by
 obtain ⟨a1, a2, a3⟩ := f.sr.inT.1 hs
 obtain ⟨b1, b2, b3⟩ := f.tr.inT.1 ht
 exact ⟨f.xr.inT.2 ⟨a1, b3, a3⟩, f.yr.inT.2 ⟨b3, a2, a3⟩⟩
structure SqL (m : Int) (E : LS) (l : List Tr) : Prop where
 mo : MO E l
 bx : ∀ t ∈ l, inT t
 ar : sumF ar l ≤ m
theorem ar_pos {t : Tr} (hv : validT t = true) : 1 ≤ ar t := by
 have h := valid_ori hv
 unfold oriG at h
 split at h
 ·have := sg_one h
  unfold ar; omega
 ·cases h
theorem SqL.few {m : Int} {E : LS} {l : List Tr} (h : SqL m E l) : (l.length : Int) ≤ m := Int.le_trans (sumF_len _ fun t ht => ar_pos (h.mo.val t ht)) h.ar
theorem SqL.box {m : Int} {E : LS} {l : List Tr} (h : SqL m E l) : BoxE E := fun e t hg => ⟨h.mo.val t ((h.mo.get e t).1 hg).1, h.bx t ((h.mo.get e t).1 hg).1⟩
theorem SqL.flip {m : Int} {E : LS} {l : List Tr} (h : SqL m E l) {a b : Pt} (hc : flipC E a b = 0) : ∃ l', SqL m (flipS E a b) l' ∧ sumF Go.Proofs.YtnpnjhopgedhkaaGreat.ar l' = sumF Go.Proofs.YtnpnjhopgedhkaaGreat.ar l := by
 obtain ⟨s, t, x, y, c, d, f, hm⟩ := flip_cases h.mo hc
 have hs := f.sum h.mo Go.Proofs.YtnpnjhopgedhkaaGreat.ar
 have ha := f.ar
 have he : sumF Go.Proofs.YtnpnjhopgedhkaaGreat.ar (y :: x :: (l.erase s).erase t) = sumF Go.Proofs.YtnpnjhopgedhkaaGreat.ar l := by omega
 obtain ⟨bx, by'⟩ := f.box (h.bx s f.sm) (h.bx t f.tm)
 refine ⟨_, ⟨hm, fun u hu => ?_, by rw [he]; exact h.ar⟩, he⟩
 rcases List.mem_cons.1 hu with rfl | hu
 ·exact by'
 rcases List.mem_cons.1 hu with rfl | hu
 ·exact bx
 ·exact h.bx u (List.mem_of_mem_erase (List.mem_of_mem_erase hu))
def PhiE (E : LS) : Int := sumF phi (trsOf E)
theorem phi_nonneg {t : Tr} (hv : validT t = true) : 0 ≤ phi t := by
 have h1 := ar_pos hv
 unfold phi
 have := hh_nonneg t.a
 have := hh_nonneg t.b
 have := hh_nonneg t.c
 exact Int.mul_nonneg (by unfold ar at h1; omega) (by omega)
theorem PhiE_eq {E : LS} {l : List Tr} (h : MO E l) : PhiE E = sumF phi l := sumF_perm _ h.trs
theorem PhiE_nonneg {E : LS} {l : List Tr} (h : MO E l) : 0 ≤ PhiE E := by
 rw [PhiE_eq h]
 exact sumF_nonneg _ fun t ht => phi_nonneg (h.val t ht)
theorem SqL.cost {m : Int} {E : LS} {l : List Tr} (h : SqL m E l) {W : List Wl} {a b : Pt} (hb : badR E W a b = true) (hc : flipC E a b = 0) : (PhiE (flipS E a b)).toNat < (PhiE E).toNat := by
 obtain ⟨s, t, x, y, c, d, f, hm⟩ := flip_cases h.mo hc
 have hs := f.sum h.mo phi
 have hp := f.phi
 have e1 := PhiE_eq h.mo
 have e2 := PhiE_eq hm
 have n1 := PhiE_nonneg hm
 have hd : 0 < dH a b c d := by
  unfold badR at hb
  rw [f.ls, f.lt] at hb
  dsimp only at hb
  rw [f.dt] at hb
  have hb : circR s.a s.b s.c d = 1 := by
   have : (circR s.a s.b s.c d == 1) = true := by
    revert hb
    cases (circR s.a s.b s.c d == 1) <;> simp
   simpa using this
  unfold circR at hb
  split at hb
  ·cases hb
  ·rename_i hn
   have hi := h.bx s f.sm
   have ht := f.tr.inT.1 (h.bx t f.tm)
   have hpos := ar_pos (h.mo.val s f.sm)
   have := circ_pos hi.1 hi.2.1 hi.2.2 ht.2.2 (by unfold Go.Proofs.YtnpnjhopgedhkaaGreat.ar at hpos; omega) (fun e => hn (.inl e)) (fun e => hn (.inr (.inl e))) (fun e => hn (.inr (.inr e))) hb
   rwa [f.sr.dH] at this
 omega
end Go.Proofs.YtnpnjhopgedhkaaGreat
namespace Go.Proofs.YtnpnjhopgedhkaaGreat
open Go.RowKit V Geo
abbrev GD (E : LS) (z : Nat × Obj) (W l : List Wl) (G : Gl) : Gl := gov [(3, bxN), (4, .map En.v Tr.v E (some z)), (5, bxR W), (7, bxR l)] G
theorem GD_7 (E : LS) (z : Nat × Obj) (W l l' : List Wl) (G : Gl) (n : Nat) : gset (GD E z W l G) 7 (bxR l') n = GD E z W l' G n := by
 by_cases h7 : n = 7
 ·subst h7; rfl
 by_cases h3 : n = 3
 ·subst h3; rfl
 by_cases h4 : n = 4
 ·subst h4; rfl
 by_cases h5 : n = 5
 ·subst h5; rfl
 ·simp [gset, gov, lk, h3, h4, h5, h7]
attribute [local irreducible] VR VJ VC decOk decBt
set_option maxRecDepth 20000 in
set_option maxHeartbeats 4000000 in
theorem v_bads (E : LS) (few : E.length < 100000) (hB : BoxE E) (W : List Wl) (fewW : W.length < 1000000) (G : Gl) (hG : RefP G E) (hW : WalG G W) (h7 : G 7 = none) (Q : Po) (hQ : ∀ l : List Wl, l.length ≤ E.length → Q (vL 5 (l.map Wl.v)) G) : VC Tryz.prog 76 [vN, vWl] G Q := by
 obtain ⟨z, hg⟩ := hG.ok
 have hg3 : govOk G [(3, bxN), (4, .map En.v Tr.v E (some z)), (5, bxR W)] := ⟨hg.1, hg.2.1, hW, trivial⟩
 have eG := gov_self hg3
 have hret : ∀ l n o, G n = some o → GD E z W l G n = some o := fun l n o e => by
  by_cases h : n = 7
  ·subst h; rw [h7] at e; cases e
  ·rw [congrFun eG n] at e
   refine Eq.trans ?_ e
   by_cases h3 : n = 3
   ·subst h3; rfl
   by_cases h4 : n = 4
   ·subst h4; rfl
   by_cases h5 : n = 5
   ·subst h5; rfl
   ·simp [gov, lk, h3, h4, h5, h]
 refine VC.of_body Tryz.func76 rfl rfl rfl fun W0 h0 x0 hG0 => ?_
 simp only [args0]
 refine VJ.toG 0 (args0 0 [vN, vWl]) [] (gov [(3, bxN), (4, .map En.v Tr.v E (some z)), (5, bxR W)] G) ?_ rfl (by repeat' first | exact trivial | refine ⟨rfl, ?_⟩) trivial (by rfl) (fun n => congrFun eG n)
 simp only [args0]
 repeat' (first | refine VJ.seq ?_ | refine VJ.region_k fun K hK => ?_)
 repeat (first | refine VR.assign rfl rfl ?_)
 refine VR.done (hK _ ?_); clear hK K
 repeat' (first | refine VJ.seq ?_ | refine VJ.region_k fun K hK => ?_)
 repeat (first | (refine VR.boxG 7 (by exact h7) rfl rfl rfl rfl ?_) | refine VR.assign rfl rfl ?_ | refine VR.buildL (n := 0) [_] tok rfl rfl rfl rfl rfl rfl rfl rfl ?_)
 refine VR.done (hK _ ?_); clear hK K
 refine VJ.to 0 [(5, vB7), (1, vWl), (0, vN)] [] ?_ rfl (by repeat' first | exact trivial | refine ⟨rfl, ?_⟩) trivial (by rfl)
 refine VJ.nilBox 7 5 rfl ?_
 refine VJ.toG 0 [(5, vB7), (1, vWl), (0, vN)] [] (GD E z W [] G) ?_ rfl (by repeat' first | exact trivial | refine ⟨rfl, ?_⟩) trivial (by rfl) ?_
 rotate_left
 ·intro n
  by_cases h7 : n = 7
  ·subst h7; rfl
  by_cases h3 : n = 3
  ·subst h3; rfl
  by_cases h4 : n = 4
  ·subst h4; rfl
  by_cases h5 : n = 5
  ·subst h5; rfl
  ·simp [gov, lk, h3, h4, h5, h7]
 repeat' (first | refine VJ.seq ?_ | refine VJ.block ?_ | refine VJ.region_k fun K hK => ?_ | (refine VR.done (hK _ ?_); clear hK K) | (first | refine VR.move rfl rfl ?_ | (show onLd; refine VR.load tok rfl rfl rfl rfl ?_) | (show onFa; refine VR.fieldAddr tok rfl rfl rfl rfl rfl rfl ?_) | refine VR.nilCheck rfl rfl rfl ?_ | refine VR.range rfl rfl rfl (mapOk (by rfl)) ?_))
 refine VJ.to 1 [(13, .a (.ptr (.l 0) 0)), (5, vB7), (1, vWl), (0, vN)] [(0, .itr En.v Tr.v E E z none)] ?_ rfl (by repeat' first | exact trivial | refine ⟨rfl, ?_⟩) (by repeat' first | exact trivial | refine ⟨rfl, ?_⟩) (by rfl)
 refine VJ.rec (fun a : List Wl × LS × LS × Option Value => ⟨1, [(13, .a (.ptr (.l 0) 0)), (5, vB7), (1, vWl), (0, vN)], [(0, .itr En.v Tr.v E a.2.2.1 z a.2.2.2)], GD E z W a.1 G⟩) (fun a => a.2.2.1.length) (fun a => (a.2.1 ++ a.2.2.1).Perm E ∧ a.1.length ≤ a.2.1.length) ([], [], E, none) ⟨by simp, by simp⟩ ?_
 rintro ⟨l, dn, left, cur⟩ ⟨hpm, hln⟩ ih
 dsimp only at hpm hln ih ⊢
 have hle : l.length ≤ E.length := by
  have := hpm.length_eq
  rw [List.length_append] at this
  omega
 repeat' (first | refine VJ.seq ?_ | refine VJ.region_k fun K hK => ?_ | (fail))
 refine VR.next (i := .g 4) rfl rfl rfl rfl ?_ ?_
 ·intro hl
  subst hl
  repeat' (first | refine VJ.seq ?_ | refine VJ.exit rfl ?_ | refine VJ.cond_f rfl ?_ | refine VJ.region_k fun K hK => ?_ | (refine VR.done (hK _ ?_); clear hK K) | (first | refine VR.move rfl rfl ?_ | refine VR.assign rfl rfl ?_ | (show onLd; refine VR.load tok rfl rfl rfl rfl ?_) | (show onFa; refine VR.fieldAddr tok rfl rfl rfl rfl rfl rfl ?_) | refine VR.nilCheck rfl rfl rfl ?_ | refine VR.extract rfl rfl rfl ?_))
  refine VJ.retF tok (by rfl) (by rfl) hG0 ?_ (by rfl) ?_
  ·exact hret l
  ·exact hQ l hle
 ·intro x c y z' hl
  subst hl
  have hpm' : ((dn ++ [(x, c)]) ++ (y ++ z')).Perm E := by
   refine List.Perm.trans ?_ hpm
   rw [List.append_assoc]
   refine List.Perm.append_left dn ?_
   simpa using (List.perm_middle (a := (x, c)) (l₁ := y) (l₂ := z')).symm
  have ih1 := ih (insR l ⟨x.a, x.b, 1⟩, dn ++ [(x, c)], y ++ z', some (.tuple #[x.v, c.v])) ⟨hpm', by simp [insR_length]; omega⟩ (by simp)
  have ih2 := ih (l, dn ++ [(x, c)], y ++ z', some (.tuple #[x.v, c.v])) ⟨hpm', by simp; omega⟩ (by simp)
  dsimp only at ih1 ih2
  clear ih
  have hRG : RefG (GD E z W l G) E := ⟨rfl, ⟨_, rfl⟩⟩
  have hWG : WalG (GD E z W l G) W := rfl
  by_cases hcp : decide (cp x.a x.b < 0) = true
  ·repeat' (first | refine VJ.seq ?_ | refine VJ.skip ?_ | refine VJ.block ?_ | refine VJ.cond_t rfl ?_ | refine VJ.region_k fun K hK => ?_ | (refine VR.done (hK _ ?_); clear hK K) | (first | refine VR.move rfl rfl ?_ | (show onLd; refine VR.load tok rfl rfl rfl rfl ?_) | (show onFa; refine VR.fieldAddr tok rfl rfl rfl rfl rfl rfl ?_) | refine VR.int rfl rfl rfl rfl ?_ | (refine VR.pickB rfl rfl rfl rfl ?_ ?_ ?_; iterate 2 (first | exact trivial | (refine fun h => ?_; first | (rw [h]; rfl) | (rw [h, hg]; rfl) | (rw [hg, h]; rfl) | (simp [h, hg]; done)))) | refine VR.g_yes rfl rfl (by first | rfl | assumption) ?_ | refine VR.alloc tok rfl rfl rfl ?_ | refine VR.store tok rfl rfl rfl rfl rfl rfl rfl (by first | (intro n e; cases e; done) | exact (fun _ _ q => all_glA (by rfl) q)) ?_ | refine VR.extract rfl rfl rfl ?_ | (refine VR.entry (i := .g 4) rfl rfl rfl rfl ?_)) | (refine VR.call fok71 rfl rfl rfl rfl ?_; refine (v_cpR x.a x.b _ _ ?_)) | (refine VR.call fok77 rfl rfl rfl rfl ?_; refine (v_badR E hB W fewW x.a x.b _ hRG hWG _ ?_)))
   refine VJ.cond rfl (fun hc => ?_) (fun hc => ?_)
   ·repeat' (first | refine VJ.inBlock ?_ | refine VJ.region_k fun K hK => ?_ | (refine VR.done (hK _ ?_); clear hK K) | (first | refine VR.move rfl rfl ?_ | (show onLd; refine VR.load tok rfl rfl rfl rfl ?_) | (show onFa; refine VR.fieldAddr tok rfl rfl rfl rfl rfl rfl ?_) | refine VR.buildX [_, _, _, _, _] tok rfl rfl rfl rfl rfl rfl ?_) | (refine VR.call fok50 rfl rfl rfl rfl ?_; refine (v_putB l (by omega) ⟨x.a, x.b, 1⟩ _ (by exact rfl) _ ?_)))
    exact VJ.toG 1 [(13, .a (.ptr (.l 0) 0)), (5, vB7), (1, vWl), (0, vN)] [(0, .itr En.v Tr.v E (y ++ z') z (some (.tuple #[x.v, c.v])))] (GD E z W (insR l ⟨x.a, x.b, 1⟩) G) ih1 rfl (by repeat' first | exact trivial | refine ⟨rfl, ?_⟩) (by repeat' first | exact trivial | refine ⟨rfl, ?_⟩) (by rfl) (fun n => GD_7 E z W l _ G n)
   ·repeat' (first | refine VJ.skip ?_ | refine VJ.inBlock ?_ | (fail))
    exact VJ.to 1 _ _ ih2 rfl (by repeat' first | exact trivial | refine ⟨rfl, ?_⟩) (by repeat' first | exact trivial | refine ⟨rfl, ?_⟩) (by rfl)
  ·rw [Bool.not_eq_true] at hcp
   repeat' (first | refine VJ.seq ?_ | refine VJ.skip ?_ | refine VJ.block ?_ | refine VJ.inBlock ?_ | refine VJ.cond_t rfl ?_ | refine VJ.cond_f rfl ?_ | refine VJ.region_k fun K hK => ?_ | (refine VR.done (hK _ ?_); clear hK K) | (first | (refine VR.pick_no rfl rfl (by assumption) rfl ?_) | refine VR.move rfl rfl ?_ | (show onLd; refine VR.load tok rfl rfl rfl rfl ?_) | (show onFa; refine VR.fieldAddr tok rfl rfl rfl rfl rfl rfl ?_) | refine VR.int rfl rfl rfl rfl ?_ | refine VR.g_no rfl rfl rfl (by first | rfl | assumption) ?_ | refine VR.alloc tok rfl rfl rfl ?_ | refine VR.store tok rfl rfl rfl rfl rfl rfl rfl (by first | (intro n e; cases e; done) | exact (fun _ _ q => all_glA (by rfl) q)) ?_ | refine VR.extract rfl rfl rfl ?_ | (refine VR.entry (i := .g 4) rfl rfl rfl rfl ?_)) | (refine VR.call fok71 rfl rfl rfl rfl ?_; refine (v_cpR x.a x.b _ _ ?_)))
   exact VJ.to 1 _ _ ih2 rfl (by repeat' first | exact trivial | refine ⟨rfl, ?_⟩) (by repeat' first | exact trivial | refine ⟨rfl, ?_⟩) (by rfl)
end Go.Proofs.YtnpnjhopgedhkaaGreat
namespace Go.Proofs.YtnpnjhopgedhkaaGreat
open Go.RowKit V Geo
abbrev G3W (E : LS) (W : List Wl) (G : Gl) : Gl := gov [(3, bxN), (4, mL E none), (5, bxR W)] G
theorem G3W_4 (E E' : LS) (W : List Wl) (G : Gl) (n : Nat) : gset (G3W E W G) 4 (mL E' none) n = G3W E' W G n := by
 by_cases h4 : n = 4
 ·subst h4; rfl
 by_cases h3 : n = 3
 ·subst h3; rfl
 by_cases h5 : n = 5
 ·subst h5; rfl
 ·simp [gset, gov, lk, h3, h4, h5]
theorem G3W_of {G : Gl} {E E' : LS} {W : List Wl} (hG : RefG G E) (hW : WalG G W) : gset G 4 (mL E' none) = G3W E' W G := by
 funext n
 by_cases h4 : n = 4
 ·subst h4; rfl
 by_cases h3 : n = 3
 ·subst h3; exact hG.1
 by_cases h5 : n = 5
 ·subst h5; exact hW
 ·simp [gset, gov, lk, h3, h4, h5]
theorem RefG.refP {G : Gl} {E : LS} (hG : RefG G E) (q : Nat × Obj) : RefP (gset G 4 (.map En.v Tr.v E (some q))) E := ⟨hG.1, _, rfl⟩
structure Keeps (W : List Wl) (Inv : LS → Prop) : Prop where
 sq : ∀ E, Inv E → ∃ m l, m ≤ 30000 ∧ SqL m E l
 fl : ∀ E a b, Inv E → badR E W a b = true → flipC E a b = 0 → Inv (flipS E a b)
def msr (p : LS × Bool) : Nat := 2 * (PhiE p.1).toNat + (if p.2 = true then 1 else 0)
attribute [local irreducible] VR VJ VC decOk decBt
theorem v_badG (E : LS) (few : E.length < 100000) (hB : BoxE E) (W : List Wl) (fewW : W.length < 1000000) (G : Gl) (hG : RefG G E) (hW : WalG G W) (h7 : G 7 = none) (Q : Po) (hQ : ∀ l : List Wl, l.length ≤ E.length → Q (vL 5 (l.map Wl.v)) G) : VC Tryz.prog 76 [vN, vWl] G Q := by
 obtain ⟨z, g4⟩ := hG.2
 refine VC.pinned 4 g4 fun G' q e => ?_
 subst e
 exact v_bads E few hB W fewW _ (hG.refP q) hW h7 _ fun l hl => ⟨rfl, hQ l hl⟩
set_option maxRecDepth 20000 in
set_option maxHeartbeats 8000000 in
theorem v_repair (Inv : LS → Prop) (W : List Wl) (fewW : W.length < 1000000) (K : Keeps W Inv) (E : LS) (hE : Inv E) (G : Gl) (hG : RefG G E) (hW : WalG G W) (h7 : G 7 = none) (Q : Po) (hQ : ∀ E', Inv E' → Q (.tup []) (gset G 4 (mL E' none))) : VC Tryz.prog 51 [vN, vWl] G Q := by
 obtain ⟨z, g4⟩ := hG.2
 refine VC.of_body Tryz.func51 rfl rfl rfl fun W0 h0 x0 hG0 => ?_
 simp only [args0]
 refine VJ.unpin (.g 4) (show S.obj ⟨0, _, [], G⟩ (.g 4) = some (mL E z) from g4) ?_
 refine VJ.toG 0 (args0 0 [vN, vWl]) [] (G3W E W G) ?_ rfl (by repeat' first | exact trivial | refine ⟨rfl, ?_⟩) trivial (by rfl) (fun n => congrFun (G3W_of (E' := E) hG hW) n)
 simp only [args0]
 repeat' (first | refine VJ.seq ?_ | refine VJ.block ?_ | refine VJ.region_k fun K hK => ?_ | (refine VR.done (hK _ ?_); clear hK K) | (first | refine VR.assign rfl rfl ?_))
 refine VJ.to 0 [(4, vB true), (1, vWl), (0, vN)] [] ?_ rfl (by repeat' first | exact trivial | refine ⟨rfl, ?_⟩) trivial (by rfl)
 refine VJ.rec (fun p : LS × Bool => ⟨0, [(4, vB p.2), (1, vWl), (0, vN)], [], G3W p.1 W G⟩) msr (fun p => Inv p.1) (E, true) hE ?_
 rintro ⟨E1, ag⟩ hI ih
 dsimp only at hI ih ⊢
 cases ag with
 | false =>
   repeat' (first | refine VJ.seq ?_ | refine VJ.exit rfl ?_ | refine VJ.cond_f rfl ?_ | refine VJ.region_k fun K hK => ?_ | (refine VR.done (hK _ ?_); clear hK K) | (first | refine VR.move rfl rfl ?_))
   refine VJ.toG 0 [] [] (gset G 4 (mL E1 none)) (VJ.fin tok (by rfl) (by rfl) (hQ E1 hI)) rfl (by repeat' first | exact trivial | refine ⟨rfl, ?_⟩) trivial (by rfl) (fun n => (congrFun (G3W_of (E' := E1) hG hW) n).symm)
 | true =>
   obtain ⟨m, l1, hm, hs⟩ := K.sq E1 hI
   have hfew : E1.length < 100000 := by
    have h1 := hs.mo.len
    have h2 := hs.few
    omega
   have hRG : RefG (G3W E1 W G) E1 := ⟨rfl, ⟨_, rfl⟩⟩
   have hWG : WalG (G3W E1 W G) W := rfl
   repeat' (first | refine VJ.seq ?_ | refine VJ.skip ?_ | refine VJ.block ?_ | refine VJ.cond_t rfl ?_ | refine VJ.region_k fun K hK => ?_ | (refine VR.done (hK _ ?_); clear hK K) | (first | refine VR.move rfl rfl ?_ | refine VR.assign rfl rfl ?_ | (refine VR.call fok76 rfl rfl rfl rfl ?_; refine v_badG E1 hfew hs.box W fewW _ hRG hWG (by exact h7) _ (fun l hl => ?_))))
   have hll : l.length < 1000000 := by omega
   refine VJ.to 0 [(6, vI ((0 : Nat) : Int)), (5, vL 5 (l.map Wl.v)), (4, vB false), (1, vWl), (0, vN)] [] ?_ rfl (by repeat' first | exact trivial | refine ⟨rfl, ?_⟩) trivial (by rfl)
   refine VJ.rec (fun p : Nat × LS × Bool => ⟨0, [(6, vI p.1), (5, vL 5 (l.map Wl.v)), (4, vB p.2.2), (1, vWl), (0, vN)], [], G3W p.2.1 W G⟩) (fun p => l.length - p.1) (fun p => p.1 ≤ l.length ∧ Inv p.2.1 ∧ (PhiE p.2.1).toNat ≤ (PhiE E1).toNat ∧ (p.2.2 = true → (PhiE p.2.1).toNat < (PhiE E1).toNat)) (0, E1, false) ⟨Nat.zero_le _, hI, Nat.le_refl _, fun h => by cases h⟩ ?_
   rintro ⟨j, E2, ag⟩ ⟨hj, hI2, hp1, hp2⟩ ih2
   dsimp only at hj hI2 hp1 hp2 ih2 ⊢
   clear hs hRG hWG hfew
   obtain ⟨m2, l2, hm2, hs2⟩ := K.sq E2 hI2
   have hRG : RefG (G3W E2 W G) E2 := ⟨rfl, ⟨_, rfl⟩⟩
   have hWG : WalG (G3W E2 W G) W := rfl
   repeat' (first | refine VJ.seq ?_ | refine VJ.region_k fun K hK => ?_ | (refine VR.done (hK _ ?_); clear hK K) | (first | refine VR.move rfl rfl ?_ | refine VR.int rfl rfl rfl rfl ?_ | refine VR.len tok rfl rfl rfl rfl rfl ?_))
   refine VJ.cond rfl (fun hb => ?_) (fun hb => ?_)
   ·have hlt : j < l.length := by simpa using hb
    have hget := map_get_v hlt
    clear ih
    generalize l[j] = w at hget
    by_cases hbad : badR E2 W w.a w.b = true
    ·by_cases hfl : flipC E2 w.a w.b = 0
     ·have hcost := hs2.cost hbad hfl
      have ih3 := ih2 (j + 1, flipS E2 w.a w.b, true) ⟨hlt, K.fl _ _ _ hI2 hbad hfl, (show (PhiE (flipS E2 w.a w.b)).toNat ≤ (PhiE E1).toNat by omega), fun _ => (show (PhiE (flipS E2 w.a w.b)).toNat < (PhiE E1).toNat by omega)⟩ (show l.length - (j + 1) < l.length - j by omega)
      dsimp only at ih3
      clear ih2
      repeat' (first | refine VJ.seq ?_ | refine VJ.skip ?_ | refine VJ.block ?_ | (fail))
      apply VJ.draw3 [12, 13, 25] [(0, 0), (1, 0), (2, 0), (3, 0), (4, 0), (5, 0), (6, 0), (7, 0), (8, 0), (9, 0), (10, 0), (11, 0), (12, 0), (13, 1), (14, 2), (15, 2), (16, 2), (17, 2), (18, 2), (19, 2), (20, 2), (21, 2), (22, 2), (23, 2), (24, 2), (25, 2), (26, 3), (27, 3), (2, 1), (2, 2), (2, 3), (3, 1), (3, 2), (3, 3), (4, 1), (4, 2), (4, 3), (5, 1), (5, 2), (5, 3), (7, 1), (7, 2), (7, 3), (8, 1), (8, 2), (8, 3), (9, 1), (9, 2), (9, 3), (10, 1), (10, 2), (10, 3), (15, 3), (16, 3), (17, 3), (18, 3), (20, 3), (21, 3), (22, 3), (23, 3), (27, 2)] [[(0, none)], [(1, none)], [(5, none)], [(6, none)], [(19, some 2), (20, some 3)], [(21, some 4)], [(22, some 5)], [(5, none)], [(6, none)], [(24, some 7), (25, some 8)], [(26, some 9)], [(27, some 10)], [(17, some 0), (18, some 1), (23, some 6), (28, some 11)], [(29, some 12)], [(0, none), (30, some 13)], [(5, none), (30, some 13)], [(6, none), (30, some 13)], [(32, some 15), (33, some 16), (30, some 13)], [(34, some 17), (30, some 13)], [(35, some 18), (30, some 13)], [(5, none), (30, some 13)], [(6, none), (30, some 13)], [(37, some 20), (38, some 21), (30, some 13)], [(39, some 22), (30, some 13)], [(40, some 23), (30, some 13)], [(31, some 14), (36, some 19), (41, some 24), (30, some 13)], [(42, some 25), (30, some 13)], [(30, some 13), (43, some 26)]] [[(0, _)], [(1, _)], [(5, _)], [(6, _)], [(19, _), (20, _)], [(21, _)], [(22, _)], [(5, _)], [(6, _)], [(24, _), (25, _)], [(26, _)], [(27, _)], [(17, _), (18, _), (23, _), (28, _)], [(29, _)], [(0, _), (30, _)], [(5, _), (30, _)], [(6, _), (30, _)], [(32, _), (33, _), (30, _)], [(34, _), (30, _)], [(35, _), (30, _)], [(5, _), (30, _)], [(6, _), (30, _)], [(37, _), (38, _), (30, _)], [(39, _), (30, _)], [(40, _), (30, _)], [(31, _), (36, _), (41, _), (30, _)], [(42, _), (30, _)], [(30, _), (43, _)]] [_, _, _, _, _, _, _, _, _, _, _, _, _, _, _, _, _, _, _, _, _, _, _, _, _, _, _, _] [⟨_, _, _⟩, ⟨_, _, _⟩, ⟨_, _, _⟩, ⟨_, _, _⟩] (by kernel_rfl) ?hok rfl ?hh rfl rfl ?hj
      case hh =>
       refine ⟨?_, ?_, ?_, ?_, ?_, ?_, ?_, ?_, ?_, ?_, ?_, ?_, ?_, ?_, ?_, ?_, ?_, ?_, ?_, ?_, ?_, ?_, ?_, ?_, ?_, ?_, ?_, ?_, ?_, ?_, ?_, ?_, ?_, ?_, ?_, ?_, ?_, ?_, ?_, ?_, ?_, ?_, ?_, ?_, ?_, ?_, ?_, ?_, ?_, ?_, ?_, ?_, ?_, ?_, ?_, ?_, ?_, ?_, ?_, ?_, ?_, trivial⟩
       all_goals (intro rest K1 hK1; (repeat (first | exact VR.done hK1 | (first | refine VR.move rfl rfl ?_ | (show onLd; refine VR.load tok rfl rfl rfl (by first | rfl | exact (ldp_el (by assumption)).trans (by rfl)) ?_) | (show onFa; refine VR.fieldAddr tok rfl rfl rfl (by first | rfl | exact place_el (by assumption)) rfl rfl ?_) | (show onIx; refine VR.indexAddr tok rfl rfl rfl rfl rfl rfl rfl (elA_lst (by assumption)) ?_) | refine VR.int rfl rfl rfl rfl ?_ | (refine VR.pickB rfl rfl rfl rfl ?_ ?_ ?_; iterate 2 (first | exact trivial | (refine fun h => ?_; first | (rw [h]; rfl) | (rw [h, hg]; rfl) | (rw [hg, h]; rfl) | (simp [h, hg]; done)))) | refine VR.g_yes rfl rfl (by first | rfl | assumption) ?_ | (refine VR.call fok77 rfl rfl rfl rfl ?_; refine v_badR E2 hs2.box W fewW w.a w.b _ hRG hWG _ ?_; rw [hbad]) | (refine VR.call fok78 rfl rfl rfl rfl ?_; refine v_flipR E2 w.a w.b _ hRG _ (fun h => absurd hfl h) (fun _ => ?_))))); try (first | exact VR.done hK1 | (refine VR.done ?_; dsimp only [S.set]; exact hK1)))
      case hok => kernel_rfl
      case hj =>
       dsimp only [List.append, tla]
       repeat' (first | refine VJ.inBlock ?_ | refine VJ.cond_t rfl ?_ | refine VJ.region_k fun K hK => ?_ | (refine VR.done (hK _ ?_); clear hK K) | (first | refine VR.move rfl rfl ?_ | refine VR.assign rfl rfl ?_ | refine VR.int rfl rfl rfl rfl ?_))
       exact VJ.toG 0 _ _ _ ih3 rfl ⟨vI_succ (by omega), by rfl, by rfl, by rfl, by rfl, trivial⟩ trivial (by rfl) (fun n => G3W_4 E2 _ W G n)
     ·have hk : (flipC E2 w.a w.b == 0) = false := by simpa using hfl
      have ih3 := ih2 (j + 1, E2, ag) ⟨hlt, hI2, hp1, hp2⟩ (show l.length - (j + 1) < l.length - j by omega)
      dsimp only at ih3
      clear ih2
      repeat' (first | refine VJ.seq ?_ | refine VJ.skip ?_ | refine VJ.block ?_ | (fail))
      apply VJ.draw3 [] [(0, 0), (1, 0), (2, 0), (3, 0), (4, 0), (5, 0), (6, 0), (7, 0), (8, 0), (9, 0), (10, 0), (11, 0), (12, 0), (13, 0), (14, 0), (15, 0), (16, 0), (17, 0), (18, 0), (19, 0), (20, 0), (21, 0), (22, 0), (23, 0), (24, 0), (25, 0), (26, 0), (27, 0)] [[(0, none)], [(1, none)], [(5, none)], [(6, none)], [(19, some 2), (20, some 3)], [(21, some 4)], [(22, some 5)], [(5, none)], [(6, none)], [(24, some 7), (25, some 8)], [(26, some 9)], [(27, some 10)], [(17, some 0), (18, some 1), (23, some 6), (28, some 11)], [(29, some 12)], [(0, none), (30, some 13)], [(5, none), (30, some 13)], [(6, none), (30, some 13)], [(32, some 15), (33, some 16), (30, some 13)], [(34, some 17), (30, some 13)], [(35, some 18), (30, some 13)], [(5, none), (30, some 13)], [(6, none), (30, some 13)], [(37, some 20), (38, some 21), (30, some 13)], [(39, some 22), (30, some 13)], [(40, some 23), (30, some 13)], [(31, some 14), (36, some 19), (41, some 24), (30, some 13)], [(42, some 25), (30, some 13)], [(30, some 13), (43, some 26)]] [[(0, _)], [(1, _)], [(5, _)], [(6, _)], [(19, _), (20, _)], [(21, _)], [(22, _)], [(5, _)], [(6, _)], [(24, _), (25, _)], [(26, _)], [(27, _)], [(17, _), (18, _), (23, _), (28, _)], [(29, _)], [(0, _), (30, _)], [(5, _), (30, _)], [(6, _), (30, _)], [(32, _), (33, _), (30, _)], [(34, _), (30, _)], [(35, _), (30, _)], [(5, _), (30, _)], [(6, _), (30, _)], [(37, _), (38, _), (30, _)], [(39, _), (30, _)], [(40, _), (30, _)], [(31, _), (36, _), (41, _), (30, _)], [(42, _), (30, _)], [(30, _), (43, _)]] [_, _, _, _, _, _, _, _, _, _, _, _, _, _, _, _, _, _, _, _, _, _, _, _, _, _, _, _] [⟨_, _, _⟩] (by kernel_rfl) ?hok rfl ?hh rfl rfl ?hj
      case hh =>
       refine ⟨?_, ?_, ?_, ?_, ?_, ?_, ?_, ?_, ?_, ?_, ?_, ?_, ?_, ?_, ?_, ?_, ?_, ?_, ?_, ?_, ?_, ?_, ?_, ?_, ?_, ?_, ?_, ?_, trivial⟩
       all_goals (intro rest K1 hK1; (repeat (first | exact VR.done hK1 | (first | refine VR.move rfl rfl ?_ | (show onLd; refine VR.load tok rfl rfl rfl (by first | rfl | exact (ldp_el (by assumption)).trans (by rfl)) ?_) | (show onFa; refine VR.fieldAddr tok rfl rfl rfl (by first | rfl | exact place_el (by assumption)) rfl rfl ?_) | (show onIx; refine VR.indexAddr tok rfl rfl rfl rfl rfl rfl rfl (elA_lst (by assumption)) ?_) | refine VR.int rfl rfl rfl rfl ?_ | (refine VR.pickB rfl rfl rfl rfl ?_ ?_ ?_; iterate 2 (first | exact trivial | (refine fun h => ?_; first | (rw [h]; rfl) | (rw [h, hg]; rfl) | (rw [hg, h]; rfl) | (simp [h, hg]; done)))) | refine VR.g_yes rfl rfl (by first | rfl | assumption) ?_ | (refine VR.call fok77 rfl rfl rfl rfl ?_; refine v_badR E2 hs2.box W fewW w.a w.b _ hRG hWG _ ?_; rw [hbad]) | (refine VR.call fok78 rfl rfl rfl rfl ?_; refine v_flipR E2 w.a w.b _ hRG _ (fun _ => ?_) (fun h => absurd h hfl))))); try (first | exact VR.done hK1 | (refine VR.done ?_; dsimp only [S.set]; exact hK1)))
      case hok => kernel_rfl
      case hj =>
       dsimp only [List.append, tla]
       refine VJ.cond rfl (fun hc => absurd (hk.symm.trans hc) (by simp)) (fun hc => ?_)
       repeat' (first | refine VJ.skip ?_ | refine VJ.inBlock ?_ | refine VJ.region_k fun K hK => ?_ | (refine VR.done (hK _ ?_); clear hK K) | (first | refine VR.move rfl rfl ?_ | refine VR.assign rfl rfl ?_ | refine VR.int rfl rfl rfl rfl ?_))
       exact VJ.to 0 _ _ ih3 rfl ⟨vI_succ (by omega), by rfl, by rfl, by rfl, by rfl, trivial⟩ trivial (by rfl)
    ·have hbad : badR E2 W w.a w.b = false := by simpa using hbad
     have ih3 := ih2 (j + 1, E2, ag) ⟨hlt, hI2, hp1, hp2⟩ (show l.length - (j + 1) < l.length - j by omega)
     dsimp only at ih3
     clear ih2
     repeat' (first | refine VJ.seq ?_ | refine VJ.skip ?_ | refine VJ.block ?_ | (fail))
     apply VJ.draw3 [] [(0, 0), (1, 0), (2, 0), (3, 0), (4, 0), (5, 0), (6, 0), (7, 0), (8, 0), (9, 0), (10, 0), (11, 0), (12, 0), (13, 0), (14, 0), (15, 0), (16, 0), (17, 0), (18, 0), (19, 0), (20, 0), (21, 0), (22, 0), (23, 0), (24, 0), (25, 0), (26, 0), (27, 0)] [[(0, none)], [(1, none)], [(5, none)], [(6, none)], [(19, some 2), (20, some 3)], [(21, some 4)], [(22, some 5)], [(5, none)], [(6, none)], [(24, some 7), (25, some 8)], [(26, some 9)], [(27, some 10)], [(17, some 0), (18, some 1), (23, some 6), (28, some 11)], [(29, some 12)], [(0, none), (30, some 13)], [(5, none), (30, some 13)], [(6, none), (30, some 13)], [(32, some 15), (33, some 16), (30, some 13)], [(34, some 17), (30, some 13)], [(35, some 18), (30, some 13)], [(5, none), (30, some 13)], [(6, none), (30, some 13)], [(37, some 20), (38, some 21), (30, some 13)], [(39, some 22), (30, some 13)], [(40, some 23), (30, some 13)], [(31, some 14), (36, some 19), (41, some 24), (30, some 13)], [(42, some 25), (30, some 13)], [(30, some 13), (43, some 26)]] [[(0, _)], [(1, _)], [(5, _)], [(6, _)], [(19, _), (20, _)], [(21, _)], [(22, _)], [(5, _)], [(6, _)], [(24, _), (25, _)], [(26, _)], [(27, _)], [(17, _), (18, _), (23, _), (28, _)], [(29, _)], [(0, _), (30, _)], [(5, _), (30, _)], [(6, _), (30, _)], [(32, _), (33, _), (30, _)], [(34, _), (30, _)], [(35, _), (30, _)], [(5, _), (30, _)], [(6, _), (30, _)], [(37, _), (38, _), (30, _)], [(39, _), (30, _)], [(40, _), (30, _)], [(31, _), (36, _), (41, _), (30, _)], [(42, _), (30, _)], [(30, _), (43, _)]] [_, _, _, _, _, _, _, _, _, _, _, _, _, _, _, _, _, _, _, _, _, _, _, _, _, _, _, _] [⟨_, _, _⟩] (by kernel_rfl) ?hok rfl ?hh rfl rfl ?hj
     case hh =>
      refine ⟨?_, ?_, ?_, ?_, ?_, ?_, ?_, ?_, ?_, ?_, ?_, ?_, ?_, ?_, ?_, ?_, ?_, ?_, ?_, ?_, ?_, ?_, ?_, ?_, ?_, ?_, ?_, ?_, trivial⟩
      all_goals (intro rest K1 hK1; (repeat (first | exact VR.done hK1 | (first | (refine VR.g_no0 rfl rfl (by rfl) ?_) | refine VR.move rfl rfl ?_ | (show onLd; refine VR.load tok rfl rfl rfl (by first | rfl | exact (ldp_el (by assumption)).trans (by rfl)) ?_) | (show onFa; refine VR.fieldAddr tok rfl rfl rfl (by first | rfl | exact place_el (by assumption)) rfl rfl ?_) | (show onIx; refine VR.indexAddr tok rfl rfl rfl rfl rfl rfl rfl (elA_lst (by assumption)) ?_) | refine VR.pick rfl rfl rfl ?_ | (refine VR.call fok77 rfl rfl rfl rfl ?_; refine v_badR E2 hs2.box W fewW w.a w.b _ hRG hWG _ ?_; rw [hbad])))); try (first | exact VR.done hK1 | (refine VR.done ?_; dsimp only [S.set]; exact hK1)))
     case hok => kernel_rfl
     case hj =>
      dsimp only [List.append, tla]
      repeat' (first | refine VJ.skip ?_ | refine VJ.inBlock ?_ | refine VJ.cond_f rfl ?_ | refine VJ.region_k fun K hK => ?_ | (refine VR.done (hK _ ?_); clear hK K) | (first | refine VR.move rfl rfl ?_ | refine VR.assign rfl rfl ?_ | refine VR.int rfl rfl rfl rfl ?_))
      exact VJ.to 0 _ _ ih3 rfl ⟨vI_succ (by omega), by rfl, by rfl, by rfl, by rfl, trivial⟩ trivial (by rfl)
   ·have hlt : msr (E2, ag) < msr (E1, true) := by
     unfold msr
     dsimp only
     rw [if_pos rfl]
     cases ag with
     | true => rw [if_pos rfl]; have := hp2 rfl; omega
     | false => rw [if_neg (by simp)]; omega
    have ih3 := ih (E2, ag) hI2 hlt
    dsimp only at ih3
    clear ih ih2
    repeat' (first | refine VJ.inBlock ?_ | refine VJ.exit rfl ?_ | (fail))
    exact VJ.to 0 _ _ ih3 rfl (by repeat' first | exact trivial | refine ⟨rfl, ?_⟩) trivial (by rfl)
end Go.Proofs.YtnpnjhopgedhkaaGreat
namespace Go.Proofs.YtnpnjhopgedhkaaGreat
open Go.RowKit V Geo
def hasP (t : Tr) (p : Pt) : Bool := bif (bif (bif (bif validT t then decide p.ok else false) then decide (oriG t.a t.b p ≥ 0) else false) then decide (oriG t.b t.c p ≥ 0) else false) then decide (oriG t.c t.a p ≥ 0) else false
def cutOk (t : Tr) (p : Pt) : Bool := bif (bif (bif hasP t p then !decide (p = t.a) else false) then !decide (p = t.b) else false) then !decide (p = t.c) else false
def cutN (t : Tr) (p : Pt) : Nat → List Tr
 | 0 => []
 | n + 1 => cutN t p n ++ (if (makeT (t.cor n) (t.cor (n + 1)) p).2 = true then [(makeT (t.cor n) (t.cor (n + 1)) p).1] else [])
def cutR (t : Tr) (p : Pt) : List Tr := sortT (if cutOk t p = true then cutN t p 3 else [])
theorem cutN_len (t : Tr) (p : Pt) : ∀ n, (cutN t p n).length ≤ n
 | 0 => Nat.le_refl _
 | n + 1 => by
   unfold cutN
   have := cutN_len t p n
   split <;> simp <;> omega
def colOf (f : En × Tr → Bool) (E : LS) : List Tr := (E.filter f).map (·.2)
theorem colOf_snoc (f : En × Tr → Bool) (dn : LS) (p : En × Tr) : colOf f (dn ++ [p]) = if f p = true then colOf f dn ++ [p.2] else colOf f dn := by
 unfold colOf
 rw [List.filter_append, List.map_append]
 cases h : f p <;> simp [h]
theorem colOf_len (f : En × Tr → Bool) (E : LS) : (colOf f E).length ≤ E.length := by
 unfold colOf; rw [List.length_map]; exact List.length_filter_le _ _
theorem colOf_perm (f : En × Tr → Bool) {E E' : LS} (h : E.Perm E') : (colOf f E).Perm (colOf f E') := (h.filter _).map _
def atF (p : Pt) (q : En × Tr) : Bool := bif decide (q.1.a = q.2.a) then hasP q.2 p else false
def starF (p : Pt) (q : En × Tr) : Bool := decide (q.1.a = p)
attribute [local irreducible] VR VJ VC decOk decBt
set_option maxHeartbeats 4000000 in
theorem v_hasP (t : Tr) (p : Pt) (G : Gl) (Q : Po) (hQ : Q (vB (hasP t p)) G) : VC Tryz.prog 33 [vV t.v, vV (ptV p)] G Q := by
 refine VC.of_body Tryz.func33 rfl rfl rfl fun W0 h0 x0 hG0 => ?_
 simp only [args0]
 repeat' (first | refine VJ.seq ?_ | refine VJ.region_k fun K hK => ?_ | (refine VR.done (hK _ ?_); clear hK K) | (first | refine VR.move rfl rfl ?_ | refine VR.assign rfl rfl ?_ | (show onLd; refine VR.load tok rfl rfl rfl rfl ?_) | (refine VR.pickB rfl rfl rfl rfl ?_ ?_ ?_; iterate 2 (first | exact trivial | (refine fun h => ?_; first | (rw [h]; rfl) | (rw [h, hg]; rfl) | (rw [hg, h]; rfl) | (simp [h, hg]; done)))) | refine VR.box rfl rfl rfl ?_) | (refine' VR.spec (by rfl) (by rfl) (by rfl) ?_ ?_ ?_; rotate_left 1; (repeat (first | exact trivial | refine And.intro id ?_)); intro hg K1 hK1; (first | (show onLd; refine VR.load tok rfl rfl rfl rfl ?_) | (show onFa; refine VR.fieldAddr tok rfl rfl rfl rfl rfl rfl ?_) | refine VR.int rfl rfl rfl rfl ?_ | (refine VR.call fok57 rfl rfl rfl rfl ?_; refine (v_valid2 p _ _ ?_)) | (refine VR.call fok44 rfl rfl rfl rfl ?_; refine (v_orientR _ _ _ _ _ ?_))); exact VR.done hK1) | (refine VR.call fok43 rfl rfl rfl rfl ?_; refine (v_validTR t _ _ ?_)))
 refine VJ.ret tok (by rfl) (by rfl) ?_
 exact hQ
theorem v_cornerE (t : Tr) (i : Nat) (hi : i < 4) {a : Int} (ea : a = (i : Int)) (G : Gl) (Q : Po) (hQ : Q (vV (ptV (t.cor i))) G) : VC Tryz.prog 21 [vV t.v, vI a] G Q := by
 subst ea
 exact v_cornerR t i hi G Q hQ
set_option maxRecDepth 20000 in
set_option maxHeartbeats 4000000 in
theorem v_cutR (t : Tr) (p : Pt) (G : Gl) (Q : Po) (hQ : Q (vL 6 ((cutR t p).map Tr.v)) G) : VC Tryz.prog 80 [vV t.v, vV (ptV p)] G Q := by
 refine VC.of_body Tryz.func80 rfl rfl rfl fun W0 h0 x0 hG0 => ?_
 simp only [args0]
 unfold cutR at hQ
 repeat' (first | refine VJ.seq ?_ | refine VJ.block ?_ | refine VJ.region_k fun K hK => ?_ | (refine VR.done (hK _ ?_); clear hK K) | (first | refine VR.assign rfl rfl ?_ | refine VR.box rfl rfl rfl ?_))
 refine VJ.promote 5 49 6 (by decide) rfl ?_
 refine VJ.to 3 [(6, vI ((0 : Nat) : Int)), (5, .a (.own (.l 2))), (3, .a (.ptr (.l 1) 0)), (2, .a (.ptr (.l 0) 0))] [(0, bxT t), (1, bxP p), (2, .row 49 6 ((cutN t p 0).map Tr.v))] ?_ rfl (by repeat' first | exact trivial | refine ⟨rfl, ?_⟩) (by repeat' first | exact trivial | refine ⟨rfl, ?_⟩) (by rfl)
 refine VJ.rec (fun i : Nat => ⟨3, [(6, vI i), (5, .a (.own (.l 2))), (3, .a (.ptr (.l 1) 0)), (2, .a (.ptr (.l 0) 0))], [(0, bxT t), (1, bxP p), (2, .row 49 6 ((cutN t p i).map Tr.v))], G⟩) (fun i => 3 - i) (fun i => i ≤ 3 ∧ (i = 0 ∨ cutOk t p = true)) 0 ⟨by decide, .inl rfl⟩ ?_
 rintro i ⟨hi, hok⟩ ih
 repeat' (first | refine VJ.seq ?_ | refine VJ.region_k fun K hK => ?_ | (refine VR.done (hK _ ?_); clear hK K) | (first | refine VR.move rfl rfl ?_ | refine VR.int rfl rfl rfl rfl ?_ | (refine VR.pickB rfl rfl rfl rfl ?_ ?_ ?_; iterate 2 (first | exact trivial | (refine fun h => ?_; first | (rw [h]; rfl) | (rw [h, hg]; rfl) | (rw [hg, h]; rfl) | (simp [h, hg]; done))))) | (refine' VR.spec (by rfl) (by rfl) (by rfl) ?_ ?_ ?_; rotate_left 1; (repeat (first | exact trivial | refine And.intro id ?_)); intro hg K1 hK1; (first | (show onLd; refine VR.load tok rfl rfl rfl rfl ?_) | (show onFa; refine VR.fieldAddr tok rfl rfl rfl rfl rfl rfl ?_) | (refine VR.bin rfl rfl rfl (neqP _ _ _ _) ?_) | (refine VR.call fok33 rfl rfl rfl rfl ?_; refine (v_hasP t p _ _ ?_))); exact VR.done hK1))
 refine VJ.cond rfl (fun hb => ?_) (fun hb => ?_)
 ·have hb : (bif (bif (bif (bif decide ((i : Int) < 3) then hasP t p else false) then !decide (p = t.a) else false) then !decide (p = t.b) else false) then !decide (p = t.c) else false) = true := hb
  have hlt : i < 3 := by
   by_cases h : (i : Int) < 3
   ·omega
   ·rw [decide_eq_false h] at hb; cases hb
  have hk : cutOk t p = true := by
   have h : (i : Int) < 3 := by omega
   rw [decide_eq_true h] at hb
   exact hb
  have ih' := ih (i + 1) ⟨hlt, .inr hk⟩ (by omega)
  clear ih hb
  have hcut : cutN t p (i + 1) = cutN t p i ++ (if (makeT (t.cor i) (t.cor (i + 1)) p).2 = true then [(makeT (t.cor i) (t.cor (i + 1)) p).1] else []) := rfl
  have hfew := cutN_len t p i
  rw [hcut] at ih'
  repeat' (first | refine VJ.seq ?_ | refine VJ.skip ?_ | refine VJ.block ?_ | (fail))
  apply VJ.draw3 [12, 13] [(0, 0), (1, 0), (2, 0), (3, 0), (4, 0), (5, 0), (6, 0), (7, 0), (8, 0), (9, 0), (10, 0), (11, 0), (12, 0), (13, 1), (14, 2), (0, 1), (1, 1), (2, 1), (3, 1), (4, 1), (5, 1), (6, 1), (7, 1), (8, 1), (9, 1), (10, 1), (11, 1), (11, 2)] [[(2, none)], [(6, none)], [(37, some 0), (38, some 1)], [(2, none)], [(6, none)], [(41, some 4)], [(40, some 3), (42, some 5)], [(3, none)], [(39, some 2), (43, some 6), (44, some 7)], [(45, some 8)], [(36, some 9)], [(36, some 9)], [], [(7, some 12), (46, some 10)], [(47, some 11)]] [[(2, _)], [(6, _)], [(37, _), (38, _)], [(2, _)], [(6, _)], [(41, _)], [(40, _), (42, _)], [(3, _)], [(39, _), (43, _), (44, _)], [(45, _)], [(36, _)], [(36, _)], [], [(7, _), (46, _)], [(47, _)]] [_, _, _, _, _, _, _, _, _, _, _, _, _, (.a .top), _] [⟨_, _, _⟩, ⟨_, _, _⟩, ⟨_, _, _⟩] (by kernel_rfl) ?hok rfl ?hh rfl rfl ?hj
  case hh =>
   refine ⟨?_, ?_, ?_, ?_, ?_, ?_, ?_, ?_, ?_, ?_, ?_, ?_, ?_, ?_, ?_, ?_, ?_, ?_, ?_, ?_, ?_, ?_, ?_, ?_, ?_, ?_, ?_, ?_, trivial⟩
   all_goals (intro rest K1 hK1; (repeat (first | exact VR.done hK1 | (first | refine VR.move rfl rfl ?_ | refine VR.assign rfl rfl ?_ | (show onLd; refine VR.load tok rfl rfl rfl rfl ?_) | refine VR.int rfl rfl rfl rfl ?_ | refine VR.alloc tok rfl rfl rfl ?_ | refine VR.store tok rfl rfl rfl rfl rfl rfl rfl (by first | (intro n e; cases e; done) | exact (fun _ _ q => all_glA (by rfl) q)) ?_ | refine VR.extract rfl rfl rfl ?_) | (refine VR.call fok21 rfl rfl rfl rfl ?_; refine (v_cornerE t i (by omega) rfl _ _ ?_)) | (refine VR.call fok21 rfl rfl rfl rfl ?_; refine (v_cornerE t (i + 1) (by omega) (wrap_succ (by omega)) _ _ ?_)) | (refine VR.call fok47 rfl rfl rfl rfl ?_; refine (v_makeR (t.cor i) (t.cor (i + 1)) p _ _ ?_)))); try (first | exact VR.done hK1 | (refine VR.done ?_; dsimp only [S.set]; exact hK1)))
  case hok => kernel_rfl
  case hj =>
   dsimp only [List.append, tla]
   repeat' (first | refine VJ.seq ?_ | refine VJ.region_k fun K hK => ?_ | (refine VR.done (hK _ ?_); clear hK K) | (first | refine VR.move rfl rfl ?_))
   refine VJ.cond rfl (fun hc => ?_) (fun hc => ?_)
   ·have hc : (makeT (t.cor i) (t.cor (i + 1)) p).2 = true := hc
    rw [if_pos hc] at ih'
    repeat' (first | refine VJ.inBlock ?_ | refine VJ.region_k fun K hK => ?_ | (refine VR.done (hK _ ?_); clear hK K) | (first | refine VR.move rfl rfl ?_ | refine VR.assign rfl rfl ?_ | (show onLd; refine VR.load tok rfl rfl rfl rfl ?_) | refine VR.int rfl rfl rfl rfl ?_ | (refine VR.buildLst ([(makeT (t.cor i) (t.cor (i + 1)) p).1].map Tr.v) tok (by rfl) (by rfl) (by rfl) (by rfl) (by rfl) (by rfl) (by rfl) (by rfl) (by rfl) (by rfl) (by rfl) ?_) | (refine VR.append tok (by rfl) (by rfl) (by rfl) (by rfl) (by rfl) (by rfl) (by rfl) (by rfl) (by rfl) (by rfl) (oneT [(makeT (t.cor i) (t.cor (i + 1)) p).1]) (by simp; omega) (by simp [maxLen]; omega) ?_)))
    exact VJ.to 3 _ _ ih' rfl ⟨vI_succ (by omega), by rfl, by rfl, by rfl, trivial⟩ ⟨by rfl, by rfl, by rw [List.map_append]; rfl, trivial⟩ (by rfl)
   ·have hc : ¬ (makeT (t.cor i) (t.cor (i + 1)) p).2 = true := by
     have hc : (makeT (t.cor i) (t.cor (i + 1)) p).2 = false := hc
     rw [hc]; simp
    rw [if_neg hc] at ih'
    repeat' (first | refine VJ.skip ?_ | refine VJ.inBlock ?_ | refine VJ.region_k fun K hK => ?_ | (refine VR.done (hK _ ?_); clear hK K) | (first | refine VR.move rfl rfl ?_ | refine VR.assign rfl rfl ?_ | refine VR.int rfl rfl rfl rfl ?_))
    exact VJ.to 3 _ _ ih' rfl ⟨vI_succ (by omega), by rfl, by rfl, by rfl, trivial⟩ ⟨by rfl, by rfl, by rw [List.append_nil]; rfl, trivial⟩ (by rfl)
 ·have hb : (bif (bif (bif (bif decide ((i : Int) < 3) then hasP t p else false) then !decide (p = t.a) else false) then !decide (p = t.b) else false) then !decide (p = t.c) else false) = false := hb
  have hres : cutN t p i = (if cutOk t p = true then cutN t p 3 else []) := by
   cases hk : cutOk t p with
   | true =>
     rw [if_pos rfl]
     have : i = 3 := by
      by_cases h : (i : Int) < 3
      ·rw [decide_eq_true h] at hb
       have hb : cutOk t p = false := hb
       rw [hk] at hb; cases hb
      ·omega
     rw [this]
   | false =>
     rw [if_neg (by simp)]
     rcases hok with h | h
     ·rw [h]; rfl
     ·rw [hk] at h; cases h
  rw [← hres] at hQ
  have hfew := cutN_len t p i
  clear ih hb hres
  repeat' (first | refine VJ.seq ?_ | refine VJ.skip ?_ | refine VJ.inBlock ?_ | refine VJ.exit rfl ?_ | refine VJ.cond_f rfl ?_)
  refine VJ.freeze 5 rfl rfl ?_
  repeat' (first | refine VJ.region_k fun K hK => ?_ | (refine VR.done (hK _ ?_); clear hK K) | (first | refine VR.move rfl rfl ?_ | refine VR.assign rfl rfl ?_) | (refine VR.call fok34 rfl rfl rfl rfl ?_; refine (v_sortTR (cutN t p i) (by omega) _ _ ?_)))
  refine VJ.ret tok (by rfl) (by rfl) ?_
  exact hQ
set_option maxRecDepth 20000 in
set_option maxHeartbeats 4000000 in
theorem v_atP (E : LS) (few : E.length < 100000) (p : Pt) (G : Gl) (hG : RefP G E) (Q : Po) (hQ : Q (vL 6 ((sortT (colOf (atF p) E)).map Tr.v)) G) : VC Tryz.prog 12 [vN, vV (ptV p)] G Q := by
 obtain ⟨z, hg⟩ := hG.ok
 rw [gov_self hg] at hQ ⊢
 refine VC.of_body Tryz.func12 rfl rfl rfl fun W0 h0 x0 hG0 => ?_
 simp only [args0]
 repeat' (first | refine VJ.seq ?_ | refine VJ.block ?_ | refine VJ.region_k fun K hK => ?_ | (refine VR.done (hK _ ?_); clear hK K) | (first | refine VR.move rfl rfl ?_ | refine VR.assign rfl rfl ?_ | (show onLd; refine VR.load tok rfl rfl rfl rfl ?_) | (show onFa; refine VR.fieldAddr tok rfl rfl rfl rfl rfl rfl ?_) | refine VR.box rfl rfl rfl ?_ | refine VR.nilCheck rfl rfl rfl ?_ | refine VR.range rfl rfl rfl (mapOk (by rfl)) ?_))
 refine VJ.promote 5 49 6 (by decide) rfl ?_
 refine VJ.to 3 [(12, .a (.ptr (.l 1) 0)), (5, .a (.own (.l 2))), (3, .a (.ptr (.l 0) 0))] [(0, bxP p), (1, .itr En.v Tr.v E E z none), (2, .row 49 6 ((colOf (atF p) []).map Tr.v))] ?_ rfl (by repeat' first | exact trivial | refine ⟨rfl, ?_⟩) (by repeat' first | exact trivial | refine ⟨rfl, ?_⟩) (by rfl)
 refine VJ.rec (fun a : LS × LS × Option Value => ⟨3, [(12, .a (.ptr (.l 1) 0)), (5, .a (.own (.l 2))), (3, .a (.ptr (.l 0) 0))], [(0, bxP p), (1, .itr En.v Tr.v E a.2.1 z a.2.2), (2, .row 49 6 ((colOf (atF p) a.1).map Tr.v))], gov [(3, bxN), (4, .map En.v Tr.v E (some z))] G⟩) (fun a => a.2.1.length) (fun a => (a.1 ++ a.2.1).Perm E) ([], E, none) (by simp) ?_
 rintro ⟨dn, left, cur⟩ hpm ih
 dsimp only at hpm ih ⊢
 repeat' (first | refine VJ.seq ?_ | refine VJ.region_k fun K hK => ?_ | (fail))
 refine VR.next (i := .g 4) rfl rfl rfl rfl ?_ ?_
 ·intro hl
  subst hl
  have hpt : sortT (colOf (atF p) dn) = sortT (colOf (atF p) E) := sortT_eq (colOf_perm _ (by simpa using hpm))
  have hfew : (colOf (atF p) dn).length < 1000000 := by
   have h1 := colOf_len (atF p) dn
   have h2 := hpm.length_eq
   simp at h2
   omega
  repeat' (first | fail)
  refine VR.extract rfl rfl rfl ?_
  refine VR.done (hK _ ?_); clear hK K
  repeat' (first | refine VJ.seq ?_ | refine VJ.skip ?_ | refine VJ.inBlock ?_ | refine VJ.exit rfl ?_ | refine VJ.cond_f rfl ?_)
  refine VJ.freeze 5 rfl rfl ?_
  repeat' (first | refine VJ.region_k fun K hK => ?_ | (refine VR.done (hK _ ?_); clear hK K) | (first | refine VR.move rfl rfl ?_ | refine VR.assign rfl rfl ?_ | (refine VR.call fok34 rfl rfl rfl rfl ?_; refine v_sortTR (colOf (atF p) dn) hfew _ _ ?_; rw [hpt])))
  refine VJ.ret tok (by rfl) (by rfl) ?_
  exact hQ
 ·intro x c y z' hl
  subst hl
  have hpm' : ((dn ++ [(x, c)]) ++ (y ++ z')).Perm E := by
   refine List.Perm.trans ?_ hpm
   rw [List.append_assoc]
   refine List.Perm.append_left dn ?_
   simpa using (List.perm_middle (a := (x, c)) (l₁ := y) (l₂ := z')).symm
  have hfew : (colOf (atF p) dn).length < 1000000 := by
   have h1 := colOf_len (atF p) dn
   have h2 := hpm.length_eq
   simp at h2
   omega
  have hsn := colOf_snoc (atF p) dn (x, c)
  have ih' := ih (dn ++ [(x, c)], y ++ z', some (.tuple #[x.v, c.v])) hpm' (by simp)
  dsimp only at ih' hsn
  rw [hsn] at ih'
  repeat' (first | refine VJ.seq ?_ | refine VJ.skip ?_ | refine VJ.block ?_ | refine VJ.cond_t rfl ?_ | refine VJ.region_k fun K hK => ?_ | (refine VR.done (hK _ ?_); clear hK K) | (first | refine VR.move rfl rfl ?_ | (show onLd; refine VR.load tok rfl rfl rfl rfl ?_) | (show onFa; refine VR.fieldAddr tok rfl rfl rfl rfl rfl rfl ?_) | (refine VR.pickB rfl rfl rfl rfl ?_ ?_ ?_; iterate 2 (first | exact trivial | (refine fun h => ?_; first | (rw [h]; rfl) | (rw [h, hg]; rfl) | (rw [hg, h]; rfl) | (simp [h, hg]; done)))) | refine VR.alloc tok rfl rfl rfl ?_ | refine VR.store tok rfl rfl rfl rfl rfl rfl rfl (by first | (intro n e; cases e; done) | exact (fun _ _ q => all_glA (by rfl) q)) ?_ | refine VR.extract rfl rfl rfl ?_ | (refine VR.entry (i := .g 4) rfl rfl rfl rfl ?_) | (refine VR.bin rfl rfl rfl (eqP _ _ _ _) ?_)) | (refine' VR.spec (by rfl) (by rfl) (by rfl) ?_ ?_ ?_; rotate_left 1; (repeat (first | exact trivial | refine And.intro id ?_)); intro hg K1 hK1; (first | (show onLd; refine VR.load tok rfl rfl rfl rfl ?_) | (refine VR.call fok33 rfl rfl rfl rfl ?_; refine (v_hasP c p _ _ ?_))); exact VR.done hK1))
  refine VJ.cond rfl (fun hc => ?_) (fun hc => ?_)
  ·have hc : atF p (x, c) = true := hc
   rw [if_pos hc] at ih'
   repeat' (first | refine VJ.inBlock ?_ | refine VJ.region_k fun K hK => ?_ | (refine VR.done (hK _ ?_); clear hK K) | (first | refine VR.move rfl rfl ?_ | refine VR.assign rfl rfl ?_ | (show onLd; refine VR.load tok rfl rfl rfl rfl ?_) | (refine VR.buildLst ([c].map Tr.v) tok (by rfl) (by rfl) (by rfl) (by rfl) (by rfl) (by rfl) (by rfl) (by rfl) (by rfl) (by rfl) (by rfl) ?_) | (refine VR.append tok (by rfl) (by rfl) (by rfl) (by rfl) (by rfl) (by rfl) (by rfl) (by rfl) (by rfl) (by rfl) (oneT [c]) (by simp; omega) (by simp [maxLen]; omega) ?_)))
   exact VJ.to 3 _ _ ih' rfl (by repeat' first | exact trivial | refine ⟨rfl, ?_⟩) ⟨by rfl, by rfl, by rw [List.map_append]; rfl, trivial⟩ (by rfl)
  ·have hc : ¬ atF p (x, c) = true := by
    have hc : atF p (x, c) = false := hc
    rw [hc]; simp
   rw [if_neg hc] at ih'
   repeat' (first | refine VJ.skip ?_ | refine VJ.inBlock ?_ | (fail))
   exact VJ.to 3 _ _ ih' rfl (by repeat' first | exact trivial | refine ⟨rfl, ?_⟩) (by repeat' first | exact trivial | refine ⟨rfl, ?_⟩) (by rfl)
theorem v_at (E : LS) (few : E.length < 100000) (p : Pt) (G : Gl) (hG : RefG G E) (Q : Po) (hQ : Q (vL 6 ((sortT (colOf (atF p) E)).map Tr.v)) G) : VC Tryz.prog 12 [vN, vV (ptV p)] G Q := by
 obtain ⟨z, g4⟩ := hG.2
 refine VC.pinned 4 g4 fun G' q e => ?_
 subst e
 exact v_atP E few p _ (hG.refP q) _ ⟨rfl, hQ⟩
set_option maxRecDepth 20000 in
set_option maxHeartbeats 4000000 in
theorem v_starP (E : LS) (few : E.length < 100000) (p : Pt) (G : Gl) (hG : RefP G E) (Q : Po) (hQ : Q (vL 6 ((sortT (colOf (starF p) E)).map Tr.v)) G) : VC Tryz.prog 14 [vN, vV (ptV p)] G Q := by
 obtain ⟨z, hg⟩ := hG.ok
 rw [gov_self hg] at hQ ⊢
 refine VC.of_body Tryz.func14 rfl rfl rfl fun W0 h0 x0 hG0 => ?_
 simp only [args0]
 repeat' (first | refine VJ.seq ?_ | refine VJ.block ?_ | refine VJ.region_k fun K hK => ?_ | (refine VR.done (hK _ ?_); clear hK K) | (first | refine VR.move rfl rfl ?_ | refine VR.assign rfl rfl ?_ | (show onLd; refine VR.load tok rfl rfl rfl rfl ?_) | (show onFa; refine VR.fieldAddr tok rfl rfl rfl rfl rfl rfl ?_) | refine VR.box rfl rfl rfl ?_ | refine VR.nilCheck rfl rfl rfl ?_ | refine VR.range rfl rfl rfl (mapOk (by rfl)) ?_))
 refine VJ.promote 5 49 6 (by decide) rfl ?_
 refine VJ.to 3 [(12, .a (.ptr (.l 1) 0)), (5, .a (.own (.l 2))), (3, .a (.ptr (.l 0) 0))] [(0, bxP p), (1, .itr En.v Tr.v E E z none), (2, .row 49 6 ((colOf (starF p) []).map Tr.v))] ?_ rfl (by repeat' first | exact trivial | refine ⟨rfl, ?_⟩) (by repeat' first | exact trivial | refine ⟨rfl, ?_⟩) (by rfl)
 refine VJ.rec (fun a : LS × LS × Option Value => ⟨3, [(12, .a (.ptr (.l 1) 0)), (5, .a (.own (.l 2))), (3, .a (.ptr (.l 0) 0))], [(0, bxP p), (1, .itr En.v Tr.v E a.2.1 z a.2.2), (2, .row 49 6 ((colOf (starF p) a.1).map Tr.v))], gov [(3, bxN), (4, .map En.v Tr.v E (some z))] G⟩) (fun a => a.2.1.length) (fun a => (a.1 ++ a.2.1).Perm E) ([], E, none) (by simp) ?_
 rintro ⟨dn, left, cur⟩ hpm ih
 dsimp only at hpm ih ⊢
 repeat' (first | refine VJ.seq ?_ | refine VJ.region_k fun K hK => ?_ | (fail))
 refine VR.next (i := .g 4) rfl rfl rfl rfl ?_ ?_
 ·intro hl
  subst hl
  have hpt : sortT (colOf (starF p) dn) = sortT (colOf (starF p) E) := sortT_eq (colOf_perm _ (by simpa using hpm))
  have hfew : (colOf (starF p) dn).length < 1000000 := by
   have h1 := colOf_len (starF p) dn
   have h2 := hpm.length_eq
   simp at h2
   omega
  repeat' (first | fail)
  refine VR.extract rfl rfl rfl ?_
  refine VR.done (hK _ ?_); clear hK K
  repeat' (first | refine VJ.seq ?_ | refine VJ.skip ?_ | refine VJ.inBlock ?_ | refine VJ.exit rfl ?_ | refine VJ.cond_f rfl ?_)
  refine VJ.freeze 5 rfl rfl ?_
  repeat' (first | refine VJ.region_k fun K hK => ?_ | (refine VR.done (hK _ ?_); clear hK K) | (first | refine VR.move rfl rfl ?_ | refine VR.assign rfl rfl ?_ | (refine VR.call fok34 rfl rfl rfl rfl ?_; refine v_sortTR (colOf (starF p) dn) hfew _ _ ?_; rw [hpt])))
  refine VJ.ret tok (by rfl) (by rfl) ?_
  exact hQ
 ·intro x c y z' hl
  subst hl
  have hpm' : ((dn ++ [(x, c)]) ++ (y ++ z')).Perm E := by
   refine List.Perm.trans ?_ hpm
   rw [List.append_assoc]
   refine List.Perm.append_left dn ?_
   simpa using (List.perm_middle (a := (x, c)) (l₁ := y) (l₂ := z')).symm
  have hfew : (colOf (starF p) dn).length < 1000000 := by
   have h1 := colOf_len (starF p) dn
   have h2 := hpm.length_eq
   simp at h2
   omega
  have hsn := colOf_snoc (starF p) dn (x, c)
  have ih' := ih (dn ++ [(x, c)], y ++ z', some (.tuple #[x.v, c.v])) hpm' (by simp)
  dsimp only at ih' hsn
  rw [hsn] at ih'
  repeat' (first | refine VJ.seq ?_ | refine VJ.skip ?_ | refine VJ.block ?_ | refine VJ.cond_t rfl ?_ | refine VJ.region_k fun K hK => ?_ | (refine VR.done (hK _ ?_); clear hK K) | (first | (show onLd; refine VR.load tok rfl rfl rfl rfl ?_) | (show onFa; refine VR.fieldAddr tok rfl rfl rfl rfl rfl rfl ?_) | refine VR.alloc tok rfl rfl rfl ?_ | refine VR.store tok rfl rfl rfl rfl rfl rfl rfl (by first | (intro n e; cases e; done) | exact (fun _ _ q => all_glA (by rfl) q)) ?_ | refine VR.extract rfl rfl rfl ?_ | (refine VR.entry (i := .g 4) rfl rfl rfl rfl ?_) | (refine VR.bin rfl rfl rfl (eqP _ _ _ _) ?_)))
  refine VJ.cond rfl (fun hc => ?_) (fun hc => ?_)
  ·have hc : starF p (x, c) = true := hc
   rw [if_pos hc] at ih'
   repeat' (first | refine VJ.inBlock ?_ | refine VJ.region_k fun K hK => ?_ | (refine VR.done (hK _ ?_); clear hK K) | (first | refine VR.move rfl rfl ?_ | refine VR.assign rfl rfl ?_ | (show onLd; refine VR.load tok rfl rfl rfl rfl ?_) | (refine VR.buildLst ([c].map Tr.v) tok (by rfl) (by rfl) (by rfl) (by rfl) (by rfl) (by rfl) (by rfl) (by rfl) (by rfl) (by rfl) (by rfl) ?_) | (refine VR.append tok (by rfl) (by rfl) (by rfl) (by rfl) (by rfl) (by rfl) (by rfl) (by rfl) (by rfl) (by rfl) (oneT [c]) (by simp; omega) (by simp [maxLen]; omega) ?_)))
   exact VJ.to 3 _ _ ih' rfl (by repeat' first | exact trivial | refine ⟨rfl, ?_⟩) ⟨by rfl, by rfl, by rw [List.map_append]; rfl, trivial⟩ (by rfl)
  ·have hc : ¬ starF p (x, c) = true := by
    have hc : starF p (x, c) = false := hc
    rw [hc]; simp
   rw [if_neg hc] at ih'
   repeat' (first | refine VJ.skip ?_ | refine VJ.inBlock ?_ | (fail))
   exact VJ.to 3 _ _ ih' rfl (by repeat' first | exact trivial | refine ⟨rfl, ?_⟩) (by repeat' first | exact trivial | refine ⟨rfl, ?_⟩) (by rfl)
theorem v_star (E : LS) (few : E.length < 100000) (p : Pt) (G : Gl) (hG : RefG G E) (Q : Po) (hQ : Q (vL 6 ((sortT (colOf (starF p) E)).map Tr.v)) G) : VC Tryz.prog 14 [vN, vV (ptV p)] G Q := by
 obtain ⟨z, g4⟩ := hG.2
 refine VC.pinned 4 g4 fun G' q e => ?_
 subst e
 exact v_starP E few p _ (hG.refP q) _ ⟨rfl, hQ⟩
theorem v_trisG (E : LS) (few : E.length < 100000) (G : Gl) (hG : RefG G E) (Q : Po) (hQ : Q (vL 6 ((trisR E).map Tr.v)) G) : VC Tryz.prog 29 [vN] G Q := by
 obtain ⟨z, g4⟩ := hG.2
 refine VC.pinned 4 g4 fun G' q e => ?_
 subst e
 exact v_trisR E few _ (hG.refP q) _ ⟨rfl, hQ⟩
end Go.Proofs.YtnpnjhopgedhkaaGreat
namespace Go.Proofs.YtnpnjhopgedhkaaGreat
open Go.RowKit V Geo
def atL (E : LS) (p : Pt) : List Tr := sortT (colOf (atF p) E)
def starL (E : LS) (p : Pt) : List Tr := sortT (colOf (starF p) E)
def cutS (p : Pt) (E : LS) (t : Tr) : LS := (cutR t p).foldl putS E
def delS (E : LS) (t : Tr) : LS := delE E (around t)
def addE (E : LS) (p : Pt) : LS := (atL E p).foldl (cutS p) ((atL E p).foldl delS E)
def addW (W : List Wl) (p : Pt) : List Wl := match W.find? (onInR p) with
 | none => W
 | some w => insR (insR (W.eraseP (hitR w.a w.b)) ⟨w.a, p, w.k⟩) ⟨p, w.b, w.k⟩
theorem foldl_take {α β : Type} (f : α → β → α) (a : α) (l : List β) {j : Nat} (h : j < l.length) : (l.take (j + 1)).foldl f a = f ((l.take j).foldl f a) l[j] := by
 rw [← List.take_append_getElem h, List.foldl_append]; rfl
theorem len_colOf (f : En × Tr → Bool) (E : LS) : (sortT (colOf f E)).length ≤ E.length := by rw [sortT_len]; exact colOf_len f E
theorem cutR_len (t : Tr) (p : Pt) : (cutR t p).length ≤ 3 := by
 unfold cutR
 rw [sortT_len]
 split
 ·exact cutN_len t p 3
 ·exact Nat.zero_le _
theorem G3W_5 (E : LS) (W W' : List Wl) (G : Gl) : gset (G3W E W G) 5 (bxR W') = G3W E W' G := by
 funext n
 by_cases h4 : n = 4
 ·subst h4; rfl
 by_cases h3 : n = 3
 ·subst h3; rfl
 by_cases h5 : n = 5
 ·subst h5; rfl
 ·simp [gset, gov, lk, h3, h4, h5]
theorem G3W_ref (E : LS) (W : List Wl) (G : Gl) : RefG (G3W E W G) E := ⟨rfl, ⟨_, rfl⟩⟩
theorem G3W_wal (E : LS) (W : List Wl) (G : Gl) : WalG (G3W E W G) W := rfl
theorem len_eraseP_le (q : Wl → Bool) (W : List Wl) : (W.eraseP q).length ≤ W.length := List.length_eraseP_le
attribute [local irreducible] VR VJ VC decOk decBt
theorem v_takeW (E : LS) (t : Tr) (W : List Wl) (G : Gl) (Q : Po) (hQ : Q (.tup []) (G3W (delS E t) W G)) : VC Tryz.prog 79 [vN, vV t.v] (G3W E W G) Q :=
 v_takeR E t _ (G3W_ref E W G) Q (by rw [show gset (G3W E W G) 4 (mL (delE E (around t)) none) = G3W (delS E t) W G from funext (G3W_4 E _ W G)]; exact hQ)
theorem v_putS (E : LS) (t : Tr) (W : List Wl) (G : Gl) (Q : Po) (hQ : ∀ b, Q (vB b) (G3W (putS E t) W G)) : VC Tryz.prog 72 [vN, vV t.v] (G3W E W G) Q := by
 refine v_putR E t _ (G3W_ref E W G) Q (fun h => ?_) (fun h => ?_)
 ·have := hQ false
  unfold putS at this
  rw [if_neg (by rw [h]; simp)] at this
  exact this
 ·have := hQ true
  unfold putS at this
  rw [if_pos h] at this
  rw [show gset (G3W E W G) 4 (mL (addEs E t (around t)) none) = G3W (addEs E t (around t)) W G from funext (G3W_4 E _ W G)]
  exact this
theorem v_removeS (E : LS) (W : List Wl) (few : W.length < 1000000) (a b : Pt) (G : Gl) (Q : Po) (hQ : ∀ r, Q (vI r) (G3W E (W.eraseP (hitR a b)) G)) : VC Tryz.prog 82 [vWl, vV (ptV a), vV (ptV b)] (G3W E W G) Q := by
 refine v_removeR W few a b _ (G3W_wal E W G) Q (fun h => ?_) (fun h => ?_)
 ·have e : W.eraseP (hitR a b) = W := List.eraseP_of_forall_not (List.any_eq_false.1 h)
  have := hQ 16
  rw [e] at this
  exact this
 ·rw [G3W_5]
  exact hQ 0
theorem v_putWS (E : LS) (W : List Wl) (few : W.length < 1000000) (w : Wl) (G : Gl) (Q : Po) (hQ : Q (.tup []) (G3W E (insR W w) G)) : VC Tryz.prog 50 [vWl, vV w.v] (G3W E W G) Q :=
 v_putW W few w _ (G3W_wal E W G) Q (by rw [G3W_5]; exact hQ)
set_option maxRecDepth 20000 in
set_option maxHeartbeats 8000000 in
theorem v_addP (E : LS) (few : E.length < 100000) (W : List Wl) (fewW : W.length < 900000) (p : Pt) (G : Gl) (hG : RefG G E) (hW : WalG G W) (Q : Po)
 (hQ1 : atL E p = [] → Q (vI 1) G) (hQ2 : atL E p ≠ [] → starL E p ≠ [] → Q (vI 5) G) (hQ3 : atL E p ≠ [] → starL E p = [] → Q (vI 0) (G3W (addE E p) (addW W p) G)) : VC Tryz.prog 52 [vN, vWl, vV (ptV p)] G Q := by
 obtain ⟨z, g4⟩ := hG.2
 refine VC.of_body Tryz.func52 rfl rfl rfl fun W0 h0 x0 hG0 => ?_
 simp only [args0]
 have hl1 : (atL E p).length ≤ E.length := len_colOf _ _
 have hl2 : (starL E p).length ≤ E.length := len_colOf _ _
 repeat' (first | refine VJ.seq ?_ | refine VJ.region_k fun K hK => ?_ | (refine VR.done (hK _ ?_); clear hK K) | (first | refine VR.move rfl rfl ?_ | refine VR.assign rfl rfl ?_ | (show onLd; refine VR.load tok rfl rfl rfl rfl ?_) | refine VR.int rfl rfl rfl rfl ?_ | refine VR.box rfl rfl rfl ?_ | refine VR.len tok rfl rfl rfl rfl rfl ?_) | (refine VR.call fok12 rfl rfl rfl rfl ?_; refine (v_at E few p _ hG _ ?_)))
 refine VJ.cond rfl (fun hb => ?_) (fun hb => ?_)
 ·have h : atL E p = [] := by
   have : (((sortT (colOf (atF p) E)).map Tr.v).length : Int) = 0 := by simpa using hb
   rw [List.length_map] at this
   exact List.eq_nil_of_length_eq_zero (by unfold atL; omega)
  repeat' (first | refine VJ.seq ?_ | refine VJ.region_k fun K hK => ?_ | (refine VR.done (hK _ ?_); clear hK K) | (first | refine VR.assign rfl rfl ?_))
  refine VJ.ret tok (by rfl) (by rfl) ?_
  exact hQ1 h
 have hat : atL E p ≠ [] := fun h => by
  have h : sortT (colOf (atF p) E) = [] := h
  rw [h] at hb
  cases hb
 repeat' (first | refine VJ.seq ?_ | refine VJ.skip ?_ | refine VJ.region_k fun K hK => ?_ | (refine VR.done (hK _ ?_); clear hK K) | (first | refine VR.move rfl rfl ?_ | (show onLd; refine VR.load tok rfl rfl rfl rfl ?_) | refine VR.int rfl rfl rfl rfl ?_ | refine VR.len tok rfl rfl rfl rfl rfl ?_) | (refine VR.call fok14 rfl rfl rfl rfl ?_; refine (v_star E few p _ hG _ ?_)))
 refine VJ.cond rfl (fun hb2 => ?_) (fun hb2 => ?_)
 ·have h : starL E p ≠ [] := fun h => by
   have h : sortT (colOf (starF p) E) = [] := h
   rw [h] at hb2
   cases hb2
  repeat' (first | refine VJ.seq ?_ | refine VJ.region_k fun K hK => ?_ | (refine VR.done (hK _ ?_); clear hK K) | (first | refine VR.assign rfl rfl ?_))
  refine VJ.ret tok (by rfl) (by rfl) ?_
  exact hQ2 hat h
 have hst : starL E p = [] := by
  have : ¬ (((sortT (colOf (starF p) E)).map Tr.v).length : Int) > 0 := by simpa using hb2
  rw [List.length_map] at this
  exact List.eq_nil_of_length_eq_zero (by unfold starL; omega)
 have hq := hQ3 hat hst
 clear hQ1 hQ2 hQ3 hb hb2
 unfold addE at hq
 repeat' (first | refine VJ.seq ?_ | refine VJ.skip ?_ | refine VJ.block ?_ | refine VJ.region_k fun K hK => ?_ | (refine VR.done (hK _ ?_); clear hK K) | (first | refine VR.assign rfl rfl ?_))
 refine VJ.to 1 [(8, vI ((0 : Nat) : Int)), (7, vL 6 ((atL E p).map Tr.v)), (6, vI 0), (5, .a (.ptr (.l 0) 0)), (1, vWl), (0, vN)] [(0, bxP p)] ?_ rfl (by repeat' first | exact trivial | refine ⟨rfl, ?_⟩) (by repeat' first | exact trivial | refine ⟨rfl, ?_⟩) (by rfl)
 refine VJ.unpin (.g 4) (show S.obj ⟨1, _, _, G⟩ (.g 4) = some (mL E z) from g4) ?_
 refine VJ.toG 1 [(8, vI ((0 : Nat) : Int)), (7, vL 6 ((atL E p).map Tr.v)), (6, vI 0), (5, .a (.ptr (.l 0) 0)), (1, vWl), (0, vN)] [(0, bxP p)] (G3W (((atL E p).take 0).foldl delS E) W G) ?_ rfl (by repeat' first | exact trivial | refine ⟨rfl, ?_⟩) (by repeat' first | exact trivial | refine ⟨rfl, ?_⟩) (by rfl) (fun n => congrFun (G3W_of (E' := E) hG hW) n)
 generalize atL E p = A at hl1 hq hat ⊢
 refine VJ.rec (fun j : Nat => ⟨1, [(8, vI j), (7, vL 6 (A.map Tr.v)), (6, vI 0), (5, .a (.ptr (.l 0) 0)), (1, vWl), (0, vN)], [(0, bxP p)], G3W ((A.take j).foldl delS E) W G⟩) (fun j => A.length - j) (fun j => j ≤ A.length) 0 (Nat.zero_le _) ?_
 rintro j hj ih
 try dsimp only at hj ih ⊢
 repeat' (first | refine VJ.seq ?_ | refine VJ.region_k fun K hK => ?_ | (refine VR.done (hK _ ?_); clear hK K) | (first | refine VR.move rfl rfl ?_ | refine VR.int rfl rfl rfl rfl ?_ | refine VR.len tok rfl rfl rfl rfl rfl ?_))
 refine VJ.cond rfl (fun hb => ?_) (fun hb => ?_)
 ·have hlt : j < A.length := by simpa using hb
  have hget := map_get_t hlt
  have ih' := ih (j + 1) hlt (by omega)
  rw [foldl_take _ _ _ hlt] at ih'
  clear ih
  generalize A[j] = t at hget ih'
  repeat' (first | refine VJ.seq ?_ | refine VJ.skip ?_ | refine VJ.block ?_ | refine VJ.inBlock ?_ | refine VJ.region_k fun K hK => ?_ | (refine VR.done (hK _ ?_); clear hK K) | (first | refine VR.move rfl rfl ?_ | refine VR.assign rfl rfl ?_ | (show onLd; refine VR.load tok rfl rfl rfl (by first | rfl | exact (ldp_el (by assumption)).trans (by rfl)) ?_) | (show onIx; refine VR.indexAddr tok rfl rfl rfl rfl rfl rfl rfl (elA_lst (by assumption)) ?_) | refine VR.int rfl rfl rfl rfl ?_) | (refine VR.call fok79 rfl rfl rfl rfl ?_; refine (v_takeW _ t W G _ ?_)))
  exact VJ.to 1 _ _ ih' rfl ⟨vI_succ (by omega), by rfl, by rfl, by rfl, by rfl, by rfl, trivial⟩ (by repeat' first | exact trivial | refine ⟨rfl, ?_⟩) (by rfl)
 have hge : j = A.length := by simp at hb; omega
 subst hge
 clear ih hb
 rw [List.take_length]
 generalize A.foldl delS E = E1 at hq ⊢
 repeat' (first | refine VJ.seq ?_ | refine VJ.block ?_ | refine VJ.exit rfl ?_ | refine VJ.region_k fun K hK => ?_ | (refine VR.done (hK _ ?_); clear hK K) | (first | refine VR.assign rfl rfl ?_))
 refine VJ.to 1 [(9, vI ((0 : Nat) : Int)), (7, vL 6 (A.map Tr.v)), (6, vI 0), (5, .a (.ptr (.l 0) 0)), (1, vWl), (0, vN)] [(0, bxP p)] ?_ rfl (by repeat' first | exact trivial | refine ⟨rfl, ?_⟩) (by repeat' first | exact trivial | refine ⟨rfl, ?_⟩) (by rfl)
 refine VJ.rec (fun j : Nat => ⟨1, [(9, vI j), (7, vL 6 (A.map Tr.v)), (6, vI 0), (5, .a (.ptr (.l 0) 0)), (1, vWl), (0, vN)], [(0, bxP p)], G3W ((A.take j).foldl (cutS p) E1) W G⟩) (fun j => A.length - j) (fun j => j ≤ A.length) 0 (Nat.zero_le _) ?_
 rintro j hj ih
 try dsimp only at hj ih ⊢
 repeat' (first | refine VJ.seq ?_ | refine VJ.region_k fun K hK => ?_ | (refine VR.done (hK _ ?_); clear hK K) | (first | refine VR.move rfl rfl ?_ | refine VR.int rfl rfl rfl rfl ?_ | refine VR.len tok rfl rfl rfl rfl rfl ?_))
 refine VJ.cond rfl (fun hb => ?_) (fun hb => ?_)
 ·have hlt : j < A.length := by simpa using hb
  have hget := map_get_t hlt
  have ih' := ih (j + 1) hlt (by omega)
  rw [foldl_take _ _ _ hlt] at ih'
  clear ih
  generalize A[j] = t at hget ih'
  generalize (A.take j).foldl (cutS p) E1 = E2 at ih' ⊢
  have hc3 := cutR_len t p
  repeat' (first | refine VJ.seq ?_ | refine VJ.skip ?_ | refine VJ.block ?_ | (fail))
  apply VJ.draw3 [] [(0, 0), (1, 0), (2, 0), (3, 0), (4, 0), (5, 0), (6, 0)] [[(7, none)], [(9, none)], [(43, some 0), (44, some 1)], [(45, some 2)], [(5, none)], [(46, some 3), (47, some 4)], [(48, some 5)]] [[(7, _)], [(9, _)], [(43, _), (44, _)], [(45, _)], [(5, _)], [(46, _), (47, _)], [(48, _)]] [_, _, _, _, _, _, _] [⟨_, _, _⟩] (by kernel_rfl) ?hok rfl ?hh rfl rfl ?hj
  case hh =>
   refine ⟨?_, ?_, ?_, ?_, ?_, ?_, ?_, trivial⟩
   all_goals (intro rest K1 hK1; (repeat (first | exact VR.done hK1 | (first | refine VR.move rfl rfl ?_ | refine VR.assign rfl rfl ?_ | (show onLd; refine VR.load tok rfl rfl rfl (by first | rfl | exact (ldp_el (by assumption)).trans (by rfl)) ?_) | (show onIx; refine VR.indexAddr tok rfl rfl rfl rfl rfl rfl rfl (elA_lst (by assumption)) ?_)) | (refine VR.call fok80 rfl rfl rfl rfl ?_; refine (v_cutR t p _ _ ?_)))); try (first | exact VR.done hK1 | (refine VR.done ?_; dsimp only [S.set]; exact hK1)))
  case hok => kernel_rfl
  case hj =>
   dsimp only [List.append, tla]
   repeat' (first | refine VJ.seq ?_ | refine VJ.block ?_ | refine VJ.region_k fun K hK => ?_ | (refine VR.done (hK _ ?_); clear hK K) | (first | refine VR.assign rfl rfl ?_))
   unfold cutS at ih'
   refine VJ.to 1 [(11, vI ((0 : Nat) : Int)), (10, vL 6 ((cutR t p).map Tr.v)), (9, vI j), (7, vL 6 (A.map Tr.v)), (6, vI 0), (5, .a (.ptr (.l 0) 0)), (1, vWl), (0, vN)] [(0, bxP p)] ?_ rfl (by repeat' first | exact trivial | refine ⟨rfl, ?_⟩) (by repeat' first | exact trivial | refine ⟨rfl, ?_⟩) (by rfl)
   generalize cutR t p = B at ih' hc3 ⊢
   refine VJ.rec (fun i : Nat => ⟨1, [(11, vI i), (10, vL 6 (B.map Tr.v)), (9, vI j), (7, vL 6 (A.map Tr.v)), (6, vI 0), (5, .a (.ptr (.l 0) 0)), (1, vWl), (0, vN)], [(0, bxP p)], G3W ((B.take i).foldl putS E2) W G⟩) (fun i => B.length - i) (fun i => i ≤ B.length) 0 (Nat.zero_le _) ?_
   rintro i hi ih2
   try dsimp only at hi ih2 ⊢
   repeat' (first | refine VJ.seq ?_ | refine VJ.region_k fun K hK => ?_ | (refine VR.done (hK _ ?_); clear hK K) | (first | refine VR.move rfl rfl ?_ | refine VR.int rfl rfl rfl rfl ?_ | refine VR.len tok rfl rfl rfl rfl rfl ?_))
   refine VJ.cond rfl (fun hb2 => ?_) (fun hb2 => ?_)
   ·have hlt2 : i < B.length := by simpa using hb2
    have hget2 := map_get_t hlt2
    have ih3 := ih2 (i + 1) hlt2 (by omega)
    rw [foldl_take _ _ _ hlt2] at ih3
    clear ih2
    generalize B[i] = u at hget2 ih3
    repeat' (first | refine VJ.seq ?_ | refine VJ.skip ?_ | refine VJ.block ?_ | refine VJ.inBlock ?_ | refine VJ.region_k fun K hK => ?_ | (refine VR.done (hK _ ?_); clear hK K) | (first | refine VR.move rfl rfl ?_ | refine VR.assign rfl rfl ?_ | (show onLd; refine VR.load tok rfl rfl rfl (by first | rfl | exact (ldp_el (by assumption)).trans (by rfl)) ?_) | (show onIx; refine VR.indexAddr tok rfl rfl rfl rfl rfl rfl rfl (elA_lst (by assumption)) ?_) | refine VR.int rfl rfl rfl rfl ?_ | (refine VR.call fok72 rfl rfl rfl rfl ?_; refine v_putS _ u W G _ (fun b => ?_))))
    exact VJ.to 1 _ _ ih3 rfl ⟨vI_succ (by omega), by rfl, by rfl, by rfl, by rfl, by rfl, by rfl, by rfl, trivial⟩ (by repeat' first | exact trivial | refine ⟨rfl, ?_⟩) (by rfl)
   have hge : i = B.length := by simp at hb2; omega
   subst hge
   clear ih2 hb2
   rw [List.take_length]
   repeat' (first | refine VJ.inBlock ?_ | refine VJ.exit rfl ?_ | refine VJ.region_k fun K hK => ?_ | (refine VR.done (hK _ ?_); clear hK K) | (first | refine VR.move rfl rfl ?_ | refine VR.assign rfl rfl ?_ | refine VR.int rfl rfl rfl rfl ?_))
   exact VJ.to 1 _ _ ih' rfl ⟨vI_succ (by omega), by rfl, by rfl, by rfl, by rfl, by rfl, trivial⟩ (by repeat' first | exact trivial | refine ⟨rfl, ?_⟩) (by rfl)
 have hge : j = A.length := by simp at hb; omega
 subst hge
 clear ih hb
 rw [List.take_length]
 generalize A.foldl (cutS p) E1 = E3 at hq ⊢
 unfold addW at hq
 cases hf : W.find? (onInR p) with
 | none =>
   rw [hf] at hq
   repeat' (first | refine VJ.seq ?_ | refine VJ.skip ?_ | refine VJ.exit rfl ?_ | refine VJ.cond_f rfl ?_ | refine VJ.region_k fun K hK => ?_ | (refine VR.done (hK _ ?_); clear hK K) | (first | refine VR.move rfl rfl ?_ | refine VR.assign rfl rfl ?_ | (show onLd; refine VR.load tok rfl rfl rfl rfl ?_) | refine VR.alloc tok rfl rfl rfl ?_ | refine VR.store tok rfl rfl rfl rfl rfl rfl rfl (by first | (intro n e; cases e; done) | exact (fun _ _ q => all_glA (by rfl) q)) ?_ | refine VR.extract rfl rfl rfl ?_ | (refine VR.call fok81 rfl rfl rfl rfl ?_; refine v_onW W (by omega) p _ (G3W_wal E3 W G) _ ?_; rw [hf])))
   refine VJ.ret tok (by rfl) (by rfl) ?_
   exact hq
 | some w =>
   rw [hf] at hq
   dsimp only at hq
   have hw1 := len_eraseP_le (hitR w.a w.b) W
   have hw2 := insR_length (W.eraseP (hitR w.a w.b)) ⟨w.a, p, w.k⟩
   repeat' (first | refine VJ.seq ?_ | refine VJ.exit rfl ?_ | refine VJ.cond_t rfl ?_ | refine VJ.region_k fun K hK => ?_ | (refine VR.done (hK _ ?_); clear hK K) | (first | refine VR.move rfl rfl ?_ | refine VR.assign rfl rfl ?_ | (show onLd; refine VR.load tok rfl rfl rfl rfl ?_) | (show onFa; refine VR.fieldAddr tok rfl rfl rfl rfl rfl rfl ?_) | refine VR.alloc tok rfl rfl rfl ?_ | refine VR.store tok rfl rfl rfl rfl rfl rfl rfl (by first | (intro n e; cases e; done) | exact (fun _ _ q => all_glA (by rfl) q)) ?_ | refine VR.extract rfl rfl rfl ?_ | refine VR.buildX [_, _, _, _, _] tok rfl rfl rfl rfl rfl rfl ?_ | (refine VR.call fok81 rfl rfl rfl rfl ?_; refine v_onW W (by omega) p _ (G3W_wal E3 W G) _ ?_; rw [hf]) | (refine VR.call fok82 rfl rfl rfl rfl ?_; refine v_removeS E3 W (by omega) w.a w.b G _ (fun r => ?_))) | (refine VR.call fok50 rfl rfl rfl rfl ?_; refine (v_putWS E3 _ (by omega) ⟨w.a, p, w.k⟩ G _ ?_)) | (refine VR.call fok50 rfl rfl rfl rfl ?_; refine (v_putWS E3 _ (by omega) ⟨p, w.b, w.k⟩ G _ ?_)))
   refine VJ.ret tok (by rfl) (by rfl) ?_
   exact hq
end Go.Proofs.YtnpnjhopgedhkaaGreat
namespace Go.Proofs.YtnpnjhopgedhkaaGreat.V
open Go.RowKit
universe u
def awaited (l : List Oper) : Bool := (List.range (l.length - 1)).all fun j => (List.range l.length).any fun i => decide (j < i) && waits l i j
def lastOk (l : List Oper) (ps : List (Nat × Nat)) (nv : Nat) : Bool := nodupD l && nv == l.length && backOk l && awaited l && (List.range (l.length - 1)).all fun j => ps.contains (j, 0)
theorem tl_most (d : Array Bool) (t0 : List (Nat × AV)) (ol : Oper) (v : AV) : ∀ (l : List Oper) (vs : List AV) (i : Nat), vs.length = l.length → (∀ j, j < l.length → d.getD (i + j) false = true) → d.getD (i + l.length) false = false → tl d i (l ++ [ol]) (vs ++ [v]) t0 = tla l vs t0
 | [], [], i, _, _, h => by
   have h : d.getD i false = false := h
   simp only [List.nil_append, tl, tla, h]
   cases ol.dst <;> rfl
 | o :: l, w :: vs, i, hl, ha, h => by
   have ih := tl_most d t0 ol v l vs (i + 1) (by simpa using hl) (fun j hj => by rw [show i + 1 + j = i + (j + 1) by omega]; exact ha (j + 1) (by simpa using hj)) (by rw [show i + 1 + l.length = i + (l.length + 1) by omega]; exact h)
   have h0 := ha 0 (by simp)
   simp only [Nat.add_zero] at h0
   simp only [List.cons_append, tl, tla, h0, ih]
 | [], _ :: _, _, h, _, _ => by cases h
 | _ :: _, [], _, h, _, _ => by cases h
section
variable {P : Program} {E : Env} {fn : Func} {R : Ending → World → Prop} {k : List Item}
structure LInv (P : Program) (E : Env) (fn : Func) (R : Ending → World → Prop) (k : List Item) (l : List Oper) (m : Nat) (vs : List AV) (x : Hp) (t0 : List (Nat × AV)) (d : Array Bool) (a : Act) (w : World) : Prop where
 sz : d.size = l.length
 dc : ∀ j o, l[j]? = some o → d.getD j false = true → ∀ e ∈ o.after, Region.binds .any e = true → d.getD e.on false = true
 st : d.getD m false = false → ∃ h, Sim E h w a ⟨x.c, tl d 0 l vs t0, x.L, x.G⟩
 en : d.getD m false = true → (∀ j, j < l.length → d.getD j false = true) ∧ ∃ h s, Sim E h w a s ∧ VJ P E fn R k s
theorem VJ.drawLast {id : Nat} {l : List Oper} {c : Nat} {t0 : List (Nat × AV)} {L : List (Nat × VO)} {G : Nat → Option VO} (l0 : List Oper) (ol : Oper) (hl : l = l0 ++ [ol]) (ps : List (Nat × Nat)) (vs0 : List AV) (vl : AV) (hm : P.follows .mixedOrders = true)
 (hok : lastOk l ps (vs0.length + 1) = true) (hh : hops P E l [] (vs0 ++ [vl]) [⟨c, L, G⟩] t0 ps)
 (hj : VR P E l.toArray [ol] ⟨c, tla l0 vs0 t0, L, G⟩ (fun s => VJ P E fn R k s)) :
 VJ P E fn R (.code (.region id l.toArray true) :: k) ⟨c, t0, L, G⟩ := by
 unfold lastOk at hok
 simp only [Bool.and_eq_true, beq_iff_eq] at hok
 obtain ⟨⟨⟨⟨o1, o5⟩, o8⟩, o9⟩, o3⟩ := hok
 obtain ⟨m, hmm⟩ : ∃ m, m = l0.length := ⟨_, rfl⟩
 have hlen0 : l.length = m + 1 := by rw [hl, hmm]; simp
 have hv0 : vs0.length = m := by omega
 obtain ⟨vs, hvs⟩ : ∃ vs, vs = vs0 ++ [vl] := ⟨_, rfl⟩
 rw [← hvs] at hh
 have hlen : vs.length = l.length := by rw [hvs]; simp; omega
 have hlm : l[m]? = some ol := by rw [hl, hmm]; simp
 refine VJ.of_wp fun hd w a H => wp_region_any hm (wpAny_inv (LInv P E fn R k l m vs ⟨c, L, G⟩ t0) ?_ ?_ (fun d a w h => by simpa using h.sz) _ _ _ _ ?_ (Nat.le_trans (List.length_filter_le _ _) (by simp)))
 ·-- a step
  intro d a w j hi hjr
  obtain ⟨hun, o, ho, hall⟩ := mem_ready.1 hjr
  have ho' : l[j]? = some o := by simpa using ho
  have hjl : j < l.length := (List.getElem?_eq_some_iff.1 ho').1
  have hdj : j < d.size := by rw [hi.sz]; exact hjl
  have hun' : d.getD j false = false := by simpa [hdj] using hun
  have hml : d.getD m false = false := by
   cases hc : d.getD m false with
   | false => rfl
   | true => have := (hi.en hc).1 j hjl; rw [hun'] at this; cases this
  obtain ⟨h, HS⟩ := hi.st hml
  have hvj : j < vs.length := by omega
  have hsz' : (d.setIfInBounds j true).size = l.length := by simpa using hi.sz
  have hdc' : ∀ i p, l[i]? = some p → (d.setIfInBounds j true).getD i false = true → ∀ e ∈ p.after, Region.binds .any e = true → (d.setIfInBounds j true).getD e.on false = true := by
   intro i p hp hdi e he hb
   by_cases hij : i = j
   ·subst hij
    rw [ho'] at hp; cases hp
    exact getD_set_true (hall e he hb)
   ·rw [getD_set_ne false (Ne.symm hij)] at hdi
    exact getD_set_true (hi.dc i p hp hdi e he hb)
  by_cases hjm : j = m
  ·-- the last
   subst hjm
   rw [hlm] at ho'
   cases ho'
   have hdone : ∀ n i, i + n = j → d.getD i false = true ∨ i = j := by
    intro n
    induction n using Nat.strongRecOn with
    | ind n ih =>
      intro i hin
      rcases Nat.eq_zero_or_pos n with h0 | hp
      ·exact .inr (by omega)
      ·have h9 := List.all_eq_true.1 o9 i (by rw [List.mem_range]; omega)
       obtain ⟨i', hi', h10⟩ := List.any_eq_true.1 h9
       rw [List.mem_range] at hi'
       simp only [Bool.and_eq_true, decide_eq_true_eq] at h10
       obtain ⟨p, hp', e, he, hb, hon⟩ := waits_spec h10.2
       rcases ih (j - i') (by omega) i' (by omega) with h11 | h11
       ·have := hi.dc i' p hp' h11 e he hb
        rw [hon] at this
        exact .inl this
       ·subst h11
        rw [hlm] at hp'
        cases hp'
        have := hall e he hb
        rw [hon] at this
        exact .inl (by simpa using this)
   have hall1 : ∀ i, i < l0.length → d.getD (0 + i) false = true := fun i hil => by
    simp only [Nat.zero_add]
    rcases hdone (j - i) i (by omega) with h1 | h1
    ·exact h1
    ·omega
   have htl : tl d 0 l vs t0 = tla l0 vs0 t0 := by
    rw [hl, hvs]
    exact tl_most d t0 ol vl l0 vs0 0 (by omega) hall1 (by simp only [Nat.zero_add]; rw [← hmm]; exact hml)
   rw [htl] at HS
   have hrun := hj h w a HS
   have post : ∀ a' w', QK E (fun s => VJ P E fn R k s) .normal a' w' → LInv P E fn R k l j vs ⟨c, L, G⟩ t0 (d.setIfInBounds j true) a' w' := by
    rintro a' w' ⟨_, h', s', H', hv⟩
    refine ⟨hsz', hdc', fun hf => ?_, fun _ => ⟨fun i hil => ?_, h', s', H', hv⟩⟩
    ·rw [getD_set_self hdj] at hf; cases hf
    ·by_cases hij : i = j
     ·subst hij; exact getD_set_self hdj
     ·rw [getD_set_ne false (Ne.symm hij)]
      have := hall1 i (by omega)
      simpa using this
   unfold wpOp
   simp only [ho]
   unfold wpList at hrun
   split
   ·rename_i hw
    rw [if_pos hw] at hrun
    rcases hrun with h1 | ⟨_, a0, w0, e, _⟩
    ·refine .inl ?_
     have h3 := Oper.wp_q (Q' := QK E fun s' => VJ P E fn R k s') h1 (fun _ _ _ h => by cases h.1) (fun ⟨_, _, h⟩ => by cases h.1)
     exact Oper.wp_mono (fun a' w' hh => post a' w' hh) h3
    ·cases e
   ·rename_i hw
    rw [if_neg hw] at hrun
    exact post _ _ hrun
  have hjlt : j < m := by omega
  have hps : (j, 0) ∈ ps := by
   have := List.all_eq_true.1 o3 j (by rw [List.mem_range]; omega)
   simpa using this
  have hop1 := hops_mem ps hh _ hps
  unfold hop at hop1
  have hc0 : ([] : List Nat).contains j = false := rfl
  simp only [ho', List.getElem?_eq_getElem hvj, hc0, List.getElem?_cons_zero, Bool.false_eq_true, if_false] at hop1
  have hopv : ∀ r v, opv l vs t0 j r = some v → lk (tl d 0 l vs t0) r = some v := by
   intro r v hv
   unfold opv at hv
   split at hv
   ·rename_i hmk
    rw [(lk_tl d t0 l vs 0 r hlen).2]
    ·exact hv
    ·intro q p hq hr
     exact absurd hr (maker_none l 0 r hmk p (List.mem_of_getElem? hq))
   ·rename_i i hmk
    obtain ⟨_, p, hp, hr⟩ := maker_some l 0 r i hmk
    simp only [Nat.sub_zero] at hp
    split at hv
    ·rename_i hw
     obtain ⟨o'', ho'', e, he, hb, hon⟩ := waits_spec hw
     rw [ho'] at ho''; cases ho''
     have := hall e he hb
     rw [hon] at this
     rw [(lk_tl d t0 l vs 0 r hlen).1 i p hp hr (by simpa using this) o1]
     exact hv
    ·split at hv
     ·rename_i hw
      obtain ⟨o'', ho'', e, he, hb, hon⟩ := waits_spec hw
      rw [(lk_tl d t0 l vs 0 r hlen).2]
      ·exact hv
      ·intro q p' hq hr'
       have : q = i := nodupD_spec l o1 q i p' p r hq hp hr' hr
       subst this
       cases hdq : d.getD (0 + q) false with
       | false => rfl
       | true =>
         simp only [Nat.zero_add] at hdq
         have := hi.dc q o'' ho'' hdq e he hb
         rw [hon, hun'] at this; cases this
     ·cases hv
  have HS' : Sim E h w a ⟨c, ttl l vs t0 j (tmpsG l o) ++ tl d 0 l vs t0, L, G⟩ := HS.weak fun i v hi => by
   rw [lk_append] at hi
   split at hi
   ·rename_i u e; cases hi; exact hopv i _ (lk_ttl l vs t0 j _ i _ e)
   ·exact hi
  have hrun := hop1 (tl d 0 l vs t0) (fun s' => s' = ⟨c, (match o.dst with | some d' => (d', vs[j]) :: (ttl l vs t0 j (tmpsG l o) ++ tl d 0 l vs t0) | none => ttl l vs t0 j (tmpsG l o) ++ tl d 0 l vs t0), L, G⟩) rfl h w a HS'
  have post : ∀ a' w', QK E (fun s' => s' = ⟨c, (match o.dst with | some d' => (d', vs[j]) :: (ttl l vs t0 j (tmpsG l o) ++ tl d 0 l vs t0) | none => ttl l vs t0 j (tmpsG l o) ++ tl d 0 l vs t0), L, G⟩) .normal a' w' → LInv P E fn R k l m vs ⟨c, L, G⟩ t0 (d.setIfInBounds j true) a' w' := by
   rintro a' w' ⟨_, h', s', H', rfl⟩
   refine ⟨hsz', hdc', fun _ => ⟨h', H'.weak fun i v hi2 => ?_⟩, fun hf => ?_⟩
   ·have hset : ∀ r, lk (tl (d.setIfInBounds j true) 0 l vs t0) r = if o.dst = some r then vs[j]? else lk (tl d 0 l vs t0) r := by
     intro r
     split
     ·rename_i hor
      exact (lk_tl (d.setIfInBounds j true) t0 l vs 0 r hlen).1 j o ho' hor (by simpa using getD_set_self hdj) o1
     ·rename_i hor
      cases hmk : maker l 0 r with
      | none =>
        have hno := maker_none l 0 r hmk
        rw [(lk_tl _ t0 l vs 0 r hlen).2 (fun q p hq hr => absurd hr (hno p (List.mem_of_getElem? hq))), (lk_tl d t0 l vs 0 r hlen).2 (fun q p hq hr => absurd hr (hno p (List.mem_of_getElem? hq)))]
      | some i' =>
        obtain ⟨_, p, hp, hr⟩ := maker_some l 0 r i' hmk
        simp only [Nat.sub_zero] at hp
        have hne : j ≠ i' := fun e => by subst e; rw [ho'] at hp; cases hp; exact hor hr
        have hsame : (d.setIfInBounds j true).getD (0 + i') false = d.getD (0 + i') false := by
         simp only [Nat.zero_add]; exact getD_set_ne false hne
        cases hdi : d.getD (0 + i') false with
        | true => rw [(lk_tl _ t0 l vs 0 r hlen).1 i' p hp hr (hsame.trans hdi) o1, (lk_tl d t0 l vs 0 r hlen).1 i' p hp hr hdi o1]
        | false =>
          have uni : ∀ (q : Nat) (p' : Oper), l[q]? = some p' → p'.dst = some r → q = i' := fun q p' hq hr' => nodupD_spec l o1 q i' p' p r hq hp hr' hr
          rw [(lk_tl _ t0 l vs 0 r hlen).2 (fun q p' hq hr' => by rw [uni q p' hq hr']; exact hsame.trans hdi), (lk_tl d t0 l vs 0 r hlen).2 (fun q p' hq hr' => by rw [uni q p' hq hr']; exact hdi)]
    rw [hset] at hi2
    have inner : ∀ v, lk (tl d 0 l vs t0) i = some v → lk (ttl l vs t0 j (tmpsG l o) ++ tl d 0 l vs t0) i = some v := by
     intro v hv
     rw [lk_append]
     cases e : lk (ttl l vs t0 j (tmpsG l o)) i with
     | none => exact hv
     | some u =>
       have := hopv i u (lk_ttl l vs t0 j _ i u e)
       rw [hv] at this
       simpa using this.symm
    cases hod : o.dst with
    | none =>
      rw [hod] at hi2
      simp only [reduceCtorEq, if_false] at hi2
      exact inner v hi2
    | some d' =>
      rw [hod] at hi2
      simp only [Option.some.injEq] at hi2
      simp only [lk]
      split at hi2
      ·rename_i e; rw [if_pos e.symm]; rw [List.getElem?_eq_getElem hvj] at hi2; exact hi2
      ·rename_i e; rw [if_neg (fun e2 => e e2.symm)]; exact inner v hi2
   ·rw [getD_set_ne false hjm] at hf
    rw [hml] at hf; cases hf
  unfold wpOp
  simp only [ho]
  unfold wpList at hrun
  split
  ·rename_i hw
   rw [if_pos hw] at hrun
   rcases hrun with h1 | ⟨_, a0, w0, e, _⟩
   ·refine .inl ?_
    have h3 := Oper.wp_q (Q' := QK E fun s' => VJ P E fn R k s') h1 (fun _ _ _ h => by cases h.1) (fun ⟨_, _, h⟩ => by cases h.1)
    exact Oper.wp_mono (fun a' w' hh => post a' w' hh) h3
   ·cases e
  ·rename_i hw
   rw [if_neg hw] at hrun
   exact post _ _ hrun
 ·-- the end
  intro d a w hi hr
  have hall0 : ∀ n j, j < n → j < l.length → d.getD j false = true := by
   intro n
   induction n with
   | zero => intro j h; exact absurd h (Nat.not_lt_zero _)
   | succ n ih =>
     intro j hjm hj
     cases hc : d.getD j false with
     | true => rfl
     | false =>
       exfalso
       have hjd : j < d.size := by rw [hi.sz]; exact hj
       have : j ∈ Region.ready .any l.toArray d := by
        refine mem_ready.2 ⟨by simpa [hjd] using hc, l[j], by simp [hj], fun e he hb => ?_⟩
        have h8 := List.all_eq_true.1 o8 j (by simpa using hj)
        rw [List.getElem?_eq_getElem hj] at h8
        have h9 := Array.all_eq_true_iff_forall_mem.1 h8 e he
        rw [hb] at h9
        have h10 : e.on < j := by simpa using h9
        exact ih e.on (by omega) (by omega)
       rw [hr] at this
       cases this
  obtain ⟨_, h, s, HS, hv⟩ := hi.en (hall0 (m + 1) m (Nat.lt_succ_self _) (by omega))
  exact ⟨rfl, h, s, HS, hv⟩
 ·-- the start
  refine ⟨by simp, fun j o ho hd => ?_, fun _ => ⟨hd, ?_⟩, fun hf => ?_⟩
  ·exfalso
   by_cases hj : j < l.length <;> simp [hj] at hd
  ·have e0 : ∀ (l : List Oper) (vs : List AV) (i : Nat) (d : Array Bool), (∀ j, d.getD j false = false) → tl d i l vs t0 = t0 := by
    intro l
    induction l with
    | nil => intro vs i d _; cases vs <;> rfl
    | cons o l ih =>
      intro vs i d hd
      cases vs with
      | nil => rfl
      | cons v vs =>
        simp only [tl, hd, ih vs (i + 1) d hd]
        split <;> rfl
   rw [e0]
   ·exact H.draws rfl rfl rfl rfl
   ·intro j
    by_cases hj : j < l.length <;> simp [hj]
  ·exfalso
   by_cases hj : m < l.length <;> simp [hj] at hf
theorem VJ.drawLast3 {id : Nat} {l : List Oper} {c : Nat} {t0 : List (Nat × AV)} {L : List (Nat × VO)} {G : Nat → Option VO} (l0 : List Oper) (ol : Oper) (ps : List (Nat × Nat)) (tt : TT) (ts : TS) (vs0 : List AV) (vl : AV) (hl : l = l0 ++ [ol]) (hm : P.follows .mixedOrders = true)
 (hok : (lastOk l ps (vs0.length + 1) && ttOk l tt) = true) (hts : tt.map (ttl2 (vs0 ++ [vl]) t0) = ts) (hh : hops3 P E l [] (vs0 ++ [vl]) [⟨c, L, G⟩] ts ps)
 (hj : VR P E l.toArray [ol] ⟨c, tla l0 vs0 t0, L, G⟩ (fun s => VJ P E fn R k s)) :
 VJ P E fn R (.code (.region id l.toArray true) :: k) ⟨c, t0, L, G⟩ := by
 rw [Bool.and_eq_true] at hok
 exact VJ.drawLast l0 ol hl ps vs0 vl hm hok.1 (hops_of hok.2 ps (hops2_of hts ps hh)) hj
end
end Go.Proofs.YtnpnjhopgedhkaaGreat.V
namespace Go.Proofs.YtnpnjhopgedhkaaGreat
open Go.RowKit V Geo
def sqV (w h : Int) : Value := .agg #[.int .i64 0, .int .i64 0, .int .i64 w, .int .i64 0, .int .i64 w, .int .i64 h, .int .i64 0, .int .i64 h]
abbrev bxC (w h : Int) : VO := .box [.d (.v (.int .i64 w)), .d (.v (.int .i64 h)), .ptr (.g 3) 0, .ptr (.g 5) 0]
abbrev vC : AV := .a (.ptr (.g 6) 0)
abbrev GC (w h : Int) (E : LS) (W : List Wl) (G : Gl) : Gl := gov [(3, bxN), (4, mL E none), (5, bxR W), (6, bxC w h)] G
attribute [local irreducible] VR VJ VC decOk decBt
theorem v_square (w h : Int) (G : Gl) (Q : Po) (hQ : Q (vV (sqV w h)) G) : VC Tryz.prog 46 [vI w, vI h] G Q := by
 refine VC.of_body Tryz.func46 rfl rfl rfl fun W0 h0 x0 hG0 => ?_
 simp only [args0]
 repeat' (first | refine VJ.seq ?_ | refine VJ.region_k fun K hK => ?_ | (refine VR.done (hK _ ?_); clear hK K) | (first | refine VR.move rfl rfl ?_ | refine VR.alloc tok rfl rfl rfl ?_ | refine VR.store tok rfl rfl rfl rfl rfl rfl rfl (by (intro n e; cases e; done)) ?_ | refine VR.buildL (n := 1) [_, _] tok rfl rfl rfl rfl rfl rfl rfl rfl ?_ | (refine VR.buildArr (r := #[.int .i64 0, .int .i64 0, .int .i64 w, .int .i64 0, .int .i64 w, .int .i64 h, .int .i64 0, .int .i64 h]) tok rfl (arrOk (by rfl)) rfl rfl rfl rfl ?_)))
 refine VJ.ret tok (by rfl) (by rfl) ?_
 exact hQ
theorem GC_3 (w h : Int) (E E' : LS) (W W' : List Wl) (G : Gl) : G3W E' W' (GC w h E W G) = GC w h E' W' G := by
 funext n
 by_cases h4 : n = 4
 ·subst h4; rfl
 by_cases h3 : n = 3
 ·subst h3; rfl
 by_cases h5 : n = 5
 ·subst h5; rfl
 by_cases h6 : n = 6
 ·subst h6; rfl
 ·simp [gov, lk, h3, h4, h5, h6]
theorem GC_4 (w h : Int) (E E' : LS) (W : List Wl) (G : Gl) : gset (GC w h E W G) 4 (mL E' none) = GC w h E' W G := by
 funext n
 by_cases h4 : n = 4
 ·subst h4; rfl
 by_cases h3 : n = 3
 ·subst h3; rfl
 by_cases h5 : n = 5
 ·subst h5; rfl
 by_cases h6 : n = 6
 ·subst h6; rfl
 ·simp [gset, gov, lk, h3, h4, h5, h6]
theorem GC_5 (w h : Int) (E : LS) (W W' : List Wl) (G : Gl) : gset (GC w h E W G) 5 (bxR W') = GC w h E W' G := by
 funext n
 by_cases h4 : n = 4
 ·subst h4; rfl
 by_cases h3 : n = 3
 ·subst h3; rfl
 by_cases h5 : n = 5
 ·subst h5; rfl
 by_cases h6 : n = 6
 ·subst h6; rfl
 ·simp [gset, gov, lk, h3, h4, h5, h6]
theorem addW_len (W : List Wl) (p : Pt) : (addW W p).length ≤ W.length + 2 := by
 unfold addW
 cases W.find? (onInR p) with
 | none => dsimp only; omega
 | some w =>
   dsimp only
   have := len_eraseP_le (hitR w.a w.b) W
   rw [insR_length, insR_length]
   omega
theorem v_repairC (Inv : LS → Prop) (w h : Int) (W : List Wl) (fewW : W.length < 1000000) (K : Keeps W Inv) (E : LS) (hE : Inv E) (G : Gl) (h7 : G 7 = none) (Q : Po) (hQ : ∀ E', Inv E' → Q (.tup []) (GC w h E' W G)) : VC Tryz.prog 51 [vN, vWl] (GC w h E W G) Q :=
 v_repair Inv W fewW K E hE (GC w h E W G) ⟨rfl, ⟨none, rfl⟩⟩ rfl h7 Q (fun E' hE' => by rw [GC_4]; exact hQ E' hE')
theorem Keeps.few {W : List Wl} {Inv : LS → Prop} (K : Keeps W Inv) {E : LS} (h : Inv E) : E.length < 100000 := by
 obtain ⟨m, l, hm, hs⟩ := K.sq E h
 have h1 := hs.mo.len
 have h2 := hs.few
 omega
set_option maxRecDepth 20000 in
set_option maxHeartbeats 4000000 in
theorem v_cdtAdd (Inv Inv2 : LS → Prop) (K : ∀ W, Keeps W Inv) (K2 : ∀ W, Keeps W Inv2) (w h : Int) (E : LS) (hE : Inv E) (W : List Wl) (fewW : W.length < 800000) (p : Pt) (hN : atL E p = [] → Inv2 E) (hS : starL E p ≠ [] → Inv2 E) (hA : atL E p ≠ [] → starL E p = [] → Inv2 (addE E p)) (G : Gl) (h7 : G 7 = none) (Q : Po)
 (hQ : ∀ r E' W', Inv2 E' → W'.length ≤ W.length + 2 → Q (vI r) (GC w h E' W' G)) : VC Tryz.prog 26 [vC, vV (ptV p)] (GC w h E W G) Q := by
 refine VC.of_body Tryz.func26 rfl rfl rfl fun W0 h0 x0 hG0 => ?_
 simp only [args0]
 have few := (K W).few hE
 have hRG : RefG (GC w h E W G) E := ⟨rfl, ⟨none, rfl⟩⟩
 have hWG : WalG (GC w h E W G) W := rfl
 have hW1 : W.length < 900000 := by omega
 by_cases h1 : atL E p = []
 ·have hq := hQ 1 E W (hN h1) (by omega)
  repeat' (first | refine VJ.seq ?_ | refine VJ.region_k fun K hK => ?_ | (refine VR.done (hK _ ?_); clear hK K) | (first | refine VR.assign rfl rfl ?_ | refine VR.box rfl rfl rfl ?_))
  apply VJ.draw3 [] [(0, 0), (1, 0), (2, 0), (3, 0), (4, 0), (5, 0), (6, 0), (7, 0), (8, 0), (9, 0), (10, 0)] [[(0, none)], [(6, some 0)], [(7, some 1)], [(8, some 2)], [(0, none)], [(10, some 4)], [(11, some 5)], [(12, some 6)], [(3, none)], [(9, some 3), (13, some 7), (14, some 8)], [(15, some 9)]] [[(0, _)], [(6, _)], [(7, _)], [(8, _)], [(0, _)], [(10, _)], [(11, _)], [(12, _)], [(3, _)], [(9, _), (13, _), (14, _)], [(15, _)]] [_, _, _, _, _, _, _, _, _, _, _] [⟨_, _, _⟩] (by kernel_rfl) ?hok rfl ?hh rfl rfl ?hj
  case hh =>
   refine ⟨?_, ?_, ?_, ?_, ?_, ?_, ?_, ?_, ?_, ?_, ?_, trivial⟩
   all_goals (intro rest K1 hK1; (repeat (first | exact VR.done hK1 | (first | refine VR.move rfl rfl ?_ | refine VR.assign rfl rfl ?_ | (show onLd; refine VR.load tok rfl rfl rfl rfl ?_) | (show onFa; refine VR.fieldAddr tok rfl rfl rfl rfl rfl rfl ?_) | refine VR.nilCheck rfl rfl rfl ?_ | (refine VR.call fok52 rfl rfl rfl rfl ?_; refine v_addP E few W hW1 p _ hRG hWG _ (fun _ => ?_) (fun h => absurd h1 h) (fun h => absurd h1 h))))); try (first | exact VR.done hK1 | (refine VR.done ?_; dsimp only [S.set]; exact hK1)))
  case hok => kernel_rfl
  case hj =>
   dsimp only [List.append, tla]
   repeat' (first | refine VJ.seq ?_ | refine VJ.skip ?_ | refine VJ.cond_f rfl ?_ | refine VJ.region_k fun K hK => ?_ | (refine VR.done (hK _ ?_); clear hK K) | (first | refine VR.move rfl rfl ?_ | refine VR.assign rfl rfl ?_ | refine VR.int rfl rfl rfl rfl ?_))
   refine VJ.ret tok (by rfl) (by rfl) ?_
   exact hq
 by_cases h2 : starL E p = []
 ·have hI := hA h1 h2
  have hwl := addW_len W p
  have hW2 : (addW W p).length < 1000000 := by omega
  repeat' (first | refine VJ.seq ?_ | refine VJ.region_k fun K hK => ?_ | (refine VR.done (hK _ ?_); clear hK K) | (first | refine VR.assign rfl rfl ?_ | refine VR.box rfl rfl rfl ?_))
  apply VJ.draw3 [9] [(0, 0), (1, 0), (2, 0), (3, 0), (4, 0), (5, 0), (6, 0), (7, 0), (8, 0), (9, 0), (10, 1), (0, 1), (1, 1), (2, 1), (4, 1), (5, 1), (6, 1)] [[(0, none)], [(6, some 0)], [(7, some 1)], [(8, some 2)], [(0, none)], [(10, some 4)], [(11, some 5)], [(12, some 6)], [(3, none)], [(9, some 3), (13, some 7), (14, some 8)], [(15, some 9)]] [[(0, _)], [(6, _)], [(7, _)], [(8, _)], [(0, _)], [(10, _)], [(11, _)], [(12, _)], [(3, _)], [(9, _), (13, _), (14, _)], [(15, _)]] [_, _, _, _, _, _, _, _, _, _, _] [⟨_, _, _⟩, ⟨_, _, _⟩] (by kernel_rfl) ?hok rfl ?hh rfl rfl ?hj
  case hh =>
   refine ⟨?_, ?_, ?_, ?_, ?_, ?_, ?_, ?_, ?_, ?_, ?_, ?_, ?_, ?_, ?_, ?_, ?_, trivial⟩
   all_goals (intro rest K1 hK1; (repeat (first | exact VR.done hK1 | (first | refine VR.move rfl rfl ?_ | refine VR.assign rfl rfl ?_ | (show onLd; refine VR.load tok rfl rfl rfl rfl ?_) | (show onFa; refine VR.fieldAddr tok rfl rfl rfl rfl rfl rfl ?_) | refine VR.nilCheck rfl rfl rfl ?_ | (refine VR.call fok52 rfl rfl rfl rfl ?_; refine v_addP E few W hW1 p _ hRG hWG _ (fun h => absurd h h1) (fun _ h => absurd h2 h) (fun _ _ => ?_); rw [GC_3])))); try (first | exact VR.done hK1 | (refine VR.done ?_; dsimp only [S.set]; exact hK1)))
  case hok => kernel_rfl
  case hj =>
   dsimp only [List.append, tla]
   repeat' (first | refine VJ.seq ?_ | refine VJ.cond_t rfl ?_ | refine VJ.region_k fun K hK => ?_ | (refine VR.done (hK _ ?_); clear hK K) | (first | refine VR.move rfl rfl ?_ | refine VR.int rfl rfl rfl rfl ?_))
   apply VJ.drawLast3 [_, _, _, _, _, _, _, _] _ [(0, 0), (1, 0), (2, 0), (3, 0), (4, 0), (5, 0), (6, 0), (7, 0)] [[(0, none)], [(18, some 0)], [(19, some 1)], [(20, some 2)], [(0, none)], [(22, some 4)], [(23, some 5)], [(24, some 6)], [(21, some 3), (25, some 7)]] [[(0, _)], [(18, _)], [(19, _)], [(20, _)], [(0, _)], [(22, _)], [(23, _)], [(24, _)], [(21, _), (25, _)]] [_, _, _, _, _, _, _, _] (.a .top) rfl (by kernel_rfl) ?hok rfl ?hh ?hj
   case hh =>
    refine ⟨?_, ?_, ?_, ?_, ?_, ?_, ?_, ?_, trivial⟩
    all_goals (intro rest K1 hK1; (repeat (first | exact VR.done hK1 | (first | refine VR.move rfl rfl ?_ | (show onLd; refine VR.load tok rfl rfl rfl rfl ?_) | (show onFa; refine VR.fieldAddr tok rfl rfl rfl rfl rfl rfl ?_) | refine VR.nilCheck rfl rfl rfl ?_))); try (first | exact VR.done hK1 | (refine VR.done ?_; dsimp only [S.set]; exact hK1)))
   case hok => kernel_rfl
   case hj =>
    dsimp only [List.append, tla]
    refine VR.call fok51 rfl rfl rfl rfl ?_
    refine v_repairC Inv2 w h (addW W p) hW2 (K2 _) (addE E p) hI G h7 _ (fun E' hE' => ?_)
    have hq := hQ 0 E' (addW W p) hE' hwl
    refine VR.done ?_
    repeat' (first | refine VJ.seq ?_ | refine VJ.region_k fun K hK => ?_ | (refine VR.done (hK _ ?_); clear hK K) | (first | refine VR.move rfl rfl ?_ | refine VR.assign rfl rfl ?_))
    refine VJ.ret tok (by rfl) (by rfl) ?_
    exact hq
 ·have hq := hQ 5 E W (hS h2) (by omega)
  repeat' (first | refine VJ.seq ?_ | refine VJ.region_k fun K hK => ?_ | (refine VR.done (hK _ ?_); clear hK K) | (first | refine VR.assign rfl rfl ?_ | refine VR.box rfl rfl rfl ?_))
  apply VJ.draw3 [] [(0, 0), (1, 0), (2, 0), (3, 0), (4, 0), (5, 0), (6, 0), (7, 0), (8, 0), (9, 0), (10, 0)] [[(0, none)], [(6, some 0)], [(7, some 1)], [(8, some 2)], [(0, none)], [(10, some 4)], [(11, some 5)], [(12, some 6)], [(3, none)], [(9, some 3), (13, some 7), (14, some 8)], [(15, some 9)]] [[(0, _)], [(6, _)], [(7, _)], [(8, _)], [(0, _)], [(10, _)], [(11, _)], [(12, _)], [(3, _)], [(9, _), (13, _), (14, _)], [(15, _)]] [_, _, _, _, _, _, _, _, _, _, _] [⟨_, _, _⟩] (by kernel_rfl) ?hok rfl ?hh rfl rfl ?hj
  case hh =>
   refine ⟨?_, ?_, ?_, ?_, ?_, ?_, ?_, ?_, ?_, ?_, ?_, trivial⟩
   all_goals (intro rest K1 hK1; (repeat (first | exact VR.done hK1 | (first | refine VR.move rfl rfl ?_ | refine VR.assign rfl rfl ?_ | (show onLd; refine VR.load tok rfl rfl rfl rfl ?_) | (show onFa; refine VR.fieldAddr tok rfl rfl rfl rfl rfl rfl ?_) | refine VR.nilCheck rfl rfl rfl ?_ | (refine VR.call fok52 rfl rfl rfl rfl ?_; refine v_addP E few W hW1 p _ hRG hWG _ (fun h => absurd h h1) (fun _ _ => ?_) (fun _ h => absurd h h2))))); try (first | exact VR.done hK1 | (refine VR.done ?_; dsimp only [S.set]; exact hK1)))
  case hok => kernel_rfl
  case hj =>
   dsimp only [List.append, tla]
   repeat' (first | refine VJ.seq ?_ | refine VJ.skip ?_ | refine VJ.cond_f rfl ?_ | refine VJ.region_k fun K hK => ?_ | (refine VR.done (hK _ ?_); clear hK K) | (first | refine VR.move rfl rfl ?_ | refine VR.assign rfl rfl ?_ | refine VR.int rfl rfl rfl rfl ?_))
   refine VJ.ret tok (by rfl) (by rfl) ?_
   exact hq
end Go.Proofs.YtnpnjhopgedhkaaGreat
